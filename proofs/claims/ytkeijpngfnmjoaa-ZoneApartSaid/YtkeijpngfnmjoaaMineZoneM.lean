/- Zones: taking a zone out of the program's row; a zone that is removed. Conditions: the list is short and orderly. -/
import Derived.Test.YtkeijpngfnmjoaaMineZoneKB
namespace Go.Proofs.Ytkeijpngfnmjoaa.MineZone
open Go.Lib Go.Shelf Go.RowKit Go.MapKept Go.Proofs.YtkeijpngfnmjoaaW.PrintWords Go.Proofs.YtkeijpngfnmjoaaW.PrintLast Go.Proofs.YtkeijpngfnmjoaaW.PrintMore Go.Proofs.Ytkeijpngfnmjoaa.MineBase Go.Proofs.Ytkeijpngfnmjoaa.MineSep Go.Proofs.Ytkeijpngfnmjoaa.MineRows Go.Proofs.Ytkeijpngfnmjoaa.MineGen Go.Proofs.Ytkeijpngfnmjoaa.QZonePlays Go.Proofs.Ytkeijpngfnmjoaa.MineMap
attribute [local go_sem ↓] Go.wp_at_zero Go.wp_at_succ
set_option linter.unusedVariables false
set_option linter.unusedSimpArgs false
set_option maxHeartbeats 1000000 in
set_option maxRecDepth 100000 in
theorem Delete_calls {base g2 n c k : Nat} {ok : Nat → Prop} {ms : List S82} {w : World} (HO : Kd.N k82 75 w base ok (.slice (some ⟨g2, 0, none⟩) n c) ms) (hk : k < n) (hn : n ≤ 1000) (hb : base ≤ w.heap.size) :
    Calls Try.prog 75 #[.slice (some ⟨g2, 0, none⟩) n c, .int .i64 k, .int .i64 (k + 1)] w fun e w' => e = .returned (.slice (some ⟨g2, 0, none⟩) (n - 1 : Nat) c) ∧ Kd.N k82 75 w' base ok (.slice (some ⟨g2, 0, none⟩) (n - 1) c) (ms.eraseIdx k) ∧ w.grownBy w' (some g2) := by
  obtain ⟨n', rfl⟩ : ∃ n', n = n' + 1 := ⟨n - 1, by omega⟩
  obtain ⟨hl, hc, hC⟩ := Kd.N_reads' HO
  clear hC
  replace HO := Aside0.mk HO
  have HL := Aside0.mk hl
  have HB := Aside0.mk hb
  have HK := Aside0.mk hk
  have HN := Aside0.mk hc
  have p1 : (k : Int) < (n' + 1 : Nat) := by omega
  have p2 : (k : Int) + 1 ≤ (n' + 1 : Nat) := by omega
  have p3 : n' + 1 ≤ c := hc
  have p4 : ((n' + 1 : Nat) : Int) ≤ 1000 := by omega
  have p5 : 0 ≤ (k : Int) := by omega
  have p6 : (k ≤ c) = True := eq_true (by omega)
  have p7 : 0 ≤ (k : Int) + 1 := by omega
  have q1 : (k : Int) < n' + 1 := by omega
  have q2 : (k : Int) ≤ n' := by omega
  have q3 : (n' : Int) + 1 ≤ 1000 := by omega
  have q4 : ¬ (c = n') := by omega
  have q5 : (n' : Int) + 1 ≤ c := by omega
  clear hl hb hk hc hn
  go_enter Try.func75, Try.ntmps75
  go_wp2_with fail
  go_region_law ((refine Kd.N_delete_step k82 (w0 := w.drew) base (by rfl) (.tmp 22) (.tmp 25) 90 75 rfl Try.underlying90 info75s (g := g2) (n := n' + 1) (c := c) (k := k) (xs := ms) (ok := ok) rfl rfl (by simp [show k82.sz = 6 from rfl, Addr.add]) (by omega) (Kd.N_drew HO.out) HK.out (Below.refl _ _) HB.out (fun w1 hN hB hG => ?_)); have HN1 := Aside0.mk hN; have HG1 := Aside0.mk hG; clear hN hB hG)
  obtain ⟨w2, hrun, hN2, hG2⟩ := clear_tail (P := Try.prog) (m := 1) (t := 90) (ty := 0) (show Kd.N k82 75 w1 base ok (.slice (some ⟨g2, 0, none⟩) n' c) (ms.eraseIdx k) from HN1.out) (by decide) (by have := HN.out; omega) (by decide) Try.underlying90 zero75 (by rfl) one75 (c - n')
  have HN2 := Aside0.mk hN2
  have HG2 := Aside0.mk hG2
  clear hN2 hG2
  replace hrun : (Builtin.clear_ #[90] 0 #[.slice (some ⟨g2, n' * 6, none⟩) 1 (c - n')]).run Try.prog w1 = .ok (.tuple #[]) w2 := hrun
  go_wp2_with fail
  all_goals (
    try (subst h)
    go_ret
    exact ⟨by rfl, HN2.out, grown2 (drew_grown HG1.out) HG2.out⟩)
set_option maxHeartbeats 4000000 in
set_option maxRecDepth 100000 in
theorem Remove_at {w0 w : World} {l : List Asn} {z m k : Nat} {v : Value} {zs : List S82} {y : S82} {F : List (Int × Value)} (h : Sat w0 w (ABlk z (.cells #[v, .map (some m)] 133 (0, 0)) :: ARowN k82 75 w0.heap.size (v) (zs) :: AMapF m F :: l)) (hfew : zs.length ≤ 900) (hn4 : y.f4.length ≤ 100) (hn5 : y.f5.length ≤ 100)
    (hk : zs[k]? = some y) (hidx : idxP (fun x : S82 => x.f0 == y.f0) zs = k) :
    Calls Try.prog 37 #[.pointer (some ⟨z, 0, none⟩), .int .i64 y.f0] w fun e w' => e = .returned (.bool true) ∧ ∃ v', Sat w0 w' (ABlk z (.cells #[v', .map (some m)] 133 (0, 0)) :: ARowN k82 75 w0.heap.size (v') (zs.eraseIdx k) :: AMapF m (delAll F (y.f4 ++ y.f5)) :: l) := by
  obtain ⟨L, hL⟩ : ∃ L, y.f4 ++ y.f5 = L := ⟨_, rfl⟩
  rw [hL]
  have HF := Aside0.mk hfew
  have HN4 := Aside0.mk hn4
  have HN5 := Aside0.mk hn5
  have HK := Aside0.mk hk
  have hkl := (List.getElem?_eq_some_iff.1 hk).1
  have HKL := Aside0.mk hkl
  obtain ⟨W, hWe⟩ : ∃ W, w.alloc (.cells #[.int .i64 y.f0] 3) = W := ⟨_, rfl⟩
  have hW := Aside0.mk (show Sat w0 W (ABlk w.heap.size (.cells #[.int .i64 y.f0] 3 (0, 0)) :: ABlk z (.cells #[v, .map (some m)] 133 (0, 0)) :: ARowN k82 75 w0.heap.size (v) (zs) :: AMapF m F :: l) from by rw [← hWe]; exact blk_new h _)
  obtain ⟨b, hb⟩ : ∃ b, w.heap.size = b := ⟨_, rfl⟩
  rw [hb] at hW
  obtain ⟨_, hN1, _⟩ := hW.out.drop.drop.head
  obtain ⟨A, c, rfl, _, hC⟩ := Kd.N_reads hN1
  have x0 : W.cell? ⟨z, 0, none⟩ = some (.slice A zs.length c) := get_cell (blk_at hW.out.drop) 0
  have x1 : W.cell? ⟨b, 0, none⟩ = some (.int .i64 y.f0) := get_cell (blk_at hW.out) 0
  have hq := Index1_calls 73 _ _ A c zs W hC (by omega) (tells_base x1)
  rw [hidx] at hq
  have HQ := Aside0.mk hq
  have k0 : ((k : Int) < 0) = False := eq_false (by omega)
  have k1 : (k : Int) ≤ 1000 := by omega
  have k2 : 0 ≤ (k : Int) := by omega
  have k3 : (k : Int) < (zs.length : Int) := by omega
  have k4 : k < zs.length := hkl
  have k5 : ((k : Int) < 0) → False := by omega
  clear hq hC hN1 h hidx hfew hn4 hn5 hk hkl
  go_enter Try.func37, Try.ntmps37
  go_upto_region 1 with fail
  try rw [hWe]
  clear hWe
  try rw [hb]
  clear hb
  go_wp2_with fail
  (with_reducible refine HQ.out.mono ?_)
  rintro e2 w2 ⟨rfl, hb2⟩
  have HB2 := Aside0.mk (hW.out.below hb2)
  clear hb2 HQ hW x0 x1
  go_wp2_with fail
  obtain ⟨_, hN1, _⟩ := HB2.out.drop.drop.head
  obtain ⟨A', c', hv, _, hC⟩ := Kd.N_reads hN1
  injection hv with hv1 _ hv2
  subst hv1 hv2
  have x0 : w2.cell? ⟨z, 0, none⟩ = some (.slice A zs.length c) := get_cell (blk_at HB2.out.drop) 0
  obtain ⟨ad, A4, c4, A5, c5, eA, y0, y1, y2, y3, y4, y5, hl4, hC4, hl5, hC5⟩ := at_T82 hC (k : Int) (by omega) (by omega)
  have ev : rd_T82 zs (k : Int) = y := by
    have := (List.getElem?_eq_some_iff.1 HK.out).2
    simp [rd_T82, HKL.out, this]
  rw [ev] at y0 y1 y2 y3 y4 y5 hl4 hC4 hl5 hC5
  simp only [Int.toNat_natCast] at y0 y1 y2 y3 y4 y5
  subst eA
  clear ev hN1 hC y0 y1 y2 y3
  have HS3 := Aside0.mk (fun (w3 : World) (hb : Below w2.heap.size w2 w3) => (⟨pw_cell_below hb x0, pw_cell_below hb y4, pw_cell_below hb y5⟩ : w3.cell? ⟨z, 0, none⟩ = some (.slice (some ad) zs.length c) ∧ w3.cell? ⟨(ad.add (k * 6)).block, (ad.add (k * 6)).off + 4, none⟩ = some (.slice A4 y.f4.length c4) ∧ w3.cell? ⟨(ad.add (k * 6)).block, (ad.add (k * 6)).off + 5, none⟩ = some (.slice A5 y.f5.length c5)))
  have HPW := Aside0.mk (fun (W : World) (g : Nat) (hg : W.heap[g]? = some (.cells #[.slice A4 y.f4.length c4, .slice A5 y.f5.length c5] 67 (0, 0))) (hb : Below w2.heap.size w2 W) => by
    have hq := Concat_calls g A4 c4 y.f4 A5 c5 y.f5 W hg (Kd.C_below hC4 hb) (Kd.C_below hC5 hb) (by have := HN4.out; omega) (by have := HN5.out; omega)
    rw [hL] at hq
    exact hq)
  have HLn := Aside0.mk (show L.length ≤ 200 by have := HN4.out; have := HN5.out; rw [← hL, List.length_append]; omega)
  clear hC4 hC5 hl4 hl5 x0 y4 y5
  go_region_held3 (fun w' => w'.cell? ⟨z, 0, none⟩ = some (.slice (some ad) zs.length c) ∧ w'.cell? ⟨(ad.add (k * 6)).block, (ad.add (k * 6)).off + 4, none⟩ = some (.slice A4 y.f4.length c4) ∧ w'.cell? ⟨(ad.add (k * 6)).block, (ad.add (k * 6)).off + 5, none⟩ = some (.slice A5 y.f5.length c5)) ((refine HS3.out _ ?_; repeat (first | exact Below.refl _ _ | exact HB6.out | apply below_drew | apply below_alloc | apply pw_below_drewN))) (first
    | ((with_reducible refine (HPW.out (World.drew _) _ (MapKept.heap_alloc _ _).1 (by repeat (first | exact Below.refl _ _ | apply below_drew | apply below_alloc))).mono ?_); rintro e4 w4 ⟨v1, rfl, hR, hB⟩; have HB6 := Aside0.mk (show Below w2.heap.size w2 w4 from below_step (by repeat (first | exact Below.refl _ _ | apply below_drew | apply below_alloc)) hB); obtain ⟨base, hS5⟩ : ∃ base, Sat w0 w4 (ARow (Kd.int .i64) 3 base v1 L :: ABlk b (.cells #[.int .i64 y.f0] 3 (0, 0)) :: ABlk z (.cells #[.slice (some ad) zs.length c, .map (some m)] 133 (0, 0)) :: ARowN k82 75 w0.heap.size (.slice (some ad) zs.length c) zs :: AMapF m F :: l) := ⟨_, ((blk_new HB2.out _).drew.newRow hB hR (Nat.le_refl _)).swap.drop⟩; have HS5 := Aside0.mk hS5; obtain ⟨Av, cv, rfl, hcv, _⟩ := HS5.out.rowReads; clear hR hB hS5))
  have HS6 := Aside0.mk (show Sat w0 w4 (AMapF m F :: ARow (Kd.int .i64) 3 base (.slice Av L.length cv) L :: ABlk b (.cells #[.int .i64 y.f0] 3 (0, 0)) :: ABlk z (.cells #[.slice (some ad) zs.length c, .map (some m)] 133 (0, 0)) :: ARowN k82 75 w0.heap.size (.slice (some ad) zs.length c) zs :: l) from Sat.pull (l1 := [_, _, _, _]) HS5.out)
  have HL := Aside0.mk hL
  clear HS5 HS3 HPW HB6 HB2 hL
  go_wp2_with fail
  go_loopg [35] (L.length + 1) (fun kq v35 w' => ∃ (i : Nat) (G : List (Int × Value)), v35 = .int .i64 i ∧ Aside0 (i ≤ L.length ∧ L.length - i < kq) ∧ Aside0 (delAll G (L.drop i) = delAll F L) ∧ Aside0 (Sat w0 w' (AMapF m G :: ARow (Kd.int .i64) 3 base (.slice Av L.length cv) L :: ABlk b (.cells #[.int .i64 y.f0] 3 (0, 0)) :: ABlk z (.cells #[.slice (some ad) zs.length c, .map (some m)] 133 (0, 0)) :: ARowN k82 75 w0.heap.size (.slice (some ad) zs.length c) zs :: l)))
  case atStart => exact ⟨0, F, rfl, ⟨by omega⟩, ⟨by rw [List.drop_zero]⟩, HS6⟩
  case round =>
    clear HS6
    obtain ⟨i, G, rfl, Hi, HE, HS⟩ := hrel
    obtain ⟨wo, rfl⟩ : ∃ y, y = wr := ⟨wr, rfl⟩
    by_cases hlt : i < L.length
    · obtain ⟨n, hn⟩ : ∃ n, L[i]? = some n := ⟨_, List.getElem?_eq_getElem hlt⟩
      obtain ⟨A', c', e', _, hC⟩ := HS.out.drop.rowReads
      injection e' with e1 e2 e3
      subst e1
      obtain ⟨ad2, eA, y0⟩ := Kd.at_int hC (i : Int) (by omega) (by omega)
      have ev : rd L (i : Int) = n := by
        have := (List.getElem?_eq_some_iff.1 hn).2
        simp [rd, hlt, this]
      rw [ev] at y0
      simp only [Int.toNat_natCast] at y0
      subst eA
      have HN := Aside0.mk hn
      have p1 : (i < L.length) = True := eq_true hlt
      have d0 : decide ((i : Int) < (L.length : Int)) = true := decide_eq_true (by omega)
      have p9 : (i : Int) ≤ 1000 := by have := HLn.out; omega
      have p8 : 0 ≤ (i : Int) := by omega
      have z1 : wo.cell? ⟨z, 1, none⟩ = some (.map (some m)) := get_cell (blk_at HS.out.drop.drop.drop) 1
      obtain ⟨w9, hrun, hS9⟩ := mapF_del HS.out n 0
      have HS9 := Aside0.mk hS9
      clear hS9 hlt hn hC ev e2 e3
      go_wp2_with fail
      go_roundg (gk - 1)
      case measure => have := Hi.out; have := of_eq_true p1; omega
      case rel => exact ⟨i + 1, _, by go_num, ⟨by have := Hi.out; have := of_eq_true p1; omega⟩, ⟨by
        rw [← HE.out, List.drop_eq_getElem_cons (of_eq_true p1), (List.getElem?_eq_some_iff.1 HN.out).2, delAll]⟩, HS9⟩
    · have p1 : (i < L.length) = False := eq_false hlt
      have d0 : decide ((i : Int) < (L.length : Int)) = false := decide_eq_false (by omega)
      have eG : G = delAll F L := by
        have h := HE.out
        rw [List.drop_eq_nil_of_le (by omega), delAll] at h
        exact h
      subst eG
      have hS7 : Sat w0 wo (ARowN k82 75 w0.heap.size (.slice (some ad) zs.length c) zs :: AMapF m (delAll F L) :: ARow (Kd.int .i64) 3 base (.slice Av L.length cv) L :: ABlk b (.cells #[.int .i64 y.f0] 3 (0, 0)) :: ABlk z (.cells #[.slice (some ad) zs.length c, .map (some m)] 133 (0, 0)) :: l) := Sat.pull (l1 := [_, _, _, _]) HS.out
      obtain ⟨D, hN, hD, hcl⟩ := row_open hS7
      obtain ⟨g3, cap, e1, hbg, hlt3, cells, hgc⟩ := Kd.N_form hN (by have := HKL.out; omega)
      injection e1 with e1 _ e2
      injection e1 with e1
      subst e1 e2
      have x0 : wo.cell? ⟨z, 0, none⟩ = some (.slice (some ⟨g3, 0, none⟩) zs.length c) := get_cell (blk_at HS.out.drop.drop.drop) 0
      have HQ := Aside0.mk (Delete_calls hN HKL.out (by have := HF.out; omega) hS7.size)
      have HCL := Aside0.mk hcl
      clear hlt HE hS7 hN hcl hbg hlt3 hgc
      go_wp2_with fail
      (with_reducible refine HQ.out.mono ?_)
      rintro e8 w8 ⟨rfl, hN8, hG8⟩
      have HS8 := Aside0.mk (show Sat w0 w8 (ABlk z (.cells #[.slice (some ⟨g3, 0, none⟩) zs.length c, .map (some m)] 133 (0, 0)) :: ARowN k82 75 w0.heap.size (.slice (some ⟨g3, 0, none⟩) (zs.length - 1 : Nat) c) (zs.eraseIdx k) :: AMapF m (delAll F L) :: ARow (Kd.int .i64) 3 base (.slice Av L.length cv) L :: ABlk b (.cells #[.int .i64 y.f0] 3 (0, 0)) :: l) from Sat.pull (l1 := [_, _, _, _]) (HCL.out w8 _ _ hG8 (Kd.N_mono hN8 (fun _ h => .inl h))))
      clear hN8 hG8 x0 HQ HCL
      have x0 : w8.cell? ⟨z, 0, none⟩ = some (.slice (some ⟨g3, 0, none⟩) zs.length c) := get_cell (blk_at HS8.out) 0
      have f0 : w8.frozen? ⟨z, 0, none⟩ = false := get_frozen (blk_at HS8.out) 0
      go_wp2_with fail
      go_ret
      exact ⟨by rfl, _, (Sat.pull (l1 := [_, _, _]) (Sat.pull (l1 := [_, _, _]) (blk_put HS8.out 0 (.slice (some ⟨g3, 0, none⟩) (zs.length - 1 : Nat) c))).drop).drop⟩
end Go.Proofs.Ytkeijpngfnmjoaa.MineZone
