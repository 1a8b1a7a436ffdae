/- Zones: taking a zone out of the program's row; a zone that is removed; all of them. Conditions: the list is short and orderly. -/
import Derived.Test.YtkeijpngfnmjoaaMineZoneKB
namespace Go.Proofs.Ytkeijpngfnmjoaa.MineZone
open Go.Lib Go.Shelf Go.RowKit Go.MapKept Go.Proofs.YtkeijpngfnmjoaaW.PrintWords Go.Proofs.YtkeijpngfnmjoaaW.PrintLast Go.Proofs.YtkeijpngfnmjoaaW.PrintMore Go.Proofs.Ytkeijpngfnmjoaa.MineBase Go.Proofs.Ytkeijpngfnmjoaa.MineSep Go.Proofs.Ytkeijpngfnmjoaa.MineRows Go.Proofs.Ytkeijpngfnmjoaa.MineGen Go.Proofs.Ytkeijpngfnmjoaa.QZonePlays Go.Proofs.Ytkeijpngfnmjoaa.MineMap
attribute [local go_sem ↓] Go.wp_at_zero Go.wp_at_succ
set_option linter.unusedVariables false
set_option linter.unusedSimpArgs false
set_option maxHeartbeats 1000000 in
set_option maxRecDepth 100000 in
theorem Delete_calls {base g2 n c k : Nat} {ok : Nat → Prop} {ms : List S82} {w : World} (HO : Kd.N k82 75 w base ok (.slice (some ⟨g2, 0, none⟩) n c) ms) (hk : k < n) (hn : n ≤ 1000) (hb : base ≤ w.heap.size) :
    Calls Try.prog 75 #[.slice (some ⟨g2, 0, none⟩) n c, .int .i64 k, .int .i64 (k + 1)] w fun e w' => e = .returned (.slice (some ⟨g2, 0, none⟩) (n - 1 : Nat) c) ∧ Kd.N k82 75 w' base ok (.slice (some ⟨g2, 0, none⟩) (n - 1) c) (ms.eraseIdx k) ∧ w.grownBy w' (some g2) := by
  obtain ⟨n', rfl⟩ : ∃ n', n = n' + 1 := ⟨n - 1, by omega⟩
  obtain ⟨hl, hc, hC⟩ := Kd.N_reads' HO
  clear hC
  replace HO := Aside0.mk HO
  have HL := Aside0.mk hl
  have HB := Aside0.mk hb
  have HK := Aside0.mk hk
  have HN := Aside0.mk hc
  have p1 : (k : Int) < (n' + 1 : Nat) := by omega
  have p2 : (k : Int) + 1 ≤ (n' + 1 : Nat) := by omega
  have p3 : n' + 1 ≤ c := hc
  have p4 : ((n' + 1 : Nat) : Int) ≤ 1000 := by omega
  have p5 : 0 ≤ (k : Int) := by omega
  have p6 : (k ≤ c) = True := eq_true (by omega)
  have p7 : 0 ≤ (k : Int) + 1 := by omega
  have q1 : (k : Int) < n' + 1 := by omega
  have q2 : (k : Int) ≤ n' := by omega
  have q3 : (n' : Int) + 1 ≤ 1000 := by omega
  have q4 : ¬ (c = n') := by omega
  have q5 : (n' : Int) + 1 ≤ c := by omega
  clear hl hb hk hc hn
  go_enter Try.func75, Try.ntmps75
  go_wp2_with fail
  go_region_law ((refine Kd.N_delete_step k82 (w0 := w.drew) base (by rfl) (.tmp 22) (.tmp 25) 90 75 rfl Try.underlying90 info75s (g := g2) (n := n' + 1) (c := c) (k := k) (xs := ms) (ok := ok) rfl rfl (by simp [show k82.sz = 6 from rfl, Addr.add]) (by omega) (Kd.N_drew HO.out) HK.out (Below.refl _ _) HB.out (fun w1 hN hB hG => ?_)); have HN1 := Aside0.mk hN; have HG1 := Aside0.mk hG; clear hN hB hG)
  obtain ⟨w2, hrun, hN2, hG2⟩ := clear_tail (P := Try.prog) (m := 1) (t := 90) (ty := 0) (show Kd.N k82 75 w1 base ok (.slice (some ⟨g2, 0, none⟩) n' c) (ms.eraseIdx k) from HN1.out) (by decide) (by have := HN.out; omega) (by decide) Try.underlying90 zero75 (by rfl) one75 (c - n')
  have HN2 := Aside0.mk hN2
  have HG2 := Aside0.mk hG2
  clear hN2 hG2
  replace hrun : (Builtin.clear_ #[90] 0 #[.slice (some ⟨g2, n' * 6, none⟩) 1 (c - n')]).run Try.prog w1 = .ok (.tuple #[]) w2 := hrun
  go_wp2_with fail
  all_goals (
    try (subst h)
    go_ret
    exact ⟨by rfl, HN2.out, grown2 (drew_grown HG1.out) HG2.out⟩)
set_option maxHeartbeats 4000000 in
set_option maxRecDepth 100000 in
theorem Remove_at {w0 w : World} {l : List Asn} {z m k : Nat} {v : Value} {zs : List S82} {y : S82} {F : List (Int × Value)} (h : Sat w0 w (ABlk z (.cells #[v, .map (some m)] 133 (0, 0)) :: ARowN k82 75 w0.heap.size (v) (zs) :: AMapF m F :: l)) (hfew : zs.length ≤ 900) (hn4 : y.f4.length ≤ 100) (hn5 : y.f5.length ≤ 100)
    (hk : zs[k]? = some y) (hidx : idxP (fun x : S82 => x.f0 == y.f0) zs = k) :
    Calls Try.prog 37 #[.pointer (some ⟨z, 0, none⟩), .int .i64 y.f0] w fun e w' => e = .returned (.bool true) ∧ ∃ v', Sat w0 w' (ABlk z (.cells #[v', .map (some m)] 133 (0, 0)) :: ARowN k82 75 w0.heap.size (v') (zs.eraseIdx k) :: AMapF m (delAll F (y.f4 ++ y.f5)) :: l) := by
  obtain ⟨L, hL⟩ : ∃ L, y.f4 ++ y.f5 = L := ⟨_, rfl⟩
  rw [hL]
  have HF := Aside0.mk hfew
  have HN4 := Aside0.mk hn4
  have HN5 := Aside0.mk hn5
  have HK := Aside0.mk hk
  have hkl := (List.getElem?_eq_some_iff.1 hk).1
  have HKL := Aside0.mk hkl
  obtain ⟨W, hWe⟩ : ∃ W, w.alloc (.cells #[.int .i64 y.f0] 3) = W := ⟨_, rfl⟩
  have hW := Aside0.mk (show Sat w0 W (ABlk w.heap.size (.cells #[.int .i64 y.f0] 3 (0, 0)) :: ABlk z (.cells #[v, .map (some m)] 133 (0, 0)) :: ARowN k82 75 w0.heap.size (v) (zs) :: AMapF m F :: l) from by rw [← hWe]; exact blk_new h _)
  obtain ⟨b, hb⟩ : ∃ b, w.heap.size = b := ⟨_, rfl⟩
  rw [hb] at hW
  obtain ⟨_, hN1, _⟩ := hW.out.drop.drop.head
  obtain ⟨A, c, rfl, _, hC⟩ := Kd.N_reads hN1
  have x0 : W.cell? ⟨z, 0, none⟩ = some (.slice A zs.length c) := get_cell (blk_at hW.out.drop) 0
  have x1 : W.cell? ⟨b, 0, none⟩ = some (.int .i64 y.f0) := get_cell (blk_at hW.out) 0
  have hq := Index1_calls 73 _ _ A c zs W hC (by omega) (tells_base x1)
  rw [hidx] at hq
  have HQ := Aside0.mk hq
  have k0 : ((k : Int) < 0) = False := eq_false (by omega)
  have k1 : (k : Int) ≤ 1000 := by omega
  have k2 : 0 ≤ (k : Int) := by omega
  have k3 : (k : Int) < (zs.length : Int) := by omega
  have k4 : k < zs.length := hkl
  have k5 : ((k : Int) < 0) → False := by omega
  clear hq hC hN1 h hidx hfew hn4 hn5 hk hkl
  go_enter Try.func37, Try.ntmps37
  go_upto_region 1 with fail
  try rw [hWe]
  clear hWe
  try rw [hb]
  clear hb
  go_wp2_with fail
  (with_reducible refine HQ.out.mono ?_)
  rintro e2 w2 ⟨rfl, hb2⟩
  have HB2 := Aside0.mk (hW.out.below hb2)
  clear hb2 HQ hW x0 x1
  go_wp2_with fail
  obtain ⟨_, hN1, _⟩ := HB2.out.drop.drop.head
  obtain ⟨A', c', hv, _, hC⟩ := Kd.N_reads hN1
  injection hv with hv1 _ hv2
  subst hv1 hv2
  have x0 : w2.cell? ⟨z, 0, none⟩ = some (.slice A zs.length c) := get_cell (blk_at HB2.out.drop) 0
  obtain ⟨ad, A4, c4, A5, c5, eA, y0, y1, y2, y3, y4, y5, hl4, hC4, hl5, hC5⟩ := at_T82 hC (k : Int) (by omega) (by omega)
  have ev : rd_T82 zs (k : Int) = y := by
    have := (List.getElem?_eq_some_iff.1 HK.out).2
    simp [rd_T82, HKL.out, this]
  rw [ev] at y0 y1 y2 y3 y4 y5 hl4 hC4 hl5 hC5
  simp only [Int.toNat_natCast] at y0 y1 y2 y3 y4 y5
  subst eA
  clear ev hN1 hC y0 y1 y2 y3
  have HS3 := Aside0.mk (fun (w3 : World) (hb : Below w2.heap.size w2 w3) => (⟨pw_cell_below hb x0, pw_cell_below hb y4, pw_cell_below hb y5⟩ : w3.cell? ⟨z, 0, none⟩ = some (.slice (some ad) zs.length c) ∧ w3.cell? ⟨(ad.add (k * 6)).block, (ad.add (k * 6)).off + 4, none⟩ = some (.slice A4 y.f4.length c4) ∧ w3.cell? ⟨(ad.add (k * 6)).block, (ad.add (k * 6)).off + 5, none⟩ = some (.slice A5 y.f5.length c5)))
  have HPW := Aside0.mk (fun (W : World) (g : Nat) (hg : W.heap[g]? = some (.cells #[.slice A4 y.f4.length c4, .slice A5 y.f5.length c5] 67 (0, 0))) (hb : Below w2.heap.size w2 W) => by
    have hq := Concat_calls g A4 c4 y.f4 A5 c5 y.f5 W hg (Kd.C_below hC4 hb) (Kd.C_below hC5 hb) (by have := HN4.out; omega) (by have := HN5.out; omega)
    rw [hL] at hq
    exact hq)
  have HLn := Aside0.mk (show L.length ≤ 200 by have := HN4.out; have := HN5.out; rw [← hL, List.length_append]; omega)
  clear hC4 hC5 hl4 hl5 x0 y4 y5
  go_region_held3 (fun w' => w'.cell? ⟨z, 0, none⟩ = some (.slice (some ad) zs.length c) ∧ w'.cell? ⟨(ad.add (k * 6)).block, (ad.add (k * 6)).off + 4, none⟩ = some (.slice A4 y.f4.length c4) ∧ w'.cell? ⟨(ad.add (k * 6)).block, (ad.add (k * 6)).off + 5, none⟩ = some (.slice A5 y.f5.length c5)) ((refine HS3.out _ ?_; repeat (first | exact Below.refl _ _ | exact HB6.out | apply below_drew | apply below_alloc | apply pw_below_drewN))) (first
    | ((with_reducible refine (HPW.out (World.drew _) _ (MapKept.heap_alloc _ _).1 (by repeat (first | exact Below.refl _ _ | apply below_drew | apply below_alloc))).mono ?_); rintro e4 w4 ⟨v1, rfl, hR, hB⟩; have HB6 := Aside0.mk (show Below w2.heap.size w2 w4 from below_step (by repeat (first | exact Below.refl _ _ | apply below_drew | apply below_alloc)) hB); obtain ⟨base, hS5⟩ : ∃ base, Sat w0 w4 (ARow (Kd.int .i64) 3 base v1 L :: ABlk b (.cells #[.int .i64 y.f0] 3 (0, 0)) :: ABlk z (.cells #[.slice (some ad) zs.length c, .map (some m)] 133 (0, 0)) :: ARowN k82 75 w0.heap.size (.slice (some ad) zs.length c) zs :: AMapF m F :: l) := ⟨_, ((blk_new HB2.out _).drew.newRow hB hR (Nat.le_refl _)).swap.drop⟩; have HS5 := Aside0.mk hS5; obtain ⟨Av, cv, rfl, hcv, _⟩ := HS5.out.rowReads; clear hR hB hS5))
  have HS6 := Aside0.mk (show Sat w0 w4 (AMapF m F :: ARow (Kd.int .i64) 3 base (.slice Av L.length cv) L :: ABlk b (.cells #[.int .i64 y.f0] 3 (0, 0)) :: ABlk z (.cells #[.slice (some ad) zs.length c, .map (some m)] 133 (0, 0)) :: ARowN k82 75 w0.heap.size (.slice (some ad) zs.length c) zs :: l) from Sat.pull (l1 := [_, _, _, _]) HS5.out)
  have HL := Aside0.mk hL
  clear HS5 HS3 HPW HB6 HB2 hL
  go_wp2_with fail
  go_loopg [35] (L.length + 1) (fun kq v35 w' => ∃ (i : Nat) (G : List (Int × Value)), v35 = .int .i64 i ∧ Aside0 (i ≤ L.length ∧ L.length - i < kq) ∧ Aside0 (delAll G (L.drop i) = delAll F L) ∧ Aside0 (Sat w0 w' (AMapF m G :: ARow (Kd.int .i64) 3 base (.slice Av L.length cv) L :: ABlk b (.cells #[.int .i64 y.f0] 3 (0, 0)) :: ABlk z (.cells #[.slice (some ad) zs.length c, .map (some m)] 133 (0, 0)) :: ARowN k82 75 w0.heap.size (.slice (some ad) zs.length c) zs :: l)))
  case atStart => exact ⟨0, F, rfl, ⟨by omega⟩, ⟨by rw [List.drop_zero]⟩, HS6⟩
  case round =>
    clear HS6
    obtain ⟨i, G, rfl, Hi, HE, HS⟩ := hrel
    obtain ⟨wo, rfl⟩ : ∃ y, y = wr := ⟨wr, rfl⟩
    by_cases hlt : i < L.length
    · obtain ⟨n, hn⟩ : ∃ n, L[i]? = some n := ⟨_, List.getElem?_eq_getElem hlt⟩
      obtain ⟨A', c', e', _, hC⟩ := HS.out.drop.rowReads
      injection e' with e1 e2 e3
      subst e1
      obtain ⟨ad2, eA, y0⟩ := Kd.at_int hC (i : Int) (by omega) (by omega)
      have ev : rd L (i : Int) = n := by
        have := (List.getElem?_eq_some_iff.1 hn).2
        simp [rd, hlt, this]
      rw [ev] at y0
      simp only [Int.toNat_natCast] at y0
      subst eA
      have HN := Aside0.mk hn
      have p1 : (i < L.length) = True := eq_true hlt
      have d0 : decide ((i : Int) < (L.length : Int)) = true := decide_eq_true (by omega)
      have p9 : (i : Int) ≤ 1000 := by have := HLn.out; omega
      have p8 : 0 ≤ (i : Int) := by omega
      have z1 : wo.cell? ⟨z, 1, none⟩ = some (.map (some m)) := get_cell (blk_at HS.out.drop.drop.drop) 1
      obtain ⟨w9, hrun, hS9⟩ := mapF_del HS.out n 0
      have HS9 := Aside0.mk hS9
      clear hS9 hlt hn hC ev e2 e3
      go_wp2_with fail
      go_roundg (gk - 1)
      case measure => have := Hi.out; have := of_eq_true p1; omega
      case rel => exact ⟨i + 1, _, by go_num, ⟨by have := Hi.out; have := of_eq_true p1; omega⟩, ⟨by
        rw [← HE.out, List.drop_eq_getElem_cons (of_eq_true p1), (List.getElem?_eq_some_iff.1 HN.out).2, delAll]⟩, HS9⟩
    · have p1 : (i < L.length) = False := eq_false hlt
      have d0 : decide ((i : Int) < (L.length : Int)) = false := decide_eq_false (by omega)
      have eG : G = delAll F L := by
        have h := HE.out
        rw [List.drop_eq_nil_of_le (by omega), delAll] at h
        exact h
      subst eG
      have hS7 : Sat w0 wo (ARowN k82 75 w0.heap.size (.slice (some ad) zs.length c) zs :: AMapF m (delAll F L) :: ARow (Kd.int .i64) 3 base (.slice Av L.length cv) L :: ABlk b (.cells #[.int .i64 y.f0] 3 (0, 0)) :: ABlk z (.cells #[.slice (some ad) zs.length c, .map (some m)] 133 (0, 0)) :: l) := Sat.pull (l1 := [_, _, _, _]) HS.out
      obtain ⟨D, hN, hD, hcl⟩ := row_open hS7
      obtain ⟨g3, cap, e1, hbg, hlt3, cells, hgc⟩ := Kd.N_form hN (by have := HKL.out; omega)
      injection e1 with e1 _ e2
      injection e1 with e1
      subst e1 e2
      have x0 : wo.cell? ⟨z, 0, none⟩ = some (.slice (some ⟨g3, 0, none⟩) zs.length c) := get_cell (blk_at HS.out.drop.drop.drop) 0
      have HQ := Aside0.mk (Delete_calls hN HKL.out (by have := HF.out; omega) hS7.size)
      have HCL := Aside0.mk hcl
      clear hlt HE hS7 hN hcl hbg hlt3 hgc
      go_wp2_with fail
      (with_reducible refine HQ.out.mono ?_)
      rintro e8 w8 ⟨rfl, hN8, hG8⟩
      have HS8 := Aside0.mk (show Sat w0 w8 (ABlk z (.cells #[.slice (some ⟨g3, 0, none⟩) zs.length c, .map (some m)] 133 (0, 0)) :: ARowN k82 75 w0.heap.size (.slice (some ⟨g3, 0, none⟩) (zs.length - 1 : Nat) c) (zs.eraseIdx k) :: AMapF m (delAll F L) :: ARow (Kd.int .i64) 3 base (.slice Av L.length cv) L :: ABlk b (.cells #[.int .i64 y.f0] 3 (0, 0)) :: l) from Sat.pull (l1 := [_, _, _, _]) (HCL.out w8 _ _ hG8 (Kd.N_mono hN8 (fun _ h => .inl h))))
      clear hN8 hG8 x0 HQ HCL
      have x0 : w8.cell? ⟨z, 0, none⟩ = some (.slice (some ⟨g3, 0, none⟩) zs.length c) := get_cell (blk_at HS8.out) 0
      have f0 : w8.frozen? ⟨z, 0, none⟩ = false := get_frozen (blk_at HS8.out) 0
      go_wp2_with fail
      go_ret
      exact ⟨by rfl, _, (Sat.pull (l1 := [_, _, _]) (Sat.pull (l1 := [_, _, _]) (blk_put HS8.out 0 (.slice (some ⟨g3, 0, none⟩) (zs.length - 1 : Nat) c))).drop).drop⟩
theorem blk_row {w0 W : World} {l : List Asn} {b : Nat} {old cs : Array Value} {t : TypeId} (h : Sat w0 W (ABlk b (.cells old t (0, 0)) :: l)) : Sat w0 (W.setRow b cs) (ABlk b (.cells cs t (0, 0)) :: l) := by
  obtain ⟨D, h1, hD, _, hcl⟩ := h.open_
  have hf : ∀ i, i ≠ b → (W.setRow b cs).heap[i]? = W.heap[i]? := fun i hi => by
    simp only [World.setRow, Array.getElem?_modify]
    rw [if_neg (fun e => hi e.symm)]
  have hs : (W.setRow b cs).heap.size = W.heap.size := by simp [World.setRow]
  have hbb := (hD b h1.2)
  refine hcl _ (ABlk b _) D ?_ ⟨by omega, fun i hi hn => hf i (fun e => hn (by rw [e]; exact h1.2))⟩ ⟨?_, h1.2⟩ (fun k hk => .inl hk)
  · exact h.toBelow.grown (show W.grownBy (W.setRow b cs) (some b) from ⟨rfl, rfl, rfl, by simp, fun i _ hi => setRow_other W b i cs (fun e => hi (by rw [e]))⟩) h.size (fun k hk => by injection hk with hk; subst hk; exact hbb.1)
  · exact setRow_heap W b old cs t _ h1.1
set_option maxHeartbeats 4000000 in
set_option maxRecDepth 100000 in
theorem All_calls {z m : Nat} {zs : List S82} {w : World} (h : ZR z m zs w) (hfew : ∀ y ∈ zs, y.f4.length ≤ 100 ∧ y.f5.length ≤ 100) :
    Calls Try.prog 51 #[.pointer (some ⟨z, 0, none⟩)] w fun e w' => ∃ v, e = .returned v ∧ Sat w w' [ARowN k82 75 w.heap.size v zs] := by
  have H := Aside0.mk h
  have HF := Aside0.mk hfew
  obtain ⟨A, c, hz, hC⟩ := h.row
  have HC := Aside0.mk hC
  have x0 : w.cell? ⟨z, 0, none⟩ = some (.slice A zs.length c) := get_cell hz 0
  have hs : zs.length ≤ 1000 := h.few
  have HS := Aside0.mk hs
  have hN0 : Sat w w [ARowN k82 75 w.heap.size (.slice none 0 0) []] := (Sat.start w).new (A := ARowN k82 75 w.heap.size (.slice none 0 0) []) (Below.refl _ _) (D := fun k => w.heap.size ≤ k) (Kd.N_nil _ _ _ _ _) (fun _ hk => hk)
  have HN0 := Aside0.mk hN0
  have hu75 := Try.underlying75
  clear h hfew hz hC hN0
  go_enter Try.func51, Try.ntmps51
  go_wp2_with fail
  go_loopg [3, 11] (zs.length + 1) (fun kq v3 v11 w' => ∃ i : Nat, v11 = .int .i64 i ∧ Aside0 (i ≤ zs.length ∧ zs.length - i < kq) ∧ Aside0 (Sat w w' [ARowN k82 75 w.heap.size v3 (zs.take i)]))
  case atStart => exact ⟨0, rfl, ⟨by omega⟩, ⟨by rw [List.take_zero]; exact HN0.out⟩⟩
  case round =>
    clear HN0
    obtain ⟨i, rfl, Hi, HW⟩ := hrel
    obtain ⟨wo, rfl⟩ : ∃ y, y = wr := ⟨wr, rfl⟩
    by_cases hlt : i < zs.length
    · obtain ⟨x, hx⟩ : ∃ x, zs[i]? = some x := ⟨_, List.getElem?_eq_getElem hlt⟩
      obtain ⟨ad, A4, c4, A5, c5, eA, y0, y1, y2, y3, y4, y5, hl4, hC4, hl5, hC5⟩ := at_T82 HC.out (i : Int) (by omega) (by omega)
      have ev : rd_T82 zs (i : Int) = x := by
        have := (List.getElem?_eq_some_iff.1 hx).2
        simp [rd_T82, hlt, this]
      rw [ev] at y0 y1 y2 y3 y4 y5 hl4 hC4 hl5 hC5
      simp only [Int.toNat_natCast] at y0 y1 y2 y3 y4 y5
      subst eA
      replace y0 := pw_cell_below HW.out.toBelow y0
      replace y1 := pw_cell_below HW.out.toBelow y1
      replace y2 := pw_cell_below HW.out.toBelow y2
      replace y3 := pw_cell_below HW.out.toBelow y3
      replace y4 := pw_cell_below HW.out.toBelow y4
      replace y5 := pw_cell_below HW.out.toBelow y5
      have hm := HF.out x (List.mem_iff_getElem?.2 ⟨i, hx⟩)
      have HM := Aside0.mk hm
      have HX := Aside0.mk hx
      have p1 : (i < zs.length) = True := eq_true hlt
      have d0 : decide ((i : Int) < (zs.length : Int)) = true := decide_eq_true (by omega)
      have p9 : (i : Int) ≤ 1000 := by omega
      have p8 : 0 ≤ (i : Int) := by omega
      have HX1 := Aside0.mk (blk_new HW.out (.cells #[(.int .i64 0), (.int .i64 0), (.int .i64 0), (.int .i64 0), (.slice none 0 0), (.slice none 0 0)] 75))
      have HC4 := Aside0.mk hC4
      have HC5 := Aside0.mk hC5
      have HL4 := Aside0.mk hl4
      have HL5 := Aside0.mk hl5
      have hsz := HW.out.toBelow
      clear hx hm hlt ev hC4 hC5 hl4 hl5
      go_upto_region 5 with (refine wpList_store_row rfl 75 (.tmp 5) (.tmp 14) rfl wo.heap.size #[.int .i64 x.f0, .int .i64 x.f1, .int .i64 x.f2, .int .i64 x.f3, .slice A4 x.f4.length c4, .slice A5 x.f5.length c5] rfl rfl 75 _ (blk_at HX1.out) (by kernel_rfl) rfl (by simp [Value.oneCell']) ?_; have HX7 := Aside0.mk (blk_row (cs := #[.int .i64 x.f0, .int .i64 x.f1, .int .i64 x.f2, .int .i64 x.f3, .slice A4 x.f4.length c4, .slice A5 x.f5.length c5]) HX1.out))
      refine wp_abs (fun W => Sat w W [ABlk wo.heap.size (.cells #[.int .i64 x.f0, .int .i64 x.f1, .int .i64 x.f2, .int .i64 x.f3, .slice A4 x.f4.length c4, .slice A5 x.f5.length c5] 75 (0, 0)), ARowN k82 75 w.heap.size u3 (zs.take i)]) HX7.out (fun W7 hW7 => ?_)
      replace hW7 := Aside0.mk hW7
      obtain ⟨g, hg⟩ : ∃ g, wo.heap.size = g := ⟨_, rfl⟩
      rw [hg] at hW7 ⊢
      clear HX1 HX7 y0 y1 y2 y3 y4 y5 hsz hg
      have y0 : W7.cell? ⟨g, 0, none⟩ = some (.int .i64 x.f0) := get_cell (blk_at hW7.out) 0
      have y1 : W7.cell? ⟨g, 1, none⟩ = some (.int .i64 x.f1) := get_cell (blk_at hW7.out) 1
      have y2 : W7.cell? ⟨g, 2, none⟩ = some (.int .i64 x.f2) := get_cell (blk_at hW7.out) 2
      have y3 : W7.cell? ⟨g, 3, none⟩ = some (.int .i64 x.f3) := get_cell (blk_at hW7.out) 3
      have y4 : W7.cell? ⟨g, 4, none⟩ = some (.slice A4 x.f4.length c4) := get_cell (blk_at hW7.out) 4
      have y5 : W7.cell? ⟨g, 5, none⟩ = some (.slice A5 x.f5.length c5) := get_cell (blk_at hW7.out) 5
      obtain ⟨D, hN0, hD0, hcl0⟩ := row_open hW7.out.swap
      have HN0 := Aside0.mk hN0
      have HD0 := Aside0.mk hD0
      have HCL0 := Aside0.mk hcl0
      clear hN0 hD0 hcl0
      have ew : QZonePlays.zone_own.f x.f0 x.f1 x.f2 x.f3 x.f4 x.f5 = some (x.f0, x.f1, x.f2, x.f3, x.f4, x.f5) := own_f x (by have := HM.out.1; omega) (by have := HM.out.2; omega)
      have HOWN := Aside0.mk (QZonePlays.zone_own.calls x.f0 x.f1 x.f2 x.f3 A4 c4 x.f4 A5 c5 x.f5 _ _ _ _ _ _ W7 (Kd.C_below HC4.out hW7.out.toBelow) HL4.out (Kd.C_below HC5.out hW7.out.toBelow) HL5.out ew)
      go_wp2_with fail
      (with_reducible refine HOWN.out.mono ?_)
      rintro e3 w3 ⟨v4, v5, rfl, hR4, hR5, hb3⟩
      have HBB := Aside0.mk hb3
      have HB3 := Aside0.mk (hW7.out.below hb3)
      have HR4 := Aside0.mk hR4
      have HR5 := Aside0.mk hR5
      have q1 : (zs.take i).length ≤ 1000 := by rw [List.length_take]; omega
      clear hR4 hR5 hb3 HOWN y0 y1 y2 y3 y4 y5
      go_wp2_with (at_builtin; refine Kd.N_append k82 (w0 := w) (W := w3) w.heap.size rfl (.tmp 15) (.tmp 18) 90 75 _ 80 rfl Try.underlying90 info75 rfl (by decide) (by decide) u3 (zs.take i) x [.int .i64 x.f0, .int .i64 x.f1, .int .i64 x.f2, .int .i64 x.f3, v4, v5] (fun k => D k ∨ W7.heap.size ≤ k) (fun k => W7.heap.size ≤ k) rfl rfl (Kd.FK_of_M (k82_mkM _ _ _ x (fresh_R HR4.out) (fresh_R HR5.out))) (fun k hk => ⟨.inr hk, fun e => by have h1 := (HD0.out k (HN0.out.1 k e.symm)).2; omega⟩) (fun k hk => .inr (Nat.le_trans HBB.out.size hk)) (Kd.N_mono (Kd.N_below HN0.out HBB.out) (fun _ h => .inl h)) HB3.out.toBelow HB3.out.size (by omega) ?_; intro v1 w4 hN1 hB1 hg1 _; have HS4 := Aside0.mk (HCL0.out w4 v1 (zs.take i ++ [x]) (grown_then (grown_of_below HBB.out _) hg1) hN1); clear hN1 hB1 hg1)
      go_roundg (gk - 1)
      case measure => have := Hi.out; have := of_eq_true p1; omega
      case rel => exact ⟨i + 1, by go_num, ⟨by have := Hi.out; have := of_eq_true p1; omega⟩, ⟨by rw [List.take_add_one, HX.out]; exact HS4.out.swap.drop⟩⟩
    · have p1 : (i < zs.length) = False := eq_false hlt
      have d0 : decide ((i : Int) < (zs.length : Int)) = false := decide_eq_false (by omega)
      have HE := Aside0.mk (show zs.take i = zs from List.take_of_length_le (by omega))
      clear hlt
      go_wp2_with fail
      go_ret
      exact ⟨_, rfl, by have := HW.out; rw [HE.out] at this; exact this⟩
end Go.Proofs.Ytkeijpngfnmjoaa.MineZone
