/- HeapPlays, the walk: for any deeds the statement returns true. No condition. -/
import Derived.Test.YtkeijpngfnmjoaaMineDocE
namespace Go.Proofs.Ytkeijpngfnmjoaa.MineHeap
open Go.RowKit Go.MapKept Go.Proofs.YtkeijpngfnmjoaaW.PrintWords Go.Proofs.YtkeijpngfnmjoaaW.PrintLast Go.Proofs.YtkeijpngfnmjoaaW.PrintMore Go.Proofs.Ytkeijpngfnmjoaa.MineBase Go.Proofs.Ytkeijpngfnmjoaa.MineSep Go.Proofs.Ytkeijpngfnmjoaa.MineRows Go.Proofs.Ytkeijpngfnmjoaa.MineGen Go.Proofs.Ytkeijpngfnmjoaa.QHeapPlays
attribute [local go_sem] Go.Proofs.Ytkeijpngfnmjoaa.MineErr.eql_err Go.Proofs.Ytkeijpngfnmjoaa.MineErr.neq_err Go.Proofs.Ytkeijpngfnmjoaa.MineErr.eql_nil_err Go.Proofs.Ytkeijpngfnmjoaa.MineErr.neq_nil_err
attribute [local go_sem ↓] Go.wp_at_zero Go.wp_at_succ
set_option linter.unusedVariables false
set_option linter.unusedSimpArgs false
/-- A deed. -/
def kDd : Kd (Bool × Bool × Int × Int) := Kd.pair Kd.bool (Kd.pair Kd.bool (Kd.pair (Kd.int .i64) (Kd.int .i64)))
theorem kDd_open {W : World} {x : Bool × Bool × Int × Int} {cs : List Value} (h : kDd.K W x cs) : cs = [.bool x.1, .bool x.2.1, .int .i64 x.2.2.1, .int .i64 x.2.2.2] := by
  obtain ⟨c0, c1, rfl, h0, d0, d1, rfl, h1, e0, e1, rfl, h2, h3⟩ := h
  obtain rfl := h0
  obtain rfl := h1
  obtain rfl := h2
  obtain rfl := h3
  rfl
theorem kDd_at {W : World} {A : Option Addr} {n : Nat} {xs : List (Bool × Bool × Int × Int)} (h : kDd.C W A n xs) {i : Nat} {p : Bool × Bool × Int × Int} (hi : xs[i]? = some p) :
    ∃ ad, A = some ad ∧ W.cell? (ad.add (i * 4)) = some (.bool p.1) ∧ W.cell? ⟨(ad.add (i * 4)).block, (ad.add (i * 4)).off + 1, none⟩ = some (.bool p.2.1) ∧ W.cell? ⟨(ad.add (i * 4)).block, (ad.add (i * 4)).off + 2, none⟩ = some (.int .i64 p.2.2.1) ∧ W.cell? ⟨(ad.add (i * 4)).block, (ad.add (i * 4)).off + 3, none⟩ = some (.int .i64 p.2.2.2) := by
  have hl := (List.getElem?_eq_some_iff.1 hi).1
  obtain ⟨ad, e, hc⟩ := h.2.2 (by have := h.1; omega)
  obtain ⟨cs, hs, hK, hcell⟩ := hc i p hi
  obtain rfl := kDd_open hK
  exact ⟨ad, e, hcell 0 _ rfl, by rw [← add_field _ _ 1 (by omega)]; exact hcell 1 _ rfl, by rw [← add_field _ _ 2 (by omega)]; exact hcell 2 _ rfl, by rw [← add_field _ _ 3 (by omega)]; exact hcell 3 _ rfl⟩
theorem Code_nil (w : World) : Calls Try.prog 24 #[.nilIface] w fun e w' => e = .returned (.int .i64 0) ∧ Below w.heap.size w w' := Code_calls none (by simp) w
theorem Code_err (c : Int) (h1 : 1 ≤ c) (h2 : c ≤ 13) (w : World) : Calls Try.prog 24 #[.iface 39 (.int .i64 c)] w fun e w' => e = .returned (.int .i64 c) ∧ Below w.heap.size w w' := Code_calls (some c) (fun d h => by injection h with h; omega) w
theorem take_alt (L : Hs) (n : Int) : (∃ c : Int, (1 ≤ c ∧ c ≤ 13) ∧ takeR L n = (0, some c, L)) ∨ (∃ (a : Int) (L' : Hs), takeR L n = (a, none, L') ∧ L'.length ≤ L.length) := by
  by_cases h : sizeOk n
  · rcases take_cases L n h with ⟨_, b, _⟩ | ⟨L1, p, L2, rfl, _, _, _, d⟩
    · exact .inl ⟨9, by decide, b⟩
    · exact .inr ⟨_, _, d, cut_len _ _ _ _⟩
  · exact .inl ⟨1, by decide, by unfold takeR; rw [if_neg h]⟩
theorem kB_at4 {W : World} {A : Option Addr} {n : Nat} {xs : List (Int × Int)} (h : kB.C W A n xs) {i : Nat} {p : Int × Int} (hi : xs[i]? = some p) :
    ∃ ad, A = some ad ∧ W.cell? (ad.add (i * 4)) = some (.bool false) ∧ W.cell? ⟨(ad.add (i * 4)).block, (ad.add (i * 4)).off + 1, none⟩ = some (.bool false) ∧ W.cell? ⟨(ad.add (i * 4)).block, (ad.add (i * 4)).off + 2, none⟩ = some (.int .i64 p.1) ∧ W.cell? ⟨(ad.add (i * 4)).block, (ad.add (i * 4)).off + 3, none⟩ = some (.int .i64 p.2) := by
  have hl := (List.getElem?_eq_some_iff.1 hi).1
  obtain ⟨ad, e, hc⟩ := h.2.2 (by have := h.1; omega)
  obtain ⟨cs, hs, hK, hcell⟩ := hc i p hi
  obtain rfl := kB_open hK
  exact ⟨ad, e, hcell 0 _ rfl, by rw [← add_field _ _ 1 (by omega)]; exact hcell 1 _ rfl, by rw [← add_field _ _ 2 (by omega)]; exact hcell 2 _ rfl, by rw [← add_field _ _ 3 (by omega)]; exact hcell 3 _ rfl⟩
theorem blk_row {w0 W : World} {l : List Asn} {b : Nat} {old cs : Array Value} {t : TypeId} (h : Sat w0 W (ABlk b (.cells old t (0, 0)) :: l)) : Sat w0 (W.setRow b cs) (ABlk b (.cells cs t (0, 0)) :: l) := by
  obtain ⟨D, h1, hD, _, hcl⟩ := h.open_
  have hf : ∀ i, i ≠ b → (W.setRow b cs).heap[i]? = W.heap[i]? := fun i hi => by
    simp only [World.setRow, Array.getElem?_modify]
    rw [if_neg (fun e => hi e.symm)]
  have hs : (W.setRow b cs).heap.size = W.heap.size := by simp [World.setRow]
  have hbb := (hD b h1.2)
  refine hcl _ (ABlk b _) D ?_ ⟨by omega, fun i hi hn => hf i (fun e => hn (by rw [e]; exact h1.2))⟩ ⟨?_, h1.2⟩ (fun k hk => .inl hk)
  · exact h.toBelow.grown (show W.grownBy (W.setRow b cs) (some b) from ⟨rfl, rfl, rfl, by simp, fun i _ hi => setRow_other W b i cs (fun e => hi (by rw [e]))⟩) h.size (fun k hk => by injection hk with hk; subst hk; exact hbb.1)
  · simp [World.setRow, Array.getElem?_modify, h1.1]
set_option maxHeartbeats 8000000 in
set_option maxRecDepth 100000 in
theorem HeapPlays_calls (lo hi : Int) (A0 : Option Addr) (c0 : Nat) (ds : List (Bool × Bool × Int × Int)) (w : World) (hC0 : kDd.C w A0 ds.length ds) (hr : ∀ d ∈ ds, -9223372036854775808 ≤ d.2.2.1 ∧ d.2.2.1 ≤ 9223372036854775807) :
    Calls Try.prog 5 #[.int .i64 lo, .int .i64 hi, .slice A0 ds.length c0] w fun e w' => e = .returned (.bool true) ∧ Below w.heap.size w w' := by
  have HC0 := Aside0.mk hC0
  have HT := Aside0.mk hr
  clear hC0 hr
  go_enter Try.func5, Try.ntmps5
  go_wp2_with fail
  have hq := up_calls w
  (with_reducible refine hq.mono ?_)
  clear hq
  rintro e1 w1 ⟨rfl, hb1⟩
  have HS1 := Aside0.mk ((Sat.start w).below hb1)
  clear hb1
  by_cases hok : ¬ heapOk lo hi
  · have HBD := Aside0.mk hok
    clear hok
    go_wp2_with fail
    have hq := New_bad lo hi HBD.out w1
    (with_reducible refine hq.mono ?_)
    clear hq
    rintro e2 w2 ⟨rfl, hd2⟩
    rw [show errV (some 1) = .iface 39 (.int .i64 1) from rfl]
    have HB := Aside0.mk (HS1.out.drawn hd2).toBelow
    clear hd2
    by_cases h1 : lo < 0
    · have d1 : (lo < 0) = True := eq_true h1
      clear h1
      go_wp2_with fail
      go_ret
      exact ⟨by rfl, HB.out⟩
    have d1 : (lo < 0) = False := eq_false h1
    have p1 : 0 ≤ lo := by omega
    by_cases h2 : 65536 < hi
    · have d2 : (65536 < hi) = True := eq_true h2
      clear h1 h2
      go_wp2_with fail
      go_ret
      exact ⟨by rfl, HB.out⟩
    have d2 : (65536 < hi) = False := eq_false h2
    by_cases h3 : hi < lo
    · have d3 : (hi < lo) = True := eq_true h3
      clear h1 h2 h3
      go_wp2_with fail
      go_ret
      exact ⟨by rfl, HB.out⟩
    have d3 : (hi < lo) = False := eq_false h3
    have p2 : 0 ≤ hi := by omega
    by_cases h4 : lo % 4 = 0
    · have h5 : ¬ hi % 4 = 0 := fun h5 => HBD.out ⟨p1, by omega, by omega, h4, h5⟩
      have d5 : (hi % 4 = 0) = False := eq_false h5
      have e5 : (hi % 4 != 0) = true := by simpa using h5
      have d4 : lo % 4 = 0 := h4
      clear h1 h2 h3 h4 h5
      go_wp2_with fail
      go_ret
      exact ⟨by rfl, HB.out⟩
    · have d4 : (lo % 4 = 0) = False := eq_false h4
      clear h1 h2 h3 h4
      go_wp2_with fail
      go_ret
      exact ⟨by rfl, HB.out⟩
  replace hok : heapOk lo hi := Decidable.not_not.1 hok
  have HOK := Aside0.mk hok
  clear hok
  go_wp2_with fail
  have hq := New_good HS1.out lo hi HOK.out
  (with_reducible refine hq.mono ?_)
  clear hq
  rintro e2 w2 ⟨g, rfl, hS2⟩
  rw [show errV none = .nilIface from rfl]
  have HS2 := Aside0.mk hS2
  clear hS2 HS1
  have p1 : 0 ≤ lo := HOK.out.1
  have p2 : hi ≤ 65536 := HOK.out.2.1
  have p3 : lo ≤ hi := HOK.out.2.2.1
  have p4 : lo % 4 = 0 := HOK.out.2.2.2.1
  have p5 : hi % 4 = 0 := HOK.out.2.2.2.2
  by_cases hs : 4096 < hi - lo
  · have d1 : (4096 < hi - lo) = True := eq_true hs
    clear hs
    go_wp2_with fail
    go_ret
    exact ⟨by rfl, HS2.out.toBelow⟩
  have d1 : (4096 < hi - lo) = False := eq_false hs
  rcases Nat.lt_or_ge 100 ds.length with h60 | h60
  · have d2 : (100 < (ds.length : Int)) = True := eq_true (by omega)
    clear hs h60
    go_wp2_with fail
    go_ret
    exact ⟨by rfl, HS2.out.toBelow⟩
  have d2 : (100 < (ds.length : Int)) = False := eq_false (by omega)
  have HN := Aside0.mk h60
  have HSH := Aside0.mk (show hi - lo ≤ 4096 by omega)
  clear hs h60
  go_wp2_with fail
  have hq := NewHeap_calls HS2.out lo hi HOK.out HSH.out
  (with_reducible refine hq.mono ?_)
  clear hq
  rintro e3 w3 ⟨g2, rfl, hS3⟩
  have HS3 := Aside0.mk (show Sat w w3 [AHeap lo hi w.heap.size g (firstL lo hi), ADocH lo hi w.heap.size g2 (List.replicate ((hi - lo) / 4).toNat true), ARow kB 53 w.heap.size (.slice none 0 0) []] from (hS3.newRow (Below.refl _ _) (Kd.R_nil kB 53 w3 w3.heap.size (fun _ => True)) hS3.size).third.under (fun h => h.swap))
  have HP3 := Aside0.mk (Pair.start HOK.out HSH.out)
  have HL3 := Aside0.mk (show (firstL lo hi).length ≤ 1 from by unfold firstL; split <;> simp)
  generalize firstL lo hi = L0 at *
  generalize List.replicate ((hi - lo) / 4).toNat true = F0 at *
  clear hS3 d1 d2 p1 p2 p3 p4 p5 HS2
  go_wp2_with fail
  go_loopg [11, 12] (ds.length + 1) (fun kq v11 v12 w' => ∃ (i : Nat) (L : Hs) (F : List Bool) (T : List (Int × Int)) (A : Option Addr) (c : Nat), v11 = .slice A T.length c ∧ v12 = .int .i64 i ∧ Aside0 (i ≤ ds.length ∧ ds.length - i < kq) ∧ Aside0 (L.length ≤ i + 1 ∧ T.length ≤ i) ∧ Aside0 (Pair lo hi F L) ∧ Aside0 (Sat w w' [AHeap lo hi w.heap.size g L, ADocH lo hi w.heap.size g2 F, ARow kB 53 w.heap.size (.slice A T.length c) T]))
  case atStart => exact ⟨0, L0, F0, [], none, 0, rfl, rfl, ⟨by omega⟩, ⟨HL3.out, by simp⟩, HP3, HS3⟩
  case round =>
    clear HS3 HL3 HP3
    obtain ⟨gk1, rfl⟩ : ∃ x, x = gk := ⟨gk, rfl⟩
    obtain ⟨i, L, F, T, A, c, rfl, rfl, Hi, HI, HP, HS4⟩ := hrel
    by_cases hlt : i < ds.length
    · obtain ⟨x, hx⟩ : ∃ x, ds[i]? = some x := ⟨_, List.getElem?_eq_getElem hlt⟩
      obtain ⟨ad, eA, z0, z1, z2, z3⟩ := kDd_at (Kd.C_below HC0.out HS4.out.toBelow) hx
      subst eA
      have HX := Aside0.mk (HT.out x (List.mem_of_getElem? hx))
      have q1 : (i < ds.length) = True := eq_true hlt
      have q8 : 0 ≤ (i : Int) := by omega
      have q9 : (i : Int) ≤ 100 := by have := HN.out; omega
      clear hlt hx
      obtain ⟨b0, b1, at_, n⟩ := x
      simp only at z0 z1 z2 z3 HX
      cases b0 with
      | true =>
        by_cases hown : b1 = true ∧ 0 < T.length
        · obtain ⟨rfl, hT0⟩ := hown
          obtain ⟨r, hr, hrl⟩ := pick_range at_ HX.out.1 HX.out.2 T.length hT0
          have HR := Aside0.mk hr
          obtain ⟨t, ht⟩ : ∃ t, T[r]? = some t := ⟨_, List.getElem?_eq_getElem hrl⟩
          have HT5 := Aside0.mk ht
          obtain ⟨a5, e5, _⟩ := kB_at4 (row_at (Sat.pull (l1 := [_, _]) HS4.out)) ht
          subst e5
          have u1 : (0 < T.length) = True := eq_true hT0
          have u4 : (r < T.length) = True := eq_true hrl
          have u5 : 0 ≤ (r : Int) := by omega
          have u6' : (r : Int) ≤ 100 := by have := HI.out.2; have := Hi.out.1; have := HN.out; omega
          clear hr hrl ht hT0
          go_wp2_with (first | (refine wpList_store_row rfl 53 (.tmp 13) (.tmp 111) rfl wr.heap.size #[.bool false, .bool false, .int .i64 t.1, .int .i64 t.2] rfl rfl 53 _ (blk_at HX6.out) (by kernel_rfl) rfl (by simp [Value.oneCell']) ?_; have HX7 := Aside0.mk (blk_row (cs := #[.bool false, .bool false, .int .i64 t.1, .int .i64 t.2]) HX6.out)) | (go_at_call 14; refine (dowellaw04_Pick.calls at_ T.length r _ HR.out).mono ?_; rintro e6 w6 ⟨rfl, hd6⟩; have HX6 := Aside0.mk ((blk_new HS4.out (.cells #[.bool true, .bool true, .int .i64 at_, .int .i64 n] 53)).drawn hd6); clear hd6; obtain ⟨a6, e6, v0, v1, v2, v3⟩ := kB_at4 (row_at (Sat.pull (l1 := [_, _, _]) HX6.out)) HT5.out; injection e6 with e6; subst e6))
          generalize w6.setRow wr.heap.size #[.bool false, .bool false, .int .i64 t.1, .int .i64 t.2] = W7 at *
          clear v0 v1 v2 v3 u1 u4 u5 u6' HX6
          have k2 : W7.cell? ⟨wr.heap.size, 2, none⟩ = some (.int .i64 t.1) := get_cell (blk_at HX7.out) 2
          have k3 : W7.cell? ⟨wr.heap.size, 3, none⟩ = some (.int .i64 t.2) := get_cell (blk_at HX7.out) 3
          replace HX7 := Aside0.mk HX7.out.drew
          have kd2 : W7.drew.cell? ⟨wr.heap.size, 2, none⟩ = some (.int .i64 t.1) := get_cell (blk_at HX7.out) 2
          have kd3 : W7.drew.cell? ⟨wr.heap.size, 3, none⟩ = some (.int .i64 t.2) := get_cell (blk_at HX7.out) 3
          have HLL := Aside0.mk (show L.length ≤ 900 from by have := HI.out.1; have := Hi.out.1; have := HN.out; omega)
          clear z0 z1 z2 z3
          by_cases hy : giveOk lo hi t.1 t.2 ∧ ¬ Free L t.1 (wh t.2)
          · have HY := Aside0.mk hy
            clear hy
            go_region_held3 (fun w' => w'.cell? ⟨wr.heap.size, 2, none⟩ = some (.int .i64 t.1) ∧ w'.cell? ⟨wr.heap.size, 3, none⟩ = some (.int .i64 t.2)) (first | exact ⟨k2, k3⟩ | exact ⟨kd2, kd3⟩ | exact ⟨m2, m3⟩ | exact ⟨n2, n3⟩ | exact ⟨o2, o3⟩) (first
              | ((have hq := Give_yes HX7.out.swap HP.out.norm HOK.out.1 HOK.out.2.1 HOK.out.2.2.1 HLL.out t.1 t.2 HY.out.1 HY.out.2); (with_reducible refine hq.mono ?_); clear hq; rintro e8 w8 ⟨L', rfl, hN', hL', hll', hS8⟩; replace HX7 := Aside0.mk hS8.swap; have HN' := Aside0.mk (And.intro hN' (And.intro hL' hll')); clear hS8 hN' hL' hll'; have m2 : w8.cell? ⟨wr.heap.size, 2, none⟩ = some (.int .i64 t.1) := get_cell (blk_at HX7.out) 2; have m3 : w8.cell? ⟨wr.heap.size, 3, none⟩ = some (.int .i64 t.2) := get_cell (blk_at HX7.out) 3)
              | ((with_reducible refine (Code_nil _).mono ?_); rintro e9 w9 ⟨rfl, hb9⟩; replace HX7 := Aside0.mk (HX7.out.below hb9); clear hb9; have n2 : w9.cell? ⟨wr.heap.size, 2, none⟩ = some (.int .i64 t.1) := get_cell (blk_at HX7.out) 2; have n3 : w9.cell? ⟨wr.heap.size, 3, none⟩ = some (.int .i64 t.2) := get_cell (blk_at HX7.out) 3)
              | ((have hq := DGive_yes (Sat.pull (l1 := [_, _]) HX7.out) HP.out t.1 t.2 HY.out.1 HY.out.2 HN'.out.1 HN'.out.2.1); (with_reducible refine hq.mono ?_); clear hq; rintro e10 w10 ⟨rfl, F', hP', hS10⟩; replace HX7 := Aside0.mk (show Sat w w10 [ABlk _ _, AHeap _ _ _ _ _, ADocH _ _ _ _ _, ARow _ _ _ _ _] from hS10.back2); have HP' := Aside0.mk hP'; clear hS10 hP'; have o2 : w10.cell? ⟨wr.heap.size, 2, none⟩ = some (.int .i64 t.1) := get_cell (blk_at HX7.out) 2; have o3 : w10.cell? ⟨wr.heap.size, 3, none⟩ = some (.int .i64 t.2) := get_cell (blk_at HX7.out) 3))
            all_goals go_wp2_with fail
            have HXS := Aside0.mk (Sat.drop HX7.out)
            clear k2 k3 kd2 kd3 m2 m3 n2 n3 o2 o3
            have hq := Holes_calls HXS.out (by have := HI.out.1; have := Hi.out.1; have := HN.out; have := HN'.out.2.2; omega)
            (with_reducible refine hq.mono ?_)
            clear hq
            rintro e17 w17 ⟨v17, rfl, hR17, hb17⟩
            have HS17 := Aside0.mk (HXS.out.newRow hb17 hR17 HXS.out.size)
            clear hR17 hb17
            obtain ⟨A17, c17, rfl, hc17, hC17⟩ := HS17.out.rowReads
            have HC17 := Aside0.mk (And.intro hc17 hC17)
            clear hc17 hC17
            go_wp2_with fail
            have hq := as_calls A17 c17 L' w17 HC17.out.2 HC17.out.1 (by have := HI.out.1; have := Hi.out.1; have := HN.out; have := HN'.out.2.2; omega)
            (with_reducible refine hq.mono ?_)
            clear hq
            rintro e18 w18 ⟨v18, rfl, hR18, hb18⟩
            have HS18 := Aside0.mk (HS17.out.newRow hb18 hR18 HS17.out.size)
            clear hR18 hb18
            obtain ⟨A18, c18, e18, hc18, hC18⟩ := HS18.out.rowReads
            rw [List.length_map] at e18
            subst e18
            clear hc18 hC18
            go_wp2_with fail
            have hq := DHoles_pair (Sat.pull (l1 := [_, _, _]) HS18.out) HP'.out
            (with_reducible refine hq.mono ?_)
            clear hq
            rintro e19 w19 ⟨v19, rfl, hR19, hb19⟩
            have HS19 := Aside0.mk (HS18.out.newRow hb19 hR19 HS18.out.size)
            clear hR19 hb19
            obtain ⟨A19, c19, rfl, hc19, hC19⟩ := HS19.out.rowReads
            obtain ⟨A20, c20, e20, hc20, hC20⟩ := HS19.out.swap.rowReads
            injection e20 with e20 e21 e22
            subst e20
            subst e22
            have HC19 := Aside0.mk (And.intro hc19 (C_toT hC19))
            have HC20 := Aside0.mk (And.intro hc20 hC20)
            clear hc19 hC19 hc20 hC20 e21
            go_wp2_with fail
            have hq := same_calls A18 A19 c18 c19 (L'.map toT) w19 (by have h := HC20.out.2; rw [List.length_map] at *; exact h) (by exact HC20.out.1) (by rw [List.length_map]; exact HC19.out.2) (by rw [List.length_map]; exact HC19.out.1) (by rw [List.length_map]; have := HI.out.1; have := Hi.out.1; have := HN.out; have := HN'.out.2.2; omega)
            rw [List.length_map] at hq
            (with_reducible refine hq.mono ?_)
            clear hq
            rintro e23 w23 ⟨rfl, hd23⟩
            have HS23 := Aside0.mk (Sat.drop (Sat.drop (Sat.drop (HS19.out.drawn hd23))))
            clear hd23
            go_wp2_with fail
            go_roundg (gk1 - 1)
            case measure => have := Hi.out; have := of_eq_true q1; omega
            case rel => exact ⟨i + 1, L', F', T, some a5, c, by first | rfl | simp, by go_num, ⟨by have := Hi.out; have := of_eq_true q1; omega⟩, ⟨by have := HI.out; have := HN'.out.2.2; omega, by have := HI.out; simp; omega⟩, HP', HS23⟩
          · have HY := Aside0.mk hy
            clear hy
            go_region_held3 (fun w' => w'.cell? ⟨wr.heap.size, 2, none⟩ = some (.int .i64 t.1) ∧ w'.cell? ⟨wr.heap.size, 3, none⟩ = some (.int .i64 t.2)) (first | exact ⟨k2, k3⟩ | exact ⟨kd2, kd3⟩ | exact ⟨m2, m3⟩ | exact ⟨n2, n3⟩ | exact ⟨o2, o3⟩) (first
              | ((have hq := Give_no HX7.out.swap HP.out.norm HOK.out.1 HOK.out.2.1 HOK.out.2.2.1 HLL.out t.1 t.2 HY.out); (with_reducible refine hq.mono ?_); clear hq; rintro e8 w8 ⟨rfl, hS8⟩; replace HX7 := Aside0.mk hS8.swap; clear hS8; have m2 : w8.cell? ⟨wr.heap.size, 2, none⟩ = some (.int .i64 t.1) := get_cell (blk_at HX7.out) 2; have m3 : w8.cell? ⟨wr.heap.size, 3, none⟩ = some (.int .i64 t.2) := get_cell (blk_at HX7.out) 3)
              | ((with_reducible refine (Code_err 1 (by decide) (by decide) _).mono ?_); rintro e9 w9 ⟨rfl, hb9⟩; replace HX7 := Aside0.mk (HX7.out.below hb9); clear hb9; have n2 : w9.cell? ⟨wr.heap.size, 2, none⟩ = some (.int .i64 t.1) := get_cell (blk_at HX7.out) 2; have n3 : w9.cell? ⟨wr.heap.size, 3, none⟩ = some (.int .i64 t.2) := get_cell (blk_at HX7.out) 3)
              | ((have hq := DGive_no (Sat.pull (l1 := [_, _]) HX7.out) HP.out t.1 t.2 HY.out); (with_reducible refine hq.mono ?_); clear hq; rintro e10 w10 ⟨rfl, hS10⟩; replace HX7 := Aside0.mk (show Sat w w10 [ABlk _ _, AHeap _ _ _ _ _, ADocH _ _ _ _ _, ARow _ _ _ _ _] from hS10.back2); clear hS10; have o2 : w10.cell? ⟨wr.heap.size, 2, none⟩ = some (.int .i64 t.1) := get_cell (blk_at HX7.out) 2; have o3 : w10.cell? ⟨wr.heap.size, 3, none⟩ = some (.int .i64 t.2) := get_cell (blk_at HX7.out) 3))
            all_goals go_wp2_with fail
            have HXS := Aside0.mk (Sat.drop HX7.out)
            clear k2 k3 kd2 kd3 m2 m3 n2 n3 o2 o3
            have hq := Holes_calls HXS.out (by have := HI.out.1; have := Hi.out.1; have := HN.out; omega)
            (with_reducible refine hq.mono ?_)
            clear hq
            rintro e17 w17 ⟨v17, rfl, hR17, hb17⟩
            have HS17 := Aside0.mk (HXS.out.newRow hb17 hR17 HXS.out.size)
            clear hR17 hb17
            obtain ⟨A17, c17, rfl, hc17, hC17⟩ := HS17.out.rowReads
            have HC17 := Aside0.mk (And.intro hc17 hC17)
            clear hc17 hC17
            go_wp2_with fail
            have hq := as_calls A17 c17 L w17 HC17.out.2 HC17.out.1 (by have := HI.out.1; have := Hi.out.1; have := HN.out; omega)
            (with_reducible refine hq.mono ?_)
            clear hq
            rintro e18 w18 ⟨v18, rfl, hR18, hb18⟩
            have HS18 := Aside0.mk (HS17.out.newRow hb18 hR18 HS17.out.size)
            clear hR18 hb18
            obtain ⟨A18, c18, e18, hc18, hC18⟩ := HS18.out.rowReads
            rw [List.length_map] at e18
            subst e18
            clear hc18 hC18
            go_wp2_with fail
            have hq := DHoles_pair (Sat.pull (l1 := [_, _, _]) HS18.out) HP.out
            (with_reducible refine hq.mono ?_)
            clear hq
            rintro e19 w19 ⟨v19, rfl, hR19, hb19⟩
            have HS19 := Aside0.mk (HS18.out.newRow hb19 hR19 HS18.out.size)
            clear hR19 hb19
            obtain ⟨A19, c19, rfl, hc19, hC19⟩ := HS19.out.rowReads
            obtain ⟨A20, c20, e20, hc20, hC20⟩ := HS19.out.swap.rowReads
            injection e20 with e20 e21 e22
            subst e20
            subst e22
            have HC19 := Aside0.mk (And.intro hc19 (C_toT hC19))
            have HC20 := Aside0.mk (And.intro hc20 hC20)
            clear hc19 hC19 hc20 hC20 e21
            go_wp2_with fail
            have hq := same_calls A18 A19 c18 c19 (L.map toT) w19 (by have h := HC20.out.2; rw [List.length_map] at *; exact h) (by exact HC20.out.1) (by rw [List.length_map]; exact HC19.out.2) (by rw [List.length_map]; exact HC19.out.1) (by rw [List.length_map]; have := HI.out.1; have := Hi.out.1; have := HN.out; omega)
            rw [List.length_map] at hq
            (with_reducible refine hq.mono ?_)
            clear hq
            rintro e23 w23 ⟨rfl, hd23⟩
            have HS23 := Aside0.mk (Sat.drop (Sat.drop (Sat.drop (HS19.out.drawn hd23))))
            clear hd23
            go_wp2_with fail
            go_roundg (gk1 - 1)
            case measure => have := Hi.out; have := of_eq_true q1; omega
            case rel => exact ⟨i + 1, L, F, T, some a5, c, by first | rfl | simp, by go_num, ⟨by have := Hi.out; have := of_eq_true q1; omega⟩, ⟨by have := HI.out; omega, by have := HI.out; simp; omega⟩, HP, HS23⟩
        · skip
          go_wp2_with fail
          all_goals try (exact absurd ⟨by assumption, by assumption⟩ hown)
          all_goals (
            have HX7 := Aside0.mk (blk_new HS4.out (.cells #[.bool true, .bool b1, .int .i64 at_, .int .i64 n] 53))
            try simp only [*] at HX7
            generalize wr.alloc (.cells #[.bool true, .bool _, .int .i64 at_, .int .i64 n] 53) = W7 at *
            have k2 : W7.cell? ⟨wr.heap.size, 2, none⟩ = some (.int .i64 at_) := get_cell (blk_at HX7.out) 2
            have k3 : W7.cell? ⟨wr.heap.size, 3, none⟩ = some (.int .i64 n) := get_cell (blk_at HX7.out) 3
            replace HX7 := Aside0.mk HX7.out.drew
            have kd2 : W7.drew.cell? ⟨wr.heap.size, 2, none⟩ = some (.int .i64 at_) := get_cell (blk_at HX7.out) 2
            have kd3 : W7.drew.cell? ⟨wr.heap.size, 3, none⟩ = some (.int .i64 n) := get_cell (blk_at HX7.out) 3
            have HLL := Aside0.mk (show L.length ≤ 900 from by have := HI.out.1; have := Hi.out.1; have := HN.out; omega)
            clear z0 z1 z2 z3
            by_cases hy : giveOk lo hi at_ n ∧ ¬ Free L at_ (wh n)
            · have HY := Aside0.mk hy
              clear hy
              go_region_held3 (fun w' => w'.cell? ⟨wr.heap.size, 2, none⟩ = some (.int .i64 at_) ∧ w'.cell? ⟨wr.heap.size, 3, none⟩ = some (.int .i64 n)) (first | exact ⟨k2, k3⟩ | exact ⟨kd2, kd3⟩ | exact ⟨m2, m3⟩ | exact ⟨n2, n3⟩ | exact ⟨o2, o3⟩) (first
                | ((have hq := Give_yes HX7.out.swap HP.out.norm HOK.out.1 HOK.out.2.1 HOK.out.2.2.1 HLL.out at_ n HY.out.1 HY.out.2); (with_reducible refine hq.mono ?_); clear hq; rintro e8 w8 ⟨L', rfl, hN', hL', hll', hS8⟩; replace HX7 := Aside0.mk hS8.swap; have HN' := Aside0.mk (And.intro hN' (And.intro hL' hll')); clear hS8 hN' hL' hll'; have m2 : w8.cell? ⟨wr.heap.size, 2, none⟩ = some (.int .i64 at_) := get_cell (blk_at HX7.out) 2; have m3 : w8.cell? ⟨wr.heap.size, 3, none⟩ = some (.int .i64 n) := get_cell (blk_at HX7.out) 3)
                | ((with_reducible refine (Code_nil _).mono ?_); rintro e9 w9 ⟨rfl, hb9⟩; replace HX7 := Aside0.mk (HX7.out.below hb9); clear hb9; have n2 : w9.cell? ⟨wr.heap.size, 2, none⟩ = some (.int .i64 at_) := get_cell (blk_at HX7.out) 2; have n3 : w9.cell? ⟨wr.heap.size, 3, none⟩ = some (.int .i64 n) := get_cell (blk_at HX7.out) 3)
                | ((have hq := DGive_yes (Sat.pull (l1 := [_, _]) HX7.out) HP.out at_ n HY.out.1 HY.out.2 HN'.out.1 HN'.out.2.1); (with_reducible refine hq.mono ?_); clear hq; rintro e10 w10 ⟨rfl, F', hP', hS10⟩; replace HX7 := Aside0.mk (show Sat w w10 [ABlk _ _, AHeap _ _ _ _ _, ADocH _ _ _ _ _, ARow _ _ _ _ _] from hS10.back2); have HP' := Aside0.mk hP'; clear hS10 hP'; have o2 : w10.cell? ⟨wr.heap.size, 2, none⟩ = some (.int .i64 at_) := get_cell (blk_at HX7.out) 2; have o3 : w10.cell? ⟨wr.heap.size, 3, none⟩ = some (.int .i64 n) := get_cell (blk_at HX7.out) 3))
              all_goals go_wp2_with fail
              have HXS := Aside0.mk (Sat.drop HX7.out)
              clear k2 k3 kd2 kd3 m2 m3 n2 n3 o2 o3
              have hq := Holes_calls HXS.out (by have := HI.out.1; have := Hi.out.1; have := HN.out; have := HN'.out.2.2; omega)
              (with_reducible refine hq.mono ?_)
              clear hq
              rintro e17 w17 ⟨v17, rfl, hR17, hb17⟩
              have HS17 := Aside0.mk (HXS.out.newRow hb17 hR17 HXS.out.size)
              clear hR17 hb17
              obtain ⟨A17, c17, rfl, hc17, hC17⟩ := HS17.out.rowReads
              have HC17 := Aside0.mk (And.intro hc17 hC17)
              clear hc17 hC17
              go_wp2_with fail
              have hq := as_calls A17 c17 L' w17 HC17.out.2 HC17.out.1 (by have := HI.out.1; have := Hi.out.1; have := HN.out; have := HN'.out.2.2; omega)
              (with_reducible refine hq.mono ?_)
              clear hq
              rintro e18 w18 ⟨v18, rfl, hR18, hb18⟩
              have HS18 := Aside0.mk (HS17.out.newRow hb18 hR18 HS17.out.size)
              clear hR18 hb18
              obtain ⟨A18, c18, e18, hc18, hC18⟩ := HS18.out.rowReads
              rw [List.length_map] at e18
              subst e18
              clear hc18 hC18
              go_wp2_with fail
              have hq := DHoles_pair (Sat.pull (l1 := [_, _, _]) HS18.out) HP'.out
              (with_reducible refine hq.mono ?_)
              clear hq
              rintro e19 w19 ⟨v19, rfl, hR19, hb19⟩
              have HS19 := Aside0.mk (HS18.out.newRow hb19 hR19 HS18.out.size)
              clear hR19 hb19
              obtain ⟨A19, c19, rfl, hc19, hC19⟩ := HS19.out.rowReads
              obtain ⟨A20, c20, e20, hc20, hC20⟩ := HS19.out.swap.rowReads
              injection e20 with e20 e21 e22
              subst e20
              subst e22
              have HC19 := Aside0.mk (And.intro hc19 (C_toT hC19))
              have HC20 := Aside0.mk (And.intro hc20 hC20)
              clear hc19 hC19 hc20 hC20 e21
              go_wp2_with fail
              have hq := same_calls A18 A19 c18 c19 (L'.map toT) w19 (by have h := HC20.out.2; rw [List.length_map] at *; exact h) (by exact HC20.out.1) (by rw [List.length_map]; exact HC19.out.2) (by rw [List.length_map]; exact HC19.out.1) (by rw [List.length_map]; have := HI.out.1; have := Hi.out.1; have := HN.out; have := HN'.out.2.2; omega)
              rw [List.length_map] at hq
              (with_reducible refine hq.mono ?_)
              clear hq
              rintro e23 w23 ⟨rfl, hd23⟩
              have HS23 := Aside0.mk (Sat.drop (Sat.drop (Sat.drop (HS19.out.drawn hd23))))
              clear hd23
              go_wp2_with fail
              go_roundg (gk1 - 1)
              case measure => have := Hi.out; have := of_eq_true q1; omega
              case rel => exact ⟨i + 1, L', F', T, A, c, by first | rfl | simp, by go_num, ⟨by have := Hi.out; have := of_eq_true q1; omega⟩, ⟨by have := HI.out; have := HN'.out.2.2; omega, by have := HI.out; simp; omega⟩, HP', HS23⟩
            · have HY := Aside0.mk hy
              clear hy
              go_region_held3 (fun w' => w'.cell? ⟨wr.heap.size, 2, none⟩ = some (.int .i64 at_) ∧ w'.cell? ⟨wr.heap.size, 3, none⟩ = some (.int .i64 n)) (first | exact ⟨k2, k3⟩ | exact ⟨kd2, kd3⟩ | exact ⟨m2, m3⟩ | exact ⟨n2, n3⟩ | exact ⟨o2, o3⟩) (first
                | ((have hq := Give_no HX7.out.swap HP.out.norm HOK.out.1 HOK.out.2.1 HOK.out.2.2.1 HLL.out at_ n HY.out); (with_reducible refine hq.mono ?_); clear hq; rintro e8 w8 ⟨rfl, hS8⟩; replace HX7 := Aside0.mk hS8.swap; clear hS8; have m2 : w8.cell? ⟨wr.heap.size, 2, none⟩ = some (.int .i64 at_) := get_cell (blk_at HX7.out) 2; have m3 : w8.cell? ⟨wr.heap.size, 3, none⟩ = some (.int .i64 n) := get_cell (blk_at HX7.out) 3)
                | ((with_reducible refine (Code_err 1 (by decide) (by decide) _).mono ?_); rintro e9 w9 ⟨rfl, hb9⟩; replace HX7 := Aside0.mk (HX7.out.below hb9); clear hb9; have n2 : w9.cell? ⟨wr.heap.size, 2, none⟩ = some (.int .i64 at_) := get_cell (blk_at HX7.out) 2; have n3 : w9.cell? ⟨wr.heap.size, 3, none⟩ = some (.int .i64 n) := get_cell (blk_at HX7.out) 3)
                | ((have hq := DGive_no (Sat.pull (l1 := [_, _]) HX7.out) HP.out at_ n HY.out); (with_reducible refine hq.mono ?_); clear hq; rintro e10 w10 ⟨rfl, hS10⟩; replace HX7 := Aside0.mk (show Sat w w10 [ABlk _ _, AHeap _ _ _ _ _, ADocH _ _ _ _ _, ARow _ _ _ _ _] from hS10.back2); clear hS10; have o2 : w10.cell? ⟨wr.heap.size, 2, none⟩ = some (.int .i64 at_) := get_cell (blk_at HX7.out) 2; have o3 : w10.cell? ⟨wr.heap.size, 3, none⟩ = some (.int .i64 n) := get_cell (blk_at HX7.out) 3))
              all_goals go_wp2_with fail
              have HXS := Aside0.mk (Sat.drop HX7.out)
              clear k2 k3 kd2 kd3 m2 m3 n2 n3 o2 o3
              have hq := Holes_calls HXS.out (by have := HI.out.1; have := Hi.out.1; have := HN.out; omega)
              (with_reducible refine hq.mono ?_)
              clear hq
              rintro e17 w17 ⟨v17, rfl, hR17, hb17⟩
              have HS17 := Aside0.mk (HXS.out.newRow hb17 hR17 HXS.out.size)
              clear hR17 hb17
              obtain ⟨A17, c17, rfl, hc17, hC17⟩ := HS17.out.rowReads
              have HC17 := Aside0.mk (And.intro hc17 hC17)
              clear hc17 hC17
              go_wp2_with fail
              have hq := as_calls A17 c17 L w17 HC17.out.2 HC17.out.1 (by have := HI.out.1; have := Hi.out.1; have := HN.out; omega)
              (with_reducible refine hq.mono ?_)
              clear hq
              rintro e18 w18 ⟨v18, rfl, hR18, hb18⟩
              have HS18 := Aside0.mk (HS17.out.newRow hb18 hR18 HS17.out.size)
              clear hR18 hb18
              obtain ⟨A18, c18, e18, hc18, hC18⟩ := HS18.out.rowReads
              rw [List.length_map] at e18
              subst e18
              clear hc18 hC18
              go_wp2_with fail
              have hq := DHoles_pair (Sat.pull (l1 := [_, _, _]) HS18.out) HP.out
              (with_reducible refine hq.mono ?_)
              clear hq
              rintro e19 w19 ⟨v19, rfl, hR19, hb19⟩
              have HS19 := Aside0.mk (HS18.out.newRow hb19 hR19 HS18.out.size)
              clear hR19 hb19
              obtain ⟨A19, c19, rfl, hc19, hC19⟩ := HS19.out.rowReads
              obtain ⟨A20, c20, e20, hc20, hC20⟩ := HS19.out.swap.rowReads
              injection e20 with e20 e21 e22
              subst e20
              subst e22
              have HC19 := Aside0.mk (And.intro hc19 (C_toT hC19))
              have HC20 := Aside0.mk (And.intro hc20 hC20)
              clear hc19 hC19 hc20 hC20 e21
              go_wp2_with fail
              have hq := same_calls A18 A19 c18 c19 (L.map toT) w19 (by have h := HC20.out.2; rw [List.length_map] at *; exact h) (by exact HC20.out.1) (by rw [List.length_map]; exact HC19.out.2) (by rw [List.length_map]; exact HC19.out.1) (by rw [List.length_map]; have := HI.out.1; have := Hi.out.1; have := HN.out; omega)
              rw [List.length_map] at hq
              (with_reducible refine hq.mono ?_)
              clear hq
              rintro e23 w23 ⟨rfl, hd23⟩
              have HS23 := Aside0.mk (Sat.drop (Sat.drop (Sat.drop (HS19.out.drawn hd23))))
              clear hd23
              go_wp2_with fail
              go_roundg (gk1 - 1)
              case measure => have := Hi.out; have := of_eq_true q1; omega
              case rel => exact ⟨i + 1, L, F, T, A, c, by first | rfl | simp, by go_num, ⟨by have := Hi.out; have := of_eq_true q1; omega⟩, ⟨by have := HI.out; omega, by have := HI.out; simp; omega⟩, HP, HS23⟩)
      | false =>
        skip
        go_wp2_with fail
        have HX7 := Aside0.mk (blk_new HS4.out (.cells #[.bool false, .bool b1, .int .i64 at_, .int .i64 n] 53))
        generalize wr.alloc (.cells #[.bool false, .bool b1, .int .i64 at_, .int .i64 n] 53) = W7 at *
        have HLL := Aside0.mk (show L.length ≤ 900 from by have := HI.out.1; have := Hi.out.1; have := HN.out; omega)
        clear z0 z1 z2 z3
        rcases take_alt L n with ⟨c1, hcc, he⟩ | ⟨a1, L', he, hle⟩
        · have HE := Aside0.mk he
          have HCC := Aside0.mk hcc
          clear he hcc
          have hq := Take_calls HX7.out.swap HP.out.norm HOK.out.1 HOK.out.2.1 (by have := HLL.out; omega) n
          rw [HE.out] at hq
          (with_reducible refine hq.mono ?_)
          clear hq
          rintro e8 w8 ⟨rfl, hS8⟩
          rw [show errV (some c1) = .iface 39 (.int .i64 c1) from rfl]
          replace HX7 := Aside0.mk hS8.swap
          clear hS8
          have m3 : w8.cell? ⟨wr.heap.size, 3, none⟩ = some (.int .i64 n) := get_cell (blk_at HX7.out) 3
          dsimp only
          go_wp2_with fail
          have hq := DTake_pair (Sat.pull (l1 := [_, _]) HX7.out) HP.out n
          rw [HE.out] at hq
          (with_reducible refine hq.mono ?_)
          clear hq
          rintro e9 w9 ⟨rfl, F', hP', hS9⟩
          dsimp only [Option.getD_some, Option.getD_none]
          replace HX7 := Aside0.mk (show Sat w w9 [ABlk _ _, AHeap _ _ _ _ _, ADocH _ _ _ _ _, ARow _ _ _ _ _] from hS9.back2)
          have HP' := Aside0.mk (show Pair lo hi F' L from hP')
          clear hS9 hP'
          have n3 : w9.cell? ⟨wr.heap.size, 3, none⟩ = some (.int .i64 n) := get_cell (blk_at HX7.out) 3
          have g1 : (c1 == c1) = true := by simp
          have g2 : (c1 != c1) = false := by simp
          have g3 : (c1 == 0) = false := by simpa using (show ¬ c1 = 0 by have := HCC.out; omega)
          have g4 : (c1 = 0) = False := eq_false (by have := HCC.out; omega)
          go_wp2_with ((with_reducible refine (Code_err c1 HCC.out.1 HCC.out.2 _).mono ?_); rintro e10 w10 ⟨rfl, hb10⟩; have HX8 := Aside0.mk (HX7.out.below hb10); clear hb10)
          have HXS := Aside0.mk (Sat.drop HX8.out)
          clear g1 g2 g3 g4 m3 n3
          have hq := Holes_calls HXS.out (by have := HI.out.1; have := Hi.out.1; have := HN.out; omega)
          (with_reducible refine hq.mono ?_)
          clear hq
          rintro e17 w17 ⟨v17, rfl, hR17, hb17⟩
          have HS17 := Aside0.mk (HXS.out.newRow hb17 hR17 HXS.out.size)
          clear hR17 hb17
          obtain ⟨A17, c17, rfl, hc17, hC17⟩ := HS17.out.rowReads
          have HC17 := Aside0.mk (And.intro hc17 hC17)
          clear hc17 hC17
          go_wp2_with fail
          have hq := as_calls A17 c17 L w17 HC17.out.2 HC17.out.1 (by have := HI.out.1; have := Hi.out.1; have := HN.out; omega)
          (with_reducible refine hq.mono ?_)
          clear hq
          rintro e18 w18 ⟨v18, rfl, hR18, hb18⟩
          have HS18 := Aside0.mk (HS17.out.newRow hb18 hR18 HS17.out.size)
          clear hR18 hb18
          obtain ⟨A18, c18, e18, hc18, hC18⟩ := HS18.out.rowReads
          rw [List.length_map] at e18
          subst e18
          clear hc18 hC18
          go_wp2_with fail
          have hq := DHoles_pair (Sat.pull (l1 := [_, _, _]) HS18.out) HP'.out
          (with_reducible refine hq.mono ?_)
          clear hq
          rintro e19 w19 ⟨v19, rfl, hR19, hb19⟩
          have HS19 := Aside0.mk (HS18.out.newRow hb19 hR19 HS18.out.size)
          clear hR19 hb19
          obtain ⟨A19, c19, rfl, hc19, hC19⟩ := HS19.out.rowReads
          obtain ⟨A20, c20, e20, hc20, hC20⟩ := HS19.out.swap.rowReads
          injection e20 with e20 e21 e22
          subst e20
          subst e22
          have HC19 := Aside0.mk (And.intro hc19 (C_toT hC19))
          have HC20 := Aside0.mk (And.intro hc20 hC20)
          clear hc19 hC19 hc20 hC20 e21
          go_wp2_with fail
          have hq := same_calls A18 A19 c18 c19 (L.map toT) w19 (by have h := HC20.out.2; rw [List.length_map] at *; exact h) (by exact HC20.out.1) (by rw [List.length_map]; exact HC19.out.2) (by rw [List.length_map]; exact HC19.out.1) (by rw [List.length_map]; have := HI.out.1; have := Hi.out.1; have := HN.out; omega)
          rw [List.length_map] at hq
          (with_reducible refine hq.mono ?_)
          clear hq
          rintro e23 w23 ⟨rfl, hd23⟩
          have HS23 := Aside0.mk (Sat.drop (Sat.drop (Sat.drop (HS19.out.drawn hd23))))
          clear hd23
          go_wp2_with fail
          go_roundg (gk1 - 1)
          case measure => have := Hi.out; have := of_eq_true q1; omega
          case rel => exact ⟨i + 1, L, F', T, A, c, by first | rfl | simp, by go_num, ⟨by have := Hi.out; have := of_eq_true q1; omega⟩, ⟨by have := HI.out; omega, by have := HI.out; simp; omega⟩, HP', HS23⟩
        · have HE := Aside0.mk he
          have HLE := Aside0.mk hle
          clear he hle
          have hq := Take_calls HX7.out.swap HP.out.norm HOK.out.1 HOK.out.2.1 (by have := HLL.out; omega) n
          rw [HE.out] at hq
          (with_reducible refine hq.mono ?_)
          clear hq
          rintro e8 w8 ⟨rfl, hS8⟩
          rw [show errV none = .nilIface from rfl]
          replace HX7 := Aside0.mk hS8.swap
          clear hS8
          have m3 : w8.cell? ⟨wr.heap.size, 3, none⟩ = some (.int .i64 n) := get_cell (blk_at HX7.out) 3
          dsimp only
          go_wp2_with fail
          have hq := DTake_pair (Sat.pull (l1 := [_, _]) HX7.out) HP.out n
          rw [HE.out] at hq
          (with_reducible refine hq.mono ?_)
          clear hq
          rintro e9 w9 ⟨rfl, F', hP', hS9⟩
          dsimp only [Option.getD_some, Option.getD_none]
          replace HX7 := Aside0.mk (show Sat w w9 [ABlk _ _, AHeap _ _ _ _ _, ADocH _ _ _ _ _, ARow _ _ _ _ _] from hS9.back2)
          have HP' := Aside0.mk (show Pair lo hi F' L' from hP')
          clear hS9 hP'
          have n3 : w9.cell? ⟨wr.heap.size, 3, none⟩ = some (.int .i64 n) := get_cell (blk_at HX7.out) 3
          go_wp2_with (first
            | ((with_reducible refine (Code_nil _).mono ?_); rintro e10 w10 ⟨rfl, hb10⟩; have HX8 := Aside0.mk (HX7.out.below hb10); clear hb10; have o3 : w10.cell? ⟨wr.heap.size, 3, none⟩ = some (.int .i64 n) := get_cell (blk_at HX8.out) 3)
            | (at_builtin; refine sat_append kB (w0 := w) (W := w10) rfl (.tmp 151) (.tmp 156) 46 53 _ 24 rfl Try.underlying46 info53 rfl (by decide) (by decide) (.slice A T.length c) T (a1, n) [.bool false, .bool false, .int .i64 a1, .int .i64 n] rfl rfl (fun W base => kB_M W base _ _) (Sat.pull (l1 := [_, _, _]) HX8.out) (by have := HI.out; have := Hi.out.1; have := HN.out; omega) ?_; intro v11 w11 hS11; obtain ⟨A11, c11, rfl⟩ := hS11.rowSlice; have HX9 := Aside0.mk hS11; clear hS11))
          have HXS := Aside0.mk (show Sat w w11 [AHeap _ _ _ _ _, ADocH _ _ _ _ _, ARow _ _ _ _ _] from ((Sat.drop HX9.out.swap).third.third))
          clear m3 n3 o3
          have hq := Holes_calls HXS.out (by have := HI.out.1; have := Hi.out.1; have := HN.out; have := HLE.out; omega)
          (with_reducible refine hq.mono ?_)
          clear hq
          rintro e17 w17 ⟨v17, rfl, hR17, hb17⟩
          have HS17 := Aside0.mk (HXS.out.newRow hb17 hR17 HXS.out.size)
          clear hR17 hb17
          obtain ⟨A17, c17, rfl, hc17, hC17⟩ := HS17.out.rowReads
          have HC17 := Aside0.mk (And.intro hc17 hC17)
          clear hc17 hC17
          go_wp2_with fail
          have hq := as_calls A17 c17 L' w17 HC17.out.2 HC17.out.1 (by have := HI.out.1; have := Hi.out.1; have := HN.out; have := HLE.out; omega)
          (with_reducible refine hq.mono ?_)
          clear hq
          rintro e18 w18 ⟨v18, rfl, hR18, hb18⟩
          have HS18 := Aside0.mk (HS17.out.newRow hb18 hR18 HS17.out.size)
          clear hR18 hb18
          obtain ⟨A18, c18, e18, hc18, hC18⟩ := HS18.out.rowReads
          rw [List.length_map] at e18
          subst e18
          clear hc18 hC18
          go_wp2_with fail
          have hq := DHoles_pair (Sat.pull (l1 := [_, _, _]) HS18.out) HP'.out
          (with_reducible refine hq.mono ?_)
          clear hq
          rintro e19 w19 ⟨v19, rfl, hR19, hb19⟩
          have HS19 := Aside0.mk (HS18.out.newRow hb19 hR19 HS18.out.size)
          clear hR19 hb19
          obtain ⟨A19, c19, rfl, hc19, hC19⟩ := HS19.out.rowReads
          obtain ⟨A20, c20, e20, hc20, hC20⟩ := HS19.out.swap.rowReads
          injection e20 with e20 e21 e22
          subst e20
          subst e22
          have HC19 := Aside0.mk (And.intro hc19 (C_toT hC19))
          have HC20 := Aside0.mk (And.intro hc20 hC20)
          clear hc19 hC19 hc20 hC20 e21
          go_wp2_with fail
          have hq := same_calls A18 A19 c18 c19 (L'.map toT) w19 (by have h := HC20.out.2; rw [List.length_map] at *; exact h) (by exact HC20.out.1) (by rw [List.length_map]; exact HC19.out.2) (by rw [List.length_map]; exact HC19.out.1) (by rw [List.length_map]; have := HI.out.1; have := Hi.out.1; have := HN.out; have := HLE.out; omega)
          rw [List.length_map] at hq
          (with_reducible refine hq.mono ?_)
          clear hq
          rintro e23 w23 ⟨rfl, hd23⟩
          have HS23 := Aside0.mk (Sat.drop (Sat.drop (Sat.drop (HS19.out.drawn hd23))))
          clear hd23
          go_wp2_with fail
          go_roundg (gk1 - 1)
          case measure => have := Hi.out; have := of_eq_true q1; omega
          case rel => exact ⟨i + 1, L', F', (T ++ [(a1, n)]), A11, c11, by first | rfl | simp, by go_num, ⟨by have := Hi.out; have := of_eq_true q1; omega⟩, ⟨by have := HI.out; have := HLE.out; omega, by have := HI.out; simp; omega⟩, HP', HS23⟩
    · have q1 : (i < ds.length) = False := eq_false hlt
      clear hlt
      go_wp2_with fail
      go_ret
      exact ⟨by rfl, HS4.out.toBelow⟩
end Go.Proofs.Ytkeijpngfnmjoaa.MineHeap
