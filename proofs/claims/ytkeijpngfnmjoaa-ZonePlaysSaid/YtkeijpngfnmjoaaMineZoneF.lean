/- Zones: an empty list; two rows one after the other. No condition but that they are short. -/
import Derived.Test.YtkeijpngfnmjoaaMineZoneE
import Derived.Test.YtkeijpngfnmjoaaQZoneOwn
import Derived.Lib.AppendZerosOnto
namespace Go.Proofs.Ytkeijpngfnmjoaa.MineZone
open Go.Lib Go.Shelf Go.RowKit Go.MapKept Go.Proofs.YtkeijpngfnmjoaaW.PrintWords Go.Proofs.YtkeijpngfnmjoaaW.PrintLast Go.Proofs.YtkeijpngfnmjoaaW.PrintMore Go.Proofs.Ytkeijpngfnmjoaa.MineBase Go.Proofs.Ytkeijpngfnmjoaa.MineSep Go.Proofs.Ytkeijpngfnmjoaa.MineRows Go.Proofs.Ytkeijpngfnmjoaa.MineGen Go.Proofs.Ytkeijpngfnmjoaa.QZonePlays Go.Proofs.Ytkeijpngfnmjoaa.MineMap
attribute [local go_sem ↓] Go.wp_at_zero Go.wp_at_succ
set_option linter.unusedVariables false
set_option linter.unusedSimpArgs false
theorem info3i : ∃ i0 : TypeInfo, Try.prog.info? 3 = some i0 ∧ i0.zero = some (.int .i64 0) ∧ i0.size = 1 ∧ i0.bytes = 8 := by
  have h := info3
  obtain ⟨i0, h1, h2⟩ := Option.map_eq_some_iff.1 h
  simp only [Prod.mk.injEq] at h2
  exact ⟨i0, h1, h2.1, h2.2.1, h2.2.2⟩
set_option maxHeartbeats 2000000 in
set_option maxRecDepth 100000 in
theorem New_calls (w : World) : Calls Try.prog 34 #[] w fun e w' => ∃ z m, e = .returned (.pointer (some ⟨z, 0, none⟩)) ∧ z = w.heap.size + 1 ∧ m = w.heap.size ∧ Sat w w' [ABlk z (.cells #[.slice none 0 0, .map (some m)] 133 (0, 0)), ABlk m (.map #[] 0)] := by
  have hmm := @run_makeMap Try.prog
  go_enter Try.func34, Try.ntmps34
  go_wp2
  go_ret
  have h := blk_new (blk_new (Sat.start w) (.map #[] 0)) (.cells #[.slice none 0 0, .map (some w.heap.size)] 133 (0, 0))
  rw [size_alloc] at h
  exact ⟨_, _, rfl, rfl, rfl, h⟩
set_option maxHeartbeats 2000000 in
set_option maxRecDepth 100000 in
theorem Grow_calls (n : Nat) (hn : n ≤ 100000) (w : World) :
    Calls Try.prog 99 #[.slice none 0 0, .int .i64 (n : Int)] w fun e w' => ∃ v, e = .returned v ∧ Kd.R (Kd.int .i64) 3 w' w.heap.size (fun _ => True) v [] ∧ Below w.heap.size w w' := by
  by_cases h0 : n = 0
  · subst h0
    go_enter Try.func99, Try.ntmps99
    go_wp2
    go_ret
    exact ⟨_, rfl, Kd.R_nil _ _ _ _ _, Below.refl _ _⟩
  obtain ⟨i0, e1, e2, e3, e4⟩ := info3i
  have h := Lib.run_append_grow_zeros (P := Try.prog) w 67 3 67 3 i0 (.int .i64 0) .i64 .i64 Try.underlying67 Try.underlying3 e1 e2 none 0 0 [] (run_firstCells_none w.drew i0.size 0 0 0) n (by omega) (by omega) (by omega) (by omega)
      (by rw [e4]; omega) (by rw [e4]; exact growslice_fits (by omega) (by omega))
  rw [Nat.zero_add] at h
  have g1 : n ≤ grownCap w n 0 3 := grownCap_ge w _ _ _
  have g2 := grownCap_le_maxLen w n 0 3 (by unfold maxLen; omega)
  have hs : (#[] ++ Builtin.zeroCells (Value.int .i64 0).cells n ++ Builtin.zeroCells (Value.int .i64 0).cells (grownCap w n 0 3 - n) : Array Value).size = grownCap w n 0 3 * 1 := by
    have z1 : ((Value.int .i64 0).cells).size = 1 := rfl
    simp only [Array.size_append, size_zeroCells, z1, List.size_toArray, List.length_nil]
    omega
  obtain ⟨G, hG⟩ : ∃ G, grownCap w n 0 3 = G := ⟨_, rfl⟩
  rw [hG] at h g1 g2 hs
  obtain ⟨cur, hcur⟩ : ∃ cur, (#[] ++ Builtin.zeroCells (Value.int .i64 0).cells n ++ Builtin.zeroCells (Value.int .i64 0).cells (G - n) : Array Value) = cur := ⟨_, rfl⟩
  rw [hcur] at h hs
  have d1 : ¬ ((n : Int) < 0) := by omega
  have d2 : ((n : Int) > 0) := by omega
  have d3 : ((n : Int) < 0) = False := eq_false d1
  have d4 : decide ((n : Int) > 0) = true := decide_eq_true d2
  have d5 : (n : Int) ≤ 100000 := by omega
  have g3 : G ≤ 9223372036854775807 := by unfold maxLen at g2; omega
  have hR : Kd.R (Kd.int .i64) 3 (w.drew.alloc (.cells cur 3)) w.heap.size (fun _ => True) (.slice (some ⟨w.heap.size, 0, none⟩) 0 G) [] :=
    ⟨fun _ _ => trivial, [], ⟨by simp, .inr ⟨w.heap.size, G, cur, rfl, Nat.le_refl _, (MapKept.heap_alloc w.drew _).1, Nat.zero_le _, g2, hs, by simp⟩⟩, ⟨by simp, fun j p h => by simp at h⟩⟩
  have hB : Below w.heap.size w (w.drew.alloc (.cells cur 3)) := below_alloc (below_drew (Below.refl _ _)) _
  clear hs hcur g2 hG e1 e2 e3 e4 h0
  go_enter Try.func99, Try.ntmps99
  go_wp2_with (at_builtin; refine Lib.wpList_append_run _ rfl _ _ _ _ rfl _ _ rfl rfl _ _ h ?_)
  go_ret
  exact ⟨_, rfl, hR, hB⟩
set_option maxHeartbeats 4000000 in
set_option maxRecDepth 100000 in
theorem Concat_calls (g : Nat) (A4 : Option Addr) (c4 : Nat) (l4 : List Int) (A5 : Option Addr) (c5 : Nat) (l5 : List Int) (w : World) (hg : w.heap[g]? = some (.cells #[.slice A4 l4.length c4, .slice A5 l5.length c5] 67 (0, 0)))
    (h4 : (Kd.int .i64).C w A4 l4.length l4) (h5 : (Kd.int .i64).C w A5 l5.length l5) (hn4 : l4.length ≤ 1000) (hn5 : l5.length ≤ 1000) :
    Calls Try.prog 74 #[.slice (some ⟨g, 0, none⟩) 2 2] w fun e w' => ∃ v, e = .returned v ∧ Kd.R (Kd.int .i64) 3 w' w.heap.size (fun _ => True) v (l4 ++ l5) ∧ Below w.heap.size w w' := by
  have H4 := Aside0.mk h4
  have H5 := Aside0.mk h5
  have HG := Aside0.mk (show blk w g = _ from hg)
  have N4 := Aside0.mk hn4
  have N5 := Aside0.mk hn5
  have HW := Aside0.mk (Grow_calls (l4.length + l5.length) (by omega))
  clear h4 h5 hg hn4 hn5
  go_enter Try.func74, Try.ntmps74
  go_wp2_with fail
  go_loopg [3, 11] 3 (fun kq v3 v11 w' => ∃ i : Nat, v11 = .int .i64 i ∧ v3 = .int .i64 (if i = 0 then 0 else if i = 1 then (l4.length : Int) else (l4.length : Int) + l5.length) ∧ Aside0 (i ≤ 2 ∧ 2 - i < kq) ∧ w' = w)
  case atStart => exact ⟨0, rfl, rfl, ⟨by omega⟩, rfl⟩
  case round =>
    obtain ⟨i, rfl, rfl, Hi, rfl⟩ := hrel
    have y0 := get_cell HG.out 0
    have y1 := get_cell HG.out 1
    simp only [List.getElem?_toArray, List.getElem?_cons_zero, List.getElem?_cons_succ] at y0 y1
    have n4 := N4.out
    have n5 := N5.out
    obtain ⟨wo, rfl⟩ : ∃ x, x = wr := ⟨wr, rfl⟩
    rcases (show i = 0 ∨ i = 1 ∨ i = 2 by have := Hi.out; omega) with rfl | rfl | rfl
    · have w1 : wrap64 ((0 : Int) + (l4.length : Int)) = (l4.length : Int) := by unfold wrap64; omega
      have w2 : ((l4.length : Int) < 0) = False := eq_false (by omega)
      go_wp2_with fail
      go_roundg (gk - 1)
      case measure => have := Hi.out; omega
      case rel => exact ⟨1, rfl, by first | rfl | simp, ⟨by have := Hi.out; omega⟩, rfl⟩
    · have w1 : wrap64 ((l4.length : Int) + (l5.length : Int)) = (l4.length : Int) + (l5.length : Int) := by unfold wrap64; omega
      have w2 : ((l4.length : Int) + (l5.length : Int) < 0) = False := eq_false (by omega)
      go_wp2_with fail
      go_roundg (gk - 1)
      case measure => have := Hi.out; omega
      case rel => exact ⟨2, rfl, by first | rfl | simp, ⟨by have := Hi.out; omega⟩, rfl⟩
    · have hq := HW.out wo
      rw [show ((l4.length + l5.length : Nat) : Int) = (l4.length : Int) + (l5.length : Int) from by push_cast; rfl] at hq
      have HQ := Aside0.mk hq
      clear hq n4 n5 HW y0 y1
      go_wp2_with fail
      (with_reducible refine HQ.out.mono ?_)
      rintro e1 w1 ⟨v1, rfl, hR1, hB1⟩
      have HR1 := Aside0.mk hR1
      have HB1 := Aside0.mk hB1
      clear hR1 hB1
      go_wp2_with fail
      go_loopg [6, 27] 3 (fun kq v6 v27 w' => ∃ i : Nat, v27 = .int .i64 i ∧ Aside0 (i ≤ 2 ∧ 2 - i < kq) ∧ Aside0 (Kd.R (Kd.int .i64) 3 w' wo.heap.size (fun _ => True) v6 (if i = 0 then [] else if i = 1 then l4 else l4 ++ l5)) ∧ Aside0 (Below wo.heap.size wo w'))
      case atStart => exact ⟨0, rfl, ⟨by omega⟩, HR1, HB1⟩
      case round =>
        obtain ⟨i, rfl, Hj, HR, HB⟩ := hrel
        have n4 := N4.out
        have n5 := N5.out
        have y0 := get_cell (get_below HG.out HB.out) 0
        have y1 := get_cell (get_below HG.out HB.out) 1
        simp only [List.getElem?_toArray, List.getElem?_cons_zero, List.getElem?_cons_succ] at y0 y1
        rcases (show i = 0 ∨ i = 1 ∨ i = 2 by have := Hj.out; omega) with rfl | rfl | rfl
        · go_wp2_with (at_builtin; refine Kd.R_append_rows (Kd.int .i64) (w0 := wo) wo.heap.size rfl (.tmp 31) (.tmp 32) 67 3 (.int .i64 0) 8 rfl Try.underlying67 info3 rfl (by decide) (by decide) _ _ l4 _ _ _ (fun _ => True) (fun _ => False) rfl rfl HR.out (Kd.C_below H4.out HB.out) (fun _ _ h => h) (fun _ h => h.elim) (fun _ _ => trivial) HB.out HB.out.size (by simp; omega) ?_; intro v2 w2 hR2 hB2 _ _; have HR2 := Aside0.mk hR2; have HB2 := Aside0.mk hB2; clear hR2 hB2)
          go_roundg (gk - 1)
          case measure => have := Hj.out; omega
          case rel => exact ⟨1, rfl, ⟨by have := Hj.out; omega⟩, ⟨by simpa using HR2.out⟩, HB2⟩
        · go_wp2_with (at_builtin; refine Kd.R_append_rows (Kd.int .i64) (w0 := wo) wo.heap.size rfl (.tmp 31) (.tmp 32) 67 3 (.int .i64 0) 8 rfl Try.underlying67 info3 rfl (by decide) (by decide) _ _ l5 _ _ _ (fun _ => True) (fun _ => False) rfl rfl HR.out (Kd.C_below H5.out HB.out) (fun _ _ h => h) (fun _ h => h.elim) (fun _ _ => trivial) HB.out HB.out.size (by simp; omega) ?_; intro v2 w2 hR2 hB2 _ _; have HR2 := Aside0.mk hR2; have HB2 := Aside0.mk hB2; clear hR2 hB2)
          go_roundg (gk - 1)
          case measure => have := Hj.out; omega
          case rel => exact ⟨2, rfl, ⟨by have := Hj.out; omega⟩, ⟨by simpa using HR2.out⟩, HB2⟩
        · go_wp2_with fail
          go_ret
          exact ⟨_, rfl, HR.out, HB.out⟩
end Go.Proofs.Ytkeijpngfnmjoaa.MineZone
