/- Heap: where a place belongs in the row of holes. Conditions: the holes rise, the numbers are small. -/
import Derived.Test.YtkeijpngfnmjoaaMineHeapD
namespace Go.Proofs.Ytkeijpngfnmjoaa.MineHeap
open Go.RowKit Go.MapKept Go.Proofs.YtkeijpngfnmjoaaW.PrintWords Go.Proofs.YtkeijpngfnmjoaaW.PrintLast Go.Proofs.Ytkeijpngfnmjoaa.MineBase Go.Proofs.Ytkeijpngfnmjoaa.MineSep Go.Proofs.Ytkeijpngfnmjoaa.MineRows Go.Proofs.Ytkeijpngfnmjoaa.MineGen
set_option linter.unusedVariables false
set_option linter.unusedSimpArgs false
/-- The closure of Give. -/
theorem cmp_calls (p : Int × Int) (at_ : Int) (w : World) (h1 : -1000000 ≤ p.1) (h2 : p.1 ≤ 1000000) (h3 : -1000000 ≤ at_) (h4 : at_ ≤ 1000000) :
    Calls Try.prog 66 #[.agg #[.int .i64 p.1, .int .i64 p.2], .int .i64 at_] w fun e w' => e = .returned (.int .i64 (p.1 - at_)) ∧ Below w.heap.size w w' := by
  have t1 : IntKind.i64.wrap (p.1 - at_) = p.1 - at_ := wrap_ok (by omega) (by omega)
  go_enter Try.func66, Try.ntmps66
  go_wp2
  go_ret
  exact ⟨by rfl, by repeat (first | exact Below.refl _ _ | apply below_alloc)⟩
/-- The rises of a list around a place. -/
def Around (L1 L2 : Hs) (at_ : Int) : Prop := (∀ p ∈ L1, p.1 < at_) ∧ (∀ p ∈ L2, at_ ≤ p.1) ∧ ∀ p ∈ L1 ++ L2, 0 ≤ p.1 ∧ p.1 ≤ 65536
theorem around_get {L1 L2 : Hs} {at_ : Int} (h : Around L1 L2 at_) {k : Nat} {p : Int × Int} (hk : (L1 ++ L2)[k]? = some p) : (p.1 < at_ ↔ k < L1.length) ∧ 0 ≤ p.1 ∧ p.1 ≤ 65536 := by
  refine ⟨?_, h.2.2 p (List.mem_of_getElem? hk)⟩
  by_cases hl : k < L1.length
  · rw [List.getElem?_append_left hl] at hk
    have := h.1 p (List.mem_of_getElem? hk)
    exact ⟨fun _ => hl, fun _ => this⟩
  · rw [List.getElem?_append_right (by omega)] at hk
    have := h.2.1 p (List.mem_of_getElem? hk)
    exact ⟨fun h => by omega, fun h => absurd h hl⟩
set_option maxHeartbeats 2000000 in
set_option maxRecDepth 100000 in
theorem Search_calls (A : Option Addr) (c : Nat) (L1 L2 : Hs) (at_ : Int) (w : World) (hC : k2.C w A (L1 ++ L2).length (L1 ++ L2)) (hn : (L1 ++ L2).length ≤ 1000) (h : Around L1 L2 at_) (h0 : 0 ≤ at_) (h1 : at_ ≤ 65536) :
    Calls Try.prog 65 #[.slice A (L1 ++ L2).length c, .int .i64 at_, .func (.func 66) #[] #[]] w fun e w' => ∃ b, e = .returned (.tuple #[.int .i64 L1.length, .bool b]) ∧ Below w.heap.size w w' := by
  obtain ⟨L, hL⟩ : ∃ L, L = L1 ++ L2 := ⟨_, rfl⟩
  obtain ⟨m, hm⟩ : ∃ m, m = L1.length := ⟨_, rfl⟩
  have hA : ∀ (k : Nat) (p : Int × Int), L[k]? = some p → (p.1 < at_ ↔ k < m) ∧ 0 ≤ p.1 ∧ p.1 ≤ 65536 := fun k p hk => by rw [hL] at hk; rw [hm]; exact around_get h hk
  have hml : m ≤ L.length := by rw [hL, hm, List.length_append]; omega
  rw [← hL] at hC hn ⊢
  rw [← hm]
  have HA := Aside0.mk hA
  have HC := Aside0.mk hC
  have HN := Aside0.mk (And.intro hn hml)
  have HR := Aside0.mk (And.intro h0 h1)
  clear hA h hC hn hL hm hml h0 h1
  go_enter Try.func65, Try.ntmps65
  go_wp2
  go_loopg [9, 10] (L.length + 1) (fun kq v9 v10 w' => ∃ i j : Nat, v9 = .int .i64 i ∧ v10 = .int .i64 j ∧ Aside0 (i ≤ m ∧ m ≤ j ∧ j ≤ L.length ∧ j - i < kq) ∧ Aside0 (Below w.heap.size w w'))
  case atStart => exact ⟨0, L.length, rfl, rfl, ⟨by have := HN.out; omega⟩, ⟨Below.refl _ _⟩⟩
  case round =>
    obtain ⟨i, j, rfl, rfl, Hi, HB⟩ := hrel
    by_cases hlt : i < j
    · obtain ⟨k, hk⟩ : ∃ k : Nat, k = (i + j) / 2 := ⟨_, rfl⟩
      have hkl : k < L.length := by have := HN.out; have := Hi.out; omega
      have HK := Aside0.mk (show i ≤ k ∧ k < j by omega)
      have t1 : ((i : Int) + (j : Int)) / 2 = (k : Int) := by omega
      obtain ⟨p, hp⟩ : ∃ p, L[k]? = some p := ⟨_, List.getElem?_eq_getElem hkl⟩
      obtain ⟨ad, rfl, x0, x1⟩ := k2_at HC.out hp
      replace x0 := pw_cell_below HB.out x0
      replace x1 := pw_cell_below HB.out x1
      have HP := Aside0.mk (HA.out k p hp)
      have q1 : (i < j) = True := eq_true hlt
      have q2 : (j : Int) ≤ 1000 := by have := HN.out; have := Hi.out; omega
      have q3 : (i : Int) ≤ 1000 := by omega
      have q4 : (k < L.length) = True := eq_true hkl
      have q5 : (k : Int) ≤ 1000 := by have := HK.out; omega
      have q6 : 0 ≤ (k : Int) := by omega
      have HLT := Aside0.mk hlt
      clear hlt hk hkl hp
      go_wp2_with fail
      have hq := cmp_calls p at_ wr (by have := HP.out; omega) (by have := HP.out; omega) (by have := HR.out; omega) (by have := HR.out; omega)
      (with_reducible refine hq.mono ?_)
      clear hq
      rintro e2 w2 ⟨rfl, hb2⟩
      have HB2 := Aside0.mk (below_step HB.out hb2)
      clear hb2 x0 x1 t1
      by_cases hc : p.1 - at_ < 0
      · have d1 : decide (p.1 - at_ < 0) = true := decide_eq_true hc
        have HC2 := Aside0.mk (show k < m from HP.out.1.1 (by omega))
        clear hc
        go_wp2_with fail
        go_roundg (gk - 1)
        case measure => have := Hi.out; have := HLT.out; omega
        case rel => exact ⟨k + 1, j, by go_num, rfl, ⟨by have := Hi.out; have := HK.out; have := HC2.out; omega⟩, HB2⟩
      · have d1 : decide (p.1 - at_ < 0) = false := decide_eq_false hc
        have HC2 := Aside0.mk (show m ≤ k from Nat.not_lt.1 fun h => hc (by have := HP.out.1.2 h; omega))
        clear hc
        go_wp2_with fail
        go_roundg (gk - 1)
        case measure => have := Hi.out; have := HLT.out; omega
        case rel => exact ⟨i, k, rfl, rfl, ⟨by have := Hi.out; have := HK.out; have := HC2.out; omega⟩, HB2⟩
    · have d1 : (i < j) = False := eq_false hlt
      obtain rfl : i = m := by have := Hi.out; omega
      by_cases hz : i < L.length
      · obtain ⟨p, hp⟩ : ∃ p, L[i]? = some p := ⟨_, List.getElem?_eq_getElem hz⟩
        obtain ⟨ad, rfl, x0, x1⟩ := k2_at HC.out hp
        replace x0 := pw_cell_below HB.out x0
        replace x1 := pw_cell_below HB.out x1
        have HP := Aside0.mk (HA.out i p hp)
        have q4 : (i < L.length) = True := eq_true hz
        have q5 : (i : Int) ≤ 1000 := by have := HN.out; omega
        have q6 : 0 ≤ (i : Int) := by omega
        clear hlt hz hp
        go_wp2_with fail
        have hq := cmp_calls p at_ wr (by have := HP.out; omega) (by have := HP.out; omega) (by have := HR.out; omega) (by have := HR.out; omega)
        (with_reducible refine hq.mono ?_)
        clear hq
        rintro e2 w2 ⟨rfl, hb2⟩
        have HB2 := Aside0.mk (below_step HB.out hb2)
        clear hb2 x0 x1
        go_wp2_with fail
        go_ret2
        exact ⟨_, by rfl, HB2.out⟩
      · have q4 : (i < L.length) = False := eq_false hz
        clear hlt hz
        go_wp2_with fail
        go_ret2
        exact ⟨_, by rfl, HB.out⟩
end Go.Proofs.Ytkeijpngfnmjoaa.MineHeap
