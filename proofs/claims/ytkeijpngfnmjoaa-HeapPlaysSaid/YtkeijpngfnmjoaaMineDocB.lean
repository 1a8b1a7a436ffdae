/- HeapPlays: the document's Take. Conditions: the words are the holes. -/
import Derived.Test.YtkeijpngfnmjoaaMineDocA
namespace Go.Proofs.Ytkeijpngfnmjoaa.MineHeap
open Go.RowKit Go.MapKept Go.Proofs.YtkeijpngfnmjoaaW.PrintWords Go.Proofs.YtkeijpngfnmjoaaW.PrintLast Go.Proofs.YtkeijpngfnmjoaaW.PrintMore Go.Proofs.Ytkeijpngfnmjoaa.MineBase Go.Proofs.Ytkeijpngfnmjoaa.MineSep Go.Proofs.Ytkeijpngfnmjoaa.MineRows Go.Proofs.Ytkeijpngfnmjoaa.MineGen Go.Proofs.Ytkeijpngfnmjoaa.QHeapPlays
attribute [local go_sem] Go.Proofs.Ytkeijpngfnmjoaa.MineErr.eql_err Go.Proofs.Ytkeijpngfnmjoaa.MineErr.neq_err Go.Proofs.Ytkeijpngfnmjoaa.MineErr.eql_nil_err Go.Proofs.Ytkeijpngfnmjoaa.MineErr.neq_nil_err
attribute [local go_sem ↓] Go.wp_at_zero Go.wp_at_succ
set_option linter.unusedVariables false
set_option linter.unusedSimpArgs false
set_option maxRecDepth 100000 in
set_option maxHeartbeats 2000000 in
theorem DTake_bad (v : Value) (n : Int) (h : ¬ sizeOk n) (w : World) : Calls Try.prog 28 #[v, .int .i64 n] w fun e w' => e = .returned (.tuple #[.int .i64 0, .int .i64 1]) ∧ Below w.heap.size w w' := by
  by_cases h1 : n < 1
  · have d1 : decide (n < 1) = true := decide_eq_true h1
    have p1 : (n < 1) = True := eq_true h1
    clear h
    go_enter Try.func28, Try.ntmps28
    go_wp2_with fail
    go_ret2
    exact ⟨by rfl, Below.refl _ _⟩
  · have d1 : decide (n < 1) = false := decide_eq_false h1
    have p1 : (n < 1) = False := eq_false h1
    have h2 : 65536 < n := by unfold sizeOk at h; omega
    have d2 : decide (65536 < n) = true := decide_eq_true h2
    have p2 : (65536 < n) = True := eq_true h2
    clear h h1 h2
    go_enter Try.func28, Try.ntmps28
    go_wp2_with fail
    go_ret2
    exact ⟨by rfl, Below.refl _ _⟩
set_option maxRecDepth 100000 in
set_option maxHeartbeats 2000000 in
theorem DTake_none {w0 w : World} {l : List Asn} {lo hi : Int} {g : Nat} {F : List Bool} (HS : Sat w0 w (ADocH lo hi w0.heap.size g F :: l)) (hF : F.length ≤ 1024) (n : Int) (h : sizeOk n) (m : Nat) (hm : (n + 3) / 4 = m) (hN : NoRun F m F.length) :
    Calls Try.prog 28 #[.pointer (some ⟨g, 0, none⟩), .int .i64 n] w fun e w' => e = .returned (.tuple #[.int .i64 0, .int .i64 9]) ∧ Sat w0 w' (ADocH lo hi w0.heap.size g F :: l) := by
  have HM := Aside0.mk (show 0 < m ∧ m ≤ 16384 from by have := h.1; have := h.2; omega)
  have HFL := Aside0.mk hF
  have HN := Aside0.mk hN
  have d1 : decide (n < 1) = false := decide_eq_false (by have := h.1; omega)
  have d2 : decide (65536 < n) = false := decide_eq_false (by have := h.2; omega)
  have p1 : 1 ≤ n := h.1
  have p2 : n ≤ 65536 := h.2
  replace HS := Aside0.mk HS
  clear h hF hN
  go_enter Try.func28, Try.ntmps28
  go_wp2_with fail
  rw [hm]
  clear p1 p2 d1 d2 hm
  go_loopg [7, 8] (F.length + 1) (fun kq v7 v8 w' => ∃ i row : Nat, v7 = .int .i64 row ∧ v8 = .int .i64 i ∧ Aside0 (i ≤ F.length ∧ F.length - i < kq) ∧ Aside0 (RunIs F i row ∧ row < m) ∧ Aside0 (Sat w0 w' (ADocH lo hi w0.heap.size g F :: l)))
  case atStart => exact ⟨0, 0, rfl, rfl, ⟨by omega⟩, ⟨run_zero F, HM.out.1⟩, HS⟩
  case round =>
    clear HS
    obtain ⟨i, row, rfl, rfl, Hi, HR, HW⟩ := hrel
    by_cases hlt : i < F.length
    · obtain ⟨b, hb⟩ : ∃ b, F[i]? = some b := ⟨_, List.getElem?_eq_getElem hlt⟩
      obtain ⟨g3, c, hg, hlc, _, x1, _, _⟩ := doc_bool HW.out hb
      have x0 : wr.cell? ⟨g, 2, none⟩ = some (.slice (some ⟨g3, 0, none⟩) F.length c) := get_cell hg 2
      have q1 : (i < F.length) = True := eq_true hlt
      have q2 : (i : Int) ≤ 1024 := by have := HFL.out; omega
      have q3 : 0 ≤ (i : Int) := by omega
      have q4 : (row : Int) ≤ 16384 := by have := HM.out; have := HR.out.2; omega
      have q5 : 0 ≤ (row : Int) := by omega
      have HB := Aside0.mk hb
      clear hg hlc hlt hb
      cases b with
      | true =>
        have HR2 := Aside0.mk (run_true HR.out.1 HB.out)
        have hne : row + 1 ≠ m := fun e => by
          have h2 := HR2.out
          rw [e] at h2
          exact run_no h2 HM.out.1 (by have := of_eq_true q1; omega) HN.out (by have := HM.out; have := of_eq_true q1; omega)
        have HNE := Aside0.mk (show row + 1 < m from by have := HR.out.2; omega)
        have e1 : (((row : Int) + 1) == (m : Int)) = false := by simpa using (show ¬ ((row : Int) + 1 = m) by omega)
        have e2 : ((row : Int) + 1 = (m : Int)) = False := eq_false (by omega)
        clear hne
        go_wp2_with fail
        go_roundg (gk - 1)
        case measure => have := Hi.out; have := of_eq_true q1; omega
        case rel => exact ⟨i + 1, row + 1, by go_num, by go_num, ⟨by have := Hi.out; have := of_eq_true q1; omega⟩, ⟨HR2.out, HNE.out⟩, HW⟩
      | false =>
        have HR2 := Aside0.mk (run_false HB.out)
        have e1 : ((0 : Int) == (m : Int)) = false := by simpa using (show ¬ ((0 : Int) = m) by have := HM.out; omega)
        have e2 : ((0 : Int) = (m : Int)) = False := eq_false (by have := HM.out; omega)
        go_wp2_with fail
        go_roundg (gk - 1)
        case measure => have := Hi.out; have := of_eq_true q1; omega
        case rel => exact ⟨i + 1, 0, by go_num, by go_num, ⟨by have := Hi.out; have := of_eq_true q1; omega⟩, ⟨HR2.out, HM.out.1⟩, HW⟩
    · obtain ⟨A, c, hg, hlc, hC⟩ := box_read HW.out
      have x0 : wr.cell? ⟨g, 2, none⟩ = some (.slice A F.length c) := get_cell hg 2
      have q1 : (i < F.length) = False := eq_false hlt
      clear hg hlc hC hlt
      go_wp2_with fail
      go_ret2
      exact ⟨by rfl, HW.out⟩
set_option maxRecDepth 100000 in
set_option maxHeartbeats 2000000 in
theorem DTake_some {w0 w : World} {l : List Asn} {lo hi : Int} {g : Nat} {F : List Bool} (HS : Sat w0 w (ADocH lo hi w0.heap.size g F :: l)) (hF : F.length ≤ 1024) (n : Int) (h : sizeOk n) (m : Nat) (hm : (n + 3) / 4 = m) (s : Nat) (hs : s + m ≤ F.length) (hN : NoRun F m s) (hall : ∀ j, s ≤ j → j < s + m → F[j]? = some true) (hlo : 0 ≤ lo) (hlo2 : lo ≤ 65536) :
    Calls Try.prog 28 #[.pointer (some ⟨g, 0, none⟩), .int .i64 n] w fun e w' => e = .returned (.tuple #[.int .i64 (lo + 4 * s), .int .i64 0]) ∧ Sat w0 w' (ADocH lo hi w0.heap.size g (setR F s false m) :: l) := by
  have HM := Aside0.mk (show 0 < m ∧ m ≤ 16384 from by have := h.1; have := h.2; omega)
  have HFL := Aside0.mk hF
  have HN := Aside0.mk hN
  have HA := Aside0.mk hall
  have HSM := Aside0.mk hs
  have d1 : decide (n < 1) = false := decide_eq_false (by have := h.1; omega)
  have d2 : decide (65536 < n) = false := decide_eq_false (by have := h.2; omega)
  have p1 : 1 ≤ n := h.1
  have p2 : n ≤ 65536 := h.2
  replace HS := Aside0.mk HS
  clear h hF hN hall hs
  go_enter Try.func28, Try.ntmps28
  go_wp2_with fail
  rw [hm]
  clear p1 p2 d1 d2 hm
  go_loopg [7, 8] (F.length + 1) (fun kq v7 v8 w' => ∃ i row : Nat, v7 = .int .i64 row ∧ v8 = .int .i64 i ∧ Aside0 (i < s + m ∧ F.length - i < kq) ∧ Aside0 (RunIs F i row ∧ row < m) ∧ Aside0 (Sat w0 w' (ADocH lo hi w0.heap.size g F :: l)))
  case atStart => exact ⟨0, 0, rfl, rfl, ⟨by have := HM.out; omega⟩, ⟨run_zero F, HM.out.1⟩, HS⟩
  case round =>
    clear HS
    obtain ⟨i, row, rfl, rfl, Hi, HR, HW⟩ := hrel
    have hlt : i < F.length := by have := Hi.out; have := HSM.out; omega
    obtain ⟨b, hb⟩ : ∃ b, F[i]? = some b := ⟨_, List.getElem?_eq_getElem hlt⟩
    obtain ⟨g3, c, hg, hlc, _, x1, _, _⟩ := doc_bool HW.out hb
    have x0 : wr.cell? ⟨g, 2, none⟩ = some (.slice (some ⟨g3, 0, none⟩) F.length c) := get_cell hg 2
    have q1 : (i < F.length) = True := eq_true hlt
    have q2 : (i : Int) ≤ 1024 := by have := HFL.out; omega
    have q3 : 0 ≤ (i : Int) := by omega
    have q4 : (row : Int) ≤ 16384 := by have := HM.out; have := HR.out.2; omega
    have q5 : 0 ≤ (row : Int) := by omega
    have HB := Aside0.mk hb
    clear hg hlc hlt hb
    cases b with
    | false =>
      have HR2 := Aside0.mk (run_false HB.out)
      have hne : i + 1 ≠ s + m := fun e => by
        have h1 := HA.out i (by have := HM.out; omega) (by omega)
        have h2 := HB.out
        rw [h1] at h2
        cases h2
      have HNE := Aside0.mk (show i + 1 < s + m from by have := Hi.out; omega)
      have e1 : ((0 : Int) == (m : Int)) = false := by simpa using (show ¬ ((0 : Int) = m) by have := HM.out; omega)
      have e2 : ((0 : Int) = (m : Int)) = False := eq_false (by have := HM.out; omega)
      clear hne
      go_wp2_with fail
      go_roundg (gk - 1)
      case measure => have := Hi.out; have := of_eq_true q1; omega
      case rel => exact ⟨i + 1, 0, by go_num, by go_num, ⟨by have := HNE.out; have := Hi.out; have := of_eq_true q1; omega⟩, ⟨HR2.out, HM.out.1⟩, HW⟩
    | true =>
      have HR2 := Aside0.mk (run_true HR.out.1 HB.out)
      by_cases hend : i + 1 = s + m
      · have hrow : row + 1 = m := by
          have h2 := HR2.out
          rw [hend] at h2
          have := run_hit h2 HA.out
          have := HR.out.2
          omega
        have HE := Aside0.mk (And.intro hend hrow)
        have e1 : (((row : Int) + 1) == (m : Int)) = true := by simpa using (show ((row : Int) + 1 = m) by omega)
        have e2 : ((row : Int) + 1 = (m : Int)) = True := eq_true (by omega)
        have HMI := Aside0.mk (show (m : Int) ≤ 1024 ∧ 0 < (m : Int) from by have := HM.out; have := HSM.out; have := HFL.out; omega)
        have q6 : (m : Int) ≤ 1024 := HMI.out.1
        have q7 : 0 < (m : Int) := HMI.out.2
        clear hend hrow
        go_wp2_with fail
        obtain ⟨ki, hki⟩ : ∃ ki : Int, ki = (i : Int) - m + 1 := ⟨_, rfl⟩
        go_loopg [9] (m + 1) (fun kq v9 w' => ∃ j : Nat, v9 = .int .i64 ((s : Int) + j) ∧ Aside0 (j ≤ m ∧ m - j < kq) ∧ Aside0 (Sat w0 w' (ADocH lo hi w0.heap.size g (setR F s false j) :: l)))
        case atStart => exact ⟨0, congrArg _ (by have := HE.out; omega), ⟨by omega⟩, HW⟩
        case round =>
          obtain ⟨gk2, rfl⟩ : ∃ x, x = gk := ⟨gk, rfl⟩
          obtain ⟨j, rfl, Hj, HW2⟩ := hrel
          clear x0 x1
          have y2 : (s : Int) + j ≤ 1024 := by have := HFL.out; have := HSM.out; have := Hj.out; omega
          have y3 : 0 ≤ (s : Int) + j := by omega
          have y4 : ((s : Int) + j).toNat = s + j := by omega
          by_cases hjm : j < m
          · have hsl : s + j < (setR F s false j).length := by rw [setR_len]; have := HSM.out; omega
            obtain ⟨b, hb⟩ : ∃ b, (setR F s false j)[s + j]? = some b := ⟨_, List.getElem?_eq_getElem hsl⟩
            obtain ⟨g4, c4, hg4, hlc4, hgg, z1, f1, hset⟩ := doc_bool HW2.out hb
            have z0 : wr.cell? ⟨g, 2, none⟩ = some (.slice (some ⟨g4, 0, none⟩) F.length c4) := by rw [← setR_len F s false j]; exact get_cell hg4 2
            have HS3 := Aside0.mk (hset false)
            have y1 : ((s : Int) + j ≤ (i : Int)) = True := eq_true (by have := HE.out; omega)
            have y5 : (s : Int) + j < (F.length : Int) := by have := HSM.out; omega
            have y6 : s + j < F.length := by have := HSM.out; omega
            have HJM := Aside0.mk hjm
            clear hg4 hlc4 hgg hset hjm hsl hb
            go_wp2_with fail
            go_roundg (gk2 - 1)
            case measure => have := Hj.out; have := HJM.out; omega
            case rel => exact ⟨j + 1, by go_num, ⟨by have := Hj.out; have := HJM.out; omega⟩, HS3⟩
          · have hjm2 : j = m := by have := Hj.out; omega
            subst hjm2
            obtain ⟨A4, c4, hg4, hlc4, hC4⟩ := box_read HW2.out
            have z0 : wr.cell? ⟨g, 0, none⟩ = some (.int .i64 lo) := get_cell hg4 0
            have y1 : ((s : Int) + j ≤ (i : Int)) = False := eq_false (by have := HE.out; omega)
            have HS4 := Aside0.mk (show (i : Int) - j + 1 = s from by have := HE.out; omega)
            clear hg4 hlc4 hC4 hjm
            go_wp2_with fail
            rw [HS4.out]
            go_ret2
            exact ⟨by rfl, HW2.out⟩
      · have hne : row + 1 ≠ m := fun e => by
          have h2 := HR2.out
          rw [e] at h2
          exact run_no h2 HM.out.1 (by have := of_eq_true q1; omega) HN.out (by have := HM.out; have := Hi.out; have := h2.1; omega)
        have HNE := Aside0.mk (show row + 1 < m ∧ i + 1 < s + m from by have := HR.out.2; have := Hi.out; omega)
        have e1 : (((row : Int) + 1) == (m : Int)) = false := by simpa using (show ¬ ((row : Int) + 1 = m) by omega)
        have e2 : ((row : Int) + 1 = (m : Int)) = False := eq_false (by omega)
        clear hne hend
        go_wp2_with fail
        go_roundg (gk - 1)
        case measure => have := Hi.out; have := of_eq_true q1; omega
        case rel => exact ⟨i + 1, row + 1, by go_num, by go_num, ⟨by have := HNE.out; have := Hi.out; have := of_eq_true q1; omega⟩, ⟨HR2.out, HNE.out.1⟩, HW⟩
end Go.Proofs.Ytkeijpngfnmjoaa.MineHeap
