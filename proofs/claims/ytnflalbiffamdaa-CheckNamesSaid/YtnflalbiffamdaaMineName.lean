/- Names, in plain words: the program and the document tell alike whether a text is a name. Condition: the text is not too long for a machine. -/
import Derived.Test.YtnflalbiffamdaaQCheckTellsx4
import Derived.Test.YtnflalbiffamdaaQCheckTellsx6
namespace Go.Proofs.Ytnflalbiffamdaa.MineName
open Go.RowKit Go.Proofs.Ytnflalbiffamdaa.QCheckTells Go.Proofs.YtnflalbiffamdaaW.PrintWords Go.Proofs.YtnflalbiffamdaaW.PrintLast
def isL (c : Int) : Bool := decide (97 ≤ c ∧ c ≤ 122 ∨ 65 ≤ c ∧ c ≤ 90)
def isLD (c : Int) : Bool := isL c || decide (48 ≤ c ∧ c ≤ 57)
/-- All signs from place i on, d of them, are letters or digits. -/
def allD (s : ByteArray) : Nat → Int → Bool
  | 0, _ => true
  | d + 1, i => isLD (bt s i) && allD s d (i + 1)
theorem letter_eq (c : Int) : name_letter.f c = some (isL c) := by
  unfold name_letter.f isL
  split
  · split
    · congr 1; symm; rw [decide_eq_true_iff]; omega
    · split
      · congr 1; rw [decide_eq_decide]; omega
      · congr 1; symm; rw [decide_eq_false_iff_not]; omega
  · split
    · congr 1; rw [decide_eq_decide]; omega
    · congr 1; symm; rw [decide_eq_false_iff_not]; omega
theorem wrap_up {i : Int} {n : Nat} (h0 : 0 ≤ i) (h : i < (n : Int)) (hn : n ≤ 140737488351232) : wrap64 (i + 1) = i + 1 := by
  unfold wrap64; omega
theorem may_loop (s : ByteArray) (hn : s.size ≤ 140737488351232) (d : Nat) : ∀ (k : Nat) (i : Int), 0 ≤ i → i + d = s.size → d < k →
    name_May.l0 k s (s.size : Int) i = some (allD s d i) := by
  induction d with
  | zero =>
    intro k i h0 hd hk
    obtain ⟨k, rfl⟩ : ∃ m, k = m + 1 := ⟨k - 1, by omega⟩
    simp only [name_May.l0, allD]; rw [if_neg (by omega)]
  | succ d ih =>
    intro k i h0 hd hk
    obtain ⟨k, rfl⟩ : ∃ m, k = m + 1 := ⟨k - 1, by omega⟩
    have hlt : i < (s.size : Int) := by omega
    simp only [name_May.l0, allD]
    rw [if_pos hlt, if_pos h0, if_pos hlt, letter_eq, Option.bind_some, wrap_up h0 hlt hn, ih k (i + 1) (by omega) (by omega) (by omega)]
    have hb := bt_range s i
    unfold isLD
    cases hl : isL (bt s i)
    · simp only [Bool.false_eq_true, if_false, Bool.false_or]
      by_cases h1 : bt s i < 48
      · rw [if_pos h1]; simp; omega
      · rw [if_neg h1]
        by_cases h2 : bt s i > 57
        · rw [if_pos h2]; simp; omega
        · rw [if_neg h2, decide_eq_true (by omega)]; rfl
    · simp
/-- What May tells. -/
def nameB (s : ByteArray) : Bool := decide (1 ≤ s.size ∧ s.size ≤ 16) && isL (bt s 0) && allD s s.size 0
theorem toList_nil (s : ByteArray) : s.toList = ([] : List UInt8) ↔ s.size = 0 := by
  have e : s.toList.length = s.size := by rw [ByteArray.toList_eq]; exact data_length s
  rw [← List.length_eq_zero_iff, e]
theorem may_eq (s : ByteArray) (hn : s.size ≤ 140737488351232) (k : Nat) (hk : s.size + 1 < k) : name_May.f k s = some (nameB s) := by
  obtain ⟨k, rfl⟩ : ∃ m, k = m + 1 := ⟨k - 1, by omega⟩
  unfold name_May.f nameB
  by_cases h0 : s.toList = ([] : List UInt8)
  · rw [if_pos h0]
    have := (toList_nil s).1 h0
    simp only [name_May.j0, if_true]; simp [this]
  · rw [if_neg h0]
    have h1 : s.size ≠ 0 := fun h => h0 ((toList_nil s).2 h)
    by_cases h2 : (s.size : Int) > 16
    · rw [if_pos h2]; simp only [name_May.j0, if_true]
      rw [decide_eq_false (by omega)]; rfl
    · rw [if_neg h2, if_pos (by omega), letter_eq, Option.bind_some, decide_eq_true (by omega)]
      simp only [name_May.j0]
      cases hl : isL (bt s 0)
      · simp
      · simp only [Bool.not_true, Bool.false_eq_true, if_false, Bool.true_and]
        exact may_loop s hn s.size k 0 (by omega) (by omega) (by omega)
/-- The reference's loop, behind place 0. -/
theorem ref_loop (s : ByteArray) (hn : s.size ≤ 140737488351232) (d : Nat) : ∀ (k : Nat) (i : Int), 0 < i → i + d = s.size → d < k →
    dowelref09_Name.l0 k s i = some (allD s d i && decide (s.size ≤ 16)) := by
  induction d with
  | zero =>
    intro k i h0 hd hk
    obtain ⟨k, rfl⟩ : ∃ m, k = m + 1 := ⟨k - 1, by omega⟩
    simp only [dowelref09_Name.l0, allD]; rw [if_neg (by omega), if_pos (by omega)]
    congr 1; rw [Bool.true_and, decide_eq_decide]; omega
  | succ d ih =>
    intro k i h0 hd hk
    obtain ⟨k, rfl⟩ : ∃ m, k = m + 1 := ⟨k - 1, by omega⟩
    have hlt : i < (s.size : Int) := by omega
    simp only [dowelref09_Name.l0, allD]
    rw [if_pos hlt, if_pos (by omega), wrap_up (by omega) hlt hn, ih k (i + 1) (by omega) (by omega) (by omega)]
    have hb := bt_range s i
    have hD : isLD (bt s i) = decide (97 ≤ bt s i ∧ bt s i ≤ 122 ∨ 65 ≤ bt s i ∧ bt s i ≤ 90 ∨ 48 ≤ bt s i ∧ bt s i ≤ 57) := by
      unfold isLD isL; rw [← Bool.decide_or, decide_eq_decide]; omega
    by_cases hc : 97 ≤ bt s i ∧ bt s i ≤ 122 ∨ 65 ≤ bt s i ∧ bt s i ≤ 90 ∨ 48 ≤ bt s i ∧ bt s i ≤ 57
    · rw [hD, decide_eq_true hc, Bool.true_and]
      repeat' split
      all_goals first | rfl | omega
    · rw [hD, decide_eq_false hc, Bool.false_and, Bool.false_and]
      repeat' split
      all_goals first | rfl | omega
theorem ref_eq (s : ByteArray) (hn : s.size ≤ 140737488351232) (k : Nat) (hk : s.size < k) : dowelref09_Name.f k s = some (nameB s) := by
  unfold dowelref09_Name.f nameB
  obtain ⟨k, rfl⟩ : ∃ m, k = m + 1 := ⟨k - 1, by omega⟩
  by_cases h1 : s.size = 0
  · simp only [dowelref09_Name.l0]; rw [if_neg (by omega), if_neg (by omega)]; simp [h1]
  · obtain ⟨d, hd⟩ : ∃ d, s.size = d + 1 := ⟨s.size - 1, by omega⟩
    rw [hd]; simp only [allD]; rw [← hd]
    simp only [dowelref09_Name.l0]
    rw [if_pos (by omega), if_pos (by omega), wrap_up (by omega) (show (0 : Int) < s.size by omega) hn, ref_loop s hn d k (0 + 1) (by omega) (by omega) (by omega)]
    have hb := bt_range s 0
    have hL : isLD (bt s 0) = (isL (bt s 0) || decide (48 ≤ bt s 0 ∧ bt s 0 ≤ 57)) := rfl
    cases hl : isL (bt s 0)
    · unfold isL at hl
      have hl' := of_decide_eq_false hl
      simp only [Bool.and_false, Bool.false_and]
      repeat' split
      all_goals first | rfl | omega
    · unfold isL at hl
      have hl' := of_decide_eq_true hl
      have hs : decide (1 ≤ s.size ∧ s.size ≤ 16) = decide (s.size ≤ 16) := by rw [decide_eq_decide]; omega
      have hD : isLD (bt s 0) = true := by unfold isLD isL; simp; omega
      rw [hs, hD]
      simp only [Bool.true_and, Bool.and_true]
      have hc : (allD s d (0 + 1) && decide (s.size ≤ 16)) = (decide (s.size ≤ 16) && allD s d (0 + 1)) := Bool.and_comm _ _
      rw [hc]
      repeat' split
      all_goals first | rfl | omega
end Go.Proofs.Ytnflalbiffamdaa.MineName
