/- NameGrows: for every string (and number) the law returns true: what may be a name grows by letters and digits up to 16 signs, and each of its beginnings but the empty one is a name. No condition. -/
import Derived.Test.YtfoecgcjipckmaaPNameGrowsx1
namespace Go.Proofs.Ytfoecgcjipckmaa.Pure
open Go.RowKit Go.Proofs.Ytfoecgcjipckmaa.PNameGrows Go.Proofs.YtfoecgcjipckmaaW.PrintWords Go.Proofs.YtfoecgcjipckmaaW.PrintLast

def isL (c : Int) : Bool := decide (97 ≤ c ∧ c ≤ 122 ∨ 65 ≤ c ∧ c ≤ 90)
def isLD (c : Int) : Bool := isL c || decide (48 ≤ c ∧ c ≤ 57)
/-- All signs from place i on, d of them, are letters or digits. -/
def allD (s : ByteArray) : Nat → Int → Bool
  | 0, _ => true
  | d + 1, i => isLD (bt s i) && allD s d (i + 1)
theorem letter_eq (c : Int) : name_letter.f c = some (isL c) := by
  unfold name_letter.f isL
  split
  · split
    · congr 1; symm; rw [decide_eq_true_iff]; omega
    · split
      · congr 1; rw [decide_eq_decide]; omega
      · congr 1; symm; rw [decide_eq_false_iff_not]; omega
  · split
    · congr 1; rw [decide_eq_decide]; omega
    · congr 1; symm; rw [decide_eq_false_iff_not]; omega
theorem wrap_up {i : Int} {n : Nat} (h0 : 0 ≤ i) (h : i < (n : Int)) (hn : n ≤ 140737488351232) : wrap64 (i + 1) = i + 1 := by
  unfold wrap64; omega
theorem may_loop (s : ByteArray) (hn : s.size ≤ 140737488351232) (d : Nat) : ∀ (k : Nat) (i : Int), 0 ≤ i → i + d = s.size → d < k →
    name_May.l0 k s (s.size : Int) i = some (allD s d i) := by
  induction d with
  | zero =>
    intro k i h0 hd hk
    obtain ⟨k, rfl⟩ : ∃ m, k = m + 1 := ⟨k - 1, by omega⟩
    simp only [name_May.l0, allD]; rw [if_neg (by omega)]
  | succ d ih =>
    intro k i h0 hd hk
    obtain ⟨k, rfl⟩ : ∃ m, k = m + 1 := ⟨k - 1, by omega⟩
    have hlt : i < (s.size : Int) := by omega
    simp only [name_May.l0, allD]
    rw [if_pos hlt, if_pos h0, if_pos hlt, letter_eq, Option.bind_some, wrap_up h0 hlt hn, ih k (i + 1) (by omega) (by omega) (by omega)]
    have hb := bt_range s i
    unfold isLD
    cases hl : isL (bt s i)
    · simp only [Bool.false_eq_true, if_false, Bool.false_or]
      by_cases h1 : bt s i < 48
      · rw [if_pos h1]; simp; omega
      · rw [if_neg h1]
        by_cases h2 : bt s i > 57
        · rw [if_pos h2]; simp; omega
        · rw [if_neg h2, decide_eq_true (by omega)]; rfl
    · simp
/-- What May tells. -/
def mayB (s : ByteArray) : Bool := decide (1 ≤ s.size ∧ s.size ≤ 16) && isL (bt s 0) && allD s s.size 0
theorem toList_nil (s : ByteArray) : s.toList = ([] : List UInt8) ↔ s.size = 0 := by
  have e : s.toList.length = s.size := by rw [ByteArray.toList_eq]; exact data_length s
  rw [← List.length_eq_zero_iff, e]
theorem may_eq (s : ByteArray) (hn : s.size ≤ 140737488351232) (k : Nat) (hk : s.size + 1 < k) : name_May.f k s = some (mayB s) := by
  obtain ⟨k, rfl⟩ : ∃ m, k = m + 1 := ⟨k - 1, by omega⟩
  unfold name_May.f mayB
  by_cases h0 : s.toList = ([] : List UInt8)
  · rw [if_pos h0]
    have := (toList_nil s).1 h0
    simp only [name_May.j0, if_true]; simp [this]
  · rw [if_neg h0]
    have h1 : s.size ≠ 0 := fun h => h0 ((toList_nil s).2 h)
    by_cases h2 : (s.size : Int) > 16
    · rw [if_pos h2]; simp only [name_May.j0, if_true]
      rw [decide_eq_false (by omega)]; rfl
    · rw [if_neg h2, if_pos (by omega), letter_eq, Option.bind_some, decide_eq_true (by omega)]
      simp only [name_May.j0]
      cases hl : isL (bt s 0)
      · simp
      · simp only [Bool.not_true, Bool.false_eq_true, if_false, Bool.true_and]
        exact may_loop s hn s.size k 0 (by omega) (by omega) (by omega)
theorem up_eq : ∀ k, 20 < k → dowellaw09_up.f k = some true := by
  intro k hk
  unfold dowellaw09_up.f
  rw [may_eq _ (by decide) k (by simp [ByteArray.size]; omega), may_eq _ (by decide) k (by simp [ByteArray.size]; omega), may_eq _ (by decide) k (by simp [ByteArray.size]; omega)]
  decide

/-- The same, over the list of bytes. -/
def mayL (l : List Int) : Bool := decide (1 ≤ l.length ∧ l.length ≤ 16) && isL (l.getD 0 0) && l.all isLD
def by_ (s : ByteArray) : List Int := s.data.toList.map fun c => (c.toNat : Int)
theorem by_length (s : ByteArray) : (by_ s).length = s.size := by unfold by_; rw [List.length_map]; exact data_length s
theorem bt_by (s : ByteArray) (i : Nat) : bt s i = (by_ s).getD i 0 := by
  unfold bt by_
  by_cases h : i < s.size
  · have h' : (i : Int).toNat < s.size := by omega
    rw [dif_pos h']
    have e : i < s.data.toList.length := by rw [data_length]; exact h
    rw [List.getD_eq_getElem?_getD, List.getElem?_map, List.getElem?_eq_getElem e]
    simp; rfl
  · have h' : ¬ (i : Int).toNat < s.size := by omega
    rw [dif_neg h', List.getD_eq_getElem?_getD, List.getElem?_eq_none (by rw [List.length_map, data_length]; omega)]; rfl
theorem allD_by (s : ByteArray) (d : Nat) : ∀ i : Nat, i + d = s.size → allD s d i = ((by_ s).drop i).all isLD := by
  induction d with
  | zero => intro i h; rw [List.drop_eq_nil_of_le (by rw [by_length]; omega)]; rfl
  | succ d ih =>
    intro i h
    have hl : i < (by_ s).length := by rw [by_length]; omega
    rw [List.drop_eq_getElem_cons hl, List.all_cons, ← ih (i + 1) (by omega)]
    have e : bt s i = (by_ s)[i] := by rw [bt_by, List.getD_eq_getElem?_getD, List.getElem?_eq_getElem hl]; rfl
    simp only [allD]; rw [e]; rfl
theorem mayB_by (s : ByteArray) : mayB s = mayL (by_ s) := by
  unfold mayB mayL
  rw [by_length]
  have h0 := bt_by s 0
  have h1 := allD_by s s.size 0 (by omega)
  rw [List.drop_zero] at h1
  rw [← h1, ← h0]; rfl
theorem by_append (a b : ByteArray) : by_ (a ++ b) = by_ a ++ by_ b := by
  unfold by_; rw [ByteArray.data_append, Array.toList_append, List.map_append]
theorem by_extract (a : ByteArray) (n : Nat) : by_ (a.extract 0 n) = (by_ a).take n := by
  unfold by_; rw [ByteArray.data_extract]; simp [List.map_take]
theorem size_by {s : ByteArray} {n : Nat} (h : (by_ s).length = n) : s.size = n := by rw [← by_length]; exact h
theorem may_snoc (l : List Int) (c : Int) (h : mayL l = true) : mayL (l ++ [c]) = (decide (l.length < 16) && isLD c) := by
  unfold mayL at *
  simp only [Bool.and_eq_true, decide_eq_true_eq] at h
  obtain ⟨⟨⟨h1, h2⟩, h3⟩, h4⟩ := h
  have e : (l ++ [c]).getD 0 0 = l.getD 0 0 := by
    cases l with
    | nil => simp at h1
    | cons x t => rfl
  rw [e, h3, List.all_append, h4]
  simp only [List.length_append, List.length_cons, List.length_nil, Bool.and_true, Bool.true_and, List.all_cons, List.all_nil]
  congr 1; rw [decide_eq_decide]; omega
theorem may_take (l : List Int) (n : Nat) (h : mayL l = true) (hn : n ≤ l.length) : mayL (l.take n) = decide (0 < n) := by
  unfold mayL at *
  simp only [Bool.and_eq_true, decide_eq_true_eq] at h
  obtain ⟨⟨⟨h1, h2⟩, h3⟩, h4⟩ := h
  rw [List.length_take]
  cases n with
  | zero => simp
  | succ n =>
    have e : (l.take (n + 1)).getD 0 0 = l.getD 0 0 := by
      cases l with
      | nil => simp at h1
      | cons x t => rfl
    have ha : (l.take (n + 1)).all isLD = true := by
      rw [List.all_eq_true] at *
      intro x hx; exact h4 x (List.mem_of_mem_take hx)
    rw [e, h3, ha, decide_eq_true (by omega)]; simp
theorem grows_loop (s : ByteArray) (hn : s.size ≤ 16) (hm : mayB s = true) (d : Nat) : ∀ (k : Nat) (i : Int), 0 ≤ i → i + d = s.size + 1 → 40 + d < k →
    dowellaw09_NameGrows.l0 k s true i = some true := by
  induction d with
  | zero =>
    intro k i h0 hd hk
    obtain ⟨k, rfl⟩ : ∃ m, k = m + 1 := ⟨k - 1, by omega⟩
    simp only [dowellaw09_NameGrows.l0]; rw [if_neg (by omega)]
  | succ d ih =>
    intro k i h0 hd hk
    obtain ⟨k, rfl⟩ : ∃ m, k = m + 1 := ⟨k - 1, by omega⟩
    have hz : (s.extract 0 i.toNat).size ≤ 16 := by
      have := by_length (s.extract 0 i.toNat)
      rw [by_extract, List.length_take, by_length] at this; omega
    simp only [dowellaw09_NameGrows.l0]
    rw [if_pos (by omega), if_pos h0, may_eq _ (by omega) k (by omega), Option.bind_some, mayB_by, by_extract, may_take _ _ (by rw [← mayB_by]; exact hm) (by rw [by_length]; omega), show wrap64 (i + 1) = i + 1 by unfold wrap64; omega, ih k (i + 1) (by omega) (by omega) (by omega)]
    have : (decide (0 < i.toNat) != decide (i > 0)) = false := by
      rw [show decide (0 < i.toNat) = decide (i > 0) by rw [decide_eq_decide]; omega]; simp
    rw [this]; rfl
theorem NameGrows : dowellaw09_NameGrows.Pure := by
  intro s at_ hn _
  refine ⟨s.size + 100, ?_⟩
  unfold dowellaw09_NameGrows.f
  rw [up_eq _ (by omega), may_eq s hn _ (by omega), Option.bind_some, Option.bind_some]
  by_cases hm : mayB s = true
  · have hl : s.size ≤ 16 := by
      unfold mayB at hm; simp only [Bool.and_eq_true, decide_eq_true_eq] at hm; omega
    have hL : mayL (by_ s) = true := by rw [← mayB_by]; exact hm
    have grow (c : UInt8) : name_May.f (s.size + 100) (s ++ (⟨#[c]⟩ : ByteArray)) = some (decide (s.size < 16) && isLD (c.toNat : Int)) := by
      have hz : (s ++ (⟨#[c]⟩ : ByteArray)).size = s.size + 1 := by
        apply size_by; rw [by_append, List.length_append, by_length]; rfl
      rw [may_eq _ (by omega) _ (by omega), mayB_by, by_append]
      have := may_snoc (by_ s) (c.toNat : Int) hL
      rw [by_length] at this
      exact congrArg some this
    have hd : decide ((s.size : Int) < 16) = decide (s.size < 16) := by rw [decide_eq_decide]; omega
    rw [if_pos hm, if_pos (by omega), grow 97, grow 90, grow 55, grow 95, hd]
    simp only [Option.bind_some]
    have e1 : (decide (s.size < 16) && isLD ((97 : UInt8).toNat : Int)) = decide (s.size < 16) := by rw [show isLD ((97 : UInt8).toNat : Int) = true from by decide]; simp
    have e2 : (decide (s.size < 16) && isLD ((90 : UInt8).toNat : Int)) = decide (s.size < 16) := by rw [show isLD ((90 : UInt8).toNat : Int) = true from by decide]; simp
    have e3 : (decide (s.size < 16) && isLD ((55 : UInt8).toNat : Int)) = decide (s.size < 16) := by rw [show isLD ((55 : UInt8).toNat : Int) = true from by decide]; simp
    have e4 : (decide (s.size < 16) && isLD ((95 : UInt8).toNat : Int)) = false := by rw [show isLD ((95 : UInt8).toNat : Int) = false from by decide]; simp
    rw [e1, e2, e3, e4]
    simp only [bne_self_eq_false, Bool.false_eq_true, if_false]
    show dowellaw09_NameGrows.j0 (s.size + 99 + 1) s true false = some true
    simp only [dowellaw09_NameGrows.j0, Bool.false_eq_true, if_false]
    exact grows_loop s hl hm (s.size + 1) _ 0 (by omega) (by omega) (by omega)
  · rw [if_neg hm]

end Go.Proofs.Ytfoecgcjipckmaa.Pure
