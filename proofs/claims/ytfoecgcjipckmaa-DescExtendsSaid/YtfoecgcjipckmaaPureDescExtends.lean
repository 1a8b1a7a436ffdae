/- DescExtends: for all words, lines and places the law returns true: a type extends just those of its line, but itself. No condition. -/
import Derived.Test.YtfoecgcjipckmaaQDescExtendsx2
import Derived.Test.YtfoecgcjipckmaaWSized
namespace Go.Proofs.Ytfoecgcjipckmaa
/-- The row names this lemma without its place. -/
theorem PrintWords.sized_ints {H : Type} {enc : TypeId × Value → H} {P : Program} {W : World} {base : Nat} {spare : Nat → Bool} {held : Bool} {t e : TypeId} {k : IntKind} {a : Option Addr} {len cap : Nat} {d : DataW H} {ps : List MemPlace} {ts : List TypeId} {ds : List (DataW H)} {j : Nat}
    (hsz : (DataW.weightsEach P ts ds).all (· ≤ reachBytes) = true) (ht : ts[j]? = some t) (hd : ds[j]? = some d) (hu : P.underlying t = some (.slice e)) (he : P.underlying e = some (.int k)) (hc : P.cellsOf e = 1) {B : Nat} (hB : P.bytesOf e = B)
    (h : DataW.Trod enc P W base spare held t (.slice a len cap) d ps) : len * B ≤ 140737488351232 :=
  Go.Proofs.YtfoecgcjipckmaaW.PrintWords.sized_ints hsz ht hd hu he hc hB h
end Go.Proofs.Ytfoecgcjipckmaa
namespace Go.Proofs.Ytfoecgcjipckmaa.Pure
open Go.RowKit Go.Proofs.Ytfoecgcjipckmaa.QDescExtends Go.Proofs.YtfoecgcjipckmaaW.PrintWords Go.Proofs.YtfoecgcjipckmaaW.PrintLast
set_option linter.unusedSimpArgs false
theorem n0 : wrap64 0 = 0 := by unfold wrap64; omega
theorem n1 : wrap64 1 = 1 := by unfold wrap64; omega
theorem n2 : wrap64 2 = 2 := by unfold wrap64; omega
theorem n3 : wrap64 3 = 3 := by unfold wrap64; omega
theorem n4 : wrap64 4 = 4 := by unfold wrap64; omega
theorem n5 : wrap64 5 = 5 := by unfold wrap64; omega
theorem words_none (k : Nat) (s : Int) (l : List Int) (h : l.length < 1 ∨ 4 < l.length) : desc_Words.f (k + 1) s l = some ([], some 4) := by
  unfold desc_Words.f
  by_cases h1 : (l.length : Int) < 1
  · rw [if_pos h1]; simp only [desc_Words.j0, if_true]
  · rw [if_neg h1, decide_eq_true (by omega)]; simp only [desc_Words.j0, if_true]
theorem words1 (k : Nat) (s a : Int) : desc_Words.f (k + 5) s [a] = some ([s % 4294967296, 0, 0, 0], none) := by
  simp [desc_Words.f, desc_Words.j0, desc_Words.l0, n0, n1, n2, n3, n4, n5, rd]
theorem words2 (k : Nat) (s a b : Int) : desc_Words.f (k + 5) s [a, b] = some ([s % 4294967296, a % 4294967296, 0, 0], none) := by
  simp [desc_Words.f, desc_Words.j0, desc_Words.l0, n0, n1, n2, n3, n4, n5, rd]
theorem words3 (k : Nat) (s a b c : Int) : desc_Words.f (k + 5) s [a, b, c] = some ([s % 4294967296, a % 4294967296, b % 4294967296, 0], none) := by
  simp [desc_Words.f, desc_Words.j0, desc_Words.l0, n0, n1, n2, n3, n4, n5, rd]
theorem words4 (k : Nat) (s a b c d : Int) : desc_Words.f (k + 5) s [a, b, c, d] = some ([s % 4294967296, a % 4294967296, b % 4294967296, c % 4294967296], none) := by
  simp [desc_Words.f, desc_Words.j0, desc_Words.l0, n0, n1, n2, n3, n4, n5, rd]
theorem line_val (l : List Int) (a : Int) (h : l.length ≤ 100) : desc_Line.f l a = some (if (l.length : Int) > 3 then ([], some 4) else (l ++ [a], none)) := by
  unfold desc_Line.f slices_Clone_int_int.f
  by_cases h3 : (l.length : Int) > 3
  · rw [if_pos h3, if_pos h3]
  · rw [if_neg h3, if_neg h3]
    simp only [Option.bind_some, List.nil_append, List.length_nil, Nat.zero_add]
    rw [if_pos (by omega)]
    simp only [Option.bind_some]
    rw [if_pos (by omega)]
theorem up_val (k : Nat) : dowellaw16_up.f (k + 9) = some true := by
  unfold dowellaw16_up.f
  rw [words2, words_none _ _ _ (.inl (by decide)), line_val _ _ (by decide)]
  simp [desc_Extends.f, slices_Contains_uint32_uint32.f, slices_Index_uint32_uint32.f, slices_Index_uint32_uint32.l0, rd, n0, n1, n2, n3, n4, n5]
theorem idx_loop (l : List Int) (v : Int) (hl : l.length ≤ 1000) (d : Nat) : ∀ (k : Nat) (i : Int), 0 ≤ i → i + d = l.length → d < k → ∃ r, slices_Index_uint32_uint32.l0 k l v (l.length : Int) i = some r ∧ (decide (r ≥ 0) = (l.drop i.toNat).contains v) := by
  induction d with
  | zero =>
    intro k i h0 hd hk
    obtain ⟨k, rfl⟩ : ∃ m, k = m + 1 := ⟨k - 1, by omega⟩
    simp only [slices_Index_uint32_uint32.l0]; rw [if_neg (by omega)]
    refine ⟨-1, rfl, ?_⟩
    rw [List.drop_eq_nil_of_le (by omega)]; rfl
  | succ d ih =>
    intro k i h0 hd hk
    obtain ⟨k, rfl⟩ : ∃ m, k = m + 1 := ⟨k - 1, by omega⟩
    have hi : i.toNat < l.length := by omega
    simp only [slices_Index_uint32_uint32.l0]
    rw [if_pos (by omega), if_pos h0, if_pos (by omega), show wrap64 (i + 1) = i + 1 by unfold wrap64; omega]
    have er : rd l i = l[i.toNat] := by unfold rd; rw [List.getD_eq_getElem?_getD, List.getElem?_eq_getElem hi]; rfl
    rw [er, List.drop_eq_getElem_cons hi, List.contains_cons]
    by_cases hv : v = l[i.toNat]
    · rw [if_pos hv]
      refine ⟨i, rfl, ?_⟩
      rw [decide_eq_true (by omega), show (v == l[i.toNat]) = true by simpa using hv]; rfl
    · rw [if_neg hv]
      obtain ⟨r, h1, h2⟩ := ih k (i + 1) (by omega) (by omega) (by omega)
      refine ⟨r, h1, ?_⟩
      rw [h2, show (i + 1).toNat = i.toNat + 1 by omega, show (v == l[i.toNat]) = false by simpa using hv, Bool.false_or]
theorem contains_val (l : List Int) (v : Int) (hl : l.length ≤ 1000) (k : Nat) (hk : l.length < k) : slices_Contains_uint32_uint32.f k l v = some (l.contains v) := by
  unfold slices_Contains_uint32_uint32.f slices_Index_uint32_uint32.f
  obtain ⟨r, h1, h2⟩ := idx_loop l v hl l.length k 0 (by omega) (by omega) (by omega)
  rw [h1, Option.bind_some, h2]; rfl
/-- What Extends tells of a place that isn't too great. -/
def extB (l : List Int) (a : Int) : Bool := decide (1 ≤ a) && (l.drop 1).contains a
theorem ext_val (l : List Int) (a : Int) (hl : l.length ≤ 1000) (ha : a ≤ 1000000) (k : Nat) (hk : l.length < k) : desc_Extends.f k l a = some (extB l a) := by
  unfold desc_Extends.f extB
  by_cases h1 : a ≥ 1
  · rw [if_pos h1, if_pos (by omega), decide_eq_true h1, Bool.true_and]
    by_cases h2 : (l.length : Int) > 1
    · rw [if_pos h2, if_pos (by omega), show a % 4294967296 = a by omega, contains_val _ _ (by simp; omega) k (by simp; omega), Option.bind_some]
    · rw [if_neg h2, List.drop_eq_nil_of_le (by omega)]; rfl
  · rw [if_neg h1, decide_eq_false (by omega)]; rfl
/-- The end: a line, its descriptor, what it extends. -/
theorem fin_val (k : Nat) (base : List Int) (a o : Int) (hb : base.length ≤ 3) (ha : 1 ≤ a ∧ a ≤ 1000000) (ho : o ≤ 1000000) (hok : ∀ x ∈ base, 1 ≤ x ∧ x ≤ 1000000 ∧ x ≠ a) :
    ((desc_Line.f base a).bind fun bt157 => (if bt157.2.isNone = true then ((desc_Words.f (k + 20) 8 bt157.1).bind fun bt162 => (if bt162.2.isNone = true then (if true = true then ((desc_Extends.f (k + 20) bt162.1 o).bind fun t167 => (if (t167 == base.any (· == o)) = true then ((desc_Extends.f (k + 20) bt162.1 a).bind fun t168 => (some (!t168))) else (some false))) else (some false)) else (some false))) else (some false))) = some true := by
  rw [line_val _ _ (by omega), if_neg (by omega)]
  have key : ∃ z : List Int, desc_Words.f (k + 20) 8 (base ++ [a]) = some (8 :: (base ++ z), none) ∧ (∀ x ∈ z, x = 0) ∧ z.length ≤ 3 := by
    match base, hb, hok with
    | [], _, _ => exact ⟨[0, 0, 0], by rw [show k + 20 = (k + 15) + 5 from rfl]; exact words1 _ _ _, by simp, by simp⟩
    | [b0], _, h =>
      have h0 := h b0 (by simp)
      exact ⟨[0, 0], by rw [show k + 20 = (k + 15) + 5 from rfl]; simp only [List.cons_append, List.nil_append]; rw [words2, show b0 % 4294967296 = b0 by omega]; rfl, by simp, by simp⟩
    | [b0, b1], _, h =>
      have h0 := h b0 (by simp)
      have h1 := h b1 (by simp)
      exact ⟨[0], by rw [show k + 20 = (k + 15) + 5 from rfl]; simp only [List.cons_append, List.nil_append]; rw [words3, show b0 % 4294967296 = b0 by omega, show b1 % 4294967296 = b1 by omega]; rfl, by simp, by simp⟩
    | [b0, b1, b2], _, h =>
      have h0 := h b0 (by simp)
      have h1 := h b1 (by simp)
      have h2 := h b2 (by simp)
      exact ⟨[], by rw [show k + 20 = (k + 15) + 5 from rfl]; simp only [List.cons_append, List.nil_append]; rw [words4, show b0 % 4294967296 = b0 by omega, show b1 % 4294967296 = b1 by omega, show b2 % 4294967296 = b2 by omega]; simp, by simp, by simp⟩
    | _ :: _ :: _ :: _ :: _, hb, _ => simp at hb
  obtain ⟨z, hz, hz0, hzl⟩ := key
  have e1 : extB (8 :: (base ++ z)) o = base.any (· == o) := by
    unfold extB
    rw [List.drop_one, List.tail_cons, Bool.eq_iff_iff]
    simp only [Bool.and_eq_true, decide_eq_true_eq, List.contains_iff_mem, List.mem_append, List.any_eq_true, beq_iff_eq]
    constructor
    · rintro ⟨h1, h2 | h2⟩
      · exact ⟨o, h2, rfl⟩
      · have := hz0 o h2; omega
    · rintro ⟨x, hx, rfl⟩
      exact ⟨(hok x hx).1, .inl hx⟩
  have e2 : extB (8 :: (base ++ z)) a = false := by
    unfold extB
    rw [List.drop_one, List.tail_cons, Bool.eq_false_iff]
    intro h
    simp only [Bool.and_eq_true, decide_eq_true_eq, List.contains_iff_mem, List.mem_append] at h
    rcases h.2 with h2 | h2
    · exact (hok a h2).2.2 rfl
    · have := hz0 a h2; omega
  simp only [Option.bind_some, Option.isNone_none, if_true]
  rw [hz]
  simp only [Option.bind_some, Option.isNone_none, if_true]
  rw [ext_val _ o (by simp only [List.length_cons, List.length_append]; omega) ho _ (by simp only [List.length_cons, List.length_append]; omega), ext_val _ a (by simp only [List.length_cons, List.length_append]; omega) ha.2 _ (by simp only [List.length_cons, List.length_append]; omega), e1, e2]
  simp
theorem l1_loop (base : List Int) (a o : Int) (hb : base.length ≤ 3) (ha : 1 ≤ a ∧ a ≤ 1000000) (ho : o ≤ 1000000) (d : Nat) : ∀ (k : Nat) (i : Nat) (m : Bool), i + d = base.length → (∀ x ∈ base.take i, 1 ≤ x ∧ x ≤ 1000000 ∧ x ≠ a) → m = (base.take i).any (· == o) →
    dowellaw16_DescExtends.l1 (k + 21 + d) base a o true m (i : Int) = some true := by
  induction d with
  | zero =>
    intro k i m hd hok hm
    have e : base.take i = base := List.take_of_length_le (by omega)
    rw [e] at hok hm
    subst hm
    have f := fin_val k base a o hb ha ho hok
    rw [show k + 21 + 0 = (k + 20) + 1 by omega]
    generalize k + 20 = K at f ⊢
    simp only [dowellaw16_DescExtends.l1]
    rw [if_neg (by omega)]
    exact f
  | succ d ih =>
    intro k i m hd hok hm
    have hi : i < base.length := by omega
    have ih := ih k
    rw [show k + 21 + (d + 1) = (k + 21 + d) + 1 by omega]
    generalize k + 21 + d = K at ih ⊢
    simp only [dowellaw16_DescExtends.l1]
    have er : rd base (i : Int) = base[i] := by unfold rd; rw [Int.toNat_natCast, List.getD_eq_getElem?_getD, List.getElem?_eq_getElem hi]; rfl
    rw [if_pos (by omega), if_pos (by omega), er, show wrap64 ((i : Int) + 1) = ((i + 1 : Nat) : Int) by unfold wrap64; omega]
    by_cases h1 : base[i] < 1
    · rw [if_pos h1]
    by_cases h2 : base[i] > 1000000
    · rw [if_neg h1, if_pos h2]
    by_cases h3 : base[i] = a
    · rw [if_neg h1, if_neg h2, if_pos h3]
    rw [if_neg h1, if_neg h2, if_neg h3]
    have et : base.take (i + 1) = base.take i ++ [base[i]] := by rw [List.take_succ_eq_append_getElem hi]
    have hok' : ∀ x ∈ base.take (i + 1), 1 ≤ x ∧ x ≤ 1000000 ∧ x ≠ a := by
      intro x hx
      rw [et, List.mem_append] at hx
      rcases hx with hx | hx
      · exact hok x hx
      · rw [List.mem_singleton] at hx; subst hx; exact ⟨by omega, by omega, h3⟩
    cases hmv : m
    · rw [if_neg (by decide)]
      refine ih (i + 1) _ (by omega) hok' ?_
      rw [et, List.any_append, ← hm, hmv]; simp
    · rw [if_pos rfl]
      refine ih (i + 1) _ (by omega) hok' ?_
      rw [et, List.any_append, ← hm, hmv]; rfl
theorem l0_loop (w base : List Int) (a o : Int) (hw : w.length ≤ 50) (hwr : ∀ x ∈ w, 0 ≤ x ∧ x < 4294967296) (hb : base.length ≤ 3) (ha : 1 ≤ a ∧ a ≤ 1000000) (ho : o ≤ 1000000) (d : Nat) : ∀ (k : Nat) (i : Nat) (m : Bool), 1 ≤ i → i + d = max w.length 1 → m = (decide (1 ≤ o) && ((w.take i).drop 1).contains o) →
    dowellaw16_DescExtends.l0 (k + 100 + d) w base a o true m (i : Int) = some true := by
  induction d with
  | zero =>
    intro k i m h1 hd hm
    have e : w.take i = w := List.take_of_length_le (by omega)
    rw [e] at hm
    obtain ⟨K, hK⟩ : ∃ K, K = k + 99 := ⟨_, rfl⟩
    rw [show k + 100 + 0 = K + 1 by omega]
    simp only [dowellaw16_DescExtends.l0]
    rw [if_neg (by omega), ext_val w o (by omega) ho _ (by omega), Option.bind_some, if_neg (by unfold extB; rw [hm]; simp)]
    obtain ⟨c, hc⟩ : ∃ c, base.length + c = 3 := ⟨3 - base.length, by omega⟩
    have r := l1_loop base a o hb ha ho base.length (k + 75 + c) 0 false (by omega) (by simp) (by simp)
    rw [show k + 75 + c + 21 + base.length = K by omega] at r
    exact r
  | succ d ih =>
    intro k i m h1 hd hm
    have hi : i < w.length := by omega
    have ih := ih k
    rw [show k + 100 + (d + 1) = (k + 100 + d) + 1 by omega]
    generalize k + 100 + d = K at ih ⊢
    simp only [dowellaw16_DescExtends.l0]
    have er : rd w (i : Int) = w[i] := by unfold rd; rw [Int.toNat_natCast, List.getD_eq_getElem?_getD, List.getElem?_eq_getElem hi]; rfl
    rw [if_pos (by omega), er, show wrap64 ((i : Int) + 1) = ((i + 1 : Nat) : Int) by unfold wrap64; omega]
    have et : (w.take (i + 1)).drop 1 = (w.take i).drop 1 ++ [w[i]] := by
      rw [List.take_succ_eq_append_getElem hi, List.drop_append_of_le_length (by rw [List.length_take]; omega)]
    have hx := hwr w[i] (List.getElem_mem hi)
    cases hmv : m
    · rw [if_neg (by decide)]
      rw [hmv] at hm
      by_cases ho1 : o ≥ 1
      · rw [if_pos ho1, if_pos (by omega), show o % 4294967296 = o by omega]
        refine ih (i + 1) _ (by omega) (by omega) ?_
        rw [et, decide_eq_true ho1, Bool.true_and]
        rw [decide_eq_true ho1, Bool.true_and] at hm
        rw [Bool.eq_iff_iff]
        have hm' : ¬ o ∈ (w.take i).drop 1 := by rw [← List.contains_iff_mem, ← hm]; decide
        simp only [beq_iff_eq, List.contains_iff_mem, List.mem_append, List.mem_singleton]
        constructor
        · intro h; exact .inr h.symm
        · rintro (h | h)
          · exact absurd h hm'
          · exact h.symm
      · rw [if_neg ho1]
        refine ih (i + 1) _ (by omega) (by omega) ?_
        rw [decide_eq_false (by omega)]; rfl
    · rw [if_pos rfl]
      rw [hmv] at hm
      refine ih (i + 1) _ (by omega) (by omega) ?_
      have hm2 := hm.symm
      simp only [Bool.and_eq_true, decide_eq_true_eq, List.contains_iff_mem] at hm2
      symm
      rw [et]
      simp only [Bool.and_eq_true, decide_eq_true_eq, List.contains_iff_mem, List.mem_append]
      exact ⟨hm2.1, .inl hm2.2⟩
theorem u32_range {x : Int} (h : (Lit.int .u32 x).wf = true) : 0 ≤ x ∧ x < 4294967296 := by
  simp [Lit.wf, IntKind.min, IntKind.max, IntKind.signed, IntKind.bits] at h; omega
theorem DescExtends : dowellaw16_DescExtends.Pure := by
  intro w base a o _ _ hw _ _ _ _ _
  obtain ⟨K, hK⟩ : ∃ K : Nat, 200 ≤ K := ⟨200, Nat.le_refl _⟩
  refine ⟨K + 200, ?_⟩
  unfold dowellaw16_DescExtends.f
  rw [show K + 200 = (K + 191) + 9 from rfl, up_val, Option.bind_some, show K + 191 + 9 = K + 200 from rfl]
  have out : dowellaw16_DescExtends.j0 (K + 200) w base a o true true = some true := by
    rw [show K + 200 = (K + 199) + 1 from rfl]; simp only [dowellaw16_DescExtends.j0, if_true]
  by_cases h1 : (w.length : Int) > 50
  · rw [if_pos h1, out]
  by_cases h2 : (base.length : Int) > 3
  · rw [if_neg h1, if_pos h2, out]
  by_cases h3 : a < 1
  · rw [if_neg h1, if_neg h2, if_pos h3, out]
  by_cases h4 : a > 1000000
  · rw [if_neg h1, if_neg h2, if_neg h3, if_pos h4, out]
  rw [if_neg h1, if_neg h2, if_neg h3, if_neg h4]
  by_cases h5 : o > 1000000
  · rw [decide_eq_true h5, out]
  rw [decide_eq_false h5, show K + 200 = (K + 199) + 1 from rfl]
  obtain ⟨d, hd⟩ : ∃ d, 1 + d = max w.length 1 := ⟨max w.length 1 - 1, by omega⟩
  obtain ⟨c, hc⟩ : ∃ c, d + c = 99 := ⟨99 - d, by omega⟩
  have r := l0_loop w base a o (by omega) (fun x hx => u32_range (hw x hx)) (by omega) ⟨by omega, by omega⟩ (by omega) d (K + c) 1 false (by omega) hd (by
    symm; rw [Bool.eq_false_iff]; intro h
    simp only [Bool.and_eq_true, decide_eq_true_eq, List.contains_iff_mem] at h
    rw [List.drop_eq_nil_of_le (by rw [List.length_take]; omega)] at h; exact absurd h.2 (by simp))
  rw [show K + c + 100 + d = K + 199 by omega] at r
  generalize K + 199 = K2 at r ⊢
  simp only [dowellaw16_DescExtends.j0, Bool.false_eq_true, if_false]
  exact r
end Go.Proofs.Ytfoecgcjipckmaa.Pure
