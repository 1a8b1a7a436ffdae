/- DescTells: for all lists of numbers the law returns true: each line is its base and the place behind it, each descriptor has the size, the line but its end, and zeros. No condition. -/
import Derived.Test.YtfoecgcjipckmaaQDescTellsx3
import Derived.Test.YtfoecgcjipckmaaWSized
namespace Go.Proofs.Ytfoecgcjipckmaa
/-- The row names this lemma without its place. -/
theorem PrintWords.sized_ints {H : Type} {enc : TypeId × Value → H} {P : Program} {W : World} {base : Nat} {spare : Nat → Bool} {held : Bool} {t e : TypeId} {k : IntKind} {a : Option Addr} {len cap : Nat} {d : DataW H} {ps : List MemPlace} {ts : List TypeId} {ds : List (DataW H)} {j : Nat}
    (hsz : (DataW.weightsEach P ts ds).all (· ≤ reachBytes) = true) (ht : ts[j]? = some t) (hd : ds[j]? = some d) (hu : P.underlying t = some (.slice e)) (he : P.underlying e = some (.int k)) (hc : P.cellsOf e = 1) {B : Nat} (hB : P.bytesOf e = B)
    (h : DataW.Trod enc P W base spare held t (.slice a len cap) d ps) : len * B ≤ 140737488351232 :=
  Go.Proofs.YtfoecgcjipckmaaW.PrintWords.sized_ints hsz ht hd hu he hc hB h
end Go.Proofs.Ytfoecgcjipckmaa
namespace Go.Proofs.Ytfoecgcjipckmaa.Pure
open Go.RowKit Go.Proofs.Ytfoecgcjipckmaa.QDescTells Go.Proofs.YtfoecgcjipckmaaW.PrintWords Go.Proofs.YtfoecgcjipckmaaW.PrintLast
set_option linter.unusedSimpArgs false
theorem n0 : wrap64 0 = 0 := by unfold wrap64; omega
theorem n1 : wrap64 1 = 1 := by unfold wrap64; omega
theorem n2 : wrap64 2 = 2 := by unfold wrap64; omega
theorem n3 : wrap64 3 = 3 := by unfold wrap64; omega
theorem n4 : wrap64 4 = 4 := by unfold wrap64; omega
theorem n5 : wrap64 5 = 5 := by unfold wrap64; omega
theorem words_none (k : Nat) (s : Int) (l : List Int) (h : l.length < 1 ∨ 4 < l.length) : desc_Words.f (k + 1) s l = some ([], some 4) := by
  unfold desc_Words.f
  by_cases h1 : (l.length : Int) < 1
  · rw [if_pos h1]; simp only [desc_Words.j0, if_true]
  · rw [if_neg h1, decide_eq_true (by omega)]; simp only [desc_Words.j0, if_true]
theorem words1 (k : Nat) (s a : Int) : desc_Words.f (k + 5) s [a] = some ([s % 4294967296, 0, 0, 0], none) := by
  simp [desc_Words.f, desc_Words.j0, desc_Words.l0, n0, n1, n2, n3, n4, n5, rd]
theorem words2 (k : Nat) (s a b : Int) : desc_Words.f (k + 5) s [a, b] = some ([s % 4294967296, a % 4294967296, 0, 0], none) := by
  simp [desc_Words.f, desc_Words.j0, desc_Words.l0, n0, n1, n2, n3, n4, n5, rd]
theorem words3 (k : Nat) (s a b c : Int) : desc_Words.f (k + 5) s [a, b, c] = some ([s % 4294967296, a % 4294967296, b % 4294967296, 0], none) := by
  simp [desc_Words.f, desc_Words.j0, desc_Words.l0, n0, n1, n2, n3, n4, n5, rd]
theorem words4 (k : Nat) (s a b c d : Int) : desc_Words.f (k + 5) s [a, b, c, d] = some ([s % 4294967296, a % 4294967296, b % 4294967296, c % 4294967296], none) := by
  simp [desc_Words.f, desc_Words.j0, desc_Words.l0, n0, n1, n2, n3, n4, n5, rd]
theorem line_val (l : List Int) (a : Int) (h : l.length ≤ 100) : desc_Line.f l a = some (if (l.length : Int) > 3 then ([], some 4) else (l ++ [a], none)) := by
  unfold desc_Line.f slices_Clone_int_int.f
  by_cases h3 : (l.length : Int) > 3
  · rw [if_pos h3, if_pos h3]
  · rw [if_neg h3, if_neg h3]
    simp only [Option.bind_some, List.nil_append, List.length_nil, Nat.zero_add]
    rw [if_pos (by omega)]
    simp only [Option.bind_some]
    rw [if_pos (by omega)]
theorem up_val (k : Nat) : dowellaw16_up.f (k + 9) = some true := by
  unfold dowellaw16_up.f
  rw [words2, words_none _ _ _ (.inl (by decide)), line_val _ _ (by decide)]
  simp [desc_Extends.f, slices_Contains_uint32_uint32.f, slices_Index_uint32_uint32.f, slices_Index_uint32_uint32.l0, rd, n0, n1, n2, n3, n4, n5]
theorem ints_loop (l : List Int) (hl : l.length ≤ 1000) (d : Nat) : ∀ (k : Nat) (i : Int), 0 ≤ i → i + d = l.length → d < k → dowelref09_Ints.l0 k l l i = some true := by
  induction d with
  | zero =>
    intro k i h0 hd hk
    obtain ⟨k, rfl⟩ : ∃ m, k = m + 1 := ⟨k - 1, by omega⟩
    simp only [dowelref09_Ints.l0]; rw [if_neg (by omega)]
  | succ d ih =>
    intro k i h0 hd hk
    obtain ⟨k, rfl⟩ : ∃ m, k = m + 1 := ⟨k - 1, by omega⟩
    simp only [dowelref09_Ints.l0]
    rw [if_pos (by omega), if_pos h0, if_pos (by omega), if_true, show wrap64 (i + 1) = i + 1 by unfold wrap64; omega]
    exact ih k (i + 1) (by omega) (by omega) (by omega)
theorem ints_same (l : List Int) (hl : l.length ≤ 1000) (k : Nat) (hk : l.length < k) : dowelref09_Ints.f k l l = some true := by
  unfold dowelref09_Ints.f
  rw [if_pos rfl]
  exact ints_loop l hl l.length k 0 (by omega) (by omega) (by omega)
theorem tail_val (k : Nat) (s : Int) (l : List Int) : dowellaw16_DescTells.j1 (k + 9) s l true = some true := by
  simp only [dowellaw16_DescTells.j1]
  by_cases h : l.length < 1 ∨ 4 < l.length
  · rw [show k + 8 = (k + 7) + 1 from rfl, words_none _ _ _ h]
    simp only [Option.bind_some]
    by_cases h1 : (l.length : Int) < 1
    · rw [if_pos h1]; simp [dowellaw16_DescTells.j2]
    · rw [if_neg h1, decide_eq_true (by omega)]; simp [dowellaw16_DescTells.j2]
  · match l, h with
    | [], h => exact absurd (.inl (by decide)) h
    | [a], _ => rw [show k + 8 = (k + 3) + 5 from rfl, words1]; simp [dowellaw16_DescTells.j2, dowellaw16_DescTells.j3, dowellaw16_DescTells.l0, rd, n0, n1, n2, n3, n4, n5]
    | [a, b], _ => rw [show k + 8 = (k + 3) + 5 from rfl, words2]; simp [dowellaw16_DescTells.j2, dowellaw16_DescTells.j3, dowellaw16_DescTells.l0, rd, n0, n1, n2, n3, n4, n5]
    | [a, b, c], _ => rw [show k + 8 = (k + 3) + 5 from rfl, words3]; simp [dowellaw16_DescTells.j2, dowellaw16_DescTells.j3, dowellaw16_DescTells.l0, rd, n0, n1, n2, n3, n4, n5]
    | [a, b, c, d], _ => rw [show k + 8 = (k + 3) + 5 from rfl, words4]; simp [dowellaw16_DescTells.j2, dowellaw16_DescTells.j3, dowellaw16_DescTells.l0, rd, n0, n1, n2, n3, n4, n5]
    | a :: b :: c :: d :: e :: t, h => exact absurd (.inr (by simp)) h
theorem DescTells : dowellaw16_DescTells.Pure := by
  intro l a s line _ _ _ _ _ _ _ _
  obtain ⟨K, hK⟩ : ∃ K : Nat, 200 ≤ K := ⟨200, Nat.le_refl _⟩
  refine ⟨K + 10, ?_⟩
  unfold dowellaw16_DescTells.f
  rw [show K + 10 = (K + 1) + 9 from rfl, up_val, Option.bind_some]
  have out : dowellaw16_DescTells.j0 (K + 1 + 9) l a s line true true = some true := by simp only [dowellaw16_DescTells.j0, if_true]
  by_cases h1 : (l.length : Int) > 50
  · rw [if_pos h1, out]
  rw [if_neg h1]
  by_cases h2 : (line.length : Int) > 50
  · rw [decide_eq_true h2, out]
  rw [decide_eq_false h2]
  simp only [dowellaw16_DescTells.j0, Bool.false_eq_true, if_false]
  rw [line_val l a (by omega)]
  have ht := tail_val K s line
  by_cases h3 : (l.length : Int) > 3
  · rw [if_pos h3]
    simp only [Option.bind_some, if_pos h3]
    simp
    exact ht
  · rw [if_neg h3]
    simp only [Option.bind_some, if_neg h3, Option.isNone_none, if_true, List.nil_append, List.length_nil, Nat.zero_add]
    rw [if_pos (by omega), if_pos (by omega), ints_same _ (by simp; omega) _ (by simp; omega)]
    simp only [Option.bind_some, if_true]
    exact ht
end Go.Proofs.Ytfoecgcjipckmaa.Pure
