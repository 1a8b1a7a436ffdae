/- RelocGoes: for all lengths, places, bases and targets the law returns true: a Call that is linked goes to its target, a Set tells it, and what has no fix stays. No condition. -/
import Derived.Test.YtnflalbiffamdaaQRelocGoesPlain
namespace Go.Proofs.Ytnflalbiffamdaa.Pure
open Go.RowKit Go.Proofs.Ytnflalbiffamdaa.QRelocGoes Go.Proofs.Ytnflalbiffamdaa.QRelocGoesPlain Go.Proofs.YtnflalbiffamdaaW.PrintWords Go.Proofs.YtnflalbiffamdaaW.PrintLast Go.Proofs.YtnflalbiffamdaaW.PrintMore
set_option linter.unusedVariables false
theorem rd_set_same (l : List Int) (i : Int) (v : Int) (h0 : 0 ≤ i) (h : i < l.length) : rd (l.set i.toNat v) i = v := by
  unfold rd
  rw [List.getD_eq_getElem?_getD, List.getElem?_set_self (by omega)]; rfl
theorem rd_set_other (l : List Int) (i j : Int) (v : Int) (h0 : 0 ≤ i) (hj : 0 ≤ j) (h : i ≠ j) : rd (l.set i.toNat v) j = rd l j := by
  unfold rd
  rw [List.getD_eq_getElem?_getD, List.getElem?_set_ne (by omega), List.getD_eq_getElem?_getD]
/-- The number that a Call, or a Set, is tgt have. -/
def newN (o from_ at_ tgt : Int) : Int := if o = 20 then (tgt - (from_ + 4 * at_ + 4)).tdiv 4 else tgt
theorem newN_range (o from_ at_ tgt : Int) (h1 : 0 ≤ from_ ∧ from_ ≤ 60000) (h2 : 0 ≤ at_ ∧ at_ < 100) (h3 : 0 ≤ tgt ∧ tgt ≤ 65536) : -131072 ≤ newN o from_ at_ tgt ∧ newN o from_ at_ tgt ≤ 131071 := by
  unfold newN
  split
  · have := Int.mul_tdiv_add_tmod (tgt - (from_ + 4 * at_ + 4)) 4
    have h5 := Int.tmod_lt_of_pos (tgt - (from_ + 4 * at_ + 4)) (show (0 : Int) < 4 by decide)
    have h6 : -4 < (tgt - (from_ + 4 * at_ + 4)).tmod 4 := by have := Int.natAbs_tmod (tgt - (from_ + 4 * at_ + 4)) 4; have h8 := Nat.mod_lt (tgt - (from_ + 4 * at_ + 4)).natAbs (show 0 < (4 : Int).natAbs by decide); omega
    omega
  · omega
theorem get_of (w o a n : Int) (h0 : w = wordI o a 0 n) (h : MayP o a 0 n) : ins_Get.f w = some (o, a, 0, n, true) := by
  subst h0; exact get_word o a 0 n h
/-- One fix, of a word that is a Call or a Set. -/
theorem link_one (k : Nat) (l : List Int) (from_ at_ tgt o a : Int) (hl : l.length ≤ 100) (h2 : 0 ≤ at_ ∧ at_ < l.length) (h1 : 0 ≤ from_ ∧ from_ ≤ 60000) (h3 : 0 ≤ tgt ∧ tgt ≤ 65536) (ho : o = 20 ∨ o = 1) (ha : 0 ≤ a ∧ a ≤ 15) (hw : rd l at_ = wordI o a 0 0) :
    reloc_Link.f (k + 9) l from_ [⟨at_, tgt⟩] = some (l.set at_.toNat (wordI o a 0 (newN o from_ at_ tgt)), none) := by
  have hr := newN_range o from_ at_ tgt h1 ⟨h2.1, by omega⟩ h3
  have m0 : MayP o a 0 0 := by unfold MayP; omega
  have m1 : MayP o a 0 (newN o from_ at_ tgt) := by unfold MayP; omega
  have hg := get_of _ o a 0 hw m0
  have hp := put_yes o a 0 _ m1
  unfold reloc_Link.f slices_Clone_uint32_uint32.f
  simp only [Option.bind_some, List.nil_append, List.length_nil, Nat.zero_add]
  rw [if_pos (by omega)]
  simp only [Option.bind_some]
  have e0 : rd_T64 [(⟨at_, tgt⟩ : S64)] 0 = ⟨at_, tgt⟩ := rfl
  have w01 : wrap64 (0 + 1) = 1 := by unfold wrap64; omega
  have fin : ∀ (j : Nat) (x : List Int), reloc_Link.l0 (j + 1) from_ x [(⟨at_, tgt⟩ : S64)] (([(⟨at_, tgt⟩ : S64)] : List S64).length : Int) 1 = some (x, none) := by
    intro j x
    simp only [reloc_Link.l0]
    rw [if_neg (by simp)]
  have s0 : reloc_Link.l0 (k + 9) from_ l [(⟨at_, tgt⟩ : S64)] (([(⟨at_, tgt⟩ : S64)] : List S64).length : Int) 0 = reloc_Link.j1 (k + 8) from_ l [(⟨at_, tgt⟩ : S64)] (([(⟨at_, tgt⟩ : S64)] : List S64).length : Int) 0 false at_ tgt := by
    show reloc_Link.l0 (k + 8 + 1) _ _ _ _ _ = _
    generalize k + 8 = K
    simp only [reloc_Link.l0]
    rw [if_pos (by simp), if_pos (by omega), if_pos (by simp), e0]
    dsimp only
    rw [if_neg (by omega), decide_eq_false (by omega)]
  rw [s0]
  have s1 : reloc_Link.j1 (k + 8) from_ l [(⟨at_, tgt⟩ : S64)] (([(⟨at_, tgt⟩ : S64)] : List S64).length : Int) 0 false at_ tgt = reloc_Link.j2 (k + 7) from_ l true [(⟨at_, tgt⟩ : S64)] (([(⟨at_, tgt⟩ : S64)] : List S64).length : Int) 0 (o == 20) at_ tgt o a 0 0 := by
    show reloc_Link.j1 (k + 7 + 1) _ _ _ _ _ _ _ _ = _
    generalize k + 7 = K
    simp only [reloc_Link.j1, Bool.false_eq_true, if_false]
    rw [if_pos h2.1, if_pos h2.2, hg]
    simp only [Option.bind_some, if_true]
  rw [s1]
  rcases ho with rfl | rfl
  · have hn : wrap64 (Int.tdiv (wrap64 (tgt - (wrap64 ((wrap64 (from_ + (wrap64 (4 * at_)))) + 4)))) 4) = newN 20 from_ at_ tgt := by
      have a1 : wrap64 (4 * at_) = 4 * at_ := by unfold wrap64; omega
      have a2 : wrap64 (from_ + 4 * at_) = from_ + 4 * at_ := by unfold wrap64; omega
      have a3 : wrap64 (from_ + 4 * at_ + 4) = from_ + 4 * at_ + 4 := by unfold wrap64; omega
      have a4 : wrap64 (tgt - (from_ + 4 * at_ + 4)) = tgt - (from_ + 4 * at_ + 4) := by unfold wrap64; omega
      rw [a1, a2, a3, a4]
      have : newN 20 from_ at_ tgt = (tgt - (from_ + 4 * at_ + 4)).tdiv 4 := by unfold newN; rw [if_pos rfl]
      rw [← this]; unfold wrap64; omega
    show reloc_Link.j2 (k + 6 + 1) _ _ _ _ _ _ _ _ _ _ _ _ _ = _
    simp only [reloc_Link.j2]
    rw [if_pos (by decide), hn, hp]
    simp only [Option.bind_some, Option.isNone_none, if_true]
    rw [if_pos h2.1, if_pos h2.2, w01]
    exact fin (k + 5) _
  · have hn : newN 1 from_ at_ tgt = tgt := by unfold newN; rw [if_neg (by decide)]
    rw [hn] at hp ⊢
    show reloc_Link.j2 (k + 6 + 1) _ _ _ _ _ _ _ _ _ _ _ _ _ = _
    simp only [reloc_Link.j2]
    rw [if_neg (by decide), if_pos trivial]
    show reloc_Link.j3 (k + 5 + 1) _ _ _ _ _ _ _ _ _ _ _ _ = _
    simp only [reloc_Link.j3]
    rw [if_pos (by decide), hp]
    simp only [Option.bind_some, Option.isNone_none, if_true]
    rw [if_pos h2.1, if_pos h2.2, w01]
    exact fin (k + 4) _
theorem word_Call : dowelref01_PutIns.f 20 15 0 0 = some (wordI 20 15 0 0) := rput_val _ _ _ _ (by unfold MayP; omega)
theorem word_Call2 : dowelref01_PutIns.f 20 15 0 2 = some (wordI 20 15 0 2) := rput_val _ _ _ _ (by unfold MayP; omega)
theorem link_err (k : Nat) : reloc_Link.f (k + 9) [] 0 [⟨0, 0⟩] = some ([], some 4) := by
  unfold reloc_Link.f slices_Clone_uint32_uint32.f
  simp [reloc_Link.l0, reloc_Link.j1, rd_T64]
theorem up_val (k : Nat) : dowellaw17_up.f (k + 9) = some true := by
  unfold dowellaw17_up.f
  rw [word_Call, Option.bind_some]
  have h := link_one k [wordI 20 15 0 0] 400 0 412 20 15 (by decide) ⟨by decide, by decide⟩ ⟨by decide, by decide⟩ ⟨by decide, by decide⟩ (.inl rfl) ⟨by decide, by decide⟩ rfl
  have e : newN 20 400 0 412 = 2 := by decide
  rw [e] at h
  rw [h, link_err, word_Call2]
  simp [rd]
theorem l1_loop (k n : Nat) (at_ from_ tgt a : Int) (set : Bool) (c l : List Int) (o : Int) (hc : c.length = n) (hl : l.length = n) (hn : n ≤ 100) (hat : 0 ≤ at_ ∧ at_ < n) (hsame : ∀ j : Int, 0 ≤ j → j ≠ at_ → rd l j = rd c j)
    (hfin : ∀ K, 50 ≤ K → ((dowelref01_GetIns.f K (rd l at_)).bind fun bt201 => (if bt201.2.2.2.2 = true then (if bt201.1 = o then (if bt201.2.1 = a then (dowellaw17_RelocGoes.j5 K at_ from_ tgt set true (bt201.2.2.1 != 0) bt201.1 bt201.2.1 bt201.2.2.1 bt201.2.2.2.1) else (dowellaw17_RelocGoes.j5 K at_ from_ tgt set true true bt201.1 bt201.2.1 bt201.2.2.1 bt201.2.2.2.1)) else (dowellaw17_RelocGoes.j5 K at_ from_ tgt set true true bt201.1 bt201.2.1 bt201.2.2.1 bt201.2.2.2.1)) else (dowellaw17_RelocGoes.j5 K at_ from_ tgt set true true bt201.1 bt201.2.1 bt201.2.2.1 bt201.2.2.2.1))) = some true)
    (d : Nat) : ∀ (k : Nat) (i : Int) (x1 x2 x3 : Int), 0 ≤ i → i + d = n → d + 51 ≤ k → dowellaw17_RelocGoes.l1 k (n : Int) at_ from_ tgt a set true c l i o x1 x2 x3 = some true := by
  induction d with
  | zero =>
    intro k i x1 x2 x3 h0 hd hk
    obtain ⟨k, rfl⟩ : ∃ m, k = m + 1 := ⟨k - 1, by omega⟩
    simp only [dowellaw17_RelocGoes.l1]
    rw [if_neg (by omega), if_pos hat.1, if_pos (by omega)]
    exact hfin k (by omega)
  | succ d ih =>
    intro k i x1 x2 x3 h0 hd hk
    obtain ⟨k, rfl⟩ : ∃ m, k = m + 1 := ⟨k - 1, by omega⟩
    simp only [dowellaw17_RelocGoes.l1]
    rw [if_pos (by omega), show wrap64 (i + 1) = i + 1 by unfold wrap64; omega]
    by_cases he : i = at_
    · rw [if_pos he]; exact ih k (i + 1) _ _ _ (by omega) (by omega) (by omega)
    · rw [if_neg he, if_pos h0, if_pos (by omega), if_pos (by omega), if_pos (hsame i h0 he)]
      exact ih k (i + 1) _ _ _ (by omega) (by omega) (by omega)
theorem end_val (K : Nat) (hK : 50 ≤ K) (at_ from_ tgt a o : Int) (set : Bool) (h1 : 0 ≤ from_ ∧ from_ ≤ 60000) (h2 : 0 ≤ at_ ∧ at_ < 100) (h3 : 0 ≤ tgt ∧ tgt ≤ 65536) (ha : 0 ≤ a ∧ a ≤ 15) (ho : o = if set then 1 else 20) :
    ((dowelref01_GetIns.f K (wordI o a 0 (newN o from_ at_ tgt))).bind fun bt201 => (if bt201.2.2.2.2 = true then (if bt201.1 = o then (if bt201.2.1 = a then (dowellaw17_RelocGoes.j5 K at_ from_ tgt set true (bt201.2.2.1 != 0) bt201.1 bt201.2.1 bt201.2.2.1 bt201.2.2.2.1) else (dowellaw17_RelocGoes.j5 K at_ from_ tgt set true true bt201.1 bt201.2.1 bt201.2.2.1 bt201.2.2.2.1)) else (dowellaw17_RelocGoes.j5 K at_ from_ tgt set true true bt201.1 bt201.2.1 bt201.2.2.1 bt201.2.2.2.1)) else (dowellaw17_RelocGoes.j5 K at_ from_ tgt set true true bt201.1 bt201.2.1 bt201.2.2.1 bt201.2.2.2.1))) = some true := by
  have hr := newN_range o from_ at_ tgt h1 h2 h3
  have m1 : MayP o a 0 (newN o from_ at_ tgt) := by unfold MayP; cases set <;> simp at ho <;> omega
  obtain ⟨b0, b1, e1, e2, e3, e4⟩ := back1 o a 0 _ m1
  have hg := rget_val K (by omega) _ b0 b1
  rw [e1, e2, e3, e4, if_pos ((may_iff _ _ _ _).2 m1)] at hg
  rw [hg]
  simp only [Option.bind_some, if_true, bne_self_eq_false]
  obtain ⟨K, rfl⟩ : ∃ m, K = m + 1 := ⟨K - 1, by omega⟩
  simp only [dowellaw17_RelocGoes.j5, Bool.false_eq_true, if_false, if_true]
  cases set
  · simp only [Bool.false_eq_true, if_false] at ho ⊢
    subst ho
    have a1 : wrap64 (4 * at_) = 4 * at_ := by unfold wrap64; omega
    have a2 : wrap64 (from_ + 4 * at_) = from_ + 4 * at_ := by unfold wrap64; omega
    have a3 : wrap64 (from_ + 4 * at_ + 4) = from_ + 4 * at_ + 4 := by unfold wrap64; omega
    have a4 : wrap64 (tgt - (from_ + 4 * at_ + 4)) = tgt - (from_ + 4 * at_ + 4) := by unfold wrap64; omega
    have a5 : wrap64 (4 * newN 20 from_ at_ tgt) = 4 * newN 20 from_ at_ tgt := by unfold wrap64; omega
    have a6 : wrap64 (from_ + 4 * at_ + 4 + 4 * newN 20 from_ at_ tgt) = from_ + 4 * at_ + 4 + 4 * newN 20 from_ at_ tgt := by unfold wrap64; omega
    rw [a1, a2, a3, a4, a5, a6]
    by_cases hz : Int.tmod (tgt - (from_ + 4 * at_ + 4)) 4 = 0
    · rw [if_pos hz]
      have hd := Int.mul_tdiv_add_tmod (tgt - (from_ + 4 * at_ + 4)) 4
      have en : newN 20 from_ at_ tgt = (tgt - (from_ + 4 * at_ + 4)).tdiv 4 := by unfold newN; rw [if_pos rfl]
      rw [en]
      congr 1; rw [beq_iff_eq]; omega
    · rw [if_neg hz]
  · simp only [if_true] at ho ⊢
    subst ho
    have en : newN 1 from_ at_ tgt = tgt := by unfold newN; rw [if_neg (by decide)]
    rw [en]; simp
theorem rest (k n : Nat) (at_ from_ tgt a o : Int) (set : Bool) (c : List Int) (hc : c.length = n) (hn : n ≤ 100) (h1 : 0 ≤ from_ ∧ from_ ≤ 60000) (h2 : 0 ≤ at_ ∧ at_ < n) (h3 : 0 ≤ tgt ∧ tgt ≤ 65536) (ha : 0 ≤ a ∧ a ≤ 15) (ho : o = if set then 1 else 20) (hk : 300 ≤ k) :
    ((dowelref01_PutIns.f o a 0 0).bind fun t188 => (if 0 ≤ at_ then (if at_ < (c.length : Int) then ((some (c.set (at_ : Int).toNat t188 : List Int)).bind fun y189 => ((reloc_Link.f k y189 from_ (([(⟨at_, tgt⟩ : S64)] : List (S64)))).bind fun bt193 => (if bt193.2.isNone = true then (dowellaw17_RelocGoes.j3 k (n : Int) at_ from_ tgt a set true y189 bt193.1 ((bt193.1.length : Int) != n) o a 0 0) else (dowellaw17_RelocGoes.j3 k (n : Int) at_ from_ tgt a set true y189 bt193.1 true o a 0 0)))) else (none)) else (none))) = some true := by
  have m0 : MayP o a 0 0 := by unfold MayP; cases set <;> simp at ho <;> omega
  rw [rput_val _ _ _ _ m0, Option.bind_some, if_pos h2.1, if_pos (by omega), Option.bind_some]
  obtain ⟨K, rfl⟩ : ∃ m, k = m + 9 := ⟨k - 9, by omega⟩
  have hlen : (c.set at_.toNat (wordI o a 0 0)).length = n := by rw [List.length_set]; exact hc
  have hl := link_one K (c.set at_.toNat (wordI o a 0 0)) from_ at_ tgt o a (by omega) ⟨h2.1, by omega⟩ h1 h3 (by cases set <;> simp at ho <;> omega) ha (rd_set_same _ _ _ h2.1 (by omega))
  rw [hl]
  simp only [Option.bind_some, Option.isNone_none, if_true]
  have hlen2 : ((c.set at_.toNat (wordI o a 0 0)).set at_.toNat (wordI o a 0 (newN o from_ at_ tgt))).length = n := by rw [List.length_set]; exact hlen
  rw [hlen2, bne_self_eq_false]
  show dowellaw17_RelocGoes.j3 (K + 8 + 1) _ _ _ _ _ _ _ _ _ _ _ _ _ _ = _
  have hl1 := l1_loop 0 n at_ from_ tgt a set (c.set at_.toNat (wordI o a 0 0)) ((c.set at_.toNat (wordI o a 0 0)).set at_.toNat (wordI o a 0 (newN o from_ at_ tgt))) o hlen hlen2 hn h2
    (fun j h0 hj => rd_set_other _ _ _ _ h2.1 h0 (fun h => hj h.symm)) (fun K' hK' => by
      rw [rd_set_same _ _ _ h2.1 (by omega)]
      exact end_val K' hK' at_ from_ tgt a o set h1 ⟨h2.1, by omega⟩ h3 ha ho) n (K + 8) 0 a 0 0 (by omega) (by omega) (by omega)
  generalize K + 8 = K2 at hl1 ⊢
  simp only [dowellaw17_RelocGoes.j3, Bool.false_eq_true, if_false]
  exact hl1
theorem l0_loop (n : Nat) (at_ from_ tgt a o : Int) (set : Bool) (hn : n ≤ 100) (h1 : 0 ≤ from_ ∧ from_ ≤ 60000) (h2 : 0 ≤ at_ ∧ at_ < n) (h3 : 0 ≤ tgt ∧ tgt ≤ 65536) (ha : 0 ≤ a ∧ a ≤ 15) (ho : o = if set then 1 else 20)
    (d : Nat) : ∀ (k : Nat) (i : Int) (c : List Int), c.length = n → 0 ≤ i → i + d = n → d + 301 ≤ k → dowellaw17_RelocGoes.l0 k (n : Int) at_ from_ tgt a set true c i o a 0 0 = some true := by
  induction d with
  | zero =>
    intro k i c hc h0 hd hk
    obtain ⟨k, rfl⟩ : ∃ m, k = m + 1 := ⟨k - 1, by omega⟩
    have r := rest k n at_ from_ tgt a o set c hc hn h1 h2 h3 ha ho (by omega)
    simp only [dowellaw17_RelocGoes.l0]
    rw [if_neg (by omega)]
    exact r
  | succ d ih =>
    intro k i c hc h0 hd hk
    obtain ⟨k, rfl⟩ : ∃ m, k = m + 1 := ⟨k - 1, by omega⟩
    simp only [dowellaw17_RelocGoes.l0]
    rw [if_pos (by omega), if_pos h0, if_pos (by omega), show wrap64 (i + 1) = i + 1 by unfold wrap64; omega]
    exact ih k (i + 1) _ (by rw [List.length_set]; exact hc) (by omega) (by omega) (by omega)
theorem j1_val (K : Nat) (hK : 500 ≤ K) (n : Nat) (at_ from_ tgt a o : Int) (set : Bool) (hn0 : 1 ≤ n) (hn : n ≤ 100) (h1 : 0 ≤ from_ ∧ from_ ≤ 60000) (h2 : 0 ≤ at_ ∧ at_ < n) (h3 : 0 ≤ tgt ∧ tgt ≤ 65536) (ha : 0 ≤ a ∧ a ≤ 15) (ho : o = if set then 1 else 20) :
    dowellaw17_RelocGoes.j1 (K + 1) (n : Int) at_ from_ tgt a set true o a 0 0 = some true := by
  have r := l0_loop n at_ from_ tgt a o set hn h1 h2 h3 ha ho n K 0 (List.replicate n 0) (List.length_replicate ..) (by omega) (by omega) (by omega)
  simp only [dowellaw17_RelocGoes.j1]
  rw [if_pos (by omega), if_pos (by omega), Int.toNat_natCast]
  exact r
theorem RelocGoes : dowellaw17_RelocGoes.Pure := by
  intro n at_ from_ tgt a set _ _ _ _ _
  obtain ⟨K, hK⟩ : ∃ K : Nat, 600 ≤ K := ⟨600, Nat.le_refl _⟩
  refine ⟨K + 9, ?_⟩
  unfold dowellaw17_RelocGoes.f
  rw [up_val, Option.bind_some, show K + 9 = K + 8 + 1 from rfl]
  generalize hG : K + 8 = G
  have out : dowellaw17_RelocGoes.j0 (G + 1) n at_ from_ tgt a set true true = some true := by simp only [dowellaw17_RelocGoes.j0, if_true]
  by_cases c1 : n < 1
  · rw [if_pos c1, out]
  by_cases c2 : n > 100
  · rw [if_neg c1, if_pos c2, out]
  by_cases c3 : at_ < 0
  · rw [if_neg c1, if_neg c2, if_pos c3, out]
  by_cases c4 : at_ ≥ n
  · rw [if_neg c1, if_neg c2, if_neg c3, if_pos c4, out]
  by_cases c5 : from_ < 0
  · rw [if_neg c1, if_neg c2, if_neg c3, if_neg c4, if_pos c5, out]
  by_cases c6 : from_ > 60000
  · rw [if_neg c1, if_neg c2, if_neg c3, if_neg c4, if_neg c5, if_pos c6, out]
  by_cases c7 : tgt < 0
  · rw [if_neg c1, if_neg c2, if_neg c3, if_neg c4, if_neg c5, if_neg c6, if_pos c7, out]
  by_cases c8 : tgt > 65536
  · rw [if_neg c1, if_neg c2, if_neg c3, if_neg c4, if_neg c5, if_neg c6, if_neg c7, if_pos c8, out]
  by_cases c9 : a < 0
  · rw [if_neg c1, if_neg c2, if_neg c3, if_neg c4, if_neg c5, if_neg c6, if_neg c7, if_neg c8, if_pos c9, out]
  rw [if_neg c1, if_neg c2, if_neg c3, if_neg c4, if_neg c5, if_neg c6, if_neg c7, if_neg c8, if_neg c9]
  by_cases c10 : a > 15
  · rw [decide_eq_true c10, out]
  rw [decide_eq_false c10]
  obtain ⟨n, rfl⟩ := Int.eq_ofNat_of_zero_le (show 0 ≤ n by omega)
  obtain ⟨G', rfl⟩ : ∃ m, G = m + 1 := ⟨G - 1, by omega⟩
  have r := fun o h => j1_val G' (by omega) n at_ from_ tgt a o set (by omega) (by omega) ⟨by omega, by omega⟩ ⟨by omega, by omega⟩ ⟨by omega, by omega⟩ ⟨by omega, by omega⟩ h
  generalize G' + 1 = G2 at r ⊢
  simp only [dowellaw17_RelocGoes.j0, Bool.false_eq_true, if_false]
  cases set
  · simp only [Bool.false_eq_true, if_false] at r ⊢; exact r 20 rfl
  · simp only [if_true] at r ⊢; exact r 1 rfl
end Go.Proofs.Ytnflalbiffamdaa.Pure
