/- RelocLinks, the plain side: for any code, base and fixes that the statement lets in, the program's Link and the reference's tell the same. No condition but the words' range. -/
import Derived.Test.YtnflalbiffamdaaQRelocLinksPlain
namespace Go.Proofs.Ytnflalbiffamdaa.Pure
open Go.RowKit Go.Proofs.Ytnflalbiffamdaa.QRelocLinks Go.Proofs.Ytnflalbiffamdaa.QRelocLinksPlain Go.Proofs.YtnflalbiffamdaaW.PrintWords Go.Proofs.YtnflalbiffamdaaW.PrintLast Go.Proofs.YtnflalbiffamdaaW.PrintMore
set_option linter.unusedVariables false
/-- The number that a Call, or a Set, is to have. -/
def newN (o from_ at_ tgt : Int) : Int := if o = 20 then (tgt - (from_ + 4 * at_ + 4)).tdiv 4 else tgt
theorem tdiv4 (x : Int) (h : -10000000 ≤ x ∧ x ≤ 10000000) : -10000000 ≤ x.tdiv 4 ∧ x.tdiv 4 ≤ 10000000 := by
  have := Int.mul_tdiv_add_tmod x 4
  have h5 := Int.tmod_lt_of_pos x (show (0 : Int) < 4 by decide)
  have h6 : -4 < x.tmod 4 := by have := Int.natAbs_tmod x 4; have h8 := Nat.mod_lt x.natAbs (show 0 < (4 : Int).natAbs by decide); omega
  omega
/-- One fix. -/
def stepL (from_ : Int) (out : List Int) (at_ tgt : Int) : Option (List Int) :=
  if at_ < 0 ∨ at_ ≥ out.length then none
  else if mayB (rd out at_ / 67108864) (rd out at_ / 4194304 % 16) (rd out at_ / 262144 % 16) (sg (rd out at_ % 262144)) = true ∧ (rd out at_ / 67108864 = 20 ∨ rd out at_ / 67108864 = 1) then
    (if mayB (rd out at_ / 67108864) (rd out at_ / 4194304 % 16) (rd out at_ / 262144 % 16) (newN (rd out at_ / 67108864) from_ at_ tgt) = true then
      some (out.set at_.toNat (wordI (rd out at_ / 67108864) (rd out at_ / 4194304 % 16) (rd out at_ / 262144 % 16) (newN (rd out at_ / 67108864) from_ at_ tgt)))
    else none)
  else none
/-- All fixes. -/
def linkL (from_ : Int) : List (Int × Int) → List Int → Option (List Int)
  | [], out => some out
  | f :: fs, out => (stepL from_ out f.1 f.2).bind (linkL from_ fs)
def InR (l : List Int) : Prop := ∀ x ∈ l, 0 ≤ x ∧ x < 4294967296
theorem rd_in {l : List Int} (h : InR l) (i : Int) (h0 : 0 ≤ i) (h1 : i < l.length) : 0 ≤ rd l i ∧ rd l i < 4294967296 := by
  unfold rd
  rw [List.getD_eq_getElem?_getD, List.getElem?_eq_getElem (show i.toNat < l.length by omega)]
  exact h _ (List.getElem_mem _)
theorem set_in {l : List Int} (h : InR l) (i : Nat) (v : Int) (hv : 0 ≤ v ∧ v < 4294967296) : InR (l.set i v) := by
  intro x hx
  rcases List.mem_or_eq_of_mem_set hx with h1 | h1
  · exact h x h1
  · subst h1; exact hv
theorem step_in {from_ : Int} {out : List Int} {at_ tgt : Int} {r : List Int} (h : InR out) (e : stepL from_ out at_ tgt = some r) : InR r ∧ r.length = out.length := by
  unfold stepL at e
  split at e
  · exact absurd e (by simp)
  · split at e
    · split at e
      · rename_i h1 h2 h3
        obtain rfl := Option.some.inj e
        have hm := (may_iff _ _ _ _).1 h3
        obtain ⟨b0, b1, _⟩ := back1 _ _ _ _ hm
        exact ⟨set_in h _ _ ⟨b0, b1⟩, List.length_set ..⟩
      · exact absurd e (by simp)
    · exact absurd e (by simp)
/-- What the program's Link tells. -/
def ansP (r : Option (List Int)) : Option (List Int × Option Int) := match r with | some x => some (x, none) | none => some ([], some 4)
def ansR (r : Option (List Int)) : Option (List Int × Bool) := match r with | some x => some (x, true) | none => some ([], false)
theorem mayF {o a b n : Int} (h : ¬ mayB o a b n = true) : mayB o a b n = false := Bool.eq_false_iff.2 h
theorem w1 (i : Int) (h : 0 ≤ i ∧ i < 1000) : wrap64 (i + 1) = i + 1 := by unfold wrap64; omega
theorem calc_p (from_ at_ tgt : Int) (h1 : -1000000 ≤ from_ ∧ from_ ≤ 1000000) (h2 : 0 ≤ at_ ∧ at_ < 1000) (h3 : -1000000 ≤ tgt ∧ tgt ≤ 1000000) :
    wrap64 (Int.tdiv (wrap64 (tgt - (wrap64 ((wrap64 (from_ + (wrap64 (4 * at_)))) + 4)))) 4) = (tgt - (from_ + 4 * at_ + 4)).tdiv 4 := by
  have a1 : wrap64 (4 * at_) = 4 * at_ := by unfold wrap64; omega
  have a2 : wrap64 (from_ + 4 * at_) = from_ + 4 * at_ := by unfold wrap64; omega
  have a3 : wrap64 (from_ + 4 * at_ + 4) = from_ + 4 * at_ + 4 := by unfold wrap64; omega
  have a4 : wrap64 (tgt - (from_ + 4 * at_ + 4)) = tgt - (from_ + 4 * at_ + 4) := by unfold wrap64; omega
  have a5 := tdiv4 (tgt - (from_ + 4 * at_ + 4)) (by omega)
  rw [a1, a2, a3, a4]; unfold wrap64; omega
theorem calc_r (from_ at_ tgt : Int) (h1 : -1000000 ≤ from_ ∧ from_ ≤ 1000000) (h2 : 0 ≤ at_ ∧ at_ < 1000) (h3 : -1000000 ≤ tgt ∧ tgt ≤ 1000000) :
    wrap64 (Int.tdiv (wrap64 ((wrap64 ((wrap64 (tgt - from_)) - (wrap64 (4 * at_)))) - 4)) 4) = (tgt - (from_ + 4 * at_ + 4)).tdiv 4 := by
  have a1 : wrap64 (4 * at_) = 4 * at_ := by unfold wrap64; omega
  have a2 : wrap64 (tgt - from_) = tgt - from_ := by unfold wrap64; omega
  have a3 : wrap64 (tgt - from_ - 4 * at_) = tgt - from_ - 4 * at_ := by unfold wrap64; omega
  have a4 : wrap64 (tgt - from_ - 4 * at_ - 4) = tgt - (from_ + 4 * at_ + 4) := by unfold wrap64; omega
  have a5 := tdiv4 (tgt - (from_ + 4 * at_ + 4)) (by omega)
  rw [a1, a2, a3, a4]; unfold wrap64; omega
/-- One round of the program's loop. -/
theorem p_step (K : Nat) (from_ : Int) (out : List Int) (l : List S64) (i at_ tgt : Int) (hout : InR out) (hlen : out.length ≤ 300) (h1 : -1000000 ≤ from_ ∧ from_ ≤ 1000000) (h3 : -1000000 ≤ tgt ∧ tgt ≤ 1000000) (hi : 0 ≤ i ∧ i < l.length) (hl : l.length ≤ 100) (e : rd_T64 l i = ⟨at_, tgt⟩) :
    ∃ K', K ≤ K' ∧ reloc_Link.l0 (K + 4) from_ out l (l.length : Int) i = match stepL from_ out at_ tgt with | some o => reloc_Link.l0 K' from_ o l (l.length : Int) (i + 1) | none => some ([], some 4) := by
  have hw := w1 i ⟨hi.1, by omega⟩
  by_cases hb : at_ < 0 ∨ at_ ≥ out.length
  · refine ⟨K, Nat.le_refl _, ?_⟩
    rw [show stepL from_ out at_ tgt = none by unfold stepL; rw [if_pos hb]]
    show reloc_Link.l0 (K + 3 + 1) _ _ _ _ _ = _
    have hj : ∀ a b, reloc_Link.j1 (K + 2 + 1) from_ out l (l.length : Int) i true a b = some ([], some 4) := by intro a b; simp only [reloc_Link.j1, if_true]
    generalize K + 3 = M at hj ⊢
    simp only [reloc_Link.l0]
    rw [if_pos hi.2, if_pos hi.1, if_pos hi.2, e]
    dsimp only
    by_cases hn : at_ < 0
    · rw [if_pos hn]; exact hj _ _
    · rw [if_neg hn, decide_eq_true (by omega)]; exact hj _ _
  have h2 : 0 ≤ at_ ∧ at_ < out.length := by omega
  have hx := rd_in hout at_ h2.1 h2.2
  have hg := get_val (rd out at_) hx.1 hx.2
  have s0 : reloc_Link.l0 (K + 4) from_ out l (l.length : Int) i = reloc_Link.j1 (K + 3) from_ out l (l.length : Int) i false at_ tgt := by
    show reloc_Link.l0 (K + 3 + 1) _ _ _ _ _ = _
    generalize K + 3 = M
    simp only [reloc_Link.l0]
    rw [if_pos hi.2, if_pos hi.1, if_pos hi.2, e]
    dsimp only
    rw [if_neg (by omega), decide_eq_false (by omega)]
  rw [s0]
  show ∃ K', _ ∧ reloc_Link.j1 (K + 2 + 1) _ _ _ _ _ _ _ _ = _
  have hs : stepL from_ out at_ tgt = (if mayB (rd out at_ / 67108864) (rd out at_ / 4194304 % 16) (rd out at_ / 262144 % 16) (sg (rd out at_ % 262144)) = true ∧ (rd out at_ / 67108864 = 20 ∨ rd out at_ / 67108864 = 1) then
    (if mayB (rd out at_ / 67108864) (rd out at_ / 4194304 % 16) (rd out at_ / 262144 % 16) (newN (rd out at_ / 67108864) from_ at_ tgt) = true then
      some (out.set at_.toNat (wordI (rd out at_ / 67108864) (rd out at_ / 4194304 % 16) (rd out at_ / 262144 % 16) (newN (rd out at_ / 67108864) from_ at_ tgt)))
    else none) else none) := by unfold stepL; rw [if_neg hb]
  generalize ho : rd out at_ / 67108864 = o at *
  generalize ha : rd out at_ / 4194304 % 16 = a at *
  generalize hbb : rd out at_ / 262144 % 16 = b at *
  generalize hnn : sg (rd out at_ % 262144) = n at *
  have j2no : ∀ M q0 q1 q2 q3 (is : Bool), ¬ (q0 = 20 ∧ is = true) → ¬ (is = true ∧ q0 = 1) → reloc_Link.j2 (M + 2) from_ out is l (l.length : Int) i false at_ tgt q0 q1 q2 q3 = some ([], some 4) := by
    intro M q0 q1 q2 q3 is _ h
    show reloc_Link.j2 (M + 1 + 1) _ _ _ _ _ _ _ _ _ _ _ _ _ = _
    simp only [reloc_Link.j2, Bool.false_eq_true, if_false]
    cases is
    · simp only [Bool.false_eq_true, if_false, reloc_Link.j3]
    · simp only [if_true]
      rw [show (q0 == 1) = false by simpa using h]
      simp only [reloc_Link.j3, Bool.false_eq_true, if_false]
  by_cases hm : mayB o a b n = true
  · rw [if_pos hm] at hg
    have put : ∀ v, ins_Put.f o a b v = if mayB o a b v = true then some (wordI o a b v, none) else some (0, some 1) := by
      intro v
      by_cases hv : mayB o a b v = true
      · rw [if_pos hv]; exact put_yes _ _ _ _ ((may_iff _ _ _ _).1 hv)
      · rw [if_neg hv]; exact put_no _ _ _ _ (fun h => hv ((may_iff _ _ _ _).2 h))
    by_cases h20 : o = 20
    · refine ⟨K + 1, by omega, ?_⟩
      have hN : newN o from_ at_ tgt = (tgt - (from_ + 4 * at_ + 4)).tdiv 4 := by unfold newN; rw [if_pos h20]
      rw [hs, if_pos ⟨hm, .inl h20⟩, hN]
      have e1 : reloc_Link.j1 (K + 2 + 1) from_ out l (l.length : Int) i false at_ tgt = reloc_Link.j2 (K + 1 + 1) from_ out true l (l.length : Int) i true at_ tgt o a b n := by
        show reloc_Link.j1 (K + 2 + 1) _ _ _ _ _ _ _ _ = reloc_Link.j2 (K + 2) _ _ _ _ _ _ _ _ _ _ _ _ _
        generalize K + 2 = M
        simp only [reloc_Link.j1, Bool.false_eq_true, if_false]
        rw [if_pos h2.1, if_pos h2.2, hg]
        simp only [Option.bind_some, if_true]
        rw [show (o == 20) = true by simpa using h20]
      rw [e1]
      generalize K + 1 = M
      simp only [reloc_Link.j2, if_true]
      rw [calc_p from_ at_ tgt h1 ⟨h2.1, by omega⟩ h3, put]
      by_cases hv : mayB o a b ((tgt - (from_ + 4 * at_ + 4)).tdiv 4) = true
      · rw [if_pos hv, if_pos hv]
        simp only [Option.bind_some, Option.isNone_none, if_true]
        rw [if_pos h2.1, if_pos h2.2, hw]
      · rw [if_neg hv, if_neg hv]; rfl
    · by_cases h1o : o = 1
      · refine ⟨K, Nat.le_refl _, ?_⟩
        have hN : newN o from_ at_ tgt = tgt := by unfold newN; rw [if_neg h20]
        rw [hs, if_pos ⟨hm, .inr h1o⟩, hN]
        have e1 : reloc_Link.j1 (K + 2 + 1) from_ out l (l.length : Int) i false at_ tgt = reloc_Link.j3 (K + 1) from_ out l (l.length : Int) i true at_ tgt o a b n := by
          have e2 : reloc_Link.j2 (K + 1 + 1) from_ out true l (l.length : Int) i false at_ tgt o a b n = reloc_Link.j3 (K + 1) from_ out l (l.length : Int) i true at_ tgt o a b n := by
            generalize K + 1 = M
            simp only [reloc_Link.j2, Bool.false_eq_true, if_false, if_true]
            rw [show (o == 1) = true by simpa using h1o]
          rw [← e2]
          show reloc_Link.j1 (K + 2 + 1) _ _ _ _ _ _ _ _ = reloc_Link.j2 (K + 2) _ _ _ _ _ _ _ _ _ _ _ _ _
          generalize K + 2 = M
          simp only [reloc_Link.j1, Bool.false_eq_true, if_false]
          rw [if_pos h2.1, if_pos h2.2, hg]
          simp only [Option.bind_some, if_true]
          rw [show (o == 20) = false by simpa using h20]
        rw [e1]
        simp only [reloc_Link.j3, if_true]
        rw [put]
        by_cases hv : mayB o a b tgt = true
        · rw [if_pos hv, if_pos hv]
          simp only [Option.bind_some, Option.isNone_none, if_true]
          rw [if_pos h2.1, if_pos h2.2, hw]
        · rw [if_neg hv, if_neg hv]; rfl
      · refine ⟨K, Nat.le_refl _, ?_⟩
        rw [hs, if_neg (by rintro ⟨_, h | h⟩; exact h20 h; exact h1o h)]
        have r := j2no K o a b n true (by rintro ⟨h, _⟩; exact h20 h) (by rintro ⟨_, h⟩; exact h1o h)
        generalize K + 2 = M at r ⊢
        simp only [reloc_Link.j1, Bool.false_eq_true, if_false]
        rw [if_pos h2.1, if_pos h2.2, hg]
        simp only [Option.bind_some, if_true]
        rw [show (o == 20) = false by simpa using h20]
        exact r
  · rw [if_neg hm] at hg
    refine ⟨K, Nat.le_refl _, ?_⟩
    rw [hs, if_neg (by rintro ⟨h, _⟩; exact hm h)]
    have r := j2no K 0 0 0 0 false (by rintro ⟨_, h⟩; cases h) (by rintro ⟨h, _⟩; cases h)
    generalize K + 2 = M at r ⊢
    simp only [reloc_Link.j1, Bool.false_eq_true, if_false]
    rw [if_pos h2.1, if_pos h2.2, hg]
    simp only [Option.bind_some, Bool.false_eq_true, if_false]
    exact r
/-- One round of the reference's loop. -/
theorem r_step (K : Nat) (hK : 50 ≤ K) (from_ : Int) (out : List Int) (l : List S65) (i at_ tgt : Int) (hout : InR out) (hlen : out.length ≤ 300) (h1 : -1000000 ≤ from_ ∧ from_ ≤ 1000000) (h3 : -1000000 ≤ tgt ∧ tgt ≤ 1000000) (hi : 0 ≤ i ∧ i < l.length) (hl : l.length ≤ 100) (e : rd_T65 l i = ⟨at_, tgt⟩) :
    dowelref09_Link.l0 (K + 3) from_ l out i = match stepL from_ out at_ tgt with | some o => dowelref09_Link.l0 K from_ l o (i + 1) | none => some ([], false) := by
  have hw := w1 i ⟨hi.1, by omega⟩
  by_cases hb : at_ < 0 ∨ at_ ≥ out.length
  · rw [show stepL from_ out at_ tgt = none by unfold stepL; rw [if_pos hb]]
    show dowelref09_Link.l0 (K + 2 + 1) _ _ _ _ = _
    have hj : ∀ a b, dowelref09_Link.j1 (K + 1 + 1) from_ l out i true a b = some ([], false) := by intro a b; simp only [dowelref09_Link.j1, if_true]
    generalize K + 2 = M at hj ⊢
    simp only [dowelref09_Link.l0]
    rw [if_pos hi.2, if_pos hi.1, e]
    dsimp only
    by_cases hn : at_ < 0
    · rw [if_pos hn]; exact hj _ _
    · rw [if_neg hn, decide_eq_true (by omega)]; exact hj _ _
  have h2 : 0 ≤ at_ ∧ at_ < out.length := by omega
  have hx := rd_in hout at_ h2.1 h2.2
  have hg := rget_val (K + 1) (by omega) (rd out at_) hx.1 hx.2
  have s0 : dowelref09_Link.l0 (K + 3) from_ l out i = dowelref09_Link.j1 (K + 1 + 1) from_ l out i false at_ tgt := by
    show dowelref09_Link.l0 (K + 2 + 1) _ _ _ _ = dowelref09_Link.j1 (K + 2) _ _ _ _ _ _ _
    generalize K + 2 = M
    simp only [dowelref09_Link.l0]
    rw [if_pos hi.2, if_pos hi.1, e]
    dsimp only
    rw [if_neg (by omega), decide_eq_false (by omega)]
  rw [s0]
  have hs : stepL from_ out at_ tgt = (if mayB (rd out at_ / 67108864) (rd out at_ / 4194304 % 16) (rd out at_ / 262144 % 16) (sg (rd out at_ % 262144)) = true ∧ (rd out at_ / 67108864 = 20 ∨ rd out at_ / 67108864 = 1) then
    (if mayB (rd out at_ / 67108864) (rd out at_ / 4194304 % 16) (rd out at_ / 262144 % 16) (newN (rd out at_ / 67108864) from_ at_ tgt) = true then
      some (out.set at_.toNat (wordI (rd out at_ / 67108864) (rd out at_ / 4194304 % 16) (rd out at_ / 262144 % 16) (newN (rd out at_ / 67108864) from_ at_ tgt)))
    else none) else none) := by unfold stepL; rw [if_neg hb]
  generalize ho : rd out at_ / 67108864 = o at *
  generalize ha : rd out at_ / 4194304 % 16 = a at *
  generalize hbb : rd out at_ / 262144 % 16 = b at *
  generalize hnn : sg (rd out at_ % 262144) = n at *
  have put : ∀ v, (dowelref01_May.f o a b v).bind (fun t197 => (if t197 = true then ((dowelref01_PutIns.f o a b v).bind fun t198 => (if 0 ≤ at_ then (if at_ < (out.length : Int) then (dowelref09_Link.l0 K from_ l (out.set (at_ : Int).toNat t198) (wrap64 (i + 1))) else (none)) else (none))) else (some (([] : List Int), false)))) = match (if mayB o a b v = true then some (out.set at_.toNat (wordI o a b v)) else none) with | some q => dowelref09_Link.l0 K from_ l q (i + 1) | none => some ([], false) := by
    intro v
    rw [rmay_val, Option.bind_some]
    by_cases hv : mayB o a b v = true
    · rw [if_pos hv, if_pos hv, rput_val _ _ _ _ ((may_iff _ _ _ _).1 hv), Option.bind_some, if_pos h2.1, if_pos h2.2, hw]
    · rw [if_neg hv, if_neg hv]
  generalize hM : K + 1 = M at hg ⊢
  simp only [dowelref09_Link.j1, Bool.false_eq_true, if_false]
  rw [if_pos h2.1, if_pos h2.2, hg, hs]
  subst hM
  by_cases hm : mayB o a b n = true
  · rw [if_pos hm]
    simp only [Option.bind_some, if_true]
    by_cases h20 : o = 20
    · have hN : newN o from_ at_ tgt = (tgt - (from_ + 4 * at_ + 4)).tdiv 4 := by unfold newN; rw [if_pos h20]
      rw [if_pos h20, if_pos ⟨hm, .inl h20⟩, hN, calc_r from_ at_ tgt h1 ⟨h2.1, by omega⟩ h3]
      simp only [dowelref09_Link.j2]
      exact put _
    · by_cases h1o : o = 1
      · have hN : newN o from_ at_ tgt = tgt := by unfold newN; rw [if_neg h20]
        rw [if_neg h20, if_pos h1o, if_pos ⟨hm, .inr h1o⟩, hN]
        simp only [dowelref09_Link.j2]
        exact put _
      · rw [if_neg h20, if_neg h1o, if_neg (by rintro ⟨_, h | h⟩; exact h20 h; exact h1o h)]
  · rw [if_neg hm, if_neg (by rintro ⟨h, _⟩; exact hm h)]
    simp only [Option.bind_some, Bool.false_eq_true, if_false]
def fxP (l : List S64) : List (Int × Int) := l.map fun s => (s.f0, s.f1)
def fxR (l : List S65) : List (Int × Int) := l.map fun s => (s.f0, s.f1)
theorem rd64 (l : List S64) (i : Nat) (h : i < l.length) : rd_T64 l (i : Int) = l[i] := by
  unfold rd_T64; rw [Int.toNat_natCast, List.getD_eq_getElem?_getD, List.getElem?_eq_getElem h]; rfl
theorem rd65 (l : List S65) (i : Nat) (h : i < l.length) : rd_T65 l (i : Int) = l[i] := by
  unfold rd_T65; rw [Int.toNat_natCast, List.getD_eq_getElem?_getD, List.getElem?_eq_getElem h]; rfl
def Tg (l : List (Int × Int)) : Prop := ∀ x ∈ l, -1000000 ≤ x.2 ∧ x.2 ≤ 1000000
theorem p_loop (from_ : Int) (l : List S64) (h1 : -1000000 ≤ from_ ∧ from_ ≤ 1000000) (ht : Tg (fxP l)) (hl : l.length ≤ 100) (d : Nat) : ∀ (K : Nat) (i : Nat) (out : List Int), InR out → out.length ≤ 300 → i + d = l.length → 4 * d + 4 ≤ K →
    reloc_Link.l0 K from_ out l (l.length : Int) (i : Int) = ansP (linkL from_ ((fxP l).drop i) out) := by
  induction d with
  | zero =>
    intro K i out hout hlen hd hK
    obtain ⟨K, rfl⟩ : ∃ m, K = m + 1 := ⟨K - 1, by omega⟩
    rw [List.drop_eq_nil_of_le (by unfold fxP; rw [List.length_map]; omega)]
    simp only [reloc_Link.l0]
    rw [if_neg (by omega)]; rfl
  | succ d ih =>
    intro K i out hout hlen hd hK
    obtain ⟨K, rfl⟩ : ∃ m, K = m + 4 := ⟨K - 4, by omega⟩
    have hi : i < l.length := by omega
    have hi' : i < (fxP l).length := by unfold fxP; rw [List.length_map]; exact hi
    have eg : (fxP l)[i] = (l[i].f0, l[i].f1) := List.getElem_map _
    have htg := ht _ (List.getElem_mem hi')
    rw [eg] at htg
    rw [List.drop_eq_getElem_cons hi', eg]
    obtain ⟨K', hK', e⟩ := p_step K from_ out l i l[i].f0 l[i].f1 hout hlen h1 htg ⟨by omega, by omega⟩ hl (rd64 l i hi)
    rw [e]
    simp only [linkL]
    cases hs : stepL from_ out l[i].f0 l[i].f1 with
    | none => rfl
    | some o =>
      have ho := step_in hout hs
      simp only [Option.bind_some]
      exact ih K' (i + 1) o ho.1 (by omega) (by omega) (by omega)
theorem r_loop (from_ : Int) (l : List S65) (h1 : -1000000 ≤ from_ ∧ from_ ≤ 1000000) (ht : Tg (fxR l)) (hl : l.length ≤ 100) (d : Nat) : ∀ (K : Nat) (i : Nat) (out : List Int), InR out → out.length ≤ 300 → i + d = l.length → 3 * d + 60 ≤ K →
    dowelref09_Link.l0 K from_ l out (i : Int) = ansR (linkL from_ ((fxR l).drop i) out) := by
  induction d with
  | zero =>
    intro K i out hout hlen hd hK
    obtain ⟨K, rfl⟩ : ∃ m, K = m + 1 := ⟨K - 1, by omega⟩
    rw [List.drop_eq_nil_of_le (by unfold fxR; rw [List.length_map]; omega)]
    simp only [dowelref09_Link.l0]
    rw [if_neg (by omega)]; rfl
  | succ d ih =>
    intro K i out hout hlen hd hK
    obtain ⟨K, rfl⟩ : ∃ m, K = m + 3 := ⟨K - 3, by omega⟩
    have hi : i < l.length := by omega
    have hi' : i < (fxR l).length := by unfold fxR; rw [List.length_map]; exact hi
    have eg : (fxR l)[i] = (l[i].f0, l[i].f1) := List.getElem_map _
    have htg := ht _ (List.getElem_mem hi')
    rw [eg] at htg
    rw [List.drop_eq_getElem_cons hi', eg]
    rw [r_step K (by omega) from_ out l i l[i].f0 l[i].f1 hout hlen h1 htg ⟨by omega, by omega⟩ hl (rd65 l i hi)]
    simp only [linkL]
    cases hs : stepL from_ out l[i].f0 l[i].f1 with
    | none => rfl
    | some o =>
      have ho := step_in hout hs
      simp only [Option.bind_some]
      exact ih K (i + 1) o ho.1 (by omega) (by omega) (by omega)
theorem p_link (K : Nat) (hK : 600 ≤ K) (code : List Int) (from_ : Int) (l : List S64) (hc : InR code) (hlen : code.length ≤ 300) (h1 : -1000000 ≤ from_ ∧ from_ ≤ 1000000) (ht : Tg (fxP l)) (hl : l.length ≤ 100) : reloc_Link.f K code from_ l = ansP (linkL from_ (fxP l) code) := by
  unfold reloc_Link.f slices_Clone_uint32_uint32.f
  simp only [Option.bind_some, List.nil_append, List.length_nil, Nat.zero_add]
  rw [if_pos (by omega), Option.bind_some]
  exact p_loop from_ l h1 ht hl l.length K 0 code hc hlen (by omega) (by omega)
theorem r_link (K : Nat) (hK : 600 ≤ K) (code : List Int) (from_ : Int) (l : List S65) (hc : InR code) (hlen : code.length ≤ 300) (h1 : -1000000 ≤ from_ ∧ from_ ≤ 1000000) (ht : Tg (fxR l)) (hl : l.length ≤ 100) : dowelref09_Link.f K code from_ l = ansR (linkL from_ (fxR l) code) := by
  unfold dowelref09_Link.f
  simp only [Option.bind_some, List.nil_append, List.length_nil, Nat.zero_add]
  rw [if_pos (by omega)]
  exact r_loop from_ l h1 ht hl l.length K 0 code hc hlen (by omega) (by omega)
theorem same_loop (x : List Int) (hx : x.length ≤ 300) (d : Nat) : ∀ (K i : Nat), i + d = x.length → d < K → dowellaw17_RelocLinks.l1 K true x x (i : Int) = some true := by
  induction d with
  | zero =>
    intro K i hd hK
    obtain ⟨K, rfl⟩ : ∃ m, K = m + 1 := ⟨K - 1, by omega⟩
    simp only [dowellaw17_RelocLinks.l1]; rw [if_neg (by omega)]
  | succ d ih =>
    intro K i hd hK
    obtain ⟨K, rfl⟩ : ∃ m, K = m + 1 := ⟨K - 1, by omega⟩
    simp only [dowellaw17_RelocLinks.l1]
    rw [if_pos (by omega), if_pos (by omega), if_pos (by omega), if_true, w1 _ ⟨by omega, by omega⟩]
    exact ih K (i + 1) (by omega) (by omega)
theorem link_len (from_ : Int) (fs : List (Int × Int)) : ∀ (out r : List Int), InR out → linkL from_ fs out = some r → r.length = out.length := by
  induction fs with
  | nil => intro out r _ h; simp only [linkL] at h; exact (congrArg List.length (Option.some.inj h)).symm
  | cons f fs ih =>
    intro out r hin h
    simp only [linkL] at h
    obtain ⟨o, h1, h2⟩ := Option.bind_eq_some_iff.1 h
    have := step_in hin h1
    rw [ih o r this.1 h2, this.2]
theorem fin_val (K : Nat) (hK : 700 ≤ K) (code : List Int) (from_ : Int) (l : List S64) (m : List S65) (hm : fxR m = fxP l) (hc : InR code) (hlen : code.length ≤ 300) (h1 : -1000000 ≤ from_ ∧ from_ ≤ 1000000) (ht : Tg (fxP l)) (hl : l.length ≤ 100) :
    ((reloc_Link.f K code from_ l).bind fun bt208 => ((dowelref09_Link.f K code from_ m).bind fun bt212 => (if bt212.2 = true then (if bt208.2.isNone = true then (dowellaw17_RelocLinks.j2 K true bt208.1 bt212.1 ((bt208.1.length : Int) != (bt212.1.length : Int))) else (dowellaw17_RelocLinks.j2 K true bt208.1 bt212.1 true)) else (if true = true then (if bt208.2.isNone = true then (some false) else (if (bt208.2.getD 0) = 4 then (some ((bt208.1.length : Int) == 0)) else (some false))) else (some false))))) = some true := by
  have hml : m.length = l.length := by have := congrArg List.length hm; simpa [fxR, fxP] using this
  rw [p_link K (by omega) code from_ l hc hlen h1 ht hl, r_link K (by omega) code from_ m hc hlen h1 (by rw [hm]; exact ht) (by omega), hm]
  cases hr : linkL from_ (fxP l) code with
  | none => simp [ansP, ansR]
  | some x =>
    have hx := link_len from_ (fxP l) code x hc hr
    simp only [ansP, ansR, Option.bind_some, if_true, Option.isNone_none, bne_self_eq_false]
    obtain ⟨K, rfl⟩ : ∃ m, K = m + 1 := ⟨K - 1, by omega⟩
    have r := same_loop x (by omega) x.length K 0 (by omega) (by omega)
    simp only [dowellaw17_RelocLinks.j2, Bool.false_eq_true, if_false]
    exact r
theorem l0_loop (code : List Int) (from_ : Int) (l : List S64) (hc : InR code) (hlen : code.length ≤ 300) (h1 : -1000000 ≤ from_ ∧ from_ ≤ 1000000) (hl : l.length ≤ 100) (d : Nat) : ∀ (K i : Nat) (m : List S65), fxR m = (fxP l).take i → Tg ((fxP l).take i) → i + d = l.length → d + 701 ≤ K →
    dowellaw17_RelocLinks.l0 K code from_ l true m (i : Int) = some true := by
  induction d with
  | zero =>
    intro K i m hm ht hd hK
    obtain ⟨K, rfl⟩ : ∃ m, K = m + 1 := ⟨K - 1, by omega⟩
    have e : (fxP l).take i = fxP l := List.take_of_length_le (by unfold fxP; rw [List.length_map]; omega)
    rw [e] at hm ht
    have r := fin_val K (by omega) code from_ l m hm hc hlen h1 ht hl
    simp only [dowellaw17_RelocLinks.l0]
    rw [if_neg (by omega)]
    exact r
  | succ d ih =>
    intro K i m hm ht hd hK
    obtain ⟨K, rfl⟩ : ∃ m, K = m + 1 := ⟨K - 1, by omega⟩
    have hi : i < l.length := by omega
    have hi' : i < (fxP l).length := by unfold fxP; rw [List.length_map]; exact hi
    have eg : (fxP l)[i] = (l[i].f0, l[i].f1) := List.getElem_map _
    have et : (fxP l).take (i + 1) = (fxP l).take i ++ [(l[i].f0, l[i].f1)] := by rw [List.take_succ_eq_append_getElem hi', eg]
    have hml : m.length = i := by have := congrArg List.length hm; rw [List.length_take] at this; simp [fxR] at this; omega
    simp only [dowellaw17_RelocLinks.l0]
    rw [if_pos (by omega), if_pos (by omega), rd64 l i hi, w1 _ ⟨by omega, by omega⟩]
    by_cases c1 : l[i].f1 < -1000000
    · rw [if_pos c1]
    by_cases c2 : l[i].f1 > 1000000
    · rw [if_neg c1, if_pos c2]
    rw [if_neg c1, if_neg c2, if_pos (by omega)]
    refine ih K (i + 1) _ ?_ ?_ (by omega) (by omega)
    · rw [et, ← hm]; unfold fxR; rw [List.map_append]; rfl
    · rw [et]
      intro x hx
      rw [List.mem_append] at hx
      rcases hx with hx | hx
      · exact ht x hx
      · rw [List.mem_singleton] at hx; subst hx; exact ⟨by omega, by omega⟩
theorem u32_in {l : List Int} (h : ∀ x ∈ l, (Lit.int .u32 x).wf = true) : InR l := fun x hx => u32_range (h x hx)
theorem up_val (K : Nat) (hK : 700 ≤ K) : dowellaw17_up.f K = some true := by
  unfold dowellaw17_up.f
  rw [rput_val 20 15 0 0 (by unfold MayP; omega), rput_val 20 15 0 2 (by unfold MayP; omega)]
  simp only [Option.bind_some]
  rw [p_link K (by omega) [wordI 20 15 0 0] 400 _ (by intro x hx; rw [List.mem_singleton] at hx; subst hx; decide) (by decide) (by decide) (by intro x hx; simp [fxP] at hx; subst hx; decide) (by decide), p_link K (by omega) [] 0 _ (by intro x hx; cases hx) (by decide) (by decide) (by intro x hx; simp [fxP] at hx; subst hx; decide) (by decide)]
  have e1 : linkL 400 (fxP [⟨0, 412⟩]) [wordI 20 15 0 0] = some [wordI 20 15 0 2] := by decide
  have e2 : linkL 0 (fxP [⟨0, 0⟩]) [] = none := by decide
  rw [e1, e2]
  simp [ansP, rd]
theorem RelocLinks (code : List Int) (from_ : Int) (l : List S64) (hc : ∀ x ∈ code, (Lit.int .u32 x).wf = true) : ∃ k, dowellaw17_RelocLinks.f k code from_ l = some true := by
  obtain ⟨K, hK⟩ : ∃ K : Nat, 900 ≤ K := ⟨900, Nat.le_refl _⟩
  refine ⟨K + 1, ?_⟩
  unfold dowellaw17_RelocLinks.f
  rw [up_val _ (by omega), Option.bind_some]
  have out : dowellaw17_RelocLinks.j0 (K + 1) code from_ l true true = some true := by simp only [dowellaw17_RelocLinks.j0, if_true]
  by_cases c1 : (code.length : Int) > 300
  · rw [if_pos c1, out]
  by_cases c2 : (l.length : Int) > 100
  · rw [if_neg c1, if_pos c2, out]
  by_cases c3 : from_ < -1000000
  · rw [if_neg c1, if_neg c2, if_pos c3, out]
  rw [if_neg c1, if_neg c2, if_neg c3]
  by_cases c4 : from_ > 1000000
  · rw [decide_eq_true c4, out]
  rw [decide_eq_false c4]
  have r := l0_loop code from_ l (u32_in hc) (by omega) ⟨by omega, by omega⟩ (by omega) l.length K 0 [] rfl (by intro x hx; simp at hx) (by omega) (by omega)
  simp only [dowellaw17_RelocLinks.j0, Bool.false_eq_true, if_false]
  exact r
end Go.Proofs.Ytnflalbiffamdaa.Pure
