/- Chains, in plain words: the program and the document walk any chain alike. Condition: the words are words of 32 bits. -/
import Derived.Test.YtnflalbiffamdaaQCheckTellsPlain
import Derived.Test.YtnflalbiffamdaaQCheckTellsx9
namespace Go.Proofs.Ytnflalbiffamdaa.PureChain
open Go.RowKit Go.Proofs.Ytnflalbiffamdaa.QCheckTells Go.Proofs.Ytnflalbiffamdaa.QCheckTellsPlain Go.Proofs.YtnflalbiffamdaaW.PrintWords Go.Proofs.YtnflalbiffamdaaW.PrintLast Go.Proofs.YtnflalbiffamdaaW.PrintMore
set_option linter.unusedVariables false
def InR (l : List Int) : Prop := ∀ x ∈ l, 0 ≤ x ∧ x < 4294967296
theorem rd_in {l : List Int} (h : InR l) (i : Int) (h0 : 0 ≤ i) (h1 : i < l.length) : 0 ≤ rd l i ∧ rd l i < 4294967296 := by
  unfold rd
  rw [List.getD_eq_getElem?_getD, List.getElem?_eq_getElem (show i.toNat < l.length by omega)]
  exact h _ (List.getElem_mem _)
theorem get_at (w at_ b : Int) (v : Int) (a' b' : Nat) (ha : at_ = (a' : Int)) (hb : b = (b' : Int)) (hw : 0 ≤ w ∧ w < 4294967296) (h0 : 1 ≤ b') (h : a' + b' ≤ 32) (hv : v = w / ((2 ^ a' : Nat) : Int) % ((2 ^ b' : Nat) : Int)) : field_Get.f w at_ b = some v := by
  subst ha hb
  obtain ⟨n, rfl⟩ := Int.eq_ofNat_of_zero_le hw.1
  rw [get_in n a' b' (by omega) h0 h, hv]
  unfold getN
  exact congrArg some (by rw [← Int.natCast_ediv, ← Int.natCast_emod])
theorem get_sg (m : Int) (h0 : 0 ≤ m) (h1 : m < 262144) : field_Get.f (sg m % 4294967296) 6 4 = some (m / 64 % 16) ∧ field_Get.f (sg m % 4294967296) 0 6 = some (m % 64) ∧ field_Get.f (sg m % 4294967296) 10 8 = some (m / 1024) := by
  have hw : 0 ≤ sg m % 4294967296 ∧ sg m % 4294967296 < 4294967296 := by omega
  have e : sg m % 4294967296 = m ∨ sg m % 4294967296 = m + 4294705152 := by unfold sg; split <;> omega
  refine ⟨get_at _ _ _ _ 6 4 rfl rfl hw (by decide) (by decide) ?_, get_at _ _ _ _ 0 6 rfl rfl hw (by decide) (by decide) ?_, get_at _ _ _ _ 10 8 rfl rfl hw (by decide) (by decide) ?_⟩
  · show _ = _ / 64 % 16
    omega
  · show _ = _ / 1 % 64
    omega
  · show _ = _ / 1024 % 256
    omega
/-- What is told of one place of a chain. -/
structure Rf where
  a : Int
  m : Int
  e : Int
def p18 (r : Rf) : S118 := ⟨r.a, r.m, r.e⟩
def p17 (r : Rf) : S117 := ⟨r.a, r.m, r.e⟩
/-- A chain, from a place on. -/
def walkV (l : List Int) (op : Int) : Nat → Int → List Rf → Option (List Rf)
  | 0, _, _ => none
  | n + 1, at_, acc => if at_ < 0 ∨ at_ ≥ l.length then none
    else if mayB (rd l at_ / 67108864) (rd l at_ / 4194304 % 16) (rd l at_ / 262144 % 16) (sg (rd l at_ % 262144)) = true ∧ rd l at_ / 67108864 = op ∧ rd l at_ / 262144 % 16 = 0 then
      (if rd l at_ % 262144 / 1024 = 0 then some (acc ++ [⟨at_, rd l at_ % 262144 / 64 % 16, rd l at_ % 262144 % 64⟩])
       else walkV l op n (at_ - rd l at_ % 262144 / 1024) (acc ++ [⟨at_, rd l at_ % 262144 / 64 % 16, rd l at_ % 262144 % 64⟩]))
    else none
def ansP (r : Option (List Rf)) : List S118 × Option Int := match r with | some x => (x.map p18, none) | none => ([], some 4)
def ansR (r : Option (List Rf)) : List S117 × Bool := match r with | some x => (x.map p17, true) | none => ([], false)
theorem p_walk (l : List Int) (hl : InR l) (hn : l.length ≤ 600) (a1 op : Int) (h1 : a1 > 0) : ∀ (n K : Nat) (acc : List Rf) (at_ : Int), (at_ < n ∨ (l.length : Int) ≤ at_) → 3 * n + 5 ≤ K → acc.length + n ≤ 700 → -1000000 ≤ at_ →
    chain_Walk.l0 K l a1 op (acc.map p18) at_ = some (ansP (walkV l op n at_ acc)) := by
  intro n
  induction n with
  | zero =>
    intro K acc at_ hat hK hacc hlo
    obtain ⟨k, rfl⟩ : ∃ k, K = k + 2 := ⟨K - 2, by omega⟩
    rw [chain_Walk.l0, if_pos h1]
    by_cases c : at_ < 0
    · rw [if_pos c, chain_Walk.j1, if_pos rfl]; rfl
    · rw [if_neg c, decide_eq_true (show at_ ≥ (l.length : Int) by omega), chain_Walk.j1, if_pos rfl]; rfl
  | succ n ih =>
    intro K acc at_ hat hK hacc hlo
    obtain ⟨k, rfl⟩ : ∃ k, K = k + 3 := ⟨K - 3, by omega⟩
    rw [chain_Walk.l0, if_pos h1, walkV]
    by_cases c : at_ < 0
    · rw [if_pos c, chain_Walk.j1, if_pos rfl, if_pos (Or.inl c)]; rfl
    by_cases c2 : at_ ≥ (l.length : Int)
    · rw [if_neg c, decide_eq_true c2, chain_Walk.j1, if_pos rfl, if_pos (Or.inr c2)]; rfl
    obtain ⟨x0, x1⟩ := rd_in hl at_ (by omega) (by omega)
    rw [if_neg c, decide_eq_false c2, chain_Walk.j1, if_neg (by decide), if_pos (by omega), if_pos (by omega), if_neg (by omega), get_val _ x0 x1, Option.bind_some]
    generalize rd l at_ = x at *
    by_cases c3 : mayB (x / 67108864) (x / 4194304 % 16) (x / 262144 % 16) (sg (x % 262144)) = true
    · rw [if_pos c3]
      simp only [if_true]
      by_cases c4 : x / 67108864 = op
      · rw [if_pos c4]
        by_cases c5 : x / 262144 % 16 = 0
        · have c5' : (x / 262144 % 16 != 0) = false := by simp [c5]
          obtain ⟨g1, g2, g3⟩ := get_sg (x % 262144) (by omega) (by omega)
          have w1 : wrap64 (x % 262144 / 64 % 16) = x % 262144 / 64 % 16 := by unfold wrap64; omega
          have w2 : wrap64 (x % 262144 % 64) = x % 262144 % 64 := by unfold wrap64; omega
          have w3 : wrap64 (x % 262144 / 1024) = x % 262144 / 1024 := by unfold wrap64; omega
          have w4 : wrap64 (at_ - x % 262144 / 1024) = at_ - x % 262144 / 1024 := by unfold wrap64; omega
          rw [c5', chain_Walk.j2, if_neg (by decide), g1, Option.bind_some, g2, Option.bind_some, if_pos (by rw [List.length_map]; omega), Option.bind_some, g3, Option.bind_some, w1, w2, w3, w4, if_pos (show mayB (x / 67108864) (x / 4194304 % 16) (x / 262144 % 16) (sg (x % 262144)) = true ∧ x / 67108864 = op ∧ x / 262144 % 16 = 0 from ⟨c3, c4, c5⟩)]
          have e : acc.map p18 ++ [(⟨at_, x % 262144 / 64 % 16, x % 262144 % 64⟩ : S118)] = (acc ++ [(⟨at_, x % 262144 / 64 % 16, x % 262144 % 64⟩ : Rf)]).map p18 := by rw [List.map_append]; rfl
          rw [e]
          by_cases c6 : x % 262144 / 1024 = 0
          · rw [if_pos c6, if_pos c6]; rfl
          · rw [if_neg c6, if_neg c6]
            exact ih k _ _ (by omega) (by omega) (by rw [List.length_append]; simp; omega) (by omega)
        · have c5' : (x / 262144 % 16 != 0) = true := by simp [c5]
          rw [c5', chain_Walk.j2, if_pos rfl, if_neg (fun h => c5 h.2.2)]; rfl
      · rw [if_neg c4, chain_Walk.j2, if_pos rfl, if_neg (fun h => c4 h.2.1)]; rfl
    · rw [if_neg c3]
      simp only [Bool.false_eq_true, if_false]
      rw [chain_Walk.j2, if_pos rfl, if_neg (fun h => c3 h.1)]; rfl
theorem r_walk (l : List Int) (hl : InR l) (hn : l.length ≤ 600) (op : Int) : ∀ (n K : Nat) (acc : List Rf) (at_ : Int), (at_ < n ∨ (l.length : Int) ≤ at_) → 3 * n + 50 ≤ K → acc.length + n ≤ 700 → -1000000 ≤ at_ →
    dowelref09_Walk.l0 K l op (acc.map p17) at_ = some (ansR (walkV l op n at_ acc)) := by
  intro n
  induction n with
  | zero =>
    intro K acc at_ hat hK hacc hlo
    obtain ⟨k, rfl⟩ : ∃ k, K = k + 2 := ⟨K - 2, by omega⟩
    rw [dowelref09_Walk.l0]
    by_cases c : at_ < 0
    · rw [if_pos c, dowelref09_Walk.j1, if_pos rfl]; rfl
    · rw [if_neg c, decide_eq_true (show at_ ≥ (l.length : Int) by omega), dowelref09_Walk.j1, if_pos rfl]; rfl
  | succ n ih =>
    intro K acc at_ hat hK hacc hlo
    obtain ⟨k, rfl⟩ : ∃ k, K = k + 3 := ⟨K - 3, by omega⟩
    rw [dowelref09_Walk.l0, walkV]
    by_cases c : at_ < 0
    · rw [if_pos c, dowelref09_Walk.j1, if_pos rfl, if_pos (Or.inl c)]; rfl
    by_cases c2 : at_ ≥ (l.length : Int)
    · rw [if_neg c, decide_eq_true c2, dowelref09_Walk.j1, if_pos rfl, if_pos (Or.inr c2)]; rfl
    obtain ⟨x0, x1⟩ := rd_in hl at_ (by omega) (by omega)
    rw [if_neg c, decide_eq_false c2, dowelref09_Walk.j1, if_neg (by decide), if_pos (by omega), if_pos (by omega), if_neg (by omega), rget_val _ (by omega) _ x0 x1, Option.bind_some]
    generalize hx : rd l at_ = x at *
    by_cases c3 : mayB (x / 67108864) (x / 4194304 % 16) (x / 262144 % 16) (sg (x % 262144)) = true
    · rw [if_pos c3]
      simp only [if_true]
      by_cases c4 : x / 67108864 = op
      · rw [if_pos c4]
        by_cases c5 : x / 262144 % 16 = 0
        · have c5' : (x / 262144 % 16 != 0) = false := by simp [c5]
          have t1 : Int.tmod x 262144 = x % 262144 := Int.tmod_eq_emod_of_nonneg x0
          have t2 : Int.tmod x 64 = x % 262144 % 64 := by rw [Int.tmod_eq_emod_of_nonneg x0]; omega
          have t3 : Int.tdiv (x % 262144) 64 = x % 262144 / 64 := Int.tdiv_eq_ediv_of_nonneg (by omega)
          have t4 : Int.tdiv (x % 262144) 1024 = x % 262144 / 1024 := Int.tdiv_eq_ediv_of_nonneg (by omega)
          have w2 : wrap64 (x % 262144 % 64) = x % 262144 % 64 := by unfold wrap64; omega
          have w3 : x % 262144 / 1024 % 4294967296 = x % 262144 / 1024 := by omega
          have w4 : wrap64 (at_ - x % 262144 / 1024) = at_ - x % 262144 / 1024 := by unfold wrap64; omega
          rw [c5', dowelref09_Walk.j2, if_neg (by decide), if_pos (by omega), if_pos (by omega), if_pos (by rw [List.length_map]; omega), Option.bind_some, hx, t1, t2, t3, t4, w2, w3, w4, if_pos (show mayB (x / 67108864) (x / 4194304 % 16) (x / 262144 % 16) (sg (x % 262144)) = true ∧ x / 67108864 = op ∧ x / 262144 % 16 = 0 from ⟨c3, c4, c5⟩)]
          have e : acc.map p17 ++ [(⟨at_, x % 262144 / 64 % 16, x % 262144 % 64⟩ : S117)] = (acc ++ [(⟨at_, x % 262144 / 64 % 16, x % 262144 % 64⟩ : Rf)]).map p17 := by rw [List.map_append]; rfl
          rw [e]
          by_cases c6 : x % 262144 / 1024 = 0
          · rw [if_pos c6, if_pos c6]; rfl
          · rw [if_neg c6, if_neg c6]
            exact ih k _ _ (by omega) (by omega) (by rw [List.length_append]; simp; omega) (by omega)
        · have c5' : (x / 262144 % 16 != 0) = true := by simp [c5]
          rw [c5', dowelref09_Walk.j2, if_pos rfl, if_neg (fun h => c5 h.2.2)]; rfl
      · rw [if_neg c4, dowelref09_Walk.j2, if_pos rfl, if_neg (fun h => c4 h.2.1)]; rfl
    · rw [if_neg c3]
      simp only [Bool.false_eq_true, if_false]
      rw [dowelref09_Walk.j2, if_pos rfl, if_neg (fun h => c3 h.1)]; rfl
theorem walk_len (l : List Int) (op : Int) : ∀ (n : Nat) (at_ : Int) (acc r : List Rf), walkV l op n at_ acc = some r → r.length ≤ acc.length + n := by
  intro n
  induction n with
  | zero => intro at_ acc r h; simp [walkV] at h
  | succ n ih =>
    intro at_ acc r h
    rw [walkV] at h
    split at h
    · cases h
    · split at h
      · split at h
        · obtain rfl := Option.some.inj h; simp
        · have := ih _ _ _ h; simp at this; omega
      · cases h
theorem rd18 (r : List Rf) (i : Int) : rd_T118 (r.map p18) i = p18 (r.getD i.toNat ⟨0, 0, 0⟩) := by
  unfold rd_T118
  rw [List.getD_eq_getElem?_getD, List.getD_eq_getElem?_getD, List.getElem?_map]
  cases r[i.toNat]? <;> rfl
theorem rd17 (r : List Rf) (i : Int) : rd_T117 (r.map p17) i = p17 (r.getD i.toNat ⟨0, 0, 0⟩) := by
  unfold rd_T117
  rw [List.getD_eq_getElem?_getD, List.getD_eq_getElem?_getD, List.getElem?_map]
  cases r[i.toNat]? <;> rfl
theorem same_loop (r : List Rf) (hr : r.length ≤ 1000) : ∀ (n K : Nat) (i : Int), 0 ≤ i → i + n = r.length → n + 2 ≤ K → dowellaw13_sameIs.l0 K (r.map p18) (r.map p17) i = some true := by
  intro n
  induction n with
  | zero =>
    intro K i h0 h1 hK
    obtain ⟨k, rfl⟩ : ∃ k, K = k + 1 := ⟨K - 1, by omega⟩
    rw [dowellaw13_sameIs.l0, if_neg (by rw [List.length_map]; omega)]
  | succ n ih =>
    intro K i h0 h1 hK
    obtain ⟨k, rfl⟩ : ∃ k, K = k + 1 := ⟨K - 1, by omega⟩
    have w : wrap64 (i + 1) = i + 1 := by unfold wrap64; omega
    rw [dowellaw13_sameIs.l0, if_pos (by rw [List.length_map]; omega), if_pos h0, if_pos (by rw [List.length_map]; omega), rd18, rd17]
    simp only [p18, p17, if_true]
    rw [w]
    exact ih k _ (by omega) (by omega) (by omega)
theorem same_val (r : List Rf) (hr : r.length ≤ 1000) (K : Nat) (hK : 1010 ≤ K) : dowellaw13_Same.f K (r.map p18) (r.map p17) = some 1 := by
  unfold dowellaw13_Same.f dowellaw13_sameIs.f
  rw [if_pos (by rw [List.length_map, List.length_map]), same_loop r hr r.length K 0 (by omega) (by omega) (by omega), Option.bind_some, if_pos rfl]
theorem same_ans (r : Option (List Rf)) (hr : ∀ x, r = some x → x.length ≤ 1000) (K : Nat) (hK : 1010 ≤ K) : dowellaw13_Same.f K (ansP r).1 (ansR r).1 = some 1 := by
  cases r with
  | none => exact same_val [] (by simp) K hK
  | some x => exact same_val x (hr x rfl) K hK
theorem walk_p (l : List Int) (hl : InR l) (hn : l.length ≤ 600) (a1 op : Int) (K : Nat) (hK : 2000 ≤ K) (ha : -9223372036854775808 ≤ a1 ∧ a1 ≤ 9223372036854775807) :
    ∃ r : Option (List Rf), (∀ x, r = some x → x.length ≤ 1000) ∧ chain_Walk.f K l a1 op = some (ansP r) ∧ dowelref09_Walk.f K l a1 op = some (ansR r) := by
  unfold chain_Walk.f dowelref09_Walk.f
  by_cases c0 : a1 = 0
  · subst c0
    obtain ⟨k, rfl⟩ : ∃ k, K = k + 1 := ⟨K - 1, by omega⟩
    refine ⟨some [], fun x h => by obtain rfl := Option.some.inj h; simp, ?_, ?_⟩
    · rw [if_neg (by decide), chain_Walk.l0, if_neg (by decide)]; rfl
    · rw [if_pos rfl]; rfl
  by_cases c1 : a1 < 0
  · refine ⟨none, fun x h => absurd h (by simp), ?_, ?_⟩
    · rw [if_pos c1]; rfl
    · obtain ⟨k, rfl⟩ : ∃ k, K = k + 2 := ⟨K - 2, by omega⟩
      rw [if_neg c0, dowelref09_Walk.l0]
      by_cases c : wrap64 (a1 - 1) < 0
      · rw [if_pos c, dowelref09_Walk.j1, if_pos rfl]; rfl
      · have : wrap64 (a1 - 1) ≥ (l.length : Int) := by unfold wrap64 at c ⊢; omega
        rw [if_neg c, decide_eq_true this, dowelref09_Walk.j1, if_pos rfl]; rfl
  · have w : wrap64 (a1 - 1) = a1 - 1 := by unfold wrap64; omega
    refine ⟨walkV l op 601 (a1 - 1) [], fun x h => by have := walk_len l op 601 _ _ x h; simp at this; omega, ?_, ?_⟩
    · rw [if_neg c1, w]
      exact p_walk l hl hn a1 op (by omega) 601 K [] (a1 - 1) (by omega) (by omega) (by decide) (by omega)
    · rw [if_neg c0, w]
      exact r_walk l hl hn op 601 K [] (a1 - 1) (by omega) (by omega) (by decide) (by omega)
end Go.Proofs.Ytnflalbiffamdaa.PureChain
