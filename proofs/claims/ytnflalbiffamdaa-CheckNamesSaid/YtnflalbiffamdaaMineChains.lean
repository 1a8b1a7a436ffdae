/- Chains of an object, in plain words: all references of all three; which mean something. Condition: the words are words of 32 bits. -/
import Derived.Test.YtnflalbiffamdaaMinePcells
import Derived.Test.YtnflalbiffamdaaMineWalks
namespace Go.Proofs.Ytnflalbiffamdaa.MineObj
open Go.RowKit Go.MapKept Go.Proofs.YtnflalbiffamdaaW.PrintWords Go.Proofs.YtnflalbiffamdaaW.PrintLast Go.Proofs.YtnflalbiffamdaaW.PrintMore Go.Proofs.Ytnflalbiffamdaa.MineBase Go.Proofs.Ytnflalbiffamdaa.MineSep Go.Proofs.Ytnflalbiffamdaa.MineRows Go.Proofs.Ytnflalbiffamdaa.MineGen Go.Proofs.Ytnflalbiffamdaa.MineName Go.Proofs.Ytnflalbiffamdaa.MineMap Go.Proofs.Ytnflalbiffamdaa.QCheckTells Go.Proofs.Ytnflalbiffamdaa.QCheckTellsPlain Go.Proofs.Ytnflalbiffamdaa.PureChain
set_option linter.unusedVariables false
set_option linter.unusedSimpArgs false
def walkW (l : List Int) (a1 op : Int) : Option (List Rf) := if a1 = 0 then some [] else if a1 < 0 then none else walkV l op 601 (a1 - 1) []
theorem walkW_eq (l : List Int) (hl : InR l) (hn : l.length ≤ 600) (a1 op : Int) (K : Nat) (hK : 2000 ≤ K) (ha : -9223372036854775808 ≤ a1 ∧ a1 ≤ 9223372036854775807) :
    chain_Walk.f K l a1 op = some (ansP (walkW l a1 op)) ∧ dowelref09_Walk.f K l a1 op = some (ansR (walkW l a1 op)) := by
  by_cases c0 : a1 = 0
  · have ew : walkW l a1 op = some [] := by unfold walkW; rw [if_pos c0]
    rw [ew]
    unfold chain_Walk.f dowelref09_Walk.f
    subst c0
    obtain ⟨k, rfl⟩ : ∃ k, K = k + 1 := ⟨K - 1, by omega⟩
    refine ⟨?_, ?_⟩
    · rw [if_neg (by decide), chain_Walk.l0, if_neg (by decide)]; rfl
    · rw [if_pos rfl]; rfl
  by_cases c1 : a1 < 0
  · have ew : walkW l a1 op = none := by unfold walkW; rw [if_neg c0, if_pos c1]
    rw [ew]
    unfold chain_Walk.f dowelref09_Walk.f
    refine ⟨?_, ?_⟩
    · rw [if_pos c1]; rfl
    · obtain ⟨k, rfl⟩ : ∃ k, K = k + 2 := ⟨K - 2, by omega⟩
      rw [if_neg c0, dowelref09_Walk.l0]
      by_cases c : wrap64 (a1 - 1) < 0
      · rw [if_pos c, dowelref09_Walk.j1, if_pos rfl]; rfl
      · have : wrap64 (a1 - 1) ≥ (l.length : Int) := by unfold wrap64 at c ⊢; omega
        rw [if_neg c, decide_eq_true this, dowelref09_Walk.j1, if_pos rfl]; rfl
  · have w : wrap64 (a1 - 1) = a1 - 1 := by unfold wrap64; omega
    have ew : walkW l a1 op = walkV l op 601 (a1 - 1) [] := by unfold walkW; rw [if_neg c0, if_neg c1]
    rw [ew]
    unfold chain_Walk.f dowelref09_Walk.f
    refine ⟨?_, ?_⟩
    · rw [if_neg c1, w]
      exact p_walk l hl hn a1 op (by omega) 601 K [] (a1 - 1) (by omega) (by omega) (by decide) (by omega)
    · rw [if_neg c0, w]
      exact r_walk l hl hn op 601 K [] (a1 - 1) (by omega) (by omega) (by decide) (by omega)
def RfIn (n : Nat) (r : Rf) : Prop := 0 ≤ r.a ∧ r.a < n ∧ 0 ≤ r.m ∧ r.m < 16 ∧ 0 ≤ r.e ∧ r.e < 64
theorem walkV_in (l : List Int) (op : Int) : ∀ (n : Nat) (at_ : Int) (acc x : List Rf), (∀ r ∈ acc, RfIn l.length r) → walkV l op n at_ acc = some x → ∀ r ∈ x, RfIn l.length r
  | 0, _, _, _, _, h => by simp [walkV] at h
  | n + 1, at_, acc, x, ha, h => by
    unfold walkV at h
    split at h
    · cases h
    · rename_i hin
      have hnew : ∀ r ∈ acc ++ [(⟨at_, rd l at_ % 262144 / 64 % 16, rd l at_ % 262144 % 64⟩ : Rf)], RfIn l.length r := by
        intro r hr
        rcases List.mem_append.1 hr with hr | hr
        · exact ha r hr
        · obtain rfl := List.mem_singleton.1 hr
          unfold RfIn
          simp only
          omega
      split at h
      · split at h
        · injection h with h
          rw [← h]; exact hnew
        · exact walkV_in l op n _ _ x hnew h
      · cases h
theorem walkW_in {l : List Int} {a1 op : Int} {x : List Rf} (h : walkW l a1 op = some x) : x.length ≤ 1000 ∧ ∀ r ∈ x, RfIn l.length r := by
  unfold walkW at h
  split at h
  · injection h with h
    subst h
    exact ⟨by simp, by simp⟩
  · split at h
    · cases h
    · refine ⟨by have := walk_len l op 601 _ _ x h; simp at this; omega, walkV_in l op 601 _ [] x (by simp) h⟩
def fixO (o : Ob) (w : Nat) : Int := if w = 0 then o.x0 else if w = 1 then o.x1 else o.x2
def opO (w : Nat) : Int := if w = 0 then 20 else 1
def fitsB (w k : Int) : Bool := decide (w = 0 ∧ k = 0 ∨ w = 1 ∧ (k = 0 ∨ k = 1) ∨ w = 2 ∧ k = 2)
def meansB (o : Ob) (w : Int) (r : Rf) : Bool := if r.m = 15 then decide (w = 1 ∧ r.e ≤ o.text.size) else if 0 < r.m then decide (r.m ≤ o.imps.length) else decide (r.e < o.exps.length) && fitsB w (rd_T43 o.exps r.e).f0
theorem pfits_val (w k : Int) : check_Fits.f w k = some (fitsB w k) := by
  unfold check_Fits.f fitsB
  (repeat' split) <;> (refine congrArg some ?_; first | (symm; rw [decide_eq_true_iff]; omega) | (symm; rw [decide_eq_false_iff_not]; omega) | (rw [Bool.eq_iff_iff, beq_iff_eq, decide_eq_true_iff]; omega))
theorem rfits_val (w k : Int) : dowelref09_Fits.f w k = some (fitsB w k) := by
  unfold dowelref09_Fits.f fitsB
  (repeat' split) <;> (refine congrArg some ?_; first | (symm; rw [decide_eq_true_iff]; omega) | (symm; rw [decide_eq_false_iff_not]; omega) | (rw [Bool.eq_iff_iff, beq_iff_eq, decide_eq_true_iff]; omega))
theorem means_calls (o : Ob) (a : Oa) (w : World) (n2 n3 n6 n7 n8 n9 n10 : Nat) (e2 : n2 = o.imps.length) (e3 : n3 = o.typs.length) (e6 : n6 = o.code.length) (e7 : n7 = o.cmds.length) (e8 : n8 = o.exps.length) (e9 : n9 = o.ptrs.length) (e10 : n10 = o.procs.length) (hO : ObR o a w) (wh : Int) (r : Rf) (h0 : 0 ≤ r.e) (hm : 0 ≤ r.m) (b : Bool) (hb : b = meansB o wh r) :
    Calls Try.prog 118 #[.agg #[.string o.nm, .int .u32 o.key, .slice a.A2 n2 a.c2, .slice a.A3 n3 a.c3, .int .i64 o.data, .string o.text, .slice a.A6 n6 a.c6, .slice a.A7 n7 a.c7, .slice a.A8 n8 a.c8, .slice a.A9 n9 a.c9, .slice a.A10 n10 a.c10, .int .i64 o.x0, .int .i64 o.x1, .int .i64 o.x2, .int .i64 o.body], .int .i64 wh, .agg #[.int .i64 r.a, .int .i64 r.m, .int .i64 r.e]] w fun e w' => e = .returned (.bool b) ∧ Below w.heap.size w w' := by
  subst e2 e3 e6 e7 e8 e9 e10
  refine check_means.calls o.nm o.key a.A2 a.c2 o.imps a.A3 a.c3 o.typs o.data o.text a.A6 a.c6 o.code a.A7 a.c7 o.cmds a.A8 a.c8 o.exps a.A9 a.c9 o.ptrs a.A10 a.c10 o.procs o.x0 o.x1 o.x2 o.body wh r.a r.m r.e b w hO.r2 hO.l2 hO.r3 hO.l3 hO.r6 hO.l6 hO.r7 hO.l7 hO.r8 hO.l8 hO.r9 hO.l9 hO.r10 hO.l10 ?_
  subst hb
  unfold check_means.f meansB
  by_cases c1 : r.m = 15
  · rw [if_pos c1, if_pos c1]
    by_cases c2 : wh = 1
    · rw [if_pos c2]; refine congrArg some ?_; rw [decide_eq_decide]; omega
    · rw [if_neg c2]; refine congrArg some ?_; symm; rw [decide_eq_false_iff_not]; omega
  · rw [if_neg c1, if_neg c1]
    by_cases c2 : r.m > 0
    · rw [if_pos c2, if_pos c2]
    · rw [if_neg c2, if_neg c2]
      by_cases c3 : r.e < (o.exps.length : Int)
      · rw [if_pos c3, if_pos h0, pfits_val, decide_eq_true c3]; rfl
      · rw [if_neg c3, decide_eq_false c3]; rfl
/-! ### all three chains -/
def eat (o : Ob) (w : Nat) : List Int → List Rf → Option (List Int)
  | S, [] => some S
  | S, r :: l => if r.a ∈ S then none else if meansB o w r = true then eat o w (S ++ [r.a]) l else none
def chainsFrom (o : Ob) : List Nat → List Int → Option (List (List Rf))
  | [], _ => some []
  | w :: ws, S => match walkW o.code (fixO o w) (opO w) with
    | none => none
    | some l => match eat o w S l with
      | none => none
      | some S' => (chainsFrom o ws S').map (l :: ·)
def chainsF (o : Ob) : Option (List (List Rf)) := chainsFrom o [0, 1, 2] []
def restW (w : Nat) : List Nat := [0, 1, 2].drop w
/-- What is to come, behind what was. -/
def more (done : List (List Rf)) (x : Option (List (List Rf))) : Option (List (List Rf)) := x.map (done ++ ·)
theorem more_none (done : List (List Rf)) : more done none = none := rfl
theorem restW_step {w : Nat} (h : w < 3) : restW w = w :: restW (w + 1) := by
  rcases w with _ | _ | _ | w
  · rfl
  · rfl
  · rfl
  · omega
theorem chains_none {o : Ob} {w : Nat} {S : List Int} {done : List (List Rf)} (hw : w < 3) (h : chainsF o = more done (chainsFrom o (restW w) S)) (hn : walkW o.code (fixO o w) (opO w) = none) : chainsF o = none := by
  rw [h, restW_step hw, chainsFrom, hn]; rfl
/-- Within a chain, ahead of its i-th reference. -/
def within (o : Ob) (w : Nat) (done : List (List Rf)) (l : List Rf) (S : List Int) (i : Nat) : Option (List (List Rf)) := match eat o w S (l.drop i) with
  | none => none
  | some S' => more (done ++ [l]) (chainsFrom o (restW (w + 1)) S')
theorem chains_some {o : Ob} {w : Nat} {S : List Int} {done : List (List Rf)} {l : List Rf} (hw : w < 3) (h : chainsF o = more done (chainsFrom o (restW w) S)) (hn : walkW o.code (fixO o w) (opO w) = some l) : chainsF o = within o w done l S 0 := by
  rw [h, restW_step hw, chainsFrom, hn]
  unfold within
  rw [List.drop_zero]
  simp only
  cases eat o w S l with
  | none => rfl
  | some S' =>
    simp only [more]
    cases chainsFrom o (restW (w + 1)) S' with
    | none => rfl
    | some x => simp
theorem within_seen {o : Ob} {w : Nat} {S : List Int} {done : List (List Rf)} {l : List Rf} {i : Nat} {r : Rf} (hr : l[i]? = some r) (h : r.a ∈ S) : within o w done l S i = none := by
  have hl := (List.getElem?_eq_some_iff.1 hr).1
  have e := (List.getElem?_eq_some_iff.1 hr).2
  unfold within
  rw [List.drop_eq_getElem_cons hl, e, eat, if_pos h]
theorem within_not {o : Ob} {w : Nat} {S : List Int} {done : List (List Rf)} {l : List Rf} {i : Nat} {r : Rf} (hr : l[i]? = some r) (h : meansB o w r = false) : within o w done l S i = none := by
  have hl := (List.getElem?_eq_some_iff.1 hr).1
  have e := (List.getElem?_eq_some_iff.1 hr).2
  unfold within
  rw [List.drop_eq_getElem_cons hl, e, eat, h]
  by_cases h2 : r.a ∈ S
  · rw [if_pos h2]
  · rw [if_neg h2, if_neg (by decide)]
theorem within_step {o : Ob} {w : Nat} {S : List Int} {done : List (List Rf)} {l : List Rf} {i : Nat} {r : Rf} (hr : l[i]? = some r) (h : r.a ∉ S) (hm : meansB o w r = true) : within o w done l S i = within o w done l (S ++ [r.a]) (i + 1) := by
  have hl := (List.getElem?_eq_some_iff.1 hr).1
  have e := (List.getElem?_eq_some_iff.1 hr).2
  unfold within
  rw [List.drop_eq_getElem_cons hl, e, eat, if_neg h, if_pos hm]
theorem within_end {o : Ob} {w : Nat} {S : List Int} {done : List (List Rf)} {l : List Rf} : within o w done l S l.length = more (done ++ [l]) (chainsFrom o (restW (w + 1)) S) := by
  unfold within
  rw [List.drop_length]; rfl
theorem chains_end {o : Ob} {S : List Int} {done : List (List Rf)} (h : chainsF o = more done (chainsFrom o (restW 3) S)) : chainsF o = some done := by
  rw [h]
  show (some []).map (done ++ ·) = some done
  simp
theorem chains_len {o : Ob} {ls : List (List Rf)} (h : chainsF o = some ls) : ls.length = 3 := by
  have key : ∀ (ws : List Nat) (S : List Int) (ls : List (List Rf)), chainsFrom o ws S = some ls → ls.length = ws.length := by
    intro ws
    induction ws with
    | nil => intro S ls h; injection h with h; subst h; rfl
    | cons w ws ih =>
      intro S ls h
      unfold chainsFrom at h
      split at h
      · cases h
      · split at h
        · cases h
        · obtain ⟨x, hx, e⟩ := Option.map_eq_some_iff.1 h
          rw [← e, List.length_cons, ih _ _ hx]; rfl
  exact key _ _ _ h
/-- Rows that are only read, and lie in blocks of their own. -/
def ASees {α : Type} (d : Kd α) (vs : List Value) (xss : List (List α)) : Asn where
  P := fun w D => vs.length = xss.length ∧ ∀ (j : Nat) (v : Value) (xs : List α), vs[j]? = some v → xss[j]? = some xs → ∃ A c, v = .slice A xs.length c ∧ xs.length ≤ c ∧ Kd.F d w D A xs.length xs
  mono := fun hd ⟨h0, h⟩ => ⟨h0, fun j v xs h1 h2 => by
    obtain ⟨A, c, e, hl, hf⟩ := h j v xs h1 h2
    exact ⟨A, c, e, hl, Kd.F_mono hf hd⟩⟩
  bound := fun ⟨h0, h⟩ => ⟨h0, fun j v xs h1 h2 => by
    obtain ⟨A, c, e, hl, hf⟩ := h j v xs h1 h2
    exact ⟨A, c, e, hl, Kd.F_bound hf⟩⟩
  move := fun hm ⟨h0, h⟩ => ⟨h0, fun j v xs h1 h2 => by
    obtain ⟨A, c, e, hl, hf⟩ := h j v xs h1 h2
    exact ⟨A, c, e, hl, Kd.F_step hf (fun k hk _ => hm k hk)⟩⟩
section
variable {α : Type} {d : Kd α} {w0 W : World} {vs : List Value} {xss : List (List α)} {l : List Asn}
theorem sees_new (h : Sat w0 W l) : Sat w0 W (ASees d [] ([] : List (List α)) :: l) :=
  h.new (A := ASees d [] []) (Below.refl _ _) (D := fun k => False) ⟨rfl, fun j v xs h1 => by simp at h1⟩ (fun _ hk => hk.elim)
theorem sees_at (h : Sat w0 W (ASees d vs xss :: l)) {j : Nat} {v : Value} {xs : List α} (h1 : vs[j]? = some v) (h2 : xss[j]? = some xs) : ∃ A c, v = .slice A xs.length c ∧ xs.length ≤ c ∧ d.C W A xs.length xs := by
  obtain ⟨D, ⟨_, h3⟩, _⟩ := h.head
  obtain ⟨A, c, e, hl, hf⟩ := h3 j v xs h1 h2
  exact ⟨A, c, e, hl, Kd.F_now hf⟩
theorem sees_add {e base : Nat} {v : Value} {xs : List α} (h : Sat w0 W (ARow d e base v xs :: ASees d vs xss :: l)) : Sat w0 W (ASees d (vs ++ [v]) (xss ++ [xs]) :: l) := by
  obtain ⟨D1, D2, hR, ⟨h0, hS⟩, hD1, hD2, hdis, hcl⟩ := h.open2
  obtain ⟨A, c, e1, hle, _⟩ := Kd.R_reads hR
  refine hcl W (ASees d (vs ++ [v]) (xss ++ [xs])) (fun k => D1 k ∨ D2 k) h.toBelow (Kept.refl W _) ⟨by simp [h0], fun j u ys h1 h2 => ?_⟩ (fun k hk => .inl hk)
  rcases Nat.lt_or_ge j vs.length with hj | hj
  · rw [List.getElem?_append_left hj] at h1
    rw [List.getElem?_append_left (by omega)] at h2
    obtain ⟨B, c', e2, hl, hf⟩ := hS j u ys h1 h2
    exact ⟨B, c', e2, hl, Kd.F_mono hf (fun k hk => .inr hk)⟩
  · rw [List.getElem?_append_right hj] at h1
    rw [List.getElem?_append_right (by omega), ← h0] at h2
    rcases hz : j - vs.length with _ | k
    · rw [hz] at h1 h2
      simp at h1 h2
      subst h1 h2
      subst e1
      exact ⟨A, c, rfl, hle, Kd.F_mono (Kd.R_F hR) (fun k hk => .inl hk)⟩
    · rw [hz] at h1
      simp at h1
end
end Go.Proofs.Ytnflalbiffamdaa.MineObj
