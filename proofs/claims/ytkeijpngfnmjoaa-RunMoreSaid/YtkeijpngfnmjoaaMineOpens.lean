/- An argument of any depth (numbers, booleans, strings, slices, structs), read as a value of a kind: what the statement's reading tells is what the walk's kind tells. No condition but the types' shapes. -/
import Derived.Test.YtkeijpngfnmjoaaWWords
import Derived.Deep.Slices
import Derived.Deep.Fields
import Derived.ChangeSame
import Derived.ChangeArms
namespace Go.Proofs.Ytkeijpngfnmjoaa.MineOpens
open Go.ChangeShapes Go.WideShapes Go.Deep Go.Proofs.YtkeijpngfnmjoaaW.PrintWords
set_option linter.unusedVariables false
/-- The kind d reads what is of type t; G holds of what is read. -/
def Op (P : Program) (t : TypeId) {A : Type} (d : Kd A) (G : A → Prop) : Prop :=
  P.cellsOf t = d.sz ∧ ∀ (H : Type) (enc : TypeId × Value → H) (w : World) (base : Nat) (spare : Nat → Bool) (held : Bool) (fuel : Nat) (cs : List Value) (x : DataW H × List MemPlace),
    DataW.trod enc P w base spare held fuel t cs = some x → ∃ a, d.K w a cs ∧ G a
theorem op_int {P : Program} {t : TypeId} {k : IntKind} (ht : P.underlying t = some (.int k)) (hc : P.cellsOf t = 1) : Op P t (Kd.int k) (fun z => (Lit.int k z).wf = true) := by
  refine ⟨hc, fun H enc w base spare held fuel cs x h => ?_⟩
  obtain ⟨n, rfl, _, hw⟩ := DataW.trod_int ht h
  exact ⟨n, rfl, hw⟩
theorem op_bool {P : Program} {t : TypeId} (ht : P.underlying t = some .bool) (hc : P.cellsOf t = 1) : Op P t Kd.bool (fun _ => True) := by
  refine ⟨hc, fun H enc w base spare held fuel cs x h => ?_⟩
  obtain ⟨n, rfl, _⟩ := DataW.trod_bool ht h
  exact ⟨n, rfl, trivial⟩
theorem op_string {P : Program} {t : TypeId} (ht : P.underlying t = some .string) (hc : P.cellsOf t = 1) : Op P t Kd.string (fun s => s.size ≤ maxLen) := by
  refine ⟨hc, fun H enc w base spare held fuel cs x h => ?_⟩
  obtain ⟨n, rfl, _, hw⟩ := DataW.trod_string ht h
  exact ⟨n, rfl, hw⟩
theorem op_iso {P : Program} {t : TypeId} {A B : Type} {d : Kd A} {G : A → Prop} {f : B → A} (h : Op P t d G) (g : A → B) (hg : ∀ a, f (g a) = a) : Op P t (Kd.iso d f) (fun b => G (f b)) := by
  refine ⟨h.1, fun H enc w base spare held fuel cs x hx => ?_⟩
  obtain ⟨a, hk, hG⟩ := h.2 H enc w base spare held fuel cs x hx
  exact ⟨g a, show d.K w (f (g a)) cs by rw [hg]; exact hk, show G (f (g a)) by rw [hg]; exact hG⟩
theorem pick {A : Type} (p : Nat → A → Prop) : ∀ n, (∀ i, i < n → ∃ a, p i a) → ∃ l : List A, l.length = n ∧ ∀ i a, l[i]? = some a → p i a
  | 0, _ => ⟨[], rfl, fun i a h => by simp at h⟩
  | n + 1, h => by
    obtain ⟨l, hl, hp⟩ := pick p n (fun i hi => h i (by omega))
    obtain ⟨a, ha⟩ := h n (by omega)
    refine ⟨l ++ [a], by simp [hl], fun i b hb => ?_⟩
    by_cases hi : i < l.length
    · rw [List.getElem?_append_left hi] at hb
      exact hp i b hb
    · rw [List.getElem?_append_right (by omega)] at hb
      have : i - l.length = 0 := by
        rcases Nat.eq_zero_or_pos (i - l.length) with h0 | h0
        · exact h0
        · rw [List.getElem?_eq_none (by simp; omega)] at hb; cases hb
      rw [this] at hb
      simp at hb
      subst hb
      have hi2 : i = n := by omega
      subst hi2
      exact ha
theorem maxLen_le : maxLen ≤ 9223372036854775807 := by decide
/-- A slice, whole: the row of what is in it. -/
theorem op_row {P : Program} {t e : TypeId} {A : Type} {d : Kd A} {G : A → Prop} (ht : P.underlying t = some (.slice e)) (h : Op P e d G)
    {H : Type} {enc : TypeId × Value → H} {w : World} {base : Nat} {spare : Nat → Bool} {held : Bool} {fuel : Nat} {cs : List Value} {x : DataW H × List MemPlace} (hx : DataW.trod enc P w base spare held fuel t cs = some x) :
    ∃ A0 c l, cs = [.slice A0 l.length c] ∧ l.length ≤ c ∧ Kd.C d w A0 l.length l ∧ (∀ y ∈ l, G y) ∧ l.length ≤ maxLen := by
  rcases open_slice ht hx with ⟨rfl, _⟩ | ⟨a, len, cap, m, n, D, Pl, rfl, hb, hl, hm, hmm, _, hi⟩
  · exact ⟨none, 0, [], rfl, Nat.le_refl _, ⟨rfl, Nat.zero_le _, fun h => absurd h (Nat.lt_irrefl _)⟩, fun y hy => absurd hy (by simp), Nat.zero_le _⟩
  · have hlm : len ≤ m := by rw [hmm]; split <;> omega
    obtain ⟨l, hll, hp⟩ := pick (fun i y => ∃ c, c.length = d.sz ∧ d.K w y c ∧ G y ∧ ∀ j u, c[j]? = some u → w.cell? (a.add (i * d.sz + j)) = some u) len (fun i hil => by
      obtain ⟨cs', hc, ht'⟩ := hi i (by omega)
      obtain ⟨y, hK, hG⟩ := h.2 _ _ _ _ _ _ _ _ _ ht'
      obtain ⟨_, hcl, hat⟩ := World.cells?_some hc
      rw [h.1] at hcl hat
      refine ⟨y, cs', hcl, hK, hG, fun j u hu => ?_⟩
      have hj : j < d.sz := by rw [← hcl]; exact (List.getElem?_eq_some_iff.1 hu).1
      have := hat j hj
      rw [Go.Deep.add_add] at this
      exact this.trans hu)
    subst hll
    have hmx := maxLen_le
    refine ⟨some a, cap, l, rfl, hl, ⟨rfl, by omega, fun _ => ⟨a, rfl, fun j p hj => ?_⟩⟩, fun y hy => ?_, by omega⟩
    · obtain ⟨c, h1, h2, _, h4⟩ := hp j p hj
      exact ⟨c, h1, h2, h4⟩
    · obtain ⟨i, hi2, rfl⟩ := List.mem_iff_getElem.1 hy
      obtain ⟨_, _, _, h3, _⟩ := hp i _ (List.getElem?_eq_getElem hi2)
      exact h3
theorem op_slice {P : Program} {t e : TypeId} {A : Type} {d : Kd A} {G : A → Prop} (q : Nat) (ht : P.underlying t = some (.slice e)) (hc : P.cellsOf t = 1) (h : Op P e d G) :
    Op P t (Kd.slice q d) (fun l => (∀ y ∈ l, G y) ∧ l.length ≤ maxLen) := by
  refine ⟨hc, fun H enc w base spare held fuel cs x hx => ?_⟩
  obtain ⟨A0, c, l, rfl, hl, hC, hG, hm⟩ := op_row ht h hx
  exact ⟨l, ⟨A0, c, rfl, hl, hC⟩, hG, hm⟩
/-- Where a field begins. -/
def offOf (P : Program) : List TypeId → Nat → Nat
  | [], _ => 0
  | _ :: _, 0 => 0
  | t :: ts, i + 1 => P.cellsOf t + offOf P ts i
/-- The fields' types, in their order, read as one kind. -/
def Fo (P : Program) (ts : List TypeId) {A : Type} (d : Kd A) (G : A → Prop) : Prop :=
  (ts.map P.cellsOf).sum = d.sz ∧ ∀ (H : Type) (enc : TypeId × Value → H) (w : World) (base : Nat) (spare : Nat → Bool) (held : Bool) (fuel : Nat) (cs : List Value), cs.length = d.sz →
    (∀ i t, ts[i]? = some t → ∃ x, DataW.trod enc P w base spare held fuel t ((cs.drop (offOf P ts i)).take (P.cellsOf t)) = some x) → ∃ a, d.K w a cs ∧ G a
theorem fo_one {P : Program} {t : TypeId} {A : Type} {d : Kd A} {G : A → Prop} (h : Op P t d G) : Fo P [t] d G := by
  refine ⟨by simpa using h.1, fun H enc w base spare held fuel cs hcs hf => ?_⟩
  obtain ⟨x, hx⟩ := hf 0 t rfl
  have e : (cs.drop (offOf P [t] 0)).take (P.cellsOf t) = cs := by
    rw [h.1, show offOf P [t] 0 = 0 from rfl, List.drop_zero, ← hcs, List.take_length]
  rw [e] at hx
  exact h.2 _ _ _ _ _ _ _ _ _ hx
theorem fo_cons {P : Program} {t : TypeId} {ts : List TypeId} {A B : Type} {d : Kd A} {d' : Kd B} {G : A → Prop} {G' : B → Prop} (h : Op P t d G) (h' : Fo P ts d' G') : Fo P (t :: ts) (Kd.pair d d') (fun x => G x.1 ∧ G' x.2) := by
  refine ⟨by simp [List.map_cons, List.sum_cons, h.1, h'.1, Kd.pair], fun H enc w base spare held fuel cs hcs hf => ?_⟩
  have hcs' : cs.length = d.sz + d'.sz := hcs
  obtain ⟨x, hx⟩ := hf 0 t rfl
  have e : (cs.drop (offOf P (t :: ts) 0)).take (P.cellsOf t) = cs.take d.sz := by
    rw [h.1, show offOf P (t :: ts) 0 = 0 from rfl, List.drop_zero]
  rw [e] at hx
  obtain ⟨a, hK, hG⟩ := h.2 _ _ _ _ _ _ _ _ _ hx
  obtain ⟨b, hK', hG'⟩ := h'.2 H enc w base spare held fuel (cs.drop d.sz) (by rw [List.length_drop]; omega) (fun i t' ht' => by
    obtain ⟨y, hy⟩ := hf (i + 1) t' (by simpa using ht')
    rw [show offOf P (t :: ts) (i + 1) = P.cellsOf t + offOf P ts i from rfl, h.1, ← List.drop_drop] at hy
    exact ⟨y, hy⟩)
  exact ⟨(a, b), ⟨cs.take d.sz, cs.drop d.sz, (List.take_append_drop _ _).symm, hK, hK'⟩, hG, hG'⟩
theorem op_struct {P : Program} {t : TypeId} {fs : Array Field} {A : Type} {d : Kd A} {G : A → Prop} (ts : List TypeId) (ht : P.underlying t = some (.struct fs)) (hc : P.cellsOf t = d.sz)
    (hts : (List.range ts.length).all (fun i => (fs[i]?.map (fun f => (f.type, f.offset))) == (ts[i]?.map (fun t => (t, offOf P ts i)))) = true) (h : Fo P ts d G) : Op P t d G := by
  refine ⟨hc, fun H enc w base spare held fuel cs x hx => ?_⟩
  obtain ⟨xs, n, rfl, _, hl, hxs, hf⟩ := DataW.trod_struct ht hx
  refine h.2 H enc w base spare held n cs (hl.trans hc) (fun i t' ht' => ?_)
  have hi : i < ts.length := (List.getElem?_eq_some_iff.1 ht').1
  have h1 := List.all_eq_true.1 hts i (List.mem_range.2 hi)
  rw [ht'] at h1
  have h2 := eq_of_beq h1
  cases hfi : fs[i]? with
  | none => rw [hfi] at h2; simp at h2
  | some f =>
    rw [hfi] at h2
    simp only [Option.map_some, Option.some.injEq, Prod.mk.injEq] at h2
    have h3 := hf i f hfi
    have hlt : i < xs.length := by rw [hxs]; exact (Array.getElem?_eq_some_iff.1 hfi).1
    rw [h2.1, h2.2, List.getElem?_eq_getElem hlt] at h3
    exact ⟨_, h3⟩
/-- A parameter that is a slice. -/
theorem arg_slice {P : Program} {t e : TypeId} {A : Type} {d : Kd A} {G : A → Prop} (ht : P.underlying t = some (.slice e)) (h : Op P e d G)
    {H : Type} {enc : TypeId × Value → H} {w : World} {base b0 : Nat} {spare : Nat → Bool} {held : Bool} {v : Value} {y : DataW H} {ps : List MemPlace} {r : Reach} (hok : Value.okWide P w r b0 t v) (hx : DataW.Trod enc P w base spare held t v y ps) :
    ∃ A0 c l, v = .slice A0 l.length c ∧ l.length ≤ c ∧ Kd.C d w A0 l.length l ∧ (∀ y ∈ l, G y) ∧ l.length ≤ maxLen := by
  obtain ⟨a, len, cap, rfl⟩ := okWide_slice ht hok
  obtain ⟨fuel, hf⟩ := hx
  obtain ⟨A0, c, l, hcs, r1⟩ := op_row ht h hf
  refine ⟨A0, c, l, ?_, r1⟩
  simpa [Value.cells] using hcs
/-- A parameter that is a struct. -/
theorem arg_struct {P : Program} {t : TypeId} {fs : Array Field} {A : Type} {d : Kd A} {G : A → Prop} (ht : P.underlying t = some (.struct fs)) (h : Op P t d G)
    {H : Type} {enc : TypeId × Value → H} {w : World} {base b0 : Nat} {spare : Nat → Bool} {held : Bool} {v : Value} {y : DataW H} {ps : List MemPlace} {r : Reach} (hok : Value.okWide P w r b0 t v) (hx : DataW.Trod enc P w base spare held t v y ps) :
    ∃ a cs, v = .agg cs ∧ d.K w a cs.toList ∧ G a := by
  obtain ⟨cs, rfl, _⟩ := okWide_struct ht hok
  obtain ⟨fuel, hf⟩ := hx
  obtain ⟨a, hK, hG⟩ := h.2 _ _ _ _ _ _ _ _ _ hf
  exact ⟨a, cs, rfl, hK, hG⟩
end Go.Proofs.Ytkeijpngfnmjoaa.MineOpens
