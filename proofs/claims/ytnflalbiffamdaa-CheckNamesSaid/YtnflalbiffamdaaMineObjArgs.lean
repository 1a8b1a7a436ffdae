/- Arguments of any depth read as values of a kind; an object as an argument. No condition but the types' shapes. -/
import Derived.Test.YtnflalbiffamdaaWWords
import Derived.Deep.Slices
import Derived.Deep.Fields
import Derived.ChangeSame
import Derived.ChangeArms
import Derived.Test.YtnflalbiffamdaaMinePrefs
import Derived.OpenShut
namespace Go.Proofs.Ytnflalbiffamdaa.MineOpens
open Go.ChangeShapes Go.WideShapes Go.Deep Go.Proofs.YtnflalbiffamdaaW.PrintWords
set_option linter.unusedVariables false
/-- The kind d reads what is of type t; G holds of what is read. -/
def Op (P : Program) (t : TypeId) {A : Type} (d : Kd A) (G : A → Prop) : Prop :=
  P.cellsOf t = d.sz ∧ ∀ (H : Type) (enc : TypeId × Value → H) (w : World) (base : Nat) (spare : Nat → Bool) (held : Bool) (fuel : Nat) (cs : List Value) (x : DataW H × List MemPlace),
    DataW.trod enc P w base spare held fuel t cs = some x → ∃ a, d.K w a cs ∧ G a
theorem op_int {P : Program} {t : TypeId} {k : IntKind} (ht : P.underlying t = some (.int k)) (hc : P.cellsOf t = 1) : Op P t (Kd.int k) (fun z => (Lit.int k z).wf = true) := by
  refine ⟨hc, fun H enc w base spare held fuel cs x h => ?_⟩
  obtain ⟨n, rfl, _, hw⟩ := DataW.trod_int ht h
  exact ⟨n, rfl, hw⟩
theorem op_bool {P : Program} {t : TypeId} (ht : P.underlying t = some .bool) (hc : P.cellsOf t = 1) : Op P t Kd.bool (fun _ => True) := by
  refine ⟨hc, fun H enc w base spare held fuel cs x h => ?_⟩
  obtain ⟨n, rfl, _⟩ := DataW.trod_bool ht h
  exact ⟨n, rfl, trivial⟩
theorem op_string {P : Program} {t : TypeId} (ht : P.underlying t = some .string) (hc : P.cellsOf t = 1) : Op P t Kd.string (fun s => s.size ≤ maxLen) := by
  refine ⟨hc, fun H enc w base spare held fuel cs x h => ?_⟩
  obtain ⟨n, rfl, _, hw⟩ := DataW.trod_string ht h
  exact ⟨n, rfl, hw⟩
theorem op_iso {P : Program} {t : TypeId} {A B : Type} {d : Kd A} {G : A → Prop} {f : B → A} (h : Op P t d G) (g : A → B) (hg : ∀ a, f (g a) = a) : Op P t (Kd.iso d f) (fun b => G (f b)) := by
  refine ⟨h.1, fun H enc w base spare held fuel cs x hx => ?_⟩
  obtain ⟨a, hk, hG⟩ := h.2 H enc w base spare held fuel cs x hx
  exact ⟨g a, show d.K w (f (g a)) cs by rw [hg]; exact hk, show G (f (g a)) by rw [hg]; exact hG⟩
theorem pick {A : Type} (p : Nat → A → Prop) : ∀ n, (∀ i, i < n → ∃ a, p i a) → ∃ l : List A, l.length = n ∧ ∀ i a, l[i]? = some a → p i a
  | 0, _ => ⟨[], rfl, fun i a h => by simp at h⟩
  | n + 1, h => by
    obtain ⟨l, hl, hp⟩ := pick p n (fun i hi => h i (by omega))
    obtain ⟨a, ha⟩ := h n (by omega)
    refine ⟨l ++ [a], by simp [hl], fun i b hb => ?_⟩
    by_cases hi : i < l.length
    · rw [List.getElem?_append_left hi] at hb
      exact hp i b hb
    · rw [List.getElem?_append_right (by omega)] at hb
      have : i - l.length = 0 := by
        rcases Nat.eq_zero_or_pos (i - l.length) with h0 | h0
        · exact h0
        · rw [List.getElem?_eq_none (by simp; omega)] at hb; cases hb
      rw [this] at hb
      simp at hb
      subst hb
      have hi2 : i = n := by omega
      subst hi2
      exact ha
theorem maxLen_le : maxLen ≤ 9223372036854775807 := by decide
/-- A slice, whole: the row of what is in it. -/
theorem op_row {P : Program} {t e : TypeId} {A : Type} {d : Kd A} {G : A → Prop} (ht : P.underlying t = some (.slice e)) (h : Op P e d G)
    {H : Type} {enc : TypeId × Value → H} {w : World} {base : Nat} {spare : Nat → Bool} {held : Bool} {fuel : Nat} {cs : List Value} {x : DataW H × List MemPlace} (hx : DataW.trod enc P w base spare held fuel t cs = some x) :
    ∃ A0 c l, cs = [.slice A0 l.length c] ∧ l.length ≤ c ∧ Kd.C d w A0 l.length l ∧ (∀ y ∈ l, G y) ∧ l.length ≤ maxLen := by
  rcases open_slice ht hx with ⟨rfl, _⟩ | ⟨a, len, cap, m, n, D, Pl, rfl, hb, hl, hm, hmm, _, hi⟩
  · exact ⟨none, 0, [], rfl, Nat.le_refl _, ⟨rfl, Nat.zero_le _, fun h => absurd h (Nat.lt_irrefl _)⟩, fun y hy => absurd hy (by simp), Nat.zero_le _⟩
  · have hlm : len ≤ m := by rw [hmm]; split <;> omega
    obtain ⟨l, hll, hp⟩ := pick (fun i y => ∃ c, c.length = d.sz ∧ d.K w y c ∧ G y ∧ ∀ j u, c[j]? = some u → w.cell? (a.add (i * d.sz + j)) = some u) len (fun i hil => by
      obtain ⟨cs', hc, ht'⟩ := hi i (by omega)
      obtain ⟨y, hK, hG⟩ := h.2 _ _ _ _ _ _ _ _ _ ht'
      obtain ⟨_, hcl, hat⟩ := World.cells?_some hc
      rw [h.1] at hcl hat
      refine ⟨y, cs', hcl, hK, hG, fun j u hu => ?_⟩
      have hj : j < d.sz := by rw [← hcl]; exact (List.getElem?_eq_some_iff.1 hu).1
      have := hat j hj
      rw [Go.Deep.add_add] at this
      exact this.trans hu)
    subst hll
    have hmx := maxLen_le
    refine ⟨some a, cap, l, rfl, hl, ⟨rfl, by omega, fun _ => ⟨a, rfl, fun j p hj => ?_⟩⟩, fun y hy => ?_, by omega⟩
    · obtain ⟨c, h1, h2, _, h4⟩ := hp j p hj
      exact ⟨c, h1, h2, h4⟩
    · obtain ⟨i, hi2, rfl⟩ := List.mem_iff_getElem.1 hy
      obtain ⟨_, _, _, h3, _⟩ := hp i _ (List.getElem?_eq_getElem hi2)
      exact h3
theorem op_slice {P : Program} {t e : TypeId} {A : Type} {d : Kd A} {G : A → Prop} (q : Nat) (ht : P.underlying t = some (.slice e)) (hc : P.cellsOf t = 1) (h : Op P e d G) :
    Op P t (Kd.slice q d) (fun l => (∀ y ∈ l, G y) ∧ l.length ≤ maxLen) := by
  refine ⟨hc, fun H enc w base spare held fuel cs x hx => ?_⟩
  obtain ⟨A0, c, l, rfl, hl, hC, hG, hm⟩ := op_row ht h hx
  exact ⟨l, ⟨A0, c, rfl, hl, hC⟩, hG, hm⟩
/-- Where a field begins. -/
def offOf (P : Program) : List TypeId → Nat → Nat
  | [], _ => 0
  | _ :: _, 0 => 0
  | t :: ts, i + 1 => P.cellsOf t + offOf P ts i
/-- The fields' types, in their order, read as one kind. -/
def Fo (P : Program) (ts : List TypeId) {A : Type} (d : Kd A) (G : A → Prop) : Prop :=
  (ts.map P.cellsOf).sum = d.sz ∧ ∀ (H : Type) (enc : TypeId × Value → H) (w : World) (base : Nat) (spare : Nat → Bool) (held : Bool) (fuel : Nat) (cs : List Value), cs.length = d.sz →
    (∀ i t, ts[i]? = some t → ∃ x, DataW.trod enc P w base spare held fuel t ((cs.drop (offOf P ts i)).take (P.cellsOf t)) = some x) → ∃ a, d.K w a cs ∧ G a
theorem fo_one {P : Program} {t : TypeId} {A : Type} {d : Kd A} {G : A → Prop} (h : Op P t d G) : Fo P [t] d G := by
  refine ⟨by simpa using h.1, fun H enc w base spare held fuel cs hcs hf => ?_⟩
  obtain ⟨x, hx⟩ := hf 0 t rfl
  have e : (cs.drop (offOf P [t] 0)).take (P.cellsOf t) = cs := by
    rw [h.1, show offOf P [t] 0 = 0 from rfl, List.drop_zero, ← hcs, List.take_length]
  rw [e] at hx
  exact h.2 _ _ _ _ _ _ _ _ _ hx
theorem fo_cons {P : Program} {t : TypeId} {ts : List TypeId} {A B : Type} {d : Kd A} {d' : Kd B} {G : A → Prop} {G' : B → Prop} (h : Op P t d G) (h' : Fo P ts d' G') : Fo P (t :: ts) (Kd.pair d d') (fun x => G x.1 ∧ G' x.2) := by
  refine ⟨by simp [List.map_cons, List.sum_cons, h.1, h'.1, Kd.pair], fun H enc w base spare held fuel cs hcs hf => ?_⟩
  have hcs' : cs.length = d.sz + d'.sz := hcs
  obtain ⟨x, hx⟩ := hf 0 t rfl
  have e : (cs.drop (offOf P (t :: ts) 0)).take (P.cellsOf t) = cs.take d.sz := by
    rw [h.1, show offOf P (t :: ts) 0 = 0 from rfl, List.drop_zero]
  rw [e] at hx
  obtain ⟨a, hK, hG⟩ := h.2 _ _ _ _ _ _ _ _ _ hx
  obtain ⟨b, hK', hG'⟩ := h'.2 H enc w base spare held fuel (cs.drop d.sz) (by rw [List.length_drop]; omega) (fun i t' ht' => by
    obtain ⟨y, hy⟩ := hf (i + 1) t' (by simpa using ht')
    rw [show offOf P (t :: ts) (i + 1) = P.cellsOf t + offOf P ts i from rfl, h.1, ← List.drop_drop] at hy
    exact ⟨y, hy⟩)
  exact ⟨(a, b), ⟨cs.take d.sz, cs.drop d.sz, (List.take_append_drop _ _).symm, hK, hK'⟩, hG, hG'⟩
theorem op_struct {P : Program} {t : TypeId} {fs : Array Field} {A : Type} {d : Kd A} {G : A → Prop} (ts : List TypeId) (ht : P.underlying t = some (.struct fs)) (hc : P.cellsOf t = d.sz)
    (hts : (List.range ts.length).all (fun i => (fs[i]?.map (fun f => (f.type, f.offset))) == (ts[i]?.map (fun t => (t, offOf P ts i)))) = true) (h : Fo P ts d G) : Op P t d G := by
  refine ⟨hc, fun H enc w base spare held fuel cs x hx => ?_⟩
  obtain ⟨xs, n, rfl, _, hl, hxs, hf⟩ := DataW.trod_struct ht hx
  refine h.2 H enc w base spare held n cs (hl.trans hc) (fun i t' ht' => ?_)
  have hi : i < ts.length := (List.getElem?_eq_some_iff.1 ht').1
  have h1 := List.all_eq_true.1 hts i (List.mem_range.2 hi)
  rw [ht'] at h1
  have h2 := eq_of_beq h1
  cases hfi : fs[i]? with
  | none => rw [hfi] at h2; simp at h2
  | some f =>
    rw [hfi] at h2
    simp only [Option.map_some, Option.some.injEq, Prod.mk.injEq] at h2
    have h3 := hf i f hfi
    have hlt : i < xs.length := by rw [hxs]; exact (Array.getElem?_eq_some_iff.1 hfi).1
    rw [h2.1, h2.2, List.getElem?_eq_getElem hlt] at h3
    exact ⟨_, h3⟩
/-- A parameter that is a slice. -/
theorem arg_slice {P : Program} {t e : TypeId} {A : Type} {d : Kd A} {G : A → Prop} (ht : P.underlying t = some (.slice e)) (h : Op P e d G)
    {H : Type} {enc : TypeId × Value → H} {w : World} {base b0 : Nat} {spare : Nat → Bool} {held : Bool} {v : Value} {y : DataW H} {ps : List MemPlace} {r : Reach} (hok : Value.okWide P w r b0 t v) (hx : DataW.Trod enc P w base spare held t v y ps) :
    ∃ A0 c l, v = .slice A0 l.length c ∧ l.length ≤ c ∧ Kd.C d w A0 l.length l ∧ (∀ y ∈ l, G y) ∧ l.length ≤ maxLen := by
  obtain ⟨a, len, cap, rfl⟩ := okWide_slice ht hok
  obtain ⟨fuel, hf⟩ := hx
  obtain ⟨A0, c, l, hcs, r1⟩ := op_row ht h hf
  refine ⟨A0, c, l, ?_, r1⟩
  simpa [Value.cells] using hcs
/-- A parameter that is a struct. -/
theorem arg_struct {P : Program} {t : TypeId} {fs : Array Field} {A : Type} {d : Kd A} {G : A → Prop} (ht : P.underlying t = some (.struct fs)) (h : Op P t d G)
    {H : Type} {enc : TypeId × Value → H} {w : World} {base b0 : Nat} {spare : Nat → Bool} {held : Bool} {v : Value} {y : DataW H} {ps : List MemPlace} {r : Reach} (hok : Value.okWide P w r b0 t v) (hx : DataW.Trod enc P w base spare held t v y ps) :
    ∃ a cs, v = .agg cs ∧ d.K w a cs.toList ∧ G a := by
  obtain ⟨cs, rfl, _⟩ := okWide_struct ht hok
  obtain ⟨fuel, hf⟩ := hx
  obtain ⟨a, hK, hG⟩ := h.2 _ _ _ _ _ _ _ _ _ hf
  exact ⟨a, cs, rfl, hK, hG⟩
end Go.Proofs.Ytnflalbiffamdaa.MineOpens
namespace Go.Proofs.Ytnflalbiffamdaa.MineObj
open Go.RowKit Go.ChangeShapes Go.WideShapes Go.Deep Go.Proofs.YtnflalbiffamdaaW.PrintWords Go.Proofs.Ytnflalbiffamdaa.MineOpens Go.Proofs.Ytnflalbiffamdaa.QCheckTells Go.Proofs.Ytnflalbiffamdaa.PureChain
set_option linter.unusedVariables false
/-- An array of three. -/
theorem op_arr3 {P : Program} {t e : TypeId} {A : Type} {d : Kd A} {G : A → Prop} (ht : P.underlying t = some (.array 3 e)) (hc : P.cellsOf t = 3) (h : MineOpens.Op P e d G) (hd : d.sz = 1) :
    MineOpens.Op P t (Kd.pair d (Kd.pair d d)) (fun x => G x.1 ∧ G x.2.1 ∧ G x.2.2) := by
  refine ⟨by rw [hc]; show 3 = d.sz + (d.sz + d.sz); omega, fun H enc w base spare held fuel cs x hx => ?_⟩
  obtain ⟨xs, m, rfl, _, hl, hxs, hf⟩ := DataW.trod_array ht hx
  have h1 : P.cellsOf e = 1 := h.1.trans hd
  rw [hc] at hl
  match cs, hl with
  | [c0, c1, c2], _ =>
    have get : ∀ i c, i < 3 → ([c0, c1, c2].drop (i * P.cellsOf e)).take (P.cellsOf e) = [c] → ∃ a, d.K w a [c] ∧ G a := fun i c hi hd => by
      have h2 := hf i hi
      rw [hd, List.getElem?_eq_getElem (by omega)] at h2
      exact h.2 _ _ _ _ _ _ _ _ _ h2
    obtain ⟨a0, k0, g0⟩ := get 0 c0 (by omega) (by rw [h1]; rfl)
    obtain ⟨a1, k1, g1⟩ := get 1 c1 (by omega) (by rw [h1]; rfl)
    obtain ⟨a2, k2, g2⟩ := get 2 c2 (by omega) (by rw [h1]; rfl)
    exact ⟨(a0, a1, a2), ⟨[c0], [c1, c2], rfl, k0, [c1], [c2], rfl, k1, k2⟩, g0, g1, g2⟩
abbrev ObT := ByteArray × Int × List S92 × List S130 × Int × ByteArray × List Int × List S95 × List S43 × List Int × List Int × (Int × Int × Int) × Int
def obOf (x : ObT) : Ob := ⟨x.1, x.2.1, x.2.2.1, x.2.2.2.1, x.2.2.2.2.1, x.2.2.2.2.2.1, x.2.2.2.2.2.2.1, x.2.2.2.2.2.2.2.1, x.2.2.2.2.2.2.2.2.1, x.2.2.2.2.2.2.2.2.2.1, x.2.2.2.2.2.2.2.2.2.2.1, x.2.2.2.2.2.2.2.2.2.2.2.1.1, x.2.2.2.2.2.2.2.2.2.2.2.1.2.1, x.2.2.2.2.2.2.2.2.2.2.2.1.2.2, x.2.2.2.2.2.2.2.2.2.2.2.2⟩
def kObT : Kd ObT := Kd.pair Kd.string (Kd.pair (Kd.int .u32) (Kd.pair (Kd.slice 92 k92) (Kd.pair (Kd.slice 130 k130) (Kd.pair (Kd.int .i64) (Kd.pair Kd.string (Kd.pair (Kd.slice 22 (Kd.int .u32)) (Kd.pair (Kd.slice 95 k95) (Kd.pair (Kd.slice 43 k43) (Kd.pair (Kd.slice 3 (Kd.int .i64)) (Kd.pair (Kd.slice 3 (Kd.int .i64)) (Kd.pair (Kd.pair (Kd.int .i64) (Kd.pair (Kd.int .i64) (Kd.int .i64))) (Kd.int .i64))))))))))))
theorem obT_open {w : World} {x : ObT} {cs : List Value} (h : kObT.K w x cs) : ∃ a, cs = (cellsO (obOf x) a).toList ∧ ObR (obOf x) a w := by
  obtain ⟨x0, x1, x2, x3, x4, x5, x6, x7, x8, x9, x10, ⟨x11, x12, x13⟩, x14⟩ := x
  obtain ⟨_, _, rfl, rfl, _, _, rfl, rfl, _, _, rfl, ⟨A2, c2, rfl, l2, r2⟩, _, _, rfl, ⟨A3, c3, rfl, l3, r3⟩, _, _, rfl, rfl, _, _, rfl, rfl, _, _, rfl, ⟨A6, c6, rfl, l6, r6⟩, _, _, rfl, ⟨A7, c7, rfl, l7, r7⟩, _, _, rfl, ⟨A8, c8, rfl, l8, r8⟩, _, _, rfl, ⟨A9, c9, rfl, l9, r9⟩, _, _, rfl, ⟨A10, c10, rfl, l10, r10⟩, _, _, rfl, ⟨_, _, rfl, rfl, _, _, rfl, rfl, rfl⟩, rfl⟩ := h
  exact ⟨⟨A2, A3, A6, A7, A8, A9, A10, c2, c3, c6, c7, c8, c9, c10⟩, rfl, ⟨r2, r3, r6, r7, r8, r9, r10, l2, l3, l6, l7, l8, l9, l10⟩⟩
theorem o_str : MineOpens.Op Try.prog 9 Kd.string (fun s => s.size ≤ maxLen) := op_string Try.underlying9 (by kernel_rfl)
theorem o_int : MineOpens.Op Try.prog 3 (Kd.int .i64) (fun z => (Lit.int .i64 z).wf = true) := op_int Try.underlying3 (by kernel_rfl)
theorem o_u32 : MineOpens.Op Try.prog 22 (Kd.int .u32) (fun z => (Lit.int .u32 z).wf = true) := op_int Try.underlying22 (by kernel_rfl)
theorem o_imp : MineOpens.Op Try.prog 92 k92 (fun _ => True) := by
  obtain ⟨h1, h2⟩ := op_iso (op_struct [9, 22] Try.underlying92 (by kernel_rfl) (by kernel_rfl) (fo_cons o_str (fo_one o_u32))) (f := fun x : S92 => (x.f0, x.f1)) (fun p => ⟨p.1, p.2⟩) (fun a => rfl)
  refine ⟨h1, fun H enc w base spare held fuel cs x hx => ?_⟩
  obtain ⟨a, hk, _⟩ := h2 H enc w base spare held fuel cs x hx
  exact ⟨a, hk, trivial⟩
theorem o_typ : MineOpens.Op Try.prog 130 k130 (fun _ => True) := by
  obtain ⟨h1, h2⟩ := op_iso (op_struct [3, 3, 3] Try.underlying130 (by kernel_rfl) (by kernel_rfl) (fo_cons o_int (fo_cons o_int (fo_one o_int)))) (f := fun x : S130 => (x.f0, x.f1, x.f2)) (fun p => ⟨p.1, p.2.1, p.2.2⟩) (fun a => rfl)
  refine ⟨h1, fun H enc w base spare held fuel cs x hx => ?_⟩
  obtain ⟨a, hk, _⟩ := h2 H enc w base spare held fuel cs x hx
  exact ⟨a, hk, trivial⟩
theorem o_cmd : MineOpens.Op Try.prog 95 k95 (fun _ => True) := by
  obtain ⟨h1, h2⟩ := op_iso (op_struct [9, 3] Try.underlying95 (by kernel_rfl) (by kernel_rfl) (fo_cons o_str (fo_one o_int))) (f := fun x : S95 => (x.f0, x.f1)) (fun p => ⟨p.1, p.2⟩) (fun a => rfl)
  refine ⟨h1, fun H enc w base spare held fuel cs x hx => ?_⟩
  obtain ⟨a, hk, _⟩ := h2 H enc w base spare held fuel cs x hx
  exact ⟨a, hk, trivial⟩
theorem o_exp : MineOpens.Op Try.prog 43 k43 (fun x => (Lit.int .i64 x.f0).wf = true ∧ (Lit.int .i64 x.f1).wf = true) :=
  op_iso (op_struct [3, 3] Try.underlying43 (by kernel_rfl) (by kernel_rfl) (fo_cons o_int (fo_one o_int))) (f := fun x : S43 => (x.f0, x.f1)) (fun p => ⟨p.1, p.2⟩) (fun a => rfl)
theorem lit_i64 {x : Int} (h : (Lit.int .i64 x).wf = true) : -9223372036854775808 ≤ x ∧ x ≤ 9223372036854775807 := by
  simp [Lit.wf, IntKind.min, IntKind.max, IntKind.signed, IntKind.bits] at h; omega
theorem lit_u32 {x : Int} (h : (Lit.int .u32 x).wf = true) : 0 ≤ x ∧ x < 4294967296 := by
  simp [Lit.wf, IntKind.min, IntKind.max, IntKind.signed, IntKind.bits] at h; omega
/-- What an object of Go's is. -/
def Good31 (x : ObT) : Prop := Sane (obOf x) ∧ ∀ y ∈ (obOf x).exps, (-9223372036854775808 ≤ y.f1 ∧ y.f1 ≤ 9223372036854775807)
theorem o_obj : MineOpens.Op Try.prog 31 kObT Good31 := by
  have h := op_struct [9, 22, 23, 24, 3, 9, 25, 26, 27, 28, 28, 29, 3] Try.underlying31 (by kernel_rfl) (by kernel_rfl) (fo_cons o_str (fo_cons o_u32 (fo_cons (op_slice 92 Try.underlying23 (by kernel_rfl) o_imp) (fo_cons (op_slice 130 Try.underlying24 (by kernel_rfl) o_typ) (fo_cons o_int (fo_cons o_str (fo_cons (op_slice 22 Try.underlying25 (by kernel_rfl) o_u32) (fo_cons (op_slice 95 Try.underlying26 (by kernel_rfl) o_cmd) (fo_cons (op_slice 43 Try.underlying27 (by kernel_rfl) o_exp) (fo_cons (op_slice 3 Try.underlying28 (by kernel_rfl) o_int) (fo_cons (op_slice 3 Try.underlying28 (by kernel_rfl) o_int) (fo_cons (op_arr3 Try.underlying29 (by kernel_rfl) o_int rfl) (fo_one o_int)))))))))))))
  refine ⟨h.1, fun H enc w base spare held fuel cs x hx => ?_⟩
  obtain ⟨a, hk, g0, g1, g2, g3, g4, g5, g6, g7, g8, g9, g10, g11, g12⟩ := h.2 H enc w base spare held fuel cs x hx
  refine ⟨a, hk, ⟨fun z hz => lit_u32 (g6.1 z hz), fun k => ?_, lit_i64 g4⟩, fun y hy => lit_i64 (g8.1 y hy).2⟩
  unfold fixO obOf
  simp only
  split
  · exact lit_i64 g11.1
  · split
    · exact lit_i64 g11.2.1
    · exact lit_i64 g11.2.2
end Go.Proofs.Ytnflalbiffamdaa.MineObj
