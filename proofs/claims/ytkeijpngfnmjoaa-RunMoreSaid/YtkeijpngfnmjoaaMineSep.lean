/- Things that lie apart in memory, told as a list: what is in the list lies in blocks of its own, younger than a world w0; plain facts, used by this seat's walks. No condition. -/
import Derived.Test.YtkeijpngfnmjoaaWMore
import Derived.Test.YtkeijpngfnmjoaaMineBase
import Derived.MapKept
namespace Go.Proofs.Ytkeijpngfnmjoaa.MineSep
open Go.RowKit Go.Proofs.YtkeijpngfnmjoaaW.PrintWords Go.Proofs.Ytkeijpngfnmjoaa.MineBase
set_option linter.unusedVariables false
/-- A thing in memory, and in which blocks it lies. -/
structure Asn where
  P : World → (Nat → Prop) → Prop
  mono : ∀ {w D D'}, (∀ k, D k → D' k) → P w D → P w D'
  bound : ∀ {w D}, P w D → P w (fun k => D k ∧ k < w.heap.size)
  move : ∀ {w w1 D}, (∀ k, D k → w1.heap[k]? = w.heap[k]?) → P w D → P w1 D
theorem Asn.step (A : Asn) {w w1 : World} {D : Nat → Prop} (hm : ∀ k, D k → k < w.heap.size → w1.heap[k]? = w.heap[k]?) (h : A.P w D) : A.P w1 D :=
  A.mono (fun _ hk => hk.1) (A.move (fun k hk => hm k hk.1 hk.2) (A.bound h))
/-- All of the list, apart, in D. -/
def Hold : List Asn → World → (Nat → Prop) → Prop
  | [], _, _ => True
  | A :: l, w, D => ∃ D1, A.P w D1 ∧ (∀ k, D1 k → D k) ∧ Hold l w (fun k => D k ∧ ¬ D1 k)
theorem Hold.mono : ∀ {l : List Asn} {w : World} {D D' : Nat → Prop}, (∀ k, D k → D' k) → Hold l w D → Hold l w D'
  | [], _, _, _, _, _ => trivial
  | _ :: _, _, _, _, hd, ⟨D1, h1, h2, h3⟩ => ⟨D1, h1, fun k hk => hd k (h2 k hk), Hold.mono (fun k hk => ⟨hd k hk.1, hk.2⟩) h3⟩
theorem Hold.move : ∀ {l : List Asn} {w w1 : World} {D : Nat → Prop}, (∀ k, D k → w1.heap[k]? = w.heap[k]?) → Hold l w D → Hold l w1 D
  | [], _, _, _, _, _ => trivial
  | A :: _, _, _, _, hd, ⟨D1, h1, h2, h3⟩ => ⟨D1, A.move (fun k hk => hd k (h2 k hk)) h1, h2, Hold.move (fun k hk => hd k hk.1) h3⟩
theorem Hold.swap {A B : Asn} {l : List Asn} {w : World} {D : Nat → Prop} (h : Hold (A :: B :: l) w D) : Hold (B :: A :: l) w D := by
  obtain ⟨D1, h1, h2, D2, h3, h4, h5⟩ := h
  exact ⟨D2, h3, fun k hk => (h4 k hk).1, D1, h1, fun k hk => ⟨h2 k hk, fun hk2 => (h4 k hk2).2 hk⟩, Hold.mono (fun k hk => ⟨⟨hk.1.1, hk.2⟩, hk.1.2⟩) h5⟩
theorem Hold.perm {l l' : List Asn} (hp : l.Perm l') : ∀ {w : World} {D : Nat → Prop}, Hold l w D → Hold l' w D := by
  induction hp with
  | nil => exact fun h => h
  | cons A _ ih => exact fun ⟨D1, h1, h2, h3⟩ => ⟨D1, h1, h2, ih h3⟩
  | swap A B l => exact fun h => h.swap
  | trans _ _ ih1 ih2 => exact fun h => ih2 (ih1 h)
/-- What the walk knows: since w0 nothing elder has turned, and all of the list lies in what is younger. -/
def Sat (w0 w : World) (l : List Asn) : Prop := Below w0.heap.size w0 w ∧ Hold l w (fun k => w0.heap.size ≤ k ∧ k < w.heap.size)
section
variable {w0 w w1 : World} {A B C E : Asn} {l : List Asn}
theorem Sat.start (w0 : World) : Sat w0 w0 [] := ⟨Below.refl _ _, trivial⟩
theorem Sat.toBelow (h : Sat w0 w l) : Below w0.heap.size w0 w := h.1
theorem Sat.size (h : Sat w0 w l) : w0.heap.size ≤ w.heap.size := h.1.size
theorem Sat.below (h : Sat w0 w l) (hb : Below w.heap.size w w1) : Sat w0 w1 l :=
  ⟨below_then h.1 h.1.size hb, Hold.mono (fun k hk => ⟨hk.1, Nat.lt_of_lt_of_le hk.2 hb.size⟩) (Hold.move (fun k hk => hb.block k hk.2) h.2)⟩
theorem Sat.drew (h : Sat w0 w l) : Sat w0 w.drew l := h.below (below_drew (Below.refl _ _))
theorem Sat.drewN (h : Sat w0 w l) (n : Nat) : Sat w0 (w.drewN n) l := h.below (pw_below_drewN (Below.refl _ _) n)
theorem Sat.drawn (h : Sat w0 w l) (hd : Drawn0 w w1) : Sat w0 w1 l := h.below hd.below
theorem Sat.alloc (h : Sat w0 w l) (o : Obj) : Sat w0 (w.alloc o) l := h.below (below_alloc (Below.refl _ _) o)
theorem Sat.swap (h : Sat w0 w (A :: B :: l)) : Sat w0 w (B :: A :: l) := ⟨h.1, h.2.swap⟩
theorem Sat.drop (h : Sat w0 w (A :: l)) : Sat w0 w l := by
  obtain ⟨hb, D1, _, _, h3⟩ := h
  exact ⟨hb, Hold.mono (fun _ hk => hk.1) h3⟩
theorem Sat.under (h : Sat w0 w (A :: l)) {l' : List Asn} (hl : ∀ {w : World} {D}, Hold l w D → Hold l' w D) : Sat w0 w (A :: l') := by
  obtain ⟨hb, D1, h1, h2, h3⟩ := h
  exact ⟨hb, D1, h1, h2, hl h3⟩
theorem Sat.third (h : Sat w0 w (A :: B :: C :: l)) : Sat w0 w (C :: A :: B :: l) := (h.under (fun h => h.swap)).swap
theorem Sat.back2 (h : Sat w0 w (C :: A :: B :: l)) : Sat w0 w (A :: B :: C :: l) := h.swap.under (fun h => h.swap)
theorem Sat.imp (h : Sat w0 w (A :: l)) (hi : ∀ D, A.P w D → B.P w D) : Sat w0 w (B :: l) := by
  obtain ⟨hb, D1, h1, h2, h3⟩ := h
  exact ⟨hb, D1, hi _ h1, h2, h3⟩
/-- A thing of new blocks comes to the list. -/
theorem Sat.new (h : Sat w0 w l) (hb : Below w.heap.size w w1) {D : Nat → Prop} (hA : A.P w1 D) (hD : ∀ k, D k → w.heap.size ≤ k) : Sat w0 w1 (A :: l) := by
  have hs := hb.size
  have hs0 := h.1.size
  refine ⟨below_then h.1 h.1.size hb, _, A.bound hA, fun k hk => ⟨Nat.le_trans hs0 (hD k hk.1), hk.2⟩, Hold.mono (fun k hk => ?_) (Hold.move (fun k hk => hb.block k hk.2) h.2)⟩
  exact ⟨⟨hk.1, Nat.lt_of_lt_of_le hk.2 hs⟩, fun hk2 => by have := hD k hk2.1; have := hk.2; omega⟩
/-- The first thing of the list, with its blocks; and what may be told once it has been turned. -/
theorem Sat.open_ (h : Sat w0 w (A :: l)) : ∃ D, A.P w D ∧ (∀ k, D k → w0.heap.size ≤ k ∧ k < w.heap.size) ∧
    (∀ w1, Below w0.heap.size w0 w1 → Kept w w1 D → Sat w0 w1 l) ∧
    (∀ (w1 : World) (B : Asn) (D2 : Nat → Prop), Below w0.heap.size w0 w1 → Kept w w1 D → B.P w1 D2 → (∀ k, D2 k → D k ∨ w.heap.size ≤ k) → Sat w0 w1 (B :: l)) := by
  obtain ⟨hb, D1, h1, h2, h3⟩ := h
  refine ⟨D1, h1, h2, fun w1 hb1 hk => ⟨hb1, ?_⟩, fun w1 B D2 hb1 hk hB hD => ⟨hb1, _, B.bound hB, fun k hk2 => ?_, ?_⟩⟩
  · exact Hold.mono (fun k hk' => ⟨hk'.1.1, Nat.lt_of_lt_of_le hk'.1.2 hk.1⟩) (Hold.move (fun k hk' => hk.2 k hk'.1.2 hk'.2) h3)
  · refine ⟨?_, hk2.2⟩
    rcases hD k hk2.1 with h | h
    · exact (h2 k h).1
    · exact Nat.le_trans hb.size h
  · refine Hold.mono (fun k hk' => ⟨⟨hk'.1.1, Nat.lt_of_lt_of_le hk'.1.2 hk.1⟩, fun hk2 => ?_⟩) (Hold.move (fun k hk' => hk.2 k hk'.1.2 hk'.2) h3)
    rcases hD k hk2.1 with h | h
    · exact hk'.2 h
    · have := hk'.1.2; omega
theorem Sat.perm {l' : List Asn} (h : Sat w0 w l) (hp : l.Perm l') : Sat w0 w l' := ⟨h.1, h.2.perm hp⟩
/-- The n-th thing comes to the front. -/
theorem perm_pull (l1 : List Asn) (A : Asn) (l2 : List Asn) : (l1 ++ A :: l2).Perm (A :: (l1 ++ l2)) := List.perm_middle
theorem Sat.pull {l1 l2 : List Asn} (h : Sat w0 w (l1 ++ A :: l2)) : Sat w0 w (A :: (l1 ++ l2)) := h.perm List.perm_middle
theorem Sat.push {l1 l2 : List Asn} (h : Sat w0 w (A :: (l1 ++ l2))) : Sat w0 w (l1 ++ A :: l2) := h.perm List.perm_middle.symm
/-- The first two things of the list, with their blocks; and what may be told once they have been made one. -/
theorem Sat.open2 (h : Sat w0 w (A :: B :: l)) : ∃ D1 D2, A.P w D1 ∧ B.P w D2 ∧ (∀ k, D1 k → w0.heap.size ≤ k ∧ k < w.heap.size) ∧ (∀ k, D2 k → w0.heap.size ≤ k ∧ k < w.heap.size) ∧ (∀ k, D1 k → ¬ D2 k) ∧
    (∀ (w1 : World) (C : Asn) (D3 : Nat → Prop), Below w0.heap.size w0 w1 → Kept w w1 (fun k => D1 k ∨ D2 k) → C.P w1 D3 → (∀ k, D3 k → (D1 k ∨ D2 k) ∨ w.heap.size ≤ k) → Sat w0 w1 (C :: l)) := by
  obtain ⟨hb, D1, h1, h2, D2, h3, h4, h5⟩ := h
  refine ⟨D1, D2, h1, h3, h2, fun k hk => (h4 k hk).1, fun k hk hk2 => (h4 k hk2).2 hk, fun w1 C D3 hb1 hk hC hD => ⟨hb1, _, C.bound hC, fun k hk2 => ?_, ?_⟩⟩
  · refine ⟨?_, hk2.2⟩
    rcases hD k hk2.1 with (h | h) | h
    · exact (h2 k h).1
    · exact (h4 k h).1.1
    · exact Nat.le_trans hb.size h
  · refine Hold.mono (fun k hk' => ⟨⟨hk'.1.1.1, Nat.lt_of_lt_of_le hk'.1.1.2 hk.1⟩, fun hk2 => ?_⟩) (Hold.move (fun k hk' => hk.2 k hk'.1.1.2 (fun h => h.elim hk'.1.2 hk'.2)) h5)
    rcases hD k hk2.1 with (h | h) | h
    · exact hk'.1.2 h
    · exact hk'.2 h
    · have := hk'.1.1.2; omega
/-- The first thing of the list, looked at. -/
theorem Sat.head (h : Sat w0 w (A :: l)) : ∃ D, A.P w D ∧ (∀ k, D k → w0.heap.size ≤ k ∧ k < w.heap.size) := by
  obtain ⟨D, h1, h2, _⟩ := h.open_
  exact ⟨D, h1, h2⟩
end
/-- A row of the call's own. -/
def ARow {α : Type} (d : Kd α) (e base : Nat) (v : Value) (xs : List α) : Asn where
  P := fun w D => d.R e w base D v xs
  mono := fun hd h => Kd.R_mono h hd
  bound := fun h => Kd.R_mono (Kd.R_bound h) (fun _ hk => ⟨hk.1, hk.2.2.1⟩)
  move := fun hm h => Kd.R_move h hm
/-- What is only read, and lies in blocks of its own. -/
def ASee {α : Type} (d : Kd α) (v : Value) (xs : List α) : Asn where
  P := fun w D => ∃ A c, v = .slice A xs.length c ∧ xs.length ≤ c ∧ Kd.F d w D A xs.length xs
  mono := fun hd ⟨A, c, e, hl, h⟩ => ⟨A, c, e, hl, Kd.F_mono h hd⟩
  bound := fun ⟨A, c, e, hl, h⟩ => ⟨A, c, e, hl, Kd.F_bound h⟩
  move := fun hm ⟨A, c, e, hl, h⟩ => ⟨A, c, e, hl, Kd.F_step h (fun k hk _ => hm k hk)⟩
section
variable {α : Type} {d : Kd α} {e base : Nat} {w0 w w1 : World} {v : Value} {xs : List α} {l : List Asn}
theorem Sat.rowReads (h : Sat w0 w (ARow d e base v xs :: l)) : ∃ A c, v = .slice A xs.length c ∧ xs.length ≤ c ∧ d.C w A xs.length xs := by
  obtain ⟨D, h1, _⟩ := h.head
  exact Kd.R_reads h1
theorem Sat.rowSlice (h : Sat w0 w (ARow d e base v xs :: l)) : ∃ A c, v = .slice A xs.length c := by
  obtain ⟨A, c, e, _⟩ := h.rowReads
  exact ⟨A, c, e⟩
theorem Sat.newRow {ok : Nat → Prop} (h : Sat w0 w l) (hb : Below w.heap.size w w1) (hR : d.R e w1 w.heap.size ok v xs) (hbase : base ≤ w.heap.size) : Sat w0 w1 (ARow d e base v xs :: l) :=
  h.new (A := ARow d e base v xs) hb (D := fun k => w.heap.size ≤ k) (Kd.R_lower (Kd.R_mono (Kd.R_bound hR) (fun _ hk => hk.2.1)) hbase) (fun _ hk => hk)
end
end Go.Proofs.Ytkeijpngfnmjoaa.MineSep
