/- Small laws for walks over several things in memory: a block of the call's own; a struct whose last field is a row; first places; plain facts. No condition. -/
import Derived.Test.YtnflalbiffamdaaMineRows
import Derived.Test.YtnflalbiffamdaaMineMap
import Derived.Deep.RegionLaw
import Derived.Deep.RegionHeld3
import Derived.Deep.DeepCutAuto
import Derived.Deep.QuietTactic
import Derived.BigQuiet
import Derived.Deep.DrawnRows
import Derived.WalkLawsBesides
namespace Go.Proofs.Ytnflalbiffamdaa.MineGen
open Go.RowKit Go.MapKept Go.Proofs.YtnflalbiffamdaaW.PrintWords Go.Proofs.YtnflalbiffamdaaW.PrintLast Go.Proofs.Ytnflalbiffamdaa.MineBase Go.Proofs.Ytnflalbiffamdaa.MineSep Go.Proofs.Ytnflalbiffamdaa.MineRows
set_option linter.unusedVariables false
theorem wp_abs {P : Program} {c : Code} {Q : Exit → Act → World → Prop} {a : Act} {w : World} (F : World → Prop) (hF : F w) (h : ∀ W, F W → c.wp P Q a W) : c.wp P Q a w := h w hF
theorem ret_eq {a b : Value} (h : a = b) : Ending.returned a = .returned b := by rw [h]
theorem wrap_ok {i : Int} (h0 : -9223372036854775808 ≤ i) (h1 : i < 9223372036854775808) : IntKind.i64.wrap i = i := (i64_w _).trans (by unfold wrap64; omega)
theorem below_da (w : World) (o : Obj) : Below w.heap.size w (w.alloc o).drew := below_drew (below_alloc (Below.refl _ _) o)
theorem keep_below {w0 w w1 : World} {l : List Asn} (h : Sat w0 w l) (hb : Below w.heap.size w w1) : Below w0.heap.size w0 w1 := below_then h.1 h.1.size hb
/-- A block of the call's own. -/
def ABlk (b : Nat) (o : Obj) : Asn where
  P := fun w D => w.heap[b]? = some o ∧ D b
  mono := fun hd h => ⟨h.1, hd _ h.2⟩
  bound := fun h => ⟨h.1, h.2, (Array.getElem?_eq_some_iff.1 h.1).1⟩
  move := fun hm h => ⟨(hm _ h.2).trans h.1, h.2⟩
theorem blk_new {w0 W : World} {l : List Asn} (h : Sat w0 W l) (o : Obj) : Sat w0 (W.alloc o) (ABlk W.heap.size o :: l) :=
  h.new (A := ABlk W.heap.size o) (below_alloc (Below.refl _ _) o) (D := fun k => W.heap.size ≤ k) ⟨(MapKept.heap_alloc W o).1, Nat.le_refl _⟩ (fun _ hk => hk)
theorem blk_at {w0 W : World} {l : List Asn} {b : Nat} {o : Obj} (h : Sat w0 W (ABlk b o :: l)) : W.heap[b]? = some o := by
  obtain ⟨D, h1, _⟩ := h.head
  exact h1.1
theorem blk_put {w0 W : World} {l : List Asn} {b : Nat} {cs : Array Value} {t : TypeId} (h : Sat w0 W (ABlk b (.cells cs t (0, 0)) :: l)) (i : Nat) (u : Value) : Sat w0 (W.setCell ⟨b, i, none⟩ u) (ABlk b (.cells (cs.setIfInBounds i u) t (0, 0)) :: l) := by
  obtain ⟨D, h1, hD, _, hcl⟩ := h.open_
  exact hcl _ (ABlk b _) D (h.toBelow.setCell (hD b h1.2).1 u) ((Kept.refl W D).setCell (.inl h1.2) u) ⟨blk_set h1.1 i u, h1.2⟩ (fun k hk => .inl hk)
section
variable {α : Type} {t e : TypeId} {d : Kd α} {pre : List Value} {w0 w w1 : World} {g : Nat} {xs : List α} {l : List Asn}
end
/-! ### rows of what leads on to nothing -/
/-! ### the first place of what is sought -/
/-- Two texts are one. -/
def eqS (a b : ByteArray) : Bool := a.toList == b.toList
theorem eqS_iff (a b : ByteArray) : eqS a b = true ↔ a = b := by
  unfold eqS
  rw [beq_iff_eq, ByteArray.toList_eq, ByteArray.toList_eq]
  constructor
  · intro h
    cases a
    cases b
    simp only [ByteArray.mk.injEq]
    exact Array.toList_inj.1 h
  · intro h; rw [h]
end Go.Proofs.Ytnflalbiffamdaa.MineGen
