/- Small laws on blocks of memory and on worlds that grow: plain facts, used by this seat's walks. No condition. -/
import Derived.Test.YtkeijpngfnmjoaaMineErr
import Derived.Test.YtkeijpngfnmjoaaWWords
namespace Go.Proofs.Ytkeijpngfnmjoaa.MineBase
open Go.RowKit Go.Proofs.YtkeijpngfnmjoaaW.PrintWords
/-- A call may be looked at in any world of which these facts hold. -/
theorem calls_abs {P : Program} {f : FuncId} {args : Array Value} {W : World} {R : Ending → World → Prop} (F : World → Prop) (hF : F W) (h : ∀ W', F W' → Calls P f args W' R) : Calls P f args W R := h W hF
/-- What a block holds. -/
def blk (w : World) (g : Nat) : Option Obj := w.heap[g]?
/-- A cell is put. -/
def objPut (i : Nat) (u : Value) : Obj → Obj
  | .cells c e f => .cells (c.setIfInBounds i u) e f
  | o => o
theorem get_alloc (w : World) (o : Obj) (g : Nat) : blk (w.alloc o) g = if g = w.heap.size then some o else blk w g := by
  simp only [blk, World.alloc, Array.getElem?_push]
theorem get_setCell (w : World) (b i : Nat) (u : Value) (g : Nat) : blk (w.setCell ⟨b, i, none⟩ u) g = if g = b then (blk w g).map (objPut i u) else blk w g := by
  unfold blk
  by_cases h : g = b
  · subst h
    rw [if_pos rfl]
    simp only [World.setCell, Array.getElem?_modify, if_true]
    exact congrFun (congrArg Option.map (funext fun o => by cases o <;> rfl)) _
  · rw [if_neg h]; exact Below.heap_setCell w _ u g h
theorem get_drewN (w : World) (n g : Nat) : blk (w.drewN n) g = blk w g := rfl
theorem get_drew (w : World) (g : Nat) : blk w.drew g = blk w g := rfl
theorem get_below {w w1 : World} {g : Nat} {o : Obj} (h : blk w g = some o) (hb : Below w.heap.size w w1) : blk w1 g = some o := blk_below h hb
theorem get_lt {w : World} {g : Nat} {o : Obj} (h : blk w g = some o) : g < w.heap.size := blk_lt h
theorem get_cell {w : World} {g : Nat} {t : TypeId} {cs : Array Value} (h : blk w g = some (.cells cs t (0, 0))) (i : Nat) : w.cell? ⟨g, i, none⟩ = cs[i]? := blk_cell h i
theorem get_frozen {w : World} {g : Nat} {t : TypeId} {cs : Array Value} (h : blk w g = some (.cells cs t (0, 0))) (i : Nat) : w.frozen? ⟨g, i, none⟩ = false := blk_frozen h i
end Go.Proofs.Ytkeijpngfnmjoaa.MineBase
