/-
  No cell of these rows narrows 'for every input' (looked for: loops, veiled, ifaces, maps, wideKeys, modest, calm, conditions, laid).
  DERIVED. THE GIVEN ROWS OF THIS SEAT. 11 by the template 'for every input the law returns true; each argument reads behind the call as it read before'; 0 by the template 'total and deterministic' (their statements: YtnflalbiffamdaaTotals.lean).
  GIVEN WITH THE SEED: the statements are not yours to turn. If you find one false, say at which input.
  Laid BY PROGRAM, IN A SANDBOX (cutbox-rows.mjs): the forced cells as the released guide's own fill.sh prints them over the translation 86c104ccfac98129… (all of the seat's roots in one cut). By AI agents, Wed Nov 11 2026. No macro, syntax, notation, axiom, sorry.
-/
import Derived.Test.YtnflalbiffamdaaChecked
import GoSem.Claim
import GoSem.ClaimJoined
import GoSem.ClaimMapViews
import Derived.JoinedTies
import Derived.KernelRfl
namespace Go.Proofs.Ytnflalbiffamdaa
/- THE CELL 'sum', in the pinned program and in every row, IS THE sha256 OF THE DUMP (.gsa) THAT YtnflalbiffamdaaProg.lean LOADS. Nothing in Lean hashes anything: it is a label: what it is worth is what the hold of that sum in a sandbox is worth. -/
noncomputable def Try.pinned : Pinned := { name := "ytnflalbiffamdaa", sum := "86c104ccfac98129e4cee540e0ae911c5ae89c3c379290a17a35d4900ab493a3", checked := Try.checked }
namespace Rows
def none {H : Type} : Left H := { results := [], args := [] }

/-- 'dowellaw15.PlanParts': WHATEVER THE INPUT: true; the input reads as it did. -/
def planPartsSpec : ChangeSpec := { name := "planParts", fn := fun _ => fun
  | [d] => { results := [.lit (.bool true)], args := [d] }
  | _ => none }
def planPartsRow : OpenClaim := { program := "ytnflalbiffamdaa", sum := "86c104ccfac98129e4cee540e0ae911c5ae89c3c379290a17a35d4900ab493a3", func := "dowel/dowellaw15.PlanParts", spec := "planParts", apart := false }
def PlanPartsSaid : Prop := planPartsRow.holds Try.pinned (OpenSpec.ofChange planPartsSpec)

/-- ITS FALSE NEIGHBOUR: 'it returns false'. Refute it at one input. -/
def planPartsWrong : ChangeSpec := { name := "planParts", fn := fun _ => fun
  | [d] => { results := [.lit (.bool false)], args := [d] }
  | _ => none }
def PlanPartsWrongFalsely : Prop := planPartsRow.holds Try.pinned (OpenSpec.ofChange planPartsWrong)

/-- 'dowellaw13.ChainWalks': WHATEVER THE INPUT: true; the input reads as it did. -/
def chainWalksSpec : ChangeSpec := { name := "chainWalks", fn := fun _ => fun
  | [d1, d2, d3, d4, d5, d6, d7] => { results := [.lit (.bool true)], args := [d1, d2, d3, d4, d5, d6, d7] }
  | _ => none }
def chainWalksRow : OpenClaim := { program := "ytnflalbiffamdaa", sum := "86c104ccfac98129e4cee540e0ae911c5ae89c3c379290a17a35d4900ab493a3", func := "dowel/dowellaw13.ChainWalks", spec := "chainWalks", apart := false }
def ChainWalksSaid : Prop := chainWalksRow.holds Try.pinned (OpenSpec.ofChange chainWalksSpec)

/-- ITS FALSE NEIGHBOUR: 'it returns false'. Refute it at one input. -/
def chainWalksWrong : ChangeSpec := { name := "chainWalks", fn := fun _ => fun
  | [d1, d2, d3, d4, d5, d6, d7] => { results := [.lit (.bool false)], args := [d1, d2, d3, d4, d5, d6, d7] }
  | _ => none }
def ChainWalksWrongFalsely : Prop := chainWalksRow.holds Try.pinned (OpenSpec.ofChange chainWalksWrong)

/-- 'dowellaw17.RelocLinks': WHATEVER THE INPUT: true; the input reads as it did. -/
def relocLinksSpec : ChangeSpec := { name := "relocLinks", fn := fun _ => fun
  | [d1, d2, d3] => { results := [.lit (.bool true)], args := [d1, d2, d3] }
  | _ => none }
def relocLinksRow : OpenClaim := { program := "ytnflalbiffamdaa", sum := "86c104ccfac98129e4cee540e0ae911c5ae89c3c379290a17a35d4900ab493a3", func := "dowel/dowellaw17.RelocLinks", spec := "relocLinks", apart := false }
def RelocLinksSaid : Prop := relocLinksRow.holds Try.pinned (OpenSpec.ofChange relocLinksSpec)

/-- ITS FALSE NEIGHBOUR: 'it returns false'. Refute it at one input. -/
def relocLinksWrong : ChangeSpec := { name := "relocLinks", fn := fun _ => fun
  | [d1, d2, d3] => { results := [.lit (.bool false)], args := [d1, d2, d3] }
  | _ => none }
def RelocLinksWrongFalsely : Prop := relocLinksRow.holds Try.pinned (OpenSpec.ofChange relocLinksWrong)

/-- 'dowellaw17.RelocGoes': WHATEVER THE INPUT: true; the input reads as it did. -/
def relocGoesSpec : ChangeSpec := { name := "relocGoes", fn := fun _ => fun
  | [d1, d2, d3, d4, d5, d6] => { results := [.lit (.bool true)], args := [d1, d2, d3, d4, d5, d6] }
  | _ => none }
def relocGoesRow : OpenClaim := { program := "ytnflalbiffamdaa", sum := "86c104ccfac98129e4cee540e0ae911c5ae89c3c379290a17a35d4900ab493a3", func := "dowel/dowellaw17.RelocGoes", spec := "relocGoes", apart := false }
def RelocGoesSaid : Prop := relocGoesRow.holds Try.pinned (OpenSpec.ofChange relocGoesSpec)

/-- ITS FALSE NEIGHBOUR: 'it returns false'. Refute it at one input. -/
def relocGoesWrong : ChangeSpec := { name := "relocGoes", fn := fun _ => fun
  | [d1, d2, d3, d4, d5, d6] => { results := [.lit (.bool false)], args := [d1, d2, d3, d4, d5, d6] }
  | _ => none }
def RelocGoesWrongFalsely : Prop := relocGoesRow.holds Try.pinned (OpenSpec.ofChange relocGoesWrong)

/-- 'dowellaw12.ObjPuts': WHATEVER THE INPUT: true; the input reads as it did. -/
def objPutsSpec : ChangeSpec := { name := "objPuts", fn := fun _ => fun
  | [d1, d2] => { results := [.lit (.bool true)], args := [d1, d2] }
  | _ => none }
def objPutsRow : OpenClaim := { program := "ytnflalbiffamdaa", sum := "86c104ccfac98129e4cee540e0ae911c5ae89c3c379290a17a35d4900ab493a3", func := "dowel/dowellaw12.ObjPuts", spec := "objPuts", unfollowed := true, recurses := true, apart := false }
def ObjPutsSaid : Prop := objPutsRow.holds Try.pinned (OpenSpec.ofChange objPutsSpec)

/-- ITS FALSE NEIGHBOUR: 'it returns false'. Refute it at one input. -/
def objPutsWrong : ChangeSpec := { name := "objPuts", fn := fun _ => fun
  | [d1, d2] => { results := [.lit (.bool false)], args := [d1, d2] }
  | _ => none }
def ObjPutsWrongFalsely : Prop := objPutsRow.holds Try.pinned (OpenSpec.ofChange objPutsWrong)

/-- 'dowellaw12.ObjGets': WHATEVER THE INPUT: true; the input reads as it did. -/
def objGetsSpec : ChangeSpec := { name := "objGets", fn := fun _ => fun
  | [d] => { results := [.lit (.bool true)], args := [d] }
  | _ => none }
def objGetsRow : OpenClaim := { program := "ytnflalbiffamdaa", sum := "86c104ccfac98129e4cee540e0ae911c5ae89c3c379290a17a35d4900ab493a3", func := "dowel/dowellaw12.ObjGets", spec := "objGets", unfollowed := true, recurses := true, apart := false }
def ObjGetsSaid : Prop := objGetsRow.holds Try.pinned (OpenSpec.ofChange objGetsSpec)

/-- ITS FALSE NEIGHBOUR: 'it returns false'. Refute it at one input. -/
def objGetsWrong : ChangeSpec := { name := "objGets", fn := fun _ => fun
  | [d] => { results := [.lit (.bool false)], args := [d] }
  | _ => none }
def ObjGetsWrongFalsely : Prop := objGetsRow.holds Try.pinned (OpenSpec.ofChange objGetsWrong)

/-- 'dowellaw12.ObjBack': WHATEVER THE INPUT: true; the input reads as it did. -/
def objBackSpec : ChangeSpec := { name := "objBack", fn := fun _ => fun
  | [d1, d2] => { results := [.lit (.bool true)], args := [d1, d2] }
  | _ => none }
def objBackRow : OpenClaim := { program := "ytnflalbiffamdaa", sum := "86c104ccfac98129e4cee540e0ae911c5ae89c3c379290a17a35d4900ab493a3", func := "dowel/dowellaw12.ObjBack", spec := "objBack", unfollowed := true, recurses := true, apart := false }
def ObjBackSaid : Prop := objBackRow.holds Try.pinned (OpenSpec.ofChange objBackSpec)

/-- ITS FALSE NEIGHBOUR: 'it returns false'. Refute it at one input. -/
def objBackWrong : ChangeSpec := { name := "objBack", fn := fun _ => fun
  | [d1, d2] => { results := [.lit (.bool false)], args := [d1, d2] }
  | _ => none }
def ObjBackWrongFalsely : Prop := objBackRow.holds Try.pinned (OpenSpec.ofChange objBackWrong)

/-- 'dowellaw14.CheckTells': WHATEVER THE INPUT: true; the input reads as it did. -/
def checkTellsSpec : ChangeSpec := { name := "checkTells", fn := fun _ => fun
  | [d1, d2, d3] => { results := [.lit (.bool true)], args := [d1, d2, d3] }
  | _ => none }
def checkTellsRow : OpenClaim := { program := "ytnflalbiffamdaa", sum := "86c104ccfac98129e4cee540e0ae911c5ae89c3c379290a17a35d4900ab493a3", func := "dowel/dowellaw14.CheckTells", spec := "checkTells", apart := false }
def CheckTellsSaid : Prop := checkTellsRow.holds Try.pinned (OpenSpec.ofChange checkTellsSpec)

/-- ITS FALSE NEIGHBOUR: 'it returns false'. Refute it at one input. -/
def checkTellsWrong : ChangeSpec := { name := "checkTells", fn := fun _ => fun
  | [d1, d2, d3] => { results := [.lit (.bool false)], args := [d1, d2, d3] }
  | _ => none }
def CheckTellsWrongFalsely : Prop := checkTellsRow.holds Try.pinned (OpenSpec.ofChange checkTellsWrong)

/-- 'dowellaw14.CheckNames': WHATEVER THE INPUT: true; the input reads as it did. -/
def checkNamesSpec : ChangeSpec := { name := "checkNames", fn := fun _ => fun
  | [d1, d2, d3] => { results := [.lit (.bool true)], args := [d1, d2, d3] }
  | _ => none }
def checkNamesRow : OpenClaim := { program := "ytnflalbiffamdaa", sum := "86c104ccfac98129e4cee540e0ae911c5ae89c3c379290a17a35d4900ab493a3", func := "dowel/dowellaw14.CheckNames", spec := "checkNames", apart := false }
def CheckNamesSaid : Prop := checkNamesRow.holds Try.pinned (OpenSpec.ofChange checkNamesSpec)

/-- ITS FALSE NEIGHBOUR: 'it returns false'. Refute it at one input. -/
def checkNamesWrong : ChangeSpec := { name := "checkNames", fn := fun _ => fun
  | [d1, d2, d3] => { results := [.lit (.bool false)], args := [d1, d2, d3] }
  | _ => none }
def CheckNamesWrongFalsely : Prop := checkNamesRow.holds Try.pinned (OpenSpec.ofChange checkNamesWrong)

/-- 'dowellaw19.OrderTells': WHATEVER THE INPUT: true; the input reads as it did. -/
def orderTellsSpec : ChangeSpec := { name := "orderTells", fn := fun _ => fun
  | [d1, d2, d3] => { results := [.lit (.bool true)], args := [d1, d2, d3] }
  | _ => none }
def orderTellsRow : OpenClaim := { program := "ytnflalbiffamdaa", sum := "86c104ccfac98129e4cee540e0ae911c5ae89c3c379290a17a35d4900ab493a3", func := "dowel/dowellaw19.OrderTells", spec := "orderTells", unfollowed := true, recurses := true, apart := false }
def OrderTellsSaid : Prop := orderTellsRow.holds Try.pinned (OpenSpec.ofChange orderTellsSpec)

/-- ITS FALSE NEIGHBOUR: 'it returns false'. Refute it at one input. -/
def orderTellsWrong : ChangeSpec := { name := "orderTells", fn := fun _ => fun
  | [d1, d2, d3] => { results := [.lit (.bool false)], args := [d1, d2, d3] }
  | _ => none }
def OrderTellsWrongFalsely : Prop := orderTellsRow.holds Try.pinned (OpenSpec.ofChange orderTellsWrong)

/-- 'dowellaw19.OrderStands': WHATEVER THE INPUT: true; the input reads as it did. -/
def orderStandsSpec : ChangeSpec := { name := "orderStands", fn := fun _ => fun
  | [d1, d2] => { results := [.lit (.bool true)], args := [d1, d2] }
  | _ => none }
def orderStandsRow : OpenClaim := { program := "ytnflalbiffamdaa", sum := "86c104ccfac98129e4cee540e0ae911c5ae89c3c379290a17a35d4900ab493a3", func := "dowel/dowellaw19.OrderStands", spec := "orderStands", unfollowed := true, recurses := true, apart := false }
def OrderStandsSaid : Prop := orderStandsRow.holds Try.pinned (OpenSpec.ofChange orderStandsSpec)

/-- ITS FALSE NEIGHBOUR: 'it returns false'. Refute it at one input. -/
def orderStandsWrong : ChangeSpec := { name := "orderStands", fn := fun _ => fun
  | [d1, d2] => { results := [.lit (.bool false)], args := [d1, d2] }
  | _ => none }
def OrderStandsWrongFalsely : Prop := orderStandsRow.holds Try.pinned (OpenSpec.ofChange orderStandsWrong)

/- THE SECOND FORM. 'bulk': how many values and letters a reading holds, each counted each time it is reached (what is shared counts as often as it is met; a slice's spare places count too). A statement '..UptoSaid' is the law's where the arguments, and the package variables that the reading takes, are together of bulk at most 1048576: NARROWER than '..Said'. Prove '..Said' where nothing that the law and all that it calls make is longer than what came in: it says more and counts as full. Else prove '..UptoSaid'. A law counts once. -/
mutual
def uptoBulk {H : Type} : DataW H → Nat
  | .lit (.string bytes) => bytes.length + 1
  | .lit _ => 1
  | .nil => 1
  | .ptr d => uptoBulk d + 1
  | .slice elems spare => uptoBulkAll elems + uptoBulkAll spare + 1
  | .agg parts => uptoBulkAll parts + 1
  | .iface _ d => uptoBulk d + 1
  | .map entries => uptoBulkEntries entries + 1
  | .held _ => 1
def uptoBulkAll {H : Type} : List (DataW H) → Nat
  | [] => 0
  | d :: r => uptoBulk d + uptoBulkAll r
def uptoBulkEntries {H : Type} : List (Lit × DataW H) → Nat
  | [] => 0
  | x :: r => uptoBulkEntry x + uptoBulkEntries r
def uptoBulkEntry {H : Type} : Lit × DataW H → Nat
  | (.string bytes, d) => bytes.length + uptoBulk d + 1
  | (_, d) => uptoBulk d + 1
 end
def uptoSmall : (H : Type) → List (DataW H) → Bool := fun _ ds => decide (uptoBulkAll ds ≤ 1048576)
def OpenSpec.upto (s : _root_.Go.ChangeSpec) : _root_.Go.OpenSpec := { _root_.Go.OpenSpec.ofChange s with cond := some uptoSmall }

/-- 'dowellaw15.PlanParts', WHERE WHAT IT READS IS OF BULK AT MOST 1048576: true; the input reads as it did. -/
def planPartsUptoRow : OpenClaim := { program := "ytnflalbiffamdaa", sum := "86c104ccfac98129e4cee540e0ae911c5ae89c3c379290a17a35d4900ab493a3", func := "dowel/dowellaw15.PlanParts", spec := "planParts", apart := false, narrowed := true }
def PlanPartsUptoSaid : Prop := planPartsUptoRow.holds Try.pinned (OpenSpec.upto planPartsSpec)

/-- 'dowellaw13.ChainWalks', WHERE WHAT IT READS IS OF BULK AT MOST 1048576: true; the input reads as it did. -/
def chainWalksUptoRow : OpenClaim := { program := "ytnflalbiffamdaa", sum := "86c104ccfac98129e4cee540e0ae911c5ae89c3c379290a17a35d4900ab493a3", func := "dowel/dowellaw13.ChainWalks", spec := "chainWalks", apart := false, narrowed := true }
def ChainWalksUptoSaid : Prop := chainWalksUptoRow.holds Try.pinned (OpenSpec.upto chainWalksSpec)

/-- 'dowellaw17.RelocLinks', WHERE WHAT IT READS IS OF BULK AT MOST 1048576: true; the input reads as it did. -/
def relocLinksUptoRow : OpenClaim := { program := "ytnflalbiffamdaa", sum := "86c104ccfac98129e4cee540e0ae911c5ae89c3c379290a17a35d4900ab493a3", func := "dowel/dowellaw17.RelocLinks", spec := "relocLinks", apart := false, narrowed := true }
def RelocLinksUptoSaid : Prop := relocLinksUptoRow.holds Try.pinned (OpenSpec.upto relocLinksSpec)

/-- 'dowellaw17.RelocGoes', WHERE WHAT IT READS IS OF BULK AT MOST 1048576: true; the input reads as it did. -/
def relocGoesUptoRow : OpenClaim := { program := "ytnflalbiffamdaa", sum := "86c104ccfac98129e4cee540e0ae911c5ae89c3c379290a17a35d4900ab493a3", func := "dowel/dowellaw17.RelocGoes", spec := "relocGoes", apart := false, narrowed := true }
def RelocGoesUptoSaid : Prop := relocGoesUptoRow.holds Try.pinned (OpenSpec.upto relocGoesSpec)

/-- 'dowellaw12.ObjPuts', WHERE WHAT IT READS IS OF BULK AT MOST 1048576: true; the input reads as it did. -/
def objPutsUptoRow : OpenClaim := { program := "ytnflalbiffamdaa", sum := "86c104ccfac98129e4cee540e0ae911c5ae89c3c379290a17a35d4900ab493a3", func := "dowel/dowellaw12.ObjPuts", spec := "objPuts", unfollowed := true, recurses := true, apart := false, narrowed := true }
def ObjPutsUptoSaid : Prop := objPutsUptoRow.holds Try.pinned (OpenSpec.upto objPutsSpec)

/-- 'dowellaw12.ObjGets', WHERE WHAT IT READS IS OF BULK AT MOST 1048576: true; the input reads as it did. -/
def objGetsUptoRow : OpenClaim := { program := "ytnflalbiffamdaa", sum := "86c104ccfac98129e4cee540e0ae911c5ae89c3c379290a17a35d4900ab493a3", func := "dowel/dowellaw12.ObjGets", spec := "objGets", unfollowed := true, recurses := true, apart := false, narrowed := true }
def ObjGetsUptoSaid : Prop := objGetsUptoRow.holds Try.pinned (OpenSpec.upto objGetsSpec)

/-- 'dowellaw12.ObjBack', WHERE WHAT IT READS IS OF BULK AT MOST 1048576: true; the input reads as it did. -/
def objBackUptoRow : OpenClaim := { program := "ytnflalbiffamdaa", sum := "86c104ccfac98129e4cee540e0ae911c5ae89c3c379290a17a35d4900ab493a3", func := "dowel/dowellaw12.ObjBack", spec := "objBack", unfollowed := true, recurses := true, apart := false, narrowed := true }
def ObjBackUptoSaid : Prop := objBackUptoRow.holds Try.pinned (OpenSpec.upto objBackSpec)

/-- 'dowellaw14.CheckTells', WHERE WHAT IT READS IS OF BULK AT MOST 1048576: true; the input reads as it did. -/
def checkTellsUptoRow : OpenClaim := { program := "ytnflalbiffamdaa", sum := "86c104ccfac98129e4cee540e0ae911c5ae89c3c379290a17a35d4900ab493a3", func := "dowel/dowellaw14.CheckTells", spec := "checkTells", apart := false, narrowed := true }
def CheckTellsUptoSaid : Prop := checkTellsUptoRow.holds Try.pinned (OpenSpec.upto checkTellsSpec)

/-- 'dowellaw14.CheckNames', WHERE WHAT IT READS IS OF BULK AT MOST 1048576: true; the input reads as it did. -/
def checkNamesUptoRow : OpenClaim := { program := "ytnflalbiffamdaa", sum := "86c104ccfac98129e4cee540e0ae911c5ae89c3c379290a17a35d4900ab493a3", func := "dowel/dowellaw14.CheckNames", spec := "checkNames", apart := false, narrowed := true }
def CheckNamesUptoSaid : Prop := checkNamesUptoRow.holds Try.pinned (OpenSpec.upto checkNamesSpec)

/-- 'dowellaw19.OrderTells', WHERE WHAT IT READS IS OF BULK AT MOST 1048576: true; the input reads as it did. -/
def orderTellsUptoRow : OpenClaim := { program := "ytnflalbiffamdaa", sum := "86c104ccfac98129e4cee540e0ae911c5ae89c3c379290a17a35d4900ab493a3", func := "dowel/dowellaw19.OrderTells", spec := "orderTells", unfollowed := true, recurses := true, apart := false, narrowed := true }
def OrderTellsUptoSaid : Prop := orderTellsUptoRow.holds Try.pinned (OpenSpec.upto orderTellsSpec)

/-- 'dowellaw19.OrderStands', WHERE WHAT IT READS IS OF BULK AT MOST 1048576: true; the input reads as it did. -/
def orderStandsUptoRow : OpenClaim := { program := "ytnflalbiffamdaa", sum := "86c104ccfac98129e4cee540e0ae911c5ae89c3c379290a17a35d4900ab493a3", func := "dowel/dowellaw19.OrderStands", spec := "orderStands", unfollowed := true, recurses := true, apart := false, narrowed := true }
def OrderStandsUptoSaid : Prop := orderStandsUptoRow.holds Try.pinned (OpenSpec.upto orderStandsSpec)

end Rows
end Go.Proofs.Ytnflalbiffamdaa
