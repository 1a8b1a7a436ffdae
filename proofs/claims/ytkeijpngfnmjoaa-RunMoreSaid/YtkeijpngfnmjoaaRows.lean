/-
  No cell of these rows narrows 'for every input' (looked for: loops, veiled, ifaces, maps, wideKeys, modest, calm, conditions, laid).
  DERIVED. THE GIVEN ROWS OF THIS SEAT. 8 by the template 'for every input the law returns true; each argument reads behind the call as it read before'; 0 by the template 'total and deterministic' (their statements: YtkeijpngfnmjoaaTotals.lean).
  GIVEN WITH THE SEED: the statements are not yours to turn. If you find one false, say at which input.
  Laid BY PROGRAM, IN A SANDBOX (cutbox-rows.mjs): the forced cells as the released guide's own fill.sh prints them over the translation 8780542ccc6fc403… (all of the seat's roots in one cut). By AI agents, Wed Nov 11 2026. No macro, syntax, notation, axiom, sorry.
-/
import Derived.Test.YtkeijpngfnmjoaaChecked
import GoSem.Claim
import GoSem.ClaimJoined
import GoSem.ClaimMapViews
import Derived.JoinedTies
import Derived.KernelRfl
namespace Go.Proofs.Ytkeijpngfnmjoaa
/- THE CELL 'sum', in the pinned program and in every row, IS THE sha256 OF THE DUMP (.gsa) THAT YtkeijpngfnmjoaaProg.lean LOADS. Nothing in Lean hashes anything: it is a label: what it is worth is what the hold of that sum in a sandbox is worth. -/
noncomputable def Try.pinned : Pinned := { name := "ytkeijpngfnmjoaa", sum := "8780542ccc6fc403ed0e412cc14f6e3e5675b3485b8fc5a76d7aed210c1d8b6d", checked := Try.checked }
namespace Rows
def none {H : Type} : Left H := { results := [], args := [] }

/-- 'dowellaw04.MemKeeps': WHATEVER THE INPUT: true; the input reads as it did. -/
def memKeepsSpec : ChangeSpec := { name := "memKeeps", fn := fun _ => fun
  | [d1, d2, d3] => { results := [.lit (.bool true)], args := [d1, d2, d3] }
  | _ => none }
def memKeepsRow : OpenClaim := { program := "ytkeijpngfnmjoaa", sum := "8780542ccc6fc403ed0e412cc14f6e3e5675b3485b8fc5a76d7aed210c1d8b6d", func := "dowel/dowellaw04.MemKeeps", spec := "memKeeps", apart := false }
def MemKeepsSaid : Prop := memKeepsRow.holds Try.pinned (OpenSpec.ofChange memKeepsSpec)

/-- ITS FALSE NEIGHBOUR: 'it returns false'. Refute it at one input. -/
def memKeepsWrong : ChangeSpec := { name := "memKeeps", fn := fun _ => fun
  | [d1, d2, d3] => { results := [.lit (.bool false)], args := [d1, d2, d3] }
  | _ => none }
def MemKeepsWrongFalsely : Prop := memKeepsRow.holds Try.pinned (OpenSpec.ofChange memKeepsWrong)

/-- 'dowellaw04.MemPlays': WHATEVER THE INPUT: true; the input reads as it did. -/
def memPlaysSpec : ChangeSpec := { name := "memPlays", fn := fun _ => fun
  | [d1, d2, d3, d4] => { results := [.lit (.bool true)], args := [d1, d2, d3, d4] }
  | _ => none }
def memPlaysRow : OpenClaim := { program := "ytkeijpngfnmjoaa", sum := "8780542ccc6fc403ed0e412cc14f6e3e5675b3485b8fc5a76d7aed210c1d8b6d", func := "dowel/dowellaw04.MemPlays", spec := "memPlays", apart := false }
def MemPlaysSaid : Prop := memPlaysRow.holds Try.pinned (OpenSpec.ofChange memPlaysSpec)

/-- ITS FALSE NEIGHBOUR: 'it returns false'. Refute it at one input. -/
def memPlaysWrong : ChangeSpec := { name := "memPlays", fn := fun _ => fun
  | [d1, d2, d3, d4] => { results := [.lit (.bool false)], args := [d1, d2, d3, d4] }
  | _ => none }
def MemPlaysWrongFalsely : Prop := memPlaysRow.holds Try.pinned (OpenSpec.ofChange memPlaysWrong)

/-- 'dowellaw05.HeapPlays': WHATEVER THE INPUT: true; the input reads as it did. -/
def heapPlaysSpec : ChangeSpec := { name := "heapPlays", fn := fun _ => fun
  | [d1, d2, d3] => { results := [.lit (.bool true)], args := [d1, d2, d3] }
  | _ => none }
def heapPlaysRow : OpenClaim := { program := "ytkeijpngfnmjoaa", sum := "8780542ccc6fc403ed0e412cc14f6e3e5675b3485b8fc5a76d7aed210c1d8b6d", func := "dowel/dowellaw05.HeapPlays", spec := "heapPlays", inPlace := ["slices.overlaps[dowel/heap.Hole]"], unfollowed := true, recurses := true, apart := false }
def HeapPlaysSaid : Prop := heapPlaysRow.holds Try.pinned (OpenSpec.ofChange heapPlaysSpec)

/-- ITS FALSE NEIGHBOUR: 'it returns false'. Refute it at one input. -/
def heapPlaysWrong : ChangeSpec := { name := "heapPlays", fn := fun _ => fun
  | [d1, d2, d3] => { results := [.lit (.bool false)], args := [d1, d2, d3] }
  | _ => none }
def HeapPlaysWrongFalsely : Prop := heapPlaysRow.holds Try.pinned (OpenSpec.ofChange heapPlaysWrong)

/-- 'dowellaw05.HeapBack': WHATEVER THE INPUT: true; the input reads as it did. -/
def heapBackSpec : ChangeSpec := { name := "heapBack", fn := fun _ => fun
  | [d1, d2, d3] => { results := [.lit (.bool true)], args := [d1, d2, d3] }
  | _ => none }
def heapBackRow : OpenClaim := { program := "ytkeijpngfnmjoaa", sum := "8780542ccc6fc403ed0e412cc14f6e3e5675b3485b8fc5a76d7aed210c1d8b6d", func := "dowel/dowellaw05.HeapBack", spec := "heapBack", inPlace := ["slices.overlaps[dowel/heap.Hole]"], unfollowed := true, recurses := true, apart := false }
def HeapBackSaid : Prop := heapBackRow.holds Try.pinned (OpenSpec.ofChange heapBackSpec)

/-- ITS FALSE NEIGHBOUR: 'it returns false'. Refute it at one input. -/
def heapBackWrong : ChangeSpec := { name := "heapBack", fn := fun _ => fun
  | [d1, d2, d3] => { results := [.lit (.bool false)], args := [d1, d2, d3] }
  | _ => none }
def HeapBackWrongFalsely : Prop := heapBackRow.holds Try.pinned (OpenSpec.ofChange heapBackWrong)

/-- 'dowellaw06.ZonePlays': WHATEVER THE INPUT: true; the input reads as it did. -/
def zonePlaysSpec : ChangeSpec := { name := "zonePlays", fn := fun _ => fun
  | [d1, d2, d3, d4, d5] => { results := [.lit (.bool true)], args := [d1, d2, d3, d4, d5] }
  | _ => none }
def zonePlaysRow : OpenClaim := { program := "ytkeijpngfnmjoaa", sum := "8780542ccc6fc403ed0e412cc14f6e3e5675b3485b8fc5a76d7aed210c1d8b6d", func := "dowel/dowellaw06.ZonePlays", spec := "zonePlays", unfollowed := true, recurses := true, apart := false }
def ZonePlaysSaid : Prop := zonePlaysRow.holds Try.pinned (OpenSpec.ofChange zonePlaysSpec)

/-- ITS FALSE NEIGHBOUR: 'it returns false'. Refute it at one input. -/
def zonePlaysWrong : ChangeSpec := { name := "zonePlays", fn := fun _ => fun
  | [d1, d2, d3, d4, d5] => { results := [.lit (.bool false)], args := [d1, d2, d3, d4, d5] }
  | _ => none }
def ZonePlaysWrongFalsely : Prop := zonePlaysRow.holds Try.pinned (OpenSpec.ofChange zonePlaysWrong)

/-- 'dowellaw06.ZoneApart': WHATEVER THE INPUT: true; the input reads as it did. -/
def zoneApartSpec : ChangeSpec := { name := "zoneApart", fn := fun _ => fun
  | [d1, d2, d3] => { results := [.lit (.bool true)], args := [d1, d2, d3] }
  | _ => none }
def zoneApartRow : OpenClaim := { program := "ytkeijpngfnmjoaa", sum := "8780542ccc6fc403ed0e412cc14f6e3e5675b3485b8fc5a76d7aed210c1d8b6d", func := "dowel/dowellaw06.ZoneApart", spec := "zoneApart", unfollowed := true, recurses := true, apart := false }
def ZoneApartSaid : Prop := zoneApartRow.holds Try.pinned (OpenSpec.ofChange zoneApartSpec)

/-- ITS FALSE NEIGHBOUR: 'it returns false'. Refute it at one input. -/
def zoneApartWrong : ChangeSpec := { name := "zoneApart", fn := fun _ => fun
  | [d1, d2, d3] => { results := [.lit (.bool false)], args := [d1, d2, d3] }
  | _ => none }
def ZoneApartWrongFalsely : Prop := zoneApartRow.holds Try.pinned (OpenSpec.ofChange zoneApartWrong)

/-- 'dowellaw07.CpuGuards': WHATEVER THE INPUT: true; the input reads as it did. -/
def cpuGuardsSpec : ChangeSpec := { name := "cpuGuards", fn := fun _ => fun
  | [d1, d2, d3, d4] => { results := [.lit (.bool true)], args := [d1, d2, d3, d4] }
  | _ => none }
def cpuGuardsRow : OpenClaim := { program := "ytkeijpngfnmjoaa", sum := "8780542ccc6fc403ed0e412cc14f6e3e5675b3485b8fc5a76d7aed210c1d8b6d", func := "dowel/dowellaw07.CpuGuards", spec := "cpuGuards", unfollowed := true, recurses := true, apart := false }
def CpuGuardsSaid : Prop := cpuGuardsRow.holds Try.pinned (OpenSpec.ofChange cpuGuardsSpec)

/-- ITS FALSE NEIGHBOUR: 'it returns false'. Refute it at one input. -/
def cpuGuardsWrong : ChangeSpec := { name := "cpuGuards", fn := fun _ => fun
  | [d1, d2, d3, d4] => { results := [.lit (.bool false)], args := [d1, d2, d3, d4] }
  | _ => none }
def CpuGuardsWrongFalsely : Prop := cpuGuardsRow.holds Try.pinned (OpenSpec.ofChange cpuGuardsWrong)

/-- 'dowellaw08.RunMore': WHATEVER THE INPUT: true; the input reads as it did. -/
def runMoreSpec : ChangeSpec := { name := "runMore", fn := fun _ => fun
  | [d1, d2, d3, d4] => { results := [.lit (.bool true)], args := [d1, d2, d3, d4] }
  | _ => none }
def runMoreRow : OpenClaim := { program := "ytkeijpngfnmjoaa", sum := "8780542ccc6fc403ed0e412cc14f6e3e5675b3485b8fc5a76d7aed210c1d8b6d", func := "dowel/dowellaw08.RunMore", spec := "runMore", unfollowed := true, recurses := true, apart := false }
def RunMoreSaid : Prop := runMoreRow.holds Try.pinned (OpenSpec.ofChange runMoreSpec)

/-- ITS FALSE NEIGHBOUR: 'it returns false'. Refute it at one input. -/
def runMoreWrong : ChangeSpec := { name := "runMore", fn := fun _ => fun
  | [d1, d2, d3, d4] => { results := [.lit (.bool false)], args := [d1, d2, d3, d4] }
  | _ => none }
def RunMoreWrongFalsely : Prop := runMoreRow.holds Try.pinned (OpenSpec.ofChange runMoreWrong)

/- THE SECOND FORM. 'bulk': how many values and letters a reading holds, each counted each time it is reached (what is shared counts as often as it is met; a slice's spare places count too). A statement '..UptoSaid' is the law's where the arguments, and the package variables that the reading takes, are together of bulk at most 1048576: NARROWER than '..Said'. Prove '..Said' where nothing that the law and all that it calls make is longer than what came in: it says more and counts as full. Else prove '..UptoSaid'. A law counts once. -/
mutual
def uptoBulk {H : Type} : DataW H → Nat
  | .lit (.string bytes) => bytes.length + 1
  | .lit _ => 1
  | .nil => 1
  | .ptr d => uptoBulk d + 1
  | .slice elems spare => uptoBulkAll elems + uptoBulkAll spare + 1
  | .agg parts => uptoBulkAll parts + 1
  | .iface _ d => uptoBulk d + 1
  | .map entries => uptoBulkEntries entries + 1
  | .held _ => 1
def uptoBulkAll {H : Type} : List (DataW H) → Nat
  | [] => 0
  | d :: r => uptoBulk d + uptoBulkAll r
def uptoBulkEntries {H : Type} : List (Lit × DataW H) → Nat
  | [] => 0
  | x :: r => uptoBulkEntry x + uptoBulkEntries r
def uptoBulkEntry {H : Type} : Lit × DataW H → Nat
  | (.string bytes, d) => bytes.length + uptoBulk d + 1
  | (_, d) => uptoBulk d + 1
 end
def uptoSmall : (H : Type) → List (DataW H) → Bool := fun _ ds => decide (uptoBulkAll ds ≤ 1048576)
def OpenSpec.upto (s : _root_.Go.ChangeSpec) : _root_.Go.OpenSpec := { _root_.Go.OpenSpec.ofChange s with cond := some uptoSmall }

/-- 'dowellaw04.MemKeeps', WHERE WHAT IT READS IS OF BULK AT MOST 1048576: true; the input reads as it did. -/
def memKeepsUptoRow : OpenClaim := { program := "ytkeijpngfnmjoaa", sum := "8780542ccc6fc403ed0e412cc14f6e3e5675b3485b8fc5a76d7aed210c1d8b6d", func := "dowel/dowellaw04.MemKeeps", spec := "memKeeps", apart := false, narrowed := true }
def MemKeepsUptoSaid : Prop := memKeepsUptoRow.holds Try.pinned (OpenSpec.upto memKeepsSpec)

/-- 'dowellaw04.MemPlays', WHERE WHAT IT READS IS OF BULK AT MOST 1048576: true; the input reads as it did. -/
def memPlaysUptoRow : OpenClaim := { program := "ytkeijpngfnmjoaa", sum := "8780542ccc6fc403ed0e412cc14f6e3e5675b3485b8fc5a76d7aed210c1d8b6d", func := "dowel/dowellaw04.MemPlays", spec := "memPlays", apart := false, narrowed := true }
def MemPlaysUptoSaid : Prop := memPlaysUptoRow.holds Try.pinned (OpenSpec.upto memPlaysSpec)

/-- 'dowellaw05.HeapPlays', WHERE WHAT IT READS IS OF BULK AT MOST 1048576: true; the input reads as it did. -/
def heapPlaysUptoRow : OpenClaim := { program := "ytkeijpngfnmjoaa", sum := "8780542ccc6fc403ed0e412cc14f6e3e5675b3485b8fc5a76d7aed210c1d8b6d", func := "dowel/dowellaw05.HeapPlays", spec := "heapPlays", inPlace := ["slices.overlaps[dowel/heap.Hole]"], unfollowed := true, recurses := true, apart := false, narrowed := true }
def HeapPlaysUptoSaid : Prop := heapPlaysUptoRow.holds Try.pinned (OpenSpec.upto heapPlaysSpec)

/-- 'dowellaw05.HeapBack', WHERE WHAT IT READS IS OF BULK AT MOST 1048576: true; the input reads as it did. -/
def heapBackUptoRow : OpenClaim := { program := "ytkeijpngfnmjoaa", sum := "8780542ccc6fc403ed0e412cc14f6e3e5675b3485b8fc5a76d7aed210c1d8b6d", func := "dowel/dowellaw05.HeapBack", spec := "heapBack", inPlace := ["slices.overlaps[dowel/heap.Hole]"], unfollowed := true, recurses := true, apart := false, narrowed := true }
def HeapBackUptoSaid : Prop := heapBackUptoRow.holds Try.pinned (OpenSpec.upto heapBackSpec)

/-- 'dowellaw06.ZonePlays', WHERE WHAT IT READS IS OF BULK AT MOST 1048576: true; the input reads as it did. -/
def zonePlaysUptoRow : OpenClaim := { program := "ytkeijpngfnmjoaa", sum := "8780542ccc6fc403ed0e412cc14f6e3e5675b3485b8fc5a76d7aed210c1d8b6d", func := "dowel/dowellaw06.ZonePlays", spec := "zonePlays", unfollowed := true, recurses := true, apart := false, narrowed := true }
def ZonePlaysUptoSaid : Prop := zonePlaysUptoRow.holds Try.pinned (OpenSpec.upto zonePlaysSpec)

/-- 'dowellaw06.ZoneApart', WHERE WHAT IT READS IS OF BULK AT MOST 1048576: true; the input reads as it did. -/
def zoneApartUptoRow : OpenClaim := { program := "ytkeijpngfnmjoaa", sum := "8780542ccc6fc403ed0e412cc14f6e3e5675b3485b8fc5a76d7aed210c1d8b6d", func := "dowel/dowellaw06.ZoneApart", spec := "zoneApart", unfollowed := true, recurses := true, apart := false, narrowed := true }
def ZoneApartUptoSaid : Prop := zoneApartUptoRow.holds Try.pinned (OpenSpec.upto zoneApartSpec)

/-- 'dowellaw07.CpuGuards', WHERE WHAT IT READS IS OF BULK AT MOST 1048576: true; the input reads as it did. -/
def cpuGuardsUptoRow : OpenClaim := { program := "ytkeijpngfnmjoaa", sum := "8780542ccc6fc403ed0e412cc14f6e3e5675b3485b8fc5a76d7aed210c1d8b6d", func := "dowel/dowellaw07.CpuGuards", spec := "cpuGuards", unfollowed := true, recurses := true, apart := false, narrowed := true }
def CpuGuardsUptoSaid : Prop := cpuGuardsUptoRow.holds Try.pinned (OpenSpec.upto cpuGuardsSpec)

/-- 'dowellaw08.RunMore', WHERE WHAT IT READS IS OF BULK AT MOST 1048576: true; the input reads as it did. -/
def runMoreUptoRow : OpenClaim := { program := "ytkeijpngfnmjoaa", sum := "8780542ccc6fc403ed0e412cc14f6e3e5675b3485b8fc5a76d7aed210c1d8b6d", func := "dowel/dowellaw08.RunMore", spec := "runMore", unfollowed := true, recurses := true, apart := false, narrowed := true }
def RunMoreUptoSaid : Prop := runMoreUptoRow.holds Try.pinned (OpenSpec.upto runMoreSpec)

end Rows
end Go.Proofs.Ytkeijpngfnmjoaa
