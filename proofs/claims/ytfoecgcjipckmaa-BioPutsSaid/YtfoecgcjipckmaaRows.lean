/-
  No cell of these rows narrows 'for every input' (looked for: loops, veiled, ifaces, maps, wideKeys, modest, calm, conditions, laid).
  DERIVED. THE GIVEN ROWS OF THIS SEAT. 12 by the template 'for every input the law returns true; each argument reads behind the call as it read before'; 0 by the template 'total and deterministic' (their statements: YtfoecgcjipckmaaTotals.lean).
  GIVEN WITH THE SEED: the statements are not yours to turn. If you find one false, say at which input.
  Laid BY PROGRAM, IN A SANDBOX (cutbox-rows.mjs): the forced cells as the released guide's own fill.sh prints them over the translation 0dd20303b11993e5… (all of the seat's roots in one cut). By AI agents, Wed Nov 11 2026. No macro, syntax, notation, axiom, sorry.
-/
import Derived.Test.YtfoecgcjipckmaaChecked
import GoSem.Claim
import GoSem.ClaimJoined
import GoSem.ClaimMapViews
import Derived.JoinedTies
import Derived.KernelRfl
namespace Go.Proofs.Ytfoecgcjipckmaa
/- THE CELL 'sum', in the pinned program and in every row, IS THE sha256 OF THE DUMP (.gsa) THAT YtfoecgcjipckmaaProg.lean LOADS. Nothing in Lean hashes anything: it is a label: what it is worth is what the hold of that sum in a sandbox is worth. -/
noncomputable def Try.pinned : Pinned := { name := "ytfoecgcjipckmaa", sum := "0dd20303b11993e5b721e672a82de5c2caf000476725672b2b5b95676f34f2fa", checked := Try.checked }
namespace Rows
def none {H : Type} : Left H := { results := [], args := [] }

/-- 'dowellaw09.NameTells': WHATEVER THE INPUT: true; the input reads as it did. -/
def nameTellsSpec : ChangeSpec := { name := "nameTells", fn := fun _ => fun
  | [d] => { results := [.lit (.bool true)], args := [d] }
  | _ => none }
def nameTellsRow : OpenClaim := { program := "ytfoecgcjipckmaa", sum := "0dd20303b11993e5b721e672a82de5c2caf000476725672b2b5b95676f34f2fa", func := "dowel/dowellaw09.NameTells", spec := "nameTells", apart := false }
def NameTellsSaid : Prop := nameTellsRow.holds Try.pinned (OpenSpec.ofChange nameTellsSpec)

/-- ITS FALSE NEIGHBOUR: 'it returns false'. Refute it at one input. -/
def nameTellsWrong : ChangeSpec := { name := "nameTells", fn := fun _ => fun
  | [d] => { results := [.lit (.bool false)], args := [d] }
  | _ => none }
def NameTellsWrongFalsely : Prop := nameTellsRow.holds Try.pinned (OpenSpec.ofChange nameTellsWrong)

/-- 'dowellaw09.NameGrows': WHATEVER THE INPUT: true; the input reads as it did. -/
def nameGrowsSpec : ChangeSpec := { name := "nameGrows", fn := fun _ => fun
  | [d1, d2] => { results := [.lit (.bool true)], args := [d1, d2] }
  | _ => none }
def nameGrowsRow : OpenClaim := { program := "ytfoecgcjipckmaa", sum := "0dd20303b11993e5b721e672a82de5c2caf000476725672b2b5b95676f34f2fa", func := "dowel/dowellaw09.NameGrows", spec := "nameGrows", apart := false }
def NameGrowsSaid : Prop := nameGrowsRow.holds Try.pinned (OpenSpec.ofChange nameGrowsSpec)

/-- ITS FALSE NEIGHBOUR: 'it returns false'. Refute it at one input. -/
def nameGrowsWrong : ChangeSpec := { name := "nameGrows", fn := fun _ => fun
  | [d1, d2] => { results := [.lit (.bool false)], args := [d1, d2] }
  | _ => none }
def NameGrowsWrongFalsely : Prop := nameGrowsRow.holds Try.pinned (OpenSpec.ofChange nameGrowsWrong)

/-- 'dowellaw01.FieldBits': WHATEVER THE INPUT: true; the input reads as it did. -/
def fieldBitsSpec : ChangeSpec := { name := "fieldBits", fn := fun _ => fun
  | [d1, d2, d3, d4] => { results := [.lit (.bool true)], args := [d1, d2, d3, d4] }
  | _ => none }
def fieldBitsRow : OpenClaim := { program := "ytfoecgcjipckmaa", sum := "0dd20303b11993e5b721e672a82de5c2caf000476725672b2b5b95676f34f2fa", func := "dowel/dowellaw01.FieldBits", spec := "fieldBits", apart := false }
def FieldBitsSaid : Prop := fieldBitsRow.holds Try.pinned (OpenSpec.ofChange fieldBitsSpec)

/-- ITS FALSE NEIGHBOUR: 'it returns false'. Refute it at one input. -/
def fieldBitsWrong : ChangeSpec := { name := "fieldBits", fn := fun _ => fun
  | [d1, d2, d3, d4] => { results := [.lit (.bool false)], args := [d1, d2, d3, d4] }
  | _ => none }
def FieldBitsWrongFalsely : Prop := fieldBitsRow.holds Try.pinned (OpenSpec.ofChange fieldBitsWrong)

/-- 'dowellaw01.FieldWords': WHATEVER THE INPUT: true; the input reads as it did. -/
def fieldWordsSpec : ChangeSpec := { name := "fieldWords", fn := fun _ => fun
  | [d1, d2] => { results := [.lit (.bool true)], args := [d1, d2] }
  | _ => none }
def fieldWordsRow : OpenClaim := { program := "ytfoecgcjipckmaa", sum := "0dd20303b11993e5b721e672a82de5c2caf000476725672b2b5b95676f34f2fa", func := "dowel/dowellaw01.FieldWords", spec := "fieldWords", apart := false }
def FieldWordsSaid : Prop := fieldWordsRow.holds Try.pinned (OpenSpec.ofChange fieldWordsSpec)

/-- ITS FALSE NEIGHBOUR: 'it returns false'. Refute it at one input. -/
def fieldWordsWrong : ChangeSpec := { name := "fieldWords", fn := fun _ => fun
  | [d1, d2] => { results := [.lit (.bool false)], args := [d1, d2] }
  | _ => none }
def FieldWordsWrongFalsely : Prop := fieldWordsRow.holds Try.pinned (OpenSpec.ofChange fieldWordsWrong)

/-- 'dowellaw01.FieldBack': WHATEVER THE INPUT: true; the input reads as it did. -/
def fieldBackSpec : ChangeSpec := { name := "fieldBack", fn := fun _ => fun
  | [d1, d2, d3, d4, d5] => { results := [.lit (.bool true)], args := [d1, d2, d3, d4, d5] }
  | _ => none }
def fieldBackRow : OpenClaim := { program := "ytfoecgcjipckmaa", sum := "0dd20303b11993e5b721e672a82de5c2caf000476725672b2b5b95676f34f2fa", func := "dowel/dowellaw01.FieldBack", spec := "fieldBack", apart := false }
def FieldBackSaid : Prop := fieldBackRow.holds Try.pinned (OpenSpec.ofChange fieldBackSpec)

/-- ITS FALSE NEIGHBOUR: 'it returns false'. Refute it at one input. -/
def fieldBackWrong : ChangeSpec := { name := "fieldBack", fn := fun _ => fun
  | [d1, d2, d3, d4, d5] => { results := [.lit (.bool false)], args := [d1, d2, d3, d4, d5] }
  | _ => none }
def FieldBackWrongFalsely : Prop := fieldBackRow.holds Try.pinned (OpenSpec.ofChange fieldBackWrong)

/-- 'dowellaw11.BioReads': WHATEVER THE INPUT: true; the input reads as it did. -/
def bioReadsSpec : ChangeSpec := { name := "bioReads", fn := fun _ => fun
  | [d1, d2] => { results := [.lit (.bool true)], args := [d1, d2] }
  | _ => none }
def bioReadsRow : OpenClaim := { program := "ytfoecgcjipckmaa", sum := "0dd20303b11993e5b721e672a82de5c2caf000476725672b2b5b95676f34f2fa", func := "dowel/dowellaw11.BioReads", spec := "bioReads", apart := false }
def BioReadsSaid : Prop := bioReadsRow.holds Try.pinned (OpenSpec.ofChange bioReadsSpec)

/-- ITS FALSE NEIGHBOUR: 'it returns false'. Refute it at one input. -/
def bioReadsWrong : ChangeSpec := { name := "bioReads", fn := fun _ => fun
  | [d1, d2] => { results := [.lit (.bool false)], args := [d1, d2] }
  | _ => none }
def BioReadsWrongFalsely : Prop := bioReadsRow.holds Try.pinned (OpenSpec.ofChange bioReadsWrong)

/-- 'dowellaw11.BioPuts': WHATEVER THE INPUT: true; the input reads as it did. -/
def bioPutsSpec : ChangeSpec := { name := "bioPuts", fn := fun _ => fun
  | [d1, d2, d3, d4] => { results := [.lit (.bool true)], args := [d1, d2, d3, d4] }
  | _ => none }
def bioPutsRow : OpenClaim := { program := "ytfoecgcjipckmaa", sum := "0dd20303b11993e5b721e672a82de5c2caf000476725672b2b5b95676f34f2fa", func := "dowel/dowellaw11.BioPuts", spec := "bioPuts", apart := false }
def BioPutsSaid : Prop := bioPutsRow.holds Try.pinned (OpenSpec.ofChange bioPutsSpec)

/-- ITS FALSE NEIGHBOUR: 'it returns false'. Refute it at one input. -/
def bioPutsWrong : ChangeSpec := { name := "bioPuts", fn := fun _ => fun
  | [d1, d2, d3, d4] => { results := [.lit (.bool false)], args := [d1, d2, d3, d4] }
  | _ => none }
def BioPutsWrongFalsely : Prop := bioPutsRow.holds Try.pinned (OpenSpec.ofChange bioPutsWrong)

/-- 'dowellaw03.AluBack': WHATEVER THE INPUT: true; the input reads as it did. -/
def aluBackSpec : ChangeSpec := { name := "aluBack", fn := fun _ => fun
  | [d1, d2] => { results := [.lit (.bool true)], args := [d1, d2] }
  | _ => none }
def aluBackRow : OpenClaim := { program := "ytfoecgcjipckmaa", sum := "0dd20303b11993e5b721e672a82de5c2caf000476725672b2b5b95676f34f2fa", func := "dowel/dowellaw03.AluBack", spec := "aluBack", apart := false }
def AluBackSaid : Prop := aluBackRow.holds Try.pinned (OpenSpec.ofChange aluBackSpec)

/-- ITS FALSE NEIGHBOUR: 'it returns false'. Refute it at one input. -/
def aluBackWrong : ChangeSpec := { name := "aluBack", fn := fun _ => fun
  | [d1, d2] => { results := [.lit (.bool false)], args := [d1, d2] }
  | _ => none }
def AluBackWrongFalsely : Prop := aluBackRow.holds Try.pinned (OpenSpec.ofChange aluBackWrong)

/-- 'dowellaw16.DescTells': WHATEVER THE INPUT: true; the input reads as it did. -/
def descTellsSpec : ChangeSpec := { name := "descTells", fn := fun _ => fun
  | [d1, d2, d3, d4] => { results := [.lit (.bool true)], args := [d1, d2, d3, d4] }
  | _ => none }
def descTellsRow : OpenClaim := { program := "ytfoecgcjipckmaa", sum := "0dd20303b11993e5b721e672a82de5c2caf000476725672b2b5b95676f34f2fa", func := "dowel/dowellaw16.DescTells", spec := "descTells", apart := false }
def DescTellsSaid : Prop := descTellsRow.holds Try.pinned (OpenSpec.ofChange descTellsSpec)

/-- ITS FALSE NEIGHBOUR: 'it returns false'. Refute it at one input. -/
def descTellsWrong : ChangeSpec := { name := "descTells", fn := fun _ => fun
  | [d1, d2, d3, d4] => { results := [.lit (.bool false)], args := [d1, d2, d3, d4] }
  | _ => none }
def DescTellsWrongFalsely : Prop := descTellsRow.holds Try.pinned (OpenSpec.ofChange descTellsWrong)

/-- 'dowellaw16.DescExtends': WHATEVER THE INPUT: true; the input reads as it did. -/
def descExtendsSpec : ChangeSpec := { name := "descExtends", fn := fun _ => fun
  | [d1, d2, d3, d4] => { results := [.lit (.bool true)], args := [d1, d2, d3, d4] }
  | _ => none }
def descExtendsRow : OpenClaim := { program := "ytfoecgcjipckmaa", sum := "0dd20303b11993e5b721e672a82de5c2caf000476725672b2b5b95676f34f2fa", func := "dowel/dowellaw16.DescExtends", spec := "descExtends", apart := false }
def DescExtendsSaid : Prop := descExtendsRow.holds Try.pinned (OpenSpec.ofChange descExtendsSpec)

/-- ITS FALSE NEIGHBOUR: 'it returns false'. Refute it at one input. -/
def descExtendsWrong : ChangeSpec := { name := "descExtends", fn := fun _ => fun
  | [d1, d2, d3, d4] => { results := [.lit (.bool false)], args := [d1, d2, d3, d4] }
  | _ => none }
def DescExtendsWrongFalsely : Prop := descExtendsRow.holds Try.pinned (OpenSpec.ofChange descExtendsWrong)

/-- 'dowellaw02.InsTells': WHATEVER THE INPUT: true; the input reads as it did. -/
def insTellsSpec : ChangeSpec := { name := "insTells", fn := fun _ => fun
  | [d1, d2] => { results := [.lit (.bool true)], args := [d1, d2] }
  | _ => none }
def insTellsRow : OpenClaim := { program := "ytfoecgcjipckmaa", sum := "0dd20303b11993e5b721e672a82de5c2caf000476725672b2b5b95676f34f2fa", func := "dowel/dowellaw02.InsTells", spec := "insTells", apart := false }
def InsTellsSaid : Prop := insTellsRow.holds Try.pinned (OpenSpec.ofChange insTellsSpec)

/-- ITS FALSE NEIGHBOUR: 'it returns false'. Refute it at one input. -/
def insTellsWrong : ChangeSpec := { name := "insTells", fn := fun _ => fun
  | [d1, d2] => { results := [.lit (.bool false)], args := [d1, d2] }
  | _ => none }
def InsTellsWrongFalsely : Prop := insTellsRow.holds Try.pinned (OpenSpec.ofChange insTellsWrong)

/-- 'dowellaw02.InsBack': WHATEVER THE INPUT: true; the input reads as it did. -/
def insBackSpec : ChangeSpec := { name := "insBack", fn := fun _ => fun
  | [d1, d2] => { results := [.lit (.bool true)], args := [d1, d2] }
  | _ => none }
def insBackRow : OpenClaim := { program := "ytfoecgcjipckmaa", sum := "0dd20303b11993e5b721e672a82de5c2caf000476725672b2b5b95676f34f2fa", func := "dowel/dowellaw02.InsBack", spec := "insBack", apart := false }
def InsBackSaid : Prop := insBackRow.holds Try.pinned (OpenSpec.ofChange insBackSpec)

/-- ITS FALSE NEIGHBOUR: 'it returns false'. Refute it at one input. -/
def insBackWrong : ChangeSpec := { name := "insBack", fn := fun _ => fun
  | [d1, d2] => { results := [.lit (.bool false)], args := [d1, d2] }
  | _ => none }
def InsBackWrongFalsely : Prop := insBackRow.holds Try.pinned (OpenSpec.ofChange insBackWrong)

/- THE SECOND FORM. 'bulk': how many values and letters a reading holds, each counted each time it is reached (what is shared counts as often as it is met; a slice's spare places count too). A statement '..UptoSaid' is the law's where the arguments, and the package variables that the reading takes, are together of bulk at most 1048576: NARROWER than '..Said'. Prove '..Said' where nothing that the law and all that it calls make is longer than what came in: it says more and counts as full. Else prove '..UptoSaid'. A law counts once. -/
mutual
def uptoBulk {H : Type} : DataW H → Nat
  | .lit (.string bytes) => bytes.length + 1
  | .lit _ => 1
  | .nil => 1
  | .ptr d => uptoBulk d + 1
  | .slice elems spare => uptoBulkAll elems + uptoBulkAll spare + 1
  | .agg parts => uptoBulkAll parts + 1
  | .iface _ d => uptoBulk d + 1
  | .map entries => uptoBulkEntries entries + 1
  | .held _ => 1
def uptoBulkAll {H : Type} : List (DataW H) → Nat
  | [] => 0
  | d :: r => uptoBulk d + uptoBulkAll r
def uptoBulkEntries {H : Type} : List (Lit × DataW H) → Nat
  | [] => 0
  | x :: r => uptoBulkEntry x + uptoBulkEntries r
def uptoBulkEntry {H : Type} : Lit × DataW H → Nat
  | (.string bytes, d) => bytes.length + uptoBulk d + 1
  | (_, d) => uptoBulk d + 1
 end
def uptoSmall : (H : Type) → List (DataW H) → Bool := fun _ ds => decide (uptoBulkAll ds ≤ 1048576)
def OpenSpec.upto (s : _root_.Go.ChangeSpec) : _root_.Go.OpenSpec := { _root_.Go.OpenSpec.ofChange s with cond := some uptoSmall }

/-- 'dowellaw09.NameTells', WHERE WHAT IT READS IS OF BULK AT MOST 1048576: true; the input reads as it did. -/
def nameTellsUptoRow : OpenClaim := { program := "ytfoecgcjipckmaa", sum := "0dd20303b11993e5b721e672a82de5c2caf000476725672b2b5b95676f34f2fa", func := "dowel/dowellaw09.NameTells", spec := "nameTells", apart := false, narrowed := true }
def NameTellsUptoSaid : Prop := nameTellsUptoRow.holds Try.pinned (OpenSpec.upto nameTellsSpec)

/-- 'dowellaw09.NameGrows', WHERE WHAT IT READS IS OF BULK AT MOST 1048576: true; the input reads as it did. -/
def nameGrowsUptoRow : OpenClaim := { program := "ytfoecgcjipckmaa", sum := "0dd20303b11993e5b721e672a82de5c2caf000476725672b2b5b95676f34f2fa", func := "dowel/dowellaw09.NameGrows", spec := "nameGrows", apart := false, narrowed := true }
def NameGrowsUptoSaid : Prop := nameGrowsUptoRow.holds Try.pinned (OpenSpec.upto nameGrowsSpec)

/-- 'dowellaw01.FieldBits', WHERE WHAT IT READS IS OF BULK AT MOST 1048576: true; the input reads as it did. -/
def fieldBitsUptoRow : OpenClaim := { program := "ytfoecgcjipckmaa", sum := "0dd20303b11993e5b721e672a82de5c2caf000476725672b2b5b95676f34f2fa", func := "dowel/dowellaw01.FieldBits", spec := "fieldBits", apart := false, narrowed := true }
def FieldBitsUptoSaid : Prop := fieldBitsUptoRow.holds Try.pinned (OpenSpec.upto fieldBitsSpec)

/-- 'dowellaw01.FieldWords', WHERE WHAT IT READS IS OF BULK AT MOST 1048576: true; the input reads as it did. -/
def fieldWordsUptoRow : OpenClaim := { program := "ytfoecgcjipckmaa", sum := "0dd20303b11993e5b721e672a82de5c2caf000476725672b2b5b95676f34f2fa", func := "dowel/dowellaw01.FieldWords", spec := "fieldWords", apart := false, narrowed := true }
def FieldWordsUptoSaid : Prop := fieldWordsUptoRow.holds Try.pinned (OpenSpec.upto fieldWordsSpec)

/-- 'dowellaw01.FieldBack', WHERE WHAT IT READS IS OF BULK AT MOST 1048576: true; the input reads as it did. -/
def fieldBackUptoRow : OpenClaim := { program := "ytfoecgcjipckmaa", sum := "0dd20303b11993e5b721e672a82de5c2caf000476725672b2b5b95676f34f2fa", func := "dowel/dowellaw01.FieldBack", spec := "fieldBack", apart := false, narrowed := true }
def FieldBackUptoSaid : Prop := fieldBackUptoRow.holds Try.pinned (OpenSpec.upto fieldBackSpec)

/-- 'dowellaw11.BioReads', WHERE WHAT IT READS IS OF BULK AT MOST 1048576: true; the input reads as it did. -/
def bioReadsUptoRow : OpenClaim := { program := "ytfoecgcjipckmaa", sum := "0dd20303b11993e5b721e672a82de5c2caf000476725672b2b5b95676f34f2fa", func := "dowel/dowellaw11.BioReads", spec := "bioReads", apart := false, narrowed := true }
def BioReadsUptoSaid : Prop := bioReadsUptoRow.holds Try.pinned (OpenSpec.upto bioReadsSpec)

/-- 'dowellaw11.BioPuts', WHERE WHAT IT READS IS OF BULK AT MOST 1048576: true; the input reads as it did. -/
def bioPutsUptoRow : OpenClaim := { program := "ytfoecgcjipckmaa", sum := "0dd20303b11993e5b721e672a82de5c2caf000476725672b2b5b95676f34f2fa", func := "dowel/dowellaw11.BioPuts", spec := "bioPuts", apart := false, narrowed := true }
def BioPutsUptoSaid : Prop := bioPutsUptoRow.holds Try.pinned (OpenSpec.upto bioPutsSpec)

/-- 'dowellaw03.AluBack', WHERE WHAT IT READS IS OF BULK AT MOST 1048576: true; the input reads as it did. -/
def aluBackUptoRow : OpenClaim := { program := "ytfoecgcjipckmaa", sum := "0dd20303b11993e5b721e672a82de5c2caf000476725672b2b5b95676f34f2fa", func := "dowel/dowellaw03.AluBack", spec := "aluBack", apart := false, narrowed := true }
def AluBackUptoSaid : Prop := aluBackUptoRow.holds Try.pinned (OpenSpec.upto aluBackSpec)

/-- 'dowellaw16.DescTells', WHERE WHAT IT READS IS OF BULK AT MOST 1048576: true; the input reads as it did. -/
def descTellsUptoRow : OpenClaim := { program := "ytfoecgcjipckmaa", sum := "0dd20303b11993e5b721e672a82de5c2caf000476725672b2b5b95676f34f2fa", func := "dowel/dowellaw16.DescTells", spec := "descTells", apart := false, narrowed := true }
def DescTellsUptoSaid : Prop := descTellsUptoRow.holds Try.pinned (OpenSpec.upto descTellsSpec)

/-- 'dowellaw16.DescExtends', WHERE WHAT IT READS IS OF BULK AT MOST 1048576: true; the input reads as it did. -/
def descExtendsUptoRow : OpenClaim := { program := "ytfoecgcjipckmaa", sum := "0dd20303b11993e5b721e672a82de5c2caf000476725672b2b5b95676f34f2fa", func := "dowel/dowellaw16.DescExtends", spec := "descExtends", apart := false, narrowed := true }
def DescExtendsUptoSaid : Prop := descExtendsUptoRow.holds Try.pinned (OpenSpec.upto descExtendsSpec)

/-- 'dowellaw02.InsTells', WHERE WHAT IT READS IS OF BULK AT MOST 1048576: true; the input reads as it did. -/
def insTellsUptoRow : OpenClaim := { program := "ytfoecgcjipckmaa", sum := "0dd20303b11993e5b721e672a82de5c2caf000476725672b2b5b95676f34f2fa", func := "dowel/dowellaw02.InsTells", spec := "insTells", apart := false, narrowed := true }
def InsTellsUptoSaid : Prop := insTellsUptoRow.holds Try.pinned (OpenSpec.upto insTellsSpec)

/-- 'dowellaw02.InsBack', WHERE WHAT IT READS IS OF BULK AT MOST 1048576: true; the input reads as it did. -/
def insBackUptoRow : OpenClaim := { program := "ytfoecgcjipckmaa", sum := "0dd20303b11993e5b721e672a82de5c2caf000476725672b2b5b95676f34f2fa", func := "dowel/dowellaw02.InsBack", spec := "insBack", apart := false, narrowed := true }
def InsBackUptoSaid : Prop := insBackUptoRow.holds Try.pinned (OpenSpec.upto insBackSpec)

end Rows
end Go.Proofs.Ytfoecgcjipckmaa
