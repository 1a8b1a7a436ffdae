/- Rows of a call's own: a copy of a row, the end of a row struck; plain facts, used by this seat's walks. Conditions: the lengths are small, the types' shapes are as told. -/
import Derived.Test.YtnflalbiffamdaaMineSep
namespace Go.Proofs.Ytnflalbiffamdaa.MineRows
open Go.RowKit Go.Proofs.YtnflalbiffamdaaW.PrintWords Go.Proofs.Ytnflalbiffamdaa.MineBase Go.Proofs.Ytnflalbiffamdaa.MineSep
set_option linter.unusedVariables false
/-- A row of the call's own whose elements share what they lead to. -/
def ARowN {α : Type} (d : Kd α) (e base : Nat) (v : Value) (xs : List α) : Asn where
  P := fun w D => Kd.N d e w base D v xs
  mono := fun hd h => Kd.N_mono h hd
  bound := fun h => Kd.N_bound h
  move := fun hm h => Kd.N_step h (fun k hk _ => hm k hk)
section
variable {α : Type} {d : Kd α} {e base : Nat} {w0 w w1 : World} {v : Value} {xs : List α} {l : List Asn}
variable {P : Program} {ops : Array Oper} {rest : List Oper} {o : Oper} {a : Act} {Q : Exit → Act → World → Prop} {Kc : Act → World → Prop}
end
end Go.Proofs.Ytnflalbiffamdaa.MineRows
