/- TableKeeps: the machine's side, written by a program of this workplace: for each Go function the answers that its Lean function tells. No condition but that the Lean function tells. -/
import Derived.Test.YtlgfdokdckaejaaProg
import Derived.Below
import Derived.Deep.Draws
import Derived.Deep.AppendLies
import Derived.Maps.AppendAt
import Derived.OwnWalk
import Derived.Laws.BytesArg
import Derived.Laws.MakeOwn
import Derived.Laws.OwnMore
import Derived.Deep.OwnRows
import Derived.Tactics
import Derived.Lib.ConvBytes
import Derived.Laws.Slices
import Derived.WalkKit
import Derived.KernelRfl
import Derived.RowKit3
import Derived.Deep.LoopGhost
import Derived.Deep.QuietTactic
import Derived.BigQuiet
import Derived.WideLaws
import Derived.Deep.DeepCutAuto
import Derived.Deep.CutBlock
import Derived.Deep.RegionHeld3
import Derived.Laws.Rows
import Derived.Lib.AppendStr
import Derived.ArgAppend
import Derived.Laws.IdiomCopy
import Derived.OrdersHeld
import Derived.Laws.BitsLemmas
import Derived.RowKit
import Derived.Lib.SliceRun
import Derived.Test.YtlgfdokdckaejaaMineErr
import Derived.Test.YtlgfdokdckaejaaMineBase
import Derived.Test.YtlgfdokdckaejaaWWords
import Derived.Test.YtlgfdokdckaejaaWLast
import Derived.Test.YtlgfdokdckaejaaWTab
import Derived.Test.YtlgfdokdckaejaaWFour
import Derived.Test.YtlgfdokdckaejaaWQPut
import Derived.Test.YtlgfdokdckaejaaWApart
import Derived.Test.YtlgfdokdckaejaaWArr
import Derived.Test.YtlgfdokdckaejaaWZeros
import Derived.Test.YtlgfdokdckaejaaWFoot
import Derived.Test.YtlgfdokdckaejaaWKept
import Derived.Test.YtlgfdokdckaejaaWShare
import Derived.Test.YtlgfdokdckaejaaWN
import Derived.Test.YtlgfdokdckaejaaWFootNe
import Derived.Test.YtlgfdokdckaejaaWAt
import Derived.Test.YtlgfdokdckaejaaWEqStruct
import Derived.Test.YtlgfdokdckaejaaWRepsOne
import Derived.Test.YtlgfdokdckaejaaWInv
import Derived.Test.YtlgfdokdckaejaaWInvWords
import Derived.Test.YtlgfdokdckaejaaWGuard
import Derived.Test.YtlgfdokdckaejaaWNEv
import Derived.Test.YtlgfdokdckaejaaWMore
namespace Go.Proofs.Ytlgfdokdckaejaa.QTableKeeps
open Go.RowKit Go.Proofs.YtlgfdokdckaejaaW.PrintWords Go.Proofs.YtlgfdokdckaejaaW.PrintLast Go.Proofs.YtlgfdokdckaejaaW.PrintMore Go.Proofs.Ytlgfdokdckaejaa.MineBase
attribute [local go_sem] max2_int min2_int max_two min_two max_three min_three max_four min_four   -- for this text's walks alone
attribute [local go_sem] Go.Proofs.Ytlgfdokdckaejaa.MineErr.eql_err Go.Proofs.Ytlgfdokdckaejaa.MineErr.neq_err Go.Proofs.Ytlgfdokdckaejaa.MineErr.eql_nil_err Go.Proofs.Ytlgfdokdckaejaa.MineErr.neq_nil_err
set_option linter.unusedVariables false
set_option linter.unusedSimpArgs false



def errW : Option Int → Value
  | none => .nilIface
  | some c => .iface 0 (.int .i64 c)
theorem errW_none : errW none = .nilIface := rfl
theorem errW_some (c : Int) : errW (some c) = .iface 0 (.int .i64 c) := rfl

theorem info3 : (Try.prog.info? 3).map (fun i => (i.zero, i.size, i.bytes)) = some (some (.int .i64 0), 1, 8) := by kernel_rfl
theorem info9 : (Try.prog.info? 9).map (fun i => (i.zero, i.size, i.bytes)) = some (some (.string ⟨#[]⟩), 1, 16) := by kernel_rfl
theorem info71 : (Try.prog.info? 71).map (fun i => (i.zero, i.size, i.bytes)) = some (some (.agg #[(.int .i64 0), (.int .i64 0), (.slice none 0 0)]), 3, 40) := by kernel_rfl
theorem info100 : (Try.prog.info? 100).map (fun i => (i.zero, i.size, i.bytes)) = some (some (.agg #[(.string ⟨#[]⟩), (.int .i64 0)]), 2, 24) := by kernel_rfl
-- the values' own types
def rd_L3 (xs : List (List Int)) (i : Int) : (List Int) := xs.getD i.toNat ([] : List Int)
theorem at_L3 {w : World} {A : Option Addr} {n : Nat} {xs : List (List Int)} (h : Kd.C (Kd.slice 3 (Kd.int .i64)) w A n xs) (i : Int) (h0 : 0 ≤ i) (h1 : i < n) : ∃ ad A0 c0, A = some ad ∧ w.cell? (ad.add i.toNat) = some (.slice A0 (rd_L3 xs i).length c0) ∧ (rd_L3 xs i).length ≤ c0 ∧ (Kd.int .i64).C w A0 (rd_L3 xs i).length (rd_L3 xs i) := by
  obtain ⟨ad, c, e, _, hK, hc0⟩ := Kd.C_get h ([] : List Int) i h0 h1
  have hc : ∀ j u, c[j]? = some u → w.cell? (ad.add (i.toNat * 1 + j)) = some u := hc0
  obtain ⟨A0, c0, rfl, l0, g0⟩ := hK
  exact ⟨ad, A0, c0, e, by have hq := hc 0 _ rfl; rwa [Nat.mul_one, Nat.add_zero] at hq, l0, g0⟩

/-! #### struct type 61 -/
structure S61 where
  f0 : Int
  f1 : Int
  f2 : Int
  f3 : Int
  f4 : (List Int)
  f5 : (List Int)
def z61 : S61 := ⟨(0 : Int), (0 : Int), (0 : Int), (0 : Int), ([] : List Int), ([] : List Int)⟩
def k61 : Kd S61 := Kd.iso (Kd.pair (Kd.int .i64) (Kd.pair (Kd.int .i64) (Kd.pair (Kd.int .i64) (Kd.pair (Kd.int .i64) (Kd.pair (Kd.slice 3 (Kd.int .i64)) (Kd.slice 3 (Kd.int .i64))))))) (fun x : S61 => (x.f0, x.f1, x.f2, x.f3, x.f4, x.f5))
theorem k61_open {w : World} {x : S61} {cs : List Value} (h : k61.K w x cs) : ∃ A4 c4 A5 c5, cs = [.int .i64 x.f0, .int .i64 x.f1, .int .i64 x.f2, .int .i64 x.f3, .slice A4 x.f4.length c4, .slice A5 x.f5.length c5] ∧ x.f4.length ≤ c4 ∧ (Kd.int .i64).C w A4 x.f4.length x.f4 ∧ x.f5.length ≤ c5 ∧ (Kd.int .i64).C w A5 x.f5.length x.f5 := by
  obtain ⟨_, _, rfl, rfl, ⟨_, _, rfl, rfl, ⟨_, _, rfl, rfl, ⟨_, _, rfl, rfl, ⟨_, _, rfl, ⟨A4, c4, rfl, l4, g4⟩, ⟨A5, c5, rfl, l5, g5⟩⟩⟩⟩⟩⟩ := h
  exact ⟨A4, c4, A5, c5, rfl, l4, g4, l5, g5⟩
theorem k61_openM {w : World} {base : Nat} {ok : Nat → Prop} {x : S61} {cs : List Value} (h : k61.M w base ok x cs) : ∃ v4 v5, cs = [.int .i64 x.f0, .int .i64 x.f1, .int .i64 x.f2, .int .i64 x.f3, v4, v5] ∧ (Kd.int .i64).R 3 w base ok v4 x.f4 ∧ (Kd.int .i64).R 3 w base ok v5 x.f5 := by
  obtain ⟨_, _, rfl, rfl, ⟨_, _, rfl, rfl, ⟨_, _, rfl, rfl, ⟨_, _, rfl, rfl, ⟨_, _, rfl, ⟨v4, rfl, g4⟩, ⟨v5, rfl, g5⟩⟩⟩⟩⟩⟩ := h
  exact ⟨v4, v5, rfl, g4, g5⟩
theorem k61_mk (w : World) (x : S61) {A4 : Option Addr} {c4 : Nat} (l4 : x.f4.length ≤ c4) (g4 : (Kd.int .i64).C w A4 x.f4.length x.f4) {A5 : Option Addr} {c5 : Nat} (l5 : x.f5.length ≤ c5) (g5 : (Kd.int .i64).C w A5 x.f5.length x.f5) : k61.K w x [.int .i64 x.f0, .int .i64 x.f1, .int .i64 x.f2, .int .i64 x.f3, .slice A4 x.f4.length c4, .slice A5 x.f5.length c5] := ⟨[.int .i64 x.f0], [.int .i64 x.f1, .int .i64 x.f2, .int .i64 x.f3, .slice A4 x.f4.length c4, .slice A5 x.f5.length c5], rfl, rfl, ⟨[.int .i64 x.f1], [.int .i64 x.f2, .int .i64 x.f3, .slice A4 x.f4.length c4, .slice A5 x.f5.length c5], rfl, rfl, ⟨[.int .i64 x.f2], [.int .i64 x.f3, .slice A4 x.f4.length c4, .slice A5 x.f5.length c5], rfl, rfl, ⟨[.int .i64 x.f3], [.slice A4 x.f4.length c4, .slice A5 x.f5.length c5], rfl, rfl, ⟨[.slice A4 x.f4.length c4], [.slice A5 x.f5.length c5], rfl, ⟨A4, c4, rfl, l4, g4⟩, ⟨A5, c5, rfl, l5, g5⟩⟩⟩⟩⟩⟩
theorem k61_mkM (w : World) (base : Nat) (ok : Nat → Prop) (x : S61) {v4 : Value} (g4 : (Kd.int .i64).R 3 w base ok v4 x.f4) {v5 : Value} (g5 : (Kd.int .i64).R 3 w base ok v5 x.f5) : k61.M w base ok x [.int .i64 x.f0, .int .i64 x.f1, .int .i64 x.f2, .int .i64 x.f3, v4, v5] := ⟨[.int .i64 x.f0], [.int .i64 x.f1, .int .i64 x.f2, .int .i64 x.f3, v4, v5], rfl, rfl, ⟨[.int .i64 x.f1], [.int .i64 x.f2, .int .i64 x.f3, v4, v5], rfl, rfl, ⟨[.int .i64 x.f2], [.int .i64 x.f3, v4, v5], rfl, rfl, ⟨[.int .i64 x.f3], [v4, v5], rfl, rfl, ⟨[v4], [v5], rfl, ⟨v4, rfl, g4⟩, ⟨v5, rfl, g5⟩⟩⟩⟩⟩⟩
theorem k61_openF {W : World} {ok : Nat → Prop} {x : S61} {cs : List Value} (h : Kd.FK k61 W ok x cs) : ∃ A4 c4 A5 c5, cs = [.int .i64 x.f0, .int .i64 x.f1, .int .i64 x.f2, .int .i64 x.f3, .slice A4 x.f4.length c4, .slice A5 x.f5.length c5] ∧ x.f4.length ≤ c4 ∧ Kd.F (Kd.int .i64) W ok A4 x.f4.length x.f4 ∧ x.f5.length ≤ c5 ∧ Kd.F (Kd.int .i64) W ok A5 x.f5.length x.f5 := by
  obtain ⟨A4, c4, A5, c5, rfl, l4, _, l5, _⟩ := k61_open (Kd.FK_now h)
  exact ⟨A4, c4, A5, c5, rfl, l4, (fun W' hW => by obtain ⟨A4_, c4_, A5_, c5_, he, l4_, g4_, l5_, g5_⟩ := k61_open (h W' hW); injection (Option.some.inj (show some (Value.slice A4 x.f4.length c4) = some (Value.slice A4_ x.f4.length c4_) from congrArg (fun l => l[4]?) he)) with ha_ _ _; rw [ha_]; exact g4_), l5, (fun W' hW => by obtain ⟨A4_, c4_, A5_, c5_, he, l4_, g4_, l5_, g5_⟩ := k61_open (h W' hW); injection (Option.some.inj (show some (Value.slice A5 x.f5.length c5) = some (Value.slice A5_ x.f5.length c5_) from congrArg (fun l => l[5]?) he)) with ha_ _ _; rw [ha_]; exact g5_)⟩
theorem k61_mkF (W : World) (ok : Nat → Prop) (x : S61) {A4 : Option Addr} {c4 : Nat} (l4 : x.f4.length ≤ c4) (g4 : Kd.F (Kd.int .i64) W ok A4 x.f4.length x.f4) {A5 : Option Addr} {c5 : Nat} (l5 : x.f5.length ≤ c5) (g5 : Kd.F (Kd.int .i64) W ok A5 x.f5.length x.f5) : Kd.FK k61 W ok x [.int .i64 x.f0, .int .i64 x.f1, .int .i64 x.f2, .int .i64 x.f3, .slice A4 x.f4.length c4, .slice A5 x.f5.length c5] := fun W2 hW => k61_mk W2 x l4 (g4 W2 hW) l5 (g5 W2 hW)
def rd_T61 (xs : List S61) (i : Int) : S61 := xs.getD i.toNat z61
theorem at_T61 {w : World} {A : Option Addr} {n : Nat} {xs : List S61} (h : Kd.C k61 w A n xs) (i : Int) (h0 : 0 ≤ i) (h1 : i < n) : ∃ ad A4 c4 A5 c5, A = some ad ∧ w.cell? (ad.add (i.toNat * 6)) = some (.int .i64 (rd_T61 xs i).f0) ∧ w.cell? ⟨(ad.add (i.toNat * 6)).block, (ad.add (i.toNat * 6)).off + 1, none⟩ = some (.int .i64 (rd_T61 xs i).f1) ∧ w.cell? ⟨(ad.add (i.toNat * 6)).block, (ad.add (i.toNat * 6)).off + 2, none⟩ = some (.int .i64 (rd_T61 xs i).f2) ∧ w.cell? ⟨(ad.add (i.toNat * 6)).block, (ad.add (i.toNat * 6)).off + 3, none⟩ = some (.int .i64 (rd_T61 xs i).f3) ∧ w.cell? ⟨(ad.add (i.toNat * 6)).block, (ad.add (i.toNat * 6)).off + 4, none⟩ = some (.slice A4 (rd_T61 xs i).f4.length c4) ∧ w.cell? ⟨(ad.add (i.toNat * 6)).block, (ad.add (i.toNat * 6)).off + 5, none⟩ = some (.slice A5 (rd_T61 xs i).f5.length c5) ∧ (rd_T61 xs i).f4.length ≤ c4 ∧ (Kd.int .i64).C w A4 (rd_T61 xs i).f4.length (rd_T61 xs i).f4 ∧ (rd_T61 xs i).f5.length ≤ c5 ∧ (Kd.int .i64).C w A5 (rd_T61 xs i).f5.length (rd_T61 xs i).f5 := by
  obtain ⟨ad, c, e, _, hK, hc0⟩ := Kd.C_get h z61 i h0 h1
  have hc : ∀ j u, c[j]? = some u → w.cell? (ad.add (i.toNat * 6 + j)) = some u := hc0
  obtain ⟨A4, c4, A5, c5, rfl, l4, g4, l5, g5⟩ := k61_open hK
  exact ⟨ad, A4, c4, A5, c5, e, hc 0 _ rfl, by rw [← add_field _ _ 1 (by omega)]; exact hc 1 _ rfl, by rw [← add_field _ _ 2 (by omega)]; exact hc 2 _ rfl, by rw [← add_field _ _ 3 (by omega)]; exact hc 3 _ rfl, by rw [← add_field _ _ 4 (by omega)]; exact hc 4 _ rfl, by rw [← add_field _ _ 5 (by omega)]; exact hc 5 _ rfl, l4, g4, l5, g5⟩

def rd_L5 (xs : List (List ByteArray)) (i : Int) : (List ByteArray) := xs.getD i.toNat ([] : List ByteArray)
theorem at_L5 {w : World} {A : Option Addr} {n : Nat} {xs : List (List ByteArray)} (h : Kd.C (Kd.slice 9 Kd.string) w A n xs) (i : Int) (h0 : 0 ≤ i) (h1 : i < n) : ∃ ad A0 c0, A = some ad ∧ w.cell? (ad.add i.toNat) = some (.slice A0 (rd_L5 xs i).length c0) ∧ (rd_L5 xs i).length ≤ c0 ∧ Kd.string.C w A0 (rd_L5 xs i).length (rd_L5 xs i) := by
  obtain ⟨ad, c, e, _, hK, hc0⟩ := Kd.C_get h ([] : List ByteArray) i h0 h1
  have hc : ∀ j u, c[j]? = some u → w.cell? (ad.add (i.toNat * 1 + j)) = some u := hc0
  obtain ⟨A0, c0, rfl, l0, g0⟩ := hK
  exact ⟨ad, A0, c0, e, by have hq := hc 0 _ rfl; rwa [Nat.mul_one, Nat.add_zero] at hq, l0, g0⟩

/-! #### struct type 71 -/
structure S71 where
  f0 : Int
  f1 : Int
  f2 : (List Int)
def z71 : S71 := ⟨(0 : Int), (0 : Int), ([] : List Int)⟩
def k71 : Kd S71 := Kd.iso (Kd.pair (Kd.int .i64) (Kd.pair (Kd.int .i64) (Kd.slice 3 (Kd.int .i64)))) (fun x : S71 => (x.f0, x.f1, x.f2))
theorem k71_open {w : World} {x : S71} {cs : List Value} (h : k71.K w x cs) : ∃ A2 c2, cs = [.int .i64 x.f0, .int .i64 x.f1, .slice A2 x.f2.length c2] ∧ x.f2.length ≤ c2 ∧ (Kd.int .i64).C w A2 x.f2.length x.f2 := by
  obtain ⟨_, _, rfl, rfl, ⟨_, _, rfl, rfl, ⟨A2, c2, rfl, l2, g2⟩⟩⟩ := h
  exact ⟨A2, c2, rfl, l2, g2⟩
theorem k71_openM {w : World} {base : Nat} {ok : Nat → Prop} {x : S71} {cs : List Value} (h : k71.M w base ok x cs) : ∃ v2, cs = [.int .i64 x.f0, .int .i64 x.f1, v2] ∧ (Kd.int .i64).R 3 w base ok v2 x.f2 := by
  obtain ⟨_, _, rfl, rfl, ⟨_, _, rfl, rfl, ⟨v2, rfl, g2⟩⟩⟩ := h
  exact ⟨v2, rfl, g2⟩
theorem k71_mk (w : World) (x : S71) {A2 : Option Addr} {c2 : Nat} (l2 : x.f2.length ≤ c2) (g2 : (Kd.int .i64).C w A2 x.f2.length x.f2) : k71.K w x [.int .i64 x.f0, .int .i64 x.f1, .slice A2 x.f2.length c2] := ⟨[.int .i64 x.f0], [.int .i64 x.f1, .slice A2 x.f2.length c2], rfl, rfl, ⟨[.int .i64 x.f1], [.slice A2 x.f2.length c2], rfl, rfl, ⟨A2, c2, rfl, l2, g2⟩⟩⟩
theorem k71_mkM (w : World) (base : Nat) (ok : Nat → Prop) (x : S71) {v2 : Value} (g2 : (Kd.int .i64).R 3 w base ok v2 x.f2) : k71.M w base ok x [.int .i64 x.f0, .int .i64 x.f1, v2] := ⟨[.int .i64 x.f0], [.int .i64 x.f1, v2], rfl, rfl, ⟨[.int .i64 x.f1], [v2], rfl, rfl, ⟨v2, rfl, g2⟩⟩⟩
theorem k71_openF {W : World} {ok : Nat → Prop} {x : S71} {cs : List Value} (h : Kd.FK k71 W ok x cs) : ∃ A2 c2, cs = [.int .i64 x.f0, .int .i64 x.f1, .slice A2 x.f2.length c2] ∧ x.f2.length ≤ c2 ∧ Kd.F (Kd.int .i64) W ok A2 x.f2.length x.f2 := by
  obtain ⟨A2, c2, rfl, l2, _⟩ := k71_open (Kd.FK_now h)
  exact ⟨A2, c2, rfl, l2, (fun W' hW => by obtain ⟨A2_, c2_, he, l2_, g2_⟩ := k71_open (h W' hW); injection (Option.some.inj (show some (Value.slice A2 x.f2.length c2) = some (Value.slice A2_ x.f2.length c2_) from congrArg (fun l => l[2]?) he)) with ha_ _ _; rw [ha_]; exact g2_)⟩
theorem k71_mkF (W : World) (ok : Nat → Prop) (x : S71) {A2 : Option Addr} {c2 : Nat} (l2 : x.f2.length ≤ c2) (g2 : Kd.F (Kd.int .i64) W ok A2 x.f2.length x.f2) : Kd.FK k71 W ok x [.int .i64 x.f0, .int .i64 x.f1, .slice A2 x.f2.length c2] := fun W2 hW => k71_mk W2 x l2 (g2 W2 hW)
def rd_T71 (xs : List S71) (i : Int) : S71 := xs.getD i.toNat z71
theorem at_T71 {w : World} {A : Option Addr} {n : Nat} {xs : List S71} (h : Kd.C k71 w A n xs) (i : Int) (h0 : 0 ≤ i) (h1 : i < n) : ∃ ad A2 c2, A = some ad ∧ w.cell? (ad.add (i.toNat * 3)) = some (.int .i64 (rd_T71 xs i).f0) ∧ w.cell? ⟨(ad.add (i.toNat * 3)).block, (ad.add (i.toNat * 3)).off + 1, none⟩ = some (.int .i64 (rd_T71 xs i).f1) ∧ w.cell? ⟨(ad.add (i.toNat * 3)).block, (ad.add (i.toNat * 3)).off + 2, none⟩ = some (.slice A2 (rd_T71 xs i).f2.length c2) ∧ (rd_T71 xs i).f2.length ≤ c2 ∧ (Kd.int .i64).C w A2 (rd_T71 xs i).f2.length (rd_T71 xs i).f2 := by
  obtain ⟨ad, c, e, _, hK, hc0⟩ := Kd.C_get h z71 i h0 h1
  have hc : ∀ j u, c[j]? = some u → w.cell? (ad.add (i.toNat * 3 + j)) = some u := hc0
  obtain ⟨A2, c2, rfl, l2, g2⟩ := k71_open hK
  exact ⟨ad, A2, c2, e, hc 0 _ rfl, by rw [← add_field _ _ 1 (by omega)]; exact hc 1 _ rfl, by rw [← add_field _ _ 2 (by omega)]; exact hc 2 _ rfl, l2, g2⟩

def rd_L7 (xs : List (List S71)) (i : Int) : (List S71) := xs.getD i.toNat ([] : List S71)
theorem at_L7 {w : World} {A : Option Addr} {n : Nat} {xs : List (List S71)} (h : Kd.C (Kd.slice 71 k71) w A n xs) (i : Int) (h0 : 0 ≤ i) (h1 : i < n) : ∃ ad A0 c0, A = some ad ∧ w.cell? (ad.add i.toNat) = some (.slice A0 (rd_L7 xs i).length c0) ∧ (rd_L7 xs i).length ≤ c0 ∧ k71.C w A0 (rd_L7 xs i).length (rd_L7 xs i) := by
  obtain ⟨ad, c, e, _, hK, hc0⟩ := Kd.C_get h ([] : List S71) i h0 h1
  have hc : ∀ j u, c[j]? = some u → w.cell? (ad.add (i.toNat * 1 + j)) = some u := hc0
  obtain ⟨A0, c0, rfl, l0, g0⟩ := hK
  exact ⟨ad, A0, c0, e, by have hq := hc 0 _ rfl; rwa [Nat.mul_one, Nat.add_zero] at hq, l0, g0⟩

/-! #### struct type 100 -/
structure S100 where
  f0 : ByteArray
  f1 : Int
def z100 : S100 := ⟨(⟨#[]⟩ : ByteArray), (0 : Int)⟩
def k100 : Kd S100 := Kd.iso (Kd.pair Kd.string (Kd.int .i64)) (fun x : S100 => (x.f0, x.f1))
theorem k100_open {w : World} {x : S100} {cs : List Value} (h : k100.K w x cs) : cs = [.string x.f0, .int .i64 x.f1] := by
  obtain ⟨_, _, rfl, rfl, rfl⟩ := h
  exact rfl
theorem k100_openM {w : World} {base : Nat} {ok : Nat → Prop} {x : S100} {cs : List Value} (h : k100.M w base ok x cs) : cs = [.string x.f0, .int .i64 x.f1] := by
  obtain ⟨_, _, rfl, rfl, rfl⟩ := h
  exact rfl
theorem k100_mk (w : World) (x : S100)  : k100.K w x [.string x.f0, .int .i64 x.f1] := ⟨[.string x.f0], [.int .i64 x.f1], rfl, rfl, rfl⟩
theorem k100_mkM (w : World) (base : Nat) (ok : Nat → Prop) (x : S100)  : k100.M w base ok x [.string x.f0, .int .i64 x.f1] := ⟨[.string x.f0], [.int .i64 x.f1], rfl, rfl, rfl⟩
theorem k100_mkF (W : World) (ok : Nat → Prop) (x : S100) : Kd.FK k100 W ok x [.string x.f0, .int .i64 x.f1] := fun W2 _ => k100_mk W2 x
def rd_T100 (xs : List S100) (i : Int) : S100 := xs.getD i.toNat z100
theorem at_T100 {w : World} {A : Option Addr} {n : Nat} {xs : List S100} (h : Kd.C k100 w A n xs) (i : Int) (h0 : 0 ≤ i) (h1 : i < n) : ∃ ad , A = some ad ∧ w.cell? (ad.add (i.toNat * 2)) = some (.string (rd_T100 xs i).f0) ∧ w.cell? ⟨(ad.add (i.toNat * 2)).block, (ad.add (i.toNat * 2)).off + 1, none⟩ = some (.int .i64 (rd_T100 xs i).f1) := by
  obtain ⟨ad, c, e, _, hK, hc0⟩ := Kd.C_get h z100 i h0 h1
  have hc : ∀ j u, c[j]? = some u → w.cell? (ad.add (i.toNat * 2 + j)) = some u := hc0
  obtain rfl := k100_open hK
  exact ⟨ad, e, hc 0 _ rfl, by rw [← add_field _ _ 1 (by omega)]; exact hc 1 _ rfl⟩

def rd_L9 (xs : List (List S100)) (i : Int) : (List S100) := xs.getD i.toNat ([] : List S100)
theorem at_L9 {w : World} {A : Option Addr} {n : Nat} {xs : List (List S100)} (h : Kd.C (Kd.slice 100 k100) w A n xs) (i : Int) (h0 : 0 ≤ i) (h1 : i < n) : ∃ ad A0 c0, A = some ad ∧ w.cell? (ad.add i.toNat) = some (.slice A0 (rd_L9 xs i).length c0) ∧ (rd_L9 xs i).length ≤ c0 ∧ k100.C w A0 (rd_L9 xs i).length (rd_L9 xs i) := by
  obtain ⟨ad, c, e, _, hK, hc0⟩ := Kd.C_get h ([] : List S100) i h0 h1
  have hc : ∀ j u, c[j]? = some u → w.cell? (ad.add (i.toNat * 1 + j)) = some u := hc0
  obtain ⟨A0, c0, rfl, l0, g0⟩ := hK
  exact ⟨ad, A0, c0, e, by have hq := hc 0 _ rfl; rwa [Nat.mul_one, Nat.add_zero] at hq, l0, g0⟩

/-! #### struct type 65 -/
structure S65 where
  f0 : ByteArray
  f1 : Int
  f2 : Int
  f3 : Int
  f4 : S61
  f5 : (List ByteArray)
  f6 : (List S71)
  f7 : (List S100)
def z65 : S65 := ⟨(⟨#[]⟩ : ByteArray), (0 : Int), (0 : Int), (0 : Int), z61, ([] : List ByteArray), ([] : List S71), ([] : List S100)⟩
def k65 : Kd S65 := Kd.iso (Kd.pair Kd.string (Kd.pair (Kd.int .u32) (Kd.pair (Kd.int .i64) (Kd.pair (Kd.int .i64) (Kd.pair k61 (Kd.pair (Kd.slice 9 Kd.string) (Kd.pair (Kd.slice 71 k71) (Kd.slice 100 k100)))))))) (fun x : S65 => (x.f0, x.f1, x.f2, x.f3, x.f4, x.f5, x.f6, x.f7))
theorem k65_open {w : World} {x : S65} {cs : List Value} (h : k65.K w x cs) : ∃ A8 c8 A9 c9 A10 c10 A11 c11 A12 c12, cs = [.string x.f0, .int .u32 x.f1, .int .i64 x.f2, .int .i64 x.f3, .int .i64 x.f4.f0, .int .i64 x.f4.f1, .int .i64 x.f4.f2, .int .i64 x.f4.f3, .slice A8 x.f4.f4.length c8, .slice A9 x.f4.f5.length c9, .slice A10 x.f5.length c10, .slice A11 x.f6.length c11, .slice A12 x.f7.length c12] ∧ x.f4.f4.length ≤ c8 ∧ (Kd.int .i64).C w A8 x.f4.f4.length x.f4.f4 ∧ x.f4.f5.length ≤ c9 ∧ (Kd.int .i64).C w A9 x.f4.f5.length x.f4.f5 ∧ x.f5.length ≤ c10 ∧ Kd.string.C w A10 x.f5.length x.f5 ∧ x.f6.length ≤ c11 ∧ k71.C w A11 x.f6.length x.f6 ∧ x.f7.length ≤ c12 ∧ k100.C w A12 x.f7.length x.f7 := by
  obtain ⟨_, _, rfl, rfl, ⟨_, _, rfl, rfl, ⟨_, _, rfl, rfl, ⟨_, _, rfl, rfl, ⟨_, _, rfl, s4, ⟨_, _, rfl, ⟨A10, c10, rfl, l10, g10⟩, ⟨_, _, rfl, ⟨A11, c11, rfl, l11, g11⟩, ⟨A12, c12, rfl, l12, g12⟩⟩⟩⟩⟩⟩⟩⟩ := h
  obtain ⟨A8, c8, A9, c9, rfl, l8, g8, l9, g9⟩ := k61_open s4
  exact ⟨A8, c8, A9, c9, A10, c10, A11, c11, A12, c12, rfl, l8, g8, l9, g9, l10, g10, l11, g11, l12, g12⟩
theorem k65_openM {w : World} {base : Nat} {ok : Nat → Prop} {x : S65} {cs : List Value} (h : k65.M w base ok x cs) : ∃ v8 v9 v10 v11 v12, cs = [.string x.f0, .int .u32 x.f1, .int .i64 x.f2, .int .i64 x.f3, .int .i64 x.f4.f0, .int .i64 x.f4.f1, .int .i64 x.f4.f2, .int .i64 x.f4.f3, v8, v9, v10, v11, v12] ∧ (Kd.int .i64).R 3 w base ok v8 x.f4.f4 ∧ (Kd.int .i64).R 3 w base ok v9 x.f4.f5 ∧ Kd.string.R 9 w base ok v10 x.f5 ∧ k71.R 71 w base ok v11 x.f6 ∧ k100.R 100 w base ok v12 x.f7 := by
  obtain ⟨_, _, rfl, rfl, ⟨_, _, rfl, rfl, ⟨_, _, rfl, rfl, ⟨_, _, rfl, rfl, ⟨_, _, rfl, s4, ⟨_, _, rfl, ⟨v10, rfl, g10⟩, ⟨_, _, rfl, ⟨v11, rfl, g11⟩, ⟨v12, rfl, g12⟩⟩⟩⟩⟩⟩⟩⟩ := h
  obtain ⟨v8, v9, rfl, g8, g9⟩ := k61_openM s4
  exact ⟨v8, v9, v10, v11, v12, rfl, g8, g9, g10, g11, g12⟩
theorem k65_mk (w : World) (x : S65) {A8 : Option Addr} {c8 : Nat} (l8 : x.f4.f4.length ≤ c8) (g8 : (Kd.int .i64).C w A8 x.f4.f4.length x.f4.f4) {A9 : Option Addr} {c9 : Nat} (l9 : x.f4.f5.length ≤ c9) (g9 : (Kd.int .i64).C w A9 x.f4.f5.length x.f4.f5) {A10 : Option Addr} {c10 : Nat} (l10 : x.f5.length ≤ c10) (g10 : Kd.string.C w A10 x.f5.length x.f5) {A11 : Option Addr} {c11 : Nat} (l11 : x.f6.length ≤ c11) (g11 : k71.C w A11 x.f6.length x.f6) {A12 : Option Addr} {c12 : Nat} (l12 : x.f7.length ≤ c12) (g12 : k100.C w A12 x.f7.length x.f7) : k65.K w x [.string x.f0, .int .u32 x.f1, .int .i64 x.f2, .int .i64 x.f3, .int .i64 x.f4.f0, .int .i64 x.f4.f1, .int .i64 x.f4.f2, .int .i64 x.f4.f3, .slice A8 x.f4.f4.length c8, .slice A9 x.f4.f5.length c9, .slice A10 x.f5.length c10, .slice A11 x.f6.length c11, .slice A12 x.f7.length c12] := ⟨[.string x.f0], [.int .u32 x.f1, .int .i64 x.f2, .int .i64 x.f3, .int .i64 x.f4.f0, .int .i64 x.f4.f1, .int .i64 x.f4.f2, .int .i64 x.f4.f3, .slice A8 x.f4.f4.length c8, .slice A9 x.f4.f5.length c9, .slice A10 x.f5.length c10, .slice A11 x.f6.length c11, .slice A12 x.f7.length c12], rfl, rfl, ⟨[.int .u32 x.f1], [.int .i64 x.f2, .int .i64 x.f3, .int .i64 x.f4.f0, .int .i64 x.f4.f1, .int .i64 x.f4.f2, .int .i64 x.f4.f3, .slice A8 x.f4.f4.length c8, .slice A9 x.f4.f5.length c9, .slice A10 x.f5.length c10, .slice A11 x.f6.length c11, .slice A12 x.f7.length c12], rfl, rfl, ⟨[.int .i64 x.f2], [.int .i64 x.f3, .int .i64 x.f4.f0, .int .i64 x.f4.f1, .int .i64 x.f4.f2, .int .i64 x.f4.f3, .slice A8 x.f4.f4.length c8, .slice A9 x.f4.f5.length c9, .slice A10 x.f5.length c10, .slice A11 x.f6.length c11, .slice A12 x.f7.length c12], rfl, rfl, ⟨[.int .i64 x.f3], [.int .i64 x.f4.f0, .int .i64 x.f4.f1, .int .i64 x.f4.f2, .int .i64 x.f4.f3, .slice A8 x.f4.f4.length c8, .slice A9 x.f4.f5.length c9, .slice A10 x.f5.length c10, .slice A11 x.f6.length c11, .slice A12 x.f7.length c12], rfl, rfl, ⟨[.int .i64 x.f4.f0, .int .i64 x.f4.f1, .int .i64 x.f4.f2, .int .i64 x.f4.f3, .slice A8 x.f4.f4.length c8, .slice A9 x.f4.f5.length c9], [.slice A10 x.f5.length c10, .slice A11 x.f6.length c11, .slice A12 x.f7.length c12], rfl, (k61_mk w x.f4 l8 g8 l9 g9), ⟨[.slice A10 x.f5.length c10], [.slice A11 x.f6.length c11, .slice A12 x.f7.length c12], rfl, ⟨A10, c10, rfl, l10, g10⟩, ⟨[.slice A11 x.f6.length c11], [.slice A12 x.f7.length c12], rfl, ⟨A11, c11, rfl, l11, g11⟩, ⟨A12, c12, rfl, l12, g12⟩⟩⟩⟩⟩⟩⟩⟩
theorem k65_mkM (w : World) (base : Nat) (ok : Nat → Prop) (x : S65) {v8 : Value} (g8 : (Kd.int .i64).R 3 w base ok v8 x.f4.f4) {v9 : Value} (g9 : (Kd.int .i64).R 3 w base ok v9 x.f4.f5) {v10 : Value} (g10 : Kd.string.R 9 w base ok v10 x.f5) {v11 : Value} (g11 : k71.R 71 w base ok v11 x.f6) {v12 : Value} (g12 : k100.R 100 w base ok v12 x.f7) : k65.M w base ok x [.string x.f0, .int .u32 x.f1, .int .i64 x.f2, .int .i64 x.f3, .int .i64 x.f4.f0, .int .i64 x.f4.f1, .int .i64 x.f4.f2, .int .i64 x.f4.f3, v8, v9, v10, v11, v12] := ⟨[.string x.f0], [.int .u32 x.f1, .int .i64 x.f2, .int .i64 x.f3, .int .i64 x.f4.f0, .int .i64 x.f4.f1, .int .i64 x.f4.f2, .int .i64 x.f4.f3, v8, v9, v10, v11, v12], rfl, rfl, ⟨[.int .u32 x.f1], [.int .i64 x.f2, .int .i64 x.f3, .int .i64 x.f4.f0, .int .i64 x.f4.f1, .int .i64 x.f4.f2, .int .i64 x.f4.f3, v8, v9, v10, v11, v12], rfl, rfl, ⟨[.int .i64 x.f2], [.int .i64 x.f3, .int .i64 x.f4.f0, .int .i64 x.f4.f1, .int .i64 x.f4.f2, .int .i64 x.f4.f3, v8, v9, v10, v11, v12], rfl, rfl, ⟨[.int .i64 x.f3], [.int .i64 x.f4.f0, .int .i64 x.f4.f1, .int .i64 x.f4.f2, .int .i64 x.f4.f3, v8, v9, v10, v11, v12], rfl, rfl, ⟨[.int .i64 x.f4.f0, .int .i64 x.f4.f1, .int .i64 x.f4.f2, .int .i64 x.f4.f3, v8, v9], [v10, v11, v12], rfl, (k61_mkM w base ok x.f4 g8 g9), ⟨[v10], [v11, v12], rfl, ⟨v10, rfl, g10⟩, ⟨[v11], [v12], rfl, ⟨v11, rfl, g11⟩, ⟨v12, rfl, g12⟩⟩⟩⟩⟩⟩⟩⟩
theorem k65_openF {W : World} {ok : Nat → Prop} {x : S65} {cs : List Value} (h : Kd.FK k65 W ok x cs) : ∃ A8 c8 A9 c9 A10 c10 A11 c11 A12 c12, cs = [.string x.f0, .int .u32 x.f1, .int .i64 x.f2, .int .i64 x.f3, .int .i64 x.f4.f0, .int .i64 x.f4.f1, .int .i64 x.f4.f2, .int .i64 x.f4.f3, .slice A8 x.f4.f4.length c8, .slice A9 x.f4.f5.length c9, .slice A10 x.f5.length c10, .slice A11 x.f6.length c11, .slice A12 x.f7.length c12] ∧ x.f4.f4.length ≤ c8 ∧ Kd.F (Kd.int .i64) W ok A8 x.f4.f4.length x.f4.f4 ∧ x.f4.f5.length ≤ c9 ∧ Kd.F (Kd.int .i64) W ok A9 x.f4.f5.length x.f4.f5 ∧ x.f5.length ≤ c10 ∧ Kd.F Kd.string W ok A10 x.f5.length x.f5 ∧ x.f6.length ≤ c11 ∧ Kd.F k71 W ok A11 x.f6.length x.f6 ∧ x.f7.length ≤ c12 ∧ Kd.F k100 W ok A12 x.f7.length x.f7 := by
  obtain ⟨A8, c8, A9, c9, A10, c10, A11, c11, A12, c12, rfl, l8, _, l9, _, l10, _, l11, _, l12, _⟩ := k65_open (Kd.FK_now h)
  exact ⟨A8, c8, A9, c9, A10, c10, A11, c11, A12, c12, rfl, l8, (fun W' hW => by obtain ⟨A8_, c8_, A9_, c9_, A10_, c10_, A11_, c11_, A12_, c12_, he, l8_, g8_, l9_, g9_, l10_, g10_, l11_, g11_, l12_, g12_⟩ := k65_open (h W' hW); injection (Option.some.inj (show some (Value.slice A8 x.f4.f4.length c8) = some (Value.slice A8_ x.f4.f4.length c8_) from congrArg (fun l => l[8]?) he)) with ha_ _ _; rw [ha_]; exact g8_), l9, (fun W' hW => by obtain ⟨A8_, c8_, A9_, c9_, A10_, c10_, A11_, c11_, A12_, c12_, he, l8_, g8_, l9_, g9_, l10_, g10_, l11_, g11_, l12_, g12_⟩ := k65_open (h W' hW); injection (Option.some.inj (show some (Value.slice A9 x.f4.f5.length c9) = some (Value.slice A9_ x.f4.f5.length c9_) from congrArg (fun l => l[9]?) he)) with ha_ _ _; rw [ha_]; exact g9_), l10, (fun W' hW => by obtain ⟨A8_, c8_, A9_, c9_, A10_, c10_, A11_, c11_, A12_, c12_, he, l8_, g8_, l9_, g9_, l10_, g10_, l11_, g11_, l12_, g12_⟩ := k65_open (h W' hW); injection (Option.some.inj (show some (Value.slice A10 x.f5.length c10) = some (Value.slice A10_ x.f5.length c10_) from congrArg (fun l => l[10]?) he)) with ha_ _ _; rw [ha_]; exact g10_), l11, (fun W' hW => by obtain ⟨A8_, c8_, A9_, c9_, A10_, c10_, A11_, c11_, A12_, c12_, he, l8_, g8_, l9_, g9_, l10_, g10_, l11_, g11_, l12_, g12_⟩ := k65_open (h W' hW); injection (Option.some.inj (show some (Value.slice A11 x.f6.length c11) = some (Value.slice A11_ x.f6.length c11_) from congrArg (fun l => l[11]?) he)) with ha_ _ _; rw [ha_]; exact g11_), l12, (fun W' hW => by obtain ⟨A8_, c8_, A9_, c9_, A10_, c10_, A11_, c11_, A12_, c12_, he, l8_, g8_, l9_, g9_, l10_, g10_, l11_, g11_, l12_, g12_⟩ := k65_open (h W' hW); injection (Option.some.inj (show some (Value.slice A12 x.f7.length c12) = some (Value.slice A12_ x.f7.length c12_) from congrArg (fun l => l[12]?) he)) with ha_ _ _; rw [ha_]; exact g12_)⟩
theorem k65_mkF (W : World) (ok : Nat → Prop) (x : S65) {A8 : Option Addr} {c8 : Nat} (l8 : x.f4.f4.length ≤ c8) (g8 : Kd.F (Kd.int .i64) W ok A8 x.f4.f4.length x.f4.f4) {A9 : Option Addr} {c9 : Nat} (l9 : x.f4.f5.length ≤ c9) (g9 : Kd.F (Kd.int .i64) W ok A9 x.f4.f5.length x.f4.f5) {A10 : Option Addr} {c10 : Nat} (l10 : x.f5.length ≤ c10) (g10 : Kd.F Kd.string W ok A10 x.f5.length x.f5) {A11 : Option Addr} {c11 : Nat} (l11 : x.f6.length ≤ c11) (g11 : Kd.F k71 W ok A11 x.f6.length x.f6) {A12 : Option Addr} {c12 : Nat} (l12 : x.f7.length ≤ c12) (g12 : Kd.F k100 W ok A12 x.f7.length x.f7) : Kd.FK k65 W ok x [.string x.f0, .int .u32 x.f1, .int .i64 x.f2, .int .i64 x.f3, .int .i64 x.f4.f0, .int .i64 x.f4.f1, .int .i64 x.f4.f2, .int .i64 x.f4.f3, .slice A8 x.f4.f4.length c8, .slice A9 x.f4.f5.length c9, .slice A10 x.f5.length c10, .slice A11 x.f6.length c11, .slice A12 x.f7.length c12] := fun W2 hW => k65_mk W2 x l8 (g8 W2 hW) l9 (g9 W2 hW) l10 (g10 W2 hW) l11 (g11 W2 hW) l12 (g12 W2 hW)
def rd_T65 (xs : List S65) (i : Int) : S65 := xs.getD i.toNat z65
theorem at_T65 {w : World} {A : Option Addr} {n : Nat} {xs : List S65} (h : Kd.C k65 w A n xs) (i : Int) (h0 : 0 ≤ i) (h1 : i < n) : ∃ ad A8 c8 A9 c9 A10 c10 A11 c11 A12 c12, A = some ad ∧ w.cell? (ad.add (i.toNat * 13)) = some (.string (rd_T65 xs i).f0) ∧ w.cell? ⟨(ad.add (i.toNat * 13)).block, (ad.add (i.toNat * 13)).off + 1, none⟩ = some (.int .u32 (rd_T65 xs i).f1) ∧ w.cell? ⟨(ad.add (i.toNat * 13)).block, (ad.add (i.toNat * 13)).off + 2, none⟩ = some (.int .i64 (rd_T65 xs i).f2) ∧ w.cell? ⟨(ad.add (i.toNat * 13)).block, (ad.add (i.toNat * 13)).off + 3, none⟩ = some (.int .i64 (rd_T65 xs i).f3) ∧ w.cell? ⟨(ad.add (i.toNat * 13)).block, (ad.add (i.toNat * 13)).off + 4, none⟩ = some (.int .i64 (rd_T65 xs i).f4.f0) ∧ w.cell? ⟨(ad.add (i.toNat * 13)).block, (ad.add (i.toNat * 13)).off + 5, none⟩ = some (.int .i64 (rd_T65 xs i).f4.f1) ∧ w.cell? ⟨(ad.add (i.toNat * 13)).block, (ad.add (i.toNat * 13)).off + 6, none⟩ = some (.int .i64 (rd_T65 xs i).f4.f2) ∧ w.cell? ⟨(ad.add (i.toNat * 13)).block, (ad.add (i.toNat * 13)).off + 7, none⟩ = some (.int .i64 (rd_T65 xs i).f4.f3) ∧ w.cell? ⟨(ad.add (i.toNat * 13)).block, (ad.add (i.toNat * 13)).off + 8, none⟩ = some (.slice A8 (rd_T65 xs i).f4.f4.length c8) ∧ w.cell? ⟨(ad.add (i.toNat * 13)).block, (ad.add (i.toNat * 13)).off + 9, none⟩ = some (.slice A9 (rd_T65 xs i).f4.f5.length c9) ∧ w.cell? ⟨(ad.add (i.toNat * 13)).block, (ad.add (i.toNat * 13)).off + 10, none⟩ = some (.slice A10 (rd_T65 xs i).f5.length c10) ∧ w.cell? ⟨(ad.add (i.toNat * 13)).block, (ad.add (i.toNat * 13)).off + 11, none⟩ = some (.slice A11 (rd_T65 xs i).f6.length c11) ∧ w.cell? ⟨(ad.add (i.toNat * 13)).block, (ad.add (i.toNat * 13)).off + 12, none⟩ = some (.slice A12 (rd_T65 xs i).f7.length c12) ∧ (rd_T65 xs i).f4.f4.length ≤ c8 ∧ (Kd.int .i64).C w A8 (rd_T65 xs i).f4.f4.length (rd_T65 xs i).f4.f4 ∧ (rd_T65 xs i).f4.f5.length ≤ c9 ∧ (Kd.int .i64).C w A9 (rd_T65 xs i).f4.f5.length (rd_T65 xs i).f4.f5 ∧ (rd_T65 xs i).f5.length ≤ c10 ∧ Kd.string.C w A10 (rd_T65 xs i).f5.length (rd_T65 xs i).f5 ∧ (rd_T65 xs i).f6.length ≤ c11 ∧ k71.C w A11 (rd_T65 xs i).f6.length (rd_T65 xs i).f6 ∧ (rd_T65 xs i).f7.length ≤ c12 ∧ k100.C w A12 (rd_T65 xs i).f7.length (rd_T65 xs i).f7 := by
  obtain ⟨ad, c, e, _, hK, hc0⟩ := Kd.C_get h z65 i h0 h1
  have hc : ∀ j u, c[j]? = some u → w.cell? (ad.add (i.toNat * 13 + j)) = some u := hc0
  obtain ⟨A8, c8, A9, c9, A10, c10, A11, c11, A12, c12, rfl, l8, g8, l9, g9, l10, g10, l11, g11, l12, g12⟩ := k65_open hK
  exact ⟨ad, A8, c8, A9, c9, A10, c10, A11, c11, A12, c12, e, hc 0 _ rfl, by rw [← add_field _ _ 1 (by omega)]; exact hc 1 _ rfl, by rw [← add_field _ _ 2 (by omega)]; exact hc 2 _ rfl, by rw [← add_field _ _ 3 (by omega)]; exact hc 3 _ rfl, by rw [← add_field _ _ 4 (by omega)]; exact hc 4 _ rfl, by rw [← add_field _ _ 5 (by omega)]; exact hc 5 _ rfl, by rw [← add_field _ _ 6 (by omega)]; exact hc 6 _ rfl, by rw [← add_field _ _ 7 (by omega)]; exact hc 7 _ rfl, by rw [← add_field _ _ 8 (by omega)]; exact hc 8 _ rfl, by rw [← add_field _ _ 9 (by omega)]; exact hc 9 _ rfl, by rw [← add_field _ _ 10 (by omega)]; exact hc 10 _ rfl, by rw [← add_field _ _ 11 (by omega)]; exact hc 11 _ rfl, by rw [← add_field _ _ 12 (by omega)]; exact hc 12 _ rfl, l8, g8, l9, g9, l10, g10, l11, g11, l12, g12⟩

end Go.Proofs.Ytlgfdokdckaejaa.QTableKeeps
