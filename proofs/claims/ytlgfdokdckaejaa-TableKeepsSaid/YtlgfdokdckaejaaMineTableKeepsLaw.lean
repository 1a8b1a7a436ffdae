/- TableKeeps: each module's imports are there as long as it is; what is told of a module is its own memory. For every deeds and places: no condition. -/
import Derived.Test.YtlgfdokdckaejaaRows
import Derived.Test.YtlgfdokdckaejaaMineTabN
import Derived.Test.YtlgfdokdckaejaaMineOpens
import Derived.WalkKit
import Derived.ProofKit
import Derived.OpenShut
import Derived.ShutString
import Derived.ChangeOld
import Derived.Below
import Derived.SizedLaws
import Derived.Carry
namespace Go.Proofs.Ytlgfdokdckaejaa.rowTableKeeps
open Go.ChangeShapes Go.WideShapes Go.ChangeAt Go.RowKit
open Go.ChangeMaps (open_string shut_string)
set_option linter.unusedVariables false
open Go.Proofs.Ytlgfdokdckaejaa.QTablePlays Go.Proofs.YtlgfdokdckaejaaW.PrintWords Go.Proofs.Ytlgfdokdckaejaa.MineTab
theorem opD : MineOpens.Op Try.prog 54 k54 (fun x : S54 => True ∧ x.f1.size ≤ maxLen ∧ ((∀ y ∈ x.f2, y.size ≤ maxLen) ∧ x.f2.length ≤ maxLen) ∧ (Lit.int .i64 x.f3).wf = true) :=
  MineOpens.op_iso (MineOpens.op_struct [4, 9, 45, 3] Try.underlying54 (by kernel_rfl) (by kernel_rfl) (MineOpens.fo_cons (MineOpens.op_bool Try.underlying4 (by kernel_rfl)) (MineOpens.fo_cons (MineOpens.op_string Try.underlying9 (by kernel_rfl)) (MineOpens.fo_cons (MineOpens.op_slice 9 Try.underlying45 (by kernel_rfl) (MineOpens.op_string Try.underlying9 (by kernel_rfl))) (MineOpens.fo_one (MineOpens.op_int Try.underlying3 (by kernel_rfl))))))) (fun p => ⟨p.1, p.2.1, p.2.2.1, p.2.2.2⟩) (fun _ => rfl)
theorem own : ownKnob Try.prog.godebug = none := by kernel_rfl
theorem laidOut : laidOutB Try.prog = true := by kernel_rfl
set_option maxRecDepth 100000 in
theorem lifted (os : Os) (started : os.Started) (H : Type) (enc : TypeId × Value → H) :
    ReturnsInHanded {} Try.checked os 6 .any (Rows.tableKeepsSpec.pre6 enc Try.prog Try.f6 Rows.tableKeepsRow.domain false) (Rows.tableKeepsSpec.post enc Try.prog Try.f6 false true false false) := by
  refine returnsInHanded_of_change_sized (C := Try.checked) own started (by kernel_rfl) Try.func6
    (ChangeSpec.witness6 (enc := enc) (C := Try.checked) false ⟨#[], #[.slice none 0 0, .slice none 0 0], []⟩ 8 (by kernel_rfl) (by kernel_rfl) (by kernel_rfl) (by kernel_rfl)) ?_
  intro W base args ds gs before hval0 hW hcnd hsz0 _
  have hsz : (DataW.weightsEach Try.prog (Try.f6.params.toList ++ Rows.tableKeepsSpec.plain.varTypes Try.prog) (ds ++ gs)).all (· ≤ reachBytes) = true := hsz0
  have hval : ∀ (j : Nat) t v, Try.f6.params[j]? = some t → args[j]? = some v → Value.okWide Try.prog W .any base t v := hval0
  have hW' := hW
  obtain ⟨p, q, hA0, hV, rfl, hfz, hnd⟩ := hW
  have hA : DataW.TrodAll enc Try.prog W 0 (fun _ => true) true Try.f6.params.toList args.toList ds p := hA0
  rw [Try.params6] at hA hval hsz
  obtain ⟨v0, vs0, d0, ds0, p0, q0, hargs, rfl, rfl, h0, r0⟩ := trodAll_cons hA
  obtain ⟨v1, vs1, d1, ds1, p1, q1, rfl, rfl, rfl, h1, r1⟩ := trodAll_cons r0
  obtain ⟨rfl, rfl, rfl⟩ := trodAll_nil r1
  obtain rfl : args = #[v0, v1] := by cases args; simp_all
  obtain ⟨rfl, rfl⟩ := trodVars_none hV
  have k0 := h0
  have ok0 := (hval 0 50 v0 rfl rfl)
  have lt0 : ∀ x ∈ p0, x.block < W.heap.size := by obtain ⟨m, hm⟩ := k0; exact DataW.trod_lt m _ _ _ hm
  have k1 := h1
  have ok1 := (hval 1 59 v1 rfl rfl)
  have lt1 : ∀ x ∈ p1, x.block < W.heap.size := by obtain ⟨m, hm⟩ := k1; exact DataW.trod_lt m _ _ _ hm
  clear hA0 hval0 hsz0
  obtain ⟨A0, c0, l0, rfl, e0, C0, g0, m0⟩ := MineOpens.arg_slice Try.underlying50 opD ok0 h0
  obtain ⟨A1, c1, l1, rfl, e1, C1, g1, m1⟩ := MineOpens.arg_slice Try.underlying59 (MineOpens.op_int (k := .i64) Try.underlying3 (by kernel_rfl)) ok1 h1
  clear hsz hval
  refine (TableKeeps_calls A0 A1 c0 c1 l0 l1 W C0 C1 e1).mono fun e W' ⟨he, bel⟩ => ?_
  subst he
  exact ⟨_, rfl, _, _, _, [], _, [], hW', trodAll_mk1 (shut_bool Try.underlying4 _), (trodAll_cons_mk (Below.trod laidOut (by kernel_rfl) (of_decide_eq_true (by kernel_rfl)) k0 bel lt0) (trodAll_cons_mk (Below.trod laidOut (by kernel_rfl) (of_decide_eq_true (by kernel_rfl)) k1 bel lt1) trodAll_mk0)), rfl, bel.frame _, fun h => by cases h⟩
theorem over : Rows.tableKeepsRow.holds Try.pinned (OpenSpec.ofChange Rows.tableKeepsSpec) :=
  OpenClaim.holds_of_wide 6 Try.f6 rfl rfl rfl rfl rfl rfl rfl ⟨rfl, rfl, rfl, rfl, rfl⟩ rfl rfl rfl rfl rfl (by kernel_rfl) Try.func6 (by kernel_rfl)
    (of_decide_eq_true (by kernel_rfl)) (by unfold Func.isWrapper; first | (rw [if_pos (by decide +kernel)]; kernel_rfl) | (rw [if_neg (by decide +kernel)]; exact ⟨rfl, rfl⟩))
    (fun os started H enc _ => lifted os started H enc)
theorem proved : Rows.TableKeepsSaid := over
#print axioms proved
end Go.Proofs.Ytlgfdokdckaejaa.rowTableKeeps
namespace Go.Proofs.Ytlgfdokdckaejaa
/-- The row, under a short name, for the claim. -/
theorem tableKeeps_holds : Rows.TableKeepsSaid := rowTableKeeps.proved
end Go.Proofs.Ytlgfdokdckaejaa
