/- FilesPlay: what any files come to that are put, and deleted, one behind the other: each answer, all names, each file's bytes. For every deeds: no condition. -/
import Derived.Test.YtlgfdokdckaejaaRows
import Derived.Test.YtlgfdokdckaejaaMineFilesPlayG
import Derived.Test.YtlgfdokdckaejaaMineOpens
import Derived.WalkKit
import Derived.ProofKit
import Derived.OpenShut
import Derived.ShutString
import Derived.ChangeOld
import Derived.Below
import Derived.SizedLaws
import Derived.Carry
namespace Go.Proofs.Ytlgfdokdckaejaa.rowFilesPlay
open Go.ChangeShapes Go.WideShapes Go.ChangeAt Go.RowKit
open Go.ChangeMaps (open_string shut_string)
set_option linter.unusedVariables false
open Go.Proofs.Ytlgfdokdckaejaa.MineFilesPlay Go.Proofs.Ytlgfdokdckaejaa.QFilesPlay Go.Proofs.YtlgfdokdckaejaaW.PrintWords Go.Proofs.Ytlgfdokdckaejaa.MineFiles
theorem opD : MineOpens.Op Try.prog 32 kD (fun p => (Lit.int .i64 p.1).wf = true ∧ p.2.1.size ≤ maxLen ∧ (∀ y ∈ p.2.2, (Lit.int .u8 y).wf = true) ∧ p.2.2.length ≤ maxLen) :=
  MineOpens.op_struct [3, 9, 23] Try.underlying32 (by kernel_rfl) (by kernel_rfl) (MineOpens.fo_cons (MineOpens.op_int Try.underlying3 (by kernel_rfl)) (MineOpens.fo_cons (MineOpens.op_string Try.underlying9 (by kernel_rfl)) (MineOpens.fo_one (MineOpens.op_slice 5 Try.underlying23 (by kernel_rfl) (MineOpens.op_int (k := .u8) Try.underlying5 (by kernel_rfl))))))
theorem own : ownKnob Try.prog.godebug = none := by kernel_rfl
theorem laidOut : laidOutB Try.prog = true := by kernel_rfl
set_option maxRecDepth 100000 in
theorem lifted (os : Os) (started : os.Started) (H : Type) (enc : TypeId × Value → H) :
    ReturnsInHanded {} Try.checked os 4 .any (Rows.filesPlaySpec.pre6 enc Try.prog Try.f4 Rows.filesPlayRow.domain false) (Rows.filesPlaySpec.post enc Try.prog Try.f4 false true false false) := by
  refine returnsInHanded_of_change_sized (C := Try.checked) own started (by kernel_rfl) Try.func4
    (ChangeSpec.witness6 (enc := enc) (C := Try.checked) false ⟨#[], #[.slice none 0 0], []⟩ 8 (by kernel_rfl) (by kernel_rfl) (by kernel_rfl) (by kernel_rfl)) ?_
  intro W base args ds gs before hval0 hW hcnd hsz0 _
  have hsz : (DataW.weightsEach Try.prog (Try.f4.params.toList ++ Rows.filesPlaySpec.plain.varTypes Try.prog) (ds ++ gs)).all (· ≤ reachBytes) = true := hsz0
  have hval : ∀ (j : Nat) t v, Try.f4.params[j]? = some t → args[j]? = some v → Value.okWide Try.prog W .any base t v := hval0
  have hW' := hW
  obtain ⟨p, q, hA0, hV, rfl, hfz, hnd⟩ := hW
  have hA : DataW.TrodAll enc Try.prog W 0 (fun _ => true) true Try.f4.params.toList args.toList ds p := hA0
  rw [Try.params4] at hA hval hsz
  obtain ⟨v0, vs0, d0, ds0, p0, q0, hargs, rfl, rfl, h0, r0⟩ := trodAll_cons hA
  obtain ⟨rfl, rfl, rfl⟩ := trodAll_nil r0
  obtain rfl : args = #[v0] := by cases args; simp_all
  obtain ⟨rfl, rfl⟩ := trodVars_none hV
  have k0 := h0
  have ok0 := (hval 0 22 v0 rfl rfl)
  have lt0 : ∀ x ∈ p0, x.block < W.heap.size := by obtain ⟨m, hm⟩ := k0; exact DataW.trod_lt m _ _ _ hm
  clear hA0 hval0 hsz0
  obtain ⟨A0, c0, l0, rfl, e0, C0, g0, m0⟩ := MineOpens.arg_slice Try.underlying22 opD ok0 h0
  clear hsz hval
  refine (FilesPlay_calls A0 c0 l0 W C0).mono fun e W' ⟨he, bel⟩ => ?_
  subst he
  exact ⟨_, rfl, _, _, _, [], _, [], hW', trodAll_mk1 (shut_bool Try.underlying4 _), (trodAll_cons_mk (Below.trod laidOut (by kernel_rfl) (of_decide_eq_true (by kernel_rfl)) k0 bel lt0) trodAll_mk0), rfl, bel.frame _, fun h => by cases h⟩
theorem over : Rows.filesPlayRow.holds Try.pinned (OpenSpec.ofChange Rows.filesPlaySpec) :=
  OpenClaim.holds_of_wide 4 Try.f4 rfl rfl rfl rfl rfl rfl rfl ⟨rfl, rfl, rfl, rfl, rfl⟩ rfl rfl rfl rfl rfl (by kernel_rfl) Try.func4 (by kernel_rfl)
    (of_decide_eq_true (by kernel_rfl)) (by unfold Func.isWrapper; first | (rw [if_pos (by decide +kernel)]; kernel_rfl) | (rw [if_neg (by decide +kernel)]; exact ⟨rfl, rfl⟩))
    (fun os started H enc _ => lifted os started H enc)
theorem proved : Rows.FilesPlaySaid := over
#print axioms proved
end Go.Proofs.Ytlgfdokdckaejaa.rowFilesPlay
namespace Go.Proofs.Ytlgfdokdckaejaa
/-- The row, under a short name, for the claim. -/
theorem filesPlay_holds : Rows.FilesPlaySaid := rowFilesPlay.proved
end Go.Proofs.Ytlgfdokdckaejaa
