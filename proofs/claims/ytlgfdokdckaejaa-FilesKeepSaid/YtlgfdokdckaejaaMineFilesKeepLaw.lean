/- FilesKeep: what was put last is got, till it is deleted; what is handed in, and told, is no file's memory. For every deeds, name and bytes: no condition. -/
import Derived.Test.YtlgfdokdckaejaaRows
import Derived.Test.YtlgfdokdckaejaaMineFilesKeep
import Derived.Test.YtlgfdokdckaejaaMineOpens
import Derived.WalkKit
import Derived.ProofKit
import Derived.OpenShut
import Derived.ShutString
import Derived.ChangeOld
import Derived.Below
import Derived.SizedLaws
import Derived.Carry
namespace Go.Proofs.Ytlgfdokdckaejaa.rowFilesKeep
open Go.ChangeShapes Go.WideShapes Go.ChangeAt Go.RowKit
open Go.ChangeMaps (open_string shut_string)
set_option linter.unusedVariables false
open Go.Proofs.Ytlgfdokdckaejaa.QFilesKeep Go.Proofs.YtlgfdokdckaejaaW.PrintWords Go.Proofs.Ytlgfdokdckaejaa.MineFiles
theorem opD : MineOpens.Op Try.prog 32 kD (fun p => (Lit.int .i64 p.1).wf = true ∧ p.2.1.size ≤ maxLen ∧ (∀ y ∈ p.2.2, (Lit.int .u8 y).wf = true) ∧ p.2.2.length ≤ maxLen) :=
  MineOpens.op_struct [3, 9, 23] Try.underlying32 (by kernel_rfl) (by kernel_rfl) (MineOpens.fo_cons (MineOpens.op_int Try.underlying3 (by kernel_rfl)) (MineOpens.fo_cons (MineOpens.op_string Try.underlying9 (by kernel_rfl)) (MineOpens.fo_one (MineOpens.op_slice 5 Try.underlying23 (by kernel_rfl) (MineOpens.op_int (k := .u8) Try.underlying5 (by kernel_rfl))))))
theorem own : ownKnob Try.prog.godebug = none := by kernel_rfl
theorem laidOut : laidOutB Try.prog = true := by kernel_rfl
set_option maxRecDepth 100000 in
theorem lifted (os : Os) (started : os.Started) (H : Type) (enc : TypeId × Value → H) :
    ReturnsInHanded {} Try.checked os 3 .any (Rows.filesKeepSpec.pre6 enc Try.prog Try.f3 Rows.filesKeepRow.domain false) (Rows.filesKeepSpec.post enc Try.prog Try.f3 false true false false) := by
  refine returnsInHanded_of_change_sized (C := Try.checked) own started (by kernel_rfl) Try.func3
    (ChangeSpec.witness6 (enc := enc) (C := Try.checked) false ⟨#[], #[.slice none 0 0, .string ⟨#[]⟩, .slice none 0 0], []⟩ 8 (by kernel_rfl) (by kernel_rfl) (by kernel_rfl) (by kernel_rfl)) ?_
  intro W base args ds gs before hval0 hW hcnd hsz0 _
  have hsz : (DataW.weightsEach Try.prog (Try.f3.params.toList ++ Rows.filesKeepSpec.plain.varTypes Try.prog) (ds ++ gs)).all (· ≤ reachBytes) = true := hsz0
  have hval : ∀ (j : Nat) t v, Try.f3.params[j]? = some t → args[j]? = some v → Value.okWide Try.prog W .any base t v := hval0
  have hW' := hW
  obtain ⟨p, q, hA0, hV, rfl, hfz, hnd⟩ := hW
  have hA : DataW.TrodAll enc Try.prog W 0 (fun _ => true) true Try.f3.params.toList args.toList ds p := hA0
  rw [Try.params3] at hA hval hsz
  obtain ⟨v0, vs0, d0, ds0, p0, q0, hargs, rfl, rfl, h0, r0⟩ := trodAll_cons hA
  obtain ⟨v1, vs1, d1, ds1, p1, q1, rfl, rfl, rfl, h1, r1⟩ := trodAll_cons r0
  obtain ⟨v2, vs2, d2, ds2, p2, q2, rfl, rfl, rfl, h2, r2⟩ := trodAll_cons r1
  obtain ⟨rfl, rfl, rfl⟩ := trodAll_nil r2
  obtain rfl : args = #[v0, v1, v2] := by cases args; simp_all
  obtain ⟨rfl, rfl⟩ := trodVars_none hV
  have k0 := h0
  have ok0 := (hval 0 22 v0 rfl rfl)
  have lt0 : ∀ x ∈ p0, x.block < W.heap.size := by obtain ⟨m, hm⟩ := k0; exact DataW.trod_lt m _ _ _ hm
  obtain ⟨a1, rfl, rfl, rfl, y1⟩ := open_string Try.underlying9 (hval 1 9 v1 rfl rfl) h1
  have w1 : a1.size ≤ 140737488351232 := by
    have z := sized_string hsz (j := 1) (t := 9) rfl rfl
    rw [Array.length_toList] at z
    exact z
  have k2 := h2
  have ok2 := (hval 2 23 v2 rfl rfl)
  have lt2 : ∀ x ∈ p2, x.block < W.heap.size := by obtain ⟨m, hm⟩ := k2; exact DataW.trod_lt m _ _ _ hm
  clear hA0 hval0 hsz0
  obtain ⟨A0, c0, l0, rfl, e0, C0, g0, m0⟩ := MineOpens.arg_slice Try.underlying22 opD ok0 h0
  obtain ⟨A2, c2, l2, rfl, e2, C2, g2, m2⟩ := MineOpens.arg_slice Try.underlying23 (MineOpens.op_int (k := .u8) Try.underlying5 (by kernel_rfl)) ok2 h2
  clear hsz hval
  refine (FilesKeep_calls A0 c0 l0 a1 A2 c2 l2 W C0 w1 C2 e2).mono fun e W' ⟨he, bel⟩ => ?_
  subst he
  exact ⟨_, rfl, _, _, _, [], _, [], hW', trodAll_mk1 (shut_bool Try.underlying4 _), (trodAll_cons_mk (Below.trod laidOut (by kernel_rfl) (of_decide_eq_true (by kernel_rfl)) k0 bel lt0) (trodAll_cons_mk (shut_string Try.underlying9 y1) (trodAll_cons_mk (Below.trod laidOut (by kernel_rfl) (of_decide_eq_true (by kernel_rfl)) k2 bel lt2) trodAll_mk0))), rfl, bel.frame _, fun h => by cases h⟩
theorem over : Rows.filesKeepRow.holds Try.pinned (OpenSpec.ofChange Rows.filesKeepSpec) :=
  OpenClaim.holds_of_wide 3 Try.f3 rfl rfl rfl rfl rfl rfl rfl ⟨rfl, rfl, rfl, rfl, rfl⟩ rfl rfl rfl rfl rfl (by kernel_rfl) Try.func3 (by kernel_rfl)
    (of_decide_eq_true (by kernel_rfl)) (by unfold Func.isWrapper; first | (rw [if_pos (by decide +kernel)]; kernel_rfl) | (rw [if_neg (by decide +kernel)]; exact ⟨rfl, rfl⟩))
    (fun os started H enc _ => lifted os started H enc)
theorem proved : Rows.FilesKeepSaid := over
#print axioms proved
end Go.Proofs.Ytlgfdokdckaejaa.rowFilesKeep
namespace Go.Proofs.Ytlgfdokdckaejaa
/-- The row, under a short name, for the claim. -/
theorem filesKeep_holds : Rows.FilesKeepSaid := rowFilesKeep.proved
end Go.Proofs.Ytlgfdokdckaejaa
