/- RunMore: with more fuel, if it ended, it ends the same, and leaves the same bytes; with less it has done as many steps as there was fuel. For every blocks, place and numbers: no condition. -/
import Derived.Test.YtkeijpngfnmjoaaRows
import Derived.Test.YtkeijpngfnmjoaaMineRunB
import Derived.Test.YtkeijpngfnmjoaaMineOpens
import Derived.WalkKit
import Derived.ProofKit
import Derived.OpenShut
import Derived.ShutString
import Derived.ChangeOld
import Derived.Below
import Derived.SizedLaws
import Derived.Carry
namespace Go.Proofs.Ytkeijpngfnmjoaa.rowRunMore
open Go.ChangeShapes Go.WideShapes Go.ChangeAt Go.RowKit
open Go.ChangeMaps (open_string shut_string)
set_option linter.unusedVariables false
open Go.Proofs.Ytkeijpngfnmjoaa.QZonePlays Go.Proofs.YtkeijpngfnmjoaaW.PrintWords Go.Proofs.Ytkeijpngfnmjoaa.MineCpu
theorem i64_range {x : Int} (h : (Lit.int .i64 x).wf = true) : -9223372036854775808 ≤ x ∧ x ≤ 9223372036854775807 := by
  simp [Lit.wf, IntKind.min, IntKind.max, IntKind.signed, IntKind.bits] at h; omega
def Small (l : List Int) : Prop := (∀ y ∈ l, (Lit.int .i64 y).wf = true) ∧ l.length ≤ maxLen
def Small32 (l : List Int) : Prop := (∀ y ∈ l, (Lit.int .u32 y).wf = true) ∧ l.length ≤ maxLen
theorem opI : MineOpens.Op Try.prog 3 (Kd.int .i64) (fun z => (Lit.int .i64 z).wf = true) := MineOpens.op_int Try.underlying3 (by kernel_rfl)
theorem opU : MineOpens.Op Try.prog 23 (Kd.int .u32) (fun z => (Lit.int .u32 z).wf = true) := MineOpens.op_int Try.underlying23 (by kernel_rfl)
theorem opS : MineOpens.Op Try.prog 21 (Kd.int .i32) (fun z => (Lit.int .i32 z).wf = true) := MineOpens.op_int Try.underlying21 (by kernel_rfl)
theorem opL : MineOpens.Op Try.prog 67 (Kd.slice 3 (Kd.int .i64)) Small := MineOpens.op_slice 3 Try.underlying67 (by kernel_rfl) opI
theorem opW : MineOpens.Op Try.prog 148 (Kd.slice 23 (Kd.int .u32)) Small32 := MineOpens.op_slice 23 Try.underlying148 (by kernel_rfl) opU
theorem opZ : MineOpens.Op Try.prog 75 k82 (fun x : S82 => (Lit.int .i64 x.f0).wf = true ∧ (Lit.int .i64 x.f1).wf = true ∧ (Lit.int .i64 x.f2).wf = true ∧ (Lit.int .i64 x.f3).wf = true ∧ Small x.f4 ∧ Small x.f5) :=
  MineOpens.op_iso (MineOpens.op_struct [3, 3, 3, 3, 67, 67] Try.underlying75 (by kernel_rfl) (by kernel_rfl) (MineOpens.fo_cons opI (MineOpens.fo_cons opI (MineOpens.fo_cons opI (MineOpens.fo_cons opI (MineOpens.fo_cons opL (MineOpens.fo_one opL))))))) (fun p => ⟨p.1, p.2.1, p.2.2.1, p.2.2.2.1, p.2.2.2.2.1, p.2.2.2.2.2⟩) (fun _ => rfl)
theorem opD : MineOpens.Op Try.prog 150 kBlk (fun d : S82 × List Int => ((Lit.int .i64 d.1.f0).wf = true ∧ (Lit.int .i64 d.1.f1).wf = true ∧ (Lit.int .i64 d.1.f2).wf = true ∧ (Lit.int .i64 d.1.f3).wf = true ∧ Small d.1.f4 ∧ Small d.1.f5) ∧ Small32 d.2) :=
  MineOpens.op_struct [75, 148] Try.underlying150 (by kernel_rfl) (by kernel_rfl) (MineOpens.fo_cons opZ (MineOpens.fo_one opW))
theorem own : ownKnob Try.prog.godebug = none := by kernel_rfl
theorem laidOut : laidOutB Try.prog = true := by kernel_rfl
set_option maxRecDepth 100000 in
theorem lifted (os : Os) (started : os.Started) (H : Type) (enc : TypeId × Value → H) :
    ReturnsInHanded {} Try.checked os 10 .any (Rows.runMoreSpec.pre6 enc Try.prog Try.f10 Rows.runMoreRow.domain false) (Rows.runMoreSpec.post enc Try.prog Try.f10 false true false false) := by
  refine returnsInHanded_of_change_sized (C := Try.checked) own started (by kernel_rfl) Try.func10
    (ChangeSpec.witness6 (enc := enc) (C := Try.checked) false ⟨#[], #[.slice none 0 0, .int .i64 0, .int .i64 0, .int .i64 0], []⟩ 8 (by kernel_rfl) (by kernel_rfl) (by kernel_rfl) (by kernel_rfl)) ?_
  intro W base args ds gs before hval0 hW hcnd hsz0 _
  have hsz : (DataW.weightsEach Try.prog (Try.f10.params.toList ++ Rows.runMoreSpec.plain.varTypes Try.prog) (ds ++ gs)).all (· ≤ reachBytes) = true := hsz0
  have hval : ∀ (j : Nat) t v, Try.f10.params[j]? = some t → args[j]? = some v → Value.okWide Try.prog W .any base t v := hval0
  have hW' := hW
  obtain ⟨p, q, hA0, hV, rfl, hfz, hnd⟩ := hW
  have hA : DataW.TrodAll enc Try.prog W 0 (fun _ => true) true Try.f10.params.toList args.toList ds p := hA0
  rw [Try.params10] at hA hval hsz
  obtain ⟨v0, vs0, d0, ds0, p0, q0, hargs, rfl, rfl, h0, r0⟩ := trodAll_cons hA
  obtain ⟨v1, vs1, d1, ds1, p1, q1, rfl, rfl, rfl, h1, r1⟩ := trodAll_cons r0
  obtain ⟨v2, vs2, d2, ds2, p2, q2, rfl, rfl, rfl, h2, r2⟩ := trodAll_cons r1
  obtain ⟨v3, vs3, d3, ds3, p3, q3, rfl, rfl, rfl, h3, r3⟩ := trodAll_cons r2
  obtain ⟨rfl, rfl, rfl⟩ := trodAll_nil r3
  obtain rfl : args = #[v0, v1, v2, v3] := by cases args; simp_all
  obtain ⟨rfl, rfl⟩ := trodVars_none hV
  have k0 := h0
  have ok0 := (hval 0 95 v0 rfl rfl)
  have lt0 : ∀ x ∈ p0, x.block < W.heap.size := by obtain ⟨m, hm⟩ := k0; exact DataW.trod_lt m _ _ _ hm
  obtain ⟨a1, rfl, rfl, rfl, w1⟩ := open_int Try.underlying3 (hval 1 3 v1 rfl rfl) h1
  obtain ⟨a2, rfl, rfl, rfl, w2⟩ := open_int Try.underlying3 (hval 2 3 v2 rfl rfl) h2
  obtain ⟨a3, rfl, rfl, rfl, w3⟩ := open_int Try.underlying3 (hval 3 3 v3 rfl rfl) h3
  clear hA0 hval0 hsz0
  obtain ⟨A0, c0, l0, rfl, e0, C0, g0, m0⟩ := MineOpens.arg_slice Try.underlying95 opD ok0 h0
  have hwd : WordsP l0 := fun d hd x hx => MineWord.u32_range ((g0 d hd).2.1 x hx)
  clear hsz hval
  refine (RunMore_calls A0 c0 l0 a1 a2 a3 W C0 e0 hwd).mono fun e W' ⟨he, bel⟩ => ?_
  subst he
  exact ⟨_, rfl, _, _, _, [], _, [], hW', trodAll_mk1 (shut_bool Try.underlying4 _), (trodAll_cons_mk (Below.trod laidOut (by kernel_rfl) (of_decide_eq_true (by kernel_rfl)) k0 bel lt0) (trodAll_cons_mk (shut_int Try.underlying3 w1) (trodAll_cons_mk (shut_int Try.underlying3 w2) (trodAll_cons_mk (shut_int Try.underlying3 w3) trodAll_mk0)))), rfl, bel.frame _, fun h => by cases h⟩
theorem over : Rows.runMoreRow.holds Try.pinned (OpenSpec.ofChange Rows.runMoreSpec) :=
  OpenClaim.holds_of_wide 10 Try.f10 rfl rfl rfl rfl rfl rfl rfl ⟨rfl, rfl, rfl, rfl, rfl⟩ rfl rfl rfl rfl rfl (by kernel_rfl) Try.func10 (by kernel_rfl)
    (of_decide_eq_true (by kernel_rfl)) (by unfold Func.isWrapper; first | (rw [if_pos (by decide +kernel)]; kernel_rfl) | (rw [if_neg (by decide +kernel)]; exact ⟨rfl, rfl⟩))
    (fun os started H enc _ => lifted os started H enc)
theorem proved : Rows.RunMoreSaid := over
#print axioms proved
end Go.Proofs.Ytkeijpngfnmjoaa.rowRunMore
namespace Go.Proofs.Ytkeijpngfnmjoaa
/-- The row, under a short name, for the claim. -/
theorem runMore_holds : Rows.RunMoreSaid := rowRunMore.proved
end Go.Proofs.Ytkeijpngfnmjoaa
