/- RelocLinks: for any code, base and fixes, the program and the reference link the same. No condition. -/
import Derived.Test.YtnflalbiffamdaaRows
import Derived.Test.YtnflalbiffamdaaQRelocLinksx5
import Derived.Test.YtnflalbiffamdaaPureRelocLinks
import Derived.Test.YtnflalbiffamdaaMineOpens
import Derived.WalkKit
import Derived.ProofKit
import Derived.OpenShut
import Derived.ShutString
import Derived.ChangeOld
import Derived.Below
import Derived.SizedLaws
import Derived.Carry
namespace Go.Proofs.Ytnflalbiffamdaa.rowRelocLinks
open Go.ChangeShapes Go.WideShapes Go.ChangeAt Go.RowKit
open Go.ChangeMaps (open_string shut_string)
set_option linter.unusedVariables false
open Go.Proofs.Ytnflalbiffamdaa.QRelocLinks Go.Proofs.YtnflalbiffamdaaW.PrintWords
theorem op64 : MineOpens.Op Try.prog 64 k64 (fun _ => True ∧ True) := by
  have h := MineOpens.op_struct (d := Kd.pair (Kd.int .i64) (Kd.int .i64)) [3, 3] Try.underlying64 (by kernel_rfl) (by kernel_rfl) (MineOpens.fo_cons (MineOpens.op_int (k := .i64) Try.underlying3 (by kernel_rfl)) (MineOpens.fo_one (MineOpens.op_int (k := .i64) Try.underlying3 (by kernel_rfl))))
  obtain ⟨h1, h2⟩ := h
  refine ⟨h1, fun H enc w base spare held fuel cs x hx => ?_⟩
  obtain ⟨a, ha, _⟩ := h2 H enc w base spare held fuel cs x hx
  exact ⟨⟨a.1, a.2⟩, ha, trivial, trivial⟩
theorem own : ownKnob Try.prog.godebug = none := by kernel_rfl
theorem laidOut : laidOutB Try.prog = true := by kernel_rfl
set_option maxRecDepth 100000 in
theorem lifted (os : Os) (started : os.Started) (H : Type) (enc : TypeId × Value → H) :
    ReturnsInHanded {} Try.checked os 5 .any (Rows.relocLinksSpec.pre6 enc Try.prog Try.f5 Rows.relocLinksRow.domain false) (Rows.relocLinksSpec.post enc Try.prog Try.f5 false true false false) := by
  refine returnsInHanded_of_change_sized (C := Try.checked) own started (by kernel_rfl) Try.func5
    (ChangeSpec.witness6 (enc := enc) (C := Try.checked) false ⟨#[], #[.slice none 0 0, .int .i64 0, .slice none 0 0], []⟩ 8 (by kernel_rfl) (by kernel_rfl) (by kernel_rfl) (by kernel_rfl)) ?_
  intro W base args ds gs before hval0 hW hcnd hsz0 _
  have hsz : (DataW.weightsEach Try.prog (Try.f5.params.toList ++ Rows.relocLinksSpec.plain.varTypes Try.prog) (ds ++ gs)).all (· ≤ reachBytes) = true := hsz0
  have hval : ∀ (j : Nat) t v, Try.f5.params[j]? = some t → args[j]? = some v → Value.okWide Try.prog W .any base t v := hval0
  have hW' := hW
  obtain ⟨p, q, hA0, hV, rfl, hfz, hnd⟩ := hW
  have hA : DataW.TrodAll enc Try.prog W 0 (fun _ => true) true Try.f5.params.toList args.toList ds p := hA0
  rw [Try.params5] at hA hval hsz
  obtain ⟨v0, vs0, d0, ds0, p0, q0, hargs, rfl, rfl, h0, r0⟩ := trodAll_cons hA
  obtain ⟨v1, vs1, d1, ds1, p1, q1, rfl, rfl, rfl, h1, r1⟩ := trodAll_cons r0
  obtain ⟨v2, vs2, d2, ds2, p2, q2, rfl, rfl, rfl, h2, r2⟩ := trodAll_cons r1
  obtain ⟨rfl, rfl, rfl⟩ := trodAll_nil r2
  obtain rfl : args = #[v0, v1, v2] := by cases args; simp_all
  obtain ⟨rfl, rfl⟩ := trodVars_none hV
  have k0 := h0
  have ok0 := (hval 0 25 v0 rfl rfl)
  have lt0 : ∀ x ∈ p0, x.block < W.heap.size := by obtain ⟨m, hm⟩ := k0; exact DataW.trod_lt m _ _ _ hm
  obtain ⟨a1, rfl, rfl, rfl, w1⟩ := open_int Try.underlying3 (hval 1 3 v1 rfl rfl) h1
  have k2 := h2
  have ok2 := (hval 2 61 v2 rfl rfl)
  have lt2 : ∀ x ∈ p2, x.block < W.heap.size := by obtain ⟨m, hm⟩ := k2; exact DataW.trod_lt m _ _ _ hm
  clear hA0 hval0 hsz0
  obtain ⟨A0, c0, l0, rfl, e0, C0, g0, m0⟩ := MineOpens.arg_slice Try.underlying25 (MineOpens.op_int (k := .u32) Try.underlying22 (by kernel_rfl)) ok0 h0
  obtain ⟨A2, c2, l2, rfl, e2, C2, g2, m2⟩ := MineOpens.arg_slice Try.underlying61 (d := k64) op64 ok2 h2
  obtain ⟨kk, hk⟩ := Pure.RelocLinks l0 a1 l2 g0
  clear hsz hval
  refine (dowellaw17_RelocLinks.calls kk A0 c0 l0 a1 A2 c2 l2 true W C0 e0 C2 e2 hk).mono fun e W' ⟨he, bel⟩ => ?_
  subst he
  exact ⟨_, rfl, _, _, _, [], _, [], hW', trodAll_mk1 (shut_bool Try.underlying4 _), (trodAll_cons_mk (Below.trod laidOut (by kernel_rfl) (of_decide_eq_true (by kernel_rfl)) k0 bel lt0) (trodAll_cons_mk (shut_int Try.underlying3 w1) (trodAll_cons_mk (Below.trod laidOut (by kernel_rfl) (of_decide_eq_true (by kernel_rfl)) k2 bel lt2) trodAll_mk0))), rfl, bel.frame _, fun h => by cases h⟩
theorem over : Rows.relocLinksRow.holds Try.pinned (OpenSpec.ofChange Rows.relocLinksSpec) :=
  OpenClaim.holds_of_wide 5 Try.f5 rfl rfl rfl rfl rfl rfl rfl ⟨rfl, rfl, rfl, rfl, rfl⟩ rfl rfl rfl rfl rfl (by kernel_rfl) Try.func5 (by kernel_rfl)
    (of_decide_eq_true (by kernel_rfl)) (by unfold Func.isWrapper; first | (rw [if_pos (by decide +kernel)]; kernel_rfl) | (rw [if_neg (by decide +kernel)]; exact ⟨rfl, rfl⟩))
    (fun os started H enc _ => lifted os started H enc)
theorem proved : Rows.RelocLinksSaid := over
#print axioms proved
end Go.Proofs.Ytnflalbiffamdaa.rowRelocLinks
namespace Go.Proofs.Ytnflalbiffamdaa
/-- The row, under a short name, for the claim. -/
theorem relocLinks_holds : Rows.RelocLinksSaid := rowRelocLinks.proved
end Go.Proofs.Ytnflalbiffamdaa
