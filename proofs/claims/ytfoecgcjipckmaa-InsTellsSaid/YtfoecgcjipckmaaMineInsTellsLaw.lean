/- InsTells: for every instruction and every word the law returns true. No condition. -/
import Derived.Test.YtfoecgcjipckmaaRows
import Derived.Test.YtfoecgcjipckmaaMineIns
import Derived.Test.YtfoecgcjipckmaaPureIns
import Derived.Lib.SmallJoins
import Derived.WalkKit
import Derived.ProofKit
import Derived.OpenShut
import Derived.ShutString
import Derived.ChangeOld
import Derived.Below
import Derived.SizedLaws
import Derived.Carry
namespace Go.Proofs.Ytfoecgcjipckmaa.rowInsTells
open Go.ChangeShapes Go.WideShapes Go.ChangeAt Go.RowKit
open Go.ChangeMaps (open_string shut_string)
set_option linter.unusedVariables false
open Go.Proofs.Ytfoecgcjipckmaa.PureIns Go.Proofs.Ytfoecgcjipckmaa.PInsTells Go.Proofs.YtfoecgcjipckmaaW.PrintWords
theorem answer (o a b n x : Int) (h0 : 0 ≤ x) (h1 : x < 4294967296) (w : World) :
    Calls Try.prog 13 #[.agg #[.int .i64 o, .int .i64 a, .int .i64 b, .int .i64 n], .int .u32 x] w fun e w' => e = .returned (.bool true) ∧ Below w.heap.size w w' := by
  have hs := sg_range (x % 262144) (by omega) (by omega)
  by_cases hm : MayP o a b n
  · have hm' := (may_iff o a b n).2 hm
    exact MineIns.tells o a b n x _ (mayB o a b n) (mayB (x / 67108864) (x / 4194304 % 16) (x / 262144 % 16) (sg (x % 262144))) _ _ 40 w h0 h1 ⟨⟨by omega, by omega⟩⟩ ⟨rmay_val _ _ _ _⟩ ⟨may_val _ _ _ _⟩ ⟨put_yes _ _ _ _ hm⟩ ⟨fun h => by rw [hm'] at h; cases h⟩ ⟨fun _ => ⟨rfl, rput_val _ _ _ _ hm⟩⟩ ⟨get_val x h0 h1⟩ ⟨rsign_val x h0⟩ ⟨rmay_val _ _ _ _⟩
  · have hm' : mayB o a b n = false := Bool.eq_false_iff.2 (fun h => hm ((may_iff o a b n).1 h))
    exact MineIns.tells o a b n x _ (mayB o a b n) (mayB (x / 67108864) (x / 4194304 % 16) (x / 262144 % 16) (sg (x % 262144))) _ _ 40 w h0 h1 ⟨⟨by omega, by omega⟩⟩ ⟨rmay_val _ _ _ _⟩ ⟨may_val _ _ _ _⟩ ⟨put_no _ _ _ _ hm⟩ ⟨fun _ => ⟨rfl, rfl⟩⟩ ⟨fun h => by rw [hm'] at h; cases h⟩ ⟨get_val x h0 h1⟩ ⟨rsign_val x h0⟩ ⟨rmay_val _ _ _ _⟩
theorem own : ownKnob Try.prog.godebug = none := by kernel_rfl
theorem laidOut : laidOutB Try.prog = true := by kernel_rfl
set_option maxRecDepth 100000 in
theorem lifted (os : Os) (started : os.Started) (H : Type) (enc : TypeId × Value → H) :
    ReturnsInHanded {} Try.checked os 13 .any (Rows.insTellsSpec.pre6 enc Try.prog Try.f13 Rows.insTellsRow.domain false) (Rows.insTellsSpec.post enc Try.prog Try.f13 false true false false) := by
  refine returnsInHanded_of_change_sized (C := Try.checked) own started (by kernel_rfl) Try.func13
    (ChangeSpec.witness6 (enc := enc) (C := Try.checked) false ⟨#[], #[.agg #[.int .i64 0, .int .i64 0, .int .i64 0, .int .i64 0], .int .u32 0], []⟩ 8 (by kernel_rfl) (by kernel_rfl) (by kernel_rfl) (by kernel_rfl)) ?_
  intro W base args ds gs before hval0 hW hcnd hsz0 _
  have hsz : (DataW.weightsEach Try.prog (Try.f13.params.toList ++ Rows.insTellsSpec.plain.varTypes Try.prog) (ds ++ gs)).all (· ≤ reachBytes) = true := hsz0
  have hval : ∀ (j : Nat) t v, Try.f13.params[j]? = some t → args[j]? = some v → Value.okWide Try.prog W .any base t v := hval0
  have hW' := hW
  obtain ⟨p, q, hA0, hV, rfl, hfz, hnd⟩ := hW
  have hA : DataW.TrodAll enc Try.prog W 0 (fun _ => true) true Try.f13.params.toList args.toList ds p := hA0
  rw [Try.params13] at hA hval hsz
  obtain ⟨v0, vs0, d0, ds0, p0, q0, hargs, rfl, rfl, h0, r0⟩ := trodAll_cons hA
  obtain ⟨v1, vs1, d1, ds1, p1, q1, rfl, rfl, rfl, h1, r1⟩ := trodAll_cons r0
  obtain ⟨rfl, rfl, rfl⟩ := trodAll_nil r1
  obtain rfl : args = #[v0, v1] := by cases args; simp_all
  obtain ⟨rfl, rfl⟩ := trodVars_none hV
  have k0 := h0
  have ok0 := (hval 0 65 v0 rfl rfl)
  have lt0 : ∀ x ∈ p0, x.block < W.heap.size := by obtain ⟨m, hm⟩ := k0; exact DataW.trod_lt m _ _ _ hm
  obtain ⟨a1, rfl, rfl, rfl, w1⟩ := open_int Try.underlying25 (hval 1 25 v1 rfl rfl) h1
  clear hA0 hval0 hsz0
  have h0' := h0
  obtain ⟨v00, v01, v02, v03, y0, y1, y2, y3, nn, rfl, _, _, f0, f1, f2, f3⟩ := Joins.open_agg4 Try.underlying65 (by kernel_rfl) (by kernel_rfl) ok0 h0
  obtain ⟨o, ho, _, _⟩ := DataW.trod_int Try.underlying3 f0
  obtain ⟨a, ha, _, _⟩ := DataW.trod_int Try.underlying3 f1
  obtain ⟨b, hb, _, _⟩ := DataW.trod_int Try.underlying3 f2
  obtain ⟨n, hn, _, _⟩ := DataW.trod_int Try.underlying3 f3
  obtain rfl := (List.cons.inj ho).1
  obtain rfl := (List.cons.inj ha).1
  obtain rfl := (List.cons.inj hb).1
  obtain rfl := (List.cons.inj hn).1
  have hr := Pure.u32_range w1
  clear hsz hval
  refine (answer o a b n a1 hr.1 hr.2 W).mono fun e W' ⟨he, bel⟩ => ?_
  subst he
  exact ⟨_, rfl, _, _, _, [], _, [], hW', trodAll_mk1 (shut_bool Try.underlying4 _), (trodAll_cons_mk (Below.trod laidOut (by kernel_rfl) (of_decide_eq_true (by kernel_rfl)) k0 bel lt0) (trodAll_cons_mk (shut_int Try.underlying25 w1) trodAll_mk0)), rfl, bel.frame _, fun h => by cases h⟩
theorem over : Rows.insTellsRow.holds Try.pinned (OpenSpec.ofChange Rows.insTellsSpec) :=
  OpenClaim.holds_of_wide 13 Try.f13 rfl rfl rfl rfl rfl rfl rfl ⟨rfl, rfl, rfl, rfl, rfl⟩ rfl rfl rfl rfl rfl (by kernel_rfl) Try.func13 (by kernel_rfl)
    (of_decide_eq_true (by kernel_rfl)) (by unfold Func.isWrapper; first | (rw [if_pos (by decide +kernel)]; kernel_rfl) | (rw [if_neg (by decide +kernel)]; exact ⟨rfl, rfl⟩))
    (fun os started H enc _ => lifted os started H enc)
theorem proved : Rows.InsTellsSaid := over
#print axioms proved
end Go.Proofs.Ytfoecgcjipckmaa.rowInsTells
namespace Go.Proofs.Ytfoecgcjipckmaa
/-- The row, under a short name, for the claim. -/
theorem insTells_holds : Rows.InsTellsSaid := rowInsTells.proved
end Go.Proofs.Ytfoecgcjipckmaa
