/- InsBack: for every instruction and every word the law returns true: what was put is got, what was got is put. No condition. -/
import Derived.Test.YtfoecgcjipckmaaRows
import Derived.Test.YtfoecgcjipckmaaMineIns
import Derived.Test.YtfoecgcjipckmaaPureIns
import Derived.Lib.SmallJoins
import Derived.WalkKit
import Derived.ProofKit
import Derived.OpenShut
import Derived.ShutString
import Derived.ChangeOld
import Derived.Below
import Derived.SizedLaws
import Derived.Carry
namespace Go.Proofs.Ytfoecgcjipckmaa.rowInsBack
open Go.ChangeShapes Go.WideShapes Go.ChangeAt Go.RowKit
open Go.ChangeMaps (open_string shut_string)
set_option linter.unusedVariables false
open Go.Proofs.Ytfoecgcjipckmaa.PureIns Go.Proofs.Ytfoecgcjipckmaa.PInsTells Go.Proofs.YtfoecgcjipckmaaW.PrintWords
theorem answer (o a b n x : Int) (h0 : 0 ≤ x) (h1 : x < 4294967296) (w : World) :
    Calls Try.prog 14 #[.agg #[.int .i64 o, .int .i64 a, .int .i64 b, .int .i64 n], .int .u32 x] w fun e w' => e = .returned (.bool true) ∧ Below w.heap.size w w' := by
  have hx : mayB (x / 67108864) (x / 4194304 % 16) (x / 262144 % 16) (sg (x % 262144)) = true → ins_Put.f (x / 67108864) (x / 4194304 % 16) (x / 262144 % 16) (sg (x % 262144)) = some (x, none) ∧ ins_May.f (x / 67108864) (x / 4194304 % 16) (x / 262144 % 16) (sg (x % 262144)) = some true := by
    intro h
    have hp := put_yes _ _ _ _ ((may_iff _ _ _ _).1 h)
    rw [back2 x h0 h1] at hp
    exact ⟨hp, by rw [may_val, h]⟩
  by_cases hm : MayP o a b n
  · exact MineIns.back o a b n x _ true (mayB (x / 67108864) (x / 4194304 % 16) (x / 262144 % 16) (sg (x % 262144))) _ _ w ⟨put_yes _ _ _ _ hm⟩ ⟨fun _ => ⟨rfl, get_word _ _ _ _ hm⟩⟩ ⟨fun h => by cases h⟩ ⟨get_val x h0 h1⟩ ⟨hx⟩
  · exact MineIns.back o a b n x _ false (mayB (x / 67108864) (x / 4194304 % 16) (x / 262144 % 16) (sg (x % 262144))) _ _ w ⟨put_no _ _ _ _ hm⟩ ⟨fun h => by cases h⟩ ⟨fun _ => rfl⟩ ⟨get_val x h0 h1⟩ ⟨hx⟩
theorem own : ownKnob Try.prog.godebug = none := by kernel_rfl
theorem laidOut : laidOutB Try.prog = true := by kernel_rfl
set_option maxRecDepth 100000 in
theorem lifted (os : Os) (started : os.Started) (H : Type) (enc : TypeId × Value → H) :
    ReturnsInHanded {} Try.checked os 14 .any (Rows.insBackSpec.pre6 enc Try.prog Try.f14 Rows.insBackRow.domain false) (Rows.insBackSpec.post enc Try.prog Try.f14 false true false false) := by
  refine returnsInHanded_of_change_sized (C := Try.checked) own started (by kernel_rfl) Try.func14
    (ChangeSpec.witness6 (enc := enc) (C := Try.checked) false ⟨#[], #[.agg #[.int .i64 0, .int .i64 0, .int .i64 0, .int .i64 0], .int .u32 0], []⟩ 8 (by kernel_rfl) (by kernel_rfl) (by kernel_rfl) (by kernel_rfl)) ?_
  intro W base args ds gs before hval0 hW hcnd hsz0 _
  have hsz : (DataW.weightsEach Try.prog (Try.f14.params.toList ++ Rows.insBackSpec.plain.varTypes Try.prog) (ds ++ gs)).all (· ≤ reachBytes) = true := hsz0
  have hval : ∀ (j : Nat) t v, Try.f14.params[j]? = some t → args[j]? = some v → Value.okWide Try.prog W .any base t v := hval0
  have hW' := hW
  obtain ⟨p, q, hA0, hV, rfl, hfz, hnd⟩ := hW
  have hA : DataW.TrodAll enc Try.prog W 0 (fun _ => true) true Try.f14.params.toList args.toList ds p := hA0
  rw [Try.params14] at hA hval hsz
  obtain ⟨v0, vs0, d0, ds0, p0, q0, hargs, rfl, rfl, h0, r0⟩ := trodAll_cons hA
  obtain ⟨v1, vs1, d1, ds1, p1, q1, rfl, rfl, rfl, h1, r1⟩ := trodAll_cons r0
  obtain ⟨rfl, rfl, rfl⟩ := trodAll_nil r1
  obtain rfl : args = #[v0, v1] := by cases args; simp_all
  obtain ⟨rfl, rfl⟩ := trodVars_none hV
  have k0 := h0
  have ok0 := (hval 0 65 v0 rfl rfl)
  have lt0 : ∀ x ∈ p0, x.block < W.heap.size := by obtain ⟨m, hm⟩ := k0; exact DataW.trod_lt m _ _ _ hm
  obtain ⟨a1, rfl, rfl, rfl, w1⟩ := open_int Try.underlying25 (hval 1 25 v1 rfl rfl) h1
  clear hA0 hval0 hsz0
  have h0' := h0
  obtain ⟨v00, v01, v02, v03, y0, y1, y2, y3, nn, rfl, _, _, f0, f1, f2, f3⟩ := Joins.open_agg4 Try.underlying65 (by kernel_rfl) (by kernel_rfl) ok0 h0
  obtain ⟨o, ho, _, _⟩ := DataW.trod_int Try.underlying3 f0
  obtain ⟨a, ha, _, _⟩ := DataW.trod_int Try.underlying3 f1
  obtain ⟨b, hb, _, _⟩ := DataW.trod_int Try.underlying3 f2
  obtain ⟨n, hn, _, _⟩ := DataW.trod_int Try.underlying3 f3
  obtain rfl := (List.cons.inj ho).1
  obtain rfl := (List.cons.inj ha).1
  obtain rfl := (List.cons.inj hb).1
  obtain rfl := (List.cons.inj hn).1
  have hr := Pure.u32_range w1
  clear hsz hval
  refine (answer o a b n a1 hr.1 hr.2 W).mono fun e W' ⟨he, bel⟩ => ?_
  subst he
  exact ⟨_, rfl, _, _, _, [], _, [], hW', trodAll_mk1 (shut_bool Try.underlying4 _), (trodAll_cons_mk (Below.trod laidOut (by kernel_rfl) (of_decide_eq_true (by kernel_rfl)) k0 bel lt0) (trodAll_cons_mk (shut_int Try.underlying25 w1) trodAll_mk0)), rfl, bel.frame _, fun h => by cases h⟩
theorem over : Rows.insBackRow.holds Try.pinned (OpenSpec.ofChange Rows.insBackSpec) :=
  OpenClaim.holds_of_wide 14 Try.f14 rfl rfl rfl rfl rfl rfl rfl ⟨rfl, rfl, rfl, rfl, rfl⟩ rfl rfl rfl rfl rfl (by kernel_rfl) Try.func14 (by kernel_rfl)
    (of_decide_eq_true (by kernel_rfl)) (by unfold Func.isWrapper; first | (rw [if_pos (by decide +kernel)]; kernel_rfl) | (rw [if_neg (by decide +kernel)]; exact ⟨rfl, rfl⟩))
    (fun os started H enc _ => lifted os started H enc)
theorem proved : Rows.InsBackSaid := over
#print axioms proved
end Go.Proofs.Ytfoecgcjipckmaa.rowInsBack
namespace Go.Proofs.Ytfoecgcjipckmaa
/-- The row, under a short name, for the claim. -/
theorem insBack_holds : Rows.InsBackSaid := rowInsBack.proved
end Go.Proofs.Ytfoecgcjipckmaa
