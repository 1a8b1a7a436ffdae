/- Chains of an object: Valid; few parts; the document's example. No condition but those told. -/
import Derived.Test.YtnflalbiffamdaaMineRrefs
import Derived.Test.YtnflalbiffamdaaMineFew
namespace Go.Proofs.Ytnflalbiffamdaa.MineObj
open Go.RowKit Go.MapKept Go.Proofs.YtnflalbiffamdaaW.PrintWords Go.Proofs.YtnflalbiffamdaaW.PrintLast Go.Proofs.YtnflalbiffamdaaW.PrintMore Go.Proofs.Ytnflalbiffamdaa.MineBase Go.Proofs.Ytnflalbiffamdaa.MineSep Go.Proofs.Ytnflalbiffamdaa.MineRows Go.Proofs.Ytnflalbiffamdaa.MineGen Go.Proofs.Ytnflalbiffamdaa.MineName Go.Proofs.Ytnflalbiffamdaa.MineMap Go.Proofs.Ytnflalbiffamdaa.QCheckTells Go.Proofs.Ytnflalbiffamdaa.QCheckTellsPlain Go.Proofs.Ytnflalbiffamdaa.PureChain
attribute [local go_sem] Go.Proofs.Ytnflalbiffamdaa.MineErr.eql_err Go.Proofs.Ytnflalbiffamdaa.MineErr.neq_err Go.Proofs.Ytnflalbiffamdaa.MineErr.eql_nil_err Go.Proofs.Ytnflalbiffamdaa.MineErr.neq_nil_err
attribute [local go_sem ↓] Go.wp_at_zero Go.wp_at_succ
set_option linter.unusedVariables false
set_option linter.unusedSimpArgs false
/-! ### Valid -/
theorem arr_none : arrV [] = #[.slice none 0 0, .slice none 0 0, .slice none 0 0] := rfl
theorem arr_some (a b c : Value) : arrV [a, b, c] = #[a, b, c] := rfl

set_option maxRecDepth 100000 in
set_option maxHeartbeats 8000000 in
theorem valid_calls (o : Ob) (a : Oa) (w : World) (n2 n3 n6 n7 n8 n9 n10 : Nat) (e2 : n2 = o.imps.length) (e3 : n3 = o.typs.length) (e6 : n6 = o.code.length) (e7 : n7 = o.cmds.length) (e8 : n8 = o.exps.length) (e9 : n9 = o.ptrs.length) (e10 : n10 = o.procs.length) (hO : ObR o a w) (hF : FewOk o) (hS : Sane o) (r : Option (List (List Rf))) (hr : refsF o = r) :
    Calls Try.prog 39 #[.agg #[.string o.nm, .int .u32 o.key, .slice a.A2 n2 a.c2, .slice a.A3 n3 a.c3, .int .i64 o.data, .string o.text, .slice a.A6 n6 a.c6, .slice a.A7 n7 a.c7, .slice a.A8 n8 a.c8, .slice a.A9 n9 a.c9, .slice a.A10 n10 a.c10, .int .i64 o.x0, .int .i64 o.x1, .int .i64 o.x2, .int .i64 o.body]] w fun e w' => e = .returned (.bool r.isSome) ∧ Below w.heap.size w w' := by
  have HO := Aside0.mk hO
  have HR := Aside0.mk hr
  have HE := Aside0.mk (And.intro e2 (And.intro e3 (And.intro e6 (And.intro e7 (And.intro e8 (And.intro e9 e10))))))
  have hu31 := Try.underlying31
  have HF := Aside0.mk hF
  have HS := Aside0.mk hS
  clear hO hr hF hS e2 e3 e6 e7 e8 e9 e10
  have hu86 := Try.underlying86
  go_enter Try.func39, Try.ntmps39
  go_wp2_with fail
  have hW := Aside0.mk (blk_new (Sat.start w) (.cells #[.string o.nm, .int .u32 o.key, .slice a.A2 n2 a.c2, .slice a.A3 n3 a.c3, .int .i64 o.data, .string o.text, .slice a.A6 n6 a.c6, .slice a.A7 n7 a.c7, .slice a.A8 n8 a.c8, .slice a.A9 n9 a.c9, .slice a.A10 n10 a.c10, .int .i64 o.x0, .int .i64 o.x1, .int .i64 o.x2, .int .i64 o.body] 31))
  generalize w.alloc (.cells #[.string o.nm, .int .u32 o.key, .slice a.A2 n2 a.c2, .slice a.A3 n3 a.c3, .int .i64 o.data, .string o.text, .slice a.A6 n6 a.c6, .slice a.A7 n7 a.c7, .slice a.A8 n8 a.c8, .slice a.A9 n9 a.c9, .slice a.A10 n10 a.c10, .int .i64 o.x0, .int .i64 o.x1, .int .i64 o.x2, .int .i64 o.body] 31) = Wz at *
  have hq := prefs_calls o a Wz n2 n3 n6 n7 n8 n9 n10 HE.out.1 HE.out.2.1 HE.out.2.2.1 HE.out.2.2.2.1 HE.out.2.2.2.2.1 HE.out.2.2.2.2.2.1 HE.out.2.2.2.2.2.2 (HO.out.sat hW.out) HF.out HS.out r HR.out
  (with_reducible refine hq.mono ?_)
  clear hq
  rintro e1 w1 ⟨vs, rfl, hS1⟩
  have HVS := Aside0.mk (vs_cells (o := o) hS1 (show refsF o = r from HR.out))
  have HB1 := Aside0.mk (hW.out.below hS1.toBelow)
  clear hS1
  have HX := Aside0.mk (blk_new HB1.out (.cells #[.slice none 0 0, .slice none 0 0, .slice none 0 0] 86))
  go_wp2_with (refine wpList_store_row rfl 86 (.tmp 3) (.tmp 8) rfl w1.heap.size (arrV vs) rfl rfl 86 _ (blk_at HX.out) (by rw [HVS.out.1]; kernel_rfl) HVS.out.1.symm HVS.out.2 ?_; have HZ := Aside0.mk (blk_row (cs := arrV vs) HX.out))
  go_ret
  exact ⟨by rfl, HZ.out.toBelow⟩
end Go.Proofs.Ytnflalbiffamdaa.MineObj
