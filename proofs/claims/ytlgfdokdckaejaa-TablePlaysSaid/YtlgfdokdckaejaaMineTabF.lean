/- Tables of modules: finding a module tells a copy. Conditions: the lengths are small. -/
import Derived.Test.YtlgfdokdckaejaaMineTabE
namespace Go.Proofs.Ytlgfdokdckaejaa.MineTab
open Go.RowKit Go.MapKept Go.Proofs.YtlgfdokdckaejaaW.PrintWords Go.Proofs.YtlgfdokdckaejaaW.PrintLast Go.Proofs.YtlgfdokdckaejaaW.PrintMore Go.Proofs.Ytlgfdokdckaejaa.MineBase Go.Proofs.Ytlgfdokdckaejaa.MineSep Go.Proofs.Ytlgfdokdckaejaa.MineRows Go.Proofs.Ytlgfdokdckaejaa.QTableKeeps
set_option linter.unusedVariables false
set_option linter.unusedSimpArgs false
theorem res2 {P : Program} {fn : Func} {p u : Tmp} {ty : TypeId} (h : fn.results = #[.cell p ty, .tmp u]) (tmps : Array Value) (w : World) (g : Nat) (t : TypeId) (cs : Array Value) (fr : Nat × Nat) (d : TypeDesc)
    (hp : tmps.getD p undef = .pointer (some ⟨g, 0, none⟩)) (hg : w.heap[g]? = some (.cells cs t fr))
    (hu : P.underlying ty = some d) (hd : (match d with | .struct _ | .array _ _ => true | _ => false) = true) (hi : (P.info? ty).map (·.size) = some cs.size) (x : Value) (hx : tmps.getD u undef = x) :
    (results fn tmps).run P w = .ok (.tuple #[.agg cs, x]) w := by
  rw [results_cell_tmp h, hp, hx]
  simp [asAddr, run_loadVar_row w g t ty cs fr d hg hu hd hi, Result.andThen]
theorem row_grown (W : World) (b : Nat) (cs : Array Value) : W.grownBy (W.setRow b cs) (some b) := ⟨rfl, rfl, rfl, by simp, fun i _ hi => setRow_other W b i cs (fun e => hi (by rw [e]))⟩
theorem below_row {w W : World} (h : Below w.heap.size w W) {b : Nat} (hb : w.heap.size ≤ b) (cs : Array Value) : Below w.heap.size w (W.setRow b cs) := h.grown (row_grown W b cs) h.size (fun k hk => by injection hk with hk; omega)
theorem zero_one : zeroM.all (·.oneCell') = true := by simp [zeroM, Value.oneCell']
set_option maxHeartbeats 1000000 in
set_option maxRecDepth 100000 in
theorem Find_calls {w0 w : World} {l : List Asn} {g : Nat} {most : Int} {ms : List S65} (HS : Sat w0 w (ATab w0.heap.size g most ms :: l)) (s : ByteArray) :
    Calls Try.prog 26 #[.pointer (some ⟨g, 0, none⟩), .string s] w fun e w' => Below w.heap.size w w' ∧ (atI ms s < 0 → e = .returned (.tuple #[.agg zeroM, .bool false])) ∧
      (0 ≤ atI ms s → ∃ v8 v9 v10 v11 v12, e = .returned (.tuple #[.agg (cellsM (rd_T65 ms (atI ms s)) v8 v9 v10 v11 v12), .bool true]) ∧ Kd.FK k65 w' (fun k => w.heap.size ≤ k) (rd_T65 ms (atI ms s)) (cellsM (rd_T65 ms (atI ms s)) v8 v9 v10 v11 v12).toList) := by
  replace HS := Aside0.mk HS
  go_enter Try.func26, Try.ntmps26
  go_wp2_with fail
  refine (at_calls (HS.out.alloc _) s).mono ?_
  rintro e1 w1 ⟨rfl, hb1⟩
  have HB1 := Aside0.mk (below_step (below_alloc (Below.refl w.heap.size w) _) hb1)
  have HZ := Aside0.mk (show w1.heap[w.heap.size]? = some (.cells zeroM 65 (0, 0)) from blk_below (heap_alloc_new w _) hb1)
  have hsz := blk_lt HZ.out
  clear hb1
  have hr := idxP_range (fun m : S65 => eqS m.f0 s) ms
  change -1 ≤ atI ms s ∧ atI ms s < ms.length at hr
  have HS1 := Aside0.mk (HS.out.below HB1.out)
  obtain ⟨A, c, hg, hC, _, hm, hsm, hgw⟩ := tab_open HS1.out
  have h1 : w1.cell? ⟨g, 1, none⟩ = some (.slice A ms.length c) := get_cell hg 1
  by_cases hq : atI ms s < 0
  · have HQ := Aside0.mk hq
    have hq' : decide (atI ms s < 0) = true := decide_eq_true hq
    clear hr hq hC hsm hm hg hgw h1
    go_wp2_with (refine wpList_store_row rfl 65 (.tmp 4) (.tmp 12) rfl w.heap.size zeroM rfl rfl 65 zeroM HZ.out (by kernel_rfl) rfl zero_one ?_)
    exact bodyPost_ret (v := .tuple #[.agg zeroM, .bool false]) (res2 (p := 4) (u := 5) (ty := 65) rfl _ _ w.heap.size 65 zeroM (0, 0) _ rfl (setRow_heap w1 w.heap.size zeroM zeroM 65 _ HZ.out) Try.underlying65 rfl (by kernel_rfl) (.bool false) rfl) rfl ⟨below_row HB1.out (Nat.le_refl _) _, fun _ => rfl, fun h => by have := HQ.out; omega⟩
  · have hq' : decide (atI ms s < 0) = false := decide_eq_false hq
    have p8 : 0 ≤ atI ms s := by omega
    have p9 : atI ms s ≤ 16 := by omega
    have HP := Aside0.mk p8
    have p7 : (atI ms s < (ms.length : Int)) = True := eq_true hr.2
    have hmod : rd_T65 ms (atI ms s) ∈ ms := by
      unfold rd_T65
      rw [List.getD_eq_getElem?_getD, List.getElem?_eq_getElem (by omega)]
      exact List.getElem_mem _
    have HM := Aside0.mk (hsm _ hmod)
    obtain ⟨ad, A8, c8, A9, c9, A10, c10, A11, c11, A12, c12, rfl, x0, x1, x2, x3, x4, x5, x6, x7, x8, x9, x10, x11, x12, _, h8, _, h9, _, h10, _, h11, _, h12⟩ := at_T65 hC (atI ms s) p8 hr.2
    have H8 := Aside0.mk h8
    have H9 := Aside0.mk h9
    have H10 := Aside0.mk h10
    have H11 := Aside0.mk h11
    have H12 := Aside0.mk h12
    have HSZ := Aside0.mk (And.intro hsz HB1.out.size)
    clear h8 h9 h10 h11 h12 hmod hsm hm hg hgw hC hsz hr hq
    go_wp2_with fail
    refine (own_calls (rd_T65 ms (atI ms s)) A8 A9 A10 A11 A12 c8 c9 c10 c11 c12 w1 H8.out H9.out H10.out H11.out H12.out HM.out.1 HM.out.2.1 HM.out.2.2.1 HM.out.2.2.2.1 HM.out.2.2.2.2.1 HM.out.2.2.2.2.2).mono ?_
    rintro e2 w2 ⟨v8, v9, v10, v11, v12, rfl, hF, hb2⟩
    have HB2 := Aside0.mk (below_step HB1.out hb2)
    have HZ2 := Aside0.mk (blk_below HZ.out hb2)
    have HF := Aside0.mk (And.intro hF hb2.size)
    clear hF hb2 x0 x1 x2 x3 x4 x5 x6 x7 x8 x9 x10 x11 x12
    have H1 := Aside0.mk (show (cellsM (rd_T65 ms (atI ms s)) v8 v9 v10 v11 v12).all (·.oneCell') = true from by
      have h := Kd.FK_now HF.out.1
      rw [Array.all_eq_true_iff_forall_mem]
      intro x hx
      exact k65.K_one h x (Array.mem_toList_iff.2 hx))
    go_wp2_with (refine wpList_store_row rfl 65 (.tmp 4) (.tmp 20) rfl w.heap.size (cellsM (rd_T65 ms (atI ms s)) v8 v9 v10 v11 v12) rfl rfl 65 zeroM HZ2.out (by kernel_rfl) rfl H1.out ?_)
    refine bodyPost_ret (v := .tuple #[.agg (cellsM (rd_T65 ms (atI ms s)) v8 v9 v10 v11 v12), .bool true]) (res2 (p := 4) (u := 5) (ty := 65) rfl _ _ w.heap.size 65 (cellsM (rd_T65 ms (atI ms s)) v8 v9 v10 v11 v12) (0, 0) _ rfl (setRow_heap w2 w.heap.size zeroM _ 65 _ HZ2.out) Try.underlying65 rfl (by kernel_rfl) (.bool true) rfl) rfl ⟨below_row HB2.out (Nat.le_refl _) _, fun h => by have := HP.out; omega, fun _ => ⟨v8, v9, v10, v11, v12, rfl, ?_⟩⟩
    refine Kd.FK_mono (Kd.FK_step HF.out.1 (fun k hk hlt => setRow_other w2 w.heap.size k _ ?_)) (fun k hk => Nat.le_trans HSZ.out.2 hk)
    have := HSZ.out.1
    omega
end Go.Proofs.Ytlgfdokdckaejaa.MineTab
