/- CpuGuards: a declared cell that may have its value has one that it may have behind each step; only what can be stored is ever changed. Conditions: the words are words. -/
import Derived.ChangeKeysEq
import Derived.Test.YtkeijpngfnmjoaaWEqStruct
import Derived.Test.YtkeijpngfnmjoaaGCpuC
namespace Go.Proofs.Ytkeijpngfnmjoaa.MineCpu
open Go.Lib Go.Shelf Go.RowKit Go.MapKept Go.Proofs.YtkeijpngfnmjoaaW.PrintWords Go.Proofs.YtkeijpngfnmjoaaW.PrintLast Go.Proofs.YtkeijpngfnmjoaaW.PrintMore Go.Proofs.Ytkeijpngfnmjoaa.MineBase Go.Proofs.Ytkeijpngfnmjoaa.MineSep Go.Proofs.Ytkeijpngfnmjoaa.MineRows Go.Proofs.Ytkeijpngfnmjoaa.MineGen Go.Proofs.Ytkeijpngfnmjoaa.QZonePlays Go.Proofs.Ytkeijpngfnmjoaa.MineMap Go.Proofs.Ytkeijpngfnmjoaa.MineZone Go.Proofs.Ytkeijpngfnmjoaa.MineMem Go.Proofs.Ytkeijpngfnmjoaa.MineWord Go.Proofs.Ytkeijpngfnmjoaa.QMemPlays Go.Proofs.Ytkeijpngfnmjoaa.QCpuGuards Go.Proofs.Ytkeijpngfnmjoaa.QCpuGuardsPlain
attribute [local go_sem ↓] Go.wp_at_zero Go.wp_at_succ
set_option linter.unusedVariables false
set_option linter.unusedSimpArgs false
attribute [local go_sem] Go.Proofs.Ytkeijpngfnmjoaa.MineErr.eql_err Go.Proofs.Ytkeijpngfnmjoaa.MineErr.neq_err Go.Proofs.Ytkeijpngfnmjoaa.MineErr.eql_nil_err Go.Proofs.Ytkeijpngfnmjoaa.MineErr.neq_nil_err
/-- The first i registers. -/
def layR (r : List Int) (i : Nat) : List Int := r.take i ++ List.replicate (16 - i) 0
theorem layR_len (r : List Int) (i : Nat) (h : i ≤ r.length) (h2 : r.length ≤ 16) : (layR r i).length = 16 := by
  unfold layR
  rw [List.length_append, List.length_take, List.length_replicate]
  omega
theorem layR_set (r : List Int) (i : Nat) (h : i < r.length) (h2 : r.length ≤ 16) : (layR r i).set i r[i] = layR r (i + 1) := by
  unfold layR
  have e1 : (r.take i).length = i := by rw [List.length_take]; omega
  rw [List.set_append_right _ _ (by omega), e1, Nat.sub_self, show 16 - i = (16 - (i + 1)) + 1 by omega, List.replicate_succ, List.set_cons_zero, List.take_succ_eq_append_getElem h, List.append_assoc]
  rfl
theorem list16 (l : List Int) (h : l.length = 16) : ∃ r0 r1 r2 r3 r4 r5 r6 r7 r8 r9 r10 r11 r12 r13 r14 r15, l = [r0, r1, r2, r3, r4, r5, r6, r7, r8, r9, r10, r11, r12, r13, r14, r15] := by
  match l, h with
  | [r0, r1, r2, r3, r4, r5, r6, r7, r8, r9, r10, r11, r12, r13, r14, r15], _ => exact ⟨_, _, _, _, _, _, _, _, _, _, _, _, _, _, _, _, rfl⟩
theorem same_items (w : World) (xs : Array Value) (n : Nat) (h : ∀ i, i < n → ∃ x, xs[i]? = some (.int .i32 x)) : ∀ is : List Nat, (∀ i ∈ is, i < n) → (Op.eqItems 9998 21 (Try.prog.cellsOf 21) xs xs is).run Try.prog w = .ok true w
  | [], _ => by simp [Op.eqItems]
  | i :: is, hi => by
    obtain ⟨x, hx⟩ := h i (hi i List.mem_cons_self)
    have hc : Try.prog.cellsOf 21 = 1 := by kernel_rfl
    have hl : i < xs.size := (Array.getElem?_eq_some_iff.1 hx).1
    have hp : (part 21 xs (i * Try.prog.cellsOf 21)).run Try.prog w = .ok (.int .i32 x) w := by
      rw [hc, Nat.mul_one]
      simp [part, isAgg, run_underlying Try.underlying21, hx]
    have he : (Op.equalIn 9998 21 (.int .i32 x) (.int .i32 x)).run Try.prog w = .ok true w := by
      rw [run_equalIn_int w 9997 21 .i32 .i32 x x Try.underlying21]
      simp
    simp only [Op.eqItems, Sem.run_bind, hp, he, Result.andThen_ok, Bool.not_true, Bool.false_eq_true, if_false]
    exact same_items w xs n h is (fun j hj => hi j (List.mem_cons_of_mem _ hj))
theorem same_regs (w : World) (r0 r1 r2 r3 r4 r5 r6 r7 r8 r9 r10 r11 r12 r13 r14 r15 : Int) : (Op.equalIn 9999 102 (.agg #[.int .i32 r0, .int .i32 r1, .int .i32 r2, .int .i32 r3, .int .i32 r4, .int .i32 r5, .int .i32 r6, .int .i32 r7, .int .i32 r8, .int .i32 r9, .int .i32 r10, .int .i32 r11, .int .i32 r12, .int .i32 r13, .int .i32 r14, .int .i32 r15]) (.agg #[.int .i32 r0, .int .i32 r1, .int .i32 r2, .int .i32 r3, .int .i32 r4, .int .i32 r5, .int .i32 r6, .int .i32 r7, .int .i32 r8, .int .i32 r9, .int .i32 r10, .int .i32 r11, .int .i32 r12, .int .i32 r13, .int .i32 r14, .int .i32 r15])).run Try.prog w = .ok true w := by
  obtain ⟨i, hi⟩ := Option.isSome_iff_exists.1 (show (Try.prog.info? 21).isSome = true by kernel_rfl)
  rw [run_equalIn_array w 9998 _ _ Try.underlying102 hi]
  refine same_items w _ 16 (fun i hi => ?_) _ (fun i hi => List.mem_range.1 hi)
  match i, hi with
  | 0, _ => exact ⟨_, rfl⟩
  | 1, _ => exact ⟨_, rfl⟩
  | 2, _ => exact ⟨_, rfl⟩
  | 3, _ => exact ⟨_, rfl⟩
  | 4, _ => exact ⟨_, rfl⟩
  | 5, _ => exact ⟨_, rfl⟩
  | 6, _ => exact ⟨_, rfl⟩
  | 7, _ => exact ⟨_, rfl⟩
  | 8, _ => exact ⟨_, rfl⟩
  | 9, _ => exact ⟨_, rfl⟩
  | 10, _ => exact ⟨_, rfl⟩
  | 11, _ => exact ⟨_, rfl⟩
  | 12, _ => exact ⟨_, rfl⟩
  | 13, _ => exact ⟨_, rfl⟩
  | 14, _ => exact ⟨_, rfl⟩
  | 15, _ => exact ⟨_, rfl⟩
  | k + 16, h => exact absurd h (by omega)
theorem same_state (w : World) (r0 r1 r2 r3 r4 r5 r6 r7 r8 r9 r10 r11 r12 r13 r14 r15 pp : Int) : (binOp .neq 104 (.agg #[.int .i32 r0, .int .i32 r1, .int .i32 r2, .int .i32 r3, .int .i32 r4, .int .i32 r5, .int .i32 r6, .int .i32 r7, .int .i32 r8, .int .i32 r9, .int .i32 r10, .int .i32 r11, .int .i32 r12, .int .i32 r13, .int .i32 r14, .int .i32 r15, .int .i64 pp]) (.agg #[.int .i32 r0, .int .i32 r1, .int .i32 r2, .int .i32 r3, .int .i32 r4, .int .i32 r5, .int .i32 r6, .int .i32 r7, .int .i32 r8, .int .i32 r9, .int .i32 r10, .int .i32 r11, .int .i32 r12, .int .i32 r13, .int .i32 r14, .int .i32 r15, .int .i64 pp])).run Try.prog w = .ok (.bool false) w := by
  have hsame := fun w' => same_regs w' r0 r1 r2 r3 r4 r5 r6 r7 r8 r9 r10 r11 r12 r13 r14 r15
  have hu := Try.underlying104
  have hu3 := Try.underlying3
  have hu102 := Try.underlying102
  obtain ⟨i, hi⟩ := Option.isSome_iff_exists.1 (show (Try.prog.info? 102).isSome = true by kernel_rfl)
  have hc : Try.prog.cellsOf 102 = 16 := by kernel_rfl
  have hp : (part 102 #[.int .i32 r0, .int .i32 r1, .int .i32 r2, .int .i32 r3, .int .i32 r4, .int .i32 r5, .int .i32 r6, .int .i32 r7, .int .i32 r8, .int .i32 r9, .int .i32 r10, .int .i32 r11, .int .i32 r12, .int .i32 r13, .int .i32 r14, .int .i32 r15, .int .i64 pp] 0).run Try.prog w = .ok (.agg #[.int .i32 r0, .int .i32 r1, .int .i32 r2, .int .i32 r3, .int .i32 r4, .int .i32 r5, .int .i32 r6, .int .i32 r7, .int .i32 r8, .int .i32 r9, .int .i32 r10, .int .i32 r11, .int .i32 r12, .int .i32 r13, .int .i32 r14, .int .i32 r15]) w := by
    simp [part, isAgg, run_underlying hu102, run_sizeOf w hi, hc]
  have hq : (Op.equalIn 10000 104 (.agg #[.int .i32 r0, .int .i32 r1, .int .i32 r2, .int .i32 r3, .int .i32 r4, .int .i32 r5, .int .i32 r6, .int .i32 r7, .int .i32 r8, .int .i32 r9, .int .i32 r10, .int .i32 r11, .int .i32 r12, .int .i32 r13, .int .i32 r14, .int .i32 r15, .int .i64 pp]) (.agg #[.int .i32 r0, .int .i32 r1, .int .i32 r2, .int .i32 r3, .int .i32 r4, .int .i32 r5, .int .i32 r6, .int .i32 r7, .int .i32 r8, .int .i32 r9, .int .i32 r10, .int .i32 r11, .int .i32 r12, .int .i32 r13, .int .i32 r14, .int .i32 r15, .int .i64 pp])).run Try.prog w = .ok true w := by
    refine eqA_of (d := 9999) hu (by kernel_rfl) ?_
    refine eqf_cons (by rfl) (a := .agg #[.int .i32 r0, .int .i32 r1, .int .i32 r2, .int .i32 r3, .int .i32 r4, .int .i32 r5, .int .i32 r6, .int .i32 r7, .int .i32 r8, .int .i32 r9, .int .i32 r10, .int .i32 r11, .int .i32 r12, .int .i32 r13, .int .i32 r14, .int .i32 r15]) (b := .agg #[.int .i32 r0, .int .i32 r1, .int .i32 r2, .int .i32 r3, .int .i32 r4, .int .i32 r5, .int .i32 r6, .int .i32 r7, .int .i32 r8, .int .i32 r9, .int .i32 r10, .int .i32 r11, .int .i32 r12, .int .i32 r13, .int .i32 r14, .int .i32 r15]) (r := true) (s := true) ?_ ?_ (hsame w) ?_
    · exact hp
    · exact hp
    · refine eqf_cons (by rfl) (a := .int .i64 pp) (b := .int .i64 pp) (r := true) (s := true) ?_ ?_ ?_ (eqf_nil)
      · simp [part, isAgg, run_underlying hu3]
      · simp [part, isAgg, run_underlying hu3]
      · show (Op.equalIn (9998 + 1) 3 _ _).run _ _ = _
        rw [run_equalIn_int w 9998 3 .i64 .i64 pp pp hu3]
        simp
  rw [run_neq_struct, hq]
  rfl
theorem quiet_load {P : Program} {o : Oper} {a : Act} {C : World → Prop} {K : Act → Prop} (ty : TypeId) (x : Operand) (ho : o.op = .load ty x) (ad : Addr) (v : Value) (hx : a.eval x = .pointer (some ad)) (hl : ∀ w, C w → (loadVar ty ad).run P w = .ok v w) (hk : K (a.put o.dst v)) : o.quiet P a C K := by
  refine ⟨v, fun w hw => ?_, hk⟩
  unfold Oper.quietAt execOp
  simp only [ho, hx, Instr.loadAt, Instr.sureAddr, Sem.run_bind, Sem.run_pure, Result.andThen_ok, hl w hw]
  exact ⟨rfl, rfl⟩
theorem below_setRow_new (w : World) (old cs : Array Value) (t : TypeId) : Below w.heap.size w ((w.alloc (.cells old t)).setRow w.heap.size cs) :=
  (blk_row (cs := cs) (blk_new (Sat.start w) (.cells old t))).toBelow
theorem old_block {w0 w : World} {s g r z m n : Nat} {regs : List Int} {pl : Int} {bs : List Int} {zs : List S82} {l : List Asn} {o : Obj} {b : Nat} (h : CS w0 w s g r z m n regs pl bs zs (ABlk b o :: l)) : w.heap[b]? = some o := blk_at h.tail
set_option maxHeartbeats 16000000 in
set_option maxRecDepth 100000 in
theorem CpuGuards_calls (A : Option Addr) (c : Nat) (l : List (S82 × List Int)) (A1 : Option Addr) (c1 : Nat) (rr : List Int) (at_ steps : Int) (w : World) (hC : kBlk.C w A l.length l) (hle : l.length ≤ c) (hR : (Kd.int .i32).C w A1 rr.length rr) (hle1 : rr.length ≤ c1) (hW : WordsP l) :
    Calls Try.prog 9 #[.slice A l.length c, .slice A1 rr.length c1, .int .i64 at_, .int .i64 steps] w fun e w' => e = .returned (.bool true) ∧ Below w.heap.size w w' := by
  have HC0 := Aside0.mk hC
  have HR0 := Aside0.mk hR
  have HW := Aside0.mk hW
  have HLE := Aside0.mk (And.intro hle hle1)
  have hq := up7_calls w
  have hu104 := Try.underlying104
  clear hC hR hW
  go_enter Try.func9, Try.ntmps9
  go_wp2_with fail
  (with_reducible refine hq.mono ?_)
  rintro e1 w1 ⟨rfl, hb1⟩
  have HB1 := Aside0.mk hb1
  have HC1 := Aside0.mk (Kd.C_below HC0.out hb1)
  have HR1 := Aside0.mk (Kd.C_below HR0.out hb1)
  clear hq hb1 HC0 HR0
  have HQ := Aside0.mk (Few_calls A c l w1 HC1.out hle)
  cases hf : fewL l with
  | false =>
    rw [hf] at HQ
    clear hf
    go_wp2_with fail
    (with_reducible refine HQ.out.mono ?_)
    rintro e2 w2 ⟨rfl, hb2⟩
    have HB2 := Aside0.mk (below_then HB1.out HB1.out.size hb2)
    clear HQ hb2
    go_wp2_with fail
    go_ret
    exact ⟨by rfl, HB2.out⟩
  | true =>
    have HF := Aside0.mk ((fewL_iff l).1 hf)
    rw [hf] at HQ
    clear hf
    by_cases s0 : steps < 0
    · have d1 : decide (steps < 0) = true := decide_eq_true s0
      clear s0
      go_wp2_with fail
      (with_reducible refine HQ.out.mono ?_)
      rintro e2 w2 ⟨rfl, hb2⟩
      have HB2 := Aside0.mk (below_then HB1.out HB1.out.size hb2)
      clear HQ hb2
      go_wp2_with fail
      go_ret
      exact ⟨by rfl, HB2.out⟩
    have d1 : decide (steps < 0) = false := decide_eq_false s0
    have d1' : (steps < 0) = False := eq_false s0
    by_cases s1 : 40 < steps
    · have d2 : decide (40 < steps) = true := decide_eq_true s1
      clear s0 s1
      go_wp2_with fail
      (with_reducible refine HQ.out.mono ?_)
      rintro e2 w2 ⟨rfl, hb2⟩
      have HB2 := Aside0.mk (below_then HB1.out HB1.out.size hb2)
      clear HQ hb2
      go_wp2_with fail
      go_ret
      exact ⟨by rfl, HB2.out⟩
    have d2 : decide (40 < steps) = false := decide_eq_false s1
    have d2' : (40 < steps) = False := eq_false s1
    by_cases s2 : rr.length ≤ 16
    case neg =>
      have d3 : decide ((16 : Int) < (rr.length : Int)) = true := decide_eq_true (by omega)
      clear s0 s1 s2
      go_wp2_with fail
      (with_reducible refine HQ.out.mono ?_)
      rintro e2 w2 ⟨rfl, hb2⟩
      have HB2 := Aside0.mk (below_then HB1.out HB1.out.size hb2)
      clear HQ hb2
      go_wp2_with fail
      go_ret
      exact ⟨by rfl, HB2.out⟩
    have d3 : decide ((16 : Int) < (rr.length : Int)) = false := decide_eq_false (by omega)
    have d3' : ((16 : Int) < (rr.length : Int)) = False := eq_false (by omega)
    have d3'' : (16 < rr.length) = False := eq_false (by omega)
    have HST := Aside0.mk (show 0 ≤ steps ∧ steps ≤ 40 ∧ rr.length ≤ 16 by omega)
    clear s0 s1 s2
    go_wp2_with fail
    (with_reducible refine HQ.out.mono ?_)
    rintro e2 w2 ⟨rfl, hb2⟩
    have HB2 := Aside0.mk (below_then HB1.out HB1.out.size hb2)
    have HC2 := Aside0.mk (Kd.C_below HC1.out hb2)
    have HR2 := Aside0.mk (Kd.C_below HR1.out hb2)
    clear HQ hb2 HC1 HR1 HB1
    have HQ := Aside0.mk (Begun_calls (Sat.start w2) A c l HC2.out HLE.out.1 HF.out HW.out)
    go_wp2_with fail
    (with_reducible refine HQ.out.mono ?_)
    rintro e3 w3 ⟨z, m, g, r, xb, br, rfl, hB3⟩
    obtain ⟨v, ds, hC3, _⟩ := hB3.toCS (by have := HF.out.2; omega) at_
    have HC3 := Aside0.mk hC3
    have HI := Aside0.mk (zsN_inv l l.length)
    clear HQ hB3 hC3 d1 d1' d2 d2' d3 d3' d3''
    generalize zsN l l.length = zs at HC3 HI
    generalize docL w2 v ds xb br (bsN l l.length) [] = L at HC3
    generalize bsN l l.length = B at HC3
    generalize l.length = n at HC3 ⊢
    go_upto_region 8 with (fail)
    refine wp_abs (fun W => CS w2 W w3.heap.size g r z m n (layR rr 0) at_ B zs L) HC3.out (fun W4 hC4 => ?_)
    have HC4 := Aside0.mk hC4
    clear HC3 hC4
    generalize w3.heap.size = sb at HC4 ⊢
    go_wp2_with fail
    go_loopg [14] (rr.length + 1) (fun kq v14 w' => ∃ i : Nat, v14 = .int .i64 i ∧ Aside0 (i ≤ rr.length ∧ rr.length - i < kq) ∧ Aside0 (CS w2 w' sb g r z m n (layR rr i) at_ B zs L))
    case atStart => exact ⟨0, rfl, ⟨by omega⟩, HC4⟩
    case round =>
      clear HC4
      obtain ⟨i, rfl, Hi, HC⟩ := hrel
      by_cases hlt : i < rr.length
      · obtain ⟨ad, eA, _⟩ := HR2.out.2.2 (by omega)
        subst eA
        have hx : rr[i]? = some rr[i] := List.getElem?_eq_getElem hlt
        have y0 := pw_cell_below HC.out.toBelow (C_cell HR2.out i _ hx)
        have f0 := HC.out.free i
        have y1 := HC.out.reg i (by have := HST.out; omega)
        have p1 : (i < rr.length) = True := eq_true hlt
        have d0 : decide ((i : Int) < (rr.length : Int)) = true := decide_eq_true (by omega)
        have p9 : (i : Int) < 16 := by have := HST.out; omega
        have p8 : 0 ≤ (i : Int) := by omega
        have p7 : i < 16 := by have := HST.out; omega
        have HN := Aside0.mk (show CS w2 (wr.setCell ⟨sb, i, none⟩ (.int .i32 rr[i])) sb g r z m n (layR rr (i + 1)) at_ B zs L from by
          rw [← layR_set rr i hlt HST.out.2.2]
          exact HC.out.setReg i p7 _)
        generalize rr[i] = x at y0 HN
        clear hlt hx HC
        go_wp2_with fail
        go_region
        go_wp2
        go_roundg (gk - 1)
        case measure => have := Hi.out; have := of_eq_true p1; omega
        case rel => exact ⟨i + 1, by go_num, ⟨by have := Hi.out; have := of_eq_true p1; omega⟩, ⟨HN.out.drew⟩⟩
      · have p1 : (i < rr.length) = False := eq_false hlt
        have d0 : decide ((i : Int) < (rr.length : Int)) = false := decide_eq_false (by omega)
        obtain rfl : i = rr.length := by have := Hi.out; omega
        clear hlt Hi
        obtain ⟨S, hS⟩ : ∃ S : Nat, (S : Int) = steps := ⟨steps.toNat, by have := HST.out; omega⟩
        have HS40 := Aside0.mk (show S ≤ 40 by have := HST.out; omega)
        subst hS
        obtain ⟨rg0, hrg0⟩ : ∃ x, x = layR rr rr.length := ⟨_, rfl⟩
        rw [← hrg0] at HC
        clear hrg0 HST
        go_wp2_with fail
        go_loopg [15] (S + 1) (fun kq v15 w' => ∃ (j : Nat) (regs : List Int) (pl : Int) (bs : List Int), v15 = .int .i64 j ∧ Aside0 (j ≤ S ∧ S - j < kq) ∧ Aside0 (CS w2 w' sb g r z m n regs pl bs zs L))
        case atStart => exact ⟨0, rg0, at_, B, rfl, ⟨by omega⟩, HC⟩
        case round =>
          clear HC
          obtain ⟨j, regs, pl, bs, rfl, Hj, HC⟩ := hrel
          obtain ⟨wo, rfl⟩ : ∃ y, y = wr := ⟨wr, rfl⟩
          obtain ⟨G, rfl⟩ : ∃ G : Nat, G = gk := ⟨_, rfl⟩
          by_cases hlt : j < S
          · have p1 : (j < S) = True := eq_true hlt
            have d0 : decide ((j : Int) < (S : Int)) = true := decide_eq_true (by omega)
            have p9 : (j : Int) ≤ 40 := by have := HS40.out; omega
            have p8 : 0 ≤ (j : Int) := by omega
            clear hlt
            have HQ := Aside0.mk HC.out.bytes
            go_wp2_with fail
            (with_reducible refine HQ.out.mono ?_)
            rintro e5 w5 ⟨A5, c5, rfl, hlc5, hC5, hb5, hc5⟩
            have HC5 := Aside0.mk hc5
            have HR5 := Aside0.mk (And.intro hlc5 hC5)
            have HLB := Aside0.mk HC.out.size
            have HLC5 := Aside0.mk hlc5
            have HBY := Aside0.mk HC.out.byt
            clear HQ HC hb5 hc5 hlc5 hC5
            obtain ⟨r0, r1, r2, r3, r4, r5, r6, r7, r8, r9, r10, r11, r12, r13, r14, r15, rfl⟩ := list16 regs HC5.out.len
            have k0 : w5.cell? ⟨sb, 0, none⟩ = some (.int .i32 r0) := HC5.out.reg 0 (by decide)
            have k1 : w5.cell? ⟨sb, 1, none⟩ = some (.int .i32 r1) := HC5.out.reg 1 (by decide)
            have k2 : w5.cell? ⟨sb, 2, none⟩ = some (.int .i32 r2) := HC5.out.reg 2 (by decide)
            have k3 : w5.cell? ⟨sb, 3, none⟩ = some (.int .i32 r3) := HC5.out.reg 3 (by decide)
            have k4 : w5.cell? ⟨sb, 4, none⟩ = some (.int .i32 r4) := HC5.out.reg 4 (by decide)
            have k5 : w5.cell? ⟨sb, 5, none⟩ = some (.int .i32 r5) := HC5.out.reg 5 (by decide)
            have k6 : w5.cell? ⟨sb, 6, none⟩ = some (.int .i32 r6) := HC5.out.reg 6 (by decide)
            have k7 : w5.cell? ⟨sb, 7, none⟩ = some (.int .i32 r7) := HC5.out.reg 7 (by decide)
            have k8 : w5.cell? ⟨sb, 8, none⟩ = some (.int .i32 r8) := HC5.out.reg 8 (by decide)
            have k9 : w5.cell? ⟨sb, 9, none⟩ = some (.int .i32 r9) := HC5.out.reg 9 (by decide)
            have k10 : w5.cell? ⟨sb, 10, none⟩ = some (.int .i32 r10) := HC5.out.reg 10 (by decide)
            have k11 : w5.cell? ⟨sb, 11, none⟩ = some (.int .i32 r11) := HC5.out.reg 11 (by decide)
            have k12 : w5.cell? ⟨sb, 12, none⟩ = some (.int .i32 r12) := HC5.out.reg 12 (by decide)
            have k13 : w5.cell? ⟨sb, 13, none⟩ = some (.int .i32 r13) := HC5.out.reg 13 (by decide)
            have k14 : w5.cell? ⟨sb, 14, none⟩ = some (.int .i32 r14) := HC5.out.reg 14 (by decide)
            have k15 : w5.cell? ⟨sb, 15, none⟩ = some (.int .i32 r15) := HC5.out.reg 15 (by decide)
            have k16 : w5.cell? ⟨sb, 16, none⟩ = some (.int .i64 pl) := HC5.out.place
            go_upto_region 19 with (refine wpList_store_row rfl 104 (.tmp 17) (.tmp 81) rfl w5.heap.size #[.int .i32 r0, .int .i32 r1, .int .i32 r2, .int .i32 r3, .int .i32 r4, .int .i32 r5, .int .i32 r6, .int .i32 r7, .int .i32 r8, .int .i32 r9, .int .i32 r10, .int .i32 r11, .int .i32 r12, .int .i32 r13, .int .i32 r14, .int .i32 r15, .int .i64 pl] rfl rfl 104 _ (MapKept.heap_alloc w5 _).1 (by kernel_rfl) rfl (by simp [Value.oneCell']) ?_)
            have HC6 := Aside0.mk (HC5.out.allocRow #[.int .i32 0, .int .i32 0, .int .i32 0, .int .i32 0, .int .i32 0, .int .i32 0, .int .i32 0, .int .i32 0, .int .i32 0, .int .i32 0, .int .i32 0, .int .i32 0, .int .i32 0, .int .i32 0, .int .i32 0, .int .i32 0, .int .i64 0] #[.int .i32 r0, .int .i32 r1, .int .i32 r2, .int .i32 r3, .int .i32 r4, .int .i32 r5, .int .i32 r6, .int .i32 r7, .int .i32 r8, .int .i32 r9, .int .i32 r10, .int .i32 r11, .int .i32 r12, .int .i32 r13, .int .i32 r14, .int .i32 r15, .int .i64 pl] 104)
            refine wp_abs (fun W => CS w2 W sb g r z m n [r0, r1, r2, r3, r4, r5, r6, r7, r8, r9, r10, r11, r12, r13, r14, r15] pl bs zs (ABlk w5.heap.size (.cells #[.int .i32 r0, .int .i32 r1, .int .i32 r2, .int .i32 r3, .int .i32 r4, .int .i32 r5, .int .i32 r6, .int .i32 r7, .int .i32 r8, .int .i32 r9, .int .i32 r10, .int .i32 r11, .int .i32 r12, .int .i32 r13, .int .i32 r14, .int .i32 r15, .int .i64 pl] 104 (0, 0)) :: ARow (Kd.int .u8) 5 w2.heap.size (.slice A5 2048 c5) bs :: L) ∧ Below w5.heap.size w5 W) ⟨HC6.out, below_setRow_new w5 _ _ _⟩ (fun W6 hC6 => ?_)
            have HC7 := Aside0.mk hC6.1
            have HR6 := Aside0.mk (And.intro HR5.out.1 (Kd.C_below HR5.out.2 hC6.2))
            generalize w5.heap.size = ob at HC7 ⊢
            clear HC5 HC6 hC6 HR5 k0 k1 k2 k3 k4 k5 k6 k7 k8 k9 k10 k11 k12 k13 k14 k15 k16
            obtain ⟨q, hq⟩ : ∃ q, stepP zs bs [r0, r1, r2, r3, r4, r5, r6, r7, r8, r9, r10, r11, r12, r13, r14, r15] pl = q := ⟨_, rfl⟩
            have hcg := step_chg zs bs [r0, r1, r2, r3, r4, r5, r6, r7, r8, r9, r10, r11, r12, r13, r14, r15] pl
            rw [hq] at hcg
            have HCG := Aside0.mk hcg
            have HQ := Aside0.mk (Step_calls HC7.out)
            rw [hq] at HQ
            obtain ⟨t, rg, pp, cs⟩ := q
            simp only at hcg
            simp only at HCG HQ
            clear hq hcg
            go_wp2_with fail
            (with_reducible refine HQ.out.mono ?_)
            rintro e8 w8 ⟨rfl, hC8⟩
            have HC8 := Aside0.mk hC8
            clear HQ HC7 HR6 hC8
            have HQ := Aside0.mk HC8.out.bytes
            go_wp2_with fail
            (with_reducible refine HQ.out.mono ?_)
            rintro e9 w9 ⟨A9, c9, rfl, hlc9, hC9, hb9, hc9⟩
            have HC9 := Aside0.mk hc9
            have HR9 := Aside0.mk (And.intro hlc9 hC9)
            have HLC9 := Aside0.mk hlc9
            clear HQ HC8 hb9 hc9 hlc9 hC9
            go_upto_region 21 with (fail)
            go_cut [103] (fun v103 wc => v103 = .bool false ∧ Aside0 (CS w2 wc sb g r z m n rg pp cs zs (ARow (Kd.int .u8) 5 w2.heap.size (.slice A9 2048 c9) cs :: ABlk ob (.cells #[.int .i32 r0, .int .i32 r1, .int .i32 r2, .int .i32 r3, .int .i32 r4, .int .i32 r5, .int .i32 r6, .int .i32 r7, .int .i32 r8, .int .i32 r9, .int .i32 r10, .int .i32 r11, .int .i32 r12, .int .i32 r13, .int .i32 r14, .int .i32 r15, .int .i64 pl] 104 (0, 0)) :: ARow (Kd.int .u8) 5 w2.heap.size (.slice A5 2048 c5) bs :: L)))
            case first =>
              by_cases ht : t = 0
              · subst ht
                go_quiet (fail)
                go_wp2
                go_meet
                case rel => exact ⟨by rfl, ⟨HC9.out.below (pw_below_drewN (Below.refl _ _) _)⟩⟩
              · as_aux_lemma =>
                  have hh := HCG.out.2 ht
                  simp only [Prod.mk.injEq] at hh
                  obtain ⟨e1, e2, e3⟩ := hh
                  subst e1 e2 e3
                  have u1 : (t = 0) = False := eq_false ht
                  have u2 : (t == 0) = false := by simpa using ht
                  have u3 : (t != 0) = true := by simpa using ht
                  clear ht
                  have hl1 : ∀ w', (∃ n, w' = w9.drewN n) → (loadVar 104 ⟨sb, 0, none⟩).run Try.prog w' = .ok (.agg #[.int .i32 r0, .int .i32 r1, .int .i32 r2, .int .i32 r3, .int .i32 r4, .int .i32 r5, .int .i32 r6, .int .i32 r7, .int .i32 r8, .int .i32 r9, .int .i32 r10, .int .i32 r11, .int .i32 r12, .int .i32 r13, .int .i32 r14, .int .i32 r15, .int .i64 pp]) w' := fun w' ⟨n, hn⟩ => by
                    subst hn
                    exact run_loadVar_row (w9.drewN n) sb 104 104 #[.int .i32 r0, .int .i32 r1, .int .i32 r2, .int .i32 r3, .int .i32 r4, .int .i32 r5, .int .i32 r6, .int .i32 r7, .int .i32 r8, .int .i32 r9, .int .i32 r10, .int .i32 r11, .int .i32 r12, .int .i32 r13, .int .i32 r14, .int .i32 r15, .int .i64 pp] (0, 0) _ (show w9.heap[sb]? = _ from HC9.out.blk) Try.underlying104 rfl (by kernel_rfl)
                  have hl2 : ∀ w', (∃ n, w' = w9.drewN n) → (loadVar 104 ⟨ob, 0, none⟩).run Try.prog w' = .ok (.agg #[.int .i32 r0, .int .i32 r1, .int .i32 r2, .int .i32 r3, .int .i32 r4, .int .i32 r5, .int .i32 r6, .int .i32 r7, .int .i32 r8, .int .i32 r9, .int .i32 r10, .int .i32 r11, .int .i32 r12, .int .i32 r13, .int .i32 r14, .int .i32 r15, .int .i64 pp]) w' := fun w' ⟨n, hn⟩ => by
                    subst hn
                    exact run_loadVar_row (w9.drewN n) ob 104 104 #[.int .i32 r0, .int .i32 r1, .int .i32 r2, .int .i32 r3, .int .i32 r4, .int .i32 r5, .int .i32 r6, .int .i32 r7, .int .i32 r8, .int .i32 r9, .int .i32 r10, .int .i32 r11, .int .i32 r12, .int .i32 r13, .int .i32 r14, .int .i32 r15, .int .i64 pp] (0, 0) _ (show w9.heap[ob]? = _ from blk_at HC9.out.tail.drop) Try.underlying104 rfl (by kernel_rfl)
                  have s9 : (convert 34 9 (.slice A9 2048 c9)).run Try.prog w9 = .ok (.string (strOfNums cs)) w9 := Kd.C_string Try.underlying34 Try.underlying5 Try.underlying9 HR9.out.2
                  have s5 : (convert 34 9 (.slice A5 2048 c5)).run Try.prog w9 = .ok (.string (strOfNums cs)) w9 := by
                    obtain ⟨A', c', ev, _, hCw⟩ := Sat.rowReads HC9.out.tail.drop.drop
                    rw [HC9.out.size] at ev hCw
                    injection ev with e1 e2 e3
                    subst e1
                    exact Kd.C_string Try.underlying34 Try.underlying5 Try.underlying9 hCw
                  have s9q : ∀ m, (convert 34 9 (.slice A9 2048 c9)).run Try.prog (w9.drewN m) = .ok (.string (strOfNums cs)) (w9.drewN m) := fun m => Kd.C_string Try.underlying34 Try.underlying5 Try.underlying9 (Kd.C_below HR9.out.2 (pw_below_drewN (Below.refl _ _) m))
                  have s9d : (convert 34 9 (.slice A9 2048 c9)).run Try.prog w9.drew = .ok (.string (strOfNums cs)) w9.drew := Kd.C_string Try.underlying34 Try.underlying5 Try.underlying9 (Kd.C_below HR9.out.2 (below_drew (Below.refl _ _)))
                  have s5q : ∀ m, (convert 34 9 (.slice A5 2048 c5)).run Try.prog (w9.drewN m) = .ok (.string (strOfNums cs)) (w9.drewN m) := by
                    obtain ⟨A', c', ev, _, hCw⟩ := Sat.rowReads HC9.out.tail.drop.drop
                    rw [HC9.out.size] at ev hCw
                    injection ev with e1 e2 e3
                    subst e1
                    exact fun m => Kd.C_string Try.underlying34 Try.underlying5 Try.underlying9 (Kd.C_below hCw (pw_below_drewN (Below.refl _ _) m))
                  have s5d : (convert 34 9 (.slice A5 2048 c5)).run Try.prog w9.drew = .ok (.string (strOfNums cs)) w9.drew := by
                    obtain ⟨A', c', ev, _, hCw⟩ := Sat.rowReads HC9.out.tail.drop.drop
                    rw [HC9.out.size] at ev hCw
                    injection ev with e1 e2 e3
                    subst e1
                    exact Kd.C_string Try.underlying34 Try.underlying5 Try.underlying9 (Kd.C_below hCw (below_drew (Below.refl _ _)))
                  have hsame := fun w' => same_state w' r0 r1 r2 r3 r4 r5 r6 r7 r8 r9 r10 r11 r12 r13 r14 r15 pp
                  refine wp_region_quiet_lit (by kernel_rfl) (by kernel_rfl) ?_
                  repeat (first | go_big_quiet_skip | (go_big_quiet_want; (first | refine quiet_load 104 _ rfl _ _ rfl hl1 ?_ | refine quiet_load 104 _ rfl _ _ rfl hl2 ?_); go_simp; go_big_quiet_on) | go_big_quiet_step (fail))
                  refine wpQuiet_nil ?_
                  intro _ hw'
                  obtain ⟨nq, hw''⟩ := hw'
                  subst hw''
                  go_wp2
                  go_meet
                  case rel => exact ⟨by rfl, ⟨HC9.out.below (pw_below_drewN (Below.refl _ _) _)⟩⟩
            case rest =>
              obtain ⟨rfl, HC9'⟩ := hcut
              clear HC9 HR9
              have HC9 := HC9'
              clear HC9'
              obtain ⟨LL, hLL⟩ : ∃ LL, (ARow (Kd.int .u8) 5 w2.heap.size (.slice A9 2048 c9) cs :: ABlk ob (.cells #[.int .i32 r0, .int .i32 r1, .int .i32 r2, .int .i32 r3, .int .i32 r4, .int .i32 r5, .int .i32 r6, .int .i32 r7, .int .i32 r8, .int .i32 r9, .int .i32 r10, .int .i32 r11, .int .i32 r12, .int .i32 r13, .int .i32 r14, .int .i32 r15, .int .i64 pl] 104 (0, 0)) :: ARow (Kd.int .u8) 5 w2.heap.size (.slice A5 2048 c5) bs :: L) = LL := ⟨_, rfl⟩
              have HROW := Aside0.mk (fun w' (h : CS w2 w' sb g r z m n rg pp cs zs LL) => (by
                rw [← hLL] at h
                obtain ⟨X9, d9, e9, _, h9⟩ := Sat.rowReads h.tail
                obtain ⟨X5, d5, e5, _, h5⟩ := Sat.rowReads h.tail.drop.drop
                rw [h.size] at e9 h9
                rw [HLB.out] at e5 h5
                injection e9 with e9 _ _
                injection e5 with e5 _ _
                subst e9 e5
                exact ⟨h9, h5⟩ : (Kd.int .u8).C w' A9 2048 cs ∧ (Kd.int .u8).C w' A5 2048 bs))
              have HLS := Aside0.mk (fun w' (h : CS w2 w' sb g r z m n rg pp cs zs LL) => (by rw [← hLL] at h; exact h.less.less.less : CS w2 w' sb g r z m n rg pp cs zs L))
              rw [hLL] at HC9
              clear hLL
              have hA9 : ∃ a, A9 = some a := by
                obtain ⟨a, e, _⟩ := (HROW.out _ HC9.out).1.2.2 (by decide)
                exact ⟨a, e⟩
              have hA5 : ∃ a, A5 = some a := by
                obtain ⟨a, e, _⟩ := (HROW.out _ HC9.out).2.2.2 (by decide)
                exact ⟨a, e⟩
              obtain ⟨a9, rfl⟩ := hA9
              obtain ⟨a5, rfl⟩ := hA5
              go_wp2_with fail
              go_loopg [20] 2049 (fun kq v20 w' => ∃ k : Nat, v20 = .int .i64 k ∧ Aside0 (k + kq = 2049) ∧ Aside0 (k ≤ 2048) ∧ Aside0 (CS w2 w' sb g r z m n rg pp cs zs LL))
              case atStart => exact ⟨0, rfl, ⟨rfl⟩, ⟨by omega⟩, HC9⟩
              case round =>
                clear HC9
                obtain ⟨k, rfl, Hkk, Hk, HC⟩ := hrel
                obtain ⟨wq, rfl⟩ : ∃ y, y = wr := ⟨wr, rfl⟩
                by_cases hlt : k < 2048
                · have y9 : wq.cell? (a9.add k) = some (.int .u8 (rd cs (k : Int))) := C_cell (HROW.out _ HC.out).1 k _ (by
                    unfold rd
                    rw [Int.toNat_natCast, List.getD_eq_getElem?_getD, List.getElem?_eq_getElem (show k < cs.length by rw [HC.out.size]; exact hlt)]; rfl)
                  have y5 : wq.cell? (a5.add k) = some (.int .u8 (rd bs (k : Int))) := C_cell (HROW.out _ HC.out).2 k _ (by
                    unfold rd
                    rw [Int.toNat_natCast, List.getD_eq_getElem?_getD, List.getElem?_eq_getElem (show k < bs.length by rw [HLB.out]; exact hlt)]; rfl)
                  have q1 : ((k : Int) < 2048) = True := eq_true (by omega)
                  have q1' : (k < 2048) = True := eq_true hlt
                  have q0 : decide ((k : Int) < 2048) = true := decide_eq_true (by omega)
                  have q8 : 0 ≤ (k : Int) := by omega
                  have q9 : (k : Int) ≤ 2048 := by omega
                  by_cases he : rd cs (k : Int) = rd bs (k : Int)
                  · rw [he] at y9
                    generalize rd bs (k : Int) = y at y9 y5
                    have HK1 := Aside0.mk hlt
                    clear he hlt
                    go_wp2_with fail
                    go_quiet (fail)
                    go_wp2_with fail
                    go_roundg (gk - 1)
                    case measure => have := Hkk.out; have := HK1.out; omega
                    case rel => exact ⟨k + 1, by go_num, ⟨by have := Hkk.out; have := HK1.out; omega⟩, ⟨by have := HK1.out; omega⟩, ⟨HC.out.below (pw_below_drewN (Below.refl _ _) _)⟩⟩
                  · have hst := chg_store HLB.out HCG.out.1 k he
                    generalize rd cs (k : Int) = x at he y9
                    generalize rd bs (k : Int) = y at he y5
                    have HK1 := Aside0.mk hlt
                    have v1 : (x = y) = False := eq_false he
                    have v2 : (x == y) = false := by simpa using he
                    have v3 : (x != y) = true := by simpa using he
                    have HQ := Aside0.mk (fun w' (h : CS w2 w' sb g r z m n rg pp cs zs LL) => (by
                      have hq := CanStore_calls h.zr (k : Int) 1 (by decide)
                      rw [hst] at hq
                      exact hq : Calls Try.prog 43 #[.pointer (some ⟨z, 0, none⟩), .int .i64 (k : Int), .int .i64 1] w' fun e w'' => e = .returned (.bool true) ∧ Below w'.heap.size w' w''))
                    clear he hlt hst
                    go_wp2_with fail
                    go_region_law (first | (go_simp; go_at_call 43; (with_reducible refine (HQ.out _ (HC.out.below (below_drew (Below.refl _ _)))).mono ?_); rintro e4 w4 ⟨rfl, hb4⟩; have HC4 := Aside0.mk ((HC.out.below (below_drew (Below.refl _ _))).below hb4); clear hb4))
                    all_goals (
                      go_wp2_with fail
                      go_roundg (gk - 1)
                      case measure => have := Hkk.out; have := HK1.out; omega
                      case rel => exact ⟨k + 1, by go_num, ⟨by have := Hkk.out; have := HK1.out; omega⟩, ⟨by have := HK1.out; omega⟩, HC4⟩)
                · have q1 : ((k : Int) < 2048) = False := eq_false (by omega)
                  have q1' : (k < 2048) = False := eq_false hlt
                  have q0 : decide ((k : Int) < 2048) = false := decide_eq_false (by omega)
                  clear hlt Hk Hkk
                  go_wp2_with fail
                  go_loopg [21] 513 (fun kq v21 w' => ∃ k : Nat, v21 = .int .i64 ((4 * k : Nat) : Int) ∧ Aside0 (k + kq = 513) ∧ Aside0 (k ≤ 512) ∧ Aside0 (CS w2 w' sb g r z m n rg pp cs zs LL))
                  case atStart => exact ⟨0, rfl, ⟨rfl⟩, ⟨by omega⟩, HC⟩
                  case round =>
                    clear HC
                    obtain ⟨k, rfl, Hkk, Hk, HC⟩ := hrel
                    obtain ⟨wq, rfl⟩ : ∃ y, y = wr := ⟨wr, rfl⟩
                    by_cases hlt : k < 512
                    · obtain ⟨K, hK⟩ : ∃ K : Nat, 4 * k = K := ⟨_, rfl⟩
                      have hnx : IntKind.i64.wrap ((K : Int) + 4) = ((4 * (k + 1) : Nat) : Int) := by rw [wrap_ok (by omega) (by omega)]; omega
                      have hnx2 : IntKind.i64.wrap ((K : Int) + 4) = (K : Int) + 4 := wrap_ok (by omega) (by omega)
                      rw [hK]
                      have q1 : ((K : Int) < 2048) = True := eq_true (by omega)
                      have q1' : (K < 2048) = True := eq_true (by omega)
                      have q0 : decide ((K : Int) < 2048) = true := decide_eq_true (by omega)
                      have q8 : 0 ≤ (K : Int) := by omega
                      have q9 : (K : Int) + 4 ≤ 2048 := by omega
                      have HK1 := Aside0.mk (And.intro hlt hK)
                      have HNX := Aside0.mk hnx
                      have HQ := Aside0.mk (HC.out.zs.cell HC.out.few (K : Int) (by omega))
                      clear hlt hK hnx
                      by_cases hce : cellZ zs (K : Int) = 0
                      · rw [hce] at HQ
                        clear hce
                        go_wp2_with fail
                        (with_reducible refine HQ.out.mono ?_)
                        rintro e4 w4 ⟨rfl, hb4⟩
                        have HC4 := Aside0.mk (HC.out.below hb4)
                        clear HQ hb4 HC
                        go_wp2_with fail
                        go_roundg (gk - 1)
                        case measure => have := Hkk.out; have := HK1.out; omega
                        case rel => exact ⟨k + 1, by rw [← HNX.out]; first | rfl | (rw [hnx2]), ⟨by have := Hkk.out; have := HK1.out; omega⟩, ⟨by have := HK1.out; omega⟩, HC4⟩
                      · have hft := chg_fits HLB.out HCG.out.1 K (by have := HK1.out; omega) hce
                        obtain ⟨kd, hkd⟩ : ∃ kd, cellZ zs (K : Int) = kd := ⟨_, rfl⟩
                        rw [hkd] at hce hft HQ
                        have v1 : (kd = 0) = False := eq_false hce
                        have v2 : (kd == 0) = false := by simpa using hce
                        have v3 : (kd != 0) = true := by simpa using hce
                        have HFT := Aside0.mk hft
                        clear hce hft hkd
                        go_wp2_with fail
                        (with_reducible refine HQ.out.mono ?_)
                        rintro e4 w4 ⟨rfl, hb4⟩
                        have HC4 := Aside0.mk (HC.out.below hb4)
                        clear HQ hb4 HC
                        go_upto_region 33 with (fail)
                        have e5 : ((bs.drop K).take 4).length = 4 := by rw [List.length_take, List.length_drop, HLB.out]; have := HK1.out; omega
                        have e9 : ((cs.drop K).take 4).length = 4 := by rw [List.length_take, List.length_drop, HC4.out.size]; have := HK1.out; omega
                        have HW5 := Aside0.mk (fun w' (h : CS w2 w' sb g r z m n rg pp cs zs LL) => (by
                          have hr := reads_take (reads_drop (HROW.out _ h).2 (k := K) (A2 := some (a5.add K)) rfl (fun _ => by rw [show (Kd.int .u8).sz = 1 from rfl, Nat.mul_one]; rfl)) (k := 4) (by have := HK1.out; omega)
                          have hq := dowelref01_Word.calls 5 (some (a5.add K)) (c5 - K) ((bs.drop K).take 4) _ w' (by rw [e5]; exact hr) (by rw [e5]; have := HLC5.out; have := HK1.out; omega) (MineWord.ref_eq (mem_cut HBY.out _ _) 5 (by decide))
                          rw [e5] at hq
                          exact hq : Calls Try.prog 17 #[.slice (some (a5.add K)) 4 (c5 - K)] w' fun e w'' => e = .returned (.int .u32 ((wordN ((bs.drop K).take 4) : Nat) : Int)) ∧ Drawn0 w' w''))
                        have HW9 := Aside0.mk (fun w' (h : CS w2 w' sb g r z m n rg pp cs zs LL) => (by
                          have hr := reads_take (reads_drop (HROW.out _ h).1 (k := K) (A2 := some (a9.add K)) rfl (fun _ => by rw [show (Kd.int .u8).sz = 1 from rfl, Nat.mul_one]; rfl)) (k := 4) (by have := HK1.out; omega)
                          have hq := dowelref01_Word.calls 5 (some (a9.add K)) (c9 - K) ((cs.drop K).take 4) _ w' (by rw [e9]; exact hr) (by rw [e9]; have := HLC9.out; have := HK1.out; omega) (MineWord.ref_eq (mem_cut HC4.out.byt _ _) 5 (by decide))
                          rw [e9] at hq
                          exact hq : Calls Try.prog 17 #[.slice (some (a9.add K)) 4 (c9 - K)] w' fun e w'' => e = .returned (.int .u32 ((wordN ((cs.drop K).take 4) : Nat) : Int)) ∧ Drawn0 w' w''))
                        have HUB := Aside0.mk (And.intro (show wordN ((bs.drop K).take 4) < 4294967296 from word_lt bs (K : Int) HBY.out) (show wordN ((cs.drop K).take 4) < 4294967296 from word_lt cs (K : Int) HC4.out.byt))
                        clear e5 e9
                        have n5 : ¬ c5 = K := by have := HLC5.out; have := HK1.out; omega
                        have n9 : ¬ c9 = K := by have := HLC9.out; have := HK1.out; omega
                        have h5 : (K : Int) + 4 ≤ c5 := by have := HLC5.out; have := HK1.out; omega
                        have h9 : (K : Int) + 4 ≤ c9 := by have := HLC9.out; have := HK1.out; omega
                        generalize wordN ((bs.drop K).take 4) = u5 at HW5 HUB HFT
                        generalize wordN ((cs.drop K).take 4) = u9 at HW9 HUB HFT
                        have x5 : IntKind.i64.wrap ((u5 : Nat) : Int) = u5 := wrap_ok (by omega) (by have := HUB.out; omega)
                        have x9 : IntKind.i64.wrap ((u9 : Nat) : Int) = u9 := wrap_ok (by omega) (by have := HUB.out; omega)
                        obtain ⟨b5, hb5⟩ : ∃ b, fitsZ zs kd ((u5 : Nat) : Int) = b := ⟨_, rfl⟩
                        obtain ⟨b9, hb9⟩ : ∃ b, fitsZ zs kd ((u9 : Nat) : Int) = b := ⟨_, rfl⟩
                        have HF5 := Aside0.mk (fun w' (h : CS w2 w' sb g r z m n rg pp cs zs LL) => (by rw [← hb5]; exact Fits_calls h.zr kd ((u5 : Nat) : Int) : Calls Try.prog 49 #[.pointer (some ⟨z, 0, none⟩), .int .i64 kd, .int .i64 ((u5 : Nat) : Int)] w' fun e w'' => e = .returned (.bool b5) ∧ Below w'.heap.size w' w''))
                        have HF9 := Aside0.mk (fun w' (h : CS w2 w' sb g r z m n rg pp cs zs LL) => (by rw [← hb9]; exact Fits_calls h.zr kd ((u9 : Nat) : Int) : Calls Try.prog 49 #[.pointer (some ⟨z, 0, none⟩), .int .i64 kd, .int .i64 ((u9 : Nat) : Int)] w' fun e w'' => e = .returned (.bool b9) ∧ Below w'.heap.size w' w''))
                        have HFF := Aside0.mk (show b5 = true → b9 = true from fun h => by rw [← hb9]; exact HFT.out (by rw [hb5]; exact h))
                        clear HFT hb5 hb9
                        go_wp2_with fail
                        (with_reducible refine (HW5.out _ HC4.out).mono ?_)
                        rintro e5 w5 ⟨rfl, hb5⟩
                        have HC5 := Aside0.mk (HC4.out.below hb5.below)
                        clear hb5 HC4
                        go_wp2_with fail
                        (with_reducible refine (HF5.out _ HC5.out).mono ?_)
                        rintro e6 w6 ⟨rfl, hb6⟩
                        have HC6 := Aside0.mk (HC5.out.below hb6)
                        clear hb6 HC5
                        go_wp2_with fail
                        (with_reducible refine (HW9.out _ HC6.out).mono ?_)
                        rintro e7 w7 ⟨rfl, hb7⟩
                        have HC7 := Aside0.mk (HC6.out.below hb7.below)
                        clear hb7 HC6
                        go_wp2_with fail
                        (with_reducible refine (HF9.out _ HC7.out).mono ?_)
                        rintro e8 w8 ⟨rfl, hb8⟩
                        have HC8 := Aside0.mk (HC7.out.below hb8)
                        clear hb8 HC7
                        have HFF2 := HFF.out
                        cases b5 with
                        | false =>
                          clear HFF2
                          go_wp2_with fail
                          go_roundg (gk - 1)
                          case measure => have := Hkk.out; have := HK1.out; omega
                          case rel => exact ⟨k + 1, by rw [← HNX.out]; first | rfl | (rw [hnx2]), ⟨by have := Hkk.out; have := HK1.out; omega⟩, ⟨by have := HK1.out; omega⟩, HC8⟩
                        | true =>
                          obtain rfl := HFF2 rfl
                          clear HFF2
                          go_wp2_with fail
                          go_roundg (gk - 1)
                          case measure => have := Hkk.out; have := HK1.out; omega
                          case rel => exact ⟨k + 1, by rw [← HNX.out]; first | rfl | (rw [hnx2]), ⟨by have := Hkk.out; have := HK1.out; omega⟩, ⟨by have := HK1.out; omega⟩, HC8⟩
                    · obtain rfl : k = 512 := by have := Hk.out; omega
                      clear hlt Hk Hkk
                      go_wp2_with fail
                      go_roundg (G - 1)
                      case measure => have := Hj.out; have := of_eq_true p1; omega
                      case rel => exact ⟨j + 1, rg, pp, cs, by go_num, ⟨by have := Hj.out; have := of_eq_true p1; omega⟩, ⟨HLS.out _ HC.out⟩⟩
          · have p1 : (j < S) = False := eq_false hlt
            have d0 : decide ((j : Int) < (S : Int)) = false := decide_eq_false (by omega)
            clear hlt
            go_wp2_with fail
            go_ret
            exact ⟨by rfl, below_then HB2.out HB2.out.size HC.out.toBelow⟩
end Go.Proofs.Ytkeijpngfnmjoaa.MineCpu
