/- Run: a place is called: what it comes to, in plain words, and the program's walk. Conditions: the zones are few. -/
import Derived.Test.YtkeijpngfnmjoaaGCpuC
namespace Go.Proofs.Ytkeijpngfnmjoaa.MineCpu
open Go.Lib Go.Shelf Go.RowKit Go.MapKept Go.Proofs.YtkeijpngfnmjoaaW.PrintWords Go.Proofs.YtkeijpngfnmjoaaW.PrintLast Go.Proofs.YtkeijpngfnmjoaaW.PrintMore Go.Proofs.Ytkeijpngfnmjoaa.MineBase Go.Proofs.Ytkeijpngfnmjoaa.MineSep Go.Proofs.Ytkeijpngfnmjoaa.MineRows Go.Proofs.Ytkeijpngfnmjoaa.MineGen Go.Proofs.Ytkeijpngfnmjoaa.QZonePlays Go.Proofs.Ytkeijpngfnmjoaa.MineMap Go.Proofs.Ytkeijpngfnmjoaa.MineZone Go.Proofs.Ytkeijpngfnmjoaa.MineMem Go.Proofs.Ytkeijpngfnmjoaa.MineWord Go.Proofs.Ytkeijpngfnmjoaa.QMemPlays Go.Proofs.Ytkeijpngfnmjoaa.QCpuGuards Go.Proofs.Ytkeijpngfnmjoaa.QCpuGuardsPlain
attribute [local go_sem ↓] Go.wp_at_zero Go.wp_at_succ
set_option linter.unusedVariables false
set_option linter.unusedSimpArgs false
attribute [local go_sem] Go.Proofs.Ytkeijpngfnmjoaa.MineErr.eql_err Go.Proofs.Ytkeijpngfnmjoaa.MineErr.neq_err Go.Proofs.Ytkeijpngfnmjoaa.MineErr.eql_nil_err Go.Proofs.Ytkeijpngfnmjoaa.MineErr.neq_nil_err
/-- A call, with so many steps left, and so many done: how it ends, the trap, the steps, the bytes. -/
def runP (zs : List S82) : Nat → Nat → List Int → List Int → Int → Int × Int × Nat × List Int
  | 0, n, bs, regs, pl => if pl = 4294967292 then (0, 0, n, bs) else (2, 0, n, bs)
  | d + 1, n, bs, regs, pl =>
    if pl = 4294967292 then (0, 0, n, bs)
    else if (stepP zs bs regs pl).1 ≠ 0 then (1, (stepP zs bs regs pl).1, n, (stepP zs bs regs pl).2.2.2)
    else runP zs d (n + 1) (stepP zs bs regs pl).2.2.2 (stepP zs bs regs pl).2.1 (stepP zs bs regs pl).2.2.1
theorem runP_done (zs : List S82) (d n : Nat) (bs regs : List Int) (pl : Int) (h : pl = 4294967292) : runP zs d n bs regs pl = (0, 0, n, bs) := by
  cases d with
  | zero => unfold runP; rw [if_pos h]
  | succ d => unfold runP; rw [if_pos h]
theorem runP_fuel (zs : List S82) (n : Nat) (bs regs : List Int) (pl : Int) (h : ¬ pl = 4294967292) : runP zs 0 n bs regs pl = (2, 0, n, bs) := by
  unfold runP; rw [if_neg h]
theorem runP_trap (zs : List S82) (d n : Nat) (bs regs : List Int) (pl : Int) (h : ¬ pl = 4294967292) (ht : (stepP zs bs regs pl).1 ≠ 0) : runP zs (d + 1) n bs regs pl = (1, (stepP zs bs regs pl).1, n, (stepP zs bs regs pl).2.2.2) := by
  rw [runP, if_neg h, if_pos ht]
theorem runP_on (zs : List S82) (d n : Nat) (bs regs : List Int) (pl : Int) (h : ¬ pl = 4294967292) (ht : (stepP zs bs regs pl).1 = 0) : runP zs (d + 1) n bs regs pl = runP zs d (n + 1) (stepP zs bs regs pl).2.2.2 (stepP zs bs regs pl).2.1 (stepP zs bs regs pl).2.2.1 := by
  rw [runP, if_neg h, if_neg (by simpa using ht)]
theorem runP_steps (zs : List S82) : ∀ (d n : Nat) (bs regs : List Int) (pl : Int), n ≤ (runP zs d n bs regs pl).2.2.1 ∧ (runP zs d n bs regs pl).2.2.1 ≤ n + d ∧ ((runP zs d n bs regs pl).1 = 2 → (runP zs d n bs regs pl).2.2.1 = n + d)
  | d, n, bs, regs, pl => by
    by_cases h : pl = 4294967292
    · rw [runP_done zs d n bs regs pl h]
      exact ⟨Nat.le_refl _, Nat.le_add_right _ _, fun h => absurd (show (0 : Int) = 2 from h) (by decide)⟩
    · match d with
      | 0 => rw [runP_fuel zs n bs regs pl h]; exact ⟨Nat.le_refl _, Nat.le_refl _, fun _ => rfl⟩
      | d + 1 =>
        by_cases ht : (stepP zs bs regs pl).1 = 0
        · rw [runP_on zs d n bs regs pl h ht]
          have := runP_steps zs d (n + 1) (stepP zs bs regs pl).2.2.2 (stepP zs bs regs pl).2.1 (stepP zs bs regs pl).2.2.1
          exact ⟨by omega, by omega, fun hh => by have := this.2.2 hh; omega⟩
        · rw [runP_trap zs d n bs regs pl h ht]
          exact ⟨Nat.le_refl _, Nat.le_add_right _ _, fun h => absurd (show (1 : Int) = 2 from h) (by decide)⟩
theorem runP_more (zs : List S82) (e : Nat) : ∀ (d n : Nat) (bs regs : List Int) (pl : Int), (runP zs d n bs regs pl).2.2.1 ≤ (runP zs (d + e) n bs regs pl).2.2.1 ∧ ((runP zs d n bs regs pl).1 ≠ 2 → runP zs (d + e) n bs regs pl = runP zs d n bs regs pl)
  | d, n, bs, regs, pl => by
    by_cases h : pl = 4294967292
    · rw [runP_done zs d n bs regs pl h, runP_done zs (d + e) n bs regs pl h]
      exact ⟨Nat.le_refl _, fun _ => rfl⟩
    · match d with
      | 0 =>
        rw [runP_fuel zs n bs regs pl h]
        exact ⟨(runP_steps zs (0 + e) n bs regs pl).1, fun h => absurd rfl h⟩
      | d + 1 =>
        rw [show d + 1 + e = d + e + 1 by omega]
        by_cases ht : (stepP zs bs regs pl).1 = 0
        · rw [runP_on zs d n bs regs pl h ht, runP_on zs (d + e) n bs regs pl h ht]
          exact runP_more zs e d (n + 1) _ _ _
        · rw [runP_trap zs d n bs regs pl h ht, runP_trap zs (d + e) n bs regs pl h ht]
          exact ⟨Nat.le_refl _, fun _ => rfl⟩
/-- How much fuel counts. -/
def fuelN (f : Int) : Nat := (if f ≤ 2000 then f else 2000).toNat
section
variable {w0 w w1 : World} {s g r z m n xb br : Nat} {regs : List Int} {pl : Int} {bs cs : List Int} {zs zd : List S82} {l : List Asn}
theorem CS.toBS {v : Value} {ds : List SZ} (h : CS w0 w s g r z m n regs pl bs zs (docL w0 v ds xb br cs l)) (hm : ds.map (·.1) = zd) (hl : ∀ d ∈ ds, Lie w0 d) (hc : cs.length = 2048) : BS w0 w z m n g r xb br zs zd bs cs l := by
  obtain ⟨⟨v', F, h1, h2⟩, h3, h4, h5⟩ := h.zs
  refine ⟨⟨v, ds, ⟨⟨v', F, ?_, h2⟩, h3, h4, h5⟩, hm, hl⟩, h.size, hc, h.byt⟩
  have h6 := (Sat.pull (l1 := [_, _, _]) h1).drop
  refine h6.perm (.cons _ (.cons _ (.cons _ ?_)))
  exact (List.perm_middle (l₁ := [_, _, _]) (l₂ := l) (a := AMem g r bs)).symm
theorem CS.putRow {b : Nat} {old cur : Array Value} {t : TypeId} (h : CS w0 w s g r z m n regs pl bs zs (ABlk b (.cells old t (0, 0)) :: l)) (hc : cur = cur) : CS w0 (w.setRow b cur) s g r z m n regs pl bs zs (ABlk b (.cells cur t (0, 0)) :: l) := by
  obtain ⟨⟨v, F, h1, h2⟩, h3, h4, h5⟩ := h.zs
  exact ⟨⟨⟨v, F, Sat.push (l1 := [_, _, _, _, _]) (blk_row (cs := cur) (Sat.pull (l1 := [_, _, _, _, _]) h1)), h2⟩, h3, h4, h5⟩, h.len, h.few, h.size, h.byt⟩
end
def regs0 : List Int := ((List.replicate 16 (0 : Int)).set 14 272).set 15 (-4)
set_option maxHeartbeats 8000000 in
set_option maxRecDepth 100000 in
theorem Call_calls {w0 w : World} {g r z m n xb br : Nat} {bs cs : List Int} {zs zd : List S82} {l : List Asn} (h : BS w0 w z m n g r xb br zs zd bs cs l) (hn : n ≤ 900) (at_ fuel : Int) :
    Calls Try.prog 58 #[.pointer (some ⟨g, 0, none⟩), .pointer (some ⟨z, 0, none⟩), .int .i64 at_, .int .i64 fuel] w fun e w' => e = .returned (.agg #[.int .i64 (runP zs (fuelN fuel) 0 bs regs0 at_).1, .int .i64 (runP zs (fuelN fuel) 0 bs regs0 at_).2.1, .int .i64 (((runP zs (fuelN fuel) 0 bs regs0 at_).2.2.1 : Nat) : Int)]) ∧ BS w0 w' z m n g r xb br zs zd (runP zs (fuelN fuel) 0 bs regs0 at_).2.2.2 cs l := by
  have HB := Aside0.mk h
  have hu104 := Try.underlying104
  have hu108 := Try.underlying108
  obtain ⟨⟨v, ds, h1, h2⟩, h3, h4, h5⟩ := h
  have HD := Aside0.mk (And.intro h2 h4)
  have h6 := ZS.alloc' (ZS.alloc' h1 (.cells #[.int .i64 0, .int .i64 0, .int .i64 0] 108)) (.cells (stC (List.replicate 16 0) at_) 104)
  rw [size_alloc] at h6
  have hcs : CS w0 ((w.alloc (.cells #[.int .i64 0, .int .i64 0, .int .i64 0] 108)).alloc (.cells (stC (List.replicate 16 0) at_) 104)) (w.heap.size + 1) g r z m n (List.replicate 16 0) at_ bs zs (ABlk w.heap.size (.cells #[.int .i64 0, .int .i64 0, .int .i64 0] 108 (0, 0)) :: docL w0 v ds xb br cs l) := by
    refine ⟨ZS.perm h6 ?_, by simp, hn, h3, h5⟩
    refine .cons _ ?_
    exact List.perm_middle (l₁ := [_, _, _, _]) (l₂ := l) (a := AMem g r bs)
  have HC := Aside0.mk hcs
  clear h1 h2 h3 h4 h5 h6 hcs HB
  obtain ⟨F, hF⟩ : ∃ F, fuelN fuel = F := ⟨_, rfl⟩
  obtain ⟨M, hM⟩ : ∃ M : Int, (if fuel ≤ 2000 then fuel else 2000) = M := ⟨_, rfl⟩
  have HM := Aside0.mk (show F = M.toNat ∧ M ≤ 2000 from ⟨by rw [← hF, ← hM]; rfl, by rw [← hM]; split <;> omega⟩)
  have hmin : min fuel 2000 = M := by rw [← hM]; exact Int.min_def fuel 2000
  have HF := Aside0.mk hF
  rw [hF]
  obtain ⟨R, hR⟩ : ∃ R, runP zs F 0 bs regs0 at_ = R := ⟨_, rfl⟩
  have HR := Aside0.mk hR
  rw [hR]
  clear hF hR hM
  go_enter Try.func58, Try.ntmps58
  go_upto_region 2 with (fail)
  refine wp_abs (fun W => CS w0 W (w.heap.size + 1) g r z m n (List.replicate 16 0) at_ bs zs (ABlk w.heap.size (.cells #[.int .i64 0, .int .i64 0, .int .i64 0] 108 (0, 0)) :: docL w0 v ds xb br cs l)) HC.out (fun W4 hC4 => ?_)
  have HC4 := Aside0.mk hC4
  clear HC hC4
  generalize w.heap.size + 1 = sb at HC4 ⊢
  generalize w.heap.size = rb at HC4 ⊢
  have k14 : W4.cell? ⟨sb, 14, none⟩ = some (.int .i32 0) := HC4.out.reg 14 (by decide)
  have k15 : W4.cell? ⟨sb, 15, none⟩ = some (.int .i32 0) := HC4.out.reg 15 (by decide)
  have f14 := HC4.out.free 14
  have f15 := HC4.out.free 15
  have HC5 := Aside0.mk (show CS w0 ((W4.setCell ⟨sb, 14, none⟩ (.int .i32 272)).setCell ⟨sb, 15, none⟩ (.int .i32 (-4))) sb g r z m n regs0 at_ bs zs (ABlk rb (.cells #[.int .i64 0, .int .i64 0, .int .i64 0] 108 (0, 0)) :: docL w0 v ds xb br cs l) from (HC4.out.setReg 14 (by decide) 272).setReg 15 (by decide) (-4))
  clear HC4
  go_region
  go_upto_region 3 with (fail)
  refine wp_abs (fun W => CS w0 W sb g r z m n regs0 at_ bs zs (ABlk rb (.cells #[.int .i64 0, .int .i64 0, .int .i64 0] 108 (0, 0)) :: docL w0 v ds xb br cs l)) (by first | exact HC5.out | exact HC5.out.drew) (fun W5 hC5 => ?_)
  have HC6 := Aside0.mk hC5
  clear HC5 hC5 k14 k15 f14 f15
  have k15 : W5.cell? ⟨sb, 15, none⟩ = some (.int .i32 (-4)) := HC6.out.reg 15 (by decide)
  go_wp2_with fail
  go_loopg [11] (F + 2) (fun kq v11 w' => ∃ (k : Nat) (rg : List Int) (pl : Int) (bb : List Int), v11 = .int .i64 k ∧ Aside0 (k ≤ F ∧ F - k < kq ∧ runP zs (F - k) k bb rg pl = R) ∧ Aside0 (CS w0 w' sb g r z m n rg pl bb zs (ABlk rb (.cells #[.int .i64 0, .int .i64 0, .int .i64 0] 108 (0, 0)) :: docL w0 v ds xb br cs l)))
  case atStart => exact ⟨0, regs0, at_, bs, rfl, ⟨by omega, by omega, HR.out⟩, HC6⟩
  case round =>
    clear HC6 k15
    obtain ⟨k, rg, pl, bb, rfl, Hk, HC⟩ := hrel
    obtain ⟨wq, rfl⟩ : ∃ y, y = wr := ⟨wr, rfl⟩
    have k16 := HC.out.place
    by_cases hb : pl = 4294967292
    · have hrr := runP_done zs (F - k) k bb rg pl hb
      rw [Hk.out.2.2] at hrr
      subst hrr
      subst hb
      have HX := Aside0.mk (CS.putRow (cur := #[.int .i64 0, .int .i64 0, .int .i64 (k : Int)]) HC.out rfl)
      go_wp2_with (refine wpList_store_row rfl 108 (.tmp 8) (.tmp 41) rfl rb #[.int .i64 0, .int .i64 0, .int .i64 (k : Int)] rfl rfl 108 _ (blk_at HC.out.tail) (by kernel_rfl) rfl (by simp [Value.oneCell']) ?_)
      exact bodyPost_ret (v := .agg _) (results_cell_row rfl _ _ rb 108 _ (0, 0) _ rfl (blk_at HX.out.tail) Try.underlying108 rfl (by kernel_rfl)) rfl ⟨by rfl, HX.out.less.toBS HD.out.1.1 HD.out.1.2 HD.out.2⟩
    · have hp1 : (pl = 4294967292) = False := eq_false hb
      have hp2 : (pl == 4294967292) = false := by simpa using hb
      by_cases hk : k = F
      · have hrr := runP_fuel zs k bb rg pl hb
        rw [show 0 = F - k by omega, Hk.out.2.2] at hrr
        subst hrr
        have hd : decide (M ≤ (k : Int)) = true := decide_eq_true (by have := HM.out; omega)
        have hd' : (M ≤ (k : Int)) = True := eq_true (by have := HM.out; omega)
        clear hb hk
        have HX := Aside0.mk (CS.putRow (cur := #[.int .i64 2, .int .i64 0, .int .i64 (k : Int)]) HC.out rfl)
        go_wp2_with (refine wpList_store_row rfl 108 (.tmp 8) (.tmp 48) rfl rb #[.int .i64 2, .int .i64 0, .int .i64 (k : Int)] rfl rfl 108 _ (blk_at HC.out.tail) (by kernel_rfl) rfl (by simp [Value.oneCell']) ?_)
        exact bodyPost_ret (v := .agg _) (results_cell_row rfl _ _ rb 108 _ (0, 0) _ rfl (blk_at HX.out.tail) Try.underlying108 rfl (by kernel_rfl)) rfl ⟨by rfl, HX.out.less.toBS HD.out.1.1 HD.out.1.2 HD.out.2⟩
      · have hd : decide (M ≤ (k : Int)) = false := decide_eq_false (by have := HM.out; have := Hk.out; omega)
        have hd' : (M ≤ (k : Int)) = False := eq_false (by have := HM.out; have := Hk.out; omega)
        obtain ⟨d, hdk⟩ : ∃ d, F - k = d + 1 := ⟨F - k - 1, by have := Hk.out; omega⟩
        obtain ⟨q, hq⟩ : ∃ q, stepP zs bb rg pl = q := ⟨_, rfl⟩
        have HQ := Aside0.mk (Step_calls HC.out)
        rw [hq] at HQ
        by_cases ht : q.1 = 0
        · have hrr := runP_on zs d k bb rg pl hb (by rw [hq]; exact ht)
          rw [← hdk, Hk.out.2.2, hq] at hrr
          have HRR := Aside0.mk hrr
          have HDK := Aside0.mk hdk
          obtain ⟨t, rg', pl', bb'⟩ := q
          simp only at ht HRR HQ
          subst ht
          clear hb hk hrr hdk hq
          go_wp2_with fail
          (with_reducible refine HQ.out.mono ?_)
          rintro e5 w5 ⟨rfl, hC5⟩
          have HC5 := Aside0.mk hC5
          clear HQ hC5 HC k16
          have k9 : (k : Int) ≤ 2000 := by have := HM.out; have := Hk.out; omega
          have k8 : 0 ≤ (k : Int) := by omega
          go_wp2_with fail
          go_roundg (gk - 1)
          case measure => have := Hk.out; have := HDK.out; omega
          case rel => exact ⟨k + 1, rg', pl', bb', by go_num, ⟨by have := Hk.out; have := HDK.out; omega, by have := Hk.out; have := HDK.out; omega, by rw [show F - (k + 1) = d by have := HDK.out; omega]; exact HRR.out.symm⟩, HC5⟩
        · have hrr := runP_trap zs d k bb rg pl hb (by rw [hq]; exact ht)
          rw [← hdk, Hk.out.2.2, hq] at hrr
          subst hrr
          obtain ⟨t, rg', pl', bb'⟩ := q
          simp only at ht HQ HR Hk
          have v1 : (t = 0) = False := eq_false ht
          have v2 : (t == 0) = false := by simpa using ht
          have v3 : (t != 0) = true := by simpa using ht
          clear hb hk hdk hq ht
          go_wp2_with fail
          (with_reducible refine HQ.out.mono ?_)
          rintro e5 w5 ⟨rfl, hC5⟩
          have HC5 := Aside0.mk hC5
          clear HQ hC5 HC k16
          have HX := Aside0.mk (CS.putRow (cur := #[.int .i64 1, .int .i64 t, .int .i64 (k : Int)]) HC5.out rfl)
          go_wp2_with (refine wpList_store_row rfl 108 (.tmp 8) (.tmp 57) rfl rb #[.int .i64 1, .int .i64 t, .int .i64 (k : Int)] rfl rfl 108 _ (blk_at HC5.out.tail) (by kernel_rfl) rfl (by simp [Value.oneCell']) ?_)
          exact bodyPost_ret (v := .agg _) (results_cell_row rfl _ _ rb 108 _ (0, 0) _ rfl (blk_at HX.out.tail) Try.underlying108 rfl (by kernel_rfl)) rfl ⟨by rfl, HX.out.less.toBS HD.out.1.1 HD.out.1.2 HD.out.2⟩
end Go.Proofs.Ytkeijpngfnmjoaa.MineCpu
