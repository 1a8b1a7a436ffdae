/- The cpu: what an instruction does, but for where it goes on. Conditions: the numbers are small; the registers are there. -/
import Derived.Test.YtkeijpngfnmjoaaGCpuB
namespace Go.Proofs.Ytkeijpngfnmjoaa.MineCpu
open Go.Lib Go.Shelf Go.RowKit Go.MapKept Go.Proofs.YtkeijpngfnmjoaaW.PrintWords Go.Proofs.YtkeijpngfnmjoaaW.PrintLast Go.Proofs.YtkeijpngfnmjoaaW.PrintMore Go.Proofs.Ytkeijpngfnmjoaa.MineBase Go.Proofs.Ytkeijpngfnmjoaa.MineSep Go.Proofs.Ytkeijpngfnmjoaa.MineRows Go.Proofs.Ytkeijpngfnmjoaa.MineGen Go.Proofs.Ytkeijpngfnmjoaa.QZonePlays Go.Proofs.Ytkeijpngfnmjoaa.MineMap Go.Proofs.Ytkeijpngfnmjoaa.MineZone Go.Proofs.Ytkeijpngfnmjoaa.MineMem Go.Proofs.Ytkeijpngfnmjoaa.MineWord Go.Proofs.Ytkeijpngfnmjoaa.QMemPlays Go.Proofs.Ytkeijpngfnmjoaa.QCpuGuards
attribute [local go_sem ↓] Go.wp_at_zero Go.wp_at_succ
set_option linter.unusedVariables false
set_option linter.unusedSimpArgs false
def aluP (op x y : Int) : Int × Int := (alu_Do.f op x y).getD (0, 1)
/-- The place that a load, or a store, tells. -/
def adr (regs : List Int) (b : Nat) (nn : Int) : Int := IntKind.i32.wrap (regs.getD b 0 + IntKind.i32.wrap nn) % 4294967296
def doP (zs : List S82) (bs regs : List Int) (op : Int) (a b : Nat) (nn : Int) : Int × List Int × List Int :=
  if op = 1 then (0, regs.set a (wrap32 nn), bs)
  else if op = 11 then (0, regs.set a (wrap32 (regs.getD b 0 + wrap32 nn)), bs)
  else if op = 12 ∨ op = 14 then ((loadP zs bs op (adr regs b nn)).1, setT regs a (loadP zs bs op (adr regs b nn)), bs)
  else if op = 13 ∨ op = 15 then ((storeP zs bs op (regs.getD a 0) (adr regs b nn)).1, regs, (storeP zs bs op (regs.getD a 0) (adr regs b nn)).2)
  else if 16 ≤ op ∧ op ≤ 21 then (0, regs, bs)
  else ((aluP op (regs.getD b 0) (regs.getD nn.toNat 0)).2, (if (aluP op (regs.getD b 0) (regs.getD nn.toNat 0)).2 = 0 then regs.set a (aluP op (regs.getD b 0) (regs.getD nn.toNat 0)).1 else regs), bs)
set_option maxHeartbeats 8000000 in
set_option maxRecDepth 100000 in
theorem do_calls {w0 w : World} {s g r z m n : Nat} {regs : List Int} {pl : Int} {bs : List Int} {zs : List S82} {l : List Asn} (h : CS w0 w s g r z m n regs pl bs zs l) (op nn : Int) (a b : Nat) (ha : a < 16) (hb : b < 16)
    (hal : ¬ (op = 1 ∨ op = 11 ∨ 12 ≤ op) → (0 ≤ nn ∧ nn < 16) ∧ ∃ q, alu_Do.f op (regs.getD b 0) (regs.getD nn.toNat 0) = some q) (hop : 1 ≤ op ∧ op ≤ 21) :
    Calls Try.prog 94 #[.agg #[.pointer (some ⟨s, 0, none⟩), .pointer (some ⟨g, 0, none⟩), .pointer (some ⟨z, 0, none⟩)], .agg #[.int .i64 op, .int .i64 (a : Int), .int .i64 (b : Int), .int .i64 nn]] w fun e w' => e = .returned (.int .i64 (doP zs bs regs op a b nn).1) ∧ CS w0 w' s g r z m n (doP zs bs regs op a b nn).2.1 pl (doP zs bs regs op a b nn).2.2 zs l := by
  have HA := Aside0.mk ha
  have HB := Aside0.mk hb
  have HAL := Aside0.mk hal
  have hu158 := Try.underlying158
  have hu147 := Try.underlying147
  have hu104 := Try.underlying104
  have a0 : 0 ≤ (a : Int) := by omega
  have a1 : (a : Int) < 16 := by omega
  have a2 : a < 16 := ha
  have b0 : 0 ≤ (b : Int) := by omega
  have b1 : (b : Int) < 16 := by omega
  have b2 : b < 16 := hb
  obtain ⟨W, hWe⟩ : ∃ W, (w.alloc (.cells #[.pointer (some ⟨s, 0, none⟩), .pointer (some ⟨g, 0, none⟩), .pointer (some ⟨z, 0, none⟩)] 158)).alloc (.cells #[.int .i64 op, .int .i64 (a : Int), .int .i64 (b : Int), .int .i64 nn] 147) = W := ⟨_, rfl⟩
  have HC := Aside0.mk (show CS w0 W s g r z m n regs pl bs zs (ABlk (w.heap.size + 1) (.cells #[.int .i64 op, .int .i64 (a : Int), .int .i64 (b : Int), .int .i64 nn] 147 (0, 0)) :: ABlk w.heap.size (.cells #[.pointer (some ⟨s, 0, none⟩), .pointer (some ⟨g, 0, none⟩), .pointer (some ⟨z, 0, none⟩)] 158 (0, 0)) :: l) from by
    rw [← hWe]
    have h2 := (h.alloc (.cells #[.pointer (some ⟨s, 0, none⟩), .pointer (some ⟨g, 0, none⟩), .pointer (some ⟨z, 0, none⟩)] 158)).alloc (.cells #[.int .i64 op, .int .i64 (a : Int), .int .i64 (b : Int), .int .i64 nn] 147)
    rw [size_alloc] at h2
    exact h2)
  obtain ⟨bm, hbm⟩ : ∃ b, w.heap.size = b := ⟨_, rfl⟩
  rw [hbm] at HC
  have k0 : W.cell? ⟨bm + 1, 0, none⟩ = some (.int .i64 op) := get_cell (blk_at HC.out.tail) 0
  have k1 : W.cell? ⟨bm + 1, 1, none⟩ = some (.int .i64 (a : Int)) := get_cell (blk_at HC.out.tail) 1
  have k2 : W.cell? ⟨bm + 1, 2, none⟩ = some (.int .i64 (b : Int)) := get_cell (blk_at HC.out.tail) 2
  have k3 : W.cell? ⟨bm + 1, 3, none⟩ = some (.int .i64 nn) := get_cell (blk_at HC.out.tail) 3
  have m0 : W.cell? ⟨bm, 0, none⟩ = some (.pointer (some ⟨s, 0, none⟩)) := get_cell (blk_at HC.out.tail.drop) 0
  have m1 : W.cell? ⟨bm, 1, none⟩ = some (.pointer (some ⟨g, 0, none⟩)) := get_cell (blk_at HC.out.tail.drop) 1
  have m2 : W.cell? ⟨bm, 2, none⟩ = some (.pointer (some ⟨z, 0, none⟩)) := get_cell (blk_at HC.out.tail.drop) 2
  have r2 : W.cell? ⟨s, b, none⟩ = some (.int .i32 (regs.getD b 0)) := HC.out.reg b hb
  have f1 : W.frozen? ⟨s, a, none⟩ = false := HC.out.free a
  have r1 : W.cell? ⟨s, a, none⟩ = some (.int .i32 (regs.getD a 0)) := HC.out.reg a ha
  clear h ha hb hal
  rcases (show op = 1 ∨ op = 11 ∨ op = 12 ∨ op = 13 ∨ op = 14 ∨ op = 15 ∨ op = 16 ∨ op = 17 ∨ op = 18 ∨ op = 19 ∨ op = 20 ∨ op = 21 ∨ (2 ≤ op ∧ op ≤ 10) by omega) with rfl | rfl | rfl | rfl | rfl | rfl | rfl | rfl | rfl | rfl | rfl | rfl | ho
  · clear m1 m2
    rw [show doP zs bs regs 1 a b nn = (0, regs.set a (wrap32 nn), bs) from by simp [doP]]
    go_enter Try.func94, Try.ntmps94
    go_upto_region 1 with fail
    try rw [hWe]
    try rw [hbm]
    go_wp2_with fail
    go_quiet (fail)
    go_wp2_with fail
    go_region_law (fail)
    all_goals (
      go_wp2_with fail
      go_ret
      exact ⟨by rfl, by simp only [← i32_w]; first | exact ((HC.out.drewN _).setReg a HA.out _).less.less | exact ((HC.out.drewN _).setReg a HA.out _).drew.less.less⟩)
  · clear m1 m2
    rw [show doP zs bs regs 11 a b nn = (0, regs.set a (wrap32 (regs.getD b 0 + wrap32 nn)), bs) from by simp [doP]]
    generalize regs.getD b 0 = B at r2 ⊢
    go_enter Try.func94, Try.ntmps94
    go_upto_region 1 with fail
    try rw [hWe]
    try rw [hbm]
    go_wp2_with fail
    go_quiet (fail)
    go_wp2_with fail
    go_region_law (fail)
    all_goals (
      go_wp2_with fail
      go_ret
      exact ⟨by rfl, by simp only [← i32_w]; first | exact ((HC.out.drewN _).setReg a HA.out _).less.less | exact ((HC.out.drewN _).setReg a HA.out _).drew.less.less⟩)
  · rw [show doP zs bs regs 12 a b nn = ((loadP zs bs 12 (adr regs b nn)).1, setT regs a (loadP zs bs 12 (adr regs b nn)), bs) from by simp [doP]]
    generalize hX : adr regs b nn = X
    unfold adr at hX
    generalize regs.getD b 0 = B at r2 hX
    go_enter Try.func94, Try.ntmps94
    go_upto_region 1 with fail
    try rw [hWe]
    try rw [hbm]
    go_wp2_with fail
    go_quiet (fail)
    go_wp2_with fail
    have HKP := Aside0.mk (fun w' regs' bs' (h : CS w0 w' s g r z m n regs' pl bs' zs (ABlk (bm + 1) (.cells #[.int .i64 12, .int .i64 (a : Int), .int .i64 (b : Int), .int .i64 nn] 147 (0, 0)) :: ABlk bm (.cells #[.pointer (some ⟨s, 0, none⟩), .pointer (some ⟨g, 0, none⟩), .pointer (some ⟨z, 0, none⟩)] 158 (0, 0)) :: l)) => (⟨get_cell (blk_at h.tail) 0, get_cell (blk_at h.tail) 1, get_cell (blk_at h.tail) 2, get_cell (blk_at h.tail) 3, get_cell (blk_at h.tail.drop) 0, get_cell (blk_at h.tail.drop) 1, get_cell (blk_at h.tail.drop) 2⟩ : w'.cell? ⟨bm + 1, 0, none⟩ = some (.int .i64 12) ∧ w'.cell? ⟨bm + 1, 1, none⟩ = some (.int .i64 (a : Int)) ∧ w'.cell? ⟨bm + 1, 2, none⟩ = some (.int .i64 (b : Int)) ∧ w'.cell? ⟨bm + 1, 3, none⟩ = some (.int .i64 nn) ∧ w'.cell? ⟨bm, 0, none⟩ = some (.pointer (some ⟨s, 0, none⟩)) ∧ w'.cell? ⟨bm, 1, none⟩ = some (.pointer (some ⟨g, 0, none⟩)) ∧ w'.cell? ⟨bm, 2, none⟩ = some (.pointer (some ⟨z, 0, none⟩))))
    have HPL := Aside0.mk (fun w' => cpu_place.calls (IntKind.i32.wrap (B + IntKind.i32.wrap nn)) X w' (by unfold cpu_place.f; rw [hX]))
    have HXL := Aside0.mk (show X ≤ 9223372036854775807 by omega)
    have HLD := Aside0.mk (fun w' (h : CS w0 w' s g r z m n regs pl bs zs (ABlk (bm + 1) (.cells #[.int .i64 12, .int .i64 (a : Int), .int .i64 (b : Int), .int .i64 nn] 147 (0, 0)) :: ABlk bm (.cells #[.pointer (some ⟨s, 0, none⟩), .pointer (some ⟨g, 0, none⟩), .pointer (some ⟨z, 0, none⟩)] 158 (0, 0)) :: l)) => load_calls h 12 (b : Int) nn X a HA.out HXL.out)
    clear k0 k1 k2 k3 m0 m1 m2 r1 r2 f1 hX
    go_region_held3 (fun w' => w'.cell? ⟨bm + 1, 0, none⟩ = some (.int .i64 12) ∧ w'.cell? ⟨bm + 1, 1, none⟩ = some (.int .i64 (a : Int)) ∧ w'.cell? ⟨bm + 1, 2, none⟩ = some (.int .i64 (b : Int)) ∧ w'.cell? ⟨bm + 1, 3, none⟩ = some (.int .i64 nn) ∧ w'.cell? ⟨bm, 0, none⟩ = some (.pointer (some ⟨s, 0, none⟩)) ∧ w'.cell? ⟨bm, 1, none⟩ = some (.pointer (some ⟨g, 0, none⟩)) ∧ w'.cell? ⟨bm, 2, none⟩ = some (.pointer (some ⟨z, 0, none⟩))) (first | exact HKP.out _ _ _ (HC.out.drewN _) | exact HKP.out _ _ _ (HC.out.drewN _).drew | exact HKP.out _ _ _ HC5.out | exact HKP.out _ _ _ HC5.out.drew | exact HKP.out _ _ _ HC4.out | exact HKP.out _ _ _ HC4.out.drew) (first
      | ((with_reducible refine (HPL.out _).mono ?_); rintro e4 w4 ⟨rfl, hd4⟩; have HC4 := Aside0.mk (CS.below (CS.drewN HC.out _) hd4.below); clear hd4)
      | ((with_reducible refine (HLD.out _ HC4.out).mono ?_); rintro e5 w5 ⟨rfl, hC5⟩; have HC5 := Aside0.mk hC5; clear hC5))
    all_goals (
      go_wp2_with fail
      go_ret
      exact ⟨by rfl, HC5.out.less.less⟩)
  · rw [show doP zs bs regs 13 a b nn = ((storeP zs bs 13 (regs.getD a 0) (adr regs b nn)).1, regs, (storeP zs bs 13 (regs.getD a 0) (adr regs b nn)).2) from by simp [doP]]
    generalize hX : adr regs b nn = X
    unfold adr at hX
    generalize regs.getD b 0 = B at r2 hX
    go_enter Try.func94, Try.ntmps94
    go_upto_region 1 with fail
    try rw [hWe]
    try rw [hbm]
    go_wp2_with fail
    go_quiet (fail)
    go_wp2_with fail
    have HKP := Aside0.mk (fun w' regs' bs' (h : CS w0 w' s g r z m n regs' pl bs' zs (ABlk (bm + 1) (.cells #[.int .i64 13, .int .i64 (a : Int), .int .i64 (b : Int), .int .i64 nn] 147 (0, 0)) :: ABlk bm (.cells #[.pointer (some ⟨s, 0, none⟩), .pointer (some ⟨g, 0, none⟩), .pointer (some ⟨z, 0, none⟩)] 158 (0, 0)) :: l)) => (⟨get_cell (blk_at h.tail) 0, get_cell (blk_at h.tail) 1, get_cell (blk_at h.tail) 2, get_cell (blk_at h.tail) 3, get_cell (blk_at h.tail.drop) 0, get_cell (blk_at h.tail.drop) 1, get_cell (blk_at h.tail.drop) 2⟩ : w'.cell? ⟨bm + 1, 0, none⟩ = some (.int .i64 13) ∧ w'.cell? ⟨bm + 1, 1, none⟩ = some (.int .i64 (a : Int)) ∧ w'.cell? ⟨bm + 1, 2, none⟩ = some (.int .i64 (b : Int)) ∧ w'.cell? ⟨bm + 1, 3, none⟩ = some (.int .i64 nn) ∧ w'.cell? ⟨bm, 0, none⟩ = some (.pointer (some ⟨s, 0, none⟩)) ∧ w'.cell? ⟨bm, 1, none⟩ = some (.pointer (some ⟨g, 0, none⟩)) ∧ w'.cell? ⟨bm, 2, none⟩ = some (.pointer (some ⟨z, 0, none⟩))))
    have HPL := Aside0.mk (fun w' => cpu_place.calls (IntKind.i32.wrap (B + IntKind.i32.wrap nn)) X w' (by unfold cpu_place.f; rw [hX]))
    have HXL := Aside0.mk (show X ≤ 9223372036854775807 by omega)
    have HLD := Aside0.mk (fun w' (h : CS w0 w' s g r z m n regs pl bs zs (ABlk (bm + 1) (.cells #[.int .i64 13, .int .i64 (a : Int), .int .i64 (b : Int), .int .i64 nn] 147 (0, 0)) :: ABlk bm (.cells #[.pointer (some ⟨s, 0, none⟩), .pointer (some ⟨g, 0, none⟩), .pointer (some ⟨z, 0, none⟩)] 158 (0, 0)) :: l)) => store_calls h 13 (b : Int) nn X a HA.out HXL.out)
    clear k0 k1 k2 k3 m0 m1 m2 r1 r2 f1 hX
    go_region_held3 (fun w' => w'.cell? ⟨bm + 1, 0, none⟩ = some (.int .i64 13) ∧ w'.cell? ⟨bm + 1, 1, none⟩ = some (.int .i64 (a : Int)) ∧ w'.cell? ⟨bm + 1, 2, none⟩ = some (.int .i64 (b : Int)) ∧ w'.cell? ⟨bm + 1, 3, none⟩ = some (.int .i64 nn) ∧ w'.cell? ⟨bm, 0, none⟩ = some (.pointer (some ⟨s, 0, none⟩)) ∧ w'.cell? ⟨bm, 1, none⟩ = some (.pointer (some ⟨g, 0, none⟩)) ∧ w'.cell? ⟨bm, 2, none⟩ = some (.pointer (some ⟨z, 0, none⟩))) (first | exact HKP.out _ _ _ (HC.out.drewN _) | exact HKP.out _ _ _ (HC.out.drewN _).drew | exact HKP.out _ _ _ HC5.out | exact HKP.out _ _ _ HC5.out.drew | exact HKP.out _ _ _ HC4.out | exact HKP.out _ _ _ HC4.out.drew) (first
      | ((with_reducible refine (HPL.out _).mono ?_); rintro e4 w4 ⟨rfl, hd4⟩; have HC4 := Aside0.mk (CS.below (CS.drewN HC.out _) hd4.below); clear hd4)
      | ((with_reducible refine (HLD.out _ HC4.out).mono ?_); rintro e5 w5 ⟨rfl, hC5⟩; have HC5 := Aside0.mk hC5; clear hC5))
    all_goals (
      go_wp2_with fail
      go_ret
      exact ⟨by rfl, HC5.out.less.less⟩)
  · rw [show doP zs bs regs 14 a b nn = ((loadP zs bs 14 (adr regs b nn)).1, setT regs a (loadP zs bs 14 (adr regs b nn)), bs) from by simp [doP]]
    generalize hX : adr regs b nn = X
    unfold adr at hX
    generalize regs.getD b 0 = B at r2 hX
    go_enter Try.func94, Try.ntmps94
    go_upto_region 1 with fail
    try rw [hWe]
    try rw [hbm]
    go_wp2_with fail
    go_quiet (fail)
    go_wp2_with fail
    have HKP := Aside0.mk (fun w' regs' bs' (h : CS w0 w' s g r z m n regs' pl bs' zs (ABlk (bm + 1) (.cells #[.int .i64 14, .int .i64 (a : Int), .int .i64 (b : Int), .int .i64 nn] 147 (0, 0)) :: ABlk bm (.cells #[.pointer (some ⟨s, 0, none⟩), .pointer (some ⟨g, 0, none⟩), .pointer (some ⟨z, 0, none⟩)] 158 (0, 0)) :: l)) => (⟨get_cell (blk_at h.tail) 0, get_cell (blk_at h.tail) 1, get_cell (blk_at h.tail) 2, get_cell (blk_at h.tail) 3, get_cell (blk_at h.tail.drop) 0, get_cell (blk_at h.tail.drop) 1, get_cell (blk_at h.tail.drop) 2⟩ : w'.cell? ⟨bm + 1, 0, none⟩ = some (.int .i64 14) ∧ w'.cell? ⟨bm + 1, 1, none⟩ = some (.int .i64 (a : Int)) ∧ w'.cell? ⟨bm + 1, 2, none⟩ = some (.int .i64 (b : Int)) ∧ w'.cell? ⟨bm + 1, 3, none⟩ = some (.int .i64 nn) ∧ w'.cell? ⟨bm, 0, none⟩ = some (.pointer (some ⟨s, 0, none⟩)) ∧ w'.cell? ⟨bm, 1, none⟩ = some (.pointer (some ⟨g, 0, none⟩)) ∧ w'.cell? ⟨bm, 2, none⟩ = some (.pointer (some ⟨z, 0, none⟩))))
    have HPL := Aside0.mk (fun w' => cpu_place.calls (IntKind.i32.wrap (B + IntKind.i32.wrap nn)) X w' (by unfold cpu_place.f; rw [hX]))
    have HXL := Aside0.mk (show X ≤ 9223372036854775807 by omega)
    have HLD := Aside0.mk (fun w' (h : CS w0 w' s g r z m n regs pl bs zs (ABlk (bm + 1) (.cells #[.int .i64 14, .int .i64 (a : Int), .int .i64 (b : Int), .int .i64 nn] 147 (0, 0)) :: ABlk bm (.cells #[.pointer (some ⟨s, 0, none⟩), .pointer (some ⟨g, 0, none⟩), .pointer (some ⟨z, 0, none⟩)] 158 (0, 0)) :: l)) => load_calls h 14 (b : Int) nn X a HA.out HXL.out)
    clear k0 k1 k2 k3 m0 m1 m2 r1 r2 f1 hX
    go_region_held3 (fun w' => w'.cell? ⟨bm + 1, 0, none⟩ = some (.int .i64 14) ∧ w'.cell? ⟨bm + 1, 1, none⟩ = some (.int .i64 (a : Int)) ∧ w'.cell? ⟨bm + 1, 2, none⟩ = some (.int .i64 (b : Int)) ∧ w'.cell? ⟨bm + 1, 3, none⟩ = some (.int .i64 nn) ∧ w'.cell? ⟨bm, 0, none⟩ = some (.pointer (some ⟨s, 0, none⟩)) ∧ w'.cell? ⟨bm, 1, none⟩ = some (.pointer (some ⟨g, 0, none⟩)) ∧ w'.cell? ⟨bm, 2, none⟩ = some (.pointer (some ⟨z, 0, none⟩))) (first | exact HKP.out _ _ _ (HC.out.drewN _) | exact HKP.out _ _ _ (HC.out.drewN _).drew | exact HKP.out _ _ _ HC5.out | exact HKP.out _ _ _ HC5.out.drew | exact HKP.out _ _ _ HC4.out | exact HKP.out _ _ _ HC4.out.drew) (first
      | ((with_reducible refine (HPL.out _).mono ?_); rintro e4 w4 ⟨rfl, hd4⟩; have HC4 := Aside0.mk (CS.below (CS.drewN HC.out _) hd4.below); clear hd4)
      | ((with_reducible refine (HLD.out _ HC4.out).mono ?_); rintro e5 w5 ⟨rfl, hC5⟩; have HC5 := Aside0.mk hC5; clear hC5))
    all_goals (
      go_wp2_with fail
      go_ret
      exact ⟨by rfl, HC5.out.less.less⟩)
  · rw [show doP zs bs regs 15 a b nn = ((storeP zs bs 15 (regs.getD a 0) (adr regs b nn)).1, regs, (storeP zs bs 15 (regs.getD a 0) (adr regs b nn)).2) from by simp [doP]]
    generalize hX : adr regs b nn = X
    unfold adr at hX
    generalize regs.getD b 0 = B at r2 hX
    go_enter Try.func94, Try.ntmps94
    go_upto_region 1 with fail
    try rw [hWe]
    try rw [hbm]
    go_wp2_with fail
    go_quiet (fail)
    go_wp2_with fail
    have HKP := Aside0.mk (fun w' regs' bs' (h : CS w0 w' s g r z m n regs' pl bs' zs (ABlk (bm + 1) (.cells #[.int .i64 15, .int .i64 (a : Int), .int .i64 (b : Int), .int .i64 nn] 147 (0, 0)) :: ABlk bm (.cells #[.pointer (some ⟨s, 0, none⟩), .pointer (some ⟨g, 0, none⟩), .pointer (some ⟨z, 0, none⟩)] 158 (0, 0)) :: l)) => (⟨get_cell (blk_at h.tail) 0, get_cell (blk_at h.tail) 1, get_cell (blk_at h.tail) 2, get_cell (blk_at h.tail) 3, get_cell (blk_at h.tail.drop) 0, get_cell (blk_at h.tail.drop) 1, get_cell (blk_at h.tail.drop) 2⟩ : w'.cell? ⟨bm + 1, 0, none⟩ = some (.int .i64 15) ∧ w'.cell? ⟨bm + 1, 1, none⟩ = some (.int .i64 (a : Int)) ∧ w'.cell? ⟨bm + 1, 2, none⟩ = some (.int .i64 (b : Int)) ∧ w'.cell? ⟨bm + 1, 3, none⟩ = some (.int .i64 nn) ∧ w'.cell? ⟨bm, 0, none⟩ = some (.pointer (some ⟨s, 0, none⟩)) ∧ w'.cell? ⟨bm, 1, none⟩ = some (.pointer (some ⟨g, 0, none⟩)) ∧ w'.cell? ⟨bm, 2, none⟩ = some (.pointer (some ⟨z, 0, none⟩))))
    have HPL := Aside0.mk (fun w' => cpu_place.calls (IntKind.i32.wrap (B + IntKind.i32.wrap nn)) X w' (by unfold cpu_place.f; rw [hX]))
    have HXL := Aside0.mk (show X ≤ 9223372036854775807 by omega)
    have HLD := Aside0.mk (fun w' (h : CS w0 w' s g r z m n regs pl bs zs (ABlk (bm + 1) (.cells #[.int .i64 15, .int .i64 (a : Int), .int .i64 (b : Int), .int .i64 nn] 147 (0, 0)) :: ABlk bm (.cells #[.pointer (some ⟨s, 0, none⟩), .pointer (some ⟨g, 0, none⟩), .pointer (some ⟨z, 0, none⟩)] 158 (0, 0)) :: l)) => store_calls h 15 (b : Int) nn X a HA.out HXL.out)
    clear k0 k1 k2 k3 m0 m1 m2 r1 r2 f1 hX
    go_region_held3 (fun w' => w'.cell? ⟨bm + 1, 0, none⟩ = some (.int .i64 15) ∧ w'.cell? ⟨bm + 1, 1, none⟩ = some (.int .i64 (a : Int)) ∧ w'.cell? ⟨bm + 1, 2, none⟩ = some (.int .i64 (b : Int)) ∧ w'.cell? ⟨bm + 1, 3, none⟩ = some (.int .i64 nn) ∧ w'.cell? ⟨bm, 0, none⟩ = some (.pointer (some ⟨s, 0, none⟩)) ∧ w'.cell? ⟨bm, 1, none⟩ = some (.pointer (some ⟨g, 0, none⟩)) ∧ w'.cell? ⟨bm, 2, none⟩ = some (.pointer (some ⟨z, 0, none⟩))) (first | exact HKP.out _ _ _ (HC.out.drewN _) | exact HKP.out _ _ _ (HC.out.drewN _).drew | exact HKP.out _ _ _ HC5.out | exact HKP.out _ _ _ HC5.out.drew | exact HKP.out _ _ _ HC4.out | exact HKP.out _ _ _ HC4.out.drew) (first
      | ((with_reducible refine (HPL.out _).mono ?_); rintro e4 w4 ⟨rfl, hd4⟩; have HC4 := Aside0.mk (CS.below (CS.drewN HC.out _) hd4.below); clear hd4)
      | ((with_reducible refine (HLD.out _ HC4.out).mono ?_); rintro e5 w5 ⟨rfl, hC5⟩; have HC5 := Aside0.mk hC5; clear hC5))
    all_goals (
      go_wp2_with fail
      go_ret
      exact ⟨by rfl, HC5.out.less.less⟩)
  · rw [show doP zs bs regs 16 a b nn = (0, regs, bs) from by simp [doP]]
    go_enter Try.func94, Try.ntmps94
    go_upto_region 1 with fail
    try rw [hWe]
    try rw [hbm]
    go_wp2_with fail
    go_quiet (fail)
    go_wp2_with fail
    go_ret
    exact ⟨by rfl, (HC.out.drewN _).less.less⟩
  · rw [show doP zs bs regs 17 a b nn = (0, regs, bs) from by simp [doP]]
    go_enter Try.func94, Try.ntmps94
    go_upto_region 1 with fail
    try rw [hWe]
    try rw [hbm]
    go_wp2_with fail
    go_quiet (fail)
    go_wp2_with fail
    go_ret
    exact ⟨by rfl, (HC.out.drewN _).less.less⟩
  · rw [show doP zs bs regs 18 a b nn = (0, regs, bs) from by simp [doP]]
    go_enter Try.func94, Try.ntmps94
    go_upto_region 1 with fail
    try rw [hWe]
    try rw [hbm]
    go_wp2_with fail
    go_quiet (fail)
    go_wp2_with fail
    go_ret
    exact ⟨by rfl, (HC.out.drewN _).less.less⟩
  · rw [show doP zs bs regs 19 a b nn = (0, regs, bs) from by simp [doP]]
    go_enter Try.func94, Try.ntmps94
    go_upto_region 1 with fail
    try rw [hWe]
    try rw [hbm]
    go_wp2_with fail
    go_quiet (fail)
    go_wp2_with fail
    go_ret
    exact ⟨by rfl, (HC.out.drewN _).less.less⟩
  · rw [show doP zs bs regs 20 a b nn = (0, regs, bs) from by simp [doP]]
    go_enter Try.func94, Try.ntmps94
    go_upto_region 1 with fail
    try rw [hWe]
    try rw [hbm]
    go_wp2_with fail
    go_quiet (fail)
    go_wp2_with fail
    go_ret
    exact ⟨by rfl, (HC.out.drewN _).less.less⟩
  · rw [show doP zs bs regs 21 a b nn = (0, regs, bs) from by simp [doP]]
    go_enter Try.func94, Try.ntmps94
    go_upto_region 1 with fail
    try rw [hWe]
    try rw [hbm]
    go_wp2_with fail
    go_quiet (fail)
    go_wp2_with fail
    go_ret
    exact ⟨by rfl, (HC.out.drewN _).less.less⟩
  · obtain ⟨hn, ⟨q1, q2⟩, hq⟩ := HAL.out (by omega)
    have e : doP zs bs regs op a b nn = (q2, (if q2 = 0 then regs.set a q1 else regs), bs) := by
      have e1 : aluP op (regs.getD b 0) (regs.getD nn.toNat 0) = (q1, q2) := by unfold aluP; rw [hq]; rfl
      unfold doP
      rw [if_neg (by omega), if_neg (by omega), if_neg (by omega), if_neg (by omega), if_neg (by omega), e1]
    rw [e]
    obtain ⟨c, rfl⟩ : ∃ c : Nat, nn = (c : Int) := ⟨nn.toNat, by omega⟩
    rw [Int.toNat_natCast] at hq
    have c0 : 0 ≤ (c : Int) := by omega
    have c1 : (c : Int) < 16 := by omega
    have c2 : c < 16 := by omega
    generalize regs.getD b 0 = B at r2 hq
    have r3 : W.cell? ⟨s, c, none⟩ = some (.int .i32 (regs.getD c 0)) := HC.out.reg c c2
    obtain ⟨C3, h3⟩ : ∃ v, regs.getD c 0 = v := ⟨_, rfl⟩
    rw [h3] at r3 hq
    have HQ := Aside0.mk (fun (W' : World) k => (Calls.quiet_of ((alu_Do.calls op _ _ q1 q2 (W'.drewN k) hq).mono fun _ _ h => ⟨h.1, h.2.out⟩) : Calls Try.prog 114 #[.int .i64 op, .int .i32 B, .int .i32 C3] (W'.drewN k) fun e w'' => e = .returned (.tuple #[.int .i32 q1, .int .i64 q2]) ∧ ∃ k, w'' = W'.drewN k))
    have o1 : (op = 1) = False := eq_false (by omega)
    have o11 : (op = 11) = False := eq_false (by omega)
    have o12 : (op = 12) = False := eq_false (by omega)
    have o13 : (op = 13) = False := eq_false (by omega)
    have o14 : (op = 14) = False := eq_false (by omega)
    have o15 : (op = 15) = False := eq_false (by omega)
    have o16 : (op = 16) = False := eq_false (by omega)
    have o17 : (op = 17) = False := eq_false (by omega)
    have o18 : (op = 18) = False := eq_false (by omega)
    have o19 : (op = 19) = False := eq_false (by omega)
    have o20 : (op = 20) = False := eq_false (by omega)
    have o21 : (op = 21) = False := eq_false (by omega)
    have p1 : (op == 1) = false := by simpa using o1
    have p11 : (op == 11) = false := by simpa using o11
    have p12 : (op == 12) = false := by simpa using o12
    have p13 : (op == 13) = false := by simpa using o13
    have p14 : (op == 14) = false := by simpa using o14
    have p15 : (op == 15) = false := by simpa using o15
    have p16 : (op == 16) = false := by simpa using o16
    have p17 : (op == 17) = false := by simpa using o17
    have p18 : (op == 18) = false := by simpa using o18
    have p19 : (op == 19) = false := by simpa using o19
    have p20 : (op == 20) = false := by simpa using o20
    have p21 : (op == 21) = false := by simpa using o21
    clear ho hn hq e hop
    by_cases hz : q2 = 0
    · subst hz
      rw [if_pos rfl]
      go_enter Try.func94, Try.ntmps94
      go_upto_region 1 with fail
      try rw [hWe]
      try rw [hbm]
      go_wp2_with fail
      go_quiet (fail)
      go_wp2_with fail
      refine wp_abs (fun W1 => CS w0 W1 s g r z m n regs pl bs zs (ABlk (bm + 1) (.cells #[.int .i64 op, .int .i64 (a : Int), .int .i64 (b : Int), .int .i64 (c : Int)] 147 (0, 0)) :: ABlk bm (.cells #[.pointer (some ⟨s, 0, none⟩), .pointer (some ⟨g, 0, none⟩), .pointer (some ⟨z, 0, none⟩)] 158 (0, 0)) :: l)) (CS.drewN HC.out _) (fun W1 hC1 => ?_)
      have HC1 := Aside0.mk hC1
      clear k0 k1 k2 k3 m0 m1 m2 r1 r2 r3 f1
      have k0 : W1.cell? ⟨bm + 1, 0, none⟩ = some (.int .i64 op) := get_cell (blk_at HC1.out.tail) 0
      have k1 : W1.cell? ⟨bm + 1, 1, none⟩ = some (.int .i64 (a : Int)) := get_cell (blk_at HC1.out.tail) 1
      have k3 : W1.cell? ⟨bm + 1, 3, none⟩ = some (.int .i64 (c : Int)) := get_cell (blk_at HC1.out.tail) 3
      have r1 : W1.cell? ⟨s, a, none⟩ = some (.int .i32 (regs.getD a 0)) := HC1.out.reg a HA.out
      have r3 : W1.cell? ⟨s, c, none⟩ = some (.int .i32 C3) := by have := HC1.out.reg c c2; rw [h3] at this; exact this
      have f1 : W1.frozen? ⟨s, a, none⟩ = false := HC1.out.free a
      clear hC1
      go_quiet ((go_at_call 114; exact HQ.out _ _))
      go_wp2_with fail
      go_region_law (fail)
      all_goals (
        go_wp2_with fail
        go_ret
        exact ⟨by rfl, by first | exact ((HC1.out.drewN _).setReg a HA.out _).less.less | exact ((HC1.out.drewN _).setReg a HA.out _).drew.less.less⟩)
    · have v1 : (q2 = 0) = False := eq_false hz
      have v2 : (q2 == 0) = false := by simpa using hz
      have v3 : (q2 != 0) = true := by simpa using hz
      rw [if_neg hz]
      clear hz
      go_enter Try.func94, Try.ntmps94
      go_upto_region 1 with fail
      try rw [hWe]
      try rw [hbm]
      go_wp2_with fail
      go_quiet (fail)
      go_wp2_with fail
      refine wp_abs (fun W1 => CS w0 W1 s g r z m n regs pl bs zs (ABlk (bm + 1) (.cells #[.int .i64 op, .int .i64 (a : Int), .int .i64 (b : Int), .int .i64 (c : Int)] 147 (0, 0)) :: ABlk bm (.cells #[.pointer (some ⟨s, 0, none⟩), .pointer (some ⟨g, 0, none⟩), .pointer (some ⟨z, 0, none⟩)] 158 (0, 0)) :: l)) (CS.drewN HC.out _) (fun W1 hC1 => ?_)
      have HC1 := Aside0.mk hC1
      clear k0 k1 k2 k3 m0 m1 m2 r1 r2 r3 f1
      have k0 : W1.cell? ⟨bm + 1, 0, none⟩ = some (.int .i64 op) := get_cell (blk_at HC1.out.tail) 0
      have k1 : W1.cell? ⟨bm + 1, 1, none⟩ = some (.int .i64 (a : Int)) := get_cell (blk_at HC1.out.tail) 1
      have k3 : W1.cell? ⟨bm + 1, 3, none⟩ = some (.int .i64 (c : Int)) := get_cell (blk_at HC1.out.tail) 3
      have r1 : W1.cell? ⟨s, a, none⟩ = some (.int .i32 (regs.getD a 0)) := HC1.out.reg a HA.out
      have r3 : W1.cell? ⟨s, c, none⟩ = some (.int .i32 C3) := by have := HC1.out.reg c c2; rw [h3] at this; exact this
      have f1 : W1.frozen? ⟨s, a, none⟩ = false := HC1.out.free a
      clear hC1
      go_quiet ((go_at_call 114; exact HQ.out _ _))
      go_wp2_with fail
      go_ret
      exact ⟨by rfl, (HC1.out.drewN _).less.less⟩
end Go.Proofs.Ytkeijpngfnmjoaa.MineCpu
