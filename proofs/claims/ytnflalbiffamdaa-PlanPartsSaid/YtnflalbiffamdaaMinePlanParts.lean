/- Chains of an object: PlanParts' walk: parts lie one behind the other. Condition: the numbers are such as Go hands over. -/
import Derived.Test.YtnflalbiffamdaaMineValid
import Derived.Test.YtnflalbiffamdaaMinePlan
namespace Go.Proofs.Ytnflalbiffamdaa.MineObj
open Go.RowKit Go.MapKept Go.Proofs.YtnflalbiffamdaaW.PrintWords Go.Proofs.YtnflalbiffamdaaW.PrintLast Go.Proofs.YtnflalbiffamdaaW.PrintMore Go.Proofs.Ytnflalbiffamdaa.MineBase Go.Proofs.Ytnflalbiffamdaa.MineSep Go.Proofs.Ytnflalbiffamdaa.MineRows Go.Proofs.Ytnflalbiffamdaa.MineGen Go.Proofs.Ytnflalbiffamdaa.MineName Go.Proofs.Ytnflalbiffamdaa.MineMap Go.Proofs.Ytnflalbiffamdaa.QCheckTells Go.Proofs.Ytnflalbiffamdaa.QCheckTellsPlain Go.Proofs.Ytnflalbiffamdaa.PureChain
attribute [local go_sem] Go.Proofs.Ytnflalbiffamdaa.MineErr.eql_err Go.Proofs.Ytnflalbiffamdaa.MineErr.neq_err Go.Proofs.Ytnflalbiffamdaa.MineErr.eql_nil_err Go.Proofs.Ytnflalbiffamdaa.MineErr.neq_nil_err
attribute [local go_sem ↓] Go.wp_at_zero Go.wp_at_succ
set_option linter.unusedVariables false
set_option linter.unusedSimpArgs false
def oB : Ob := ⟨⟨#[]⟩, 0, [], [], 1, ⟨#[104, 101, 108, 108, 111]⟩, [], [], [], [], [], 0, 0, 0, 0⟩
def aB (g : Nat) : Oa := ⟨none, some ⟨g, 0, none⟩, none, none, none, none, none, 0, 1, 0, 0, 0, 0, 0⟩
set_option maxRecDepth 100000 in
theorem Export_zero (w : World) : Calls Try.prog 18 #[.agg #[.string ⟨#[]⟩, .int .u32 0, .slice none 0 0, .slice none 0 0, .int .i64 0, .string ⟨#[]⟩, .slice none 0 0, .slice none 0 0, .slice none 0 0, .slice none 0 0, .slice none 0 0, .int .i64 0, .int .i64 0, .int .i64 0, .int .i64 0], .int .i64 0] w fun e w' => e = .returned (.tuple #[.int .i64 0, .bool false]) ∧ Below w.heap.size w w' := by
  have hu31 := Try.underlying31
  go_enter Try.func18, Try.ntmps18
  go_wp2_with fail
  go_ret2
  exact ⟨by rfl, (blk_new (Sat.start w) _).toBelow⟩
theorem Of_up (w : World) (g : Nat) : Calls Try.prog 16 #[.agg #[.string ⟨#[]⟩, .int .u32 0, .slice none 0 0, .slice (some ⟨g, 0, none⟩) 1 1, .int .i64 1, .string ⟨#[104, 101, 108, 108, 111]⟩, .slice none 0 0, .slice none 0 0, .slice none 0 0, .slice none 0 0, .slice none 0 0, .int .i64 0, .int .i64 0, .int .i64 0, .int .i64 0]] w fun e w' => e = .returned (.agg #[.int .i64 4, .int .i64 20, .int .i64 28, .int .i64 28]) ∧ Below w.heap.size w w' :=
  Of_calls oB (aB g) w 0 1 0 0 0 0 0 (by decide) (by decide) (by decide) (by decide) 1 8 (by decide) (by decide)
theorem make24 (W : World) : (Instr.makeSlice 24 (.int .i64 1) (.int .i64 1)).run Try.prog W = .ok (.slice (some ⟨W.heap.size, 0, none⟩) 1 1) (W.alloc (.cells #[.int .i64 0, .int .i64 0, .int .i64 0] 130)) := by kernel_rfl
set_option maxRecDepth 100000 in
set_option maxHeartbeats 4000000 in
theorem upP_calls (w : World) : Calls Try.prog 14 #[] w fun e w' => e = .returned (.bool true) ∧ Below w.heap.size w w' := by
  have hmk := make24
  have hu31 := Try.underlying31
  have hu35 := Try.underlying35
  go_enter Try.func14, Try.ntmps14
  go_wp2_with fail
  have hb0 := below_alloc (Below.refl w.heap.size w) (.cells #[.int .i64 0, .int .i64 0, .int .i64 0] 130)
  generalize w.alloc (.cells #[.int .i64 0, .int .i64 0, .int .i64 0] 130) = W at *
  have hq := Of_up W w.heap.size
  (with_reducible refine hq.mono ?_)
  clear hq
  rintro e1 w1 ⟨rfl, hb1⟩
  have HB := Aside0.mk (below_step hb0 hb1)
  clear hb0 hb1
  go_upto_region 2 with fail
  refine wp_abs (fun W => Sat w W [ABlk w1.heap.size (.cells #[.int .i64 4, .int .i64 20, .int .i64 28, .int .i64 28] 35 (0, 0))]) (blk_new ((Sat.start w).below HB.out) _) (fun W2 hW2 => ?_)
  generalize w1.heap.size = g at hW2 ⊢
  replace hW2 := Aside0.mk hW2
  clear HB hmk
  go_wp2_with fail
  (with_reducible refine (Export_zero _).mono ?_)
  rintro e3 w3 ⟨rfl, hb3⟩
  have HW3 := Aside0.mk (hW2.out.below hb3)
  clear hb3 hW2
  have x0 : w3.cell? ⟨g, 0, none⟩ = some (.int .i64 4) := get_cell (blk_at HW3.out) 0
  have x1 : w3.cell? ⟨g, 1, none⟩ = some (.int .i64 20) := get_cell (blk_at HW3.out) 1
  have x2 : w3.cell? ⟨g, 2, none⟩ = some (.int .i64 28) := get_cell (blk_at HW3.out) 2
  have x3 : w3.cell? ⟨g, 3, none⟩ = some (.int .i64 28) := get_cell (blk_at HW3.out) 3
  go_wp2_with fail
  go_ret
  exact ⟨by rfl, HW3.out.toBelow⟩

set_option maxRecDepth 100000 in
set_option maxHeartbeats 8000000 in
theorem PlanParts_calls (o : Ob) (a : Oa) (w : World) (n2 n3 n6 n7 n8 n9 n10 : Nat) (e2 : n2 = o.imps.length) (e3 : n3 = o.typs.length) (e6 : n6 = o.code.length) (e7 : n7 = o.cmds.length) (e8 : n8 = o.exps.length) (e9 : n9 = o.ptrs.length) (e10 : n10 = o.procs.length) (hO : ObR o a w) (hS : Sane o) :
    Calls Try.prog 3 #[.agg #[.string o.nm, .int .u32 o.key, .slice a.A2 n2 a.c2, .slice a.A3 n3 a.c3, .int .i64 o.data, .string o.text, .slice a.A6 n6 a.c6, .slice a.A7 n7 a.c7, .slice a.A8 n8 a.c8, .slice a.A9 n9 a.c9, .slice a.A10 n10 a.c10, .int .i64 o.x0, .int .i64 o.x1, .int .i64 o.x2, .int .i64 o.body]] w fun e w' => e = .returned (.bool true) ∧ Below w.heap.size w w' := by
  obtain ⟨fv, hfv, hfew⟩ := fewN_calls o a w n2 n3 n6 n7 n8 n9 n10 e2 e3 e6 e7 e8 e9 e10 hO
  have HFEW := Aside0.mk hfew
  have hr : True := trivial
  have HO := Aside0.mk hO
  have HR := Aside0.mk hr
  have HE := Aside0.mk (And.intro e2 (And.intro e3 (And.intro e6 (And.intro e7 (And.intro e8 (And.intro e9 e10))))))
  have hu31 := Try.underlying31
  have HS := Aside0.mk hS
  clear hO hr hS e2 e3 e6 e7 e8 e9 e10 hfew HR
  have hu35 := Try.underlying35
  have hu43 := Try.underlying43
  go_enter Try.func3, Try.ntmps3
  go_wp2_with fail
  have hW := Aside0.mk (blk_new (Sat.start w) (.cells #[.string o.nm, .int .u32 o.key, .slice a.A2 n2 a.c2, .slice a.A3 n3 a.c3, .int .i64 o.data, .string o.text, .slice a.A6 n6 a.c6, .slice a.A7 n7 a.c7, .slice a.A8 n8 a.c8, .slice a.A9 n9 a.c9, .slice a.A10 n10 a.c10, .int .i64 o.x0, .int .i64 o.x1, .int .i64 o.x2, .int .i64 o.body] 31))
  generalize w.alloc (.cells #[.string o.nm, .int .u32 o.key, .slice a.A2 n2 a.c2, .slice a.A3 n3 a.c3, .int .i64 o.data, .string o.text, .slice a.A6 n6 a.c6, .slice a.A7 n7 a.c7, .slice a.A8 n8 a.c8, .slice a.A9 n9 a.c9, .slice a.A10 n10 a.c10, .int .i64 o.x0, .int .i64 o.x1, .int .i64 o.x2, .int .i64 o.body] 31) = Wz at *
  (with_reducible refine (upP_calls _).mono ?_)
  rintro e1 w1 ⟨rfl, hb1⟩
  have HW1 := Aside0.mk (hW.out.below hb1)
  clear hb1 hW
  have x0 : w1.cell? ⟨w.heap.size, 0, none⟩ = some (.string o.nm) := get_cell (blk_at HW1.out) 0
  have x1 : w1.cell? ⟨w.heap.size, 1, none⟩ = some (.int .u32 o.key) := get_cell (blk_at HW1.out) 1
  have x2 : w1.cell? ⟨w.heap.size, 2, none⟩ = some (.slice a.A2 n2 a.c2) := get_cell (blk_at HW1.out) 2
  have x3 : w1.cell? ⟨w.heap.size, 3, none⟩ = some (.slice a.A3 n3 a.c3) := get_cell (blk_at HW1.out) 3
  have x4 : w1.cell? ⟨w.heap.size, 4, none⟩ = some (.int .i64 o.data) := get_cell (blk_at HW1.out) 4
  have x5 : w1.cell? ⟨w.heap.size, 5, none⟩ = some (.string o.text) := get_cell (blk_at HW1.out) 5
  have x6 : w1.cell? ⟨w.heap.size, 6, none⟩ = some (.slice a.A6 n6 a.c6) := get_cell (blk_at HW1.out) 6
  have x7 : w1.cell? ⟨w.heap.size, 7, none⟩ = some (.slice a.A7 n7 a.c7) := get_cell (blk_at HW1.out) 7
  have x8 : w1.cell? ⟨w.heap.size, 8, none⟩ = some (.slice a.A8 n8 a.c8) := get_cell (blk_at HW1.out) 8
  have x9 : w1.cell? ⟨w.heap.size, 9, none⟩ = some (.slice a.A9 n9 a.c9) := get_cell (blk_at HW1.out) 9
  have x10 : w1.cell? ⟨w.heap.size, 10, none⟩ = some (.slice a.A10 n10 a.c10) := get_cell (blk_at HW1.out) 10
  have x11 : w1.cell? ⟨w.heap.size, 11, none⟩ = some (.int .i64 o.x0) := get_cell (blk_at HW1.out) 11
  have x12 : w1.cell? ⟨w.heap.size, 12, none⟩ = some (.int .i64 o.x1) := get_cell (blk_at HW1.out) 12
  have x13 : w1.cell? ⟨w.heap.size, 13, none⟩ = some (.int .i64 o.x2) := get_cell (blk_at HW1.out) 13
  have x14 : w1.cell? ⟨w.heap.size, 14, none⟩ = some (.int .i64 o.body) := get_cell (blk_at HW1.out) 14
  go_wp2_with fail
  have hq := HFEW.out w1 (HO.out.sat HW1.out)
  (with_reducible refine hq.mono ?_)
  clear hq
  rintro e2 w2 ⟨rfl, hb2⟩
  have HW2 := Aside0.mk (HW1.out.below hb2)
  clear hb2 HW1 x0 x1 x2 x3 x4 x5 x6 x7 x8 x9 x10 x11 x12 x13 x14
  rcases hfv with rfl | ⟨rfl, hF⟩
  · go_wp2_with fail
    go_ret
    exact ⟨by rfl, HW2.out.toBelow⟩
  · have HF := Aside0.mk hF
    clear hF
    have x0 : w2.cell? ⟨w.heap.size, 0, none⟩ = some (.string o.nm) := get_cell (blk_at HW2.out) 0
    have x1 : w2.cell? ⟨w.heap.size, 1, none⟩ = some (.int .u32 o.key) := get_cell (blk_at HW2.out) 1
    have x2 : w2.cell? ⟨w.heap.size, 2, none⟩ = some (.slice a.A2 n2 a.c2) := get_cell (blk_at HW2.out) 2
    have x3 : w2.cell? ⟨w.heap.size, 3, none⟩ = some (.slice a.A3 n3 a.c3) := get_cell (blk_at HW2.out) 3
    have x4 : w2.cell? ⟨w.heap.size, 4, none⟩ = some (.int .i64 o.data) := get_cell (blk_at HW2.out) 4
    have x5 : w2.cell? ⟨w.heap.size, 5, none⟩ = some (.string o.text) := get_cell (blk_at HW2.out) 5
    have x6 : w2.cell? ⟨w.heap.size, 6, none⟩ = some (.slice a.A6 n6 a.c6) := get_cell (blk_at HW2.out) 6
    have x7 : w2.cell? ⟨w.heap.size, 7, none⟩ = some (.slice a.A7 n7 a.c7) := get_cell (blk_at HW2.out) 7
    have x8 : w2.cell? ⟨w.heap.size, 8, none⟩ = some (.slice a.A8 n8 a.c8) := get_cell (blk_at HW2.out) 8
    have x9 : w2.cell? ⟨w.heap.size, 9, none⟩ = some (.slice a.A9 n9 a.c9) := get_cell (blk_at HW2.out) 9
    have x10 : w2.cell? ⟨w.heap.size, 10, none⟩ = some (.slice a.A10 n10 a.c10) := get_cell (blk_at HW2.out) 10
    have x11 : w2.cell? ⟨w.heap.size, 11, none⟩ = some (.int .i64 o.x0) := get_cell (blk_at HW2.out) 11
    have x12 : w2.cell? ⟨w.heap.size, 12, none⟩ = some (.int .i64 o.x1) := get_cell (blk_at HW2.out) 12
    have x13 : w2.cell? ⟨w.heap.size, 13, none⟩ = some (.int .i64 o.x2) := get_cell (blk_at HW2.out) 13
    have x14 : w2.cell? ⟨w.heap.size, 14, none⟩ = some (.int .i64 o.body) := get_cell (blk_at HW2.out) 14
    by_cases gd : 100000 < o.data
    · have gda : (100000 < o.data) = True := eq_true gd
      have gdb : decide (100000 < o.data) = true := decide_eq_true gd
      clear gd
      go_wp2_with fail
      go_ret
      exact ⟨by rfl, HW2.out.toBelow⟩
    · have gda : (100000 < o.data) = False := eq_false gd
      have gdb : decide (100000 < o.data) = false := decide_eq_false gd
      have HD := Aside0.mk (show o.data ≤ 100000 from by omega)
      clear gd
      have HL := Aside0.mk (show n3 ≤ 20 ∧ n6 ≤ 1100 ∧ n8 ≤ 300 ∧ o.text.size ≤ 300 from ⟨by rw [HE.out.2.1]; exact HF.out.typs, by rw [HE.out.2.2.1]; exact HF.out.code, by rw [HE.out.2.2.2.2.1]; exact HF.out.exps, HF.out.text⟩)
      obtain ⟨D, hD⟩ : ∃ D, D = dataP o := ⟨_, rfl⟩
      obtain ⟨T, hT⟩ : ∃ T, T = textP o := ⟨_, rfl⟩
      have HDT := Aside0.mk (And.intro hD hT)
      clear hD hT
      have HDB := Aside0.mk (show 0 ≤ D ∧ D ≤ 100000 from by rw [HDT.out.1]; have := HD.out; unfold dataP; split <;> omega)
      have HTB := Aside0.mk (show (o.text.size : Int) ≤ T ∧ T ≤ o.text.size + 3 ∧ T % 4 = 0 from by rw [HDT.out.2]; unfold textP; omega)
      go_wp2_with fail
      have hq := Of_calls o a w2 n2 n3 n6 n7 n8 n9 n10 (by have := HL.out; omega) (by have := HL.out; omega) HD.out (by have := HL.out; omega) D T HDT.out.1 HDT.out.2
      obtain ⟨P1, hP1⟩ : ∃ P : Int, P = 4 * D := ⟨_, rfl⟩
      obtain ⟨P2, hP2⟩ : ∃ P : Int, P = 4 * D + 16 * n3 := ⟨_, rfl⟩
      obtain ⟨P3, hP3⟩ : ∃ P : Int, P = 4 * D + 16 * n3 + T := ⟨_, rfl⟩
      obtain ⟨P4, hP4⟩ : ∃ P : Int, P = 4 * D + 16 * n3 + T + 4 * n6 := ⟨_, rfl⟩
      rw [← hP4, ← hP3, ← hP2, ← hP1] at hq
      have HP := Aside0.mk (And.intro hP1 (And.intro hP2 (And.intro hP3 hP4)))
      clear hP1 hP2 hP3 hP4
      (with_reducible refine hq.mono ?_)
      clear hq
      rintro e3 w3 ⟨rfl, hb3⟩
      have HW3 := Aside0.mk (HW2.out.below hb3)
      clear hb3 HW2 gda gdb x0 x1 x2 x3 x4 x5 x6 x7 x8 x9 x10 x11 x12 x13 x14
      go_upto_region 5 with fail
      refine wp_abs (fun W => Sat w W [ABlk w3.heap.size (.cells #[.int .i64 P1, .int .i64 P2, .int .i64 P3, .int .i64 P4] 35 (0, 0)), ABlk w.heap.size (.cells #[.string o.nm, .int .u32 o.key, .slice a.A2 n2 a.c2, .slice a.A3 n3 a.c3, .int .i64 o.data, .string o.text, .slice a.A6 n6 a.c6, .slice a.A7 n7 a.c7, .slice a.A8 n8 a.c8, .slice a.A9 n9 a.c9, .slice a.A10 n10 a.c10, .int .i64 o.x0, .int .i64 o.x1, .int .i64 o.x2, .int .i64 o.body] 31 (0, 0))]) (blk_new HW3.out _) (fun W4 hW4 => ?_)
      generalize w3.heap.size = bp at hW4 ⊢
      replace hW4 := Aside0.mk hW4
      clear HW3
      have y0 : W4.cell? ⟨bp, 0, none⟩ = some (.int .i64 P1) := get_cell (blk_at hW4.out) 0
      have y1 : W4.cell? ⟨bp, 1, none⟩ = some (.int .i64 P2) := get_cell (blk_at hW4.out) 1
      have y2 : W4.cell? ⟨bp, 2, none⟩ = some (.int .i64 P3) := get_cell (blk_at hW4.out) 2
      have y3 : W4.cell? ⟨bp, 3, none⟩ = some (.int .i64 P4) := get_cell (blk_at hW4.out) 3
      have x5 : W4.cell? ⟨w.heap.size, 5, none⟩ = some (.string o.text) := get_cell (blk_at hW4.out.drop) 5
      have HPF := Aside0.mk (show 0 ≤ P1 ∧ P1 ≤ P2 ∧ P2 ≤ P3 ∧ P3 ≤ P4 ∧ P4 ≤ 500000 ∧ P1 % 4 = 0 ∧ P2 % 4 = 0 ∧ P3 % 4 = 0 ∧ P4 % 4 = 0 ∧ P3 - P2 = T from by have h1 := HP.out; have h2 := HDB.out; have h3 := HTB.out; have h4 := HL.out; omega)
      have f1 : (P1 < 0) = False := eq_false (by have := HPF.out; omega)
      have f1b : decide (P1 < 0) = false := decide_eq_false (by have := HPF.out; omega)
      have f2 : (P2 < P1) = False := eq_false (by have := HPF.out; omega)
      have f2b : decide (P2 < P1) = false := decide_eq_false (by have := HPF.out; omega)
      have f3 : (P3 < P2) = False := eq_false (by have := HPF.out; omega)
      have f3b : decide (P3 < P2) = false := decide_eq_false (by have := HPF.out; omega)
      have f4 : (P4 < P3) = False := eq_false (by have := HPF.out; omega)
      have f4b : decide (P4 < P3) = false := decide_eq_false (by have := HPF.out; omega)
      have m1a : P1 % 4 = 0 := by have := HPF.out; omega
      have m1b : Int.tmod P1 4 = 0 := by rw [Int.tmod_eq_emod_of_nonneg (by have := HPF.out; omega)]; exact m1a
      have m1c : 0 ≤ P1 := by have := HPF.out; omega
      have m1d : P1 ≤ 500000 := by have := HPF.out; omega
      have m2a : P2 % 4 = 0 := by have := HPF.out; omega
      have m2b : Int.tmod P2 4 = 0 := by rw [Int.tmod_eq_emod_of_nonneg (by have := HPF.out; omega)]; exact m2a
      have m2c : 0 ≤ P2 := by have := HPF.out; omega
      have m2d : P2 ≤ 500000 := by have := HPF.out; omega
      have m3a : P3 % 4 = 0 := by have := HPF.out; omega
      have m3b : Int.tmod P3 4 = 0 := by rw [Int.tmod_eq_emod_of_nonneg (by have := HPF.out; omega)]; exact m3a
      have m3c : 0 ≤ P3 := by have := HPF.out; omega
      have m3d : P3 ≤ 500000 := by have := HPF.out; omega
      have m4a : P4 % 4 = 0 := by have := HPF.out; omega
      have m4b : Int.tmod P4 4 = 0 := by rw [Int.tmod_eq_emod_of_nonneg (by have := HPF.out; omega)]; exact m4a
      have m4c : 0 ≤ P4 := by have := HPF.out; omega
      have m4d : P4 ≤ 500000 := by have := HPF.out; omega
      have s1 : P3 - P2 = T := by have := HPF.out; omega
      have s2 : (T < ((o.text.size : Nat) : Int)) = False := eq_false (by have := HTB.out; omega)
      have s2b : decide (T < ((o.text.size : Nat) : Int)) = false := decide_eq_false (by have := HTB.out; omega)
      have s3 : (((o.text.size : Nat) : Int) + 3 < T) = False := eq_false (by have := HTB.out; omega)
      have s3b : decide (((o.text.size : Nat) : Int) + 3 < T) = false := decide_eq_false (by have := HTB.out; omega)
      have s4 : ((o.text.size : Nat) : Int) ≤ 300 := by have := HL.out; omega
      go_upto_region 7 with fail
      clear f1 f1b f2 f2b f3 f3b f4 f4b s1 s2 s2b s3 s3b s4 y0 y1 y2 y3 x5 m1a m1b m1c m1d m2a m2b m2c m2d m3a m3b m3c m3d m4a m4b m4c m4d
      have x0 : W4.cell? ⟨w.heap.size, 0, none⟩ = some (.string o.nm) := get_cell (blk_at hW4.out.drop) 0
      have x1 : W4.cell? ⟨w.heap.size, 1, none⟩ = some (.int .u32 o.key) := get_cell (blk_at hW4.out.drop) 1
      have x2 : W4.cell? ⟨w.heap.size, 2, none⟩ = some (.slice a.A2 n2 a.c2) := get_cell (blk_at hW4.out.drop) 2
      have x3 : W4.cell? ⟨w.heap.size, 3, none⟩ = some (.slice a.A3 n3 a.c3) := get_cell (blk_at hW4.out.drop) 3
      have x4 : W4.cell? ⟨w.heap.size, 4, none⟩ = some (.int .i64 o.data) := get_cell (blk_at hW4.out.drop) 4
      have x5 : W4.cell? ⟨w.heap.size, 5, none⟩ = some (.string o.text) := get_cell (blk_at hW4.out.drop) 5
      have x6 : W4.cell? ⟨w.heap.size, 6, none⟩ = some (.slice a.A6 n6 a.c6) := get_cell (blk_at hW4.out.drop) 6
      have x7 : W4.cell? ⟨w.heap.size, 7, none⟩ = some (.slice a.A7 n7 a.c7) := get_cell (blk_at hW4.out.drop) 7
      have x8 : W4.cell? ⟨w.heap.size, 8, none⟩ = some (.slice a.A8 n8 a.c8) := get_cell (blk_at hW4.out.drop) 8
      have x9 : W4.cell? ⟨w.heap.size, 9, none⟩ = some (.slice a.A9 n9 a.c9) := get_cell (blk_at hW4.out.drop) 9
      have x10 : W4.cell? ⟨w.heap.size, 10, none⟩ = some (.slice a.A10 n10 a.c10) := get_cell (blk_at hW4.out.drop) 10
      have x11 : W4.cell? ⟨w.heap.size, 11, none⟩ = some (.int .i64 o.x0) := get_cell (blk_at hW4.out.drop) 11
      have x12 : W4.cell? ⟨w.heap.size, 12, none⟩ = some (.int .i64 o.x1) := get_cell (blk_at hW4.out.drop) 12
      have x13 : W4.cell? ⟨w.heap.size, 13, none⟩ = some (.int .i64 o.x2) := get_cell (blk_at hW4.out.drop) 13
      have x14 : W4.cell? ⟨w.heap.size, 14, none⟩ = some (.int .i64 o.body) := get_cell (blk_at hW4.out.drop) 14
      obtain ⟨r, hr⟩ : ∃ r, refsF o = r := ⟨_, rfl⟩
      have HR := Aside0.mk hr
      clear hr
      go_wp2_with fail
      have hq := rrefs_calls o a W4 n2 n3 n6 n7 n8 n9 n10 HE.out.1 HE.out.2.1 HE.out.2.2.1 HE.out.2.2.2.1 HE.out.2.2.2.2.1 HE.out.2.2.2.2.2.1 HE.out.2.2.2.2.2.2 (HO.out.sat hW4.out) HF.out HS.out r HR.out
      (with_reducible refine hq.mono ?_)
      clear hq
      rintro e5 w5 ⟨vo, vs2, rfl, _, hb5⟩
      have HW5 := Aside0.mk (hW4.out.below hb5)
      clear hb5 hW4 x0 x1 x2 x3 x4 x5 x6 x7 x8 x9 x10 x11 x12 x13 x14
      cases r with
      | none =>
        go_wp2_with fail
        go_ret
        exact ⟨by rfl, HW5.out.toBelow⟩
      | some ls =>
        have HPT := Aside0.mk (show PartsOk o from by
          rcases Classical.em (NamesOk o ∧ PartsOk o) with h1 | h1
          · exact h1.2
          · have := HR.out; rw [refs_none h1] at this; cases this)
        have HSZ := Aside0.mk (show n3 ≤ 8 ∧ n6 ≤ 256 ∧ n8 ≤ 64 ∧ 0 ≤ o.data ∧ o.data ≤ 64 ∧ D = o.data from by have h1 := HPT.out.1; unfold SizesOk at h1; have := HE.out.2.1; have := HE.out.2.2.1; have := HE.out.2.2.2.2.1; have h2 := HDT.out.1; unfold dataP at h2; rw [if_pos (by omega)] at h2; omega)
        go_wp2_with fail
        go_loopg [7] (n8 + 1) (fun kq v w' => ∃ i : Nat, v = .int .i64 i ∧ Aside0 (i ≤ n8 ∧ n8 - i < kq) ∧ Aside0 (Sat w w' [ABlk bp (.cells #[.int .i64 P1, .int .i64 P2, .int .i64 P3, .int .i64 P4] 35 (0, 0)), ABlk w.heap.size (.cells #[.string o.nm, .int .u32 o.key, .slice a.A2 n2 a.c2, .slice a.A3 n3 a.c3, .int .i64 o.data, .string o.text, .slice a.A6 n6 a.c6, .slice a.A7 n7 a.c7, .slice a.A8 n8 a.c8, .slice a.A9 n9 a.c9, .slice a.A10 n10 a.c10, .int .i64 o.x0, .int .i64 o.x1, .int .i64 o.x2, .int .i64 o.body] 31 (0, 0))]))
        case atStart => exact ⟨0, rfl, ⟨by omega⟩, HW5⟩
        case round =>
          clear HW5
          obtain ⟨i, rfl, Hi, HW⟩ := hrel
          have x0 : wr.cell? ⟨w.heap.size, 0, none⟩ = some (.string o.nm) := get_cell (blk_at HW.out.drop) 0
          have x1 : wr.cell? ⟨w.heap.size, 1, none⟩ = some (.int .u32 o.key) := get_cell (blk_at HW.out.drop) 1
          have x2 : wr.cell? ⟨w.heap.size, 2, none⟩ = some (.slice a.A2 n2 a.c2) := get_cell (blk_at HW.out.drop) 2
          have x3 : wr.cell? ⟨w.heap.size, 3, none⟩ = some (.slice a.A3 n3 a.c3) := get_cell (blk_at HW.out.drop) 3
          have x4 : wr.cell? ⟨w.heap.size, 4, none⟩ = some (.int .i64 o.data) := get_cell (blk_at HW.out.drop) 4
          have x5 : wr.cell? ⟨w.heap.size, 5, none⟩ = some (.string o.text) := get_cell (blk_at HW.out.drop) 5
          have x6 : wr.cell? ⟨w.heap.size, 6, none⟩ = some (.slice a.A6 n6 a.c6) := get_cell (blk_at HW.out.drop) 6
          have x7 : wr.cell? ⟨w.heap.size, 7, none⟩ = some (.slice a.A7 n7 a.c7) := get_cell (blk_at HW.out.drop) 7
          have x8 : wr.cell? ⟨w.heap.size, 8, none⟩ = some (.slice a.A8 n8 a.c8) := get_cell (blk_at HW.out.drop) 8
          have x9 : wr.cell? ⟨w.heap.size, 9, none⟩ = some (.slice a.A9 n9 a.c9) := get_cell (blk_at HW.out.drop) 9
          have x10 : wr.cell? ⟨w.heap.size, 10, none⟩ = some (.slice a.A10 n10 a.c10) := get_cell (blk_at HW.out.drop) 10
          have x11 : wr.cell? ⟨w.heap.size, 11, none⟩ = some (.int .i64 o.x0) := get_cell (blk_at HW.out.drop) 11
          have x12 : wr.cell? ⟨w.heap.size, 12, none⟩ = some (.int .i64 o.x1) := get_cell (blk_at HW.out.drop) 12
          have x13 : wr.cell? ⟨w.heap.size, 13, none⟩ = some (.int .i64 o.x2) := get_cell (blk_at HW.out.drop) 13
          have x14 : wr.cell? ⟨w.heap.size, 14, none⟩ = some (.int .i64 o.body) := get_cell (blk_at HW.out.drop) 14
          by_cases hlt : i < n8
          · obtain ⟨x, hx⟩ : ∃ x, o.exps[i]? = some x := ⟨_, List.getElem?_eq_getElem (by have := HE.out.2.2.2.2.1; omega)⟩
            have HV := Aside0.mk hx
            have HQ := Aside0.mk hlt
            have q1 : (i < n8) = True := eq_true hlt
            have q2 : 0 ≤ (i : Int) := by omega
            have q3 : (i : Int) ≤ 300 := by have := HSZ.out; omega
            have HX := Aside0.mk (HPT.out.2.2.1 i x hx)
            have HEX := Aside0.mk (show 0 ≤ x.f1 ∧ (x.f0 = 0 ∧ x.f1 < n6 ∨ x.f0 = 1 ∧ x.f1 < o.data ∨ x.f0 = 2 ∧ x.f1 < n3) from by have h := HX.out; unfold ExpOk at h; rw [← HE.out.2.2.1, ← HE.out.2.1] at h; exact h)
            clear hx hlt
            go_wp2_with fail
            obtain ⟨at_, hat⟩ : ∃ r : Int, r = if x.f0 = 0 then 4 * D + 16 * n3 + T + 4 * x.f1 else if x.f0 = 1 then 4 * x.f1 else 4 * D + 16 * x.f1 := ⟨_, rfl⟩
            have HAT := Aside0.mk hat
            clear hat
            have hq := Export_calls o a wr n2 n3 n6 n7 n8 n9 n10 HE.out.2.2.2.2.1 (HO.out.sat HW.out) (by have := HSZ.out; omega) (by have := HSZ.out; omega) HD.out (by have := HL.out; omega) D T HDT.out.1 HDT.out.2 i x HV.out HEX.out.1 (by have := HEX.out; have := HSZ.out; omega) at_ HAT.out (by have := HEX.out; omega)
            (with_reducible refine hq.mono ?_)
            clear hq
            rintro e6 w6 ⟨rfl, hb6⟩
            have HW6 := Aside0.mk (HW.out.below hb6)
            clear hb6 HW x0 x1 x2 x3 x4 x5 x6 x7 x8 x9 x10 x11 x12 x13 x14
            obtain ⟨adx, eAx, y0, y1⟩ := at_T43 (HO.out.sat HW6.out).r8 (i : Int) (by omega) (by have := HE.out.2.2.2.2.1; have := HQ.out; omega)
            have evx : rd_T43 o.exps (i : Int) = x := by
              have hl := (List.getElem?_eq_some_iff.1 HV.out).1
              have := (List.getElem?_eq_some_iff.1 HV.out).2
              simp [rd_T43, hl, this]
            rw [evx] at y0
            simp only [Int.toNat_natCast] at y0
            clear y1 evx
            have x8 : w6.cell? ⟨w.heap.size, 8, none⟩ = some (.slice a.A8 n8 a.c8) := get_cell (blk_at HW6.out.drop) 8
            rw [eAx] at x8
            clear eAx
            have z0 : w6.cell? ⟨bp, 0, none⟩ = some (.int .i64 P1) := get_cell (blk_at HW6.out) 0
            have z1 : w6.cell? ⟨bp, 1, none⟩ = some (.int .i64 P2) := get_cell (blk_at HW6.out) 1
            have z2 : w6.cell? ⟨bp, 2, none⟩ = some (.int .i64 P3) := get_cell (blk_at HW6.out) 2
            have z3 : w6.cell? ⟨bp, 3, none⟩ = some (.int .i64 P4) := get_cell (blk_at HW6.out) 3
            have HA4 := Aside0.mk (show at_ % 4 = 0 ∧ 0 ≤ at_ ∧ at_ ≤ 500000 ∧ (x.f0 = 0 → P3 ≤ at_ ∧ at_ < P4) ∧ (x.f0 = 1 → at_ < P1) ∧ (x.f0 = 2 → P1 ≤ at_ ∧ at_ < P2) from by
              have h1 := HAT.out
              have h2 := HEX.out
              have h3 := HP.out
              have h4 := HSZ.out
              have h5 := HTB.out
              have h6 := HL.out
              rcases h2.2 with h | h | h
              · rw [if_pos h.1] at h1; omega
              · rw [if_neg (by omega), if_pos h.1] at h1; omega
              · rw [if_neg (by omega), if_neg (by omega)] at h1; omega)
            have a1 : at_ % 4 = 0 := HA4.out.1
            have a2 : 0 ≤ at_ := HA4.out.2.1
            have a3 : (at_ % 4 != 0) = false := by simpa using a1
            have a4 : Int.tmod at_ 4 = 0 := by rw [Int.tmod_eq_emod_of_nonneg a2]; exact a1
            obtain ⟨b0, b1⟩ := x
            simp only at y0
            rcases HEX.out.2 with h0 | h0 | h0
            · have hk : b0 = 0 := h0.1
              subst hk
              clear h0
              have k1 : (P3 ≤ at_) = True := eq_true (HA4.out.2.2.2.1 rfl).1
              have k1b : decide (P3 ≤ at_) = true := decide_eq_true (HA4.out.2.2.2.1 rfl).1
              have k2 : (at_ < P4) = True := eq_true (HA4.out.2.2.2.1 rfl).2
              have k2b : decide (at_ < P4) = true := decide_eq_true (HA4.out.2.2.2.1 rfl).2
              go_wp2_with fail
              go_roundg (gk - 1)
              case measure => have := Hi.out; have := HQ.out; omega
              case rel => exact ⟨i + 1, by go_num, ⟨by have := Hi.out; have := HQ.out; omega⟩, HW6⟩
            · have hk : b0 = 1 := h0.1
              subst hk
              clear h0
              have k2 : (at_ < P1) = True := eq_true (HA4.out.2.2.2.2.1 rfl)
              have k2b : decide (at_ < P1) = true := decide_eq_true (HA4.out.2.2.2.2.1 rfl)
              have k3 : decide (0 ≤ at_) = true := decide_eq_true a2
              go_wp2_with fail
              go_roundg (gk - 1)
              case measure => have := Hi.out; have := HQ.out; omega
              case rel => exact ⟨i + 1, by go_num, ⟨by have := Hi.out; have := HQ.out; omega⟩, HW6⟩
            · have hk : b0 = 2 := h0.1
              subst hk
              clear h0
              have k1 : (P1 ≤ at_) = True := eq_true (HA4.out.2.2.2.2.2 rfl).1
              have k1b : decide (P1 ≤ at_) = true := decide_eq_true (HA4.out.2.2.2.2.2 rfl).1
              have k2 : (at_ < P2) = True := eq_true (HA4.out.2.2.2.2.2 rfl).2
              have k2b : decide (at_ < P2) = true := decide_eq_true (HA4.out.2.2.2.2.2 rfl).2
              go_wp2_with fail
              go_roundg (gk - 1)
              case measure => have := Hi.out; have := HQ.out; omega
              case rel => exact ⟨i + 1, by go_num, ⟨by have := Hi.out; have := HQ.out; omega⟩, HW6⟩
          · have q1 : (i < n8) = False := eq_false hlt
            clear hlt
            go_wp2_with fail
            go_ret
            exact ⟨by rfl, HW.out.toBelow⟩
end Go.Proofs.Ytnflalbiffamdaa.MineObj
