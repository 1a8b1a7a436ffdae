/- Zones: the document's MayZone. Conditions: short lists of cells. -/
import Derived.Test.YtkeijpngfnmjoaaMineZoneA
namespace Go.Proofs.Ytkeijpngfnmjoaa.MineZone
open Go.RowKit Go.MapKept Go.Proofs.YtkeijpngfnmjoaaW.PrintWords Go.Proofs.YtkeijpngfnmjoaaW.PrintLast Go.Proofs.YtkeijpngfnmjoaaW.PrintMore Go.Proofs.Ytkeijpngfnmjoaa.MineBase Go.Proofs.Ytkeijpngfnmjoaa.MineSep Go.Proofs.Ytkeijpngfnmjoaa.MineRows Go.Proofs.Ytkeijpngfnmjoaa.MineGen Go.Proofs.Ytkeijpngfnmjoaa.QZonePlays
attribute [local go_sem ↓] Go.wp_at_zero Go.wp_at_succ
set_option linter.unusedVariables false
set_option linter.unusedSimpArgs false
/-- May a zone's places be? -/
def Places (b0 b1 b2 b3 : Int) : Prop := 272 ≤ b0 ∧ b0 ≤ b1 ∧ b1 ≤ b2 ∧ b2 ≤ b3 ∧ b3 ≤ 65536 ∧ b0 ≠ b3 ∧ b0 % 4 = 0 ∧ b1 % 4 = 0 ∧ b2 % 4 = 0 ∧ b3 % 4 = 0
set_option maxRecDepth 100000 in
set_option maxHeartbeats 4000000 in
theorem May_yes (b0 b1 b2 b3 : Int) (A4 : Option Addr) (c4 : Nat) (ps : List Int) (A5 : Option Addr) (c5 : Nat) (qs : List Int) (w : World)
    (h1 : Kd.C (Kd.int .i64) w A4 ps.length ps) (hc1 : ps.length ≤ c4) (h2 : Kd.C (Kd.int .i64) w A5 qs.length qs) (hc2 : qs.length ≤ c5) (hl : ps.length ≤ 100) (ho : qs.length ≤ 100) (hP : Places b0 b1 b2 b3) (r1 r2 : Bool) (hr1 : r1 = true ↔ Fine b0 b1 ps qs) (hr2 : r2 = true ↔ Fine b0 b1 qs ps) :
    Calls Try.prog 76 #[.agg #[.int .i64 b0, .int .i64 b1, .int .i64 b2, .int .i64 b3, .slice A4 ps.length c4, .slice A5 qs.length c5]] w fun e w' => e = .returned (.bool (r1 && r2)) ∧ Below w.heap.size w w' := by
  have H1 := Aside0.mk (And.intro h1 hc1)
  have H2 := Aside0.mk (And.intro h2 hc2)
  have HL := Aside0.mk (And.intro hl ho)
  have HR := Aside0.mk (And.intro hr1 hr2)
  obtain ⟨p1, p2, p3, p4, p5, p6, p7, p8, p9, p10⟩ := hP
  have e1 : (b0 < 272) = False := eq_false (by omega)
  have e2 : (b1 < b0) = False := eq_false (by omega)
  have e3 : (b2 < b1) = False := eq_false (by omega)
  have e4 : (b3 < b2) = False := eq_false (by omega)
  have e5 : (65536 < b3) = False := eq_false (by omega)
  have e6 : (b0 = b3) = False := eq_false p6
  have e6' : (b0 == b3) = false := by simpa using p6
  have d1 : 0 ≤ b0 := by omega
  have d2 : 0 ≤ b1 := by omega
  have d3 : 0 ≤ b2 := by omega
  have d4 : 0 ≤ b3 := by omega
  have f1 : (b0 % 4 != 0) = false := by simpa using p7
  have f2 : (b1 % 4 != 0) = false := by simpa using p8
  have f3 : (b2 % 4 != 0) = false := by simpa using p9
  have f4 : (b3 % 4 != 0) = false := by simpa using p10
  clear h1 hc1 h2 hc2 hl ho hr1 hr2 p1 p2 p3 p4 p5 p6
  have hu82 := Try.underlying82
  go_enter Try.func76, Try.ntmps76
  go_wp2_with fail
  have HW := Aside0.mk (blk_new (Sat.start w) (.cells #[.int .i64 b0, .int .i64 b1, .int .i64 b2, .int .i64 b3, .slice A4 ps.length c4, .slice A5 qs.length c5] 82))
  generalize w.alloc (.cells #[.int .i64 b0, .int .i64 b1, .int .i64 b2, .int .i64 b3, .slice A4 ps.length c4, .slice A5 qs.length c5] 82) = W at *
  have hq := fine_calls b0 b1 b2 b3 A4 ps.length c4 A5 qs.length c5 A4 c4 ps A5 c5 qs W (Kd.C_below H1.out.1 HW.out.toBelow) H1.out.2 (Kd.C_below H2.out.1 HW.out.toBelow) H2.out.2 HL.out.1 HL.out.2 d1 r1 HR.out.1
  (with_reducible refine hq.mono ?_)
  clear hq
  rintro e7 w7 ⟨rfl, hb7⟩
  have HW7 := Aside0.mk (HW.out.below hb7)
  clear hb7
  have y0 : w7.cell? ⟨w.heap.size, 0, none⟩ = some (.int .i64 b0) := get_cell (blk_at HW7.out) 0
  have y1 : w7.cell? ⟨w.heap.size, 1, none⟩ = some (.int .i64 b1) := get_cell (blk_at HW7.out) 1
  have y2 : w7.cell? ⟨w.heap.size, 2, none⟩ = some (.int .i64 b2) := get_cell (blk_at HW7.out) 2
  have y3 : w7.cell? ⟨w.heap.size, 3, none⟩ = some (.int .i64 b3) := get_cell (blk_at HW7.out) 3
  have y4 : w7.cell? ⟨w.heap.size, 4, none⟩ = some (.slice A4 ps.length c4) := get_cell (blk_at HW7.out) 4
  have y5 : w7.cell? ⟨w.heap.size, 5, none⟩ = some (.slice A5 qs.length c5) := get_cell (blk_at HW7.out) 5
  go_wp2_with fail
  have hq := fine_calls b0 b1 b2 b3 A4 ps.length c4 A5 qs.length c5 A5 c5 qs A4 c4 ps w7 (Kd.C_below H2.out.1 HW7.out.toBelow) H2.out.2 (Kd.C_below H1.out.1 HW7.out.toBelow) H1.out.2 HL.out.2 HL.out.1 d1 r2 HR.out.2
  (with_reducible refine hq.mono ?_)
  clear hq
  rintro e8 w8 ⟨rfl, hb8⟩
  have HW8 := Aside0.mk (HW7.out.below hb8)
  clear hb8
  cases r1 with
  | true =>
    go_wp2_with fail
    go_ret
    exact ⟨by rfl, HW8.out.toBelow⟩
  | false =>
    go_wp2_with fail
    go_ret
    exact ⟨by rfl, HW8.out.toBelow⟩
set_option maxRecDepth 100000 in
set_option maxHeartbeats 4000000 in
theorem May_no (b0 b1 b2 b3 : Int) (v4 v5 : Value) (A4 : Option Addr) (n4 c4 : Nat) (A5 : Option Addr) (n5 c5 : Nat) (w : World) (hP : ¬ Places b0 b1 b2 b3) :
    Calls Try.prog 76 #[.agg #[.int .i64 b0, .int .i64 b1, .int .i64 b2, .int .i64 b3, .slice A4 n4 c4, .slice A5 n5 c5]] w fun e w' => e = .returned (.bool false) ∧ Below w.heap.size w w' := by
  have hu82 := Try.underlying82
  by_cases g0 : b0 < 272
  · have e1 : (b0 < 272) = True := eq_true g0
    clear hP g0
    go_enter Try.func76, Try.ntmps76
    go_wp2_with fail
    go_ret
    exact ⟨by rfl, (blk_new (Sat.start w) _).toBelow⟩
  have e1 : (b0 < 272) = False := eq_false g0
  have d1 : 0 ≤ b0 := by omega
  by_cases g1 : b1 < b0
  · have e2 : (b1 < b0) = True := eq_true g1
    clear hP g0 g1
    go_enter Try.func76, Try.ntmps76
    go_wp2_with fail
    go_ret
    exact ⟨by rfl, (blk_new (Sat.start w) _).toBelow⟩
  have e2 : (b1 < b0) = False := eq_false g1
  by_cases g2 : b2 < b1
  · have e3 : (b2 < b1) = True := eq_true g2
    clear hP g0 g1 g2
    go_enter Try.func76, Try.ntmps76
    go_wp2_with fail
    go_ret
    exact ⟨by rfl, (blk_new (Sat.start w) _).toBelow⟩
  have e3 : (b2 < b1) = False := eq_false g2
  by_cases g3 : b3 < b2
  · have e4 : (b3 < b2) = True := eq_true g3
    clear hP g0 g1 g2 g3
    go_enter Try.func76, Try.ntmps76
    go_wp2_with fail
    go_ret
    exact ⟨by rfl, (blk_new (Sat.start w) _).toBelow⟩
  have e4 : (b3 < b2) = False := eq_false g3
  by_cases g4 : 65536 < b3
  · have e5 : (65536 < b3) = True := eq_true g4
    clear hP g0 g1 g2 g3 g4
    go_enter Try.func76, Try.ntmps76
    go_wp2_with fail
    go_ret
    exact ⟨by rfl, (blk_new (Sat.start w) _).toBelow⟩
  have e5 : (65536 < b3) = False := eq_false g4
  by_cases g5 : b0 = b3
  · have e6 : (b0 = b3) = True := eq_true g5
    have e6' : (b0 == b3) = true := by simpa using g5
    clear hP g0 g1 g2 g3 g4 g5
    go_enter Try.func76, Try.ntmps76
    go_wp2_with fail
    go_ret
    exact ⟨by rfl, (blk_new (Sat.start w) _).toBelow⟩
  have e6 : (b0 = b3) = False := eq_false g5
  have e6' : (b0 == b3) = false := by simpa using g5
  have d2 : 0 ≤ b1 := by omega
  have d3 : 0 ≤ b2 := by omega
  have d4 : 0 ≤ b3 := by omega
  by_cases g6 : ¬ b0 % 4 = 0
  · have f0 : (b0 % 4 != 0) = true := by simpa using g6
    have h0 : (b0 % 4 = 0) = False := eq_false g6
    clear hP g0 g1 g2 g3 g4 g5 g6
    go_enter Try.func76, Try.ntmps76
    go_wp2_with fail
    go_ret
    exact ⟨by rfl, (blk_new (Sat.start w) _).toBelow⟩
  replace g6 : b0 % 4 = 0 := Decidable.not_not.1 g6
  have f0 : (b0 % 4 != 0) = false := by simpa using g6
  by_cases g7 : ¬ b1 % 4 = 0
  · have f1 : (b1 % 4 != 0) = true := by simpa using g7
    have h1 : (b1 % 4 = 0) = False := eq_false g7
    clear hP g0 g1 g2 g3 g4 g5 g6 g7
    go_enter Try.func76, Try.ntmps76
    go_wp2_with fail
    go_ret
    exact ⟨by rfl, (blk_new (Sat.start w) _).toBelow⟩
  replace g7 : b1 % 4 = 0 := Decidable.not_not.1 g7
  have f1 : (b1 % 4 != 0) = false := by simpa using g7
  by_cases g8 : ¬ b2 % 4 = 0
  · have f2 : (b2 % 4 != 0) = true := by simpa using g8
    have h2 : (b2 % 4 = 0) = False := eq_false g8
    clear hP g0 g1 g2 g3 g4 g5 g6 g7 g8
    go_enter Try.func76, Try.ntmps76
    go_wp2_with fail
    go_ret
    exact ⟨by rfl, (blk_new (Sat.start w) _).toBelow⟩
  replace g8 : b2 % 4 = 0 := Decidable.not_not.1 g8
  have f2 : (b2 % 4 != 0) = false := by simpa using g8
  have g9 : ¬ b3 % 4 = 0 := fun h => hP ⟨by omega, by omega, by omega, by omega, by omega, g5, g6, g7, g8, h⟩
  have f3 : (b3 % 4 != 0) = true := by simpa using g9
  have h3 : (b3 % 4 = 0) = False := eq_false g9
  clear hP g0 g1 g2 g3 g4 g5 g9
  go_enter Try.func76, Try.ntmps76
  go_wp2_with fail
  go_ret
  exact ⟨by rfl, (blk_new (Sat.start w) _).toBelow⟩
end Go.Proofs.Ytkeijpngfnmjoaa.MineZone
