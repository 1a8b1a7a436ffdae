/- Zones: a zone that is refused, by the program. Conditions: the rows are short. -/
import Derived.Test.YtkeijpngfnmjoaaMineZoneG
namespace Go.Proofs.Ytkeijpngfnmjoaa.MineZone
open Go.Lib Go.Shelf Go.RowKit Go.MapKept Go.Proofs.YtkeijpngfnmjoaaW.PrintWords Go.Proofs.YtkeijpngfnmjoaaW.PrintLast Go.Proofs.YtkeijpngfnmjoaaW.PrintMore Go.Proofs.Ytkeijpngfnmjoaa.MineBase Go.Proofs.Ytkeijpngfnmjoaa.MineSep Go.Proofs.Ytkeijpngfnmjoaa.MineRows Go.Proofs.Ytkeijpngfnmjoaa.MineGen Go.Proofs.Ytkeijpngfnmjoaa.QZonePlays Go.Proofs.Ytkeijpngfnmjoaa.MineMap
attribute [local go_sem ↓] Go.wp_at_zero Go.wp_at_succ
set_option linter.unusedVariables false
set_option linter.unusedSimpArgs false
set_option maxHeartbeats 4000000 in
set_option maxRecDepth 100000 in
theorem Add_no {z m : Nat} {zs : List S82} {w : World} (h : ZR z m zs w) (x : S82) (A4 : Option Addr) (c4 : Nat) (A5 : Option Addr) (c5 : Nat) (h4 : (Kd.int .i64).C w A4 x.f4.length x.f4) (h5 : (Kd.int .i64).C w A5 x.f5.length x.f5) (hn4 : x.f4.length ≤ 100) (hn5 : x.f5.length ≤ 100)
    (hno : ¬ Ok x ∨ zs.any (clash x) = true) :
    Calls Try.prog 40 #[.pointer (some ⟨z, 0, none⟩), .agg #[.int .i64 x.f0, .int .i64 x.f1, .int .i64 x.f2, .int .i64 x.f3, .slice A4 x.f4.length c4, .slice A5 x.f5.length c5]] w fun e w' => e = .returned (.iface 39 (.int .i64 1)) ∧ Below w.heap.size w w' := by
  have H := Aside0.mk h
  obtain ⟨W, hWe⟩ : ∃ W, w.alloc (.cells #[.int .i64 x.f0, .int .i64 x.f1, .int .i64 x.f2, .int .i64 x.f3, .slice A4 x.f4.length c4, .slice A5 x.f5.length c5] 75) = W := ⟨_, rfl⟩
  have hW := Aside0.mk (show Sat w W [ABlk w.heap.size (.cells #[.int .i64 x.f0, .int .i64 x.f1, .int .i64 x.f2, .int .i64 x.f3, .slice A4 x.f4.length c4, .slice A5 x.f5.length c5] 75 (0, 0))] from by rw [← hWe]; exact blk_new (Sat.start w) _)
  have hm := fun r hr => may_calls x A4 c4 A5 c5 W (Kd.C_below h4 hW.out.toBelow) (Kd.C_below h5 hW.out.toBelow) hn4 hn5 r hr
  have y0 : W.cell? ⟨w.heap.size, 0, none⟩ = some (.int .i64 x.f0) := get_cell (blk_at hW.out) 0
  have y1 : W.cell? ⟨w.heap.size, 1, none⟩ = some (.int .i64 x.f1) := get_cell (blk_at hW.out) 1
  have y2 : W.cell? ⟨w.heap.size, 2, none⟩ = some (.int .i64 x.f2) := get_cell (blk_at hW.out) 2
  have y3 : W.cell? ⟨w.heap.size, 3, none⟩ = some (.int .i64 x.f3) := get_cell (blk_at hW.out) 3
  have y4 : W.cell? ⟨w.heap.size, 4, none⟩ = some (.slice A4 x.f4.length c4) := get_cell (blk_at hW.out) 4
  have y5 : W.cell? ⟨w.heap.size, 5, none⟩ = some (.slice A5 x.f5.length c5) := get_cell (blk_at hW.out) 5
  have hu75 := Try.underlying75
  clear h h4 h5 hn4 hn5
  by_cases ho : Ok x
  · have hc : zs.any (clash x) = true := hno.resolve_left (fun h => h ho)
    have HM := Aside0.mk (hm true (by simp [ho]))
    have HC := Aside0.mk hc
    clear hm ho hno hc
    go_enter Try.func40, Try.ntmps40
    go_upto_region 1 with fail
    try rw [hWe]
    clear hWe
    go_wp2_with fail
    (with_reducible refine HM.out.mono ?_)
    rintro e1 w1 ⟨rfl, hb1⟩
    have HB1 := Aside0.mk (hW.out.below hb1)
    clear hb1 y0 y1 y2 y3 y4 y5
    obtain ⟨A, c, hz, hC⟩ := (H.out.below HB1.out.toBelow).row
    have x0 : w1.cell? ⟨z, 0, none⟩ = some (.slice A zs.length c) := get_cell hz 0
    have y0 : w1.cell? ⟨w.heap.size, 0, none⟩ = some (.int .i64 x.f0) := get_cell (blk_at HB1.out) 0
    have y3 : w1.cell? ⟨w.heap.size, 3, none⟩ = some (.int .i64 x.f3) := get_cell (blk_at HB1.out) 3
    have hq := Contains1_calls 79 _ _ A c zs w1 hC H.out.few (tells_clash y0 y3)
    rw [HC.out] at hq
    have HQ := Aside0.mk hq
    clear hq hz hC y0 y3
    go_wp2_with fail
    (with_reducible refine HQ.out.mono ?_)
    rintro e2 w2 ⟨rfl, hb2⟩
    have HB2 := Aside0.mk (HB1.out.below hb2)
    clear hb2
    go_wp2_with fail
    go_ret
    exact ⟨by rfl, HB2.out.toBelow⟩
  · have HM := Aside0.mk (hm false (by simp [ho]))
    clear hm ho hno
    go_enter Try.func40, Try.ntmps40
    go_upto_region 1 with fail
    try rw [hWe]
    clear hWe
    go_wp2_with fail
    (with_reducible refine HM.out.mono ?_)
    rintro e1 w1 ⟨rfl, hb1⟩
    have HB1 := Aside0.mk (hW.out.below hb1)
    clear hb1 y0 y1 y2 y3 y4 y5
    go_wp2_with fail
    go_ret
    exact ⟨by rfl, HB1.out.toBelow⟩
end Go.Proofs.Ytkeijpngfnmjoaa.MineZone
