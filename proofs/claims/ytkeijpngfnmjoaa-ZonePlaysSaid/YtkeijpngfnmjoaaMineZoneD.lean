/- Zones: what can be done at any place, by the program. Conditions: the list is short; the map tells the cells. -/
import Derived.Test.YtkeijpngfnmjoaaMineZoneC
namespace Go.Proofs.Ytkeijpngfnmjoaa.MineZone
open Go.Shelf Go.RowKit Go.MapKept Go.Proofs.YtkeijpngfnmjoaaW.PrintWords Go.Proofs.YtkeijpngfnmjoaaW.PrintLast Go.Proofs.YtkeijpngfnmjoaaW.PrintMore Go.Proofs.Ytkeijpngfnmjoaa.MineBase Go.Proofs.Ytkeijpngfnmjoaa.MineSep Go.Proofs.Ytkeijpngfnmjoaa.MineRows Go.Proofs.Ytkeijpngfnmjoaa.MineGen Go.Proofs.Ytkeijpngfnmjoaa.QZonePlays Go.Proofs.Ytkeijpngfnmjoaa.MineMap
attribute [local go_sem ↓] Go.wp_at_zero Go.wp_at_succ
set_option linter.unusedVariables false
set_option linter.unusedSimpArgs false
set_option maxRecDepth 100000 in
set_option maxHeartbeats 2000000 in
theorem within_calls (a n f t : Int) (hn : n ≤ 9223372036854775807) (ht : 0 ≤ t) (ht2 : t ≤ 100000) (w : World) : Calls Try.prog 105 #[.int .i64 a, .int .i64 n, .int .i64 f, .int .i64 t] w fun e w' => e = .returned (.bool (inR a n f t)) ∧ w' = w := by
  unfold inR
  by_cases g1 : 1 ≤ n
  · have d1 : decide (1 ≤ n) = true := decide_eq_true g1
    have p1 : (1 ≤ n) = True := eq_true g1
    by_cases g2 : f ≤ a
    · have d2 : decide (f ≤ a) = true := decide_eq_true g2
      have p2 : (f ≤ a) = True := eq_true g2
      have w1 : wrap64 (t - n) = t - n := by unfold wrap64; omega
      obtain ⟨b, hb⟩ : ∃ b, decide (a ≤ t - n) = b := ⟨_, rfl⟩
      rw [d1, d2, hb]
      clear g2
      go_enter Try.func105, Try.ntmps105
      go_wp2
      go_ret
      exact ⟨by first | rfl | simp, rfl⟩
    · have d2 : decide (f ≤ a) = false := decide_eq_false g2
      have p2 : (f ≤ a) = False := eq_false g2
      clear g1 g2
      go_enter Try.func105, Try.ntmps105
      go_wp2
      go_ret
      exact ⟨by simp [d2], rfl⟩
  · have d1 : decide (1 ≤ n) = false := decide_eq_false g1
    have p1 : (1 ≤ n) = False := eq_false g1
    clear g1
    go_enter Try.func105, Try.ntmps105
    go_wp2
    go_ret
    exact ⟨by simp [d1], rfl⟩
theorem to85_calls (y : S82) (A4 : Option Addr) (c4 : Nat) (A5 : Option Addr) (c5 : Nat) (w : World) : Calls Try.prog 85 #[.agg #[.int .i64 y.f0, .int .i64 y.f1, .int .i64 y.f2, .int .i64 y.f3, .slice A4 y.f4.length c4, .slice A5 y.f5.length c5]] w fun e w' => e = .returned (.int .i64 y.f2) ∧ Below w.heap.size w w' := by
  have hu75 := Try.underlying75
  go_enter Try.func85, Try.ntmps85
  go_wp2
  go_ret
  exact ⟨by rfl, below_alloc (Below.refl _ _) _⟩
theorem to87_calls (y : S82) (A4 : Option Addr) (c4 : Nat) (A5 : Option Addr) (c5 : Nat) (w : World) : Calls Try.prog 87 #[.agg #[.int .i64 y.f0, .int .i64 y.f1, .int .i64 y.f2, .int .i64 y.f3, .slice A4 y.f4.length c4, .slice A5 y.f5.length c5]] w fun e w' => e = .returned (.int .i64 y.f1) ∧ Below w.heap.size w w' := by
  have hu75 := Try.underlying75
  go_enter Try.func87, Try.ntmps87
  go_wp2
  go_ret
  exact ⟨by rfl, below_alloc (Below.refl _ _) _⟩
set_option maxRecDepth 100000 in
set_option maxHeartbeats 4000000 in
theorem tells_can85 {a n : Int} {b1 b2 b3 : Nat} {w : World} {zs : List S82} (hn : n ≤ 9223372036854775807) (hz : ∀ y ∈ zs, 0 ≤ y.f2 ∧ y.f2 ≤ 100000) (h1 : w.cell? ⟨b1, 0, none⟩ = some (.int .i64 a)) (h2 : w.cell? ⟨b2, 0, none⟩ = some (.int .i64 n)) (h3 : w.cell? ⟨b3, 0, none⟩ = some (.func (.func 85) #[] #[])) :
    Tells3 106 (.pointer (some ⟨b1, 0, none⟩)) (.pointer (some ⟨b2, 0, none⟩)) (.pointer (some ⟨b3, 0, none⟩)) (fun z => inR a n z.f0 z.f2) zs w := by
  refine ⟨enters_of Try.func106 (by kernel_rfl) rfl, fun y A4 c4 A5 c5 W hy hb => ?_⟩
  have HZ := Aside0.mk (hz y hy)
  have HN := Aside0.mk hn
  have k1 := pw_cell_below hb h1
  have k2 := pw_cell_below hb h2
  have k3 := pw_cell_below hb h3
  clear h1 h2 h3 hz hn hy hb
  have hu75 := Try.underlying75
  go_enter Try.func106, Try.ntmps106
  go_upto_region 1 with fail
  have HB := Aside0.mk (blk_new (Sat.start W) (.cells #[.int .i64 y.f0, .int .i64 y.f1, .int .i64 y.f2, .int .i64 y.f3, .slice A4 y.f4.length c4, .slice A5 y.f5.length c5] 75))
  obtain ⟨g, hg⟩ : ∃ g, W.heap.size = g := ⟨_, rfl⟩
  have hba := below_alloc (Below.refl W.heap.size W) (.cells #[.int .i64 y.f0, .int .i64 y.f1, .int .i64 y.f2, .int .i64 y.f3, .slice A4 y.f4.length c4, .slice A5 y.f5.length c5] 75)
  rw [hg] at HB ⊢
  replace k1 := pw_cell_below hba k1
  replace k2 := pw_cell_below hba k2
  replace k3 := pw_cell_below hba k3
  have HB0 := Aside0.mk hba
  clear hba
  generalize W.alloc (.cells #[.int .i64 y.f0, .int .i64 y.f1, .int .i64 y.f2, .int .i64 y.f3, .slice A4 y.f4.length c4, .slice A5 y.f5.length c5] 75) = W1 at *
  have HS := Aside0.mk (fun (w2 : World) (hb : Below W1.heap.size W1 w2) => (⟨pw_cell_below hb k1, pw_cell_below hb k2, pw_cell_below hb k3, pw_cell_below hb (get_cell (blk_at HB.out) 0), pw_cell_below hb (get_cell (blk_at HB.out) 1), pw_cell_below hb (get_cell (blk_at HB.out) 2), pw_cell_below hb (get_cell (blk_at HB.out) 3), pw_cell_below hb (get_cell (blk_at HB.out) 4), pw_cell_below hb (get_cell (blk_at HB.out) 5)⟩ : w2.cell? ⟨b1, 0, none⟩ = some (.int .i64 a) ∧ w2.cell? ⟨b2, 0, none⟩ = some (.int .i64 n) ∧ w2.cell? ⟨b3, 0, none⟩ = some (.func (.func 85) #[] #[]) ∧ w2.cell? ⟨g, 0, none⟩ = some (.int .i64 y.f0) ∧ w2.cell? ⟨g, 1, none⟩ = some (.int .i64 y.f1) ∧ w2.cell? ⟨g, 2, none⟩ = some (.int .i64 y.f2) ∧ w2.cell? ⟨g, 3, none⟩ = some (.int .i64 y.f3) ∧ w2.cell? ⟨g, 4, none⟩ = some (.slice A4 y.f4.length c4) ∧ w2.cell? ⟨g, 5, none⟩ = some (.slice A5 y.f5.length c5)))
  clear k1 k2 k3
  go_region_held3 (fun w2 => w2.cell? ⟨b1, 0, none⟩ = some (.int .i64 a) ∧ w2.cell? ⟨b2, 0, none⟩ = some (.int .i64 n) ∧ w2.cell? ⟨b3, 0, none⟩ = some (.func (.func 85) #[] #[]) ∧ w2.cell? ⟨g, 0, none⟩ = some (.int .i64 y.f0) ∧ w2.cell? ⟨g, 1, none⟩ = some (.int .i64 y.f1) ∧ w2.cell? ⟨g, 2, none⟩ = some (.int .i64 y.f2) ∧ w2.cell? ⟨g, 3, none⟩ = some (.int .i64 y.f3) ∧ w2.cell? ⟨g, 4, none⟩ = some (.slice A4 y.f4.length c4) ∧ w2.cell? ⟨g, 5, none⟩ = some (.slice A5 y.f5.length c5)) ((refine HS.out _ ?_; repeat (with_reducible first | exact Below.refl _ _ | exact HB6.out | apply below_drew | apply pw_below_drewN))) (first | ((with_reducible refine (to85_calls y A4 c4 A5 c5 _).mono ?_); rintro e6 w6 ⟨rfl, hb6⟩; have HB6 := Aside0.mk (show Below W1.heap.size W1 w6 from below_step (by repeat (with_reducible first | exact Below.refl _ _ | apply below_drew | apply pw_below_drewN)) hb6); clear hb6) | ((with_reducible refine (within_calls a n y.f0 y.f2 HN.out HZ.out.1 HZ.out.2 _).mono ?_); rintro e7 w7 ⟨rfl, h7⟩; replace h7 := h7.symm; subst h7))
  all_goals go_wp2_with fail
  all_goals (go_ret; exact ⟨by rfl, by first | exact below_step HB0.out HB6.out | (refine below_step HB0.out ?_; repeat (with_reducible first | exact Below.refl _ _ | exact HB6.out | apply below_drew | apply pw_below_drewN))⟩)
set_option maxRecDepth 100000 in
set_option maxHeartbeats 4000000 in
theorem tells_can87 {a n : Int} {b1 b2 b3 : Nat} {w : World} {zs : List S82} (hn : n ≤ 9223372036854775807) (hz : ∀ y ∈ zs, 0 ≤ y.f1 ∧ y.f1 ≤ 100000) (h1 : w.cell? ⟨b1, 0, none⟩ = some (.int .i64 a)) (h2 : w.cell? ⟨b2, 0, none⟩ = some (.int .i64 n)) (h3 : w.cell? ⟨b3, 0, none⟩ = some (.func (.func 87) #[] #[])) :
    Tells3 106 (.pointer (some ⟨b1, 0, none⟩)) (.pointer (some ⟨b2, 0, none⟩)) (.pointer (some ⟨b3, 0, none⟩)) (fun z => inR a n z.f0 z.f1) zs w := by
  refine ⟨enters_of Try.func106 (by kernel_rfl) rfl, fun y A4 c4 A5 c5 W hy hb => ?_⟩
  have HZ := Aside0.mk (hz y hy)
  have HN := Aside0.mk hn
  have k1 := pw_cell_below hb h1
  have k2 := pw_cell_below hb h2
  have k3 := pw_cell_below hb h3
  clear h1 h2 h3 hz hn hy hb
  have hu75 := Try.underlying75
  go_enter Try.func106, Try.ntmps106
  go_upto_region 1 with fail
  have HB := Aside0.mk (blk_new (Sat.start W) (.cells #[.int .i64 y.f0, .int .i64 y.f1, .int .i64 y.f2, .int .i64 y.f3, .slice A4 y.f4.length c4, .slice A5 y.f5.length c5] 75))
  obtain ⟨g, hg⟩ : ∃ g, W.heap.size = g := ⟨_, rfl⟩
  have hba := below_alloc (Below.refl W.heap.size W) (.cells #[.int .i64 y.f0, .int .i64 y.f1, .int .i64 y.f2, .int .i64 y.f3, .slice A4 y.f4.length c4, .slice A5 y.f5.length c5] 75)
  rw [hg] at HB ⊢
  replace k1 := pw_cell_below hba k1
  replace k2 := pw_cell_below hba k2
  replace k3 := pw_cell_below hba k3
  have HB0 := Aside0.mk hba
  clear hba
  generalize W.alloc (.cells #[.int .i64 y.f0, .int .i64 y.f1, .int .i64 y.f2, .int .i64 y.f3, .slice A4 y.f4.length c4, .slice A5 y.f5.length c5] 75) = W1 at *
  have HS := Aside0.mk (fun (w2 : World) (hb : Below W1.heap.size W1 w2) => (⟨pw_cell_below hb k1, pw_cell_below hb k2, pw_cell_below hb k3, pw_cell_below hb (get_cell (blk_at HB.out) 0), pw_cell_below hb (get_cell (blk_at HB.out) 1), pw_cell_below hb (get_cell (blk_at HB.out) 2), pw_cell_below hb (get_cell (blk_at HB.out) 3), pw_cell_below hb (get_cell (blk_at HB.out) 4), pw_cell_below hb (get_cell (blk_at HB.out) 5)⟩ : w2.cell? ⟨b1, 0, none⟩ = some (.int .i64 a) ∧ w2.cell? ⟨b2, 0, none⟩ = some (.int .i64 n) ∧ w2.cell? ⟨b3, 0, none⟩ = some (.func (.func 87) #[] #[]) ∧ w2.cell? ⟨g, 0, none⟩ = some (.int .i64 y.f0) ∧ w2.cell? ⟨g, 1, none⟩ = some (.int .i64 y.f1) ∧ w2.cell? ⟨g, 2, none⟩ = some (.int .i64 y.f2) ∧ w2.cell? ⟨g, 3, none⟩ = some (.int .i64 y.f3) ∧ w2.cell? ⟨g, 4, none⟩ = some (.slice A4 y.f4.length c4) ∧ w2.cell? ⟨g, 5, none⟩ = some (.slice A5 y.f5.length c5)))
  clear k1 k2 k3
  go_region_held3 (fun w2 => w2.cell? ⟨b1, 0, none⟩ = some (.int .i64 a) ∧ w2.cell? ⟨b2, 0, none⟩ = some (.int .i64 n) ∧ w2.cell? ⟨b3, 0, none⟩ = some (.func (.func 87) #[] #[]) ∧ w2.cell? ⟨g, 0, none⟩ = some (.int .i64 y.f0) ∧ w2.cell? ⟨g, 1, none⟩ = some (.int .i64 y.f1) ∧ w2.cell? ⟨g, 2, none⟩ = some (.int .i64 y.f2) ∧ w2.cell? ⟨g, 3, none⟩ = some (.int .i64 y.f3) ∧ w2.cell? ⟨g, 4, none⟩ = some (.slice A4 y.f4.length c4) ∧ w2.cell? ⟨g, 5, none⟩ = some (.slice A5 y.f5.length c5)) ((refine HS.out _ ?_; repeat (with_reducible first | exact Below.refl _ _ | exact HB6.out | apply below_drew | apply pw_below_drewN))) (first | ((with_reducible refine (to87_calls y A4 c4 A5 c5 _).mono ?_); rintro e6 w6 ⟨rfl, hb6⟩; have HB6 := Aside0.mk (show Below W1.heap.size W1 w6 from below_step (by repeat (with_reducible first | exact Below.refl _ _ | apply below_drew | apply pw_below_drewN)) hb6); clear hb6) | ((with_reducible refine (within_calls a n y.f0 y.f1 HN.out HZ.out.1 HZ.out.2 _).mono ?_); rintro e7 w7 ⟨rfl, h7⟩; replace h7 := h7.symm; subst h7))
  all_goals go_wp2_with fail
  all_goals (go_ret; exact ⟨by rfl, by first | exact below_step HB0.out HB6.out | (refine below_step HB0.out ?_; repeat (with_reducible first | exact Below.refl _ _ | exact HB6.out | apply below_drew | apply pw_below_drewN))⟩)
end Go.Proofs.Ytkeijpngfnmjoaa.MineZone
