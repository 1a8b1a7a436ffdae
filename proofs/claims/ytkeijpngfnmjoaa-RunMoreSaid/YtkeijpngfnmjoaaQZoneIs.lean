/- ZonePlays: the machine's side, written by a program of this workplace: for each Go function the answers that its Lean function tells. No condition but that the Lean function tells. -/
import Derived.Test.YtkeijpngfnmjoaaQZonePlaysx0
namespace Go.Proofs.Ytkeijpngfnmjoaa.QZonePlays
open Go.RowKit Go.Proofs.YtkeijpngfnmjoaaW.PrintWords Go.Proofs.YtkeijpngfnmjoaaW.PrintLast Go.Proofs.YtkeijpngfnmjoaaW.PrintMore Go.Proofs.Ytkeijpngfnmjoaa.MineBase
attribute [local go_sem] max2_int min2_int max_two min_two max_three min_three max_four min_four   -- for this text's walks alone
attribute [local go_sem] Go.Proofs.Ytkeijpngfnmjoaa.MineErr.eql_err Go.Proofs.Ytkeijpngfnmjoaa.MineErr.neq_err Go.Proofs.Ytkeijpngfnmjoaa.MineErr.eql_nil_err Go.Proofs.Ytkeijpngfnmjoaa.MineErr.neq_nil_err
set_option linter.unusedVariables false
set_option linter.unusedSimpArgs false

/-! ### dowelref05_Remove: function 36 -/
def dowelref05_Remove.l0 : Nat → List (S82) → Int → List (S82) → Bool → Int → Option ((List (S82)) × Bool)
  | 0, _, _, _, _, _ => none
  | k + 1, x0, x1, x6, x7, x8 => if x8 < (x0.length : Int) then (if 0 ≤ x8 then (if ((rd_T82 x0 x8).f0) = x1 then (dowelref05_Remove.l0 k x0 x1 x6 true (wrap64 (x8 + 1))) else (if x6.length < 1759218604441 then (dowelref05_Remove.l0 k x0 x1 (x6 ++ [(⟨(rd_T82 x0 x8).f0, (rd_T82 x0 x8).f1, (rd_T82 x0 x8).f2, (rd_T82 x0 x8).f3, (rd_T82 x0 x8).f4, (rd_T82 x0 x8).f5⟩ : S82)]) x7 (wrap64 (x8 + 1))) else (none))) else (none)) else (some (x6, x7))
def dowelref05_Remove.f (k : Nat) (l0 : List (S82)) (a1 : Int) : Option ((List (S82)) × Bool) := dowelref05_Remove.l0 k l0 a1 ([] : List (S82)) false 0
theorem dowelref05_Remove.mono_l : ∀ k, (∀ y0 y1 y2 y3 y4, LeO (dowelref05_Remove.l0 k y0 y1 y2 y3 y4) (dowelref05_Remove.l0 (k + 1) y0 y1 y2 y3 y4))
  | 0 => fun _ _ _ _ _ r h => by simp [dowelref05_Remove.l0] at h
  | k + 1 => by
    have ih0 := dowelref05_Remove.mono_l k
    · intro y0 y1 y2 y3 y4
      unfold dowelref05_Remove.l0
      repeat' first
      | (with_reducible exact ih0 _ _ _ _ _)
      | (with_reducible exact LeO.refl _)
      | (with_reducible exact LeO.none _)
      | (with_reducible refine LeO.ite ?_ ?_)
      | (with_reducible refine LeO.bind ?_ (fun _ => ?_))
      | exact ih0 _ _ _ _ _
      | exact LeO.none _
      | refine LeO.ite ?_ ?_
      | refine LeO.bind ?_ (fun _ => ?_)
theorem dowelref05_Remove.mono : ∀ a0 a1 k, LeO (dowelref05_Remove.f k a0 a1) (dowelref05_Remove.f (k + 1) a0 a1) := by
  intro a0 a1 k
  have ih0 := dowelref05_Remove.mono_l k
  unfold dowelref05_Remove.f
  repeat' first
      | (with_reducible exact ih0 _ _ _ _ _)
      | (with_reducible exact LeO.refl _)
      | (with_reducible exact LeO.none _)
      | (with_reducible refine LeO.ite ?_ ?_)
      | (with_reducible refine LeO.bind ?_ (fun _ => ?_))
      | exact ih0 _ _ _ _ _
      | exact LeO.none _
      | refine LeO.ite ?_ ?_
      | refine LeO.bind ?_ (fun _ => ?_)
set_option maxHeartbeats 8000000 in
set_option maxRecDepth 100000 in
theorem dowelref05_Remove.calls (k : Nat) (P0_ : Nat → Prop) (A0 : Option Addr) (c0 : Nat) (l0 : List (S82)) (a1 : Int) (r1 : List (S82)) (r2 : Bool) (w : World) (hs0 : Kd.V k82 82 w w.heap.size (fun k_ => P0_ k_) (.slice A0 l0.length c0) l0) (h : dowelref05_Remove.f k l0 a1 = some (r1, r2)) :
    Calls Try.prog 36 #[.slice A0 l0.length c0, .int .i64 a1] w fun e w' => ∃ v0_ : Value, e = .returned (.tuple #[v0_, .bool r2]) ∧ Kd.N k82 82 w' w.heap.size (fun k_ => (P0_ k_ ∨ w.heap.size ≤ k_)) v0_ r1 ∧ Below w.heap.size w w' := by
  have hu82 := Try.underlying82
  have HO0 := Aside0.mk (show Kd.V k82 82 w w.heap.size (fun k_ => (P0_ k_ ∨ w.heap.size ≤ k_)) (.slice A0 l0.length c0) l0 from Kd.V_mono hs0 (fun k_ hk => .inl hk))
  have HB := Aside0.mk (Below.refl w.heap.size w)
  have H : (dowelref05_Remove.l0 k l0 a1 ([] : List (S82)) false 0) = some (r1, r2) := h
  clear h
  have H' := Aside0.mk H
  clear H
  go_enter Try.func36, Try.ntmps36
  go_wp2
  go_loopg [6, 7, 8] k (fun kq v6 v7 v8 w' => ∃ (x6_1 : List (S82)) (x7_1 : Bool) (x8_1 : Int), v7 = .bool x7_1 ∧ v8 = .int .i64 x8_1 ∧ Aside0 (dowelref05_Remove.l0 kq l0 a1 x6_1 x7_1 x8_1 = some (r1, r2)) ∧ Aside0 (kq ≤ k) ∧ Aside0 (Kd.V k82 82 w' w.heap.size (fun k_ => (P0_ k_ ∨ w.heap.size ≤ k_) ∧ some k_ ≠ (v6 : Value).ownBlock) (.slice A0 l0.length c0) l0) ∧ Aside0 (Kd.N k82 82 w' w.heap.size (fun k_ => (P0_ k_ ∨ w.heap.size ≤ k_)) v6 x6_1) ∧ Aside0 (Below w.heap.size w w'))
  case atStart => exact ⟨(([] : List (S82))), (false), (0), (by first | rfl | (simp; done) | (simp [*]; done)), (by first | rfl | (simp; done) | (simp [*]; done)), H', ⟨Nat.le_refl _⟩, ⟨by (with_reducible repeat (first | apply Kd.V_alloc | apply Kd.V_drewN | apply Kd.V_drew)); exact Kd.V_mono HO0.out (fun _ hk => ⟨hk, (by simp [Value.ownBlock])⟩)⟩, ⟨by first | exact Kd.S_nil _ _ _ _ _ | exact Kd.N_nil _ _ _ _ _ | exact Kd.V_nil _ _ _ _ _ | exact Kd.Q_nil _ _ _ _ _ | exact Kd.R_nil _ _ _ _ _⟩, ⟨by repeat (first | (with_reducible first | exact HB.out | apply below_alloc | apply pw_below_drewN | apply below_drew1) | exact HB.out)⟩⟩
  case round =>
    clear H'
    try clear p2
    obtain ⟨x6_1, x7_1, x8_1, rfl, rfl, HA, HK1, HO_0, HO_6, HB⟩ := hrel
    cases gk with
    | zero => exact absurd HA.out (by simp [dowelref05_Remove.l0])
    | succ k1 =>
      have H := HA.out
      clear HA
      simp only [dowelref05_Remove.l0] at H
      by_cases c3 : x8_1 < (l0.length : Int)
      · rw [if_pos c3] at H
        have c3b0 : decide (x8_1 < (l0.length : Int)) = true := decide_eq_true c3
        clear c3
        by_cases c4 : 0 ≤ x8_1
        · rw [if_pos c4] at H
          have c4b0 : decide (0 ≤ x8_1) = true := decide_eq_true c4
          clear c4
          by_cases c5 : ((rd_T82 l0 x8_1).f0) = a1
          · rw [if_pos c5] at H
            have c5b0 : (((rd_T82 l0 x8_1).f0) == a1) = true := beq_iff_eq.mpr c5
            have c5b1 : (((rd_T82 l0 x8_1).f0) != a1) = false := bne_eq_false_iff_eq.mpr c5
            clear c5
            have H' := Aside0.mk H
            clear H
            have p124 : 0 ≤ (x8_1 : Int) := of_decide_eq_true (by first | (with_reducible assumption) | assumption)
            have q124 : x8_1 < (l0.length : Int) := of_decide_eq_true (by first | (with_reducible assumption) | assumption)
            obtain ⟨ad124, A124_4, c124_4, A124_5, c124_5, e124, hx124_0, hx124_1, hx124_2, hx124_3, hx124_4, hx124_5, hl124_4, hi124_4, hl124_5, hi124_5⟩ := at_T82 (Kd.V_reads' HO_0.out).2.2 x8_1 p124 q124
            cases e124
            obtain ⟨ce124, hce124, hMe124, hcc124⟩ := Kd.V_get HO_0.out z82 x8_1 p124 (by first | exact q124 | exact of_decide_eq_true (by first | (with_reducible assumption) | assumption) | (have e_ := (Kd.V_reads' HO_0.out).1; omega))
            obtain ⟨ua124_4, uc124_4, ua124_5, uc124_5, rfl, ul124_4, ge124_4, ul124_5, ge124_5⟩ := k82_openF hMe124
            have hv124_4 := hcc124 4 _ rfl
            rw [add_field _ _ 4 (by omega)] at hv124_4
            replace hv124_4 := Option.some.inj (hv124_4.symm.trans hx124_4)
            injection hv124_4 with hva_ hvn_ hvc_
            rw [hva_] at ge124_4
            rw [hvc_] at ul124_4
            have HL124_4 := Aside0.mk (show Kd.V (Kd.int .i64) 3 _ w.heap.size _ _ ((rd_T82 l0 x8_1).f4) from Kd.V_mk ul124_4 ge124_4)
            clear hva_ hvn_ hvc_ ge124_4 ul124_4
            have hv124_5 := hcc124 5 _ rfl
            rw [add_field _ _ 5 (by omega)] at hv124_5
            replace hv124_5 := Option.some.inj (hv124_5.symm.trans hx124_5)
            injection hv124_5 with hva_ hvn_ hvc_
            rw [hva_] at ge124_5
            rw [hvc_] at ul124_5
            have HL124_5 := Aside0.mk (show Kd.V (Kd.int .i64) 3 _ w.heap.size _ _ ((rd_T82 l0 x8_1).f5) from Kd.V_mk ul124_5 ge124_5)
            clear hva_ hvn_ hvc_ ge124_5 ul124_5
            clear hcc124 hce124
            have HR124_4 := Aside0.mk hi124_4
            have HC124_4 := Aside0.mk hl124_4
            clear hi124_4 hl124_4
            have HR124_5 := Aside0.mk hi124_5
            have HC124_5 := Aside0.mk hl124_5
            clear hi124_5 hl124_5
            replace p124 := eq_true p124
            replace q124 := eq_true q124
            go_wp2
            go_roundg k1
            case measure => have := HK1.out; omega
            case rel => exact ⟨(x6_1), (true), (wrap64 (x8_1 + 1)), (by first | rfl | (simp; done) | (simp [*]; done)), (by first | rfl | (simp; done) | (simp [*]; done)), H', ⟨by have := HK1.out; omega⟩, ⟨by (with_reducible repeat (first | apply Kd.V_alloc | apply Kd.V_drewN | apply Kd.V_drew)); exact HO_0.out⟩, ⟨by (with_reducible repeat (first | apply Kd.N_alloc | apply Kd.N_drewN | apply Kd.N_drew)); exact HO_6.out⟩, ⟨by repeat (first | (with_reducible first | exact HB.out | apply below_alloc | apply pw_below_drewN | apply below_drew1) | exact HB.out)⟩⟩
          · rw [if_neg c5] at H
            have c5b0 : (((rd_T82 l0 x8_1).f0) == a1) = false := beq_eq_false_iff_ne.mpr c5
            have c5b1 : (((rd_T82 l0 x8_1).f0) != a1) = true := bne_iff_ne.mpr c5
            by_cases c6 : x6_1.length < 1759218604441
            · rw [if_pos c6] at H
              have LMc6 := Aside0.mk c6
              clear c6
              obtain ⟨y126, hy126⟩ : ∃ y_ : List (S82), y_ = (x6_1 ++ [(⟨(rd_T82 l0 x8_1).f0, (rd_T82 l0 x8_1).f1, (rd_T82 l0 x8_1).f2, (rd_T82 l0 x8_1).f3, (rd_T82 l0 x8_1).f4, (rd_T82 l0 x8_1).f5⟩ : S82)]) := ⟨_, rfl⟩
              replace H : (dowelref05_Remove.l0 k1 l0 a1 y126 x7_1 (wrap64 (x8_1 + 1))) = some (r1, r2) := by first | (rw [hy126]; with_reducible exact H) | (have H2_ := (Option.bind_some _ _).symm.trans H; rw [hy126]; with_reducible exact H2_) | (have H2_ := (Option.bind_some _ _).symm.trans H; with_reducible exact H2_) | with_reducible exact H | (rw [hy126]; exact H) | exact H
              have Ny126 := Aside0.mk hy126
              clear hy126
              have H' := Aside0.mk H
              clear H
              have p124 : 0 ≤ (x8_1 : Int) := of_decide_eq_true (by first | (with_reducible assumption) | assumption)
              have q124 : x8_1 < (l0.length : Int) := of_decide_eq_true (by first | (with_reducible assumption) | assumption)
              obtain ⟨ad124, A124_4, c124_4, A124_5, c124_5, e124, hx124_0, hx124_1, hx124_2, hx124_3, hx124_4, hx124_5, hl124_4, hi124_4, hl124_5, hi124_5⟩ := at_T82 (Kd.V_reads' HO_0.out).2.2 x8_1 p124 q124
              cases e124
              obtain ⟨ce124, hce124, hMe124, hcc124⟩ := Kd.V_get HO_0.out z82 x8_1 p124 (by first | exact q124 | exact of_decide_eq_true (by first | (with_reducible assumption) | assumption) | (have e_ := (Kd.V_reads' HO_0.out).1; omega))
              obtain ⟨ua124_4, uc124_4, ua124_5, uc124_5, rfl, ul124_4, ge124_4, ul124_5, ge124_5⟩ := k82_openF hMe124
              have hv124_4 := hcc124 4 _ rfl
              rw [add_field _ _ 4 (by omega)] at hv124_4
              replace hv124_4 := Option.some.inj (hv124_4.symm.trans hx124_4)
              injection hv124_4 with hva_ hvn_ hvc_
              rw [hva_] at ge124_4
              rw [hvc_] at ul124_4
              have HL124_4 := Aside0.mk (show Kd.V (Kd.int .i64) 3 _ w.heap.size _ _ ((rd_T82 l0 x8_1).f4) from Kd.V_mk ul124_4 ge124_4)
              clear hva_ hvn_ hvc_ ge124_4 ul124_4
              have hv124_5 := hcc124 5 _ rfl
              rw [add_field _ _ 5 (by omega)] at hv124_5
              replace hv124_5 := Option.some.inj (hv124_5.symm.trans hx124_5)
              injection hv124_5 with hva_ hvn_ hvc_
              rw [hva_] at ge124_5
              rw [hvc_] at ul124_5
              have HL124_5 := Aside0.mk (show Kd.V (Kd.int .i64) 3 _ w.heap.size _ _ ((rd_T82 l0 x8_1).f5) from Kd.V_mk ul124_5 ge124_5)
              clear hva_ hvn_ hvc_ ge124_5 ul124_5
              clear hcc124 hce124
              have HR124_4 := Aside0.mk hi124_4
              have HC124_4 := Aside0.mk hl124_4
              clear hi124_4 hl124_4
              have HR124_5 := Aside0.mk hi124_5
              have HC124_5 := Aside0.mk hl124_5
              clear hi124_5 hl124_5
              replace p124 := eq_true p124
              replace q124 := eq_true q124
              have p125 : 0 ≤ (x8_1 : Int) := of_decide_eq_true (by first | (with_reducible assumption) | assumption)
              have q125 : x8_1 < (l0.length : Int) := of_decide_eq_true (by first | (with_reducible assumption) | assumption)
              obtain ⟨ad125, A125_4, c125_4, A125_5, c125_5, e125, hx125_0, hx125_1, hx125_2, hx125_3, hx125_4, hx125_5, hl125_4, hi125_4, hl125_5, hi125_5⟩ := at_T82 (Kd.V_reads' HO_0.out).2.2 x8_1 p125 q125
              obtain rfl : ad124 = ad125 := (by injection e125)
              obtain ⟨ce125, hce125, hMe125, hcc125⟩ := Kd.V_get HO_0.out z82 x8_1 p125 (by first | exact q125 | exact of_decide_eq_true (by first | (with_reducible assumption) | assumption) | (have e_ := (Kd.V_reads' HO_0.out).1; omega))
              obtain ⟨ua125_4, uc125_4, ua125_5, uc125_5, rfl, ul125_4, ge125_4, ul125_5, ge125_5⟩ := k82_openF hMe125
              have hv125_4 := hcc125 4 _ rfl
              rw [add_field _ _ 4 (by omega)] at hv125_4
              replace hv125_4 := Option.some.inj (hv125_4.symm.trans hx125_4)
              injection hv125_4 with hva_ hvn_ hvc_
              rw [hva_] at ge125_4
              rw [hvc_] at ul125_4
              have HL125_4 := Aside0.mk (show Kd.V (Kd.int .i64) 3 _ w.heap.size _ _ ((rd_T82 l0 x8_1).f4) from Kd.V_mk ul125_4 ge125_4)
              clear hva_ hvn_ hvc_ ge125_4 ul125_4
              have hv125_5 := hcc125 5 _ rfl
              rw [add_field _ _ 5 (by omega)] at hv125_5
              replace hv125_5 := Option.some.inj (hv125_5.symm.trans hx125_5)
              injection hv125_5 with hva_ hvn_ hvc_
              rw [hva_] at ge125_5
              rw [hvc_] at ul125_5
              have HL125_5 := Aside0.mk (show Kd.V (Kd.int .i64) 3 _ w.heap.size _ _ ((rd_T82 l0 x8_1).f5) from Kd.V_mk ul125_5 ge125_5)
              clear hva_ hvn_ hvc_ ge125_5 ul125_5
              clear hcc125 hce125
              have HR125_4 := Aside0.mk hi125_4
              have HC125_4 := Aside0.mk hl125_4
              clear hi125_4 hl125_4
              have HR125_5 := Aside0.mk hi125_5
              have HC125_5 := Aside0.mk hl125_5
              clear hi125_5 hl125_5
              replace p125 := eq_true p125
              replace q125 := eq_true q125
              have ea_ := Option.some.inj (hx124_4.symm.trans hx125_4)
              injection ea_ with ea_ en_ ec_
              subst ea_
              subst ec_
              clear en_
              have ea_ := Option.some.inj (hx124_5.symm.trans hx125_5)
              injection ea_ with ea_ en_ ec_
              subst ea_
              subst ec_
              clear en_
              go_wp2_with (first | ((with_reducible refine gate_builtin (b := .append) (xs := #[.tmp 22, .tmp 27]) rfl ?_); at_builtin; refine Kd.N_append k82 (w0 := w) w.heap.size rfl (.tmp 22) (.tmp 27) 72 82 (.agg #[(.int .i64 0), (.int .i64 0), (.int .i64 0), (.int .i64 0), (.slice none 0 0), (.slice none 0 0)]) 80 rfl Try.underlying72 info82 rfl (by decide) (by omega) u6 x6_1 (⟨(rd_T82 l0 x8_1).f0, (rd_T82 l0 x8_1).f1, (rd_T82 l0 x8_1).f2, (rd_T82 l0 x8_1).f3, (rd_T82 l0 x8_1).f4, (rd_T82 l0 x8_1).f5⟩ : S82) [.int .i64 ((rd_T82 l0 x8_1).f0), .int .i64 ((rd_T82 l0 x8_1).f1), .int .i64 ((rd_T82 l0 x8_1).f2), .int .i64 ((rd_T82 l0 x8_1).f3), .slice A124_4 ((rd_T82 l0 x8_1).f4).length c124_4, .slice A124_5 ((rd_T82 l0 x8_1).f5).length c124_5] (fun k_ => (P0_ k_ ∨ w.heap.size ≤ k_)) (fun k_ => ((fun k_ => (P0_ k_ ∨ w.heap.size ≤ k_))) k_ ∧ some k_ ≠ (u6 : Value).ownBlock) rfl rfl ?aP (fun _ hk => hk) ?aF ?aO ?aB ?aS ?aL ?_; (case aP => exact (k82_mkF _ _ (⟨(rd_T82 l0 x8_1).f0, (rd_T82 l0 x8_1).f1, (rd_T82 l0 x8_1).f2, (rd_T82 l0 x8_1).f3, (rd_T82 l0 x8_1).f4, (rd_T82 l0 x8_1).f5⟩ : S82) (Kd.V_reads' (Kd.V_mono (ok' := (fun k_ => ((fun k_ => (P0_ k_ ∨ w.heap.size ≤ k_))) k_ ∧ some k_ ≠ (u6 : Value).ownBlock)) (HL125_4.out) (fun k_ hk => ⟨hk.1, hk.2⟩))).2.1 (Kd.V_F (Kd.V_mono (ok' := (fun k_ => ((fun k_ => (P0_ k_ ∨ w.heap.size ≤ k_))) k_ ∧ some k_ ≠ (u6 : Value).ownBlock)) (HL125_4.out) (fun k_ hk => ⟨hk.1, hk.2⟩))) (Kd.V_reads' (Kd.V_mono (ok' := (fun k_ => ((fun k_ => (P0_ k_ ∨ w.heap.size ≤ k_))) k_ ∧ some k_ ≠ (u6 : Value).ownBlock)) (HL125_5.out) (fun k_ hk => ⟨hk.1, hk.2⟩))).2.1 (Kd.V_F (Kd.V_mono (ok' := (fun k_ => ((fun k_ => (P0_ k_ ∨ w.heap.size ≤ k_))) k_ ∧ some k_ ≠ (u6 : Value).ownBlock)) (HL125_5.out) (fun k_ hk => ⟨hk.1, hk.2⟩))))); (case aB => exact (by repeat (first | (with_reducible first | exact HB.out | apply below_alloc | apply pw_below_drewN | apply below_drew1) | exact HB.out))); (case aF => exact (fun k_ hk => (.inr (Nat.le_trans (below_size (by repeat (first | (with_reducible first | exact HB.out | apply below_alloc | apply pw_below_drewN | apply below_drew1) | exact HB.out))) hk)))); (case aO => exact (by (with_reducible repeat (first | apply Kd.N_alloc | apply Kd.N_drewN | apply Kd.N_drew)); exact HO_6.out)); (case aS => exact (below_size (by repeat (first | (with_reducible first | exact HB.out | apply below_alloc | apply pw_below_drewN | apply below_drew1) | exact HB.out)))); (case aL => have := LMc6.out; omega); intro v127 w7 ho hb hg hat; rw [← Ny126.out] at ho; have n0_ := Aside0.mk (Kd.V_afterv (ok := (fun k_ => (P0_ k_ ∨ w.heap.size ≤ k_))) (by (with_reducible repeat (first | apply Kd.V_alloc | apply Kd.V_drewN | apply Kd.V_drew)); exact HO_0.out) hg hat); have n1_ := Aside0.mk (Kd.V_afterv (ok := (fun k_ => (P0_ k_ ∨ w.heap.size ≤ k_))) (by (with_reducible repeat (first | apply Kd.V_alloc | apply Kd.V_drewN | apply Kd.V_drew)); exact HL124_4.out) hg hat); have n2_ := Aside0.mk (Kd.V_afterv (ok := (fun k_ => (P0_ k_ ∨ w.heap.size ≤ k_))) (by (with_reducible repeat (first | apply Kd.V_alloc | apply Kd.V_drewN | apply Kd.V_drew)); exact HL124_5.out) hg hat); have n3_ := Aside0.mk (Kd.V_afterv (ok := (fun k_ => (P0_ k_ ∨ w.heap.size ≤ k_))) (by (with_reducible repeat (first | apply Kd.V_alloc | apply Kd.V_drewN | apply Kd.V_drew)); exact HL125_4.out) hg hat); have n4_ := Aside0.mk (Kd.V_afterv (ok := (fun k_ => (P0_ k_ ∨ w.heap.size ≤ k_))) (by (with_reducible repeat (first | apply Kd.V_alloc | apply Kd.V_drewN | apply Kd.V_drew)); exact HL125_5.out) hg hat); have n5_ := Aside0.mk (hb); have n6_ := Aside0.mk (ho); clear HO_0; clear HL124_4; clear HL124_5; clear HL125_4; clear HL125_5; clear HB; clear HO_6; have HO_0 := n0_; have HL124_4 := n1_; have HL124_5 := n2_; have HL125_4 := n3_; have HL125_5 := n4_; have HB := n5_; have HO128 := n6_; clear n0_ n1_ n2_ n3_ n4_ n5_ n6_; clear ho hb hg hat))
              go_roundg k1
              case measure => have := HK1.out; omega
              case rel => exact ⟨(y126), (x7_1), (wrap64 (x8_1 + 1)), (by first | rfl | (simp; done) | (simp [*]; done)), (by first | rfl | (simp; done) | (simp [*]; done)), H', ⟨by have := HK1.out; omega⟩, ⟨by (with_reducible repeat (first | apply Kd.V_alloc | apply Kd.V_drewN | apply Kd.V_drew)); exact HO_0.out⟩, ⟨by (with_reducible repeat (first | apply Kd.N_alloc | apply Kd.N_drewN | apply Kd.N_drew)); exact HO128.out⟩, ⟨by repeat (first | (with_reducible first | exact HB.out | apply below_alloc | apply pw_below_drewN | apply below_drew1) | exact HB.out)⟩⟩
            · rw [if_neg c6] at H
              exact absurd H (by simp)
        · rw [if_neg c4] at H
          exact absurd H (by simp)
      · rw [if_neg c3] at H
        have c3b0 : decide (x8_1 < (l0.length : Int)) = false := decide_eq_false c3
        clear c3
        simp only [Option.some.injEq, Prod.mk.injEq] at H
        obtain ⟨rfl, rfl⟩ := H
        go_wp2
        go_ret2
        exact ⟨_, by first | rfl | (simp [errW_none, errW_some] <;> rfl) | (simp [*, errW_none, errW_some] <;> rfl), by (with_reducible repeat (first | apply Kd.N_alloc | apply Kd.N_drewN | apply Kd.N_drew)); exact HO_6.out, by repeat (first | (with_reducible first | exact HB.out | apply below_alloc | apply pw_below_drewN | apply below_drew1) | exact HB.out)⟩

-- NOT PRINTED: function 75 (zone_Zone_75)

-- NOT PRINTED: function 37 (zone_Zones_Remove)

/-! ### dowelref05_is: function 117 -/
def dowelref05_is.l0 : Nat → List Int → Int → Int → Option (Bool)
  | 0, _, _, _ => none
  | k + 1, x0, x1, x5 => if x5 < (x0.length : Int) then (if 0 ≤ x5 then (if (rd x0 x5) = x1 then (some true) else (dowelref05_is.l0 k x0 x1 (wrap64 (x5 + 1)))) else (none)) else (some false)
def dowelref05_is.f (k : Nat) (l0 : List Int) (a1 : Int) : Option (Bool) := dowelref05_is.l0 k l0 a1 0
theorem dowelref05_is.mono_l : ∀ k, (∀ y0 y1 y2, LeO (dowelref05_is.l0 k y0 y1 y2) (dowelref05_is.l0 (k + 1) y0 y1 y2))
  | 0 => fun _ _ _ r h => by simp [dowelref05_is.l0] at h
  | k + 1 => by
    have ih0 := dowelref05_is.mono_l k
    · intro y0 y1 y2
      unfold dowelref05_is.l0
      repeat' first
      | (with_reducible exact ih0 _ _ _)
      | (with_reducible exact LeO.refl _)
      | (with_reducible exact LeO.none _)
      | (with_reducible refine LeO.ite ?_ ?_)
      | (with_reducible refine LeO.bind ?_ (fun _ => ?_))
      | exact ih0 _ _ _
      | exact LeO.none _
      | refine LeO.ite ?_ ?_
      | refine LeO.bind ?_ (fun _ => ?_)
theorem dowelref05_is.mono : ∀ a0 a1 k, LeO (dowelref05_is.f k a0 a1) (dowelref05_is.f (k + 1) a0 a1) := by
  intro a0 a1 k
  have ih0 := dowelref05_is.mono_l k
  unfold dowelref05_is.f
  repeat' first
      | (with_reducible exact ih0 _ _ _)
      | (with_reducible exact LeO.refl _)
      | (with_reducible exact LeO.none _)
      | (with_reducible refine LeO.ite ?_ ?_)
      | (with_reducible refine LeO.bind ?_ (fun _ => ?_))
      | exact ih0 _ _ _
      | exact LeO.none _
      | refine LeO.ite ?_ ?_
      | refine LeO.bind ?_ (fun _ => ?_)
set_option maxHeartbeats 8000000 in
set_option maxRecDepth 100000 in
theorem dowelref05_is.calls (k : Nat) (A0 : Option Addr) (c0 : Nat) (l0 : List Int) (a1 : Int) (r : Bool) (w : World) (hr0 : Kd.C (Kd.int .i64) w A0 l0.length l0) (hc0 : l0.length ≤ c0) (h : dowelref05_is.f k l0 a1 = some r) :
    Calls Try.prog 117 #[.slice A0 l0.length c0, .int .i64 a1] w fun e w' => e = .returned (.bool r) ∧ Drawn0 w w' := by
  have HR0 := Aside0.mk hr0
  have HC0 := Aside0.mk hc0
  clear hr0 hc0
  have H : (dowelref05_is.l0 k l0 a1 0) = some r := h
  clear h
  have H' := Aside0.mk H
  clear H
  go_enter Try.func117, Try.ntmps117
  go_wp2
  go_loopg [5] k (fun kq v5 w' => ∃ (x5_1 : Int), v5 = .int .i64 x5_1 ∧ Aside0 (dowelref05_is.l0 kq l0 a1 x5_1 = some r) ∧ Aside0 (kq ≤ k) ∧ Drawn0 w w')
  case atStart => exact ⟨(0), (by first | rfl | (simp; done) | (simp [*]; done)), H', ⟨Nat.le_refl _⟩, by repeat (first | exact Drawn0.refl _ | apply Drawn0.step)⟩
  case round =>
    clear H'
    try clear c1
    try clear p2
    obtain ⟨x5_1, rfl, HA, HK1, ⟨m1, rfl⟩⟩ := hrel
    cases gk with
    | zero => exact absurd HA.out (by simp [dowelref05_is.l0])
    | succ k1 =>
      have H := HA.out
      clear HA
      simp only [dowelref05_is.l0] at H
      by_cases c3 : x5_1 < (l0.length : Int)
      · rw [if_pos c3] at H
        have c3b0 : decide (x5_1 < (l0.length : Int)) = true := decide_eq_true c3
        clear c3
        by_cases c4 : 0 ≤ x5_1
        · rw [if_pos c4] at H
          have c4b0 : decide (0 ≤ x5_1) = true := decide_eq_true c4
          clear c4
          by_cases c5 : (rd l0 x5_1) = a1
          · rw [if_pos c5] at H
            have c5b0 : ((rd l0 x5_1) == a1) = true := beq_iff_eq.mpr c5
            have c5b1 : ((rd l0 x5_1) != a1) = false := bne_eq_false_iff_eq.mpr c5
            clear c5
            obtain rfl := Option.some.inj H
            have p129 : 0 ≤ (x5_1 : Int) := of_decide_eq_true (by first | (with_reducible assumption) | assumption)
            have q129 : x5_1 < (l0.length : Int) := of_decide_eq_true (by first | (with_reducible assumption) | assumption)
            obtain ⟨ad129, e129, hx129_0⟩ := Kd.at_int HR0.out x5_1 p129 q129
            cases e129
            replace p129 := eq_true p129
            replace q129 := eq_true q129
            go_wp2
            go_ret
            exact ⟨by first | rfl | (simp; done) | (simp [*]; done), by repeat (first | exact Drawn0.refl _ | apply Drawn0.step)⟩
          · rw [if_neg c5] at H
            have c5b0 : ((rd l0 x5_1) == a1) = false := beq_eq_false_iff_ne.mpr c5
            have c5b1 : ((rd l0 x5_1) != a1) = true := bne_iff_ne.mpr c5
            have H' := Aside0.mk H
            clear H
            have p129 : 0 ≤ (x5_1 : Int) := of_decide_eq_true (by first | (with_reducible assumption) | assumption)
            have q129 : x5_1 < (l0.length : Int) := of_decide_eq_true (by first | (with_reducible assumption) | assumption)
            obtain ⟨ad129, e129, hx129_0⟩ := Kd.at_int HR0.out x5_1 p129 q129
            cases e129
            replace p129 := eq_true p129
            replace q129 := eq_true q129
            go_wp2
            go_roundg k1
            case measure => have := HK1.out; omega
            case rel => exact ⟨(wrap64 (x5_1 + 1)), (by first | rfl | (simp; done) | (simp [*]; done)), H', ⟨by have := HK1.out; omega⟩, by repeat (first | exact Drawn0.refl _ | apply Drawn0.step)⟩
        · rw [if_neg c4] at H
          exact absurd H (by simp)
      · rw [if_neg c3] at H
        have c3b0 : decide (x5_1 < (l0.length : Int)) = false := decide_eq_false c3
        clear c3
        obtain rfl := Option.some.inj H
        go_wp2
        go_ret
        exact ⟨by first | rfl | (simp; done) | (simp [*]; done), by repeat (first | exact Drawn0.refl _ | apply Drawn0.step)⟩

end Go.Proofs.Ytkeijpngfnmjoaa.QZonePlays
