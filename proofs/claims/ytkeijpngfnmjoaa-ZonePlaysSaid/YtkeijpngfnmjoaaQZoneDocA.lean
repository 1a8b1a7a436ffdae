/- ZonePlays: the machine's side, written by a program of this workplace: for each Go function the answers that its Lean function tells. No condition but that the Lean function tells. -/
import Derived.Test.YtkeijpngfnmjoaaQZonePlaysx0
namespace Go.Proofs.Ytkeijpngfnmjoaa.QZonePlays
open Go.RowKit Go.Proofs.YtkeijpngfnmjoaaW.PrintWords Go.Proofs.YtkeijpngfnmjoaaW.PrintLast Go.Proofs.YtkeijpngfnmjoaaW.PrintMore Go.Proofs.Ytkeijpngfnmjoaa.MineBase
attribute [local go_sem] max2_int min2_int max_two min_two max_three min_three max_four min_four   -- for this text's walks alone
attribute [local go_sem] Go.Proofs.Ytkeijpngfnmjoaa.MineErr.eql_err Go.Proofs.Ytkeijpngfnmjoaa.MineErr.neq_err Go.Proofs.Ytkeijpngfnmjoaa.MineErr.eql_nil_err Go.Proofs.Ytkeijpngfnmjoaa.MineErr.neq_nil_err
set_option linter.unusedVariables false
set_option linter.unusedSimpArgs false

/-! ### dowelref05_in: function 86 -/
def dowelref05_in.f (a0 : Int) (a1 : Int) (a2 : Int) (a3 : Int) : Option (Bool) := if a1 ≥ 1 then (if a0 ≥ a2 then (some (decide (a0 ≤ (wrap64 (a3 - a1))))) else (some false)) else (some false)
set_option maxHeartbeats 8000000 in
set_option maxRecDepth 100000 in
theorem dowelref05_in.calls (a0 : Int) (a1 : Int) (a2 : Int) (a3 : Int) (r : Bool) (w : World) (h : dowelref05_in.f a0 a1 a2 a3 = some r) :
    Calls Try.prog 86 #[.int .i64 a0, .int .i64 a1, .int .i64 a2, .int .i64 a3] w fun e w' => e = .returned (.bool r) ∧ Drawn0 w w' := by
  have H : (if a1 ≥ 1 then (if a0 ≥ a2 then (some (decide (a0 ≤ (wrap64 (a3 - a1))))) else (some false)) else (some false)) = some r := h
  clear h
  by_cases c5 : a1 ≥ 1
  · rw [if_pos c5] at H
    have c5b0 : decide (1 ≤ a1) = true := decide_eq_true c5
    clear c5
    by_cases c6 : a0 ≥ a2
    · rw [if_pos c6] at H
      have c6b0 : decide (a2 ≤ a0) = true := decide_eq_true c6
      clear c6
      obtain rfl := Option.some.inj H
      go_enter Try.func86, Try.ntmps86
      go_wp2
      go_ret
      exact ⟨by first | rfl | (simp; done) | (simp [*]; done), by repeat (first | exact Drawn0.refl _ | apply Drawn0.step)⟩
    · rw [if_neg c6] at H
      have c6b0 : decide (a2 ≤ a0) = false := decide_eq_false c6
      clear c6
      obtain rfl := Option.some.inj H
      go_enter Try.func86, Try.ntmps86
      go_wp2
      go_ret
      exact ⟨by first | rfl | (simp; done) | (simp [*]; done), by repeat (first | exact Drawn0.refl _ | apply Drawn0.step)⟩
  · rw [if_neg c5] at H
    have c5b0 : decide (1 ≤ a1) = false := decide_eq_false c5
    clear c5
    obtain rfl := Option.some.inj H
    go_enter Try.func86, Try.ntmps86
    go_wp2
    go_ret
    exact ⟨by first | rfl | (simp; done) | (simp [*]; done), by repeat (first | exact Drawn0.refl _ | apply Drawn0.step)⟩
/-! ### dowelref05_CanLoad: function 42 -/
def dowelref05_CanLoad.l0 : Nat → List (S82) → Int → Int → Bool → Int → Option (Bool)
  | 0, _, _, _, _, _ => none
  | k + 1, x0, x1, x2, x7, x8 => if x8 < (x0.length : Int) then (if 0 ≤ x8 then ((dowelref05_in.f x1 x2 ((rd_T82 x0 x8).f0) ((rd_T82 x0 x8).f2)).bind fun t174 => (if x7 = true then (dowelref05_CanLoad.l0 k x0 x1 x2 true (wrap64 (x8 + 1))) else (dowelref05_CanLoad.l0 k x0 x1 x2 t174 (wrap64 (x8 + 1))))) else (none)) else (some x7)
def dowelref05_CanLoad.f (k : Nat) (l0 : List (S82)) (a1 : Int) (a2 : Int) : Option (Bool) := (dowelref05_in.f a1 a2 16 272).bind fun t171 => (dowelref05_CanLoad.l0 k l0 a1 a2 t171 0)
theorem dowelref05_CanLoad.mono_l : ∀ k, (∀ y0 y1 y2 y3 y4, LeO (dowelref05_CanLoad.l0 k y0 y1 y2 y3 y4) (dowelref05_CanLoad.l0 (k + 1) y0 y1 y2 y3 y4))
  | 0 => fun _ _ _ _ _ r h => by simp [dowelref05_CanLoad.l0] at h
  | k + 1 => by
    have ih0 := dowelref05_CanLoad.mono_l k
    · intro y0 y1 y2 y3 y4
      unfold dowelref05_CanLoad.l0
      repeat' first
      | (with_reducible exact ih0 _ _ _ _ _)
      | (with_reducible exact LeO.refl _)
      | (with_reducible exact LeO.none _)
      | (with_reducible refine LeO.ite ?_ ?_)
      | (with_reducible refine LeO.bind ?_ (fun _ => ?_))
      | exact ih0 _ _ _ _ _
      | exact LeO.none _
      | refine LeO.ite ?_ ?_
      | refine LeO.bind ?_ (fun _ => ?_)
theorem dowelref05_CanLoad.mono : ∀ a0 a1 a2 k, LeO (dowelref05_CanLoad.f k a0 a1 a2) (dowelref05_CanLoad.f (k + 1) a0 a1 a2) := by
  intro a0 a1 a2 k
  have ih0 := dowelref05_CanLoad.mono_l k
  unfold dowelref05_CanLoad.f
  repeat' first
      | (with_reducible exact ih0 _ _ _ _ _)
      | (with_reducible exact LeO.refl _)
      | (with_reducible exact LeO.none _)
      | (with_reducible refine LeO.ite ?_ ?_)
      | (with_reducible refine LeO.bind ?_ (fun _ => ?_))
      | exact ih0 _ _ _ _ _
      | exact LeO.none _
      | refine LeO.ite ?_ ?_
      | refine LeO.bind ?_ (fun _ => ?_)
set_option maxHeartbeats 8000000 in
set_option maxRecDepth 100000 in
theorem dowelref05_CanLoad.calls (k : Nat) (A0 : Option Addr) (c0 : Nat) (l0 : List (S82)) (a1 : Int) (a2 : Int) (r : Bool) (w : World) (hr0 : Kd.C k82 w A0 l0.length l0) (hc0 : l0.length ≤ c0) (h : dowelref05_CanLoad.f k l0 a1 a2 = some r) :
    Calls Try.prog 42 #[.slice A0 l0.length c0, .int .i64 a1, .int .i64 a2] w fun e w' => e = .returned (.bool r) ∧ Drawn0 w w' := by
  have HR0 := Aside0.mk hr0
  have HC0 := Aside0.mk hc0
  clear hr0 hc0
  have H : ((dowelref05_in.f a1 a2 16 272).bind fun t171 => (dowelref05_CanLoad.l0 k l0 a1 a2 t171 0)) = some r := h
  clear h
  replace H := Option.bind_eq_some_iff.mp H
  obtain ⟨t171, A40, H⟩ := H
  replace H : (dowelref05_CanLoad.l0 k l0 a1 a2 t171 0) = some r := H
  have A4 := Aside0.mk A40
  clear A40
  have H' := Aside0.mk H
  clear H
  go_enter Try.func42, Try.ntmps42
  go_wp2_with (first | (go_at_call 86; (with_reducible refine (dowelref05_in.calls a1 a2 16 272 t171 _ A4.out).mono ?_); rintro e w' ⟨rfl, ⟨nd, rfl⟩⟩; (try first | exact ⟨rfl, _, World.drewN_drewN _ _ _⟩ | exact ⟨rfl, _, Eq.trans (World.drewN_drewN _ _ _) (congrArg (World.drewN _) (Nat.add_assoc _ _ _))⟩)))
  repeat (go_quiet (first | (go_at_call 86; (with_reducible refine (dowelref05_in.calls a1 a2 16 272 t171 _ A4.out).mono ?_); rintro e w' ⟨rfl, ⟨nd, rfl⟩⟩; (try first | exact ⟨rfl, _, World.drewN_drewN _ _ _⟩ | exact ⟨rfl, _, Eq.trans (World.drewN_drewN _ _ _) (congrArg (World.drewN _) (Nat.add_assoc _ _ _))⟩))); try go_wp2_with (first | (go_at_call 86; (with_reducible refine (dowelref05_in.calls a1 a2 16 272 t171 _ A4.out).mono ?_); rintro e w' ⟨rfl, ⟨nd, rfl⟩⟩; (try first | exact ⟨rfl, _, World.drewN_drewN _ _ _⟩ | exact ⟨rfl, _, Eq.trans (World.drewN_drewN _ _ _) (congrArg (World.drewN _) (Nat.add_assoc _ _ _))⟩))))
  go_loopg [7, 8] k (fun kq v7 v8 w' => ∃ (x7_1 : Bool) (x8_1 : Int), v7 = .bool x7_1 ∧ v8 = .int .i64 x8_1 ∧ Aside0 (dowelref05_CanLoad.l0 kq l0 a1 a2 x7_1 x8_1 = some r) ∧ Aside0 (kq ≤ k) ∧ Drawn0 w w')
  case atStart => exact ⟨(t171), (0), (by first | rfl | (simp; done) | (simp [*]; done)), (by first | rfl | (simp; done) | (simp [*]; done)), H', ⟨Nat.le_refl _⟩, by repeat (first | exact Drawn0.refl _ | apply Drawn0.step)⟩
  case round =>
    clear H'
    try clear p2
    try clear c4
    obtain ⟨x7_1, x8_1, rfl, rfl, HA, HK1, ⟨m1, rfl⟩⟩ := hrel
    cases gk with
    | zero => exact absurd HA.out (by simp [dowelref05_CanLoad.l0])
    | succ k1 =>
      have H := HA.out
      clear HA
      simp only [dowelref05_CanLoad.l0] at H
      by_cases c5 : x8_1 < (l0.length : Int)
      · rw [if_pos c5] at H
        have c5b0 : decide (x8_1 < (l0.length : Int)) = true := decide_eq_true c5
        clear c5
        by_cases c6 : 0 ≤ x8_1
        · rw [if_pos c6] at H
          have c6b0 : decide (0 ≤ x8_1) = true := decide_eq_true c6
          clear c6
          replace H := Option.bind_eq_some_iff.mp H
          obtain ⟨t174, A70, H⟩ := H
          replace H : (if x7_1 = true then (dowelref05_CanLoad.l0 k1 l0 a1 a2 true (wrap64 (x8_1 + 1))) else (dowelref05_CanLoad.l0 k1 l0 a1 a2 t174 (wrap64 (x8_1 + 1)))) = some r := H
          have A7 := Aside0.mk A70
          clear A70
          by_cases c8 : x7_1 = true
          · subst c8
            have H1 : (dowelref05_CanLoad.l0 k1 l0 a1 a2 true (wrap64 (x8_1 + 1))) = some r := by rw [if_pos rfl] at H; exact H
            clear H
            have H := H1
            clear H1
            have H' := Aside0.mk H
            clear H
            have p172 : 0 ≤ (x8_1 : Int) := of_decide_eq_true (by first | (with_reducible assumption) | assumption)
            have q172 : x8_1 < (l0.length : Int) := of_decide_eq_true (by first | (with_reducible assumption) | assumption)
            obtain ⟨ad172, A172_4, c172_4, A172_5, c172_5, e172, hx172_0, hx172_1, hx172_2, hx172_3, hx172_4, hx172_5, hl172_4, hi172_4, hl172_5, hi172_5⟩ := at_T82 HR0.out x8_1 p172 q172
            cases e172
            have HR172_4 := Aside0.mk hi172_4
            have HC172_4 := Aside0.mk hl172_4
            clear hi172_4 hl172_4
            have HR172_5 := Aside0.mk hi172_5
            have HC172_5 := Aside0.mk hl172_5
            clear hi172_5 hl172_5
            replace p172 := eq_true p172
            replace q172 := eq_true q172
            have p173 : 0 ≤ (x8_1 : Int) := of_decide_eq_true (by first | (with_reducible assumption) | assumption)
            have q173 : x8_1 < (l0.length : Int) := of_decide_eq_true (by first | (with_reducible assumption) | assumption)
            obtain ⟨ad173, A173_4, c173_4, A173_5, c173_5, e173, hx173_0, hx173_1, hx173_2, hx173_3, hx173_4, hx173_5, hl173_4, hi173_4, hl173_5, hi173_5⟩ := at_T82 HR0.out x8_1 p173 q173
            obtain rfl : ad172 = ad173 := (by injection e173)
            have HR173_4 := Aside0.mk hi173_4
            have HC173_4 := Aside0.mk hl173_4
            clear hi173_4 hl173_4
            have HR173_5 := Aside0.mk hi173_5
            have HC173_5 := Aside0.mk hl173_5
            clear hi173_5 hl173_5
            replace p173 := eq_true p173
            replace q173 := eq_true q173
            have ea_ := Option.some.inj (hx172_4.symm.trans hx173_4)
            injection ea_ with ea_ en_ ec_
            subst ea_
            subst ec_
            clear en_
            have ea_ := Option.some.inj (hx172_5.symm.trans hx173_5)
            injection ea_ with ea_ en_ ec_
            subst ea_
            subst ec_
            clear en_
            go_wp2_with (first | (go_at_call 86; (with_reducible refine (dowelref05_in.calls a1 a2 ((rd_T82 l0 x8_1).f0) ((rd_T82 l0 x8_1).f2) t174 _ A7.out).mono ?_); rintro e w' ⟨rfl, ⟨nd, rfl⟩⟩; (try first | exact ⟨rfl, _, World.drewN_drewN _ _ _⟩ | exact ⟨rfl, _, Eq.trans (World.drewN_drewN _ _ _) (congrArg (World.drewN _) (Nat.add_assoc _ _ _))⟩)))
            repeat (go_quiet (first | (go_at_call 86; (with_reducible refine (dowelref05_in.calls a1 a2 ((rd_T82 l0 x8_1).f0) ((rd_T82 l0 x8_1).f2) t174 _ A7.out).mono ?_); rintro e w' ⟨rfl, ⟨nd, rfl⟩⟩; (try first | exact ⟨rfl, _, World.drewN_drewN _ _ _⟩ | exact ⟨rfl, _, Eq.trans (World.drewN_drewN _ _ _) (congrArg (World.drewN _) (Nat.add_assoc _ _ _))⟩))); try go_wp2_with (first | (go_at_call 86; (with_reducible refine (dowelref05_in.calls a1 a2 ((rd_T82 l0 x8_1).f0) ((rd_T82 l0 x8_1).f2) t174 _ A7.out).mono ?_); rintro e w' ⟨rfl, ⟨nd, rfl⟩⟩; (try first | exact ⟨rfl, _, World.drewN_drewN _ _ _⟩ | exact ⟨rfl, _, Eq.trans (World.drewN_drewN _ _ _) (congrArg (World.drewN _) (Nat.add_assoc _ _ _))⟩))))
            go_roundg k1
            case measure => have := HK1.out; omega
            case rel => exact ⟨(true), (wrap64 (x8_1 + 1)), (by first | rfl | (simp; done) | (simp [*]; done)), (by first | rfl | (simp; done) | (simp [*]; done)), H', ⟨by have := HK1.out; omega⟩, by repeat (first | exact Drawn0.refl _ | apply Drawn0.step)⟩
          · replace c8 := Bool.eq_false_iff.mpr c8
            subst c8
            have H1 : (dowelref05_CanLoad.l0 k1 l0 a1 a2 t174 (wrap64 (x8_1 + 1))) = some r := by rw [if_neg (show ¬ (false = true) by decide)] at H; exact H
            clear H
            have H := H1
            clear H1
            have H' := Aside0.mk H
            clear H
            have p172 : 0 ≤ (x8_1 : Int) := of_decide_eq_true (by first | (with_reducible assumption) | assumption)
            have q172 : x8_1 < (l0.length : Int) := of_decide_eq_true (by first | (with_reducible assumption) | assumption)
            obtain ⟨ad172, A172_4, c172_4, A172_5, c172_5, e172, hx172_0, hx172_1, hx172_2, hx172_3, hx172_4, hx172_5, hl172_4, hi172_4, hl172_5, hi172_5⟩ := at_T82 HR0.out x8_1 p172 q172
            cases e172
            have HR172_4 := Aside0.mk hi172_4
            have HC172_4 := Aside0.mk hl172_4
            clear hi172_4 hl172_4
            have HR172_5 := Aside0.mk hi172_5
            have HC172_5 := Aside0.mk hl172_5
            clear hi172_5 hl172_5
            replace p172 := eq_true p172
            replace q172 := eq_true q172
            have p173 : 0 ≤ (x8_1 : Int) := of_decide_eq_true (by first | (with_reducible assumption) | assumption)
            have q173 : x8_1 < (l0.length : Int) := of_decide_eq_true (by first | (with_reducible assumption) | assumption)
            obtain ⟨ad173, A173_4, c173_4, A173_5, c173_5, e173, hx173_0, hx173_1, hx173_2, hx173_3, hx173_4, hx173_5, hl173_4, hi173_4, hl173_5, hi173_5⟩ := at_T82 HR0.out x8_1 p173 q173
            obtain rfl : ad172 = ad173 := (by injection e173)
            have HR173_4 := Aside0.mk hi173_4
            have HC173_4 := Aside0.mk hl173_4
            clear hi173_4 hl173_4
            have HR173_5 := Aside0.mk hi173_5
            have HC173_5 := Aside0.mk hl173_5
            clear hi173_5 hl173_5
            replace p173 := eq_true p173
            replace q173 := eq_true q173
            have ea_ := Option.some.inj (hx172_4.symm.trans hx173_4)
            injection ea_ with ea_ en_ ec_
            subst ea_
            subst ec_
            clear en_
            have ea_ := Option.some.inj (hx172_5.symm.trans hx173_5)
            injection ea_ with ea_ en_ ec_
            subst ea_
            subst ec_
            clear en_
            go_wp2_with (first | (go_at_call 86; (with_reducible refine (dowelref05_in.calls a1 a2 ((rd_T82 l0 x8_1).f0) ((rd_T82 l0 x8_1).f2) t174 _ A7.out).mono ?_); rintro e w' ⟨rfl, ⟨nd, rfl⟩⟩; (try first | exact ⟨rfl, _, World.drewN_drewN _ _ _⟩ | exact ⟨rfl, _, Eq.trans (World.drewN_drewN _ _ _) (congrArg (World.drewN _) (Nat.add_assoc _ _ _))⟩)))
            repeat (go_quiet (first | (go_at_call 86; (with_reducible refine (dowelref05_in.calls a1 a2 ((rd_T82 l0 x8_1).f0) ((rd_T82 l0 x8_1).f2) t174 _ A7.out).mono ?_); rintro e w' ⟨rfl, ⟨nd, rfl⟩⟩; (try first | exact ⟨rfl, _, World.drewN_drewN _ _ _⟩ | exact ⟨rfl, _, Eq.trans (World.drewN_drewN _ _ _) (congrArg (World.drewN _) (Nat.add_assoc _ _ _))⟩))); try go_wp2_with (first | (go_at_call 86; (with_reducible refine (dowelref05_in.calls a1 a2 ((rd_T82 l0 x8_1).f0) ((rd_T82 l0 x8_1).f2) t174 _ A7.out).mono ?_); rintro e w' ⟨rfl, ⟨nd, rfl⟩⟩; (try first | exact ⟨rfl, _, World.drewN_drewN _ _ _⟩ | exact ⟨rfl, _, Eq.trans (World.drewN_drewN _ _ _) (congrArg (World.drewN _) (Nat.add_assoc _ _ _))⟩))))
            go_roundg k1
            case measure => have := HK1.out; omega
            case rel => exact ⟨(t174), (wrap64 (x8_1 + 1)), (by first | rfl | (simp; done) | (simp [*]; done)), (by first | rfl | (simp; done) | (simp [*]; done)), H', ⟨by have := HK1.out; omega⟩, by repeat (first | exact Drawn0.refl _ | apply Drawn0.step)⟩
        · rw [if_neg c6] at H
          exact absurd H (by simp)
      · rw [if_neg c5] at H
        have c5b0 : decide (x8_1 < (l0.length : Int)) = false := decide_eq_false c5
        clear c5
        obtain rfl := Option.some.inj H
        go_wp2
        repeat (go_quiet (fail); try go_wp2)
        go_ret
        exact ⟨by first | rfl | (simp; done) | (simp [*]; done), by repeat (first | exact Drawn0.refl _ | apply Drawn0.step)⟩
/-! ### dowelref05_CanStore: function 44 -/
def dowelref05_CanStore.l0 : Nat → List (S82) → Int → Int → Bool → Int → Option (Bool)
  | 0, _, _, _, _, _ => none
  | k + 1, x0, x1, x2, x7, x8 => if x8 < (x0.length : Int) then (if 0 ≤ x8 then ((dowelref05_in.f x1 x2 ((rd_T82 x0 x8).f0) ((rd_T82 x0 x8).f1)).bind fun t178 => (if x7 = true then (dowelref05_CanStore.l0 k x0 x1 x2 true (wrap64 (x8 + 1))) else (dowelref05_CanStore.l0 k x0 x1 x2 t178 (wrap64 (x8 + 1))))) else (none)) else (some x7)
def dowelref05_CanStore.f (k : Nat) (l0 : List (S82)) (a1 : Int) (a2 : Int) : Option (Bool) := (dowelref05_in.f a1 a2 16 272).bind fun t175 => (dowelref05_CanStore.l0 k l0 a1 a2 t175 0)
theorem dowelref05_CanStore.mono_l : ∀ k, (∀ y0 y1 y2 y3 y4, LeO (dowelref05_CanStore.l0 k y0 y1 y2 y3 y4) (dowelref05_CanStore.l0 (k + 1) y0 y1 y2 y3 y4))
  | 0 => fun _ _ _ _ _ r h => by simp [dowelref05_CanStore.l0] at h
  | k + 1 => by
    have ih0 := dowelref05_CanStore.mono_l k
    · intro y0 y1 y2 y3 y4
      unfold dowelref05_CanStore.l0
      repeat' first
      | (with_reducible exact ih0 _ _ _ _ _)
      | (with_reducible exact LeO.refl _)
      | (with_reducible exact LeO.none _)
      | (with_reducible refine LeO.ite ?_ ?_)
      | (with_reducible refine LeO.bind ?_ (fun _ => ?_))
      | exact ih0 _ _ _ _ _
      | exact LeO.none _
      | refine LeO.ite ?_ ?_
      | refine LeO.bind ?_ (fun _ => ?_)
theorem dowelref05_CanStore.mono : ∀ a0 a1 a2 k, LeO (dowelref05_CanStore.f k a0 a1 a2) (dowelref05_CanStore.f (k + 1) a0 a1 a2) := by
  intro a0 a1 a2 k
  have ih0 := dowelref05_CanStore.mono_l k
  unfold dowelref05_CanStore.f
  repeat' first
      | (with_reducible exact ih0 _ _ _ _ _)
      | (with_reducible exact LeO.refl _)
      | (with_reducible exact LeO.none _)
      | (with_reducible refine LeO.ite ?_ ?_)
      | (with_reducible refine LeO.bind ?_ (fun _ => ?_))
      | exact ih0 _ _ _ _ _
      | exact LeO.none _
      | refine LeO.ite ?_ ?_
      | refine LeO.bind ?_ (fun _ => ?_)
set_option maxHeartbeats 8000000 in
set_option maxRecDepth 100000 in
theorem dowelref05_CanStore.calls (k : Nat) (A0 : Option Addr) (c0 : Nat) (l0 : List (S82)) (a1 : Int) (a2 : Int) (r : Bool) (w : World) (hr0 : Kd.C k82 w A0 l0.length l0) (hc0 : l0.length ≤ c0) (h : dowelref05_CanStore.f k l0 a1 a2 = some r) :
    Calls Try.prog 44 #[.slice A0 l0.length c0, .int .i64 a1, .int .i64 a2] w fun e w' => e = .returned (.bool r) ∧ Drawn0 w w' := by
  have HR0 := Aside0.mk hr0
  have HC0 := Aside0.mk hc0
  clear hr0 hc0
  have H : ((dowelref05_in.f a1 a2 16 272).bind fun t175 => (dowelref05_CanStore.l0 k l0 a1 a2 t175 0)) = some r := h
  clear h
  replace H := Option.bind_eq_some_iff.mp H
  obtain ⟨t175, A40, H⟩ := H
  replace H : (dowelref05_CanStore.l0 k l0 a1 a2 t175 0) = some r := H
  have A4 := Aside0.mk A40
  clear A40
  have H' := Aside0.mk H
  clear H
  go_enter Try.func44, Try.ntmps44
  go_wp2_with (first | (go_at_call 86; (with_reducible refine (dowelref05_in.calls a1 a2 16 272 t175 _ A4.out).mono ?_); rintro e w' ⟨rfl, ⟨nd, rfl⟩⟩; (try first | exact ⟨rfl, _, World.drewN_drewN _ _ _⟩ | exact ⟨rfl, _, Eq.trans (World.drewN_drewN _ _ _) (congrArg (World.drewN _) (Nat.add_assoc _ _ _))⟩)))
  repeat (go_quiet (first | (go_at_call 86; (with_reducible refine (dowelref05_in.calls a1 a2 16 272 t175 _ A4.out).mono ?_); rintro e w' ⟨rfl, ⟨nd, rfl⟩⟩; (try first | exact ⟨rfl, _, World.drewN_drewN _ _ _⟩ | exact ⟨rfl, _, Eq.trans (World.drewN_drewN _ _ _) (congrArg (World.drewN _) (Nat.add_assoc _ _ _))⟩))); try go_wp2_with (first | (go_at_call 86; (with_reducible refine (dowelref05_in.calls a1 a2 16 272 t175 _ A4.out).mono ?_); rintro e w' ⟨rfl, ⟨nd, rfl⟩⟩; (try first | exact ⟨rfl, _, World.drewN_drewN _ _ _⟩ | exact ⟨rfl, _, Eq.trans (World.drewN_drewN _ _ _) (congrArg (World.drewN _) (Nat.add_assoc _ _ _))⟩))))
  go_loopg [7, 8] k (fun kq v7 v8 w' => ∃ (x7_1 : Bool) (x8_1 : Int), v7 = .bool x7_1 ∧ v8 = .int .i64 x8_1 ∧ Aside0 (dowelref05_CanStore.l0 kq l0 a1 a2 x7_1 x8_1 = some r) ∧ Aside0 (kq ≤ k) ∧ Drawn0 w w')
  case atStart => exact ⟨(t175), (0), (by first | rfl | (simp; done) | (simp [*]; done)), (by first | rfl | (simp; done) | (simp [*]; done)), H', ⟨Nat.le_refl _⟩, by repeat (first | exact Drawn0.refl _ | apply Drawn0.step)⟩
  case round =>
    clear H'
    try clear p2
    try clear c4
    obtain ⟨x7_1, x8_1, rfl, rfl, HA, HK1, ⟨m1, rfl⟩⟩ := hrel
    cases gk with
    | zero => exact absurd HA.out (by simp [dowelref05_CanStore.l0])
    | succ k1 =>
      have H := HA.out
      clear HA
      simp only [dowelref05_CanStore.l0] at H
      by_cases c5 : x8_1 < (l0.length : Int)
      · rw [if_pos c5] at H
        have c5b0 : decide (x8_1 < (l0.length : Int)) = true := decide_eq_true c5
        clear c5
        by_cases c6 : 0 ≤ x8_1
        · rw [if_pos c6] at H
          have c6b0 : decide (0 ≤ x8_1) = true := decide_eq_true c6
          clear c6
          replace H := Option.bind_eq_some_iff.mp H
          obtain ⟨t178, A70, H⟩ := H
          replace H : (if x7_1 = true then (dowelref05_CanStore.l0 k1 l0 a1 a2 true (wrap64 (x8_1 + 1))) else (dowelref05_CanStore.l0 k1 l0 a1 a2 t178 (wrap64 (x8_1 + 1)))) = some r := H
          have A7 := Aside0.mk A70
          clear A70
          by_cases c8 : x7_1 = true
          · subst c8
            have H1 : (dowelref05_CanStore.l0 k1 l0 a1 a2 true (wrap64 (x8_1 + 1))) = some r := by rw [if_pos rfl] at H; exact H
            clear H
            have H := H1
            clear H1
            have H' := Aside0.mk H
            clear H
            have p176 : 0 ≤ (x8_1 : Int) := of_decide_eq_true (by first | (with_reducible assumption) | assumption)
            have q176 : x8_1 < (l0.length : Int) := of_decide_eq_true (by first | (with_reducible assumption) | assumption)
            obtain ⟨ad176, A176_4, c176_4, A176_5, c176_5, e176, hx176_0, hx176_1, hx176_2, hx176_3, hx176_4, hx176_5, hl176_4, hi176_4, hl176_5, hi176_5⟩ := at_T82 HR0.out x8_1 p176 q176
            cases e176
            have HR176_4 := Aside0.mk hi176_4
            have HC176_4 := Aside0.mk hl176_4
            clear hi176_4 hl176_4
            have HR176_5 := Aside0.mk hi176_5
            have HC176_5 := Aside0.mk hl176_5
            clear hi176_5 hl176_5
            replace p176 := eq_true p176
            replace q176 := eq_true q176
            have p177 : 0 ≤ (x8_1 : Int) := of_decide_eq_true (by first | (with_reducible assumption) | assumption)
            have q177 : x8_1 < (l0.length : Int) := of_decide_eq_true (by first | (with_reducible assumption) | assumption)
            obtain ⟨ad177, A177_4, c177_4, A177_5, c177_5, e177, hx177_0, hx177_1, hx177_2, hx177_3, hx177_4, hx177_5, hl177_4, hi177_4, hl177_5, hi177_5⟩ := at_T82 HR0.out x8_1 p177 q177
            obtain rfl : ad176 = ad177 := (by injection e177)
            have HR177_4 := Aside0.mk hi177_4
            have HC177_4 := Aside0.mk hl177_4
            clear hi177_4 hl177_4
            have HR177_5 := Aside0.mk hi177_5
            have HC177_5 := Aside0.mk hl177_5
            clear hi177_5 hl177_5
            replace p177 := eq_true p177
            replace q177 := eq_true q177
            have ea_ := Option.some.inj (hx176_4.symm.trans hx177_4)
            injection ea_ with ea_ en_ ec_
            subst ea_
            subst ec_
            clear en_
            have ea_ := Option.some.inj (hx176_5.symm.trans hx177_5)
            injection ea_ with ea_ en_ ec_
            subst ea_
            subst ec_
            clear en_
            go_wp2_with (first | (go_at_call 86; (with_reducible refine (dowelref05_in.calls a1 a2 ((rd_T82 l0 x8_1).f0) ((rd_T82 l0 x8_1).f1) t178 _ A7.out).mono ?_); rintro e w' ⟨rfl, ⟨nd, rfl⟩⟩; (try first | exact ⟨rfl, _, World.drewN_drewN _ _ _⟩ | exact ⟨rfl, _, Eq.trans (World.drewN_drewN _ _ _) (congrArg (World.drewN _) (Nat.add_assoc _ _ _))⟩)))
            repeat (go_quiet (first | (go_at_call 86; (with_reducible refine (dowelref05_in.calls a1 a2 ((rd_T82 l0 x8_1).f0) ((rd_T82 l0 x8_1).f1) t178 _ A7.out).mono ?_); rintro e w' ⟨rfl, ⟨nd, rfl⟩⟩; (try first | exact ⟨rfl, _, World.drewN_drewN _ _ _⟩ | exact ⟨rfl, _, Eq.trans (World.drewN_drewN _ _ _) (congrArg (World.drewN _) (Nat.add_assoc _ _ _))⟩))); try go_wp2_with (first | (go_at_call 86; (with_reducible refine (dowelref05_in.calls a1 a2 ((rd_T82 l0 x8_1).f0) ((rd_T82 l0 x8_1).f1) t178 _ A7.out).mono ?_); rintro e w' ⟨rfl, ⟨nd, rfl⟩⟩; (try first | exact ⟨rfl, _, World.drewN_drewN _ _ _⟩ | exact ⟨rfl, _, Eq.trans (World.drewN_drewN _ _ _) (congrArg (World.drewN _) (Nat.add_assoc _ _ _))⟩))))
            go_roundg k1
            case measure => have := HK1.out; omega
            case rel => exact ⟨(true), (wrap64 (x8_1 + 1)), (by first | rfl | (simp; done) | (simp [*]; done)), (by first | rfl | (simp; done) | (simp [*]; done)), H', ⟨by have := HK1.out; omega⟩, by repeat (first | exact Drawn0.refl _ | apply Drawn0.step)⟩
          · replace c8 := Bool.eq_false_iff.mpr c8
            subst c8
            have H1 : (dowelref05_CanStore.l0 k1 l0 a1 a2 t178 (wrap64 (x8_1 + 1))) = some r := by rw [if_neg (show ¬ (false = true) by decide)] at H; exact H
            clear H
            have H := H1
            clear H1
            have H' := Aside0.mk H
            clear H
            have p176 : 0 ≤ (x8_1 : Int) := of_decide_eq_true (by first | (with_reducible assumption) | assumption)
            have q176 : x8_1 < (l0.length : Int) := of_decide_eq_true (by first | (with_reducible assumption) | assumption)
            obtain ⟨ad176, A176_4, c176_4, A176_5, c176_5, e176, hx176_0, hx176_1, hx176_2, hx176_3, hx176_4, hx176_5, hl176_4, hi176_4, hl176_5, hi176_5⟩ := at_T82 HR0.out x8_1 p176 q176
            cases e176
            have HR176_4 := Aside0.mk hi176_4
            have HC176_4 := Aside0.mk hl176_4
            clear hi176_4 hl176_4
            have HR176_5 := Aside0.mk hi176_5
            have HC176_5 := Aside0.mk hl176_5
            clear hi176_5 hl176_5
            replace p176 := eq_true p176
            replace q176 := eq_true q176
            have p177 : 0 ≤ (x8_1 : Int) := of_decide_eq_true (by first | (with_reducible assumption) | assumption)
            have q177 : x8_1 < (l0.length : Int) := of_decide_eq_true (by first | (with_reducible assumption) | assumption)
            obtain ⟨ad177, A177_4, c177_4, A177_5, c177_5, e177, hx177_0, hx177_1, hx177_2, hx177_3, hx177_4, hx177_5, hl177_4, hi177_4, hl177_5, hi177_5⟩ := at_T82 HR0.out x8_1 p177 q177
            obtain rfl : ad176 = ad177 := (by injection e177)
            have HR177_4 := Aside0.mk hi177_4
            have HC177_4 := Aside0.mk hl177_4
            clear hi177_4 hl177_4
            have HR177_5 := Aside0.mk hi177_5
            have HC177_5 := Aside0.mk hl177_5
            clear hi177_5 hl177_5
            replace p177 := eq_true p177
            replace q177 := eq_true q177
            have ea_ := Option.some.inj (hx176_4.symm.trans hx177_4)
            injection ea_ with ea_ en_ ec_
            subst ea_
            subst ec_
            clear en_
            have ea_ := Option.some.inj (hx176_5.symm.trans hx177_5)
            injection ea_ with ea_ en_ ec_
            subst ea_
            subst ec_
            clear en_
            go_wp2_with (first | (go_at_call 86; (with_reducible refine (dowelref05_in.calls a1 a2 ((rd_T82 l0 x8_1).f0) ((rd_T82 l0 x8_1).f1) t178 _ A7.out).mono ?_); rintro e w' ⟨rfl, ⟨nd, rfl⟩⟩; (try first | exact ⟨rfl, _, World.drewN_drewN _ _ _⟩ | exact ⟨rfl, _, Eq.trans (World.drewN_drewN _ _ _) (congrArg (World.drewN _) (Nat.add_assoc _ _ _))⟩)))
            repeat (go_quiet (first | (go_at_call 86; (with_reducible refine (dowelref05_in.calls a1 a2 ((rd_T82 l0 x8_1).f0) ((rd_T82 l0 x8_1).f1) t178 _ A7.out).mono ?_); rintro e w' ⟨rfl, ⟨nd, rfl⟩⟩; (try first | exact ⟨rfl, _, World.drewN_drewN _ _ _⟩ | exact ⟨rfl, _, Eq.trans (World.drewN_drewN _ _ _) (congrArg (World.drewN _) (Nat.add_assoc _ _ _))⟩))); try go_wp2_with (first | (go_at_call 86; (with_reducible refine (dowelref05_in.calls a1 a2 ((rd_T82 l0 x8_1).f0) ((rd_T82 l0 x8_1).f1) t178 _ A7.out).mono ?_); rintro e w' ⟨rfl, ⟨nd, rfl⟩⟩; (try first | exact ⟨rfl, _, World.drewN_drewN _ _ _⟩ | exact ⟨rfl, _, Eq.trans (World.drewN_drewN _ _ _) (congrArg (World.drewN _) (Nat.add_assoc _ _ _))⟩))))
            go_roundg k1
            case measure => have := HK1.out; omega
            case rel => exact ⟨(t178), (wrap64 (x8_1 + 1)), (by first | rfl | (simp; done) | (simp [*]; done)), (by first | rfl | (simp; done) | (simp [*]; done)), H', ⟨by have := HK1.out; omega⟩, by repeat (first | exact Drawn0.refl _ | apply Drawn0.step)⟩
        · rw [if_neg c6] at H
          exact absurd H (by simp)
      · rw [if_neg c5] at H
        have c5b0 : decide (x8_1 < (l0.length : Int)) = false := decide_eq_false c5
        clear c5
        obtain rfl := Option.some.inj H
        go_wp2
        repeat (go_quiet (fail); try go_wp2)
        go_ret
        exact ⟨by first | rfl | (simp; done) | (simp [*]; done), by repeat (first | exact Drawn0.refl _ | apply Drawn0.step)⟩
/-! ### dowelref05_CanRun: function 46 -/
def dowelref05_CanRun.l0 : Nat → List (S82) → Int → Int → Option (Bool)
  | 0, _, _, _ => none
  | k + 1, x0, x1, x5 => if x5 < (x0.length : Int) then (if 0 ≤ x5 then (if x1 ≥ ((rd_T82 x0 x5).f2) then (if x1 < ((rd_T82 x0 x5).f3) then (if (Int.tmod x1 4) = 0 then (some true) else (dowelref05_CanRun.l0 k x0 x1 (wrap64 (x5 + 1)))) else (dowelref05_CanRun.l0 k x0 x1 (wrap64 (x5 + 1)))) else (dowelref05_CanRun.l0 k x0 x1 (wrap64 (x5 + 1)))) else (none)) else (some false)
def dowelref05_CanRun.f (k : Nat) (l0 : List (S82)) (a1 : Int) : Option (Bool) := dowelref05_CanRun.l0 k l0 a1 0
theorem dowelref05_CanRun.mono_l : ∀ k, (∀ y0 y1 y2, LeO (dowelref05_CanRun.l0 k y0 y1 y2) (dowelref05_CanRun.l0 (k + 1) y0 y1 y2))
  | 0 => fun _ _ _ r h => by simp [dowelref05_CanRun.l0] at h
  | k + 1 => by
    have ih0 := dowelref05_CanRun.mono_l k
    · intro y0 y1 y2
      unfold dowelref05_CanRun.l0
      repeat' first
      | (with_reducible exact ih0 _ _ _)
      | (with_reducible exact LeO.refl _)
      | (with_reducible exact LeO.none _)
      | (with_reducible refine LeO.ite ?_ ?_)
      | (with_reducible refine LeO.bind ?_ (fun _ => ?_))
      | exact ih0 _ _ _
      | exact LeO.none _
      | refine LeO.ite ?_ ?_
      | refine LeO.bind ?_ (fun _ => ?_)
theorem dowelref05_CanRun.mono : ∀ a0 a1 k, LeO (dowelref05_CanRun.f k a0 a1) (dowelref05_CanRun.f (k + 1) a0 a1) := by
  intro a0 a1 k
  have ih0 := dowelref05_CanRun.mono_l k
  unfold dowelref05_CanRun.f
  repeat' first
      | (with_reducible exact ih0 _ _ _)
      | (with_reducible exact LeO.refl _)
      | (with_reducible exact LeO.none _)
      | (with_reducible refine LeO.ite ?_ ?_)
      | (with_reducible refine LeO.bind ?_ (fun _ => ?_))
      | exact ih0 _ _ _
      | exact LeO.none _
      | refine LeO.ite ?_ ?_
      | refine LeO.bind ?_ (fun _ => ?_)
set_option maxHeartbeats 8000000 in
set_option maxRecDepth 100000 in
theorem dowelref05_CanRun.calls (k : Nat) (A0 : Option Addr) (c0 : Nat) (l0 : List (S82)) (a1 : Int) (r : Bool) (w : World) (hr0 : Kd.C k82 w A0 l0.length l0) (hc0 : l0.length ≤ c0) (h : dowelref05_CanRun.f k l0 a1 = some r) :
    Calls Try.prog 46 #[.slice A0 l0.length c0, .int .i64 a1] w fun e w' => e = .returned (.bool r) ∧ Drawn0 w w' := by
  have HR0 := Aside0.mk hr0
  have HC0 := Aside0.mk hc0
  clear hr0 hc0
  have H : (dowelref05_CanRun.l0 k l0 a1 0) = some r := h
  clear h
  have H' := Aside0.mk H
  clear H
  go_enter Try.func46, Try.ntmps46
  go_wp2
  go_loopg [5] k (fun kq v5 w' => ∃ (x5_1 : Int), v5 = .int .i64 x5_1 ∧ Aside0 (dowelref05_CanRun.l0 kq l0 a1 x5_1 = some r) ∧ Aside0 (kq ≤ k) ∧ Drawn0 w w')
  case atStart => exact ⟨(0), (by first | rfl | (simp; done) | (simp [*]; done)), H', ⟨Nat.le_refl _⟩, by repeat (first | exact Drawn0.refl _ | apply Drawn0.step)⟩
  case round =>
    clear H'
    try clear p2
    obtain ⟨x5_1, rfl, HA, HK1, ⟨m1, rfl⟩⟩ := hrel
    cases gk with
    | zero => exact absurd HA.out (by simp [dowelref05_CanRun.l0])
    | succ k1 =>
      have H := HA.out
      clear HA
      simp only [dowelref05_CanRun.l0] at H
      by_cases c3 : x5_1 < (l0.length : Int)
      · rw [if_pos c3] at H
        have c3b0 : decide (x5_1 < (l0.length : Int)) = true := decide_eq_true c3
        clear c3
        by_cases c4 : 0 ≤ x5_1
        · rw [if_pos c4] at H
          have c4b0 : decide (0 ≤ x5_1) = true := decide_eq_true c4
          clear c4
          by_cases c5 : a1 ≥ ((rd_T82 l0 x5_1).f2)
          · rw [if_pos c5] at H
            have c5b0 : decide (((rd_T82 l0 x5_1).f2) ≤ a1) = true := decide_eq_true c5
            clear c5
            by_cases c6 : a1 < ((rd_T82 l0 x5_1).f3)
            · rw [if_pos c6] at H
              have c6b0 : decide (a1 < ((rd_T82 l0 x5_1).f3)) = true := decide_eq_true c6
              clear c6
              by_cases c7 : (Int.tmod a1 4) = 0
              · rw [if_pos c7] at H
                have c7b0 : ((Int.tmod a1 4) == 0) = true := beq_iff_eq.mpr c7
                have c7b1 : ((Int.tmod a1 4) != 0) = false := bne_eq_false_iff_eq.mpr c7
                clear c7
                obtain rfl := Option.some.inj H
                have p179 : 0 ≤ (x5_1 : Int) := of_decide_eq_true (by first | (with_reducible assumption) | assumption)
                have q179 : x5_1 < (l0.length : Int) := of_decide_eq_true (by first | (with_reducible assumption) | assumption)
                obtain ⟨ad179, A179_4, c179_4, A179_5, c179_5, e179, hx179_0, hx179_1, hx179_2, hx179_3, hx179_4, hx179_5, hl179_4, hi179_4, hl179_5, hi179_5⟩ := at_T82 HR0.out x5_1 p179 q179
                cases e179
                have HR179_4 := Aside0.mk hi179_4
                have HC179_4 := Aside0.mk hl179_4
                clear hi179_4 hl179_4
                have HR179_5 := Aside0.mk hi179_5
                have HC179_5 := Aside0.mk hl179_5
                clear hi179_5 hl179_5
                replace p179 := eq_true p179
                replace q179 := eq_true q179
                have p180 : 0 ≤ (x5_1 : Int) := of_decide_eq_true (by first | (with_reducible assumption) | assumption)
                have q180 : x5_1 < (l0.length : Int) := of_decide_eq_true (by first | (with_reducible assumption) | assumption)
                obtain ⟨ad180, A180_4, c180_4, A180_5, c180_5, e180, hx180_0, hx180_1, hx180_2, hx180_3, hx180_4, hx180_5, hl180_4, hi180_4, hl180_5, hi180_5⟩ := at_T82 HR0.out x5_1 p180 q180
                obtain rfl : ad179 = ad180 := (by injection e180)
                have HR180_4 := Aside0.mk hi180_4
                have HC180_4 := Aside0.mk hl180_4
                clear hi180_4 hl180_4
                have HR180_5 := Aside0.mk hi180_5
                have HC180_5 := Aside0.mk hl180_5
                clear hi180_5 hl180_5
                replace p180 := eq_true p180
                replace q180 := eq_true q180
                have ea_ := Option.some.inj (hx179_4.symm.trans hx180_4)
                injection ea_ with ea_ en_ ec_
                subst ea_
                subst ec_
                clear en_
                have ea_ := Option.some.inj (hx179_5.symm.trans hx180_5)
                injection ea_ with ea_ en_ ec_
                subst ea_
                subst ec_
                clear en_
                go_wp2
                go_ret
                exact ⟨by first | rfl | (simp; done) | (simp [*]; done), by repeat (first | exact Drawn0.refl _ | apply Drawn0.step)⟩
              · rw [if_neg c7] at H
                have c7b0 : ((Int.tmod a1 4) == 0) = false := beq_eq_false_iff_ne.mpr c7
                have c7b1 : ((Int.tmod a1 4) != 0) = true := bne_iff_ne.mpr c7
                have H' := Aside0.mk H
                clear H
                have p179 : 0 ≤ (x5_1 : Int) := of_decide_eq_true (by first | (with_reducible assumption) | assumption)
                have q179 : x5_1 < (l0.length : Int) := of_decide_eq_true (by first | (with_reducible assumption) | assumption)
                obtain ⟨ad179, A179_4, c179_4, A179_5, c179_5, e179, hx179_0, hx179_1, hx179_2, hx179_3, hx179_4, hx179_5, hl179_4, hi179_4, hl179_5, hi179_5⟩ := at_T82 HR0.out x5_1 p179 q179
                cases e179
                have HR179_4 := Aside0.mk hi179_4
                have HC179_4 := Aside0.mk hl179_4
                clear hi179_4 hl179_4
                have HR179_5 := Aside0.mk hi179_5
                have HC179_5 := Aside0.mk hl179_5
                clear hi179_5 hl179_5
                replace p179 := eq_true p179
                replace q179 := eq_true q179
                have p180 : 0 ≤ (x5_1 : Int) := of_decide_eq_true (by first | (with_reducible assumption) | assumption)
                have q180 : x5_1 < (l0.length : Int) := of_decide_eq_true (by first | (with_reducible assumption) | assumption)
                obtain ⟨ad180, A180_4, c180_4, A180_5, c180_5, e180, hx180_0, hx180_1, hx180_2, hx180_3, hx180_4, hx180_5, hl180_4, hi180_4, hl180_5, hi180_5⟩ := at_T82 HR0.out x5_1 p180 q180
                obtain rfl : ad179 = ad180 := (by injection e180)
                have HR180_4 := Aside0.mk hi180_4
                have HC180_4 := Aside0.mk hl180_4
                clear hi180_4 hl180_4
                have HR180_5 := Aside0.mk hi180_5
                have HC180_5 := Aside0.mk hl180_5
                clear hi180_5 hl180_5
                replace p180 := eq_true p180
                replace q180 := eq_true q180
                have ea_ := Option.some.inj (hx179_4.symm.trans hx180_4)
                injection ea_ with ea_ en_ ec_
                subst ea_
                subst ec_
                clear en_
                have ea_ := Option.some.inj (hx179_5.symm.trans hx180_5)
                injection ea_ with ea_ en_ ec_
                subst ea_
                subst ec_
                clear en_
                go_wp2
                go_roundg k1
                case measure => have := HK1.out; omega
                case rel => exact ⟨(wrap64 (x5_1 + 1)), (by first | rfl | (simp; done) | (simp [*]; done)), H', ⟨by have := HK1.out; omega⟩, by repeat (first | exact Drawn0.refl _ | apply Drawn0.step)⟩
            · rw [if_neg c6] at H
              have c6b0 : decide (a1 < ((rd_T82 l0 x5_1).f3)) = false := decide_eq_false c6
              clear c6
              have H' := Aside0.mk H
              clear H
              have p179 : 0 ≤ (x5_1 : Int) := of_decide_eq_true (by first | (with_reducible assumption) | assumption)
              have q179 : x5_1 < (l0.length : Int) := of_decide_eq_true (by first | (with_reducible assumption) | assumption)
              obtain ⟨ad179, A179_4, c179_4, A179_5, c179_5, e179, hx179_0, hx179_1, hx179_2, hx179_3, hx179_4, hx179_5, hl179_4, hi179_4, hl179_5, hi179_5⟩ := at_T82 HR0.out x5_1 p179 q179
              cases e179
              have HR179_4 := Aside0.mk hi179_4
              have HC179_4 := Aside0.mk hl179_4
              clear hi179_4 hl179_4
              have HR179_5 := Aside0.mk hi179_5
              have HC179_5 := Aside0.mk hl179_5
              clear hi179_5 hl179_5
              replace p179 := eq_true p179
              replace q179 := eq_true q179
              have p180 : 0 ≤ (x5_1 : Int) := of_decide_eq_true (by first | (with_reducible assumption) | assumption)
              have q180 : x5_1 < (l0.length : Int) := of_decide_eq_true (by first | (with_reducible assumption) | assumption)
              obtain ⟨ad180, A180_4, c180_4, A180_5, c180_5, e180, hx180_0, hx180_1, hx180_2, hx180_3, hx180_4, hx180_5, hl180_4, hi180_4, hl180_5, hi180_5⟩ := at_T82 HR0.out x5_1 p180 q180
              obtain rfl : ad179 = ad180 := (by injection e180)
              have HR180_4 := Aside0.mk hi180_4
              have HC180_4 := Aside0.mk hl180_4
              clear hi180_4 hl180_4
              have HR180_5 := Aside0.mk hi180_5
              have HC180_5 := Aside0.mk hl180_5
              clear hi180_5 hl180_5
              replace p180 := eq_true p180
              replace q180 := eq_true q180
              have ea_ := Option.some.inj (hx179_4.symm.trans hx180_4)
              injection ea_ with ea_ en_ ec_
              subst ea_
              subst ec_
              clear en_
              have ea_ := Option.some.inj (hx179_5.symm.trans hx180_5)
              injection ea_ with ea_ en_ ec_
              subst ea_
              subst ec_
              clear en_
              go_wp2
              go_roundg k1
              case measure => have := HK1.out; omega
              case rel => exact ⟨(wrap64 (x5_1 + 1)), (by first | rfl | (simp; done) | (simp [*]; done)), H', ⟨by have := HK1.out; omega⟩, by repeat (first | exact Drawn0.refl _ | apply Drawn0.step)⟩
          · rw [if_neg c5] at H
            have c5b0 : decide (((rd_T82 l0 x5_1).f2) ≤ a1) = false := decide_eq_false c5
            clear c5
            have H' := Aside0.mk H
            clear H
            have p179 : 0 ≤ (x5_1 : Int) := of_decide_eq_true (by first | (with_reducible assumption) | assumption)
            have q179 : x5_1 < (l0.length : Int) := of_decide_eq_true (by first | (with_reducible assumption) | assumption)
            obtain ⟨ad179, A179_4, c179_4, A179_5, c179_5, e179, hx179_0, hx179_1, hx179_2, hx179_3, hx179_4, hx179_5, hl179_4, hi179_4, hl179_5, hi179_5⟩ := at_T82 HR0.out x5_1 p179 q179
            cases e179
            have HR179_4 := Aside0.mk hi179_4
            have HC179_4 := Aside0.mk hl179_4
            clear hi179_4 hl179_4
            have HR179_5 := Aside0.mk hi179_5
            have HC179_5 := Aside0.mk hl179_5
            clear hi179_5 hl179_5
            replace p179 := eq_true p179
            replace q179 := eq_true q179
            go_wp2
            go_roundg k1
            case measure => have := HK1.out; omega
            case rel => exact ⟨(wrap64 (x5_1 + 1)), (by first | rfl | (simp; done) | (simp [*]; done)), H', ⟨by have := HK1.out; omega⟩, by repeat (first | exact Drawn0.refl _ | apply Drawn0.step)⟩
        · rw [if_neg c4] at H
          exact absurd H (by simp)
      · rw [if_neg c3] at H
        have c3b0 : decide (x5_1 < (l0.length : Int)) = false := decide_eq_false c3
        clear c3
        obtain rfl := Option.some.inj H
        go_wp2
        go_ret
        exact ⟨by first | rfl | (simp; done) | (simp [*]; done), by repeat (first | exact Drawn0.refl _ | apply Drawn0.step)⟩
/-! ### dowelref05_Cell: function 48 -/
mutual
def dowelref05_Cell.l0 : Nat → List (S82) → Int → Int → Option (Int)
  | 0, _, _, _ => none
  | k + 1, x0, x1, x5 => if x5 < (x0.length : Int) then (dowelref05_Cell.l1 k x0 x1 x5 0) else (some 0)
def dowelref05_Cell.l1 : Nat → List (S82) → Int → Int → Int → Option (Int)
  | 0, _, _, _, _ => none
  | k + 1, x0, x1, x5, x6 => if 0 ≤ x5 then (if x5 < (x0.length : Int) then (if x6 < (((rd_T82 x0 x5).f4).length : Int) then (if 0 ≤ x6 then (if x1 ≥ (rd ((rd_T82 x0 x5).f4) x6) then (if x1 < (wrap64 ((rd ((rd_T82 x0 x5).f4) x6) + 4)) then (some 1) else (dowelref05_Cell.l1 k x0 x1 x5 (wrap64 (x6 + 1)))) else (dowelref05_Cell.l1 k x0 x1 x5 (wrap64 (x6 + 1)))) else (none)) else (dowelref05_Cell.l2 k x0 x1 x5 0)) else (none)) else (none)
def dowelref05_Cell.l2 : Nat → List (S82) → Int → Int → Int → Option (Int)
  | 0, _, _, _, _ => none
  | k + 1, x0, x1, x5, x7 => if 0 ≤ x5 then (if x5 < (x0.length : Int) then (if x7 < (((rd_T82 x0 x5).f5).length : Int) then (if 0 ≤ x7 then (if x1 ≥ (rd ((rd_T82 x0 x5).f5) x7) then (if x1 < (wrap64 ((rd ((rd_T82 x0 x5).f5) x7) + 4)) then (some 2) else (dowelref05_Cell.l2 k x0 x1 x5 (wrap64 (x7 + 1)))) else (dowelref05_Cell.l2 k x0 x1 x5 (wrap64 (x7 + 1)))) else (none)) else (dowelref05_Cell.l0 k x0 x1 (wrap64 (x5 + 1)))) else (none)) else (none)
end
def dowelref05_Cell.f (k : Nat) (l0 : List (S82)) (a1 : Int) : Option (Int) := dowelref05_Cell.l0 k l0 a1 0
theorem dowelref05_Cell.mono_l : ∀ k, (∀ y0 y1 y2, LeO (dowelref05_Cell.l0 k y0 y1 y2) (dowelref05_Cell.l0 (k + 1) y0 y1 y2)) ∧ (∀ y0 y1 y2 y3, LeO (dowelref05_Cell.l1 k y0 y1 y2 y3) (dowelref05_Cell.l1 (k + 1) y0 y1 y2 y3)) ∧ (∀ y0 y1 y2 y3, LeO (dowelref05_Cell.l2 k y0 y1 y2 y3) (dowelref05_Cell.l2 (k + 1) y0 y1 y2 y3))
  | 0 => ⟨fun _ _ _ r h => by simp [dowelref05_Cell.l0] at h, fun _ _ _ _ r h => by simp [dowelref05_Cell.l1] at h, fun _ _ _ _ r h => by simp [dowelref05_Cell.l2] at h⟩
  | k + 1 => by
    obtain ⟨ih0, ih1, ih2⟩ := dowelref05_Cell.mono_l k
    refine ⟨?_, ?_, ?_⟩
    · intro y0 y1 y2
      unfold dowelref05_Cell.l0
      repeat' first
      | (with_reducible exact ih0 _ _ _)
      | (with_reducible exact ih1 _ _ _ _)
      | (with_reducible exact ih2 _ _ _ _)
      | (with_reducible exact LeO.refl _)
      | (with_reducible exact LeO.none _)
      | (with_reducible refine LeO.ite ?_ ?_)
      | (with_reducible refine LeO.bind ?_ (fun _ => ?_))
      | exact ih0 _ _ _
      | exact ih1 _ _ _ _
      | exact ih2 _ _ _ _
      | exact LeO.none _
      | refine LeO.ite ?_ ?_
      | refine LeO.bind ?_ (fun _ => ?_)
    · intro y0 y1 y2 y3
      unfold dowelref05_Cell.l1
      repeat' first
      | (with_reducible exact ih0 _ _ _)
      | (with_reducible exact ih1 _ _ _ _)
      | (with_reducible exact ih2 _ _ _ _)
      | (with_reducible exact LeO.refl _)
      | (with_reducible exact LeO.none _)
      | (with_reducible refine LeO.ite ?_ ?_)
      | (with_reducible refine LeO.bind ?_ (fun _ => ?_))
      | exact ih0 _ _ _
      | exact ih1 _ _ _ _
      | exact ih2 _ _ _ _
      | exact LeO.none _
      | refine LeO.ite ?_ ?_
      | refine LeO.bind ?_ (fun _ => ?_)
    · intro y0 y1 y2 y3
      unfold dowelref05_Cell.l2
      repeat' first
      | (with_reducible exact ih0 _ _ _)
      | (with_reducible exact ih1 _ _ _ _)
      | (with_reducible exact ih2 _ _ _ _)
      | (with_reducible exact LeO.refl _)
      | (with_reducible exact LeO.none _)
      | (with_reducible refine LeO.ite ?_ ?_)
      | (with_reducible refine LeO.bind ?_ (fun _ => ?_))
      | exact ih0 _ _ _
      | exact ih1 _ _ _ _
      | exact ih2 _ _ _ _
      | exact LeO.none _
      | refine LeO.ite ?_ ?_
      | refine LeO.bind ?_ (fun _ => ?_)
theorem dowelref05_Cell.mono : ∀ a0 a1 k, LeO (dowelref05_Cell.f k a0 a1) (dowelref05_Cell.f (k + 1) a0 a1) := by
  intro a0 a1 k
  obtain ⟨ih0, ih1, ih2⟩ := dowelref05_Cell.mono_l k
  unfold dowelref05_Cell.f
  repeat' first
      | (with_reducible exact ih0 _ _ _)
      | (with_reducible exact ih1 _ _ _ _)
      | (with_reducible exact ih2 _ _ _ _)
      | (with_reducible exact LeO.refl _)
      | (with_reducible exact LeO.none _)
      | (with_reducible refine LeO.ite ?_ ?_)
      | (with_reducible refine LeO.bind ?_ (fun _ => ?_))
      | exact ih0 _ _ _
      | exact ih1 _ _ _ _
      | exact ih2 _ _ _ _
      | exact LeO.none _
      | refine LeO.ite ?_ ?_
      | refine LeO.bind ?_ (fun _ => ?_)
set_option maxHeartbeats 8000000 in
set_option maxRecDepth 100000 in
theorem dowelref05_Cell.calls (k : Nat) (A0 : Option Addr) (c0 : Nat) (l0 : List (S82)) (a1 : Int) (r : Int) (w : World) (hr0 : Kd.C k82 w A0 l0.length l0) (hc0 : l0.length ≤ c0) (h : dowelref05_Cell.f k l0 a1 = some r) :
    Calls Try.prog 48 #[.slice A0 l0.length c0, .int .i64 a1] w fun e w' => e = .returned (.int .i64 r) ∧ Drawn0 w w' := by
  have HR0 := Aside0.mk hr0
  have HC0 := Aside0.mk hc0
  clear hr0 hc0
  have H : (dowelref05_Cell.l0 k l0 a1 0) = some r := h
  clear h
  have H' := Aside0.mk H
  clear H
  go_enter Try.func48, Try.ntmps48
  go_wp2
  go_loopg [5] k (fun kq v5 w' => ∃ (x5_1 : Int), v5 = .int .i64 x5_1 ∧ Aside0 (dowelref05_Cell.l0 kq l0 a1 x5_1 = some r) ∧ Aside0 (kq ≤ k) ∧ Drawn0 w w')
  case atStart => exact ⟨(0), (by first | rfl | (simp; done) | (simp [*]; done)), H', ⟨Nat.le_refl _⟩, by repeat (first | exact Drawn0.refl _ | apply Drawn0.step)⟩
  case round =>
    clear H'
    try clear p2
    obtain ⟨x5_1, rfl, HA, HK1, ⟨m1, rfl⟩⟩ := hrel
    cases gk with
    | zero => exact absurd HA.out (by simp [dowelref05_Cell.l0])
    | succ k1 =>
      have H := HA.out
      clear HA
      simp only [dowelref05_Cell.l0] at H
      by_cases c3 : x5_1 < (l0.length : Int)
      · rw [if_pos c3] at H
        have c3b0 : decide (x5_1 < (l0.length : Int)) = true := decide_eq_true c3
        clear c3
        have H' := Aside0.mk H
        clear H
        go_wp2
        go_loopg [6] k1 (fun kq v6 w' => ∃ (x6_2 : Int), v6 = .int .i64 x6_2 ∧ Aside0 (dowelref05_Cell.l1 kq l0 a1 x5_1 x6_2 = some r) ∧ Aside0 (kq ≤ k1) ∧ Drawn0 w w')
        case atStart => exact ⟨(0), (by first | rfl | (simp; done) | (simp [*]; done)), H', ⟨Nat.le_refl _⟩, by repeat (first | exact Drawn0.refl _ | apply Drawn0.step)⟩
        case round =>
          clear H'
          try clear p2
          try clear c3
          try clear c3b0
          try clear p2
          obtain ⟨x6_2, rfl, HA, HK2, ⟨m2, rfl⟩⟩ := hrel
          cases gk with
          | zero => exact absurd HA.out (by simp [dowelref05_Cell.l1])
          | succ k2 =>
            have H := HA.out
            clear HA
            simp only [dowelref05_Cell.l1] at H
            by_cases c4 : 0 ≤ x5_1
            · rw [if_pos c4] at H
              have c4b0 : decide (0 ≤ x5_1) = true := decide_eq_true c4
              clear c4
              by_cases c5 : x5_1 < (l0.length : Int)
              · rw [if_pos c5] at H
                have c5b0 : decide (x5_1 < (l0.length : Int)) = true := decide_eq_true c5
                clear c5
                by_cases c6 : x6_2 < (((rd_T82 l0 x5_1).f4).length : Int)
                · rw [if_pos c6] at H
                  have c6b0 : decide (x6_2 < (((rd_T82 l0 x5_1).f4).length : Int)) = true := decide_eq_true c6
                  clear c6
                  by_cases c7 : 0 ≤ x6_2
                  · rw [if_pos c7] at H
                    have c7b0 : decide (0 ≤ x6_2) = true := decide_eq_true c7
                    clear c7
                    by_cases c8 : a1 ≥ (rd ((rd_T82 l0 x5_1).f4) x6_2)
                    · rw [if_pos c8] at H
                      have c8b0 : decide ((rd ((rd_T82 l0 x5_1).f4) x6_2) ≤ a1) = true := decide_eq_true c8
                      clear c8
                      by_cases c9 : a1 < (wrap64 ((rd ((rd_T82 l0 x5_1).f4) x6_2) + 4))
                      · rw [if_pos c9] at H
                        have c9b0 : decide (a1 < (wrap64 ((rd ((rd_T82 l0 x5_1).f4) x6_2) + 4))) = true := decide_eq_true c9
                        clear c9
                        obtain rfl := Option.some.inj H
                        have p181 : 0 ≤ (x5_1 : Int) := of_decide_eq_true (by first | (with_reducible assumption) | assumption)
                        have q181 : x5_1 < (l0.length : Int) := of_decide_eq_true (by first | (with_reducible assumption) | assumption)
                        obtain ⟨ad181, A181_4, c181_4, A181_5, c181_5, e181, hx181_0, hx181_1, hx181_2, hx181_3, hx181_4, hx181_5, hl181_4, hi181_4, hl181_5, hi181_5⟩ := at_T82 HR0.out x5_1 p181 q181
                        cases e181
                        have HR181_4 := Aside0.mk hi181_4
                        have HC181_4 := Aside0.mk hl181_4
                        clear hi181_4 hl181_4
                        have HR181_5 := Aside0.mk hi181_5
                        have HC181_5 := Aside0.mk hl181_5
                        clear hi181_5 hl181_5
                        replace p181 := eq_true p181
                        replace q181 := eq_true q181
                        have p182 : 0 ≤ (x5_1 : Int) := of_decide_eq_true (by first | (with_reducible assumption) | assumption)
                        have q182 : x5_1 < (l0.length : Int) := of_decide_eq_true (by first | (with_reducible assumption) | assumption)
                        obtain ⟨ad182, A182_4, c182_4, A182_5, c182_5, e182, hx182_0, hx182_1, hx182_2, hx182_3, hx182_4, hx182_5, hl182_4, hi182_4, hl182_5, hi182_5⟩ := at_T82 HR0.out x5_1 p182 q182
                        obtain rfl : ad181 = ad182 := (by injection e182)
                        have HR182_4 := Aside0.mk hi182_4
                        have HC182_4 := Aside0.mk hl182_4
                        clear hi182_4 hl182_4
                        have HR182_5 := Aside0.mk hi182_5
                        have HC182_5 := Aside0.mk hl182_5
                        clear hi182_5 hl182_5
                        replace p182 := eq_true p182
                        replace q182 := eq_true q182
                        have ea_ := Option.some.inj (hx181_4.symm.trans hx182_4)
                        injection ea_ with ea_ en_ ec_
                        subst ea_
                        subst ec_
                        clear en_
                        have ea_ := Option.some.inj (hx181_5.symm.trans hx182_5)
                        injection ea_ with ea_ en_ ec_
                        subst ea_
                        subst ec_
                        clear en_
                        have p183 : 0 ≤ (x6_2 : Int) := of_decide_eq_true (by first | (with_reducible assumption) | assumption)
                        have q183 : x6_2 < (((rd_T82 l0 x5_1).f4).length : Int) := of_decide_eq_true (by first | (with_reducible assumption) | assumption)
                        obtain ⟨ad183, e183, hx183_0⟩ := Kd.at_int HR182_4.out x6_2 p183 q183
                        cases e183
                        replace p183 := eq_true p183
                        replace q183 := eq_true q183
                        have p184 : 0 ≤ (x5_1 : Int) := of_decide_eq_true (by first | (with_reducible assumption) | assumption)
                        have q184 : x5_1 < (l0.length : Int) := of_decide_eq_true (by first | (with_reducible assumption) | assumption)
                        obtain ⟨ad184, A184_4, c184_4, A184_5, c184_5, e184, hx184_0, hx184_1, hx184_2, hx184_3, hx184_4, hx184_5, hl184_4, hi184_4, hl184_5, hi184_5⟩ := at_T82 HR0.out x5_1 p184 q184
                        obtain rfl : ad181 = ad184 := (by injection e184)
                        have HR184_4 := Aside0.mk hi184_4
                        have HC184_4 := Aside0.mk hl184_4
                        clear hi184_4 hl184_4
                        have HR184_5 := Aside0.mk hi184_5
                        have HC184_5 := Aside0.mk hl184_5
                        clear hi184_5 hl184_5
                        replace p184 := eq_true p184
                        replace q184 := eq_true q184
                        have ea_ := Option.some.inj (hx181_4.symm.trans hx184_4)
                        injection ea_ with ea_ en_ ec_
                        subst ea_
                        subst ec_
                        clear en_
                        have ea_ := Option.some.inj (hx181_5.symm.trans hx184_5)
                        injection ea_ with ea_ en_ ec_
                        subst ea_
                        subst ec_
                        clear en_
                        have p185 : 0 ≤ (x6_2 : Int) := of_decide_eq_true (by first | (with_reducible assumption) | assumption)
                        have q185 : x6_2 < (((rd_T82 l0 x5_1).f4).length : Int) := of_decide_eq_true (by first | (with_reducible assumption) | assumption)
                        obtain ⟨ad185, e185, hx185_0⟩ := Kd.at_int HR184_4.out x6_2 p185 q185
                        cases e185
                        replace p185 := eq_true p185
                        replace q185 := eq_true q185
                        go_wp2
                        go_ret
                        exact ⟨by first | rfl | (simp; done) | (simp [*]; done), by repeat (first | exact Drawn0.refl _ | apply Drawn0.step)⟩
                      · rw [if_neg c9] at H
                        have c9b0 : decide (a1 < (wrap64 ((rd ((rd_T82 l0 x5_1).f4) x6_2) + 4))) = false := decide_eq_false c9
                        clear c9
                        have H' := Aside0.mk H
                        clear H
                        have p181 : 0 ≤ (x5_1 : Int) := of_decide_eq_true (by first | (with_reducible assumption) | assumption)
                        have q181 : x5_1 < (l0.length : Int) := of_decide_eq_true (by first | (with_reducible assumption) | assumption)
                        obtain ⟨ad181, A181_4, c181_4, A181_5, c181_5, e181, hx181_0, hx181_1, hx181_2, hx181_3, hx181_4, hx181_5, hl181_4, hi181_4, hl181_5, hi181_5⟩ := at_T82 HR0.out x5_1 p181 q181
                        cases e181
                        have HR181_4 := Aside0.mk hi181_4
                        have HC181_4 := Aside0.mk hl181_4
                        clear hi181_4 hl181_4
                        have HR181_5 := Aside0.mk hi181_5
                        have HC181_5 := Aside0.mk hl181_5
                        clear hi181_5 hl181_5
                        replace p181 := eq_true p181
                        replace q181 := eq_true q181
                        have p182 : 0 ≤ (x5_1 : Int) := of_decide_eq_true (by first | (with_reducible assumption) | assumption)
                        have q182 : x5_1 < (l0.length : Int) := of_decide_eq_true (by first | (with_reducible assumption) | assumption)
                        obtain ⟨ad182, A182_4, c182_4, A182_5, c182_5, e182, hx182_0, hx182_1, hx182_2, hx182_3, hx182_4, hx182_5, hl182_4, hi182_4, hl182_5, hi182_5⟩ := at_T82 HR0.out x5_1 p182 q182
                        obtain rfl : ad181 = ad182 := (by injection e182)
                        have HR182_4 := Aside0.mk hi182_4
                        have HC182_4 := Aside0.mk hl182_4
                        clear hi182_4 hl182_4
                        have HR182_5 := Aside0.mk hi182_5
                        have HC182_5 := Aside0.mk hl182_5
                        clear hi182_5 hl182_5
                        replace p182 := eq_true p182
                        replace q182 := eq_true q182
                        have ea_ := Option.some.inj (hx181_4.symm.trans hx182_4)
                        injection ea_ with ea_ en_ ec_
                        subst ea_
                        subst ec_
                        clear en_
                        have ea_ := Option.some.inj (hx181_5.symm.trans hx182_5)
                        injection ea_ with ea_ en_ ec_
                        subst ea_
                        subst ec_
                        clear en_
                        have p183 : 0 ≤ (x6_2 : Int) := of_decide_eq_true (by first | (with_reducible assumption) | assumption)
                        have q183 : x6_2 < (((rd_T82 l0 x5_1).f4).length : Int) := of_decide_eq_true (by first | (with_reducible assumption) | assumption)
                        obtain ⟨ad183, e183, hx183_0⟩ := Kd.at_int HR182_4.out x6_2 p183 q183
                        cases e183
                        replace p183 := eq_true p183
                        replace q183 := eq_true q183
                        have p184 : 0 ≤ (x5_1 : Int) := of_decide_eq_true (by first | (with_reducible assumption) | assumption)
                        have q184 : x5_1 < (l0.length : Int) := of_decide_eq_true (by first | (with_reducible assumption) | assumption)
                        obtain ⟨ad184, A184_4, c184_4, A184_5, c184_5, e184, hx184_0, hx184_1, hx184_2, hx184_3, hx184_4, hx184_5, hl184_4, hi184_4, hl184_5, hi184_5⟩ := at_T82 HR0.out x5_1 p184 q184
                        obtain rfl : ad181 = ad184 := (by injection e184)
                        have HR184_4 := Aside0.mk hi184_4
                        have HC184_4 := Aside0.mk hl184_4
                        clear hi184_4 hl184_4
                        have HR184_5 := Aside0.mk hi184_5
                        have HC184_5 := Aside0.mk hl184_5
                        clear hi184_5 hl184_5
                        replace p184 := eq_true p184
                        replace q184 := eq_true q184
                        have ea_ := Option.some.inj (hx181_4.symm.trans hx184_4)
                        injection ea_ with ea_ en_ ec_
                        subst ea_
                        subst ec_
                        clear en_
                        have ea_ := Option.some.inj (hx181_5.symm.trans hx184_5)
                        injection ea_ with ea_ en_ ec_
                        subst ea_
                        subst ec_
                        clear en_
                        have p185 : 0 ≤ (x6_2 : Int) := of_decide_eq_true (by first | (with_reducible assumption) | assumption)
                        have q185 : x6_2 < (((rd_T82 l0 x5_1).f4).length : Int) := of_decide_eq_true (by first | (with_reducible assumption) | assumption)
                        obtain ⟨ad185, e185, hx185_0⟩ := Kd.at_int HR184_4.out x6_2 p185 q185
                        cases e185
                        replace p185 := eq_true p185
                        replace q185 := eq_true q185
                        go_wp2
                        go_roundg k2
                        case measure => have := HK1.out; have := HK2.out; omega
                        case rel => exact ⟨(wrap64 (x6_2 + 1)), (by first | rfl | (simp; done) | (simp [*]; done)), H', ⟨by have := HK1.out; have := HK2.out; omega⟩, by repeat (first | exact Drawn0.refl _ | apply Drawn0.step)⟩
                    · rw [if_neg c8] at H
                      have c8b0 : decide ((rd ((rd_T82 l0 x5_1).f4) x6_2) ≤ a1) = false := decide_eq_false c8
                      clear c8
                      have H' := Aside0.mk H
                      clear H
                      have p181 : 0 ≤ (x5_1 : Int) := of_decide_eq_true (by first | (with_reducible assumption) | assumption)
                      have q181 : x5_1 < (l0.length : Int) := of_decide_eq_true (by first | (with_reducible assumption) | assumption)
                      obtain ⟨ad181, A181_4, c181_4, A181_5, c181_5, e181, hx181_0, hx181_1, hx181_2, hx181_3, hx181_4, hx181_5, hl181_4, hi181_4, hl181_5, hi181_5⟩ := at_T82 HR0.out x5_1 p181 q181
                      cases e181
                      have HR181_4 := Aside0.mk hi181_4
                      have HC181_4 := Aside0.mk hl181_4
                      clear hi181_4 hl181_4
                      have HR181_5 := Aside0.mk hi181_5
                      have HC181_5 := Aside0.mk hl181_5
                      clear hi181_5 hl181_5
                      replace p181 := eq_true p181
                      replace q181 := eq_true q181
                      have p182 : 0 ≤ (x5_1 : Int) := of_decide_eq_true (by first | (with_reducible assumption) | assumption)
                      have q182 : x5_1 < (l0.length : Int) := of_decide_eq_true (by first | (with_reducible assumption) | assumption)
                      obtain ⟨ad182, A182_4, c182_4, A182_5, c182_5, e182, hx182_0, hx182_1, hx182_2, hx182_3, hx182_4, hx182_5, hl182_4, hi182_4, hl182_5, hi182_5⟩ := at_T82 HR0.out x5_1 p182 q182
                      obtain rfl : ad181 = ad182 := (by injection e182)
                      have HR182_4 := Aside0.mk hi182_4
                      have HC182_4 := Aside0.mk hl182_4
                      clear hi182_4 hl182_4
                      have HR182_5 := Aside0.mk hi182_5
                      have HC182_5 := Aside0.mk hl182_5
                      clear hi182_5 hl182_5
                      replace p182 := eq_true p182
                      replace q182 := eq_true q182
                      have ea_ := Option.some.inj (hx181_4.symm.trans hx182_4)
                      injection ea_ with ea_ en_ ec_
                      subst ea_
                      subst ec_
                      clear en_
                      have ea_ := Option.some.inj (hx181_5.symm.trans hx182_5)
                      injection ea_ with ea_ en_ ec_
                      subst ea_
                      subst ec_
                      clear en_
                      have p183 : 0 ≤ (x6_2 : Int) := of_decide_eq_true (by first | (with_reducible assumption) | assumption)
                      have q183 : x6_2 < (((rd_T82 l0 x5_1).f4).length : Int) := of_decide_eq_true (by first | (with_reducible assumption) | assumption)
                      obtain ⟨ad183, e183, hx183_0⟩ := Kd.at_int HR182_4.out x6_2 p183 q183
                      cases e183
                      replace p183 := eq_true p183
                      replace q183 := eq_true q183
                      go_wp2
                      go_roundg k2
                      case measure => have := HK1.out; have := HK2.out; omega
                      case rel => exact ⟨(wrap64 (x6_2 + 1)), (by first | rfl | (simp; done) | (simp [*]; done)), H', ⟨by have := HK1.out; have := HK2.out; omega⟩, by repeat (first | exact Drawn0.refl _ | apply Drawn0.step)⟩
                  · rw [if_neg c7] at H
                    exact absurd H (by simp)
                · rw [if_neg c6] at H
                  have c6b0 : decide (x6_2 < (((rd_T82 l0 x5_1).f4).length : Int)) = false := decide_eq_false c6
                  clear c6
                  have H' := Aside0.mk H
                  clear H
                  have p181 : 0 ≤ (x5_1 : Int) := of_decide_eq_true (by first | (with_reducible assumption) | assumption)
                  have q181 : x5_1 < (l0.length : Int) := of_decide_eq_true (by first | (with_reducible assumption) | assumption)
                  obtain ⟨ad181, A181_4, c181_4, A181_5, c181_5, e181, hx181_0, hx181_1, hx181_2, hx181_3, hx181_4, hx181_5, hl181_4, hi181_4, hl181_5, hi181_5⟩ := at_T82 HR0.out x5_1 p181 q181
                  cases e181
                  have HR181_4 := Aside0.mk hi181_4
                  have HC181_4 := Aside0.mk hl181_4
                  clear hi181_4 hl181_4
                  have HR181_5 := Aside0.mk hi181_5
                  have HC181_5 := Aside0.mk hl181_5
                  clear hi181_5 hl181_5
                  replace p181 := eq_true p181
                  replace q181 := eq_true q181
                  go_wp2
                  go_loopg [7] k2 (fun kq v7 w' => ∃ (x7_3 : Int), v7 = .int .i64 x7_3 ∧ Aside0 (dowelref05_Cell.l2 kq l0 a1 x5_1 x7_3 = some r) ∧ Aside0 (kq ≤ k2) ∧ Drawn0 w w')
                  case atStart => exact ⟨(0), (by first | rfl | (simp; done) | (simp [*]; done)), H', ⟨Nat.le_refl _⟩, by repeat (first | exact Drawn0.refl _ | apply Drawn0.step)⟩
                  case round =>
                    clear H'
                    try clear c1
                    try clear p1
                    try clear q1
                    try clear hx1
                    try clear p2
                    try clear c3
                    try clear c3b0
                    try clear c4
                    try clear c4b0
                    try clear c5
                    try clear c5b0
                    try clear c6
                    try clear c6b0
                    try clear p6
                    try clear c7
                    try clear c7b0
                    try clear c8
                    try clear c8b0
                    try clear c9
                    try clear c9b0
                    try clear hx181_0
                    try clear hx181_1
                    try clear hx181_2
                    try clear hx181_3
                    try clear hx181_4
                    try clear hx181_5
                    try clear hx182_0
                    try clear hx182_1
                    try clear hx182_2
                    try clear hx182_3
                    try clear hx182_4
                    try clear hx182_5
                    try clear hx183_0
                    try clear hx184_0
                    try clear hx184_1
                    try clear hx184_2
                    try clear hx184_3
                    try clear hx184_4
                    try clear hx184_5
                    try clear hx185_0
                    try clear p181
                    try clear p182
                    try clear p183
                    try clear p184
                    try clear p185
                    try clear p2
                    try clear q181
                    try clear q182
                    try clear q183
                    try clear q184
                    try clear q185
                    obtain ⟨x7_3, rfl, HA, HK3, ⟨m3, rfl⟩⟩ := hrel
                    cases gk with
                    | zero => exact absurd HA.out (by simp [dowelref05_Cell.l2])
                    | succ k3 =>
                      have H := HA.out
                      clear HA
                      simp only [dowelref05_Cell.l2] at H
                      by_cases c10 : 0 ≤ x5_1
                      · rw [if_pos c10] at H
                        have c10b0 : decide (0 ≤ x5_1) = true := decide_eq_true c10
                        clear c10
                        by_cases c11 : x5_1 < (l0.length : Int)
                        · rw [if_pos c11] at H
                          have c11b0 : decide (x5_1 < (l0.length : Int)) = true := decide_eq_true c11
                          clear c11
                          by_cases c12 : x7_3 < (((rd_T82 l0 x5_1).f5).length : Int)
                          · rw [if_pos c12] at H
                            have c12b0 : decide (x7_3 < (((rd_T82 l0 x5_1).f5).length : Int)) = true := decide_eq_true c12
                            clear c12
                            by_cases c13 : 0 ≤ x7_3
                            · rw [if_pos c13] at H
                              have c13b0 : decide (0 ≤ x7_3) = true := decide_eq_true c13
                              clear c13
                              by_cases c14 : a1 ≥ (rd ((rd_T82 l0 x5_1).f5) x7_3)
                              · rw [if_pos c14] at H
                                have c14b0 : decide ((rd ((rd_T82 l0 x5_1).f5) x7_3) ≤ a1) = true := decide_eq_true c14
                                clear c14
                                by_cases c15 : a1 < (wrap64 ((rd ((rd_T82 l0 x5_1).f5) x7_3) + 4))
                                · rw [if_pos c15] at H
                                  have c15b0 : decide (a1 < (wrap64 ((rd ((rd_T82 l0 x5_1).f5) x7_3) + 4))) = true := decide_eq_true c15
                                  clear c15
                                  obtain rfl := Option.some.inj H
                                  have p186 : 0 ≤ (x5_1 : Int) := of_decide_eq_true (by first | (with_reducible assumption) | assumption)
                                  have q186 : x5_1 < (l0.length : Int) := of_decide_eq_true (by first | (with_reducible assumption) | assumption)
                                  obtain ⟨ad186, A186_4, c186_4, A186_5, c186_5, e186, hx186_0, hx186_1, hx186_2, hx186_3, hx186_4, hx186_5, hl186_4, hi186_4, hl186_5, hi186_5⟩ := at_T82 HR0.out x5_1 p186 q186
                                  obtain rfl : ad181 = ad186 := (by injection e186)
                                  have HR186_4 := Aside0.mk hi186_4
                                  have HC186_4 := Aside0.mk hl186_4
                                  clear hi186_4 hl186_4
                                  have HR186_5 := Aside0.mk hi186_5
                                  have HC186_5 := Aside0.mk hl186_5
                                  clear hi186_5 hl186_5
                                  replace p186 := eq_true p186
                                  replace q186 := eq_true q186
                                  have p187 : 0 ≤ (x5_1 : Int) := of_decide_eq_true (by first | (with_reducible assumption) | assumption)
                                  have q187 : x5_1 < (l0.length : Int) := of_decide_eq_true (by first | (with_reducible assumption) | assumption)
                                  obtain ⟨ad187, A187_4, c187_4, A187_5, c187_5, e187, hx187_0, hx187_1, hx187_2, hx187_3, hx187_4, hx187_5, hl187_4, hi187_4, hl187_5, hi187_5⟩ := at_T82 HR0.out x5_1 p187 q187
                                  obtain rfl : ad181 = ad187 := (by injection e187)
                                  have HR187_4 := Aside0.mk hi187_4
                                  have HC187_4 := Aside0.mk hl187_4
                                  clear hi187_4 hl187_4
                                  have HR187_5 := Aside0.mk hi187_5
                                  have HC187_5 := Aside0.mk hl187_5
                                  clear hi187_5 hl187_5
                                  replace p187 := eq_true p187
                                  replace q187 := eq_true q187
                                  have ea_ := Option.some.inj (hx186_4.symm.trans hx187_4)
                                  injection ea_ with ea_ en_ ec_
                                  subst ea_
                                  subst ec_
                                  clear en_
                                  have ea_ := Option.some.inj (hx186_5.symm.trans hx187_5)
                                  injection ea_ with ea_ en_ ec_
                                  subst ea_
                                  subst ec_
                                  clear en_
                                  have p188 : 0 ≤ (x7_3 : Int) := of_decide_eq_true (by first | (with_reducible assumption) | assumption)
                                  have q188 : x7_3 < (((rd_T82 l0 x5_1).f5).length : Int) := of_decide_eq_true (by first | (with_reducible assumption) | assumption)
                                  obtain ⟨ad188, e188, hx188_0⟩ := Kd.at_int HR187_5.out x7_3 p188 q188
                                  cases e188
                                  replace p188 := eq_true p188
                                  replace q188 := eq_true q188
                                  have p189 : 0 ≤ (x5_1 : Int) := of_decide_eq_true (by first | (with_reducible assumption) | assumption)
                                  have q189 : x5_1 < (l0.length : Int) := of_decide_eq_true (by first | (with_reducible assumption) | assumption)
                                  obtain ⟨ad189, A189_4, c189_4, A189_5, c189_5, e189, hx189_0, hx189_1, hx189_2, hx189_3, hx189_4, hx189_5, hl189_4, hi189_4, hl189_5, hi189_5⟩ := at_T82 HR0.out x5_1 p189 q189
                                  obtain rfl : ad181 = ad189 := (by injection e189)
                                  have HR189_4 := Aside0.mk hi189_4
                                  have HC189_4 := Aside0.mk hl189_4
                                  clear hi189_4 hl189_4
                                  have HR189_5 := Aside0.mk hi189_5
                                  have HC189_5 := Aside0.mk hl189_5
                                  clear hi189_5 hl189_5
                                  replace p189 := eq_true p189
                                  replace q189 := eq_true q189
                                  have ea_ := Option.some.inj (hx186_4.symm.trans hx189_4)
                                  injection ea_ with ea_ en_ ec_
                                  subst ea_
                                  subst ec_
                                  clear en_
                                  have ea_ := Option.some.inj (hx186_5.symm.trans hx189_5)
                                  injection ea_ with ea_ en_ ec_
                                  subst ea_
                                  subst ec_
                                  clear en_
                                  have p190 : 0 ≤ (x7_3 : Int) := of_decide_eq_true (by first | (with_reducible assumption) | assumption)
                                  have q190 : x7_3 < (((rd_T82 l0 x5_1).f5).length : Int) := of_decide_eq_true (by first | (with_reducible assumption) | assumption)
                                  obtain ⟨ad190, e190, hx190_0⟩ := Kd.at_int HR189_5.out x7_3 p190 q190
                                  cases e190
                                  replace p190 := eq_true p190
                                  replace q190 := eq_true q190
                                  go_wp2
                                  go_ret
                                  exact ⟨by first | rfl | (simp; done) | (simp [*]; done), by repeat (first | exact Drawn0.refl _ | apply Drawn0.step)⟩
                                · rw [if_neg c15] at H
                                  have c15b0 : decide (a1 < (wrap64 ((rd ((rd_T82 l0 x5_1).f5) x7_3) + 4))) = false := decide_eq_false c15
                                  clear c15
                                  have H' := Aside0.mk H
                                  clear H
                                  have p186 : 0 ≤ (x5_1 : Int) := of_decide_eq_true (by first | (with_reducible assumption) | assumption)
                                  have q186 : x5_1 < (l0.length : Int) := of_decide_eq_true (by first | (with_reducible assumption) | assumption)
                                  obtain ⟨ad186, A186_4, c186_4, A186_5, c186_5, e186, hx186_0, hx186_1, hx186_2, hx186_3, hx186_4, hx186_5, hl186_4, hi186_4, hl186_5, hi186_5⟩ := at_T82 HR0.out x5_1 p186 q186
                                  obtain rfl : ad181 = ad186 := (by injection e186)
                                  have HR186_4 := Aside0.mk hi186_4
                                  have HC186_4 := Aside0.mk hl186_4
                                  clear hi186_4 hl186_4
                                  have HR186_5 := Aside0.mk hi186_5
                                  have HC186_5 := Aside0.mk hl186_5
                                  clear hi186_5 hl186_5
                                  replace p186 := eq_true p186
                                  replace q186 := eq_true q186
                                  have p187 : 0 ≤ (x5_1 : Int) := of_decide_eq_true (by first | (with_reducible assumption) | assumption)
                                  have q187 : x5_1 < (l0.length : Int) := of_decide_eq_true (by first | (with_reducible assumption) | assumption)
                                  obtain ⟨ad187, A187_4, c187_4, A187_5, c187_5, e187, hx187_0, hx187_1, hx187_2, hx187_3, hx187_4, hx187_5, hl187_4, hi187_4, hl187_5, hi187_5⟩ := at_T82 HR0.out x5_1 p187 q187
                                  obtain rfl : ad181 = ad187 := (by injection e187)
                                  have HR187_4 := Aside0.mk hi187_4
                                  have HC187_4 := Aside0.mk hl187_4
                                  clear hi187_4 hl187_4
                                  have HR187_5 := Aside0.mk hi187_5
                                  have HC187_5 := Aside0.mk hl187_5
                                  clear hi187_5 hl187_5
                                  replace p187 := eq_true p187
                                  replace q187 := eq_true q187
                                  have ea_ := Option.some.inj (hx186_4.symm.trans hx187_4)
                                  injection ea_ with ea_ en_ ec_
                                  subst ea_
                                  subst ec_
                                  clear en_
                                  have ea_ := Option.some.inj (hx186_5.symm.trans hx187_5)
                                  injection ea_ with ea_ en_ ec_
                                  subst ea_
                                  subst ec_
                                  clear en_
                                  have p188 : 0 ≤ (x7_3 : Int) := of_decide_eq_true (by first | (with_reducible assumption) | assumption)
                                  have q188 : x7_3 < (((rd_T82 l0 x5_1).f5).length : Int) := of_decide_eq_true (by first | (with_reducible assumption) | assumption)
                                  obtain ⟨ad188, e188, hx188_0⟩ := Kd.at_int HR187_5.out x7_3 p188 q188
                                  cases e188
                                  replace p188 := eq_true p188
                                  replace q188 := eq_true q188
                                  have p189 : 0 ≤ (x5_1 : Int) := of_decide_eq_true (by first | (with_reducible assumption) | assumption)
                                  have q189 : x5_1 < (l0.length : Int) := of_decide_eq_true (by first | (with_reducible assumption) | assumption)
                                  obtain ⟨ad189, A189_4, c189_4, A189_5, c189_5, e189, hx189_0, hx189_1, hx189_2, hx189_3, hx189_4, hx189_5, hl189_4, hi189_4, hl189_5, hi189_5⟩ := at_T82 HR0.out x5_1 p189 q189
                                  obtain rfl : ad181 = ad189 := (by injection e189)
                                  have HR189_4 := Aside0.mk hi189_4
                                  have HC189_4 := Aside0.mk hl189_4
                                  clear hi189_4 hl189_4
                                  have HR189_5 := Aside0.mk hi189_5
                                  have HC189_5 := Aside0.mk hl189_5
                                  clear hi189_5 hl189_5
                                  replace p189 := eq_true p189
                                  replace q189 := eq_true q189
                                  have ea_ := Option.some.inj (hx186_4.symm.trans hx189_4)
                                  injection ea_ with ea_ en_ ec_
                                  subst ea_
                                  subst ec_
                                  clear en_
                                  have ea_ := Option.some.inj (hx186_5.symm.trans hx189_5)
                                  injection ea_ with ea_ en_ ec_
                                  subst ea_
                                  subst ec_
                                  clear en_
                                  have p190 : 0 ≤ (x7_3 : Int) := of_decide_eq_true (by first | (with_reducible assumption) | assumption)
                                  have q190 : x7_3 < (((rd_T82 l0 x5_1).f5).length : Int) := of_decide_eq_true (by first | (with_reducible assumption) | assumption)
                                  obtain ⟨ad190, e190, hx190_0⟩ := Kd.at_int HR189_5.out x7_3 p190 q190
                                  cases e190
                                  replace p190 := eq_true p190
                                  replace q190 := eq_true q190
                                  go_wp2
                                  go_roundg k3
                                  case measure => have := HK1.out; have := HK2.out; have := HK3.out; omega
                                  case rel => exact ⟨(wrap64 (x7_3 + 1)), (by first | rfl | (simp; done) | (simp [*]; done)), H', ⟨by have := HK1.out; have := HK2.out; have := HK3.out; omega⟩, by repeat (first | exact Drawn0.refl _ | apply Drawn0.step)⟩
                              · rw [if_neg c14] at H
                                have c14b0 : decide ((rd ((rd_T82 l0 x5_1).f5) x7_3) ≤ a1) = false := decide_eq_false c14
                                clear c14
                                have H' := Aside0.mk H
                                clear H
                                have p186 : 0 ≤ (x5_1 : Int) := of_decide_eq_true (by first | (with_reducible assumption) | assumption)
                                have q186 : x5_1 < (l0.length : Int) := of_decide_eq_true (by first | (with_reducible assumption) | assumption)
                                obtain ⟨ad186, A186_4, c186_4, A186_5, c186_5, e186, hx186_0, hx186_1, hx186_2, hx186_3, hx186_4, hx186_5, hl186_4, hi186_4, hl186_5, hi186_5⟩ := at_T82 HR0.out x5_1 p186 q186
                                obtain rfl : ad181 = ad186 := (by injection e186)
                                have HR186_4 := Aside0.mk hi186_4
                                have HC186_4 := Aside0.mk hl186_4
                                clear hi186_4 hl186_4
                                have HR186_5 := Aside0.mk hi186_5
                                have HC186_5 := Aside0.mk hl186_5
                                clear hi186_5 hl186_5
                                replace p186 := eq_true p186
                                replace q186 := eq_true q186
                                have p187 : 0 ≤ (x5_1 : Int) := of_decide_eq_true (by first | (with_reducible assumption) | assumption)
                                have q187 : x5_1 < (l0.length : Int) := of_decide_eq_true (by first | (with_reducible assumption) | assumption)
                                obtain ⟨ad187, A187_4, c187_4, A187_5, c187_5, e187, hx187_0, hx187_1, hx187_2, hx187_3, hx187_4, hx187_5, hl187_4, hi187_4, hl187_5, hi187_5⟩ := at_T82 HR0.out x5_1 p187 q187
                                obtain rfl : ad181 = ad187 := (by injection e187)
                                have HR187_4 := Aside0.mk hi187_4
                                have HC187_4 := Aside0.mk hl187_4
                                clear hi187_4 hl187_4
                                have HR187_5 := Aside0.mk hi187_5
                                have HC187_5 := Aside0.mk hl187_5
                                clear hi187_5 hl187_5
                                replace p187 := eq_true p187
                                replace q187 := eq_true q187
                                have ea_ := Option.some.inj (hx186_4.symm.trans hx187_4)
                                injection ea_ with ea_ en_ ec_
                                subst ea_
                                subst ec_
                                clear en_
                                have ea_ := Option.some.inj (hx186_5.symm.trans hx187_5)
                                injection ea_ with ea_ en_ ec_
                                subst ea_
                                subst ec_
                                clear en_
                                have p188 : 0 ≤ (x7_3 : Int) := of_decide_eq_true (by first | (with_reducible assumption) | assumption)
                                have q188 : x7_3 < (((rd_T82 l0 x5_1).f5).length : Int) := of_decide_eq_true (by first | (with_reducible assumption) | assumption)
                                obtain ⟨ad188, e188, hx188_0⟩ := Kd.at_int HR187_5.out x7_3 p188 q188
                                cases e188
                                replace p188 := eq_true p188
                                replace q188 := eq_true q188
                                go_wp2
                                go_roundg k3
                                case measure => have := HK1.out; have := HK2.out; have := HK3.out; omega
                                case rel => exact ⟨(wrap64 (x7_3 + 1)), (by first | rfl | (simp; done) | (simp [*]; done)), H', ⟨by have := HK1.out; have := HK2.out; have := HK3.out; omega⟩, by repeat (first | exact Drawn0.refl _ | apply Drawn0.step)⟩
                            · rw [if_neg c13] at H
                              exact absurd H (by simp)
                          · rw [if_neg c12] at H
                            have c12b0 : decide (x7_3 < (((rd_T82 l0 x5_1).f5).length : Int)) = false := decide_eq_false c12
                            clear c12
                            have H' := Aside0.mk H
                            clear H
                            have p186 : 0 ≤ (x5_1 : Int) := of_decide_eq_true (by first | (with_reducible assumption) | assumption)
                            have q186 : x5_1 < (l0.length : Int) := of_decide_eq_true (by first | (with_reducible assumption) | assumption)
                            obtain ⟨ad186, A186_4, c186_4, A186_5, c186_5, e186, hx186_0, hx186_1, hx186_2, hx186_3, hx186_4, hx186_5, hl186_4, hi186_4, hl186_5, hi186_5⟩ := at_T82 HR0.out x5_1 p186 q186
                            obtain rfl : ad181 = ad186 := (by injection e186)
                            have HR186_4 := Aside0.mk hi186_4
                            have HC186_4 := Aside0.mk hl186_4
                            clear hi186_4 hl186_4
                            have HR186_5 := Aside0.mk hi186_5
                            have HC186_5 := Aside0.mk hl186_5
                            clear hi186_5 hl186_5
                            replace p186 := eq_true p186
                            replace q186 := eq_true q186
                            go_wp2
                            go_roundg k3
                            case measure => have := HK1.out; have := HK2.out; have := HK3.out; omega
                            case rel => exact ⟨(wrap64 (x5_1 + 1)), (by first | rfl | (simp; done) | (simp [*]; done)), H', ⟨by have := HK1.out; have := HK2.out; have := HK3.out; omega⟩, by repeat (first | exact Drawn0.refl _ | apply Drawn0.step)⟩
                        · rw [if_neg c11] at H
                          exact absurd H (by simp)
                      · rw [if_neg c10] at H
                        exact absurd H (by simp)
              · rw [if_neg c5] at H
                exact absurd H (by simp)
            · rw [if_neg c4] at H
              exact absurd H (by simp)
      · rw [if_neg c3] at H
        have c3b0 : decide (x5_1 < (l0.length : Int)) = false := decide_eq_false c3
        clear c3
        obtain rfl := Option.some.inj H
        go_wp2
        go_ret
        exact ⟨by first | rfl | (simp; done) | (simp [*]; done), by repeat (first | exact Drawn0.refl _ | apply Drawn0.step)⟩

-- NOT PRINTED: function 49 (zone_Zones_Fits)
/-! ### dowelref05_Fits: function 50 -/
mutual
def dowelref05_Fits.j0 : Nat → List (S82) → Int → Int → Bool → Option (Bool)
  | 0, _, _, _, _ => none
  | k + 1, x0, x1, x2, x15 => if x15 = true then (some false) else (if x2 = 0 then (some true) else (if x1 = 2 then ((dowelref05_CanRun.f k x0 x2).bind fun t191 => (some t191)) else (dowelref05_Fits.l0 k x0 x2 0)))
def dowelref05_Fits.l0 : Nat → List (S82) → Int → Int → Option (Bool)
  | 0, _, _, _ => none
  | k + 1, x0, x2, x7 => if x7 < (x0.length : Int) then (if 0 ≤ x7 then (if x2 ≥ ((rd_T82 x0 x7).f0) then (if x2 < ((rd_T82 x0 x7).f2) then (some true) else (dowelref05_Fits.l0 k x0 x2 (wrap64 (x7 + 1)))) else (dowelref05_Fits.l0 k x0 x2 (wrap64 (x7 + 1)))) else (none)) else (some false)
end
def dowelref05_Fits.f (k : Nat) (l0 : List (S82)) (a1 : Int) (a2 : Int) : Option (Bool) := if a1 = 0 then (some true) else (if a1 < 0 then (dowelref05_Fits.j0 k l0 a1 a2 true) else (dowelref05_Fits.j0 k l0 a1 a2 (decide (a1 > 2))))
theorem dowelref05_Fits.mono_l : ∀ k, (∀ y0 y1 y2 y3, LeO (dowelref05_Fits.j0 k y0 y1 y2 y3) (dowelref05_Fits.j0 (k + 1) y0 y1 y2 y3)) ∧ (∀ y0 y1 y2, LeO (dowelref05_Fits.l0 k y0 y1 y2) (dowelref05_Fits.l0 (k + 1) y0 y1 y2))
  | 0 => ⟨fun _ _ _ _ r h => by simp [dowelref05_Fits.j0] at h, fun _ _ _ r h => by simp [dowelref05_Fits.l0] at h⟩
  | k + 1 => by
    obtain ⟨ih0, ih1⟩ := dowelref05_Fits.mono_l k
    refine ⟨?_, ?_⟩
    · intro y0 y1 y2 y3
      unfold dowelref05_Fits.j0
      repeat' first
      | (with_reducible exact ih0 _ _ _ _)
      | (with_reducible exact ih1 _ _ _)
      | (with_reducible exact dowelref05_CanRun.mono _ _ _)
      | (with_reducible exact LeO.refl _)
      | (with_reducible exact LeO.none _)
      | (with_reducible refine LeO.ite ?_ ?_)
      | (with_reducible refine LeO.bind ?_ (fun _ => ?_))
      | exact ih0 _ _ _ _
      | exact ih1 _ _ _
      | exact dowelref05_CanRun.mono _ _ _
      | exact LeO.none _
      | refine LeO.ite ?_ ?_
      | refine LeO.bind ?_ (fun _ => ?_)
    · intro y0 y1 y2
      unfold dowelref05_Fits.l0
      repeat' first
      | (with_reducible exact ih0 _ _ _ _)
      | (with_reducible exact ih1 _ _ _)
      | (with_reducible exact dowelref05_CanRun.mono _ _ _)
      | (with_reducible exact LeO.refl _)
      | (with_reducible exact LeO.none _)
      | (with_reducible refine LeO.ite ?_ ?_)
      | (with_reducible refine LeO.bind ?_ (fun _ => ?_))
      | exact ih0 _ _ _ _
      | exact ih1 _ _ _
      | exact dowelref05_CanRun.mono _ _ _
      | exact LeO.none _
      | refine LeO.ite ?_ ?_
      | refine LeO.bind ?_ (fun _ => ?_)
theorem dowelref05_Fits.mono : ∀ a0 a1 a2 k, LeO (dowelref05_Fits.f k a0 a1 a2) (dowelref05_Fits.f (k + 1) a0 a1 a2) := by
  intro a0 a1 a2 k
  obtain ⟨ih0, ih1⟩ := dowelref05_Fits.mono_l k
  unfold dowelref05_Fits.f
  repeat' first
      | (with_reducible exact ih0 _ _ _ _)
      | (with_reducible exact ih1 _ _ _)
      | (with_reducible exact dowelref05_CanRun.mono _ _ _)
      | (with_reducible exact LeO.refl _)
      | (with_reducible exact LeO.none _)
      | (with_reducible refine LeO.ite ?_ ?_)
      | (with_reducible refine LeO.bind ?_ (fun _ => ?_))
      | exact ih0 _ _ _ _
      | exact ih1 _ _ _
      | exact dowelref05_CanRun.mono _ _ _
      | exact LeO.none _
      | refine LeO.ite ?_ ?_
      | refine LeO.bind ?_ (fun _ => ?_)
set_option maxHeartbeats 8000000 in
set_option maxRecDepth 100000 in
theorem dowelref05_Fits.calls (k : Nat) (A0 : Option Addr) (c0 : Nat) (l0 : List (S82)) (a1 : Int) (a2 : Int) (r : Bool) (w : World) (hr0 : Kd.C k82 w A0 l0.length l0) (hc0 : l0.length ≤ c0) (h : dowelref05_Fits.f k l0 a1 a2 = some r) :
    Calls Try.prog 50 #[.slice A0 l0.length c0, .int .i64 a1, .int .i64 a2] w fun e w' => e = .returned (.bool r) ∧ Drawn0 w w' := by
  have HR0 := Aside0.mk hr0
  have HC0 := Aside0.mk hc0
  clear hr0 hc0
  have H : (if a1 = 0 then (some true) else (if a1 < 0 then (dowelref05_Fits.j0 k l0 a1 a2 true) else (dowelref05_Fits.j0 k l0 a1 a2 (decide (a1 > 2))))) = some r := h
  clear h
  by_cases c4 : a1 = 0
  · rw [if_pos c4] at H
    have c4b0 : (a1 == 0) = true := beq_iff_eq.mpr c4
    have c4b1 : (a1 != 0) = false := bne_eq_false_iff_eq.mpr c4
    clear c4
    obtain rfl := Option.some.inj H
    go_enter Try.func50, Try.ntmps50
    go_wp2
    go_ret
    exact ⟨by first | rfl | (simp; done) | (simp [*]; done), by repeat (first | exact Drawn0.refl _ | apply Drawn0.step)⟩
  · rw [if_neg c4] at H
    have c4b0 : (a1 == 0) = false := beq_eq_false_iff_ne.mpr c4
    have c4b1 : (a1 != 0) = true := bne_iff_ne.mpr c4
    have HC5 := Aside0.mk H
    clear H
    go_enter Try.func50, Try.ntmps50
    go_upto_region 3 with (fail)
    go_cut [15] (fun v15 wc => ∃ (kq : Nat) (x15_4 : Bool), v15 = .bool x15_4 ∧ Aside0 (dowelref05_Fits.j0 kq l0 a1 a2 x15_4 = some r) ∧ Aside0 (kq ≤ k) ∧ Drawn0 w wc)
    case first =>
      have H := HC5.out
      clear HC5
      by_cases c6 : a1 < 0
      · rw [if_pos c6] at H
        have c6b0 : decide (a1 < 0) = true := decide_eq_true c6
        clear c6
        (first | rw [c6b0] | (simp only [i64_w, i32_w]; rw [c6b0]) | skip)
        have H' := Aside0.mk H
        clear H
        go_wp2
        go_meet
        case rel => exact ⟨_, (true), (by first | rfl | (simp; done) | (simp [*]; done)), H', ⟨by first | omega | exact Nat.le_refl _⟩, by repeat (first | exact Drawn0.refl _ | apply Drawn0.step)⟩
      · rw [if_neg c6] at H
        have c6b0 : decide (a1 < 0) = false := decide_eq_false c6
        clear c6
        (first | rw [c6b0] | (simp only [i64_w, i32_w]; rw [c6b0]) | skip)
        have H' := Aside0.mk H
        clear H
        go_wp2
        go_meet
        case rel => exact ⟨_, (decide (a1 > 2)), (by first | rfl | (simp; done) | (simp [*]; done)), H', ⟨by first | omega | exact Nat.le_refl _⟩, by repeat (first | exact Drawn0.refl _ | apply Drawn0.step)⟩
    case rest =>
      clear HC5
      try clear p2
      try clear c4
      try clear c4b0
      try clear c4b1
      try clear c5
      try clear c6
      try clear c6b0
      obtain ⟨kq, x15_4, rfl, HA, HJ4, ⟨mc4, rfl⟩⟩ := hcut
      cases kq with
      | zero => exact absurd HA.out (by simp [dowelref05_Fits.j0])
      | succ kj4 =>
        have H := HA.out
        clear HA
        simp only [dowelref05_Fits.j0] at H
        by_cases c7 : x15_4 = true
        · subst c7
          have H1 : (some false) = some r := by rw [if_pos rfl] at H; exact H
          clear H
          have H := H1
          clear H1
          obtain rfl := Option.some.inj H
          go_wp2
          go_ret
          exact ⟨by first | rfl | (simp; done) | (simp [*]; done), by repeat (first | exact Drawn0.refl _ | apply Drawn0.step)⟩
        · replace c7 := Bool.eq_false_iff.mpr c7
          subst c7
          have H1 : (if a2 = 0 then (some true) else (if a1 = 2 then ((dowelref05_CanRun.f kj4 l0 a2).bind fun t191 => (some t191)) else (dowelref05_Fits.l0 kj4 l0 a2 0))) = some r := by rw [if_neg (show ¬ (false = true) by decide)] at H; exact H
          clear H
          have H := H1
          clear H1
          by_cases c8 : a2 = 0
          · rw [if_pos c8] at H
            have c8b0 : (a2 == 0) = true := beq_iff_eq.mpr c8
            have c8b1 : (a2 != 0) = false := bne_eq_false_iff_eq.mpr c8
            clear c8
            obtain rfl := Option.some.inj H
            go_wp2
            go_ret
            exact ⟨by first | rfl | (simp; done) | (simp [*]; done), by repeat (first | exact Drawn0.refl _ | apply Drawn0.step)⟩
          · rw [if_neg c8] at H
            have c8b0 : (a2 == 0) = false := beq_eq_false_iff_ne.mpr c8
            have c8b1 : (a2 != 0) = true := bne_iff_ne.mpr c8
            by_cases c9 : a1 = 2
            · rw [if_pos c9] at H
              have c9b0 : (a1 == 2) = true := beq_iff_eq.mpr c9
              have c9b1 : (a1 != 2) = false := bne_eq_false_iff_eq.mpr c9
              clear c9
              replace H := Option.bind_eq_some_iff.mp H
              obtain ⟨t191, A100, H⟩ := H
              replace H : (some t191) = some r := H
              have A10 := Aside0.mk A100
              clear A100
              obtain rfl := Option.some.inj H
              go_wp2_with (first | ((with_reducible refine gate_callee (f := 46) rfl ?_); refine goesL_ (some 22) rfl rfl Try.func46 (by kernel_rfl) rfl #[.slice A0 l0.length c0, .int .i64 a2] rfl (by (try simp only [List.map_toArray, List.map_cons, List.map_nil]); first | done | rfl | (simp only [List.length_drop, List.length_take]; rfl)) ?_; (with_reducible refine (dowelref05_CanRun.calls kj4 _ _ l0 a2 t191 _ ?side1 ?side2 A10.out).mono ?_); (case side1 => repeat (first | exact HR0.out | (with_reducible refine Kd.C_alloc ?_ _) | (with_reducible refine Kd.C_drewN ?_ _) | (with_reducible refine Kd.C_drew ?_))); (case side2 => exact HC0.out); rintro e w' ⟨rfl, ⟨nd, rfl⟩⟩; refine ⟨_, rfl, ?_⟩))
              go_ret
              exact ⟨by first | rfl | (simp; done) | (simp [*]; done), by repeat (first | exact Drawn0.refl _ | apply Drawn0.step)⟩
            · rw [if_neg c9] at H
              have c9b0 : (a1 == 2) = false := beq_eq_false_iff_ne.mpr c9
              have c9b1 : (a1 != 2) = true := bne_iff_ne.mpr c9
              have H' := Aside0.mk H
              clear H
              go_wp2
              go_loopg [7] kj4 (fun kq v7 w' => ∃ (x7_2 : Int), v7 = .int .i64 x7_2 ∧ Aside0 (dowelref05_Fits.l0 kq l0 a2 x7_2 = some r) ∧ Aside0 (kq ≤ kj4) ∧ Drawn0 w w')
              case atStart => exact ⟨(0), (by first | rfl | (simp; done) | (simp [*]; done)), H', ⟨Nat.le_refl _⟩, by repeat (first | exact Drawn0.refl _ | apply Drawn0.step)⟩
              case round =>
                clear H'
                try clear p2
                try clear c4
                try clear c4b0
                try clear c4b1
                try clear c5
                try clear c6
                try clear c6b0
                try clear c7
                try clear c8
                try clear c8b0
                try clear c8b1
                try clear c9
                try clear c9b0
                try clear c9b1
                try clear p2
                obtain ⟨x7_2, rfl, HA, HK2, ⟨m2, rfl⟩⟩ := hrel
                cases gk with
                | zero => exact absurd HA.out (by simp [dowelref05_Fits.l0])
                | succ k2 =>
                  have H := HA.out
                  clear HA
                  simp only [dowelref05_Fits.l0] at H
                  by_cases c11 : x7_2 < (l0.length : Int)
                  · rw [if_pos c11] at H
                    have c11b0 : decide (x7_2 < (l0.length : Int)) = true := decide_eq_true c11
                    clear c11
                    by_cases c12 : 0 ≤ x7_2
                    · rw [if_pos c12] at H
                      have c12b0 : decide (0 ≤ x7_2) = true := decide_eq_true c12
                      clear c12
                      by_cases c13 : a2 ≥ ((rd_T82 l0 x7_2).f0)
                      · rw [if_pos c13] at H
                        have c13b0 : decide (((rd_T82 l0 x7_2).f0) ≤ a2) = true := decide_eq_true c13
                        clear c13
                        by_cases c14 : a2 < ((rd_T82 l0 x7_2).f2)
                        · rw [if_pos c14] at H
                          have c14b0 : decide (a2 < ((rd_T82 l0 x7_2).f2)) = true := decide_eq_true c14
                          clear c14
                          obtain rfl := Option.some.inj H
                          have p192 : 0 ≤ (x7_2 : Int) := of_decide_eq_true (by first | (with_reducible assumption) | assumption)
                          have q192 : x7_2 < (l0.length : Int) := of_decide_eq_true (by first | (with_reducible assumption) | assumption)
                          obtain ⟨ad192, A192_4, c192_4, A192_5, c192_5, e192, hx192_0, hx192_1, hx192_2, hx192_3, hx192_4, hx192_5, hl192_4, hi192_4, hl192_5, hi192_5⟩ := at_T82 HR0.out x7_2 p192 q192
                          cases e192
                          have HR192_4 := Aside0.mk hi192_4
                          have HC192_4 := Aside0.mk hl192_4
                          clear hi192_4 hl192_4
                          have HR192_5 := Aside0.mk hi192_5
                          have HC192_5 := Aside0.mk hl192_5
                          clear hi192_5 hl192_5
                          replace p192 := eq_true p192
                          replace q192 := eq_true q192
                          have p193 : 0 ≤ (x7_2 : Int) := of_decide_eq_true (by first | (with_reducible assumption) | assumption)
                          have q193 : x7_2 < (l0.length : Int) := of_decide_eq_true (by first | (with_reducible assumption) | assumption)
                          obtain ⟨ad193, A193_4, c193_4, A193_5, c193_5, e193, hx193_0, hx193_1, hx193_2, hx193_3, hx193_4, hx193_5, hl193_4, hi193_4, hl193_5, hi193_5⟩ := at_T82 HR0.out x7_2 p193 q193
                          obtain rfl : ad192 = ad193 := (by injection e193)
                          have HR193_4 := Aside0.mk hi193_4
                          have HC193_4 := Aside0.mk hl193_4
                          clear hi193_4 hl193_4
                          have HR193_5 := Aside0.mk hi193_5
                          have HC193_5 := Aside0.mk hl193_5
                          clear hi193_5 hl193_5
                          replace p193 := eq_true p193
                          replace q193 := eq_true q193
                          have ea_ := Option.some.inj (hx192_4.symm.trans hx193_4)
                          injection ea_ with ea_ en_ ec_
                          subst ea_
                          subst ec_
                          clear en_
                          have ea_ := Option.some.inj (hx192_5.symm.trans hx193_5)
                          injection ea_ with ea_ en_ ec_
                          subst ea_
                          subst ec_
                          clear en_
                          go_wp2
                          go_ret
                          exact ⟨by first | rfl | (simp; done) | (simp [*]; done), by repeat (first | exact Drawn0.refl _ | apply Drawn0.step)⟩
                        · rw [if_neg c14] at H
                          have c14b0 : decide (a2 < ((rd_T82 l0 x7_2).f2)) = false := decide_eq_false c14
                          clear c14
                          have H' := Aside0.mk H
                          clear H
                          have p192 : 0 ≤ (x7_2 : Int) := of_decide_eq_true (by first | (with_reducible assumption) | assumption)
                          have q192 : x7_2 < (l0.length : Int) := of_decide_eq_true (by first | (with_reducible assumption) | assumption)
                          obtain ⟨ad192, A192_4, c192_4, A192_5, c192_5, e192, hx192_0, hx192_1, hx192_2, hx192_3, hx192_4, hx192_5, hl192_4, hi192_4, hl192_5, hi192_5⟩ := at_T82 HR0.out x7_2 p192 q192
                          cases e192
                          have HR192_4 := Aside0.mk hi192_4
                          have HC192_4 := Aside0.mk hl192_4
                          clear hi192_4 hl192_4
                          have HR192_5 := Aside0.mk hi192_5
                          have HC192_5 := Aside0.mk hl192_5
                          clear hi192_5 hl192_5
                          replace p192 := eq_true p192
                          replace q192 := eq_true q192
                          have p193 : 0 ≤ (x7_2 : Int) := of_decide_eq_true (by first | (with_reducible assumption) | assumption)
                          have q193 : x7_2 < (l0.length : Int) := of_decide_eq_true (by first | (with_reducible assumption) | assumption)
                          obtain ⟨ad193, A193_4, c193_4, A193_5, c193_5, e193, hx193_0, hx193_1, hx193_2, hx193_3, hx193_4, hx193_5, hl193_4, hi193_4, hl193_5, hi193_5⟩ := at_T82 HR0.out x7_2 p193 q193
                          obtain rfl : ad192 = ad193 := (by injection e193)
                          have HR193_4 := Aside0.mk hi193_4
                          have HC193_4 := Aside0.mk hl193_4
                          clear hi193_4 hl193_4
                          have HR193_5 := Aside0.mk hi193_5
                          have HC193_5 := Aside0.mk hl193_5
                          clear hi193_5 hl193_5
                          replace p193 := eq_true p193
                          replace q193 := eq_true q193
                          have ea_ := Option.some.inj (hx192_4.symm.trans hx193_4)
                          injection ea_ with ea_ en_ ec_
                          subst ea_
                          subst ec_
                          clear en_
                          have ea_ := Option.some.inj (hx192_5.symm.trans hx193_5)
                          injection ea_ with ea_ en_ ec_
                          subst ea_
                          subst ec_
                          clear en_
                          go_wp2
                          go_roundg k2
                          case measure => have := HJ4.out; have := HK2.out; omega
                          case rel => exact ⟨(wrap64 (x7_2 + 1)), (by first | rfl | (simp; done) | (simp [*]; done)), H', ⟨by have := HJ4.out; have := HK2.out; omega⟩, by repeat (first | exact Drawn0.refl _ | apply Drawn0.step)⟩
                      · rw [if_neg c13] at H
                        have c13b0 : decide (((rd_T82 l0 x7_2).f0) ≤ a2) = false := decide_eq_false c13
                        clear c13
                        have H' := Aside0.mk H
                        clear H
                        have p192 : 0 ≤ (x7_2 : Int) := of_decide_eq_true (by first | (with_reducible assumption) | assumption)
                        have q192 : x7_2 < (l0.length : Int) := of_decide_eq_true (by first | (with_reducible assumption) | assumption)
                        obtain ⟨ad192, A192_4, c192_4, A192_5, c192_5, e192, hx192_0, hx192_1, hx192_2, hx192_3, hx192_4, hx192_5, hl192_4, hi192_4, hl192_5, hi192_5⟩ := at_T82 HR0.out x7_2 p192 q192
                        cases e192
                        have HR192_4 := Aside0.mk hi192_4
                        have HC192_4 := Aside0.mk hl192_4
                        clear hi192_4 hl192_4
                        have HR192_5 := Aside0.mk hi192_5
                        have HC192_5 := Aside0.mk hl192_5
                        clear hi192_5 hl192_5
                        replace p192 := eq_true p192
                        replace q192 := eq_true q192
                        go_wp2
                        go_roundg k2
                        case measure => have := HJ4.out; have := HK2.out; omega
                        case rel => exact ⟨(wrap64 (x7_2 + 1)), (by first | rfl | (simp; done) | (simp [*]; done)), H', ⟨by have := HJ4.out; have := HK2.out; omega⟩, by repeat (first | exact Drawn0.refl _ | apply Drawn0.step)⟩
                    · rw [if_neg c12] at H
                      exact absurd H (by simp)
                  · rw [if_neg c11] at H
                    have c11b0 : decide (x7_2 < (l0.length : Int)) = false := decide_eq_false c11
                    clear c11
                    obtain rfl := Option.some.inj H
                    go_wp2
                    go_ret
                    exact ⟨by first | rfl | (simp; done) | (simp [*]; done), by repeat (first | exact Drawn0.refl _ | apply Drawn0.step)⟩
/-! ### dowelref05_Ints: function 52 -/
def dowelref05_Ints.l0 : Nat → List Int → List Int → Int → Option (Bool)
  | 0, _, _, _ => none
  | k + 1, x0, x1, x5 => if x5 < (x0.length : Int) then (if 0 ≤ x5 then (if x5 < (x1.length : Int) then (if (rd x0 x5) = (rd x1 x5) then (dowelref05_Ints.l0 k x0 x1 (wrap64 (x5 + 1))) else (some false)) else (none)) else (none)) else (some true)
def dowelref05_Ints.f (k : Nat) (l0 : List Int) (l1 : List Int) : Option (Bool) := if (l0.length : Int) = (l1.length : Int) then (dowelref05_Ints.l0 k l0 l1 0) else (some false)
theorem dowelref05_Ints.mono_l : ∀ k, (∀ y0 y1 y2, LeO (dowelref05_Ints.l0 k y0 y1 y2) (dowelref05_Ints.l0 (k + 1) y0 y1 y2))
  | 0 => fun _ _ _ r h => by simp [dowelref05_Ints.l0] at h
  | k + 1 => by
    have ih0 := dowelref05_Ints.mono_l k
    · intro y0 y1 y2
      unfold dowelref05_Ints.l0
      repeat' first
      | (with_reducible exact ih0 _ _ _)
      | (with_reducible exact LeO.refl _)
      | (with_reducible exact LeO.none _)
      | (with_reducible refine LeO.ite ?_ ?_)
      | (with_reducible refine LeO.bind ?_ (fun _ => ?_))
      | exact ih0 _ _ _
      | exact LeO.none _
      | refine LeO.ite ?_ ?_
      | refine LeO.bind ?_ (fun _ => ?_)
theorem dowelref05_Ints.mono : ∀ a0 a1 k, LeO (dowelref05_Ints.f k a0 a1) (dowelref05_Ints.f (k + 1) a0 a1) := by
  intro a0 a1 k
  have ih0 := dowelref05_Ints.mono_l k
  unfold dowelref05_Ints.f
  repeat' first
      | (with_reducible exact ih0 _ _ _)
      | (with_reducible exact LeO.refl _)
      | (with_reducible exact LeO.none _)
      | (with_reducible refine LeO.ite ?_ ?_)
      | (with_reducible refine LeO.bind ?_ (fun _ => ?_))
      | exact ih0 _ _ _
      | exact LeO.none _
      | refine LeO.ite ?_ ?_
      | refine LeO.bind ?_ (fun _ => ?_)
set_option maxHeartbeats 8000000 in
set_option maxRecDepth 100000 in
theorem dowelref05_Ints.calls (k : Nat) (A0 : Option Addr) (c0 : Nat) (l0 : List Int) (A1 : Option Addr) (c1 : Nat) (l1 : List Int) (r : Bool) (w : World) (hr0 : Kd.C (Kd.int .i64) w A0 l0.length l0) (hc0 : l0.length ≤ c0) (hr1 : Kd.C (Kd.int .i64) w A1 l1.length l1) (hc1 : l1.length ≤ c1) (h : dowelref05_Ints.f k l0 l1 = some r) :
    Calls Try.prog 52 #[.slice A0 l0.length c0, .slice A1 l1.length c1] w fun e w' => e = .returned (.bool r) ∧ Drawn0 w w' := by
  have HR0 := Aside0.mk hr0
  have HC0 := Aside0.mk hc0
  clear hr0 hc0
  have HR1 := Aside0.mk hr1
  have HC1 := Aside0.mk hc1
  clear hr1 hc1
  have H : (if (l0.length : Int) = (l1.length : Int) then (dowelref05_Ints.l0 k l0 l1 0) else (some false)) = some r := h
  clear h
  by_cases c3 : (l0.length : Int) = (l1.length : Int)
  · rw [if_pos c3] at H
    have c3b0 : ((l0.length : Int) == (l1.length : Int)) = true := beq_iff_eq.mpr c3
    have c3b1 : ((l0.length : Int) != (l1.length : Int)) = false := bne_eq_false_iff_eq.mpr c3
    have c3b2 : (l0.length == l1.length) = true := by first | simpa using c3 | (simp at c3 ⊢; omega)
    clear c3
    have H' := Aside0.mk H
    clear H
    go_enter Try.func52, Try.ntmps52
    go_wp2
    repeat (go_quiet (fail); try go_wp2)
    go_loopg [5] k (fun kq v5 w' => ∃ (x5_1 : Int), v5 = .int .i64 x5_1 ∧ Aside0 (dowelref05_Ints.l0 kq l0 l1 x5_1 = some r) ∧ Aside0 (kq ≤ k) ∧ Drawn0 w w')
    case atStart => exact ⟨(0), (by first | rfl | (simp; done) | (simp [*]; done)), H', ⟨Nat.le_refl _⟩, by repeat (first | exact Drawn0.refl _ | apply Drawn0.step)⟩
    case round =>
      clear H'
      try clear c1
      try clear p2
      try clear c3
      try clear c3b0
      try clear c3b1
      try clear c3b2
      obtain ⟨x5_1, rfl, HA, HK1, ⟨m1, rfl⟩⟩ := hrel
      cases gk with
      | zero => exact absurd HA.out (by simp [dowelref05_Ints.l0])
      | succ k1 =>
        have H := HA.out
        clear HA
        simp only [dowelref05_Ints.l0] at H
        by_cases c4 : x5_1 < (l0.length : Int)
        · rw [if_pos c4] at H
          have c4b0 : decide (x5_1 < (l0.length : Int)) = true := decide_eq_true c4
          clear c4
          by_cases c5 : 0 ≤ x5_1
          · rw [if_pos c5] at H
            have c5b0 : decide (0 ≤ x5_1) = true := decide_eq_true c5
            clear c5
            by_cases c6 : x5_1 < (l1.length : Int)
            · rw [if_pos c6] at H
              have c6b0 : decide (x5_1 < (l1.length : Int)) = true := decide_eq_true c6
              clear c6
              by_cases c7 : (rd l0 x5_1) = (rd l1 x5_1)
              · rw [if_pos c7] at H
                have c7b0 : ((rd l0 x5_1) == (rd l1 x5_1)) = true := beq_iff_eq.mpr c7
                have c7b1 : ((rd l0 x5_1) != (rd l1 x5_1)) = false := bne_eq_false_iff_eq.mpr c7
                clear c7
                have H' := Aside0.mk H
                clear H
                have p194 : 0 ≤ (x5_1 : Int) := of_decide_eq_true (by first | (with_reducible assumption) | assumption)
                have q194 : x5_1 < (l0.length : Int) := of_decide_eq_true (by first | (with_reducible assumption) | assumption)
                obtain ⟨ad194, e194, hx194_0⟩ := Kd.at_int HR0.out x5_1 p194 q194
                cases e194
                replace p194 := eq_true p194
                replace q194 := eq_true q194
                have p195 : 0 ≤ (x5_1 : Int) := of_decide_eq_true (by first | (with_reducible assumption) | assumption)
                have q195 : x5_1 < (l1.length : Int) := of_decide_eq_true (by first | (with_reducible assumption) | assumption)
                obtain ⟨ad195, e195, hx195_0⟩ := Kd.at_int HR1.out x5_1 p195 q195
                cases e195
                replace p195 := eq_true p195
                replace q195 := eq_true q195
                go_wp2
                repeat (go_quiet (fail); try go_wp2)
                go_roundg k1
                case measure => have := HK1.out; omega
                case rel => exact ⟨(wrap64 (x5_1 + 1)), (by first | rfl | (simp; done) | (simp [*]; done)), H', ⟨by have := HK1.out; omega⟩, by repeat (first | exact Drawn0.refl _ | apply Drawn0.step)⟩
              · rw [if_neg c7] at H
                have c7b0 : ((rd l0 x5_1) == (rd l1 x5_1)) = false := beq_eq_false_iff_ne.mpr c7
                have c7b1 : ((rd l0 x5_1) != (rd l1 x5_1)) = true := bne_iff_ne.mpr c7
                obtain rfl := Option.some.inj H
                have p194 : 0 ≤ (x5_1 : Int) := of_decide_eq_true (by first | (with_reducible assumption) | assumption)
                have q194 : x5_1 < (l0.length : Int) := of_decide_eq_true (by first | (with_reducible assumption) | assumption)
                obtain ⟨ad194, e194, hx194_0⟩ := Kd.at_int HR0.out x5_1 p194 q194
                cases e194
                replace p194 := eq_true p194
                replace q194 := eq_true q194
                have p195 : 0 ≤ (x5_1 : Int) := of_decide_eq_true (by first | (with_reducible assumption) | assumption)
                have q195 : x5_1 < (l1.length : Int) := of_decide_eq_true (by first | (with_reducible assumption) | assumption)
                obtain ⟨ad195, e195, hx195_0⟩ := Kd.at_int HR1.out x5_1 p195 q195
                cases e195
                replace p195 := eq_true p195
                replace q195 := eq_true q195
                go_wp2
                repeat (go_quiet (fail); try go_wp2)
                go_ret
                exact ⟨by first | rfl | (simp; done) | (simp [*]; done), by repeat (first | exact Drawn0.refl _ | apply Drawn0.step)⟩
            · rw [if_neg c6] at H
              exact absurd H (by simp)
          · rw [if_neg c5] at H
            exact absurd H (by simp)
        · rw [if_neg c4] at H
          have c4b0 : decide (x5_1 < (l0.length : Int)) = false := decide_eq_false c4
          clear c4
          obtain rfl := Option.some.inj H
          go_wp2
          repeat (go_quiet (fail); try go_wp2)
          go_ret
          exact ⟨by first | rfl | (simp; done) | (simp [*]; done), by repeat (first | exact Drawn0.refl _ | apply Drawn0.step)⟩
  · rw [if_neg c3] at H
    have c3b0 : ((l0.length : Int) == (l1.length : Int)) = false := beq_eq_false_iff_ne.mpr c3
    have c3b1 : ((l0.length : Int) != (l1.length : Int)) = true := bne_iff_ne.mpr c3
    have c3b2 : (l0.length == l1.length) = false := by first | simpa using c3 | (simp at c3 ⊢; omega)
    obtain rfl := Option.some.inj H
    go_enter Try.func52, Try.ntmps52
    go_wp2
    repeat (go_quiet (fail); try go_wp2)
    go_ret
    exact ⟨by first | rfl | (simp; done) | (simp [*]; done), by repeat (first | exact Drawn0.refl _ | apply Drawn0.step)⟩

-- NOT PRINTED: function 7 (dowellaw06_ZonePlays)
end Go.Proofs.Ytkeijpngfnmjoaa.QZonePlays
