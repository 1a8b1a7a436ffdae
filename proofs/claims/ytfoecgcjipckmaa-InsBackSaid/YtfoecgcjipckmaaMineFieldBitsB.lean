/- FieldBits, the machine's side, second part. No condition but that the Lean functions tell. -/
import Derived.Test.YtfoecgcjipckmaaPFieldBitsx0
import Derived.Test.YtfoecgcjipckmaaMineFieldBitsA
namespace Go.Proofs.Ytfoecgcjipckmaa.PFieldBits
open Go.RowKit Go.Proofs.YtfoecgcjipckmaaW.PrintWords Go.Proofs.YtfoecgcjipckmaaW.PrintLast Go.Proofs.YtfoecgcjipckmaaW.PrintMore
attribute [local go_sem] max2_int min2_int max_two min_two max_three min_three max_four min_four   -- for this text's walks alone
set_option linter.unusedVariables false
set_option linter.unusedSimpArgs false

/-! ### dowelref01_Sign: function 24 -/
def dowelref01_Sign.j0 : Nat → Int → Int → Bool → Option (Int)
  | 0, _, _, _ => none
  | k + 1, x0, x1, x11 => if x11 = true then (some 0) else ((dowelref01_Two.f k x1).bind fun t126 => (if t126 = 0 then (none) else ((dowelref01_Two.f k (wrap64 (x1 - 1))).bind fun t127 => (if (Int.tmod (wrap64 (x0)) t126) ≥ t127 then ((dowelref01_Two.f k x1).bind fun t128 => (some (wrap32 (wrap64 ((Int.tmod (wrap64 (x0)) t126) - t128))))) else (some (wrap32 (Int.tmod (wrap64 (x0)) t126)))))))
def dowelref01_Sign.f (k : Nat) (a0 : Int) (a1 : Int) : Option (Int) := if a1 < 1 then (dowelref01_Sign.j0 k a0 a1 true) else (dowelref01_Sign.j0 k a0 a1 (decide (a1 > 32)))
theorem dowelref01_Sign.mono_l : ∀ k, (∀ y0 y1 y2, LeO (dowelref01_Sign.j0 k y0 y1 y2) (dowelref01_Sign.j0 (k + 1) y0 y1 y2))
  | 0 => fun _ _ _ r h => by simp [dowelref01_Sign.j0] at h
  | k + 1 => by
    have ih0 := dowelref01_Sign.mono_l k
    · intro y0 y1 y2
      unfold dowelref01_Sign.j0
      repeat' first
      | (with_reducible exact ih0 _ _ _)
      | (with_reducible exact dowelref01_Two.mono _ _)
      | (with_reducible exact LeO.refl _)
      | (with_reducible exact LeO.none _)
      | (with_reducible refine LeO.ite ?_ ?_)
      | (with_reducible refine LeO.bind ?_ (fun _ => ?_))
      | exact ih0 _ _ _
      | exact dowelref01_Two.mono _ _
      | exact LeO.none _
      | refine LeO.ite ?_ ?_
      | refine LeO.bind ?_ (fun _ => ?_)
theorem dowelref01_Sign.mono : ∀ a0 a1 k, LeO (dowelref01_Sign.f k a0 a1) (dowelref01_Sign.f (k + 1) a0 a1) := by
  intro a0 a1 k
  have ih0 := dowelref01_Sign.mono_l k
  unfold dowelref01_Sign.f
  repeat' first
      | (with_reducible exact ih0 _ _ _)
      | (with_reducible exact dowelref01_Two.mono _ _)
      | (with_reducible exact LeO.refl _)
      | (with_reducible exact LeO.none _)
      | (with_reducible refine LeO.ite ?_ ?_)
      | (with_reducible refine LeO.bind ?_ (fun _ => ?_))
      | exact ih0 _ _ _
      | exact dowelref01_Two.mono _ _
      | exact LeO.none _
      | refine LeO.ite ?_ ?_
      | refine LeO.bind ?_ (fun _ => ?_)
set_option maxHeartbeats 8000000 in
set_option maxRecDepth 100000 in
theorem dowelref01_Sign.calls (k : Nat) (a0 : Int) (a1 : Int) (r : Int) (w : World) (h : dowelref01_Sign.f k a0 a1 = some r) :
    Calls Try.prog 24 #[.int .u32 a0, .int .i64 a1] w fun e w' => e = .returned (.int .i32 r) ∧ Drawn0 w w' := by
  have H : (if a1 < 1 then (dowelref01_Sign.j0 k a0 a1 true) else (dowelref01_Sign.j0 k a0 a1 (decide (a1 > 32)))) = some r := h
  clear h
  have HC3 := Aside0.mk H
  clear H
  go_enter Try.func24, Try.ntmps24
  go_upto_region 1 with (fail)
  go_cut [11] (fun v11 wc => ∃ (kq : Nat) (x11_2 : Bool), v11 = .bool x11_2 ∧ Aside0 (dowelref01_Sign.j0 kq a0 a1 x11_2 = some r) ∧ Aside0 (kq ≤ k) ∧ Drawn0 w wc)
  case first =>
    have H := HC3.out
    clear HC3
    by_cases c4 : a1 < 1
    · rw [if_pos c4] at H
      have c4b0 : decide (a1 < 1) = true := decide_eq_true c4
      clear c4
      (first | rw [c4b0] | (simp only [i64_w, i32_w]; rw [c4b0]) | skip)
      have H' := Aside0.mk H
      clear H
      go_wp2
      go_meet
      case rel => exact ⟨_, (true), (by first | rfl | (simp; done) | (simp [*]; done)), H', ⟨by first | omega | exact Nat.le_refl _⟩, by repeat (first | exact Drawn0.refl _ | apply Drawn0.step)⟩
    · rw [if_neg c4] at H
      have c4b0 : decide (a1 < 1) = false := decide_eq_false c4
      clear c4
      (first | rw [c4b0] | (simp only [i64_w, i32_w]; rw [c4b0]) | skip)
      have H' := Aside0.mk H
      clear H
      go_wp2
      go_meet
      case rel => exact ⟨_, (decide (a1 > 32)), (by first | rfl | (simp; done) | (simp [*]; done)), H', ⟨by first | omega | exact Nat.le_refl _⟩, by repeat (first | exact Drawn0.refl _ | apply Drawn0.step)⟩
  case rest =>
    clear HC3
    try clear c2
    try clear p2
    try clear c4
    try clear c4b0
    obtain ⟨kq, x11_2, rfl, HA, HJ2, ⟨mc2, rfl⟩⟩ := hcut
    cases kq with
    | zero => exact absurd HA.out (by simp [dowelref01_Sign.j0])
    | succ kj2 =>
      have H := HA.out
      clear HA
      simp only [dowelref01_Sign.j0] at H
      by_cases c5 : x11_2 = true
      · subst c5
        have H1 : (some 0) = some r := by rw [if_pos rfl] at H; exact H
        clear H
        have H := H1
        clear H1
        obtain rfl := Option.some.inj H
        go_wp2
        go_ret
        exact ⟨by first | rfl | (simp; done) | (simp [*]; done), by repeat (first | exact Drawn0.refl _ | apply Drawn0.step)⟩
      · replace c5 := Bool.eq_false_iff.mpr c5
        subst c5
        have H1 : ((dowelref01_Two.f kj2 a1).bind fun t126 => (if t126 = 0 then (none) else ((dowelref01_Two.f kj2 (wrap64 (a1 - 1))).bind fun t127 => (if (Int.tmod (wrap64 (a0)) t126) ≥ t127 then ((dowelref01_Two.f kj2 a1).bind fun t128 => (some (wrap32 (wrap64 ((Int.tmod (wrap64 (a0)) t126) - t128))))) else (some (wrap32 (Int.tmod (wrap64 (a0)) t126))))))) = some r := by rw [if_neg (show ¬ (false = true) by decide)] at H; exact H
        clear H
        have H := H1
        clear H1
        replace H := Option.bind_eq_some_iff.mp H
        obtain ⟨t126, A60, H⟩ := H
        replace H : (if t126 = 0 then (none) else ((dowelref01_Two.f kj2 (wrap64 (a1 - 1))).bind fun t127 => (if (Int.tmod (wrap64 (a0)) t126) ≥ t127 then ((dowelref01_Two.f kj2 a1).bind fun t128 => (some (wrap32 (wrap64 ((Int.tmod (wrap64 (a0)) t126) - t128))))) else (some (wrap32 (Int.tmod (wrap64 (a0)) t126)))))) = some r := H
        have A6 := Aside0.mk A60
        clear A60
        by_cases c7 : t126 = 0
        · rw [if_pos c7] at H
          exact absurd H (by simp)
        · rw [if_neg c7] at H
          have c7b0 : (t126 == 0) = false := beq_eq_false_iff_ne.mpr c7
          have c7b1 : (t126 != 0) = true := bne_iff_ne.mpr c7
          replace H := Option.bind_eq_some_iff.mp H
          obtain ⟨t127, A80, H⟩ := H
          replace H : (if (Int.tmod (wrap64 (a0)) t126) ≥ t127 then ((dowelref01_Two.f kj2 a1).bind fun t128 => (some (wrap32 (wrap64 ((Int.tmod (wrap64 (a0)) t126) - t128))))) else (some (wrap32 (Int.tmod (wrap64 (a0)) t126)))) = some r := H
          have A8 := Aside0.mk A80
          clear A80
          by_cases c9 : (Int.tmod (wrap64 (a0)) t126) ≥ t127
          · rw [if_pos c9] at H
            have c9b0 : decide (t127 ≤ (Int.tmod (wrap64 (a0)) t126)) = true := decide_eq_true c9
            clear c9
            replace H := Option.bind_eq_some_iff.mp H
            obtain ⟨t128, A100, H⟩ := H
            replace H : (some (wrap32 (wrap64 ((Int.tmod (wrap64 (a0)) t126) - t128)))) = some r := H
            have A10 := Aside0.mk A100
            clear A100
            obtain rfl := Option.some.inj H
            go_wp2_with (first | ((with_reducible refine gate_callee (f := 60) rfl ?_); refine goesL_ (some 15) rfl rfl Try.func60 (by kernel_rfl) rfl #[.int .i64 a1] rfl (by (try simp only [List.map_toArray, List.map_cons, List.map_nil]); first | done | rfl | (simp only [List.length_drop, List.length_take]; rfl)) ?_; (with_reducible refine (dowelref01_Two.calls kj2 a1 t126 _ A6.out).mono ?_); rintro e w' ⟨rfl, ⟨nd, rfl⟩⟩; refine ⟨_, rfl, ?_⟩) | ((with_reducible refine gate_callee (f := 60) rfl ?_); refine goesL_ (some 20) rfl rfl Try.func60 (by kernel_rfl) rfl #[.int .i64 (wrap64 (a1 - 1))] rfl (by (try simp only [List.map_toArray, List.map_cons, List.map_nil]); first | done | rfl | (simp only [List.length_drop, List.length_take]; rfl)) ?_; (with_reducible refine (dowelref01_Two.calls kj2 (wrap64 (a1 - 1)) t127 _ A8.out).mono ?_); rintro e w' ⟨rfl, ⟨nd, rfl⟩⟩; refine ⟨_, rfl, ?_⟩) | ((with_reducible refine gate_callee (f := 60) rfl ?_); refine goesL_ (some 24) rfl rfl Try.func60 (by kernel_rfl) rfl #[.int .i64 a1] rfl (by (try simp only [List.map_toArray, List.map_cons, List.map_nil]); first | done | rfl | (simp only [List.length_drop, List.length_take]; rfl)) ?_; (with_reducible refine (dowelref01_Two.calls kj2 a1 t128 _ A10.out).mono ?_); rintro e w' ⟨rfl, ⟨nd, rfl⟩⟩; refine ⟨_, rfl, ?_⟩))
            go_ret
            exact ⟨by first | rfl | (simp; done) | (simp [*]; done), by repeat (first | exact Drawn0.refl _ | apply Drawn0.step)⟩
          · rw [if_neg c9] at H
            have c9b0 : decide (t127 ≤ (Int.tmod (wrap64 (a0)) t126)) = false := decide_eq_false c9
            clear c9
            obtain rfl := Option.some.inj H
            go_wp2_with (first | ((with_reducible refine gate_callee (f := 60) rfl ?_); refine goesL_ (some 15) rfl rfl Try.func60 (by kernel_rfl) rfl #[.int .i64 a1] rfl (by (try simp only [List.map_toArray, List.map_cons, List.map_nil]); first | done | rfl | (simp only [List.length_drop, List.length_take]; rfl)) ?_; (with_reducible refine (dowelref01_Two.calls kj2 a1 t126 _ A6.out).mono ?_); rintro e w' ⟨rfl, ⟨nd, rfl⟩⟩; refine ⟨_, rfl, ?_⟩) | ((with_reducible refine gate_callee (f := 60) rfl ?_); refine goesL_ (some 20) rfl rfl Try.func60 (by kernel_rfl) rfl #[.int .i64 (wrap64 (a1 - 1))] rfl (by (try simp only [List.map_toArray, List.map_cons, List.map_nil]); first | done | rfl | (simp only [List.length_drop, List.length_take]; rfl)) ?_; (with_reducible refine (dowelref01_Two.calls kj2 (wrap64 (a1 - 1)) t127 _ A8.out).mono ?_); rintro e w' ⟨rfl, ⟨nd, rfl⟩⟩; refine ⟨_, rfl, ?_⟩))
            go_ret
            exact ⟨by first | rfl | (simp; done) | (simp [*]; done), by repeat (first | exact Drawn0.refl _ | apply Drawn0.step)⟩

/-! ### dowellaw01_FieldBits: function 5 -/
def dowellaw01_FieldBits.f (k : Nat) (a0 : Int) (a1 : Int) (a2 : Int) (a3 : Int) : Option (Bool) := (dowellaw01_up.f k).bind fun t129 => (if t129 = true then ((field_Get.f a0 a1 a2).bind fun t130 => ((dowelref01_Get.f k a0 a1 a2).bind fun t131 => (if t130 = t131 then ((field_Put.f a0 a1 a2 a3).bind fun t132 => ((dowelref01_Put.f k a0 a1 a2 a3).bind fun t133 => (if t132 = t133 then ((field_Sign.f a3 a2).bind fun t134 => ((dowelref01_Sign.f k a3 a2).bind fun t135 => (some (t134 == t135)))) else (some false)))) else (some false)))) else (some false))
theorem dowellaw01_FieldBits.mono : ∀ a0 a1 a2 a3 k, LeO (dowellaw01_FieldBits.f k a0 a1 a2 a3) (dowellaw01_FieldBits.f (k + 1) a0 a1 a2 a3) := by
  intro a0 a1 a2 a3 k
  unfold dowellaw01_FieldBits.f
  repeat' first
      | (with_reducible exact dowellaw01_up.mono _)
      | (with_reducible exact dowelref01_Get.mono _ _ _ _)
      | (with_reducible exact dowelref01_Put.mono _ _ _ _ _)
      | (with_reducible exact dowelref01_Sign.mono _ _ _)
      | (with_reducible exact LeO.refl _)
      | (with_reducible exact LeO.none _)
      | (with_reducible refine LeO.ite ?_ ?_)
      | (with_reducible refine LeO.bind ?_ (fun _ => ?_))
      | exact dowellaw01_up.mono _
      | exact dowelref01_Get.mono _ _ _ _
      | exact dowelref01_Put.mono _ _ _ _ _
      | exact dowelref01_Sign.mono _ _ _
      | exact LeO.none _
      | refine LeO.ite ?_ ?_
      | refine LeO.bind ?_ (fun _ => ?_)
set_option maxHeartbeats 8000000 in
set_option maxRecDepth 100000 in
theorem dowellaw01_FieldBits.calls (k : Nat) (a0 : Int) (a1 : Int) (a2 : Int) (a3 : Int) (r : Bool) (w : World) (h : dowellaw01_FieldBits.f k a0 a1 a2 a3 = some r) :
    Calls Try.prog 5 #[.int .u32 a0, .int .i64 a1, .int .i64 a2, .int .u32 a3] w fun e w' => e = .returned (.bool r) ∧ Below w.heap.size w w' := by
  have HB := Aside0.mk (Below.refl w.heap.size w)
  have H : ((dowellaw01_up.f k).bind fun t129 => (if t129 = true then ((field_Get.f a0 a1 a2).bind fun t130 => ((dowelref01_Get.f k a0 a1 a2).bind fun t131 => (if t130 = t131 then ((field_Put.f a0 a1 a2 a3).bind fun t132 => ((dowelref01_Put.f k a0 a1 a2 a3).bind fun t133 => (if t132 = t133 then ((field_Sign.f a3 a2).bind fun t134 => ((dowelref01_Sign.f k a3 a2).bind fun t135 => (some (t134 == t135)))) else (some false)))) else (some false)))) else (some false))) = some r := h
  clear h
  replace H := Option.bind_eq_some_iff.mp H
  obtain ⟨t129, A50, H⟩ := H
  replace H : (if t129 = true then ((field_Get.f a0 a1 a2).bind fun t130 => ((dowelref01_Get.f k a0 a1 a2).bind fun t131 => (if t130 = t131 then ((field_Put.f a0 a1 a2 a3).bind fun t132 => ((dowelref01_Put.f k a0 a1 a2 a3).bind fun t133 => (if t132 = t133 then ((field_Sign.f a3 a2).bind fun t134 => ((dowelref01_Sign.f k a3 a2).bind fun t135 => (some (t134 == t135)))) else (some false)))) else (some false)))) else (some false)) = some r := H
  have A5 := Aside0.mk A50
  clear A50
  by_cases c6 : t129 = true
  · subst c6
    have H1 : ((field_Get.f a0 a1 a2).bind fun t130 => ((dowelref01_Get.f k a0 a1 a2).bind fun t131 => (if t130 = t131 then ((field_Put.f a0 a1 a2 a3).bind fun t132 => ((dowelref01_Put.f k a0 a1 a2 a3).bind fun t133 => (if t132 = t133 then ((field_Sign.f a3 a2).bind fun t134 => ((dowelref01_Sign.f k a3 a2).bind fun t135 => (some (t134 == t135)))) else (some false)))) else (some false)))) = some r := by rw [if_pos rfl] at H; exact H
    clear H
    have H := H1
    clear H1
    replace H := Option.bind_eq_some_iff.mp H
    obtain ⟨t130, A70, H⟩ := H
    replace H : ((dowelref01_Get.f k a0 a1 a2).bind fun t131 => (if t130 = t131 then ((field_Put.f a0 a1 a2 a3).bind fun t132 => ((dowelref01_Put.f k a0 a1 a2 a3).bind fun t133 => (if t132 = t133 then ((field_Sign.f a3 a2).bind fun t134 => ((dowelref01_Sign.f k a3 a2).bind fun t135 => (some (t134 == t135)))) else (some false)))) else (some false))) = some r := H
    have A7 := Aside0.mk A70
    clear A70
    replace H := Option.bind_eq_some_iff.mp H
    obtain ⟨t131, A80, H⟩ := H
    replace H : (if t130 = t131 then ((field_Put.f a0 a1 a2 a3).bind fun t132 => ((dowelref01_Put.f k a0 a1 a2 a3).bind fun t133 => (if t132 = t133 then ((field_Sign.f a3 a2).bind fun t134 => ((dowelref01_Sign.f k a3 a2).bind fun t135 => (some (t134 == t135)))) else (some false)))) else (some false)) = some r := H
    have A8 := Aside0.mk A80
    clear A80
    by_cases c9 : t130 = t131
    · rw [if_pos c9] at H
      have c9b0 : (t130 == t131) = true := beq_iff_eq.mpr c9
      have c9b1 : (t130 != t131) = false := bne_eq_false_iff_eq.mpr c9
      clear c9
      replace H := Option.bind_eq_some_iff.mp H
      obtain ⟨t132, A100, H⟩ := H
      replace H : ((dowelref01_Put.f k a0 a1 a2 a3).bind fun t133 => (if t132 = t133 then ((field_Sign.f a3 a2).bind fun t134 => ((dowelref01_Sign.f k a3 a2).bind fun t135 => (some (t134 == t135)))) else (some false))) = some r := H
      have A10 := Aside0.mk A100
      clear A100
      replace H := Option.bind_eq_some_iff.mp H
      obtain ⟨t133, A110, H⟩ := H
      replace H : (if t132 = t133 then ((field_Sign.f a3 a2).bind fun t134 => ((dowelref01_Sign.f k a3 a2).bind fun t135 => (some (t134 == t135)))) else (some false)) = some r := H
      have A11 := Aside0.mk A110
      clear A110
      by_cases c12 : t132 = t133
      · rw [if_pos c12] at H
        have c12b0 : (t132 == t133) = true := beq_iff_eq.mpr c12
        have c12b1 : (t132 != t133) = false := bne_eq_false_iff_eq.mpr c12
        clear c12
        replace H := Option.bind_eq_some_iff.mp H
        obtain ⟨t134, A130, H⟩ := H
        replace H : ((dowelref01_Sign.f k a3 a2).bind fun t135 => (some (t134 == t135))) = some r := H
        have A13 := Aside0.mk A130
        clear A130
        replace H := Option.bind_eq_some_iff.mp H
        obtain ⟨t135, A140, H⟩ := H
        replace H : (some (t134 == t135)) = some r := H
        have A14 := Aside0.mk A140
        clear A140
        obtain rfl := Option.some.inj H
        go_enter Try.func5, Try.ntmps5
        go_wp2_with (first | ((with_reducible refine gate_callee (f := 18) rfl ?_); refine goesL_ (some 10) rfl rfl Try.func18 (by kernel_rfl) rfl #[] rfl (by (try simp only [List.map_toArray, List.map_cons, List.map_nil]); first | done | rfl | (simp only [List.length_drop, List.length_take]; rfl)) ?_; (with_reducible refine (dowellaw01_up.calls k  true _ A5.out).mono ?_); rintro e w15 ⟨rfl, hb⟩; refine ⟨_, rfl, ?_⟩; have n0_ := Aside0.mk (below_step (by repeat (first | (with_reducible first | exact HB.out | apply below_alloc | apply pw_below_drewN | apply below_drew1) | exact HB.out)) hb); clear HB; have HB := n0_; clear n0_; (try clear hb); (try clear hb2); (try clear hk); (try clear hi)) | (go_at_call 19; (with_reducible refine (field_Get.calls a0 a1 a2 t130 _ A7.out).mono ?_); rintro e w' ⟨rfl, ⟨nd, rfl⟩⟩) | (go_at_call 20; (with_reducible refine (dowelref01_Get.calls k a0 a1 a2 t131 _ A8.out).mono ?_); rintro e w' ⟨rfl, ⟨nd, rfl⟩⟩) | (go_at_call 21; (with_reducible refine (field_Put.calls a0 a1 a2 a3 t132 _ A10.out).mono ?_); rintro e w' ⟨rfl, ⟨nd, rfl⟩⟩) | (go_at_call 22; (with_reducible refine (dowelref01_Put.calls k a0 a1 a2 a3 t133 _ A11.out).mono ?_); rintro e w' ⟨rfl, ⟨nd, rfl⟩⟩) | (go_at_call 23; (with_reducible refine (field_Sign.calls a3 a2 t134 _ A13.out).mono ?_); rintro e w' ⟨rfl, ⟨nd, rfl⟩⟩) | (go_at_call 24; (with_reducible refine (dowelref01_Sign.calls k a3 a2 t135 _ A14.out).mono ?_); rintro e w' ⟨rfl, ⟨nd, rfl⟩⟩))
        go_ret
        exact ⟨by first | rfl | (simp [errW_none, errW_some] <;> rfl) | (simp [*, errW_none, errW_some] <;> rfl), by repeat (first | (with_reducible first | exact HB.out | apply below_alloc | apply pw_below_drewN | apply below_drew1) | exact HB.out)⟩
      · rw [if_neg c12] at H
        have c12b0 : (t132 == t133) = false := beq_eq_false_iff_ne.mpr c12
        have c12b1 : (t132 != t133) = true := bne_iff_ne.mpr c12
        obtain rfl := Option.some.inj H
        go_enter Try.func5, Try.ntmps5
        go_wp2_with (first | ((with_reducible refine gate_callee (f := 18) rfl ?_); refine goesL_ (some 10) rfl rfl Try.func18 (by kernel_rfl) rfl #[] rfl (by (try simp only [List.map_toArray, List.map_cons, List.map_nil]); first | done | rfl | (simp only [List.length_drop, List.length_take]; rfl)) ?_; (with_reducible refine (dowellaw01_up.calls k  true _ A5.out).mono ?_); rintro e w16 ⟨rfl, hb⟩; refine ⟨_, rfl, ?_⟩; have n0_ := Aside0.mk (below_step (by repeat (first | (with_reducible first | exact HB.out | apply below_alloc | apply pw_below_drewN | apply below_drew1) | exact HB.out)) hb); clear HB; have HB := n0_; clear n0_; (try clear hb); (try clear hb2); (try clear hk); (try clear hi)) | (go_at_call 19; (with_reducible refine (field_Get.calls a0 a1 a2 t130 _ A7.out).mono ?_); rintro e w' ⟨rfl, ⟨nd, rfl⟩⟩) | (go_at_call 20; (with_reducible refine (dowelref01_Get.calls k a0 a1 a2 t131 _ A8.out).mono ?_); rintro e w' ⟨rfl, ⟨nd, rfl⟩⟩) | (go_at_call 21; (with_reducible refine (field_Put.calls a0 a1 a2 a3 t132 _ A10.out).mono ?_); rintro e w' ⟨rfl, ⟨nd, rfl⟩⟩) | (go_at_call 22; (with_reducible refine (dowelref01_Put.calls k a0 a1 a2 a3 t133 _ A11.out).mono ?_); rintro e w' ⟨rfl, ⟨nd, rfl⟩⟩))
        go_ret
        exact ⟨by first | rfl | (simp [errW_none, errW_some] <;> rfl) | (simp [*, errW_none, errW_some] <;> rfl), by repeat (first | (with_reducible first | exact HB.out | apply below_alloc | apply pw_below_drewN | apply below_drew1) | exact HB.out)⟩
    · rw [if_neg c9] at H
      have c9b0 : (t130 == t131) = false := beq_eq_false_iff_ne.mpr c9
      have c9b1 : (t130 != t131) = true := bne_iff_ne.mpr c9
      obtain rfl := Option.some.inj H
      go_enter Try.func5, Try.ntmps5
      go_wp2_with (first | ((with_reducible refine gate_callee (f := 18) rfl ?_); refine goesL_ (some 10) rfl rfl Try.func18 (by kernel_rfl) rfl #[] rfl (by (try simp only [List.map_toArray, List.map_cons, List.map_nil]); first | done | rfl | (simp only [List.length_drop, List.length_take]; rfl)) ?_; (with_reducible refine (dowellaw01_up.calls k  true _ A5.out).mono ?_); rintro e w17 ⟨rfl, hb⟩; refine ⟨_, rfl, ?_⟩; have n0_ := Aside0.mk (below_step (by repeat (first | (with_reducible first | exact HB.out | apply below_alloc | apply pw_below_drewN | apply below_drew1) | exact HB.out)) hb); clear HB; have HB := n0_; clear n0_; (try clear hb); (try clear hb2); (try clear hk); (try clear hi)) | (go_at_call 19; (with_reducible refine (field_Get.calls a0 a1 a2 t130 _ A7.out).mono ?_); rintro e w' ⟨rfl, ⟨nd, rfl⟩⟩) | (go_at_call 20; (with_reducible refine (dowelref01_Get.calls k a0 a1 a2 t131 _ A8.out).mono ?_); rintro e w' ⟨rfl, ⟨nd, rfl⟩⟩))
      go_ret
      exact ⟨by first | rfl | (simp [errW_none, errW_some] <;> rfl) | (simp [*, errW_none, errW_some] <;> rfl), by repeat (first | (with_reducible first | exact HB.out | apply below_alloc | apply pw_below_drewN | apply below_drew1) | exact HB.out)⟩
  · replace c6 := Bool.eq_false_iff.mpr c6
    subst c6
    have H1 : (some false) = some r := by rw [if_neg (show ¬ (false = true) by decide)] at H; exact H
    clear H
    have H := H1
    clear H1
    obtain rfl := Option.some.inj H
    go_enter Try.func5, Try.ntmps5
    go_wp2_with (first | ((with_reducible refine gate_callee (f := 18) rfl ?_); refine goesL_ (some 10) rfl rfl Try.func18 (by kernel_rfl) rfl #[] rfl (by (try simp only [List.map_toArray, List.map_cons, List.map_nil]); first | done | rfl | (simp only [List.length_drop, List.length_take]; rfl)) ?_; (with_reducible refine (dowellaw01_up.calls k  false _ A5.out).mono ?_); rintro e w18 ⟨rfl, hb⟩; refine ⟨_, rfl, ?_⟩; have n0_ := Aside0.mk (below_step (by repeat (first | (with_reducible first | exact HB.out | apply below_alloc | apply pw_below_drewN | apply below_drew1) | exact HB.out)) hb); clear HB; have HB := n0_; clear n0_; (try clear hb); (try clear hb2); (try clear hk); (try clear hi)))
    go_ret
    exact ⟨by first | rfl | (simp [errW_none, errW_some] <;> rfl) | (simp [*, errW_none, errW_some] <;> rfl), by repeat (first | (with_reducible first | exact HB.out | apply below_alloc | apply pw_below_drewN | apply below_drew1) | exact HB.out)⟩

/-- THE ONE PURE STATEMENT of dowellaw01_FieldBits: yours. -/
def dowellaw01_FieldBits.Pure : Prop := ∀ (a0 : Int) (a1 : Int) (a2 : Int) (a3 : Int), (Lit.int .u32 a0).wf = true → (Lit.int .i64 a1).wf = true → (Lit.int .i64 a2).wf = true → (Lit.int .u32 a3).wf = true → ∃ k, dowellaw01_FieldBits.f k a0 a1 a2 a3 = some true
theorem dowellaw01_FieldBits.walk (P : dowellaw01_FieldBits.Pure) (a0 : Int) (a1 : Int) (a2 : Int) (a3 : Int) (w : World) (w0 : (Lit.int .u32 a0).wf = true) (w1 : (Lit.int .i64 a1).wf = true) (w2 : (Lit.int .i64 a2).wf = true) (w3 : (Lit.int .u32 a3).wf = true) :
    Calls Try.prog 5 #[.int .u32 a0, .int .i64 a1, .int .i64 a2, .int .u32 a3] w fun e w' => e = .returned (.bool true) ∧ Below w.heap.size w w' := by
  obtain ⟨k, h⟩ := P a0 a1 a2 a3 w0 w1 w2 w3
  refine (dowellaw01_FieldBits.calls k a0 a1 a2 a3 true w h).mono ?_
  rintro e w' ⟨rfl, hd⟩
  exact ⟨rfl, hd⟩

end Go.Proofs.Ytfoecgcjipckmaa.PFieldBits
