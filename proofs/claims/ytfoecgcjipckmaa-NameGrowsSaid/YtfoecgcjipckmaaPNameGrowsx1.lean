-- PRINTED BY print.sh 35421559b90ae4d0a3588c463048766b98c2df88dd9212a6774a882060cdf62d: not written by this session
import Derived.Test.YtfoecgcjipckmaaPNameGrowsx0
namespace Go.Proofs.Ytfoecgcjipckmaa.PNameGrows
open Go.RowKit Go.Proofs.YtfoecgcjipckmaaW.PrintWords Go.Proofs.YtfoecgcjipckmaaW.PrintLast Go.Proofs.YtfoecgcjipckmaaW.PrintMore
attribute [local go_sem] max2_int min2_int max_two min_two max_three min_three max_four min_four   -- for this text's walks alone
set_option linter.unusedVariables false
set_option linter.unusedSimpArgs false

/-! ### name_letter: function 57 -/
def name_letter.f (a0 : Int) : Option (Bool) := if a0 ≥ 97 then (if a0 ≤ 122 then (some true) else (if a0 ≥ 65 then (some (decide (a0 ≤ 90))) else (some false))) else (if a0 ≥ 65 then (some (decide (a0 ≤ 90))) else (some false))
set_option maxHeartbeats 8000000 in
set_option maxRecDepth 100000 in
theorem name_letter.calls (a0 : Int) (r : Bool) (w : World) (h : name_letter.f a0 = some r) :
    Calls Try.prog 57 #[.int .u8 a0] w fun e w' => e = .returned (.bool r) ∧ Drawn0 w w' := by
  have H : (if a0 ≥ 97 then (if a0 ≤ 122 then (some true) else (if a0 ≥ 65 then (some (decide (a0 ≤ 90))) else (some false))) else (if a0 ≥ 65 then (some (decide (a0 ≤ 90))) else (some false))) = some r := h
  clear h
  by_cases c2 : a0 ≥ 97
  · rw [if_pos c2] at H
    have c2b0 : decide (97 ≤ a0) = true := decide_eq_true c2
    clear c2
    by_cases c3 : a0 ≤ 122
    · rw [if_pos c3] at H
      have c3b0 : decide (a0 ≤ 122) = true := decide_eq_true c3
      clear c3
      obtain rfl := Option.some.inj H
      go_enter Try.func57, Try.ntmps57
      go_wp2
      go_ret
      exact ⟨by first | rfl | (simp; done) | (simp [*]; done), by repeat (first | exact Drawn0.refl _ | apply Drawn0.step)⟩
    · rw [if_neg c3] at H
      have c3b0 : decide (a0 ≤ 122) = false := decide_eq_false c3
      clear c3
      by_cases c4 : a0 ≥ 65
      · rw [if_pos c4] at H
        have c4b0 : decide (65 ≤ a0) = true := decide_eq_true c4
        clear c4
        obtain rfl := Option.some.inj H
        go_enter Try.func57, Try.ntmps57
        go_wp2
        go_ret
        exact ⟨by first | rfl | (simp; done) | (simp [*]; done), by repeat (first | exact Drawn0.refl _ | apply Drawn0.step)⟩
      · rw [if_neg c4] at H
        have c4b0 : decide (65 ≤ a0) = false := decide_eq_false c4
        clear c4
        obtain rfl := Option.some.inj H
        go_enter Try.func57, Try.ntmps57
        go_wp2
        go_ret
        exact ⟨by first | rfl | (simp; done) | (simp [*]; done), by repeat (first | exact Drawn0.refl _ | apply Drawn0.step)⟩
  · rw [if_neg c2] at H
    have c2b0 : decide (97 ≤ a0) = false := decide_eq_false c2
    clear c2
    by_cases c5 : a0 ≥ 65
    · rw [if_pos c5] at H
      have c5b0 : decide (65 ≤ a0) = true := decide_eq_true c5
      clear c5
      obtain rfl := Option.some.inj H
      go_enter Try.func57, Try.ntmps57
      go_wp2
      go_ret
      exact ⟨by first | rfl | (simp; done) | (simp [*]; done), by repeat (first | exact Drawn0.refl _ | apply Drawn0.step)⟩
    · rw [if_neg c5] at H
      have c5b0 : decide (65 ≤ a0) = false := decide_eq_false c5
      clear c5
      obtain rfl := Option.some.inj H
      go_enter Try.func57, Try.ntmps57
      go_wp2
      go_ret
      exact ⟨by first | rfl | (simp; done) | (simp [*]; done), by repeat (first | exact Drawn0.refl _ | apply Drawn0.step)⟩

/-! ### name_May: function 16 -/
mutual
def name_May.j0 : Nat → ByteArray → Bool → Option (Bool)
  | 0, _, _ => none
  | k + 1, x0, x16 => if x16 = true then (some false) else (name_May.l0 k x0 (x0.size : Int) 0)
def name_May.l0 : Nat → ByteArray → Int → Int → Option (Bool)
  | 0, _, _, _ => none
  | k + 1, x0, x18, x19 => if x19 < x18 then (if 0 ≤ x19 then (if x19 < (x0.size : Int) then ((name_letter.f (bt x0 x19)).bind fun t102 => (if t102 = true then (name_May.l0 k x0 x18 (wrap64 (x19 + 1))) else (if (bt x0 x19) < 48 then (some false) else (if (bt x0 x19) > 57 then (some false) else (name_May.l0 k x0 x18 (wrap64 (x19 + 1))))))) else (none)) else (none)) else (some true)
end
def name_May.f (k : Nat) (a0 : ByteArray) : Option (Bool) := if a0.toList = ([] : List UInt8) then (name_May.j0 k a0 true) else (if (a0.size : Int) > 16 then (name_May.j0 k a0 true) else (if 0 < (a0.size : Int) then ((name_letter.f (bt a0 0)).bind fun t101 => (name_May.j0 k a0 (!t101))) else (none)))
theorem name_May.mono_l : ∀ k, (∀ y0 y1, LeO (name_May.j0 k y0 y1) (name_May.j0 (k + 1) y0 y1)) ∧ (∀ y0 y1 y2, LeO (name_May.l0 k y0 y1 y2) (name_May.l0 (k + 1) y0 y1 y2))
  | 0 => ⟨fun _ _ r h => by simp [name_May.j0] at h, fun _ _ _ r h => by simp [name_May.l0] at h⟩
  | k + 1 => by
    obtain ⟨ih0, ih1⟩ := name_May.mono_l k
    refine ⟨?_, ?_⟩
    · intro y0 y1
      unfold name_May.j0
      repeat' first
      | (with_reducible exact ih0 _ _)
      | (with_reducible exact ih1 _ _ _)
      | (with_reducible exact LeO.refl _)
      | (with_reducible exact LeO.none _)
      | (with_reducible refine LeO.ite ?_ ?_)
      | (with_reducible refine LeO.bind ?_ (fun _ => ?_))
      | exact ih0 _ _
      | exact ih1 _ _ _
      | exact LeO.none _
      | refine LeO.ite ?_ ?_
      | refine LeO.bind ?_ (fun _ => ?_)
    · intro y0 y1 y2
      unfold name_May.l0
      repeat' first
      | (with_reducible exact ih0 _ _)
      | (with_reducible exact ih1 _ _ _)
      | (with_reducible exact LeO.refl _)
      | (with_reducible exact LeO.none _)
      | (with_reducible refine LeO.ite ?_ ?_)
      | (with_reducible refine LeO.bind ?_ (fun _ => ?_))
      | exact ih0 _ _
      | exact ih1 _ _ _
      | exact LeO.none _
      | refine LeO.ite ?_ ?_
      | refine LeO.bind ?_ (fun _ => ?_)
theorem name_May.mono : ∀ a0 k, LeO (name_May.f k a0) (name_May.f (k + 1) a0) := by
  intro a0 k
  obtain ⟨ih0, ih1⟩ := name_May.mono_l k
  unfold name_May.f
  repeat' first
      | (with_reducible exact ih0 _ _)
      | (with_reducible exact ih1 _ _ _)
      | (with_reducible exact LeO.refl _)
      | (with_reducible exact LeO.none _)
      | (with_reducible refine LeO.ite ?_ ?_)
      | (with_reducible refine LeO.bind ?_ (fun _ => ?_))
      | exact ih0 _ _
      | exact ih1 _ _ _
      | exact LeO.none _
      | refine LeO.ite ?_ ?_
      | refine LeO.bind ?_ (fun _ => ?_)
set_option maxHeartbeats 8000000 in
set_option maxRecDepth 100000 in
theorem name_May.calls (k : Nat) (a0 : ByteArray) (r : Bool) (w : World) (h : name_May.f k a0 = some r) :
    Calls Try.prog 16 #[.string a0] w fun e w' => e = .returned (.bool r) ∧ Drawn0 w w' := by
  have H : (if a0.toList = ([] : List UInt8) then (name_May.j0 k a0 true) else (if (a0.size : Int) > 16 then (name_May.j0 k a0 true) else (if 0 < (a0.size : Int) then ((name_letter.f (bt a0 0)).bind fun t101 => (name_May.j0 k a0 (!t101))) else (none)))) = some r := h
  clear h
  have HC2 := Aside0.mk H
  clear H
  go_enter Try.func16, Try.ntmps16
  go_upto_region 1 with (fail)
  go_cut [16] (fun v16 wc => ∃ (kq : Nat) (x16_1 : Bool), v16 = .bool x16_1 ∧ Aside0 (name_May.j0 kq a0 x16_1 = some r) ∧ Aside0 (kq ≤ k) ∧ Drawn0 w wc)
  case first =>
    have H := HC2.out
    clear HC2
    by_cases c3 : a0.toList = ([] : List UInt8)
    · rw [if_pos c3] at H
      have c3b0 : (a0.toList == ([] : List UInt8)) = true := beq_iff_eq.mpr c3
      have c3b1 : (a0.toList != ([] : List UInt8)) = false := bne_eq_false_iff_eq.mpr c3
      clear c3
      (first | rw [c3b0] | (simp only [i64_w, i32_w]; rw [c3b0]) | skip)
      have H' := Aside0.mk H
      clear H
      go_wp2
      go_meet
      case rel => exact ⟨_, (true), (by first | rfl | (simp; done) | (simp [*]; done)), H', ⟨by first | omega | exact Nat.le_refl _⟩, by repeat (first | exact Drawn0.refl _ | apply Drawn0.step)⟩
    · rw [if_neg c3] at H
      have c3b0 : (a0.toList == ([] : List UInt8)) = false := beq_eq_false_iff_ne.mpr c3
      have c3b1 : (a0.toList != ([] : List UInt8)) = true := bne_iff_ne.mpr c3
      (first | rw [c3b0] | (simp only [i64_w, i32_w]; rw [c3b0]) | skip)
      by_cases c4 : (a0.size : Int) > 16
      · rw [if_pos c4] at H
        have c4b0 : decide (16 < (a0.size : Int)) = true := decide_eq_true c4
        have c4b1 : decide (16 < a0.size) = true := decide_eq_true (by omega)
        clear c4
        have H' := Aside0.mk H
        clear H
        go_wp2
        go_meet
        case rel => exact ⟨_, (true), (by first | rfl | (simp; done) | (simp [*]; done)), H', ⟨by first | omega | exact Nat.le_refl _⟩, by repeat (first | exact Drawn0.refl _ | apply Drawn0.step)⟩
      · rw [if_neg c4] at H
        have c4b0 : decide (16 < (a0.size : Int)) = false := decide_eq_false c4
        have c4b1 : decide (16 < a0.size) = false := decide_eq_false (by omega)
        clear c4
        by_cases c5 : 0 < (a0.size : Int)
        · rw [if_pos c5] at H
          have c5b0 : decide (0 < (a0.size : Int)) = true := decide_eq_true c5
          have c5b1 : decide (0 < a0.size) = true := decide_eq_true (by omega)
          clear c5
          replace H := Option.bind_eq_some_iff.mp H
          obtain ⟨t101, A70, H⟩ := H
          replace H : (name_May.j0 k a0 (!t101)) = some r := H
          have A7 := Aside0.mk A70
          clear A70
          have H' := Aside0.mk H
          clear H
          have p6 : 0 ≤ (0 : Int) := (by omega)
          have q6 : 0 < a0.size := (by have : (0 : Int) < (a0.size : Int) := of_decide_eq_true (by first | (with_reducible assumption) | assumption); omega)
          have hx6 : ∀ h : 0 < a0.size, ((a0[0]'h).toNat : Int) = bt a0 0 := bt_at a0 0
          clear p6
          have qi6 : (0 < (a0.size : Int)) = True := eq_true (of_decide_eq_true (by first | (with_reducible assumption) | assumption))
          replace q6 := eq_true q6
          go_wp2_with (first | (go_at_call 57; (with_reducible refine (name_letter.calls (bt a0 0) t101 _ A7.out).mono ?_); rintro e w' ⟨rfl, ⟨nd, rfl⟩⟩))
          go_meet
          case rel => exact ⟨_, (!t101), (by first | rfl | (simp; done) | (simp [*]; done)), H', ⟨by first | omega | exact Nat.le_refl _⟩, by repeat (first | exact Drawn0.refl _ | apply Drawn0.step)⟩
        · rw [if_neg c5] at H
          exact absurd H (by simp)
  case rest =>
    clear HC2
    try clear c1
    try clear p2
    try clear c3
    try clear c3b0
    try clear c3b1
    try clear c4
    try clear c4b0
    try clear c4b1
    try clear c5
    try clear c5b0
    try clear c5b1
    try clear p6
    try clear q6
    try clear hx6
    try clear qi6
    try clear p6
    try clear q6
    obtain ⟨kq, x16_1, rfl, HA, HJ1, ⟨mc1, rfl⟩⟩ := hcut
    cases kq with
    | zero => exact absurd HA.out (by simp [name_May.j0])
    | succ kj1 =>
      have H := HA.out
      clear HA
      simp only [name_May.j0] at H
      by_cases c8 : x16_1 = true
      · subst c8
        have H1 : (some false) = some r := by rw [if_pos rfl] at H; exact H
        clear H
        have H := H1
        clear H1
        obtain rfl := Option.some.inj H
        go_wp2
        go_ret
        exact ⟨by first | rfl | (simp; done) | (simp [*]; done), by repeat (first | exact Drawn0.refl _ | apply Drawn0.step)⟩
      · replace c8 := Bool.eq_false_iff.mpr c8
        subst c8
        have H1 : (name_May.l0 kj1 a0 (a0.size : Int) 0) = some r := by rw [if_neg (show ¬ (false = true) by decide)] at H; exact H
        clear H
        have H := H1
        clear H1
        have H' := Aside0.mk H
        clear H
        go_wp2
        go_loopg [19] kj1 (fun kq v19 w' => ∃ (x19_2 : Int), v19 = .int .i64 x19_2 ∧ Aside0 (name_May.l0 kq a0 (a0.size : Int) x19_2 = some r) ∧ Aside0 (kq ≤ kj1) ∧ Drawn0 w w')
        case atStart => exact ⟨(0), (by first | rfl | (simp; done) | (simp [*]; done)), H', ⟨Nat.le_refl _⟩, by repeat (first | exact Drawn0.refl _ | apply Drawn0.step)⟩
        case round =>
          clear H'
          try clear c1
          try clear p2
          try clear c3
          try clear c3b0
          try clear c3b1
          try clear c4
          try clear c4b0
          try clear c4b1
          try clear c5
          try clear c5b0
          try clear c5b1
          try clear p6
          try clear q6
          try clear hx6
          try clear qi6
          try clear c8
          try clear p2
          try clear p6
          try clear q6
          obtain ⟨x19_2, rfl, HA, HK2, ⟨m2, rfl⟩⟩ := hrel
          cases gk with
          | zero => exact absurd HA.out (by simp [name_May.l0])
          | succ k2 =>
            have H := HA.out
            clear HA
            simp only [name_May.l0] at H
            by_cases c9 : x19_2 < (a0.size : Int)
            · rw [if_pos c9] at H
              have c9b0 : decide (x19_2 < (a0.size : Int)) = true := decide_eq_true c9
              clear c9
              by_cases c10 : 0 ≤ x19_2
              · rw [if_pos c10] at H
                have c10b0 : decide (0 ≤ x19_2) = true := decide_eq_true c10
                clear c10
                by_cases c11 : x19_2 < (a0.size : Int)
                · rw [if_pos c11] at H
                  have c11b0 : decide (x19_2 < (a0.size : Int)) = true := decide_eq_true c11
                  clear c11
                  replace H := Option.bind_eq_some_iff.mp H
                  obtain ⟨t102, A130, H⟩ := H
                  replace H : (if t102 = true then (name_May.l0 k2 a0 (a0.size : Int) (wrap64 (x19_2 + 1))) else (if (bt a0 x19_2) < 48 then (some false) else (if (bt a0 x19_2) > 57 then (some false) else (name_May.l0 k2 a0 (a0.size : Int) (wrap64 (x19_2 + 1)))))) = some r := H
                  have A13 := Aside0.mk A130
                  clear A130
                  by_cases c14 : t102 = true
                  · subst c14
                    have H1 : (name_May.l0 k2 a0 (a0.size : Int) (wrap64 (x19_2 + 1))) = some r := by rw [if_pos rfl] at H; exact H
                    clear H
                    have H := H1
                    clear H1
                    have H' := Aside0.mk H
                    clear H
                    have p12 : 0 ≤ (x19_2 : Int) := of_decide_eq_true (by first | (with_reducible assumption) | assumption)
                    have q12 : x19_2 < (a0.size : Int) := of_decide_eq_true (by first | (with_reducible assumption) | assumption)
                    have hx12 := bt_at a0 x19_2
                    replace p12 := eq_true p12
                    replace q12 := eq_true q12
                    go_wp2_with (first | ((with_reducible refine gate_callee (f := 57) rfl ?_); refine goesL_ (some 25) rfl rfl Try.func57 (by kernel_rfl) rfl #[.int .u8 (bt a0 x19_2)] rfl (by (try simp only [List.map_toArray, List.map_cons, List.map_nil]); first | done | rfl | (simp only [List.length_drop, List.length_take]; rfl)) ?_; (with_reducible refine (name_letter.calls (bt a0 x19_2) true _ A13.out).mono ?_); rintro e w' ⟨rfl, ⟨nd, rfl⟩⟩; refine ⟨_, rfl, ?_⟩))
                    go_roundg k2
                    case measure => have := HJ1.out; have := HK2.out; omega
                    case rel => exact ⟨(wrap64 (x19_2 + 1)), (by first | rfl | (simp; done) | (simp [*]; done)), H', ⟨by have := HJ1.out; have := HK2.out; omega⟩, by repeat (first | exact Drawn0.refl _ | apply Drawn0.step)⟩
                  · replace c14 := Bool.eq_false_iff.mpr c14
                    subst c14
                    have H1 : (if (bt a0 x19_2) < 48 then (some false) else (if (bt a0 x19_2) > 57 then (some false) else (name_May.l0 k2 a0 (a0.size : Int) (wrap64 (x19_2 + 1))))) = some r := by rw [if_neg (show ¬ (false = true) by decide)] at H; exact H
                    clear H
                    have H := H1
                    clear H1
                    by_cases c16 : (bt a0 x19_2) < 48
                    · rw [if_pos c16] at H
                      have c16b0 : decide ((bt a0 x19_2) < 48) = true := decide_eq_true c16
                      clear c16
                      obtain rfl := Option.some.inj H
                      have p12 : 0 ≤ (x19_2 : Int) := of_decide_eq_true (by first | (with_reducible assumption) | assumption)
                      have q12 : x19_2 < (a0.size : Int) := of_decide_eq_true (by first | (with_reducible assumption) | assumption)
                      have hx12 := bt_at a0 x19_2
                      replace p12 := eq_true p12
                      replace q12 := eq_true q12
                      go_wp2_with (first | ((with_reducible refine gate_callee (f := 57) rfl ?_); refine goesL_ (some 25) rfl rfl Try.func57 (by kernel_rfl) rfl #[.int .u8 (bt a0 x19_2)] rfl (by (try simp only [List.map_toArray, List.map_cons, List.map_nil]); first | done | rfl | (simp only [List.length_drop, List.length_take]; rfl)) ?_; (with_reducible refine (name_letter.calls (bt a0 x19_2) false _ A13.out).mono ?_); rintro e w' ⟨rfl, ⟨nd, rfl⟩⟩; refine ⟨_, rfl, ?_⟩; have p15 : 0 ≤ (x19_2 : Int) := of_decide_eq_true (by first | (with_reducible assumption) | assumption); have q15 : x19_2 < (a0.size : Int) := of_decide_eq_true (by first | (with_reducible assumption) | assumption); have hx15 := bt_at a0 x19_2; replace p15 := eq_true p15; replace q15 := eq_true q15))
                      go_ret
                      exact ⟨by first | rfl | (simp; done) | (simp [*]; done), by repeat (first | exact Drawn0.refl _ | apply Drawn0.step)⟩
                    · rw [if_neg c16] at H
                      have c16b0 : decide ((bt a0 x19_2) < 48) = false := decide_eq_false c16
                      clear c16
                      by_cases c18 : (bt a0 x19_2) > 57
                      · rw [if_pos c18] at H
                        have c18b0 : decide (57 < (bt a0 x19_2)) = true := decide_eq_true c18
                        clear c18
                        obtain rfl := Option.some.inj H
                        have p12 : 0 ≤ (x19_2 : Int) := of_decide_eq_true (by first | (with_reducible assumption) | assumption)
                        have q12 : x19_2 < (a0.size : Int) := of_decide_eq_true (by first | (with_reducible assumption) | assumption)
                        have hx12 := bt_at a0 x19_2
                        replace p12 := eq_true p12
                        replace q12 := eq_true q12
                        go_wp2_with (first | ((with_reducible refine gate_callee (f := 57) rfl ?_); refine goesL_ (some 25) rfl rfl Try.func57 (by kernel_rfl) rfl #[.int .u8 (bt a0 x19_2)] rfl (by (try simp only [List.map_toArray, List.map_cons, List.map_nil]); first | done | rfl | (simp only [List.length_drop, List.length_take]; rfl)) ?_; (with_reducible refine (name_letter.calls (bt a0 x19_2) false _ A13.out).mono ?_); rintro e w' ⟨rfl, ⟨nd, rfl⟩⟩; refine ⟨_, rfl, ?_⟩; have p15 : 0 ≤ (x19_2 : Int) := of_decide_eq_true (by first | (with_reducible assumption) | assumption); have q15 : x19_2 < (a0.size : Int) := of_decide_eq_true (by first | (with_reducible assumption) | assumption); have hx15 := bt_at a0 x19_2; replace p15 := eq_true p15; replace q15 := eq_true q15; have p17 : 0 ≤ (x19_2 : Int) := of_decide_eq_true (by first | (with_reducible assumption) | assumption); have q17 : x19_2 < (a0.size : Int) := of_decide_eq_true (by first | (with_reducible assumption) | assumption); have hx17 := bt_at a0 x19_2; replace p17 := eq_true p17; replace q17 := eq_true q17))
                        go_ret
                        exact ⟨by first | rfl | (simp; done) | (simp [*]; done), by repeat (first | exact Drawn0.refl _ | apply Drawn0.step)⟩
                      · rw [if_neg c18] at H
                        have c18b0 : decide (57 < (bt a0 x19_2)) = false := decide_eq_false c18
                        clear c18
                        have H' := Aside0.mk H
                        clear H
                        have p12 : 0 ≤ (x19_2 : Int) := of_decide_eq_true (by first | (with_reducible assumption) | assumption)
                        have q12 : x19_2 < (a0.size : Int) := of_decide_eq_true (by first | (with_reducible assumption) | assumption)
                        have hx12 := bt_at a0 x19_2
                        replace p12 := eq_true p12
                        replace q12 := eq_true q12
                        go_wp2_with (first | ((with_reducible refine gate_callee (f := 57) rfl ?_); refine goesL_ (some 25) rfl rfl Try.func57 (by kernel_rfl) rfl #[.int .u8 (bt a0 x19_2)] rfl (by (try simp only [List.map_toArray, List.map_cons, List.map_nil]); first | done | rfl | (simp only [List.length_drop, List.length_take]; rfl)) ?_; (with_reducible refine (name_letter.calls (bt a0 x19_2) false _ A13.out).mono ?_); rintro e w' ⟨rfl, ⟨nd, rfl⟩⟩; refine ⟨_, rfl, ?_⟩; have p15 : 0 ≤ (x19_2 : Int) := of_decide_eq_true (by first | (with_reducible assumption) | assumption); have q15 : x19_2 < (a0.size : Int) := of_decide_eq_true (by first | (with_reducible assumption) | assumption); have hx15 := bt_at a0 x19_2; replace p15 := eq_true p15; replace q15 := eq_true q15; have p17 : 0 ≤ (x19_2 : Int) := of_decide_eq_true (by first | (with_reducible assumption) | assumption); have q17 : x19_2 < (a0.size : Int) := of_decide_eq_true (by first | (with_reducible assumption) | assumption); have hx17 := bt_at a0 x19_2; replace p17 := eq_true p17; replace q17 := eq_true q17))
                        go_roundg k2
                        case measure => have := HJ1.out; have := HK2.out; omega
                        case rel => exact ⟨(wrap64 (x19_2 + 1)), (by first | rfl | (simp; done) | (simp [*]; done)), H', ⟨by have := HJ1.out; have := HK2.out; omega⟩, by repeat (first | exact Drawn0.refl _ | apply Drawn0.step)⟩
                · rw [if_neg c11] at H
                  exact absurd H (by simp)
              · rw [if_neg c10] at H
                exact absurd H (by simp)
            · rw [if_neg c9] at H
              have c9b0 : decide (x19_2 < (a0.size : Int)) = false := decide_eq_false c9
              clear c9
              obtain rfl := Option.some.inj H
              go_wp2
              go_ret
              exact ⟨by first | rfl | (simp; done) | (simp [*]; done), by repeat (first | exact Drawn0.refl _ | apply Drawn0.step)⟩

/-! ### dowellaw09_up: function 15 -/
def dowellaw09_up.f (k : Nat)  : Option (Bool) := (name_May.f k (⟨#[66, 50]⟩ : ByteArray)).bind fun t103 => (if t103 = true then ((name_May.f k (⟨#[50, 66]⟩ : ByteArray)).bind fun t104 => (if t104 = true then (some false) else ((name_May.f k (⟨#[]⟩ : ByteArray)).bind fun t105 => (some (!t105))))) else (some false))
theorem dowellaw09_up.mono : ∀ k, LeO (dowellaw09_up.f k ) (dowellaw09_up.f (k + 1) ) := by
  intro  k
  unfold dowellaw09_up.f
  repeat' first
      | (with_reducible exact name_May.mono _ _)
      | (with_reducible exact LeO.refl _)
      | (with_reducible exact LeO.none _)
      | (with_reducible refine LeO.ite ?_ ?_)
      | (with_reducible refine LeO.bind ?_ (fun _ => ?_))
      | exact name_May.mono _ _
      | exact LeO.none _
      | refine LeO.ite ?_ ?_
      | refine LeO.bind ?_ (fun _ => ?_)
set_option maxHeartbeats 8000000 in
set_option maxRecDepth 100000 in
theorem dowellaw09_up.calls (k : Nat)  (r : Bool) (w : World) (h : dowellaw09_up.f k  = some r) :
    Calls Try.prog 15 #[] w fun e w' => e = .returned (.bool r) ∧ Drawn0 w w' := by
  have H : ((name_May.f k (⟨#[66, 50]⟩ : ByteArray)).bind fun t103 => (if t103 = true then ((name_May.f k (⟨#[50, 66]⟩ : ByteArray)).bind fun t104 => (if t104 = true then (some false) else ((name_May.f k (⟨#[]⟩ : ByteArray)).bind fun t105 => (some (!t105))))) else (some false))) = some r := h
  clear h
  replace H := Option.bind_eq_some_iff.mp H
  obtain ⟨t103, A10, H⟩ := H
  replace H : (if t103 = true then ((name_May.f k (⟨#[50, 66]⟩ : ByteArray)).bind fun t104 => (if t104 = true then (some false) else ((name_May.f k (⟨#[]⟩ : ByteArray)).bind fun t105 => (some (!t105))))) else (some false)) = some r := H
  have A1 := Aside0.mk A10
  clear A10
  by_cases c2 : t103 = true
  · subst c2
    have H1 : ((name_May.f k (⟨#[50, 66]⟩ : ByteArray)).bind fun t104 => (if t104 = true then (some false) else ((name_May.f k (⟨#[]⟩ : ByteArray)).bind fun t105 => (some (!t105))))) = some r := by rw [if_pos rfl] at H; exact H
    clear H
    have H := H1
    clear H1
    replace H := Option.bind_eq_some_iff.mp H
    obtain ⟨t104, A30, H⟩ := H
    replace H : (if t104 = true then (some false) else ((name_May.f k (⟨#[]⟩ : ByteArray)).bind fun t105 => (some (!t105)))) = some r := H
    have A3 := Aside0.mk A30
    clear A30
    by_cases c4 : t104 = true
    · subst c4
      have H1 : (some false) = some r := by rw [if_pos rfl] at H; exact H
      clear H
      have H := H1
      clear H1
      obtain rfl := Option.some.inj H
      go_enter Try.func15, Try.ntmps15
      go_wp2_with (first | ((with_reducible refine gate_callee (f := 16) rfl ?_); refine goesL_ (some 1) rfl rfl Try.func16 (by kernel_rfl) rfl #[.string (⟨#[66, 50]⟩ : ByteArray)] rfl (by (try simp only [List.map_toArray, List.map_cons, List.map_nil]); first | done | rfl | (simp only [List.length_drop, List.length_take]; rfl)) ?_; (with_reducible refine (name_May.calls k (⟨#[66, 50]⟩ : ByteArray) true _ A1.out).mono ?_); rintro e w' ⟨rfl, ⟨nd, rfl⟩⟩; refine ⟨_, rfl, ?_⟩) | (go_at_call 16; (with_reducible refine (name_May.calls k (⟨#[50, 66]⟩ : ByteArray) true _ A3.out).mono ?_); rintro e w' ⟨rfl, ⟨nd, rfl⟩⟩))
      go_ret
      exact ⟨by first | rfl | (simp; done) | (simp [*]; done), by repeat (first | exact Drawn0.refl _ | apply Drawn0.step)⟩
    · replace c4 := Bool.eq_false_iff.mpr c4
      subst c4
      have H1 : ((name_May.f k (⟨#[]⟩ : ByteArray)).bind fun t105 => (some (!t105))) = some r := by rw [if_neg (show ¬ (false = true) by decide)] at H; exact H
      clear H
      have H := H1
      clear H1
      replace H := Option.bind_eq_some_iff.mp H
      obtain ⟨t105, A50, H⟩ := H
      replace H : (some (!t105)) = some r := H
      have A5 := Aside0.mk A50
      clear A50
      obtain rfl := Option.some.inj H
      go_enter Try.func15, Try.ntmps15
      go_wp2_with (first | ((with_reducible refine gate_callee (f := 16) rfl ?_); refine goesL_ (some 1) rfl rfl Try.func16 (by kernel_rfl) rfl #[.string (⟨#[66, 50]⟩ : ByteArray)] rfl (by (try simp only [List.map_toArray, List.map_cons, List.map_nil]); first | done | rfl | (simp only [List.length_drop, List.length_take]; rfl)) ?_; (with_reducible refine (name_May.calls k (⟨#[66, 50]⟩ : ByteArray) true _ A1.out).mono ?_); rintro e w' ⟨rfl, ⟨nd, rfl⟩⟩; refine ⟨_, rfl, ?_⟩) | (go_at_call 16; (with_reducible refine (name_May.calls k (⟨#[50, 66]⟩ : ByteArray) false _ A3.out).mono ?_); rintro e w' ⟨rfl, ⟨nd, rfl⟩⟩) | (go_at_call 16; (with_reducible refine (name_May.calls k (⟨#[]⟩ : ByteArray) t105 _ A5.out).mono ?_); rintro e w' ⟨rfl, ⟨nd, rfl⟩⟩))
      go_ret
      exact ⟨by first | rfl | (simp; done) | (simp [*]; done), by repeat (first | exact Drawn0.refl _ | apply Drawn0.step)⟩
  · replace c2 := Bool.eq_false_iff.mpr c2
    subst c2
    have H1 : (some false) = some r := by rw [if_neg (show ¬ (false = true) by decide)] at H; exact H
    clear H
    have H := H1
    clear H1
    obtain rfl := Option.some.inj H
    go_enter Try.func15, Try.ntmps15
    go_wp2_with (first | ((with_reducible refine gate_callee (f := 16) rfl ?_); refine goesL_ (some 1) rfl rfl Try.func16 (by kernel_rfl) rfl #[.string (⟨#[66, 50]⟩ : ByteArray)] rfl (by (try simp only [List.map_toArray, List.map_cons, List.map_nil]); first | done | rfl | (simp only [List.length_drop, List.length_take]; rfl)) ?_; (with_reducible refine (name_May.calls k (⟨#[66, 50]⟩ : ByteArray) false _ A1.out).mono ?_); rintro e w' ⟨rfl, ⟨nd, rfl⟩⟩; refine ⟨_, rfl, ?_⟩))
    go_ret
    exact ⟨by first | rfl | (simp; done) | (simp [*]; done), by repeat (first | exact Drawn0.refl _ | apply Drawn0.step)⟩

/-! ### dowellaw09_NameGrows: function 4 -/
mutual
def dowellaw09_NameGrows.j0 : Nat → ByteArray → Bool → Bool → Option (Bool)
  | 0, _, _, _ => none
  | k + 1, x0, x5, x39 => if x39 = true then (some false) else (dowellaw09_NameGrows.l0 k x0 x5 0)
def dowellaw09_NameGrows.l0 : Nat → ByteArray → Bool → Int → Option (Bool)
  | 0, _, _, _ => none
  | k + 1, x0, x5, x7 => if x7 ≤ (x0.size : Int) then (if 0 ≤ x7 then ((name_May.f k (x0.extract 0 (x7 : Int).toNat)).bind fun t112 => (if (t112 != (decide (x7 > 0))) = true then (some false) else (dowellaw09_NameGrows.l0 k x0 x5 (wrap64 (x7 + 1))))) else (none)) else (some x5)
end
def dowellaw09_NameGrows.f (k : Nat) (a0 : ByteArray) (a1 : Int) : Option (Bool) := (dowellaw09_up.f k).bind fun t106 => ((name_May.f k a0).bind fun t107 => (if t107 = true then (if a0.size + 1 ≤ 9223372036854775807 then ((name_May.f k (a0 ++ (⟨#[97]⟩ : ByteArray))).bind fun t108 => (if (t108 != (decide ((a0.size : Int) < 16))) = true then (dowellaw09_NameGrows.j0 k a0 t106 true) else ((name_May.f k (a0 ++ (⟨#[90]⟩ : ByteArray))).bind fun t109 => (if (t109 != (decide ((a0.size : Int) < 16))) = true then (dowellaw09_NameGrows.j0 k a0 t106 true) else ((name_May.f k (a0 ++ (⟨#[55]⟩ : ByteArray))).bind fun t110 => (if (t110 != (decide ((a0.size : Int) < 16))) = true then (dowellaw09_NameGrows.j0 k a0 t106 true) else ((name_May.f k (a0 ++ (⟨#[95]⟩ : ByteArray))).bind fun t111 => (dowellaw09_NameGrows.j0 k a0 t106 t111)))))))) else (none)) else (some t106)))
theorem dowellaw09_NameGrows.mono_l : ∀ k, (∀ y0 y1 y2, LeO (dowellaw09_NameGrows.j0 k y0 y1 y2) (dowellaw09_NameGrows.j0 (k + 1) y0 y1 y2)) ∧ (∀ y0 y1 y2, LeO (dowellaw09_NameGrows.l0 k y0 y1 y2) (dowellaw09_NameGrows.l0 (k + 1) y0 y1 y2))
  | 0 => ⟨fun _ _ _ r h => by simp [dowellaw09_NameGrows.j0] at h, fun _ _ _ r h => by simp [dowellaw09_NameGrows.l0] at h⟩
  | k + 1 => by
    obtain ⟨ih0, ih1⟩ := dowellaw09_NameGrows.mono_l k
    refine ⟨?_, ?_⟩
    · intro y0 y1 y2
      unfold dowellaw09_NameGrows.j0
      repeat' first
      | (with_reducible exact ih0 _ _ _)
      | (with_reducible exact ih1 _ _ _)
      | (with_reducible exact dowellaw09_up.mono _)
      | (with_reducible exact name_May.mono _ _)
      | (with_reducible exact LeO.refl _)
      | (with_reducible exact LeO.none _)
      | (with_reducible refine LeO.ite ?_ ?_)
      | (with_reducible refine LeO.bind ?_ (fun _ => ?_))
      | exact ih0 _ _ _
      | exact ih1 _ _ _
      | exact dowellaw09_up.mono _
      | exact name_May.mono _ _
      | exact LeO.none _
      | refine LeO.ite ?_ ?_
      | refine LeO.bind ?_ (fun _ => ?_)
    · intro y0 y1 y2
      unfold dowellaw09_NameGrows.l0
      repeat' first
      | (with_reducible exact ih0 _ _ _)
      | (with_reducible exact ih1 _ _ _)
      | (with_reducible exact dowellaw09_up.mono _)
      | (with_reducible exact name_May.mono _ _)
      | (with_reducible exact LeO.refl _)
      | (with_reducible exact LeO.none _)
      | (with_reducible refine LeO.ite ?_ ?_)
      | (with_reducible refine LeO.bind ?_ (fun _ => ?_))
      | exact ih0 _ _ _
      | exact ih1 _ _ _
      | exact dowellaw09_up.mono _
      | exact name_May.mono _ _
      | exact LeO.none _
      | refine LeO.ite ?_ ?_
      | refine LeO.bind ?_ (fun _ => ?_)
theorem dowellaw09_NameGrows.mono : ∀ a0 a1 k, LeO (dowellaw09_NameGrows.f k a0 a1) (dowellaw09_NameGrows.f (k + 1) a0 a1) := by
  intro a0 a1 k
  obtain ⟨ih0, ih1⟩ := dowellaw09_NameGrows.mono_l k
  unfold dowellaw09_NameGrows.f
  repeat' first
      | (with_reducible exact ih0 _ _ _)
      | (with_reducible exact ih1 _ _ _)
      | (with_reducible exact dowellaw09_up.mono _)
      | (with_reducible exact name_May.mono _ _)
      | (with_reducible exact LeO.refl _)
      | (with_reducible exact LeO.none _)
      | (with_reducible refine LeO.ite ?_ ?_)
      | (with_reducible refine LeO.bind ?_ (fun _ => ?_))
      | exact ih0 _ _ _
      | exact ih1 _ _ _
      | exact dowellaw09_up.mono _
      | exact name_May.mono _ _
      | exact LeO.none _
      | refine LeO.ite ?_ ?_
      | refine LeO.bind ?_ (fun _ => ?_)
set_option maxHeartbeats 8000000 in
set_option maxRecDepth 100000 in
theorem dowellaw09_NameGrows.calls (k : Nat) (a0 : ByteArray) (a1 : Int) (r : Bool) (w : World) (h : dowellaw09_NameGrows.f k a0 a1 = some r) :
    Calls Try.prog 4 #[.string a0, .int .i64 a1] w fun e w' => e = .returned (.bool r) ∧ Drawn0 w w' := by
  have H : ((dowellaw09_up.f k).bind fun t106 => ((name_May.f k a0).bind fun t107 => (if t107 = true then (if a0.size + 1 ≤ 9223372036854775807 then ((name_May.f k (a0 ++ (⟨#[97]⟩ : ByteArray))).bind fun t108 => (if (t108 != (decide ((a0.size : Int) < 16))) = true then (dowellaw09_NameGrows.j0 k a0 t106 true) else ((name_May.f k (a0 ++ (⟨#[90]⟩ : ByteArray))).bind fun t109 => (if (t109 != (decide ((a0.size : Int) < 16))) = true then (dowellaw09_NameGrows.j0 k a0 t106 true) else ((name_May.f k (a0 ++ (⟨#[55]⟩ : ByteArray))).bind fun t110 => (if (t110 != (decide ((a0.size : Int) < 16))) = true then (dowellaw09_NameGrows.j0 k a0 t106 true) else ((name_May.f k (a0 ++ (⟨#[95]⟩ : ByteArray))).bind fun t111 => (dowellaw09_NameGrows.j0 k a0 t106 t111)))))))) else (none)) else (some t106)))) = some r := h
  clear h
  replace H := Option.bind_eq_some_iff.mp H
  obtain ⟨t106, A30, H⟩ := H
  replace H : ((name_May.f k a0).bind fun t107 => (if t107 = true then (if a0.size + 1 ≤ 9223372036854775807 then ((name_May.f k (a0 ++ (⟨#[97]⟩ : ByteArray))).bind fun t108 => (if (t108 != (decide ((a0.size : Int) < 16))) = true then (dowellaw09_NameGrows.j0 k a0 t106 true) else ((name_May.f k (a0 ++ (⟨#[90]⟩ : ByteArray))).bind fun t109 => (if (t109 != (decide ((a0.size : Int) < 16))) = true then (dowellaw09_NameGrows.j0 k a0 t106 true) else ((name_May.f k (a0 ++ (⟨#[55]⟩ : ByteArray))).bind fun t110 => (if (t110 != (decide ((a0.size : Int) < 16))) = true then (dowellaw09_NameGrows.j0 k a0 t106 true) else ((name_May.f k (a0 ++ (⟨#[95]⟩ : ByteArray))).bind fun t111 => (dowellaw09_NameGrows.j0 k a0 t106 t111)))))))) else (none)) else (some t106))) = some r := H
  have A3 := Aside0.mk A30
  clear A30
  replace H := Option.bind_eq_some_iff.mp H
  obtain ⟨t107, A40, H⟩ := H
  replace H : (if t107 = true then (if a0.size + 1 ≤ 9223372036854775807 then ((name_May.f k (a0 ++ (⟨#[97]⟩ : ByteArray))).bind fun t108 => (if (t108 != (decide ((a0.size : Int) < 16))) = true then (dowellaw09_NameGrows.j0 k a0 t106 true) else ((name_May.f k (a0 ++ (⟨#[90]⟩ : ByteArray))).bind fun t109 => (if (t109 != (decide ((a0.size : Int) < 16))) = true then (dowellaw09_NameGrows.j0 k a0 t106 true) else ((name_May.f k (a0 ++ (⟨#[55]⟩ : ByteArray))).bind fun t110 => (if (t110 != (decide ((a0.size : Int) < 16))) = true then (dowellaw09_NameGrows.j0 k a0 t106 true) else ((name_May.f k (a0 ++ (⟨#[95]⟩ : ByteArray))).bind fun t111 => (dowellaw09_NameGrows.j0 k a0 t106 t111)))))))) else (none)) else (some t106)) = some r := H
  have A4 := Aside0.mk A40
  clear A40
  by_cases c5 : t107 = true
  · subst c5
    have H1 : (if a0.size + 1 ≤ 9223372036854775807 then ((name_May.f k (a0 ++ (⟨#[97]⟩ : ByteArray))).bind fun t108 => (if (t108 != (decide ((a0.size : Int) < 16))) = true then (dowellaw09_NameGrows.j0 k a0 t106 true) else ((name_May.f k (a0 ++ (⟨#[90]⟩ : ByteArray))).bind fun t109 => (if (t109 != (decide ((a0.size : Int) < 16))) = true then (dowellaw09_NameGrows.j0 k a0 t106 true) else ((name_May.f k (a0 ++ (⟨#[55]⟩ : ByteArray))).bind fun t110 => (if (t110 != (decide ((a0.size : Int) < 16))) = true then (dowellaw09_NameGrows.j0 k a0 t106 true) else ((name_May.f k (a0 ++ (⟨#[95]⟩ : ByteArray))).bind fun t111 => (dowellaw09_NameGrows.j0 k a0 t106 t111)))))))) else (none)) = some r := by rw [if_pos rfl] at H; exact H
    clear H
    have H := H1
    clear H1
    have HC6 := Aside0.mk H
    clear H
    go_enter Try.func4, Try.ntmps4
    go_upto_region 5 with (first | ((with_reducible refine gate_callee (f := 15) rfl ?_); refine goesL_ (some 8) rfl rfl Try.func15 (by kernel_rfl) rfl #[] rfl (by (try simp only [List.map_toArray, List.map_cons, List.map_nil]); first | done | rfl | (simp only [List.length_drop, List.length_take]; rfl)) ?_; (with_reducible refine (dowellaw09_up.calls k  t106 _ A3.out).mono ?_); rintro e w' ⟨rfl, ⟨nd, rfl⟩⟩; refine ⟨_, rfl, ?_⟩) | ((with_reducible refine gate_callee (f := 16) rfl ?_); refine goesL_ (some 10) rfl rfl Try.func16 (by kernel_rfl) rfl #[.string a0] rfl (by (try simp only [List.map_toArray, List.map_cons, List.map_nil]); first | done | rfl | (simp only [List.length_drop, List.length_take]; rfl)) ?_; (with_reducible refine (name_May.calls k a0 true _ A4.out).mono ?_); rintro e w' ⟨rfl, ⟨nd, rfl⟩⟩; refine ⟨_, rfl, ?_⟩))
    (try simp only [Act.put, List.setIfInBounds_toArray, List.set_cons_zero, List.set_cons_succ])
    go_cut [39] (fun v39 wc => ∃ (kq : Nat) (x39_5 : Bool), v39 = .bool x39_5 ∧ Aside0 (dowellaw09_NameGrows.j0 kq a0 t106 x39_5 = some r) ∧ Aside0 (kq ≤ k) ∧ Drawn0 w wc)
    case first =>
      have H := HC6.out
      clear HC6
      by_cases c7 : a0.size + 1 ≤ 9223372036854775807
      · rw [if_pos c7] at H
        have c7b0 := eq_true c7
        have c7b1 : decide (a0.size + 1 ≤ 9223372036854775807) = true := decide_eq_true c7
        try have c7b2 : (9223372036854775807 < a0.size + 1) = False := eq_false (Nat.not_lt.2 c7)
        replace H := Option.bind_eq_some_iff.mp H
        obtain ⟨t108, A80, H⟩ := H
        replace H : (if (t108 != (decide ((a0.size : Int) < 16))) = true then (dowellaw09_NameGrows.j0 k a0 t106 true) else ((name_May.f k (a0 ++ (⟨#[90]⟩ : ByteArray))).bind fun t109 => (if (t109 != (decide ((a0.size : Int) < 16))) = true then (dowellaw09_NameGrows.j0 k a0 t106 true) else ((name_May.f k (a0 ++ (⟨#[55]⟩ : ByteArray))).bind fun t110 => (if (t110 != (decide ((a0.size : Int) < 16))) = true then (dowellaw09_NameGrows.j0 k a0 t106 true) else ((name_May.f k (a0 ++ (⟨#[95]⟩ : ByteArray))).bind fun t111 => (dowellaw09_NameGrows.j0 k a0 t106 t111))))))) = some r := H
        have A8 := Aside0.mk A80
        clear A80
        by_cases c9 : (t108 != (decide ((a0.size : Int) < 16))) = true
        · rw [if_pos c9] at H
          have c9b0 : (t108 != (decide ((a0.size : Int) < 16))) = true := c9
          (try (have c9b1 : decide (t108 = (decide ((a0.size : Int) < 16))) = false := by simpa using c9))
          (try (have c9b2 : (t108 == (decide ((a0.size : Int) < 16))) = false := by simpa using c9))
          (try (have c9b3 : ¬ (t108 = (decide ((a0.size : Int) < 16))) := by simpa using c9))
          clear c9
          (first | rw [c9b0] | (simp only [i64_w, i32_w]; rw [c9b0]) | skip)
          have H' := Aside0.mk H
          clear H
          go_wp2_with (first | ((with_reducible refine gate_callee (f := 16) rfl ?_); refine goesL_ (some 18) rfl rfl Try.func16 (by kernel_rfl) rfl #[.string (a0 ++ (⟨#[97]⟩ : ByteArray))] rfl (by (try simp only [List.map_toArray, List.map_cons, List.map_nil]); first | done | rfl | (simp only [List.length_drop, List.length_take]; rfl)) ?_; (with_reducible refine (name_May.calls k (a0 ++ (⟨#[97]⟩ : ByteArray)) t108 _ A8.out).mono ?_); rintro e w' ⟨rfl, ⟨nd, rfl⟩⟩; refine ⟨_, rfl, ?_⟩))
          go_meet
          case rel => exact ⟨_, (true), (by first | rfl | (simp; done) | (simp [*]; done)), H', ⟨by first | omega | exact Nat.le_refl _⟩, by repeat (first | exact Drawn0.refl _ | apply Drawn0.step)⟩
        · rw [if_neg c9] at H
          have c9b0 : (t108 != (decide ((a0.size : Int) < 16))) = false := by simpa using c9
          (try (have c9b1 : decide (t108 = (decide ((a0.size : Int) < 16))) = true := by simpa using c9))
          (try (have c9b2 : (t108 == (decide ((a0.size : Int) < 16))) = true := by simpa using c9))
          clear c9
          (first | rw [c9b0] | (simp only [i64_w, i32_w]; rw [c9b0]) | skip)
          replace H := Option.bind_eq_some_iff.mp H
          obtain ⟨t109, A100, H⟩ := H
          replace H : (if (t109 != (decide ((a0.size : Int) < 16))) = true then (dowellaw09_NameGrows.j0 k a0 t106 true) else ((name_May.f k (a0 ++ (⟨#[55]⟩ : ByteArray))).bind fun t110 => (if (t110 != (decide ((a0.size : Int) < 16))) = true then (dowellaw09_NameGrows.j0 k a0 t106 true) else ((name_May.f k (a0 ++ (⟨#[95]⟩ : ByteArray))).bind fun t111 => (dowellaw09_NameGrows.j0 k a0 t106 t111))))) = some r := H
          have A10 := Aside0.mk A100
          clear A100
          by_cases c11 : (t109 != (decide ((a0.size : Int) < 16))) = true
          · rw [if_pos c11] at H
            have c11b0 : (t109 != (decide ((a0.size : Int) < 16))) = true := c11
            (try (have c11b1 : decide (t109 = (decide ((a0.size : Int) < 16))) = false := by simpa using c11))
            (try (have c11b2 : (t109 == (decide ((a0.size : Int) < 16))) = false := by simpa using c11))
            (try (have c11b3 : ¬ (t109 = (decide ((a0.size : Int) < 16))) := by simpa using c11))
            clear c11
            have H' := Aside0.mk H
            clear H
            go_wp2_with (first | ((with_reducible refine gate_callee (f := 16) rfl ?_); refine goesL_ (some 18) rfl rfl Try.func16 (by kernel_rfl) rfl #[.string (a0 ++ (⟨#[97]⟩ : ByteArray))] rfl (by (try simp only [List.map_toArray, List.map_cons, List.map_nil]); first | done | rfl | (simp only [List.length_drop, List.length_take]; rfl)) ?_; (with_reducible refine (name_May.calls k (a0 ++ (⟨#[97]⟩ : ByteArray)) t108 _ A8.out).mono ?_); rintro e w' ⟨rfl, ⟨nd, rfl⟩⟩; refine ⟨_, rfl, ?_⟩) | (go_at_call 16; (with_reducible refine (name_May.calls k (a0 ++ (⟨#[90]⟩ : ByteArray)) t109 _ A10.out).mono ?_); rintro e w' ⟨rfl, ⟨nd, rfl⟩⟩))
            go_meet
            case rel => exact ⟨_, (true), (by first | rfl | (simp; done) | (simp [*]; done)), H', ⟨by first | omega | exact Nat.le_refl _⟩, by repeat (first | exact Drawn0.refl _ | apply Drawn0.step)⟩
          · rw [if_neg c11] at H
            have c11b0 : (t109 != (decide ((a0.size : Int) < 16))) = false := by simpa using c11
            (try (have c11b1 : decide (t109 = (decide ((a0.size : Int) < 16))) = true := by simpa using c11))
            (try (have c11b2 : (t109 == (decide ((a0.size : Int) < 16))) = true := by simpa using c11))
            clear c11
            replace H := Option.bind_eq_some_iff.mp H
            obtain ⟨t110, A120, H⟩ := H
            replace H : (if (t110 != (decide ((a0.size : Int) < 16))) = true then (dowellaw09_NameGrows.j0 k a0 t106 true) else ((name_May.f k (a0 ++ (⟨#[95]⟩ : ByteArray))).bind fun t111 => (dowellaw09_NameGrows.j0 k a0 t106 t111))) = some r := H
            have A12 := Aside0.mk A120
            clear A120
            by_cases c13 : (t110 != (decide ((a0.size : Int) < 16))) = true
            · rw [if_pos c13] at H
              have c13b0 : (t110 != (decide ((a0.size : Int) < 16))) = true := c13
              (try (have c13b1 : decide (t110 = (decide ((a0.size : Int) < 16))) = false := by simpa using c13))
              (try (have c13b2 : (t110 == (decide ((a0.size : Int) < 16))) = false := by simpa using c13))
              (try (have c13b3 : ¬ (t110 = (decide ((a0.size : Int) < 16))) := by simpa using c13))
              clear c13
              have H' := Aside0.mk H
              clear H
              go_wp2_with (first | ((with_reducible refine gate_callee (f := 16) rfl ?_); refine goesL_ (some 18) rfl rfl Try.func16 (by kernel_rfl) rfl #[.string (a0 ++ (⟨#[97]⟩ : ByteArray))] rfl (by (try simp only [List.map_toArray, List.map_cons, List.map_nil]); first | done | rfl | (simp only [List.length_drop, List.length_take]; rfl)) ?_; (with_reducible refine (name_May.calls k (a0 ++ (⟨#[97]⟩ : ByteArray)) t108 _ A8.out).mono ?_); rintro e w' ⟨rfl, ⟨nd, rfl⟩⟩; refine ⟨_, rfl, ?_⟩) | (go_at_call 16; (with_reducible refine (name_May.calls k (a0 ++ (⟨#[90]⟩ : ByteArray)) t109 _ A10.out).mono ?_); rintro e w' ⟨rfl, ⟨nd, rfl⟩⟩) | (go_at_call 16; (with_reducible refine (name_May.calls k (a0 ++ (⟨#[55]⟩ : ByteArray)) t110 _ A12.out).mono ?_); rintro e w' ⟨rfl, ⟨nd, rfl⟩⟩))
              go_meet
              case rel => exact ⟨_, (true), (by first | rfl | (simp; done) | (simp [*]; done)), H', ⟨by first | omega | exact Nat.le_refl _⟩, by repeat (first | exact Drawn0.refl _ | apply Drawn0.step)⟩
            · rw [if_neg c13] at H
              have c13b0 : (t110 != (decide ((a0.size : Int) < 16))) = false := by simpa using c13
              (try (have c13b1 : decide (t110 = (decide ((a0.size : Int) < 16))) = true := by simpa using c13))
              (try (have c13b2 : (t110 == (decide ((a0.size : Int) < 16))) = true := by simpa using c13))
              clear c13
              replace H := Option.bind_eq_some_iff.mp H
              obtain ⟨t111, A140, H⟩ := H
              replace H : (dowellaw09_NameGrows.j0 k a0 t106 t111) = some r := H
              have A14 := Aside0.mk A140
              clear A140
              have H' := Aside0.mk H
              clear H
              go_wp2_with (first | ((with_reducible refine gate_callee (f := 16) rfl ?_); refine goesL_ (some 18) rfl rfl Try.func16 (by kernel_rfl) rfl #[.string (a0 ++ (⟨#[97]⟩ : ByteArray))] rfl (by (try simp only [List.map_toArray, List.map_cons, List.map_nil]); first | done | rfl | (simp only [List.length_drop, List.length_take]; rfl)) ?_; (with_reducible refine (name_May.calls k (a0 ++ (⟨#[97]⟩ : ByteArray)) t108 _ A8.out).mono ?_); rintro e w' ⟨rfl, ⟨nd, rfl⟩⟩; refine ⟨_, rfl, ?_⟩) | (go_at_call 16; (with_reducible refine (name_May.calls k (a0 ++ (⟨#[90]⟩ : ByteArray)) t109 _ A10.out).mono ?_); rintro e w' ⟨rfl, ⟨nd, rfl⟩⟩) | (go_at_call 16; (with_reducible refine (name_May.calls k (a0 ++ (⟨#[55]⟩ : ByteArray)) t110 _ A12.out).mono ?_); rintro e w' ⟨rfl, ⟨nd, rfl⟩⟩) | (go_at_call 16; (with_reducible refine (name_May.calls k (a0 ++ (⟨#[95]⟩ : ByteArray)) t111 _ A14.out).mono ?_); rintro e w' ⟨rfl, ⟨nd, rfl⟩⟩))
              go_meet
              case rel => exact ⟨_, (t111), (by first | rfl | (simp; done) | (simp [*]; done)), H', ⟨by first | omega | exact Nat.le_refl _⟩, by repeat (first | exact Drawn0.refl _ | apply Drawn0.step)⟩
      · rw [if_neg c7] at H
        exact absurd H (by simp)
    case rest =>
      clear HC6
      try clear c1
      try clear p2
      try clear c4
      try clear c5
      try clear c7
      try clear c7b0
      try clear c7b1
      try clear c7b2
      try clear c9
      try clear c9b0
      try clear c9b1
      try clear c9b2
      try clear c11
      try clear c11b0
      try clear c11b1
      try clear c11b2
      try clear c13
      try clear c13b0
      try clear c13b1
      try clear c13b2
      obtain ⟨kq, x39_5, rfl, HA, HJ5, ⟨mc5, rfl⟩⟩ := hcut
      cases kq with
      | zero => exact absurd HA.out (by simp [dowellaw09_NameGrows.j0])
      | succ kj5 =>
        have H := HA.out
        clear HA
        simp only [dowellaw09_NameGrows.j0] at H
        by_cases c15 : x39_5 = true
        · subst c15
          have H1 : (some false) = some r := by rw [if_pos rfl] at H; exact H
          clear H
          have H := H1
          clear H1
          obtain rfl := Option.some.inj H
          go_wp2
          go_ret
          exact ⟨by first | rfl | (simp; done) | (simp [*]; done), by repeat (first | exact Drawn0.refl _ | apply Drawn0.step)⟩
        · replace c15 := Bool.eq_false_iff.mpr c15
          subst c15
          have H1 : (dowellaw09_NameGrows.l0 kj5 a0 t106 0) = some r := by rw [if_neg (show ¬ (false = true) by decide)] at H; exact H
          clear H
          have H := H1
          clear H1
          have H' := Aside0.mk H
          clear H
          go_wp2
          go_loopg [7] kj5 (fun kq v7 w' => ∃ (x7_2 : Int), v7 = .int .i64 x7_2 ∧ Aside0 (dowellaw09_NameGrows.l0 kq a0 t106 x7_2 = some r) ∧ Aside0 (kq ≤ kj5) ∧ Drawn0 w w')
          case atStart => exact ⟨(0), (by first | rfl | (simp; done) | (simp [*]; done)), H', ⟨Nat.le_refl _⟩, by repeat (first | exact Drawn0.refl _ | apply Drawn0.step)⟩
          case round =>
            clear H'
            try clear c1
            try clear p2
            try clear c4
            try clear c5
            try clear c7
            try clear c7b0
            try clear c7b1
            try clear c7b2
            try clear c9
            try clear c9b0
            try clear c9b1
            try clear c9b2
            try clear c11
            try clear c11b0
            try clear c11b1
            try clear c11b2
            try clear c13
            try clear c13b0
            try clear c13b1
            try clear c13b2
            try clear c15
            try clear p2
            obtain ⟨x7_2, rfl, HA, HK2, ⟨m2, rfl⟩⟩ := hrel
            cases gk with
            | zero => exact absurd HA.out (by simp [dowellaw09_NameGrows.l0])
            | succ k2 =>
              have H := HA.out
              clear HA
              simp only [dowellaw09_NameGrows.l0] at H
              by_cases c16 : x7_2 ≤ (a0.size : Int)
              · rw [if_pos c16] at H
                have c16b0 : decide (x7_2 ≤ (a0.size : Int)) = true := decide_eq_true c16
                clear c16
                by_cases c17 : 0 ≤ x7_2
                · rw [if_pos c17] at H
                  have c17b0 := eq_true c17
                  have c17b1 : decide (0 ≤ x7_2) = true := decide_eq_true c17
                  clear c17
                  have c18b0 := eq_true (of_decide_eq_true (by first | (with_reducible assumption) | assumption) : x7_2 ≤ (a0.size : Int))
                  replace H := Option.bind_eq_some_iff.mp H
                  obtain ⟨t112, A190, H⟩ := H
                  replace H : (if (t112 != (decide (x7_2 > 0))) = true then (some false) else (dowellaw09_NameGrows.l0 k2 a0 t106 (wrap64 (x7_2 + 1)))) = some r := H
                  have A19 := Aside0.mk A190
                  clear A190
                  by_cases c20 : (t112 != (decide (x7_2 > 0))) = true
                  · rw [if_pos c20] at H
                    have c20b0 : (t112 != (decide (x7_2 > 0))) = true := c20
                    (try (have c20b1 : decide (t112 = (decide (x7_2 > 0))) = false := by simpa using c20))
                    (try (have c20b2 : (t112 == (decide (x7_2 > 0))) = false := by simpa using c20))
                    (try (have c20b3 : ¬ (t112 = (decide (x7_2 > 0))) := by simpa using c20))
                    clear c20
                    obtain rfl := Option.some.inj H
                    go_wp2_with (first | ((with_reducible refine gate_callee (f := 16) rfl ?_); refine goesL_ (some 49) rfl rfl Try.func16 (by kernel_rfl) rfl #[.string (a0.extract 0 (x7_2 : Int).toNat)] rfl (by (try simp only [List.map_toArray, List.map_cons, List.map_nil]); first | done | rfl | (simp only [List.length_drop, List.length_take]; rfl)) ?_; (with_reducible refine (name_May.calls k2 (a0.extract 0 (x7_2 : Int).toNat) t112 _ A19.out).mono ?_); rintro e w' ⟨rfl, ⟨nd, rfl⟩⟩; refine ⟨_, rfl, ?_⟩))
                    go_ret
                    exact ⟨by first | rfl | (simp; done) | (simp [*]; done), by repeat (first | exact Drawn0.refl _ | apply Drawn0.step)⟩
                  · rw [if_neg c20] at H
                    have c20b0 : (t112 != (decide (x7_2 > 0))) = false := by simpa using c20
                    (try (have c20b1 : decide (t112 = (decide (x7_2 > 0))) = true := by simpa using c20))
                    (try (have c20b2 : (t112 == (decide (x7_2 > 0))) = true := by simpa using c20))
                    clear c20
                    have H' := Aside0.mk H
                    clear H
                    go_wp2_with (first | ((with_reducible refine gate_callee (f := 16) rfl ?_); refine goesL_ (some 49) rfl rfl Try.func16 (by kernel_rfl) rfl #[.string (a0.extract 0 (x7_2 : Int).toNat)] rfl (by (try simp only [List.map_toArray, List.map_cons, List.map_nil]); first | done | rfl | (simp only [List.length_drop, List.length_take]; rfl)) ?_; (with_reducible refine (name_May.calls k2 (a0.extract 0 (x7_2 : Int).toNat) t112 _ A19.out).mono ?_); rintro e w' ⟨rfl, ⟨nd, rfl⟩⟩; refine ⟨_, rfl, ?_⟩))
                    go_roundg k2
                    case measure => have := HJ5.out; have := HK2.out; omega
                    case rel => exact ⟨(wrap64 (x7_2 + 1)), (by first | rfl | (simp; done) | (simp [*]; done)), H', ⟨by have := HJ5.out; have := HK2.out; omega⟩, by repeat (first | exact Drawn0.refl _ | apply Drawn0.step)⟩
                · rw [if_neg c17] at H
                  exact absurd H (by simp)
              · rw [if_neg c16] at H
                have c16b0 : decide (x7_2 ≤ (a0.size : Int)) = false := decide_eq_false c16
                clear c16
                obtain rfl := Option.some.inj H
                go_wp2
                go_ret
                exact ⟨by first | rfl | (simp; done) | (simp [*]; done), by repeat (first | exact Drawn0.refl _ | apply Drawn0.step)⟩
  · replace c5 := Bool.eq_false_iff.mpr c5
    subst c5
    have H1 : (some t106) = some r := by rw [if_neg (show ¬ (false = true) by decide)] at H; exact H
    clear H
    have H := H1
    clear H1
    obtain rfl := Option.some.inj H
    go_enter Try.func4, Try.ntmps4
    go_wp2_with (first | ((with_reducible refine gate_callee (f := 15) rfl ?_); refine goesL_ (some 8) rfl rfl Try.func15 (by kernel_rfl) rfl #[] rfl (by (try simp only [List.map_toArray, List.map_cons, List.map_nil]); first | done | rfl | (simp only [List.length_drop, List.length_take]; rfl)) ?_; (with_reducible refine (dowellaw09_up.calls k  t106 _ A3.out).mono ?_); rintro e w' ⟨rfl, ⟨nd, rfl⟩⟩; refine ⟨_, rfl, ?_⟩) | ((with_reducible refine gate_callee (f := 16) rfl ?_); refine goesL_ (some 10) rfl rfl Try.func16 (by kernel_rfl) rfl #[.string a0] rfl (by (try simp only [List.map_toArray, List.map_cons, List.map_nil]); first | done | rfl | (simp only [List.length_drop, List.length_take]; rfl)) ?_; (with_reducible refine (name_May.calls k a0 false _ A4.out).mono ?_); rintro e w' ⟨rfl, ⟨nd, rfl⟩⟩; refine ⟨_, rfl, ?_⟩))
    go_ret
    exact ⟨by first | rfl | (simp; done) | (simp [*]; done), by repeat (first | exact Drawn0.refl _ | apply Drawn0.step)⟩

/-- THE ONE PURE STATEMENT of dowellaw09_NameGrows: yours. -/
def dowellaw09_NameGrows.Pure : Prop := ∀ (a0 : ByteArray) (a1 : Int), a0.size ≤ 140737488351232 → (Lit.int .i64 a1).wf = true → ∃ k, dowellaw09_NameGrows.f k a0 a1 = some true
theorem dowellaw09_NameGrows.walk (P : dowellaw09_NameGrows.Pure) (a0 : ByteArray) (a1 : Int) (w : World) (w0 : a0.size ≤ 140737488351232) (w1 : (Lit.int .i64 a1).wf = true) :
    Calls Try.prog 4 #[.string a0, .int .i64 a1] w fun e w' => e = .returned (.bool true) ∧ Below w.heap.size w w' := by
  obtain ⟨k, h⟩ := P a0 a1 w0 w1
  refine (dowellaw09_NameGrows.calls k a0 a1 true w h).mono ?_
  rintro e w' ⟨rfl, hd⟩
  exact ⟨rfl, hd.below⟩

end Go.Proofs.Ytfoecgcjipckmaa.PNameGrows
