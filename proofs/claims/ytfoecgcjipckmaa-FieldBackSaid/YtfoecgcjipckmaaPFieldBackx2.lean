-- PRINTED BY print.sh 35421559b90ae4d0a3588c463048766b98c2df88dd9212a6774a882060cdf62d: not written by this session
import Derived.Test.YtfoecgcjipckmaaPFieldBackx0
import Derived.Test.YtfoecgcjipckmaaPFieldBackx1
namespace Go.Proofs.Ytfoecgcjipckmaa.PFieldBack
open Go.RowKit Go.Proofs.YtfoecgcjipckmaaW.PrintWords Go.Proofs.YtfoecgcjipckmaaW.PrintLast Go.Proofs.YtfoecgcjipckmaaW.PrintMore
attribute [local go_sem] max2_int min2_int max_two min_two max_three min_three max_four min_four   -- for this text's walks alone
set_option linter.unusedVariables false
set_option linter.unusedSimpArgs false

/-! ### dowellaw01_FieldBack: function 7 -/
mutual
def dowellaw01_FieldBack.j0 : Nat → Int → Int → Int → Int → Int → Bool → Bool → Option (Bool)
  | 0, _, _, _, _, _, _, _ => none
  | k + 1, x0, x1, x2, x3, x4, x11, x42 => if x42 = true then (some x11) else ((field_Put.f x0 x1 x2 x3).bind fun t125 => ((field_Get.f x0 x1 x2).bind fun t126 => ((field_Put.f t125 x1 x2 t126).bind fun t127 => (if t127 = x0 then ((field_Get.f t125 x1 x2).bind fun t128 => ((field_Get.f x3 0 x2).bind fun t129 => (dowellaw01_FieldBack.j1 k x0 x1 x2 x3 x4 x11 t125 (t128 != t129)))) else (dowellaw01_FieldBack.j1 k x0 x1 x2 x3 x4 x11 t125 true)))))
def dowellaw01_FieldBack.j1 : Nat → Int → Int → Int → Int → Int → Bool → Int → Bool → Option (Bool)
  | 0, _, _, _, _, _, _, _, _ => none
  | k + 1, x0, x1, x2, x3, x4, x11, x12, x68 => if x68 = true then (some false) else (if x4 < x1 then (dowellaw01_FieldBack.j2 k x0 x1 x3 x4 x11 x12 true) else (dowellaw01_FieldBack.j2 k x0 x1 x3 x4 x11 x12 (decide (x4 ≥ (wrap64 (x1 + x2))))))
def dowellaw01_FieldBack.j2 : Nat → Int → Int → Int → Int → Bool → Int → Bool → Option (Bool)
  | 0, _, _, _, _, _, _, _ => none
  | k + 1, x0, x1, x3, x4, x11, x12, x78 => if x78 = true then (if x11 = true then ((field_Get.f x12 x4 1).bind fun t130 => ((field_Get.f x0 x4 1).bind fun t131 => (some (t130 == t131)))) else (some false)) else (if x11 = true then ((field_Get.f x12 x4 1).bind fun t132 => ((field_Get.f x3 (wrap64 (x4 - x1)) 1).bind fun t133 => (some (t132 == t133)))) else (some false))
end
def dowellaw01_FieldBack.f (k : Nat) (a0 : Int) (a1 : Int) (a2 : Int) (a3 : Int) (a4 : Int) : Option (Bool) := (dowellaw01_up.f k).bind fun t120 => ((field_Bytes.f a0).bind fun t121 => ((field_Word.f k t121).bind fun t124 => (if t124 = a0 then (if a2 < 1 then (dowellaw01_FieldBack.j0 k a0 a1 a2 a3 a4 t120 true) else (if a2 > 32 then (dowellaw01_FieldBack.j0 k a0 a1 a2 a3 a4 t120 true) else (if a1 < 0 then (dowellaw01_FieldBack.j0 k a0 a1 a2 a3 a4 t120 true) else (if a1 > (wrap64 (32 - a2)) then (dowellaw01_FieldBack.j0 k a0 a1 a2 a3 a4 t120 true) else (if a4 < 0 then (dowellaw01_FieldBack.j0 k a0 a1 a2 a3 a4 t120 true) else (dowellaw01_FieldBack.j0 k a0 a1 a2 a3 a4 t120 (decide (a4 > 31)))))))) else (some false))))
theorem dowellaw01_FieldBack.mono_l : ∀ k, (∀ y0 y1 y2 y3 y4 y5 y6, LeO (dowellaw01_FieldBack.j0 k y0 y1 y2 y3 y4 y5 y6) (dowellaw01_FieldBack.j0 (k + 1) y0 y1 y2 y3 y4 y5 y6)) ∧ (∀ y0 y1 y2 y3 y4 y5 y6 y7, LeO (dowellaw01_FieldBack.j1 k y0 y1 y2 y3 y4 y5 y6 y7) (dowellaw01_FieldBack.j1 (k + 1) y0 y1 y2 y3 y4 y5 y6 y7)) ∧ (∀ y0 y1 y2 y3 y4 y5 y6, LeO (dowellaw01_FieldBack.j2 k y0 y1 y2 y3 y4 y5 y6) (dowellaw01_FieldBack.j2 (k + 1) y0 y1 y2 y3 y4 y5 y6))
  | 0 => ⟨fun _ _ _ _ _ _ _ r h => by simp [dowellaw01_FieldBack.j0] at h, fun _ _ _ _ _ _ _ _ r h => by simp [dowellaw01_FieldBack.j1] at h, fun _ _ _ _ _ _ _ r h => by simp [dowellaw01_FieldBack.j2] at h⟩
  | k + 1 => by
    obtain ⟨ih0, ih1, ih2⟩ := dowellaw01_FieldBack.mono_l k
    refine ⟨?_, ?_, ?_⟩
    · intro y0 y1 y2 y3 y4 y5 y6
      unfold dowellaw01_FieldBack.j0
      repeat' first
      | (with_reducible exact ih0 _ _ _ _ _ _ _)
      | (with_reducible exact ih1 _ _ _ _ _ _ _ _)
      | (with_reducible exact ih2 _ _ _ _ _ _ _)
      | (with_reducible exact dowellaw01_up.mono _)
      | (with_reducible exact field_Word.mono _ _)
      | (with_reducible exact LeO.refl _)
      | (with_reducible exact LeO.none _)
      | (with_reducible refine LeO.ite ?_ ?_)
      | (with_reducible refine LeO.bind ?_ (fun _ => ?_))
      | exact ih0 _ _ _ _ _ _ _
      | exact ih1 _ _ _ _ _ _ _ _
      | exact ih2 _ _ _ _ _ _ _
      | exact dowellaw01_up.mono _
      | exact field_Word.mono _ _
      | exact LeO.none _
      | refine LeO.ite ?_ ?_
      | refine LeO.bind ?_ (fun _ => ?_)
    · intro y0 y1 y2 y3 y4 y5 y6 y7
      unfold dowellaw01_FieldBack.j1
      repeat' first
      | (with_reducible exact ih0 _ _ _ _ _ _ _)
      | (with_reducible exact ih1 _ _ _ _ _ _ _ _)
      | (with_reducible exact ih2 _ _ _ _ _ _ _)
      | (with_reducible exact dowellaw01_up.mono _)
      | (with_reducible exact field_Word.mono _ _)
      | (with_reducible exact LeO.refl _)
      | (with_reducible exact LeO.none _)
      | (with_reducible refine LeO.ite ?_ ?_)
      | (with_reducible refine LeO.bind ?_ (fun _ => ?_))
      | exact ih0 _ _ _ _ _ _ _
      | exact ih1 _ _ _ _ _ _ _ _
      | exact ih2 _ _ _ _ _ _ _
      | exact dowellaw01_up.mono _
      | exact field_Word.mono _ _
      | exact LeO.none _
      | refine LeO.ite ?_ ?_
      | refine LeO.bind ?_ (fun _ => ?_)
    · intro y0 y1 y2 y3 y4 y5 y6
      unfold dowellaw01_FieldBack.j2
      repeat' first
      | (with_reducible exact ih0 _ _ _ _ _ _ _)
      | (with_reducible exact ih1 _ _ _ _ _ _ _ _)
      | (with_reducible exact ih2 _ _ _ _ _ _ _)
      | (with_reducible exact dowellaw01_up.mono _)
      | (with_reducible exact field_Word.mono _ _)
      | (with_reducible exact LeO.refl _)
      | (with_reducible exact LeO.none _)
      | (with_reducible refine LeO.ite ?_ ?_)
      | (with_reducible refine LeO.bind ?_ (fun _ => ?_))
      | exact ih0 _ _ _ _ _ _ _
      | exact ih1 _ _ _ _ _ _ _ _
      | exact ih2 _ _ _ _ _ _ _
      | exact dowellaw01_up.mono _
      | exact field_Word.mono _ _
      | exact LeO.none _
      | refine LeO.ite ?_ ?_
      | refine LeO.bind ?_ (fun _ => ?_)
theorem dowellaw01_FieldBack.mono : ∀ a0 a1 a2 a3 a4 k, LeO (dowellaw01_FieldBack.f k a0 a1 a2 a3 a4) (dowellaw01_FieldBack.f (k + 1) a0 a1 a2 a3 a4) := by
  intro a0 a1 a2 a3 a4 k
  obtain ⟨ih0, ih1, ih2⟩ := dowellaw01_FieldBack.mono_l k
  unfold dowellaw01_FieldBack.f
  repeat' first
      | (with_reducible exact ih0 _ _ _ _ _ _ _)
      | (with_reducible exact ih1 _ _ _ _ _ _ _ _)
      | (with_reducible exact ih2 _ _ _ _ _ _ _)
      | (with_reducible exact dowellaw01_up.mono _)
      | (with_reducible exact field_Word.mono _ _)
      | (with_reducible exact LeO.refl _)
      | (with_reducible exact LeO.none _)
      | (with_reducible refine LeO.ite ?_ ?_)
      | (with_reducible refine LeO.bind ?_ (fun _ => ?_))
      | exact ih0 _ _ _ _ _ _ _
      | exact ih1 _ _ _ _ _ _ _ _
      | exact ih2 _ _ _ _ _ _ _
      | exact dowellaw01_up.mono _
      | exact field_Word.mono _ _
      | exact LeO.none _
      | refine LeO.ite ?_ ?_
      | refine LeO.bind ?_ (fun _ => ?_)
set_option maxHeartbeats 8000000 in
set_option maxRecDepth 100000 in
theorem dowellaw01_FieldBack.calls (k : Nat) (a0 : Int) (a1 : Int) (a2 : Int) (a3 : Int) (a4 : Int) (r : Bool) (w : World) (h : dowellaw01_FieldBack.f k a0 a1 a2 a3 a4 = some r) :
    Calls Try.prog 7 #[.int .u32 a0, .int .i64 a1, .int .i64 a2, .int .u32 a3, .int .i64 a4] w fun e w' => e = .returned (.bool r) ∧ Below w.heap.size w w' := by
  have HB := Aside0.mk (Below.refl w.heap.size w)
  have H : ((dowellaw01_up.f k).bind fun t120 => ((field_Bytes.f a0).bind fun t121 => ((field_Word.f k t121).bind fun t124 => (if t124 = a0 then (if a2 < 1 then (dowellaw01_FieldBack.j0 k a0 a1 a2 a3 a4 t120 true) else (if a2 > 32 then (dowellaw01_FieldBack.j0 k a0 a1 a2 a3 a4 t120 true) else (if a1 < 0 then (dowellaw01_FieldBack.j0 k a0 a1 a2 a3 a4 t120 true) else (if a1 > (wrap64 (32 - a2)) then (dowellaw01_FieldBack.j0 k a0 a1 a2 a3 a4 t120 true) else (if a4 < 0 then (dowellaw01_FieldBack.j0 k a0 a1 a2 a3 a4 t120 true) else (dowellaw01_FieldBack.j0 k a0 a1 a2 a3 a4 t120 (decide (a4 > 31)))))))) else (some false))))) = some r := h
  clear h
  replace H := Option.bind_eq_some_iff.mp H
  obtain ⟨t120, A60, H⟩ := H
  replace H : ((field_Bytes.f a0).bind fun t121 => ((field_Word.f k t121).bind fun t124 => (if t124 = a0 then (if a2 < 1 then (dowellaw01_FieldBack.j0 k a0 a1 a2 a3 a4 t120 true) else (if a2 > 32 then (dowellaw01_FieldBack.j0 k a0 a1 a2 a3 a4 t120 true) else (if a1 < 0 then (dowellaw01_FieldBack.j0 k a0 a1 a2 a3 a4 t120 true) else (if a1 > (wrap64 (32 - a2)) then (dowellaw01_FieldBack.j0 k a0 a1 a2 a3 a4 t120 true) else (if a4 < 0 then (dowellaw01_FieldBack.j0 k a0 a1 a2 a3 a4 t120 true) else (dowellaw01_FieldBack.j0 k a0 a1 a2 a3 a4 t120 (decide (a4 > 31)))))))) else (some false)))) = some r := H
  have A6 := Aside0.mk A60
  clear A60
  replace H := Option.bind_eq_some_iff.mp H
  obtain ⟨t121, A70, H⟩ := H
  replace H : ((field_Word.f k t121).bind fun t124 => (if t124 = a0 then (if a2 < 1 then (dowellaw01_FieldBack.j0 k a0 a1 a2 a3 a4 t120 true) else (if a2 > 32 then (dowellaw01_FieldBack.j0 k a0 a1 a2 a3 a4 t120 true) else (if a1 < 0 then (dowellaw01_FieldBack.j0 k a0 a1 a2 a3 a4 t120 true) else (if a1 > (wrap64 (32 - a2)) then (dowellaw01_FieldBack.j0 k a0 a1 a2 a3 a4 t120 true) else (if a4 < 0 then (dowellaw01_FieldBack.j0 k a0 a1 a2 a3 a4 t120 true) else (dowellaw01_FieldBack.j0 k a0 a1 a2 a3 a4 t120 (decide (a4 > 31)))))))) else (some false))) = some r := H
  have A7 := Aside0.mk A70
  clear A70
  replace H := Option.bind_eq_some_iff.mp H
  obtain ⟨t124, A80, H⟩ := H
  replace H : (if t124 = a0 then (if a2 < 1 then (dowellaw01_FieldBack.j0 k a0 a1 a2 a3 a4 t120 true) else (if a2 > 32 then (dowellaw01_FieldBack.j0 k a0 a1 a2 a3 a4 t120 true) else (if a1 < 0 then (dowellaw01_FieldBack.j0 k a0 a1 a2 a3 a4 t120 true) else (if a1 > (wrap64 (32 - a2)) then (dowellaw01_FieldBack.j0 k a0 a1 a2 a3 a4 t120 true) else (if a4 < 0 then (dowellaw01_FieldBack.j0 k a0 a1 a2 a3 a4 t120 true) else (dowellaw01_FieldBack.j0 k a0 a1 a2 a3 a4 t120 (decide (a4 > 31)))))))) else (some false)) = some r := H
  have A8 := Aside0.mk A80
  clear A80
  by_cases c9 : t124 = a0
  · rw [if_pos c9] at H
    have c9b0 : (t124 == a0) = true := beq_iff_eq.mpr c9
    have c9b1 : (t124 != a0) = false := bne_eq_false_iff_eq.mpr c9
    clear c9
    have HC10 := Aside0.mk H
    clear H
    go_enter Try.func7, Try.ntmps7
    go_upto_region 4 with (first | ((with_reducible refine gate_callee (f := 18) rfl ?_); refine goesL_ (some 13) rfl rfl Try.func18 (by kernel_rfl) rfl #[] rfl (by (try simp only [List.map_toArray, List.map_cons, List.map_nil]); first | done | rfl | (simp only [List.length_drop, List.length_take]; rfl)) ?_; (with_reducible refine (dowellaw01_up.calls k  t120 _ A6.out).mono ?_); rintro e w11 ⟨rfl, hb⟩; refine ⟨_, rfl, ?_⟩; have n0_ := Aside0.mk (below_step (by repeat (first | (with_reducible first | exact HB.out | apply below_alloc | apply pw_below_drewN | apply below_drew1) | exact HB.out)) hb); clear HB; have HB := n0_; clear n0_; (try clear hb); (try clear hb2); (try clear hk); (try clear hi)) | ((with_reducible refine gate_callee (f := 27) rfl ?_); refine goesL_ (some 15) rfl rfl Try.func27 (by kernel_rfl) rfl #[.int .u32 a0] rfl (by (try simp only [List.map_toArray, List.map_cons, List.map_nil]); first | done | rfl | (simp only [List.length_drop, List.length_take]; rfl)) ?_; (with_reducible refine (field_Bytes.calls a0 t121 _ A7.out).mono ?_); rintro e w12 ⟨v122, rfl, ho0, hb⟩; refine ⟨_, rfl, ?_⟩; have n0_ := Aside0.mk (Kd.R_lower ho0 (below_size (by repeat (first | (with_reducible first | exact HB.out | apply below_alloc | apply pw_below_drewN | apply below_drew1) | exact HB.out)))); have n1_ := Aside0.mk (below_step (by repeat (first | (with_reducible first | exact HB.out | apply below_alloc | apply pw_below_drewN | apply below_drew1) | exact HB.out)) hb); clear HB; have HO123 := n0_; have HB := n1_; clear n0_ n1_; (try clear hb); (try clear hb2); (try clear hk); (try clear hi); (try clear ho0); obtain ⟨Ao13, co13, eo13⟩ := Kd.R_slice HO123.out; subst eo13) | ((with_reducible refine gate_callee (f := 25) rfl ?_); refine goesL_ (some 16) rfl rfl Try.func25 (by kernel_rfl) rfl #[.slice Ao13 t121.length co13] rfl (by (try simp only [List.map_toArray, List.map_cons, List.map_nil]); first | done | rfl | (simp only [List.length_drop, List.length_take]; rfl)) ?_; (with_reducible refine (field_Word.calls k _ _ t121 t124 _ ?side1 ?side2 A8.out).mono ?_); (case side1 => repeat (first | exact (Kd.R_reads' HO123.out).2.2 | (with_reducible refine Kd.C_alloc ?_ _) | (with_reducible refine Kd.C_drewN ?_ _) | (with_reducible refine Kd.C_drew ?_))); (case side2 => exact (Kd.R_reads' HO123.out).2.1); rintro e w' ⟨rfl, ⟨nd, rfl⟩⟩; refine ⟨_, rfl, ?_⟩))
    (try simp only [Act.put, List.setIfInBounds_toArray, List.set_cons_zero, List.set_cons_succ])
    go_cut [42] (fun v42 wc => ∃ (kq : Nat) (x42_9 : Bool), v42 = .bool x42_9 ∧ Aside0 (dowellaw01_FieldBack.j0 kq a0 a1 a2 a3 a4 t120 x42_9 = some r) ∧ Aside0 (kq ≤ k) ∧ Aside0 (Below w.heap.size w wc))
    case first =>
      have H := HC10.out
      clear HC10
      by_cases c14 : a2 < 1
      · rw [if_pos c14] at H
        have c14b0 : decide (a2 < 1) = true := decide_eq_true c14
        clear c14
        (first | rw [c14b0] | (simp only [i64_w, i32_w]; rw [c14b0]) | skip)
        have H' := Aside0.mk H
        clear H
        go_wp2
        go_meet
        case rel => exact ⟨_, (true), (by first | rfl | (simp; done) | (simp [*]; done)), H', ⟨by first | omega | exact Nat.le_refl _⟩, ⟨by repeat (first | (with_reducible first | exact HB.out | apply below_alloc | apply pw_below_drewN | apply below_drew1) | exact HB.out)⟩⟩
      · rw [if_neg c14] at H
        have c14b0 : decide (a2 < 1) = false := decide_eq_false c14
        clear c14
        (first | rw [c14b0] | (simp only [i64_w, i32_w]; rw [c14b0]) | skip)
        by_cases c15 : a2 > 32
        · rw [if_pos c15] at H
          have c15b0 : decide (32 < a2) = true := decide_eq_true c15
          clear c15
          have H' := Aside0.mk H
          clear H
          go_wp2
          go_meet
          case rel => exact ⟨_, (true), (by first | rfl | (simp; done) | (simp [*]; done)), H', ⟨by first | omega | exact Nat.le_refl _⟩, ⟨by repeat (first | (with_reducible first | exact HB.out | apply below_alloc | apply pw_below_drewN | apply below_drew1) | exact HB.out)⟩⟩
        · rw [if_neg c15] at H
          have c15b0 : decide (32 < a2) = false := decide_eq_false c15
          clear c15
          by_cases c16 : a1 < 0
          · rw [if_pos c16] at H
            have c16b0 : decide (a1 < 0) = true := decide_eq_true c16
            clear c16
            have H' := Aside0.mk H
            clear H
            go_wp2
            go_meet
            case rel => exact ⟨_, (true), (by first | rfl | (simp; done) | (simp [*]; done)), H', ⟨by first | omega | exact Nat.le_refl _⟩, ⟨by repeat (first | (with_reducible first | exact HB.out | apply below_alloc | apply pw_below_drewN | apply below_drew1) | exact HB.out)⟩⟩
          · rw [if_neg c16] at H
            have c16b0 : decide (a1 < 0) = false := decide_eq_false c16
            clear c16
            by_cases c17 : a1 > (wrap64 (32 - a2))
            · rw [if_pos c17] at H
              have c17b0 : decide ((wrap64 (32 - a2)) < a1) = true := decide_eq_true c17
              clear c17
              have H' := Aside0.mk H
              clear H
              go_wp2
              go_meet
              case rel => exact ⟨_, (true), (by first | rfl | (simp; done) | (simp [*]; done)), H', ⟨by first | omega | exact Nat.le_refl _⟩, ⟨by repeat (first | (with_reducible first | exact HB.out | apply below_alloc | apply pw_below_drewN | apply below_drew1) | exact HB.out)⟩⟩
            · rw [if_neg c17] at H
              have c17b0 : decide ((wrap64 (32 - a2)) < a1) = false := decide_eq_false c17
              clear c17
              by_cases c18 : a4 < 0
              · rw [if_pos c18] at H
                have c18b0 : decide (a4 < 0) = true := decide_eq_true c18
                clear c18
                have H' := Aside0.mk H
                clear H
                go_wp2
                go_meet
                case rel => exact ⟨_, (true), (by first | rfl | (simp; done) | (simp [*]; done)), H', ⟨by first | omega | exact Nat.le_refl _⟩, ⟨by repeat (first | (with_reducible first | exact HB.out | apply below_alloc | apply pw_below_drewN | apply below_drew1) | exact HB.out)⟩⟩
              · rw [if_neg c18] at H
                have c18b0 : decide (a4 < 0) = false := decide_eq_false c18
                clear c18
                have H' := Aside0.mk H
                clear H
                go_wp2
                go_meet
                case rel => exact ⟨_, (decide (a4 > 31)), (by first | rfl | (simp; done) | (simp [*]; done)), H', ⟨by first | omega | exact Nat.le_refl _⟩, ⟨by repeat (first | (with_reducible first | exact HB.out | apply below_alloc | apply pw_below_drewN | apply below_drew1) | exact HB.out)⟩⟩
    case rest =>
      clear HC10
      try clear c1
      try clear c2
      try clear p2
      try clear p6
      try clear c7
      try clear c9
      try clear c9b0
      try clear c9b1
      try clear c14
      try clear c14b0
      try clear c15
      try clear c15b0
      try clear c16
      try clear c16b0
      try clear c17
      try clear c17b0
      try clear c18
      try clear c18b0
      obtain ⟨kq, x42_9, rfl, HA, HJ9, HB⟩ := hcut
      cases kq with
      | zero => exact absurd HA.out (by simp [dowellaw01_FieldBack.j0])
      | succ kj9 =>
        have H := HA.out
        clear HA
        simp only [dowellaw01_FieldBack.j0] at H
        by_cases c19 : x42_9 = true
        · subst c19
          have H1 : (some t120) = some r := by rw [if_pos rfl] at H; exact H
          clear H
          have H := H1
          clear H1
          obtain rfl := Option.some.inj H
          go_wp2
          go_ret
          exact ⟨by first | rfl | (simp [errW_none, errW_some] <;> rfl) | (simp [*, errW_none, errW_some] <;> rfl), by repeat (first | (with_reducible first | exact HB.out | apply below_alloc | apply pw_below_drewN | apply below_drew1) | exact HB.out)⟩
        · replace c19 := Bool.eq_false_iff.mpr c19
          subst c19
          have H1 : ((field_Put.f a0 a1 a2 a3).bind fun t125 => ((field_Get.f a0 a1 a2).bind fun t126 => ((field_Put.f t125 a1 a2 t126).bind fun t127 => (if t127 = a0 then ((field_Get.f t125 a1 a2).bind fun t128 => ((field_Get.f a3 0 a2).bind fun t129 => (dowellaw01_FieldBack.j1 kj9 a0 a1 a2 a3 a4 t120 t125 (t128 != t129)))) else (dowellaw01_FieldBack.j1 kj9 a0 a1 a2 a3 a4 t120 t125 true))))) = some r := by rw [if_neg (show ¬ (false = true) by decide)] at H; exact H
          clear H
          have H := H1
          clear H1
          replace H := Option.bind_eq_some_iff.mp H
          obtain ⟨t125, A200, H⟩ := H
          replace H : ((field_Get.f a0 a1 a2).bind fun t126 => ((field_Put.f t125 a1 a2 t126).bind fun t127 => (if t127 = a0 then ((field_Get.f t125 a1 a2).bind fun t128 => ((field_Get.f a3 0 a2).bind fun t129 => (dowellaw01_FieldBack.j1 kj9 a0 a1 a2 a3 a4 t120 t125 (t128 != t129)))) else (dowellaw01_FieldBack.j1 kj9 a0 a1 a2 a3 a4 t120 t125 true)))) = some r := H
          have A20 := Aside0.mk A200
          clear A200
          have HC21 := Aside0.mk H
          clear H
          go_upto_region 7 with (first | ((with_reducible refine gate_callee (f := 21) rfl ?_); refine goesL_ (some 48) rfl rfl Try.func21 (by kernel_rfl) rfl #[.int .u32 a0, .int .i64 a1, .int .i64 a2, .int .u32 a3] rfl (by (try simp only [List.map_toArray, List.map_cons, List.map_nil]); first | done | rfl | (simp only [List.length_drop, List.length_take]; rfl)) ?_; (with_reducible refine (field_Put.calls a0 a1 a2 a3 t125 _ A20.out).mono ?_); rintro e w' ⟨rfl, ⟨nd, rfl⟩⟩; refine ⟨_, rfl, ?_⟩))
          (try simp only [Act.put, List.setIfInBounds_toArray, List.set_cons_zero, List.set_cons_succ])
          go_cut [68] (fun v68 wc => ∃ (kq : Nat) (x68_20 : Bool), v68 = .bool x68_20 ∧ Aside0 (dowellaw01_FieldBack.j1 kq a0 a1 a2 a3 a4 t120 t125 x68_20 = some r) ∧ Aside0 (kq ≤ kj9) ∧ Aside0 (Below w.heap.size w wc))
          case first =>
            have H := HC21.out
            clear HC21
            replace H := Option.bind_eq_some_iff.mp H
            obtain ⟨t126, A220, H⟩ := H
            replace H : ((field_Put.f t125 a1 a2 t126).bind fun t127 => (if t127 = a0 then ((field_Get.f t125 a1 a2).bind fun t128 => ((field_Get.f a3 0 a2).bind fun t129 => (dowellaw01_FieldBack.j1 kj9 a0 a1 a2 a3 a4 t120 t125 (t128 != t129)))) else (dowellaw01_FieldBack.j1 kj9 a0 a1 a2 a3 a4 t120 t125 true))) = some r := H
            have A22 := Aside0.mk A220
            clear A220
            replace H := Option.bind_eq_some_iff.mp H
            obtain ⟨t127, A230, H⟩ := H
            replace H : (if t127 = a0 then ((field_Get.f t125 a1 a2).bind fun t128 => ((field_Get.f a3 0 a2).bind fun t129 => (dowellaw01_FieldBack.j1 kj9 a0 a1 a2 a3 a4 t120 t125 (t128 != t129)))) else (dowellaw01_FieldBack.j1 kj9 a0 a1 a2 a3 a4 t120 t125 true)) = some r := H
            have A23 := Aside0.mk A230
            clear A230
            by_cases c24 : t127 = a0
            · rw [if_pos c24] at H
              have c24b0 : (t127 == a0) = true := beq_iff_eq.mpr c24
              have c24b1 : (t127 != a0) = false := bne_eq_false_iff_eq.mpr c24
              clear c24
              (first | rw [c24b0] | (simp only [i64_w, i32_w]; rw [c24b0]) | skip)
              replace H := Option.bind_eq_some_iff.mp H
              obtain ⟨t128, A250, H⟩ := H
              replace H : ((field_Get.f a3 0 a2).bind fun t129 => (dowellaw01_FieldBack.j1 kj9 a0 a1 a2 a3 a4 t120 t125 (t128 != t129))) = some r := H
              have A25 := Aside0.mk A250
              clear A250
              replace H := Option.bind_eq_some_iff.mp H
              obtain ⟨t129, A260, H⟩ := H
              replace H : (dowellaw01_FieldBack.j1 kj9 a0 a1 a2 a3 a4 t120 t125 (t128 != t129)) = some r := H
              have A26 := Aside0.mk A260
              clear A260
              have H' := Aside0.mk H
              clear H
              go_wp2_with (first | ((with_reducible refine gate_callee (f := 19) rfl ?_); refine goesL_ (some 55) rfl rfl Try.func19 (by kernel_rfl) rfl #[.int .u32 a0, .int .i64 a1, .int .i64 a2] rfl (by (try simp only [List.map_toArray, List.map_cons, List.map_nil]); first | done | rfl | (simp only [List.length_drop, List.length_take]; rfl)) ?_; (with_reducible refine (field_Get.calls a0 a1 a2 t126 _ A22.out).mono ?_); rintro e w' ⟨rfl, ⟨nd, rfl⟩⟩; refine ⟨_, rfl, ?_⟩) | ((with_reducible refine gate_callee (f := 21) rfl ?_); refine goesL_ (some 56) rfl rfl Try.func21 (by kernel_rfl) rfl #[.int .u32 t125, .int .i64 a1, .int .i64 a2, .int .u32 t126] rfl (by (try simp only [List.map_toArray, List.map_cons, List.map_nil]); first | done | rfl | (simp only [List.length_drop, List.length_take]; rfl)) ?_; (with_reducible refine (field_Put.calls t125 a1 a2 t126 t127 _ A23.out).mono ?_); rintro e w' ⟨rfl, ⟨nd, rfl⟩⟩; refine ⟨_, rfl, ?_⟩) | (go_at_call 19; (with_reducible refine (field_Get.calls t125 a1 a2 t128 _ A25.out).mono ?_); rintro e w' ⟨rfl, ⟨nd, rfl⟩⟩) | (go_at_call 19; (with_reducible refine (field_Get.calls a3 0 a2 t129 _ A26.out).mono ?_); rintro e w' ⟨rfl, ⟨nd, rfl⟩⟩))
              go_meet
              case rel => exact ⟨_, ((t128 != t129)), (by first | rfl | (simp; done) | (simp [*]; done)), H', ⟨by have := HJ9.out; first | omega | exact Nat.le_refl _⟩, ⟨by repeat (first | (with_reducible first | exact HB.out | apply below_alloc | apply pw_below_drewN | apply below_drew1) | exact HB.out)⟩⟩
            · rw [if_neg c24] at H
              have c24b0 : (t127 == a0) = false := beq_eq_false_iff_ne.mpr c24
              have c24b1 : (t127 != a0) = true := bne_iff_ne.mpr c24
              (first | rw [c24b0] | (simp only [i64_w, i32_w]; rw [c24b0]) | skip)
              have H' := Aside0.mk H
              clear H
              go_wp2_with (first | ((with_reducible refine gate_callee (f := 19) rfl ?_); refine goesL_ (some 55) rfl rfl Try.func19 (by kernel_rfl) rfl #[.int .u32 a0, .int .i64 a1, .int .i64 a2] rfl (by (try simp only [List.map_toArray, List.map_cons, List.map_nil]); first | done | rfl | (simp only [List.length_drop, List.length_take]; rfl)) ?_; (with_reducible refine (field_Get.calls a0 a1 a2 t126 _ A22.out).mono ?_); rintro e w' ⟨rfl, ⟨nd, rfl⟩⟩; refine ⟨_, rfl, ?_⟩) | ((with_reducible refine gate_callee (f := 21) rfl ?_); refine goesL_ (some 56) rfl rfl Try.func21 (by kernel_rfl) rfl #[.int .u32 t125, .int .i64 a1, .int .i64 a2, .int .u32 t126] rfl (by (try simp only [List.map_toArray, List.map_cons, List.map_nil]); first | done | rfl | (simp only [List.length_drop, List.length_take]; rfl)) ?_; (with_reducible refine (field_Put.calls t125 a1 a2 t126 t127 _ A23.out).mono ?_); rintro e w' ⟨rfl, ⟨nd, rfl⟩⟩; refine ⟨_, rfl, ?_⟩))
              go_meet
              case rel => exact ⟨_, (true), (by first | rfl | (simp; done) | (simp [*]; done)), H', ⟨by have := HJ9.out; first | omega | exact Nat.le_refl _⟩, ⟨by repeat (first | (with_reducible first | exact HB.out | apply below_alloc | apply pw_below_drewN | apply below_drew1) | exact HB.out)⟩⟩
          case rest =>
            clear HC21
            try clear c1
            try clear c2
            try clear p2
            try clear p6
            try clear c7
            try clear c9
            try clear c9b0
            try clear c9b1
            try clear c14
            try clear c14b0
            try clear c15
            try clear c15b0
            try clear c16
            try clear c16b0
            try clear c17
            try clear c17b0
            try clear c18
            try clear c18b0
            try clear c19
            try clear c21
            try clear c24
            try clear c24b0
            try clear c24b1
            try clear c25
            try clear p2
            try clear p6
            obtain ⟨kq, x68_20, rfl, HA, HJ20, HB⟩ := hcut
            cases kq with
            | zero => exact absurd HA.out (by simp [dowellaw01_FieldBack.j1])
            | succ kj20 =>
              have H := HA.out
              clear HA
              simp only [dowellaw01_FieldBack.j1] at H
              by_cases c27 : x68_20 = true
              · subst c27
                have H1 : (some false) = some r := by rw [if_pos rfl] at H; exact H
                clear H
                have H := H1
                clear H1
                obtain rfl := Option.some.inj H
                go_wp2
                go_ret
                exact ⟨by first | rfl | (simp [errW_none, errW_some] <;> rfl) | (simp [*, errW_none, errW_some] <;> rfl), by repeat (first | (with_reducible first | exact HB.out | apply below_alloc | apply pw_below_drewN | apply below_drew1) | exact HB.out)⟩
              · replace c27 := Bool.eq_false_iff.mpr c27
                subst c27
                have H1 : (if a4 < a1 then (dowellaw01_FieldBack.j2 kj20 a0 a1 a3 a4 t120 t125 true) else (dowellaw01_FieldBack.j2 kj20 a0 a1 a3 a4 t120 t125 (decide (a4 ≥ (wrap64 (a1 + a2)))))) = some r := by rw [if_neg (show ¬ (false = true) by decide)] at H; exact H
                clear H
                have H := H1
                clear H1
                have HC28 := Aside0.mk H
                clear H
                go_upto_region 9 with (fail)
                go_cut [78] (fun v78 wc => ∃ (kq : Nat) (x78_27 : Bool), v78 = .bool x78_27 ∧ Aside0 (dowellaw01_FieldBack.j2 kq a0 a1 a3 a4 t120 t125 x78_27 = some r) ∧ Aside0 (kq ≤ kj20) ∧ Aside0 (Below w.heap.size w wc))
                case first =>
                  have H := HC28.out
                  clear HC28
                  by_cases c29 : a4 < a1
                  · rw [if_pos c29] at H
                    have c29b0 : decide (a4 < a1) = true := decide_eq_true c29
                    clear c29
                    (first | rw [c29b0] | (simp only [i64_w, i32_w]; rw [c29b0]) | skip)
                    have H' := Aside0.mk H
                    clear H
                    go_wp2
                    go_meet
                    case rel => exact ⟨_, (true), (by first | rfl | (simp; done) | (simp [*]; done)), H', ⟨by have := HJ9.out; have := HJ20.out; first | omega | exact Nat.le_refl _⟩, ⟨by repeat (first | (with_reducible first | exact HB.out | apply below_alloc | apply pw_below_drewN | apply below_drew1) | exact HB.out)⟩⟩
                  · rw [if_neg c29] at H
                    have c29b0 : decide (a4 < a1) = false := decide_eq_false c29
                    clear c29
                    (first | rw [c29b0] | (simp only [i64_w, i32_w]; rw [c29b0]) | skip)
                    have H' := Aside0.mk H
                    clear H
                    go_wp2
                    go_meet
                    case rel => exact ⟨_, (decide (a4 ≥ (wrap64 (a1 + a2)))), (by first | rfl | (simp; done) | (simp [*]; done)), H', ⟨by have := HJ9.out; have := HJ20.out; first | omega | exact Nat.le_refl _⟩, ⟨by repeat (first | (with_reducible first | exact HB.out | apply below_alloc | apply pw_below_drewN | apply below_drew1) | exact HB.out)⟩⟩
                case rest =>
                  clear HC28
                  try clear c1
                  try clear c2
                  try clear p2
                  try clear p6
                  try clear c7
                  try clear c9
                  try clear c9b0
                  try clear c9b1
                  try clear c14
                  try clear c14b0
                  try clear c15
                  try clear c15b0
                  try clear c16
                  try clear c16b0
                  try clear c17
                  try clear c17b0
                  try clear c18
                  try clear c18b0
                  try clear c19
                  try clear c21
                  try clear c24
                  try clear c24b0
                  try clear c24b1
                  try clear c25
                  try clear c27
                  try clear c29
                  try clear c29b0
                  try clear p2
                  try clear p6
                  obtain ⟨kq, x78_27, rfl, HA, HJ27, HB⟩ := hcut
                  cases kq with
                  | zero => exact absurd HA.out (by simp [dowellaw01_FieldBack.j2])
                  | succ kj27 =>
                    have H := HA.out
                    clear HA
                    simp only [dowellaw01_FieldBack.j2] at H
                    by_cases c30 : x78_27 = true
                    · subst c30
                      have H1 : (if t120 = true then ((field_Get.f t125 a4 1).bind fun t130 => ((field_Get.f a0 a4 1).bind fun t131 => (some (t130 == t131)))) else (some false)) = some r := by rw [if_pos rfl] at H; exact H
                      clear H
                      have H := H1
                      clear H1
                      by_cases c31 : t120 = true
                      · subst c31
                        have H1 : ((field_Get.f t125 a4 1).bind fun t130 => ((field_Get.f a0 a4 1).bind fun t131 => (some (t130 == t131)))) = some r := by rw [if_pos rfl] at H; exact H
                        clear H
                        have H := H1
                        clear H1
                        replace H := Option.bind_eq_some_iff.mp H
                        obtain ⟨t130, A320, H⟩ := H
                        replace H : ((field_Get.f a0 a4 1).bind fun t131 => (some (t130 == t131))) = some r := H
                        have A32 := Aside0.mk A320
                        clear A320
                        replace H := Option.bind_eq_some_iff.mp H
                        obtain ⟨t131, A330, H⟩ := H
                        replace H : (some (t130 == t131)) = some r := H
                        have A33 := Aside0.mk A330
                        clear A330
                        obtain rfl := Option.some.inj H
                        go_wp2_with (first | (go_at_call 19; (with_reducible refine (field_Get.calls t125 a4 1 t130 _ A32.out).mono ?_); rintro e w' ⟨rfl, ⟨nd, rfl⟩⟩) | (go_at_call 19; (with_reducible refine (field_Get.calls a0 a4 1 t131 _ A33.out).mono ?_); rintro e w' ⟨rfl, ⟨nd, rfl⟩⟩))
                        go_ret
                        exact ⟨by first | rfl | (simp [errW_none, errW_some] <;> rfl) | (simp [*, errW_none, errW_some] <;> rfl), by repeat (first | (with_reducible first | exact HB.out | apply below_alloc | apply pw_below_drewN | apply below_drew1) | exact HB.out)⟩
                      · replace c31 := Bool.eq_false_iff.mpr c31
                        subst c31
                        have H1 : (some false) = some r := by rw [if_neg (show ¬ (false = true) by decide)] at H; exact H
                        clear H
                        have H := H1
                        clear H1
                        obtain rfl := Option.some.inj H
                        go_wp2
                        go_ret
                        exact ⟨by first | rfl | (simp [errW_none, errW_some] <;> rfl) | (simp [*, errW_none, errW_some] <;> rfl), by repeat (first | (with_reducible first | exact HB.out | apply below_alloc | apply pw_below_drewN | apply below_drew1) | exact HB.out)⟩
                    · replace c30 := Bool.eq_false_iff.mpr c30
                      subst c30
                      have H1 : (if t120 = true then ((field_Get.f t125 a4 1).bind fun t132 => ((field_Get.f a3 (wrap64 (a4 - a1)) 1).bind fun t133 => (some (t132 == t133)))) else (some false)) = some r := by rw [if_neg (show ¬ (false = true) by decide)] at H; exact H
                      clear H
                      have H := H1
                      clear H1
                      by_cases c34 : t120 = true
                      · subst c34
                        have H1 : ((field_Get.f t125 a4 1).bind fun t132 => ((field_Get.f a3 (wrap64 (a4 - a1)) 1).bind fun t133 => (some (t132 == t133)))) = some r := by rw [if_pos rfl] at H; exact H
                        clear H
                        have H := H1
                        clear H1
                        replace H := Option.bind_eq_some_iff.mp H
                        obtain ⟨t132, A350, H⟩ := H
                        replace H : ((field_Get.f a3 (wrap64 (a4 - a1)) 1).bind fun t133 => (some (t132 == t133))) = some r := H
                        have A35 := Aside0.mk A350
                        clear A350
                        replace H := Option.bind_eq_some_iff.mp H
                        obtain ⟨t133, A360, H⟩ := H
                        replace H : (some (t132 == t133)) = some r := H
                        have A36 := Aside0.mk A360
                        clear A360
                        obtain rfl := Option.some.inj H
                        go_wp2_with (first | (go_at_call 19; (with_reducible refine (field_Get.calls t125 a4 1 t132 _ A35.out).mono ?_); rintro e w' ⟨rfl, ⟨nd, rfl⟩⟩) | (go_at_call 19; (with_reducible refine (field_Get.calls a3 (wrap64 (a4 - a1)) 1 t133 _ A36.out).mono ?_); rintro e w' ⟨rfl, ⟨nd, rfl⟩⟩))
                        go_ret
                        exact ⟨by first | rfl | (simp [errW_none, errW_some] <;> rfl) | (simp [*, errW_none, errW_some] <;> rfl), by repeat (first | (with_reducible first | exact HB.out | apply below_alloc | apply pw_below_drewN | apply below_drew1) | exact HB.out)⟩
                      · replace c34 := Bool.eq_false_iff.mpr c34
                        subst c34
                        have H1 : (some false) = some r := by rw [if_neg (show ¬ (false = true) by decide)] at H; exact H
                        clear H
                        have H := H1
                        clear H1
                        obtain rfl := Option.some.inj H
                        go_wp2
                        go_ret
                        exact ⟨by first | rfl | (simp [errW_none, errW_some] <;> rfl) | (simp [*, errW_none, errW_some] <;> rfl), by repeat (first | (with_reducible first | exact HB.out | apply below_alloc | apply pw_below_drewN | apply below_drew1) | exact HB.out)⟩
  · rw [if_neg c9] at H
    have c9b0 : (t124 == a0) = false := beq_eq_false_iff_ne.mpr c9
    have c9b1 : (t124 != a0) = true := bne_iff_ne.mpr c9
    obtain rfl := Option.some.inj H
    go_enter Try.func7, Try.ntmps7
    go_wp2_with (first | ((with_reducible refine gate_callee (f := 18) rfl ?_); refine goesL_ (some 13) rfl rfl Try.func18 (by kernel_rfl) rfl #[] rfl (by (try simp only [List.map_toArray, List.map_cons, List.map_nil]); first | done | rfl | (simp only [List.length_drop, List.length_take]; rfl)) ?_; (with_reducible refine (dowellaw01_up.calls k  t120 _ A6.out).mono ?_); rintro e w37 ⟨rfl, hb⟩; refine ⟨_, rfl, ?_⟩; have n0_ := Aside0.mk (below_step (by repeat (first | (with_reducible first | exact HB.out | apply below_alloc | apply pw_below_drewN | apply below_drew1) | exact HB.out)) hb); clear HB; have HB := n0_; clear n0_; (try clear hb); (try clear hb2); (try clear hk); (try clear hi)) | ((with_reducible refine gate_callee (f := 27) rfl ?_); refine goesL_ (some 15) rfl rfl Try.func27 (by kernel_rfl) rfl #[.int .u32 a0] rfl (by (try simp only [List.map_toArray, List.map_cons, List.map_nil]); first | done | rfl | (simp only [List.length_drop, List.length_take]; rfl)) ?_; (with_reducible refine (field_Bytes.calls a0 t121 _ A7.out).mono ?_); rintro e w38 ⟨v122, rfl, ho0, hb⟩; refine ⟨_, rfl, ?_⟩; have n0_ := Aside0.mk (Kd.R_lower ho0 (below_size (by repeat (first | (with_reducible first | exact HB.out | apply below_alloc | apply pw_below_drewN | apply below_drew1) | exact HB.out)))); have n1_ := Aside0.mk (below_step (by repeat (first | (with_reducible first | exact HB.out | apply below_alloc | apply pw_below_drewN | apply below_drew1) | exact HB.out)) hb); clear HB; have HO123 := n0_; have HB := n1_; clear n0_ n1_; (try clear hb); (try clear hb2); (try clear hk); (try clear hi); (try clear ho0); obtain ⟨Ao39, co39, eo39⟩ := Kd.R_slice HO123.out; subst eo39) | ((with_reducible refine gate_callee (f := 25) rfl ?_); refine goesL_ (some 16) rfl rfl Try.func25 (by kernel_rfl) rfl #[.slice Ao39 t121.length co39] rfl (by (try simp only [List.map_toArray, List.map_cons, List.map_nil]); first | done | rfl | (simp only [List.length_drop, List.length_take]; rfl)) ?_; (with_reducible refine (field_Word.calls k _ _ t121 t124 _ ?side1 ?side2 A8.out).mono ?_); (case side1 => repeat (first | exact (Kd.R_reads' HO123.out).2.2 | (with_reducible refine Kd.C_alloc ?_ _) | (with_reducible refine Kd.C_drewN ?_ _) | (with_reducible refine Kd.C_drew ?_))); (case side2 => exact (Kd.R_reads' HO123.out).2.1); rintro e w' ⟨rfl, ⟨nd, rfl⟩⟩; refine ⟨_, rfl, ?_⟩))
    go_ret
    exact ⟨by first | rfl | (simp [errW_none, errW_some] <;> rfl) | (simp [*, errW_none, errW_some] <;> rfl), by repeat (first | (with_reducible first | exact HB.out | apply below_alloc | apply pw_below_drewN | apply below_drew1) | exact HB.out)⟩

/-- THE ONE PURE STATEMENT of dowellaw01_FieldBack: yours. -/
def dowellaw01_FieldBack.Pure : Prop := ∀ (a0 : Int) (a1 : Int) (a2 : Int) (a3 : Int) (a4 : Int), (Lit.int .u32 a0).wf = true → (Lit.int .i64 a1).wf = true → (Lit.int .i64 a2).wf = true → (Lit.int .u32 a3).wf = true → (Lit.int .i64 a4).wf = true → ∃ k, dowellaw01_FieldBack.f k a0 a1 a2 a3 a4 = some true
theorem dowellaw01_FieldBack.walk (P : dowellaw01_FieldBack.Pure) (a0 : Int) (a1 : Int) (a2 : Int) (a3 : Int) (a4 : Int) (w : World) (w0 : (Lit.int .u32 a0).wf = true) (w1 : (Lit.int .i64 a1).wf = true) (w2 : (Lit.int .i64 a2).wf = true) (w3 : (Lit.int .u32 a3).wf = true) (w4 : (Lit.int .i64 a4).wf = true) :
    Calls Try.prog 7 #[.int .u32 a0, .int .i64 a1, .int .i64 a2, .int .u32 a3, .int .i64 a4] w fun e w' => e = .returned (.bool true) ∧ Below w.heap.size w w' := by
  obtain ⟨k, h⟩ := P a0 a1 a2 a3 a4 w0 w1 w2 w3 w4
  refine (dowellaw01_FieldBack.calls k a0 a1 a2 a3 a4 true w h).mono ?_
  rintro e w' ⟨rfl, hd⟩
  exact ⟨rfl, hd⟩

end Go.Proofs.Ytfoecgcjipckmaa.PFieldBack
