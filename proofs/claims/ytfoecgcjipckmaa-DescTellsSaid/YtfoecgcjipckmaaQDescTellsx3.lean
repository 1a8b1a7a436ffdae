/- DescTells: the machine's side, written by a program of this workplace: for each Go function the answers that its Lean function tells. No condition but that the Lean function tells. -/
import Derived.Test.YtfoecgcjipckmaaQDescTellsx0
import Derived.Test.YtfoecgcjipckmaaQDescTellsx1
import Derived.Test.YtfoecgcjipckmaaQDescTellsx2
namespace Go.Proofs.Ytfoecgcjipckmaa.QDescTells
open Go.RowKit Go.Proofs.YtfoecgcjipckmaaW.PrintWords Go.Proofs.YtfoecgcjipckmaaW.PrintLast Go.Proofs.YtfoecgcjipckmaaW.PrintMore
attribute [local go_sem] max2_int min2_int max_two min_two max_three min_three max_four min_four   -- for this text's walks alone
attribute [local go_sem] Go.Proofs.Ytfoecgcjipckmaa.MineErr.eql_err Go.Proofs.Ytfoecgcjipckmaa.MineErr.neq_err Go.Proofs.Ytfoecgcjipckmaa.MineErr.eql_nil_err Go.Proofs.Ytfoecgcjipckmaa.MineErr.neq_nil_err
set_option linter.unusedVariables false
set_option linter.unusedSimpArgs false

/-! ### dowellaw16_DescTells: function 11 -/
mutual
def dowellaw16_DescTells.j0 : Nat → List Int → Int → Int → List Int → Bool → Bool → Option (Bool)
  | 0, _, _, _, _, _, _ => none
  | k + 1, x0, x1, x2, x3, x9, x24 => if x24 = true then (some x9) else ((desc_Line.f x0 x1).bind fun bt153 => (if (x0.length : Int) > 3 then (if bt153.2.isNone = true then (some false) else (if (bt153.2.getD 0) = 4 then (if (bt153.1.length : Int) = 0 then (dowellaw16_DescTells.j1 k x2 x3 x9) else (some false)) else (some false))) else (if bt153.2.isNone = true then ((some (([] : List Int) : List Int)).bind fun y159 => (if y159.length + x0.length < 17592186044416 then ((some (y159 ++ x0 : List Int)).bind fun y162 => (if y162.length < 17592186044416 then ((dowelref09_Ints.f k bt153.1 (y162 ++ [x1])).bind fun t168 => (if t168 = true then (dowellaw16_DescTells.j1 k x2 x3 x9) else (some false))) else (none))) else (none))) else (some false))))
def dowellaw16_DescTells.j1 : Nat → Int → List Int → Bool → Option (Bool)
  | 0, _, _, _ => none
  | k + 1, x2, x3, x9 => (desc_Words.f k x2 x3).bind fun bt169 => (if (x3.length : Int) < 1 then (dowellaw16_DescTells.j2 k x2 x3 x9 bt169.1 bt169.2 true) else (dowellaw16_DescTells.j2 k x2 x3 x9 bt169.1 bt169.2 (decide ((x3.length : Int) > 4))))
def dowellaw16_DescTells.j2 : Nat → Int → List Int → Bool → List Int → Option Int → Bool → Option (Bool)
  | 0, _, _, _, _, _, _ => none
  | k + 1, x2, x3, x9, x12, x13, x69 => if x69 = true then (if x9 = true then (if x13.isNone = true then (some false) else (if (x13.getD 0) = 4 then (some ((x12.length : Int) == 0)) else (some false))) else (some false)) else (if x13.isNone = true then (dowellaw16_DescTells.j3 k x2 x3 x9 x12 ((x12.length : Int) != 4)) else (dowellaw16_DescTells.j3 k x2 x3 x9 x12 true))
def dowellaw16_DescTells.j3 : Nat → Int → List Int → Bool → List Int → Bool → Option (Bool)
  | 0, _, _, _, _, _ => none
  | k + 1, x2, x3, x9, x12, x87 => if x87 = true then (some false) else (if 0 < (x12.length : Int) then (if (rd x12 0) = ((x2) % 4294967296) then (dowellaw16_DescTells.l0 k x3 x9 x12 1) else (some false)) else (none))
def dowellaw16_DescTells.l0 : Nat → List Int → Bool → List Int → Int → Option (Bool)
  | 0, _, _, _, _ => none
  | k + 1, x3, x9, x12, x14 => if x14 < 4 then (if x14 < (x3.length : Int) then (if 0 ≤ (wrap64 (x14 - 1)) then (if (wrap64 (x14 - 1)) < (x3.length : Int) then (if 0 ≤ x14 then (if x14 < (x12.length : Int) then (if (rd x12 x14) = ((rd x3 (wrap64 (x14 - 1))) % 4294967296) then (dowellaw16_DescTells.l0 k x3 x9 x12 (wrap64 (x14 + 1))) else (some false)) else (none)) else (none)) else (none)) else (none)) else (if 0 ≤ x14 then (if x14 < (x12.length : Int) then (if (rd x12 x14) = 0 then (dowellaw16_DescTells.l0 k x3 x9 x12 (wrap64 (x14 + 1))) else (some false)) else (none)) else (none))) else (some x9)
end
def dowellaw16_DescTells.f (k : Nat) (l0 : List Int) (a1 : Int) (a2 : Int) (l3 : List Int) : Option (Bool) := (dowellaw16_up.f k).bind fun t152 => (if (l0.length : Int) > 50 then (dowellaw16_DescTells.j0 k l0 a1 a2 l3 t152 true) else (dowellaw16_DescTells.j0 k l0 a1 a2 l3 t152 (decide ((l3.length : Int) > 50))))
theorem dowellaw16_DescTells.mono_l : ∀ k, (∀ y0 y1 y2 y3 y4 y5, LeO (dowellaw16_DescTells.j0 k y0 y1 y2 y3 y4 y5) (dowellaw16_DescTells.j0 (k + 1) y0 y1 y2 y3 y4 y5)) ∧ (∀ y0 y1 y2, LeO (dowellaw16_DescTells.j1 k y0 y1 y2) (dowellaw16_DescTells.j1 (k + 1) y0 y1 y2)) ∧ (∀ y0 y1 y2 y3 y4 y5, LeO (dowellaw16_DescTells.j2 k y0 y1 y2 y3 y4 y5) (dowellaw16_DescTells.j2 (k + 1) y0 y1 y2 y3 y4 y5)) ∧ (∀ y0 y1 y2 y3 y4, LeO (dowellaw16_DescTells.j3 k y0 y1 y2 y3 y4) (dowellaw16_DescTells.j3 (k + 1) y0 y1 y2 y3 y4)) ∧ (∀ y0 y1 y2 y3, LeO (dowellaw16_DescTells.l0 k y0 y1 y2 y3) (dowellaw16_DescTells.l0 (k + 1) y0 y1 y2 y3))
  | 0 => ⟨fun _ _ _ _ _ _ r h => by simp [dowellaw16_DescTells.j0] at h, fun _ _ _ r h => by simp [dowellaw16_DescTells.j1] at h, fun _ _ _ _ _ _ r h => by simp [dowellaw16_DescTells.j2] at h, fun _ _ _ _ _ r h => by simp [dowellaw16_DescTells.j3] at h, fun _ _ _ _ r h => by simp [dowellaw16_DescTells.l0] at h⟩
  | k + 1 => by
    obtain ⟨ih0, ih1, ih2, ih3, ih4⟩ := dowellaw16_DescTells.mono_l k
    refine ⟨?_, ?_, ?_, ?_, ?_⟩
    · intro y0 y1 y2 y3 y4 y5
      unfold dowellaw16_DescTells.j0
      repeat' first
      | (with_reducible exact ih0 _ _ _ _ _ _)
      | (with_reducible exact ih1 _ _ _)
      | (with_reducible exact ih2 _ _ _ _ _ _)
      | (with_reducible exact ih3 _ _ _ _ _)
      | (with_reducible exact ih4 _ _ _ _)
      | (with_reducible exact desc_Words.mono _ _ _)
      | (with_reducible exact dowellaw16_up.mono _)
      | (with_reducible exact dowelref09_Ints.mono _ _ _)
      | (with_reducible exact LeO.refl _)
      | (with_reducible exact LeO.none _)
      | (with_reducible refine LeO.ite ?_ ?_)
      | (with_reducible refine LeO.bind ?_ (fun _ => ?_))
      | exact ih0 _ _ _ _ _ _
      | exact ih1 _ _ _
      | exact ih2 _ _ _ _ _ _
      | exact ih3 _ _ _ _ _
      | exact ih4 _ _ _ _
      | exact desc_Words.mono _ _ _
      | exact dowellaw16_up.mono _
      | exact dowelref09_Ints.mono _ _ _
      | exact LeO.none _
      | refine LeO.ite ?_ ?_
      | refine LeO.bind ?_ (fun _ => ?_)
    · intro y0 y1 y2
      unfold dowellaw16_DescTells.j1
      repeat' first
      | (with_reducible exact ih0 _ _ _ _ _ _)
      | (with_reducible exact ih1 _ _ _)
      | (with_reducible exact ih2 _ _ _ _ _ _)
      | (with_reducible exact ih3 _ _ _ _ _)
      | (with_reducible exact ih4 _ _ _ _)
      | (with_reducible exact desc_Words.mono _ _ _)
      | (with_reducible exact dowellaw16_up.mono _)
      | (with_reducible exact dowelref09_Ints.mono _ _ _)
      | (with_reducible exact LeO.refl _)
      | (with_reducible exact LeO.none _)
      | (with_reducible refine LeO.ite ?_ ?_)
      | (with_reducible refine LeO.bind ?_ (fun _ => ?_))
      | exact ih0 _ _ _ _ _ _
      | exact ih1 _ _ _
      | exact ih2 _ _ _ _ _ _
      | exact ih3 _ _ _ _ _
      | exact ih4 _ _ _ _
      | exact desc_Words.mono _ _ _
      | exact dowellaw16_up.mono _
      | exact dowelref09_Ints.mono _ _ _
      | exact LeO.none _
      | refine LeO.ite ?_ ?_
      | refine LeO.bind ?_ (fun _ => ?_)
    · intro y0 y1 y2 y3 y4 y5
      unfold dowellaw16_DescTells.j2
      repeat' first
      | (with_reducible exact ih0 _ _ _ _ _ _)
      | (with_reducible exact ih1 _ _ _)
      | (with_reducible exact ih2 _ _ _ _ _ _)
      | (with_reducible exact ih3 _ _ _ _ _)
      | (with_reducible exact ih4 _ _ _ _)
      | (with_reducible exact desc_Words.mono _ _ _)
      | (with_reducible exact dowellaw16_up.mono _)
      | (with_reducible exact dowelref09_Ints.mono _ _ _)
      | (with_reducible exact LeO.refl _)
      | (with_reducible exact LeO.none _)
      | (with_reducible refine LeO.ite ?_ ?_)
      | (with_reducible refine LeO.bind ?_ (fun _ => ?_))
      | exact ih0 _ _ _ _ _ _
      | exact ih1 _ _ _
      | exact ih2 _ _ _ _ _ _
      | exact ih3 _ _ _ _ _
      | exact ih4 _ _ _ _
      | exact desc_Words.mono _ _ _
      | exact dowellaw16_up.mono _
      | exact dowelref09_Ints.mono _ _ _
      | exact LeO.none _
      | refine LeO.ite ?_ ?_
      | refine LeO.bind ?_ (fun _ => ?_)
    · intro y0 y1 y2 y3 y4
      unfold dowellaw16_DescTells.j3
      repeat' first
      | (with_reducible exact ih0 _ _ _ _ _ _)
      | (with_reducible exact ih1 _ _ _)
      | (with_reducible exact ih2 _ _ _ _ _ _)
      | (with_reducible exact ih3 _ _ _ _ _)
      | (with_reducible exact ih4 _ _ _ _)
      | (with_reducible exact desc_Words.mono _ _ _)
      | (with_reducible exact dowellaw16_up.mono _)
      | (with_reducible exact dowelref09_Ints.mono _ _ _)
      | (with_reducible exact LeO.refl _)
      | (with_reducible exact LeO.none _)
      | (with_reducible refine LeO.ite ?_ ?_)
      | (with_reducible refine LeO.bind ?_ (fun _ => ?_))
      | exact ih0 _ _ _ _ _ _
      | exact ih1 _ _ _
      | exact ih2 _ _ _ _ _ _
      | exact ih3 _ _ _ _ _
      | exact ih4 _ _ _ _
      | exact desc_Words.mono _ _ _
      | exact dowellaw16_up.mono _
      | exact dowelref09_Ints.mono _ _ _
      | exact LeO.none _
      | refine LeO.ite ?_ ?_
      | refine LeO.bind ?_ (fun _ => ?_)
    · intro y0 y1 y2 y3
      unfold dowellaw16_DescTells.l0
      repeat' first
      | (with_reducible exact ih0 _ _ _ _ _ _)
      | (with_reducible exact ih1 _ _ _)
      | (with_reducible exact ih2 _ _ _ _ _ _)
      | (with_reducible exact ih3 _ _ _ _ _)
      | (with_reducible exact ih4 _ _ _ _)
      | (with_reducible exact desc_Words.mono _ _ _)
      | (with_reducible exact dowellaw16_up.mono _)
      | (with_reducible exact dowelref09_Ints.mono _ _ _)
      | (with_reducible exact LeO.refl _)
      | (with_reducible exact LeO.none _)
      | (with_reducible refine LeO.ite ?_ ?_)
      | (with_reducible refine LeO.bind ?_ (fun _ => ?_))
      | exact ih0 _ _ _ _ _ _
      | exact ih1 _ _ _
      | exact ih2 _ _ _ _ _ _
      | exact ih3 _ _ _ _ _
      | exact ih4 _ _ _ _
      | exact desc_Words.mono _ _ _
      | exact dowellaw16_up.mono _
      | exact dowelref09_Ints.mono _ _ _
      | exact LeO.none _
      | refine LeO.ite ?_ ?_
      | refine LeO.bind ?_ (fun _ => ?_)
theorem dowellaw16_DescTells.mono : ∀ a0 a1 a2 a3 k, LeO (dowellaw16_DescTells.f k a0 a1 a2 a3) (dowellaw16_DescTells.f (k + 1) a0 a1 a2 a3) := by
  intro a0 a1 a2 a3 k
  obtain ⟨ih0, ih1, ih2, ih3, ih4⟩ := dowellaw16_DescTells.mono_l k
  unfold dowellaw16_DescTells.f
  repeat' first
      | (with_reducible exact ih0 _ _ _ _ _ _)
      | (with_reducible exact ih1 _ _ _)
      | (with_reducible exact ih2 _ _ _ _ _ _)
      | (with_reducible exact ih3 _ _ _ _ _)
      | (with_reducible exact ih4 _ _ _ _)
      | (with_reducible exact desc_Words.mono _ _ _)
      | (with_reducible exact dowellaw16_up.mono _)
      | (with_reducible exact dowelref09_Ints.mono _ _ _)
      | (with_reducible exact LeO.refl _)
      | (with_reducible exact LeO.none _)
      | (with_reducible refine LeO.ite ?_ ?_)
      | (with_reducible refine LeO.bind ?_ (fun _ => ?_))
      | exact ih0 _ _ _ _ _ _
      | exact ih1 _ _ _
      | exact ih2 _ _ _ _ _ _
      | exact ih3 _ _ _ _ _
      | exact ih4 _ _ _ _
      | exact desc_Words.mono _ _ _
      | exact dowellaw16_up.mono _
      | exact dowelref09_Ints.mono _ _ _
      | exact LeO.none _
      | refine LeO.ite ?_ ?_
      | refine LeO.bind ?_ (fun _ => ?_)
set_option maxHeartbeats 8000000 in
set_option maxRecDepth 100000 in
theorem dowellaw16_DescTells.calls (k : Nat) (A0 : Option Addr) (c0 : Nat) (l0 : List Int) (a1 : Int) (a2 : Int) (A3 : Option Addr) (c3 : Nat) (l3 : List Int) (r : Bool) (w : World) (hr0 : Kd.C (Kd.int .i64) w A0 l0.length l0) (hc0 : l0.length ≤ c0) (hr3 : Kd.C (Kd.int .i64) w A3 l3.length l3) (hc3 : l3.length ≤ c3) (h : dowellaw16_DescTells.f k l0 a1 a2 l3 = some r) :
    Calls Try.prog 11 #[.slice A0 l0.length c0, .int .i64 a1, .int .i64 a2, .slice A3 l3.length c3] w fun e w' => e = .returned (.bool r) ∧ Below w.heap.size w w' := by
  have hu53 := Try.underlying53
  have hu56 := Try.underlying56
  have HR0 := Aside0.mk hr0
  have HC0 := Aside0.mk hc0
  clear hr0 hc0
  have HR3 := Aside0.mk hr3
  have HC3 := Aside0.mk hc3
  clear hr3 hc3
  have HB := Aside0.mk (Below.refl w.heap.size w)
  have H : ((dowellaw16_up.f k).bind fun t152 => (if (l0.length : Int) > 50 then (dowellaw16_DescTells.j0 k l0 a1 a2 l3 t152 true) else (dowellaw16_DescTells.j0 k l0 a1 a2 l3 t152 (decide ((l3.length : Int) > 50))))) = some r := h
  clear h
  replace H := Option.bind_eq_some_iff.mp H
  obtain ⟨t152, A50, H⟩ := H
  replace H : (if (l0.length : Int) > 50 then (dowellaw16_DescTells.j0 k l0 a1 a2 l3 t152 true) else (dowellaw16_DescTells.j0 k l0 a1 a2 l3 t152 (decide ((l3.length : Int) > 50)))) = some r := H
  have A5 := Aside0.mk A50
  clear A50
  have HC6 := Aside0.mk H
  clear H
  go_enter Try.func11, Try.ntmps11
  go_upto_region 2 with (first | ((with_reducible refine gate_callee (f := 45) rfl ?_); refine goesL_ (some 16) rfl rfl Try.func45 (by kernel_rfl) rfl #[] rfl (by (try simp only [List.map_toArray, List.map_cons, List.map_nil]); first | done | rfl | (simp only [List.length_drop, List.length_take]; rfl)) ?_; (with_reducible refine (dowellaw16_up.calls k  t152 _ A5.out).mono ?_); rintro e w7 ⟨rfl, hb⟩; refine ⟨_, rfl, ?_⟩; have n0_ := Aside0.mk (below_step (by repeat (first | (with_reducible first | exact HB.out | apply below_alloc | apply pw_below_drewN | apply below_drew1) | exact HB.out)) hb); clear HB; have HB := n0_; clear n0_; (try clear hb); (try clear hb2); (try clear hk); (try clear hi)))
  (try simp only [Act.put, List.setIfInBounds_toArray, List.set_cons_zero, List.set_cons_succ])
  go_cut [24] (fun v24 wc => ∃ (kq : Nat) (x24_5 : Bool), v24 = .bool x24_5 ∧ Aside0 (dowellaw16_DescTells.j0 kq l0 a1 a2 l3 t152 x24_5 = some r) ∧ Aside0 (kq ≤ k) ∧ Aside0 (Below w.heap.size w wc))
  case first =>
    have H := HC6.out
    clear HC6
    by_cases c8 : (l0.length : Int) > 50
    · rw [if_pos c8] at H
      have c8b0 : decide (50 < (l0.length : Int)) = true := decide_eq_true c8
      have c8b1 : decide (50 < l0.length) = true := decide_eq_true (by omega)
      clear c8
      (first | rw [c8b0] | (simp only [i64_w, i32_w]; rw [c8b0]) | skip)
      have H' := Aside0.mk H
      clear H
      go_wp2
      go_meet
      case rel => exact ⟨_, (true), (by first | rfl | (simp; done) | (simp [*]; done)), H', ⟨by first | omega | exact Nat.le_refl _⟩, ⟨by repeat (first | (with_reducible first | exact HB.out | apply below_alloc | apply pw_below_drewN | apply below_drew1) | exact HB.out)⟩⟩
    · rw [if_neg c8] at H
      have c8b0 : decide (50 < (l0.length : Int)) = false := decide_eq_false c8
      have c8b1 : decide (50 < l0.length) = false := decide_eq_false (by omega)
      clear c8
      (first | rw [c8b0] | (simp only [i64_w, i32_w]; rw [c8b0]) | skip)
      have H' := Aside0.mk H
      clear H
      go_wp2
      go_meet
      case rel => exact ⟨_, (decide ((l3.length : Int) > 50)), (by first | rfl | (simp; done) | (simp [*]; done)), H', ⟨by first | omega | exact Nat.le_refl _⟩, ⟨by repeat (first | (with_reducible first | exact HB.out | apply below_alloc | apply pw_below_drewN | apply below_drew1) | exact HB.out)⟩⟩
  case rest =>
    clear HC6
    try clear c1
    try clear p2
    try clear c3
    try clear c4
    try clear c8
    try clear c8b0
    try clear c8b1
    obtain ⟨kq, x24_5, rfl, HA, HJ5, HB⟩ := hcut
    cases kq with
    | zero => exact absurd HA.out (by simp [dowellaw16_DescTells.j0])
    | succ kj5 =>
      have H := HA.out
      clear HA
      simp only [dowellaw16_DescTells.j0] at H
      by_cases c9 : x24_5 = true
      · subst c9
        have H1 : (some t152) = some r := by rw [if_pos rfl] at H; exact H
        clear H
        have H := H1
        clear H1
        obtain rfl := Option.some.inj H
        go_wp2
        go_ret
        exact ⟨by first | rfl | (simp [errW_none, errW_some] <;> rfl) | (simp [*, errW_none, errW_some] <;> rfl), by repeat (first | (with_reducible first | exact HB.out | apply below_alloc | apply pw_below_drewN | apply below_drew1) | exact HB.out)⟩
      · replace c9 := Bool.eq_false_iff.mpr c9
        subst c9
        have H1 : ((desc_Line.f l0 a1).bind fun bt153 => (if (l0.length : Int) > 3 then (if bt153.2.isNone = true then (some false) else (if (bt153.2.getD 0) = 4 then (if (bt153.1.length : Int) = 0 then (dowellaw16_DescTells.j1 kj5 a2 l3 t152) else (some false)) else (some false))) else (if bt153.2.isNone = true then ((some (([] : List Int) : List Int)).bind fun y159 => (if y159.length + l0.length < 17592186044416 then ((some (y159 ++ l0 : List Int)).bind fun y162 => (if y162.length < 17592186044416 then ((dowelref09_Ints.f kj5 bt153.1 (y162 ++ [a1])).bind fun t168 => (if t168 = true then (dowellaw16_DescTells.j1 kj5 a2 l3 t152) else (some false))) else (none))) else (none))) else (some false)))) = some r := by rw [if_neg (show ¬ (false = true) by decide)] at H; exact H
        clear H
        have H := H1
        clear H1
        replace H := Option.bind_eq_some_iff.mp H
        obtain ⟨⟨t153, t154⟩, A100, H⟩ := H
        replace H : (if (l0.length : Int) > 3 then (if t154.isNone = true then (some false) else (if (t154.getD 0) = 4 then (if (t153.length : Int) = 0 then (dowellaw16_DescTells.j1 kj5 a2 l3 t152) else (some false)) else (some false))) else (if t154.isNone = true then ((some (([] : List Int) : List Int)).bind fun y159 => (if y159.length + l0.length < 17592186044416 then ((some (y159 ++ l0 : List Int)).bind fun y162 => (if y162.length < 17592186044416 then ((dowelref09_Ints.f kj5 t153 (y162 ++ [a1])).bind fun t168 => (if t168 = true then (dowellaw16_DescTells.j1 kj5 a2 l3 t152) else (some false))) else (none))) else (none))) else (some false))) = some r := H
        have A10 := Aside0.mk A100
        clear A100
        have HC11 := Aside0.mk H
        clear H
        go_upto_if 34 with (first | ((with_reducible refine gate_callee (f := 46) rfl ?_); refine goesL_ (some 29) rfl rfl Try.func46 (by kernel_rfl) rfl #[.slice A0 l0.length c0, .int .i64 a1] rfl (by (try simp only [List.map_toArray, List.map_cons, List.map_nil]); first | done | rfl | (simp only [List.length_drop, List.length_take]; rfl)) ?_; (with_reducible refine (desc_Line.calls _ _ l0 a1 t153 t154 _ ?side1 ?side2 A10.out).mono ?_); (case side1 => repeat (first | exact (Kd.C_below HR0.out HB.out) | (with_reducible refine Kd.C_alloc ?_ _) | (with_reducible refine Kd.C_drewN ?_ _) | (with_reducible refine Kd.C_drew ?_))); (case side2 => exact HC0.out); rintro e w12 ⟨v155, rfl, ho0, hb⟩; refine ⟨_, rfl, ?_⟩; have n0_ := Aside0.mk (Kd.R_lower ho0 (below_size (by repeat (first | (with_reducible first | exact HB.out | apply below_alloc | apply pw_below_drewN | apply below_drew1) | exact HB.out)))); have n1_ := Aside0.mk (below_step (by repeat (first | (with_reducible first | exact HB.out | apply below_alloc | apply pw_below_drewN | apply below_drew1) | exact HB.out)) hb); clear HB; have HO156 := n0_; have HB := n1_; clear n0_ n1_; (try clear hb); (try clear hb2); (try clear hk); (try clear hi); (try clear ho0); (try simp only [errW_none, errW_some])))
        (try simp only [Act.put, List.setIfInBounds_toArray, List.set_cons_zero, List.set_cons_succ])
        go_cut [] (fun wc => ∃ (kq : Nat), Aside0 (dowellaw16_DescTells.j1 kq a2 l3 t152 = some r) ∧ Aside0 (kq ≤ kj5) ∧ Aside0 (Below w.heap.size w wc))
        case first =>
          have H := HC11.out
          clear HC11
          by_cases c13 : (l0.length : Int) > 3
          · rw [if_pos c13] at H
            have c13b0 : decide (3 < (l0.length : Int)) = true := decide_eq_true c13
            have c13b1 : decide (3 < l0.length) = true := decide_eq_true (by omega)
            clear c13
            (first | rw [c13b0] | (simp only [i64_w, i32_w]; rw [c13b0]) | skip)
            rcases t154 with _ | q157
            · have H1 : (some false) = some r := by rw [if_pos (show (none : Option Int).isNone = true by rfl)] at H; exact H
              clear H
              have H := H1
              clear H1
              try simp only [errW_none, errW_some]
              obtain rfl := Option.some.inj H
              go_wp2
              go_ret
              exact ⟨by first | rfl | (simp [errW_none, errW_some] <;> rfl) | (simp [*, errW_none, errW_some] <;> rfl), by repeat (first | (with_reducible first | exact HB.out | apply below_alloc | apply pw_below_drewN | apply below_drew1) | exact HB.out)⟩
            · have H1 : (if q157 = 4 then (if (t153.length : Int) = 0 then (dowellaw16_DescTells.j1 kj5 a2 l3 t152) else (some false)) else (some false)) = some r := by rw [if_neg (show ¬ (some q157).isNone = true by simp)] at H; exact H
              clear H
              have H := H1
              clear H1
              try simp only [errW_none, errW_some]
              by_cases c14 : q157 = 4
              · rw [if_pos c14] at H
                have c14b0 : (q157 == 4) = true := beq_iff_eq.mpr c14
                have c14b1 : (q157 != 4) = false := bne_eq_false_iff_eq.mpr c14
                clear c14
                by_cases c15 : (t153.length : Int) = 0
                · rw [if_pos c15] at H
                  have c15b0 : ((t153.length : Int) == 0) = true := beq_iff_eq.mpr c15
                  have c15b1 : ((t153.length : Int) != 0) = false := bne_eq_false_iff_eq.mpr c15
                  clear c15
                  have H' := Aside0.mk H
                  clear H
                  obtain ⟨Ao16, co16, eo16⟩ := Kd.R_slice HO156.out
                  subst eo16
                  go_wp2
                  go_meet
                  case rel => exact ⟨_, H', ⟨by have := HJ5.out; first | omega | exact Nat.le_refl _⟩, ⟨by repeat (first | (with_reducible first | exact HB.out | apply below_alloc | apply pw_below_drewN | apply below_drew1) | exact HB.out)⟩⟩
                · rw [if_neg c15] at H
                  have c15b0 : ((t153.length : Int) == 0) = false := beq_eq_false_iff_ne.mpr c15
                  have c15b1 : ((t153.length : Int) != 0) = true := bne_iff_ne.mpr c15
                  have c15b2 : ¬ (t153 = []) := fun h_ => c15 (by rw [h_]; rfl)
                  obtain rfl := Option.some.inj H
                  obtain ⟨Ao17, co17, eo17⟩ := Kd.R_slice HO156.out
                  subst eo17
                  go_wp2
                  go_ret
                  exact ⟨by first | rfl | (simp [errW_none, errW_some] <;> rfl) | (simp [*, errW_none, errW_some] <;> rfl), by repeat (first | (with_reducible first | exact HB.out | apply below_alloc | apply pw_below_drewN | apply below_drew1) | exact HB.out)⟩
              · rw [if_neg c14] at H
                have c14b0 : (q157 == 4) = false := beq_eq_false_iff_ne.mpr c14
                have c14b1 : (q157 != 4) = true := bne_iff_ne.mpr c14
                obtain rfl := Option.some.inj H
                go_wp2
                go_ret
                exact ⟨by first | rfl | (simp [errW_none, errW_some] <;> rfl) | (simp [*, errW_none, errW_some] <;> rfl), by repeat (first | (with_reducible first | exact HB.out | apply below_alloc | apply pw_below_drewN | apply below_drew1) | exact HB.out)⟩
          · rw [if_neg c13] at H
            have c13b0 : decide (3 < (l0.length : Int)) = false := decide_eq_false c13
            have c13b1 : decide (3 < l0.length) = false := decide_eq_false (by omega)
            clear c13
            (first | rw [c13b0] | (simp only [i64_w, i32_w]; rw [c13b0]) | skip)
            rcases t154 with _ | q158
            · have H1 : ((some (([] : List Int) : List Int)).bind fun y159 => (if y159.length + l0.length < 17592186044416 then ((some (y159 ++ l0 : List Int)).bind fun y162 => (if y162.length < 17592186044416 then ((dowelref09_Ints.f kj5 t153 (y162 ++ [a1])).bind fun t168 => (if t168 = true then (dowellaw16_DescTells.j1 kj5 a2 l3 t152) else (some false))) else (none))) else (none))) = some r := by rw [if_pos (show (none : Option Int).isNone = true by rfl)] at H; exact H
              clear H
              have H := H1
              clear H1
              try simp only [errW_none, errW_some]
              obtain ⟨y159, hy159⟩ : ∃ y_ : List Int, y_ = (([] : List Int)) := ⟨_, rfl⟩
              replace H : (if y159.length + l0.length < 17592186044416 then ((some (y159 ++ l0 : List Int)).bind fun y162 => (if y162.length < 17592186044416 then ((dowelref09_Ints.f kj5 t153 (y162 ++ [a1])).bind fun t168 => (if t168 = true then (dowellaw16_DescTells.j1 kj5 a2 l3 t152) else (some false))) else (none))) else (none)) = some r := by first | (rw [hy159]; with_reducible exact H) | (have H2_ := (Option.bind_some _ _).symm.trans H; rw [hy159]; with_reducible exact H2_) | (have H2_ := (Option.bind_some _ _).symm.trans H; with_reducible exact H2_) | with_reducible exact H | (rw [hy159]; exact H) | exact H
              have Ny159 := Aside0.mk hy159
              clear hy159
              by_cases c18 : y159.length + l0.length < 17592186044416
              · rw [if_pos c18] at H
                have LMc18 := Aside0.mk c18
                clear c18
                obtain ⟨y162, hy162⟩ : ∃ y_ : List Int, y_ = (y159 ++ l0) := ⟨_, rfl⟩
                replace H : (if y162.length < 17592186044416 then ((dowelref09_Ints.f kj5 t153 (y162 ++ [a1])).bind fun t168 => (if t168 = true then (dowellaw16_DescTells.j1 kj5 a2 l3 t152) else (some false))) else (none)) = some r := by first | (rw [hy162]; with_reducible exact H) | (have H2_ := (Option.bind_some _ _).symm.trans H; rw [hy162]; with_reducible exact H2_) | (have H2_ := (Option.bind_some _ _).symm.trans H; with_reducible exact H2_) | with_reducible exact H | (rw [hy162]; exact H) | exact H
                have Ny162 := Aside0.mk hy162
                clear hy162
                by_cases c19 : y162.length < 17592186044416
                · rw [if_pos c19] at H
                  have LMc19 := Aside0.mk c19
                  clear c19
                  obtain ⟨y165, hy165⟩ : ∃ y_ : List Int, y_ = (y162 ++ [a1]) := ⟨_, rfl⟩
                  replace H : ((dowelref09_Ints.f kj5 t153 y165).bind fun t168 => (if t168 = true then (dowellaw16_DescTells.j1 kj5 a2 l3 t152) else (some false))) = some r := by first | (rw [hy165]; with_reducible exact H) | (have H2_ := (Option.bind_some _ _).symm.trans H; rw [hy165]; with_reducible exact H2_) | (have H2_ := (Option.bind_some _ _).symm.trans H; with_reducible exact H2_) | with_reducible exact H | (rw [hy165]; exact H) | exact H
                  have Ny165 := Aside0.mk hy165
                  clear hy165
                  replace H := Option.bind_eq_some_iff.mp H
                  obtain ⟨t168, A200, H⟩ := H
                  replace H : (if t168 = true then (dowellaw16_DescTells.j1 kj5 a2 l3 t152) else (some false)) = some r := H
                  have A20 := Aside0.mk A200
                  clear A200
                  by_cases c21 : t168 = true
                  · subst c21
                    have H1 : (dowellaw16_DescTells.j1 kj5 a2 l3 t152) = some r := by rw [if_pos rfl] at H; exact H
                    clear H
                    have H := H1
                    clear H1
                    have H' := Aside0.mk H
                    clear H
                    go_wp2_with (first | ((with_reducible refine gate_dst (N := 47) rfl ?_); (try (refine gate_guard (by rfl) ?_; dsimp only)); refine Kd.R_lit (Kd.int .i64) _ 3 ?hg (N := 47) ?hd (xs := ([] : List Int)) (inner := []) (ok := fun _ => True) (okp := fun _ => True) ?hr ?hp (fun _ hk => hk) trivial (Below.refl _ _) (Nat.le_refl _) (by simp) ?_; (case hd => rfl); (case hg => rfl); (case hr => first | (go_simp; done) | (go_simp; rfl)); (case hp => exact (Reps.none _ _)); intro v160 w22 ho23 hb hg_ hnew_; clear hg_ hnew_; (first | rw [← Ny159.out] at ho23 | (simp only [Int.reduceToNat] at ho23; rw [← Ny159.out] at ho23)); have n0_ := Aside0.mk (Kd.R_elder' (by (with_reducible repeat (first | apply Kd.R_alloc | apply Kd.R_drewN | apply Kd.R_drew)); exact HO156.out) (Kd.R_base ho23) hb); have n1_ := Aside0.mk (Kd.R_lower (Kd.R_new' ho23 (Kd.R_lt (by (with_reducible repeat (first | apply Kd.R_alloc | apply Kd.R_drewN | apply Kd.R_drew)); exact HO156.out))) (below_size (by repeat (first | (with_reducible first | exact HB.out | apply below_alloc | apply pw_below_drewN | apply below_drew1) | exact HB.out)))); have n2_ := Aside0.mk (below_step (by repeat (first | (with_reducible first | exact HB.out | apply below_alloc | apply pw_below_drewN | apply below_drew1) | exact HB.out)) hb); clear HO156; clear HB; have HO156 := n0_; have HO161 := n1_; have HB := n2_; clear n0_ n1_ n2_; clear hb ho23) | ((with_reducible refine gate_builtin (b := .append) (xs := #[.tmp 47, .tmp 48]) rfl ?_); (try (refine gate_guard (by rfl) ?_; dsimp only)); at_builtin; refine Kd.R_append_rows (Kd.int .i64) (w0 := w) w.heap.size rfl (.tmp 47) (.tmp 48) 35 3 (.int .i64 0) 8 rfl Try.underlying35 info3 rfl (by decide) (by omega) v160 y159 l0 _ _ _ (fun k_ => some k_ ≠ (v155 : Value).ownBlock) (fun _ => False) rfl rfl ?aO ?aR (fun _ _ h => h) (fun _ h => h.elim) ?aF ?aB ?aS ?aL ?_; (case aR => repeat (first | exact (Kd.C_below HR0.out HB.out) | (with_reducible refine Kd.C_alloc ?_ _) | (with_reducible refine Kd.C_drewN ?_ _) | (with_reducible refine Kd.C_drew ?_))); (case aB => exact (by repeat (first | (with_reducible first | exact HB.out | apply below_alloc | apply pw_below_drewN | apply below_drew1) | exact HB.out))); (case aF => exact (fun k_ hk => Kd.fresh' (Kd.R_lt (by (with_reducible repeat (first | apply Kd.R_alloc | apply Kd.R_drewN | apply Kd.R_drew)); exact HO156.out)) k_ hk)); (case aO => exact (by (with_reducible repeat (first | apply Kd.R_alloc | apply Kd.R_drewN | apply Kd.R_drew)); exact Kd.R_mono HO161.out (fun _ hk => hk.2))); (case aS => exact (below_size (by repeat (first | (with_reducible first | exact HB.out | apply below_alloc | apply pw_below_drewN | apply below_drew1) | exact HB.out)))); (case aL => have := LMc18.out; omega); intro v163 w24 ho hb hg hat; rw [← Ny162.out] at ho; have n0_ := Aside0.mk (Kd.R_after (ok := (fun _ => True)) (by (with_reducible repeat (first | apply Kd.R_alloc | apply Kd.R_drewN | apply Kd.R_drew)); exact HO156.out) hg hat); have n1_ := Aside0.mk (hb); have n2_ := Aside0.mk (ho); clear HO156; clear HB; clear HO161; have HO156 := n0_; have HB := n1_; have HO164 := n2_; clear n0_ n1_ n2_; clear ho hb hg hat) | ((with_reducible refine gate_builtin (b := .append) (xs := #[.tmp 49, .tmp 51]) rfl ?_); (try (refine gate_guard (by rfl) ?_; dsimp only)); at_builtin; refine Kd.R_append (Kd.int .i64) (w0 := w) w.heap.size rfl (.tmp 49) (.tmp 51) 35 3 (.int .i64 0) 8 rfl Try.underlying35 info3 rfl (by decide) (by omega) v163 y162 a1 [.int .i64 a1] (fun k_ => some k_ ≠ (v155 : Value).ownBlock) (fun _ => False) rfl rfl ?aP (fun _ hk => hk.elim) ?aF ?aO ?aB ?aS ?aL ?_; (case aP => exact rfl); (case aB => exact (by repeat (first | (with_reducible first | exact HB.out | apply below_alloc | apply pw_below_drewN | apply below_drew1) | exact HB.out))); (case aF => exact (fun k_ hk => Kd.fresh' (Kd.R_lt (by (with_reducible repeat (first | apply Kd.R_alloc | apply Kd.R_drewN | apply Kd.R_drew)); exact HO156.out)) k_ hk)); (case aO => exact (by (with_reducible repeat (first | apply Kd.R_alloc | apply Kd.R_drewN | apply Kd.R_drew)); exact HO164.out)); (case aS => exact (below_size (by repeat (first | (with_reducible first | exact HB.out | apply below_alloc | apply pw_below_drewN | apply below_drew1) | exact HB.out)))); (case aL => have := LMc19.out; omega); intro v166 w25 ho hb hg hat; rw [← Ny165.out] at ho; have n0_ := Aside0.mk (Kd.R_after (ok := (fun _ => True)) (by (with_reducible repeat (first | apply Kd.R_alloc | apply Kd.R_drewN | apply Kd.R_drew)); exact HO156.out) hg hat); have n1_ := Aside0.mk (hb); have n2_ := Aside0.mk (ho); clear HO156; clear HB; clear HO164; have HO156 := n0_; have HB := n1_; have HO167 := n2_; clear n0_ n1_ n2_; clear ho hb hg hat; obtain ⟨Ao26, co26, eo26⟩ := Kd.R_slice HO156.out; subst eo26; obtain ⟨Ao27, co27, eo27⟩ := Kd.R_slice HO167.out; subst eo27) | (go_at_call 47; (with_reducible refine (dowelref09_Ints.calls kj5 _ _ t153 _ _ y165 true _ ?side1 ?side2 ?side3 ?side4 A20.out).mono ?_); (case side1 => repeat (first | exact (Kd.R_reads' HO156.out).2.2 | (with_reducible refine Kd.C_alloc ?_ _) | (with_reducible refine Kd.C_drewN ?_ _) | (with_reducible refine Kd.C_drew ?_))); (case side2 => exact (Kd.R_reads' HO156.out).2.1); (case side3 => repeat (first | exact (Kd.R_reads' HO167.out).2.2 | (with_reducible refine Kd.C_alloc ?_ _) | (with_reducible refine Kd.C_drewN ?_ _) | (with_reducible refine Kd.C_drew ?_))); (case side4 => exact (Kd.R_reads' HO167.out).2.1); rintro e w' ⟨rfl, ⟨nd, rfl⟩⟩))
                    go_meet
                    case rel => exact ⟨_, H', ⟨by have := HJ5.out; first | omega | exact Nat.le_refl _⟩, ⟨by repeat (first | (with_reducible first | exact HB.out | apply below_alloc | apply pw_below_drewN | apply below_drew1) | exact HB.out)⟩⟩
                  · replace c21 := Bool.eq_false_iff.mpr c21
                    subst c21
                    have H1 : (some false) = some r := by rw [if_neg (show ¬ (false = true) by decide)] at H; exact H
                    clear H
                    have H := H1
                    clear H1
                    obtain rfl := Option.some.inj H
                    go_wp2_with (first | ((with_reducible refine gate_dst (N := 47) rfl ?_); (try (refine gate_guard (by rfl) ?_; dsimp only)); refine Kd.R_lit (Kd.int .i64) _ 3 ?hg (N := 47) ?hd (xs := ([] : List Int)) (inner := []) (ok := fun _ => True) (okp := fun _ => True) ?hr ?hp (fun _ hk => hk) trivial (Below.refl _ _) (Nat.le_refl _) (by simp) ?_; (case hd => rfl); (case hg => rfl); (case hr => first | (go_simp; done) | (go_simp; rfl)); (case hp => exact (Reps.none _ _)); intro v160 w28 ho29 hb hg_ hnew_; clear hg_ hnew_; (first | rw [← Ny159.out] at ho29 | (simp only [Int.reduceToNat] at ho29; rw [← Ny159.out] at ho29)); have n0_ := Aside0.mk (Kd.R_elder' (by (with_reducible repeat (first | apply Kd.R_alloc | apply Kd.R_drewN | apply Kd.R_drew)); exact HO156.out) (Kd.R_base ho29) hb); have n1_ := Aside0.mk (Kd.R_lower (Kd.R_new' ho29 (Kd.R_lt (by (with_reducible repeat (first | apply Kd.R_alloc | apply Kd.R_drewN | apply Kd.R_drew)); exact HO156.out))) (below_size (by repeat (first | (with_reducible first | exact HB.out | apply below_alloc | apply pw_below_drewN | apply below_drew1) | exact HB.out)))); have n2_ := Aside0.mk (below_step (by repeat (first | (with_reducible first | exact HB.out | apply below_alloc | apply pw_below_drewN | apply below_drew1) | exact HB.out)) hb); clear HO156; clear HB; have HO156 := n0_; have HO161 := n1_; have HB := n2_; clear n0_ n1_ n2_; clear hb ho29) | ((with_reducible refine gate_builtin (b := .append) (xs := #[.tmp 47, .tmp 48]) rfl ?_); (try (refine gate_guard (by rfl) ?_; dsimp only)); at_builtin; refine Kd.R_append_rows (Kd.int .i64) (w0 := w) w.heap.size rfl (.tmp 47) (.tmp 48) 35 3 (.int .i64 0) 8 rfl Try.underlying35 info3 rfl (by decide) (by omega) v160 y159 l0 _ _ _ (fun k_ => some k_ ≠ (v155 : Value).ownBlock) (fun _ => False) rfl rfl ?aO ?aR (fun _ _ h => h) (fun _ h => h.elim) ?aF ?aB ?aS ?aL ?_; (case aR => repeat (first | exact (Kd.C_below HR0.out HB.out) | (with_reducible refine Kd.C_alloc ?_ _) | (with_reducible refine Kd.C_drewN ?_ _) | (with_reducible refine Kd.C_drew ?_))); (case aB => exact (by repeat (first | (with_reducible first | exact HB.out | apply below_alloc | apply pw_below_drewN | apply below_drew1) | exact HB.out))); (case aF => exact (fun k_ hk => Kd.fresh' (Kd.R_lt (by (with_reducible repeat (first | apply Kd.R_alloc | apply Kd.R_drewN | apply Kd.R_drew)); exact HO156.out)) k_ hk)); (case aO => exact (by (with_reducible repeat (first | apply Kd.R_alloc | apply Kd.R_drewN | apply Kd.R_drew)); exact Kd.R_mono HO161.out (fun _ hk => hk.2))); (case aS => exact (below_size (by repeat (first | (with_reducible first | exact HB.out | apply below_alloc | apply pw_below_drewN | apply below_drew1) | exact HB.out)))); (case aL => have := LMc18.out; omega); intro v163 w30 ho hb hg hat; rw [← Ny162.out] at ho; have n0_ := Aside0.mk (Kd.R_after (ok := (fun _ => True)) (by (with_reducible repeat (first | apply Kd.R_alloc | apply Kd.R_drewN | apply Kd.R_drew)); exact HO156.out) hg hat); have n1_ := Aside0.mk (hb); have n2_ := Aside0.mk (ho); clear HO156; clear HB; clear HO161; have HO156 := n0_; have HB := n1_; have HO164 := n2_; clear n0_ n1_ n2_; clear ho hb hg hat) | ((with_reducible refine gate_builtin (b := .append) (xs := #[.tmp 49, .tmp 51]) rfl ?_); (try (refine gate_guard (by rfl) ?_; dsimp only)); at_builtin; refine Kd.R_append (Kd.int .i64) (w0 := w) w.heap.size rfl (.tmp 49) (.tmp 51) 35 3 (.int .i64 0) 8 rfl Try.underlying35 info3 rfl (by decide) (by omega) v163 y162 a1 [.int .i64 a1] (fun k_ => some k_ ≠ (v155 : Value).ownBlock) (fun _ => False) rfl rfl ?aP (fun _ hk => hk.elim) ?aF ?aO ?aB ?aS ?aL ?_; (case aP => exact rfl); (case aB => exact (by repeat (first | (with_reducible first | exact HB.out | apply below_alloc | apply pw_below_drewN | apply below_drew1) | exact HB.out))); (case aF => exact (fun k_ hk => Kd.fresh' (Kd.R_lt (by (with_reducible repeat (first | apply Kd.R_alloc | apply Kd.R_drewN | apply Kd.R_drew)); exact HO156.out)) k_ hk)); (case aO => exact (by (with_reducible repeat (first | apply Kd.R_alloc | apply Kd.R_drewN | apply Kd.R_drew)); exact HO164.out)); (case aS => exact (below_size (by repeat (first | (with_reducible first | exact HB.out | apply below_alloc | apply pw_below_drewN | apply below_drew1) | exact HB.out)))); (case aL => have := LMc19.out; omega); intro v166 w31 ho hb hg hat; rw [← Ny165.out] at ho; have n0_ := Aside0.mk (Kd.R_after (ok := (fun _ => True)) (by (with_reducible repeat (first | apply Kd.R_alloc | apply Kd.R_drewN | apply Kd.R_drew)); exact HO156.out) hg hat); have n1_ := Aside0.mk (hb); have n2_ := Aside0.mk (ho); clear HO156; clear HB; clear HO164; have HO156 := n0_; have HB := n1_; have HO167 := n2_; clear n0_ n1_ n2_; clear ho hb hg hat; obtain ⟨Ao32, co32, eo32⟩ := Kd.R_slice HO156.out; subst eo32; obtain ⟨Ao33, co33, eo33⟩ := Kd.R_slice HO167.out; subst eo33) | (go_at_call 47; (with_reducible refine (dowelref09_Ints.calls kj5 _ _ t153 _ _ y165 false _ ?side1 ?side2 ?side3 ?side4 A20.out).mono ?_); (case side1 => repeat (first | exact (Kd.R_reads' HO156.out).2.2 | (with_reducible refine Kd.C_alloc ?_ _) | (with_reducible refine Kd.C_drewN ?_ _) | (with_reducible refine Kd.C_drew ?_))); (case side2 => exact (Kd.R_reads' HO156.out).2.1); (case side3 => repeat (first | exact (Kd.R_reads' HO167.out).2.2 | (with_reducible refine Kd.C_alloc ?_ _) | (with_reducible refine Kd.C_drewN ?_ _) | (with_reducible refine Kd.C_drew ?_))); (case side4 => exact (Kd.R_reads' HO167.out).2.1); rintro e w' ⟨rfl, ⟨nd, rfl⟩⟩))
                    go_ret
                    exact ⟨by first | rfl | (simp [errW_none, errW_some] <;> rfl) | (simp [*, errW_none, errW_some] <;> rfl), by repeat (first | (with_reducible first | exact HB.out | apply below_alloc | apply pw_below_drewN | apply below_drew1) | exact HB.out)⟩
                · rw [if_neg c19] at H
                  exact absurd H (by simp)
              · rw [if_neg c18] at H
                exact absurd H (by simp)
            · have H1 : (some false) = some r := by rw [if_neg (show ¬ (some q158).isNone = true by simp)] at H; exact H
              clear H
              have H := H1
              clear H1
              try simp only [errW_none, errW_some]
              obtain rfl := Option.some.inj H
              go_wp2
              go_ret
              exact ⟨by first | rfl | (simp [errW_none, errW_some] <;> rfl) | (simp [*, errW_none, errW_some] <;> rfl), by repeat (first | (with_reducible first | exact HB.out | apply below_alloc | apply pw_below_drewN | apply below_drew1) | exact HB.out)⟩
        case rest =>
          clear HC11
          try clear c1
          try clear q1
          try clear c2
          try clear p2
          try clear c3
          try clear c4
          try clear c8
          try clear c8b0
          try clear c8b1
          try clear c9
          try clear c11
          try clear c13
          try clear c13b0
          try clear c13b1
          try clear c14
          try clear c14b0
          try clear c14b1
          try clear c15
          try clear c15b0
          try clear c15b1
          try clear c15b2
          try clear q15
          try clear c18
          try clear c19
          try clear c21
          try clear p2
          try clear q157
          try clear q158
          obtain ⟨kq, HA, HJ10, HB⟩ := hcut
          cases kq with
          | zero => exact absurd HA.out (by simp [dowellaw16_DescTells.j1])
          | succ kj10 =>
            have H := HA.out
            clear HA
            simp only [dowellaw16_DescTells.j1] at H
            replace H := Option.bind_eq_some_iff.mp H
            obtain ⟨⟨t169, t170⟩, A340, H⟩ := H
            replace H : (if (l3.length : Int) < 1 then (dowellaw16_DescTells.j2 kj10 a2 l3 t152 t169 t170 true) else (dowellaw16_DescTells.j2 kj10 a2 l3 t152 t169 t170 (decide ((l3.length : Int) > 4)))) = some r := H
            have A34 := Aside0.mk A340
            clear A340
            have HC35 := Aside0.mk H
            clear H
            go_upto_region 11 with (first | ((with_reducible refine gate_callee (f := 48) rfl ?_); refine goesL_ (some 59) rfl rfl Try.func48 (by kernel_rfl) rfl #[.int .i64 a2, .slice A3 l3.length c3] rfl (by (try simp only [List.map_toArray, List.map_cons, List.map_nil]); first | done | rfl | (simp only [List.length_drop, List.length_take]; rfl)) ?_; (with_reducible refine (desc_Words.calls kj10 a2 _ _ l3 t169 t170 _ ?side1 ?side2 A34.out).mono ?_); (case side1 => repeat (first | exact (Kd.C_below HR3.out HB.out) | (with_reducible refine Kd.C_alloc ?_ _) | (with_reducible refine Kd.C_drewN ?_ _) | (with_reducible refine Kd.C_drew ?_))); (case side2 => exact HC3.out); rintro e w36 ⟨v171, rfl, ho0, hb⟩; refine ⟨_, rfl, ?_⟩; have n0_ := Aside0.mk (Kd.R_lower ho0 (below_size (by repeat (first | (with_reducible first | exact HB.out | apply below_alloc | apply pw_below_drewN | apply below_drew1) | exact HB.out)))); have n1_ := Aside0.mk (below_step (by repeat (first | (with_reducible first | exact HB.out | apply below_alloc | apply pw_below_drewN | apply below_drew1) | exact HB.out)) hb); clear HB; have HO172 := n0_; have HB := n1_; clear n0_ n1_; (try clear hb); (try clear hb2); (try clear hk); (try clear hi); (try clear ho0); (try simp only [errW_none, errW_some])))
            (try simp only [Act.put, List.setIfInBounds_toArray, List.set_cons_zero, List.set_cons_succ])
            go_cut [69] (fun v69 wc => ∃ (kq : Nat) (x69_34 : Bool), v69 = .bool x69_34 ∧ Aside0 (dowellaw16_DescTells.j2 kq a2 l3 t152 t169 t170 x69_34 = some r) ∧ Aside0 (kq ≤ kj10) ∧ Aside0 (Kd.R (Kd.int .u32) 25 wc w.heap.size (fun _ => True) v171 t169) ∧ Aside0 (Below w.heap.size w wc))
            case first =>
              have H := HC35.out
              clear HC35
              by_cases c37 : (l3.length : Int) < 1
              · rw [if_pos c37] at H
                have c37b0 : decide ((l3.length : Int) < 1) = true := decide_eq_true c37
                have c37b1 : decide (l3.length < 1) = true := decide_eq_true (by omega)
                clear c37
                (first | rw [c37b0] | (simp only [i64_w, i32_w]; rw [c37b0]) | skip)
                have H' := Aside0.mk H
                clear H
                go_wp2
                go_meet
                case rel => exact ⟨_, (true), (by first | rfl | (simp; done) | (simp [*]; done)), H', ⟨by have := HJ5.out; have := HJ10.out; first | omega | exact Nat.le_refl _⟩, ⟨by (with_reducible repeat (first | apply Kd.R_alloc | apply Kd.R_drewN | apply Kd.R_drew)); exact HO172.out⟩, ⟨by repeat (first | (with_reducible first | exact HB.out | apply below_alloc | apply pw_below_drewN | apply below_drew1) | exact HB.out)⟩⟩
              · rw [if_neg c37] at H
                have c37b0 : decide ((l3.length : Int) < 1) = false := decide_eq_false c37
                have c37b1 : decide (l3.length < 1) = false := decide_eq_false (by omega)
                clear c37
                (first | rw [c37b0] | (simp only [i64_w, i32_w]; rw [c37b0]) | skip)
                have H' := Aside0.mk H
                clear H
                go_wp2
                go_meet
                case rel => exact ⟨_, (decide ((l3.length : Int) > 4)), (by first | rfl | (simp; done) | (simp [*]; done)), H', ⟨by have := HJ5.out; have := HJ10.out; first | omega | exact Nat.le_refl _⟩, ⟨by (with_reducible repeat (first | apply Kd.R_alloc | apply Kd.R_drewN | apply Kd.R_drew)); exact HO172.out⟩, ⟨by repeat (first | (with_reducible first | exact HB.out | apply below_alloc | apply pw_below_drewN | apply below_drew1) | exact HB.out)⟩⟩
            case rest =>
              clear HC35
              try clear c1
              try clear q1
              try clear c2
              try clear p2
              try clear c3
              try clear c4
              try clear c8
              try clear c8b0
              try clear c8b1
              try clear c9
              try clear c11
              try clear c13
              try clear c13b0
              try clear c13b1
              try clear c14
              try clear c14b0
              try clear c14b1
              try clear c15
              try clear c15b0
              try clear c15b1
              try clear c15b2
              try clear q15
              try clear c18
              try clear c19
              try clear c21
              try clear c37
              try clear c37b0
              try clear c37b1
              try clear p2
              try clear q1
              try clear q15
              try clear q157
              try clear q158
              obtain ⟨kq, x69_34, rfl, HA, HJ34, HO_12, HB⟩ := hcut
              cases kq with
              | zero => exact absurd HA.out (by simp [dowellaw16_DescTells.j2])
              | succ kj34 =>
                have H := HA.out
                clear HA
                simp only [dowellaw16_DescTells.j2] at H
                by_cases c38 : x69_34 = true
                · subst c38
                  have H1 : (if t152 = true then (if t170.isNone = true then (some false) else (if (t170.getD 0) = 4 then (some ((t169.length : Int) == 0)) else (some false))) else (some false)) = some r := by rw [if_pos rfl] at H; exact H
                  clear H
                  have H := H1
                  clear H1
                  by_cases c39 : t152 = true
                  · subst c39
                    have H1 : (if t170.isNone = true then (some false) else (if (t170.getD 0) = 4 then (some ((t169.length : Int) == 0)) else (some false))) = some r := by rw [if_pos rfl] at H; exact H
                    clear H
                    have H := H1
                    clear H1
                    rcases t170 with _ | q173
                    · have H1 : (some false) = some r := by rw [if_pos (show (none : Option Int).isNone = true by rfl)] at H; exact H
                      clear H
                      have H := H1
                      clear H1
                      try simp only [errW_none, errW_some]
                      obtain rfl := Option.some.inj H
                      go_wp2
                      go_ret
                      exact ⟨by first | rfl | (simp [errW_none, errW_some] <;> rfl) | (simp [*, errW_none, errW_some] <;> rfl), by repeat (first | (with_reducible first | exact HB.out | apply below_alloc | apply pw_below_drewN | apply below_drew1) | exact HB.out)⟩
                    · have H1 : (if q173 = 4 then (some ((t169.length : Int) == 0)) else (some false)) = some r := by rw [if_neg (show ¬ (some q173).isNone = true by simp)] at H; exact H
                      clear H
                      have H := H1
                      clear H1
                      try simp only [errW_none, errW_some]
                      by_cases c40 : q173 = 4
                      · rw [if_pos c40] at H
                        have c40b0 : (q173 == 4) = true := beq_iff_eq.mpr c40
                        have c40b1 : (q173 != 4) = false := bne_eq_false_iff_eq.mpr c40
                        clear c40
                        obtain rfl := Option.some.inj H
                        obtain ⟨Ao41, co41, eo41⟩ := Kd.R_slice HO_12.out
                        subst eo41
                        go_wp2
                        go_ret
                        exact ⟨by first | rfl | (simp [errW_none, errW_some] <;> rfl) | (simp [*, errW_none, errW_some] <;> rfl), by repeat (first | (with_reducible first | exact HB.out | apply below_alloc | apply pw_below_drewN | apply below_drew1) | exact HB.out)⟩
                      · rw [if_neg c40] at H
                        have c40b0 : (q173 == 4) = false := beq_eq_false_iff_ne.mpr c40
                        have c40b1 : (q173 != 4) = true := bne_iff_ne.mpr c40
                        obtain rfl := Option.some.inj H
                        go_wp2
                        go_ret
                        exact ⟨by first | rfl | (simp [errW_none, errW_some] <;> rfl) | (simp [*, errW_none, errW_some] <;> rfl), by repeat (first | (with_reducible first | exact HB.out | apply below_alloc | apply pw_below_drewN | apply below_drew1) | exact HB.out)⟩
                  · replace c39 := Bool.eq_false_iff.mpr c39
                    subst c39
                    have H1 : (some false) = some r := by rw [if_neg (show ¬ (false = true) by decide)] at H; exact H
                    clear H
                    have H := H1
                    clear H1
                    obtain rfl := Option.some.inj H
                    go_wp2
                    go_ret
                    exact ⟨by first | rfl | (simp [errW_none, errW_some] <;> rfl) | (simp [*, errW_none, errW_some] <;> rfl), by repeat (first | (with_reducible first | exact HB.out | apply below_alloc | apply pw_below_drewN | apply below_drew1) | exact HB.out)⟩
                · replace c38 := Bool.eq_false_iff.mpr c38
                  subst c38
                  have H1 : (if t170.isNone = true then (dowellaw16_DescTells.j3 kj34 a2 l3 t152 t169 ((t169.length : Int) != 4)) else (dowellaw16_DescTells.j3 kj34 a2 l3 t152 t169 true)) = some r := by rw [if_neg (show ¬ (false = true) by decide)] at H; exact H
                  clear H
                  have H := H1
                  clear H1
                  have HC42 := Aside0.mk H
                  clear H
                  go_upto_region 13 with (fail)
                  go_cut [87] (fun v87 wc => ∃ (kq : Nat) (x87_41 : Bool), v87 = .bool x87_41 ∧ Aside0 (dowellaw16_DescTells.j3 kq a2 l3 t152 t169 x87_41 = some r) ∧ Aside0 (kq ≤ kj34) ∧ Aside0 (Kd.R (Kd.int .u32) 25 wc w.heap.size (fun _ => True) v171 t169) ∧ Aside0 (Below w.heap.size w wc))
                  case first =>
                    have H := HC42.out
                    clear HC42
                    rcases t170 with _ | q174
                    · have H1 : (dowellaw16_DescTells.j3 kj34 a2 l3 t152 t169 ((t169.length : Int) != 4)) = some r := by rw [if_pos (show (none : Option Int).isNone = true by rfl)] at H; exact H
                      clear H
                      have H := H1
                      clear H1
                      try simp only [errW_none, errW_some]
                      have H' := Aside0.mk H
                      clear H
                      obtain ⟨Ao43, co43, eo43⟩ := Kd.R_slice HO_12.out
                      subst eo43
                      go_wp2
                      go_meet
                      case rel => exact ⟨_, (((t169.length : Int) != 4)), (by first | rfl | (simp; done) | (simp [*]; done)), H', ⟨by have := HJ5.out; have := HJ10.out; have := HJ34.out; first | omega | exact Nat.le_refl _⟩, ⟨by (with_reducible repeat (first | apply Kd.R_alloc | apply Kd.R_drewN | apply Kd.R_drew)); exact HO_12.out⟩, ⟨by repeat (first | (with_reducible first | exact HB.out | apply below_alloc | apply pw_below_drewN | apply below_drew1) | exact HB.out)⟩⟩
                    · have H1 : (dowellaw16_DescTells.j3 kj34 a2 l3 t152 t169 true) = some r := by rw [if_neg (show ¬ (some q174).isNone = true by simp)] at H; exact H
                      clear H
                      have H := H1
                      clear H1
                      try simp only [errW_none, errW_some]
                      have H' := Aside0.mk H
                      clear H
                      go_wp2
                      go_meet
                      case rel => exact ⟨_, (true), (by first | rfl | (simp; done) | (simp [*]; done)), H', ⟨by have := HJ5.out; have := HJ10.out; have := HJ34.out; first | omega | exact Nat.le_refl _⟩, ⟨by (with_reducible repeat (first | apply Kd.R_alloc | apply Kd.R_drewN | apply Kd.R_drew)); exact HO_12.out⟩, ⟨by repeat (first | (with_reducible first | exact HB.out | apply below_alloc | apply pw_below_drewN | apply below_drew1) | exact HB.out)⟩⟩
                  case rest =>
                    clear HC42
                    try clear c1
                    try clear q1
                    try clear c2
                    try clear p2
                    try clear c3
                    try clear c4
                    try clear c8
                    try clear c8b0
                    try clear c8b1
                    try clear c9
                    try clear c11
                    try clear c13
                    try clear c13b0
                    try clear c13b1
                    try clear c14
                    try clear c14b0
                    try clear c14b1
                    try clear c15
                    try clear c15b0
                    try clear c15b1
                    try clear c15b2
                    try clear q15
                    try clear q17
                    try clear c18
                    try clear c19
                    try clear c21
                    try clear c37
                    try clear c37b0
                    try clear c37b1
                    try clear c38
                    try clear c39
                    try clear c40
                    try clear c40b0
                    try clear c40b1
                    try clear p2
                    try clear q1
                    try clear q15
                    try clear q157
                    try clear q158
                    try clear q173
                    try clear q174
                    obtain ⟨kq, x87_41, rfl, HA, HJ41, HO_12, HB⟩ := hcut
                    cases kq with
                    | zero => exact absurd HA.out (by simp [dowellaw16_DescTells.j3])
                    | succ kj41 =>
                      have H := HA.out
                      clear HA
                      simp only [dowellaw16_DescTells.j3] at H
                      by_cases c44 : x87_41 = true
                      · subst c44
                        have H1 : (some false) = some r := by rw [if_pos rfl] at H; exact H
                        clear H
                        have H := H1
                        clear H1
                        obtain rfl := Option.some.inj H
                        go_wp2
                        go_ret
                        exact ⟨by first | rfl | (simp [errW_none, errW_some] <;> rfl) | (simp [*, errW_none, errW_some] <;> rfl), by repeat (first | (with_reducible first | exact HB.out | apply below_alloc | apply pw_below_drewN | apply below_drew1) | exact HB.out)⟩
                      · replace c44 := Bool.eq_false_iff.mpr c44
                        subst c44
                        have H1 : (if 0 < (t169.length : Int) then (if (rd t169 0) = ((a2) % 4294967296) then (dowellaw16_DescTells.l0 kj41 l3 t152 t169 1) else (some false)) else (none)) = some r := by rw [if_neg (show ¬ (false = true) by decide)] at H; exact H
                        clear H
                        have H := H1
                        clear H1
                        by_cases c45 : 0 < (t169.length : Int)
                        · rw [if_pos c45] at H
                          have c45b0 : decide (0 < (t169.length : Int)) = true := decide_eq_true c45
                          have c45b1 : decide (0 < t169.length) = true := decide_eq_true (by omega)
                          clear c45
                          by_cases c46 : (rd t169 0) = ((a2) % 4294967296)
                          · rw [if_pos c46] at H
                            have c46b0 : ((rd t169 0) == ((a2) % 4294967296)) = true := beq_iff_eq.mpr c46
                            have c46b1 : ((rd t169 0) != ((a2) % 4294967296)) = false := bne_eq_false_iff_eq.mpr c46
                            clear c46
                            have H' := Aside0.mk H
                            clear H
                            obtain ⟨Ao47, co47, eo47⟩ := Kd.R_slice HO_12.out
                            subst eo47
                            have p175 : 0 ≤ (0 : Int) := (by omega)
                            have q175 : 0 < (t169.length : Int) := of_decide_eq_true (by first | (with_reducible assumption) | assumption)
                            obtain ⟨ad175, e175, hx175_0⟩ := Kd.at_int (Kd.R_reads' HO_12.out).2.2 0 p175 q175
                            cases e175
                            have qi175 : (0 < t169.length) = True := eq_true (by omega)
                            (try rw [show ((0 : Int)).toNat = 0 from rfl] at hx175_0)
                            (try rw [Addr.add_zero'] at hx175_0)
                            replace p175 := eq_true p175
                            replace q175 := eq_true q175
                            go_wp2
                            go_loopg [14] kj41 (fun kq v14 w' => ∃ (x14_5 : Int), v14 = .int .i64 x14_5 ∧ Aside0 (dowellaw16_DescTells.l0 kq l3 t152 t169 x14_5 = some r) ∧ Aside0 (kq ≤ kj41) ∧ Aside0 (Kd.R (Kd.int .u32) 25 w' w.heap.size (fun _ => True) (.slice (some ad175) t169.length co47) t169) ∧ Aside0 (Below w.heap.size w w'))
                            case atStart => exact ⟨(1), (by first | rfl | (simp; done) | (simp [*]; done)), H', ⟨Nat.le_refl _⟩, ⟨by (with_reducible repeat (first | apply Kd.R_alloc | apply Kd.R_drewN | apply Kd.R_drew)); exact HO_12.out⟩, ⟨by repeat (first | (with_reducible first | exact HB.out | apply below_alloc | apply pw_below_drewN | apply below_drew1) | exact HB.out)⟩⟩
                            case round =>
                              clear H'
                              try clear c1
                              try clear p1
                              try clear q1
                              try clear hx1
                              try clear qi1
                              try clear c2
                              try clear p2
                              try clear c3
                              try clear c4
                              try clear c8
                              try clear c8b0
                              try clear c8b1
                              try clear c9
                              try clear c11
                              try clear c13
                              try clear c13b0
                              try clear c13b1
                              try clear c14
                              try clear c14b0
                              try clear c14b1
                              try clear c15
                              try clear c15b0
                              try clear c15b1
                              try clear c15b2
                              try clear q15
                              try clear p17
                              try clear q17
                              try clear hx17
                              try clear qi17
                              try clear c18
                              try clear c19
                              try clear c21
                              try clear c37
                              try clear c37b0
                              try clear c37b1
                              try clear c38
                              try clear c39
                              try clear c40
                              try clear c40b0
                              try clear c40b1
                              try clear c44
                              try clear c45
                              try clear c45b0
                              try clear c45b1
                              try clear c46
                              try clear c46b0
                              try clear c46b1
                              try clear hx175_0
                              try clear p175
                              try clear p2
                              try clear q1
                              try clear q15
                              try clear q157
                              try clear q158
                              try clear q17
                              try clear q173
                              try clear q174
                              try clear q175
                              obtain ⟨x14_5, rfl, HA, HK5, HO_12, HB⟩ := hrel
                              cases gk with
                              | zero => exact absurd HA.out (by simp [dowellaw16_DescTells.l0])
                              | succ k5 =>
                                have H := HA.out
                                clear HA
                                simp only [dowellaw16_DescTells.l0] at H
                                by_cases c48 : x14_5 < 4
                                · rw [if_pos c48] at H
                                  have c48b0 : decide (x14_5 < 4) = true := decide_eq_true c48
                                  clear c48
                                  by_cases c49 : x14_5 < (l3.length : Int)
                                  · rw [if_pos c49] at H
                                    have c49b0 : decide (x14_5 < (l3.length : Int)) = true := decide_eq_true c49
                                    clear c49
                                    obtain ⟨ji50, hji50⟩ : ∃ j_ : Int, (wrap64 (x14_5 - 1)) = j_ := ⟨_, rfl⟩
                                    replace H : (if 0 ≤ (ji50) then (if (ji50) < (l3.length : Int) then (if 0 ≤ x14_5 then (if x14_5 < (t169.length : Int) then (if (rd t169 x14_5) = ((rd l3 (ji50)) % 4294967296) then (dowellaw16_DescTells.l0 k5 l3 t152 t169 (wrap64 (x14_5 + 1))) else (some false)) else (none)) else (none)) else (none)) else (none)) = some r := by first | (rw [hji50] at H; exact H) | (simp only [hji50] at H ⊢; exact H)
                                    have hji50w : (IntKind.i64.wrap (x14_5 - 1)) = ji50 := (i64_w _).trans hji50
                                    by_cases c51 : 0 ≤ (ji50)
                                    · rw [if_pos c51] at H
                                      have c51b0 : decide (0 ≤ (ji50)) = true := decide_eq_true c51
                                      clear c51
                                      by_cases c52 : (ji50) < (l3.length : Int)
                                      · rw [if_pos c52] at H
                                        have c52b0 : decide ((ji50) < (l3.length : Int)) = true := decide_eq_true c52
                                        clear c52
                                        by_cases c53 : 0 ≤ x14_5
                                        · rw [if_pos c53] at H
                                          have c53b0 : decide (0 ≤ x14_5) = true := decide_eq_true c53
                                          clear c53
                                          by_cases c54 : x14_5 < (t169.length : Int)
                                          · rw [if_pos c54] at H
                                            have c54b0 : decide (x14_5 < (t169.length : Int)) = true := decide_eq_true c54
                                            clear c54
                                            by_cases c55 : (rd t169 x14_5) = ((rd l3 (ji50)) % 4294967296)
                                            · rw [if_pos c55] at H
                                              have c55b0 : ((rd t169 x14_5) == ((rd l3 (ji50)) % 4294967296)) = true := beq_iff_eq.mpr c55
                                              have c55b1 : ((rd t169 x14_5) != ((rd l3 (ji50)) % 4294967296)) = false := bne_eq_false_iff_eq.mpr c55
                                              clear c55
                                              have H' := Aside0.mk H
                                              clear H
                                              have p176 : 0 ≤ ((ji50) : Int) := of_decide_eq_true (by first | (with_reducible assumption) | assumption)
                                              have q176 : (ji50) < (l3.length : Int) := of_decide_eq_true (by first | (with_reducible assumption) | assumption)
                                              obtain ⟨ad176, e176, hx176_0⟩ := Kd.at_int HR3.out (ji50) p176 q176
                                              cases e176
                                              replace hx176_0 := (HB.out.cell (World.block_lt_of_cell? w _ hx176_0)).trans hx176_0
                                              replace p176 := eq_true p176
                                              replace q176 := eq_true q176
                                              have p177 : 0 ≤ (x14_5 : Int) := of_decide_eq_true (by first | (with_reducible assumption) | assumption)
                                              have q177 : x14_5 < (t169.length : Int) := of_decide_eq_true (by first | (with_reducible assumption) | assumption)
                                              obtain ⟨ad177, e177, hx177_0⟩ := Kd.at_int (Kd.R_reads' HO_12.out).2.2 x14_5 p177 q177
                                              obtain rfl : ad175 = ad177 := (by injection e177)
                                              replace p177 := eq_true p177
                                              replace q177 := eq_true q177
                                              go_wp2
                                              go_roundg k5
                                              case measure => have := HJ5.out; have := HJ10.out; have := HJ34.out; have := HJ41.out; have := HK5.out; omega
                                              case rel => exact ⟨(wrap64 (x14_5 + 1)), (by first | rfl | (simp; done) | (simp [*]; done)), H', ⟨by have := HJ5.out; have := HJ10.out; have := HJ34.out; have := HJ41.out; have := HK5.out; omega⟩, ⟨by (with_reducible repeat (first | apply Kd.R_alloc | apply Kd.R_drewN | apply Kd.R_drew)); exact HO_12.out⟩, ⟨by repeat (first | (with_reducible first | exact HB.out | apply below_alloc | apply pw_below_drewN | apply below_drew1) | exact HB.out)⟩⟩
                                            · rw [if_neg c55] at H
                                              have c55b0 : ((rd t169 x14_5) == ((rd l3 (ji50)) % 4294967296)) = false := beq_eq_false_iff_ne.mpr c55
                                              have c55b1 : ((rd t169 x14_5) != ((rd l3 (ji50)) % 4294967296)) = true := bne_iff_ne.mpr c55
                                              obtain rfl := Option.some.inj H
                                              have p176 : 0 ≤ ((ji50) : Int) := of_decide_eq_true (by first | (with_reducible assumption) | assumption)
                                              have q176 : (ji50) < (l3.length : Int) := of_decide_eq_true (by first | (with_reducible assumption) | assumption)
                                              obtain ⟨ad176, e176, hx176_0⟩ := Kd.at_int HR3.out (ji50) p176 q176
                                              cases e176
                                              replace hx176_0 := (HB.out.cell (World.block_lt_of_cell? w _ hx176_0)).trans hx176_0
                                              replace p176 := eq_true p176
                                              replace q176 := eq_true q176
                                              have p177 : 0 ≤ (x14_5 : Int) := of_decide_eq_true (by first | (with_reducible assumption) | assumption)
                                              have q177 : x14_5 < (t169.length : Int) := of_decide_eq_true (by first | (with_reducible assumption) | assumption)
                                              obtain ⟨ad177, e177, hx177_0⟩ := Kd.at_int (Kd.R_reads' HO_12.out).2.2 x14_5 p177 q177
                                              obtain rfl : ad175 = ad177 := (by injection e177)
                                              replace p177 := eq_true p177
                                              replace q177 := eq_true q177
                                              go_wp2
                                              go_ret
                                              exact ⟨by first | rfl | (simp [errW_none, errW_some] <;> rfl) | (simp only [← hji50]; first | rfl | (simp [errW_none, errW_some] <;> rfl)) | (simp [*, errW_none, errW_some] <;> rfl), by repeat (first | (with_reducible first | exact HB.out | apply below_alloc | apply pw_below_drewN | apply below_drew1) | exact HB.out)⟩
                                          · rw [if_neg c54] at H
                                            exact absurd H (by simp)
                                        · rw [if_neg c53] at H
                                          exact absurd H (by simp)
                                      · rw [if_neg c52] at H
                                        exact absurd H (by simp)
                                    · rw [if_neg c51] at H
                                      exact absurd H (by simp)
                                  · rw [if_neg c49] at H
                                    have c49b0 : decide (x14_5 < (l3.length : Int)) = false := decide_eq_false c49
                                    clear c49
                                    by_cases c56 : 0 ≤ x14_5
                                    · rw [if_pos c56] at H
                                      have c56b0 : decide (0 ≤ x14_5) = true := decide_eq_true c56
                                      clear c56
                                      by_cases c57 : x14_5 < (t169.length : Int)
                                      · rw [if_pos c57] at H
                                        have c57b0 : decide (x14_5 < (t169.length : Int)) = true := decide_eq_true c57
                                        clear c57
                                        by_cases c58 : (rd t169 x14_5) = 0
                                        · rw [if_pos c58] at H
                                          have c58b0 : ((rd t169 x14_5) == 0) = true := beq_iff_eq.mpr c58
                                          have c58b1 : ((rd t169 x14_5) != 0) = false := bne_eq_false_iff_eq.mpr c58
                                          clear c58
                                          have H' := Aside0.mk H
                                          clear H
                                          have p178 : 0 ≤ (x14_5 : Int) := of_decide_eq_true (by first | (with_reducible assumption) | assumption)
                                          have q178 : x14_5 < (t169.length : Int) := of_decide_eq_true (by first | (with_reducible assumption) | assumption)
                                          obtain ⟨ad178, e178, hx178_0⟩ := Kd.at_int (Kd.R_reads' HO_12.out).2.2 x14_5 p178 q178
                                          obtain rfl : ad175 = ad178 := (by injection e178)
                                          replace p178 := eq_true p178
                                          replace q178 := eq_true q178
                                          go_wp2
                                          go_roundg k5
                                          case measure => have := HJ5.out; have := HJ10.out; have := HJ34.out; have := HJ41.out; have := HK5.out; omega
                                          case rel => exact ⟨(wrap64 (x14_5 + 1)), (by first | rfl | (simp; done) | (simp [*]; done)), H', ⟨by have := HJ5.out; have := HJ10.out; have := HJ34.out; have := HJ41.out; have := HK5.out; omega⟩, ⟨by (with_reducible repeat (first | apply Kd.R_alloc | apply Kd.R_drewN | apply Kd.R_drew)); exact HO_12.out⟩, ⟨by repeat (first | (with_reducible first | exact HB.out | apply below_alloc | apply pw_below_drewN | apply below_drew1) | exact HB.out)⟩⟩
                                        · rw [if_neg c58] at H
                                          have c58b0 : ((rd t169 x14_5) == 0) = false := beq_eq_false_iff_ne.mpr c58
                                          have c58b1 : ((rd t169 x14_5) != 0) = true := bne_iff_ne.mpr c58
                                          obtain rfl := Option.some.inj H
                                          have p178 : 0 ≤ (x14_5 : Int) := of_decide_eq_true (by first | (with_reducible assumption) | assumption)
                                          have q178 : x14_5 < (t169.length : Int) := of_decide_eq_true (by first | (with_reducible assumption) | assumption)
                                          obtain ⟨ad178, e178, hx178_0⟩ := Kd.at_int (Kd.R_reads' HO_12.out).2.2 x14_5 p178 q178
                                          obtain rfl : ad175 = ad178 := (by injection e178)
                                          replace p178 := eq_true p178
                                          replace q178 := eq_true q178
                                          go_wp2
                                          go_ret
                                          exact ⟨by first | rfl | (simp [errW_none, errW_some] <;> rfl) | (simp [*, errW_none, errW_some] <;> rfl), by repeat (first | (with_reducible first | exact HB.out | apply below_alloc | apply pw_below_drewN | apply below_drew1) | exact HB.out)⟩
                                      · rw [if_neg c57] at H
                                        exact absurd H (by simp)
                                    · rw [if_neg c56] at H
                                      exact absurd H (by simp)
                                · rw [if_neg c48] at H
                                  have c48b0 : decide (x14_5 < 4) = false := decide_eq_false c48
                                  clear c48
                                  obtain rfl := Option.some.inj H
                                  go_wp2
                                  go_ret
                                  exact ⟨by first | rfl | (simp [errW_none, errW_some] <;> rfl) | (simp [*, errW_none, errW_some] <;> rfl), by repeat (first | (with_reducible first | exact HB.out | apply below_alloc | apply pw_below_drewN | apply below_drew1) | exact HB.out)⟩
                          · rw [if_neg c46] at H
                            have c46b0 : ((rd t169 0) == ((a2) % 4294967296)) = false := beq_eq_false_iff_ne.mpr c46
                            have c46b1 : ((rd t169 0) != ((a2) % 4294967296)) = true := bne_iff_ne.mpr c46
                            obtain rfl := Option.some.inj H
                            obtain ⟨Ao59, co59, eo59⟩ := Kd.R_slice HO_12.out
                            subst eo59
                            have p175 : 0 ≤ (0 : Int) := (by omega)
                            have q175 : 0 < (t169.length : Int) := of_decide_eq_true (by first | (with_reducible assumption) | assumption)
                            obtain ⟨ad175, e175, hx175_0⟩ := Kd.at_int (Kd.R_reads' HO_12.out).2.2 0 p175 q175
                            cases e175
                            have qi175 : (0 < t169.length) = True := eq_true (by omega)
                            (try rw [show ((0 : Int)).toNat = 0 from rfl] at hx175_0)
                            (try rw [Addr.add_zero'] at hx175_0)
                            replace p175 := eq_true p175
                            replace q175 := eq_true q175
                            go_wp2
                            go_ret
                            exact ⟨by first | rfl | (simp [errW_none, errW_some] <;> rfl) | (simp [*, errW_none, errW_some] <;> rfl), by repeat (first | (with_reducible first | exact HB.out | apply below_alloc | apply pw_below_drewN | apply below_drew1) | exact HB.out)⟩
                        · rw [if_neg c45] at H
                          exact absurd H (by simp)

/-- THE ONE PURE STATEMENT of dowellaw16_DescTells: yours. -/
def dowellaw16_DescTells.Pure : Prop := ∀ (l0 : List Int) (a1 : Int) (a2 : Int) (l3 : List Int), l0.length ≤ maxLen → l0.length * 8 ≤ 140737488351232 → (∀ x ∈ l0, (Lit.int .i64 x).wf = true) → (Lit.int .i64 a1).wf = true → (Lit.int .i64 a2).wf = true → l3.length ≤ maxLen → l3.length * 8 ≤ 140737488351232 → (∀ x ∈ l3, (Lit.int .i64 x).wf = true) → ∃ k, dowellaw16_DescTells.f k l0 a1 a2 l3 = some true
theorem dowellaw16_DescTells.walk (P : dowellaw16_DescTells.Pure) (a0 : Option Addr) (len0 cap0 : Nat) (z0 : List Int) (a1 : Int) (a2 : Int) (a3 : Option Addr) (len3 cap3 : Nat) (z3 : List Int) (w : World) (w0 : (a0 = none ∧ len0 = 0 ∧ cap0 = 0 ∧ z0 = []) ∨ ∃ x, a0 = some x ∧ len0 ≤ cap0 ∧ cap0 ≤ maxLen ∧ z0.length = cap0 ∧ (∀ i, i < z0.length → w.cell? (x.add i) = some (.int .i64 (z0.getD i 0))) ∧ ∀ n ∈ z0, (Lit.int .i64 n).wf = true) (y0 : len0 * 8 ≤ 140737488351232) (w1 : (Lit.int .i64 a1).wf = true) (w2 : (Lit.int .i64 a2).wf = true) (w3 : (a3 = none ∧ len3 = 0 ∧ cap3 = 0 ∧ z3 = []) ∨ ∃ x, a3 = some x ∧ len3 ≤ cap3 ∧ cap3 ≤ maxLen ∧ z3.length = cap3 ∧ (∀ i, i < z3.length → w.cell? (x.add i) = some (.int .i64 (z3.getD i 0))) ∧ ∀ n ∈ z3, (Lit.int .i64 n).wf = true) (y3 : len3 * 8 ≤ 140737488351232) :
    Calls Try.prog 11 #[.slice a0 len0 cap0, .int .i64 a1, .int .i64 a2, .slice a3 len3 cap3] w fun e w' => e = .returned (.bool true) ∧ Below w.heap.size w w' := by
  obtain ⟨l0, rfl, hr0, hm0, hw0, hc0⟩ := ReadsInt.ofRowC w0
  obtain ⟨l3, rfl, hr3, hm3, hw3, hc3⟩ := ReadsInt.ofRowC w3
  obtain ⟨k, h⟩ := P l0 a1 a2 l3 hm0 y0 hw0 w1 w2 hm3 y3 hw3
  refine (dowellaw16_DescTells.calls k _ _ l0 a1 a2 _ _ l3 true w (Kd.C_of_reads (d := (0 : Int)) (h1 := fun _ => rfl) hr0) hc0 (Kd.C_of_reads (d := (0 : Int)) (h1 := fun _ => rfl) hr3) hc3 h).mono ?_
  rintro e w' ⟨rfl, hd⟩
  exact ⟨rfl, hd⟩

end Go.Proofs.Ytfoecgcjipckmaa.QDescTells
