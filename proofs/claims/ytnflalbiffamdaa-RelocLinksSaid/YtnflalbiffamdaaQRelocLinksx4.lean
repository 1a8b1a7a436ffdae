/- RelocLinks: the machine's side, written by a program of this workplace: for each Go function the answers that its Lean function tells. No condition but that the Lean function tells. -/
import Derived.Test.YtnflalbiffamdaaQRelocLinksx0
import Derived.Test.YtnflalbiffamdaaQRelocLinksx2
import Derived.Test.YtnflalbiffamdaaQRelocLinksx3
namespace Go.Proofs.Ytnflalbiffamdaa.QRelocLinks
open Go.RowKit Go.Proofs.YtnflalbiffamdaaW.PrintWords Go.Proofs.YtnflalbiffamdaaW.PrintLast Go.Proofs.YtnflalbiffamdaaW.PrintMore Go.Proofs.Ytnflalbiffamdaa.MineBase
attribute [local go_sem] max2_int min2_int max_two min_two max_three min_three max_four min_four   -- for this text's walks alone
attribute [local go_sem] Go.Proofs.Ytnflalbiffamdaa.MineErr.eql_err Go.Proofs.Ytnflalbiffamdaa.MineErr.neq_err Go.Proofs.Ytnflalbiffamdaa.MineErr.eql_nil_err Go.Proofs.Ytnflalbiffamdaa.MineErr.neq_nil_err
set_option linter.unusedVariables false
set_option linter.unusedSimpArgs false

/-! ### dowelref01_Sign: function 62 -/
def dowelref01_Sign.j0 : Nat → Int → Int → Bool → Option (Int)
  | 0, _, _, _ => none
  | k + 1, x0, x1, x11 => if x11 = true then (some 0) else ((dowelref01_Two.f k x1).bind fun t175 => (if t175 = 0 then (none) else ((dowelref01_Two.f k (wrap64 (x1 - 1))).bind fun t176 => (if (Int.tmod (wrap64 (x0)) t175) ≥ t176 then ((dowelref01_Two.f k x1).bind fun t177 => (some (wrap32 (wrap64 ((Int.tmod (wrap64 (x0)) t175) - t177))))) else (some (wrap32 (Int.tmod (wrap64 (x0)) t175)))))))
def dowelref01_Sign.f (k : Nat) (a0 : Int) (a1 : Int) : Option (Int) := if a1 < 1 then (dowelref01_Sign.j0 k a0 a1 true) else (dowelref01_Sign.j0 k a0 a1 (decide (a1 > 32)))
theorem dowelref01_Sign.mono_l : ∀ k, (∀ y0 y1 y2, LeO (dowelref01_Sign.j0 k y0 y1 y2) (dowelref01_Sign.j0 (k + 1) y0 y1 y2))
  | 0 => fun _ _ _ r h => by simp [dowelref01_Sign.j0] at h
  | k + 1 => by
    have ih0 := dowelref01_Sign.mono_l k
    · intro y0 y1 y2
      unfold dowelref01_Sign.j0
      repeat' first
      | (with_reducible exact ih0 _ _ _)
      | (with_reducible exact dowelref01_Two.mono _ _)
      | (with_reducible exact LeO.refl _)
      | (with_reducible exact LeO.none _)
      | (with_reducible refine LeO.ite ?_ ?_)
      | (with_reducible refine LeO.bind ?_ (fun _ => ?_))
      | exact ih0 _ _ _
      | exact dowelref01_Two.mono _ _
      | exact LeO.none _
      | refine LeO.ite ?_ ?_
      | refine LeO.bind ?_ (fun _ => ?_)
theorem dowelref01_Sign.mono : ∀ a0 a1 k, LeO (dowelref01_Sign.f k a0 a1) (dowelref01_Sign.f (k + 1) a0 a1) := by
  intro a0 a1 k
  have ih0 := dowelref01_Sign.mono_l k
  unfold dowelref01_Sign.f
  repeat' first
      | (with_reducible exact ih0 _ _ _)
      | (with_reducible exact dowelref01_Two.mono _ _)
      | (with_reducible exact LeO.refl _)
      | (with_reducible exact LeO.none _)
      | (with_reducible refine LeO.ite ?_ ?_)
      | (with_reducible refine LeO.bind ?_ (fun _ => ?_))
      | exact ih0 _ _ _
      | exact dowelref01_Two.mono _ _
      | exact LeO.none _
      | refine LeO.ite ?_ ?_
      | refine LeO.bind ?_ (fun _ => ?_)
set_option maxHeartbeats 8000000 in
set_option maxRecDepth 100000 in
theorem dowelref01_Sign.calls (k : Nat) (a0 : Int) (a1 : Int) (r : Int) (w : World) (h : dowelref01_Sign.f k a0 a1 = some r) :
    Calls Try.prog 62 #[.int .u32 a0, .int .i64 a1] w fun e w' => e = .returned (.int .i32 r) ∧ Drawn0 w w' := by
  have H : (if a1 < 1 then (dowelref01_Sign.j0 k a0 a1 true) else (dowelref01_Sign.j0 k a0 a1 (decide (a1 > 32)))) = some r := h
  clear h
  have HC3 := Aside0.mk H
  clear H
  go_enter Try.func62, Try.ntmps62
  go_upto_region 1 with (fail)
  go_cut [11] (fun v11 wc => ∃ (kq : Nat) (x11_2 : Bool), v11 = .bool x11_2 ∧ Aside0 (dowelref01_Sign.j0 kq a0 a1 x11_2 = some r) ∧ Aside0 (kq ≤ k) ∧ Drawn0 w wc)
  case first =>
    have H := HC3.out
    clear HC3
    by_cases c4 : a1 < 1
    · rw [if_pos c4] at H
      have c4b0 : decide (a1 < 1) = true := decide_eq_true c4
      clear c4
      (first | rw [c4b0] | (simp only [i64_w, i32_w]; rw [c4b0]) | skip)
      have H' := Aside0.mk H
      clear H
      go_wp2
      go_meet
      case rel => exact ⟨_, (true), (by first | rfl | (simp; done) | (simp [*]; done)), H', ⟨by first | omega | exact Nat.le_refl _⟩, by repeat (first | exact Drawn0.refl _ | apply Drawn0.step)⟩
    · rw [if_neg c4] at H
      have c4b0 : decide (a1 < 1) = false := decide_eq_false c4
      clear c4
      (first | rw [c4b0] | (simp only [i64_w, i32_w]; rw [c4b0]) | skip)
      have H' := Aside0.mk H
      clear H
      go_wp2
      go_meet
      case rel => exact ⟨_, (decide (a1 > 32)), (by first | rfl | (simp; done) | (simp [*]; done)), H', ⟨by first | omega | exact Nat.le_refl _⟩, by repeat (first | exact Drawn0.refl _ | apply Drawn0.step)⟩
  case rest =>
    clear HC3
    try clear p2
    try clear c4
    try clear c4b0
    obtain ⟨kq, x11_2, rfl, HA, HJ2, ⟨mc2, rfl⟩⟩ := hcut
    cases kq with
    | zero => exact absurd HA.out (by simp [dowelref01_Sign.j0])
    | succ kj2 =>
      have H := HA.out
      clear HA
      simp only [dowelref01_Sign.j0] at H
      by_cases c5 : x11_2 = true
      · subst c5
        have H1 : (some 0) = some r := by rw [if_pos rfl] at H; exact H
        clear H
        have H := H1
        clear H1
        obtain rfl := Option.some.inj H
        go_wp2
        go_ret
        exact ⟨by first | rfl | (simp; done) | (simp [*]; done), by repeat (first | exact Drawn0.refl _ | apply Drawn0.step)⟩
      · replace c5 := Bool.eq_false_iff.mpr c5
        subst c5
        have H1 : ((dowelref01_Two.f kj2 a1).bind fun t175 => (if t175 = 0 then (none) else ((dowelref01_Two.f kj2 (wrap64 (a1 - 1))).bind fun t176 => (if (Int.tmod (wrap64 (a0)) t175) ≥ t176 then ((dowelref01_Two.f kj2 a1).bind fun t177 => (some (wrap32 (wrap64 ((Int.tmod (wrap64 (a0)) t175) - t177))))) else (some (wrap32 (Int.tmod (wrap64 (a0)) t175))))))) = some r := by rw [if_neg (show ¬ (false = true) by decide)] at H; exact H
        clear H
        have H := H1
        clear H1
        replace H := Option.bind_eq_some_iff.mp H
        obtain ⟨t175, A60, H⟩ := H
        replace H : (if t175 = 0 then (none) else ((dowelref01_Two.f kj2 (wrap64 (a1 - 1))).bind fun t176 => (if (Int.tmod (wrap64 (a0)) t175) ≥ t176 then ((dowelref01_Two.f kj2 a1).bind fun t177 => (some (wrap32 (wrap64 ((Int.tmod (wrap64 (a0)) t175) - t177))))) else (some (wrap32 (Int.tmod (wrap64 (a0)) t175)))))) = some r := H
        have A6 := Aside0.mk A60
        clear A60
        by_cases c7 : t175 = 0
        · rw [if_pos c7] at H
          exact absurd H (by simp)
        · rw [if_neg c7] at H
          have c7b0 : (t175 == 0) = false := beq_eq_false_iff_ne.mpr c7
          have c7b1 : (t175 != 0) = true := bne_iff_ne.mpr c7
          replace H := Option.bind_eq_some_iff.mp H
          obtain ⟨t176, A80, H⟩ := H
          replace H : (if (Int.tmod (wrap64 (a0)) t175) ≥ t176 then ((dowelref01_Two.f kj2 a1).bind fun t177 => (some (wrap32 (wrap64 ((Int.tmod (wrap64 (a0)) t175) - t177))))) else (some (wrap32 (Int.tmod (wrap64 (a0)) t175)))) = some r := H
          have A8 := Aside0.mk A80
          clear A80
          by_cases c9 : (Int.tmod (wrap64 (a0)) t175) ≥ t176
          · rw [if_pos c9] at H
            have c9b0 : decide (t176 ≤ (Int.tmod (wrap64 (a0)) t175)) = true := decide_eq_true c9
            clear c9
            replace H := Option.bind_eq_some_iff.mp H
            obtain ⟨t177, A100, H⟩ := H
            replace H : (some (wrap32 (wrap64 ((Int.tmod (wrap64 (a0)) t175) - t177)))) = some r := H
            have A10 := Aside0.mk A100
            clear A100
            obtain rfl := Option.some.inj H
            go_wp2_with (first | ((with_reducible refine gate_callee (f := 111) rfl ?_); refine goesL_ (some 15) rfl rfl Try.func111 (by kernel_rfl) rfl #[.int .i64 a1] rfl (by (try simp only [List.map_toArray, List.map_cons, List.map_nil]); first | done | rfl | (simp only [List.length_drop, List.length_take]; rfl)) ?_; (with_reducible refine (dowelref01_Two.calls kj2 a1 t175 _ A6.out).mono ?_); rintro e w' ⟨rfl, ⟨nd, rfl⟩⟩; refine ⟨_, rfl, ?_⟩) | ((with_reducible refine gate_callee (f := 111) rfl ?_); refine goesL_ (some 20) rfl rfl Try.func111 (by kernel_rfl) rfl #[.int .i64 (wrap64 (a1 - 1))] rfl (by (try simp only [List.map_toArray, List.map_cons, List.map_nil]); first | done | rfl | (simp only [List.length_drop, List.length_take]; rfl)) ?_; (with_reducible refine (dowelref01_Two.calls kj2 (wrap64 (a1 - 1)) t176 _ A8.out).mono ?_); rintro e w' ⟨rfl, ⟨nd, rfl⟩⟩; refine ⟨_, rfl, ?_⟩) | ((with_reducible refine gate_callee (f := 111) rfl ?_); refine goesL_ (some 24) rfl rfl Try.func111 (by kernel_rfl) rfl #[.int .i64 a1] rfl (by (try simp only [List.map_toArray, List.map_cons, List.map_nil]); first | done | rfl | (simp only [List.length_drop, List.length_take]; rfl)) ?_; (with_reducible refine (dowelref01_Two.calls kj2 a1 t177 _ A10.out).mono ?_); rintro e w' ⟨rfl, ⟨nd, rfl⟩⟩; refine ⟨_, rfl, ?_⟩))
            go_ret
            exact ⟨by first | rfl | (simp; done) | (simp [*]; done), by repeat (first | exact Drawn0.refl _ | apply Drawn0.step)⟩
          · rw [if_neg c9] at H
            have c9b0 : decide (t176 ≤ (Int.tmod (wrap64 (a0)) t175)) = false := decide_eq_false c9
            clear c9
            obtain rfl := Option.some.inj H
            go_wp2_with (first | ((with_reducible refine gate_callee (f := 111) rfl ?_); refine goesL_ (some 15) rfl rfl Try.func111 (by kernel_rfl) rfl #[.int .i64 a1] rfl (by (try simp only [List.map_toArray, List.map_cons, List.map_nil]); first | done | rfl | (simp only [List.length_drop, List.length_take]; rfl)) ?_; (with_reducible refine (dowelref01_Two.calls kj2 a1 t175 _ A6.out).mono ?_); rintro e w' ⟨rfl, ⟨nd, rfl⟩⟩; refine ⟨_, rfl, ?_⟩) | ((with_reducible refine gate_callee (f := 111) rfl ?_); refine goesL_ (some 20) rfl rfl Try.func111 (by kernel_rfl) rfl #[.int .i64 (wrap64 (a1 - 1))] rfl (by (try simp only [List.map_toArray, List.map_cons, List.map_nil]); first | done | rfl | (simp only [List.length_drop, List.length_take]; rfl)) ?_; (with_reducible refine (dowelref01_Two.calls kj2 (wrap64 (a1 - 1)) t176 _ A8.out).mono ?_); rintro e w' ⟨rfl, ⟨nd, rfl⟩⟩; refine ⟨_, rfl, ?_⟩))
            go_ret
            exact ⟨by first | rfl | (simp; done) | (simp [*]; done), by repeat (first | exact Drawn0.refl _ | apply Drawn0.step)⟩

/-! ### dowelref01_GetIns: function 29 -/
def dowelref01_GetIns.f (k : Nat) (a0 : Int) : Option (Int × Int × Int × Int × Bool) := (dowelref01_Sign.f k (Int.tmod a0 262144) 18).bind fun t180 => ((dowelref01_May.f ((Int.tdiv a0 67108864) % 4294967296) (((Int.tdiv a0 4194304) % 4294967296) % 16) (((Int.tdiv a0 262144) % 4294967296) % 16) (wrap64 (t180))).bind fun t181 => (if t181 = true then (some ((Int.tdiv a0 67108864) % 4294967296, ((Int.tdiv a0 4194304) % 4294967296) % 16, ((Int.tdiv a0 262144) % 4294967296) % 16, wrap64 (t180), true)) else (some (0, 0, 0, 0, false))))
theorem dowelref01_GetIns.mono : ∀ a0 k, LeO (dowelref01_GetIns.f k a0) (dowelref01_GetIns.f (k + 1) a0) := by
  intro a0 k
  unfold dowelref01_GetIns.f
  repeat' first
      | (with_reducible exact dowelref01_Sign.mono _ _ _)
      | (with_reducible exact LeO.refl _)
      | (with_reducible exact LeO.none _)
      | (with_reducible refine LeO.ite ?_ ?_)
      | (with_reducible refine LeO.bind ?_ (fun _ => ?_))
      | exact dowelref01_Sign.mono _ _ _
      | exact LeO.none _
      | refine LeO.ite ?_ ?_
      | refine LeO.bind ?_ (fun _ => ?_)
set_option maxHeartbeats 8000000 in
set_option maxRecDepth 100000 in
theorem dowelref01_GetIns.calls (k : Nat) (a0 : Int) (r1 : Int) (r2 : Int) (r3 : Int) (r4 : Int) (r5 : Bool) (w : World) (h : dowelref01_GetIns.f k a0 = some (r1, r2, r3, r4, r5)) :
    Calls Try.prog 29 #[.int .u32 a0] w fun e w' => e = .returned (.tuple #[.agg #[.int .i64 r1, .int .i64 r2, .int .i64 r3, .int .i64 r4], .bool r5]) ∧ Below w.heap.size w w' := by
  have H := h
  clear h
  unfold dowelref01_GetIns.f at H
  obtain ⟨n_, hs0, H⟩ := Option.bind_eq_some_iff.mp H
  obtain ⟨b_, hm0, H⟩ := Option.bind_eq_some_iff.mp H
  have hs := Aside0.mk hs0
  have hm : Aside0 (dowelref01_May.f (a0.tdiv 67108864 % 4294967296) (a0.tdiv 4194304 % 16) (a0.tdiv 262144 % 16) (wrap64 n_) = some b_) := by
    refine ⟨?_⟩
    have e1 : a0.tdiv 4194304 % 4294967296 % 16 = a0.tdiv 4194304 % 16 := by omega
    have e2 : a0.tdiv 262144 % 4294967296 % 16 = a0.tdiv 262144 % 16 := by omega
    rw [e1, e2] at hm0
    exact hm0
  have H : Aside0 ((if b_ = true then (a0.tdiv 67108864 % 4294967296, a0.tdiv 4194304 % 16, a0.tdiv 262144 % 16, wrap64 n_, true) else (0, 0, 0, 0, false)) = (r1, r2, r3, r4, r5)) := by
    refine ⟨?_⟩
    have e1 : a0.tdiv 4194304 % 4294967296 % 16 = a0.tdiv 4194304 % 16 := by omega
    have e2 : a0.tdiv 262144 % 4294967296 % 16 = a0.tdiv 262144 % 16 := by omega
    rw [e1, e2] at H
    split at H <;> rename_i hb_
    · rw [if_pos hb_]; exact Option.some.inj H
    · rw [if_neg hb_]; exact Option.some.inj H
  clear hs0 hm0
  go_enter Try.func29, Try.ntmps29
  go_wp2_with fail
  refine (dowelref01_Sign.calls k _ _ n_ _ hs.out).mono ?_
  rintro e w1 ⟨rfl, nd, rfl⟩
  go_wp2_with fail
  refine calls_abs (fun W => Below w.heap.size w W ∧ blk W (w.heap.size) = some (.cells #[.int .i64 0, .int .i64 0, .int .i64 0, .int .i64 0] 46 (0, 0)) ∧ blk W (w.heap.size + 1) = some (.cells #[.int .i64 (a0.tdiv 67108864 % 4294967296), .int .i64 (a0.tdiv 4194304 % 16), .int .i64 (a0.tdiv 262144 % 16), .int .i64 (wrap64 n_)] 46 (0, 0))) ⟨?_, ?_, ?_⟩ ?_
  · repeat (first | exact Below.refl _ _ | apply below_alloc | apply pw_below_drewN | apply below_drew | (refine below_set ?_ ?_; rotate_left; (first | exact Nat.le_refl _ | (simp; done) | omega)))
  · simp [get_alloc, get_setCell, get_drewN, get_drew, objPut]
  · simp [get_alloc, get_setCell, get_drewN, get_drew, objPut]
  rintro W ⟨hB, k0, k1⟩
  refine (dowelref01_May.calls _ _ _ _ b_ _ hm.out).mono ?_
  rintro e W2 ⟨rfl, hb⟩
  have hB2 := below_step hB hb
  have k02 := get_below k0 hb
  have k12 := get_below k1 hb
  clear k0 k1 hB hb
  have c0 := get_cell k02
  have c1 := get_cell k12
  have f0 := get_frozen k02
  have f1 := get_frozen k12
  clear k12
  cases b_
  · go_wp2_with fail
    obtain ⟨rfl, rfl, rfl, rfl, rfl⟩ : 0 = r1 ∧ 0 = r2 ∧ 0 = r3 ∧ 0 = r4 ∧ false = r5 := by simpa using H.out
    refine bodyPost_ret (results_ct rfl _ _ w.heap.size 46 #[.int .i64 0, .int .i64 0, .int .i64 0, .int .i64 0] (0, 0) _ rfl (show blk _ _ = _ by simp [get_alloc, get_setCell, get_drewN, get_drew, objPut, k02]) Try.underlying46 rfl (by kernel_rfl)) rfl ⟨rfl, by repeat (first | exact Below.refl _ _ | exact hB2 | apply below_alloc | apply pw_below_drewN | apply below_drew | (refine below_set ?_ ?_; rotate_left; (first | exact Nat.le_refl _ | (simp; done) | omega)))⟩
  · go_wp2_with fail
    obtain ⟨rfl, rfl, rfl, rfl, rfl⟩ : a0.tdiv 67108864 % 4294967296 = r1 ∧ a0.tdiv 4194304 % 16 = r2 ∧ a0.tdiv 262144 % 16 = r3 ∧ wrap64 n_ = r4 ∧ true = r5 := by simpa using H.out
    refine bodyPost_ret (results_ct rfl _ _ w.heap.size 46 #[.int .i64 (a0.tdiv 67108864 % 4294967296), .int .i64 (a0.tdiv 4194304 % 16), .int .i64 (a0.tdiv 262144 % 16), .int .i64 (wrap64 n_)] (0, 0) _ rfl (show blk _ _ = _ by simp [get_alloc, get_setCell, get_drewN, get_drew, objPut, k02]) Try.underlying46 rfl (by kernel_rfl)) rfl ⟨rfl, by repeat (first | exact Below.refl _ _ | exact hB2 | apply below_alloc | apply pw_below_drewN | apply below_drew | (refine below_set ?_ ?_; rotate_left; (first | exact Nat.le_refl _ | (simp; done) | omega)))⟩


/-! ### dowelref09_Link: function 27 -/
mutual
def dowelref09_Link.l0 : Nat → Int → List (S65) → List Int → Int → Option (List Int × Bool)
  | 0, _, _, _, _ => none
  | k + 1, x1, x2, x8, x9 => if x9 < (x2.length : Int) then (if 0 ≤ x9 then (if ((rd_T65 x2 x9).f0) < 0 then (dowelref09_Link.j1 k x1 x2 x8 x9 true ((rd_T65 x2 x9).f0) ((rd_T65 x2 x9).f1)) else (dowelref09_Link.j1 k x1 x2 x8 x9 (decide (((rd_T65 x2 x9).f0) ≥ (x8.length : Int))) ((rd_T65 x2 x9).f0) ((rd_T65 x2 x9).f1))) else (none)) else (some (x8, true))
def dowelref09_Link.j1 : Nat → Int → List (S65) → List Int → Int → Bool → Int → Int → Option (List Int × Bool)
  | 0, _, _, _, _, _, _, _ => none
  | k + 1, x1, x2, x8, x9, x36, x190000, x190001 => if x36 = true then (some (([] : List Int), false)) else (if 0 ≤ x190000 then (if x190000 < (x8.length : Int) then ((dowelref01_GetIns.f k (rd x8 x190000)).bind fun bt191 => (if bt191.2.2.2.2 = true then (if bt191.1 = 20 then (dowelref09_Link.j2 k x1 x2 x8 x9 x190000 x190001 bt191.1 bt191.2.1 bt191.2.2.1 (wrap64 (Int.tdiv (wrap64 ((wrap64 ((wrap64 (x190001 - x1)) - (wrap64 (4 * x190000)))) - 4)) 4))) else (if bt191.1 = 1 then (dowelref09_Link.j2 k x1 x2 x8 x9 x190000 x190001 bt191.1 bt191.2.1 bt191.2.2.1 x190001) else (some (([] : List Int), false)))) else (some (([] : List Int), false)))) else (none)) else (none))
def dowelref09_Link.j2 : Nat → Int → List (S65) → List Int → Int → Int → Int → Int → Int → Int → Int → Option (List Int × Bool)
  | 0, _, _, _, _, _, _, _, _, _, _ => none
  | k + 1, x1, x2, x8, x9, x190000, x190001, x197000, x197001, x197002, x197003 => (dowelref01_May.f x197000 x197001 x197002 x197003).bind fun t197 => (if t197 = true then ((dowelref01_PutIns.f x197000 x197001 x197002 x197003).bind fun t198 => (if 0 ≤ x190000 then (if x190000 < (x8.length : Int) then (dowelref09_Link.l0 k x1 x2 (x8.set (x190000 : Int).toNat t198) (wrap64 (x9 + 1))) else (none)) else (none))) else (some (([] : List Int), false)))
end
def dowelref09_Link.f (k : Nat) (l0 : List Int) (a1 : Int) (l2 : List (S65)) : Option (List Int × Bool) := (some (([] : List Int) : List Int)).bind fun y182 => (if y182.length + l0.length < 35184372088832 then (dowelref09_Link.l0 k a1 l2 (y182 ++ l0) 0) else (none))
theorem dowelref09_Link.mono_l : ∀ k, (∀ y0 y1 y2 y3, LeO (dowelref09_Link.l0 k y0 y1 y2 y3) (dowelref09_Link.l0 (k + 1) y0 y1 y2 y3)) ∧ (∀ y0 y1 y2 y3 y4 y5 y6, LeO (dowelref09_Link.j1 k y0 y1 y2 y3 y4 y5 y6) (dowelref09_Link.j1 (k + 1) y0 y1 y2 y3 y4 y5 y6)) ∧ (∀ y0 y1 y2 y3 y4 y5 y6 y7 y8 y9, LeO (dowelref09_Link.j2 k y0 y1 y2 y3 y4 y5 y6 y7 y8 y9) (dowelref09_Link.j2 (k + 1) y0 y1 y2 y3 y4 y5 y6 y7 y8 y9))
  | 0 => ⟨fun _ _ _ _ r h => by simp [dowelref09_Link.l0] at h, fun _ _ _ _ _ _ _ r h => by simp [dowelref09_Link.j1] at h, fun _ _ _ _ _ _ _ _ _ _ r h => by simp [dowelref09_Link.j2] at h⟩
  | k + 1 => by
    obtain ⟨ih0, ih1, ih2⟩ := dowelref09_Link.mono_l k
    refine ⟨?_, ?_, ?_⟩
    · intro y0 y1 y2 y3
      unfold dowelref09_Link.l0
      repeat' first
      | (with_reducible exact ih0 _ _ _ _)
      | (with_reducible exact ih1 _ _ _ _ _ _ _)
      | (with_reducible exact ih2 _ _ _ _ _ _ _ _ _ _)
      | (with_reducible exact dowelref01_GetIns.mono _ _)
      | (with_reducible exact LeO.refl _)
      | (with_reducible exact LeO.none _)
      | (with_reducible refine LeO.ite ?_ ?_)
      | (with_reducible refine LeO.bind ?_ (fun _ => ?_))
      | exact ih0 _ _ _ _
      | exact ih1 _ _ _ _ _ _ _
      | exact ih2 _ _ _ _ _ _ _ _ _ _
      | exact dowelref01_GetIns.mono _ _
      | exact LeO.none _
      | refine LeO.ite ?_ ?_
      | refine LeO.bind ?_ (fun _ => ?_)
    · intro y0 y1 y2 y3 y4 y5 y6
      unfold dowelref09_Link.j1
      repeat' first
      | (with_reducible exact ih0 _ _ _ _)
      | (with_reducible exact ih1 _ _ _ _ _ _ _)
      | (with_reducible exact ih2 _ _ _ _ _ _ _ _ _ _)
      | (with_reducible exact dowelref01_GetIns.mono _ _)
      | (with_reducible exact LeO.refl _)
      | (with_reducible exact LeO.none _)
      | (with_reducible refine LeO.ite ?_ ?_)
      | (with_reducible refine LeO.bind ?_ (fun _ => ?_))
      | exact ih0 _ _ _ _
      | exact ih1 _ _ _ _ _ _ _
      | exact ih2 _ _ _ _ _ _ _ _ _ _
      | exact dowelref01_GetIns.mono _ _
      | exact LeO.none _
      | refine LeO.ite ?_ ?_
      | refine LeO.bind ?_ (fun _ => ?_)
    · intro y0 y1 y2 y3 y4 y5 y6 y7 y8 y9
      unfold dowelref09_Link.j2
      repeat' first
      | (with_reducible exact ih0 _ _ _ _)
      | (with_reducible exact ih1 _ _ _ _ _ _ _)
      | (with_reducible exact ih2 _ _ _ _ _ _ _ _ _ _)
      | (with_reducible exact dowelref01_GetIns.mono _ _)
      | (with_reducible exact LeO.refl _)
      | (with_reducible exact LeO.none _)
      | (with_reducible refine LeO.ite ?_ ?_)
      | (with_reducible refine LeO.bind ?_ (fun _ => ?_))
      | exact ih0 _ _ _ _
      | exact ih1 _ _ _ _ _ _ _
      | exact ih2 _ _ _ _ _ _ _ _ _ _
      | exact dowelref01_GetIns.mono _ _
      | exact LeO.none _
      | refine LeO.ite ?_ ?_
      | refine LeO.bind ?_ (fun _ => ?_)
theorem dowelref09_Link.mono : ∀ a0 a1 a2 k, LeO (dowelref09_Link.f k a0 a1 a2) (dowelref09_Link.f (k + 1) a0 a1 a2) := by
  intro a0 a1 a2 k
  obtain ⟨ih0, ih1, ih2⟩ := dowelref09_Link.mono_l k
  unfold dowelref09_Link.f
  repeat' first
      | (with_reducible exact ih0 _ _ _ _)
      | (with_reducible exact ih1 _ _ _ _ _ _ _)
      | (with_reducible exact ih2 _ _ _ _ _ _ _ _ _ _)
      | (with_reducible exact dowelref01_GetIns.mono _ _)
      | (with_reducible exact LeO.refl _)
      | (with_reducible exact LeO.none _)
      | (with_reducible refine LeO.ite ?_ ?_)
      | (with_reducible refine LeO.bind ?_ (fun _ => ?_))
      | exact ih0 _ _ _ _
      | exact ih1 _ _ _ _ _ _ _
      | exact ih2 _ _ _ _ _ _ _ _ _ _
      | exact dowelref01_GetIns.mono _ _
      | exact LeO.none _
      | refine LeO.ite ?_ ?_
      | refine LeO.bind ?_ (fun _ => ?_)
set_option maxHeartbeats 8000000 in
set_option maxRecDepth 100000 in
theorem dowelref09_Link.calls (k : Nat) (A0 : Option Addr) (c0 : Nat) (l0 : List Int) (a1 : Int) (A2 : Option Addr) (c2 : Nat) (l2 : List (S65)) (r1 : List Int) (r2 : Bool) (w : World) (hr0 : Kd.C (Kd.int .u32) w A0 l0.length l0) (hc0 : l0.length ≤ c0) (hr2 : Kd.C k65 w A2 l2.length l2) (hc2 : l2.length ≤ c2) (h : dowelref09_Link.f k l0 a1 l2 = some (r1, r2)) :
    Calls Try.prog 27 #[.slice A0 l0.length c0, .int .i64 a1, .slice A2 l2.length c2] w fun e w' => ∃ v0_ : Value, e = .returned (.tuple #[v0_, .bool r2]) ∧ Kd.R (Kd.int .u32) 22 w' w.heap.size (fun _ => True) v0_ r1 ∧ Below w.heap.size w w' := by
  have hu65 := Try.underlying65
  have hu46 := Try.underlying46
  have HR0 := Aside0.mk hr0
  have HC0 := Aside0.mk hc0
  clear hr0 hc0
  have HR2 := Aside0.mk hr2
  have HC2 := Aside0.mk hc2
  clear hr2 hc2
  have HB := Aside0.mk (Below.refl w.heap.size w)
  have H : ((some (([] : List Int) : List Int)).bind fun y182 => (if y182.length + l0.length < 35184372088832 then (dowelref09_Link.l0 k a1 l2 (y182 ++ l0) 0) else (none))) = some (r1, r2) := h
  clear h
  obtain ⟨y182, hy182⟩ : ∃ y_ : List Int, y_ = (([] : List Int)) := ⟨_, rfl⟩
  replace H : (if y182.length + l0.length < 35184372088832 then (dowelref09_Link.l0 k a1 l2 (y182 ++ l0) 0) else (none)) = some (r1, r2) := by first | (rw [hy182]; with_reducible exact H) | (have H2_ := (Option.bind_some _ _).symm.trans H; rw [hy182]; with_reducible exact H2_) | (have H2_ := (Option.bind_some _ _).symm.trans H; with_reducible exact H2_) | with_reducible exact H | (rw [hy182]; exact H) | exact H
  have Ny182 := Aside0.mk hy182
  clear hy182
  by_cases c4 : y182.length + l0.length < 35184372088832
  · rw [if_pos c4] at H
    have LMc4 := Aside0.mk c4
    clear c4
    obtain ⟨y185, hy185⟩ : ∃ y_ : List Int, y_ = (y182 ++ l0) := ⟨_, rfl⟩
    replace H : (dowelref09_Link.l0 k a1 l2 y185 0) = some (r1, r2) := by first | (rw [hy185]; with_reducible exact H) | (have H2_ := (Option.bind_some _ _).symm.trans H; rw [hy185]; with_reducible exact H2_) | (have H2_ := (Option.bind_some _ _).symm.trans H; with_reducible exact H2_) | with_reducible exact H | (rw [hy185]; exact H) | exact H
    have Ny185 := Aside0.mk hy185
    clear hy185
    have H' := Aside0.mk H
    clear H
    go_enter Try.func27, Try.ntmps27
    go_wp2_with (first | ((with_reducible refine gate_dst (N := 14) rfl ?_); (try (refine gate_guard (by rfl) ?_; dsimp only)); refine Kd.R_lit (Kd.int .u32) _ 22 ?hg (N := 14) ?hd (xs := ([] : List Int)) (inner := []) (ok := fun _ => True) (okp := fun _ => True) ?hr ?hp (fun _ hk => hk) trivial (Below.refl _ _) (Nat.le_refl _) (by simp) ?_; (case hd => rfl); (case hg => rfl); (case hr => first | (go_simp; done) | (go_simp; rfl)); (case hp => exact (Reps.none _ _)); intro v183 w5 ho6 hb hg_ hnew_; clear hg_ hnew_; (first | rw [← Ny182.out] at ho6 | (simp only [Int.reduceToNat] at ho6; rw [← Ny182.out] at ho6)); have n0_ := Aside0.mk (Kd.R_lower ho6 (below_size (by repeat (first | (with_reducible first | exact HB.out | apply below_alloc | apply pw_below_drewN | apply below_drew1) | exact HB.out)))); have n1_ := Aside0.mk (below_step (by repeat (first | (with_reducible first | exact HB.out | apply below_alloc | apply pw_below_drewN | apply below_drew1) | exact HB.out)) hb); clear HB; have HO184 := n0_; have HB := n1_; clear n0_ n1_; clear hb ho6) | ((with_reducible refine gate_builtin (b := .append) (xs := #[.tmp 14, .tmp 15]) rfl ?_); (try (refine gate_guard (by rfl) ?_; dsimp only)); at_builtin; refine Kd.R_append_rows (Kd.int .u32) (w0 := w) w.heap.size rfl (.tmp 14) (.tmp 15) 25 22 (.int .u32 0) 4 rfl Try.underlying25 info22 rfl (by decide) (by omega) v183 y182 l0 _ _ _ (fun _ => True) (fun _ => False) rfl rfl ?aO ?aR (fun _ _ h => h) (fun _ h => h.elim) ?aF ?aB ?aS ?aL ?_; (case aR => repeat (first | exact (Kd.C_below HR0.out HB.out) | (with_reducible refine Kd.C_alloc ?_ _) | (with_reducible refine Kd.C_drewN ?_ _) | (with_reducible refine Kd.C_drew ?_))); (case aB => exact (by repeat (first | (with_reducible first | exact HB.out | apply below_alloc | apply pw_below_drewN | apply below_drew1) | exact HB.out))); (case aF => exact (fun _ _ => trivial)); (case aO => exact (by (with_reducible repeat (first | apply Kd.R_alloc | apply Kd.R_drewN | apply Kd.R_drew)); exact HO184.out)); (case aS => exact (below_size (by repeat (first | (with_reducible first | exact HB.out | apply below_alloc | apply pw_below_drewN | apply below_drew1) | exact HB.out)))); (case aL => have := LMc4.out; omega); intro v186 w7 ho hb hg hat; rw [← Ny185.out] at ho; have n0_ := Aside0.mk (hb); have n1_ := Aside0.mk (ho); clear HB; clear HO184; have HB := n0_; have HO187 := n1_; clear n0_ n1_; clear ho hb hg hat))
    go_loopg [9] k (fun kq v9 w' => ∃ (x8_1 : List Int) (x9_1 : Int), v9 = .int .i64 x9_1 ∧ Aside0 (dowelref09_Link.l0 kq a1 l2 x8_1 x9_1 = some (r1, r2)) ∧ Aside0 (kq ≤ k) ∧ Aside0 (Kd.R (Kd.int .u32) 22 w' w.heap.size (fun _ => True) v186 x8_1) ∧ Aside0 (Below w.heap.size w w'))
    case atStart => exact ⟨(y185), (0), (by first | rfl | (simp; done) | (simp [*]; done)), H', ⟨Nat.le_refl _⟩, ⟨by (with_reducible repeat (first | apply Kd.R_alloc | apply Kd.R_drewN | apply Kd.R_drew)); exact HO187.out⟩, ⟨by repeat (first | (with_reducible first | exact HB.out | apply below_alloc | apply pw_below_drewN | apply below_drew1) | exact HB.out)⟩⟩
    case round =>
      clear H'
      try clear c2
      try clear p2
      try clear c4
      obtain ⟨x8_1, x9_1, rfl, HA, HK1, HO_8, HB⟩ := hrel
      cases gk with
      | zero => exact absurd HA.out (by simp [dowelref09_Link.l0])
      | succ k1 =>
        have H := HA.out
        clear HA
        simp only [dowelref09_Link.l0] at H
        by_cases c8 : x9_1 < (l2.length : Int)
        · rw [if_pos c8] at H
          have c8b0 : decide (x9_1 < (l2.length : Int)) = true := decide_eq_true c8
          clear c8
          by_cases c9 : 0 ≤ x9_1
          · rw [if_pos c9] at H
            have c9b0 : decide (0 ≤ x9_1) = true := decide_eq_true c9
            clear c9
            have HC10 := Aside0.mk H
            clear H
            have p188 : 0 ≤ (x9_1 : Int) := of_decide_eq_true (by first | (with_reducible assumption) | assumption)
            have q188 : x9_1 < (l2.length : Int) := of_decide_eq_true (by first | (with_reducible assumption) | assumption)
            obtain ⟨ad188, e188, hx188_0, hx188_1⟩ := at_T65 HR2.out x9_1 p188 q188
            cases e188
            replace hx188_0 := (HB.out.cell (World.block_lt_of_cell? w _ hx188_0)).trans hx188_0
            replace hx188_1 := (HB.out.cell (World.block_lt_of_cell? w _ hx188_1)).trans hx188_1
            replace p188 := eq_true p188
            replace q188 := eq_true q188
            go_upto_region 6 with (first | ((with_reducible refine gate_dst (N := 10) rfl ?_); (try (refine gate_guard (by rfl) ?_; dsimp only)); refine box_event ?hg (N := 10) ?hd (cs := #[.int .i64 0, .int .i64 0]) (t := 65) ?hr ?_; (case hd => rfl); (case hg => rfl); (case hr => first | (go_simp; done) | (go_simp; rfl)); intro gb189 hg w11 hbox hb; have n0_ := Aside0.mk (Kd.R_below (by (with_reducible repeat (first | apply Kd.R_alloc | apply Kd.R_drewN | apply Kd.R_drew)); exact HO_8.out) hb); have n1_ := Aside0.mk (below_step (by repeat (first | (with_reducible first | exact HB.out | apply below_alloc | apply pw_below_drewN | apply below_drew1) | exact HB.out)) hb); have n2_ := Aside0.mk (hbox); have n3_ := Aside0.mk ((by rw [hg]; exact (below_size (by repeat (first | (with_reducible first | exact HB.out | apply below_alloc | apply pw_below_drewN | apply below_drew1) | exact HB.out))) : w.heap.size ≤ gb189)); have n4_ := Aside0.mk ((by rw [hg]; exact (below_size (by repeat (first | (with_reducible first | exact HB.out | apply below_alloc | apply pw_below_drewN | apply below_drew1) | exact HB.out))) : w.heap.size ≤ gb189)); clear HO_8; clear HB; have HO_8 := n0_; have HB := n1_; have BK189 := n2_; have GW189 := n3_; have GE189 := n4_; clear n0_ n1_ n2_ n3_ n4_; clear hb hbox hg; have hcz12_0 : w11.cell? ⟨gb189, 0, none⟩ = some (.int .i64 0) := (blk_cell BK189.out 0).trans rfl; have hcz12_1 : w11.cell? ⟨gb189, 1, none⟩ = some (.int .i64 0) := (blk_cell BK189.out 1).trans rfl; have hfz12_0 := blk_frozen BK189.out 0; have hfz12_1 := blk_frozen BK189.out 1))
            (try simp only [Act.put, List.setIfInBounds_toArray, List.set_cons_zero, List.set_cons_succ])
            go_cut [36] (fun v36 wc => ∃ (kq : Nat) (x36_9 : Bool), v36 = .bool x36_9 ∧ Aside0 (dowelref09_Link.j1 kq a1 l2 x8_1 x9_1 x36_9 ((rd_T65 l2 x9_1).f0) ((rd_T65 l2 x9_1).f1) = some (r1, r2)) ∧ Aside0 (kq ≤ k1) ∧ Aside0 (Kd.R (Kd.int .u32) 22 wc w.heap.size (fun _ => True) v186 x8_1) ∧ Aside0 (wc.heap[gb189]? = some (.cells #[.int .i64 ((rd_T65 l2 x9_1).f0), .int .i64 ((rd_T65 l2 x9_1).f1)] 65 (0, 0))) ∧ Aside0 (Below w.heap.size w wc))
            case first =>
              have H := HC10.out
              clear HC10
              by_cases c13 : ((rd_T65 l2 x9_1).f0) < 0
              · rw [if_pos c13] at H
                have c13b0 : decide (((rd_T65 l2 x9_1).f0) < 0) = true := decide_eq_true c13
                clear c13
                (first | rw [c13b0] | (simp only [i64_w, i32_w]; rw [c13b0]) | skip)
                have H' := Aside0.mk H
                clear H
                have hcz14_0 : w11.cell? ⟨gb189, 0, none⟩ = some (.int .i64 0) := (blk_cell BK189.out 0).trans rfl
                have hcz14_1 : w11.cell? ⟨gb189, 1, none⟩ = some (.int .i64 0) := (blk_cell BK189.out 1).trans rfl
                have hfz14_0 := blk_frozen BK189.out 0
                have hfz14_1 := blk_frozen BK189.out 1
                go_wp2
                go_meet
                case rel => exact ⟨_, (true), (by first | rfl | (simp; done) | (simp [*]; done)), H', ⟨by have := HK1.out; first | omega | exact Nat.le_refl _⟩, ⟨by (with_reducible repeat (first | apply Kd.R_alloc | apply Kd.R_drewN | apply Kd.R_drew)); exact Kd.R_mono (Kd.R_far (p := ⟨gb189, 1, none⟩) (Kd.R_far (p := ⟨gb189, 0, none⟩) (Kd.R_types HO_8.out BK189.out (by decide)) (fun _ hk => hk.2) (.int .i64 ((rd_T65 l2 x9_1).f0))) (fun _ hk => hk.2) (.int .i64 ((rd_T65 l2 x9_1).f1))) (fun _ hk => trivial)⟩, ⟨by (with_reducible repeat (first | refine blk_drewN ?_ _ | refine blk_drew ?_ | refine blk_alloc ?_ _)); refine blk_put (cs := #[.int .i64 ((rd_T65 l2 x9_1).f0), .int .i64 0]) ?_ 1 _ rfl; (with_reducible repeat (first | refine blk_drewN ?_ _ | refine blk_drew ?_ | refine blk_alloc ?_ _)); refine blk_put (cs := #[.int .i64 0, .int .i64 0]) ?_ 0 _ rfl; (with_reducible repeat (first | refine blk_drewN ?_ _ | refine blk_drew ?_ | refine blk_alloc ?_ _)); exact BK189.out⟩, ⟨by repeat (first | (with_reducible first | exact HB.out | apply below_alloc | apply pw_below_drewN | apply below_drew1 | refine below_set ?_ GE189.out) | exact HB.out)⟩⟩
              · rw [if_neg c13] at H
                have c13b0 : decide (((rd_T65 l2 x9_1).f0) < 0) = false := decide_eq_false c13
                clear c13
                (first | rw [c13b0] | (simp only [i64_w, i32_w]; rw [c13b0]) | skip)
                have H' := Aside0.mk H
                clear H
                have hcz15_0 : w11.cell? ⟨gb189, 0, none⟩ = some (.int .i64 0) := (blk_cell BK189.out 0).trans rfl
                have hcz15_1 : w11.cell? ⟨gb189, 1, none⟩ = some (.int .i64 0) := (blk_cell BK189.out 1).trans rfl
                have hfz15_0 := blk_frozen BK189.out 0
                have hfz15_1 := blk_frozen BK189.out 1
                obtain ⟨Ao16, co16, eo16⟩ := Kd.R_slice HO_8.out
                subst eo16
                go_wp2
                go_meet
                case rel => exact ⟨_, (decide (((rd_T65 l2 x9_1).f0) ≥ (x8_1.length : Int))), (by first | rfl | (simp; done) | (simp [*]; done)), H', ⟨by have := HK1.out; first | omega | exact Nat.le_refl _⟩, ⟨by (with_reducible repeat (first | apply Kd.R_alloc | apply Kd.R_drewN | apply Kd.R_drew)); exact Kd.R_mono (Kd.R_far (p := ⟨gb189, 1, none⟩) (Kd.R_far (p := ⟨gb189, 0, none⟩) (Kd.R_types HO_8.out BK189.out (by decide)) (fun _ hk => hk.2) (.int .i64 ((rd_T65 l2 x9_1).f0))) (fun _ hk => hk.2) (.int .i64 ((rd_T65 l2 x9_1).f1))) (fun _ hk => trivial)⟩, ⟨by (with_reducible repeat (first | refine blk_drewN ?_ _ | refine blk_drew ?_ | refine blk_alloc ?_ _)); refine blk_put (cs := #[.int .i64 ((rd_T65 l2 x9_1).f0), .int .i64 0]) ?_ 1 _ rfl; (with_reducible repeat (first | refine blk_drewN ?_ _ | refine blk_drew ?_ | refine blk_alloc ?_ _)); refine blk_put (cs := #[.int .i64 0, .int .i64 0]) ?_ 0 _ rfl; (with_reducible repeat (first | refine blk_drewN ?_ _ | refine blk_drew ?_ | refine blk_alloc ?_ _)); exact BK189.out⟩, ⟨by repeat (first | (with_reducible first | exact HB.out | apply below_alloc | apply pw_below_drewN | apply below_drew1 | refine below_set ?_ GE189.out) | exact HB.out)⟩⟩
            case rest =>
              clear HC10
              try clear c1
              try clear p1
              try clear q1
              try clear hx1
              try clear c2
              try clear p2
              try clear c4
              try clear c8
              try clear c8b0
              try clear c9
              try clear c9b0
              try clear c13
              try clear c13b0
              try clear hcz12_0
              try clear hcz12_1
              try clear hcz14_0
              try clear hcz14_1
              try clear hcz15_0
              try clear hcz15_1
              try clear hfz12_0
              try clear hfz12_1
              try clear hfz14_0
              try clear hfz14_1
              try clear hfz15_0
              try clear hfz15_1
              try clear hx188_0
              try clear hx188_1
              try clear p188
              try clear p2
              try clear q188
              obtain ⟨kq, x36_9, rfl, HA, HJ9, HO_8, BK189, HB⟩ := hcut
              cases kq with
              | zero => exact absurd HA.out (by simp [dowelref09_Link.j1])
              | succ kj9 =>
                have H := HA.out
                clear HA
                simp only [dowelref09_Link.j1] at H
                by_cases c17 : x36_9 = true
                · subst c17
                  have H1 : (some (([] : List Int), false)) = some (r1, r2) := by rw [if_pos rfl] at H; exact H
                  clear H
                  have H := H1
                  clear H1
                  simp only [Option.some.injEq, Prod.mk.injEq] at H
                  obtain ⟨rfl, rfl⟩ := H
                  go_wp2
                  go_ret2
                  exact ⟨_, by first | rfl | (simp [errW_none, errW_some] <;> rfl) | (simp [*, errW_none, errW_some] <;> rfl), by first | exact Kd.R_nil _ _ _ _ _ | exact Kd.N_nil _ _ _ _ _ | exact Kd.V_nil _ _ _ _ _ | exact Kd.Q_nil _ _ _ _ _ | exact Kd.S_nil _ _ _ _ _, by repeat (first | (with_reducible first | exact HB.out | apply below_alloc | apply pw_below_drewN | apply below_drew1 | refine below_set ?_ GE189.out) | exact HB.out)⟩
                · replace c17 := Bool.eq_false_iff.mpr c17
                  subst c17
                  have H1 : (if 0 ≤ ((rd_T65 l2 x9_1).f0) then (if ((rd_T65 l2 x9_1).f0) < (x8_1.length : Int) then ((dowelref01_GetIns.f kj9 (rd x8_1 ((rd_T65 l2 x9_1).f0))).bind fun bt191 => (if bt191.2.2.2.2 = true then (if bt191.1 = 20 then (dowelref09_Link.j2 kj9 a1 l2 x8_1 x9_1 ((rd_T65 l2 x9_1).f0) ((rd_T65 l2 x9_1).f1) bt191.1 bt191.2.1 bt191.2.2.1 (wrap64 (Int.tdiv (wrap64 ((wrap64 ((wrap64 (((rd_T65 l2 x9_1).f1) - a1)) - (wrap64 (4 * ((rd_T65 l2 x9_1).f0))))) - 4)) 4))) else (if bt191.1 = 1 then (dowelref09_Link.j2 kj9 a1 l2 x8_1 x9_1 ((rd_T65 l2 x9_1).f0) ((rd_T65 l2 x9_1).f1) bt191.1 bt191.2.1 bt191.2.2.1 ((rd_T65 l2 x9_1).f1)) else (some (([] : List Int), false)))) else (some (([] : List Int), false)))) else (none)) else (none)) = some (r1, r2) := by rw [if_neg (show ¬ (false = true) by decide)] at H; exact H
                  clear H
                  have H := H1
                  clear H1
                  by_cases c18 : 0 ≤ ((rd_T65 l2 x9_1).f0)
                  · rw [if_pos c18] at H
                    have c18b0 : decide (0 ≤ ((rd_T65 l2 x9_1).f0)) = true := decide_eq_true c18
                    clear c18
                    by_cases c19 : ((rd_T65 l2 x9_1).f0) < (x8_1.length : Int)
                    · rw [if_pos c19] at H
                      have c19b0 : decide (((rd_T65 l2 x9_1).f0) < (x8_1.length : Int)) = true := decide_eq_true c19
                      clear c19
                      replace H := Option.bind_eq_some_iff.mp H
                      obtain ⟨⟨t191, t192, t193, t194, t195⟩, A200, H⟩ := H
                      replace H : (if t195 = true then (if t191 = 20 then (dowelref09_Link.j2 kj9 a1 l2 x8_1 x9_1 ((rd_T65 l2 x9_1).f0) ((rd_T65 l2 x9_1).f1) t191 t192 t193 (wrap64 (Int.tdiv (wrap64 ((wrap64 ((wrap64 (((rd_T65 l2 x9_1).f1) - a1)) - (wrap64 (4 * ((rd_T65 l2 x9_1).f0))))) - 4)) 4))) else (if t191 = 1 then (dowelref09_Link.j2 kj9 a1 l2 x8_1 x9_1 ((rd_T65 l2 x9_1).f0) ((rd_T65 l2 x9_1).f1) t191 t192 t193 ((rd_T65 l2 x9_1).f1)) else (some (([] : List Int), false)))) else (some (([] : List Int), false))) = some (r1, r2) := H
                      have A20 := Aside0.mk A200
                      clear A200
                      by_cases c21 : t195 = true
                      · subst c21
                        have H1 : (if t191 = 20 then (dowelref09_Link.j2 kj9 a1 l2 x8_1 x9_1 ((rd_T65 l2 x9_1).f0) ((rd_T65 l2 x9_1).f1) t191 t192 t193 (wrap64 (Int.tdiv (wrap64 ((wrap64 ((wrap64 (((rd_T65 l2 x9_1).f1) - a1)) - (wrap64 (4 * ((rd_T65 l2 x9_1).f0))))) - 4)) 4))) else (if t191 = 1 then (dowelref09_Link.j2 kj9 a1 l2 x8_1 x9_1 ((rd_T65 l2 x9_1).f0) ((rd_T65 l2 x9_1).f1) t191 t192 t193 ((rd_T65 l2 x9_1).f1)) else (some (([] : List Int), false)))) = some (r1, r2) := by rw [if_pos rfl] at H; exact H
                        clear H
                        have H := H1
                        clear H1
                        have HC22 := Aside0.mk H
                        clear H
                        have hcz23_0 : wc.cell? ⟨gb189, 0, none⟩ = some (.int .i64 ((rd_T65 l2 x9_1).f0)) := (blk_cell BK189.out 0).trans rfl
                        have hcz23_1 : wc.cell? ⟨gb189, 1, none⟩ = some (.int .i64 ((rd_T65 l2 x9_1).f1)) := (blk_cell BK189.out 1).trans rfl
                        have hfz23_0 := blk_frozen BK189.out 0
                        have hfz23_1 := blk_frozen BK189.out 1
                        obtain ⟨Ao24, co24, eo24⟩ := Kd.R_slice HO_8.out
                        subst eo24
                        have p190 : 0 ≤ (((rd_T65 l2 x9_1).f0) : Int) := of_decide_eq_true (by first | (with_reducible assumption) | assumption)
                        have q190 : ((rd_T65 l2 x9_1).f0) < (x8_1.length : Int) := of_decide_eq_true (by first | (with_reducible assumption) | assumption)
                        obtain ⟨ad190, e190, hx190_0⟩ := Kd.at_int (Kd.R_reads' HO_8.out).2.2 ((rd_T65 l2 x9_1).f0) p190 q190
                        cases e190
                        replace p190 := eq_true p190
                        replace q190 := eq_true q190
                        go_upto_if 50 with (first | ((with_reducible refine gate_callee (f := 29) rfl ?_); refine goesL_ (some 43) rfl rfl Try.func29 (by kernel_rfl) rfl #[.int .u32 (rd x8_1 ((rd_T65 l2 x9_1).f0))] rfl (by (try simp only [List.map_toArray, List.map_cons, List.map_nil]); first | done | rfl | (simp only [List.length_drop, List.length_take]; rfl)) ?_; (with_reducible refine (dowelref01_GetIns.calls kj9 (rd x8_1 ((rd_T65 l2 x9_1).f0)) t191 t192 t193 t194 true _ A20.out).mono ?_); rintro e w25 ⟨rfl, hb⟩; refine ⟨_, rfl, ?_⟩; have n0_ := Aside0.mk (Kd.R_below (by (with_reducible repeat (first | apply Kd.R_alloc | apply Kd.R_drewN | apply Kd.R_drew)); exact HO_8.out) hb); have n1_ := Aside0.mk (blk_below (g := gb189) (o := .cells #[.int .i64 ((rd_T65 l2 x9_1).f0), .int .i64 ((rd_T65 l2 x9_1).f1)] 65 (0, 0)) (by (with_reducible repeat (first | refine blk_drewN ?_ _ | refine blk_drew ?_ | refine blk_alloc ?_ _)); exact BK189.out) hb); have n2_ := Aside0.mk (below_step (by repeat (first | (with_reducible first | exact HB.out | apply below_alloc | apply pw_below_drewN | apply below_drew1 | refine below_set ?_ GE189.out) | exact HB.out)) hb); clear HO_8; clear BK189; clear HB; have HO_8 := n0_; have BK189 := n1_; have HB := n2_; clear n0_ n1_ n2_; (try clear hb); (try clear hb2); (try clear hk); (try clear hi)) | ((with_reducible refine gate_dst (N := 11) rfl ?_); (try (refine gate_guard (by rfl) ?_; dsimp only)); refine box_event ?hg (N := 11) ?hd (cs := #[.int .i64 0, .int .i64 0, .int .i64 0, .int .i64 0]) (t := 46) ?hr ?_; (case hd => rfl); (case hg => rfl); (case hr => first | (go_simp; done) | (go_simp; rfl)); intro gb196 hg w26 hbox hb; have n0_ := Aside0.mk (Kd.R_below (by (with_reducible repeat (first | apply Kd.R_alloc | apply Kd.R_drewN | apply Kd.R_drew)); exact HO_8.out) hb); have n1_ := Aside0.mk (blk_below (g := gb189) (o := .cells #[.int .i64 ((rd_T65 l2 x9_1).f0), .int .i64 ((rd_T65 l2 x9_1).f1)] 65 (0, 0)) (by (with_reducible repeat (first | refine blk_drewN ?_ _ | refine blk_drew ?_ | refine blk_alloc ?_ _)); exact BK189.out) hb); have n2_ := Aside0.mk (below_step (by repeat (first | (with_reducible first | exact HB.out | apply below_alloc | apply pw_below_drewN | apply below_drew1 | refine below_set ?_ GE189.out) | exact HB.out)) hb); have n3_ := Aside0.mk (hbox); have n4_ := Aside0.mk ((by rw [hg]; exact (below_size (by repeat (first | (with_reducible first | exact HB.out | apply below_alloc | apply pw_below_drewN | apply below_drew1 | refine below_set ?_ GE189.out) | exact HB.out))) : w.heap.size ≤ gb196)); have n5_ := Aside0.mk ((by rw [hg]; exact (below_size (by repeat (first | (with_reducible first | exact HB.out | apply below_alloc | apply pw_below_drewN | apply below_drew1 | refine below_set ?_ GE189.out) | exact HB.out))) : w.heap.size ≤ gb196)); have n6_ := Aside0.mk ((by rw [hg]; exact Nat.ne_of_lt (blk_lt (g := gb189) (o := .cells #[.int .i64 ((rd_T65 l2 x9_1).f0), .int .i64 ((rd_T65 l2 x9_1).f1)] 65 (0, 0)) (by (with_reducible repeat (first | refine blk_drewN ?_ _ | refine blk_drew ?_ | refine blk_alloc ?_ _)); exact BK189.out)) : gb189 ≠ gb196)); have n7_ := Aside0.mk ((by rw [hg]; exact Nat.ne_of_gt (blk_lt (g := gb189) (o := .cells #[.int .i64 ((rd_T65 l2 x9_1).f0), .int .i64 ((rd_T65 l2 x9_1).f1)] 65 (0, 0)) (by (with_reducible repeat (first | refine blk_drewN ?_ _ | refine blk_drew ?_ | refine blk_alloc ?_ _)); exact BK189.out)) : gb196 ≠ gb189)); clear HO_8; clear BK189; clear HB; have HO_8 := n0_; have BK189 := n1_; have HB := n2_; have BK196 := n3_; have GW196 := n4_; have GE196 := n5_; have NB189_196 := n6_; have NB196_189 := n7_; clear n0_ n1_ n2_ n3_ n4_ n5_ n6_ n7_; clear hb hbox hg; have hnb27 := NB196_189.out; have hnc27 := NB189_196.out; have hcz28_0 : w26.cell? ⟨gb196, 0, none⟩ = some (.int .i64 0) := (blk_cell BK196.out 0).trans rfl; have hcz28_1 : w26.cell? ⟨gb196, 1, none⟩ = some (.int .i64 0) := (blk_cell BK196.out 1).trans rfl; have hcz28_2 : w26.cell? ⟨gb196, 2, none⟩ = some (.int .i64 0) := (blk_cell BK196.out 2).trans rfl; have hcz28_3 : w26.cell? ⟨gb196, 3, none⟩ = some (.int .i64 0) := (blk_cell BK196.out 3).trans rfl; have hfz28_0 := blk_frozen BK196.out 0; have hfz28_1 := blk_frozen BK196.out 1; have hfz28_2 := blk_frozen BK196.out 2; have hfz28_3 := blk_frozen BK196.out 3))
                        (try simp only [Act.put, List.setIfInBounds_toArray, List.set_cons_zero, List.set_cons_succ])
                        go_cut [] (fun wc => ∃ (kq : Nat) (x197003_21 : Int), Aside0 (dowelref09_Link.j2 kq a1 l2 x8_1 x9_1 ((rd_T65 l2 x9_1).f0) ((rd_T65 l2 x9_1).f1) t191 t192 t193 x197003_21 = some (r1, r2)) ∧ Aside0 (kq ≤ kj9) ∧ Aside0 (Kd.R (Kd.int .u32) 22 wc w.heap.size (fun _ => True) (.slice (some ad190) x8_1.length co24) x8_1) ∧ Aside0 (wc.heap[gb189]? = some (.cells #[.int .i64 ((rd_T65 l2 x9_1).f0), .int .i64 ((rd_T65 l2 x9_1).f1)] 65 (0, 0))) ∧ Aside0 (wc.heap[gb196]? = some (.cells #[.int .i64 t191, .int .i64 t192, .int .i64 t193, .int .i64 x197003_21] 46 (0, 0))) ∧ Aside0 (Below w.heap.size w wc))
                        case first =>
                          have H := HC22.out
                          clear HC22
                          by_cases c29 : t191 = 20
                          · rw [if_pos c29] at H
                            have c29b0 : (t191 == 20) = true := beq_iff_eq.mpr c29
                            have c29b1 : (t191 != 20) = false := bne_eq_false_iff_eq.mpr c29
                            clear c29
                            (first | rw [c29b0] | (simp only [i64_w, i32_w]; rw [c29b0]) | skip)
                            have H' := Aside0.mk H
                            clear H
                            have hnb30 := NB189_196.out
                            have hnc30 := NB196_189.out
                            have hcz31_0 : w26.cell? ⟨gb189, 0, none⟩ = some (.int .i64 ((rd_T65 l2 x9_1).f0)) := (blk_cell BK189.out 0).trans rfl
                            have hcz31_1 : w26.cell? ⟨gb189, 1, none⟩ = some (.int .i64 ((rd_T65 l2 x9_1).f1)) := (blk_cell BK189.out 1).trans rfl
                            have hfz31_0 := blk_frozen BK189.out 0
                            have hfz31_1 := blk_frozen BK189.out 1
                            have hcz32_0 : w26.cell? ⟨gb196, 0, none⟩ = some (.int .i64 0) := (blk_cell BK196.out 0).trans rfl
                            have hcz32_1 : w26.cell? ⟨gb196, 1, none⟩ = some (.int .i64 0) := (blk_cell BK196.out 1).trans rfl
                            have hcz32_2 : w26.cell? ⟨gb196, 2, none⟩ = some (.int .i64 0) := (blk_cell BK196.out 2).trans rfl
                            have hcz32_3 : w26.cell? ⟨gb196, 3, none⟩ = some (.int .i64 0) := (blk_cell BK196.out 3).trans rfl
                            have hfz32_0 := blk_frozen BK196.out 0
                            have hfz32_1 := blk_frozen BK196.out 1
                            have hfz32_2 := blk_frozen BK196.out 2
                            have hfz32_3 := blk_frozen BK196.out 3
                            go_wp2
                            go_meet
                            case rel => exact ⟨_, (wrap64 (Int.tdiv (wrap64 ((wrap64 ((wrap64 (((rd_T65 l2 x9_1).f1) - a1)) - (wrap64 (4 * ((rd_T65 l2 x9_1).f0))))) - 4)) 4)), H', ⟨by have := HK1.out; have := HJ9.out; first | omega | exact Nat.le_refl _⟩, ⟨by (with_reducible repeat (first | apply Kd.R_alloc | apply Kd.R_drewN | apply Kd.R_drew)); exact Kd.R_mono (Kd.R_far (p := ⟨gb196, 3, none⟩) (Kd.R_far (p := ⟨gb196, 3, none⟩) (Kd.R_far (p := ⟨gb196, 2, none⟩) (Kd.R_far (p := ⟨gb196, 1, none⟩) (Kd.R_far (p := ⟨gb196, 0, none⟩) (Kd.R_types HO_8.out BK196.out (by decide)) (fun _ hk => hk.2) (.int .i64 t191)) (fun _ hk => hk.2) (.int .i64 t192)) (fun _ hk => hk.2) (.int .i64 t193)) (fun _ hk => hk.2) (.int .i64 t194)) (fun _ hk => hk.2) (.int .i64 (wrap64 (Int.tdiv (wrap64 ((wrap64 ((wrap64 (((rd_T65 l2 x9_1).f1) - a1)) - (wrap64 (4 * ((rd_T65 l2 x9_1).f0))))) - 4)) 4)))) (fun _ hk => trivial)⟩, ⟨by (with_reducible repeat (first | refine blk_drewN ?_ _ | refine blk_drew ?_ | refine blk_alloc ?_ _)); refine blk_far ?_ NB189_196.out _; (with_reducible repeat (first | refine blk_drewN ?_ _ | refine blk_drew ?_ | refine blk_alloc ?_ _)); refine blk_far ?_ NB189_196.out _; (with_reducible repeat (first | refine blk_drewN ?_ _ | refine blk_drew ?_ | refine blk_alloc ?_ _)); refine blk_far ?_ NB189_196.out _; (with_reducible repeat (first | refine blk_drewN ?_ _ | refine blk_drew ?_ | refine blk_alloc ?_ _)); refine blk_far ?_ NB189_196.out _; (with_reducible repeat (first | refine blk_drewN ?_ _ | refine blk_drew ?_ | refine blk_alloc ?_ _)); refine blk_far ?_ NB189_196.out _; (with_reducible repeat (first | refine blk_drewN ?_ _ | refine blk_drew ?_ | refine blk_alloc ?_ _)); exact BK189.out⟩, ⟨by (with_reducible repeat (first | refine blk_drewN ?_ _ | refine blk_drew ?_ | refine blk_alloc ?_ _)); refine blk_put (cs := #[.int .i64 t191, .int .i64 t192, .int .i64 t193, .int .i64 t194]) ?_ 3 _ rfl; (with_reducible repeat (first | refine blk_drewN ?_ _ | refine blk_drew ?_ | refine blk_alloc ?_ _)); refine blk_put (cs := #[.int .i64 t191, .int .i64 t192, .int .i64 t193, .int .i64 0]) ?_ 3 _ rfl; (with_reducible repeat (first | refine blk_drewN ?_ _ | refine blk_drew ?_ | refine blk_alloc ?_ _)); refine blk_put (cs := #[.int .i64 t191, .int .i64 t192, .int .i64 0, .int .i64 0]) ?_ 2 _ rfl; (with_reducible repeat (first | refine blk_drewN ?_ _ | refine blk_drew ?_ | refine blk_alloc ?_ _)); refine blk_put (cs := #[.int .i64 t191, .int .i64 0, .int .i64 0, .int .i64 0]) ?_ 1 _ rfl; (with_reducible repeat (first | refine blk_drewN ?_ _ | refine blk_drew ?_ | refine blk_alloc ?_ _)); refine blk_put (cs := #[.int .i64 0, .int .i64 0, .int .i64 0, .int .i64 0]) ?_ 0 _ rfl; (with_reducible repeat (first | refine blk_drewN ?_ _ | refine blk_drew ?_ | refine blk_alloc ?_ _)); exact BK196.out⟩, ⟨by repeat (first | (with_reducible first | exact HB.out | apply below_alloc | apply pw_below_drewN | apply below_drew1 | refine below_set ?_ GE189.out | refine below_set ?_ GE196.out) | exact HB.out)⟩⟩
                          · rw [if_neg c29] at H
                            have c29b0 : (t191 == 20) = false := beq_eq_false_iff_ne.mpr c29
                            have c29b1 : (t191 != 20) = true := bne_iff_ne.mpr c29
                            (first | rw [c29b0] | (simp only [i64_w, i32_w]; rw [c29b0]) | skip)
                            by_cases c33 : t191 = 1
                            · rw [if_pos c33] at H
                              have c33b0 : (t191 == 1) = true := beq_iff_eq.mpr c33
                              have c33b1 : (t191 != 1) = false := bne_eq_false_iff_eq.mpr c33
                              clear c33
                              have H' := Aside0.mk H
                              clear H
                              have hnb34 := NB196_189.out
                              have hnc34 := NB189_196.out
                              have hcz35_0 : w26.cell? ⟨gb196, 0, none⟩ = some (.int .i64 0) := (blk_cell BK196.out 0).trans rfl
                              have hcz35_1 : w26.cell? ⟨gb196, 1, none⟩ = some (.int .i64 0) := (blk_cell BK196.out 1).trans rfl
                              have hcz35_2 : w26.cell? ⟨gb196, 2, none⟩ = some (.int .i64 0) := (blk_cell BK196.out 2).trans rfl
                              have hcz35_3 : w26.cell? ⟨gb196, 3, none⟩ = some (.int .i64 0) := (blk_cell BK196.out 3).trans rfl
                              have hfz35_0 := blk_frozen BK196.out 0
                              have hfz35_1 := blk_frozen BK196.out 1
                              have hfz35_2 := blk_frozen BK196.out 2
                              have hfz35_3 := blk_frozen BK196.out 3
                              have hcz36_0 : w26.cell? ⟨gb189, 0, none⟩ = some (.int .i64 ((rd_T65 l2 x9_1).f0)) := (blk_cell BK189.out 0).trans rfl
                              have hcz36_1 : w26.cell? ⟨gb189, 1, none⟩ = some (.int .i64 ((rd_T65 l2 x9_1).f1)) := (blk_cell BK189.out 1).trans rfl
                              have hfz36_0 := blk_frozen BK189.out 0
                              have hfz36_1 := blk_frozen BK189.out 1
                              go_wp2
                              go_meet
                              case rel => exact ⟨_, (((rd_T65 l2 x9_1).f1)), H', ⟨by have := HK1.out; have := HJ9.out; first | omega | exact Nat.le_refl _⟩, ⟨by (with_reducible repeat (first | apply Kd.R_alloc | apply Kd.R_drewN | apply Kd.R_drew)); exact Kd.R_mono (Kd.R_far (p := ⟨gb196, 3, none⟩) (Kd.R_far (p := ⟨gb196, 3, none⟩) (Kd.R_far (p := ⟨gb196, 2, none⟩) (Kd.R_far (p := ⟨gb196, 1, none⟩) (Kd.R_far (p := ⟨gb196, 0, none⟩) (Kd.R_types HO_8.out BK196.out (by decide)) (fun _ hk => hk.2) (.int .i64 t191)) (fun _ hk => hk.2) (.int .i64 t192)) (fun _ hk => hk.2) (.int .i64 t193)) (fun _ hk => hk.2) (.int .i64 t194)) (fun _ hk => hk.2) (.int .i64 ((rd_T65 l2 x9_1).f1))) (fun _ hk => trivial)⟩, ⟨by (with_reducible repeat (first | refine blk_drewN ?_ _ | refine blk_drew ?_ | refine blk_alloc ?_ _)); refine blk_far ?_ NB189_196.out _; (with_reducible repeat (first | refine blk_drewN ?_ _ | refine blk_drew ?_ | refine blk_alloc ?_ _)); refine blk_far ?_ NB189_196.out _; (with_reducible repeat (first | refine blk_drewN ?_ _ | refine blk_drew ?_ | refine blk_alloc ?_ _)); refine blk_far ?_ NB189_196.out _; (with_reducible repeat (first | refine blk_drewN ?_ _ | refine blk_drew ?_ | refine blk_alloc ?_ _)); refine blk_far ?_ NB189_196.out _; (with_reducible repeat (first | refine blk_drewN ?_ _ | refine blk_drew ?_ | refine blk_alloc ?_ _)); refine blk_far ?_ NB189_196.out _; (with_reducible repeat (first | refine blk_drewN ?_ _ | refine blk_drew ?_ | refine blk_alloc ?_ _)); exact BK189.out⟩, ⟨by (with_reducible repeat (first | refine blk_drewN ?_ _ | refine blk_drew ?_ | refine blk_alloc ?_ _)); refine blk_put (cs := #[.int .i64 t191, .int .i64 t192, .int .i64 t193, .int .i64 t194]) ?_ 3 _ rfl; (with_reducible repeat (first | refine blk_drewN ?_ _ | refine blk_drew ?_ | refine blk_alloc ?_ _)); refine blk_put (cs := #[.int .i64 t191, .int .i64 t192, .int .i64 t193, .int .i64 0]) ?_ 3 _ rfl; (with_reducible repeat (first | refine blk_drewN ?_ _ | refine blk_drew ?_ | refine blk_alloc ?_ _)); refine blk_put (cs := #[.int .i64 t191, .int .i64 t192, .int .i64 0, .int .i64 0]) ?_ 2 _ rfl; (with_reducible repeat (first | refine blk_drewN ?_ _ | refine blk_drew ?_ | refine blk_alloc ?_ _)); refine blk_put (cs := #[.int .i64 t191, .int .i64 0, .int .i64 0, .int .i64 0]) ?_ 1 _ rfl; (with_reducible repeat (first | refine blk_drewN ?_ _ | refine blk_drew ?_ | refine blk_alloc ?_ _)); refine blk_put (cs := #[.int .i64 0, .int .i64 0, .int .i64 0, .int .i64 0]) ?_ 0 _ rfl; (with_reducible repeat (first | refine blk_drewN ?_ _ | refine blk_drew ?_ | refine blk_alloc ?_ _)); exact BK196.out⟩, ⟨by repeat (first | (with_reducible first | exact HB.out | apply below_alloc | apply pw_below_drewN | apply below_drew1 | refine below_set ?_ GE189.out | refine below_set ?_ GE196.out) | exact HB.out)⟩⟩
                            · rw [if_neg c33] at H
                              have c33b0 : (t191 == 1) = false := beq_eq_false_iff_ne.mpr c33
                              have c33b1 : (t191 != 1) = true := bne_iff_ne.mpr c33
                              simp only [Option.some.injEq, Prod.mk.injEq] at H
                              obtain ⟨rfl, rfl⟩ := H
                              have hnb37 := NB196_189.out
                              have hnc37 := NB189_196.out
                              have hcz38_0 : w26.cell? ⟨gb196, 0, none⟩ = some (.int .i64 0) := (blk_cell BK196.out 0).trans rfl
                              have hcz38_1 : w26.cell? ⟨gb196, 1, none⟩ = some (.int .i64 0) := (blk_cell BK196.out 1).trans rfl
                              have hcz38_2 : w26.cell? ⟨gb196, 2, none⟩ = some (.int .i64 0) := (blk_cell BK196.out 2).trans rfl
                              have hcz38_3 : w26.cell? ⟨gb196, 3, none⟩ = some (.int .i64 0) := (blk_cell BK196.out 3).trans rfl
                              have hfz38_0 := blk_frozen BK196.out 0
                              have hfz38_1 := blk_frozen BK196.out 1
                              have hfz38_2 := blk_frozen BK196.out 2
                              have hfz38_3 := blk_frozen BK196.out 3
                              go_wp2
                              go_ret2
                              exact ⟨_, by first | rfl | (simp [errW_none, errW_some] <;> rfl) | (simp [*, errW_none, errW_some] <;> rfl), by first | exact Kd.R_nil _ _ _ _ _ | exact Kd.N_nil _ _ _ _ _ | exact Kd.V_nil _ _ _ _ _ | exact Kd.Q_nil _ _ _ _ _ | exact Kd.S_nil _ _ _ _ _, by repeat (first | (with_reducible first | exact HB.out | apply below_alloc | apply pw_below_drewN | apply below_drew1 | refine below_set ?_ GE189.out | refine below_set ?_ GE196.out) | exact HB.out)⟩
                        case rest =>
                          clear HC22
                          try clear c1
                          try clear p1
                          try clear q1
                          try clear hx1
                          try clear c2
                          try clear p2
                          try clear c3
                          try clear c4
                          try clear p6
                          try clear c8
                          try clear c8b0
                          try clear c9
                          try clear c9b0
                          try clear c13
                          try clear c13b0
                          try clear c17
                          try clear c18
                          try clear c18b0
                          try clear p18
                          try clear q18
                          try clear hx18
                          try clear c19
                          try clear c19b0
                          try clear p19
                          try clear q19
                          try clear hx19
                          try clear c21
                          try clear c27
                          try clear c29
                          try clear c29b0
                          try clear c29b1
                          try clear c30
                          try clear c33
                          try clear c33b0
                          try clear c33b1
                          try clear c34
                          try clear c37
                          try clear hcz12_0
                          try clear hcz12_1
                          try clear hcz14_0
                          try clear hcz14_1
                          try clear hcz15_0
                          try clear hcz15_1
                          try clear hcz23_0
                          try clear hcz23_1
                          try clear hcz28_0
                          try clear hcz28_1
                          try clear hcz28_2
                          try clear hcz28_3
                          try clear hcz31_0
                          try clear hcz31_1
                          try clear hcz32_0
                          try clear hcz32_1
                          try clear hcz32_2
                          try clear hcz32_3
                          try clear hcz35_0
                          try clear hcz35_1
                          try clear hcz35_2
                          try clear hcz35_3
                          try clear hcz36_0
                          try clear hcz36_1
                          try clear hcz38_0
                          try clear hcz38_1
                          try clear hcz38_2
                          try clear hcz38_3
                          try clear hfz12_0
                          try clear hfz12_1
                          try clear hfz14_0
                          try clear hfz14_1
                          try clear hfz15_0
                          try clear hfz15_1
                          try clear hfz23_0
                          try clear hfz23_1
                          try clear hfz28_0
                          try clear hfz28_1
                          try clear hfz28_2
                          try clear hfz28_3
                          try clear hfz31_0
                          try clear hfz31_1
                          try clear hfz32_0
                          try clear hfz32_1
                          try clear hfz32_2
                          try clear hfz32_3
                          try clear hfz35_0
                          try clear hfz35_1
                          try clear hfz35_2
                          try clear hfz35_3
                          try clear hfz36_0
                          try clear hfz36_1
                          try clear hfz38_0
                          try clear hfz38_1
                          try clear hfz38_2
                          try clear hfz38_3
                          try clear hx188_0
                          try clear hx188_1
                          try clear hx190_0
                          try clear p1
                          try clear p188
                          try clear p190
                          try clear p2
                          try clear q1
                          try clear q188
                          try clear q190
                          obtain ⟨kq, x197003_21, HA, HJ21, HO_8, BK189, BK196, HB⟩ := hcut
                          cases kq with
                          | zero => exact absurd HA.out (by simp [dowelref09_Link.j2])
                          | succ kj21 =>
                            have H := HA.out
                            clear HA
                            simp only [dowelref09_Link.j2] at H
                            replace H := Option.bind_eq_some_iff.mp H
                            obtain ⟨t197, A390, H⟩ := H
                            replace H : (if t197 = true then ((dowelref01_PutIns.f t191 t192 t193 x197003_21).bind fun t198 => (if 0 ≤ ((rd_T65 l2 x9_1).f0) then (if ((rd_T65 l2 x9_1).f0) < (x8_1.length : Int) then (dowelref09_Link.l0 kj21 a1 l2 (x8_1.set (((rd_T65 l2 x9_1).f0) : Int).toNat t198) (wrap64 (x9_1 + 1))) else (none)) else (none))) else (some (([] : List Int), false))) = some (r1, r2) := H
                            have A39 := Aside0.mk A390
                            clear A390
                            by_cases c40 : t197 = true
                            · subst c40
                              have H1 : ((dowelref01_PutIns.f t191 t192 t193 x197003_21).bind fun t198 => (if 0 ≤ ((rd_T65 l2 x9_1).f0) then (if ((rd_T65 l2 x9_1).f0) < (x8_1.length : Int) then (dowelref09_Link.l0 kj21 a1 l2 (x8_1.set (((rd_T65 l2 x9_1).f0) : Int).toNat t198) (wrap64 (x9_1 + 1))) else (none)) else (none))) = some (r1, r2) := by rw [if_pos rfl] at H; exact H
                              clear H
                              have H := H1
                              clear H1
                              replace H := Option.bind_eq_some_iff.mp H
                              obtain ⟨t198, A410, H⟩ := H
                              replace H : (if 0 ≤ ((rd_T65 l2 x9_1).f0) then (if ((rd_T65 l2 x9_1).f0) < (x8_1.length : Int) then (dowelref09_Link.l0 kj21 a1 l2 (x8_1.set (((rd_T65 l2 x9_1).f0) : Int).toNat t198) (wrap64 (x9_1 + 1))) else (none)) else (none)) = some (r1, r2) := H
                              have A41 := Aside0.mk A410
                              clear A410
                              by_cases c42 : 0 ≤ ((rd_T65 l2 x9_1).f0)
                              · rw [if_pos c42] at H
                                have c42b0 : decide (0 ≤ ((rd_T65 l2 x9_1).f0)) = true := decide_eq_true c42
                                clear c42
                                by_cases c43 : ((rd_T65 l2 x9_1).f0) < (x8_1.length : Int)
                                · rw [if_pos c43] at H
                                  have c43b0 : decide (((rd_T65 l2 x9_1).f0) < (x8_1.length : Int)) = true := decide_eq_true c43
                                  clear c43
                                  obtain ⟨y199, hy199⟩ : ∃ y_ : List Int, y_ = (x8_1.set (((rd_T65 l2 x9_1).f0) : Int).toNat t198) := ⟨_, rfl⟩
                                  replace H : (dowelref09_Link.l0 kj21 a1 l2 y199 (wrap64 (x9_1 + 1))) = some (r1, r2) := by first | (rw [hy199]; with_reducible exact H) | (have H2_ := (Option.bind_some _ _).symm.trans H; rw [hy199]; with_reducible exact H2_) | (have H2_ := (Option.bind_some _ _).symm.trans H; with_reducible exact H2_) | with_reducible exact H | (rw [hy199]; exact H) | exact H
                                  have Ny199 := Aside0.mk hy199
                                  clear hy199
                                  have H' := Aside0.mk H
                                  clear H
                                  have hnb45 := NB196_189.out
                                  have hnc45 := NB189_196.out
                                  have hcz46_0 : wc.cell? ⟨gb196, 0, none⟩ = some (.int .i64 t191) := (blk_cell BK196.out 0).trans rfl
                                  have hcz46_1 : wc.cell? ⟨gb196, 1, none⟩ = some (.int .i64 t192) := (blk_cell BK196.out 1).trans rfl
                                  have hcz46_2 : wc.cell? ⟨gb196, 2, none⟩ = some (.int .i64 t193) := (blk_cell BK196.out 2).trans rfl
                                  have hcz46_3 : wc.cell? ⟨gb196, 3, none⟩ = some (.int .i64 x197003_21) := (blk_cell BK196.out 3).trans rfl
                                  have hfz46_0 := blk_frozen BK196.out 0
                                  have hfz46_1 := blk_frozen BK196.out 1
                                  have hfz46_2 := blk_frozen BK196.out 2
                                  have hfz46_3 := blk_frozen BK196.out 3
                                  try go_wp2_with (first | ((with_reducible refine gate_callee (f := 24) rfl ?_); refine goesL_ (some 69) rfl rfl Try.func24 (by kernel_rfl) rfl #[.agg #[.int .i64 t191, .int .i64 t192, .int .i64 t193, .int .i64 x197003_21]] rfl (by (try simp only [List.map_toArray, List.map_cons, List.map_nil]); first | done | rfl | (simp only [List.length_drop, List.length_take]; rfl)) ?_; (with_reducible refine (dowelref01_May.calls t191 t192 t193 x197003_21 true _ A39.out).mono ?_); rintro e w47 ⟨rfl, hb⟩; refine ⟨_, rfl, ?_⟩; have n0_ := Aside0.mk (Kd.R_below (by (with_reducible repeat (first | apply Kd.R_alloc | apply Kd.R_drewN | apply Kd.R_drew)); exact HO_8.out) hb); have n1_ := Aside0.mk (blk_below (g := gb189) (o := .cells #[.int .i64 ((rd_T65 l2 x9_1).f0), .int .i64 ((rd_T65 l2 x9_1).f1)] 65 (0, 0)) (by (with_reducible repeat (first | refine blk_drewN ?_ _ | refine blk_drew ?_ | refine blk_alloc ?_ _)); exact BK189.out) hb); have n2_ := Aside0.mk (blk_below (g := gb196) (o := .cells #[.int .i64 t191, .int .i64 t192, .int .i64 t193, .int .i64 x197003_21] 46 (0, 0)) (by (with_reducible repeat (first | refine blk_drewN ?_ _ | refine blk_drew ?_ | refine blk_alloc ?_ _)); exact BK196.out) hb); have n3_ := Aside0.mk (below_step (by repeat (first | (with_reducible first | exact HB.out | apply below_alloc | apply pw_below_drewN | apply below_drew1 | refine below_set ?_ GE189.out | refine below_set ?_ GE196.out) | exact HB.out)) hb); clear HO_8; clear BK189; clear BK196; clear HB; have HO_8 := n0_; have BK189 := n1_; have BK196 := n2_; have HB := n3_; clear n0_ n1_ n2_ n3_; (try clear hb); (try clear hb2); (try clear hk); (try clear hi)))
                                  have n0_ := Aside0.mk (Kd.R_drew HO_8.out)
                                  have n1_ := Aside0.mk (blk_drew BK189.out)
                                  have n2_ := Aside0.mk (blk_drew BK196.out)
                                  have n3_ := Aside0.mk (below_drew1 HB.out)
                                  clear HO_8
                                  clear BK189
                                  clear BK196
                                  clear HB
                                  have HO_8 := n0_
                                  have BK189 := n1_
                                  have BK196 := n2_
                                  have HB := n3_
                                  clear n0_ n1_ n2_ n3_
                                  refine start_ (n := 7) (S := fun w' => w'.cell? ⟨gb189, 0, none⟩ = some (.int .i64 ((rd_T65 l2 x9_1).f0)) ∧ w'.cell? ⟨gb189, 1, none⟩ = some (.int .i64 ((rd_T65 l2 x9_1).f1)) ∧ w'.cell? ⟨gb196, 0, none⟩ = some (.int .i64 t191) ∧ w'.cell? ⟨gb196, 1, none⟩ = some (.int .i64 t192) ∧ w'.cell? ⟨gb196, 2, none⟩ = some (.int .i64 t193) ∧ w'.cell? ⟨gb196, 3, none⟩ = some (.int .i64 x197003_21)) (ds := [6]) #[false, false, false, false, false, false, false] (by kernel_rfl) rfl rfl ⟨(blk_cell BK189.out 0).trans rfl, (blk_cell BK189.out 1).trans rfl, (blk_cell BK196.out 0).trans rfl, (blk_cell BK196.out 1).trans rfl, (blk_cell BK196.out 2).trans rfl, (blk_cell BK196.out 3).trans rfl⟩ (fun hHeld => ?_)
                                  generalize w47.drew = w48 at HO_8 BK189 BK196 HB hHeld ⊢
                                  refine pure_ (i := 0) (N := some 72) (v := ?_) (a' := ?_) #[true, false, false, false, false, false, false] rfl rfl (by kernel_rfl) (fun _ _ _ h => h) (Or.inl ⟨by rfl, ?_⟩) ?_ ?_
                                  rotate_left
                                  · intro w'
                                    go_simp
                                    with_reducible rfl
                                  rotate_left
                                  · simp only [Act.put, List.setIfInBounds_toArray, List.set_cons_zero, List.set_cons_succ, i64_w, i32_w]
                                    rfl
                                  refine pure_ (i := 1) (N := some 73) (v := ?_) (a' := ?_) #[true, true, false, false, false, false, false] rfl rfl (by kernel_rfl) (fun _ _ _ h => h) (Or.inl ⟨by rfl, ?_⟩) ?_ ?_
                                  rotate_left
                                  · intro w'
                                    go_simp
                                    with_reducible rfl
                                  rotate_left
                                  · simp only [Act.put, List.setIfInBounds_toArray, List.set_cons_zero, List.set_cons_succ, i64_w, i32_w]
                                    rfl
                                  refine take_ (i := 2) (N := some 74) (v := ?_) (a' := ?_) #[true, true, true, false, false, false, false] rfl rfl (by kernel_rfl) (fun _ _ _ h => h) (Or.inl ⟨by rfl, ?_⟩) hHeld ?_ ?_
                                  rotate_left
                                  · rintro w' ⟨s0, s1, s2, s3, s4, s5⟩
                                    go_simp
                                    with_reducible rfl
                                  rotate_left
                                  · simp only [Act.put, List.setIfInBounds_toArray, List.set_cons_zero, List.set_cons_succ, i64_w, i32_w]
                                    rfl
                                  refine take_ (i := 3) (N := some 75) (v := ?_) (a' := ?_) #[true, true, true, true, false, false, false] rfl rfl (by kernel_rfl) (fun _ _ _ h => h) (Or.inl ⟨by rfl, ?_⟩) hHeld ?_ ?_
                                  rotate_left
                                  · rintro w' ⟨s0, s1, s2, s3, s4, s5⟩
                                    go_simp
                                    with_reducible rfl
                                  rotate_left
                                  · simp only [Act.put, List.setIfInBounds_toArray, List.set_cons_zero, List.set_cons_succ, i64_w, i32_w]
                                    rfl
                                  refine one_ (i := 4) (N := some 76) #[true, true, true, true, true, false, false] rfl rfl (by kernel_rfl) (by decide) (fun K hK => ?_)
                                  refine goes_ Try.func28 (by kernel_rfl) rfl #[.agg #[.int .i64 t191, .int .i64 t192, .int .i64 t193, .int .i64 x197003_21]] (by rfl) rfl rfl (by (try simp only [List.map_toArray, List.map_cons, List.map_nil]); first | done | rfl | (simp only [List.length_drop, List.length_take]; rfl)) ?_
                                  with_reducible refine (dowelref01_PutIns.calls t191 t192 t193 x197003_21 t198 _ A41.out).mono ?_
                                  rintro e w49 ⟨rfl, hb⟩
                                  refine ⟨_, rfl, ?_⟩
                                  have n0_ := Aside0.mk (Kd.R_below (by (with_reducible repeat (first | apply Kd.R_alloc | apply Kd.R_drewN | apply Kd.R_drew)); exact HO_8.out) hb)
                                  have n1_ := Aside0.mk (blk_below (g := gb189) (o := .cells #[.int .i64 ((rd_T65 l2 x9_1).f0), .int .i64 ((rd_T65 l2 x9_1).f1)] 65 (0, 0)) (by (with_reducible repeat (first | refine blk_drewN ?_ _ | refine blk_drew ?_ | refine blk_alloc ?_ _)); exact BK189.out) hb)
                                  have n2_ := Aside0.mk (blk_below (g := gb196) (o := .cells #[.int .i64 t191, .int .i64 t192, .int .i64 t193, .int .i64 x197003_21] 46 (0, 0)) (by (with_reducible repeat (first | refine blk_drewN ?_ _ | refine blk_drew ?_ | refine blk_alloc ?_ _)); exact BK196.out) hb)
                                  have n3_ := Aside0.mk (below_step (by repeat (first | (with_reducible first | exact HB.out | apply below_alloc | apply pw_below_drewN | apply below_drew1 | refine below_set ?_ GE189.out | refine below_set ?_ GE196.out) | exact HB.out)) hb)
                                  clear HO_8
                                  clear BK189
                                  clear BK196
                                  clear HB
                                  have HO_8 := n0_
                                  have BK189 := n1_
                                  have BK196 := n2_
                                  have HB := n3_
                                  clear n0_ n1_ n2_ n3_
                                  (try clear hb)
                                  (try clear hb2)
                                  (try clear hk)
                                  (try clear hi)
                                  have p44 : 0 ≤ (((rd_T65 l2 x9_1).f0) : Int) := of_decide_eq_true (by first | (with_reducible assumption) | assumption)
                                  have q44 : (((rd_T65 l2 x9_1).f0) : Int) < ((x8_1.length : Int) : Int) := of_decide_eq_true (by first | (with_reducible assumption) | assumption)
                                  obtain ⟨go44, co44, eo44, gb44, gl44, cl44, HG44⟩ := Kd.R_form HO_8.out (by omega)
                                  (first | cases eo44 | (injection eo44 with ea_ en_ ec_; (first | subst ea_ | (injection ea_ with ea_; subst ea_)); subst ec_; clear en_))
                                  have GB44 := Aside0.mk gb44
                                  have GG44 := Aside0.mk HG44
                                  clear gb44 gl44 HG44
                                  (first | simp only [add_plain] at hx190_0 | skip)
                                  obtain ⟨hx44_0, hf44_0⟩ := Kd.R_celln 0 HO_8.out (((rd_T65 l2 x9_1).f0) : Int) p44 q44
                                  replace p44 := eq_true p44
                                  replace q44 := eq_true q44
                                  have HP50 := Kd.R_putn HO_8.out (((rd_T65 l2 x9_1).f0) : Int) t198
                                  rw [← Ny199.out] at HP50
                                  have HQ50 := Aside0.mk HP50
                                  clear HP50
                                  refine hK.out _ _ ⟨(blk_cell BK189.out 0).trans rfl, (blk_cell BK189.out 1).trans rfl, (blk_cell BK196.out 0).trans rfl, (blk_cell BK196.out 1).trans rfl, (blk_cell BK196.out 2).trans rfl, (blk_cell BK196.out 3).trans rfl⟩ (fun hHeld => ?_)
                                  clear hK K
                                  refine norm_ (a' := ?_) ?_ ?_
                                  rotate_left
                                  · show Act.put _ (some 76) _ = _
                                    simp only [Act.put, List.setIfInBounds_toArray, List.set_cons_zero, List.set_cons_succ, i64_w, i32_w]
                                    rfl
                                  refine pure_ (i := 5) (N := some 77) (v := ?_) (a' := ?_) #[true, true, true, true, true, true, false] rfl rfl (by kernel_rfl) (fun _ _ _ h => h) (Or.inl ⟨by rfl, ?_⟩) ?_ ?_
                                  rotate_left
                                  · intro w'
                                    go_simp
                                    with_reducible rfl
                                  rotate_left
                                  · simp only [Act.put, List.setIfInBounds_toArray, List.set_cons_zero, List.set_cons_succ, i64_w, i32_w]
                                    rfl
                                  refine last_ (i := 6) (N := none) #[true, true, true, true, true, true, true] rfl rfl (by kernel_rfl) (by decide) (fun K hK => ?_)
                                  refine skip_ (w1 := ?_) (by rfl) rfl ?_ ?_
                                  rotate_left
                                  · go_simp
                                    rfl
                                  refine hK.out _ _ ?_
                                  clear hK K
                                  refine done_ (by kernel_rfl) ?_
                                  try go_wp2
                                  go_roundg kj21
                                  case measure => have := HK1.out; have := HJ9.out; have := HJ21.out; omega
                                  case rel => exact ⟨(y199), (wrap64 (x9_1 + 1)), (by first | rfl | (simp; done) | (simp [*]; done)), H', ⟨by have := HK1.out; have := HJ9.out; have := HJ21.out; omega⟩, ⟨by (with_reducible repeat (first | apply Kd.R_alloc | apply Kd.R_drewN | apply Kd.R_drew)); exact HQ50.out⟩, ⟨by repeat (first | (with_reducible first | exact HB.out | apply below_alloc | apply pw_below_drewN | apply below_drew1 | refine below_set ?_ GB44.out | refine below_set ?_ GE189.out | refine below_set ?_ GE196.out) | exact HB.out)⟩⟩
                                · rw [if_neg c43] at H
                                  exact absurd H (by simp)
                              · rw [if_neg c42] at H
                                exact absurd H (by simp)
                            · replace c40 := Bool.eq_false_iff.mpr c40
                              subst c40
                              have H1 : (some (([] : List Int), false)) = some (r1, r2) := by rw [if_neg (show ¬ (false = true) by decide)] at H; exact H
                              clear H
                              have H := H1
                              clear H1
                              simp only [Option.some.injEq, Prod.mk.injEq] at H
                              obtain ⟨rfl, rfl⟩ := H
                              have hnb51 := NB196_189.out
                              have hnc51 := NB189_196.out
                              have hcz52_0 : wc.cell? ⟨gb196, 0, none⟩ = some (.int .i64 t191) := (blk_cell BK196.out 0).trans rfl
                              have hcz52_1 : wc.cell? ⟨gb196, 1, none⟩ = some (.int .i64 t192) := (blk_cell BK196.out 1).trans rfl
                              have hcz52_2 : wc.cell? ⟨gb196, 2, none⟩ = some (.int .i64 t193) := (blk_cell BK196.out 2).trans rfl
                              have hcz52_3 : wc.cell? ⟨gb196, 3, none⟩ = some (.int .i64 x197003_21) := (blk_cell BK196.out 3).trans rfl
                              have hfz52_0 := blk_frozen BK196.out 0
                              have hfz52_1 := blk_frozen BK196.out 1
                              have hfz52_2 := blk_frozen BK196.out 2
                              have hfz52_3 := blk_frozen BK196.out 3
                              go_wp2_with (first | ((with_reducible refine gate_callee (f := 24) rfl ?_); refine goesL_ (some 69) rfl rfl Try.func24 (by kernel_rfl) rfl #[.agg #[.int .i64 t191, .int .i64 t192, .int .i64 t193, .int .i64 x197003_21]] rfl (by (try simp only [List.map_toArray, List.map_cons, List.map_nil]); first | done | rfl | (simp only [List.length_drop, List.length_take]; rfl)) ?_; (with_reducible refine (dowelref01_May.calls t191 t192 t193 x197003_21 false _ A39.out).mono ?_); rintro e w53 ⟨rfl, hb⟩; refine ⟨_, rfl, ?_⟩; have n0_ := Aside0.mk (Kd.R_below (by (with_reducible repeat (first | apply Kd.R_alloc | apply Kd.R_drewN | apply Kd.R_drew)); exact HO_8.out) hb); have n1_ := Aside0.mk (blk_below (g := gb189) (o := .cells #[.int .i64 ((rd_T65 l2 x9_1).f0), .int .i64 ((rd_T65 l2 x9_1).f1)] 65 (0, 0)) (by (with_reducible repeat (first | refine blk_drewN ?_ _ | refine blk_drew ?_ | refine blk_alloc ?_ _)); exact BK189.out) hb); have n2_ := Aside0.mk (blk_below (g := gb196) (o := .cells #[.int .i64 t191, .int .i64 t192, .int .i64 t193, .int .i64 x197003_21] 46 (0, 0)) (by (with_reducible repeat (first | refine blk_drewN ?_ _ | refine blk_drew ?_ | refine blk_alloc ?_ _)); exact BK196.out) hb); have n3_ := Aside0.mk (below_step (by repeat (first | (with_reducible first | exact HB.out | apply below_alloc | apply pw_below_drewN | apply below_drew1 | refine below_set ?_ GE189.out | refine below_set ?_ GE196.out) | exact HB.out)) hb); clear HO_8; clear BK189; clear BK196; clear HB; have HO_8 := n0_; have BK189 := n1_; have BK196 := n2_; have HB := n3_; clear n0_ n1_ n2_ n3_; (try clear hb); (try clear hb2); (try clear hk); (try clear hi)))
                              go_ret2
                              exact ⟨_, by first | rfl | (simp [errW_none, errW_some] <;> rfl) | (simp [*, errW_none, errW_some] <;> rfl), by first | exact Kd.R_nil _ _ _ _ _ | exact Kd.N_nil _ _ _ _ _ | exact Kd.V_nil _ _ _ _ _ | exact Kd.Q_nil _ _ _ _ _ | exact Kd.S_nil _ _ _ _ _, by repeat (first | (with_reducible first | exact HB.out | apply below_alloc | apply pw_below_drewN | apply below_drew1 | refine below_set ?_ GE189.out | refine below_set ?_ GE196.out) | exact HB.out)⟩
                      · replace c21 := Bool.eq_false_iff.mpr c21
                        subst c21
                        have H1 : (some (([] : List Int), false)) = some (r1, r2) := by rw [if_neg (show ¬ (false = true) by decide)] at H; exact H
                        clear H
                        have H := H1
                        clear H1
                        simp only [Option.some.injEq, Prod.mk.injEq] at H
                        obtain ⟨rfl, rfl⟩ := H
                        have hcz54_0 : wc.cell? ⟨gb189, 0, none⟩ = some (.int .i64 ((rd_T65 l2 x9_1).f0)) := (blk_cell BK189.out 0).trans rfl
                        have hcz54_1 : wc.cell? ⟨gb189, 1, none⟩ = some (.int .i64 ((rd_T65 l2 x9_1).f1)) := (blk_cell BK189.out 1).trans rfl
                        have hfz54_0 := blk_frozen BK189.out 0
                        have hfz54_1 := blk_frozen BK189.out 1
                        obtain ⟨Ao55, co55, eo55⟩ := Kd.R_slice HO_8.out
                        subst eo55
                        have p190 : 0 ≤ (((rd_T65 l2 x9_1).f0) : Int) := of_decide_eq_true (by first | (with_reducible assumption) | assumption)
                        have q190 : ((rd_T65 l2 x9_1).f0) < (x8_1.length : Int) := of_decide_eq_true (by first | (with_reducible assumption) | assumption)
                        obtain ⟨ad190, e190, hx190_0⟩ := Kd.at_int (Kd.R_reads' HO_8.out).2.2 ((rd_T65 l2 x9_1).f0) p190 q190
                        cases e190
                        replace p190 := eq_true p190
                        replace q190 := eq_true q190
                        go_wp2_with (first | ((with_reducible refine gate_callee (f := 29) rfl ?_); refine goesL_ (some 43) rfl rfl Try.func29 (by kernel_rfl) rfl #[.int .u32 (rd x8_1 ((rd_T65 l2 x9_1).f0))] rfl (by (try simp only [List.map_toArray, List.map_cons, List.map_nil]); first | done | rfl | (simp only [List.length_drop, List.length_take]; rfl)) ?_; (with_reducible refine (dowelref01_GetIns.calls kj9 (rd x8_1 ((rd_T65 l2 x9_1).f0)) t191 t192 t193 t194 false _ A20.out).mono ?_); rintro e w56 ⟨rfl, hb⟩; refine ⟨_, rfl, ?_⟩; have n0_ := Aside0.mk (Kd.R_below (by (with_reducible repeat (first | apply Kd.R_alloc | apply Kd.R_drewN | apply Kd.R_drew)); exact HO_8.out) hb); have n1_ := Aside0.mk (blk_below (g := gb189) (o := .cells #[.int .i64 ((rd_T65 l2 x9_1).f0), .int .i64 ((rd_T65 l2 x9_1).f1)] 65 (0, 0)) (by (with_reducible repeat (first | refine blk_drewN ?_ _ | refine blk_drew ?_ | refine blk_alloc ?_ _)); exact BK189.out) hb); have n2_ := Aside0.mk (below_step (by repeat (first | (with_reducible first | exact HB.out | apply below_alloc | apply pw_below_drewN | apply below_drew1 | refine below_set ?_ GE189.out) | exact HB.out)) hb); clear HO_8; clear BK189; clear HB; have HO_8 := n0_; have BK189 := n1_; have HB := n2_; clear n0_ n1_ n2_; (try clear hb); (try clear hb2); (try clear hk); (try clear hi)) | ((with_reducible refine gate_dst (N := 11) rfl ?_); (try (refine gate_guard (by rfl) ?_; dsimp only)); refine box_event ?hg (N := 11) ?hd (cs := #[.int .i64 0, .int .i64 0, .int .i64 0, .int .i64 0]) (t := 46) ?hr ?_; (case hd => rfl); (case hg => rfl); (case hr => first | (go_simp; done) | (go_simp; rfl)); intro gb196 hg w57 hbox hb; have n0_ := Aside0.mk (Kd.R_below (by (with_reducible repeat (first | apply Kd.R_alloc | apply Kd.R_drewN | apply Kd.R_drew)); exact HO_8.out) hb); have n1_ := Aside0.mk (blk_below (g := gb189) (o := .cells #[.int .i64 ((rd_T65 l2 x9_1).f0), .int .i64 ((rd_T65 l2 x9_1).f1)] 65 (0, 0)) (by (with_reducible repeat (first | refine blk_drewN ?_ _ | refine blk_drew ?_ | refine blk_alloc ?_ _)); exact BK189.out) hb); have n2_ := Aside0.mk (below_step (by repeat (first | (with_reducible first | exact HB.out | apply below_alloc | apply pw_below_drewN | apply below_drew1 | refine below_set ?_ GE189.out) | exact HB.out)) hb); have n3_ := Aside0.mk (hbox); have n4_ := Aside0.mk ((by rw [hg]; exact (below_size (by repeat (first | (with_reducible first | exact HB.out | apply below_alloc | apply pw_below_drewN | apply below_drew1 | refine below_set ?_ GE189.out) | exact HB.out))) : w.heap.size ≤ gb196)); have n5_ := Aside0.mk ((by rw [hg]; exact (below_size (by repeat (first | (with_reducible first | exact HB.out | apply below_alloc | apply pw_below_drewN | apply below_drew1 | refine below_set ?_ GE189.out) | exact HB.out))) : w.heap.size ≤ gb196)); have n6_ := Aside0.mk ((by rw [hg]; exact Nat.ne_of_lt (blk_lt (g := gb189) (o := .cells #[.int .i64 ((rd_T65 l2 x9_1).f0), .int .i64 ((rd_T65 l2 x9_1).f1)] 65 (0, 0)) (by (with_reducible repeat (first | refine blk_drewN ?_ _ | refine blk_drew ?_ | refine blk_alloc ?_ _)); exact BK189.out)) : gb189 ≠ gb196)); have n7_ := Aside0.mk ((by rw [hg]; exact Nat.ne_of_gt (blk_lt (g := gb189) (o := .cells #[.int .i64 ((rd_T65 l2 x9_1).f0), .int .i64 ((rd_T65 l2 x9_1).f1)] 65 (0, 0)) (by (with_reducible repeat (first | refine blk_drewN ?_ _ | refine blk_drew ?_ | refine blk_alloc ?_ _)); exact BK189.out)) : gb196 ≠ gb189)); clear HO_8; clear BK189; clear HB; have HO_8 := n0_; have BK189 := n1_; have HB := n2_; have BK196 := n3_; have GW196 := n4_; have GE196 := n5_; have NB189_196 := n6_; have NB196_189 := n7_; clear n0_ n1_ n2_ n3_ n4_ n5_ n6_ n7_; clear hb hbox hg; have hnb58 := NB196_189.out; have hnc58 := NB189_196.out; have hcz59_0 : w57.cell? ⟨gb196, 0, none⟩ = some (.int .i64 0) := (blk_cell BK196.out 0).trans rfl; have hcz59_1 : w57.cell? ⟨gb196, 1, none⟩ = some (.int .i64 0) := (blk_cell BK196.out 1).trans rfl; have hcz59_2 : w57.cell? ⟨gb196, 2, none⟩ = some (.int .i64 0) := (blk_cell BK196.out 2).trans rfl; have hcz59_3 : w57.cell? ⟨gb196, 3, none⟩ = some (.int .i64 0) := (blk_cell BK196.out 3).trans rfl; have hfz59_0 := blk_frozen BK196.out 0; have hfz59_1 := blk_frozen BK196.out 1; have hfz59_2 := blk_frozen BK196.out 2; have hfz59_3 := blk_frozen BK196.out 3))
                        go_ret2
                        exact ⟨_, by first | rfl | (simp [errW_none, errW_some] <;> rfl) | (simp [*, errW_none, errW_some] <;> rfl), by first | exact Kd.R_nil _ _ _ _ _ | exact Kd.N_nil _ _ _ _ _ | exact Kd.V_nil _ _ _ _ _ | exact Kd.Q_nil _ _ _ _ _ | exact Kd.S_nil _ _ _ _ _, by repeat (first | (with_reducible first | exact HB.out | apply below_alloc | apply pw_below_drewN | apply below_drew1 | refine below_set ?_ GE189.out | refine below_set ?_ GE196.out) | exact HB.out)⟩
                    · rw [if_neg c19] at H
                      exact absurd H (by simp)
                  · rw [if_neg c18] at H
                    exact absurd H (by simp)
          · rw [if_neg c9] at H
            exact absurd H (by simp)
        · rw [if_neg c8] at H
          have c8b0 : decide (x9_1 < (l2.length : Int)) = false := decide_eq_false c8
          clear c8
          simp only [Option.some.injEq, Prod.mk.injEq] at H
          obtain ⟨rfl, rfl⟩ := H
          go_wp2
          go_ret2
          exact ⟨_, by first | rfl | (simp [errW_none, errW_some] <;> rfl) | (simp [*, errW_none, errW_some] <;> rfl), by (with_reducible repeat (first | apply Kd.R_alloc | apply Kd.R_drewN | apply Kd.R_drew)); exact HO_8.out, by repeat (first | (with_reducible first | exact HB.out | apply below_alloc | apply pw_below_drewN | apply below_drew1) | exact HB.out)⟩
  · rw [if_neg c4] at H
    exact absurd H (by simp)

end Go.Proofs.Ytnflalbiffamdaa.QRelocLinks
