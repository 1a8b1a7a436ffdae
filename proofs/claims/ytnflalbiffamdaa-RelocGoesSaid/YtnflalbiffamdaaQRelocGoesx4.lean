/- RelocGoes: the machine's side, written by a program of this workplace: for each Go function the answers that its Lean function tells. No condition but that the Lean function tells. -/
import Derived.Test.YtnflalbiffamdaaQRelocGoesx0
import Derived.Test.YtnflalbiffamdaaQRelocGoesx3
namespace Go.Proofs.Ytnflalbiffamdaa.QRelocGoes
open Go.RowKit Go.Proofs.YtnflalbiffamdaaW.PrintWords Go.Proofs.YtnflalbiffamdaaW.PrintLast Go.Proofs.YtnflalbiffamdaaW.PrintMore Go.Proofs.Ytnflalbiffamdaa.MineBase
attribute [local go_sem] max2_int min2_int max_two min_two max_three min_three max_four min_four   -- for this text's walks alone
attribute [local go_sem] Go.Proofs.Ytnflalbiffamdaa.MineErr.eql_err Go.Proofs.Ytnflalbiffamdaa.MineErr.neq_err Go.Proofs.Ytnflalbiffamdaa.MineErr.eql_nil_err Go.Proofs.Ytnflalbiffamdaa.MineErr.neq_nil_err
set_option linter.unusedVariables false
set_option linter.unusedSimpArgs false

/-! ### dowelref01_Sign: function 62 -/
def dowelref01_Sign.j0 : Nat → Int → Int → Bool → Option (Int)
  | 0, _, _, _ => none
  | k + 1, x0, x1, x11 => if x11 = true then (some 0) else ((dowelref01_Two.f k x1).bind fun t175 => (if t175 = 0 then (none) else ((dowelref01_Two.f k (wrap64 (x1 - 1))).bind fun t176 => (if (Int.tmod (wrap64 (x0)) t175) ≥ t176 then ((dowelref01_Two.f k x1).bind fun t177 => (some (wrap32 (wrap64 ((Int.tmod (wrap64 (x0)) t175) - t177))))) else (some (wrap32 (Int.tmod (wrap64 (x0)) t175)))))))
def dowelref01_Sign.f (k : Nat) (a0 : Int) (a1 : Int) : Option (Int) := if a1 < 1 then (dowelref01_Sign.j0 k a0 a1 true) else (dowelref01_Sign.j0 k a0 a1 (decide (a1 > 32)))
theorem dowelref01_Sign.mono_l : ∀ k, (∀ y0 y1 y2, LeO (dowelref01_Sign.j0 k y0 y1 y2) (dowelref01_Sign.j0 (k + 1) y0 y1 y2))
  | 0 => fun _ _ _ r h => by simp [dowelref01_Sign.j0] at h
  | k + 1 => by
    have ih0 := dowelref01_Sign.mono_l k
    · intro y0 y1 y2
      unfold dowelref01_Sign.j0
      repeat' first
      | (with_reducible exact ih0 _ _ _)
      | (with_reducible exact dowelref01_Two.mono _ _)
      | (with_reducible exact LeO.refl _)
      | (with_reducible exact LeO.none _)
      | (with_reducible refine LeO.ite ?_ ?_)
      | (with_reducible refine LeO.bind ?_ (fun _ => ?_))
      | exact ih0 _ _ _
      | exact dowelref01_Two.mono _ _
      | exact LeO.none _
      | refine LeO.ite ?_ ?_
      | refine LeO.bind ?_ (fun _ => ?_)
theorem dowelref01_Sign.mono : ∀ a0 a1 k, LeO (dowelref01_Sign.f k a0 a1) (dowelref01_Sign.f (k + 1) a0 a1) := by
  intro a0 a1 k
  have ih0 := dowelref01_Sign.mono_l k
  unfold dowelref01_Sign.f
  repeat' first
      | (with_reducible exact ih0 _ _ _)
      | (with_reducible exact dowelref01_Two.mono _ _)
      | (with_reducible exact LeO.refl _)
      | (with_reducible exact LeO.none _)
      | (with_reducible refine LeO.ite ?_ ?_)
      | (with_reducible refine LeO.bind ?_ (fun _ => ?_))
      | exact ih0 _ _ _
      | exact dowelref01_Two.mono _ _
      | exact LeO.none _
      | refine LeO.ite ?_ ?_
      | refine LeO.bind ?_ (fun _ => ?_)
set_option maxHeartbeats 8000000 in
set_option maxRecDepth 100000 in
theorem dowelref01_Sign.calls (k : Nat) (a0 : Int) (a1 : Int) (r : Int) (w : World) (h : dowelref01_Sign.f k a0 a1 = some r) :
    Calls Try.prog 62 #[.int .u32 a0, .int .i64 a1] w fun e w' => e = .returned (.int .i32 r) ∧ Drawn0 w w' := by
  have H : (if a1 < 1 then (dowelref01_Sign.j0 k a0 a1 true) else (dowelref01_Sign.j0 k a0 a1 (decide (a1 > 32)))) = some r := h
  clear h
  have HC3 := Aside0.mk H
  clear H
  go_enter Try.func62, Try.ntmps62
  go_upto_region 1 with (fail)
  go_cut [11] (fun v11 wc => ∃ (kq : Nat) (x11_2 : Bool), v11 = .bool x11_2 ∧ Aside0 (dowelref01_Sign.j0 kq a0 a1 x11_2 = some r) ∧ Aside0 (kq ≤ k) ∧ Drawn0 w wc)
  case first =>
    have H := HC3.out
    clear HC3
    by_cases c4 : a1 < 1
    · rw [if_pos c4] at H
      have c4b0 : decide (a1 < 1) = true := decide_eq_true c4
      clear c4
      (first | rw [c4b0] | (simp only [i64_w, i32_w]; rw [c4b0]) | skip)
      have H' := Aside0.mk H
      clear H
      go_wp2
      go_meet
      case rel => exact ⟨_, (true), (by first | rfl | (simp; done) | (simp [*]; done)), H', ⟨by first | omega | exact Nat.le_refl _⟩, by repeat (first | exact Drawn0.refl _ | apply Drawn0.step)⟩
    · rw [if_neg c4] at H
      have c4b0 : decide (a1 < 1) = false := decide_eq_false c4
      clear c4
      (first | rw [c4b0] | (simp only [i64_w, i32_w]; rw [c4b0]) | skip)
      have H' := Aside0.mk H
      clear H
      go_wp2
      go_meet
      case rel => exact ⟨_, (decide (a1 > 32)), (by first | rfl | (simp; done) | (simp [*]; done)), H', ⟨by first | omega | exact Nat.le_refl _⟩, by repeat (first | exact Drawn0.refl _ | apply Drawn0.step)⟩
  case rest =>
    clear HC3
    try clear p2
    try clear c4
    try clear c4b0
    obtain ⟨kq, x11_2, rfl, HA, HJ2, ⟨mc2, rfl⟩⟩ := hcut
    cases kq with
    | zero => exact absurd HA.out (by simp [dowelref01_Sign.j0])
    | succ kj2 =>
      have H := HA.out
      clear HA
      simp only [dowelref01_Sign.j0] at H
      by_cases c5 : x11_2 = true
      · subst c5
        have H1 : (some 0) = some r := by rw [if_pos rfl] at H; exact H
        clear H
        have H := H1
        clear H1
        obtain rfl := Option.some.inj H
        go_wp2
        go_ret
        exact ⟨by first | rfl | (simp; done) | (simp [*]; done), by repeat (first | exact Drawn0.refl _ | apply Drawn0.step)⟩
      · replace c5 := Bool.eq_false_iff.mpr c5
        subst c5
        have H1 : ((dowelref01_Two.f kj2 a1).bind fun t175 => (if t175 = 0 then (none) else ((dowelref01_Two.f kj2 (wrap64 (a1 - 1))).bind fun t176 => (if (Int.tmod (wrap64 (a0)) t175) ≥ t176 then ((dowelref01_Two.f kj2 a1).bind fun t177 => (some (wrap32 (wrap64 ((Int.tmod (wrap64 (a0)) t175) - t177))))) else (some (wrap32 (Int.tmod (wrap64 (a0)) t175))))))) = some r := by rw [if_neg (show ¬ (false = true) by decide)] at H; exact H
        clear H
        have H := H1
        clear H1
        replace H := Option.bind_eq_some_iff.mp H
        obtain ⟨t175, A60, H⟩ := H
        replace H : (if t175 = 0 then (none) else ((dowelref01_Two.f kj2 (wrap64 (a1 - 1))).bind fun t176 => (if (Int.tmod (wrap64 (a0)) t175) ≥ t176 then ((dowelref01_Two.f kj2 a1).bind fun t177 => (some (wrap32 (wrap64 ((Int.tmod (wrap64 (a0)) t175) - t177))))) else (some (wrap32 (Int.tmod (wrap64 (a0)) t175)))))) = some r := H
        have A6 := Aside0.mk A60
        clear A60
        by_cases c7 : t175 = 0
        · rw [if_pos c7] at H
          exact absurd H (by simp)
        · rw [if_neg c7] at H
          have c7b0 : (t175 == 0) = false := beq_eq_false_iff_ne.mpr c7
          have c7b1 : (t175 != 0) = true := bne_iff_ne.mpr c7
          replace H := Option.bind_eq_some_iff.mp H
          obtain ⟨t176, A80, H⟩ := H
          replace H : (if (Int.tmod (wrap64 (a0)) t175) ≥ t176 then ((dowelref01_Two.f kj2 a1).bind fun t177 => (some (wrap32 (wrap64 ((Int.tmod (wrap64 (a0)) t175) - t177))))) else (some (wrap32 (Int.tmod (wrap64 (a0)) t175)))) = some r := H
          have A8 := Aside0.mk A80
          clear A80
          by_cases c9 : (Int.tmod (wrap64 (a0)) t175) ≥ t176
          · rw [if_pos c9] at H
            have c9b0 : decide (t176 ≤ (Int.tmod (wrap64 (a0)) t175)) = true := decide_eq_true c9
            clear c9
            replace H := Option.bind_eq_some_iff.mp H
            obtain ⟨t177, A100, H⟩ := H
            replace H : (some (wrap32 (wrap64 ((Int.tmod (wrap64 (a0)) t175) - t177)))) = some r := H
            have A10 := Aside0.mk A100
            clear A100
            obtain rfl := Option.some.inj H
            go_wp2_with (first | ((with_reducible refine gate_callee (f := 111) rfl ?_); refine goesL_ (some 15) rfl rfl Try.func111 (by kernel_rfl) rfl #[.int .i64 a1] rfl (by (try simp only [List.map_toArray, List.map_cons, List.map_nil]); first | done | rfl | (simp only [List.length_drop, List.length_take]; rfl)) ?_; (with_reducible refine (dowelref01_Two.calls kj2 a1 t175 _ A6.out).mono ?_); rintro e w' ⟨rfl, ⟨nd, rfl⟩⟩; refine ⟨_, rfl, ?_⟩) | ((with_reducible refine gate_callee (f := 111) rfl ?_); refine goesL_ (some 20) rfl rfl Try.func111 (by kernel_rfl) rfl #[.int .i64 (wrap64 (a1 - 1))] rfl (by (try simp only [List.map_toArray, List.map_cons, List.map_nil]); first | done | rfl | (simp only [List.length_drop, List.length_take]; rfl)) ?_; (with_reducible refine (dowelref01_Two.calls kj2 (wrap64 (a1 - 1)) t176 _ A8.out).mono ?_); rintro e w' ⟨rfl, ⟨nd, rfl⟩⟩; refine ⟨_, rfl, ?_⟩) | ((with_reducible refine gate_callee (f := 111) rfl ?_); refine goesL_ (some 24) rfl rfl Try.func111 (by kernel_rfl) rfl #[.int .i64 a1] rfl (by (try simp only [List.map_toArray, List.map_cons, List.map_nil]); first | done | rfl | (simp only [List.length_drop, List.length_take]; rfl)) ?_; (with_reducible refine (dowelref01_Two.calls kj2 a1 t177 _ A10.out).mono ?_); rintro e w' ⟨rfl, ⟨nd, rfl⟩⟩; refine ⟨_, rfl, ?_⟩))
            go_ret
            exact ⟨by first | rfl | (simp; done) | (simp [*]; done), by repeat (first | exact Drawn0.refl _ | apply Drawn0.step)⟩
          · rw [if_neg c9] at H
            have c9b0 : decide (t176 ≤ (Int.tmod (wrap64 (a0)) t175)) = false := decide_eq_false c9
            clear c9
            obtain rfl := Option.some.inj H
            go_wp2_with (first | ((with_reducible refine gate_callee (f := 111) rfl ?_); refine goesL_ (some 15) rfl rfl Try.func111 (by kernel_rfl) rfl #[.int .i64 a1] rfl (by (try simp only [List.map_toArray, List.map_cons, List.map_nil]); first | done | rfl | (simp only [List.length_drop, List.length_take]; rfl)) ?_; (with_reducible refine (dowelref01_Two.calls kj2 a1 t175 _ A6.out).mono ?_); rintro e w' ⟨rfl, ⟨nd, rfl⟩⟩; refine ⟨_, rfl, ?_⟩) | ((with_reducible refine gate_callee (f := 111) rfl ?_); refine goesL_ (some 20) rfl rfl Try.func111 (by kernel_rfl) rfl #[.int .i64 (wrap64 (a1 - 1))] rfl (by (try simp only [List.map_toArray, List.map_cons, List.map_nil]); first | done | rfl | (simp only [List.length_drop, List.length_take]; rfl)) ?_; (with_reducible refine (dowelref01_Two.calls kj2 (wrap64 (a1 - 1)) t176 _ A8.out).mono ?_); rintro e w' ⟨rfl, ⟨nd, rfl⟩⟩; refine ⟨_, rfl, ?_⟩))
            go_ret
            exact ⟨by first | rfl | (simp; done) | (simp [*]; done), by repeat (first | exact Drawn0.refl _ | apply Drawn0.step)⟩

/-! ### dowelref01_GetIns: function 29 -/
def dowelref01_GetIns.f (k : Nat) (a0 : Int) : Option (Int × Int × Int × Int × Bool) := (dowelref01_Sign.f k (Int.tmod a0 262144) 18).bind fun t180 => ((dowelref01_May.f ((Int.tdiv a0 67108864) % 4294967296) (((Int.tdiv a0 4194304) % 4294967296) % 16) (((Int.tdiv a0 262144) % 4294967296) % 16) (wrap64 (t180))).bind fun t181 => (if t181 = true then (some ((Int.tdiv a0 67108864) % 4294967296, ((Int.tdiv a0 4194304) % 4294967296) % 16, ((Int.tdiv a0 262144) % 4294967296) % 16, wrap64 (t180), true)) else (some (0, 0, 0, 0, false))))
theorem dowelref01_GetIns.mono : ∀ a0 k, LeO (dowelref01_GetIns.f k a0) (dowelref01_GetIns.f (k + 1) a0) := by
  intro a0 k
  unfold dowelref01_GetIns.f
  repeat' first
      | (with_reducible exact dowelref01_Sign.mono _ _ _)
      | (with_reducible exact LeO.refl _)
      | (with_reducible exact LeO.none _)
      | (with_reducible refine LeO.ite ?_ ?_)
      | (with_reducible refine LeO.bind ?_ (fun _ => ?_))
      | exact dowelref01_Sign.mono _ _ _
      | exact LeO.none _
      | refine LeO.ite ?_ ?_
      | refine LeO.bind ?_ (fun _ => ?_)
set_option maxHeartbeats 8000000 in
set_option maxRecDepth 100000 in
theorem dowelref01_GetIns.calls (k : Nat) (a0 : Int) (r1 : Int) (r2 : Int) (r3 : Int) (r4 : Int) (r5 : Bool) (w : World) (h : dowelref01_GetIns.f k a0 = some (r1, r2, r3, r4, r5)) :
    Calls Try.prog 29 #[.int .u32 a0] w fun e w' => e = .returned (.tuple #[.agg #[.int .i64 r1, .int .i64 r2, .int .i64 r3, .int .i64 r4], .bool r5]) ∧ Below w.heap.size w w' := by
  have H := h
  clear h
  unfold dowelref01_GetIns.f at H
  obtain ⟨n_, hs0, H⟩ := Option.bind_eq_some_iff.mp H
  obtain ⟨b_, hm0, H⟩ := Option.bind_eq_some_iff.mp H
  have hs := Aside0.mk hs0
  have hm : Aside0 (dowelref01_May.f (a0.tdiv 67108864 % 4294967296) (a0.tdiv 4194304 % 16) (a0.tdiv 262144 % 16) (wrap64 n_) = some b_) := by
    refine ⟨?_⟩
    have e1 : a0.tdiv 4194304 % 4294967296 % 16 = a0.tdiv 4194304 % 16 := by omega
    have e2 : a0.tdiv 262144 % 4294967296 % 16 = a0.tdiv 262144 % 16 := by omega
    rw [e1, e2] at hm0
    exact hm0
  have H : Aside0 ((if b_ = true then (a0.tdiv 67108864 % 4294967296, a0.tdiv 4194304 % 16, a0.tdiv 262144 % 16, wrap64 n_, true) else (0, 0, 0, 0, false)) = (r1, r2, r3, r4, r5)) := by
    refine ⟨?_⟩
    have e1 : a0.tdiv 4194304 % 4294967296 % 16 = a0.tdiv 4194304 % 16 := by omega
    have e2 : a0.tdiv 262144 % 4294967296 % 16 = a0.tdiv 262144 % 16 := by omega
    rw [e1, e2] at H
    split at H <;> rename_i hb_
    · rw [if_pos hb_]; exact Option.some.inj H
    · rw [if_neg hb_]; exact Option.some.inj H
  clear hs0 hm0
  go_enter Try.func29, Try.ntmps29
  go_wp2_with fail
  refine (dowelref01_Sign.calls k _ _ n_ _ hs.out).mono ?_
  rintro e w1 ⟨rfl, nd, rfl⟩
  go_wp2_with fail
  refine calls_abs (fun W => Below w.heap.size w W ∧ blk W (w.heap.size) = some (.cells #[.int .i64 0, .int .i64 0, .int .i64 0, .int .i64 0] 46 (0, 0)) ∧ blk W (w.heap.size + 1) = some (.cells #[.int .i64 (a0.tdiv 67108864 % 4294967296), .int .i64 (a0.tdiv 4194304 % 16), .int .i64 (a0.tdiv 262144 % 16), .int .i64 (wrap64 n_)] 46 (0, 0))) ⟨?_, ?_, ?_⟩ ?_
  · repeat (first | exact Below.refl _ _ | apply below_alloc | apply pw_below_drewN | apply below_drew | (refine below_set ?_ ?_; rotate_left; (first | exact Nat.le_refl _ | (simp; done) | omega)))
  · simp [get_alloc, get_setCell, get_drewN, get_drew, objPut]
  · simp [get_alloc, get_setCell, get_drewN, get_drew, objPut]
  rintro W ⟨hB, k0, k1⟩
  refine (dowelref01_May.calls _ _ _ _ b_ _ hm.out).mono ?_
  rintro e W2 ⟨rfl, hb⟩
  have hB2 := below_step hB hb
  have k02 := get_below k0 hb
  have k12 := get_below k1 hb
  clear k0 k1 hB hb
  have c0 := get_cell k02
  have c1 := get_cell k12
  have f0 := get_frozen k02
  have f1 := get_frozen k12
  clear k12
  cases b_
  · go_wp2_with fail
    obtain ⟨rfl, rfl, rfl, rfl, rfl⟩ : 0 = r1 ∧ 0 = r2 ∧ 0 = r3 ∧ 0 = r4 ∧ false = r5 := by simpa using H.out
    refine bodyPost_ret (results_ct rfl _ _ w.heap.size 46 #[.int .i64 0, .int .i64 0, .int .i64 0, .int .i64 0] (0, 0) _ rfl (show blk _ _ = _ by simp [get_alloc, get_setCell, get_drewN, get_drew, objPut, k02]) Try.underlying46 rfl (by kernel_rfl)) rfl ⟨rfl, by repeat (first | exact Below.refl _ _ | exact hB2 | apply below_alloc | apply pw_below_drewN | apply below_drew | (refine below_set ?_ ?_; rotate_left; (first | exact Nat.le_refl _ | (simp; done) | omega)))⟩
  · go_wp2_with fail
    obtain ⟨rfl, rfl, rfl, rfl, rfl⟩ : a0.tdiv 67108864 % 4294967296 = r1 ∧ a0.tdiv 4194304 % 16 = r2 ∧ a0.tdiv 262144 % 16 = r3 ∧ wrap64 n_ = r4 ∧ true = r5 := by simpa using H.out
    refine bodyPost_ret (results_ct rfl _ _ w.heap.size 46 #[.int .i64 (a0.tdiv 67108864 % 4294967296), .int .i64 (a0.tdiv 4194304 % 16), .int .i64 (a0.tdiv 262144 % 16), .int .i64 (wrap64 n_)] (0, 0) _ rfl (show blk _ _ = _ by simp [get_alloc, get_setCell, get_drewN, get_drew, objPut, k02]) Try.underlying46 rfl (by kernel_rfl)) rfl ⟨rfl, by repeat (first | exact Below.refl _ _ | exact hB2 | apply below_alloc | apply pw_below_drewN | apply below_drew | (refine below_set ?_ ?_; rotate_left; (first | exact Nat.le_refl _ | (simp; done) | omega)))⟩


end Go.Proofs.Ytnflalbiffamdaa.QRelocGoes
