/- HeapPlays: the machine's side, written by a program of this workplace: for each Go function the answers that its Lean function tells. No condition but that the Lean function tells. -/
import Derived.Test.YtkeijpngfnmjoaaQHeapPlaysx0
namespace Go.Proofs.Ytkeijpngfnmjoaa.QHeapPlays
open Go.RowKit Go.Proofs.YtkeijpngfnmjoaaW.PrintWords Go.Proofs.YtkeijpngfnmjoaaW.PrintLast Go.Proofs.YtkeijpngfnmjoaaW.PrintMore Go.Proofs.Ytkeijpngfnmjoaa.MineBase
attribute [local go_sem] max2_int min2_int max_two min_two max_three min_three max_four min_four   -- for this text's walks alone
attribute [local go_sem] Go.Proofs.Ytkeijpngfnmjoaa.MineErr.eql_err Go.Proofs.Ytkeijpngfnmjoaa.MineErr.neq_err Go.Proofs.Ytkeijpngfnmjoaa.MineErr.eql_nil_err Go.Proofs.Ytkeijpngfnmjoaa.MineErr.neq_nil_err
set_option linter.unusedVariables false
set_option linter.unusedSimpArgs false

/-! ### dowellaw05_as: function 30 -/
def dowellaw05_as.l0 : Nat → List (S118) → List (S129) → Int → Option ((List (S129)))
  | 0, _, _, _ => none
  | k + 1, x0, x3, x4 => if x4 < (x0.length : Int) then (if 0 ≤ x4 then (if x3.length < 8796093022208 then (dowellaw05_as.l0 k x0 (x3 ++ [(⟨(rd_T118 x0 x4).f0, (rd_T118 x0 x4).f1⟩ : S129)]) (wrap64 (x4 + 1))) else (none)) else (none)) else (some x3)
def dowellaw05_as.f (k : Nat) (l0 : List (S118)) : Option ((List (S129))) := dowellaw05_as.l0 k l0 ([] : List (S129)) 0
theorem dowellaw05_as.mono_l : ∀ k, (∀ y0 y1 y2, LeO (dowellaw05_as.l0 k y0 y1 y2) (dowellaw05_as.l0 (k + 1) y0 y1 y2))
  | 0 => fun _ _ _ r h => by simp [dowellaw05_as.l0] at h
  | k + 1 => by
    have ih0 := dowellaw05_as.mono_l k
    · intro y0 y1 y2
      unfold dowellaw05_as.l0
      repeat' first
      | (with_reducible exact ih0 _ _ _)
      | (with_reducible exact LeO.refl _)
      | (with_reducible exact LeO.none _)
      | (with_reducible refine LeO.ite ?_ ?_)
      | (with_reducible refine LeO.bind ?_ (fun _ => ?_))
      | exact ih0 _ _ _
      | exact LeO.none _
      | refine LeO.ite ?_ ?_
      | refine LeO.bind ?_ (fun _ => ?_)
theorem dowellaw05_as.mono : ∀ a0 k, LeO (dowellaw05_as.f k a0) (dowellaw05_as.f (k + 1) a0) := by
  intro a0 k
  have ih0 := dowellaw05_as.mono_l k
  unfold dowellaw05_as.f
  repeat' first
      | (with_reducible exact ih0 _ _ _)
      | (with_reducible exact LeO.refl _)
      | (with_reducible exact LeO.none _)
      | (with_reducible refine LeO.ite ?_ ?_)
      | (with_reducible refine LeO.bind ?_ (fun _ => ?_))
      | exact ih0 _ _ _
      | exact LeO.none _
      | refine LeO.ite ?_ ?_
      | refine LeO.bind ?_ (fun _ => ?_)
def dowellaw05_as.T5 : Bool × List (List Nat × List Nat) := (true, [([], []), ([], []), ([], []), ([1, 2], [1, 2]), ([3], [3]), ([4], [4]), ([], []), ([], []), ([6, 7], [6, 7]), ([8], [8]), ([9], [9]), ([5, 10], [5, 10]), ([11], [11]), ([0, 12], [0, 12]), ([13, 13, 0, 1, 2, 3, 4, 5, 6, 7, 8, 9, 10, 11, 12, 13], [0, 13])])
def dowellaw05_as.B5 : List Nat := [0, 0, 0, 6, 14, 30, 0, 0, 192, 448, 960, 2046, 4094, 8191, 16383]
theorem dowellaw05_as.tab5 : rtab .any (opsOf Try.f30 5) = dowellaw05_as.T5 := by kernel_rfl
theorem dowellaw05_as.bits5 : waitsOk dowellaw05_as.T5.2 dowellaw05_as.B5 = true := by kernel_rfl
set_option maxHeartbeats 8000000 in
set_option maxRecDepth 100000 in
theorem dowellaw05_as.calls (k : Nat) (A0 : Option Addr) (c0 : Nat) (l0 : List (S118)) (r : List (S129)) (w : World) (hr0 : Kd.C k118 w A0 l0.length l0) (hc0 : l0.length ≤ c0) (h : dowellaw05_as.f k l0 = some r) :
    Calls Try.prog 30 #[.slice A0 l0.length c0] w fun e w' => ∃ v0_ : Value, e = .returned (v0_) ∧ Kd.R k129 129 w' w.heap.size (fun _ => True) v0_ r ∧ Below w.heap.size w w' := by
  have hu129 := Try.underlying129
  have HR0 := Aside0.mk hr0
  have HC0 := Aside0.mk hc0
  clear hr0 hc0
  have HB := Aside0.mk (Below.refl w.heap.size w)
  have H : (dowellaw05_as.l0 k l0 ([] : List (S129)) 0) = some r := h
  clear h
  have H' := Aside0.mk H
  clear H
  go_enter Try.func30, Try.ntmps30
  go_wp2
  go_loopg [3, 4] k (fun kq v3 v4 w' => ∃ (x3_1 : List (S129)) (x4_1 : Int), v4 = .int .i64 x4_1 ∧ Aside0 (dowellaw05_as.l0 kq l0 x3_1 x4_1 = some r) ∧ Aside0 (kq ≤ k) ∧ Aside0 (Kd.R k129 129 w' w.heap.size (fun _ => True) v3 x3_1) ∧ Aside0 (Below w.heap.size w w'))
  case atStart => exact ⟨(([] : List (S129))), (0), (by first | rfl | (simp; done) | (simp [*]; done)), H', ⟨Nat.le_refl _⟩, ⟨by first | exact Kd.R_nil _ _ _ _ _ | exact Kd.N_nil _ _ _ _ _ | exact Kd.V_nil _ _ _ _ _ | exact Kd.Q_nil _ _ _ _ _ | exact Kd.S_nil _ _ _ _ _⟩, ⟨by repeat (first | (with_reducible first | exact HB.out | apply below_alloc | apply pw_below_drewN | apply below_drew1) | exact HB.out)⟩⟩
  case round =>
    clear H'
    obtain ⟨x3_1, x4_1, rfl, HA, HK1, HO_3, HB⟩ := hrel
    cases gk with
    | zero => exact absurd HA.out (by simp [dowellaw05_as.l0])
    | succ k1 =>
      have H := HA.out
      clear HA
      simp only [dowellaw05_as.l0] at H
      by_cases c2 : x4_1 < (l0.length : Int)
      · rw [if_pos c2] at H
        have c2b0 : decide (x4_1 < (l0.length : Int)) = true := decide_eq_true c2
        clear c2
        by_cases c3 : 0 ≤ x4_1
        · rw [if_pos c3] at H
          have c3b0 : decide (0 ≤ x4_1) = true := decide_eq_true c3
          clear c3
          by_cases c4 : x3_1.length < 8796093022208
          · rw [if_pos c4] at H
            have LMc4 := Aside0.mk c4
            clear c4
            obtain ⟨y137, hy137⟩ : ∃ y_ : List (S129), y_ = (x3_1 ++ [(⟨(rd_T118 l0 x4_1).f0, (rd_T118 l0 x4_1).f1⟩ : S129)]) := ⟨_, rfl⟩
            replace H : (dowellaw05_as.l0 k1 l0 y137 (wrap64 (x4_1 + 1))) = some r := by first | (rw [hy137]; with_reducible exact H) | (have H2_ := (Option.bind_some _ _).symm.trans H; rw [hy137]; with_reducible exact H2_) | (have H2_ := (Option.bind_some _ _).symm.trans H; with_reducible exact H2_) | with_reducible exact H | (rw [hy137]; exact H) | exact H
            have Ny137 := Aside0.mk hy137
            clear hy137
            have H' := Aside0.mk H
            clear H
            try go_wp2
            have n0_ := Aside0.mk (Kd.R_drew HO_3.out)
            have n1_ := Aside0.mk (below_drew1 HB.out)
            clear HO_3
            clear HB
            have HO_3 := n0_
            have HB := n1_
            clear n0_ n1_
            have p135 : 0 ≤ (x4_1 : Int) := of_decide_eq_true (by first | (with_reducible assumption) | assumption)
            have q135 : x4_1 < (l0.length : Int) := of_decide_eq_true (by first | (with_reducible assumption) | assumption)
            obtain ⟨ad135, e135, hx135_0, hx135_1⟩ := at_T118 HR0.out x4_1 p135 q135
            have hw135_1 := hx135_1
            have hw135_0 := hx135_0
            cases e135
            replace hx135_0 := (HB.out.cell (World.block_lt_of_cell? w _ hx135_0)).trans hx135_0
            replace hx135_1 := (HB.out.cell (World.block_lt_of_cell? w _ hx135_1)).trans hx135_1
            replace p135 := eq_true p135
            replace q135 := eq_true q135
            have p136 : 0 ≤ (x4_1 : Int) := of_decide_eq_true (by first | (with_reducible assumption) | assumption)
            have q136 : x4_1 < (l0.length : Int) := of_decide_eq_true (by first | (with_reducible assumption) | assumption)
            obtain ⟨ad136, e136, hx136_0, hx136_1⟩ := at_T118 HR0.out x4_1 p136 q136
            have hw136_1 := hx136_1
            have hw136_0 := hx136_0
            obtain rfl : ad135 = ad136 := (by injection e136)
            replace hx136_0 := (HB.out.cell (World.block_lt_of_cell? w _ hx136_0)).trans hx136_0
            replace hx136_1 := (HB.out.cell (World.block_lt_of_cell? w _ hx136_1)).trans hx136_1
            replace p136 := eq_true p136
            replace q136 := eq_true q136
            refine start_ (n := 15) (S := fun w' => w'.cell? (ad135.add ((x4_1).toNat * 2)) = some (.int .i64 ((rd_T118 l0 x4_1).f0)) ∧ w'.cell? ⟨(ad135.add ((x4_1).toNat * 2)).block, (ad135.add ((x4_1).toNat * 2)).off + 1, none⟩ = some (.int .i64 ((rd_T118 l0 x4_1).f1)) ∧ w'.cell? (ad135.add ((x4_1).toNat * 2)) = some (.int .i64 ((rd_T118 l0 x4_1).f0)) ∧ w'.cell? ⟨(ad135.add ((x4_1).toNat * 2)).block, (ad135.add ((x4_1).toNat * 2)).off + 1, none⟩ = some (.int .i64 ((rd_T118 l0 x4_1).f1))) (ds := []) #[false, false, false, false, false, false, false, false, false, false, false, false, false, false, false] (by kernel_rfl) rfl rfl ⟨((HB.out.cell (World.block_lt_of_cell? w _ hw135_0)).trans hw135_0), ((HB.out.cell (World.block_lt_of_cell? w _ hw135_1)).trans hw135_1), ((HB.out.cell (World.block_lt_of_cell? w _ hw136_0)).trans hw136_0), ((HB.out.cell (World.block_lt_of_cell? w _ hw136_1)).trans hw136_1)⟩ (fun hHeld => ?_); refine with_tabW dowellaw05_as.tab5 dowellaw05_as.bits5 (fun HT_ HW_ => ?_)
            generalize wr.drew = w5 at HO_3 HB hx135_0 hx135_1 hx136_0 hx136_1 hHeld ⊢
            refine pure_ (i := 0) (N := some 11) (v := ?_) (a' := ?_) #[true, false, false, false, false, false, false, false, false, false, false, false, false, false, false] rfl rfl (any_of HT_.out (by kernel_rfl)) (fun _ _ _ h => h) (Or.inl ⟨by rfl, ?_⟩) ?_ ?_
            rotate_left
            · intro w'
              go_simp
              with_reducible rfl
            rotate_left
            · simp only [Act.put, List.setIfInBounds_toArray, List.set_cons_zero, List.set_cons_succ, i64_w, i32_w]
              rfl
            refine pure_ (i := 1) (N := some 12) (v := ?_) (a' := ?_) #[true, true, false, false, false, false, false, false, false, false, false, false, false, false, false] rfl rfl (any_of HT_.out (by kernel_rfl)) (fun _ _ _ h => h) (Or.inl ⟨by rfl, ?_⟩) ?_ ?_
            rotate_left
            · intro w'
              go_simp
              with_reducible rfl
            rotate_left
            · simp only [Act.put, List.setIfInBounds_toArray, List.set_cons_zero, List.set_cons_succ, i64_w, i32_w]
              rfl
            refine pure_ (i := 2) (N := some 13) (v := ?_) (a' := ?_) #[true, true, true, false, false, false, false, false, false, false, false, false, false, false, false] rfl rfl (any_of HT_.out (by kernel_rfl)) (fun _ _ _ h => h) (Or.inl ⟨by rfl, ?_⟩) ?_ ?_
            rotate_left
            · intro w'
              go_simp
              with_reducible rfl
            rotate_left
            · simp only [Act.put, List.setIfInBounds_toArray, List.set_cons_zero, List.set_cons_succ, i64_w, i32_w]
              rfl
            refine pure_ (i := 3) (N := some 14) (v := ?_) (a' := ?_) #[true, true, true, true, false, false, false, false, false, false, false, false, false, false, false] rfl rfl (any_of HT_.out (by kernel_rfl)) (fun _ _ _ h => h) (Or.inl ⟨by rfl, ?_⟩) ?_ ?_
            rotate_left
            · intro w'
              go_simp
              with_reducible rfl
            rotate_left
            · simp only [Act.put, List.setIfInBounds_toArray, List.set_cons_zero, List.set_cons_succ, i64_w, i32_w]
              rfl
            refine pure_ (i := 4) (N := some 15) (v := ?_) (a' := ?_) #[true, true, true, true, true, false, false, false, false, false, false, false, false, false, false] rfl rfl (any_of HT_.out (by kernel_rfl)) (fun _ _ _ h => h) (Or.inl ⟨by rfl, ?_⟩) ?_ ?_
            rotate_left
            · intro w'
              go_simp
              with_reducible rfl
            rotate_left
            · simp only [Act.put, List.setIfInBounds_toArray, List.set_cons_zero, List.set_cons_succ, i64_w, i32_w]
              rfl
            refine pure_ (i := 6) (N := some 17) (v := ?_) (a' := ?_) #[true, true, true, true, true, false, true, false, false, false, false, false, false, false, false] rfl rfl (any_of HT_.out (by kernel_rfl)) (fun _ _ _ h => h) (Or.inl ⟨by rfl, ?_⟩) ?_ ?_
            rotate_left
            · intro w'
              go_simp
              with_reducible rfl
            rotate_left
            · simp only [Act.put, List.setIfInBounds_toArray, List.set_cons_zero, List.set_cons_succ, i64_w, i32_w]
              rfl
            refine pure_ (i := 7) (N := some 18) (v := ?_) (a' := ?_) #[true, true, true, true, true, false, true, true, false, false, false, false, false, false, false] rfl rfl (any_of HT_.out (by kernel_rfl)) (fun _ _ _ h => h) (Or.inl ⟨by rfl, ?_⟩) ?_ ?_
            rotate_left
            · intro w'
              go_simp
              with_reducible rfl
            rotate_left
            · simp only [Act.put, List.setIfInBounds_toArray, List.set_cons_zero, List.set_cons_succ, i64_w, i32_w]
              rfl
            refine pure_ (i := 8) (N := some 19) (v := ?_) (a' := ?_) #[true, true, true, true, true, false, true, true, true, false, false, false, false, false, false] rfl rfl (any_of HT_.out (by kernel_rfl)) (fun _ _ _ h => h) (Or.inl ⟨by rfl, ?_⟩) ?_ ?_
            rotate_left
            · intro w'
              go_simp
              with_reducible rfl
            rotate_left
            · simp only [Act.put, List.setIfInBounds_toArray, List.set_cons_zero, List.set_cons_succ, i64_w, i32_w]
              rfl
            refine pure_ (i := 9) (N := some 20) (v := ?_) (a' := ?_) #[true, true, true, true, true, false, true, true, true, true, false, false, false, false, false] rfl rfl (any_of HT_.out (by kernel_rfl)) (fun _ _ _ h => h) (Or.inl ⟨by rfl, ?_⟩) ?_ ?_
            rotate_left
            · intro w'
              go_simp
              with_reducible rfl
            rotate_left
            · simp only [Act.put, List.setIfInBounds_toArray, List.set_cons_zero, List.set_cons_succ, i64_w, i32_w]
              rfl
            refine take_ (i := 5) (N := some 16) (v := ?_) (a' := ?_) #[true, true, true, true, true, true, true, true, true, true, false, false, false, false, false] rfl rfl (take_ofW HT_.out HW_.out (by kernel_rfl)) (fun _ _ _ h => h) (Or.inl ⟨by rfl, ?_⟩) hHeld ?_ ?_
            rotate_left
            · rintro w' ⟨s0, s1, s2, s3⟩
              go_simp
              with_reducible rfl
            rotate_left
            · simp only [Act.put, List.setIfInBounds_toArray, List.set_cons_zero, List.set_cons_succ, i64_w, i32_w]
              rfl
            refine take_ (i := 10) (N := some 21) (v := ?_) (a' := ?_) #[true, true, true, true, true, true, true, true, true, true, true, false, false, false, false] rfl rfl (take_ofW HT_.out HW_.out (by kernel_rfl)) (fun _ _ _ h => h) (Or.inl ⟨by rfl, ?_⟩) hHeld ?_ ?_
            rotate_left
            · rintro w' ⟨s0, s1, s2, s3⟩
              go_simp
              with_reducible rfl
            rotate_left
            · simp only [Act.put, List.setIfInBounds_toArray, List.set_cons_zero, List.set_cons_succ, i64_w, i32_w]
              rfl
            refine pure_ (i := 11) (N := some 22) (v := ?_) (a' := ?_) #[true, true, true, true, true, true, true, true, true, true, true, true, false, false, false] rfl rfl (any_of HT_.out (by kernel_rfl)) (fun _ _ _ h => h) (Or.inl ⟨by rfl, ?_⟩) ?_ ?_
            rotate_left
            · intro w'
              go_simp
              with_reducible rfl
            rotate_left
            · simp only [Act.put, List.setIfInBounds_toArray, List.set_cons_zero, List.set_cons_succ, i64_w, i32_w]
              rfl
            refine one_ (i := 12) (N := some 23) #[true, true, true, true, true, true, true, true, true, true, true, true, true, false, false] rfl rfl (one_of HT_.out (by kernel_rfl)) (by decide) (fun K hK => ?_)
            refine value_ (w1 := ?_) (v := ?_) (by rfl) rfl ?_ ?_
            rotate_left 2
            · go_simp
              constructor
              · rfl
              · rfl
            refine hK.out _ _ ⟨(World.cell?_alloc_lt _ _ _ (World.block_lt_of_cell? _ _ (((HB.out.cell (World.block_lt_of_cell? w _ hw135_0)).trans hw135_0)))).trans (((HB.out.cell (World.block_lt_of_cell? w _ hw135_0)).trans hw135_0)), (World.cell?_alloc_lt _ _ _ (World.block_lt_of_cell? _ _ (((HB.out.cell (World.block_lt_of_cell? w _ hw135_1)).trans hw135_1)))).trans (((HB.out.cell (World.block_lt_of_cell? w _ hw135_1)).trans hw135_1)), (World.cell?_alloc_lt _ _ _ (World.block_lt_of_cell? _ _ (((HB.out.cell (World.block_lt_of_cell? w _ hw136_0)).trans hw136_0)))).trans (((HB.out.cell (World.block_lt_of_cell? w _ hw136_0)).trans hw136_0)), (World.cell?_alloc_lt _ _ _ (World.block_lt_of_cell? _ _ (((HB.out.cell (World.block_lt_of_cell? w _ hw136_1)).trans hw136_1)))).trans (((HB.out.cell (World.block_lt_of_cell? w _ hw136_1)).trans hw136_1))⟩ (fun hHeld => ?_)
            clear hK K
            refine norm_ (a' := ?_) ?_ ?_
            rotate_left
            · show Act.put _ (some 23) _ = _
              simp only [Act.put, List.setIfInBounds_toArray, List.set_cons_zero, List.set_cons_succ, i64_w, i32_w]
              rfl
            refine one_ (i := 13) (N := some 24) #[true, true, true, true, true, true, true, true, true, true, true, true, true, true, false] rfl rfl (one_of HT_.out (by kernel_rfl)) (by decide) (fun K hK => ?_)
            refine Kd.R_append_step k129 (w0 := w) w.heap.size (by rfl) (.tmp 11) (.tmp 23) 61 129 (.agg #[(.int .i64 0), (.int .i64 0)]) 16 rfl Try.underlying61 info129 rfl (by decide) (by omega) u3 x3_1 (⟨(rd_T118 l0 x4_1).f0, (rd_T118 l0 x4_1).f1⟩ : S129) [.int .i64 ((rd_T118 l0 x4_1).f0), .int .i64 ((rd_T118 l0 x4_1).f1)] (fun _ => True) (fun _ => False) rfl rfl ?aP (fun _ hk => hk.elim) ?aF ?aO ?aB ?aS ?aL ?_
            (case aP => exact k129_mkM _ _ _ (⟨(rd_T118 l0 x4_1).f0, (rd_T118 l0 x4_1).f1⟩ : S129))
            (case aB => exact (by repeat (first | (with_reducible first | exact HB.out | apply below_alloc | apply pw_below_drewN | apply below_drew1) | exact HB.out)))
            (case aF => exact (fun _ _ => trivial))
            (case aO => exact (by (with_reducible repeat (first | apply Kd.R_alloc | apply Kd.R_drewN | apply Kd.R_drew)); exact HO_3.out))
            (case aS => exact (below_size (by repeat (first | (with_reducible first | exact HB.out | apply below_alloc | apply pw_below_drewN | apply below_drew1) | exact HB.out))))
            (case aL => have := LMc4.out; omega)
            intro v138 w6 ho hb hg hat
            rw [← Ny137.out] at ho
            have n0_ := Aside0.mk (hb)
            have n1_ := Aside0.mk (ho)
            clear HB
            clear HO_3
            have HB := n0_
            have HO139 := n1_
            clear n0_ n1_
            clear ho hb hg hat
            refine hK.out _ _ ⟨((HB.out.cell (World.block_lt_of_cell? w _ hw135_0)).trans hw135_0), ((HB.out.cell (World.block_lt_of_cell? w _ hw135_1)).trans hw135_1), ((HB.out.cell (World.block_lt_of_cell? w _ hw136_0)).trans hw136_0), ((HB.out.cell (World.block_lt_of_cell? w _ hw136_1)).trans hw136_1)⟩ (fun hHeld => ?_)
            clear hK K
            refine norm_ (a' := ?_) ?_ ?_
            rotate_left
            · show Act.put _ (some 24) _ = _
              simp only [Act.put, List.setIfInBounds_toArray, List.set_cons_zero, List.set_cons_succ, i64_w, i32_w]
              rfl
            refine pure_ (i := 14) (N := some 3) (v := ?_) (a' := ?_) #[true, true, true, true, true, true, true, true, true, true, true, true, true, true, true] rfl rfl (any_of HT_.out (by kernel_rfl)) (fun _ _ _ h => h) (Or.inl ⟨by rfl, ?_⟩) ?_ ?_
            rotate_left
            · intro w'
              go_simp
              with_reducible rfl
            rotate_left
            · simp only [Act.put, List.setIfInBounds_toArray, List.set_cons_zero, List.set_cons_succ, i64_w, i32_w]
              rfl
            refine done_ (done_of HT_.out (by kernel_rfl)) ?_
            try go_wp2
            go_roundg k1
            case measure => have := HK1.out; omega
            case rel => exact ⟨(y137), (wrap64 (x4_1 + 1)), (by first | rfl | (simp; done) | (simp [*]; done)), H', ⟨by have := HK1.out; omega⟩, ⟨by (with_reducible repeat (first | apply Kd.R_alloc | apply Kd.R_drewN | apply Kd.R_drew)); exact HO139.out⟩, ⟨by repeat (first | (with_reducible first | exact HB.out | apply below_alloc | apply pw_below_drewN | apply below_drew1) | exact HB.out)⟩⟩
          · rw [if_neg c4] at H
            exact absurd H (by simp)
        · rw [if_neg c3] at H
          exact absurd H (by simp)
      · rw [if_neg c2] at H
        have c2b0 : decide (x4_1 < (l0.length : Int)) = false := decide_eq_false c2
        clear c2
        obtain rfl := Option.some.inj H
        go_wp2
        go_ret
        exact ⟨_, by first | rfl | (simp [errW_none, errW_some] <;> rfl) | (simp [*, errW_none, errW_some] <;> rfl), by (with_reducible repeat (first | apply Kd.R_alloc | apply Kd.R_drewN | apply Kd.R_drew)); exact HO_3.out, by repeat (first | (with_reducible first | exact HB.out | apply below_alloc | apply pw_below_drewN | apply below_drew1) | exact HB.out)⟩

/-- A state of type 121 at block g of W; what its slices lead to came in by w0. -/
def IsS121 (w0 W : World) (g : Nat) (f0 : Int) (f1 : Int) (f2 : List Bool) : Prop := ∃ A2 c2, W.heap[g]? = some (.cells #[.int .i64 f0, .int .i64 f1, .slice A2 f2.length c2] 121 (0, 0)) ∧ w0.heap.size ≤ g ∧ Kd.C Kd.bool w0 A2 f2.length f2
theorem IsS121.grown {w0 W : World} {g : Nat} {f0 : Int} {f1 : Int} {f2 : List Bool} {W1 : World} {row : Option Nat} (h : IsS121 w0 W g f0 f1 f2) (hw : W.grownBy W1 row) (hne : some g ≠ row) : IsS121 w0 W1 g f0 f1 f2 := by
  obtain ⟨A2, c2, hb, hg, hr2⟩ := h
  exact ⟨A2, c2, blk_grown hb hw hne, hg, hr2⟩
theorem IsS121.own_neN {w0 W : World} {g : Nat} {f0 : Int} {f1 : Int} {f2 : List Bool} {α : Type} {d : Kd α} {e : Nat} {base : Nat} {ok : Nat → Prop} {v : Value} {xs : List α} (h : IsS121 w0 W g f0 f1 f2) (ho : Kd.N d e W base ok v xs) (ht : e ≠ 121) : some g ≠ v.ownBlock := by
  obtain ⟨A2, c2, hb, hg, hr2⟩ := h
  exact Kd.N_ne ho hb ht
theorem IsS121.fresh {w0 W : World} {g : Nat} {f0 : Int} {f1 : Int} {f2 : List Bool} (h : IsS121 w0 W g f0 f1 f2) : ∀ k, W.heap.size ≤ k → k ≠ g := by
  obtain ⟨A2, c2, hb, hg, hr2⟩ := h
  exact Kd.freshB hb
theorem IsS121.kept {w0 W : World} {g : Nat} {f0 : Int} {f1 : Int} {f2 : List Bool} {W1 : World} {S : Nat → Prop} (h : IsS121 w0 W g f0 f1 f2) (hk : Kept W W1 S) (hne : ¬ S g) : IsS121 w0 W1 g f0 f1 f2 := by
  obtain ⟨A2, c2, hb, hg, hr2⟩ := h
  exact ⟨A2, c2, blk_kept hb hk hne, hg, hr2⟩
theorem IsS121.below {w0 W : World} {g : Nat} {f0 : Int} {f1 : Int} {f2 : List Bool} {W1 : World} (h : IsS121 w0 W g f0 f1 f2) (hw : Below W.heap.size W W1) : IsS121 w0 W1 g f0 f1 f2 := h.grown (grown_of_below hw none) (by simp)
theorem IsS121.alloc {w0 W : World} {g : Nat} {f0 : Int} {f1 : Int} {f2 : List Bool} (h : IsS121 w0 W g f0 f1 f2) (o : Obj) : IsS121 w0 (W.alloc o) g f0 f1 f2 := h.below (below_alloc (Below.refl _ _) o)
theorem IsS121.drewN {w0 W : World} {g : Nat} {f0 : Int} {f1 : Int} {f2 : List Bool} (h : IsS121 w0 W g f0 f1 f2) (m : Nat) : IsS121 w0 (W.drewN m) g f0 f1 f2 := h
theorem IsS121.drew {w0 W : World} {g : Nat} {f0 : Int} {f1 : Int} {f2 : List Bool} (h : IsS121 w0 W g f0 f1 f2) : IsS121 w0 W.drew g f0 f1 f2 := h
theorem IsS121.at_ {w0 W : World} {g : Nat} {f0 : Int} {f1 : Int} {f2 : List Bool} {w' : World} {m : Nat} (hq : W.drewN m = w') (h : IsS121 w0 W g f0 f1 f2) : IsS121 w0 w' g f0 f1 f2 := by subst hq; exact IsS121.drewN h m
theorem IsS121.apart {w0 W : World} {g : Nat} {f0 : Int} {f1 : Int} {f2 : List Bool} {α : Type} {d : Kd α} {e : Nat} {base : Nat} {ok : Nat → Prop} {v : Value} {xs : List α} (h : IsS121 w0 W g f0 f1 f2) (ho : d.R e W base ok v xs) (ht : ∀ q, q ∈ e :: d.E → q ≠ 121) : d.R e W base (fun k => ok k ∧ k ≠ g) v xs := by
  obtain ⟨A2, c2, hb, hg, hr2⟩ := h
  exact Kd.R_types ho hb ht
theorem IsS121.own_ne {w0 W : World} {g : Nat} {f0 : Int} {f1 : Int} {f2 : List Bool} {α : Type} {d : Kd α} {e : Nat} {base : Nat} {ok : Nat → Prop} {v : Value} {xs : List α} (h : IsS121 w0 W g f0 f1 f2) (ho : d.R e W base ok v xs) (ht : e ≠ 121) : some g ≠ v.ownBlock := by
  obtain ⟨A2, c2, hb, hg, hr2⟩ := h
  exact Kd.R_ne ho hb ht
theorem IsS121.apartQ {w0 W : World} {g : Nat} {f0 : Int} {f1 : Int} {f2 : List Bool} {α : Type} {d : Kd α} {e : Nat} {base : Nat} {ok : Nat → Prop} {v : Value} {xs : List α} (h : IsS121 w0 W g f0 f1 f2) (ho : d.Q e W base ok v xs) (ht : ∀ q, q ∈ e :: d.E → q ≠ 121) : d.Q e W base (fun k => ok k ∧ k ≠ g) v xs := by
  obtain ⟨A2, c2, hb, hg, hr2⟩ := h
  exact Kd.Q_types ho hb ht
theorem IsS121.own_neQ {w0 W : World} {g : Nat} {f0 : Int} {f1 : Int} {f2 : List Bool} {α : Type} {d : Kd α} {e : Nat} {base : Nat} {ok : Nat → Prop} {v : Value} {xs : List α} (h : IsS121 w0 W g f0 f1 f2) (ho : d.Q e W base ok v xs) (ht : e ≠ 121) : some g ≠ v.ownBlock := by
  obtain ⟨A2, c2, hb, hg, hr2⟩ := h
  exact Kd.Q_ne ho hb ht
theorem IsS121.apartS {w0 W : World} {g : Nat} {f0 : Int} {f1 : Int} {f2 : List Bool} {α : Type} {d : Kd α} {e : Nat} {base : Nat} {ok : Nat → Prop} {v : Value} {xs : List α} (h : IsS121 w0 W g f0 f1 f2) (ho : d.S e W base ok v xs) (ht : ∀ q, q ∈ e :: d.E → q ≠ 121) : d.S e W base (fun k => ok k ∧ k ≠ g) v xs := by
  obtain ⟨A2, c2, hb, hg, hr2⟩ := h
  exact Kd.S_types ho hb ht
theorem IsS121.own_neS {w0 W : World} {g : Nat} {f0 : Int} {f1 : Int} {f2 : List Bool} {α : Type} {d : Kd α} {e : Nat} {base : Nat} {ok : Nat → Prop} {v : Value} {xs : List α} (h : IsS121 w0 W g f0 f1 f2) (ho : d.S e W base ok v xs) (ht : e ≠ 121) : some g ≠ v.ownBlock := by
  obtain ⟨A2, c2, hb, hg, hr2⟩ := h
  exact Kd.S_ne ho hb ht
theorem IsS121.lt {w0 W : World} {g : Nat} {f0 : Int} {f1 : Int} {f2 : List Bool} (h : IsS121 w0 W g f0 f1 f2) : g < W.heap.size := by
  obtain ⟨A2, c2, hb, hg, hr2⟩ := h
  exact blk_lt hb
theorem IsS121.ge {w0 W : World} {g : Nat} {f0 : Int} {f1 : Int} {f2 : List Bool} (h : IsS121 w0 W g f0 f1 f2) : w0.heap.size ≤ g := by
  obtain ⟨A2, c2, hb, hg, hr2⟩ := h
  exact hg
theorem IsS121.ne_blk {w0 W : World} {g : Nat} {f0 : Int} {f1 : Int} {f2 : List Bool} {a : Nat} {cs : Array Value} {t : TypeId} {fr : Nat × Nat} (h : IsS121 w0 W g f0 f1 f2) (hb2 : W.heap[a]? = some (.cells cs t fr)) (ht : t ≠ 121) : g ≠ a := by
  obtain ⟨A2, c2, hb, hg, hr2⟩ := h
  rintro rfl
  rw [hb] at hb2
  injection hb2 with hb2
  injection hb2 with _ ht2
  exact ht ht2.symm
theorem IsS121.far {w0 W : World} {g : Nat} {f0 : Int} {f1 : Int} {f2 : List Bool} {p : Addr} (h : IsS121 w0 W g f0 f1 f2) (hne : g ≠ p.block) (u : Value) : IsS121 w0 (W.setCell p u) g f0 f1 f2 := by
  obtain ⟨A2, c2, hb, hg, hr2⟩ := h
  exact ⟨A2, c2, blk_far hb hne u, hg, hr2⟩
theorem cellS121_0 {W : World} {g : Nat} {A2 : Option Addr} {c2 : Nat} {f0 : Int} {f1 : Int} {f2 : List Bool} (h : W.heap[g]? = some (.cells #[.int .i64 f0, .int .i64 f1, .slice A2 f2.length c2] 121 (0, 0))) : W.cell? ⟨g, 0, none⟩ = some (.int .i64 f0) := (blk_cell h 0).trans rfl
theorem IsS121.set_0 {w0 W : World} {g : Nat} {f0 : Int} {f1 : Int} {f2 : List Bool} (h : IsS121 w0 W g f0 f1 f2) (x : Int) : IsS121 w0 (W.setCell ⟨g, 0, none⟩ (.int .i64 x)) g x f1 f2 := by
  obtain ⟨A2, c2, hb, hg, hr2⟩ := h
  exact ⟨A2, c2, by simpa using blk_set hb 0 (.int .i64 x), hg, hr2⟩
theorem cellS121_1 {W : World} {g : Nat} {A2 : Option Addr} {c2 : Nat} {f0 : Int} {f1 : Int} {f2 : List Bool} (h : W.heap[g]? = some (.cells #[.int .i64 f0, .int .i64 f1, .slice A2 f2.length c2] 121 (0, 0))) : W.cell? ⟨g, 1, none⟩ = some (.int .i64 f1) := (blk_cell h 1).trans rfl
theorem IsS121.set_1 {w0 W : World} {g : Nat} {f0 : Int} {f1 : Int} {f2 : List Bool} (h : IsS121 w0 W g f0 f1 f2) (x : Int) : IsS121 w0 (W.setCell ⟨g, 1, none⟩ (.int .i64 x)) g f0 x f2 := by
  obtain ⟨A2, c2, hb, hg, hr2⟩ := h
  exact ⟨A2, c2, by simpa using blk_set hb 1 (.int .i64 x), hg, hr2⟩
theorem cellS121_2 {W : World} {g : Nat} {A2 : Option Addr} {c2 : Nat} {f0 : Int} {f1 : Int} {f2 : List Bool} (h : W.heap[g]? = some (.cells #[.int .i64 f0, .int .i64 f1, .slice A2 f2.length c2] 121 (0, 0))) : W.cell? ⟨g, 2, none⟩ = some (.slice A2 f2.length c2) := (blk_cell h 2).trans rfl
theorem IsS121.new (w0 W : World) (A2 : Option Addr) (c2 : Nat) (f0 : Int) (f1 : Int) (f2 : List Bool) (hB : Below w0.heap.size w0 W) (hr2 : Kd.C Kd.bool w0 A2 f2.length f2) : IsS121 w0 (W.alloc (.cells #[.int .i64 f0, .int .i64 f1, .slice A2 f2.length c2] 121)) W.heap.size f0 f1 f2 := ⟨A2, c2, by simpa using heap_alloc_new W _, hB.size, hr2⟩

/-! ### dowelref05_Heap_Holes: function 32 -/
def dowelref05_Heap_Holes.l0 : Nat → List (S129) → Int → Int → Int → List Bool → Option ((List (S129)) × Int × Int)
  | 0, _, _, _, _, _ => none
  | k + 1, x3, x4, x1000, x1001, x1002 => if x4 < (x1002.length : Int) then (if 0 ≤ x4 then (if rdOf false x1002 x4 = true then (if x4 > 0 then (if (x3.length : Int) > 0 then (if 0 ≤ (wrap64 (x4 - 1)) then (if (wrap64 (x4 - 1)) < (x1002.length : Int) then (if rdOf false x1002 (wrap64 (x4 - 1)) = true then (if 0 ≤ (wrap64 ((x3.length : Int) - 1)) then (if (wrap64 ((x3.length : Int) - 1)) < (x3.length : Int) then (dowelref05_Heap_Holes.l0 k (x3.set ((wrap64 ((x3.length : Int) - 1)) : Int).toNat (⟨(rd_T129 x3 (wrap64 ((x3.length : Int) - 1))).f0, wrap64 (((rd_T129 x3 (wrap64 ((x3.length : Int) - 1))).f1) + 4)⟩ : S129)) (wrap64 (x4 + 1)) x1000 x1001 x1002) else (none)) else (none)) else (if x3.length < 8796093022208 then (dowelref05_Heap_Holes.l0 k (x3 ++ [(⟨wrap64 (x1000 + (wrap64 (4 * x4))), 4⟩ : S129)]) (wrap64 (x4 + 1)) x1000 x1001 x1002) else (none))) else (none)) else (none)) else (if x3.length < 8796093022208 then (dowelref05_Heap_Holes.l0 k (x3 ++ [(⟨wrap64 (x1000 + (wrap64 (4 * x4))), 4⟩ : S129)]) (wrap64 (x4 + 1)) x1000 x1001 x1002) else (none))) else (if x3.length < 8796093022208 then (dowelref05_Heap_Holes.l0 k (x3 ++ [(⟨wrap64 (x1000 + (wrap64 (4 * x4))), 4⟩ : S129)]) (wrap64 (x4 + 1)) x1000 x1001 x1002) else (none))) else (dowelref05_Heap_Holes.l0 k x3 (wrap64 (x4 + 1)) x1000 x1001 x1002)) else (none)) else (some (x3, x1000, x1001))
def dowelref05_Heap_Holes.f (k : Nat) (s0_0 : Int) (s0_1 : Int) (s0_2 : List Bool) : Option ((List (S129)) × Int × Int) := dowelref05_Heap_Holes.l0 k ([] : List (S129)) 0 s0_0 s0_1 s0_2
theorem dowelref05_Heap_Holes.mono_l : ∀ k, (∀ y0 y1 y2 y3 y4, LeO (dowelref05_Heap_Holes.l0 k y0 y1 y2 y3 y4) (dowelref05_Heap_Holes.l0 (k + 1) y0 y1 y2 y3 y4))
  | 0 => fun _ _ _ _ _ r h => by simp [dowelref05_Heap_Holes.l0] at h
  | k + 1 => by
    have ih0 := dowelref05_Heap_Holes.mono_l k
    · intro y0 y1 y2 y3 y4
      unfold dowelref05_Heap_Holes.l0
      repeat' first
      | (with_reducible exact ih0 _ _ _ _ _)
      | (with_reducible exact LeO.refl _)
      | (with_reducible exact LeO.none _)
      | (with_reducible refine LeO.ite ?_ ?_)
      | (with_reducible refine LeO.bind ?_ (fun _ => ?_))
      | exact ih0 _ _ _ _ _
      | exact LeO.none _
      | refine LeO.ite ?_ ?_
      | refine LeO.bind ?_ (fun _ => ?_)
theorem dowelref05_Heap_Holes.mono : ∀ a0 a1 a2 k, LeO (dowelref05_Heap_Holes.f k a0 a1 a2) (dowelref05_Heap_Holes.f (k + 1) a0 a1 a2) := by
  intro a0 a1 a2 k
  have ih0 := dowelref05_Heap_Holes.mono_l k
  unfold dowelref05_Heap_Holes.f
  repeat' first
      | (with_reducible exact ih0 _ _ _ _ _)
      | (with_reducible exact LeO.refl _)
      | (with_reducible exact LeO.none _)
      | (with_reducible refine LeO.ite ?_ ?_)
      | (with_reducible refine LeO.bind ?_ (fun _ => ?_))
      | exact ih0 _ _ _ _ _
      | exact LeO.none _
      | refine LeO.ite ?_ ?_
      | refine LeO.bind ?_ (fun _ => ?_)
set_option maxHeartbeats 8000000 in
set_option maxRecDepth 100000 in
theorem dowelref05_Heap_Holes.calls (k : Nat) (g : Nat) (s0_0 : Int) (s0_1 : Int) (s0_2 : List Bool) (r1 : List (S129)) (r2 : Int) (r3 : Int) (w0 w : World) (hI : IsS121 w0 w g s0_0 s0_1 s0_2) (hB : Below w0.heap.size w0 w) (h : dowelref05_Heap_Holes.f k s0_0 s0_1 s0_2 = some (r1, r2, r3)) :
    Calls Try.prog 32 #[.pointer (some ⟨g, 0, none⟩)] w fun e w' => ∃ v0_ : Value, e = .returned (v0_) ∧ Kd.R k129 129 w' w.heap.size (fun _ => True) v0_ r1 ∧ IsS121 w0 w' g r2 r3 s0_2 ∧ Below w0.heap.size w0 w' ∧ KeepBut w w' g none := by
  have hu129 := Try.underlying129
  have HI0 := Aside0.mk hI
  have HK := Aside0.mk (KeepBut.refl w g none)
  have HL := Aside0.mk hB.size
  clear hI
  have HW0 := Aside0.mk hB.size
  have HB := Aside0.mk hB
  clear hB
  have H : (dowelref05_Heap_Holes.l0 k ([] : List (S129)) 0 s0_0 s0_1 s0_2) = some (r1, r2, r3) := h
  clear h
  have H' := Aside0.mk H
  clear H
  go_enter Try.func32, Try.ntmps32
  go_wp2
  go_loopg [3, 4] k (fun kq v3 v4 w' => ∃ (x3_1 : List (S129)) (x4_1 : Int), v4 = .int .i64 x4_1 ∧ Aside0 (dowelref05_Heap_Holes.l0 kq x3_1 x4_1 s0_0 s0_1 s0_2 = some (r1, r2, r3)) ∧ Aside0 (kq ≤ k) ∧ Aside0 (Kd.R k129 129 w' w.heap.size (fun _ => True) v3 x3_1) ∧ Aside0 (IsS121 w0 w' g s0_0 s0_1 s0_2) ∧ Aside0 (KeepBut w w' g none) ∧ Aside0 (Below w0.heap.size w0 w'))
  case atStart => exact ⟨(([] : List (S129))), (0), (by first | rfl | (simp; done) | (simp [*]; done)), H', ⟨Nat.le_refl _⟩, ⟨by first | exact Kd.R_nil _ _ _ _ _ | exact Kd.N_nil _ _ _ _ _ | exact Kd.V_nil _ _ _ _ _ | exact Kd.Q_nil _ _ _ _ _ | exact Kd.S_nil _ _ _ _ _⟩, ⟨by repeat (first | (with_reducible first | exact HI0.out | apply IsS121.alloc | apply IsS121.drewN | apply IsS121.drew | apply IsS121.set_0 | apply IsS121.set_1) | exact HI0.out)⟩, ⟨by repeat (first | (with_reducible first | exact HK.out | apply KeepBut.set_ | apply keep_drewN | apply keep_drew | apply keep_alloc) | exact HK.out)⟩, ⟨by repeat (first | (with_reducible first | exact HB.out | apply below_alloc | apply pw_below_drewN | apply below_drew1 | refine below_set ?_ (IsS121.ge HI0.out)) | exact HB.out)⟩⟩
  case round =>
    clear H'
    obtain ⟨x3_1, x4_1, rfl, HA, HK1, HO_3, HI0, HK, HB⟩ := hrel
    cases gk with
    | zero => exact absurd HA.out (by simp [dowelref05_Heap_Holes.l0])
    | succ k1 =>
      have H := HA.out
      clear HA
      simp only [dowelref05_Heap_Holes.l0] at H
      by_cases c2 : x4_1 < (s0_2.length : Int)
      · rw [if_pos c2] at H
        have c2b0 : decide (x4_1 < (s0_2.length : Int)) = true := decide_eq_true c2
        clear c2
        by_cases c3 : 0 ≤ x4_1
        · rw [if_pos c3] at H
          have c3b0 : decide (0 ≤ x4_1) = true := decide_eq_true c3
          clear c3
          obtain ⟨bq4, hbq4⟩ : ∃ b_ : Bool, b_ = (rdOf false s0_2 x4_1) := ⟨_, rfl⟩
          replace H : (if bq4 = true then (if x4_1 > 0 then (if (x3_1.length : Int) > 0 then (if 0 ≤ (wrap64 (x4_1 - 1)) then (if (wrap64 (x4_1 - 1)) < (s0_2.length : Int) then (if rdOf false s0_2 (wrap64 (x4_1 - 1)) = true then (if 0 ≤ (wrap64 ((x3_1.length : Int) - 1)) then (if (wrap64 ((x3_1.length : Int) - 1)) < (x3_1.length : Int) then (dowelref05_Heap_Holes.l0 k1 (x3_1.set ((wrap64 ((x3_1.length : Int) - 1)) : Int).toNat (⟨(rd_T129 x3_1 (wrap64 ((x3_1.length : Int) - 1))).f0, wrap64 (((rd_T129 x3_1 (wrap64 ((x3_1.length : Int) - 1))).f1) + 4)⟩ : S129)) (wrap64 (x4_1 + 1)) s0_0 s0_1 s0_2) else (none)) else (none)) else (if x3_1.length < 8796093022208 then (dowelref05_Heap_Holes.l0 k1 (x3_1 ++ [(⟨wrap64 (s0_0 + (wrap64 (4 * x4_1))), 4⟩ : S129)]) (wrap64 (x4_1 + 1)) s0_0 s0_1 s0_2) else (none))) else (none)) else (none)) else (if x3_1.length < 8796093022208 then (dowelref05_Heap_Holes.l0 k1 (x3_1 ++ [(⟨wrap64 (s0_0 + (wrap64 (4 * x4_1))), 4⟩ : S129)]) (wrap64 (x4_1 + 1)) s0_0 s0_1 s0_2) else (none))) else (if x3_1.length < 8796093022208 then (dowelref05_Heap_Holes.l0 k1 (x3_1 ++ [(⟨wrap64 (s0_0 + (wrap64 (4 * x4_1))), 4⟩ : S129)]) (wrap64 (x4_1 + 1)) s0_0 s0_1 s0_2) else (none))) else (dowelref05_Heap_Holes.l0 k1 x3_1 (wrap64 (x4_1 + 1)) s0_0 s0_1 s0_2)) = some (r1, r2, r3) := by rw [← hbq4] at H; exact H
          have Nbq4 := Aside0.mk hbq4
          clear hbq4
          by_cases c5 : bq4 = true
          · subst c5
            have H1 : (if x4_1 > 0 then (if (x3_1.length : Int) > 0 then (if 0 ≤ (wrap64 (x4_1 - 1)) then (if (wrap64 (x4_1 - 1)) < (s0_2.length : Int) then (if rdOf false s0_2 (wrap64 (x4_1 - 1)) = true then (if 0 ≤ (wrap64 ((x3_1.length : Int) - 1)) then (if (wrap64 ((x3_1.length : Int) - 1)) < (x3_1.length : Int) then (dowelref05_Heap_Holes.l0 k1 (x3_1.set ((wrap64 ((x3_1.length : Int) - 1)) : Int).toNat (⟨(rd_T129 x3_1 (wrap64 ((x3_1.length : Int) - 1))).f0, wrap64 (((rd_T129 x3_1 (wrap64 ((x3_1.length : Int) - 1))).f1) + 4)⟩ : S129)) (wrap64 (x4_1 + 1)) s0_0 s0_1 s0_2) else (none)) else (none)) else (if x3_1.length < 8796093022208 then (dowelref05_Heap_Holes.l0 k1 (x3_1 ++ [(⟨wrap64 (s0_0 + (wrap64 (4 * x4_1))), 4⟩ : S129)]) (wrap64 (x4_1 + 1)) s0_0 s0_1 s0_2) else (none))) else (none)) else (none)) else (if x3_1.length < 8796093022208 then (dowelref05_Heap_Holes.l0 k1 (x3_1 ++ [(⟨wrap64 (s0_0 + (wrap64 (4 * x4_1))), 4⟩ : S129)]) (wrap64 (x4_1 + 1)) s0_0 s0_1 s0_2) else (none))) else (if x3_1.length < 8796093022208 then (dowelref05_Heap_Holes.l0 k1 (x3_1 ++ [(⟨wrap64 (s0_0 + (wrap64 (4 * x4_1))), 4⟩ : S129)]) (wrap64 (x4_1 + 1)) s0_0 s0_1 s0_2) else (none))) = some (r1, r2, r3) := by rw [if_pos rfl] at H; exact H
            clear H
            have H := H1
            clear H1
            by_cases c6 : x4_1 > 0
            · rw [if_pos c6] at H
              have c6b0 : decide (0 < x4_1) = true := decide_eq_true c6
              clear c6
              by_cases c7 : (x3_1.length : Int) > 0
              · rw [if_pos c7] at H
                have c7b0 : decide (0 < (x3_1.length : Int)) = true := decide_eq_true c7
                have c7b1 : decide (0 < x3_1.length) = true := decide_eq_true (by omega)
                clear c7
                obtain ⟨ji8, hji8⟩ : ∃ j_ : Int, (wrap64 (x4_1 - 1)) = j_ := ⟨_, rfl⟩
                replace H : (if 0 ≤ (ji8) then (if (ji8) < (s0_2.length : Int) then (if rdOf false s0_2 (ji8) = true then (if 0 ≤ (wrap64 ((x3_1.length : Int) - 1)) then (if (wrap64 ((x3_1.length : Int) - 1)) < (x3_1.length : Int) then (dowelref05_Heap_Holes.l0 k1 (x3_1.set ((wrap64 ((x3_1.length : Int) - 1)) : Int).toNat (⟨(rd_T129 x3_1 (wrap64 ((x3_1.length : Int) - 1))).f0, wrap64 (((rd_T129 x3_1 (wrap64 ((x3_1.length : Int) - 1))).f1) + 4)⟩ : S129)) (wrap64 (x4_1 + 1)) s0_0 s0_1 s0_2) else (none)) else (none)) else (if x3_1.length < 8796093022208 then (dowelref05_Heap_Holes.l0 k1 (x3_1 ++ [(⟨wrap64 (s0_0 + (wrap64 (4 * x4_1))), 4⟩ : S129)]) (wrap64 (x4_1 + 1)) s0_0 s0_1 s0_2) else (none))) else (none)) else (none)) = some (r1, r2, r3) := by first | (rw [hji8] at H; exact H) | (simp only [hji8] at H ⊢; exact H)
                have hji8w : (IntKind.i64.wrap (x4_1 - 1)) = ji8 := (i64_w _).trans hji8
                by_cases c9 : 0 ≤ (ji8)
                · rw [if_pos c9] at H
                  have c9b0 : decide (0 ≤ (ji8)) = true := decide_eq_true c9
                  clear c9
                  by_cases c10 : (ji8) < (s0_2.length : Int)
                  · rw [if_pos c10] at H
                    have c10b0 : decide ((ji8) < (s0_2.length : Int)) = true := decide_eq_true c10
                    clear c10
                    obtain ⟨bq11, hbq11⟩ : ∃ b_ : Bool, b_ = (rdOf false s0_2 (ji8)) := ⟨_, rfl⟩
                    replace H : (if bq11 = true then (if 0 ≤ (wrap64 ((x3_1.length : Int) - 1)) then (if (wrap64 ((x3_1.length : Int) - 1)) < (x3_1.length : Int) then (dowelref05_Heap_Holes.l0 k1 (x3_1.set ((wrap64 ((x3_1.length : Int) - 1)) : Int).toNat (⟨(rd_T129 x3_1 (wrap64 ((x3_1.length : Int) - 1))).f0, wrap64 (((rd_T129 x3_1 (wrap64 ((x3_1.length : Int) - 1))).f1) + 4)⟩ : S129)) (wrap64 (x4_1 + 1)) s0_0 s0_1 s0_2) else (none)) else (none)) else (if x3_1.length < 8796093022208 then (dowelref05_Heap_Holes.l0 k1 (x3_1 ++ [(⟨wrap64 (s0_0 + (wrap64 (4 * x4_1))), 4⟩ : S129)]) (wrap64 (x4_1 + 1)) s0_0 s0_1 s0_2) else (none))) = some (r1, r2, r3) := by rw [← hbq11] at H; exact H
                    have Nbq11 := Aside0.mk hbq11
                    clear hbq11
                    by_cases c12 : bq11 = true
                    · subst c12
                      have H1 : (if 0 ≤ (wrap64 ((x3_1.length : Int) - 1)) then (if (wrap64 ((x3_1.length : Int) - 1)) < (x3_1.length : Int) then (dowelref05_Heap_Holes.l0 k1 (x3_1.set ((wrap64 ((x3_1.length : Int) - 1)) : Int).toNat (⟨(rd_T129 x3_1 (wrap64 ((x3_1.length : Int) - 1))).f0, wrap64 (((rd_T129 x3_1 (wrap64 ((x3_1.length : Int) - 1))).f1) + 4)⟩ : S129)) (wrap64 (x4_1 + 1)) s0_0 s0_1 s0_2) else (none)) else (none)) = some (r1, r2, r3) := by rw [if_pos rfl] at H; exact H
                      clear H
                      have H := H1
                      clear H1
                      obtain ⟨ji13, hji13⟩ : ∃ j_ : Int, (wrap64 ((x3_1.length : Int) - 1)) = j_ := ⟨_, rfl⟩
                      replace H : (if 0 ≤ (ji13) then (if (ji13) < (x3_1.length : Int) then (dowelref05_Heap_Holes.l0 k1 (x3_1.set ((ji13) : Int).toNat (⟨(rd_T129 x3_1 (ji13)).f0, wrap64 (((rd_T129 x3_1 (ji13)).f1) + 4)⟩ : S129)) (wrap64 (x4_1 + 1)) s0_0 s0_1 s0_2) else (none)) else (none)) = some (r1, r2, r3) := by first | (rw [hji13] at H; exact H) | (simp only [hji13] at H ⊢; exact H)
                      have hji13w : (IntKind.i64.wrap ((x3_1.length : Int) - 1)) = ji13 := (i64_w _).trans hji13
                      by_cases c14 : 0 ≤ (ji13)
                      · rw [if_pos c14] at H
                        have c14b0 : decide (0 ≤ (ji13)) = true := decide_eq_true c14
                        clear c14
                        by_cases c15 : (ji13) < (x3_1.length : Int)
                        · rw [if_pos c15] at H
                          have c15b0 : decide ((ji13) < (x3_1.length : Int)) = true := decide_eq_true c15
                          clear c15
                          obtain ⟨y143, hy143⟩ : ∃ y_ : List (S129), y_ = (x3_1.set ((ji13) : Int).toNat (⟨(rd_T129 x3_1 (ji13)).f0, wrap64 (((rd_T129 x3_1 (ji13)).f1) + 4)⟩ : S129)) := ⟨_, rfl⟩
                          replace H : (dowelref05_Heap_Holes.l0 k1 y143 (wrap64 (x4_1 + 1)) s0_0 s0_1 s0_2) = some (r1, r2, r3) := by first | (rw [hy143]; with_reducible exact H) | (have H2_ := (Option.bind_some _ _).symm.trans H; rw [hy143]; with_reducible exact H2_) | (have H2_ := (Option.bind_some _ _).symm.trans H; with_reducible exact H2_) | with_reducible exact H | (rw [hy143]; exact H) | exact H
                          have Ny143 := Aside0.mk hy143
                          clear hy143
                          have H' := Aside0.mk H
                          clear H
                          obtain ⟨ASz17_2, cSz17_2, HGz17, hgz17, HSz17_2⟩ := HI0.out
                          have hcz17_0 := cellS121_0 HGz17
                          have hcz17_1 := cellS121_1 HGz17
                          have hcz17_2 := cellS121_2 HGz17
                          have hfz17_0 := blk_frozen HGz17 0
                          have hfz17_1 := blk_frozen HGz17 1
                          clear HGz17 hgz17
                          have p140 : 0 ≤ (x4_1 : Int) := of_decide_eq_true (by first | (with_reducible assumption) | assumption)
                          have q140 : x4_1 < (s0_2.length : Int) := of_decide_eq_true (by first | (with_reducible assumption) | assumption)
                          obtain ⟨ad140, e140, hx140_0⟩ := Kd.at_bool HSz17_2 x4_1 p140 q140
                          (try rw [← Nbq4.out] at hx140_0)
                          (try rw [← Nbq11.out] at hx140_0)
                          cases e140
                          replace hx140_0 := pw_cell_below HB.out hx140_0
                          replace p140 := eq_true p140
                          replace q140 := eq_true q140
                          obtain ⟨Ao18, co18, eo18⟩ := Kd.R_slice HO_3.out
                          subst eo18
                          have p141 : 0 ≤ ((ji8) : Int) := of_decide_eq_true (by first | (with_reducible assumption) | assumption)
                          have q141 : (ji8) < (s0_2.length : Int) := of_decide_eq_true (by first | (with_reducible assumption) | assumption)
                          obtain ⟨ad141, e141, hx141_0⟩ := Kd.at_bool HSz17_2 (ji8) p141 q141
                          (try rw [← Nbq4.out] at hx141_0)
                          (try rw [← Nbq11.out] at hx141_0)
                          obtain rfl : ad140 = ad141 := (by injection e141)
                          replace hx141_0 := pw_cell_below HB.out hx141_0
                          replace p141 := eq_true p141
                          replace q141 := eq_true q141
                          have p142 : 0 ≤ ((ji13) : Int) := of_decide_eq_true (by first | (with_reducible assumption) | assumption)
                          have q142 : (ji13) < (x3_1.length : Int) := of_decide_eq_true (by first | (with_reducible assumption) | assumption)
                          obtain ⟨ad142, e142, hx142_0, hx142_1⟩ := at_T129 (Kd.R_reads' HO_3.out).2.2 (ji13) p142 q142
                          cases e142
                          replace p142 := eq_true p142
                          replace q142 := eq_true q142
                          have p16 : 0 ≤ ((ji13) : Int) := of_decide_eq_true (by first | (with_reducible assumption) | assumption)
                          have q16 : ((ji13) : Int) < ((x3_1.length : Int) : Int) := of_decide_eq_true (by first | (with_reducible assumption) | assumption)
                          obtain ⟨go16, co16, eo16, gb16, gl16, cl16, HG16⟩ := Kd.R_form HO_3.out (by omega)
                          (first | cases eo16 | (injection eo16 with ea_ en_ ec_; (first | subst ea_ | (injection ea_ with ea_; subst ea_)); subst ec_; clear en_))
                          have GB16 := Aside0.mk gb16
                          have GG16 := Aside0.mk HG16
                          clear gb16 gl16 HG16
                          (first | simp only [add_plain] at hx142_0 | skip)
                          (first | simp only [add_plain] at hx142_1 | skip)
                          obtain ⟨ce16, hcl16, hM16, hcc16, hfr16⟩ := Kd.R_elem HO_3.out z129 ((ji13) : Int) p16 q16
                          obtain rfl := k129_openM hM16
                          have hx16_0 : wr.cell? ⟨go16, ((ji13) : Int).toNat * 2, none⟩ = some (.int .i64 ((rd_T129 x3_1 (ji13)).f0)) := hcc16 0 _ rfl
                          have hx16_1 : wr.cell? ⟨go16, ((ji13) : Int).toNat * 2 + 1, none⟩ = some (.int .i64 ((rd_T129 x3_1 (ji13)).f1)) := hcc16 1 _ rfl
                          have hf16_0 : wr.frozen? ⟨go16, ((ji13) : Int).toNat * 2, none⟩ = false := hfr16 0
                          have hf16_1 : wr.frozen? ⟨go16, ((ji13) : Int).toNat * 2 + 1, none⟩ = false := hfr16 1
                          clear hcl16 hcc16 hfr16 hM16
                          replace p16 := eq_true p16
                          replace q16 := eq_true q16
                          have HX19 := Aside0.mk (show Kd.R k129 129 wr w.heap.size (fun _ => True) (.slice (some ⟨go16, 0, none⟩) x3_1.length co18) x3_1 from (by (with_reducible repeat (first | apply Kd.R_alloc | apply Kd.R_drewN | apply Kd.R_drew)); exact HO_3.out))
                          obtain ⟨ce19, hcl19, hM19, hcc19, hfr19⟩ := Kd.R_elem HX19.out z129 ((ji13) : Int) (of_decide_eq_true (by first | (with_reducible assumption) | assumption)) (by have h_ : ((ji13) : Int) < ((x3_1.length : Int) : Int) := of_decide_eq_true (by first | (with_reducible assumption) | assumption); first | exact h_ | (have e_ := (Kd.R_reads' HO_3.out).1; omega) | simpa using h_)
                          obtain rfl := k129_openM hM19
                          have HP19 := Kd.R_seg HX19.out ((ji13) : Int) (of_decide_eq_true (by first | (with_reducible assumption) | assumption)) (by have h_ : ((ji13) : Int) < ((x3_1.length : Int) : Int) := of_decide_eq_true (by first | (with_reducible assumption) | assumption); first | exact h_ | (have e_ := (Kd.R_reads' HO_3.out).1; omega) | simpa using h_) (seg := [.int .i64 (wrap64 (((rd_T129 x3_1 (ji13)).f1) + 4))]) (j := 1) hcl19 hcc19 (show 2 ≤ 2 from by decide) (x' := (⟨(rd_T129 x3_1 (ji13)).f0, wrap64 (((rd_T129 x3_1 (ji13)).f1) + 4)⟩ : S129)) (k129_mkM _ _ _ (⟨(rd_T129 x3_1 (ji13)).f0, wrap64 (((rd_T129 x3_1 (ji13)).f1) + 4)⟩ : S129) ) (fun _ hk => hk)
                          have hx19_1 := hcc19 1 _ rfl
                          (try simp only [show (k129).sz = 2 from rfl, Nat.mul_one, Nat.add_zero] at hx19_1)
                          have hf19_1 := hfr19 1
                          (try simp only [show (k129).sz = 2 from rfl, Nat.mul_one, Nat.add_zero] at hf19_1)
                          clear hcl19 hcc19 hfr19 hM19
                          go_wp2_with (first | ((with_reducible refine gate_store (t := 3) (p := 52) rfl ?_); refine store_event (t := 3) (p := 52) (v := ?vo_w20) (w1 := (wr.setCell ⟨go16, ((ji13) : Int).toNat * 2 + 1, none⟩ (.int .i64 (wrap64 (((rd_T129 x3_1 (ji13)).f1) + 4))))) ?hg ?ho ?hn ?hr ?_; (case ho => rfl); (case hg => rfl); (case hn => rfl); (case hr => first | (go_simp; done) | (go_simp; rfl)); intro w20 hw; have hg : wr.grownBy w20 (some go16) := (by rw [hw]; exact HP19.2); have hp_ : Kd.R k129 129 w20 w.heap.size (fun _ => True) (.slice (some ⟨go16, 0, none⟩) x3_1.length co18) y143 := (by rw [hw, Ny143.out]; exact HP19.1); clear HP19; have n0_ := Aside0.mk (hp_); have n1_ := Aside0.mk (IsS121.grown (by repeat (first | (with_reducible first | exact HI0.out | apply IsS121.alloc | apply IsS121.drewN | apply IsS121.drew | apply IsS121.set_0 | apply IsS121.set_1) | exact HI0.out)) hg (IsS121.own_ne HI0.out HO_3.out (by decide))); have n2_ := Aside0.mk ((by rw [hw]; exact below_set (HB.out) (Nat.le_trans HL.out GB16.out) : Below w0.heap.size w0 w20)); have n3_ := Aside0.mk (KeepBut.trans (by repeat (first | (with_reducible first | exact HK.out | apply KeepBut.set_ | apply keep_drewN | apply keep_drew | apply keep_alloc) | exact HK.out)) (KeepBut.of_grown hg g) (Kd.R_base2 HO_3.out)); clear HO_3; clear HI0; clear HB; clear HK; have HO_3 := n0_; have HI0 := n1_; have HB := n2_; have HK := n3_; clear n0_ n1_ n2_ n3_; clear hg hw hp_))
                          go_roundg k1
                          case measure => have := HK1.out; omega
                          case rel => exact ⟨(y143), (wrap64 (x4_1 + 1)), (by first | rfl | (simp; done) | (simp [*]; done)), H', ⟨by have := HK1.out; omega⟩, ⟨by (with_reducible repeat (first | apply Kd.R_alloc | apply Kd.R_drewN | apply Kd.R_drew)); exact HO_3.out⟩, ⟨by repeat (first | (with_reducible first | exact HI0.out | apply IsS121.alloc | apply IsS121.drewN | apply IsS121.drew | apply IsS121.set_0 | apply IsS121.set_1) | exact HI0.out)⟩, ⟨by repeat (first | (with_reducible first | exact HK.out | apply KeepBut.set_ | apply keep_drewN | apply keep_drew | apply keep_alloc) | exact HK.out)⟩, ⟨by repeat (first | (with_reducible first | exact HB.out | apply below_alloc | apply pw_below_drewN | apply below_drew1 | refine below_set ?_ (IsS121.ge HI0.out)) | exact HB.out)⟩⟩
                        · rw [if_neg c15] at H
                          exact absurd H (by simp)
                      · rw [if_neg c14] at H
                        exact absurd H (by simp)
                    · replace c12 := Bool.eq_false_iff.mpr c12
                      subst c12
                      have H1 : (if x3_1.length < 8796093022208 then (dowelref05_Heap_Holes.l0 k1 (x3_1 ++ [(⟨wrap64 (s0_0 + (wrap64 (4 * x4_1))), 4⟩ : S129)]) (wrap64 (x4_1 + 1)) s0_0 s0_1 s0_2) else (none)) = some (r1, r2, r3) := by rw [if_neg (show ¬ (false = true) by decide)] at H; exact H
                      clear H
                      have H := H1
                      clear H1
                      by_cases c21 : x3_1.length < 8796093022208
                      · rw [if_pos c21] at H
                        have LMc21 := Aside0.mk c21
                        clear c21
                        obtain ⟨y144, hy144⟩ : ∃ y_ : List (S129), y_ = (x3_1 ++ [(⟨wrap64 (s0_0 + (wrap64 (4 * x4_1))), 4⟩ : S129)]) := ⟨_, rfl⟩
                        replace H : (dowelref05_Heap_Holes.l0 k1 y144 (wrap64 (x4_1 + 1)) s0_0 s0_1 s0_2) = some (r1, r2, r3) := by first | (rw [hy144]; with_reducible exact H) | (have H2_ := (Option.bind_some _ _).symm.trans H; rw [hy144]; with_reducible exact H2_) | (have H2_ := (Option.bind_some _ _).symm.trans H; with_reducible exact H2_) | with_reducible exact H | (rw [hy144]; exact H) | exact H
                        have Ny144 := Aside0.mk hy144
                        clear hy144
                        have H' := Aside0.mk H
                        clear H
                        obtain ⟨ASz22_2, cSz22_2, HGz22, hgz22, HSz22_2⟩ := HI0.out
                        have hcz22_0 := cellS121_0 HGz22
                        have hcz22_1 := cellS121_1 HGz22
                        have hcz22_2 := cellS121_2 HGz22
                        have hfz22_0 := blk_frozen HGz22 0
                        have hfz22_1 := blk_frozen HGz22 1
                        clear HGz22 hgz22
                        have p140 : 0 ≤ (x4_1 : Int) := of_decide_eq_true (by first | (with_reducible assumption) | assumption)
                        have q140 : x4_1 < (s0_2.length : Int) := of_decide_eq_true (by first | (with_reducible assumption) | assumption)
                        obtain ⟨ad140, e140, hx140_0⟩ := Kd.at_bool HSz22_2 x4_1 p140 q140
                        (try rw [← Nbq4.out] at hx140_0)
                        (try rw [← Nbq11.out] at hx140_0)
                        cases e140
                        replace hx140_0 := pw_cell_below HB.out hx140_0
                        replace p140 := eq_true p140
                        replace q140 := eq_true q140
                        obtain ⟨Ao23, co23, eo23⟩ := Kd.R_slice HO_3.out
                        subst eo23
                        have p141 : 0 ≤ ((ji8) : Int) := of_decide_eq_true (by first | (with_reducible assumption) | assumption)
                        have q141 : (ji8) < (s0_2.length : Int) := of_decide_eq_true (by first | (with_reducible assumption) | assumption)
                        obtain ⟨ad141, e141, hx141_0⟩ := Kd.at_bool HSz22_2 (ji8) p141 q141
                        (try rw [← Nbq4.out] at hx141_0)
                        (try rw [← Nbq11.out] at hx141_0)
                        obtain rfl : ad140 = ad141 := (by injection e141)
                        replace hx141_0 := pw_cell_below HB.out hx141_0
                        replace p141 := eq_true p141
                        replace q141 := eq_true q141
                        go_wp2_with (first | ((with_reducible refine gate_builtin (b := .append) (xs := #[.tmp 53, .tmp 62]) rfl ?_); at_builtin; refine Kd.R_append k129 w.heap.size rfl (.tmp 53) (.tmp 62) 61 129 (.agg #[(.int .i64 0), (.int .i64 0)]) 16 rfl Try.underlying61 info129 rfl (by decide) (by omega) (.slice Ao23 x3_1.length co23) x3_1 (⟨wrap64 (s0_0 + (wrap64 (4 * x4_1))), 4⟩ : S129) [.int .i64 (wrap64 (s0_0 + (wrap64 (4 * x4_1)))), .int .i64 4] (fun _ => True) (fun _ => False) rfl rfl ?aP (fun _ hk => hk.elim) ?aF ?aO (Below.refl _ _) ?aS ?aL ?_; (case aP => exact k129_mkM _ _ _ (⟨wrap64 (s0_0 + (wrap64 (4 * x4_1))), 4⟩ : S129)); (case aF => exact (fun _ _ => trivial)); (case aO => exact (by (with_reducible repeat (first | apply Kd.R_alloc | apply Kd.R_drewN | apply Kd.R_drew)); exact HO_3.out)); (case aS => exact (keep_size (w := w) (g := g) (row := none) (by repeat (first | (with_reducible first | exact HK.out | apply KeepBut.set_ | apply keep_drewN | apply keep_drew | apply keep_alloc) | exact HK.out)))); (case aL => have := LMc21.out; omega); intro v145 w24 ho hb hg hat; rw [← Ny144.out] at ho; have n0_ := Aside0.mk (IsS121.grown (by repeat (first | (with_reducible first | exact HI0.out | apply IsS121.alloc | apply IsS121.drewN | apply IsS121.drew | apply IsS121.set_0 | apply IsS121.set_1) | exact HI0.out)) hg (IsS121.own_ne HI0.out HO_3.out (by decide))); have n1_ := Aside0.mk (below_weaken (by repeat (first | (with_reducible first | exact HB.out | apply below_alloc | apply pw_below_drewN | apply below_drew1 | refine below_set ?_ (IsS121.ge HI0.out)) | exact HB.out)) HL.out hb); have n2_ := Aside0.mk (KeepBut.trans (by repeat (first | (with_reducible first | exact HK.out | apply KeepBut.set_ | apply keep_drewN | apply keep_drew | apply keep_alloc) | exact HK.out)) (KeepBut.of_grown hg g) (Kd.R_base2 HO_3.out)); have n3_ := Aside0.mk (ho); clear HI0; clear HB; clear HK; clear HO_3; have HI0 := n0_; have HB := n1_; have HK := n2_; have HO146 := n3_; clear n0_ n1_ n2_ n3_; clear ho hb hg hat))
                        go_roundg k1
                        case measure => have := HK1.out; omega
                        case rel => exact ⟨(y144), (wrap64 (x4_1 + 1)), (by first | rfl | (simp; done) | (simp [*]; done)), H', ⟨by have := HK1.out; omega⟩, ⟨by (with_reducible repeat (first | apply Kd.R_alloc | apply Kd.R_drewN | apply Kd.R_drew)); exact HO146.out⟩, ⟨by repeat (first | (with_reducible first | exact HI0.out | apply IsS121.alloc | apply IsS121.drewN | apply IsS121.drew | apply IsS121.set_0 | apply IsS121.set_1) | exact HI0.out)⟩, ⟨by repeat (first | (with_reducible first | exact HK.out | apply KeepBut.set_ | apply keep_drewN | apply keep_drew | apply keep_alloc) | exact HK.out)⟩, ⟨by repeat (first | (with_reducible first | exact HB.out | apply below_alloc | apply pw_below_drewN | apply below_drew1 | refine below_set ?_ (IsS121.ge HI0.out)) | exact HB.out)⟩⟩
                      · rw [if_neg c21] at H
                        exact absurd H (by simp)
                  · rw [if_neg c10] at H
                    exact absurd H (by simp)
                · rw [if_neg c9] at H
                  exact absurd H (by simp)
              · rw [if_neg c7] at H
                have c7b0 : decide (0 < (x3_1.length : Int)) = false := decide_eq_false c7
                have c7b1 : decide (0 < x3_1.length) = false := decide_eq_false (by omega)
                clear c7
                by_cases c25 : x3_1.length < 8796093022208
                · rw [if_pos c25] at H
                  have LMc25 := Aside0.mk c25
                  clear c25
                  obtain ⟨y147, hy147⟩ : ∃ y_ : List (S129), y_ = (x3_1 ++ [(⟨wrap64 (s0_0 + (wrap64 (4 * x4_1))), 4⟩ : S129)]) := ⟨_, rfl⟩
                  replace H : (dowelref05_Heap_Holes.l0 k1 y147 (wrap64 (x4_1 + 1)) s0_0 s0_1 s0_2) = some (r1, r2, r3) := by first | (rw [hy147]; with_reducible exact H) | (have H2_ := (Option.bind_some _ _).symm.trans H; rw [hy147]; with_reducible exact H2_) | (have H2_ := (Option.bind_some _ _).symm.trans H; with_reducible exact H2_) | with_reducible exact H | (rw [hy147]; exact H) | exact H
                  have Ny147 := Aside0.mk hy147
                  clear hy147
                  have H' := Aside0.mk H
                  clear H
                  obtain ⟨ASz26_2, cSz26_2, HGz26, hgz26, HSz26_2⟩ := HI0.out
                  have hcz26_0 := cellS121_0 HGz26
                  have hcz26_1 := cellS121_1 HGz26
                  have hcz26_2 := cellS121_2 HGz26
                  have hfz26_0 := blk_frozen HGz26 0
                  have hfz26_1 := blk_frozen HGz26 1
                  clear HGz26 hgz26
                  have p140 : 0 ≤ (x4_1 : Int) := of_decide_eq_true (by first | (with_reducible assumption) | assumption)
                  have q140 : x4_1 < (s0_2.length : Int) := of_decide_eq_true (by first | (with_reducible assumption) | assumption)
                  obtain ⟨ad140, e140, hx140_0⟩ := Kd.at_bool HSz26_2 x4_1 p140 q140
                  (try rw [← Nbq4.out] at hx140_0)
                  cases e140
                  replace hx140_0 := pw_cell_below HB.out hx140_0
                  replace p140 := eq_true p140
                  replace q140 := eq_true q140
                  obtain ⟨Ao27, co27, eo27⟩ := Kd.R_slice HO_3.out
                  subst eo27
                  go_wp2_with (first | ((with_reducible refine gate_builtin (b := .append) (xs := #[.tmp 53, .tmp 62]) rfl ?_); at_builtin; refine Kd.R_append k129 w.heap.size rfl (.tmp 53) (.tmp 62) 61 129 (.agg #[(.int .i64 0), (.int .i64 0)]) 16 rfl Try.underlying61 info129 rfl (by decide) (by omega) (.slice Ao27 x3_1.length co27) x3_1 (⟨wrap64 (s0_0 + (wrap64 (4 * x4_1))), 4⟩ : S129) [.int .i64 (wrap64 (s0_0 + (wrap64 (4 * x4_1)))), .int .i64 4] (fun _ => True) (fun _ => False) rfl rfl ?aP (fun _ hk => hk.elim) ?aF ?aO (Below.refl _ _) ?aS ?aL ?_; (case aP => exact k129_mkM _ _ _ (⟨wrap64 (s0_0 + (wrap64 (4 * x4_1))), 4⟩ : S129)); (case aF => exact (fun _ _ => trivial)); (case aO => exact (by (with_reducible repeat (first | apply Kd.R_alloc | apply Kd.R_drewN | apply Kd.R_drew)); exact HO_3.out)); (case aS => exact (keep_size (w := w) (g := g) (row := none) (by repeat (first | (with_reducible first | exact HK.out | apply KeepBut.set_ | apply keep_drewN | apply keep_drew | apply keep_alloc) | exact HK.out)))); (case aL => have := LMc25.out; omega); intro v148 w28 ho hb hg hat; rw [← Ny147.out] at ho; have n0_ := Aside0.mk (IsS121.grown (by repeat (first | (with_reducible first | exact HI0.out | apply IsS121.alloc | apply IsS121.drewN | apply IsS121.drew | apply IsS121.set_0 | apply IsS121.set_1) | exact HI0.out)) hg (IsS121.own_ne HI0.out HO_3.out (by decide))); have n1_ := Aside0.mk (below_weaken (by repeat (first | (with_reducible first | exact HB.out | apply below_alloc | apply pw_below_drewN | apply below_drew1 | refine below_set ?_ (IsS121.ge HI0.out)) | exact HB.out)) HL.out hb); have n2_ := Aside0.mk (KeepBut.trans (by repeat (first | (with_reducible first | exact HK.out | apply KeepBut.set_ | apply keep_drewN | apply keep_drew | apply keep_alloc) | exact HK.out)) (KeepBut.of_grown hg g) (Kd.R_base2 HO_3.out)); have n3_ := Aside0.mk (ho); clear HI0; clear HB; clear HK; clear HO_3; have HI0 := n0_; have HB := n1_; have HK := n2_; have HO149 := n3_; clear n0_ n1_ n2_ n3_; clear ho hb hg hat))
                  go_roundg k1
                  case measure => have := HK1.out; omega
                  case rel => exact ⟨(y147), (wrap64 (x4_1 + 1)), (by first | rfl | (simp; done) | (simp [*]; done)), H', ⟨by have := HK1.out; omega⟩, ⟨by (with_reducible repeat (first | apply Kd.R_alloc | apply Kd.R_drewN | apply Kd.R_drew)); exact HO149.out⟩, ⟨by repeat (first | (with_reducible first | exact HI0.out | apply IsS121.alloc | apply IsS121.drewN | apply IsS121.drew | apply IsS121.set_0 | apply IsS121.set_1) | exact HI0.out)⟩, ⟨by repeat (first | (with_reducible first | exact HK.out | apply KeepBut.set_ | apply keep_drewN | apply keep_drew | apply keep_alloc) | exact HK.out)⟩, ⟨by repeat (first | (with_reducible first | exact HB.out | apply below_alloc | apply pw_below_drewN | apply below_drew1 | refine below_set ?_ (IsS121.ge HI0.out)) | exact HB.out)⟩⟩
                · rw [if_neg c25] at H
                  exact absurd H (by simp)
            · rw [if_neg c6] at H
              have c6b0 : decide (0 < x4_1) = false := decide_eq_false c6
              clear c6
              by_cases c29 : x3_1.length < 8796093022208
              · rw [if_pos c29] at H
                have LMc29 := Aside0.mk c29
                clear c29
                obtain ⟨y150, hy150⟩ : ∃ y_ : List (S129), y_ = (x3_1 ++ [(⟨wrap64 (s0_0 + (wrap64 (4 * x4_1))), 4⟩ : S129)]) := ⟨_, rfl⟩
                replace H : (dowelref05_Heap_Holes.l0 k1 y150 (wrap64 (x4_1 + 1)) s0_0 s0_1 s0_2) = some (r1, r2, r3) := by first | (rw [hy150]; with_reducible exact H) | (have H2_ := (Option.bind_some _ _).symm.trans H; rw [hy150]; with_reducible exact H2_) | (have H2_ := (Option.bind_some _ _).symm.trans H; with_reducible exact H2_) | with_reducible exact H | (rw [hy150]; exact H) | exact H
                have Ny150 := Aside0.mk hy150
                clear hy150
                have H' := Aside0.mk H
                clear H
                obtain ⟨ASz30_2, cSz30_2, HGz30, hgz30, HSz30_2⟩ := HI0.out
                have hcz30_0 := cellS121_0 HGz30
                have hcz30_1 := cellS121_1 HGz30
                have hcz30_2 := cellS121_2 HGz30
                have hfz30_0 := blk_frozen HGz30 0
                have hfz30_1 := blk_frozen HGz30 1
                clear HGz30 hgz30
                have p140 : 0 ≤ (x4_1 : Int) := of_decide_eq_true (by first | (with_reducible assumption) | assumption)
                have q140 : x4_1 < (s0_2.length : Int) := of_decide_eq_true (by first | (with_reducible assumption) | assumption)
                obtain ⟨ad140, e140, hx140_0⟩ := Kd.at_bool HSz30_2 x4_1 p140 q140
                (try rw [← Nbq4.out] at hx140_0)
                cases e140
                replace hx140_0 := pw_cell_below HB.out hx140_0
                replace p140 := eq_true p140
                replace q140 := eq_true q140
                obtain ⟨Ao31, co31, eo31⟩ := Kd.R_slice HO_3.out
                subst eo31
                go_wp2_with (first | ((with_reducible refine gate_builtin (b := .append) (xs := #[.tmp 53, .tmp 62]) rfl ?_); at_builtin; refine Kd.R_append k129 w.heap.size rfl (.tmp 53) (.tmp 62) 61 129 (.agg #[(.int .i64 0), (.int .i64 0)]) 16 rfl Try.underlying61 info129 rfl (by decide) (by omega) (.slice Ao31 x3_1.length co31) x3_1 (⟨wrap64 (s0_0 + (wrap64 (4 * x4_1))), 4⟩ : S129) [.int .i64 (wrap64 (s0_0 + (wrap64 (4 * x4_1)))), .int .i64 4] (fun _ => True) (fun _ => False) rfl rfl ?aP (fun _ hk => hk.elim) ?aF ?aO (Below.refl _ _) ?aS ?aL ?_; (case aP => exact k129_mkM _ _ _ (⟨wrap64 (s0_0 + (wrap64 (4 * x4_1))), 4⟩ : S129)); (case aF => exact (fun _ _ => trivial)); (case aO => exact (by (with_reducible repeat (first | apply Kd.R_alloc | apply Kd.R_drewN | apply Kd.R_drew)); exact HO_3.out)); (case aS => exact (keep_size (w := w) (g := g) (row := none) (by repeat (first | (with_reducible first | exact HK.out | apply KeepBut.set_ | apply keep_drewN | apply keep_drew | apply keep_alloc) | exact HK.out)))); (case aL => have := LMc29.out; omega); intro v151 w32 ho hb hg hat; rw [← Ny150.out] at ho; have n0_ := Aside0.mk (IsS121.grown (by repeat (first | (with_reducible first | exact HI0.out | apply IsS121.alloc | apply IsS121.drewN | apply IsS121.drew | apply IsS121.set_0 | apply IsS121.set_1) | exact HI0.out)) hg (IsS121.own_ne HI0.out HO_3.out (by decide))); have n1_ := Aside0.mk (below_weaken (by repeat (first | (with_reducible first | exact HB.out | apply below_alloc | apply pw_below_drewN | apply below_drew1 | refine below_set ?_ (IsS121.ge HI0.out)) | exact HB.out)) HL.out hb); have n2_ := Aside0.mk (KeepBut.trans (by repeat (first | (with_reducible first | exact HK.out | apply KeepBut.set_ | apply keep_drewN | apply keep_drew | apply keep_alloc) | exact HK.out)) (KeepBut.of_grown hg g) (Kd.R_base2 HO_3.out)); have n3_ := Aside0.mk (ho); clear HI0; clear HB; clear HK; clear HO_3; have HI0 := n0_; have HB := n1_; have HK := n2_; have HO152 := n3_; clear n0_ n1_ n2_ n3_; clear ho hb hg hat))
                go_roundg k1
                case measure => have := HK1.out; omega
                case rel => exact ⟨(y150), (wrap64 (x4_1 + 1)), (by first | rfl | (simp; done) | (simp [*]; done)), H', ⟨by have := HK1.out; omega⟩, ⟨by (with_reducible repeat (first | apply Kd.R_alloc | apply Kd.R_drewN | apply Kd.R_drew)); exact HO152.out⟩, ⟨by repeat (first | (with_reducible first | exact HI0.out | apply IsS121.alloc | apply IsS121.drewN | apply IsS121.drew | apply IsS121.set_0 | apply IsS121.set_1) | exact HI0.out)⟩, ⟨by repeat (first | (with_reducible first | exact HK.out | apply KeepBut.set_ | apply keep_drewN | apply keep_drew | apply keep_alloc) | exact HK.out)⟩, ⟨by repeat (first | (with_reducible first | exact HB.out | apply below_alloc | apply pw_below_drewN | apply below_drew1 | refine below_set ?_ (IsS121.ge HI0.out)) | exact HB.out)⟩⟩
              · rw [if_neg c29] at H
                exact absurd H (by simp)
          · replace c5 := Bool.eq_false_iff.mpr c5
            subst c5
            have H1 : (dowelref05_Heap_Holes.l0 k1 x3_1 (wrap64 (x4_1 + 1)) s0_0 s0_1 s0_2) = some (r1, r2, r3) := by rw [if_neg (show ¬ (false = true) by decide)] at H; exact H
            clear H
            have H := H1
            clear H1
            have H' := Aside0.mk H
            clear H
            obtain ⟨ASz33_2, cSz33_2, HGz33, hgz33, HSz33_2⟩ := HI0.out
            have hcz33_0 := cellS121_0 HGz33
            have hcz33_1 := cellS121_1 HGz33
            have hcz33_2 := cellS121_2 HGz33
            have hfz33_0 := blk_frozen HGz33 0
            have hfz33_1 := blk_frozen HGz33 1
            clear HGz33 hgz33
            have p140 : 0 ≤ (x4_1 : Int) := of_decide_eq_true (by first | (with_reducible assumption) | assumption)
            have q140 : x4_1 < (s0_2.length : Int) := of_decide_eq_true (by first | (with_reducible assumption) | assumption)
            obtain ⟨ad140, e140, hx140_0⟩ := Kd.at_bool HSz33_2 x4_1 p140 q140
            (try rw [← Nbq4.out] at hx140_0)
            cases e140
            replace hx140_0 := pw_cell_below HB.out hx140_0
            replace p140 := eq_true p140
            replace q140 := eq_true q140
            go_wp2
            go_roundg k1
            case measure => have := HK1.out; omega
            case rel => exact ⟨(x3_1), (wrap64 (x4_1 + 1)), (by first | rfl | (simp; done) | (simp [*]; done)), H', ⟨by have := HK1.out; omega⟩, ⟨by (with_reducible repeat (first | apply Kd.R_alloc | apply Kd.R_drewN | apply Kd.R_drew)); exact HO_3.out⟩, ⟨by repeat (first | (with_reducible first | exact HI0.out | apply IsS121.alloc | apply IsS121.drewN | apply IsS121.drew | apply IsS121.set_0 | apply IsS121.set_1) | exact HI0.out)⟩, ⟨by repeat (first | (with_reducible first | exact HK.out | apply KeepBut.set_ | apply keep_drewN | apply keep_drew | apply keep_alloc) | exact HK.out)⟩, ⟨by repeat (first | (with_reducible first | exact HB.out | apply below_alloc | apply pw_below_drewN | apply below_drew1 | refine below_set ?_ (IsS121.ge HI0.out)) | exact HB.out)⟩⟩
        · rw [if_neg c3] at H
          exact absurd H (by simp)
      · rw [if_neg c2] at H
        have c2b0 : decide (x4_1 < (s0_2.length : Int)) = false := decide_eq_false c2
        clear c2
        simp only [Option.some.injEq, Prod.mk.injEq] at H
        obtain ⟨rfl, rfl, rfl⟩ := H
        obtain ⟨ASz34_2, cSz34_2, HGz34, hgz34, HSz34_2⟩ := HI0.out
        have hcz34_0 := cellS121_0 HGz34
        have hcz34_1 := cellS121_1 HGz34
        have hcz34_2 := cellS121_2 HGz34
        have hfz34_0 := blk_frozen HGz34 0
        have hfz34_1 := blk_frozen HGz34 1
        clear HGz34 hgz34
        go_wp2
        go_ret
        exact ⟨_, by first | rfl | (simp [errW_none, errW_some] <;> rfl) | (simp [*, errW_none, errW_some] <;> rfl), by (with_reducible repeat (first | apply Kd.R_alloc | apply Kd.R_drewN | apply Kd.R_drew)); exact HO_3.out, by repeat (first | (with_reducible first | exact HI0.out | apply IsS121.alloc | apply IsS121.drewN | apply IsS121.drew | apply IsS121.set_0 | apply IsS121.set_1) | exact HI0.out), by repeat (first | (with_reducible first | exact HB.out | apply below_alloc | apply pw_below_drewN | apply below_drew1 | refine below_set ?_ (IsS121.ge HI0.out)) | exact HB.out), by repeat (first | (with_reducible first | exact HK.out | apply KeepBut.set_ | apply keep_drewN | apply keep_drew | apply keep_alloc) | exact HK.out)⟩

-- NOT PRINTED: function 5 (dowellaw05_HeapPlays)

end Go.Proofs.Ytkeijpngfnmjoaa.QHeapPlays
