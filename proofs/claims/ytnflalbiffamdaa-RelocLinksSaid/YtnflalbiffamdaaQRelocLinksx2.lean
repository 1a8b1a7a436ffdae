/- RelocLinks: the machine's side, written by a program of this workplace: for each Go function the answers that its Lean function tells. No condition but that the Lean function tells. -/
import Derived.Test.YtnflalbiffamdaaQRelocLinksx0
import Derived.Test.YtnflalbiffamdaaQRelocLinksx1
namespace Go.Proofs.Ytnflalbiffamdaa.QRelocLinks
open Go.RowKit Go.Proofs.YtnflalbiffamdaaW.PrintWords Go.Proofs.YtnflalbiffamdaaW.PrintLast Go.Proofs.YtnflalbiffamdaaW.PrintMore Go.Proofs.Ytnflalbiffamdaa.MineBase
attribute [local go_sem] max2_int min2_int max_two min_two max_three min_three max_four min_four   -- for this text's walks alone
attribute [local go_sem] Go.Proofs.Ytnflalbiffamdaa.MineErr.eql_err Go.Proofs.Ytnflalbiffamdaa.MineErr.neq_err Go.Proofs.Ytnflalbiffamdaa.MineErr.eql_nil_err Go.Proofs.Ytnflalbiffamdaa.MineErr.neq_nil_err
set_option linter.unusedVariables false
set_option linter.unusedSimpArgs false

/-! ### reloc_Link: function 26 -/
mutual
def reloc_Link.l0 : Nat → Int → List Int → List (S64) → Int → Int → Option (List Int × Option Int)
  | 0, _, _, _, _, _ => none
  | k + 1, x1, x8, x17, x18, x19 => if x19 < x18 then (if 0 ≤ x19 then (if x19 < (x17.length : Int) then (if ((rd_T64 x17 x19).f0) < 0 then (reloc_Link.j1 k x1 x8 x17 x18 x19 true ((rd_T64 x17 x19).f0) ((rd_T64 x17 x19).f1)) else (reloc_Link.j1 k x1 x8 x17 x18 x19 (decide (((rd_T64 x17 x19).f0) ≥ (x8.length : Int))) ((rd_T64 x17 x19).f0) ((rd_T64 x17 x19).f1))) else (none)) else (none)) else (some (x8, none))
def reloc_Link.j1 : Nat → Int → List Int → List (S64) → Int → Int → Bool → Int → Int → Option (List Int × Option Int)
  | 0, _, _, _, _, _, _, _, _ => none
  | k + 1, x1, x8, x17, x18, x19, x32, x136000, x136001 => if x32 = true then (some (([] : List Int), some 4)) else (if 0 ≤ x136000 then (if x136000 < (x8.length : Int) then ((ins_Get.f (rd x8 x136000)).bind fun bt137 => (if bt137.2.2.2.2 = true then (reloc_Link.j2 k x1 x8 bt137.2.2.2.2 x17 x18 x19 (bt137.1 == 20) x136000 x136001 bt137.1 bt137.2.1 bt137.2.2.1 bt137.2.2.2.1) else (reloc_Link.j2 k x1 x8 bt137.2.2.2.2 x17 x18 x19 false x136000 x136001 bt137.1 bt137.2.1 bt137.2.2.1 bt137.2.2.2.1))) else (none)) else (none))
def reloc_Link.j2 : Nat → Int → List Int → Bool → List (S64) → Int → Int → Bool → Int → Int → Int → Int → Int → Int → Option (List Int × Option Int)
  | 0, _, _, _, _, _, _, _, _, _, _, _, _, _ => none
  | k + 1, x1, x8, x12, x17, x18, x19, x44, x136000, x136001, x143000, x143001, x143002, x143003 => if x44 = true then ((ins_Put.f x143000 x143001 x143002 (wrap64 (Int.tdiv (wrap64 (x136001 - (wrap64 ((wrap64 (x1 + (wrap64 (4 * x136000)))) + 4)))) 4))).bind fun bt143 => (if bt143.2.isNone = true then (if 0 ≤ x136000 then (if x136000 < (x8.length : Int) then (reloc_Link.l0 k x1 (x8.set (x136000 : Int).toNat bt143.1) x17 x18 (wrap64 (x19 + 1))) else (none)) else (none)) else (some (([] : List Int), some 4)))) else (if x12 = true then (reloc_Link.j3 k x1 x8 x17 x18 x19 (x143000 == 1) x136000 x136001 x143000 x143001 x143002 x143003) else (reloc_Link.j3 k x1 x8 x17 x18 x19 false x136000 x136001 x143000 x143001 x143002 x143003))
def reloc_Link.j3 : Nat → Int → List Int → List (S64) → Int → Int → Bool → Int → Int → Int → Int → Int → Int → Option (List Int × Option Int)
  | 0, _, _, _, _, _, _, _, _, _, _, _, _ => none
  | k + 1, x1, x8, x17, x18, x19, x62, x136000, x136001, x143000, x143001, x143002, x143003 => if x62 = true then ((ins_Put.f x143000 x143001 x143002 x136001).bind fun bt147 => (if bt147.2.isNone = true then (if 0 ≤ x136000 then (if x136000 < (x8.length : Int) then (reloc_Link.l0 k x1 (x8.set (x136000 : Int).toNat bt147.1) x17 x18 (wrap64 (x19 + 1))) else (none)) else (none)) else (some (([] : List Int), some 4)))) else (some (([] : List Int), some 4))
end
def reloc_Link.f (k : Nat) (l0 : List Int) (a1 : Int) (l2 : List (S64)) : Option (List Int × Option Int) := (slices_Clone_uint32_uint32.f l0).bind fun t131 => (reloc_Link.l0 k a1 t131 l2 (l2.length : Int) 0)
theorem reloc_Link.mono_l : ∀ k, (∀ y0 y1 y2 y3 y4, LeO (reloc_Link.l0 k y0 y1 y2 y3 y4) (reloc_Link.l0 (k + 1) y0 y1 y2 y3 y4)) ∧ (∀ y0 y1 y2 y3 y4 y5 y6 y7, LeO (reloc_Link.j1 k y0 y1 y2 y3 y4 y5 y6 y7) (reloc_Link.j1 (k + 1) y0 y1 y2 y3 y4 y5 y6 y7)) ∧ (∀ y0 y1 y2 y3 y4 y5 y6 y7 y8 y9 y10 y11 y12, LeO (reloc_Link.j2 k y0 y1 y2 y3 y4 y5 y6 y7 y8 y9 y10 y11 y12) (reloc_Link.j2 (k + 1) y0 y1 y2 y3 y4 y5 y6 y7 y8 y9 y10 y11 y12)) ∧ (∀ y0 y1 y2 y3 y4 y5 y6 y7 y8 y9 y10 y11, LeO (reloc_Link.j3 k y0 y1 y2 y3 y4 y5 y6 y7 y8 y9 y10 y11) (reloc_Link.j3 (k + 1) y0 y1 y2 y3 y4 y5 y6 y7 y8 y9 y10 y11))
  | 0 => ⟨fun _ _ _ _ _ r h => by simp [reloc_Link.l0] at h, fun _ _ _ _ _ _ _ _ r h => by simp [reloc_Link.j1] at h, fun _ _ _ _ _ _ _ _ _ _ _ _ _ r h => by simp [reloc_Link.j2] at h, fun _ _ _ _ _ _ _ _ _ _ _ _ r h => by simp [reloc_Link.j3] at h⟩
  | k + 1 => by
    obtain ⟨ih0, ih1, ih2, ih3⟩ := reloc_Link.mono_l k
    refine ⟨?_, ?_, ?_, ?_⟩
    · intro y0 y1 y2 y3 y4
      unfold reloc_Link.l0
      repeat' first
      | (with_reducible exact ih0 _ _ _ _ _)
      | (with_reducible exact ih1 _ _ _ _ _ _ _ _)
      | (with_reducible exact ih2 _ _ _ _ _ _ _ _ _ _ _ _ _)
      | (with_reducible exact ih3 _ _ _ _ _ _ _ _ _ _ _ _)
      | (with_reducible exact LeO.refl _)
      | (with_reducible exact LeO.none _)
      | (with_reducible refine LeO.ite ?_ ?_)
      | (with_reducible refine LeO.bind ?_ (fun _ => ?_))
      | exact ih0 _ _ _ _ _
      | exact ih1 _ _ _ _ _ _ _ _
      | exact ih2 _ _ _ _ _ _ _ _ _ _ _ _ _
      | exact ih3 _ _ _ _ _ _ _ _ _ _ _ _
      | exact LeO.none _
      | refine LeO.ite ?_ ?_
      | refine LeO.bind ?_ (fun _ => ?_)
    · intro y0 y1 y2 y3 y4 y5 y6 y7
      unfold reloc_Link.j1
      repeat' first
      | (with_reducible exact ih0 _ _ _ _ _)
      | (with_reducible exact ih1 _ _ _ _ _ _ _ _)
      | (with_reducible exact ih2 _ _ _ _ _ _ _ _ _ _ _ _ _)
      | (with_reducible exact ih3 _ _ _ _ _ _ _ _ _ _ _ _)
      | (with_reducible exact LeO.refl _)
      | (with_reducible exact LeO.none _)
      | (with_reducible refine LeO.ite ?_ ?_)
      | (with_reducible refine LeO.bind ?_ (fun _ => ?_))
      | exact ih0 _ _ _ _ _
      | exact ih1 _ _ _ _ _ _ _ _
      | exact ih2 _ _ _ _ _ _ _ _ _ _ _ _ _
      | exact ih3 _ _ _ _ _ _ _ _ _ _ _ _
      | exact LeO.none _
      | refine LeO.ite ?_ ?_
      | refine LeO.bind ?_ (fun _ => ?_)
    · intro y0 y1 y2 y3 y4 y5 y6 y7 y8 y9 y10 y11 y12
      unfold reloc_Link.j2
      repeat' first
      | (with_reducible exact ih0 _ _ _ _ _)
      | (with_reducible exact ih1 _ _ _ _ _ _ _ _)
      | (with_reducible exact ih2 _ _ _ _ _ _ _ _ _ _ _ _ _)
      | (with_reducible exact ih3 _ _ _ _ _ _ _ _ _ _ _ _)
      | (with_reducible exact LeO.refl _)
      | (with_reducible exact LeO.none _)
      | (with_reducible refine LeO.ite ?_ ?_)
      | (with_reducible refine LeO.bind ?_ (fun _ => ?_))
      | exact ih0 _ _ _ _ _
      | exact ih1 _ _ _ _ _ _ _ _
      | exact ih2 _ _ _ _ _ _ _ _ _ _ _ _ _
      | exact ih3 _ _ _ _ _ _ _ _ _ _ _ _
      | exact LeO.none _
      | refine LeO.ite ?_ ?_
      | refine LeO.bind ?_ (fun _ => ?_)
    · intro y0 y1 y2 y3 y4 y5 y6 y7 y8 y9 y10 y11
      unfold reloc_Link.j3
      repeat' first
      | (with_reducible exact ih0 _ _ _ _ _)
      | (with_reducible exact ih1 _ _ _ _ _ _ _ _)
      | (with_reducible exact ih2 _ _ _ _ _ _ _ _ _ _ _ _ _)
      | (with_reducible exact ih3 _ _ _ _ _ _ _ _ _ _ _ _)
      | (with_reducible exact LeO.refl _)
      | (with_reducible exact LeO.none _)
      | (with_reducible refine LeO.ite ?_ ?_)
      | (with_reducible refine LeO.bind ?_ (fun _ => ?_))
      | exact ih0 _ _ _ _ _
      | exact ih1 _ _ _ _ _ _ _ _
      | exact ih2 _ _ _ _ _ _ _ _ _ _ _ _ _
      | exact ih3 _ _ _ _ _ _ _ _ _ _ _ _
      | exact LeO.none _
      | refine LeO.ite ?_ ?_
      | refine LeO.bind ?_ (fun _ => ?_)
theorem reloc_Link.mono : ∀ a0 a1 a2 k, LeO (reloc_Link.f k a0 a1 a2) (reloc_Link.f (k + 1) a0 a1 a2) := by
  intro a0 a1 a2 k
  obtain ⟨ih0, ih1, ih2, ih3⟩ := reloc_Link.mono_l k
  unfold reloc_Link.f
  repeat' first
      | (with_reducible exact ih0 _ _ _ _ _)
      | (with_reducible exact ih1 _ _ _ _ _ _ _ _)
      | (with_reducible exact ih2 _ _ _ _ _ _ _ _ _ _ _ _ _)
      | (with_reducible exact ih3 _ _ _ _ _ _ _ _ _ _ _ _)
      | (with_reducible exact LeO.refl _)
      | (with_reducible exact LeO.none _)
      | (with_reducible refine LeO.ite ?_ ?_)
      | (with_reducible refine LeO.bind ?_ (fun _ => ?_))
      | exact ih0 _ _ _ _ _
      | exact ih1 _ _ _ _ _ _ _ _
      | exact ih2 _ _ _ _ _ _ _ _ _ _ _ _ _
      | exact ih3 _ _ _ _ _ _ _ _ _ _ _ _
      | exact LeO.none _
      | refine LeO.ite ?_ ?_
      | refine LeO.bind ?_ (fun _ => ?_)
set_option maxHeartbeats 8000000 in
set_option maxRecDepth 100000 in
theorem reloc_Link.calls (k : Nat) (A0 : Option Addr) (c0 : Nat) (l0 : List Int) (a1 : Int) (A2 : Option Addr) (c2 : Nat) (l2 : List (S64)) (r1 : List Int) (r2 : Option Int) (w : World) (hr0 : Kd.C (Kd.int .u32) w A0 l0.length l0) (hc0 : l0.length ≤ c0) (hr2 : Kd.C k64 w A2 l2.length l2) (hc2 : l2.length ≤ c2) (h : reloc_Link.f k l0 a1 l2 = some (r1, r2)) :
    Calls Try.prog 26 #[.slice A0 l0.length c0, .int .i64 a1, .slice A2 l2.length c2] w fun e w' => ∃ v0_ : Value, e = .returned (.tuple #[v0_, errW r2]) ∧ Kd.R (Kd.int .u32) 22 w' w.heap.size (fun _ => True) v0_ r1 ∧ Below w.heap.size w w' := by
  have hu64 := Try.underlying64
  have hu46 := Try.underlying46
  have hu49 := Try.underlying49
  have hu55 := Try.underlying55
  have HR0 := Aside0.mk hr0
  have HC0 := Aside0.mk hc0
  clear hr0 hc0
  have HR2 := Aside0.mk hr2
  have HC2 := Aside0.mk hc2
  clear hr2 hc2
  have HB := Aside0.mk (Below.refl w.heap.size w)
  have H : ((slices_Clone_uint32_uint32.f l0).bind fun t131 => (reloc_Link.l0 k a1 t131 l2 (l2.length : Int) 0)) = some (r1, r2) := h
  clear h
  replace H := Option.bind_eq_some_iff.mp H
  obtain ⟨t131, A40, H⟩ := H
  replace H : (reloc_Link.l0 k a1 t131 l2 (l2.length : Int) 0) = some (r1, r2) := H
  have A4 := Aside0.mk A40
  clear A40
  have H' := Aside0.mk H
  clear H
  go_enter Try.func26, Try.ntmps26
  go_wp2_with (first | ((with_reducible refine gate_callee (f := 60) rfl ?_); refine goesL_ (some 16) rfl rfl Try.func60 (by kernel_rfl) rfl #[.slice A0 l0.length c0] rfl (by (try simp only [List.map_toArray, List.map_cons, List.map_nil]); first | done | rfl | (simp only [List.length_drop, List.length_take]; rfl)) ?_; (with_reducible refine (slices_Clone_uint32_uint32.calls _ _ l0 t131 _ ?side1 ?side2 A4.out).mono ?_); (case side1 => repeat (first | exact HR0.out | (with_reducible refine Kd.C_alloc ?_ _) | (with_reducible refine Kd.C_drewN ?_ _) | (with_reducible refine Kd.C_drew ?_))); (case side2 => exact HC0.out); rintro e w5 ⟨v132, rfl, ho0, hb⟩; refine ⟨_, rfl, ?_⟩; have n0_ := Aside0.mk (Kd.R_lower ho0 (below_size (by repeat (first | (with_reducible first | exact HB.out | apply below_alloc | apply pw_below_drewN | apply below_drew1) | exact HB.out)))); have n1_ := Aside0.mk (below_step (by repeat (first | (with_reducible first | exact HB.out | apply below_alloc | apply pw_below_drewN | apply below_drew1) | exact HB.out)) hb); clear HB; have HO133 := n0_; have HB := n1_; clear n0_ n1_; (try clear hb); (try clear hb2); (try clear hk); (try clear hi); (try clear ho0)))
  go_loopg [19] k (fun kq v19 w' => ∃ (x8_1 : List Int) (x19_1 : Int), v19 = .int .i64 x19_1 ∧ Aside0 (reloc_Link.l0 kq a1 x8_1 l2 (l2.length : Int) x19_1 = some (r1, r2)) ∧ Aside0 (kq ≤ k) ∧ Aside0 (Kd.R (Kd.int .u32) 22 w' w.heap.size (fun _ => True) v132 x8_1) ∧ Aside0 (Below w.heap.size w w'))
  case atStart => exact ⟨(t131), (0), (by first | rfl | (simp; done) | (simp [*]; done)), H', ⟨Nat.le_refl _⟩, ⟨by (with_reducible repeat (first | apply Kd.R_alloc | apply Kd.R_drewN | apply Kd.R_drew)); exact HO133.out⟩, ⟨by repeat (first | (with_reducible first | exact HB.out | apply below_alloc | apply pw_below_drewN | apply below_drew1) | exact HB.out)⟩⟩
  case round =>
    clear H'
    try clear c2
    try clear p2
    obtain ⟨x8_1, x19_1, rfl, HA, HK1, HO_8, HB⟩ := hrel
    cases gk with
    | zero => exact absurd HA.out (by simp [reloc_Link.l0])
    | succ k1 =>
      have H := HA.out
      clear HA
      simp only [reloc_Link.l0] at H
      by_cases c6 : x19_1 < (l2.length : Int)
      · rw [if_pos c6] at H
        have c6b0 : decide (x19_1 < (l2.length : Int)) = true := decide_eq_true c6
        clear c6
        by_cases c7 : 0 ≤ x19_1
        · rw [if_pos c7] at H
          have c7b0 : decide (0 ≤ x19_1) = true := decide_eq_true c7
          clear c7
          by_cases c8 : x19_1 < (l2.length : Int)
          · rw [if_pos c8] at H
            have c8b0 : decide (x19_1 < (l2.length : Int)) = true := decide_eq_true c8
            clear c8
            have HC9 := Aside0.mk H
            clear H
            have p134 : 0 ≤ (x19_1 : Int) := of_decide_eq_true (by first | (with_reducible assumption) | assumption)
            have q134 : x19_1 < (l2.length : Int) := of_decide_eq_true (by first | (with_reducible assumption) | assumption)
            obtain ⟨ad134, e134, hx134_0, hx134_1⟩ := at_T64 HR2.out x19_1 p134 q134
            cases e134
            replace hx134_0 := (HB.out.cell (World.block_lt_of_cell? w _ hx134_0)).trans hx134_0
            replace hx134_1 := (HB.out.cell (World.block_lt_of_cell? w _ hx134_1)).trans hx134_1
            replace p134 := eq_true p134
            replace q134 := eq_true q134
            go_upto_region 5 with (first | ((with_reducible refine gate_dst (N := 10) rfl ?_); (try (refine gate_guard (by rfl) ?_; dsimp only)); refine box_event ?hg (N := 10) ?hd (cs := #[.int .i64 0, .int .i64 0]) (t := 64) ?hr ?_; (case hd => rfl); (case hg => rfl); (case hr => first | (go_simp; done) | (go_simp; rfl)); intro gb135 hg w10 hbox hb; have n0_ := Aside0.mk (Kd.R_below (by (with_reducible repeat (first | apply Kd.R_alloc | apply Kd.R_drewN | apply Kd.R_drew)); exact HO_8.out) hb); have n1_ := Aside0.mk (below_step (by repeat (first | (with_reducible first | exact HB.out | apply below_alloc | apply pw_below_drewN | apply below_drew1) | exact HB.out)) hb); have n2_ := Aside0.mk (hbox); have n3_ := Aside0.mk ((by rw [hg]; exact (below_size (by repeat (first | (with_reducible first | exact HB.out | apply below_alloc | apply pw_below_drewN | apply below_drew1) | exact HB.out))) : w.heap.size ≤ gb135)); have n4_ := Aside0.mk ((by rw [hg]; exact (below_size (by repeat (first | (with_reducible first | exact HB.out | apply below_alloc | apply pw_below_drewN | apply below_drew1) | exact HB.out))) : w.heap.size ≤ gb135)); clear HO_8; clear HB; have HO_8 := n0_; have HB := n1_; have BK135 := n2_; have GW135 := n3_; have GE135 := n4_; clear n0_ n1_ n2_ n3_ n4_; clear hb hbox hg; have hcz11_0 : w10.cell? ⟨gb135, 0, none⟩ = some (.int .i64 0) := (blk_cell BK135.out 0).trans rfl; have hcz11_1 : w10.cell? ⟨gb135, 1, none⟩ = some (.int .i64 0) := (blk_cell BK135.out 1).trans rfl; have hfz11_0 := blk_frozen BK135.out 0; have hfz11_1 := blk_frozen BK135.out 1))
            (try simp only [Act.put, List.setIfInBounds_toArray, List.set_cons_zero, List.set_cons_succ])
            go_cut [32] (fun v32 wc => ∃ (kq : Nat) (x32_8 : Bool), v32 = .bool x32_8 ∧ Aside0 (reloc_Link.j1 kq a1 x8_1 l2 (l2.length : Int) x19_1 x32_8 ((rd_T64 l2 x19_1).f0) ((rd_T64 l2 x19_1).f1) = some (r1, r2)) ∧ Aside0 (kq ≤ k1) ∧ Aside0 (Kd.R (Kd.int .u32) 22 wc w.heap.size (fun _ => True) v132 x8_1) ∧ Aside0 (wc.heap[gb135]? = some (.cells #[.int .i64 ((rd_T64 l2 x19_1).f0), .int .i64 ((rd_T64 l2 x19_1).f1)] 64 (0, 0))) ∧ Aside0 (Below w.heap.size w wc))
            case first =>
              have H := HC9.out
              clear HC9
              by_cases c12 : ((rd_T64 l2 x19_1).f0) < 0
              · rw [if_pos c12] at H
                have c12b0 : decide (((rd_T64 l2 x19_1).f0) < 0) = true := decide_eq_true c12
                clear c12
                (first | rw [c12b0] | (simp only [i64_w, i32_w]; rw [c12b0]) | skip)
                have H' := Aside0.mk H
                clear H
                have hcz13_0 : w10.cell? ⟨gb135, 0, none⟩ = some (.int .i64 0) := (blk_cell BK135.out 0).trans rfl
                have hcz13_1 : w10.cell? ⟨gb135, 1, none⟩ = some (.int .i64 0) := (blk_cell BK135.out 1).trans rfl
                have hfz13_0 := blk_frozen BK135.out 0
                have hfz13_1 := blk_frozen BK135.out 1
                go_wp2
                go_meet
                case rel => exact ⟨_, (true), (by first | rfl | (simp; done) | (simp [*]; done)), H', ⟨by have := HK1.out; first | omega | exact Nat.le_refl _⟩, ⟨by (with_reducible repeat (first | apply Kd.R_alloc | apply Kd.R_drewN | apply Kd.R_drew)); exact Kd.R_mono (Kd.R_far (p := ⟨gb135, 1, none⟩) (Kd.R_far (p := ⟨gb135, 0, none⟩) (Kd.R_types HO_8.out BK135.out (by decide)) (fun _ hk => hk.2) (.int .i64 ((rd_T64 l2 x19_1).f0))) (fun _ hk => hk.2) (.int .i64 ((rd_T64 l2 x19_1).f1))) (fun _ hk => trivial)⟩, ⟨by (with_reducible repeat (first | refine blk_drewN ?_ _ | refine blk_drew ?_ | refine blk_alloc ?_ _)); refine blk_put (cs := #[.int .i64 ((rd_T64 l2 x19_1).f0), .int .i64 0]) ?_ 1 _ rfl; (with_reducible repeat (first | refine blk_drewN ?_ _ | refine blk_drew ?_ | refine blk_alloc ?_ _)); refine blk_put (cs := #[.int .i64 0, .int .i64 0]) ?_ 0 _ rfl; (with_reducible repeat (first | refine blk_drewN ?_ _ | refine blk_drew ?_ | refine blk_alloc ?_ _)); exact BK135.out⟩, ⟨by repeat (first | (with_reducible first | exact HB.out | apply below_alloc | apply pw_below_drewN | apply below_drew1 | refine below_set ?_ GE135.out) | exact HB.out)⟩⟩
              · rw [if_neg c12] at H
                have c12b0 : decide (((rd_T64 l2 x19_1).f0) < 0) = false := decide_eq_false c12
                clear c12
                (first | rw [c12b0] | (simp only [i64_w, i32_w]; rw [c12b0]) | skip)
                have H' := Aside0.mk H
                clear H
                have hcz14_0 : w10.cell? ⟨gb135, 0, none⟩ = some (.int .i64 0) := (blk_cell BK135.out 0).trans rfl
                have hcz14_1 : w10.cell? ⟨gb135, 1, none⟩ = some (.int .i64 0) := (blk_cell BK135.out 1).trans rfl
                have hfz14_0 := blk_frozen BK135.out 0
                have hfz14_1 := blk_frozen BK135.out 1
                obtain ⟨Ao15, co15, eo15⟩ := Kd.R_slice HO_8.out
                subst eo15
                go_wp2
                go_meet
                case rel => exact ⟨_, (decide (((rd_T64 l2 x19_1).f0) ≥ (x8_1.length : Int))), (by first | rfl | (simp; done) | (simp [*]; done)), H', ⟨by have := HK1.out; first | omega | exact Nat.le_refl _⟩, ⟨by (with_reducible repeat (first | apply Kd.R_alloc | apply Kd.R_drewN | apply Kd.R_drew)); exact Kd.R_mono (Kd.R_far (p := ⟨gb135, 1, none⟩) (Kd.R_far (p := ⟨gb135, 0, none⟩) (Kd.R_types HO_8.out BK135.out (by decide)) (fun _ hk => hk.2) (.int .i64 ((rd_T64 l2 x19_1).f0))) (fun _ hk => hk.2) (.int .i64 ((rd_T64 l2 x19_1).f1))) (fun _ hk => trivial)⟩, ⟨by (with_reducible repeat (first | refine blk_drewN ?_ _ | refine blk_drew ?_ | refine blk_alloc ?_ _)); refine blk_put (cs := #[.int .i64 ((rd_T64 l2 x19_1).f0), .int .i64 0]) ?_ 1 _ rfl; (with_reducible repeat (first | refine blk_drewN ?_ _ | refine blk_drew ?_ | refine blk_alloc ?_ _)); refine blk_put (cs := #[.int .i64 0, .int .i64 0]) ?_ 0 _ rfl; (with_reducible repeat (first | refine blk_drewN ?_ _ | refine blk_drew ?_ | refine blk_alloc ?_ _)); exact BK135.out⟩, ⟨by repeat (first | (with_reducible first | exact HB.out | apply below_alloc | apply pw_below_drewN | apply below_drew1 | refine below_set ?_ GE135.out) | exact HB.out)⟩⟩
            case rest =>
              clear HC9
              try clear c1
              try clear p1
              try clear q1
              try clear hx1
              try clear c2
              try clear p2
              try clear c6
              try clear c6b0
              try clear c7
              try clear c7b0
              try clear c8
              try clear c8b0
              try clear c12
              try clear c12b0
              try clear p13
              try clear q13
              try clear hx13
              try clear hcz11_0
              try clear hcz11_1
              try clear hcz13_0
              try clear hcz13_1
              try clear hcz14_0
              try clear hcz14_1
              try clear hfz11_0
              try clear hfz11_1
              try clear hfz13_0
              try clear hfz13_1
              try clear hfz14_0
              try clear hfz14_1
              try clear hx134_0
              try clear hx134_1
              try clear p134
              try clear p2
              try clear q134
              obtain ⟨kq, x32_8, rfl, HA, HJ8, HO_8, BK135, HB⟩ := hcut
              cases kq with
              | zero => exact absurd HA.out (by simp [reloc_Link.j1])
              | succ kj8 =>
                have H := HA.out
                clear HA
                simp only [reloc_Link.j1] at H
                by_cases c16 : x32_8 = true
                · subst c16
                  have H1 : (some (([] : List Int), some 4)) = some (r1, r2) := by rw [if_pos rfl] at H; exact H
                  clear H
                  have H := H1
                  clear H1
                  simp only [Option.some.injEq, Prod.mk.injEq] at H
                  obtain ⟨rfl, rfl⟩ := H
                  go_wp2
                  go_ret2
                  exact ⟨_, by first | rfl | (simp [errW_none, errW_some] <;> rfl) | (simp [*, errW_none, errW_some] <;> rfl), by first | exact Kd.R_nil _ _ _ _ _ | exact Kd.N_nil _ _ _ _ _ | exact Kd.V_nil _ _ _ _ _ | exact Kd.Q_nil _ _ _ _ _ | exact Kd.S_nil _ _ _ _ _, by repeat (first | (with_reducible first | exact HB.out | apply below_alloc | apply pw_below_drewN | apply below_drew1 | refine below_set ?_ GE135.out) | exact HB.out)⟩
                · replace c16 := Bool.eq_false_iff.mpr c16
                  subst c16
                  have H1 : (if 0 ≤ ((rd_T64 l2 x19_1).f0) then (if ((rd_T64 l2 x19_1).f0) < (x8_1.length : Int) then ((ins_Get.f (rd x8_1 ((rd_T64 l2 x19_1).f0))).bind fun bt137 => (if bt137.2.2.2.2 = true then (reloc_Link.j2 kj8 a1 x8_1 bt137.2.2.2.2 l2 (l2.length : Int) x19_1 (bt137.1 == 20) ((rd_T64 l2 x19_1).f0) ((rd_T64 l2 x19_1).f1) bt137.1 bt137.2.1 bt137.2.2.1 bt137.2.2.2.1) else (reloc_Link.j2 kj8 a1 x8_1 bt137.2.2.2.2 l2 (l2.length : Int) x19_1 false ((rd_T64 l2 x19_1).f0) ((rd_T64 l2 x19_1).f1) bt137.1 bt137.2.1 bt137.2.2.1 bt137.2.2.2.1))) else (none)) else (none)) = some (r1, r2) := by rw [if_neg (show ¬ (false = true) by decide)] at H; exact H
                  clear H
                  have H := H1
                  clear H1
                  by_cases c17 : 0 ≤ ((rd_T64 l2 x19_1).f0)
                  · rw [if_pos c17] at H
                    have c17b0 : decide (0 ≤ ((rd_T64 l2 x19_1).f0)) = true := decide_eq_true c17
                    clear c17
                    by_cases c18 : ((rd_T64 l2 x19_1).f0) < (x8_1.length : Int)
                    · rw [if_pos c18] at H
                      have c18b0 : decide (((rd_T64 l2 x19_1).f0) < (x8_1.length : Int)) = true := decide_eq_true c18
                      clear c18
                      replace H := Option.bind_eq_some_iff.mp H
                      obtain ⟨⟨t137, t138, t139, t140, t141⟩, A190, H⟩ := H
                      replace H : (if t141 = true then (reloc_Link.j2 kj8 a1 x8_1 t141 l2 (l2.length : Int) x19_1 (t137 == 20) ((rd_T64 l2 x19_1).f0) ((rd_T64 l2 x19_1).f1) t137 t138 t139 t140) else (reloc_Link.j2 kj8 a1 x8_1 t141 l2 (l2.length : Int) x19_1 false ((rd_T64 l2 x19_1).f0) ((rd_T64 l2 x19_1).f1) t137 t138 t139 t140)) = some (r1, r2) := H
                      have A19 := Aside0.mk A190
                      clear A190
                      have HC20 := Aside0.mk H
                      clear H
                      have hcz21_0 : wc.cell? ⟨gb135, 0, none⟩ = some (.int .i64 ((rd_T64 l2 x19_1).f0)) := (blk_cell BK135.out 0).trans rfl
                      have hcz21_1 : wc.cell? ⟨gb135, 1, none⟩ = some (.int .i64 ((rd_T64 l2 x19_1).f1)) := (blk_cell BK135.out 1).trans rfl
                      have hfz21_0 := blk_frozen BK135.out 0
                      have hfz21_1 := blk_frozen BK135.out 1
                      obtain ⟨Ao22, co22, eo22⟩ := Kd.R_slice HO_8.out
                      subst eo22
                      have p136 : 0 ≤ (((rd_T64 l2 x19_1).f0) : Int) := of_decide_eq_true (by first | (with_reducible assumption) | assumption)
                      have q136 : ((rd_T64 l2 x19_1).f0) < (x8_1.length : Int) := of_decide_eq_true (by first | (with_reducible assumption) | assumption)
                      obtain ⟨ad136, e136, hx136_0⟩ := Kd.at_int (Kd.R_reads' HO_8.out).2.2 ((rd_T64 l2 x19_1).f0) p136 q136
                      cases e136
                      replace p136 := eq_true p136
                      replace q136 := eq_true q136
                      go_upto_region 9 with (first | ((with_reducible refine gate_callee (f := 54) rfl ?_); refine goesL_ (some 40) rfl rfl Try.func54 (by kernel_rfl) rfl #[.int .u32 (rd x8_1 ((rd_T64 l2 x19_1).f0))] rfl (by (try simp only [List.map_toArray, List.map_cons, List.map_nil]); first | done | rfl | (simp only [List.length_drop, List.length_take]; rfl)) ?_; (with_reducible refine (ins_Get.calls (rd x8_1 ((rd_T64 l2 x19_1).f0)) t137 t138 t139 t140 t141 _ A19.out).mono ?_); rintro e w23 ⟨rfl, hb⟩; refine ⟨_, rfl, ?_⟩; have n0_ := Aside0.mk (Kd.R_below (by (with_reducible repeat (first | apply Kd.R_alloc | apply Kd.R_drewN | apply Kd.R_drew)); exact HO_8.out) hb); have n1_ := Aside0.mk (blk_below (g := gb135) (o := .cells #[.int .i64 ((rd_T64 l2 x19_1).f0), .int .i64 ((rd_T64 l2 x19_1).f1)] 64 (0, 0)) (by (with_reducible repeat (first | refine blk_drewN ?_ _ | refine blk_drew ?_ | refine blk_alloc ?_ _)); exact BK135.out) hb); have n2_ := Aside0.mk (below_step (by repeat (first | (with_reducible first | exact HB.out | apply below_alloc | apply pw_below_drewN | apply below_drew1 | refine below_set ?_ GE135.out) | exact HB.out)) hb); clear HO_8; clear BK135; clear HB; have HO_8 := n0_; have BK135 := n1_; have HB := n2_; clear n0_ n1_ n2_; (try clear hb); (try clear hb2); (try clear hk); (try clear hi)) | ((with_reducible refine gate_dst (N := 11) rfl ?_); (try (refine gate_guard (by rfl) ?_; dsimp only)); refine box_event ?hg (N := 11) ?hd (cs := #[.int .i64 0, .int .i64 0, .int .i64 0, .int .i64 0]) (t := 46) ?hr ?_; (case hd => rfl); (case hg => rfl); (case hr => first | (go_simp; done) | (go_simp; rfl)); intro gb142 hg w24 hbox hb; have n0_ := Aside0.mk (Kd.R_below (by (with_reducible repeat (first | apply Kd.R_alloc | apply Kd.R_drewN | apply Kd.R_drew)); exact HO_8.out) hb); have n1_ := Aside0.mk (blk_below (g := gb135) (o := .cells #[.int .i64 ((rd_T64 l2 x19_1).f0), .int .i64 ((rd_T64 l2 x19_1).f1)] 64 (0, 0)) (by (with_reducible repeat (first | refine blk_drewN ?_ _ | refine blk_drew ?_ | refine blk_alloc ?_ _)); exact BK135.out) hb); have n2_ := Aside0.mk (below_step (by repeat (first | (with_reducible first | exact HB.out | apply below_alloc | apply pw_below_drewN | apply below_drew1 | refine below_set ?_ GE135.out) | exact HB.out)) hb); have n3_ := Aside0.mk (hbox); have n4_ := Aside0.mk ((by rw [hg]; exact (below_size (by repeat (first | (with_reducible first | exact HB.out | apply below_alloc | apply pw_below_drewN | apply below_drew1 | refine below_set ?_ GE135.out) | exact HB.out))) : w.heap.size ≤ gb142)); have n5_ := Aside0.mk ((by rw [hg]; exact (below_size (by repeat (first | (with_reducible first | exact HB.out | apply below_alloc | apply pw_below_drewN | apply below_drew1 | refine below_set ?_ GE135.out) | exact HB.out))) : w.heap.size ≤ gb142)); have n6_ := Aside0.mk ((by rw [hg]; exact Nat.ne_of_lt (blk_lt (g := gb135) (o := .cells #[.int .i64 ((rd_T64 l2 x19_1).f0), .int .i64 ((rd_T64 l2 x19_1).f1)] 64 (0, 0)) (by (with_reducible repeat (first | refine blk_drewN ?_ _ | refine blk_drew ?_ | refine blk_alloc ?_ _)); exact BK135.out)) : gb135 ≠ gb142)); have n7_ := Aside0.mk ((by rw [hg]; exact Nat.ne_of_gt (blk_lt (g := gb135) (o := .cells #[.int .i64 ((rd_T64 l2 x19_1).f0), .int .i64 ((rd_T64 l2 x19_1).f1)] 64 (0, 0)) (by (with_reducible repeat (first | refine blk_drewN ?_ _ | refine blk_drew ?_ | refine blk_alloc ?_ _)); exact BK135.out)) : gb142 ≠ gb135)); clear HO_8; clear BK135; clear HB; have HO_8 := n0_; have BK135 := n1_; have HB := n2_; have BK142 := n3_; have GW142 := n4_; have GE142 := n5_; have NB135_142 := n6_; have NB142_135 := n7_; clear n0_ n1_ n2_ n3_ n4_ n5_ n6_ n7_; clear hb hbox hg; have hnb25 := NB142_135.out; have hnc25 := NB135_142.out; have hcz26_0 : w24.cell? ⟨gb142, 0, none⟩ = some (.int .i64 0) := (blk_cell BK142.out 0).trans rfl; have hcz26_1 : w24.cell? ⟨gb142, 1, none⟩ = some (.int .i64 0) := (blk_cell BK142.out 1).trans rfl; have hcz26_2 : w24.cell? ⟨gb142, 2, none⟩ = some (.int .i64 0) := (blk_cell BK142.out 2).trans rfl; have hcz26_3 : w24.cell? ⟨gb142, 3, none⟩ = some (.int .i64 0) := (blk_cell BK142.out 3).trans rfl; have hfz26_0 := blk_frozen BK142.out 0; have hfz26_1 := blk_frozen BK142.out 1; have hfz26_2 := blk_frozen BK142.out 2; have hfz26_3 := blk_frozen BK142.out 3))
                      (try simp only [Act.put, List.setIfInBounds_toArray, List.set_cons_zero, List.set_cons_succ])
                      go_cut [44] (fun v44 wc => ∃ (kq : Nat) (x44_19 : Bool), v44 = .bool x44_19 ∧ Aside0 (reloc_Link.j2 kq a1 x8_1 t141 l2 (l2.length : Int) x19_1 x44_19 ((rd_T64 l2 x19_1).f0) ((rd_T64 l2 x19_1).f1) t137 t138 t139 t140 = some (r1, r2)) ∧ Aside0 (kq ≤ kj8) ∧ Aside0 (Kd.R (Kd.int .u32) 22 wc w.heap.size (fun _ => True) (.slice (some ad136) x8_1.length co22) x8_1) ∧ Aside0 (wc.heap[gb135]? = some (.cells #[.int .i64 ((rd_T64 l2 x19_1).f0), .int .i64 ((rd_T64 l2 x19_1).f1)] 64 (0, 0))) ∧ Aside0 (wc.heap[gb142]? = some (.cells #[.int .i64 t137, .int .i64 t138, .int .i64 t139, .int .i64 t140] 46 (0, 0))) ∧ Aside0 (Below w.heap.size w wc))
                      case first =>
                        have H := HC20.out
                        clear HC20
                        by_cases c27 : t141 = true
                        · subst c27
                          have H1 : (reloc_Link.j2 kj8 a1 x8_1 true l2 (l2.length : Int) x19_1 (t137 == 20) ((rd_T64 l2 x19_1).f0) ((rd_T64 l2 x19_1).f1) t137 t138 t139 t140) = some (r1, r2) := by rw [if_pos rfl] at H; exact H
                          clear H
                          have H := H1
                          clear H1
                          have H' := Aside0.mk H
                          clear H
                          have hnb28 := NB142_135.out
                          have hnc28 := NB135_142.out
                          have hcz29_0 : w24.cell? ⟨gb142, 0, none⟩ = some (.int .i64 0) := (blk_cell BK142.out 0).trans rfl
                          have hcz29_1 : w24.cell? ⟨gb142, 1, none⟩ = some (.int .i64 0) := (blk_cell BK142.out 1).trans rfl
                          have hcz29_2 : w24.cell? ⟨gb142, 2, none⟩ = some (.int .i64 0) := (blk_cell BK142.out 2).trans rfl
                          have hcz29_3 : w24.cell? ⟨gb142, 3, none⟩ = some (.int .i64 0) := (blk_cell BK142.out 3).trans rfl
                          have hfz29_0 := blk_frozen BK142.out 0
                          have hfz29_1 := blk_frozen BK142.out 1
                          have hfz29_2 := blk_frozen BK142.out 2
                          have hfz29_3 := blk_frozen BK142.out 3
                          go_wp2
                          go_meet
                          case rel => exact ⟨_, ((t137 == 20)), (by first | rfl | (simp; done) | (simp [*]; done)), H', ⟨by have := HK1.out; have := HJ8.out; first | omega | exact Nat.le_refl _⟩, ⟨by (with_reducible repeat (first | apply Kd.R_alloc | apply Kd.R_drewN | apply Kd.R_drew)); exact Kd.R_mono (Kd.R_far (p := ⟨gb142, 3, none⟩) (Kd.R_far (p := ⟨gb142, 2, none⟩) (Kd.R_far (p := ⟨gb142, 1, none⟩) (Kd.R_far (p := ⟨gb142, 0, none⟩) (Kd.R_types HO_8.out BK142.out (by decide)) (fun _ hk => hk.2) (.int .i64 t137)) (fun _ hk => hk.2) (.int .i64 t138)) (fun _ hk => hk.2) (.int .i64 t139)) (fun _ hk => hk.2) (.int .i64 t140)) (fun _ hk => trivial)⟩, ⟨by (with_reducible repeat (first | refine blk_drewN ?_ _ | refine blk_drew ?_ | refine blk_alloc ?_ _)); refine blk_far ?_ NB135_142.out _; (with_reducible repeat (first | refine blk_drewN ?_ _ | refine blk_drew ?_ | refine blk_alloc ?_ _)); refine blk_far ?_ NB135_142.out _; (with_reducible repeat (first | refine blk_drewN ?_ _ | refine blk_drew ?_ | refine blk_alloc ?_ _)); refine blk_far ?_ NB135_142.out _; (with_reducible repeat (first | refine blk_drewN ?_ _ | refine blk_drew ?_ | refine blk_alloc ?_ _)); refine blk_far ?_ NB135_142.out _; (with_reducible repeat (first | refine blk_drewN ?_ _ | refine blk_drew ?_ | refine blk_alloc ?_ _)); exact BK135.out⟩, ⟨by (with_reducible repeat (first | refine blk_drewN ?_ _ | refine blk_drew ?_ | refine blk_alloc ?_ _)); refine blk_put (cs := #[.int .i64 t137, .int .i64 t138, .int .i64 t139, .int .i64 0]) ?_ 3 _ rfl; (with_reducible repeat (first | refine blk_drewN ?_ _ | refine blk_drew ?_ | refine blk_alloc ?_ _)); refine blk_put (cs := #[.int .i64 t137, .int .i64 t138, .int .i64 0, .int .i64 0]) ?_ 2 _ rfl; (with_reducible repeat (first | refine blk_drewN ?_ _ | refine blk_drew ?_ | refine blk_alloc ?_ _)); refine blk_put (cs := #[.int .i64 t137, .int .i64 0, .int .i64 0, .int .i64 0]) ?_ 1 _ rfl; (with_reducible repeat (first | refine blk_drewN ?_ _ | refine blk_drew ?_ | refine blk_alloc ?_ _)); refine blk_put (cs := #[.int .i64 0, .int .i64 0, .int .i64 0, .int .i64 0]) ?_ 0 _ rfl; (with_reducible repeat (first | refine blk_drewN ?_ _ | refine blk_drew ?_ | refine blk_alloc ?_ _)); exact BK142.out⟩, ⟨by repeat (first | (with_reducible first | exact HB.out | apply below_alloc | apply pw_below_drewN | apply below_drew1 | refine below_set ?_ GE135.out | refine below_set ?_ GE142.out) | exact HB.out)⟩⟩
                        · replace c27 := Bool.eq_false_iff.mpr c27
                          subst c27
                          have H1 : (reloc_Link.j2 kj8 a1 x8_1 false l2 (l2.length : Int) x19_1 false ((rd_T64 l2 x19_1).f0) ((rd_T64 l2 x19_1).f1) t137 t138 t139 t140) = some (r1, r2) := by rw [if_neg (show ¬ (false = true) by decide)] at H; exact H
                          clear H
                          have H := H1
                          clear H1
                          have H' := Aside0.mk H
                          clear H
                          go_wp2
                          go_meet
                          case rel => exact ⟨_, (false), (by first | rfl | (simp; done) | (simp [*]; done)), H', ⟨by have := HK1.out; have := HJ8.out; first | omega | exact Nat.le_refl _⟩, ⟨by (with_reducible repeat (first | apply Kd.R_alloc | apply Kd.R_drewN | apply Kd.R_drew)); exact Kd.R_mono (Kd.R_far (p := ⟨gb142, 3, none⟩) (Kd.R_far (p := ⟨gb142, 2, none⟩) (Kd.R_far (p := ⟨gb142, 1, none⟩) (Kd.R_far (p := ⟨gb142, 0, none⟩) (Kd.R_types HO_8.out BK142.out (by decide)) (fun _ hk => hk.2) (.int .i64 t137)) (fun _ hk => hk.2) (.int .i64 t138)) (fun _ hk => hk.2) (.int .i64 t139)) (fun _ hk => hk.2) (.int .i64 t140)) (fun _ hk => trivial)⟩, ⟨by (with_reducible repeat (first | refine blk_drewN ?_ _ | refine blk_drew ?_ | refine blk_alloc ?_ _)); refine blk_far ?_ NB135_142.out _; (with_reducible repeat (first | refine blk_drewN ?_ _ | refine blk_drew ?_ | refine blk_alloc ?_ _)); refine blk_far ?_ NB135_142.out _; (with_reducible repeat (first | refine blk_drewN ?_ _ | refine blk_drew ?_ | refine blk_alloc ?_ _)); refine blk_far ?_ NB135_142.out _; (with_reducible repeat (first | refine blk_drewN ?_ _ | refine blk_drew ?_ | refine blk_alloc ?_ _)); refine blk_far ?_ NB135_142.out _; (with_reducible repeat (first | refine blk_drewN ?_ _ | refine blk_drew ?_ | refine blk_alloc ?_ _)); exact BK135.out⟩, ⟨by (with_reducible repeat (first | refine blk_drewN ?_ _ | refine blk_drew ?_ | refine blk_alloc ?_ _)); refine blk_put (cs := #[.int .i64 t137, .int .i64 t138, .int .i64 t139, .int .i64 0]) ?_ 3 _ rfl; (with_reducible repeat (first | refine blk_drewN ?_ _ | refine blk_drew ?_ | refine blk_alloc ?_ _)); refine blk_put (cs := #[.int .i64 t137, .int .i64 t138, .int .i64 0, .int .i64 0]) ?_ 2 _ rfl; (with_reducible repeat (first | refine blk_drewN ?_ _ | refine blk_drew ?_ | refine blk_alloc ?_ _)); refine blk_put (cs := #[.int .i64 t137, .int .i64 0, .int .i64 0, .int .i64 0]) ?_ 1 _ rfl; (with_reducible repeat (first | refine blk_drewN ?_ _ | refine blk_drew ?_ | refine blk_alloc ?_ _)); refine blk_put (cs := #[.int .i64 0, .int .i64 0, .int .i64 0, .int .i64 0]) ?_ 0 _ rfl; (with_reducible repeat (first | refine blk_drewN ?_ _ | refine blk_drew ?_ | refine blk_alloc ?_ _)); exact BK142.out⟩, ⟨by repeat (first | (with_reducible first | exact HB.out | apply below_alloc | apply pw_below_drewN | apply below_drew1 | refine below_set ?_ GE135.out | refine below_set ?_ GE142.out) | exact HB.out)⟩⟩
                      case rest =>
                        clear HC20
                        try clear c1
                        try clear p1
                        try clear q1
                        try clear hx1
                        try clear c2
                        try clear p2
                        try clear c5
                        try clear c6
                        try clear c6b0
                        try clear c7
                        try clear c7b0
                        try clear c8
                        try clear c8b0
                        try clear c12
                        try clear c12b0
                        try clear p13
                        try clear q13
                        try clear hx13
                        try clear c16
                        try clear c17
                        try clear c17b0
                        try clear c18
                        try clear c18b0
                        try clear c25
                        try clear c26
                        try clear c27
                        try clear c28
                        try clear hcz11_0
                        try clear hcz11_1
                        try clear hcz13_0
                        try clear hcz13_1
                        try clear hcz14_0
                        try clear hcz14_1
                        try clear hcz21_0
                        try clear hcz21_1
                        try clear hcz26_0
                        try clear hcz26_1
                        try clear hcz26_2
                        try clear hcz26_3
                        try clear hcz29_0
                        try clear hcz29_1
                        try clear hcz29_2
                        try clear hcz29_3
                        try clear hfz11_0
                        try clear hfz11_1
                        try clear hfz13_0
                        try clear hfz13_1
                        try clear hfz14_0
                        try clear hfz14_1
                        try clear hfz21_0
                        try clear hfz21_1
                        try clear hfz26_0
                        try clear hfz26_1
                        try clear hfz26_2
                        try clear hfz26_3
                        try clear hfz29_0
                        try clear hfz29_1
                        try clear hfz29_2
                        try clear hfz29_3
                        try clear hx134_0
                        try clear hx134_1
                        try clear hx136_0
                        try clear p1
                        try clear p13
                        try clear p134
                        try clear p136
                        try clear p2
                        try clear q1
                        try clear q13
                        try clear q134
                        try clear q136
                        obtain ⟨kq, x44_19, rfl, HA, HJ19, HO_8, BK135, BK142, HB⟩ := hcut
                        cases kq with
                        | zero => exact absurd HA.out (by simp [reloc_Link.j2])
                        | succ kj19 =>
                          have H := HA.out
                          clear HA
                          simp only [reloc_Link.j2] at H
                          by_cases c30 : x44_19 = true
                          · subst c30
                            have H1 : ((ins_Put.f t137 t138 t139 (wrap64 (Int.tdiv (wrap64 (((rd_T64 l2 x19_1).f1) - (wrap64 ((wrap64 (a1 + (wrap64 (4 * ((rd_T64 l2 x19_1).f0))))) + 4)))) 4))).bind fun bt143 => (if bt143.2.isNone = true then (if 0 ≤ ((rd_T64 l2 x19_1).f0) then (if ((rd_T64 l2 x19_1).f0) < (x8_1.length : Int) then (reloc_Link.l0 kj19 a1 (x8_1.set (((rd_T64 l2 x19_1).f0) : Int).toNat bt143.1) l2 (l2.length : Int) (wrap64 (x19_1 + 1))) else (none)) else (none)) else (some (([] : List Int), some 4)))) = some (r1, r2) := by rw [if_pos rfl] at H; exact H
                            clear H
                            have H := H1
                            clear H1
                            replace H := Option.bind_eq_some_iff.mp H
                            obtain ⟨⟨t143, t144⟩, A310, H⟩ := H
                            replace H : (if t144.isNone = true then (if 0 ≤ ((rd_T64 l2 x19_1).f0) then (if ((rd_T64 l2 x19_1).f0) < (x8_1.length : Int) then (reloc_Link.l0 kj19 a1 (x8_1.set (((rd_T64 l2 x19_1).f0) : Int).toNat t143) l2 (l2.length : Int) (wrap64 (x19_1 + 1))) else (none)) else (none)) else (some (([] : List Int), some 4))) = some (r1, r2) := H
                            have A31 := Aside0.mk A310
                            clear A310
                            rcases t144 with _ | q145
                            · have H1 : (if 0 ≤ ((rd_T64 l2 x19_1).f0) then (if ((rd_T64 l2 x19_1).f0) < (x8_1.length : Int) then (reloc_Link.l0 kj19 a1 (x8_1.set (((rd_T64 l2 x19_1).f0) : Int).toNat t143) l2 (l2.length : Int) (wrap64 (x19_1 + 1))) else (none)) else (none)) = some (r1, r2) := by rw [if_pos (show (none : Option Int).isNone = true by rfl)] at H; exact H
                              clear H
                              have H := H1
                              clear H1
                              try simp only [errW_none, errW_some]
                              by_cases c32 : 0 ≤ ((rd_T64 l2 x19_1).f0)
                              · rw [if_pos c32] at H
                                have c32b0 : decide (0 ≤ ((rd_T64 l2 x19_1).f0)) = true := decide_eq_true c32
                                clear c32
                                by_cases c33 : ((rd_T64 l2 x19_1).f0) < (x8_1.length : Int)
                                · rw [if_pos c33] at H
                                  have c33b0 : decide (((rd_T64 l2 x19_1).f0) < (x8_1.length : Int)) = true := decide_eq_true c33
                                  clear c33
                                  obtain ⟨y146, hy146⟩ : ∃ y_ : List Int, y_ = (x8_1.set (((rd_T64 l2 x19_1).f0) : Int).toNat t143) := ⟨_, rfl⟩
                                  replace H : (reloc_Link.l0 kj19 a1 y146 l2 (l2.length : Int) (wrap64 (x19_1 + 1))) = some (r1, r2) := by first | (rw [hy146]; with_reducible exact H) | (have H2_ := (Option.bind_some _ _).symm.trans H; rw [hy146]; with_reducible exact H2_) | (have H2_ := (Option.bind_some _ _).symm.trans H; with_reducible exact H2_) | with_reducible exact H | (rw [hy146]; exact H) | exact H
                                  have Ny146 := Aside0.mk hy146
                                  clear hy146
                                  have H' := Aside0.mk H
                                  clear H
                                  have hnb35 := NB135_142.out
                                  have hnc35 := NB142_135.out
                                  have hcz36_0 : wc.cell? ⟨gb135, 0, none⟩ = some (.int .i64 ((rd_T64 l2 x19_1).f0)) := (blk_cell BK135.out 0).trans rfl
                                  have hcz36_1 : wc.cell? ⟨gb135, 1, none⟩ = some (.int .i64 ((rd_T64 l2 x19_1).f1)) := (blk_cell BK135.out 1).trans rfl
                                  have hfz36_0 := blk_frozen BK135.out 0
                                  have hfz36_1 := blk_frozen BK135.out 1
                                  have hcz37_0 : wc.cell? ⟨gb142, 0, none⟩ = some (.int .i64 t137) := (blk_cell BK142.out 0).trans rfl
                                  have hcz37_1 : wc.cell? ⟨gb142, 1, none⟩ = some (.int .i64 t138) := (blk_cell BK142.out 1).trans rfl
                                  have hcz37_2 : wc.cell? ⟨gb142, 2, none⟩ = some (.int .i64 t139) := (blk_cell BK142.out 2).trans rfl
                                  have hcz37_3 : wc.cell? ⟨gb142, 3, none⟩ = some (.int .i64 t140) := (blk_cell BK142.out 3).trans rfl
                                  have hfz37_0 := blk_frozen BK142.out 0
                                  have hfz37_1 := blk_frozen BK142.out 1
                                  have hfz37_2 := blk_frozen BK142.out 2
                                  have hfz37_3 := blk_frozen BK142.out 3
                                  go_wp2_with (first | ((with_reducible refine gate_callee (f := 61) rfl ?_); refine goesL_ (some 74) rfl rfl Try.func61 (by kernel_rfl) rfl #[.agg #[.int .i64 t137, .int .i64 t138, .int .i64 t139, .int .i64 (wrap64 (Int.tdiv (wrap64 (((rd_T64 l2 x19_1).f1) - (wrap64 ((wrap64 (a1 + (wrap64 (4 * ((rd_T64 l2 x19_1).f0))))) + 4)))) 4))]] rfl (by (try simp only [List.map_toArray, List.map_cons, List.map_nil]); first | done | rfl | (simp only [List.length_drop, List.length_take]; rfl)) ?_; (with_reducible refine (ins_Put.calls t137 t138 t139 (wrap64 (Int.tdiv (wrap64 (((rd_T64 l2 x19_1).f1) - (wrap64 ((wrap64 (a1 + (wrap64 (4 * ((rd_T64 l2 x19_1).f0))))) + 4)))) 4)) t143 none _ A31.out).mono ?_); rintro e w38 ⟨rfl, hb⟩; refine ⟨_, rfl, ?_⟩; have n0_ := Aside0.mk (Kd.R_below (by (with_reducible repeat (first | apply Kd.R_alloc | apply Kd.R_drewN | apply Kd.R_drew)); exact (Kd.R_mono (Kd.R_far (p := ⟨gb142, 3, none⟩) (Kd.R_types HO_8.out BK142.out (by decide)) (fun _ hk => hk.2) (.int .i64 (wrap64 (Int.tdiv (wrap64 (((rd_T64 l2 x19_1).f1) - (wrap64 ((wrap64 (a1 + (wrap64 (4 * ((rd_T64 l2 x19_1).f0))))) + 4)))) 4)))) (fun _ h_ => h_.1))) hb); have n1_ := Aside0.mk (blk_below (g := gb135) (o := .cells #[.int .i64 ((rd_T64 l2 x19_1).f0), .int .i64 ((rd_T64 l2 x19_1).f1)] 64 (0, 0)) (by (with_reducible repeat (first | refine blk_drewN ?_ _ | refine blk_drew ?_ | refine blk_alloc ?_ _)); refine blk_far ?_ NB135_142.out _; (with_reducible repeat (first | refine blk_drewN ?_ _ | refine blk_drew ?_ | refine blk_alloc ?_ _)); exact BK135.out) hb); have n2_ := Aside0.mk (blk_below (g := gb142) (o := .cells #[.int .i64 t137, .int .i64 t138, .int .i64 t139, .int .i64 (wrap64 (Int.tdiv (wrap64 (((rd_T64 l2 x19_1).f1) - (wrap64 ((wrap64 (a1 + (wrap64 (4 * ((rd_T64 l2 x19_1).f0))))) + 4)))) 4))] 46 (0, 0)) (by (with_reducible repeat (first | refine blk_drewN ?_ _ | refine blk_drew ?_ | refine blk_alloc ?_ _)); refine blk_put (cs := #[.int .i64 t137, .int .i64 t138, .int .i64 t139, .int .i64 t140]) ?_ 3 _ rfl; (with_reducible repeat (first | refine blk_drewN ?_ _ | refine blk_drew ?_ | refine blk_alloc ?_ _)); exact BK142.out) hb); have n3_ := Aside0.mk (below_step (by repeat (first | (with_reducible first | exact HB.out | apply below_alloc | apply pw_below_drewN | apply below_drew1 | refine below_set ?_ GE135.out | refine below_set ?_ GE142.out) | exact HB.out)) hb); clear HO_8; clear BK135; clear BK142; clear HB; have HO_8 := n0_; have BK135 := n1_; have BK142 := n2_; have HB := n3_; clear n0_ n1_ n2_ n3_; (try clear hb); (try clear hb2); (try clear hk); (try clear hi); (try simp only [errW_none, errW_some]); have hcz39_0 : w38.cell? ⟨gb135, 0, none⟩ = some (.int .i64 ((rd_T64 l2 x19_1).f0)) := (blk_cell BK135.out 0).trans rfl; have hcz39_1 : w38.cell? ⟨gb135, 1, none⟩ = some (.int .i64 ((rd_T64 l2 x19_1).f1)) := (blk_cell BK135.out 1).trans rfl; have hfz39_0 := blk_frozen BK135.out 0; have hfz39_1 := blk_frozen BK135.out 1; have p34 : 0 ≤ (((rd_T64 l2 x19_1).f0) : Int) := of_decide_eq_true (by first | (with_reducible assumption) | assumption); have q34 : (((rd_T64 l2 x19_1).f0) : Int) < ((x8_1.length : Int) : Int) := of_decide_eq_true (by first | (with_reducible assumption) | assumption); obtain ⟨go34, co34, eo34, gb34, gl34, cl34, HG34⟩ := Kd.R_form HO_8.out (by omega); (first | cases eo34 | (injection eo34 with ea_ en_ ec_; (first | subst ea_ | (injection ea_ with ea_; subst ea_)); subst ec_; clear en_)); have GB34 := Aside0.mk gb34; have GG34 := Aside0.mk HG34; clear gb34 gl34 HG34; (first | simp only [add_plain] at hx136_0 | skip); obtain ⟨hx34_0, hf34_0⟩ := Kd.R_celln 0 HO_8.out (((rd_T64 l2 x19_1).f0) : Int) p34 q34; replace p34 := eq_true p34; replace q34 := eq_true q34; obtain ⟨hy40_, hz40_⟩ := Kd.R_celln 0 HO_8.out (((rd_T64 l2 x19_1).f0) : Int) (of_decide_eq_true (by first | (with_reducible assumption) | assumption)) (of_decide_eq_true (by first | (with_reducible assumption) | assumption)); have HP40 := Kd.R_putg HO_8.out (((rd_T64 l2 x19_1).f0) : Int) t143) | ((with_reducible refine gate_store (t := 22) (p := 84) rfl ?_); refine store_event (t := 22) (p := 84) (v := ?vo_w41) (w1 := (w38.setCell ⟨go34, (((rd_T64 l2 x19_1).f0) : Int).toNat, none⟩ (.int .u32 t143))) ?hg ?ho ?hn ?hr ?_; (case ho => rfl); (case hg => rfl); (case hn => rfl); (case hr => first | (go_simp; done) | (go_simp; rfl)); intro w41 hw; have hg : w38.grownBy w41 (some go34) := (by rw [hw]; exact HP40.2); have hp_ : Kd.R (Kd.int .u32) 22 w41 w.heap.size (fun _ => True) (.slice (some ⟨go34, 0, none⟩) x8_1.length co22) y146 := (by rw [hw, Ny146.out]; exact HP40.1); clear HP40; have n0_ := Aside0.mk (hp_); have n1_ := Aside0.mk (blk_grown (g := gb135) (o := .cells #[.int .i64 ((rd_T64 l2 x19_1).f0), .int .i64 ((rd_T64 l2 x19_1).f1)] 64 (0, 0)) (by (with_reducible repeat (first | refine blk_drewN ?_ _ | refine blk_drew ?_ | refine blk_alloc ?_ _)); exact BK135.out) hg (Kd.R_ne HO_8.out BK135.out (by decide))); have n2_ := Aside0.mk (blk_grown (g := gb142) (o := .cells #[.int .i64 t137, .int .i64 t138, .int .i64 t139, .int .i64 (wrap64 (Int.tdiv (wrap64 (((rd_T64 l2 x19_1).f1) - (wrap64 ((wrap64 (a1 + (wrap64 (4 * ((rd_T64 l2 x19_1).f0))))) + 4)))) 4))] 46 (0, 0)) (by (with_reducible repeat (first | refine blk_drewN ?_ _ | refine blk_drew ?_ | refine blk_alloc ?_ _)); exact BK142.out) hg (Kd.R_ne HO_8.out BK142.out (by decide))); have n3_ := Aside0.mk ((by rw [hw]; exact below_set (HB.out) GB34.out : Below w.heap.size w w41)); clear HO_8; clear BK135; clear BK142; clear HB; have HO_8 := n0_; have BK135 := n1_; have BK142 := n2_; have HB := n3_; clear n0_ n1_ n2_ n3_; clear hg hw hp_))
                                  go_roundg kj19
                                  case measure => have := HK1.out; have := HJ8.out; have := HJ19.out; omega
                                  case rel => exact ⟨(y146), (wrap64 (x19_1 + 1)), (by first | rfl | (simp; done) | (simp [*]; done)), H', ⟨by have := HK1.out; have := HJ8.out; have := HJ19.out; omega⟩, ⟨by (with_reducible repeat (first | apply Kd.R_alloc | apply Kd.R_drewN | apply Kd.R_drew)); exact HO_8.out⟩, ⟨by repeat (first | (with_reducible first | exact HB.out | apply below_alloc | apply pw_below_drewN | apply below_drew1 | refine below_set ?_ GE135.out | refine below_set ?_ GE142.out) | exact HB.out)⟩⟩
                                · rw [if_neg c33] at H
                                  exact absurd H (by simp)
                              · rw [if_neg c32] at H
                                exact absurd H (by simp)
                            · have H1 : (some (([] : List Int), some 4)) = some (r1, r2) := by rw [if_neg (show ¬ (some q145).isNone = true by simp)] at H; exact H
                              clear H
                              have H := H1
                              clear H1
                              try simp only [errW_none, errW_some]
                              simp only [Option.some.injEq, Prod.mk.injEq] at H
                              obtain ⟨rfl, rfl⟩ := H
                              have hnb42 := NB135_142.out
                              have hnc42 := NB142_135.out
                              have hcz43_0 : wc.cell? ⟨gb135, 0, none⟩ = some (.int .i64 ((rd_T64 l2 x19_1).f0)) := (blk_cell BK135.out 0).trans rfl
                              have hcz43_1 : wc.cell? ⟨gb135, 1, none⟩ = some (.int .i64 ((rd_T64 l2 x19_1).f1)) := (blk_cell BK135.out 1).trans rfl
                              have hfz43_0 := blk_frozen BK135.out 0
                              have hfz43_1 := blk_frozen BK135.out 1
                              have hcz44_0 : wc.cell? ⟨gb142, 0, none⟩ = some (.int .i64 t137) := (blk_cell BK142.out 0).trans rfl
                              have hcz44_1 : wc.cell? ⟨gb142, 1, none⟩ = some (.int .i64 t138) := (blk_cell BK142.out 1).trans rfl
                              have hcz44_2 : wc.cell? ⟨gb142, 2, none⟩ = some (.int .i64 t139) := (blk_cell BK142.out 2).trans rfl
                              have hcz44_3 : wc.cell? ⟨gb142, 3, none⟩ = some (.int .i64 t140) := (blk_cell BK142.out 3).trans rfl
                              have hfz44_0 := blk_frozen BK142.out 0
                              have hfz44_1 := blk_frozen BK142.out 1
                              have hfz44_2 := blk_frozen BK142.out 2
                              have hfz44_3 := blk_frozen BK142.out 3
                              go_wp2_with (first | ((with_reducible refine gate_callee (f := 61) rfl ?_); refine goesL_ (some 74) rfl rfl Try.func61 (by kernel_rfl) rfl #[.agg #[.int .i64 t137, .int .i64 t138, .int .i64 t139, .int .i64 (wrap64 (Int.tdiv (wrap64 (((rd_T64 l2 x19_1).f1) - (wrap64 ((wrap64 (a1 + (wrap64 (4 * ((rd_T64 l2 x19_1).f0))))) + 4)))) 4))]] rfl (by (try simp only [List.map_toArray, List.map_cons, List.map_nil]); first | done | rfl | (simp only [List.length_drop, List.length_take]; rfl)) ?_; (with_reducible refine (ins_Put.calls t137 t138 t139 (wrap64 (Int.tdiv (wrap64 (((rd_T64 l2 x19_1).f1) - (wrap64 ((wrap64 (a1 + (wrap64 (4 * ((rd_T64 l2 x19_1).f0))))) + 4)))) 4)) t143 (some q145) _ A31.out).mono ?_); rintro e w45 ⟨rfl, hb⟩; refine ⟨_, rfl, ?_⟩; have n0_ := Aside0.mk (Kd.R_below (by (with_reducible repeat (first | apply Kd.R_alloc | apply Kd.R_drewN | apply Kd.R_drew)); exact (Kd.R_mono (Kd.R_far (p := ⟨gb142, 3, none⟩) (Kd.R_types HO_8.out BK142.out (by decide)) (fun _ hk => hk.2) (.int .i64 (wrap64 (Int.tdiv (wrap64 (((rd_T64 l2 x19_1).f1) - (wrap64 ((wrap64 (a1 + (wrap64 (4 * ((rd_T64 l2 x19_1).f0))))) + 4)))) 4)))) (fun _ h_ => h_.1))) hb); have n1_ := Aside0.mk (blk_below (g := gb135) (o := .cells #[.int .i64 ((rd_T64 l2 x19_1).f0), .int .i64 ((rd_T64 l2 x19_1).f1)] 64 (0, 0)) (by (with_reducible repeat (first | refine blk_drewN ?_ _ | refine blk_drew ?_ | refine blk_alloc ?_ _)); refine blk_far ?_ NB135_142.out _; (with_reducible repeat (first | refine blk_drewN ?_ _ | refine blk_drew ?_ | refine blk_alloc ?_ _)); exact BK135.out) hb); have n2_ := Aside0.mk (blk_below (g := gb142) (o := .cells #[.int .i64 t137, .int .i64 t138, .int .i64 t139, .int .i64 (wrap64 (Int.tdiv (wrap64 (((rd_T64 l2 x19_1).f1) - (wrap64 ((wrap64 (a1 + (wrap64 (4 * ((rd_T64 l2 x19_1).f0))))) + 4)))) 4))] 46 (0, 0)) (by (with_reducible repeat (first | refine blk_drewN ?_ _ | refine blk_drew ?_ | refine blk_alloc ?_ _)); refine blk_put (cs := #[.int .i64 t137, .int .i64 t138, .int .i64 t139, .int .i64 t140]) ?_ 3 _ rfl; (with_reducible repeat (first | refine blk_drewN ?_ _ | refine blk_drew ?_ | refine blk_alloc ?_ _)); exact BK142.out) hb); have n3_ := Aside0.mk (below_step (by repeat (first | (with_reducible first | exact HB.out | apply below_alloc | apply pw_below_drewN | apply below_drew1 | refine below_set ?_ GE135.out | refine below_set ?_ GE142.out) | exact HB.out)) hb); clear HO_8; clear BK135; clear BK142; clear HB; have HO_8 := n0_; have BK135 := n1_; have BK142 := n2_; have HB := n3_; clear n0_ n1_ n2_ n3_; (try clear hb); (try clear hb2); (try clear hk); (try clear hi); (try simp only [errW_none, errW_some])))
                              go_ret2
                              exact ⟨_, by first | rfl | (simp [errW_none, errW_some] <;> rfl) | (simp [*, errW_none, errW_some] <;> rfl), by first | exact Kd.R_nil _ _ _ _ _ | exact Kd.N_nil _ _ _ _ _ | exact Kd.V_nil _ _ _ _ _ | exact Kd.Q_nil _ _ _ _ _ | exact Kd.S_nil _ _ _ _ _, by repeat (first | (with_reducible first | exact HB.out | apply below_alloc | apply pw_below_drewN | apply below_drew1 | refine below_set ?_ GE135.out | refine below_set ?_ GE142.out) | exact HB.out)⟩
                          · replace c30 := Bool.eq_false_iff.mpr c30
                            subst c30
                            have H1 : (if t141 = true then (reloc_Link.j3 kj19 a1 x8_1 l2 (l2.length : Int) x19_1 (t137 == 1) ((rd_T64 l2 x19_1).f0) ((rd_T64 l2 x19_1).f1) t137 t138 t139 t140) else (reloc_Link.j3 kj19 a1 x8_1 l2 (l2.length : Int) x19_1 false ((rd_T64 l2 x19_1).f0) ((rd_T64 l2 x19_1).f1) t137 t138 t139 t140)) = some (r1, r2) := by rw [if_neg (show ¬ (false = true) by decide)] at H; exact H
                            clear H
                            have H := H1
                            clear H1
                            have HC46 := Aside0.mk H
                            clear H
                            go_upto_region 11 with (fail)
                            go_cut [62] (fun v62 wc => ∃ (kq : Nat) (x62_45 : Bool), v62 = .bool x62_45 ∧ Aside0 (reloc_Link.j3 kq a1 x8_1 l2 (l2.length : Int) x19_1 x62_45 ((rd_T64 l2 x19_1).f0) ((rd_T64 l2 x19_1).f1) t137 t138 t139 t140 = some (r1, r2)) ∧ Aside0 (kq ≤ kj19) ∧ Aside0 (Kd.R (Kd.int .u32) 22 wc w.heap.size (fun _ => True) (.slice (some ad136) x8_1.length co22) x8_1) ∧ Aside0 (wc.heap[gb135]? = some (.cells #[.int .i64 ((rd_T64 l2 x19_1).f0), .int .i64 ((rd_T64 l2 x19_1).f1)] 64 (0, 0))) ∧ Aside0 (wc.heap[gb142]? = some (.cells #[.int .i64 t137, .int .i64 t138, .int .i64 t139, .int .i64 t140] 46 (0, 0))) ∧ Aside0 (Below w.heap.size w wc))
                            case first =>
                              have H := HC46.out
                              clear HC46
                              by_cases c47 : t141 = true
                              · subst c47
                                have H1 : (reloc_Link.j3 kj19 a1 x8_1 l2 (l2.length : Int) x19_1 (t137 == 1) ((rd_T64 l2 x19_1).f0) ((rd_T64 l2 x19_1).f1) t137 t138 t139 t140) = some (r1, r2) := by rw [if_pos rfl] at H; exact H
                                clear H
                                have H := H1
                                clear H1
                                have H' := Aside0.mk H
                                clear H
                                have hnb48 := NB142_135.out
                                have hnc48 := NB135_142.out
                                have hcz49_0 : wc.cell? ⟨gb142, 0, none⟩ = some (.int .i64 t137) := (blk_cell BK142.out 0).trans rfl
                                have hcz49_1 : wc.cell? ⟨gb142, 1, none⟩ = some (.int .i64 t138) := (blk_cell BK142.out 1).trans rfl
                                have hcz49_2 : wc.cell? ⟨gb142, 2, none⟩ = some (.int .i64 t139) := (blk_cell BK142.out 2).trans rfl
                                have hcz49_3 : wc.cell? ⟨gb142, 3, none⟩ = some (.int .i64 t140) := (blk_cell BK142.out 3).trans rfl
                                have hfz49_0 := blk_frozen BK142.out 0
                                have hfz49_1 := blk_frozen BK142.out 1
                                have hfz49_2 := blk_frozen BK142.out 2
                                have hfz49_3 := blk_frozen BK142.out 3
                                go_wp2
                                go_meet
                                case rel => exact ⟨_, ((t137 == 1)), (by first | rfl | (simp; done) | (simp [*]; done)), H', ⟨by have := HK1.out; have := HJ8.out; have := HJ19.out; first | omega | exact Nat.le_refl _⟩, ⟨by (with_reducible repeat (first | apply Kd.R_alloc | apply Kd.R_drewN | apply Kd.R_drew)); exact HO_8.out⟩, ⟨by (with_reducible repeat (first | refine blk_drewN ?_ _ | refine blk_drew ?_ | refine blk_alloc ?_ _)); exact BK135.out⟩, ⟨by (with_reducible repeat (first | refine blk_drewN ?_ _ | refine blk_drew ?_ | refine blk_alloc ?_ _)); exact BK142.out⟩, ⟨by repeat (first | (with_reducible first | exact HB.out | apply below_alloc | apply pw_below_drewN | apply below_drew1 | refine below_set ?_ GE135.out | refine below_set ?_ GE142.out) | exact HB.out)⟩⟩
                              · replace c47 := Bool.eq_false_iff.mpr c47
                                subst c47
                                have H1 : (reloc_Link.j3 kj19 a1 x8_1 l2 (l2.length : Int) x19_1 false ((rd_T64 l2 x19_1).f0) ((rd_T64 l2 x19_1).f1) t137 t138 t139 t140) = some (r1, r2) := by rw [if_neg (show ¬ (false = true) by decide)] at H; exact H
                                clear H
                                have H := H1
                                clear H1
                                have H' := Aside0.mk H
                                clear H
                                go_wp2
                                go_meet
                                case rel => exact ⟨_, (false), (by first | rfl | (simp; done) | (simp [*]; done)), H', ⟨by have := HK1.out; have := HJ8.out; have := HJ19.out; first | omega | exact Nat.le_refl _⟩, ⟨by (with_reducible repeat (first | apply Kd.R_alloc | apply Kd.R_drewN | apply Kd.R_drew)); exact HO_8.out⟩, ⟨by (with_reducible repeat (first | refine blk_drewN ?_ _ | refine blk_drew ?_ | refine blk_alloc ?_ _)); exact BK135.out⟩, ⟨by (with_reducible repeat (first | refine blk_drewN ?_ _ | refine blk_drew ?_ | refine blk_alloc ?_ _)); exact BK142.out⟩, ⟨by repeat (first | (with_reducible first | exact HB.out | apply below_alloc | apply pw_below_drewN | apply below_drew1 | refine below_set ?_ GE135.out | refine below_set ?_ GE142.out) | exact HB.out)⟩⟩
                            case rest =>
                              clear HC46
                              try clear c1
                              try clear p1
                              try clear q1
                              try clear hx1
                              try clear c2
                              try clear p2
                              try clear c3
                              try clear p3
                              try clear q3
                              try clear hx3
                              try clear hf3
                              try clear c4
                              try clear c5
                              try clear c6
                              try clear c6b0
                              try clear p6
                              try clear c7
                              try clear c7b0
                              try clear c8
                              try clear c8b0
                              try clear c12
                              try clear c12b0
                              try clear p13
                              try clear q13
                              try clear hx13
                              try clear q14
                              try clear c16
                              try clear c17
                              try clear c17b0
                              try clear c18
                              try clear c18b0
                              try clear c25
                              try clear c26
                              try clear c27
                              try clear c28
                              try clear c30
                              try clear c32
                              try clear c32b0
                              try clear c33
                              try clear c33b0
                              try clear p34
                              try clear q34
                              try clear hx34
                              try clear hf34
                              try clear c35
                              try clear c42
                              try clear c47
                              try clear c48
                              try clear hcz11_0
                              try clear hcz11_1
                              try clear hcz13_0
                              try clear hcz13_1
                              try clear hcz14_0
                              try clear hcz14_1
                              try clear hcz21_0
                              try clear hcz21_1
                              try clear hcz26_0
                              try clear hcz26_1
                              try clear hcz26_2
                              try clear hcz26_3
                              try clear hcz29_0
                              try clear hcz29_1
                              try clear hcz29_2
                              try clear hcz29_3
                              try clear hcz36_0
                              try clear hcz36_1
                              try clear hcz37_0
                              try clear hcz37_1
                              try clear hcz37_2
                              try clear hcz37_3
                              try clear hcz39_0
                              try clear hcz39_1
                              try clear hcz43_0
                              try clear hcz43_1
                              try clear hcz44_0
                              try clear hcz44_1
                              try clear hcz44_2
                              try clear hcz44_3
                              try clear hcz49_0
                              try clear hcz49_1
                              try clear hcz49_2
                              try clear hcz49_3
                              try clear hfz11_0
                              try clear hfz11_1
                              try clear hfz13_0
                              try clear hfz13_1
                              try clear hfz14_0
                              try clear hfz14_1
                              try clear hfz21_0
                              try clear hfz21_1
                              try clear hfz26_0
                              try clear hfz26_1
                              try clear hfz26_2
                              try clear hfz26_3
                              try clear hfz29_0
                              try clear hfz29_1
                              try clear hfz29_2
                              try clear hfz29_3
                              try clear hfz36_0
                              try clear hfz36_1
                              try clear hfz37_0
                              try clear hfz37_1
                              try clear hfz37_2
                              try clear hfz37_3
                              try clear hfz39_0
                              try clear hfz39_1
                              try clear hfz43_0
                              try clear hfz43_1
                              try clear hfz44_0
                              try clear hfz44_1
                              try clear hfz44_2
                              try clear hfz44_3
                              try clear hfz49_0
                              try clear hfz49_1
                              try clear hfz49_2
                              try clear hfz49_3
                              try clear hx134_0
                              try clear hx134_1
                              try clear hx136_0
                              try clear hx34_0
                              try clear p1
                              try clear p13
                              try clear p134
                              try clear p136
                              try clear p2
                              try clear p34
                              try clear q1
                              try clear q13
                              try clear q134
                              try clear q136
                              try clear q145
                              try clear q34
                              obtain ⟨kq, x62_45, rfl, HA, HJ45, HO_8, BK135, BK142, HB⟩ := hcut
                              cases kq with
                              | zero => exact absurd HA.out (by simp [reloc_Link.j3])
                              | succ kj45 =>
                                have H := HA.out
                                clear HA
                                simp only [reloc_Link.j3] at H
                                by_cases c50 : x62_45 = true
                                · subst c50
                                  have H1 : ((ins_Put.f t137 t138 t139 ((rd_T64 l2 x19_1).f1)).bind fun bt147 => (if bt147.2.isNone = true then (if 0 ≤ ((rd_T64 l2 x19_1).f0) then (if ((rd_T64 l2 x19_1).f0) < (x8_1.length : Int) then (reloc_Link.l0 kj45 a1 (x8_1.set (((rd_T64 l2 x19_1).f0) : Int).toNat bt147.1) l2 (l2.length : Int) (wrap64 (x19_1 + 1))) else (none)) else (none)) else (some (([] : List Int), some 4)))) = some (r1, r2) := by rw [if_pos rfl] at H; exact H
                                  clear H
                                  have H := H1
                                  clear H1
                                  replace H := Option.bind_eq_some_iff.mp H
                                  obtain ⟨⟨t147, t148⟩, A510, H⟩ := H
                                  replace H : (if t148.isNone = true then (if 0 ≤ ((rd_T64 l2 x19_1).f0) then (if ((rd_T64 l2 x19_1).f0) < (x8_1.length : Int) then (reloc_Link.l0 kj45 a1 (x8_1.set (((rd_T64 l2 x19_1).f0) : Int).toNat t147) l2 (l2.length : Int) (wrap64 (x19_1 + 1))) else (none)) else (none)) else (some (([] : List Int), some 4))) = some (r1, r2) := H
                                  have A51 := Aside0.mk A510
                                  clear A510
                                  rcases t148 with _ | q149
                                  · have H1 : (if 0 ≤ ((rd_T64 l2 x19_1).f0) then (if ((rd_T64 l2 x19_1).f0) < (x8_1.length : Int) then (reloc_Link.l0 kj45 a1 (x8_1.set (((rd_T64 l2 x19_1).f0) : Int).toNat t147) l2 (l2.length : Int) (wrap64 (x19_1 + 1))) else (none)) else (none)) = some (r1, r2) := by rw [if_pos (show (none : Option Int).isNone = true by rfl)] at H; exact H
                                    clear H
                                    have H := H1
                                    clear H1
                                    try simp only [errW_none, errW_some]
                                    by_cases c52 : 0 ≤ ((rd_T64 l2 x19_1).f0)
                                    · rw [if_pos c52] at H
                                      have c52b0 : decide (0 ≤ ((rd_T64 l2 x19_1).f0)) = true := decide_eq_true c52
                                      clear c52
                                      by_cases c53 : ((rd_T64 l2 x19_1).f0) < (x8_1.length : Int)
                                      · rw [if_pos c53] at H
                                        have c53b0 : decide (((rd_T64 l2 x19_1).f0) < (x8_1.length : Int)) = true := decide_eq_true c53
                                        clear c53
                                        obtain ⟨y150, hy150⟩ : ∃ y_ : List Int, y_ = (x8_1.set (((rd_T64 l2 x19_1).f0) : Int).toNat t147) := ⟨_, rfl⟩
                                        replace H : (reloc_Link.l0 kj45 a1 y150 l2 (l2.length : Int) (wrap64 (x19_1 + 1))) = some (r1, r2) := by first | (rw [hy150]; with_reducible exact H) | (have H2_ := (Option.bind_some _ _).symm.trans H; rw [hy150]; with_reducible exact H2_) | (have H2_ := (Option.bind_some _ _).symm.trans H; with_reducible exact H2_) | with_reducible exact H | (rw [hy150]; exact H) | exact H
                                        have Ny150 := Aside0.mk hy150
                                        clear hy150
                                        have H' := Aside0.mk H
                                        clear H
                                        have hnb55 := NB135_142.out
                                        have hnc55 := NB142_135.out
                                        have hcz56_0 : wc.cell? ⟨gb135, 0, none⟩ = some (.int .i64 ((rd_T64 l2 x19_1).f0)) := (blk_cell BK135.out 0).trans rfl
                                        have hcz56_1 : wc.cell? ⟨gb135, 1, none⟩ = some (.int .i64 ((rd_T64 l2 x19_1).f1)) := (blk_cell BK135.out 1).trans rfl
                                        have hfz56_0 := blk_frozen BK135.out 0
                                        have hfz56_1 := blk_frozen BK135.out 1
                                        have hcz57_0 : wc.cell? ⟨gb142, 0, none⟩ = some (.int .i64 t137) := (blk_cell BK142.out 0).trans rfl
                                        have hcz57_1 : wc.cell? ⟨gb142, 1, none⟩ = some (.int .i64 t138) := (blk_cell BK142.out 1).trans rfl
                                        have hcz57_2 : wc.cell? ⟨gb142, 2, none⟩ = some (.int .i64 t139) := (blk_cell BK142.out 2).trans rfl
                                        have hcz57_3 : wc.cell? ⟨gb142, 3, none⟩ = some (.int .i64 t140) := (blk_cell BK142.out 3).trans rfl
                                        have hfz57_0 := blk_frozen BK142.out 0
                                        have hfz57_1 := blk_frozen BK142.out 1
                                        have hfz57_2 := blk_frozen BK142.out 2
                                        have hfz57_3 := blk_frozen BK142.out 3
                                        go_wp2_with (first | ((with_reducible refine gate_callee (f := 61) rfl ?_); refine goesL_ (some 74) rfl rfl Try.func61 (by kernel_rfl) rfl #[.agg #[.int .i64 t137, .int .i64 t138, .int .i64 t139, .int .i64 ((rd_T64 l2 x19_1).f1)]] rfl (by (try simp only [List.map_toArray, List.map_cons, List.map_nil]); first | done | rfl | (simp only [List.length_drop, List.length_take]; rfl)) ?_; (with_reducible refine (ins_Put.calls t137 t138 t139 ((rd_T64 l2 x19_1).f1) t147 none _ A51.out).mono ?_); rintro e w58 ⟨rfl, hb⟩; refine ⟨_, rfl, ?_⟩; have n0_ := Aside0.mk (Kd.R_below (by (with_reducible repeat (first | apply Kd.R_alloc | apply Kd.R_drewN | apply Kd.R_drew)); exact (Kd.R_mono (Kd.R_far (p := ⟨gb142, 3, none⟩) (Kd.R_types HO_8.out BK142.out (by decide)) (fun _ hk => hk.2) (.int .i64 ((rd_T64 l2 x19_1).f1))) (fun _ h_ => h_.1))) hb); have n1_ := Aside0.mk (blk_below (g := gb135) (o := .cells #[.int .i64 ((rd_T64 l2 x19_1).f0), .int .i64 ((rd_T64 l2 x19_1).f1)] 64 (0, 0)) (by (with_reducible repeat (first | refine blk_drewN ?_ _ | refine blk_drew ?_ | refine blk_alloc ?_ _)); refine blk_far ?_ NB135_142.out _; (with_reducible repeat (first | refine blk_drewN ?_ _ | refine blk_drew ?_ | refine blk_alloc ?_ _)); exact BK135.out) hb); have n2_ := Aside0.mk (blk_below (g := gb142) (o := .cells #[.int .i64 t137, .int .i64 t138, .int .i64 t139, .int .i64 ((rd_T64 l2 x19_1).f1)] 46 (0, 0)) (by (with_reducible repeat (first | refine blk_drewN ?_ _ | refine blk_drew ?_ | refine blk_alloc ?_ _)); refine blk_put (cs := #[.int .i64 t137, .int .i64 t138, .int .i64 t139, .int .i64 t140]) ?_ 3 _ rfl; (with_reducible repeat (first | refine blk_drewN ?_ _ | refine blk_drew ?_ | refine blk_alloc ?_ _)); exact BK142.out) hb); have n3_ := Aside0.mk (below_step (by repeat (first | (with_reducible first | exact HB.out | apply below_alloc | apply pw_below_drewN | apply below_drew1 | refine below_set ?_ GE135.out | refine below_set ?_ GE142.out) | exact HB.out)) hb); clear HO_8; clear BK135; clear BK142; clear HB; have HO_8 := n0_; have BK135 := n1_; have BK142 := n2_; have HB := n3_; clear n0_ n1_ n2_ n3_; (try clear hb); (try clear hb2); (try clear hk); (try clear hi); (try simp only [errW_none, errW_some]); have hcz59_0 : w58.cell? ⟨gb135, 0, none⟩ = some (.int .i64 ((rd_T64 l2 x19_1).f0)) := (blk_cell BK135.out 0).trans rfl; have hcz59_1 : w58.cell? ⟨gb135, 1, none⟩ = some (.int .i64 ((rd_T64 l2 x19_1).f1)) := (blk_cell BK135.out 1).trans rfl; have hfz59_0 := blk_frozen BK135.out 0; have hfz59_1 := blk_frozen BK135.out 1; have p54 : 0 ≤ (((rd_T64 l2 x19_1).f0) : Int) := of_decide_eq_true (by first | (with_reducible assumption) | assumption); have q54 : (((rd_T64 l2 x19_1).f0) : Int) < ((x8_1.length : Int) : Int) := of_decide_eq_true (by first | (with_reducible assumption) | assumption); obtain ⟨go54, co54, eo54, gb54, gl54, cl54, HG54⟩ := Kd.R_form HO_8.out (by omega); (first | cases eo54 | (injection eo54 with ea_ en_ ec_; (first | subst ea_ | (injection ea_ with ea_; subst ea_)); subst ec_; clear en_)); have GB54 := Aside0.mk gb54; have GG54 := Aside0.mk HG54; clear gb54 gl54 HG54; obtain ⟨hx54_0, hf54_0⟩ := Kd.R_celln 0 HO_8.out (((rd_T64 l2 x19_1).f0) : Int) p54 q54; replace p54 := eq_true p54; replace q54 := eq_true q54; obtain ⟨hy60_, hz60_⟩ := Kd.R_celln 0 HO_8.out (((rd_T64 l2 x19_1).f0) : Int) (of_decide_eq_true (by first | (with_reducible assumption) | assumption)) (of_decide_eq_true (by first | (with_reducible assumption) | assumption)); have HP60 := Kd.R_putg HO_8.out (((rd_T64 l2 x19_1).f0) : Int) t147) | ((with_reducible refine gate_store (t := 22) (p := 84) rfl ?_); refine store_event (t := 22) (p := 84) (v := ?vo_w61) (w1 := (w58.setCell ⟨go54, (((rd_T64 l2 x19_1).f0) : Int).toNat, none⟩ (.int .u32 t147))) ?hg ?ho ?hn ?hr ?_; (case ho => rfl); (case hg => rfl); (case hn => rfl); (case hr => first | (go_simp; done) | (go_simp; rfl)); intro w61 hw; have hg : w58.grownBy w61 (some go54) := (by rw [hw]; exact HP60.2); have hp_ : Kd.R (Kd.int .u32) 22 w61 w.heap.size (fun _ => True) (.slice (some ⟨go54, 0, none⟩) x8_1.length co22) y150 := (by rw [hw, Ny150.out]; exact HP60.1); clear HP60; have n0_ := Aside0.mk (hp_); have n1_ := Aside0.mk (blk_grown (g := gb135) (o := .cells #[.int .i64 ((rd_T64 l2 x19_1).f0), .int .i64 ((rd_T64 l2 x19_1).f1)] 64 (0, 0)) (by (with_reducible repeat (first | refine blk_drewN ?_ _ | refine blk_drew ?_ | refine blk_alloc ?_ _)); exact BK135.out) hg (Kd.R_ne HO_8.out BK135.out (by decide))); have n2_ := Aside0.mk (blk_grown (g := gb142) (o := .cells #[.int .i64 t137, .int .i64 t138, .int .i64 t139, .int .i64 ((rd_T64 l2 x19_1).f1)] 46 (0, 0)) (by (with_reducible repeat (first | refine blk_drewN ?_ _ | refine blk_drew ?_ | refine blk_alloc ?_ _)); exact BK142.out) hg (Kd.R_ne HO_8.out BK142.out (by decide))); have n3_ := Aside0.mk ((by rw [hw]; exact below_set (HB.out) GB54.out : Below w.heap.size w w61)); clear HO_8; clear BK135; clear BK142; clear HB; have HO_8 := n0_; have BK135 := n1_; have BK142 := n2_; have HB := n3_; clear n0_ n1_ n2_ n3_; clear hg hw hp_))
                                        go_roundg kj45
                                        case measure => have := HK1.out; have := HJ8.out; have := HJ19.out; have := HJ45.out; omega
                                        case rel => exact ⟨(y150), (wrap64 (x19_1 + 1)), (by first | rfl | (simp; done) | (simp [*]; done)), H', ⟨by have := HK1.out; have := HJ8.out; have := HJ19.out; have := HJ45.out; omega⟩, ⟨by (with_reducible repeat (first | apply Kd.R_alloc | apply Kd.R_drewN | apply Kd.R_drew)); exact HO_8.out⟩, ⟨by repeat (first | (with_reducible first | exact HB.out | apply below_alloc | apply pw_below_drewN | apply below_drew1 | refine below_set ?_ GE135.out | refine below_set ?_ GE142.out) | exact HB.out)⟩⟩
                                      · rw [if_neg c53] at H
                                        exact absurd H (by simp)
                                    · rw [if_neg c52] at H
                                      exact absurd H (by simp)
                                  · have H1 : (some (([] : List Int), some 4)) = some (r1, r2) := by rw [if_neg (show ¬ (some q149).isNone = true by simp)] at H; exact H
                                    clear H
                                    have H := H1
                                    clear H1
                                    try simp only [errW_none, errW_some]
                                    simp only [Option.some.injEq, Prod.mk.injEq] at H
                                    obtain ⟨rfl, rfl⟩ := H
                                    have hnb62 := NB135_142.out
                                    have hnc62 := NB142_135.out
                                    have hcz63_0 : wc.cell? ⟨gb135, 0, none⟩ = some (.int .i64 ((rd_T64 l2 x19_1).f0)) := (blk_cell BK135.out 0).trans rfl
                                    have hcz63_1 : wc.cell? ⟨gb135, 1, none⟩ = some (.int .i64 ((rd_T64 l2 x19_1).f1)) := (blk_cell BK135.out 1).trans rfl
                                    have hfz63_0 := blk_frozen BK135.out 0
                                    have hfz63_1 := blk_frozen BK135.out 1
                                    have hcz64_0 : wc.cell? ⟨gb142, 0, none⟩ = some (.int .i64 t137) := (blk_cell BK142.out 0).trans rfl
                                    have hcz64_1 : wc.cell? ⟨gb142, 1, none⟩ = some (.int .i64 t138) := (blk_cell BK142.out 1).trans rfl
                                    have hcz64_2 : wc.cell? ⟨gb142, 2, none⟩ = some (.int .i64 t139) := (blk_cell BK142.out 2).trans rfl
                                    have hcz64_3 : wc.cell? ⟨gb142, 3, none⟩ = some (.int .i64 t140) := (blk_cell BK142.out 3).trans rfl
                                    have hfz64_0 := blk_frozen BK142.out 0
                                    have hfz64_1 := blk_frozen BK142.out 1
                                    have hfz64_2 := blk_frozen BK142.out 2
                                    have hfz64_3 := blk_frozen BK142.out 3
                                    go_wp2_with (first | ((with_reducible refine gate_callee (f := 61) rfl ?_); refine goesL_ (some 74) rfl rfl Try.func61 (by kernel_rfl) rfl #[.agg #[.int .i64 t137, .int .i64 t138, .int .i64 t139, .int .i64 ((rd_T64 l2 x19_1).f1)]] rfl (by (try simp only [List.map_toArray, List.map_cons, List.map_nil]); first | done | rfl | (simp only [List.length_drop, List.length_take]; rfl)) ?_; (with_reducible refine (ins_Put.calls t137 t138 t139 ((rd_T64 l2 x19_1).f1) t147 (some q149) _ A51.out).mono ?_); rintro e w65 ⟨rfl, hb⟩; refine ⟨_, rfl, ?_⟩; have n0_ := Aside0.mk (Kd.R_below (by (with_reducible repeat (first | apply Kd.R_alloc | apply Kd.R_drewN | apply Kd.R_drew)); exact (Kd.R_mono (Kd.R_far (p := ⟨gb142, 3, none⟩) (Kd.R_types HO_8.out BK142.out (by decide)) (fun _ hk => hk.2) (.int .i64 ((rd_T64 l2 x19_1).f1))) (fun _ h_ => h_.1))) hb); have n1_ := Aside0.mk (blk_below (g := gb135) (o := .cells #[.int .i64 ((rd_T64 l2 x19_1).f0), .int .i64 ((rd_T64 l2 x19_1).f1)] 64 (0, 0)) (by (with_reducible repeat (first | refine blk_drewN ?_ _ | refine blk_drew ?_ | refine blk_alloc ?_ _)); refine blk_far ?_ NB135_142.out _; (with_reducible repeat (first | refine blk_drewN ?_ _ | refine blk_drew ?_ | refine blk_alloc ?_ _)); exact BK135.out) hb); have n2_ := Aside0.mk (blk_below (g := gb142) (o := .cells #[.int .i64 t137, .int .i64 t138, .int .i64 t139, .int .i64 ((rd_T64 l2 x19_1).f1)] 46 (0, 0)) (by (with_reducible repeat (first | refine blk_drewN ?_ _ | refine blk_drew ?_ | refine blk_alloc ?_ _)); refine blk_put (cs := #[.int .i64 t137, .int .i64 t138, .int .i64 t139, .int .i64 t140]) ?_ 3 _ rfl; (with_reducible repeat (first | refine blk_drewN ?_ _ | refine blk_drew ?_ | refine blk_alloc ?_ _)); exact BK142.out) hb); have n3_ := Aside0.mk (below_step (by repeat (first | (with_reducible first | exact HB.out | apply below_alloc | apply pw_below_drewN | apply below_drew1 | refine below_set ?_ GE135.out | refine below_set ?_ GE142.out) | exact HB.out)) hb); clear HO_8; clear BK135; clear BK142; clear HB; have HO_8 := n0_; have BK135 := n1_; have BK142 := n2_; have HB := n3_; clear n0_ n1_ n2_ n3_; (try clear hb); (try clear hb2); (try clear hk); (try clear hi); (try simp only [errW_none, errW_some])))
                                    go_ret2
                                    exact ⟨_, by first | rfl | (simp [errW_none, errW_some] <;> rfl) | (simp [*, errW_none, errW_some] <;> rfl), by first | exact Kd.R_nil _ _ _ _ _ | exact Kd.N_nil _ _ _ _ _ | exact Kd.V_nil _ _ _ _ _ | exact Kd.Q_nil _ _ _ _ _ | exact Kd.S_nil _ _ _ _ _, by repeat (first | (with_reducible first | exact HB.out | apply below_alloc | apply pw_below_drewN | apply below_drew1 | refine below_set ?_ GE135.out | refine below_set ?_ GE142.out) | exact HB.out)⟩
                                · replace c50 := Bool.eq_false_iff.mpr c50
                                  subst c50
                                  have H1 : (some (([] : List Int), some 4)) = some (r1, r2) := by rw [if_neg (show ¬ (false = true) by decide)] at H; exact H
                                  clear H
                                  have H := H1
                                  clear H1
                                  simp only [Option.some.injEq, Prod.mk.injEq] at H
                                  obtain ⟨rfl, rfl⟩ := H
                                  go_wp2
                                  go_ret2
                                  exact ⟨_, by first | rfl | (simp [errW_none, errW_some] <;> rfl) | (simp [*, errW_none, errW_some] <;> rfl), by first | exact Kd.R_nil _ _ _ _ _ | exact Kd.N_nil _ _ _ _ _ | exact Kd.V_nil _ _ _ _ _ | exact Kd.Q_nil _ _ _ _ _ | exact Kd.S_nil _ _ _ _ _, by repeat (first | (with_reducible first | exact HB.out | apply below_alloc | apply pw_below_drewN | apply below_drew1 | refine below_set ?_ GE135.out | refine below_set ?_ GE142.out) | exact HB.out)⟩
                    · rw [if_neg c18] at H
                      exact absurd H (by simp)
                  · rw [if_neg c17] at H
                    exact absurd H (by simp)
          · rw [if_neg c8] at H
            exact absurd H (by simp)
        · rw [if_neg c7] at H
          exact absurd H (by simp)
      · rw [if_neg c6] at H
        have c6b0 : decide (x19_1 < (l2.length : Int)) = false := decide_eq_false c6
        clear c6
        simp only [Option.some.injEq, Prod.mk.injEq] at H
        obtain ⟨rfl, rfl⟩ := H
        go_wp2
        go_ret2
        exact ⟨_, by first | rfl | (simp [errW_none, errW_some] <;> rfl) | (simp [*, errW_none, errW_some] <;> rfl), by (with_reducible repeat (first | apply Kd.R_alloc | apply Kd.R_drewN | apply Kd.R_drew)); exact HO_8.out, by repeat (first | (with_reducible first | exact HB.out | apply below_alloc | apply pw_below_drewN | apply below_drew1) | exact HB.out)⟩

/-! ### dowelref01_PutIns: function 28 -/
def dowelref01_PutIns.f (a0_0 : Int) (a0_1 : Int) (a0_2 : Int) (a0_3 : Int) : Option (Int) := if a0_3 < 0 then (some ((wrap64 ((wrap64 ((wrap64 ((wrap64 (a0_0 * 67108864)) + (wrap64 (a0_1 * 4194304)))) + (wrap64 (a0_2 * 262144)))) + (wrap64 (a0_3 + 262144)))) % 4294967296)) else (some ((wrap64 ((wrap64 ((wrap64 ((wrap64 (a0_0 * 67108864)) + (wrap64 (a0_1 * 4194304)))) + (wrap64 (a0_2 * 262144)))) + a0_3)) % 4294967296))
set_option maxHeartbeats 8000000 in
set_option maxRecDepth 100000 in
theorem dowelref01_PutIns.calls (a0_0 : Int) (a0_1 : Int) (a0_2 : Int) (a0_3 : Int) (r : Int) (w : World) (h : dowelref01_PutIns.f a0_0 a0_1 a0_2 a0_3 = some r) :
    Calls Try.prog 28 #[.agg #[.int .i64 a0_0, .int .i64 a0_1, .int .i64 a0_2, .int .i64 a0_3]] w fun e w' => e = .returned (.int .u32 r) ∧ Below w.heap.size w w' := by
  have hu46 := Try.underlying46
  have HB := Aside0.mk (Below.refl w.heap.size w)
  have H : (if a0_3 < 0 then (some ((wrap64 ((wrap64 ((wrap64 ((wrap64 (a0_0 * 67108864)) + (wrap64 (a0_1 * 4194304)))) + (wrap64 (a0_2 * 262144)))) + (wrap64 (a0_3 + 262144)))) % 4294967296)) else (some ((wrap64 ((wrap64 ((wrap64 ((wrap64 (a0_0 * 67108864)) + (wrap64 (a0_1 * 4194304)))) + (wrap64 (a0_2 * 262144)))) + a0_3)) % 4294967296))) = some r := h
  clear h
  by_cases c2 : a0_3 < 0
  · rw [if_pos c2] at H
    have c2b0 : decide (a0_3 < 0) = true := decide_eq_true c2
    clear c2
    obtain rfl := Option.some.inj H
    go_enter Try.func28, Try.ntmps28
    go_wp2_with (first | ((with_reducible refine gate_dst (N := 1) rfl ?_); refine box_event ?hg (N := 1) ?hd (cs := #[.int .i64 a0_0, .int .i64 a0_1, .int .i64 a0_2, .int .i64 a0_3]) (t := 46) ?hr ?_; (case hd => rfl); (case hg => rfl); (case hr => first | (go_simp; done) | (go_simp; rfl)); intro gb151 hg w3 hbox hb; have n0_ := Aside0.mk (below_step (by repeat (first | (with_reducible first | exact HB.out | apply below_alloc | apply pw_below_drewN | apply below_drew1) | exact HB.out)) hb); have n1_ := Aside0.mk (hbox); have n2_ := Aside0.mk ((by rw [hg]; exact (below_size (by repeat (first | (with_reducible first | exact HB.out | apply below_alloc | apply pw_below_drewN | apply below_drew1) | exact HB.out))) : w.heap.size ≤ gb151)); have n3_ := Aside0.mk ((by rw [hg]; exact (below_size (by repeat (first | (with_reducible first | exact HB.out | apply below_alloc | apply pw_below_drewN | apply below_drew1) | exact HB.out))) : w.heap.size ≤ gb151)); clear HB; have HB := n0_; have BK151 := n1_; have GW151 := n2_; have GE151 := n3_; clear n0_ n1_ n2_ n3_; clear hb hbox hg; have hcz4_0 : w3.cell? ⟨gb151, 0, none⟩ = some (.int .i64 a0_0) := (blk_cell BK151.out 0).trans rfl; have hcz4_1 : w3.cell? ⟨gb151, 1, none⟩ = some (.int .i64 a0_1) := (blk_cell BK151.out 1).trans rfl; have hcz4_2 : w3.cell? ⟨gb151, 2, none⟩ = some (.int .i64 a0_2) := (blk_cell BK151.out 2).trans rfl; have hcz4_3 : w3.cell? ⟨gb151, 3, none⟩ = some (.int .i64 a0_3) := (blk_cell BK151.out 3).trans rfl; have hfz4_0 := blk_frozen BK151.out 0; have hfz4_1 := blk_frozen BK151.out 1; have hfz4_2 := blk_frozen BK151.out 2; have hfz4_3 := blk_frozen BK151.out 3))
    go_ret
    exact ⟨by first | rfl | (simp [errW_none, errW_some] <;> rfl) | (simp [*, errW_none, errW_some] <;> rfl), by repeat (first | (with_reducible first | exact HB.out | apply below_alloc | apply pw_below_drewN | apply below_drew1 | refine below_set ?_ GE151.out) | exact HB.out)⟩
  · rw [if_neg c2] at H
    have c2b0 : decide (a0_3 < 0) = false := decide_eq_false c2
    clear c2
    obtain rfl := Option.some.inj H
    go_enter Try.func28, Try.ntmps28
    go_wp2_with (first | ((with_reducible refine gate_dst (N := 1) rfl ?_); refine box_event ?hg (N := 1) ?hd (cs := #[.int .i64 a0_0, .int .i64 a0_1, .int .i64 a0_2, .int .i64 a0_3]) (t := 46) ?hr ?_; (case hd => rfl); (case hg => rfl); (case hr => first | (go_simp; done) | (go_simp; rfl)); intro gb151 hg w5 hbox hb; have n0_ := Aside0.mk (below_step (by repeat (first | (with_reducible first | exact HB.out | apply below_alloc | apply pw_below_drewN | apply below_drew1) | exact HB.out)) hb); have n1_ := Aside0.mk (hbox); have n2_ := Aside0.mk ((by rw [hg]; exact (below_size (by repeat (first | (with_reducible first | exact HB.out | apply below_alloc | apply pw_below_drewN | apply below_drew1) | exact HB.out))) : w.heap.size ≤ gb151)); have n3_ := Aside0.mk ((by rw [hg]; exact (below_size (by repeat (first | (with_reducible first | exact HB.out | apply below_alloc | apply pw_below_drewN | apply below_drew1) | exact HB.out))) : w.heap.size ≤ gb151)); clear HB; have HB := n0_; have BK151 := n1_; have GW151 := n2_; have GE151 := n3_; clear n0_ n1_ n2_ n3_; clear hb hbox hg; have hcz6_0 : w5.cell? ⟨gb151, 0, none⟩ = some (.int .i64 a0_0) := (blk_cell BK151.out 0).trans rfl; have hcz6_1 : w5.cell? ⟨gb151, 1, none⟩ = some (.int .i64 a0_1) := (blk_cell BK151.out 1).trans rfl; have hcz6_2 : w5.cell? ⟨gb151, 2, none⟩ = some (.int .i64 a0_2) := (blk_cell BK151.out 2).trans rfl; have hcz6_3 : w5.cell? ⟨gb151, 3, none⟩ = some (.int .i64 a0_3) := (blk_cell BK151.out 3).trans rfl; have hfz6_0 := blk_frozen BK151.out 0; have hfz6_1 := blk_frozen BK151.out 1; have hfz6_2 := blk_frozen BK151.out 2; have hfz6_3 := blk_frozen BK151.out 3))
    go_ret
    exact ⟨by first | rfl | (simp [errW_none, errW_some] <;> rfl) | (simp [*, errW_none, errW_some] <;> rfl), by repeat (first | (with_reducible first | exact HB.out | apply below_alloc | apply pw_below_drewN | apply below_drew1 | refine below_set ?_ GE151.out) | exact HB.out)⟩

end Go.Proofs.Ytnflalbiffamdaa.QRelocLinks
