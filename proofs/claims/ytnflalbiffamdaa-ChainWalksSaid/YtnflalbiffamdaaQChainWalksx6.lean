/- ChainWalks: the machine's side, written by a program of this workplace: for each Go function the answers that its Lean function tells. No condition but that the Lean function tells. -/
import Derived.Test.YtnflalbiffamdaaQChainWalksx0
import Derived.Test.YtnflalbiffamdaaQChainWalksx1
import Derived.Test.YtnflalbiffamdaaQChainWalksx3
import Derived.Test.YtnflalbiffamdaaQChainWalksx4
import Derived.Test.YtnflalbiffamdaaQChainWalksx5
namespace Go.Proofs.Ytnflalbiffamdaa.QChainWalks
open Go.RowKit Go.Proofs.YtnflalbiffamdaaW.PrintWords Go.Proofs.YtnflalbiffamdaaW.PrintLast Go.Proofs.YtnflalbiffamdaaW.PrintMore Go.Proofs.Ytnflalbiffamdaa.MineBase
attribute [local go_sem] max2_int min2_int max_two min_two max_three min_three max_four min_four   -- for this text's walks alone
attribute [local go_sem] Go.Proofs.Ytnflalbiffamdaa.MineErr.eql_err Go.Proofs.Ytnflalbiffamdaa.MineErr.neq_err Go.Proofs.Ytnflalbiffamdaa.MineErr.eql_nil_err Go.Proofs.Ytnflalbiffamdaa.MineErr.neq_nil_err
set_option linter.unusedVariables false
set_option linter.unusedSimpArgs false

attribute [local go_sem high] eqA46
/-! ### dowellaw13_ChainWalks: function 4 -/
mutual
def dowellaw13_ChainWalks.j0 : Nat → Int → Int → Int → Bool → Bool → Int → Int → Int → Int → Option (Bool)
  | 0, _, _, _, _, _, _, _, _, _ => none
  | k + 1, x4, x5, x6, x15, x61, x194000, x194001, x194002, x194003 => if x61 = true then (some false) else ((chain_Mark.f x194000 x194001 x194002 x194003 x4 x5 x6).bind fun bt207 => ((dowelref01_May.f x194000 x194001 x194002 x194003).bind fun t213 => (if t213 = true then (if x4 < 0 then (dowellaw13_ChainWalks.j1 k x4 x5 x6 x15 bt207.2.2.2.2 true x194000 x194001 x194002 x194003 bt207.1 bt207.2.1 bt207.2.2.1 bt207.2.2.2.1) else (if x4 > 255 then (dowellaw13_ChainWalks.j1 k x4 x5 x6 x15 bt207.2.2.2.2 true x194000 x194001 x194002 x194003 bt207.1 bt207.2.1 bt207.2.2.1 bt207.2.2.2.1) else (if x5 < 0 then (dowellaw13_ChainWalks.j1 k x4 x5 x6 x15 bt207.2.2.2.2 true x194000 x194001 x194002 x194003 bt207.1 bt207.2.1 bt207.2.2.1 bt207.2.2.2.1) else (if x5 > 15 then (dowellaw13_ChainWalks.j1 k x4 x5 x6 x15 bt207.2.2.2.2 true x194000 x194001 x194002 x194003 bt207.1 bt207.2.1 bt207.2.2.1 bt207.2.2.2.1) else (if x6 < 0 then (dowellaw13_ChainWalks.j1 k x4 x5 x6 x15 bt207.2.2.2.2 true x194000 x194001 x194002 x194003 bt207.1 bt207.2.1 bt207.2.2.1 bt207.2.2.2.1) else (dowellaw13_ChainWalks.j1 k x4 x5 x6 x15 bt207.2.2.2.2 (decide (x6 > 63)) x194000 x194001 x194002 x194003 bt207.1 bt207.2.1 bt207.2.2.1 bt207.2.2.2.1)))))) else (dowellaw13_ChainWalks.j1 k x4 x5 x6 x15 bt207.2.2.2.2 true x194000 x194001 x194002 x194003 bt207.1 bt207.2.1 bt207.2.2.1 bt207.2.2.2.1))))
def dowellaw13_ChainWalks.j1 : Nat → Int → Int → Int → Bool → Option Int → Bool → Int → Int → Int → Int → Int → Int → Int → Int → Option (Bool)
  | 0, _, _, _, _, _, _, _, _, _, _, _, _, _, _ => none
  | k + 1, x4, x5, x6, x15, x21, x97, x194000, x194001, x194002, x194003, x213000, x213001, x213002, x213003 => if x97 = true then (if x15 = true then (if x21.isNone = true then (some false) else (if (x21.getD 0) = 1 then (some (x213000 == 0 && (x213001 == 0 && (x213002 == 0 && (x213003 == 0))))) else (some false))) else (some false)) else (if (wrap64 ((wrap64 ((wrap64 (1024 * x4)) + (wrap64 (64 * x5)))) + x6)) > 131071 then (if x15 = true then (if x21.isNone = true then (some (x213000 == x194000 && (x213001 == x194001 && (x213002 == x194002 && (x213003 == (wrap64 ((wrap64 ((wrap64 ((wrap64 (1024 * x4)) + (wrap64 (64 * x5)))) + x6)) - 262144))))))) else (some false)) else (some false)) else (if x15 = true then (if x21.isNone = true then (some (x213000 == x194000 && (x213001 == x194001 && (x213002 == x194002 && (x213003 == (wrap64 ((wrap64 ((wrap64 (1024 * x4)) + (wrap64 (64 * x5)))) + x6))))))) else (some false)) else (some false)))
end
def dowellaw13_ChainWalks.f (k : Nat) (l0 : List Int) (a1 : Int) (a2 : Int) (a3_0 : Int) (a3_1 : Int) (a3_2 : Int) (a3_3 : Int) (a4 : Int) (a5 : Int) (a6 : Int) : Option (Bool) := (dowellaw13_up.f k).bind fun t194 => (if (l0.length : Int) > 600 then (some t194) else ((chain_Walk.f k l0 a1 a2).bind fun bt195 => ((dowelref09_Walk.f k l0 a1 a2).bind fun bt199 => (if bt195.2.isNone = true then (if (true != bt199.2) = true then (dowellaw13_ChainWalks.j0 k a4 a5 a6 t194 true a3_0 a3_1 a3_2 a3_3) else (if bt199.2 = true then ((dowellaw13_Same.f k bt195.1 bt199.1).bind fun t204 => (dowellaw13_ChainWalks.j0 k a4 a5 a6 t194 (t204 == 0) a3_0 a3_1 a3_2 a3_3)) else (dowellaw13_ChainWalks.j0 k a4 a5 a6 t194 true a3_0 a3_1 a3_2 a3_3))) else (if (false != bt199.2) = true then (dowellaw13_ChainWalks.j0 k a4 a5 a6 t194 true a3_0 a3_1 a3_2 a3_3) else (if bt199.2 = true then ((dowellaw13_Same.f k bt195.1 bt199.1).bind fun t205 => (dowellaw13_ChainWalks.j0 k a4 a5 a6 t194 (t205 == 0) a3_0 a3_1 a3_2 a3_3)) else (if (bt195.2.getD 0) = 4 then ((dowellaw13_Same.f k bt195.1 bt199.1).bind fun t206 => (dowellaw13_ChainWalks.j0 k a4 a5 a6 t194 (t206 == 0) a3_0 a3_1 a3_2 a3_3)) else (dowellaw13_ChainWalks.j0 k a4 a5 a6 t194 true a3_0 a3_1 a3_2 a3_3))))))))
theorem dowellaw13_ChainWalks.mono_l : ∀ k, (∀ y0 y1 y2 y3 y4 y5 y6 y7 y8, LeO (dowellaw13_ChainWalks.j0 k y0 y1 y2 y3 y4 y5 y6 y7 y8) (dowellaw13_ChainWalks.j0 (k + 1) y0 y1 y2 y3 y4 y5 y6 y7 y8)) ∧ (∀ y0 y1 y2 y3 y4 y5 y6 y7 y8 y9 y10 y11 y12 y13, LeO (dowellaw13_ChainWalks.j1 k y0 y1 y2 y3 y4 y5 y6 y7 y8 y9 y10 y11 y12 y13) (dowellaw13_ChainWalks.j1 (k + 1) y0 y1 y2 y3 y4 y5 y6 y7 y8 y9 y10 y11 y12 y13))
  | 0 => ⟨fun _ _ _ _ _ _ _ _ _ r h => by simp [dowellaw13_ChainWalks.j0] at h, fun _ _ _ _ _ _ _ _ _ _ _ _ _ _ r h => by simp [dowellaw13_ChainWalks.j1] at h⟩
  | k + 1 => by
    obtain ⟨ih0, ih1⟩ := dowellaw13_ChainWalks.mono_l k
    refine ⟨?_, ?_⟩
    · intro y0 y1 y2 y3 y4 y5 y6 y7 y8
      unfold dowellaw13_ChainWalks.j0
      repeat' first
      | (with_reducible exact ih0 _ _ _ _ _ _ _ _ _)
      | (with_reducible exact ih1 _ _ _ _ _ _ _ _ _ _ _ _ _ _)
      | (with_reducible exact chain_Walk.mono _ _ _ _)
      | (with_reducible exact dowellaw13_Same.mono _ _ _)
      | (with_reducible exact dowellaw13_up.mono _)
      | (with_reducible exact dowelref09_Walk.mono _ _ _ _)
      | (with_reducible exact LeO.refl _)
      | (with_reducible exact LeO.none _)
      | (with_reducible refine LeO.ite ?_ ?_)
      | (with_reducible refine LeO.bind ?_ (fun _ => ?_))
      | exact ih0 _ _ _ _ _ _ _ _ _
      | exact ih1 _ _ _ _ _ _ _ _ _ _ _ _ _ _
      | exact chain_Walk.mono _ _ _ _
      | exact dowellaw13_Same.mono _ _ _
      | exact dowellaw13_up.mono _
      | exact dowelref09_Walk.mono _ _ _ _
      | exact LeO.none _
      | refine LeO.ite ?_ ?_
      | refine LeO.bind ?_ (fun _ => ?_)
    · intro y0 y1 y2 y3 y4 y5 y6 y7 y8 y9 y10 y11 y12 y13
      unfold dowellaw13_ChainWalks.j1
      repeat' first
      | (with_reducible exact ih0 _ _ _ _ _ _ _ _ _)
      | (with_reducible exact ih1 _ _ _ _ _ _ _ _ _ _ _ _ _ _)
      | (with_reducible exact chain_Walk.mono _ _ _ _)
      | (with_reducible exact dowellaw13_Same.mono _ _ _)
      | (with_reducible exact dowellaw13_up.mono _)
      | (with_reducible exact dowelref09_Walk.mono _ _ _ _)
      | (with_reducible exact LeO.refl _)
      | (with_reducible exact LeO.none _)
      | (with_reducible refine LeO.ite ?_ ?_)
      | (with_reducible refine LeO.bind ?_ (fun _ => ?_))
      | exact ih0 _ _ _ _ _ _ _ _ _
      | exact ih1 _ _ _ _ _ _ _ _ _ _ _ _ _ _
      | exact chain_Walk.mono _ _ _ _
      | exact dowellaw13_Same.mono _ _ _
      | exact dowellaw13_up.mono _
      | exact dowelref09_Walk.mono _ _ _ _
      | exact LeO.none _
      | refine LeO.ite ?_ ?_
      | refine LeO.bind ?_ (fun _ => ?_)
theorem dowellaw13_ChainWalks.mono : ∀ a0 a1 a2 a3 a4 a5 a6 a7 a8 a9 k, LeO (dowellaw13_ChainWalks.f k a0 a1 a2 a3 a4 a5 a6 a7 a8 a9) (dowellaw13_ChainWalks.f (k + 1) a0 a1 a2 a3 a4 a5 a6 a7 a8 a9) := by
  intro a0 a1 a2 a3 a4 a5 a6 a7 a8 a9 k
  obtain ⟨ih0, ih1⟩ := dowellaw13_ChainWalks.mono_l k
  unfold dowellaw13_ChainWalks.f
  repeat' first
      | (with_reducible exact ih0 _ _ _ _ _ _ _ _ _)
      | (with_reducible exact ih1 _ _ _ _ _ _ _ _ _ _ _ _ _ _)
      | (with_reducible exact chain_Walk.mono _ _ _ _)
      | (with_reducible exact dowellaw13_Same.mono _ _ _)
      | (with_reducible exact dowellaw13_up.mono _)
      | (with_reducible exact dowelref09_Walk.mono _ _ _ _)
      | (with_reducible exact LeO.refl _)
      | (with_reducible exact LeO.none _)
      | (with_reducible refine LeO.ite ?_ ?_)
      | (with_reducible refine LeO.bind ?_ (fun _ => ?_))
      | exact ih0 _ _ _ _ _ _ _ _ _
      | exact ih1 _ _ _ _ _ _ _ _ _ _ _ _ _ _
      | exact chain_Walk.mono _ _ _ _
      | exact dowellaw13_Same.mono _ _ _
      | exact dowellaw13_up.mono _
      | exact dowelref09_Walk.mono _ _ _ _
      | exact LeO.none _
      | refine LeO.ite ?_ ?_
      | refine LeO.bind ?_ (fun _ => ?_)
set_option maxHeartbeats 8000000 in
set_option maxRecDepth 100000 in
theorem dowellaw13_ChainWalks.calls (k : Nat) (A0 : Option Addr) (c0 : Nat) (l0 : List Int) (a1 : Int) (a2 : Int) (a3_0 : Int) (a3_1 : Int) (a3_2 : Int) (a3_3 : Int) (a4 : Int) (a5 : Int) (a6 : Int) (r : Bool) (w : World) (hr0 : Kd.C (Kd.int .u32) w A0 l0.length l0) (hc0 : l0.length ≤ c0) (h : dowellaw13_ChainWalks.f k l0 a1 a2 a3_0 a3_1 a3_2 a3_3 a4 a5 a6 = some r) :
    Calls Try.prog 4 #[.slice A0 l0.length c0, .int .i64 a1, .int .i64 a2, .agg #[.int .i64 a3_0, .int .i64 a3_1, .int .i64 a3_2, .int .i64 a3_3], .int .i64 a4, .int .i64 a5, .int .i64 a6] w fun e w' => e = .returned (.bool r) ∧ Below w.heap.size w w' := by
  have hu46 := Try.underlying46
  have hu49 := Try.underlying49
  have hu55 := Try.underlying55
  have HR0 := Aside0.mk hr0
  have HC0 := Aside0.mk hc0
  clear hr0 hc0
  have HB := Aside0.mk (Below.refl w.heap.size w)
  have H : ((dowellaw13_up.f k).bind fun t194 => (if (l0.length : Int) > 600 then (some t194) else ((chain_Walk.f k l0 a1 a2).bind fun bt195 => ((dowelref09_Walk.f k l0 a1 a2).bind fun bt199 => (if bt195.2.isNone = true then (if (true != bt199.2) = true then (dowellaw13_ChainWalks.j0 k a4 a5 a6 t194 true a3_0 a3_1 a3_2 a3_3) else (if bt199.2 = true then ((dowellaw13_Same.f k bt195.1 bt199.1).bind fun t204 => (dowellaw13_ChainWalks.j0 k a4 a5 a6 t194 (t204 == 0) a3_0 a3_1 a3_2 a3_3)) else (dowellaw13_ChainWalks.j0 k a4 a5 a6 t194 true a3_0 a3_1 a3_2 a3_3))) else (if (false != bt199.2) = true then (dowellaw13_ChainWalks.j0 k a4 a5 a6 t194 true a3_0 a3_1 a3_2 a3_3) else (if bt199.2 = true then ((dowellaw13_Same.f k bt195.1 bt199.1).bind fun t205 => (dowellaw13_ChainWalks.j0 k a4 a5 a6 t194 (t205 == 0) a3_0 a3_1 a3_2 a3_3)) else (if (bt195.2.getD 0) = 4 then ((dowellaw13_Same.f k bt195.1 bt199.1).bind fun t206 => (dowellaw13_ChainWalks.j0 k a4 a5 a6 t194 (t206 == 0) a3_0 a3_1 a3_2 a3_3)) else (dowellaw13_ChainWalks.j0 k a4 a5 a6 t194 true a3_0 a3_1 a3_2 a3_3))))))))) = some r := h
  clear h
  replace H := Option.bind_eq_some_iff.mp H
  obtain ⟨t194, A80, H⟩ := H
  replace H : (if (l0.length : Int) > 600 then (some t194) else ((chain_Walk.f k l0 a1 a2).bind fun bt195 => ((dowelref09_Walk.f k l0 a1 a2).bind fun bt199 => (if bt195.2.isNone = true then (if (true != bt199.2) = true then (dowellaw13_ChainWalks.j0 k a4 a5 a6 t194 true a3_0 a3_1 a3_2 a3_3) else (if bt199.2 = true then ((dowellaw13_Same.f k bt195.1 bt199.1).bind fun t204 => (dowellaw13_ChainWalks.j0 k a4 a5 a6 t194 (t204 == 0) a3_0 a3_1 a3_2 a3_3)) else (dowellaw13_ChainWalks.j0 k a4 a5 a6 t194 true a3_0 a3_1 a3_2 a3_3))) else (if (false != bt199.2) = true then (dowellaw13_ChainWalks.j0 k a4 a5 a6 t194 true a3_0 a3_1 a3_2 a3_3) else (if bt199.2 = true then ((dowellaw13_Same.f k bt195.1 bt199.1).bind fun t205 => (dowellaw13_ChainWalks.j0 k a4 a5 a6 t194 (t205 == 0) a3_0 a3_1 a3_2 a3_3)) else (if (bt195.2.getD 0) = 4 then ((dowellaw13_Same.f k bt195.1 bt199.1).bind fun t206 => (dowellaw13_ChainWalks.j0 k a4 a5 a6 t194 (t206 == 0) a3_0 a3_1 a3_2 a3_3)) else (dowellaw13_ChainWalks.j0 k a4 a5 a6 t194 true a3_0 a3_1 a3_2 a3_3)))))))) = some r := H
  have A8 := Aside0.mk A80
  clear A80
  by_cases c9 : (l0.length : Int) > 600
  · rw [if_pos c9] at H
    have c9b0 : decide (600 < (l0.length : Int)) = true := decide_eq_true c9
    have c9b1 : decide (600 < l0.length) = true := decide_eq_true (by omega)
    clear c9
    obtain rfl := Option.some.inj H
    go_enter Try.func4, Try.ntmps4
    go_wp2_with (first | ((with_reducible refine gate_dst (N := 10) rfl ?_); refine box_event ?hg (N := 10) ?hd (cs := #[.int .i64 a3_0, .int .i64 a3_1, .int .i64 a3_2, .int .i64 a3_3]) (t := 46) ?hr ?_; (case hd => rfl); (case hg => rfl); (case hr => first | (go_simp; done) | (go_simp; rfl)); intro gb193 hg w10 hbox hb; have n0_ := Aside0.mk (below_step (by repeat (first | (with_reducible first | exact HB.out | apply below_alloc | apply pw_below_drewN | apply below_drew1) | exact HB.out)) hb); have n1_ := Aside0.mk (hbox); have n2_ := Aside0.mk ((by rw [hg]; exact (below_size (by repeat (first | (with_reducible first | exact HB.out | apply below_alloc | apply pw_below_drewN | apply below_drew1) | exact HB.out))) : w.heap.size ≤ gb193)); have n3_ := Aside0.mk ((by rw [hg]; exact (below_size (by repeat (first | (with_reducible first | exact HB.out | apply below_alloc | apply pw_below_drewN | apply below_drew1) | exact HB.out))) : w.heap.size ≤ gb193)); clear HB; have HB := n0_; have BK193 := n1_; have GW193 := n2_; have GE193 := n3_; clear n0_ n1_ n2_ n3_; clear hb hbox hg) | ((with_reducible refine gate_callee (f := 19) rfl ?_); refine goesL_ (some 24) rfl rfl Try.func19 (by kernel_rfl) rfl #[] rfl (by (try simp only [List.map_toArray, List.map_cons, List.map_nil]); first | done | rfl | (simp only [List.length_drop, List.length_take]; rfl)) ?_; (with_reducible refine (dowellaw13_up.calls k  t194 _ A8.out).mono ?_); rintro e w11 ⟨rfl, hb⟩; refine ⟨_, rfl, ?_⟩; have n0_ := Aside0.mk (blk_below (g := gb193) (o := .cells #[.int .i64 a3_0, .int .i64 a3_1, .int .i64 a3_2, .int .i64 a3_3] 46 (0, 0)) (by (with_reducible repeat (first | refine blk_drewN ?_ _ | refine blk_drew ?_ | refine blk_alloc ?_ _)); exact BK193.out) hb); have n1_ := Aside0.mk (below_step (by repeat (first | (with_reducible first | exact HB.out | apply below_alloc | apply pw_below_drewN | apply below_drew1 | refine below_set ?_ GE193.out) | exact HB.out)) hb); clear BK193; clear HB; have BK193 := n0_; have HB := n1_; clear n0_ n1_; (try clear hb); (try clear hb2); (try clear hk); (try clear hi)))
    go_ret
    exact ⟨by first | rfl | (simp [errW_none, errW_some] <;> rfl) | (simp [*, errW_none, errW_some] <;> rfl), by repeat (first | (with_reducible first | exact HB.out | apply below_alloc | apply pw_below_drewN | apply below_drew1 | refine below_set ?_ GE193.out) | exact HB.out)⟩
  · rw [if_neg c9] at H
    have c9b0 : decide (600 < (l0.length : Int)) = false := decide_eq_false c9
    have c9b1 : decide (600 < l0.length) = false := decide_eq_false (by omega)
    clear c9
    replace H := Option.bind_eq_some_iff.mp H
    obtain ⟨⟨t195, t196⟩, A120, H⟩ := H
    replace H : ((dowelref09_Walk.f k l0 a1 a2).bind fun bt199 => (if t196.isNone = true then (if (true != bt199.2) = true then (dowellaw13_ChainWalks.j0 k a4 a5 a6 t194 true a3_0 a3_1 a3_2 a3_3) else (if bt199.2 = true then ((dowellaw13_Same.f k t195 bt199.1).bind fun t204 => (dowellaw13_ChainWalks.j0 k a4 a5 a6 t194 (t204 == 0) a3_0 a3_1 a3_2 a3_3)) else (dowellaw13_ChainWalks.j0 k a4 a5 a6 t194 true a3_0 a3_1 a3_2 a3_3))) else (if (false != bt199.2) = true then (dowellaw13_ChainWalks.j0 k a4 a5 a6 t194 true a3_0 a3_1 a3_2 a3_3) else (if bt199.2 = true then ((dowellaw13_Same.f k t195 bt199.1).bind fun t205 => (dowellaw13_ChainWalks.j0 k a4 a5 a6 t194 (t205 == 0) a3_0 a3_1 a3_2 a3_3)) else (if (t196.getD 0) = 4 then ((dowellaw13_Same.f k t195 bt199.1).bind fun t206 => (dowellaw13_ChainWalks.j0 k a4 a5 a6 t194 (t206 == 0) a3_0 a3_1 a3_2 a3_3)) else (dowellaw13_ChainWalks.j0 k a4 a5 a6 t194 true a3_0 a3_1 a3_2 a3_3)))))) = some r := H
    have A12 := Aside0.mk A120
    clear A120
    replace H := Option.bind_eq_some_iff.mp H
    obtain ⟨⟨t199, t200⟩, A130, H⟩ := H
    replace H : (if t196.isNone = true then (if (true != t200) = true then (dowellaw13_ChainWalks.j0 k a4 a5 a6 t194 true a3_0 a3_1 a3_2 a3_3) else (if t200 = true then ((dowellaw13_Same.f k t195 t199).bind fun t204 => (dowellaw13_ChainWalks.j0 k a4 a5 a6 t194 (t204 == 0) a3_0 a3_1 a3_2 a3_3)) else (dowellaw13_ChainWalks.j0 k a4 a5 a6 t194 true a3_0 a3_1 a3_2 a3_3))) else (if (false != t200) = true then (dowellaw13_ChainWalks.j0 k a4 a5 a6 t194 true a3_0 a3_1 a3_2 a3_3) else (if t200 = true then ((dowellaw13_Same.f k t195 t199).bind fun t205 => (dowellaw13_ChainWalks.j0 k a4 a5 a6 t194 (t205 == 0) a3_0 a3_1 a3_2 a3_3)) else (if (t196.getD 0) = 4 then ((dowellaw13_Same.f k t195 t199).bind fun t206 => (dowellaw13_ChainWalks.j0 k a4 a5 a6 t194 (t206 == 0) a3_0 a3_1 a3_2 a3_3)) else (dowellaw13_ChainWalks.j0 k a4 a5 a6 t194 true a3_0 a3_1 a3_2 a3_3))))) = some r := H
    have A13 := Aside0.mk A130
    clear A130
    have HC14 := Aside0.mk H
    clear H
    go_enter Try.func4, Try.ntmps4
    go_upto_region 6 with (first | ((with_reducible refine gate_dst (N := 10) rfl ?_); refine box_event ?hg (N := 10) ?hd (cs := #[.int .i64 a3_0, .int .i64 a3_1, .int .i64 a3_2, .int .i64 a3_3]) (t := 46) ?hr ?_; (case hd => rfl); (case hg => rfl); (case hr => first | (go_simp; done) | (go_simp; rfl)); intro gb193 hg w15 hbox hb; have n0_ := Aside0.mk (below_step (by repeat (first | (with_reducible first | exact HB.out | apply below_alloc | apply pw_below_drewN | apply below_drew1) | exact HB.out)) hb); have n1_ := Aside0.mk (hbox); have n2_ := Aside0.mk ((by rw [hg]; exact (below_size (by repeat (first | (with_reducible first | exact HB.out | apply below_alloc | apply pw_below_drewN | apply below_drew1) | exact HB.out))) : w.heap.size ≤ gb193)); have n3_ := Aside0.mk ((by rw [hg]; exact (below_size (by repeat (first | (with_reducible first | exact HB.out | apply below_alloc | apply pw_below_drewN | apply below_drew1) | exact HB.out))) : w.heap.size ≤ gb193)); clear HB; have HB := n0_; have BK193 := n1_; have GW193 := n2_; have GE193 := n3_; clear n0_ n1_ n2_ n3_; clear hb hbox hg) | ((with_reducible refine gate_callee (f := 19) rfl ?_); refine goesL_ (some 24) rfl rfl Try.func19 (by kernel_rfl) rfl #[] rfl (by (try simp only [List.map_toArray, List.map_cons, List.map_nil]); first | done | rfl | (simp only [List.length_drop, List.length_take]; rfl)) ?_; (with_reducible refine (dowellaw13_up.calls k  t194 _ A8.out).mono ?_); rintro e w16 ⟨rfl, hb⟩; refine ⟨_, rfl, ?_⟩; have n0_ := Aside0.mk (blk_below (g := gb193) (o := .cells #[.int .i64 a3_0, .int .i64 a3_1, .int .i64 a3_2, .int .i64 a3_3] 46 (0, 0)) (by (with_reducible repeat (first | refine blk_drewN ?_ _ | refine blk_drew ?_ | refine blk_alloc ?_ _)); exact BK193.out) hb); have n1_ := Aside0.mk (below_step (by repeat (first | (with_reducible first | exact HB.out | apply below_alloc | apply pw_below_drewN | apply below_drew1 | refine below_set ?_ GE193.out) | exact HB.out)) hb); clear BK193; clear HB; have BK193 := n0_; have HB := n1_; clear n0_ n1_; (try clear hb); (try clear hb2); (try clear hk); (try clear hi)) | ((with_reducible refine gate_callee (f := 20) rfl ?_); refine goesL_ (some 33) rfl rfl Try.func20 (by kernel_rfl) rfl #[.slice A0 l0.length c0, .int .i64 a1, .int .i64 a2] rfl (by (try simp only [List.map_toArray, List.map_cons, List.map_nil]); first | done | rfl | (simp only [List.length_drop, List.length_take]; rfl)) ?_; (with_reducible refine (chain_Walk.calls k _ _ l0 a1 a2 t195 t196 _ ?side1 ?side2 A12.out).mono ?_); (case side1 => repeat (first | exact (Kd.C_below HR0.out HB.out) | (with_reducible refine Kd.C_alloc ?_ _) | (with_reducible refine Kd.C_drewN ?_ _) | (with_reducible refine Kd.C_drew ?_))); (case side2 => exact HC0.out); rintro e w17 ⟨v197, rfl, ho0, hb⟩; refine ⟨_, rfl, ?_⟩; have n0_ := Aside0.mk (Kd.R_lower ho0 (below_size (by repeat (first | (with_reducible first | exact HB.out | apply below_alloc | apply pw_below_drewN | apply below_drew1 | refine below_set ?_ GE193.out) | exact HB.out)))); have n1_ := Aside0.mk (blk_below (g := gb193) (o := .cells #[.int .i64 a3_0, .int .i64 a3_1, .int .i64 a3_2, .int .i64 a3_3] 46 (0, 0)) (by (with_reducible repeat (first | refine blk_drewN ?_ _ | refine blk_drew ?_ | refine blk_alloc ?_ _)); exact BK193.out) hb); have n2_ := Aside0.mk (below_step (by repeat (first | (with_reducible first | exact HB.out | apply below_alloc | apply pw_below_drewN | apply below_drew1 | refine below_set ?_ GE193.out) | exact HB.out)) hb); clear BK193; clear HB; have HO198 := n0_; have BK193 := n1_; have HB := n2_; clear n0_ n1_ n2_; (try clear hb); (try clear hb2); (try clear hk); (try clear hi); (try clear ho0); (try simp only [errW_none, errW_some])) | ((with_reducible refine gate_callee (f := 21) rfl ?_); refine goesL_ (some 40) rfl rfl Try.func21 (by kernel_rfl) rfl #[.slice A0 l0.length c0, .int .i64 a1, .int .i64 a2] rfl (by (try simp only [List.map_toArray, List.map_cons, List.map_nil]); first | done | rfl | (simp only [List.length_drop, List.length_take]; rfl)) ?_; (with_reducible refine (dowelref09_Walk.calls k _ _ l0 a1 a2 t199 t200 _ ?side1 ?side2 A13.out).mono ?_); (case side1 => repeat (first | exact (Kd.C_below HR0.out HB.out) | (with_reducible refine Kd.C_alloc ?_ _) | (with_reducible refine Kd.C_drewN ?_ _) | (with_reducible refine Kd.C_drew ?_))); (case side2 => exact HC0.out); rintro e w18 ⟨v201, rfl, ho0, hb⟩; refine ⟨_, rfl, ?_⟩; have n0_ := Aside0.mk (Kd.R_below (by (with_reducible repeat (first | apply Kd.R_alloc | apply Kd.R_drewN | apply Kd.R_drew)); exact HO198.out) hb); have n1_ := Aside0.mk (Kd.R_lower ho0 (below_size (by repeat (first | (with_reducible first | exact HB.out | apply below_alloc | apply pw_below_drewN | apply below_drew1 | refine below_set ?_ GE193.out) | exact HB.out)))); have n2_ := Aside0.mk (blk_below (g := gb193) (o := .cells #[.int .i64 a3_0, .int .i64 a3_1, .int .i64 a3_2, .int .i64 a3_3] 46 (0, 0)) (by (with_reducible repeat (first | refine blk_drewN ?_ _ | refine blk_drew ?_ | refine blk_alloc ?_ _)); exact BK193.out) hb); have n3_ := Aside0.mk (below_step (by repeat (first | (with_reducible first | exact HB.out | apply below_alloc | apply pw_below_drewN | apply below_drew1 | refine below_set ?_ GE193.out) | exact HB.out)) hb); clear HO198; clear BK193; clear HB; have HO198 := n0_; have HO202 := n1_; have BK193 := n2_; have HB := n3_; clear n0_ n1_ n2_ n3_; (try clear hb); (try clear hb2); (try clear hk); (try clear hi); (try clear ho0)))
    (try simp only [Act.put, List.setIfInBounds_toArray, List.set_cons_zero, List.set_cons_succ])
    go_cut [61] (fun v61 wc => ∃ (kq : Nat) (x61_13 : Bool), v61 = .bool x61_13 ∧ Aside0 (dowellaw13_ChainWalks.j0 kq a4 a5 a6 t194 x61_13 a3_0 a3_1 a3_2 a3_3 = some r) ∧ Aside0 (kq ≤ k) ∧ Aside0 (wc.heap[gb193]? = some (.cells #[.int .i64 a3_0, .int .i64 a3_1, .int .i64 a3_2, .int .i64 a3_3] 46 (0, 0))) ∧ Aside0 (Below w.heap.size w wc))
    case first =>
      have H := HC14.out
      clear HC14
      rcases t196 with _ | q203
      · have H1 : (if (true != t200) = true then (dowellaw13_ChainWalks.j0 k a4 a5 a6 t194 true a3_0 a3_1 a3_2 a3_3) else (if t200 = true then ((dowellaw13_Same.f k t195 t199).bind fun t204 => (dowellaw13_ChainWalks.j0 k a4 a5 a6 t194 (t204 == 0) a3_0 a3_1 a3_2 a3_3)) else (dowellaw13_ChainWalks.j0 k a4 a5 a6 t194 true a3_0 a3_1 a3_2 a3_3))) = some r := by rw [if_pos (show (none : Option Int).isNone = true by rfl)] at H; exact H
        clear H
        have H := H1
        clear H1
        try simp only [errW_none, errW_some]
        by_cases c19 : (true != t200) = true
        · rw [if_pos c19] at H
          have c19b0 : (true != t200) = true := c19
          (try (have c19b1 : decide (true = t200) = false := by simpa using c19))
          (try (have c19b2 : (true == t200) = false := by simpa using c19))
          (try (have c19b3 : ¬ (true = t200) := by simpa using c19))
          clear c19
          (first | rw [c19b0] | (simp only [i64_w, i32_w]; rw [c19b0]) | skip)
          have H' := Aside0.mk H
          clear H
          go_wp2
          go_meet
          case rel => exact ⟨_, (true), (by first | rfl | (simp; done) | (simp [*]; done)), H', ⟨by first | omega | exact Nat.le_refl _⟩, ⟨by (with_reducible repeat (first | refine blk_drewN ?_ _ | refine blk_drew ?_ | refine blk_alloc ?_ _)); exact BK193.out⟩, ⟨by repeat (first | (with_reducible first | exact HB.out | apply below_alloc | apply pw_below_drewN | apply below_drew1 | refine below_set ?_ GE193.out) | exact HB.out)⟩⟩
        · rw [if_neg c19] at H
          have c19b0 : (true != t200) = false := by simpa using c19
          (try (have c19b1 : decide (true = t200) = true := by simpa using c19))
          (try (have c19b2 : (true == t200) = true := by simpa using c19))
          clear c19
          (first | rw [c19b0] | (simp only [i64_w, i32_w]; rw [c19b0]) | skip)
          by_cases c20 : t200 = true
          · subst c20
            have H1 : ((dowellaw13_Same.f k t195 t199).bind fun t204 => (dowellaw13_ChainWalks.j0 k a4 a5 a6 t194 (t204 == 0) a3_0 a3_1 a3_2 a3_3)) = some r := by rw [if_pos rfl] at H; exact H
            clear H
            have H := H1
            clear H1
            replace H := Option.bind_eq_some_iff.mp H
            obtain ⟨t204, A210, H⟩ := H
            replace H : (dowellaw13_ChainWalks.j0 k a4 a5 a6 t194 (t204 == 0) a3_0 a3_1 a3_2 a3_3) = some r := H
            have A21 := Aside0.mk A210
            clear A210
            have H' := Aside0.mk H
            clear H
            obtain ⟨Ao22, co22, eo22⟩ := Kd.R_slice HO198.out
            subst eo22
            obtain ⟨Ao23, co23, eo23⟩ := Kd.R_slice HO202.out
            subst eo23
            go_wp2_with (first | (go_at_call 22; (with_reducible refine (dowellaw13_Same.calls k _ _ t195 _ _ t199 t204 _ ?side1 ?side2 ?side3 ?side4 A21.out).mono ?_); (case side1 => repeat (first | exact (Kd.R_reads' HO198.out).2.2 | (with_reducible refine Kd.C_alloc ?_ _) | (with_reducible refine Kd.C_drewN ?_ _) | (with_reducible refine Kd.C_drew ?_))); (case side2 => exact (Kd.R_reads' HO198.out).2.1); (case side3 => repeat (first | exact (Kd.R_reads' HO202.out).2.2 | (with_reducible refine Kd.C_alloc ?_ _) | (with_reducible refine Kd.C_drewN ?_ _) | (with_reducible refine Kd.C_drew ?_))); (case side4 => exact (Kd.R_reads' HO202.out).2.1); rintro e w' ⟨rfl, ⟨nd, rfl⟩⟩))
            go_meet
            case rel => exact ⟨_, ((t204 == 0)), (by first | rfl | (simp; done) | (simp [*]; done)), H', ⟨by first | omega | exact Nat.le_refl _⟩, ⟨by (with_reducible repeat (first | refine blk_drewN ?_ _ | refine blk_drew ?_ | refine blk_alloc ?_ _)); exact BK193.out⟩, ⟨by repeat (first | (with_reducible first | exact HB.out | apply below_alloc | apply pw_below_drewN | apply below_drew1 | refine below_set ?_ GE193.out) | exact HB.out)⟩⟩
          · replace c20 := Bool.eq_false_iff.mpr c20
            subst c20
            have H1 : (dowellaw13_ChainWalks.j0 k a4 a5 a6 t194 true a3_0 a3_1 a3_2 a3_3) = some r := by rw [if_neg (show ¬ (false = true) by decide)] at H; exact H
            clear H
            have H := H1
            clear H1
            have H' := Aside0.mk H
            clear H
            go_wp2
            go_meet
            case rel => exact ⟨_, (true), (by first | rfl | (simp; done) | (simp [*]; done)), H', ⟨by first | omega | exact Nat.le_refl _⟩, ⟨by (with_reducible repeat (first | refine blk_drewN ?_ _ | refine blk_drew ?_ | refine blk_alloc ?_ _)); exact BK193.out⟩, ⟨by repeat (first | (with_reducible first | exact HB.out | apply below_alloc | apply pw_below_drewN | apply below_drew1 | refine below_set ?_ GE193.out) | exact HB.out)⟩⟩
      · have H1 : (if (false != t200) = true then (dowellaw13_ChainWalks.j0 k a4 a5 a6 t194 true a3_0 a3_1 a3_2 a3_3) else (if t200 = true then ((dowellaw13_Same.f k t195 t199).bind fun t205 => (dowellaw13_ChainWalks.j0 k a4 a5 a6 t194 (t205 == 0) a3_0 a3_1 a3_2 a3_3)) else (if q203 = 4 then ((dowellaw13_Same.f k t195 t199).bind fun t206 => (dowellaw13_ChainWalks.j0 k a4 a5 a6 t194 (t206 == 0) a3_0 a3_1 a3_2 a3_3)) else (dowellaw13_ChainWalks.j0 k a4 a5 a6 t194 true a3_0 a3_1 a3_2 a3_3)))) = some r := by rw [if_neg (show ¬ (some q203).isNone = true by simp)] at H; exact H
        clear H
        have H := H1
        clear H1
        try simp only [errW_none, errW_some]
        by_cases c24 : (false != t200) = true
        · rw [if_pos c24] at H
          have c24b0 : (false != t200) = true := c24
          (try (have c24b1 : decide (false = t200) = false := by simpa using c24))
          (try (have c24b2 : (false == t200) = false := by simpa using c24))
          (try (have c24b3 : ¬ (false = t200) := by simpa using c24))
          clear c24
          have H' := Aside0.mk H
          clear H
          go_wp2
          go_meet
          case rel => exact ⟨_, (true), (by first | rfl | (simp; done) | (simp [*]; done)), H', ⟨by first | omega | exact Nat.le_refl _⟩, ⟨by (with_reducible repeat (first | refine blk_drewN ?_ _ | refine blk_drew ?_ | refine blk_alloc ?_ _)); exact BK193.out⟩, ⟨by repeat (first | (with_reducible first | exact HB.out | apply below_alloc | apply pw_below_drewN | apply below_drew1 | refine below_set ?_ GE193.out) | exact HB.out)⟩⟩
        · rw [if_neg c24] at H
          have c24b0 : (false != t200) = false := by simpa using c24
          (try (have c24b1 : decide (false = t200) = true := by simpa using c24))
          (try (have c24b2 : (false == t200) = true := by simpa using c24))
          clear c24
          by_cases c25 : t200 = true
          · subst c25
            have H1 : ((dowellaw13_Same.f k t195 t199).bind fun t205 => (dowellaw13_ChainWalks.j0 k a4 a5 a6 t194 (t205 == 0) a3_0 a3_1 a3_2 a3_3)) = some r := by rw [if_pos rfl] at H; exact H
            clear H
            have H := H1
            clear H1
            replace H := Option.bind_eq_some_iff.mp H
            obtain ⟨t205, A260, H⟩ := H
            replace H : (dowellaw13_ChainWalks.j0 k a4 a5 a6 t194 (t205 == 0) a3_0 a3_1 a3_2 a3_3) = some r := H
            have A26 := Aside0.mk A260
            clear A260
            have H' := Aside0.mk H
            clear H
            obtain ⟨Ao27, co27, eo27⟩ := Kd.R_slice HO198.out
            subst eo27
            obtain ⟨Ao28, co28, eo28⟩ := Kd.R_slice HO202.out
            subst eo28
            go_wp2_with (first | (go_at_call 22; (with_reducible refine (dowellaw13_Same.calls k _ _ t195 _ _ t199 t205 _ ?side1 ?side2 ?side3 ?side4 A26.out).mono ?_); (case side1 => repeat (first | exact (Kd.R_reads' HO198.out).2.2 | (with_reducible refine Kd.C_alloc ?_ _) | (with_reducible refine Kd.C_drewN ?_ _) | (with_reducible refine Kd.C_drew ?_))); (case side2 => exact (Kd.R_reads' HO198.out).2.1); (case side3 => repeat (first | exact (Kd.R_reads' HO202.out).2.2 | (with_reducible refine Kd.C_alloc ?_ _) | (with_reducible refine Kd.C_drewN ?_ _) | (with_reducible refine Kd.C_drew ?_))); (case side4 => exact (Kd.R_reads' HO202.out).2.1); rintro e w' ⟨rfl, ⟨nd, rfl⟩⟩))
            go_meet
            case rel => exact ⟨_, ((t205 == 0)), (by first | rfl | (simp; done) | (simp [*]; done)), H', ⟨by first | omega | exact Nat.le_refl _⟩, ⟨by (with_reducible repeat (first | refine blk_drewN ?_ _ | refine blk_drew ?_ | refine blk_alloc ?_ _)); exact BK193.out⟩, ⟨by repeat (first | (with_reducible first | exact HB.out | apply below_alloc | apply pw_below_drewN | apply below_drew1 | refine below_set ?_ GE193.out) | exact HB.out)⟩⟩
          · replace c25 := Bool.eq_false_iff.mpr c25
            subst c25
            have H1 : (if q203 = 4 then ((dowellaw13_Same.f k t195 t199).bind fun t206 => (dowellaw13_ChainWalks.j0 k a4 a5 a6 t194 (t206 == 0) a3_0 a3_1 a3_2 a3_3)) else (dowellaw13_ChainWalks.j0 k a4 a5 a6 t194 true a3_0 a3_1 a3_2 a3_3)) = some r := by rw [if_neg (show ¬ (false = true) by decide)] at H; exact H
            clear H
            have H := H1
            clear H1
            by_cases c29 : q203 = 4
            · rw [if_pos c29] at H
              have c29b0 : (q203 == 4) = true := beq_iff_eq.mpr c29
              have c29b1 : (q203 != 4) = false := bne_eq_false_iff_eq.mpr c29
              clear c29
              replace H := Option.bind_eq_some_iff.mp H
              obtain ⟨t206, A300, H⟩ := H
              replace H : (dowellaw13_ChainWalks.j0 k a4 a5 a6 t194 (t206 == 0) a3_0 a3_1 a3_2 a3_3) = some r := H
              have A30 := Aside0.mk A300
              clear A300
              have H' := Aside0.mk H
              clear H
              obtain ⟨Ao31, co31, eo31⟩ := Kd.R_slice HO198.out
              subst eo31
              obtain ⟨Ao32, co32, eo32⟩ := Kd.R_slice HO202.out
              subst eo32
              go_wp2_with (first | (go_at_call 22; (with_reducible refine (dowellaw13_Same.calls k _ _ t195 _ _ t199 t206 _ ?side1 ?side2 ?side3 ?side4 A30.out).mono ?_); (case side1 => repeat (first | exact (Kd.R_reads' HO198.out).2.2 | (with_reducible refine Kd.C_alloc ?_ _) | (with_reducible refine Kd.C_drewN ?_ _) | (with_reducible refine Kd.C_drew ?_))); (case side2 => exact (Kd.R_reads' HO198.out).2.1); (case side3 => repeat (first | exact (Kd.R_reads' HO202.out).2.2 | (with_reducible refine Kd.C_alloc ?_ _) | (with_reducible refine Kd.C_drewN ?_ _) | (with_reducible refine Kd.C_drew ?_))); (case side4 => exact (Kd.R_reads' HO202.out).2.1); rintro e w' ⟨rfl, ⟨nd, rfl⟩⟩))
              go_meet
              case rel => exact ⟨_, ((t206 == 0)), (by first | rfl | (simp; done) | (simp [*]; done)), H', ⟨by first | omega | exact Nat.le_refl _⟩, ⟨by (with_reducible repeat (first | refine blk_drewN ?_ _ | refine blk_drew ?_ | refine blk_alloc ?_ _)); exact BK193.out⟩, ⟨by repeat (first | (with_reducible first | exact HB.out | apply below_alloc | apply pw_below_drewN | apply below_drew1 | refine below_set ?_ GE193.out) | exact HB.out)⟩⟩
            · rw [if_neg c29] at H
              have c29b0 : (q203 == 4) = false := beq_eq_false_iff_ne.mpr c29
              have c29b1 : (q203 != 4) = true := bne_iff_ne.mpr c29
              have H' := Aside0.mk H
              clear H
              go_wp2
              go_meet
              case rel => exact ⟨_, (true), (by first | rfl | (simp; done) | (simp [*]; done)), H', ⟨by first | omega | exact Nat.le_refl _⟩, ⟨by (with_reducible repeat (first | refine blk_drewN ?_ _ | refine blk_drew ?_ | refine blk_alloc ?_ _)); exact BK193.out⟩, ⟨by repeat (first | (with_reducible first | exact HB.out | apply below_alloc | apply pw_below_drewN | apply below_drew1 | refine below_set ?_ GE193.out) | exact HB.out)⟩⟩
    case rest =>
      clear HC14
      try clear c1
      try clear c2
      try clear p2
      try clear q2
      try clear c4
      try clear c9
      try clear c9b0
      try clear c9b1
      try clear c19
      try clear c19b0
      try clear c19b1
      try clear c19b2
      try clear c20
      try clear q20
      try clear c21
      try clear c24
      try clear c24b0
      try clear c24b1
      try clear c24b2
      try clear c25
      try clear c29
      try clear c29b0
      try clear c29b1
      try clear q203
      obtain ⟨kq, x61_13, rfl, HA, HJ13, BK193, HB⟩ := hcut
      cases kq with
      | zero => exact absurd HA.out (by simp [dowellaw13_ChainWalks.j0])
      | succ kj13 =>
        have H := HA.out
        clear HA
        simp only [dowellaw13_ChainWalks.j0] at H
        by_cases c33 : x61_13 = true
        · subst c33
          have H1 : (some false) = some r := by rw [if_pos rfl] at H; exact H
          clear H
          have H := H1
          clear H1
          obtain rfl := Option.some.inj H
          go_wp2
          go_ret
          exact ⟨by first | rfl | (simp [errW_none, errW_some] <;> rfl) | (simp [*, errW_none, errW_some] <;> rfl), by repeat (first | (with_reducible first | exact HB.out | apply below_alloc | apply pw_below_drewN | apply below_drew1 | refine below_set ?_ GE193.out) | exact HB.out)⟩
        · replace c33 := Bool.eq_false_iff.mpr c33
          subst c33
          have H1 : ((chain_Mark.f a3_0 a3_1 a3_2 a3_3 a4 a5 a6).bind fun bt207 => ((dowelref01_May.f a3_0 a3_1 a3_2 a3_3).bind fun t213 => (if t213 = true then (if a4 < 0 then (dowellaw13_ChainWalks.j1 kj13 a4 a5 a6 t194 bt207.2.2.2.2 true a3_0 a3_1 a3_2 a3_3 bt207.1 bt207.2.1 bt207.2.2.1 bt207.2.2.2.1) else (if a4 > 255 then (dowellaw13_ChainWalks.j1 kj13 a4 a5 a6 t194 bt207.2.2.2.2 true a3_0 a3_1 a3_2 a3_3 bt207.1 bt207.2.1 bt207.2.2.1 bt207.2.2.2.1) else (if a5 < 0 then (dowellaw13_ChainWalks.j1 kj13 a4 a5 a6 t194 bt207.2.2.2.2 true a3_0 a3_1 a3_2 a3_3 bt207.1 bt207.2.1 bt207.2.2.1 bt207.2.2.2.1) else (if a5 > 15 then (dowellaw13_ChainWalks.j1 kj13 a4 a5 a6 t194 bt207.2.2.2.2 true a3_0 a3_1 a3_2 a3_3 bt207.1 bt207.2.1 bt207.2.2.1 bt207.2.2.2.1) else (if a6 < 0 then (dowellaw13_ChainWalks.j1 kj13 a4 a5 a6 t194 bt207.2.2.2.2 true a3_0 a3_1 a3_2 a3_3 bt207.1 bt207.2.1 bt207.2.2.1 bt207.2.2.2.1) else (dowellaw13_ChainWalks.j1 kj13 a4 a5 a6 t194 bt207.2.2.2.2 (decide (a6 > 63)) a3_0 a3_1 a3_2 a3_3 bt207.1 bt207.2.1 bt207.2.2.1 bt207.2.2.2.1)))))) else (dowellaw13_ChainWalks.j1 kj13 a4 a5 a6 t194 bt207.2.2.2.2 true a3_0 a3_1 a3_2 a3_3 bt207.1 bt207.2.1 bt207.2.2.1 bt207.2.2.2.1)))) = some r := by rw [if_neg (show ¬ (false = true) by decide)] at H; exact H
          clear H
          have H := H1
          clear H1
          replace H := Option.bind_eq_some_iff.mp H
          obtain ⟨⟨t207, t208, t209, t210, t211⟩, A340, H⟩ := H
          replace H : ((dowelref01_May.f a3_0 a3_1 a3_2 a3_3).bind fun t213 => (if t213 = true then (if a4 < 0 then (dowellaw13_ChainWalks.j1 kj13 a4 a5 a6 t194 t211 true a3_0 a3_1 a3_2 a3_3 t207 t208 t209 t210) else (if a4 > 255 then (dowellaw13_ChainWalks.j1 kj13 a4 a5 a6 t194 t211 true a3_0 a3_1 a3_2 a3_3 t207 t208 t209 t210) else (if a5 < 0 then (dowellaw13_ChainWalks.j1 kj13 a4 a5 a6 t194 t211 true a3_0 a3_1 a3_2 a3_3 t207 t208 t209 t210) else (if a5 > 15 then (dowellaw13_ChainWalks.j1 kj13 a4 a5 a6 t194 t211 true a3_0 a3_1 a3_2 a3_3 t207 t208 t209 t210) else (if a6 < 0 then (dowellaw13_ChainWalks.j1 kj13 a4 a5 a6 t194 t211 true a3_0 a3_1 a3_2 a3_3 t207 t208 t209 t210) else (dowellaw13_ChainWalks.j1 kj13 a4 a5 a6 t194 t211 (decide (a6 > 63)) a3_0 a3_1 a3_2 a3_3 t207 t208 t209 t210)))))) else (dowellaw13_ChainWalks.j1 kj13 a4 a5 a6 t194 t211 true a3_0 a3_1 a3_2 a3_3 t207 t208 t209 t210))) = some r := H
          have A34 := Aside0.mk A340
          clear A340
          replace H := Option.bind_eq_some_iff.mp H
          obtain ⟨t213, A350, H⟩ := H
          replace H : (if t213 = true then (if a4 < 0 then (dowellaw13_ChainWalks.j1 kj13 a4 a5 a6 t194 t211 true a3_0 a3_1 a3_2 a3_3 t207 t208 t209 t210) else (if a4 > 255 then (dowellaw13_ChainWalks.j1 kj13 a4 a5 a6 t194 t211 true a3_0 a3_1 a3_2 a3_3 t207 t208 t209 t210) else (if a5 < 0 then (dowellaw13_ChainWalks.j1 kj13 a4 a5 a6 t194 t211 true a3_0 a3_1 a3_2 a3_3 t207 t208 t209 t210) else (if a5 > 15 then (dowellaw13_ChainWalks.j1 kj13 a4 a5 a6 t194 t211 true a3_0 a3_1 a3_2 a3_3 t207 t208 t209 t210) else (if a6 < 0 then (dowellaw13_ChainWalks.j1 kj13 a4 a5 a6 t194 t211 true a3_0 a3_1 a3_2 a3_3 t207 t208 t209 t210) else (dowellaw13_ChainWalks.j1 kj13 a4 a5 a6 t194 t211 (decide (a6 > 63)) a3_0 a3_1 a3_2 a3_3 t207 t208 t209 t210)))))) else (dowellaw13_ChainWalks.j1 kj13 a4 a5 a6 t194 t211 true a3_0 a3_1 a3_2 a3_3 t207 t208 t209 t210)) = some r := H
          have A35 := Aside0.mk A350
          clear A350
          have HC36 := Aside0.mk H
          clear H
          have hcz37_0 : wc.cell? ⟨gb193, 0, none⟩ = some (.int .i64 a3_0) := (blk_cell BK193.out 0).trans rfl
          have hcz37_1 : wc.cell? ⟨gb193, 1, none⟩ = some (.int .i64 a3_1) := (blk_cell BK193.out 1).trans rfl
          have hcz37_2 : wc.cell? ⟨gb193, 2, none⟩ = some (.int .i64 a3_2) := (blk_cell BK193.out 2).trans rfl
          have hcz37_3 : wc.cell? ⟨gb193, 3, none⟩ = some (.int .i64 a3_3) := (blk_cell BK193.out 3).trans rfl
          have hfz37_0 := blk_frozen BK193.out 0
          have hfz37_1 := blk_frozen BK193.out 1
          have hfz37_2 := blk_frozen BK193.out 2
          have hfz37_3 := blk_frozen BK193.out 3
          go_upto_region 10 with (first | ((with_reducible refine gate_callee (f := 23) rfl ?_); refine goesL_ (some 67) rfl rfl Try.func23 (by kernel_rfl) rfl #[.agg #[.int .i64 a3_0, .int .i64 a3_1, .int .i64 a3_2, .int .i64 a3_3], .int .i64 a4, .int .i64 a5, .int .i64 a6] rfl (by (try simp only [List.map_toArray, List.map_cons, List.map_nil]); first | done | rfl | (simp only [List.length_drop, List.length_take]; rfl)) ?_; (with_reducible refine (chain_Mark.calls a3_0 a3_1 a3_2 a3_3 a4 a5 a6 t207 t208 t209 t210 t211 _ A34.out).mono ?_); rintro e w38 ⟨rfl, hb⟩; refine ⟨_, rfl, ?_⟩; have n0_ := Aside0.mk (blk_below (g := gb193) (o := .cells #[.int .i64 a3_0, .int .i64 a3_1, .int .i64 a3_2, .int .i64 a3_3] 46 (0, 0)) (by (with_reducible repeat (first | refine blk_drewN ?_ _ | refine blk_drew ?_ | refine blk_alloc ?_ _)); exact BK193.out) hb); have n1_ := Aside0.mk (below_step (by repeat (first | (with_reducible first | exact HB.out | apply below_alloc | apply pw_below_drewN | apply below_drew1 | refine below_set ?_ GE193.out) | exact HB.out)) hb); clear BK193; clear HB; have BK193 := n0_; have HB := n1_; clear n0_ n1_; (try clear hb); (try clear hb2); (try clear hk); (try clear hi); (try simp only [errW_none, errW_some])) | ((with_reducible refine gate_dst (N := 20) rfl ?_); refine box_event ?hg (N := 20) ?hd (cs := #[.int .i64 0, .int .i64 0, .int .i64 0, .int .i64 0]) (t := 46) ?hr ?_; (case hd => rfl); (case hg => rfl); (case hr => first | (go_simp; done) | (go_simp; rfl)); intro gb212 hg w39 hbox hb; have n0_ := Aside0.mk (blk_below (g := gb193) (o := .cells #[.int .i64 a3_0, .int .i64 a3_1, .int .i64 a3_2, .int .i64 a3_3] 46 (0, 0)) (by (with_reducible repeat (first | refine blk_drewN ?_ _ | refine blk_drew ?_ | refine blk_alloc ?_ _)); exact BK193.out) hb); have n1_ := Aside0.mk (below_step (by repeat (first | (with_reducible first | exact HB.out | apply below_alloc | apply pw_below_drewN | apply below_drew1 | refine below_set ?_ GE193.out) | exact HB.out)) hb); have n2_ := Aside0.mk (hbox); have n3_ := Aside0.mk ((by rw [hg]; exact (below_size (by repeat (first | (with_reducible first | exact HB.out | apply below_alloc | apply pw_below_drewN | apply below_drew1 | refine below_set ?_ GE193.out) | exact HB.out))) : w.heap.size ≤ gb212)); have n4_ := Aside0.mk ((by rw [hg]; exact (below_size (by repeat (first | (with_reducible first | exact HB.out | apply below_alloc | apply pw_below_drewN | apply below_drew1 | refine below_set ?_ GE193.out) | exact HB.out))) : w.heap.size ≤ gb212)); have n5_ := Aside0.mk ((by rw [hg]; exact Nat.ne_of_lt (blk_lt (g := gb193) (o := .cells #[.int .i64 a3_0, .int .i64 a3_1, .int .i64 a3_2, .int .i64 a3_3] 46 (0, 0)) (by (with_reducible repeat (first | refine blk_drewN ?_ _ | refine blk_drew ?_ | refine blk_alloc ?_ _)); exact BK193.out)) : gb193 ≠ gb212)); have n6_ := Aside0.mk ((by rw [hg]; exact Nat.ne_of_gt (blk_lt (g := gb193) (o := .cells #[.int .i64 a3_0, .int .i64 a3_1, .int .i64 a3_2, .int .i64 a3_3] 46 (0, 0)) (by (with_reducible repeat (first | refine blk_drewN ?_ _ | refine blk_drew ?_ | refine blk_alloc ?_ _)); exact BK193.out)) : gb212 ≠ gb193)); clear BK193; clear HB; have BK193 := n0_; have HB := n1_; have BK212 := n2_; have GW212 := n3_; have GE212 := n4_; have NB193_212 := n5_; have NB212_193 := n6_; clear n0_ n1_ n2_ n3_ n4_ n5_ n6_; clear hb hbox hg; have hnb40 := NB212_193.out; have hnc40 := NB193_212.out; have hcz41_0 : w39.cell? ⟨gb212, 0, none⟩ = some (.int .i64 0) := (blk_cell BK212.out 0).trans rfl; have hcz41_1 : w39.cell? ⟨gb212, 1, none⟩ = some (.int .i64 0) := (blk_cell BK212.out 1).trans rfl; have hcz41_2 : w39.cell? ⟨gb212, 2, none⟩ = some (.int .i64 0) := (blk_cell BK212.out 2).trans rfl; have hcz41_3 : w39.cell? ⟨gb212, 3, none⟩ = some (.int .i64 0) := (blk_cell BK212.out 3).trans rfl; have hfz41_0 := blk_frozen BK212.out 0; have hfz41_1 := blk_frozen BK212.out 1; have hfz41_2 := blk_frozen BK212.out 2; have hfz41_3 := blk_frozen BK212.out 3; have hcz42_0 : w39.cell? ⟨gb193, 0, none⟩ = some (.int .i64 a3_0) := (blk_cell BK193.out 0).trans rfl; have hcz42_1 : w39.cell? ⟨gb193, 1, none⟩ = some (.int .i64 a3_1) := (blk_cell BK193.out 1).trans rfl; have hcz42_2 : w39.cell? ⟨gb193, 2, none⟩ = some (.int .i64 a3_2) := (blk_cell BK193.out 2).trans rfl; have hcz42_3 : w39.cell? ⟨gb193, 3, none⟩ = some (.int .i64 a3_3) := (blk_cell BK193.out 3).trans rfl; have hfz42_0 := blk_frozen BK193.out 0; have hfz42_1 := blk_frozen BK193.out 1; have hfz42_2 := blk_frozen BK193.out 2; have hfz42_3 := blk_frozen BK193.out 3) | ((with_reducible refine gate_callee (f := 24) rfl ?_); refine goesL_ (some 71) rfl rfl Try.func24 (by kernel_rfl) rfl #[.agg #[.int .i64 a3_0, .int .i64 a3_1, .int .i64 a3_2, .int .i64 a3_3]] rfl (by (try simp only [List.map_toArray, List.map_cons, List.map_nil]); first | done | rfl | (simp only [List.length_drop, List.length_take]; rfl)) ?_; (with_reducible refine (dowelref01_May.calls a3_0 a3_1 a3_2 a3_3 t213 _ A35.out).mono ?_); rintro e w43 ⟨rfl, hb⟩; refine ⟨_, rfl, ?_⟩; have n0_ := Aside0.mk (blk_below (g := gb193) (o := .cells #[.int .i64 a3_0, .int .i64 a3_1, .int .i64 a3_2, .int .i64 a3_3] 46 (0, 0)) (by (with_reducible repeat (first | refine blk_drewN ?_ _ | refine blk_drew ?_ | refine blk_alloc ?_ _)); refine blk_far ?_ NB193_212.out _; (with_reducible repeat (first | refine blk_drewN ?_ _ | refine blk_drew ?_ | refine blk_alloc ?_ _)); refine blk_far ?_ NB193_212.out _; (with_reducible repeat (first | refine blk_drewN ?_ _ | refine blk_drew ?_ | refine blk_alloc ?_ _)); refine blk_far ?_ NB193_212.out _; (with_reducible repeat (first | refine blk_drewN ?_ _ | refine blk_drew ?_ | refine blk_alloc ?_ _)); refine blk_far ?_ NB193_212.out _; (with_reducible repeat (first | refine blk_drewN ?_ _ | refine blk_drew ?_ | refine blk_alloc ?_ _)); exact BK193.out) hb); have n1_ := Aside0.mk (blk_below (g := gb212) (o := .cells #[.int .i64 t207, .int .i64 t208, .int .i64 t209, .int .i64 t210] 46 (0, 0)) (by (with_reducible repeat (first | refine blk_drewN ?_ _ | refine blk_drew ?_ | refine blk_alloc ?_ _)); refine blk_put (cs := #[.int .i64 t207, .int .i64 t208, .int .i64 t209, .int .i64 0]) ?_ 3 _ rfl; (with_reducible repeat (first | refine blk_drewN ?_ _ | refine blk_drew ?_ | refine blk_alloc ?_ _)); refine blk_put (cs := #[.int .i64 t207, .int .i64 t208, .int .i64 0, .int .i64 0]) ?_ 2 _ rfl; (with_reducible repeat (first | refine blk_drewN ?_ _ | refine blk_drew ?_ | refine blk_alloc ?_ _)); refine blk_put (cs := #[.int .i64 t207, .int .i64 0, .int .i64 0, .int .i64 0]) ?_ 1 _ rfl; (with_reducible repeat (first | refine blk_drewN ?_ _ | refine blk_drew ?_ | refine blk_alloc ?_ _)); refine blk_put (cs := #[.int .i64 0, .int .i64 0, .int .i64 0, .int .i64 0]) ?_ 0 _ rfl; (with_reducible repeat (first | refine blk_drewN ?_ _ | refine blk_drew ?_ | refine blk_alloc ?_ _)); exact BK212.out) hb); have n2_ := Aside0.mk (below_step (by repeat (first | (with_reducible first | exact HB.out | apply below_alloc | apply pw_below_drewN | apply below_drew1 | refine below_set ?_ GE193.out | refine below_set ?_ GE212.out) | exact HB.out)) hb); clear BK193; clear BK212; clear HB; have BK193 := n0_; have BK212 := n1_; have HB := n2_; clear n0_ n1_ n2_; (try clear hb); (try clear hb2); (try clear hk); (try clear hi)))
          (try simp only [Act.put, List.setIfInBounds_toArray, List.set_cons_zero, List.set_cons_succ])
          go_cut [97] (fun v97 wc => ∃ (kq : Nat) (x97_35 : Bool), v97 = .bool x97_35 ∧ Aside0 (dowellaw13_ChainWalks.j1 kq a4 a5 a6 t194 t211 x97_35 a3_0 a3_1 a3_2 a3_3 t207 t208 t209 t210 = some r) ∧ Aside0 (kq ≤ kj13) ∧ Aside0 (wc.heap[gb193]? = some (.cells #[.int .i64 a3_0, .int .i64 a3_1, .int .i64 a3_2, .int .i64 a3_3] 46 (0, 0))) ∧ Aside0 (wc.heap[gb212]? = some (.cells #[.int .i64 t207, .int .i64 t208, .int .i64 t209, .int .i64 t210] 46 (0, 0))) ∧ Aside0 (Below w.heap.size w wc))
          case first =>
            have H := HC36.out
            clear HC36
            by_cases c44 : t213 = true
            · subst c44
              have H1 : (if a4 < 0 then (dowellaw13_ChainWalks.j1 kj13 a4 a5 a6 t194 t211 true a3_0 a3_1 a3_2 a3_3 t207 t208 t209 t210) else (if a4 > 255 then (dowellaw13_ChainWalks.j1 kj13 a4 a5 a6 t194 t211 true a3_0 a3_1 a3_2 a3_3 t207 t208 t209 t210) else (if a5 < 0 then (dowellaw13_ChainWalks.j1 kj13 a4 a5 a6 t194 t211 true a3_0 a3_1 a3_2 a3_3 t207 t208 t209 t210) else (if a5 > 15 then (dowellaw13_ChainWalks.j1 kj13 a4 a5 a6 t194 t211 true a3_0 a3_1 a3_2 a3_3 t207 t208 t209 t210) else (if a6 < 0 then (dowellaw13_ChainWalks.j1 kj13 a4 a5 a6 t194 t211 true a3_0 a3_1 a3_2 a3_3 t207 t208 t209 t210) else (dowellaw13_ChainWalks.j1 kj13 a4 a5 a6 t194 t211 (decide (a6 > 63)) a3_0 a3_1 a3_2 a3_3 t207 t208 t209 t210)))))) = some r := by rw [if_pos rfl] at H; exact H
              clear H
              have H := H1
              clear H1
              by_cases c45 : a4 < 0
              · rw [if_pos c45] at H
                have c45b0 : decide (a4 < 0) = true := decide_eq_true c45
                clear c45
                (first | rw [c45b0] | (simp only [i64_w, i32_w]; rw [c45b0]) | skip)
                have H' := Aside0.mk H
                clear H
                go_wp2
                go_meet
                case rel => exact ⟨_, (true), (by first | rfl | (simp; done) | (simp [*]; done)), H', ⟨by have := HJ13.out; first | omega | exact Nat.le_refl _⟩, ⟨by (with_reducible repeat (first | refine blk_drewN ?_ _ | refine blk_drew ?_ | refine blk_alloc ?_ _)); exact BK193.out⟩, ⟨by (with_reducible repeat (first | refine blk_drewN ?_ _ | refine blk_drew ?_ | refine blk_alloc ?_ _)); exact BK212.out⟩, ⟨by repeat (first | (with_reducible first | exact HB.out | apply below_alloc | apply pw_below_drewN | apply below_drew1 | refine below_set ?_ GE193.out | refine below_set ?_ GE212.out) | exact HB.out)⟩⟩
              · rw [if_neg c45] at H
                have c45b0 : decide (a4 < 0) = false := decide_eq_false c45
                clear c45
                (first | rw [c45b0] | (simp only [i64_w, i32_w]; rw [c45b0]) | skip)
                by_cases c46 : a4 > 255
                · rw [if_pos c46] at H
                  have c46b0 : decide (255 < a4) = true := decide_eq_true c46
                  clear c46
                  have H' := Aside0.mk H
                  clear H
                  go_wp2
                  go_meet
                  case rel => exact ⟨_, (true), (by first | rfl | (simp; done) | (simp [*]; done)), H', ⟨by have := HJ13.out; first | omega | exact Nat.le_refl _⟩, ⟨by (with_reducible repeat (first | refine blk_drewN ?_ _ | refine blk_drew ?_ | refine blk_alloc ?_ _)); exact BK193.out⟩, ⟨by (with_reducible repeat (first | refine blk_drewN ?_ _ | refine blk_drew ?_ | refine blk_alloc ?_ _)); exact BK212.out⟩, ⟨by repeat (first | (with_reducible first | exact HB.out | apply below_alloc | apply pw_below_drewN | apply below_drew1 | refine below_set ?_ GE193.out | refine below_set ?_ GE212.out) | exact HB.out)⟩⟩
                · rw [if_neg c46] at H
                  have c46b0 : decide (255 < a4) = false := decide_eq_false c46
                  clear c46
                  by_cases c47 : a5 < 0
                  · rw [if_pos c47] at H
                    have c47b0 : decide (a5 < 0) = true := decide_eq_true c47
                    clear c47
                    have H' := Aside0.mk H
                    clear H
                    go_wp2
                    go_meet
                    case rel => exact ⟨_, (true), (by first | rfl | (simp; done) | (simp [*]; done)), H', ⟨by have := HJ13.out; first | omega | exact Nat.le_refl _⟩, ⟨by (with_reducible repeat (first | refine blk_drewN ?_ _ | refine blk_drew ?_ | refine blk_alloc ?_ _)); exact BK193.out⟩, ⟨by (with_reducible repeat (first | refine blk_drewN ?_ _ | refine blk_drew ?_ | refine blk_alloc ?_ _)); exact BK212.out⟩, ⟨by repeat (first | (with_reducible first | exact HB.out | apply below_alloc | apply pw_below_drewN | apply below_drew1 | refine below_set ?_ GE193.out | refine below_set ?_ GE212.out) | exact HB.out)⟩⟩
                  · rw [if_neg c47] at H
                    have c47b0 : decide (a5 < 0) = false := decide_eq_false c47
                    clear c47
                    by_cases c48 : a5 > 15
                    · rw [if_pos c48] at H
                      have c48b0 : decide (15 < a5) = true := decide_eq_true c48
                      clear c48
                      have H' := Aside0.mk H
                      clear H
                      go_wp2
                      go_meet
                      case rel => exact ⟨_, (true), (by first | rfl | (simp; done) | (simp [*]; done)), H', ⟨by have := HJ13.out; first | omega | exact Nat.le_refl _⟩, ⟨by (with_reducible repeat (first | refine blk_drewN ?_ _ | refine blk_drew ?_ | refine blk_alloc ?_ _)); exact BK193.out⟩, ⟨by (with_reducible repeat (first | refine blk_drewN ?_ _ | refine blk_drew ?_ | refine blk_alloc ?_ _)); exact BK212.out⟩, ⟨by repeat (first | (with_reducible first | exact HB.out | apply below_alloc | apply pw_below_drewN | apply below_drew1 | refine below_set ?_ GE193.out | refine below_set ?_ GE212.out) | exact HB.out)⟩⟩
                    · rw [if_neg c48] at H
                      have c48b0 : decide (15 < a5) = false := decide_eq_false c48
                      clear c48
                      by_cases c49 : a6 < 0
                      · rw [if_pos c49] at H
                        have c49b0 : decide (a6 < 0) = true := decide_eq_true c49
                        clear c49
                        have H' := Aside0.mk H
                        clear H
                        go_wp2
                        go_meet
                        case rel => exact ⟨_, (true), (by first | rfl | (simp; done) | (simp [*]; done)), H', ⟨by have := HJ13.out; first | omega | exact Nat.le_refl _⟩, ⟨by (with_reducible repeat (first | refine blk_drewN ?_ _ | refine blk_drew ?_ | refine blk_alloc ?_ _)); exact BK193.out⟩, ⟨by (with_reducible repeat (first | refine blk_drewN ?_ _ | refine blk_drew ?_ | refine blk_alloc ?_ _)); exact BK212.out⟩, ⟨by repeat (first | (with_reducible first | exact HB.out | apply below_alloc | apply pw_below_drewN | apply below_drew1 | refine below_set ?_ GE193.out | refine below_set ?_ GE212.out) | exact HB.out)⟩⟩
                      · rw [if_neg c49] at H
                        have c49b0 : decide (a6 < 0) = false := decide_eq_false c49
                        clear c49
                        have H' := Aside0.mk H
                        clear H
                        go_wp2
                        go_meet
                        case rel => exact ⟨_, (decide (a6 > 63)), (by first | rfl | (simp; done) | (simp [*]; done)), H', ⟨by have := HJ13.out; first | omega | exact Nat.le_refl _⟩, ⟨by (with_reducible repeat (first | refine blk_drewN ?_ _ | refine blk_drew ?_ | refine blk_alloc ?_ _)); exact BK193.out⟩, ⟨by (with_reducible repeat (first | refine blk_drewN ?_ _ | refine blk_drew ?_ | refine blk_alloc ?_ _)); exact BK212.out⟩, ⟨by repeat (first | (with_reducible first | exact HB.out | apply below_alloc | apply pw_below_drewN | apply below_drew1 | refine below_set ?_ GE193.out | refine below_set ?_ GE212.out) | exact HB.out)⟩⟩
            · replace c44 := Bool.eq_false_iff.mpr c44
              subst c44
              have H1 : (dowellaw13_ChainWalks.j1 kj13 a4 a5 a6 t194 t211 true a3_0 a3_1 a3_2 a3_3 t207 t208 t209 t210) = some r := by rw [if_neg (show ¬ (false = true) by decide)] at H; exact H
              clear H
              have H := H1
              clear H1
              have H' := Aside0.mk H
              clear H
              go_wp2
              go_meet
              case rel => exact ⟨_, (true), (by first | rfl | (simp; done) | (simp [*]; done)), H', ⟨by have := HJ13.out; first | omega | exact Nat.le_refl _⟩, ⟨by (with_reducible repeat (first | refine blk_drewN ?_ _ | refine blk_drew ?_ | refine blk_alloc ?_ _)); exact BK193.out⟩, ⟨by (with_reducible repeat (first | refine blk_drewN ?_ _ | refine blk_drew ?_ | refine blk_alloc ?_ _)); exact BK212.out⟩, ⟨by repeat (first | (with_reducible first | exact HB.out | apply below_alloc | apply pw_below_drewN | apply below_drew1 | refine below_set ?_ GE193.out | refine below_set ?_ GE212.out) | exact HB.out)⟩⟩
          case rest =>
            clear HC36
            try clear c1
            try clear c2
            try clear p2
            try clear q2
            try clear c3
            try clear c4
            try clear c9
            try clear c9b0
            try clear c9b1
            try clear c19
            try clear c19b0
            try clear c19b1
            try clear c19b2
            try clear c20
            try clear q20
            try clear c21
            try clear c23
            try clear c24
            try clear c24b0
            try clear c24b1
            try clear c24b2
            try clear c25
            try clear c29
            try clear c29b0
            try clear c29b1
            try clear c33
            try clear c40
            try clear c44
            try clear c45
            try clear c45b0
            try clear c46
            try clear c46b0
            try clear c47
            try clear c47b0
            try clear c48
            try clear c48b0
            try clear c49
            try clear c49b0
            try clear hcz37_0
            try clear hcz37_1
            try clear hcz37_2
            try clear hcz37_3
            try clear hcz41_0
            try clear hcz41_1
            try clear hcz41_2
            try clear hcz41_3
            try clear hcz42_0
            try clear hcz42_1
            try clear hcz42_2
            try clear hcz42_3
            try clear hfz37_0
            try clear hfz37_1
            try clear hfz37_2
            try clear hfz37_3
            try clear hfz41_0
            try clear hfz41_1
            try clear hfz41_2
            try clear hfz41_3
            try clear hfz42_0
            try clear hfz42_1
            try clear hfz42_2
            try clear hfz42_3
            try clear p2
            try clear q2
            try clear q20
            try clear q203
            obtain ⟨kq, x97_35, rfl, HA, HJ35, BK193, BK212, HB⟩ := hcut
            cases kq with
            | zero => exact absurd HA.out (by simp [dowellaw13_ChainWalks.j1])
            | succ kj35 =>
              have H := HA.out
              clear HA
              simp only [dowellaw13_ChainWalks.j1] at H
              by_cases c50 : x97_35 = true
              · subst c50
                have H1 : (if t194 = true then (if t211.isNone = true then (some false) else (if (t211.getD 0) = 1 then (some (t207 == 0 && (t208 == 0 && (t209 == 0 && (t210 == 0))))) else (some false))) else (some false)) = some r := by rw [if_pos rfl] at H; exact H
                clear H
                have H := H1
                clear H1
                by_cases c51 : t194 = true
                · subst c51
                  have H1 : (if t211.isNone = true then (some false) else (if (t211.getD 0) = 1 then (some (t207 == 0 && (t208 == 0 && (t209 == 0 && (t210 == 0))))) else (some false))) = some r := by rw [if_pos rfl] at H; exact H
                  clear H
                  have H := H1
                  clear H1
                  rcases t211 with _ | q214
                  · have H1 : (some false) = some r := by rw [if_pos (show (none : Option Int).isNone = true by rfl)] at H; exact H
                    clear H
                    have H := H1
                    clear H1
                    try simp only [errW_none, errW_some]
                    obtain rfl := Option.some.inj H
                    go_wp2
                    go_ret
                    exact ⟨by first | rfl | (simp [errW_none, errW_some] <;> rfl) | (simp [*, errW_none, errW_some] <;> rfl), by repeat (first | (with_reducible first | exact HB.out | apply below_alloc | apply pw_below_drewN | apply below_drew1 | refine below_set ?_ GE193.out | refine below_set ?_ GE212.out) | exact HB.out)⟩
                  · have H1 : (if q214 = 1 then (some (t207 == 0 && (t208 == 0 && (t209 == 0 && (t210 == 0))))) else (some false)) = some r := by rw [if_neg (show ¬ (some q214).isNone = true by simp)] at H; exact H
                    clear H
                    have H := H1
                    clear H1
                    try simp only [errW_none, errW_some]
                    by_cases c52 : q214 = 1
                    · rw [if_pos c52] at H
                      have c52b0 : (q214 == 1) = true := beq_iff_eq.mpr c52
                      have c52b1 : (q214 != 1) = false := bne_eq_false_iff_eq.mpr c52
                      clear c52
                      obtain rfl := Option.some.inj H
                      have hnb53 := NB212_193.out
                      have hnc53 := NB193_212.out
                      have hcz54_0 : wc.cell? ⟨gb212, 0, none⟩ = some (.int .i64 t207) := (blk_cell BK212.out 0).trans rfl
                      have hcz54_1 : wc.cell? ⟨gb212, 1, none⟩ = some (.int .i64 t208) := (blk_cell BK212.out 1).trans rfl
                      have hcz54_2 : wc.cell? ⟨gb212, 2, none⟩ = some (.int .i64 t209) := (blk_cell BK212.out 2).trans rfl
                      have hcz54_3 : wc.cell? ⟨gb212, 3, none⟩ = some (.int .i64 t210) := (blk_cell BK212.out 3).trans rfl
                      have hfz54_0 := blk_frozen BK212.out 0
                      have hfz54_1 := blk_frozen BK212.out 1
                      have hfz54_2 := blk_frozen BK212.out 2
                      have hfz54_3 := blk_frozen BK212.out 3
                      go_wp2
                      go_ret
                      exact ⟨by first | rfl | (simp [errW_none, errW_some] <;> rfl) | (simp [*, errW_none, errW_some] <;> rfl), by repeat (first | (with_reducible first | exact HB.out | apply below_alloc | apply pw_below_drewN | apply below_drew1 | refine below_set ?_ GE193.out | refine below_set ?_ GE212.out) | exact HB.out)⟩
                    · rw [if_neg c52] at H
                      have c52b0 : (q214 == 1) = false := beq_eq_false_iff_ne.mpr c52
                      have c52b1 : (q214 != 1) = true := bne_iff_ne.mpr c52
                      obtain rfl := Option.some.inj H
                      go_wp2
                      go_ret
                      exact ⟨by first | rfl | (simp [errW_none, errW_some] <;> rfl) | (simp [*, errW_none, errW_some] <;> rfl), by repeat (first | (with_reducible first | exact HB.out | apply below_alloc | apply pw_below_drewN | apply below_drew1 | refine below_set ?_ GE193.out | refine below_set ?_ GE212.out) | exact HB.out)⟩
                · replace c51 := Bool.eq_false_iff.mpr c51
                  subst c51
                  have H1 : (some false) = some r := by rw [if_neg (show ¬ (false = true) by decide)] at H; exact H
                  clear H
                  have H := H1
                  clear H1
                  obtain rfl := Option.some.inj H
                  go_wp2
                  go_ret
                  exact ⟨by first | rfl | (simp [errW_none, errW_some] <;> rfl) | (simp [*, errW_none, errW_some] <;> rfl), by repeat (first | (with_reducible first | exact HB.out | apply below_alloc | apply pw_below_drewN | apply below_drew1 | refine below_set ?_ GE193.out | refine below_set ?_ GE212.out) | exact HB.out)⟩
              · replace c50 := Bool.eq_false_iff.mpr c50
                subst c50
                have H1 : (if (wrap64 ((wrap64 ((wrap64 (1024 * a4)) + (wrap64 (64 * a5)))) + a6)) > 131071 then (if t194 = true then (if t211.isNone = true then (some (t207 == a3_0 && (t208 == a3_1 && (t209 == a3_2 && (t210 == (wrap64 ((wrap64 ((wrap64 ((wrap64 (1024 * a4)) + (wrap64 (64 * a5)))) + a6)) - 262144))))))) else (some false)) else (some false)) else (if t194 = true then (if t211.isNone = true then (some (t207 == a3_0 && (t208 == a3_1 && (t209 == a3_2 && (t210 == (wrap64 ((wrap64 ((wrap64 (1024 * a4)) + (wrap64 (64 * a5)))) + a6))))))) else (some false)) else (some false))) = some r := by rw [if_neg (show ¬ (false = true) by decide)] at H; exact H
                clear H
                have H := H1
                clear H1
                by_cases c55 : (wrap64 ((wrap64 ((wrap64 (1024 * a4)) + (wrap64 (64 * a5)))) + a6)) > 131071
                · rw [if_pos c55] at H
                  have c55b0 : decide (131071 < (wrap64 ((wrap64 ((wrap64 (1024 * a4)) + (wrap64 (64 * a5)))) + a6))) = true := decide_eq_true c55
                  clear c55
                  by_cases c56 : t194 = true
                  · subst c56
                    have H1 : (if t211.isNone = true then (some (t207 == a3_0 && (t208 == a3_1 && (t209 == a3_2 && (t210 == (wrap64 ((wrap64 ((wrap64 ((wrap64 (1024 * a4)) + (wrap64 (64 * a5)))) + a6)) - 262144))))))) else (some false)) = some r := by rw [if_pos rfl] at H; exact H
                    clear H
                    have H := H1
                    clear H1
                    rcases t211 with _ | q215
                    · have H1 : (some (t207 == a3_0 && (t208 == a3_1 && (t209 == a3_2 && (t210 == (wrap64 ((wrap64 ((wrap64 ((wrap64 (1024 * a4)) + (wrap64 (64 * a5)))) + a6)) - 262144))))))) = some r := by rw [if_pos (show (none : Option Int).isNone = true by rfl)] at H; exact H
                      clear H
                      have H := H1
                      clear H1
                      try simp only [errW_none, errW_some]
                      obtain rfl := Option.some.inj H
                      have hnb57 := NB193_212.out
                      have hnc57 := NB212_193.out
                      have hcz58_0 : wc.cell? ⟨gb193, 0, none⟩ = some (.int .i64 a3_0) := (blk_cell BK193.out 0).trans rfl
                      have hcz58_1 : wc.cell? ⟨gb193, 1, none⟩ = some (.int .i64 a3_1) := (blk_cell BK193.out 1).trans rfl
                      have hcz58_2 : wc.cell? ⟨gb193, 2, none⟩ = some (.int .i64 a3_2) := (blk_cell BK193.out 2).trans rfl
                      have hcz58_3 : wc.cell? ⟨gb193, 3, none⟩ = some (.int .i64 a3_3) := (blk_cell BK193.out 3).trans rfl
                      have hfz58_0 := blk_frozen BK193.out 0
                      have hfz58_1 := blk_frozen BK193.out 1
                      have hfz58_2 := blk_frozen BK193.out 2
                      have hfz58_3 := blk_frozen BK193.out 3
                      have hcz59_0 : wc.cell? ⟨gb212, 0, none⟩ = some (.int .i64 t207) := (blk_cell BK212.out 0).trans rfl
                      have hcz59_1 : wc.cell? ⟨gb212, 1, none⟩ = some (.int .i64 t208) := (blk_cell BK212.out 1).trans rfl
                      have hcz59_2 : wc.cell? ⟨gb212, 2, none⟩ = some (.int .i64 t209) := (blk_cell BK212.out 2).trans rfl
                      have hcz59_3 : wc.cell? ⟨gb212, 3, none⟩ = some (.int .i64 t210) := (blk_cell BK212.out 3).trans rfl
                      have hfz59_0 := blk_frozen BK212.out 0
                      have hfz59_1 := blk_frozen BK212.out 1
                      have hfz59_2 := blk_frozen BK212.out 2
                      have hfz59_3 := blk_frozen BK212.out 3
                      go_wp2
                      go_ret
                      exact ⟨by first | rfl | (simp [errW_none, errW_some] <;> rfl) | (simp [*, errW_none, errW_some] <;> rfl), by repeat (first | (with_reducible first | exact HB.out | apply below_alloc | apply pw_below_drewN | apply below_drew1 | refine below_set ?_ GE193.out | refine below_set ?_ GE212.out) | exact HB.out)⟩
                    · have H1 : (some false) = some r := by rw [if_neg (show ¬ (some q215).isNone = true by simp)] at H; exact H
                      clear H
                      have H := H1
                      clear H1
                      try simp only [errW_none, errW_some]
                      obtain rfl := Option.some.inj H
                      have hnb60 := NB193_212.out
                      have hnc60 := NB212_193.out
                      have hcz61_0 : wc.cell? ⟨gb193, 0, none⟩ = some (.int .i64 a3_0) := (blk_cell BK193.out 0).trans rfl
                      have hcz61_1 : wc.cell? ⟨gb193, 1, none⟩ = some (.int .i64 a3_1) := (blk_cell BK193.out 1).trans rfl
                      have hcz61_2 : wc.cell? ⟨gb193, 2, none⟩ = some (.int .i64 a3_2) := (blk_cell BK193.out 2).trans rfl
                      have hcz61_3 : wc.cell? ⟨gb193, 3, none⟩ = some (.int .i64 a3_3) := (blk_cell BK193.out 3).trans rfl
                      have hfz61_0 := blk_frozen BK193.out 0
                      have hfz61_1 := blk_frozen BK193.out 1
                      have hfz61_2 := blk_frozen BK193.out 2
                      have hfz61_3 := blk_frozen BK193.out 3
                      go_wp2
                      go_ret
                      exact ⟨by first | rfl | (simp [errW_none, errW_some] <;> rfl) | (simp [*, errW_none, errW_some] <;> rfl), by repeat (first | (with_reducible first | exact HB.out | apply below_alloc | apply pw_below_drewN | apply below_drew1 | refine below_set ?_ GE193.out | refine below_set ?_ GE212.out) | exact HB.out)⟩
                  · replace c56 := Bool.eq_false_iff.mpr c56
                    subst c56
                    have H1 : (some false) = some r := by rw [if_neg (show ¬ (false = true) by decide)] at H; exact H
                    clear H
                    have H := H1
                    clear H1
                    obtain rfl := Option.some.inj H
                    have hnb62 := NB193_212.out
                    have hnc62 := NB212_193.out
                    have hcz63_0 : wc.cell? ⟨gb193, 0, none⟩ = some (.int .i64 a3_0) := (blk_cell BK193.out 0).trans rfl
                    have hcz63_1 : wc.cell? ⟨gb193, 1, none⟩ = some (.int .i64 a3_1) := (blk_cell BK193.out 1).trans rfl
                    have hcz63_2 : wc.cell? ⟨gb193, 2, none⟩ = some (.int .i64 a3_2) := (blk_cell BK193.out 2).trans rfl
                    have hcz63_3 : wc.cell? ⟨gb193, 3, none⟩ = some (.int .i64 a3_3) := (blk_cell BK193.out 3).trans rfl
                    have hfz63_0 := blk_frozen BK193.out 0
                    have hfz63_1 := blk_frozen BK193.out 1
                    have hfz63_2 := blk_frozen BK193.out 2
                    have hfz63_3 := blk_frozen BK193.out 3
                    go_wp2
                    go_ret
                    exact ⟨by first | rfl | (simp [errW_none, errW_some] <;> rfl) | (simp [*, errW_none, errW_some] <;> rfl), by repeat (first | (with_reducible first | exact HB.out | apply below_alloc | apply pw_below_drewN | apply below_drew1 | refine below_set ?_ GE193.out | refine below_set ?_ GE212.out) | exact HB.out)⟩
                · rw [if_neg c55] at H
                  have c55b0 : decide (131071 < (wrap64 ((wrap64 ((wrap64 (1024 * a4)) + (wrap64 (64 * a5)))) + a6))) = false := decide_eq_false c55
                  clear c55
                  by_cases c64 : t194 = true
                  · subst c64
                    have H1 : (if t211.isNone = true then (some (t207 == a3_0 && (t208 == a3_1 && (t209 == a3_2 && (t210 == (wrap64 ((wrap64 ((wrap64 (1024 * a4)) + (wrap64 (64 * a5)))) + a6))))))) else (some false)) = some r := by rw [if_pos rfl] at H; exact H
                    clear H
                    have H := H1
                    clear H1
                    rcases t211 with _ | q216
                    · have H1 : (some (t207 == a3_0 && (t208 == a3_1 && (t209 == a3_2 && (t210 == (wrap64 ((wrap64 ((wrap64 (1024 * a4)) + (wrap64 (64 * a5)))) + a6))))))) = some r := by rw [if_pos (show (none : Option Int).isNone = true by rfl)] at H; exact H
                      clear H
                      have H := H1
                      clear H1
                      try simp only [errW_none, errW_some]
                      obtain rfl := Option.some.inj H
                      have hnb65 := NB193_212.out
                      have hnc65 := NB212_193.out
                      have hcz66_0 : wc.cell? ⟨gb193, 0, none⟩ = some (.int .i64 a3_0) := (blk_cell BK193.out 0).trans rfl
                      have hcz66_1 : wc.cell? ⟨gb193, 1, none⟩ = some (.int .i64 a3_1) := (blk_cell BK193.out 1).trans rfl
                      have hcz66_2 : wc.cell? ⟨gb193, 2, none⟩ = some (.int .i64 a3_2) := (blk_cell BK193.out 2).trans rfl
                      have hcz66_3 : wc.cell? ⟨gb193, 3, none⟩ = some (.int .i64 a3_3) := (blk_cell BK193.out 3).trans rfl
                      have hfz66_0 := blk_frozen BK193.out 0
                      have hfz66_1 := blk_frozen BK193.out 1
                      have hfz66_2 := blk_frozen BK193.out 2
                      have hfz66_3 := blk_frozen BK193.out 3
                      have hcz67_0 : wc.cell? ⟨gb212, 0, none⟩ = some (.int .i64 t207) := (blk_cell BK212.out 0).trans rfl
                      have hcz67_1 : wc.cell? ⟨gb212, 1, none⟩ = some (.int .i64 t208) := (blk_cell BK212.out 1).trans rfl
                      have hcz67_2 : wc.cell? ⟨gb212, 2, none⟩ = some (.int .i64 t209) := (blk_cell BK212.out 2).trans rfl
                      have hcz67_3 : wc.cell? ⟨gb212, 3, none⟩ = some (.int .i64 t210) := (blk_cell BK212.out 3).trans rfl
                      have hfz67_0 := blk_frozen BK212.out 0
                      have hfz67_1 := blk_frozen BK212.out 1
                      have hfz67_2 := blk_frozen BK212.out 2
                      have hfz67_3 := blk_frozen BK212.out 3
                      go_wp2
                      go_ret
                      exact ⟨by first | rfl | (simp [errW_none, errW_some] <;> rfl) | (simp [*, errW_none, errW_some] <;> rfl), by repeat (first | (with_reducible first | exact HB.out | apply below_alloc | apply pw_below_drewN | apply below_drew1 | refine below_set ?_ GE193.out | refine below_set ?_ GE212.out) | exact HB.out)⟩
                    · have H1 : (some false) = some r := by rw [if_neg (show ¬ (some q216).isNone = true by simp)] at H; exact H
                      clear H
                      have H := H1
                      clear H1
                      try simp only [errW_none, errW_some]
                      obtain rfl := Option.some.inj H
                      have hnb68 := NB193_212.out
                      have hnc68 := NB212_193.out
                      have hcz69_0 : wc.cell? ⟨gb193, 0, none⟩ = some (.int .i64 a3_0) := (blk_cell BK193.out 0).trans rfl
                      have hcz69_1 : wc.cell? ⟨gb193, 1, none⟩ = some (.int .i64 a3_1) := (blk_cell BK193.out 1).trans rfl
                      have hcz69_2 : wc.cell? ⟨gb193, 2, none⟩ = some (.int .i64 a3_2) := (blk_cell BK193.out 2).trans rfl
                      have hcz69_3 : wc.cell? ⟨gb193, 3, none⟩ = some (.int .i64 a3_3) := (blk_cell BK193.out 3).trans rfl
                      have hfz69_0 := blk_frozen BK193.out 0
                      have hfz69_1 := blk_frozen BK193.out 1
                      have hfz69_2 := blk_frozen BK193.out 2
                      have hfz69_3 := blk_frozen BK193.out 3
                      go_wp2
                      go_ret
                      exact ⟨by first | rfl | (simp [errW_none, errW_some] <;> rfl) | (simp [*, errW_none, errW_some] <;> rfl), by repeat (first | (with_reducible first | exact HB.out | apply below_alloc | apply pw_below_drewN | apply below_drew1 | refine below_set ?_ GE193.out | refine below_set ?_ GE212.out) | exact HB.out)⟩
                  · replace c64 := Bool.eq_false_iff.mpr c64
                    subst c64
                    have H1 : (some false) = some r := by rw [if_neg (show ¬ (false = true) by decide)] at H; exact H
                    clear H
                    have H := H1
                    clear H1
                    obtain rfl := Option.some.inj H
                    have hnb70 := NB193_212.out
                    have hnc70 := NB212_193.out
                    have hcz71_0 : wc.cell? ⟨gb193, 0, none⟩ = some (.int .i64 a3_0) := (blk_cell BK193.out 0).trans rfl
                    have hcz71_1 : wc.cell? ⟨gb193, 1, none⟩ = some (.int .i64 a3_1) := (blk_cell BK193.out 1).trans rfl
                    have hcz71_2 : wc.cell? ⟨gb193, 2, none⟩ = some (.int .i64 a3_2) := (blk_cell BK193.out 2).trans rfl
                    have hcz71_3 : wc.cell? ⟨gb193, 3, none⟩ = some (.int .i64 a3_3) := (blk_cell BK193.out 3).trans rfl
                    have hfz71_0 := blk_frozen BK193.out 0
                    have hfz71_1 := blk_frozen BK193.out 1
                    have hfz71_2 := blk_frozen BK193.out 2
                    have hfz71_3 := blk_frozen BK193.out 3
                    go_wp2
                    go_ret
                    exact ⟨by first | rfl | (simp [errW_none, errW_some] <;> rfl) | (simp [*, errW_none, errW_some] <;> rfl), by repeat (first | (with_reducible first | exact HB.out | apply below_alloc | apply pw_below_drewN | apply below_drew1 | refine below_set ?_ GE193.out | refine below_set ?_ GE212.out) | exact HB.out)⟩

end Go.Proofs.Ytnflalbiffamdaa.QChainWalks
