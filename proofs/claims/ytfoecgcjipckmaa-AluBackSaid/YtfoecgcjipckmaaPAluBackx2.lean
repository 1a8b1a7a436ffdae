-- PRINTED BY print.sh 35421559b90ae4d0a3588c463048766b98c2df88dd9212a6774a882060cdf62d: not written by this session
import Derived.Test.YtfoecgcjipckmaaPAluBackx0
import Derived.Test.YtfoecgcjipckmaaPAluBackx1
namespace Go.Proofs.Ytfoecgcjipckmaa.PAluBack
open Go.RowKit Go.Proofs.YtfoecgcjipckmaaW.PrintWords Go.Proofs.YtfoecgcjipckmaaW.PrintLast Go.Proofs.YtfoecgcjipckmaaW.PrintMore
attribute [local go_sem] max2_int min2_int max_two min_two max_three min_three max_four min_four   -- for this text's walks alone
set_option linter.unusedVariables false
set_option linter.unusedSimpArgs false

/-! ### dowellaw03_AluBack: function 10 -/
mutual
def dowellaw03_AluBack.j0 : Nat → Int → Int → Bool → Bool → Option (Bool)
  | 0, _, _, _, _ => none
  | k + 1, x0, x1, x5, x67 => if x67 = true then (some false) else ((alu_Meets.f 18 x0 x1).bind fun t118 => (if t118 = true then (dowellaw03_AluBack.j1 k x0 x1 x5 (0 + 1)) else (dowellaw03_AluBack.j1 k x0 x1 x5 0)))
def dowellaw03_AluBack.j1 : Nat → Int → Int → Bool → Int → Option (Bool)
  | 0, _, _, _, _ => none
  | k + 1, x0, x1, x5, x14 => (alu_Meets.f 16 x0 x1).bind fun t119 => (if t119 = true then (dowellaw03_AluBack.j2 k x0 x1 x5 (wrap64 (x14 + 1))) else (dowellaw03_AluBack.j2 k x0 x1 x5 x14))
def dowellaw03_AluBack.j2 : Nat → Int → Int → Bool → Int → Option (Bool)
  | 0, _, _, _, _ => none
  | k + 1, x0, x1, x5, x14 => (alu_Meets.f 18 x1 x0).bind fun t120 => (if t120 = true then (dowellaw03_AluBack.j3 k x0 x1 x5 (wrap64 (x14 + 1))) else (dowellaw03_AluBack.j3 k x0 x1 x5 x14))
def dowellaw03_AluBack.j3 : Nat → Int → Int → Bool → Int → Option (Bool)
  | 0, _, _, _, _ => none
  | k + 1, x0, x1, x5, x14 => if x14 = 1 then ((alu_Meets.f 16 x0 x1).bind fun t121 => ((alu_Meets.f 17 x0 x1).bind fun t122 => (dowellaw03_AluBack.j4 k x0 x1 x5 (t121 == t122)))) else (dowellaw03_AluBack.j4 k x0 x1 x5 true)
def dowellaw03_AluBack.j4 : Nat → Int → Int → Bool → Bool → Option (Bool)
  | 0, _, _, _, _ => none
  | k + 1, x0, x1, x5, x93 => if x93 = true then (some false) else (if x1 = 0 then (dowellaw03_AluBack.j5 k x0 x1 x5 true) else (dowellaw03_AluBack.j5 k x0 x1 x5 (x1 == (-1))))
def dowellaw03_AluBack.j5 : Nat → Int → Int → Bool → Bool → Option (Bool)
  | 0, _, _, _, _ => none
  | k + 1, x0, x1, x5, x99 => if x99 = true then (some x5) else ((alu_Do.f 5 x0 x1).bind fun bt123 => (if (wrap64 ((wrap64 (x0)) - (wrap64 ((wrap64 (bt123.1)) * (wrap64 (x1)))))) < 0 then (if (wrap64 (x1)) < 0 then (if x5 = true then (if bt123.2 = 0 then (some (decide ((wrap64 (-(wrap64 ((wrap64 (x0)) - (wrap64 ((wrap64 (bt123.1)) * (wrap64 (x1)))))))) < (wrap64 (-(wrap64 (x1))))))) else (some false)) else (some false)) else (if x5 = true then (if bt123.2 = 0 then (some (decide ((wrap64 (-(wrap64 ((wrap64 (x0)) - (wrap64 ((wrap64 (bt123.1)) * (wrap64 (x1)))))))) < (wrap64 (x1))))) else (some false)) else (some false))) else (if (wrap64 (x1)) < 0 then (if x5 = true then (if bt123.2 = 0 then (some (decide ((wrap64 ((wrap64 (x0)) - (wrap64 ((wrap64 (bt123.1)) * (wrap64 (x1)))))) < (wrap64 (-(wrap64 (x1))))))) else (some false)) else (some false)) else (if x5 = true then (if bt123.2 = 0 then (some (decide ((wrap64 ((wrap64 (x0)) - (wrap64 ((wrap64 (bt123.1)) * (wrap64 (x1)))))) < (wrap64 (x1))))) else (some false)) else (some false)))))
end
def dowellaw03_AluBack.f (k : Nat) (a0 : Int) (a1 : Int) : Option (Bool) := (dowellaw03_up.f).bind fun t109 => ((alu_Do.f 2 a0 a1).bind fun bt110 => ((alu_Do.f 3 bt110.1 a1).bind fun bt112 => ((alu_Do.f 8 a0 a1).bind fun bt114 => ((alu_Do.f 8 bt114.1 a1).bind fun bt116 => (if bt110.2 = 0 then (if bt112.2 = 0 then (if bt114.2 = 0 then (if bt116.2 = 0 then (if bt112.1 = a0 then (dowellaw03_AluBack.j0 k a0 a1 t109 (bt116.1 != a0)) else (dowellaw03_AluBack.j0 k a0 a1 t109 true)) else (dowellaw03_AluBack.j0 k a0 a1 t109 true)) else (dowellaw03_AluBack.j0 k a0 a1 t109 true)) else (dowellaw03_AluBack.j0 k a0 a1 t109 true)) else (dowellaw03_AluBack.j0 k a0 a1 t109 true))))))
theorem dowellaw03_AluBack.mono_l : ∀ k, (∀ y0 y1 y2 y3, LeO (dowellaw03_AluBack.j0 k y0 y1 y2 y3) (dowellaw03_AluBack.j0 (k + 1) y0 y1 y2 y3)) ∧ (∀ y0 y1 y2 y3, LeO (dowellaw03_AluBack.j1 k y0 y1 y2 y3) (dowellaw03_AluBack.j1 (k + 1) y0 y1 y2 y3)) ∧ (∀ y0 y1 y2 y3, LeO (dowellaw03_AluBack.j2 k y0 y1 y2 y3) (dowellaw03_AluBack.j2 (k + 1) y0 y1 y2 y3)) ∧ (∀ y0 y1 y2 y3, LeO (dowellaw03_AluBack.j3 k y0 y1 y2 y3) (dowellaw03_AluBack.j3 (k + 1) y0 y1 y2 y3)) ∧ (∀ y0 y1 y2 y3, LeO (dowellaw03_AluBack.j4 k y0 y1 y2 y3) (dowellaw03_AluBack.j4 (k + 1) y0 y1 y2 y3)) ∧ (∀ y0 y1 y2 y3, LeO (dowellaw03_AluBack.j5 k y0 y1 y2 y3) (dowellaw03_AluBack.j5 (k + 1) y0 y1 y2 y3))
  | 0 => ⟨fun _ _ _ _ r h => by simp [dowellaw03_AluBack.j0] at h, fun _ _ _ _ r h => by simp [dowellaw03_AluBack.j1] at h, fun _ _ _ _ r h => by simp [dowellaw03_AluBack.j2] at h, fun _ _ _ _ r h => by simp [dowellaw03_AluBack.j3] at h, fun _ _ _ _ r h => by simp [dowellaw03_AluBack.j4] at h, fun _ _ _ _ r h => by simp [dowellaw03_AluBack.j5] at h⟩
  | k + 1 => by
    obtain ⟨ih0, ih1, ih2, ih3, ih4, ih5⟩ := dowellaw03_AluBack.mono_l k
    refine ⟨?_, ?_, ?_, ?_, ?_, ?_⟩
    · intro y0 y1 y2 y3
      unfold dowellaw03_AluBack.j0
      repeat' first
      | (with_reducible exact ih0 _ _ _ _)
      | (with_reducible exact ih1 _ _ _ _)
      | (with_reducible exact ih2 _ _ _ _)
      | (with_reducible exact ih3 _ _ _ _)
      | (with_reducible exact ih4 _ _ _ _)
      | (with_reducible exact ih5 _ _ _ _)
      | (with_reducible exact LeO.refl _)
      | (with_reducible exact LeO.none _)
      | (with_reducible refine LeO.ite ?_ ?_)
      | (with_reducible refine LeO.bind ?_ (fun _ => ?_))
      | exact ih0 _ _ _ _
      | exact ih1 _ _ _ _
      | exact ih2 _ _ _ _
      | exact ih3 _ _ _ _
      | exact ih4 _ _ _ _
      | exact ih5 _ _ _ _
      | exact LeO.none _
      | refine LeO.ite ?_ ?_
      | refine LeO.bind ?_ (fun _ => ?_)
    · intro y0 y1 y2 y3
      unfold dowellaw03_AluBack.j1
      repeat' first
      | (with_reducible exact ih0 _ _ _ _)
      | (with_reducible exact ih1 _ _ _ _)
      | (with_reducible exact ih2 _ _ _ _)
      | (with_reducible exact ih3 _ _ _ _)
      | (with_reducible exact ih4 _ _ _ _)
      | (with_reducible exact ih5 _ _ _ _)
      | (with_reducible exact LeO.refl _)
      | (with_reducible exact LeO.none _)
      | (with_reducible refine LeO.ite ?_ ?_)
      | (with_reducible refine LeO.bind ?_ (fun _ => ?_))
      | exact ih0 _ _ _ _
      | exact ih1 _ _ _ _
      | exact ih2 _ _ _ _
      | exact ih3 _ _ _ _
      | exact ih4 _ _ _ _
      | exact ih5 _ _ _ _
      | exact LeO.none _
      | refine LeO.ite ?_ ?_
      | refine LeO.bind ?_ (fun _ => ?_)
    · intro y0 y1 y2 y3
      unfold dowellaw03_AluBack.j2
      repeat' first
      | (with_reducible exact ih0 _ _ _ _)
      | (with_reducible exact ih1 _ _ _ _)
      | (with_reducible exact ih2 _ _ _ _)
      | (with_reducible exact ih3 _ _ _ _)
      | (with_reducible exact ih4 _ _ _ _)
      | (with_reducible exact ih5 _ _ _ _)
      | (with_reducible exact LeO.refl _)
      | (with_reducible exact LeO.none _)
      | (with_reducible refine LeO.ite ?_ ?_)
      | (with_reducible refine LeO.bind ?_ (fun _ => ?_))
      | exact ih0 _ _ _ _
      | exact ih1 _ _ _ _
      | exact ih2 _ _ _ _
      | exact ih3 _ _ _ _
      | exact ih4 _ _ _ _
      | exact ih5 _ _ _ _
      | exact LeO.none _
      | refine LeO.ite ?_ ?_
      | refine LeO.bind ?_ (fun _ => ?_)
    · intro y0 y1 y2 y3
      unfold dowellaw03_AluBack.j3
      repeat' first
      | (with_reducible exact ih0 _ _ _ _)
      | (with_reducible exact ih1 _ _ _ _)
      | (with_reducible exact ih2 _ _ _ _)
      | (with_reducible exact ih3 _ _ _ _)
      | (with_reducible exact ih4 _ _ _ _)
      | (with_reducible exact ih5 _ _ _ _)
      | (with_reducible exact LeO.refl _)
      | (with_reducible exact LeO.none _)
      | (with_reducible refine LeO.ite ?_ ?_)
      | (with_reducible refine LeO.bind ?_ (fun _ => ?_))
      | exact ih0 _ _ _ _
      | exact ih1 _ _ _ _
      | exact ih2 _ _ _ _
      | exact ih3 _ _ _ _
      | exact ih4 _ _ _ _
      | exact ih5 _ _ _ _
      | exact LeO.none _
      | refine LeO.ite ?_ ?_
      | refine LeO.bind ?_ (fun _ => ?_)
    · intro y0 y1 y2 y3
      unfold dowellaw03_AluBack.j4
      repeat' first
      | (with_reducible exact ih0 _ _ _ _)
      | (with_reducible exact ih1 _ _ _ _)
      | (with_reducible exact ih2 _ _ _ _)
      | (with_reducible exact ih3 _ _ _ _)
      | (with_reducible exact ih4 _ _ _ _)
      | (with_reducible exact ih5 _ _ _ _)
      | (with_reducible exact LeO.refl _)
      | (with_reducible exact LeO.none _)
      | (with_reducible refine LeO.ite ?_ ?_)
      | (with_reducible refine LeO.bind ?_ (fun _ => ?_))
      | exact ih0 _ _ _ _
      | exact ih1 _ _ _ _
      | exact ih2 _ _ _ _
      | exact ih3 _ _ _ _
      | exact ih4 _ _ _ _
      | exact ih5 _ _ _ _
      | exact LeO.none _
      | refine LeO.ite ?_ ?_
      | refine LeO.bind ?_ (fun _ => ?_)
    · intro y0 y1 y2 y3
      unfold dowellaw03_AluBack.j5
      repeat' first
      | (with_reducible exact ih0 _ _ _ _)
      | (with_reducible exact ih1 _ _ _ _)
      | (with_reducible exact ih2 _ _ _ _)
      | (with_reducible exact ih3 _ _ _ _)
      | (with_reducible exact ih4 _ _ _ _)
      | (with_reducible exact ih5 _ _ _ _)
      | (with_reducible exact LeO.refl _)
      | (with_reducible exact LeO.none _)
      | (with_reducible refine LeO.ite ?_ ?_)
      | (with_reducible refine LeO.bind ?_ (fun _ => ?_))
      | exact ih0 _ _ _ _
      | exact ih1 _ _ _ _
      | exact ih2 _ _ _ _
      | exact ih3 _ _ _ _
      | exact ih4 _ _ _ _
      | exact ih5 _ _ _ _
      | exact LeO.none _
      | refine LeO.ite ?_ ?_
      | refine LeO.bind ?_ (fun _ => ?_)
theorem dowellaw03_AluBack.mono : ∀ a0 a1 k, LeO (dowellaw03_AluBack.f k a0 a1) (dowellaw03_AluBack.f (k + 1) a0 a1) := by
  intro a0 a1 k
  obtain ⟨ih0, ih1, ih2, ih3, ih4, ih5⟩ := dowellaw03_AluBack.mono_l k
  unfold dowellaw03_AluBack.f
  repeat' first
      | (with_reducible exact ih0 _ _ _ _)
      | (with_reducible exact ih1 _ _ _ _)
      | (with_reducible exact ih2 _ _ _ _)
      | (with_reducible exact ih3 _ _ _ _)
      | (with_reducible exact ih4 _ _ _ _)
      | (with_reducible exact ih5 _ _ _ _)
      | (with_reducible exact LeO.refl _)
      | (with_reducible exact LeO.none _)
      | (with_reducible refine LeO.ite ?_ ?_)
      | (with_reducible refine LeO.bind ?_ (fun _ => ?_))
      | exact ih0 _ _ _ _
      | exact ih1 _ _ _ _
      | exact ih2 _ _ _ _
      | exact ih3 _ _ _ _
      | exact ih4 _ _ _ _
      | exact ih5 _ _ _ _
      | exact LeO.none _
      | refine LeO.ite ?_ ?_
      | refine LeO.bind ?_ (fun _ => ?_)
set_option maxHeartbeats 8000000 in
set_option maxRecDepth 100000 in
theorem dowellaw03_AluBack.calls (k : Nat) (a0 : Int) (a1 : Int) (r : Bool) (w : World) (h : dowellaw03_AluBack.f k a0 a1 = some r) :
    Calls Try.prog 10 #[.int .i32 a0, .int .i32 a1] w fun e w' => e = .returned (.bool r) ∧ Drawn0 w w' := by
  have H : ((dowellaw03_up.f).bind fun t109 => ((alu_Do.f 2 a0 a1).bind fun bt110 => ((alu_Do.f 3 bt110.1 a1).bind fun bt112 => ((alu_Do.f 8 a0 a1).bind fun bt114 => ((alu_Do.f 8 bt114.1 a1).bind fun bt116 => (if bt110.2 = 0 then (if bt112.2 = 0 then (if bt114.2 = 0 then (if bt116.2 = 0 then (if bt112.1 = a0 then (dowellaw03_AluBack.j0 k a0 a1 t109 (bt116.1 != a0)) else (dowellaw03_AluBack.j0 k a0 a1 t109 true)) else (dowellaw03_AluBack.j0 k a0 a1 t109 true)) else (dowellaw03_AluBack.j0 k a0 a1 t109 true)) else (dowellaw03_AluBack.j0 k a0 a1 t109 true)) else (dowellaw03_AluBack.j0 k a0 a1 t109 true))))))) = some r := h
  clear h
  replace H := Option.bind_eq_some_iff.mp H
  obtain ⟨t109, A30, H⟩ := H
  replace H : ((alu_Do.f 2 a0 a1).bind fun bt110 => ((alu_Do.f 3 bt110.1 a1).bind fun bt112 => ((alu_Do.f 8 a0 a1).bind fun bt114 => ((alu_Do.f 8 bt114.1 a1).bind fun bt116 => (if bt110.2 = 0 then (if bt112.2 = 0 then (if bt114.2 = 0 then (if bt116.2 = 0 then (if bt112.1 = a0 then (dowellaw03_AluBack.j0 k a0 a1 t109 (bt116.1 != a0)) else (dowellaw03_AluBack.j0 k a0 a1 t109 true)) else (dowellaw03_AluBack.j0 k a0 a1 t109 true)) else (dowellaw03_AluBack.j0 k a0 a1 t109 true)) else (dowellaw03_AluBack.j0 k a0 a1 t109 true)) else (dowellaw03_AluBack.j0 k a0 a1 t109 true)))))) = some r := H
  have A3 := Aside0.mk A30
  clear A30
  replace H := Option.bind_eq_some_iff.mp H
  obtain ⟨⟨t110, t111⟩, A40, H⟩ := H
  replace H : ((alu_Do.f 3 t110 a1).bind fun bt112 => ((alu_Do.f 8 a0 a1).bind fun bt114 => ((alu_Do.f 8 bt114.1 a1).bind fun bt116 => (if t111 = 0 then (if bt112.2 = 0 then (if bt114.2 = 0 then (if bt116.2 = 0 then (if bt112.1 = a0 then (dowellaw03_AluBack.j0 k a0 a1 t109 (bt116.1 != a0)) else (dowellaw03_AluBack.j0 k a0 a1 t109 true)) else (dowellaw03_AluBack.j0 k a0 a1 t109 true)) else (dowellaw03_AluBack.j0 k a0 a1 t109 true)) else (dowellaw03_AluBack.j0 k a0 a1 t109 true)) else (dowellaw03_AluBack.j0 k a0 a1 t109 true))))) = some r := H
  have A4 := Aside0.mk A40
  clear A40
  replace H := Option.bind_eq_some_iff.mp H
  obtain ⟨⟨t112, t113⟩, A50, H⟩ := H
  replace H : ((alu_Do.f 8 a0 a1).bind fun bt114 => ((alu_Do.f 8 bt114.1 a1).bind fun bt116 => (if t111 = 0 then (if t113 = 0 then (if bt114.2 = 0 then (if bt116.2 = 0 then (if t112 = a0 then (dowellaw03_AluBack.j0 k a0 a1 t109 (bt116.1 != a0)) else (dowellaw03_AluBack.j0 k a0 a1 t109 true)) else (dowellaw03_AluBack.j0 k a0 a1 t109 true)) else (dowellaw03_AluBack.j0 k a0 a1 t109 true)) else (dowellaw03_AluBack.j0 k a0 a1 t109 true)) else (dowellaw03_AluBack.j0 k a0 a1 t109 true)))) = some r := H
  have A5 := Aside0.mk A50
  clear A50
  replace H := Option.bind_eq_some_iff.mp H
  obtain ⟨⟨t114, t115⟩, A60, H⟩ := H
  replace H : ((alu_Do.f 8 t114 a1).bind fun bt116 => (if t111 = 0 then (if t113 = 0 then (if t115 = 0 then (if bt116.2 = 0 then (if t112 = a0 then (dowellaw03_AluBack.j0 k a0 a1 t109 (bt116.1 != a0)) else (dowellaw03_AluBack.j0 k a0 a1 t109 true)) else (dowellaw03_AluBack.j0 k a0 a1 t109 true)) else (dowellaw03_AluBack.j0 k a0 a1 t109 true)) else (dowellaw03_AluBack.j0 k a0 a1 t109 true)) else (dowellaw03_AluBack.j0 k a0 a1 t109 true))) = some r := H
  have A6 := Aside0.mk A60
  clear A60
  replace H := Option.bind_eq_some_iff.mp H
  obtain ⟨⟨t116, t117⟩, A70, H⟩ := H
  replace H : (if t111 = 0 then (if t113 = 0 then (if t115 = 0 then (if t117 = 0 then (if t112 = a0 then (dowellaw03_AluBack.j0 k a0 a1 t109 (t116 != a0)) else (dowellaw03_AluBack.j0 k a0 a1 t109 true)) else (dowellaw03_AluBack.j0 k a0 a1 t109 true)) else (dowellaw03_AluBack.j0 k a0 a1 t109 true)) else (dowellaw03_AluBack.j0 k a0 a1 t109 true)) else (dowellaw03_AluBack.j0 k a0 a1 t109 true)) = some r := H
  have A7 := Aside0.mk A70
  clear A70
  have HC8 := Aside0.mk H
  clear H
  go_enter Try.func10, Try.ntmps10
  go_upto_region 6 with (first | ((with_reducible refine gate_callee (f := 42) rfl ?_); refine goesL_ (some 19) rfl rfl Try.func42 (by kernel_rfl) rfl #[] rfl (by (try simp only [List.map_toArray, List.map_cons, List.map_nil]); first | done | rfl | (simp only [List.length_drop, List.length_take]; rfl)) ?_; (with_reducible refine (dowellaw03_up.calls  t109 _ A3.out).mono ?_); rintro e w' ⟨rfl, ⟨nd, rfl⟩⟩; refine ⟨_, rfl, ?_⟩) | ((with_reducible refine gate_callee (f := 43) rfl ?_); refine goesL_ (some 23) rfl rfl Try.func43 (by kernel_rfl) rfl #[.int .i64 2, .int .i32 a0, .int .i32 a1] rfl (by (try simp only [List.map_toArray, List.map_cons, List.map_nil]); first | done | rfl | (simp only [List.length_drop, List.length_take]; rfl)) ?_; (with_reducible refine (alu_Do.calls 2 a0 a1 t110 t111 _ A4.out).mono ?_); rintro e w' ⟨rfl, ⟨nd, rfl⟩⟩; refine ⟨_, rfl, ?_⟩) | ((with_reducible refine gate_callee (f := 43) rfl ?_); refine goesL_ (some 29) rfl rfl Try.func43 (by kernel_rfl) rfl #[.int .i64 3, .int .i32 t110, .int .i32 a1] rfl (by (try simp only [List.map_toArray, List.map_cons, List.map_nil]); first | done | rfl | (simp only [List.length_drop, List.length_take]; rfl)) ?_; (with_reducible refine (alu_Do.calls 3 t110 a1 t112 t113 _ A5.out).mono ?_); rintro e w' ⟨rfl, ⟨nd, rfl⟩⟩; refine ⟨_, rfl, ?_⟩) | ((with_reducible refine gate_callee (f := 43) rfl ?_); refine goesL_ (some 35) rfl rfl Try.func43 (by kernel_rfl) rfl #[.int .i64 8, .int .i32 a0, .int .i32 a1] rfl (by (try simp only [List.map_toArray, List.map_cons, List.map_nil]); first | done | rfl | (simp only [List.length_drop, List.length_take]; rfl)) ?_; (with_reducible refine (alu_Do.calls 8 a0 a1 t114 t115 _ A6.out).mono ?_); rintro e w' ⟨rfl, ⟨nd, rfl⟩⟩; refine ⟨_, rfl, ?_⟩) | ((with_reducible refine gate_callee (f := 43) rfl ?_); refine goesL_ (some 41) rfl rfl Try.func43 (by kernel_rfl) rfl #[.int .i64 8, .int .i32 t114, .int .i32 a1] rfl (by (try simp only [List.map_toArray, List.map_cons, List.map_nil]); first | done | rfl | (simp only [List.length_drop, List.length_take]; rfl)) ?_; (with_reducible refine (alu_Do.calls 8 t114 a1 t116 t117 _ A7.out).mono ?_); rintro e w' ⟨rfl, ⟨nd, rfl⟩⟩; refine ⟨_, rfl, ?_⟩))
  (try simp only [Act.put, List.setIfInBounds_toArray, List.set_cons_zero, List.set_cons_succ])
  go_cut [67] (fun v67 wc => ∃ (kq : Nat) (x67_7 : Bool), v67 = .bool x67_7 ∧ Aside0 (dowellaw03_AluBack.j0 kq a0 a1 t109 x67_7 = some r) ∧ Aside0 (kq ≤ k) ∧ Drawn0 w wc)
  case first =>
    have H := HC8.out
    clear HC8
    by_cases c9 : t111 = 0
    · rw [if_pos c9] at H
      have c9b0 : (t111 == 0) = true := beq_iff_eq.mpr c9
      have c9b1 : (t111 != 0) = false := bne_eq_false_iff_eq.mpr c9
      clear c9
      (first | rw [c9b0] | (simp only [i64_w, i32_w]; rw [c9b0]) | skip)
      by_cases c10 : t113 = 0
      · rw [if_pos c10] at H
        have c10b0 : (t113 == 0) = true := beq_iff_eq.mpr c10
        have c10b1 : (t113 != 0) = false := bne_eq_false_iff_eq.mpr c10
        clear c10
        by_cases c11 : t115 = 0
        · rw [if_pos c11] at H
          have c11b0 : (t115 == 0) = true := beq_iff_eq.mpr c11
          have c11b1 : (t115 != 0) = false := bne_eq_false_iff_eq.mpr c11
          clear c11
          by_cases c12 : t117 = 0
          · rw [if_pos c12] at H
            have c12b0 : (t117 == 0) = true := beq_iff_eq.mpr c12
            have c12b1 : (t117 != 0) = false := bne_eq_false_iff_eq.mpr c12
            clear c12
            by_cases c13 : t112 = a0
            · rw [if_pos c13] at H
              have c13b0 : (t112 == a0) = true := beq_iff_eq.mpr c13
              have c13b1 : (t112 != a0) = false := bne_eq_false_iff_eq.mpr c13
              clear c13
              have H' := Aside0.mk H
              clear H
              go_wp2
              go_meet
              case rel => exact ⟨_, ((t116 != a0)), (by first | rfl | (simp; done) | (simp [*]; done)), H', ⟨by first | omega | exact Nat.le_refl _⟩, by repeat (first | exact Drawn0.refl _ | apply Drawn0.step)⟩
            · rw [if_neg c13] at H
              have c13b0 : (t112 == a0) = false := beq_eq_false_iff_ne.mpr c13
              have c13b1 : (t112 != a0) = true := bne_iff_ne.mpr c13
              have H' := Aside0.mk H
              clear H
              go_wp2
              go_meet
              case rel => exact ⟨_, (true), (by first | rfl | (simp; done) | (simp [*]; done)), H', ⟨by first | omega | exact Nat.le_refl _⟩, by repeat (first | exact Drawn0.refl _ | apply Drawn0.step)⟩
          · rw [if_neg c12] at H
            have c12b0 : (t117 == 0) = false := beq_eq_false_iff_ne.mpr c12
            have c12b1 : (t117 != 0) = true := bne_iff_ne.mpr c12
            have H' := Aside0.mk H
            clear H
            go_wp2
            go_meet
            case rel => exact ⟨_, (true), (by first | rfl | (simp; done) | (simp [*]; done)), H', ⟨by first | omega | exact Nat.le_refl _⟩, by repeat (first | exact Drawn0.refl _ | apply Drawn0.step)⟩
        · rw [if_neg c11] at H
          have c11b0 : (t115 == 0) = false := beq_eq_false_iff_ne.mpr c11
          have c11b1 : (t115 != 0) = true := bne_iff_ne.mpr c11
          have H' := Aside0.mk H
          clear H
          go_wp2
          go_meet
          case rel => exact ⟨_, (true), (by first | rfl | (simp; done) | (simp [*]; done)), H', ⟨by first | omega | exact Nat.le_refl _⟩, by repeat (first | exact Drawn0.refl _ | apply Drawn0.step)⟩
      · rw [if_neg c10] at H
        have c10b0 : (t113 == 0) = false := beq_eq_false_iff_ne.mpr c10
        have c10b1 : (t113 != 0) = true := bne_iff_ne.mpr c10
        have H' := Aside0.mk H
        clear H
        go_wp2
        go_meet
        case rel => exact ⟨_, (true), (by first | rfl | (simp; done) | (simp [*]; done)), H', ⟨by first | omega | exact Nat.le_refl _⟩, by repeat (first | exact Drawn0.refl _ | apply Drawn0.step)⟩
    · rw [if_neg c9] at H
      have c9b0 : (t111 == 0) = false := beq_eq_false_iff_ne.mpr c9
      have c9b1 : (t111 != 0) = true := bne_iff_ne.mpr c9
      (first | rw [c9b0] | (simp only [i64_w, i32_w]; rw [c9b0]) | skip)
      have H' := Aside0.mk H
      clear H
      go_wp2
      go_meet
      case rel => exact ⟨_, (true), (by first | rfl | (simp; done) | (simp [*]; done)), H', ⟨by first | omega | exact Nat.le_refl _⟩, by repeat (first | exact Drawn0.refl _ | apply Drawn0.step)⟩
  case rest =>
    clear HC8
    try clear c1
    try clear p2
    try clear c4
    try clear c9
    try clear c9b0
    try clear c9b1
    try clear c10
    try clear c10b0
    try clear c10b1
    try clear c11
    try clear c11b0
    try clear c11b1
    try clear c12
    try clear c12b0
    try clear c12b1
    try clear c13
    try clear c13b0
    try clear c13b1
    obtain ⟨kq, x67_7, rfl, HA, HJ7, ⟨mc7, rfl⟩⟩ := hcut
    cases kq with
    | zero => exact absurd HA.out (by simp [dowellaw03_AluBack.j0])
    | succ kj7 =>
      have H := HA.out
      clear HA
      simp only [dowellaw03_AluBack.j0] at H
      by_cases c14 : x67_7 = true
      · subst c14
        have H1 : (some false) = some r := by rw [if_pos rfl] at H; exact H
        clear H
        have H := H1
        clear H1
        obtain rfl := Option.some.inj H
        go_wp2
        go_ret
        exact ⟨by first | rfl | (simp; done) | (simp [*]; done), by repeat (first | exact Drawn0.refl _ | apply Drawn0.step)⟩
      · replace c14 := Bool.eq_false_iff.mpr c14
        subst c14
        have H1 : ((alu_Meets.f 18 a0 a1).bind fun t118 => (if t118 = true then (dowellaw03_AluBack.j1 kj7 a0 a1 t109 (0 + 1)) else (dowellaw03_AluBack.j1 kj7 a0 a1 t109 0))) = some r := by rw [if_neg (show ¬ (false = true) by decide)] at H; exact H
        clear H
        have H := H1
        clear H1
        replace H := Option.bind_eq_some_iff.mp H
        obtain ⟨t118, A150, H⟩ := H
        replace H : (if t118 = true then (dowellaw03_AluBack.j1 kj7 a0 a1 t109 (0 + 1)) else (dowellaw03_AluBack.j1 kj7 a0 a1 t109 0)) = some r := H
        have A15 := Aside0.mk A150
        clear A150
        have HC16 := Aside0.mk H
        clear H
        go_upto_if 70 with (first | ((with_reducible refine gate_callee (f := 44) rfl ?_); refine goesL_ (some 70) rfl rfl Try.func44 (by kernel_rfl) rfl #[.int .i64 18, .int .i32 a0, .int .i32 a1] rfl (by (try simp only [List.map_toArray, List.map_cons, List.map_nil]); first | done | rfl | (simp only [List.length_drop, List.length_take]; rfl)) ?_; (with_reducible refine (alu_Meets.calls 18 a0 a1 t118 _ A15.out).mono ?_); rintro e w' ⟨rfl, ⟨nd, rfl⟩⟩; refine ⟨_, rfl, ?_⟩))
        (try simp only [Act.put, List.setIfInBounds_toArray, List.set_cons_zero, List.set_cons_succ])
        go_cut [14] (fun v14 wc => ∃ (kq : Nat) (x14_15 : Int), v14 = .int .i64 x14_15 ∧ Aside0 (dowellaw03_AluBack.j1 kq a0 a1 t109 x14_15 = some r) ∧ Aside0 (kq ≤ kj7) ∧ Drawn0 w wc)
        case first =>
          have H := HC16.out
          clear HC16
          by_cases c17 : t118 = true
          · subst c17
            have H1 : (dowellaw03_AluBack.j1 kj7 a0 a1 t109 (0 + 1)) = some r := by rw [if_pos rfl] at H; exact H
            clear H
            have H := H1
            clear H1
            have H' := Aside0.mk H
            clear H
            go_wp2
            go_meet
            case rel => exact ⟨_, (0 + 1), (by first | rfl | (simp; done) | (simp [*]; done)), H', ⟨by have := HJ7.out; first | omega | exact Nat.le_refl _⟩, by repeat (first | exact Drawn0.refl _ | apply Drawn0.step)⟩
          · replace c17 := Bool.eq_false_iff.mpr c17
            subst c17
            have H1 : (dowellaw03_AluBack.j1 kj7 a0 a1 t109 0) = some r := by rw [if_neg (show ¬ (false = true) by decide)] at H; exact H
            clear H
            have H := H1
            clear H1
            have H' := Aside0.mk H
            clear H
            go_wp2
            go_meet
            case rel => exact ⟨_, (0), (by first | rfl | (simp; done) | (simp [*]; done)), H', ⟨by have := HJ7.out; first | omega | exact Nat.le_refl _⟩, by repeat (first | exact Drawn0.refl _ | apply Drawn0.step)⟩
        case rest =>
          clear HC16
          try clear c1
          try clear p2
          try clear c4
          try clear c7
          try clear c9
          try clear c9b0
          try clear c9b1
          try clear c10
          try clear c10b0
          try clear c10b1
          try clear c11
          try clear c11b0
          try clear c11b1
          try clear c12
          try clear c12b0
          try clear c12b1
          try clear c13
          try clear c13b0
          try clear c13b1
          try clear c14
          try clear c17
          try clear p2
          obtain ⟨kq, x14_15, rfl, HA, HJ15, ⟨mc15, rfl⟩⟩ := hcut
          cases kq with
          | zero => exact absurd HA.out (by simp [dowellaw03_AluBack.j1])
          | succ kj15 =>
            have H := HA.out
            clear HA
            simp only [dowellaw03_AluBack.j1] at H
            replace H := Option.bind_eq_some_iff.mp H
            obtain ⟨t119, A180, H⟩ := H
            replace H : (if t119 = true then (dowellaw03_AluBack.j2 kj15 a0 a1 t109 (wrap64 (x14_15 + 1))) else (dowellaw03_AluBack.j2 kj15 a0 a1 t109 x14_15)) = some r := H
            have A18 := Aside0.mk A180
            clear A180
            have HC19 := Aside0.mk H
            clear H
            go_upto_if 75 with (first | ((with_reducible refine gate_callee (f := 44) rfl ?_); refine goesL_ (some 75) rfl rfl Try.func44 (by kernel_rfl) rfl #[.int .i64 16, .int .i32 a0, .int .i32 a1] rfl (by (try simp only [List.map_toArray, List.map_cons, List.map_nil]); first | done | rfl | (simp only [List.length_drop, List.length_take]; rfl)) ?_; (with_reducible refine (alu_Meets.calls 16 a0 a1 t119 _ A18.out).mono ?_); rintro e w' ⟨rfl, ⟨nd, rfl⟩⟩; refine ⟨_, rfl, ?_⟩))
            (try simp only [Act.put, List.setIfInBounds_toArray, List.set_cons_zero, List.set_cons_succ])
            go_cut [14] (fun v14 wc => ∃ (kq : Nat) (x14_18 : Int), v14 = .int .i64 x14_18 ∧ Aside0 (dowellaw03_AluBack.j2 kq a0 a1 t109 x14_18 = some r) ∧ Aside0 (kq ≤ kj15) ∧ Drawn0 w wc)
            case first =>
              have H := HC19.out
              clear HC19
              by_cases c20 : t119 = true
              · subst c20
                have H1 : (dowellaw03_AluBack.j2 kj15 a0 a1 t109 (wrap64 (x14_15 + 1))) = some r := by rw [if_pos rfl] at H; exact H
                clear H
                have H := H1
                clear H1
                have H' := Aside0.mk H
                clear H
                go_wp2
                go_meet
                case rel => exact ⟨_, (wrap64 (x14_15 + 1)), (by first | rfl | (simp; done) | (simp [*]; done)), H', ⟨by have := HJ7.out; have := HJ15.out; first | omega | exact Nat.le_refl _⟩, by repeat (first | exact Drawn0.refl _ | apply Drawn0.step)⟩
              · replace c20 := Bool.eq_false_iff.mpr c20
                subst c20
                have H1 : (dowellaw03_AluBack.j2 kj15 a0 a1 t109 x14_15) = some r := by rw [if_neg (show ¬ (false = true) by decide)] at H; exact H
                clear H
                have H := H1
                clear H1
                have H' := Aside0.mk H
                clear H
                go_wp2
                go_meet
                case rel => exact ⟨_, (x14_15), (by first | rfl | (simp; done) | (simp [*]; done)), H', ⟨by have := HJ7.out; have := HJ15.out; first | omega | exact Nat.le_refl _⟩, by repeat (first | exact Drawn0.refl _ | apply Drawn0.step)⟩
            case rest =>
              clear HC19
              try clear c1
              try clear c2
              try clear p2
              try clear c4
              try clear p6
              try clear c7
              try clear c9
              try clear c9b0
              try clear c9b1
              try clear c10
              try clear c10b0
              try clear c10b1
              try clear c11
              try clear c11b0
              try clear c11b1
              try clear c12
              try clear c12b0
              try clear c12b1
              try clear c13
              try clear c13b0
              try clear c13b1
              try clear c14
              try clear c15
              try clear c17
              try clear c20
              try clear p2
              obtain ⟨kq, x14_18, rfl, HA, HJ18, ⟨mc18, rfl⟩⟩ := hcut
              cases kq with
              | zero => exact absurd HA.out (by simp [dowellaw03_AluBack.j2])
              | succ kj18 =>
                have H := HA.out
                clear HA
                simp only [dowellaw03_AluBack.j2] at H
                replace H := Option.bind_eq_some_iff.mp H
                obtain ⟨t120, A210, H⟩ := H
                replace H : (if t120 = true then (dowellaw03_AluBack.j3 kj18 a0 a1 t109 (wrap64 (x14_18 + 1))) else (dowellaw03_AluBack.j3 kj18 a0 a1 t109 x14_18)) = some r := H
                have A21 := Aside0.mk A210
                clear A210
                have HC22 := Aside0.mk H
                clear H
                go_upto_if 80 with (first | ((with_reducible refine gate_callee (f := 44) rfl ?_); refine goesL_ (some 80) rfl rfl Try.func44 (by kernel_rfl) rfl #[.int .i64 18, .int .i32 a1, .int .i32 a0] rfl (by (try simp only [List.map_toArray, List.map_cons, List.map_nil]); first | done | rfl | (simp only [List.length_drop, List.length_take]; rfl)) ?_; (with_reducible refine (alu_Meets.calls 18 a1 a0 t120 _ A21.out).mono ?_); rintro e w' ⟨rfl, ⟨nd, rfl⟩⟩; refine ⟨_, rfl, ?_⟩))
                (try simp only [Act.put, List.setIfInBounds_toArray, List.set_cons_zero, List.set_cons_succ])
                go_cut [14] (fun v14 wc => ∃ (kq : Nat) (x14_21 : Int), v14 = .int .i64 x14_21 ∧ Aside0 (dowellaw03_AluBack.j3 kq a0 a1 t109 x14_21 = some r) ∧ Aside0 (kq ≤ kj18) ∧ Drawn0 w wc)
                case first =>
                  have H := HC22.out
                  clear HC22
                  by_cases c23 : t120 = true
                  · subst c23
                    have H1 : (dowellaw03_AluBack.j3 kj18 a0 a1 t109 (wrap64 (x14_18 + 1))) = some r := by rw [if_pos rfl] at H; exact H
                    clear H
                    have H := H1
                    clear H1
                    have H' := Aside0.mk H
                    clear H
                    go_wp2
                    go_meet
                    case rel => exact ⟨_, (wrap64 (x14_18 + 1)), (by first | rfl | (simp; done) | (simp [*]; done)), H', ⟨by have := HJ7.out; have := HJ15.out; have := HJ18.out; first | omega | exact Nat.le_refl _⟩, by repeat (first | exact Drawn0.refl _ | apply Drawn0.step)⟩
                  · replace c23 := Bool.eq_false_iff.mpr c23
                    subst c23
                    have H1 : (dowellaw03_AluBack.j3 kj18 a0 a1 t109 x14_18) = some r := by rw [if_neg (show ¬ (false = true) by decide)] at H; exact H
                    clear H
                    have H := H1
                    clear H1
                    have H' := Aside0.mk H
                    clear H
                    go_wp2
                    go_meet
                    case rel => exact ⟨_, (x14_18), (by first | rfl | (simp; done) | (simp [*]; done)), H', ⟨by have := HJ7.out; have := HJ15.out; have := HJ18.out; first | omega | exact Nat.le_refl _⟩, by repeat (first | exact Drawn0.refl _ | apply Drawn0.step)⟩
                case rest =>
                  clear HC22
                  try clear c1
                  try clear c2
                  try clear p2
                  try clear c4
                  try clear p6
                  try clear c7
                  try clear c9
                  try clear c9b0
                  try clear c9b1
                  try clear c10
                  try clear c10b0
                  try clear c10b1
                  try clear c11
                  try clear c11b0
                  try clear c11b1
                  try clear c12
                  try clear c12b0
                  try clear c12b1
                  try clear c13
                  try clear c13b0
                  try clear c13b1
                  try clear c14
                  try clear c15
                  try clear c17
                  try clear c18
                  try clear c20
                  try clear c23
                  try clear p2
                  try clear p6
                  obtain ⟨kq, x14_21, rfl, HA, HJ21, ⟨mc21, rfl⟩⟩ := hcut
                  cases kq with
                  | zero => exact absurd HA.out (by simp [dowellaw03_AluBack.j3])
                  | succ kj21 =>
                    have H := HA.out
                    clear HA
                    simp only [dowellaw03_AluBack.j3] at H
                    have HC24 := Aside0.mk H
                    clear H
                    go_upto_region 15 with (fail)
                    go_cut [93] (fun v93 wc => ∃ (kq : Nat) (x93_23 : Bool), v93 = .bool x93_23 ∧ Aside0 (dowellaw03_AluBack.j4 kq a0 a1 t109 x93_23 = some r) ∧ Aside0 (kq ≤ kj21) ∧ Drawn0 w wc)
                    case first =>
                      have H := HC24.out
                      clear HC24
                      by_cases c25 : x14_21 = 1
                      · rw [if_pos c25] at H
                        have c25b0 : (x14_21 == 1) = true := beq_iff_eq.mpr c25
                        have c25b1 : (x14_21 != 1) = false := bne_eq_false_iff_eq.mpr c25
                        clear c25
                        (first | rw [c25b0] | (simp only [i64_w, i32_w]; rw [c25b0]) | skip)
                        replace H := Option.bind_eq_some_iff.mp H
                        obtain ⟨t121, A260, H⟩ := H
                        replace H : ((alu_Meets.f 17 a0 a1).bind fun t122 => (dowellaw03_AluBack.j4 kj21 a0 a1 t109 (t121 == t122))) = some r := H
                        have A26 := Aside0.mk A260
                        clear A260
                        replace H := Option.bind_eq_some_iff.mp H
                        obtain ⟨t122, A270, H⟩ := H
                        replace H : (dowellaw03_AluBack.j4 kj21 a0 a1 t109 (t121 == t122)) = some r := H
                        have A27 := Aside0.mk A270
                        clear A270
                        have H' := Aside0.mk H
                        clear H
                        go_wp2_with (first | (go_at_call 44; (with_reducible refine (alu_Meets.calls 16 a0 a1 t121 _ A26.out).mono ?_); rintro e w' ⟨rfl, ⟨nd, rfl⟩⟩) | (go_at_call 44; (with_reducible refine (alu_Meets.calls 17 a0 a1 t122 _ A27.out).mono ?_); rintro e w' ⟨rfl, ⟨nd, rfl⟩⟩))
                        go_meet
                        case rel => exact ⟨_, ((t121 == t122)), (by first | rfl | (simp; done) | (simp [*]; done)), H', ⟨by have := HJ7.out; have := HJ15.out; have := HJ18.out; have := HJ21.out; first | omega | exact Nat.le_refl _⟩, by repeat (first | exact Drawn0.refl _ | apply Drawn0.step)⟩
                      · rw [if_neg c25] at H
                        have c25b0 : (x14_21 == 1) = false := beq_eq_false_iff_ne.mpr c25
                        have c25b1 : (x14_21 != 1) = true := bne_iff_ne.mpr c25
                        (first | rw [c25b0] | (simp only [i64_w, i32_w]; rw [c25b0]) | skip)
                        have H' := Aside0.mk H
                        clear H
                        go_wp2
                        go_meet
                        case rel => exact ⟨_, (true), (by first | rfl | (simp; done) | (simp [*]; done)), H', ⟨by have := HJ7.out; have := HJ15.out; have := HJ18.out; have := HJ21.out; first | omega | exact Nat.le_refl _⟩, by repeat (first | exact Drawn0.refl _ | apply Drawn0.step)⟩
                    case rest =>
                      clear HC24
                      try clear c1
                      try clear c2
                      try clear p2
                      try clear c4
                      try clear p6
                      try clear c7
                      try clear c9
                      try clear c9b0
                      try clear c9b1
                      try clear c10
                      try clear c10b0
                      try clear c10b1
                      try clear c11
                      try clear c11b0
                      try clear c11b1
                      try clear c12
                      try clear c12b0
                      try clear c12b1
                      try clear c13
                      try clear c13b0
                      try clear c13b1
                      try clear c14
                      try clear c15
                      try clear c17
                      try clear c18
                      try clear c20
                      try clear c21
                      try clear c23
                      try clear c25
                      try clear c25b0
                      try clear c25b1
                      try clear p2
                      try clear p6
                      obtain ⟨kq, x93_23, rfl, HA, HJ23, ⟨mc23, rfl⟩⟩ := hcut
                      cases kq with
                      | zero => exact absurd HA.out (by simp [dowellaw03_AluBack.j4])
                      | succ kj23 =>
                        have H := HA.out
                        clear HA
                        simp only [dowellaw03_AluBack.j4] at H
                        by_cases c28 : x93_23 = true
                        · subst c28
                          have H1 : (some false) = some r := by rw [if_pos rfl] at H; exact H
                          clear H
                          have H := H1
                          clear H1
                          obtain rfl := Option.some.inj H
                          go_wp2
                          go_ret
                          exact ⟨by first | rfl | (simp; done) | (simp [*]; done), by repeat (first | exact Drawn0.refl _ | apply Drawn0.step)⟩
                        · replace c28 := Bool.eq_false_iff.mpr c28
                          subst c28
                          have H1 : (if a1 = 0 then (dowellaw03_AluBack.j5 kj23 a0 a1 t109 true) else (dowellaw03_AluBack.j5 kj23 a0 a1 t109 (a1 == (-1)))) = some r := by rw [if_neg (show ¬ (false = true) by decide)] at H; exact H
                          clear H
                          have H := H1
                          clear H1
                          have HC29 := Aside0.mk H
                          clear H
                          go_upto_region 17 with (fail)
                          go_cut [99] (fun v99 wc => ∃ (kq : Nat) (x99_28 : Bool), v99 = .bool x99_28 ∧ Aside0 (dowellaw03_AluBack.j5 kq a0 a1 t109 x99_28 = some r) ∧ Aside0 (kq ≤ kj23) ∧ Drawn0 w wc)
                          case first =>
                            have H := HC29.out
                            clear HC29
                            by_cases c30 : a1 = 0
                            · rw [if_pos c30] at H
                              have c30b0 : (a1 == 0) = true := beq_iff_eq.mpr c30
                              have c30b1 : (a1 != 0) = false := bne_eq_false_iff_eq.mpr c30
                              clear c30
                              (first | rw [c30b0] | (simp only [i64_w, i32_w]; rw [c30b0]) | skip)
                              have H' := Aside0.mk H
                              clear H
                              go_wp2
                              go_meet
                              case rel => exact ⟨_, (true), (by first | rfl | (simp; done) | (simp [*]; done)), H', ⟨by have := HJ7.out; have := HJ15.out; have := HJ18.out; have := HJ21.out; have := HJ23.out; first | omega | exact Nat.le_refl _⟩, by repeat (first | exact Drawn0.refl _ | apply Drawn0.step)⟩
                            · rw [if_neg c30] at H
                              have c30b0 : (a1 == 0) = false := beq_eq_false_iff_ne.mpr c30
                              have c30b1 : (a1 != 0) = true := bne_iff_ne.mpr c30
                              (first | rw [c30b0] | (simp only [i64_w, i32_w]; rw [c30b0]) | skip)
                              have H' := Aside0.mk H
                              clear H
                              go_wp2
                              go_meet
                              case rel => exact ⟨_, ((a1 == (-1))), (by first | rfl | (simp; done) | (simp [*]; done)), H', ⟨by have := HJ7.out; have := HJ15.out; have := HJ18.out; have := HJ21.out; have := HJ23.out; first | omega | exact Nat.le_refl _⟩, by repeat (first | exact Drawn0.refl _ | apply Drawn0.step)⟩
                          case rest =>
                            clear HC29
                            try clear c1
                            try clear c2
                            try clear p2
                            try clear c3
                            try clear c4
                            try clear p6
                            try clear c7
                            try clear c9
                            try clear c9b0
                            try clear c9b1
                            try clear c10
                            try clear c10b0
                            try clear c10b1
                            try clear c11
                            try clear c11b0
                            try clear c11b1
                            try clear c12
                            try clear c12b0
                            try clear c12b1
                            try clear c13
                            try clear c13b0
                            try clear c13b1
                            try clear c14
                            try clear c15
                            try clear c17
                            try clear c18
                            try clear c20
                            try clear c21
                            try clear c23
                            try clear c25
                            try clear c25b0
                            try clear c25b1
                            try clear c28
                            try clear c30
                            try clear c30b0
                            try clear c30b1
                            try clear p2
                            try clear p6
                            obtain ⟨kq, x99_28, rfl, HA, HJ28, ⟨mc28, rfl⟩⟩ := hcut
                            cases kq with
                            | zero => exact absurd HA.out (by simp [dowellaw03_AluBack.j5])
                            | succ kj28 =>
                              have H := HA.out
                              clear HA
                              simp only [dowellaw03_AluBack.j5] at H
                              by_cases c31 : x99_28 = true
                              · subst c31
                                have H1 : (some t109) = some r := by rw [if_pos rfl] at H; exact H
                                clear H
                                have H := H1
                                clear H1
                                obtain rfl := Option.some.inj H
                                go_wp2
                                go_ret
                                exact ⟨by first | rfl | (simp; done) | (simp [*]; done), by repeat (first | exact Drawn0.refl _ | apply Drawn0.step)⟩
                              · replace c31 := Bool.eq_false_iff.mpr c31
                                subst c31
                                have H1 : ((alu_Do.f 5 a0 a1).bind fun bt123 => (if (wrap64 ((wrap64 (a0)) - (wrap64 ((wrap64 (bt123.1)) * (wrap64 (a1)))))) < 0 then (if (wrap64 (a1)) < 0 then (if t109 = true then (if bt123.2 = 0 then (some (decide ((wrap64 (-(wrap64 ((wrap64 (a0)) - (wrap64 ((wrap64 (bt123.1)) * (wrap64 (a1)))))))) < (wrap64 (-(wrap64 (a1))))))) else (some false)) else (some false)) else (if t109 = true then (if bt123.2 = 0 then (some (decide ((wrap64 (-(wrap64 ((wrap64 (a0)) - (wrap64 ((wrap64 (bt123.1)) * (wrap64 (a1)))))))) < (wrap64 (a1))))) else (some false)) else (some false))) else (if (wrap64 (a1)) < 0 then (if t109 = true then (if bt123.2 = 0 then (some (decide ((wrap64 ((wrap64 (a0)) - (wrap64 ((wrap64 (bt123.1)) * (wrap64 (a1)))))) < (wrap64 (-(wrap64 (a1))))))) else (some false)) else (some false)) else (if t109 = true then (if bt123.2 = 0 then (some (decide ((wrap64 ((wrap64 (a0)) - (wrap64 ((wrap64 (bt123.1)) * (wrap64 (a1)))))) < (wrap64 (a1))))) else (some false)) else (some false))))) = some r := by rw [if_neg (show ¬ (false = true) by decide)] at H; exact H
                                clear H
                                have H := H1
                                clear H1
                                replace H := Option.bind_eq_some_iff.mp H
                                obtain ⟨⟨t123, t124⟩, A320, H⟩ := H
                                replace H : (if (wrap64 ((wrap64 (a0)) - (wrap64 ((wrap64 (t123)) * (wrap64 (a1)))))) < 0 then (if (wrap64 (a1)) < 0 then (if t109 = true then (if t124 = 0 then (some (decide ((wrap64 (-(wrap64 ((wrap64 (a0)) - (wrap64 ((wrap64 (t123)) * (wrap64 (a1)))))))) < (wrap64 (-(wrap64 (a1))))))) else (some false)) else (some false)) else (if t109 = true then (if t124 = 0 then (some (decide ((wrap64 (-(wrap64 ((wrap64 (a0)) - (wrap64 ((wrap64 (t123)) * (wrap64 (a1)))))))) < (wrap64 (a1))))) else (some false)) else (some false))) else (if (wrap64 (a1)) < 0 then (if t109 = true then (if t124 = 0 then (some (decide ((wrap64 ((wrap64 (a0)) - (wrap64 ((wrap64 (t123)) * (wrap64 (a1)))))) < (wrap64 (-(wrap64 (a1))))))) else (some false)) else (some false)) else (if t109 = true then (if t124 = 0 then (some (decide ((wrap64 ((wrap64 (a0)) - (wrap64 ((wrap64 (t123)) * (wrap64 (a1)))))) < (wrap64 (a1))))) else (some false)) else (some false)))) = some r := H
                                have A32 := Aside0.mk A320
                                clear A320
                                by_cases c33 : (wrap64 ((wrap64 (a0)) - (wrap64 ((wrap64 (t123)) * (wrap64 (a1)))))) < 0
                                · rw [if_pos c33] at H
                                  have c33b0 : decide ((wrap64 ((wrap64 (a0)) - (wrap64 ((wrap64 (t123)) * (wrap64 (a1)))))) < 0) = true := decide_eq_true c33
                                  clear c33
                                  by_cases c34 : (wrap64 (a1)) < 0
                                  · rw [if_pos c34] at H
                                    have c34b0 : decide ((wrap64 (a1)) < 0) = true := decide_eq_true c34
                                    clear c34
                                    by_cases c35 : t109 = true
                                    · subst c35
                                      have H1 : (if t124 = 0 then (some (decide ((wrap64 (-(wrap64 ((wrap64 (a0)) - (wrap64 ((wrap64 (t123)) * (wrap64 (a1)))))))) < (wrap64 (-(wrap64 (a1))))))) else (some false)) = some r := by rw [if_pos rfl] at H; exact H
                                      clear H
                                      have H := H1
                                      clear H1
                                      by_cases c36 : t124 = 0
                                      · rw [if_pos c36] at H
                                        have c36b0 : (t124 == 0) = true := beq_iff_eq.mpr c36
                                        have c36b1 : (t124 != 0) = false := bne_eq_false_iff_eq.mpr c36
                                        clear c36
                                        obtain rfl := Option.some.inj H
                                        go_wp2_with (first | ((with_reducible refine gate_callee (f := 43) rfl ?_); refine goesL_ (some 104) rfl rfl Try.func43 (by kernel_rfl) rfl #[.int .i64 5, .int .i32 a0, .int .i32 a1] rfl (by (try simp only [List.map_toArray, List.map_cons, List.map_nil]); first | done | rfl | (simp only [List.length_drop, List.length_take]; rfl)) ?_; (with_reducible refine (alu_Do.calls 5 a0 a1 t123 t124 _ A32.out).mono ?_); rintro e w' ⟨rfl, ⟨nd, rfl⟩⟩; refine ⟨_, rfl, ?_⟩))
                                        go_ret
                                        exact ⟨by first | rfl | (simp; done) | (simp [*]; done), by repeat (first | exact Drawn0.refl _ | apply Drawn0.step)⟩
                                      · rw [if_neg c36] at H
                                        have c36b0 : (t124 == 0) = false := beq_eq_false_iff_ne.mpr c36
                                        have c36b1 : (t124 != 0) = true := bne_iff_ne.mpr c36
                                        obtain rfl := Option.some.inj H
                                        go_wp2_with (first | ((with_reducible refine gate_callee (f := 43) rfl ?_); refine goesL_ (some 104) rfl rfl Try.func43 (by kernel_rfl) rfl #[.int .i64 5, .int .i32 a0, .int .i32 a1] rfl (by (try simp only [List.map_toArray, List.map_cons, List.map_nil]); first | done | rfl | (simp only [List.length_drop, List.length_take]; rfl)) ?_; (with_reducible refine (alu_Do.calls 5 a0 a1 t123 t124 _ A32.out).mono ?_); rintro e w' ⟨rfl, ⟨nd, rfl⟩⟩; refine ⟨_, rfl, ?_⟩))
                                        go_ret
                                        exact ⟨by first | rfl | (simp; done) | (simp [*]; done), by repeat (first | exact Drawn0.refl _ | apply Drawn0.step)⟩
                                    · replace c35 := Bool.eq_false_iff.mpr c35
                                      subst c35
                                      have H1 : (some false) = some r := by rw [if_neg (show ¬ (false = true) by decide)] at H; exact H
                                      clear H
                                      have H := H1
                                      clear H1
                                      obtain rfl := Option.some.inj H
                                      go_wp2_with (first | ((with_reducible refine gate_callee (f := 43) rfl ?_); refine goesL_ (some 104) rfl rfl Try.func43 (by kernel_rfl) rfl #[.int .i64 5, .int .i32 a0, .int .i32 a1] rfl (by (try simp only [List.map_toArray, List.map_cons, List.map_nil]); first | done | rfl | (simp only [List.length_drop, List.length_take]; rfl)) ?_; (with_reducible refine (alu_Do.calls 5 a0 a1 t123 t124 _ A32.out).mono ?_); rintro e w' ⟨rfl, ⟨nd, rfl⟩⟩; refine ⟨_, rfl, ?_⟩))
                                      go_ret
                                      exact ⟨by first | rfl | (simp; done) | (simp [*]; done), by repeat (first | exact Drawn0.refl _ | apply Drawn0.step)⟩
                                  · rw [if_neg c34] at H
                                    have c34b0 : decide ((wrap64 (a1)) < 0) = false := decide_eq_false c34
                                    clear c34
                                    by_cases c37 : t109 = true
                                    · subst c37
                                      have H1 : (if t124 = 0 then (some (decide ((wrap64 (-(wrap64 ((wrap64 (a0)) - (wrap64 ((wrap64 (t123)) * (wrap64 (a1)))))))) < (wrap64 (a1))))) else (some false)) = some r := by rw [if_pos rfl] at H; exact H
                                      clear H
                                      have H := H1
                                      clear H1
                                      by_cases c38 : t124 = 0
                                      · rw [if_pos c38] at H
                                        have c38b0 : (t124 == 0) = true := beq_iff_eq.mpr c38
                                        have c38b1 : (t124 != 0) = false := bne_eq_false_iff_eq.mpr c38
                                        clear c38
                                        obtain rfl := Option.some.inj H
                                        go_wp2_with (first | ((with_reducible refine gate_callee (f := 43) rfl ?_); refine goesL_ (some 104) rfl rfl Try.func43 (by kernel_rfl) rfl #[.int .i64 5, .int .i32 a0, .int .i32 a1] rfl (by (try simp only [List.map_toArray, List.map_cons, List.map_nil]); first | done | rfl | (simp only [List.length_drop, List.length_take]; rfl)) ?_; (with_reducible refine (alu_Do.calls 5 a0 a1 t123 t124 _ A32.out).mono ?_); rintro e w' ⟨rfl, ⟨nd, rfl⟩⟩; refine ⟨_, rfl, ?_⟩))
                                        go_ret
                                        exact ⟨by first | rfl | (simp; done) | (simp [*]; done), by repeat (first | exact Drawn0.refl _ | apply Drawn0.step)⟩
                                      · rw [if_neg c38] at H
                                        have c38b0 : (t124 == 0) = false := beq_eq_false_iff_ne.mpr c38
                                        have c38b1 : (t124 != 0) = true := bne_iff_ne.mpr c38
                                        obtain rfl := Option.some.inj H
                                        go_wp2_with (first | ((with_reducible refine gate_callee (f := 43) rfl ?_); refine goesL_ (some 104) rfl rfl Try.func43 (by kernel_rfl) rfl #[.int .i64 5, .int .i32 a0, .int .i32 a1] rfl (by (try simp only [List.map_toArray, List.map_cons, List.map_nil]); first | done | rfl | (simp only [List.length_drop, List.length_take]; rfl)) ?_; (with_reducible refine (alu_Do.calls 5 a0 a1 t123 t124 _ A32.out).mono ?_); rintro e w' ⟨rfl, ⟨nd, rfl⟩⟩; refine ⟨_, rfl, ?_⟩))
                                        go_ret
                                        exact ⟨by first | rfl | (simp; done) | (simp [*]; done), by repeat (first | exact Drawn0.refl _ | apply Drawn0.step)⟩
                                    · replace c37 := Bool.eq_false_iff.mpr c37
                                      subst c37
                                      have H1 : (some false) = some r := by rw [if_neg (show ¬ (false = true) by decide)] at H; exact H
                                      clear H
                                      have H := H1
                                      clear H1
                                      obtain rfl := Option.some.inj H
                                      go_wp2_with (first | ((with_reducible refine gate_callee (f := 43) rfl ?_); refine goesL_ (some 104) rfl rfl Try.func43 (by kernel_rfl) rfl #[.int .i64 5, .int .i32 a0, .int .i32 a1] rfl (by (try simp only [List.map_toArray, List.map_cons, List.map_nil]); first | done | rfl | (simp only [List.length_drop, List.length_take]; rfl)) ?_; (with_reducible refine (alu_Do.calls 5 a0 a1 t123 t124 _ A32.out).mono ?_); rintro e w' ⟨rfl, ⟨nd, rfl⟩⟩; refine ⟨_, rfl, ?_⟩))
                                      go_ret
                                      exact ⟨by first | rfl | (simp; done) | (simp [*]; done), by repeat (first | exact Drawn0.refl _ | apply Drawn0.step)⟩
                                · rw [if_neg c33] at H
                                  have c33b0 : decide ((wrap64 ((wrap64 (a0)) - (wrap64 ((wrap64 (t123)) * (wrap64 (a1)))))) < 0) = false := decide_eq_false c33
                                  clear c33
                                  by_cases c39 : (wrap64 (a1)) < 0
                                  · rw [if_pos c39] at H
                                    have c39b0 : decide ((wrap64 (a1)) < 0) = true := decide_eq_true c39
                                    clear c39
                                    by_cases c40 : t109 = true
                                    · subst c40
                                      have H1 : (if t124 = 0 then (some (decide ((wrap64 ((wrap64 (a0)) - (wrap64 ((wrap64 (t123)) * (wrap64 (a1)))))) < (wrap64 (-(wrap64 (a1))))))) else (some false)) = some r := by rw [if_pos rfl] at H; exact H
                                      clear H
                                      have H := H1
                                      clear H1
                                      by_cases c41 : t124 = 0
                                      · rw [if_pos c41] at H
                                        have c41b0 : (t124 == 0) = true := beq_iff_eq.mpr c41
                                        have c41b1 : (t124 != 0) = false := bne_eq_false_iff_eq.mpr c41
                                        clear c41
                                        obtain rfl := Option.some.inj H
                                        go_wp2_with (first | ((with_reducible refine gate_callee (f := 43) rfl ?_); refine goesL_ (some 104) rfl rfl Try.func43 (by kernel_rfl) rfl #[.int .i64 5, .int .i32 a0, .int .i32 a1] rfl (by (try simp only [List.map_toArray, List.map_cons, List.map_nil]); first | done | rfl | (simp only [List.length_drop, List.length_take]; rfl)) ?_; (with_reducible refine (alu_Do.calls 5 a0 a1 t123 t124 _ A32.out).mono ?_); rintro e w' ⟨rfl, ⟨nd, rfl⟩⟩; refine ⟨_, rfl, ?_⟩))
                                        go_ret
                                        exact ⟨by first | rfl | (simp; done) | (simp [*]; done), by repeat (first | exact Drawn0.refl _ | apply Drawn0.step)⟩
                                      · rw [if_neg c41] at H
                                        have c41b0 : (t124 == 0) = false := beq_eq_false_iff_ne.mpr c41
                                        have c41b1 : (t124 != 0) = true := bne_iff_ne.mpr c41
                                        obtain rfl := Option.some.inj H
                                        go_wp2_with (first | ((with_reducible refine gate_callee (f := 43) rfl ?_); refine goesL_ (some 104) rfl rfl Try.func43 (by kernel_rfl) rfl #[.int .i64 5, .int .i32 a0, .int .i32 a1] rfl (by (try simp only [List.map_toArray, List.map_cons, List.map_nil]); first | done | rfl | (simp only [List.length_drop, List.length_take]; rfl)) ?_; (with_reducible refine (alu_Do.calls 5 a0 a1 t123 t124 _ A32.out).mono ?_); rintro e w' ⟨rfl, ⟨nd, rfl⟩⟩; refine ⟨_, rfl, ?_⟩))
                                        go_ret
                                        exact ⟨by first | rfl | (simp; done) | (simp [*]; done), by repeat (first | exact Drawn0.refl _ | apply Drawn0.step)⟩
                                    · replace c40 := Bool.eq_false_iff.mpr c40
                                      subst c40
                                      have H1 : (some false) = some r := by rw [if_neg (show ¬ (false = true) by decide)] at H; exact H
                                      clear H
                                      have H := H1
                                      clear H1
                                      obtain rfl := Option.some.inj H
                                      go_wp2_with (first | ((with_reducible refine gate_callee (f := 43) rfl ?_); refine goesL_ (some 104) rfl rfl Try.func43 (by kernel_rfl) rfl #[.int .i64 5, .int .i32 a0, .int .i32 a1] rfl (by (try simp only [List.map_toArray, List.map_cons, List.map_nil]); first | done | rfl | (simp only [List.length_drop, List.length_take]; rfl)) ?_; (with_reducible refine (alu_Do.calls 5 a0 a1 t123 t124 _ A32.out).mono ?_); rintro e w' ⟨rfl, ⟨nd, rfl⟩⟩; refine ⟨_, rfl, ?_⟩))
                                      go_ret
                                      exact ⟨by first | rfl | (simp; done) | (simp [*]; done), by repeat (first | exact Drawn0.refl _ | apply Drawn0.step)⟩
                                  · rw [if_neg c39] at H
                                    have c39b0 : decide ((wrap64 (a1)) < 0) = false := decide_eq_false c39
                                    clear c39
                                    by_cases c42 : t109 = true
                                    · subst c42
                                      have H1 : (if t124 = 0 then (some (decide ((wrap64 ((wrap64 (a0)) - (wrap64 ((wrap64 (t123)) * (wrap64 (a1)))))) < (wrap64 (a1))))) else (some false)) = some r := by rw [if_pos rfl] at H; exact H
                                      clear H
                                      have H := H1
                                      clear H1
                                      by_cases c43 : t124 = 0
                                      · rw [if_pos c43] at H
                                        have c43b0 : (t124 == 0) = true := beq_iff_eq.mpr c43
                                        have c43b1 : (t124 != 0) = false := bne_eq_false_iff_eq.mpr c43
                                        clear c43
                                        obtain rfl := Option.some.inj H
                                        go_wp2_with (first | ((with_reducible refine gate_callee (f := 43) rfl ?_); refine goesL_ (some 104) rfl rfl Try.func43 (by kernel_rfl) rfl #[.int .i64 5, .int .i32 a0, .int .i32 a1] rfl (by (try simp only [List.map_toArray, List.map_cons, List.map_nil]); first | done | rfl | (simp only [List.length_drop, List.length_take]; rfl)) ?_; (with_reducible refine (alu_Do.calls 5 a0 a1 t123 t124 _ A32.out).mono ?_); rintro e w' ⟨rfl, ⟨nd, rfl⟩⟩; refine ⟨_, rfl, ?_⟩))
                                        go_ret
                                        exact ⟨by first | rfl | (simp; done) | (simp [*]; done), by repeat (first | exact Drawn0.refl _ | apply Drawn0.step)⟩
                                      · rw [if_neg c43] at H
                                        have c43b0 : (t124 == 0) = false := beq_eq_false_iff_ne.mpr c43
                                        have c43b1 : (t124 != 0) = true := bne_iff_ne.mpr c43
                                        obtain rfl := Option.some.inj H
                                        go_wp2_with (first | ((with_reducible refine gate_callee (f := 43) rfl ?_); refine goesL_ (some 104) rfl rfl Try.func43 (by kernel_rfl) rfl #[.int .i64 5, .int .i32 a0, .int .i32 a1] rfl (by (try simp only [List.map_toArray, List.map_cons, List.map_nil]); first | done | rfl | (simp only [List.length_drop, List.length_take]; rfl)) ?_; (with_reducible refine (alu_Do.calls 5 a0 a1 t123 t124 _ A32.out).mono ?_); rintro e w' ⟨rfl, ⟨nd, rfl⟩⟩; refine ⟨_, rfl, ?_⟩))
                                        go_ret
                                        exact ⟨by first | rfl | (simp; done) | (simp [*]; done), by repeat (first | exact Drawn0.refl _ | apply Drawn0.step)⟩
                                    · replace c42 := Bool.eq_false_iff.mpr c42
                                      subst c42
                                      have H1 : (some false) = some r := by rw [if_neg (show ¬ (false = true) by decide)] at H; exact H
                                      clear H
                                      have H := H1
                                      clear H1
                                      obtain rfl := Option.some.inj H
                                      go_wp2_with (first | ((with_reducible refine gate_callee (f := 43) rfl ?_); refine goesL_ (some 104) rfl rfl Try.func43 (by kernel_rfl) rfl #[.int .i64 5, .int .i32 a0, .int .i32 a1] rfl (by (try simp only [List.map_toArray, List.map_cons, List.map_nil]); first | done | rfl | (simp only [List.length_drop, List.length_take]; rfl)) ?_; (with_reducible refine (alu_Do.calls 5 a0 a1 t123 t124 _ A32.out).mono ?_); rintro e w' ⟨rfl, ⟨nd, rfl⟩⟩; refine ⟨_, rfl, ?_⟩))
                                      go_ret
                                      exact ⟨by first | rfl | (simp; done) | (simp [*]; done), by repeat (first | exact Drawn0.refl _ | apply Drawn0.step)⟩

/-- THE ONE PURE STATEMENT of dowellaw03_AluBack: yours. -/
def dowellaw03_AluBack.Pure : Prop := ∀ (a0 : Int) (a1 : Int), (Lit.int .i32 a0).wf = true → (Lit.int .i32 a1).wf = true → ∃ k, dowellaw03_AluBack.f k a0 a1 = some true
theorem dowellaw03_AluBack.walk (P : dowellaw03_AluBack.Pure) (a0 : Int) (a1 : Int) (w : World) (w0 : (Lit.int .i32 a0).wf = true) (w1 : (Lit.int .i32 a1).wf = true) :
    Calls Try.prog 10 #[.int .i32 a0, .int .i32 a1] w fun e w' => e = .returned (.bool true) ∧ Below w.heap.size w w' := by
  obtain ⟨k, h⟩ := P a0 a1 w0 w1
  refine (dowellaw03_AluBack.calls k a0 a1 true w h).mono ?_
  rintro e w' ⟨rfl, hd⟩
  exact ⟨rfl, hd.below⟩

end Go.Proofs.Ytfoecgcjipckmaa.PAluBack
