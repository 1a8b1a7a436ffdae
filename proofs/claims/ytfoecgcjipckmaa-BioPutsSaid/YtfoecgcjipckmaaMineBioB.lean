/- BioPuts, the walk where the number of bytes is above 4: the statement returns true. No condition but the number's range. -/
import Derived.Test.YtfoecgcjipckmaaMineBioBase
namespace Go.Proofs.Ytfoecgcjipckmaa.MinePut
open Go.RowKit Go.Proofs.YtfoecgcjipckmaaW.PrintWords Go.Proofs.YtfoecgcjipckmaaW.PrintLast Go.Proofs.YtfoecgcjipckmaaW.PrintMore Go.Proofs.Ytfoecgcjipckmaa.MineBase
attribute [local go_sem] max2_int min2_int max_two min_two max_three min_three max_four min_four   -- for this text's walks alone
set_option linter.unusedVariables false
set_option linter.unusedSimpArgs false
set_option maxHeartbeats 60000000 in
set_option maxRecDepth 100000 in
theorem BioPuts_far (A0 : Option Addr) (c0 : Nat) (l : List Int) (x m : Int) (s : ByteArray) (w : World) (hr0 : Kd.C (Kd.int .u8) w A0 l.length l) (hc0 : l.length ≤ c0) (hx : 0 ≤ x ∧ x < 4294967296) (hm0 : ¬ m < 0) (hm1 : 4 < m) :
    Calls Try.prog 9 #[.slice A0 l.length c0, .int .u32 x, .int .i64 m, .string s] w fun e w' => e = .returned (.bool true) ∧ Below w.heap.size w w' := by
  have HR0 := Aside0.mk (And.intro hr0 hc0)
  have HX := Aside0.mk hx
  clear hr0 hc0 hx
  go_enter Try.func9, Try.ntmps9
  go_wp2_with fail
  refine (MineBio.up_calls w).mono ?_
  rintro e1 w1 ⟨rfl, hb1⟩
  have HB1 := Aside0.mk hb1
  clear hb1
  by_cases d1 : (500 : Int) < (l.length : Int)
  · have d1b : decide ((500 : Int) < (l.length : Int)) = true := decide_eq_true d1
    clear d1
    go_wp2
    go_ret
    exact ⟨by rfl, HB1.out⟩
  · have d1b : decide ((500 : Int) < (l.length : Int)) = false := decide_eq_false d1
    by_cases d2 : (1000 : Int) < (s.size : Int)
    · have d2b : decide ((1000 : Int) < (s.size : Int)) = true := decide_eq_true d2
      clear d1 d2
      go_wp2
      go_ret
      exact ⟨by rfl, HB1.out⟩
    · have d2b : decide ((1000 : Int) < (s.size : Int)) = false := decide_eq_false d2
      have HL := Aside0.mk (show l.length ≤ 500 ∧ s.size ≤ 1000 by omega)
      have HC1 := Aside0.mk (Kd.C_below HR0.out.1 HB1.out)
      clear d1 d2
      have m0 : decide (m < 0) = false := decide_eq_false (by omega)
      have m1 : decide (4 < m) = true := decide_eq_true (by omega)
      have Hm := Aside0.mk (show m < 0 ∨ 4 < m from .inr (by omega))
      clear hm0 hm1
      as_aux_lemma =>
        go_wp2_with (at_builtin; refine copy_list rfl (.tmp 23) (.tmp 24) rfl w1 A0 c0 l rfl rfl HC1.out (by have := HL.out; omega) ?_; intro v2 w2 ho2 hb2; have HO2 := Aside0.mk ho2; have HB2 := Aside0.mk hb2; clear ho2 hb2)
        have hc2 := Kd.C_string Try.underlying30 Try.underlying5 Try.underlying9 (c := c0) (Kd.C_below HC1.out (below_drew1 HB2.out))
        go_region_law (go_simp; go_at_call 38; refine (Put_off v2 l x m w1 _ (below_drew1 HB2.out) (show Own w1 w2.drew v2 l from HO2.out) Hm.out).mono ?_; rintro e3 w3 ⟨v3, rfl, hR3, hB3⟩; have HB3 := Aside0.mk (below_step HB1.out hB3); obtain ⟨A3, n3, c3, rfl, hs3⟩ := own_cut hR3; have hs3' := hs3 w3 (Below.refl _ _); have hc3 := Kd.C_string Try.underlying30 Try.underlying5 Try.underlying9 (c := c0) (Kd.C_below HC1.out hB3); clear hR3 hB3 hs3)
        all_goals (go_wp2; go_ret; exact ⟨by first | rfl | (simp; done), HB3.out⟩)
end Go.Proofs.Ytfoecgcjipckmaa.MinePut
