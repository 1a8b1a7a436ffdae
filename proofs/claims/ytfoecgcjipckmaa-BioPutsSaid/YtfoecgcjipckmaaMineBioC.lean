/- BioPuts, the walk where the number of bytes is from 0 to 4: the statement returns true. No condition but the number's range. -/
import Derived.Test.YtfoecgcjipckmaaMineBioBase
namespace Go.Proofs.Ytfoecgcjipckmaa.MinePut
open Go.RowKit Go.Proofs.YtfoecgcjipckmaaW.PrintWords Go.Proofs.YtfoecgcjipckmaaW.PrintLast Go.Proofs.YtfoecgcjipckmaaW.PrintMore Go.Proofs.Ytfoecgcjipckmaa.MineBase
attribute [local go_sem] max2_int min2_int max_two min_two max_three min_three max_four min_four   -- for this text's walks alone
set_option linter.unusedVariables false
set_option linter.unusedSimpArgs false
set_option maxHeartbeats 60000000 in
set_option maxRecDepth 100000 in
theorem BioPuts_in (A0 : Option Addr) (c0 : Nat) (l : List Int) (x m : Int) (s : ByteArray) (w : World) (hr0 : Kd.C (Kd.int .u8) w A0 l.length l) (hc0 : l.length ≤ c0) (hx : 0 ≤ x ∧ x < 4294967296) (hm0 : ¬ m < 0) (hm1 : ¬ 4 < m) :
    Calls Try.prog 9 #[.slice A0 l.length c0, .int .u32 x, .int .i64 m, .string s] w fun e w' => e = .returned (.bool true) ∧ Below w.heap.size w w' := by
  have HR0 := Aside0.mk (And.intro hr0 hc0)
  have HX := Aside0.mk hx
  clear hr0 hc0 hx
  go_enter Try.func9, Try.ntmps9
  go_wp2_with fail
  refine (MineBio.up_calls w).mono ?_
  rintro e1 w1 ⟨rfl, hb1⟩
  have HB1 := Aside0.mk hb1
  clear hb1
  by_cases d1 : (500 : Int) < (l.length : Int)
  · have d1b : decide ((500 : Int) < (l.length : Int)) = true := decide_eq_true d1
    clear d1
    go_wp2
    go_ret
    exact ⟨by rfl, HB1.out⟩
  · have d1b : decide ((500 : Int) < (l.length : Int)) = false := decide_eq_false d1
    by_cases d2 : (1000 : Int) < (s.size : Int)
    · have d2b : decide ((1000 : Int) < (s.size : Int)) = true := decide_eq_true d2
      clear d1 d2
      go_wp2
      go_ret
      exact ⟨by rfl, HB1.out⟩
    · have d2b : decide ((1000 : Int) < (s.size : Int)) = false := decide_eq_false d2
      have HL := Aside0.mk (show l.length ≤ 500 ∧ s.size ≤ 1000 by omega)
      have HC1 := Aside0.mk (Kd.C_below HR0.out.1 HB1.out)
      clear d1 d2
      have m0 : decide (m < 0) = false := decide_eq_false (by omega)
      have m1 : decide (4 < m) = false := decide_eq_false (by omega)
      obtain ⟨n, rfl⟩ : ∃ n : Nat, m = (n : Int) := ⟨m.toNat, by omega⟩
      have Hm := Aside0.mk (show n ≤ 4 by omega)
      clear hm0 hm1
      as_aux_lemma =>
        go_wp2_with (first
          | (at_builtin; refine copy_list rfl (.tmp 23) (.tmp 24) rfl w1 A0 c0 l rfl rfl HC1.out (by have := HL.out; omega) ?_; intro v2 w2 ho2 hb2; have HB2 := Aside0.mk (below_step HB1.out hb2); have HC2 := Aside0.mk (Kd.C_below HC1.out hb2); clear ho2 hb2)
          | (at_builtin; refine copy_list rfl (.tmp 43) (.tmp 44) rfl w2 A0 c0 l rfl rfl HC2.out (by have := HL.out; omega) ?_; intro v3 w3 ho3 hb3; have HO3 := Aside0.mk ho3; have HB3 := Aside0.mk hb3; clear ho3 hb3)
          | (go_at_call 38; refine (Put_calls v3 l x n w2 w3 HB3.out HO3.out Hm.out (by have := HL.out; omega)).mono ?_; rintro e4 w4 ⟨v4, rfl, hR4, hB4⟩; obtain ⟨A4, n4, c4, rfl, hs4⟩ := own_cut hR4; have HS4 := Aside0.mk hs4; have HC4 := Aside0.mk (Kd.C_below HC2.out hB4); have HB4 := Aside0.mk (below_step HB2.out hB4); clear hR4 hB4 hs4)
          | (at_builtin; refine copy_list rfl (.tmp 49) (.tmp 50) rfl w4 A0 c0 l rfl rfl HC4.out (by have := HL.out; omega) ?_; intro v5 w5 ho5 hb5; have HO5 := Aside0.mk ho5; have HB5 := Aside0.mk hb5; clear ho5 hb5)
          | (go_at_call 39; refine (PutText_any v5 l s w4 w5 HB5.out HO5.out (by have := HL.out; omega) HL.out.2).mono ?_; rintro e6 w6 ⟨v6, rfl, hR6, hB6⟩; obtain ⟨A6, n6, c6, rfl, hs6⟩ := own_cut hR6; have HS6 := Aside0.mk hs6; have HB46 := Aside0.mk (below_drew1 hB6); have HB6 := Aside0.mk (below_drew1 (below_step HB4.out hB6)); have HC6 := Aside0.mk (Kd.C_below HC4.out (below_drew1 hB6)); clear hR6 hB6 hs6))
        have hdr : Below w6.heap.size w6 w6.drew := below_drew1 (Below.refl _ _)
        have HD := Aside0.mk hdr
        have ca0 := HS4.out w6.drew HB46.out
        have ca1 : (convert 30 9 (.slice A4 n4 c4)).run Try.prog (w6.alloc (.cells #[] 5)).drew = .ok (.string (strOfNums (l ++ le x n))) (w6.alloc (.cells #[] 5)).drew := HS4.out (w6.drew.alloc (.cells #[] 5)) (below_alloc HB46.out _)
        have HX2 := HX
        clear hdr
        go_region_law (first
          | (refine copy_step (by rfl) (.tmp 58) (.tmp 59) rfl w6.drew A0 c0 l (by simp [Act.eval, Act.put]) (by simp [Act.eval, Act.put]) HC6.out (by have := HL.out; omega) ?_; intro v7 w7 ho7 hb7; have HO7 := Aside0.mk ho7; have HB7 := Aside0.mk hb7; have ca2 := HS4.out w7 (below_step HB46.out hb7); clear ho7 hb7)
          | (refine copy_step (by rfl) (.tmp 70) (.tmp 71) rfl w8 A0 c0 l (by simp [Act.eval, Act.put]) (by simp [Act.eval, Act.put]) HC8.out (by have := HL.out; omega) ?_; intro v9 w9 ho9 hb9; have HO9 := Aside0.mk ho9; have HB9 := Aside0.mk hb9; have cb2 := HS6.out w9 (below_step HB68.out hb9); clear ho9 hb9)
          | (go_simp; go_at_call 40; refine (ref_Put v7 l x n w6.drew w7 HB7.out HO7.out Hm.out HX.out.1 HX.out.2 (by have := HL.out; omega)).mono ?_; rintro e8 w8 ⟨v8, rfl, hR8, hB8⟩; obtain ⟨A8, n8, c8, rfl, hs8⟩ := own_cut hR8; have r8 := hs8 w8 (Below.refl _ _); have HB8 := Aside0.mk (below_step HB6.out hB8); have HB68 := Aside0.mk (below_step HD.out hB8); have ca3 := HS4.out w8 (below_step HB46.out hB8); have cb0 := HS6.out w8 HB68.out; have cb1 := HS6.out (w8.alloc (.cells #[] 5)) (below_alloc HB68.out _); have HC8 := Aside0.mk (Kd.C_below HC6.out hB8); clear hR8 hB8 hs8)
          | (go_simp; go_at_call 41; refine (ref_PutText_any v9 l s w8 w9 HB9.out HO9.out (by have := HL.out; omega) HL.out.2).mono ?_; rintro e10 w10 ⟨v10, rfl, hR10, hB10⟩; obtain ⟨A10, n10, c10, rfl, hs10⟩ := own_cut hR10; have r10 := hs10 w10 (Below.refl _ _); have HB10 := Aside0.mk (below_step HB8.out hB10); have cb3 := HS6.out w10 (below_step HB68.out hB10); clear hR10 hB10 hs10))
        all_goals (go_wp2; go_ret; exact ⟨by first | rfl | (simp; done), HB10.out⟩)
end Go.Proofs.Ytfoecgcjipckmaa.MinePut
