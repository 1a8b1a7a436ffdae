/- AluBack: for any two 32-bit numbers the law returns true. No condition. -/
import Derived.Test.YtfoecgcjipckmaaPAluBackx2
namespace Go.Proofs.Ytfoecgcjipckmaa.Pure
open Go.RowKit Go.Proofs.Ytfoecgcjipckmaa.PAluBack Go.Proofs.YtfoecgcjipckmaaW.PrintWords Go.Proofs.YtfoecgcjipckmaaW.PrintLast

theorem i32_range {x : Int} (h : (Lit.int .i32 x).wf = true) : -2147483648 ≤ x ∧ x ≤ 2147483647 := by
  simp [Lit.wf, IntKind.min, IntKind.max, IntKind.signed, IntKind.bits] at h; omega
theorem xor_i32 (x y : Int) : Go.bits .xor .i32 x y = (BitVec.ofInt 32 x ^^^ BitVec.ofInt 32 y).toInt := by
  show IntKind.i32.wrap ((BitVec.ofInt 32 x ^^^ BitVec.ofInt 32 y).toNat : Int) = _
  rw [IntKind.wrap_i32, BitVec.toInt_eq_toNat_cond]
  have := (BitVec.ofInt 32 x ^^^ BitVec.ofInt 32 y).isLt
  split <;> omega
theorem xor_back (x y : Int) (hx : -2147483648 ≤ x ∧ x ≤ 2147483647) : Go.bits .xor .i32 (Go.bits .xor .i32 x y) y = x := by
  rw [xor_i32, xor_i32, BitVec.ofInt_toInt, BitVec.xor_assoc, BitVec.xor_self, BitVec.xor_zero, BitVec.toInt_ofInt]
  rw [Int.bmod_def]; split <;> omega
theorem up_eq : dowellaw03_up.f = some true := by decide +kernel
theorem rest_lt (x y : Int) (hy : y ≠ 0) : (x - x.tdiv y * y).natAbs < y.natAbs := by
  have h := Int.mul_tdiv_add_tmod x y
  have e : x - x.tdiv y * y = x.tmod y := by rw [Int.mul_comm]; omega
  rw [e, Int.natAbs_tmod]; exact Nat.mod_lt _ (by omega)
theorem tdiv_range (x y : Int) (hx : -2147483648 ≤ x ∧ x ≤ 2147483647) (h1 : y ≠ -1) : -2147483648 ≤ x.tdiv y ∧ x.tdiv y ≤ 2147483647 := by
  have h : (x.tdiv y).natAbs = x.natAbs / y.natAbs := Int.natAbs_tdiv x y
  have hd : x.natAbs / y.natAbs ≤ x.natAbs := Nat.div_le_self _ _
  by_cases hm : x = -2147483648
  · subst hm
    by_cases h0 : y = 0
    · subst h0; decide
    · by_cases h2 : y = 1
      · subst h2; decide
      · have : (-2147483648 : Int).natAbs / y.natAbs ≤ 2147483648 / 2 := Nat.div_le_div_left (by omega) (by omega)
        omega
  · omega
theorem prod_range (x y : Int) (hx : -2147483648 ≤ x ∧ x ≤ 2147483647) : (x.tdiv y * y).natAbs ≤ 2147483648 := by
  rw [Int.natAbs_mul, Int.natAbs_tdiv]
  exact Nat.le_trans (Nat.div_mul_le_self _ _) (by omega)
theorem AluBack : dowellaw03_AluBack.Pure := by
  intro x y hx hy
  have hx := i32_range hx
  have hy := i32_range hy
  refine ⟨10, ?_⟩
  unfold dowellaw03_AluBack.f
  rw [up_eq]
  have hadd : wrap32 (wrap32 (x + y) - y) = x := by unfold wrap32; omega
  simp only [alu_Do.f, Option.bind_some]
  simp only [show ¬ ((3 : Int) = 2) by decide, show ¬ ((8 : Int) = 2) by decide, show ¬ ((8 : Int) = 3) by decide, show ¬ ((8 : Int) = 4) by decide, show ¬ ((8 : Int) = 5) by decide, show ¬ ((8 : Int) = 6) by decide, show ¬ ((8 : Int) = 7) by decide, if_true, if_false, Option.bind_some]
  rw [hadd, xor_back x y hx]
  simp only [bne_self_eq_false, if_true]
  simp only [dowellaw03_AluBack.j0, Bool.false_eq_true, if_false]
  have m18 (a b : Int) : alu_Meets.f 18 a b = some (decide (a < b)) := rfl
  have m16 (a b : Int) : alu_Meets.f 16 a b = some (a == b) := rfl
  have m17 (a b : Int) : alu_Meets.f 17 a b = some (a != b) := rfl
  rw [m18, Option.bind_some]
  have key : dowellaw03_AluBack.j3 6 x y true 1 = some true := by
    simp only [dowellaw03_AluBack.j3, if_true]
    rw [m16, m17]
    simp only [Option.bind_some]
    have e : ((x == y) == (x != y)) = false := by cases h : (x == y) <;> simp [bne, h]
    rw [e]
    simp only [dowellaw03_AluBack.j4, Bool.false_eq_true, if_false]
    by_cases h0 : y = 0
    · rw [if_pos h0]; simp only [dowellaw03_AluBack.j5, if_true]
    · rw [if_neg h0]
      by_cases h1 : y = -1
      · rw [show (y == -1) = true by simpa using h1]; simp only [dowellaw03_AluBack.j5, if_true]
      · rw [show (y == -1) = false by simpa using h1]
        simp only [dowellaw03_AluBack.j5, Bool.false_eq_true, if_false]
        have hd := tdiv_range x y hx h1
        have hp := prod_range x y hx
        have hr := rest_lt x y h0
        have ed : alu_Do.f 5 x y = some (x.tdiv y, 0) := by
          unfold alu_Do.f
          simp only [show ¬ ((5 : Int) = 2) by decide, show ¬ ((5 : Int) = 3) by decide, show ¬ ((5 : Int) = 4) by decide, if_true, if_false, if_neg h0]
          congr 2; unfold wrap32; omega
        rw [ed]
        simp only [Option.bind_some, if_true]
        generalize hq : x.tdiv y * y = p at hp hr
        have w1 : wrap64 x = x := by unfold wrap64; omega
        have w2 : wrap64 y = y := by unfold wrap64; omega
        have w3 : wrap64 (x.tdiv y) = x.tdiv y := by unfold wrap64; omega
        rw [w1, w2, w3, hq]
        have w4 : wrap64 p = p := by unfold wrap64; omega
        rw [w4]
        have w5 : wrap64 (x - p) = x - p := by unfold wrap64; omega
        rw [w5]
        have w6 : wrap64 (-(x - p)) = -(x - p) := by unfold wrap64; omega
        have w7 : wrap64 (-y) = -y := by unfold wrap64; omega
        rw [w6, w7]
        repeat' split
        all_goals (congr 1; rw [decide_eq_true_iff]; omega)
  by_cases hlt : x < y
  · rw [decide_eq_true hlt]
    simp only [if_true, dowellaw03_AluBack.j1]
    rw [m16, show (x == y) = false by simp; omega]
    simp only [Option.bind_some, Bool.false_eq_true, if_false, dowellaw03_AluBack.j2]
    rw [m18, decide_eq_false (by omega)]
    simp only [Option.bind_some, Bool.false_eq_true, if_false]
    exact key
  · rw [decide_eq_false hlt]
    simp only [Bool.false_eq_true, if_false, dowellaw03_AluBack.j1]
    rw [m16]
    by_cases he : x = y
    · rw [show (x == y) = true by simpa using he]
      simp only [Option.bind_some, if_true, dowellaw03_AluBack.j2]
      rw [m18, decide_eq_false (by omega)]
      simp only [Option.bind_some, Bool.false_eq_true, if_false]
      rw [show wrap64 (0 + 1) = 1 by unfold wrap64; omega]; exact key
    · rw [show (x == y) = false by simpa using he]
      simp only [Option.bind_some, Bool.false_eq_true, if_false, dowellaw03_AluBack.j2]
      rw [m18, decide_eq_true (by omega)]
      simp only [Option.bind_some, if_true]
      rw [show wrap64 (0 + 1) = 1 by unfold wrap64; omega]; exact key

end Go.Proofs.Ytfoecgcjipckmaa.Pure
