/- Ins, the plain side: what May, Put, Get and the reference's tell, as numbers; what was put is got, and what was got is put. No condition but the numbers' ranges. -/
import Derived.Test.YtfoecgcjipckmaaPInsTellsx1
import Derived.Test.YtfoecgcjipckmaaPureFieldBits
namespace Go.Proofs.Ytfoecgcjipckmaa.PureIns
set_option linter.unusedVariables false
open Go.RowKit Go.Proofs.Ytfoecgcjipckmaa.PInsTells Go.Proofs.Ytfoecgcjipckmaa.Pure Go.Proofs.YtfoecgcjipckmaaW.PrintWords Go.Proofs.YtfoecgcjipckmaaW.PrintLast Go.Proofs.YtfoecgcjipckmaaW.PrintMore
/-- An instruction may be. -/
def MayP (o a b n : Int) : Prop := 1 ≤ o ∧ o ≤ 21 ∧ 0 ≤ a ∧ a ≤ 15 ∧ 0 ≤ b ∧ b ≤ 15 ∧ -131072 ≤ n ∧ n ≤ 131071 ∧ (o < 2 ∨ 10 < o ∨ 0 ≤ n ∧ n ≤ 15)
def mayB (o a b n : Int) : Bool := decide (1 ≤ o ∧ o ≤ 21 ∧ 0 ≤ a ∧ a ≤ 15 ∧ 0 ≤ b ∧ b ≤ 15 ∧ -131072 ≤ n ∧ n ≤ 131071 ∧ (o < 2 ∨ 10 < o ∨ 0 ≤ n ∧ n ≤ 15))
/-- Its word. -/
def wordI (o a b n : Int) : Int := o * 67108864 + a * 4194304 + b * 262144 + n % 262144
/-- A number of 18 bits, with its sign. -/
def sg (m : Int) : Int := if m ≥ 131072 then m - 262144 else m
theorem in_val (x : Int) : ins_in.f x = some (decide (0 ≤ x ∧ x ≤ 15)) := by
  unfold ins_in.f
  by_cases h : x ≥ 0
  · rw [if_pos h]; exact congrArg some (decide_eq_decide.2 (by omega))
  · rw [if_neg h]; exact congrArg some (decide_eq_false (by omega)).symm
theorem may_val (o a b n : Int) : ins_May.f o a b n = some (mayB o a b n) := by
  unfold ins_May.f mayB
  rw [in_val, in_val, in_val]
  simp only [Option.bind_some, decide_eq_true_eq]
  repeat' split
  all_goals exact congrArg some (by first | (symm; rw [decide_eq_true_iff]; omega) | (symm; rw [decide_eq_false_iff_not]; omega) | (rw [decide_eq_decide]; omega))
theorem rmay_val (o a b n : Int) : dowelref01_May.f o a b n = some (mayB o a b n) := by
  unfold dowelref01_May.f mayB
  repeat' split
  all_goals exact congrArg some (by first | (symm; rw [decide_eq_true_iff]; omega) | (symm; rw [decide_eq_false_iff_not]; omega) | (rw [decide_eq_decide]; omega))
theorem may_iff (o a b n : Int) : mayB o a b n = true ↔ MayP o a b n := decide_eq_true_iff
theorem rput_val (o a b n : Int) (h : MayP o a b n) : dowelref01_PutIns.f o a b n = some (wordI o a b n) := by
  unfold MayP at h
  unfold dowelref01_PutIns.f wordI
  by_cases hn : n < 0
  · rw [if_pos hn]; exact congrArg some (by unfold wrap64; omega)
  · rw [if_neg hn]; exact congrArg some (by unfold wrap64; omega)
theorem fput : field_Put.f = PFieldBits.field_Put.f := rfl
theorem fget : field_Get.f = PFieldBits.field_Get.f := rfl
theorem fsign : field_Sign.f = PFieldBits.field_Sign.f := rfl
theorem put_no (o a b n : Int) (h : ¬ MayP o a b n) : ins_Put.f o a b n = some (0, some 1) := by
  unfold ins_Put.f
  rw [may_val, Option.bind_some, if_neg (by rw [may_iff]; exact h)]
theorem p1 (o : Nat) (ho : o < 64) : putN 0 26 6 o = o * 67108864 := by unfold putN; omega
theorem p2 (o a : Nat) (ho : o < 64) (ha : a < 16) : putN (o * 67108864) 22 4 a = o * 67108864 + a * 4194304 := by unfold putN; omega
theorem p3 (o a b : Nat) (ho : o < 64) (ha : a < 16) (hb : b < 16) : putN (o * 67108864 + a * 4194304) 18 4 b = o * 67108864 + a * 4194304 + b * 262144 := by unfold putN; omega
theorem p4 (o a b n : Nat) (ho : o < 64) (ha : a < 16) (hb : b < 16) : putN (o * 67108864 + a * 4194304 + b * 262144) 0 18 n = o * 67108864 + a * 4194304 + b * 262144 + n % 262144 := by unfold putN; omega
theorem put_step (o a b n w1 w2 w3 w4 : Int) (h : MayP o a b n) (h1 : field_Put.f 0 26 6 (o % 4294967296) = some w1) (h2 : field_Put.f w1 22 4 (a % 4294967296) = some w2) (h3 : field_Put.f w2 18 4 (b % 4294967296) = some w3) (h4 : field_Put.f w3 0 18 (n % 4294967296) = some w4) :
    ins_Put.f o a b n = some (w4, none) := by
  unfold ins_Put.f
  rw [may_val, Option.bind_some, if_pos ((may_iff _ _ _ _).2 h), h1]
  simp only [Option.bind_some]
  rw [h2]
  simp only [Option.bind_some]
  rw [h3]
  simp only [Option.bind_some]
  rw [h4]
  simp only [Option.bind_some]
theorem put_yes (o a b n : Int) (h : MayP o a b n) : ins_Put.f o a b n = some (wordI o a b n, none) := by
  have h' := h
  unfold MayP at h
  obtain ⟨o, rfl⟩ := Int.eq_ofNat_of_zero_le (show 0 ≤ o by omega)
  obtain ⟨a, rfl⟩ := Int.eq_ofNat_of_zero_le (show 0 ≤ a by omega)
  obtain ⟨b, rfl⟩ := Int.eq_ofNat_of_zero_le (show 0 ≤ b by omega)
  have e1 : (o : Int) % 4294967296 = (o : Int) := by omega
  have e2 : (a : Int) % 4294967296 = (a : Int) := by omega
  have e3 : (b : Int) % 4294967296 = (b : Int) := by omega
  have e4 : n % 4294967296 = (((n % 4294967296).toNat : Nat) : Int) := by omega
  have s1 := put_in 0 26 6 o (by decide) (by omega) (by decide) (by decide)
  have s2 := put_in (o * 67108864) 22 4 a (by omega) (by omega) (by decide) (by decide)
  have s3 := put_in (o * 67108864 + a * 4194304) 18 4 b (by omega) (by omega) (by decide) (by decide)
  have s4 := put_in (o * 67108864 + a * 4194304 + b * 262144) 0 18 (n % 4294967296).toNat (by omega) (by omega) (by decide) (by decide)
  rw [p1 o (by omega)] at s1
  rw [p2 o a (by omega) (by omega)] at s2
  rw [p3 o a b (by omega) (by omega) (by omega)] at s3
  rw [p4 o a b _ (by omega) (by omega) (by omega)] at s4
  have r := put_step o a b n _ _ _ _ h' (by rw [e1, fput]; exact s1) (by rw [e2, fput]; exact s2) (by rw [e3, fput]; exact s3) (by rw [e4, fput]; exact s4)
  rw [r]
  have e : (((o * 67108864 + a * 4194304 + b * 262144 + (n % 4294967296).toNat % 262144 : Nat)) : Int) = wordI (o : Int) (a : Int) (b : Int) n := by unfold wordI; omega
  rw [e]
theorem sg_val (x : Nat) : signN x 18 = sg ((x : Int) % 262144) := by
  unfold signN sg
  have e1 : x % 2 ^ 18 = x % 262144 := rfl
  have e2 : (2 : Nat) ^ (18 - 1) = 131072 := rfl
  have e3 : (2 : Nat) ^ 18 = 262144 := rfl
  rw [e1, e2, e3]
  split <;> split <;> omega
theorem get_step (x o a b n : Int) (h1 : field_Get.f x 26 6 = some o) (h2 : field_Get.f x 22 4 = some a) (h3 : field_Get.f x 18 4 = some b) (h4 : field_Sign.f x 18 = some n) (ho : wrap64 o = o) (ha : wrap64 a = a) (hb : wrap64 b = b) (hn : wrap64 n = n) :
    ins_Get.f x = some (if mayB o a b n then (o, a, b, n, true) else (0, 0, 0, 0, false)) := by
  unfold ins_Get.f
  rw [h1, h2, h3, h4]
  simp only [Option.bind_some]
  rw [ho, ha, hb, hn, may_val]
  simp only [Option.bind_some]
  split <;> rfl
theorem sg_range (m : Int) (h0 : 0 ≤ m) (h1 : m < 262144) : -131072 ≤ sg m ∧ sg m ≤ 131071 := by unfold sg; split <;> omega
/-- What Get tells of a word. -/
theorem get_val (x : Int) (h0 : 0 ≤ x) (h1 : x < 4294967296) :
    ins_Get.f x = some (if mayB (x / 67108864) (x / 4194304 % 16) (x / 262144 % 16) (sg (x % 262144)) then (x / 67108864, x / 4194304 % 16, x / 262144 % 16, sg (x % 262144), true) else (0, 0, 0, 0, false)) := by
  have hr := sg_range (x % 262144) (by omega) (by omega)
  obtain ⟨x, rfl⟩ := Int.eq_ofNat_of_zero_le h0
  have hx : x < 2 ^ 32 := by omega
  have g1 := get_in x 26 6 hx (by decide) (by decide)
  have g2 := get_in x 22 4 hx (by decide) (by decide)
  have g3 := get_in x 18 4 hx (by decide) (by decide)
  have g4 := sign_in x 18 (by decide) (by decide)
  rw [sg_val] at g4
  have e1 : ((getN x 26 6 : Nat) : Int) = (x : Int) / 67108864 := by unfold getN; omega
  have e2 : ((getN x 22 4 : Nat) : Int) = (x : Int) / 4194304 % 16 := by unfold getN; omega
  have e3 : ((getN x 18 4 : Nat) : Int) = (x : Int) / 262144 % 16 := by unfold getN; omega
  rw [e1] at g1
  rw [e2] at g2
  rw [e3] at g3
  exact get_step x _ _ _ _ g1 g2 g3 g4 (by unfold wrap64; omega) (by unfold wrap64; omega) (by unfold wrap64; omega) (by unfold wrap64; omega)
theorem rsign_val (x : Int) (h0 : 0 ≤ x) : PFieldBits.dowelref01_Sign.f 40 (x % 262144) 18 = some (sg (x % 262144)) := by
  obtain ⟨x, rfl⟩ := Int.eq_ofNat_of_zero_le h0
  have e : (x : Int) % 262144 = ((x % 262144 : Nat) : Int) := by omega
  have r := refsign_in 40 (x % 262144) 18 (by omega) (by decide) (by decide) (by decide)
  rw [sg_val] at r
  rw [e]
  have e2 : ((x % 262144 : Nat) : Int) % 262144 = ((x % 262144 : Nat) : Int) := by omega
  rw [e2] at r
  exact r
/-- What was put is got. -/
theorem back1 (o a b n : Int) (h : MayP o a b n) : 0 ≤ wordI o a b n ∧ wordI o a b n < 4294967296 ∧ wordI o a b n / 67108864 = o ∧ wordI o a b n / 4194304 % 16 = a ∧ wordI o a b n / 262144 % 16 = b ∧ sg (wordI o a b n % 262144) = n := by
  unfold MayP at h
  unfold wordI sg
  refine ⟨by omega, by omega, by omega, by omega, by omega, ?_⟩
  split <;> omega
/-- What was got is put. -/
theorem back2 (x : Int) (h0 : 0 ≤ x) (h1 : x < 4294967296) : wordI (x / 67108864) (x / 4194304 % 16) (x / 262144 % 16) (sg (x % 262144)) = x := by
  unfold wordI sg
  split <;> omega
theorem get_word (o a b n : Int) (h : MayP o a b n) : ins_Get.f (wordI o a b n) = some (o, a, b, n, true) := by
  obtain ⟨h0, h1, e1, e2, e3, e4⟩ := back1 o a b n h
  rw [get_val _ h0 h1, e1, e2, e3, e4, if_pos ((may_iff _ _ _ _).2 h)]
end Go.Proofs.Ytfoecgcjipckmaa.PureIns
