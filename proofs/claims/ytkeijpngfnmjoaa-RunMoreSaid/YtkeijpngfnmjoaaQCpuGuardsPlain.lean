/- Words and instructions, the plain side: what the functions of QCpuGuards tell, as numbers; what was put is got, and what was got is put. No condition but the numbers' ranges. -/
import Derived.Test.YtkeijpngfnmjoaaQCpuA
namespace Go.Proofs.Ytkeijpngfnmjoaa.QCpuGuardsPlain
open Go.RowKit Go.Proofs.Ytkeijpngfnmjoaa.QCpuGuards Go.Proofs.YtkeijpngfnmjoaaW.PrintWords Go.Proofs.YtkeijpngfnmjoaaW.PrintLast Go.Proofs.YtkeijpngfnmjoaaW.PrintMore
set_option linter.unusedVariables false

theorem u32_range {x : Int} (h : (Lit.int .u32 x).wf = true) : 0 ≤ x ∧ x < 4294967296 := by
  simp [Lit.wf, IntKind.min, IntKind.max, IntKind.signed, IntKind.bits] at h; omega
theorem i64_range {x : Int} (h : (Lit.int .i64 x).wf = true) : -9223372036854775808 ≤ x ∧ x ≤ 9223372036854775807 := by
  simp [Lit.wf, IntKind.min, IntKind.max, IntKind.signed, IntKind.bits] at h; omega
theorem u8_range {x : Int} (h : (Lit.int .u8 x).wf = true) : 0 ≤ x ∧ x ≤ 255 := by
  simp [Lit.wf, IntKind.min, IntKind.max, IntKind.signed, IntKind.bits] at h; omega
theorem wu32 (n : Int) (h0 : 0 ≤ n) (h1 : n < 2 ^ 32) : IntKind.u32.wrap n = n := by rw [IntKind.wrap_u32]; omega
theorem nat_u32 (n : Nat) (h : n < 2 ^ 32) : IntKind.u32.wrap (n : Int) = (n : Int) := by rw [IntKind.wrap_u32]; omega
theorem bv_u32 (a : Nat) (h : a < 2 ^ 32) : (BitVec.ofInt 32 (a : Int)).toNat = a := by
  rw [BitVec.ofInt_natCast, BitVec.toNat_ofNat]; exact Nat.mod_eq_of_lt h
theorem and_u32 (a b : Nat) (ha : a < 2 ^ 32) (hb : b < 2 ^ 32) : Go.bits .and .u32 (a : Int) (b : Int) = ((a &&& b : Nat) : Int) := by
  show IntKind.u32.wrap ((BitVec.ofInt 32 (a : Int) &&& BitVec.ofInt 32 (b : Int)).toNat : Int) = _
  rw [BitVec.toNat_and, bv_u32 a ha, bv_u32 b hb]; exact nat_u32 _ (Nat.and_lt_two_pow _ hb)
theorem or_u32 (a b : Nat) (ha : a < 2 ^ 32) (hb : b < 2 ^ 32) : Go.bits .or .u32 (a : Int) (b : Int) = ((a ||| b : Nat) : Int) := by
  show IntKind.u32.wrap ((BitVec.ofInt 32 (a : Int) ||| BitVec.ofInt 32 (b : Int)).toNat : Int) = _
  rw [BitVec.toNat_or, bv_u32 a ha, bv_u32 b hb]; exact nat_u32 _ (Nat.or_lt_two_pow ha hb)
theorem andNot_u32 (a b : Nat) (ha : a < 2 ^ 32) (hb : b < 2 ^ 32) : ∃ c : Nat, Go.bits .andNot .u32 (a : Int) (b : Int) = (c : Int) ∧ c < 2 ^ 32 ∧ ∀ i, c.testBit i = (a.testBit i && !b.testBit i) := by
  refine ⟨(BitVec.ofInt 32 (a : Int) &&& ~~~BitVec.ofInt 32 (b : Int)).toNat, ?_, BitVec.isLt _, fun i => ?_⟩
  · show IntKind.u32.wrap _ = _
    exact nat_u32 _ (BitVec.isLt _)
  · rw [BitVec.toNat_and, Nat.testBit_and, bv_u32 a ha]
    by_cases hi : i < 32
    · congr 1
      have : (~~~BitVec.ofInt 32 (b : Int)).toNat.testBit i = (~~~BitVec.ofInt 32 (b : Int)).getLsbD i := rfl
      rw [this, BitVec.getLsbD_not]
      have : (BitVec.ofInt 32 (b : Int)).getLsbD i = (BitVec.ofInt 32 (b : Int)).toNat.testBit i := rfl
      rw [this, bv_u32 b hb]; simp [hi]
    · have e : a.testBit i = false := Nat.testBit_lt_two_pow (Nat.lt_of_lt_of_le ha (Nat.pow_le_pow_right (by decide) (by omega)))
      rw [e]; simp
/-- Some bits. -/
def getN (w at_ b : Nat) : Nat := w / 2 ^ at_ % 2 ^ b
/-- Some bits, put. -/
def putN (w at_ b v : Nat) : Nat := 2 ^ (at_ + b) * (w / 2 ^ (at_ + b)) + (2 ^ at_ * (v % 2 ^ b) + w % 2 ^ at_)
theorem getN_bit (w at_ b i : Nat) : (getN w at_ b).testBit i = (decide (i < b) && w.testBit (at_ + i)) := by
  unfold getN; rw [Nat.testBit_mod_two_pow, Nat.testBit_div_two_pow, Nat.add_comm]
theorem mid_lt (w at_ b v : Nat) : 2 ^ at_ * (v % 2 ^ b) + w % 2 ^ at_ < 2 ^ (at_ + b) := by
  have h1 : v % 2 ^ b < 2 ^ b := Nat.mod_lt _ (Nat.two_pow_pos b)
  have h2 : w % 2 ^ at_ < 2 ^ at_ := Nat.mod_lt _ (Nat.two_pow_pos at_)
  have h3 : 2 ^ at_ * (v % 2 ^ b + 1) ≤ 2 ^ at_ * 2 ^ b := Nat.mul_le_mul_left _ h1
  rw [Nat.mul_add, Nat.mul_one] at h3
  rw [Nat.pow_add]; omega
theorem putN_bit (w at_ b v i : Nat) : (putN w at_ b v).testBit i = if at_ ≤ i ∧ i < at_ + b then v.testBit (i - at_) else w.testBit i := by
  unfold putN
  rw [Nat.testBit_two_pow_mul_add _ (mid_lt w at_ b v)]
  by_cases h1 : i < at_ + b
  · rw [if_pos h1, Nat.testBit_two_pow_mul_add _ (Nat.mod_lt _ (Nat.two_pow_pos at_))]
    by_cases h2 : i < at_
    · rw [if_pos h2, if_neg (by omega), Nat.testBit_mod_two_pow]; simp [h2]
    · rw [if_neg h2, if_pos ⟨by omega, h1⟩, Nat.testBit_mod_two_pow]; simp; omega
  · rw [if_neg h1, if_neg (by omega), Nat.testBit_div_two_pow]; congr 1; omega
theorem lt_of_bits {n k : Nat} (h : ∀ i, k ≤ i → n.testBit i = false) : n < 2 ^ k := Nat.lt_pow_two_of_testBit n h
theorem bit_high {n k i : Nat} (h : n < 2 ^ k) (hi : k ≤ i) : n.testBit i = false := Nat.testBit_lt_two_pow (Nat.lt_of_lt_of_le h (Nat.pow_le_pow_right (by decide) hi))
theorem putN_lt (w at_ b v : Nat) (hw : w < 2 ^ 32) (h : at_ + b ≤ 32) : putN w at_ b v < 2 ^ 32 := by
  apply lt_of_bits
  intro i hi
  rw [putN_bit, if_neg (by omega)]; exact bit_high hw hi
theorem getN_lt (w at_ b : Nat) : getN w at_ b < 2 ^ b := Nat.mod_lt _ (Nat.two_pow_pos b)
theorem pow_le32 {b : Nat} (h : b ≤ 32) : 2 ^ b ≤ 2 ^ 32 := Nat.pow_le_pow_right (by decide) h
theorem wrap_sub (b : Nat) (h : b ≤ 32) : wrap64 (32 - (b : Int)) = ((32 - b : Nat) : Int) := by unfold wrap64; omega
theorem mask_eq (b : Nat) (h0 : 1 ≤ b) (h : b ≤ 32) : field_mask.f (b : Int) = some (((2 ^ b - 1 : Nat) : Int)) := by
  unfold field_mask.f
  rw [wrap_sub b h, if_pos (by omega)]
  congr 1
  unfold shr
  show (4294967295 : Int) / 2 ^ min ((32 - b : Nat) : Int).toNat 32 = _
  rw [Int.toNat_natCast, Nat.min_eq_left (by omega)]
  have e : (4294967295 : Nat) / 2 ^ (32 - b) = 2 ^ b - 1 := by
    have h2 : 2 ^ (32 - b) * 2 ^ b = 4294967296 := by rw [← Nat.pow_add, show 32 - b + b = 32 by omega]
    have h3 : 0 < 2 ^ (32 - b) := Nat.two_pow_pos _
    have h4 : 0 < 2 ^ b := Nat.two_pow_pos _
    have h5 : 2 ^ (32 - b) * (2 ^ b - 1) + 2 ^ (32 - b) = 4294967296 := by
      rw [← h2, ← Nat.mul_succ]; congr 1; omega
    rw [Nat.div_eq_of_lt_le]
    · rw [Nat.mul_comm]; omega
    · rw [Nat.mul_comm, Nat.mul_succ]; omega
  rw [← e]; simp
theorem in_eq (at_ b : Int) (ha : -9223372036854775808 ≤ at_ ∧ at_ ≤ 9223372036854775807) (hb : -9223372036854775808 ≤ b ∧ b ≤ 9223372036854775807) :
    field_in.f at_ b = some (decide (1 ≤ b ∧ b ≤ 32 ∧ 0 ≤ at_ ∧ at_ ≤ 32 - b)) := by
  unfold field_in.f
  by_cases h1 : b ≥ 1
  · rw [if_pos h1]
    by_cases h2 : b ≤ 32
    · rw [if_pos h2]
      have hw : wrap64 (32 - b) = 32 - b := by unfold wrap64; omega
      rw [hw]
      by_cases h3 : at_ ≥ 0
      · rw [if_pos h3]; congr 1; rw [decide_eq_decide]; omega
      · rw [if_neg h3]; congr 1; symm; rw [decide_eq_false_iff_not]; omega
    · rw [if_neg h2]; congr 1; symm; rw [decide_eq_false_iff_not]; omega
  · rw [if_neg h1]; congr 1; symm; rw [decide_eq_false_iff_not]; omega
theorem get_in (w at_ b : Nat) (hw : w < 2 ^ 32) (h0 : 1 ≤ b) (h : at_ + b ≤ 32) : field_Get.f (w : Int) (at_ : Int) (b : Int) = some ((getN w at_ b : Nat) : Int) := by
  unfold field_Get.f
  rw [in_eq _ _ (by omega) (by omega), Option.bind_some, decide_eq_true (by omega), if_pos rfl, if_pos (by omega), mask_eq b h0 (by omega), Option.bind_some]
  congr 1
  unfold shr
  show Go.bits .and .u32 ((w : Int) / 2 ^ min (at_ : Int).toNat 32) _ = _
  rw [Int.toNat_natCast, Nat.min_eq_left (by omega)]
  have e : (w : Int) / 2 ^ at_ = ((w / 2 ^ at_ : Nat) : Int) := by simp
  have hp := Nat.two_pow_pos b
  have hq := pow_le32 (b := b) (by omega)
  rw [e, and_u32 _ _ (Nat.lt_of_le_of_lt (Nat.div_le_self _ _) hw) (by omega), Nat.and_two_pow_sub_one_eq_mod]; rfl
theorem get_out (w at_ b : Int) (ha : -9223372036854775808 ≤ at_ ∧ at_ ≤ 9223372036854775807) (hb : -9223372036854775808 ≤ b ∧ b ≤ 9223372036854775807) (h : ¬ (1 ≤ b ∧ b ≤ 32 ∧ 0 ≤ at_ ∧ at_ ≤ 32 - b)) :
    field_Get.f w at_ b = some 0 := by
  unfold field_Get.f
  rw [in_eq _ _ ha hb, Option.bind_some, decide_eq_false h]; rfl
theorem shl_u32 (x at_ : Nat) (ha : at_ ≤ 32) : shl .u32 (x : Int) (at_ : Int) = ((x * 2 ^ at_ % 2 ^ 32 : Nat) : Int) := by
  unfold shl
  show IntKind.u32.wrap ((x : Int) * 2 ^ min (at_ : Int).toNat 32) = _
  rw [Int.toNat_natCast, Nat.min_eq_left ha, IntKind.wrap_u32]
  have e : (x : Int) * 2 ^ at_ = ((x * 2 ^ at_ : Nat) : Int) := by simp
  rw [e]; omega
theorem w64 (n : Nat) (h : n < 2 ^ 63) : wrap64 (n : Int) = (n : Int) := by unfold wrap64; omega
theorem pow_bd {b : Nat} (h : b ≤ 32) : 0 < 2 ^ b ∧ 2 ^ b ≤ 4294967296 := ⟨Nat.two_pow_pos b, pow_le32 h⟩
/-- The lowest bits, with a sign. -/
def signN (v b : Nat) : Int := if v % 2 ^ b ≥ 2 ^ (b - 1) then ((v % 2 ^ b : Nat) : Int) - ((2 ^ b : Nat) : Int) else ((v % 2 ^ b : Nat) : Int)
theorem half (b : Nat) (h0 : 1 ≤ b) : 2 ^ b = 2 * 2 ^ (b - 1) := by
  obtain ⟨c, rfl⟩ : ∃ c, b = c + 1 := ⟨b - 1, by omega⟩
  rw [Nat.pow_succ, show c + 1 - 1 = c by omega]; omega
theorem sign_in (v b : Nat) (h0 : 1 ≤ b) (h : b ≤ 32) : field_Sign.f (v : Int) (b : Int) = some (signN v b) := by
  unfold field_Sign.f
  rw [in_eq _ _ (by omega) (by omega), Option.bind_some, decide_eq_true (by omega), if_pos rfl, wrap_sub b h, if_pos (by omega), shl_u32 _ _ (by omega)]
  congr 1
  have hsum : 2 ^ 32 = 2 ^ b * 2 ^ (32 - b) := by rw [← Nat.pow_add]; congr 1; omega
  have e : v * 2 ^ (32 - b) % 2 ^ 32 = v % 2 ^ b * 2 ^ (32 - b) := by rw [hsum, Nat.mul_mod_mul_right]
  rw [e]
  have hu : v % 2 ^ b < 2 ^ b := Nat.mod_lt _ (Nat.two_pow_pos b)
  have hh := half b h0
  have hc : 0 < 2 ^ (32 - b) := Nat.two_pow_pos _
  unfold signN shr
  rw [Int.toNat_natCast, show min (32 - b) IntKind.i32.bits = 32 - b from Nat.min_eq_left (show 32 - b ≤ 32 by omega)]
  generalize v % 2 ^ b = u at *
  have hcast : ((2 : Int) ^ (32 - b)) = ((2 ^ (32 - b) : Nat) : Int) := by simp
  rw [hcast]
  generalize hC : 2 ^ (32 - b) = c at *
  generalize hH : 2 ^ (b - 1) = q at *
  rw [hh] at hsum hu ⊢
  have h31 : q * c = 2147483648 := by rw [Nat.mul_assoc] at hsum; omega
  by_cases hs : u ≥ q
  · rw [if_pos hs]
    have h2 : q * c ≤ u * c := Nat.mul_le_mul_right c hs
    have h3 : u * c < 2 * q * c := (Nat.mul_lt_mul_right hc).2 hu
    rw [Nat.mul_assoc] at h3
    have e2 : wrap32 ((u * c : Nat) : Int) = ((u : Int) - ((2 * q : Nat) : Int)) * (c : Int) := by
      rw [Int.sub_mul, ← Int.natCast_mul, ← Int.natCast_mul, Nat.mul_assoc]; unfold wrap32; omega
    rw [e2, Int.mul_ediv_cancel _ (by omega)]
  · rw [if_neg hs]
    have h3 : u * c < q * c := (Nat.mul_lt_mul_right hc).2 (by omega)
    have e2 : wrap32 ((u * c : Nat) : Int) = (u : Int) * (c : Int) := by rw [← Int.natCast_mul]; unfold wrap32; omega
    rw [e2, Int.mul_ediv_cancel _ (by omega)]
theorem refsign_val (u B q : Nat) (hb : 0 < B) (hB : B ≤ 4294967296) (hh : B = 2 * q) (hu : u < B) :
    wrap32 (wrap64 ((u : Int) - (B : Int))) = (if u ≥ q then (u : Int) - (B : Int) else wrap32 (wrap64 ((u : Int) - (B : Int)))) ∧ (¬ u ≥ q → wrap32 (u : Int) = (u : Int)) := by
  constructor
  · split
    · unfold wrap32 wrap64; omega
    · rfl
  · intro h; unfold wrap32; omega
/-- An instruction may be. -/
def MayP (o a b n : Int) : Prop := 1 ≤ o ∧ o ≤ 21 ∧ 0 ≤ a ∧ a ≤ 15 ∧ 0 ≤ b ∧ b ≤ 15 ∧ -131072 ≤ n ∧ n ≤ 131071 ∧ (o < 2 ∨ 10 < o ∨ 0 ≤ n ∧ n ≤ 15)
def mayB (o a b n : Int) : Bool := decide (1 ≤ o ∧ o ≤ 21 ∧ 0 ≤ a ∧ a ≤ 15 ∧ 0 ≤ b ∧ b ≤ 15 ∧ -131072 ≤ n ∧ n ≤ 131071 ∧ (o < 2 ∨ 10 < o ∨ 0 ≤ n ∧ n ≤ 15))
/-- Its word. -/
def wordI (o a b n : Int) : Int := o * 67108864 + a * 4194304 + b * 262144 + n % 262144
/-- A number of 18 bits, with its sign. -/
def sg (m : Int) : Int := if m ≥ 131072 then m - 262144 else m
theorem in_val (x : Int) : ins_in.f x = some (decide (0 ≤ x ∧ x ≤ 15)) := by
  unfold ins_in.f
  by_cases h : x ≥ 0
  · rw [if_pos h]; exact congrArg some (decide_eq_decide.2 (by omega))
  · rw [if_neg h]; exact congrArg some (decide_eq_false (by omega)).symm
theorem may_val (o a b n : Int) : ins_May.f o a b n = some (mayB o a b n) := by
  unfold ins_May.f mayB
  rw [in_val, in_val, in_val]
  simp only [Option.bind_some, decide_eq_true_eq]
  repeat' split
  all_goals exact congrArg some (by first | (symm; rw [decide_eq_true_iff]; omega) | (symm; rw [decide_eq_false_iff_not]; omega) | (rw [decide_eq_decide]; omega))
theorem rmay_val (o a b n : Int) : dowelref01_May.f o a b n = some (mayB o a b n) := by
  unfold dowelref01_May.f mayB
  repeat' split
  all_goals exact congrArg some (by first | (symm; rw [decide_eq_true_iff]; omega) | (symm; rw [decide_eq_false_iff_not]; omega) | (rw [decide_eq_decide]; omega))
theorem may_iff (o a b n : Int) : mayB o a b n = true ↔ MayP o a b n := decide_eq_true_iff
theorem rput_val (o a b n : Int) (h : MayP o a b n) : dowelref01_PutIns.f o a b n = some (wordI o a b n) := by
  unfold MayP at h
  unfold dowelref01_PutIns.f wordI
  by_cases hn : n < 0
  · rw [if_pos hn]; exact congrArg some (by unfold wrap64; omega)
  · rw [if_neg hn]; exact congrArg some (by unfold wrap64; omega)
theorem p1 (o : Nat) (ho : o < 64) : putN 0 26 6 o = o * 67108864 := by unfold putN; omega
theorem p2 (o a : Nat) (ho : o < 64) (ha : a < 16) : putN (o * 67108864) 22 4 a = o * 67108864 + a * 4194304 := by unfold putN; omega
theorem p3 (o a b : Nat) (ho : o < 64) (ha : a < 16) (hb : b < 16) : putN (o * 67108864 + a * 4194304) 18 4 b = o * 67108864 + a * 4194304 + b * 262144 := by unfold putN; omega
theorem p4 (o a b n : Nat) (ho : o < 64) (ha : a < 16) (hb : b < 16) : putN (o * 67108864 + a * 4194304 + b * 262144) 0 18 n = o * 67108864 + a * 4194304 + b * 262144 + n % 262144 := by unfold putN; omega
theorem sg_val (x : Nat) : signN x 18 = sg ((x : Int) % 262144) := by
  unfold signN sg
  have e1 : x % 2 ^ 18 = x % 262144 := rfl
  have e2 : (2 : Nat) ^ (18 - 1) = 131072 := rfl
  have e3 : (2 : Nat) ^ 18 = 262144 := rfl
  rw [e1, e2, e3]
  split <;> split <;> omega
theorem get_step (x o a b n : Int) (h1 : field_Get.f x 26 6 = some o) (h2 : field_Get.f x 22 4 = some a) (h3 : field_Get.f x 18 4 = some b) (h4 : field_Sign.f x 18 = some n) (ho : wrap64 o = o) (ha : wrap64 a = a) (hb : wrap64 b = b) (hn : wrap64 n = n) :
    ins_Get.f x = some (if mayB o a b n then (o, a, b, n, true) else (0, 0, 0, 0, false)) := by
  unfold ins_Get.f
  rw [h1, h2, h3, h4]
  simp only [Option.bind_some]
  rw [ho, ha, hb, hn, may_val]
  simp only [Option.bind_some]
  split <;> rfl
theorem sg_range (m : Int) (h0 : 0 ≤ m) (h1 : m < 262144) : -131072 ≤ sg m ∧ sg m ≤ 131071 := by unfold sg; split <;> omega
/-- What Get tells of a word. -/
theorem get_val (x : Int) (h0 : 0 ≤ x) (h1 : x < 4294967296) :
    ins_Get.f x = some (if mayB (x / 67108864) (x / 4194304 % 16) (x / 262144 % 16) (sg (x % 262144)) then (x / 67108864, x / 4194304 % 16, x / 262144 % 16, sg (x % 262144), true) else (0, 0, 0, 0, false)) := by
  have hr := sg_range (x % 262144) (by omega) (by omega)
  obtain ⟨x, rfl⟩ := Int.eq_ofNat_of_zero_le h0
  have hx : x < 2 ^ 32 := by omega
  have g1 := get_in x 26 6 hx (by decide) (by decide)
  have g2 := get_in x 22 4 hx (by decide) (by decide)
  have g3 := get_in x 18 4 hx (by decide) (by decide)
  have g4 := sign_in x 18 (by decide) (by decide)
  rw [sg_val] at g4
  have e1 : ((getN x 26 6 : Nat) : Int) = (x : Int) / 67108864 := by unfold getN; omega
  have e2 : ((getN x 22 4 : Nat) : Int) = (x : Int) / 4194304 % 16 := by unfold getN; omega
  have e3 : ((getN x 18 4 : Nat) : Int) = (x : Int) / 262144 % 16 := by unfold getN; omega
  rw [e1] at g1
  rw [e2] at g2
  rw [e3] at g3
  exact get_step x _ _ _ _ g1 g2 g3 g4 (by unfold wrap64; omega) (by unfold wrap64; omega) (by unfold wrap64; omega) (by unfold wrap64; omega)
/-- What was put is got. -/
theorem back1 (o a b n : Int) (h : MayP o a b n) : 0 ≤ wordI o a b n ∧ wordI o a b n < 4294967296 ∧ wordI o a b n / 67108864 = o ∧ wordI o a b n / 4194304 % 16 = a ∧ wordI o a b n / 262144 % 16 = b ∧ sg (wordI o a b n % 262144) = n := by
  unfold MayP at h
  unfold wordI sg
  refine ⟨by omega, by omega, by omega, by omega, by omega, ?_⟩
  split <;> omega
/-- What was got is put. -/
theorem back2 (x : Int) (h0 : 0 ≤ x) (h1 : x < 4294967296) : wordI (x / 67108864) (x / 4194304 % 16) (x / 262144 % 16) (sg (x % 262144)) = x := by
  unfold wordI sg
  split <;> omega
theorem get_word (o a b n : Int) (h : MayP o a b n) : ins_Get.f (wordI o a b n) = some (o, a, b, n, true) := by
  obtain ⟨h0, h1, e1, e2, e3, e4⟩ := back1 o a b n h
  rw [get_val _ h0 h1, e1, e2, e3, e4, if_pos ((may_iff _ _ _ _).2 h)]
end Go.Proofs.Ytkeijpngfnmjoaa.QCpuGuardsPlain
