/- FieldBack: for all words, places, widths the law returns true: what was put is got, what lies beside it stays. No condition. -/
import Derived.Test.YtfoecgcjipckmaaPFieldBackx2
namespace Go.Proofs.Ytfoecgcjipckmaa.Pure
open Go.RowKit Go.Proofs.Ytfoecgcjipckmaa.PFieldBack Go.Proofs.YtfoecgcjipckmaaW.PrintWords Go.Proofs.YtfoecgcjipckmaaW.PrintLast Go.Proofs.YtfoecgcjipckmaaW.PrintMore

theorem u32_range {x : Int} (h : (Lit.int .u32 x).wf = true) : 0 ≤ x ∧ x < 4294967296 := by
  simp [Lit.wf, IntKind.min, IntKind.max, IntKind.signed, IntKind.bits] at h; omega
theorem i64_range {x : Int} (h : (Lit.int .i64 x).wf = true) : -9223372036854775808 ≤ x ∧ x ≤ 9223372036854775807 := by
  simp [Lit.wf, IntKind.min, IntKind.max, IntKind.signed, IntKind.bits] at h; omega
theorem u8_range {x : Int} (h : (Lit.int .u8 x).wf = true) : 0 ≤ x ∧ x ≤ 255 := by
  simp [Lit.wf, IntKind.min, IntKind.max, IntKind.signed, IntKind.bits] at h; omega
theorem wu32 (n : Int) (h0 : 0 ≤ n) (h1 : n < 2 ^ 32) : IntKind.u32.wrap n = n := by rw [IntKind.wrap_u32]; omega
theorem nat_u32 (n : Nat) (h : n < 2 ^ 32) : IntKind.u32.wrap (n : Int) = (n : Int) := by rw [IntKind.wrap_u32]; omega
theorem bv_u32 (a : Nat) (h : a < 2 ^ 32) : (BitVec.ofInt 32 (a : Int)).toNat = a := by
  rw [BitVec.ofInt_natCast, BitVec.toNat_ofNat]; exact Nat.mod_eq_of_lt h
theorem and_u32 (a b : Nat) (ha : a < 2 ^ 32) (hb : b < 2 ^ 32) : Go.bits .and .u32 (a : Int) (b : Int) = ((a &&& b : Nat) : Int) := by
  show IntKind.u32.wrap ((BitVec.ofInt 32 (a : Int) &&& BitVec.ofInt 32 (b : Int)).toNat : Int) = _
  rw [BitVec.toNat_and, bv_u32 a ha, bv_u32 b hb]; exact nat_u32 _ (Nat.and_lt_two_pow _ hb)
theorem or_u32 (a b : Nat) (ha : a < 2 ^ 32) (hb : b < 2 ^ 32) : Go.bits .or .u32 (a : Int) (b : Int) = ((a ||| b : Nat) : Int) := by
  show IntKind.u32.wrap ((BitVec.ofInt 32 (a : Int) ||| BitVec.ofInt 32 (b : Int)).toNat : Int) = _
  rw [BitVec.toNat_or, bv_u32 a ha, bv_u32 b hb]; exact nat_u32 _ (Nat.or_lt_two_pow ha hb)
theorem andNot_u32 (a b : Nat) (ha : a < 2 ^ 32) (hb : b < 2 ^ 32) : ∃ c : Nat, Go.bits .andNot .u32 (a : Int) (b : Int) = (c : Int) ∧ c < 2 ^ 32 ∧ ∀ i, c.testBit i = (a.testBit i && !b.testBit i) := by
  refine ⟨(BitVec.ofInt 32 (a : Int) &&& ~~~BitVec.ofInt 32 (b : Int)).toNat, ?_, BitVec.isLt _, fun i => ?_⟩
  · show IntKind.u32.wrap _ = _
    exact nat_u32 _ (BitVec.isLt _)
  · rw [BitVec.toNat_and, Nat.testBit_and, bv_u32 a ha]
    by_cases hi : i < 32
    · congr 1
      have : (~~~BitVec.ofInt 32 (b : Int)).toNat.testBit i = (~~~BitVec.ofInt 32 (b : Int)).getLsbD i := rfl
      rw [this, BitVec.getLsbD_not]
      have : (BitVec.ofInt 32 (b : Int)).getLsbD i = (BitVec.ofInt 32 (b : Int)).toNat.testBit i := rfl
      rw [this, bv_u32 b hb]; simp [hi]
    · have e : a.testBit i = false := Nat.testBit_lt_two_pow (Nat.lt_of_lt_of_le ha (Nat.pow_le_pow_right (by decide) (by omega)))
      rw [e]; simp
/-- Some bits. -/
def getN (w at_ b : Nat) : Nat := w / 2 ^ at_ % 2 ^ b
/-- Some bits, put. -/
def putN (w at_ b v : Nat) : Nat := 2 ^ (at_ + b) * (w / 2 ^ (at_ + b)) + (2 ^ at_ * (v % 2 ^ b) + w % 2 ^ at_)
theorem getN_bit (w at_ b i : Nat) : (getN w at_ b).testBit i = (decide (i < b) && w.testBit (at_ + i)) := by
  unfold getN; rw [Nat.testBit_mod_two_pow, Nat.testBit_div_two_pow, Nat.add_comm]
theorem mid_lt (w at_ b v : Nat) : 2 ^ at_ * (v % 2 ^ b) + w % 2 ^ at_ < 2 ^ (at_ + b) := by
  have h1 : v % 2 ^ b < 2 ^ b := Nat.mod_lt _ (Nat.two_pow_pos b)
  have h2 : w % 2 ^ at_ < 2 ^ at_ := Nat.mod_lt _ (Nat.two_pow_pos at_)
  have h3 : 2 ^ at_ * (v % 2 ^ b + 1) ≤ 2 ^ at_ * 2 ^ b := Nat.mul_le_mul_left _ h1
  rw [Nat.mul_add, Nat.mul_one] at h3
  rw [Nat.pow_add]; omega
theorem putN_bit (w at_ b v i : Nat) : (putN w at_ b v).testBit i = if at_ ≤ i ∧ i < at_ + b then v.testBit (i - at_) else w.testBit i := by
  unfold putN
  rw [Nat.testBit_two_pow_mul_add _ (mid_lt w at_ b v)]
  by_cases h1 : i < at_ + b
  · rw [if_pos h1, Nat.testBit_two_pow_mul_add _ (Nat.mod_lt _ (Nat.two_pow_pos at_))]
    by_cases h2 : i < at_
    · rw [if_pos h2, if_neg (by omega), Nat.testBit_mod_two_pow]; simp [h2]
    · rw [if_neg h2, if_pos ⟨by omega, h1⟩, Nat.testBit_mod_two_pow]; simp; omega
  · rw [if_neg h1, if_neg (by omega), Nat.testBit_div_two_pow]; congr 1; omega
theorem lt_of_bits {n k : Nat} (h : ∀ i, k ≤ i → n.testBit i = false) : n < 2 ^ k := Nat.lt_pow_two_of_testBit n h
theorem bit_high {n k i : Nat} (h : n < 2 ^ k) (hi : k ≤ i) : n.testBit i = false := Nat.testBit_lt_two_pow (Nat.lt_of_lt_of_le h (Nat.pow_le_pow_right (by decide) hi))
theorem putN_lt (w at_ b v : Nat) (hw : w < 2 ^ 32) (h : at_ + b ≤ 32) : putN w at_ b v < 2 ^ 32 := by
  apply lt_of_bits
  intro i hi
  rw [putN_bit, if_neg (by omega)]; exact bit_high hw hi
theorem getN_lt (w at_ b : Nat) : getN w at_ b < 2 ^ b := Nat.mod_lt _ (Nat.two_pow_pos b)
theorem pow_le32 {b : Nat} (h : b ≤ 32) : 2 ^ b ≤ 2 ^ 32 := Nat.pow_le_pow_right (by decide) h
theorem wrap_sub (b : Nat) (h : b ≤ 32) : wrap64 (32 - (b : Int)) = ((32 - b : Nat) : Int) := by unfold wrap64; omega
theorem mask_eq (b : Nat) (h0 : 1 ≤ b) (h : b ≤ 32) : field_mask.f (b : Int) = some (((2 ^ b - 1 : Nat) : Int)) := by
  unfold field_mask.f
  rw [wrap_sub b h, if_pos (by omega)]
  congr 1
  unfold shr
  show (4294967295 : Int) / 2 ^ min ((32 - b : Nat) : Int).toNat 32 = _
  rw [Int.toNat_natCast, Nat.min_eq_left (by omega)]
  have e : (4294967295 : Nat) / 2 ^ (32 - b) = 2 ^ b - 1 := by
    have h2 : 2 ^ (32 - b) * 2 ^ b = 4294967296 := by rw [← Nat.pow_add, show 32 - b + b = 32 by omega]
    have h3 : 0 < 2 ^ (32 - b) := Nat.two_pow_pos _
    have h4 : 0 < 2 ^ b := Nat.two_pow_pos _
    have h5 : 2 ^ (32 - b) * (2 ^ b - 1) + 2 ^ (32 - b) = 4294967296 := by
      rw [← h2, ← Nat.mul_succ]; congr 1; omega
    rw [Nat.div_eq_of_lt_le]
    · rw [Nat.mul_comm]; omega
    · rw [Nat.mul_comm, Nat.mul_succ]; omega
  rw [← e]; simp
theorem in_eq (at_ b : Int) (ha : -9223372036854775808 ≤ at_ ∧ at_ ≤ 9223372036854775807) (hb : -9223372036854775808 ≤ b ∧ b ≤ 9223372036854775807) :
    field_in.f at_ b = some (decide (1 ≤ b ∧ b ≤ 32 ∧ 0 ≤ at_ ∧ at_ ≤ 32 - b)) := by
  unfold field_in.f
  by_cases h1 : b ≥ 1
  · rw [if_pos h1]
    by_cases h2 : b ≤ 32
    · rw [if_pos h2]
      have hw : wrap64 (32 - b) = 32 - b := by unfold wrap64; omega
      rw [hw]
      by_cases h3 : at_ ≥ 0
      · rw [if_pos h3]; congr 1; rw [decide_eq_decide]; omega
      · rw [if_neg h3]; congr 1; symm; rw [decide_eq_false_iff_not]; omega
    · rw [if_neg h2]; congr 1; symm; rw [decide_eq_false_iff_not]; omega
  · rw [if_neg h1]; congr 1; symm; rw [decide_eq_false_iff_not]; omega
theorem get_in (w at_ b : Nat) (hw : w < 2 ^ 32) (h0 : 1 ≤ b) (h : at_ + b ≤ 32) : field_Get.f (w : Int) (at_ : Int) (b : Int) = some ((getN w at_ b : Nat) : Int) := by
  unfold field_Get.f
  rw [in_eq _ _ (by omega) (by omega), Option.bind_some, decide_eq_true (by omega), if_pos rfl, if_pos (by omega), mask_eq b h0 (by omega), Option.bind_some]
  congr 1
  unfold shr
  show Go.bits .and .u32 ((w : Int) / 2 ^ min (at_ : Int).toNat 32) _ = _
  rw [Int.toNat_natCast, Nat.min_eq_left (by omega)]
  have e : (w : Int) / 2 ^ at_ = ((w / 2 ^ at_ : Nat) : Int) := by simp
  have hp := Nat.two_pow_pos b
  have hq := pow_le32 (b := b) (by omega)
  rw [e, and_u32 _ _ (Nat.lt_of_le_of_lt (Nat.div_le_self _ _) hw) (by omega), Nat.and_two_pow_sub_one_eq_mod]; rfl
theorem get_out (w at_ b : Int) (ha : -9223372036854775808 ≤ at_ ∧ at_ ≤ 9223372036854775807) (hb : -9223372036854775808 ≤ b ∧ b ≤ 9223372036854775807) (h : ¬ (1 ≤ b ∧ b ≤ 32 ∧ 0 ≤ at_ ∧ at_ ≤ 32 - b)) :
    field_Get.f w at_ b = some 0 := by
  unfold field_Get.f
  rw [in_eq _ _ ha hb, Option.bind_some, decide_eq_false h]; rfl
theorem shl_u32 (x at_ : Nat) (ha : at_ ≤ 32) : shl .u32 (x : Int) (at_ : Int) = ((x * 2 ^ at_ % 2 ^ 32 : Nat) : Int) := by
  unfold shl
  show IntKind.u32.wrap ((x : Int) * 2 ^ min (at_ : Int).toNat 32) = _
  rw [Int.toNat_natCast, Nat.min_eq_left ha, IntKind.wrap_u32]
  have e : (x : Int) * 2 ^ at_ = ((x * 2 ^ at_ : Nat) : Int) := by simp
  rw [e]; omega
theorem put_in (w at_ b v : Nat) (hw : w < 2 ^ 32) (hv : v < 2 ^ 32) (h0 : 1 ≤ b) (h : at_ + b ≤ 32) : field_Put.f (w : Int) (at_ : Int) (b : Int) (v : Int) = some ((putN w at_ b v : Nat) : Int) := by
  unfold field_Put.f
  rw [in_eq _ _ (by omega) (by omega), Option.bind_some, decide_eq_true (by omega), if_pos rfl, mask_eq b h0 (by omega), Option.bind_some, if_pos (by omega)]
  congr 1
  have hp := Nat.two_pow_pos b
  have hq := pow_le32 (b := b) (by omega)
  rw [and_u32 v _ hv (by omega), Nat.and_two_pow_sub_one_eq_mod, shl_u32 _ _ (by omega), shl_u32 _ _ (by omega)]
  obtain ⟨c, hc, hcl, hcb⟩ := andNot_u32 w ((2 ^ b - 1) * 2 ^ at_ % 2 ^ 32) hw (Nat.mod_lt _ (by decide))
  rw [hc, or_u32 _ _ hcl (Nat.mod_lt _ (by decide))]
  congr 1
  apply Nat.eq_of_testBit_eq
  intro i
  rw [Nat.testBit_or, hcb, putN_bit, Nat.testBit_mod_two_pow, Nat.testBit_mod_two_pow, Nat.mul_comm, Nat.testBit_two_pow_mul, Nat.mul_comm (v % 2 ^ b), Nat.testBit_two_pow_mul, Nat.testBit_two_pow_sub_one, Nat.testBit_mod_two_pow]
  by_cases h1 : at_ ≤ i ∧ i < at_ + b
  · rw [if_pos h1, decide_eq_true h1.1, decide_eq_true (show i - at_ < b by omega), decide_eq_true (show i < 32 by omega)]; simp
  · rw [if_neg h1]
    by_cases h2 : at_ ≤ i
    · rw [decide_eq_false (show ¬ i - at_ < b by omega)]; simp
    · rw [decide_eq_false h2]; simp
theorem put_out (w at_ b v : Int) (ha : -9223372036854775808 ≤ at_ ∧ at_ ≤ 9223372036854775807) (hb : -9223372036854775808 ≤ b ∧ b ≤ 9223372036854775807) (h : ¬ (1 ≤ b ∧ b ≤ 32 ∧ 0 ≤ at_ ∧ at_ ≤ 32 - b)) :
    field_Put.f w at_ b v = some w := by
  unfold field_Put.f
  rw [in_eq _ _ ha hb, Option.bind_some, decide_eq_false h]; rfl
theorem join (x y i : Nat) (hx : x < 2 ^ i) (hy : y * 2 ^ i < 2 ^ 32) (hi : i ≤ 32) : Go.bits .or .u32 (x : Int) ((y : Int) * 2 ^ i) = ((x + y * 2 ^ i : Nat) : Int) := by
  have e : (y : Int) * 2 ^ i = ((y * 2 ^ i : Nat) : Int) := by simp
  rw [e, or_u32 _ _ (Nat.lt_of_lt_of_le hx (pow_le32 hi)) hy, Nat.or_comm, Nat.mul_comm, ← Nat.two_pow_add_eq_or_of_lt hx, Nat.add_comm]
/-- The byte at place i, 0 behind the end. -/
def byt (l : List Int) (i : Nat) : Nat := (l.getD i 0).toNat
theorem byt_le {l : List Int} (h : ∀ x ∈ l, 0 ≤ x ∧ x ≤ 255) (i : Nat) : byt l i ≤ 255 := by
  unfold byt
  by_cases hi : i < l.length
  · rw [List.getD_eq_getElem?_getD, List.getElem?_eq_getElem hi]
    have := h _ (List.getElem_mem hi); simp; omega
  · rw [List.getD_eq_getElem?_getD, List.getElem?_eq_none (by omega)]; simp
theorem byt_rd {l : List Int} (h : ∀ x ∈ l, 0 ≤ x ∧ x ≤ 255) (i : Nat) (hi : i < l.length) : rd l (i : Int) = (byt l i : Int) := by
  unfold rd byt
  rw [Int.toNat_natCast, List.getD_eq_getElem?_getD, List.getElem?_eq_getElem hi]
  have := h _ (List.getElem_mem hi); simp; omega
theorem byt_none {l : List Int} (i : Nat) (hi : ¬ i < l.length) : byt l i = 0 := by
  unfold byt; rw [List.getD_eq_getElem?_getD, List.getElem?_eq_none (by omega)]; rfl
/-- The word of bytes. -/
def wordN (l : List Int) : Nat := byt l 0 + byt l 1 * 256 + byt l 2 * 65536 + byt l 3 * 16777216
theorem word_step {l : List Int} (h : ∀ x ∈ l, 0 ≤ x ∧ x ≤ 255) (k x i : Nat) (hi : i < 4) (hx : x < 2 ^ (8 * i)) :
    field_Word.l0 (k + 1) l (x : Int) (i : Int) = field_Word.l0 k l ((x + byt l i * 2 ^ (8 * i) : Nat) : Int) ((i + 1 : Nat) : Int) := by
  simp only [field_Word.l0]
  have hw : wrap64 ((i : Int) + 1) = ((i + 1 : Nat) : Int) := by unfold wrap64; omega
  rw [if_pos (by omega), hw]
  by_cases hl : i < l.length
  · have hw8 : wrap64 (8 * (i : Int)) = ((8 * i : Nat) : Int) := by unfold wrap64; omega
    have hb := byt_le h i
    rw [if_pos (by omega), if_pos (by omega), hw8, if_pos (by omega), byt_rd h i hl]
    have hm : (byt l i : Int) % 4294967296 = (byt l i : Int) := by omega
    have hp : byt l i * 2 ^ (8 * i) < 2 ^ 32 := by
      have h1 : byt l i * 2 ^ (8 * i) < 2 ^ 8 * 2 ^ (8 * i) := (Nat.mul_lt_mul_right (Nat.two_pow_pos _)).2 (by omega)
      rw [← Nat.pow_add] at h1
      exact Nat.lt_of_lt_of_le h1 (Nat.pow_le_pow_right (by decide) (by omega))
    have hs : shl .u32 (byt l i : Int) ((8 * i : Nat) : Int) = (byt l i : Int) * 2 ^ (8 * i) := by
      rw [shl_u32 _ _ (by omega), Nat.mod_eq_of_lt hp]; simp
    rw [hm, hs, join x _ _ hx hp (by omega)]
  · rw [if_neg (by omega), byt_none i hl]; simp
theorem word_eq {l : List Int} (h : ∀ x ∈ l, 0 ≤ x ∧ x ≤ 255) (k : Nat) (hk : 5 ≤ k) : field_Word.f k l = some ((wordN l : Nat) : Int) := by
  obtain ⟨k, rfl⟩ : ∃ m, k = m + 5 := ⟨k - 5, by omega⟩
  unfold field_Word.f
  have b0 := byt_le h 0
  have b1 := byt_le h 1
  have b2 := byt_le h 2
  have s0 := word_step h (k + 4) 0 0 (by omega) (by decide)
  have s1 := word_step h (k + 3) (0 + byt l 0 * 2 ^ (8 * 0)) 1 (by omega) (by omega)
  have s2 := word_step h (k + 2) (0 + byt l 0 * 2 ^ (8 * 0) + byt l 1 * 2 ^ (8 * 1)) 2 (by omega) (by omega)
  have s3 := word_step h (k + 1) (0 + byt l 0 * 2 ^ (8 * 0) + byt l 1 * 2 ^ (8 * 1) + byt l 2 * 2 ^ (8 * 2)) 3 (by omega) (by omega)
  refine (s0.trans (s1.trans (s2.trans (s3.trans ?_))))
  simp only [field_Word.l0]
  rw [if_neg (by omega)]
  congr 2
  unfold wordN; omega
theorem bytes_mem (w : Int) (_h0 : 0 ≤ w) : ∀ x ∈ ([w % 256, (w / 256) % 256, (w / 65536) % 256, (w / 16777216) % 256] : List Int), 0 ≤ x ∧ x ≤ 255 := by
  intro x hx
  simp only [List.mem_cons, List.not_mem_nil, or_false] at hx
  rcases hx with rfl | rfl | rfl | rfl <;> omega
theorem word_bytes (w : Int) (h0 : 0 ≤ w) (h1 : w < 4294967296) : ((wordN ([w % 256, (w / 256) % 256, (w / 65536) % 256, (w / 16777216) % 256] : List Int) : Nat) : Int) = w := by
  unfold wordN byt; simp only [List.getD_cons_zero, List.getD_cons_succ]; omega
theorem up_eq : ∀ k, 6 ≤ k → dowellaw01_up.f k = some true := by
  intro k hk
  unfold dowellaw01_up.f
  have g := get_in 240 4 4 (by decide) (by decide) (by decide)
  have p := put_in 0 4 4 15 (by decide) (by decide) (by decide) (by decide)
  have e1 : field_Get.f 240 4 4 = some 15 := g
  have e2 : field_Put.f 0 4 4 15 = some 240 := p
  have e3 : field_Sign.f 15 4 = some (-1) := by decide +kernel
  have e4 : field_Word.f k [1, 2] = some 513 := word_eq (by decide) k (by omega)
  rw [e1, e2, e3, e4]; rfl

theorem one (x : Nat) (hx : x < 2 ^ 32) (p : Nat) (hp : p < 32) : field_Get.f (x : Int) (p : Int) 1 = some ((getN x p 1 : Nat) : Int) := get_in x p 1 hx (by omega) (by omega)
theorem beside (w at_ b v o : Nat) (h : o < at_ ∨ at_ + b ≤ o) : getN (putN w at_ b v) o 1 = getN w o 1 := by
  apply Nat.eq_of_testBit_eq; intro i
  rw [getN_bit, getN_bit]
  by_cases hi : i < 1
  · rw [putN_bit, if_neg (by omega)]
  · rw [decide_eq_false hi]; simp
theorem inside (w at_ b v o : Nat) (h : at_ ≤ o ∧ o < at_ + b) : getN (putN w at_ b v) o 1 = getN v (o - at_) 1 := by
  apply Nat.eq_of_testBit_eq; intro i
  rw [getN_bit, getN_bit]
  by_cases hi : i < 1
  · rw [putN_bit, if_pos (by omega)]; congr 2; omega
  · rw [decide_eq_false hi]; simp
theorem j2_same (k : Nat) (x0 x1 x3 x4 x12 r : Int) (h0 : field_Get.f x12 x4 1 = some r) (h1 : field_Get.f x0 x4 1 = some r) : dowellaw01_FieldBack.j2 (k + 1) x0 x1 x3 x4 true x12 true = some true := by
  simp only [dowellaw01_FieldBack.j2, if_true]
  rw [h0, h1]; simp only [Option.bind_some, beq_self_eq_true]
theorem j2_other (k : Nat) (x0 x1 x3 x4 x12 r : Int) (h0 : field_Get.f x12 x4 1 = some r) (h1 : field_Get.f x3 (wrap64 (x4 - x1)) 1 = some r) : dowellaw01_FieldBack.j2 (k + 1) x0 x1 x3 x4 true x12 false = some true := by
  simp only [dowellaw01_FieldBack.j2, if_true, Bool.false_eq_true, if_false]
  rw [h0, h1]; simp only [Option.bind_some, beq_self_eq_true]
theorem j1_all (k w at_ b v o : Nat) (hw : w < 2 ^ 32) (hv : v < 2 ^ 32) (h0 : 1 ≤ b) (h : at_ + b ≤ 32) (ho : o < 32) : dowellaw01_FieldBack.j1 (k + 2) (w : Int) (at_ : Int) (b : Int) (v : Int) (o : Int) true ((putN w at_ b v : Nat) : Int) false = some true := by
  have hx := putN_lt w at_ b v hw h
  have hs := beside w at_ b v o
  have hi := inside w at_ b v o
  generalize putN w at_ b v = X at hx hs hi ⊢
  simp only [dowellaw01_FieldBack.j1, Bool.false_eq_true, if_false]
  have hwab : wrap64 ((at_ : Int) + (b : Int)) = (at_ : Int) + (b : Int) := by unfold wrap64; omega
  have g := one X hx o ho
  have gw := one w hw o ho
  by_cases h7 : (o : Int) < (at_ : Int)
  · rw [if_pos h7]
    rw [hs (by omega)] at g
    exact j2_same k _ _ _ _ _ _ g gw
  · rw [if_neg h7, hwab]
    by_cases h8 : (o : Int) ≥ (at_ : Int) + (b : Int)
    · rw [decide_eq_true h8]
      rw [hs (by omega)] at g
      exact j2_same k _ _ _ _ _ _ g gw
    · rw [decide_eq_false h8]
      have hwo : wrap64 ((o : Int) - (at_ : Int)) = ((o - at_ : Nat) : Int) := by unfold wrap64; omega
      rw [hi (by omega)] at g
      exact j2_other k _ _ _ _ _ _ g (by rw [hwo]; exact one v hv (o - at_) (by omega))
theorem back1 (w at_ b v : Nat) : putN (putN w at_ b v) at_ b (getN w at_ b) = w := by
  apply Nat.eq_of_testBit_eq; intro i
  rw [putN_bit, putN_bit, getN_bit]
  by_cases h : at_ ≤ i ∧ i < at_ + b
  · rw [if_pos h, decide_eq_true (by omega), show at_ + (i - at_) = i by omega]; simp
  · rw [if_neg h, if_neg h]
theorem back2 (w at_ b v : Nat) : getN (putN w at_ b v) at_ b = getN v 0 b := by
  apply Nat.eq_of_testBit_eq; intro i
  rw [getN_bit, getN_bit, putN_bit]
  by_cases h : i < b
  · rw [if_pos (by omega)]; congr 2; omega
  · rw [decide_eq_false h]; simp
theorem j0_of (k : Nat) (x0 x1 x2 x3 x4 p g r : Int) (h1 : field_Put.f x0 x1 x2 x3 = some p) (h2 : field_Get.f x0 x1 x2 = some g) (h3 : field_Put.f p x1 x2 g = some x0) (h4 : field_Get.f p x1 x2 = some r) (h5 : field_Get.f x3 0 x2 = some r)
    (h : dowellaw01_FieldBack.j1 k x0 x1 x2 x3 x4 true p false = some true) : dowellaw01_FieldBack.j0 (k + 1) x0 x1 x2 x3 x4 true false = some true := by
  simp only [dowellaw01_FieldBack.j0, Bool.false_eq_true, if_false]
  rw [h1, h2]
  simp only [Option.bind_some]
  rw [h3, h4, h5]
  simp only [Option.bind_some, if_true, bne_self_eq_false]
  exact h

theorem FieldBack : dowellaw01_FieldBack.Pure := by
  intro w at_ b v o hw ha hb hv ho
  have hw := u32_range hw
  have hv := u32_range hv
  have ha := i64_range ha
  have hb := i64_range hb
  have ho := i64_range ho
  refine ⟨10, ?_⟩
  unfold dowellaw01_FieldBack.f
  rw [up_eq 10 (by omega)]
  have ew : (field_Bytes.f w).bind (fun t => field_Word.f 10 t) = some w := by
    unfold field_Bytes.f
    rw [Option.bind_some, word_eq (bytes_mem w hw.1) 10 (by omega), word_bytes w hw.1 hw.2]
  unfold field_Bytes.f at ew ⊢
  simp only [Option.bind_some] at ew ⊢
  rw [ew]
  simp only [Option.bind_some, if_true]
  have out : dowellaw01_FieldBack.j0 10 w at_ b v o true true = some true := by simp only [dowellaw01_FieldBack.j0, if_true]
  by_cases h1 : b < 1
  · rw [if_pos h1, out]
  by_cases h2 : b > 32
  · rw [if_neg h1, if_pos h2, out]
  by_cases h3 : at_ < 0
  · rw [if_neg h1, if_neg h2, if_pos h3, out]
  have hw32 : wrap64 (32 - b) = 32 - b := by unfold wrap64; omega
  rw [if_neg h1, if_neg h2, if_neg h3, hw32]
  by_cases h4 : at_ > 32 - b
  · rw [if_pos h4, out]
  by_cases h5 : o < 0
  · rw [if_neg h4, if_pos h5, out]
  by_cases h6 : o > 31
  · rw [if_neg h4, if_neg h5, decide_eq_true h6, out]
  rw [if_neg h4, if_neg h5, decide_eq_false h6]
  obtain ⟨w, rfl⟩ := Int.eq_ofNat_of_zero_le hw.1
  obtain ⟨v, rfl⟩ := Int.eq_ofNat_of_zero_le hv.1
  obtain ⟨at_, rfl⟩ := Int.eq_ofNat_of_zero_le (show 0 ≤ at_ by omega)
  obtain ⟨b, rfl⟩ := Int.eq_ofNat_of_zero_le (show 0 ≤ b by omega)
  obtain ⟨o, rfl⟩ := Int.eq_ofNat_of_zero_le (show 0 ≤ o by omega)
  have hwn : w < 2 ^ 32 := by omega
  have hvn : v < 2 ^ 32 := by omega
  have hx := putN_lt w at_ b v hwn (by omega)
  have hg := getN_lt w at_ b
  have hq := pow_le32 (b := b) (by omega)
  refine j0_of 9 _ _ _ _ _ _ _ _ (put_in w at_ b v hwn hvn (by omega) (by omega)) (get_in w at_ b hwn (by omega) (by omega)) ?_ (get_in _ at_ b hx (by omega) (by omega)) ?_ (j1_all 7 w at_ b v o hwn hvn (by omega) (by omega) (by omega))
  · rw [put_in _ at_ b (getN w at_ b) hx (by omega) (by omega) (by omega), back1]
  · rw [back2]; exact get_in v 0 b hvn (by omega) (by omega)

end Go.Proofs.Ytfoecgcjipckmaa.Pure
