/- FieldBits: for all words, places, widths, values the program and the reference tell the same bits, put, and numbers with a sign. No condition. -/
import Derived.Test.YtfoecgcjipckmaaMineFieldBitsB
namespace Go.Proofs.Ytfoecgcjipckmaa.Pure
open Go.RowKit Go.Proofs.Ytfoecgcjipckmaa.PFieldBits Go.Proofs.YtfoecgcjipckmaaW.PrintWords Go.Proofs.YtfoecgcjipckmaaW.PrintLast Go.Proofs.YtfoecgcjipckmaaW.PrintMore

theorem u32_range {x : Int} (h : (Lit.int .u32 x).wf = true) : 0 ≤ x ∧ x < 4294967296 := by
  simp [Lit.wf, IntKind.min, IntKind.max, IntKind.signed, IntKind.bits] at h; omega
theorem i64_range {x : Int} (h : (Lit.int .i64 x).wf = true) : -9223372036854775808 ≤ x ∧ x ≤ 9223372036854775807 := by
  simp [Lit.wf, IntKind.min, IntKind.max, IntKind.signed, IntKind.bits] at h; omega
theorem u8_range {x : Int} (h : (Lit.int .u8 x).wf = true) : 0 ≤ x ∧ x ≤ 255 := by
  simp [Lit.wf, IntKind.min, IntKind.max, IntKind.signed, IntKind.bits] at h; omega
theorem wu32 (n : Int) (h0 : 0 ≤ n) (h1 : n < 2 ^ 32) : IntKind.u32.wrap n = n := by rw [IntKind.wrap_u32]; omega
theorem nat_u32 (n : Nat) (h : n < 2 ^ 32) : IntKind.u32.wrap (n : Int) = (n : Int) := by rw [IntKind.wrap_u32]; omega
theorem bv_u32 (a : Nat) (h : a < 2 ^ 32) : (BitVec.ofInt 32 (a : Int)).toNat = a := by
  rw [BitVec.ofInt_natCast, BitVec.toNat_ofNat]; exact Nat.mod_eq_of_lt h
theorem and_u32 (a b : Nat) (ha : a < 2 ^ 32) (hb : b < 2 ^ 32) : Go.bits .and .u32 (a : Int) (b : Int) = ((a &&& b : Nat) : Int) := by
  show IntKind.u32.wrap ((BitVec.ofInt 32 (a : Int) &&& BitVec.ofInt 32 (b : Int)).toNat : Int) = _
  rw [BitVec.toNat_and, bv_u32 a ha, bv_u32 b hb]; exact nat_u32 _ (Nat.and_lt_two_pow _ hb)
theorem or_u32 (a b : Nat) (ha : a < 2 ^ 32) (hb : b < 2 ^ 32) : Go.bits .or .u32 (a : Int) (b : Int) = ((a ||| b : Nat) : Int) := by
  show IntKind.u32.wrap ((BitVec.ofInt 32 (a : Int) ||| BitVec.ofInt 32 (b : Int)).toNat : Int) = _
  rw [BitVec.toNat_or, bv_u32 a ha, bv_u32 b hb]; exact nat_u32 _ (Nat.or_lt_two_pow ha hb)
theorem andNot_u32 (a b : Nat) (ha : a < 2 ^ 32) (hb : b < 2 ^ 32) : ∃ c : Nat, Go.bits .andNot .u32 (a : Int) (b : Int) = (c : Int) ∧ c < 2 ^ 32 ∧ ∀ i, c.testBit i = (a.testBit i && !b.testBit i) := by
  refine ⟨(BitVec.ofInt 32 (a : Int) &&& ~~~BitVec.ofInt 32 (b : Int)).toNat, ?_, BitVec.isLt _, fun i => ?_⟩
  · show IntKind.u32.wrap _ = _
    exact nat_u32 _ (BitVec.isLt _)
  · rw [BitVec.toNat_and, Nat.testBit_and, bv_u32 a ha]
    by_cases hi : i < 32
    · congr 1
      have : (~~~BitVec.ofInt 32 (b : Int)).toNat.testBit i = (~~~BitVec.ofInt 32 (b : Int)).getLsbD i := rfl
      rw [this, BitVec.getLsbD_not]
      have : (BitVec.ofInt 32 (b : Int)).getLsbD i = (BitVec.ofInt 32 (b : Int)).toNat.testBit i := rfl
      rw [this, bv_u32 b hb]; simp [hi]
    · have e : a.testBit i = false := Nat.testBit_lt_two_pow (Nat.lt_of_lt_of_le ha (Nat.pow_le_pow_right (by decide) (by omega)))
      rw [e]; simp
/-- Some bits. -/
def getN (w at_ b : Nat) : Nat := w / 2 ^ at_ % 2 ^ b
/-- Some bits, put. -/
def putN (w at_ b v : Nat) : Nat := 2 ^ (at_ + b) * (w / 2 ^ (at_ + b)) + (2 ^ at_ * (v % 2 ^ b) + w % 2 ^ at_)
theorem getN_bit (w at_ b i : Nat) : (getN w at_ b).testBit i = (decide (i < b) && w.testBit (at_ + i)) := by
  unfold getN; rw [Nat.testBit_mod_two_pow, Nat.testBit_div_two_pow, Nat.add_comm]
theorem mid_lt (w at_ b v : Nat) : 2 ^ at_ * (v % 2 ^ b) + w % 2 ^ at_ < 2 ^ (at_ + b) := by
  have h1 : v % 2 ^ b < 2 ^ b := Nat.mod_lt _ (Nat.two_pow_pos b)
  have h2 : w % 2 ^ at_ < 2 ^ at_ := Nat.mod_lt _ (Nat.two_pow_pos at_)
  have h3 : 2 ^ at_ * (v % 2 ^ b + 1) ≤ 2 ^ at_ * 2 ^ b := Nat.mul_le_mul_left _ h1
  rw [Nat.mul_add, Nat.mul_one] at h3
  rw [Nat.pow_add]; omega
theorem putN_bit (w at_ b v i : Nat) : (putN w at_ b v).testBit i = if at_ ≤ i ∧ i < at_ + b then v.testBit (i - at_) else w.testBit i := by
  unfold putN
  rw [Nat.testBit_two_pow_mul_add _ (mid_lt w at_ b v)]
  by_cases h1 : i < at_ + b
  · rw [if_pos h1, Nat.testBit_two_pow_mul_add _ (Nat.mod_lt _ (Nat.two_pow_pos at_))]
    by_cases h2 : i < at_
    · rw [if_pos h2, if_neg (by omega), Nat.testBit_mod_two_pow]; simp [h2]
    · rw [if_neg h2, if_pos ⟨by omega, h1⟩, Nat.testBit_mod_two_pow]; simp; omega
  · rw [if_neg h1, if_neg (by omega), Nat.testBit_div_two_pow]; congr 1; omega
theorem lt_of_bits {n k : Nat} (h : ∀ i, k ≤ i → n.testBit i = false) : n < 2 ^ k := Nat.lt_pow_two_of_testBit n h
theorem bit_high {n k i : Nat} (h : n < 2 ^ k) (hi : k ≤ i) : n.testBit i = false := Nat.testBit_lt_two_pow (Nat.lt_of_lt_of_le h (Nat.pow_le_pow_right (by decide) hi))
theorem putN_lt (w at_ b v : Nat) (hw : w < 2 ^ 32) (h : at_ + b ≤ 32) : putN w at_ b v < 2 ^ 32 := by
  apply lt_of_bits
  intro i hi
  rw [putN_bit, if_neg (by omega)]; exact bit_high hw hi
theorem getN_lt (w at_ b : Nat) : getN w at_ b < 2 ^ b := Nat.mod_lt _ (Nat.two_pow_pos b)
theorem pow_le32 {b : Nat} (h : b ≤ 32) : 2 ^ b ≤ 2 ^ 32 := Nat.pow_le_pow_right (by decide) h
theorem wrap_sub (b : Nat) (h : b ≤ 32) : wrap64 (32 - (b : Int)) = ((32 - b : Nat) : Int) := by unfold wrap64; omega
theorem mask_eq (b : Nat) (h0 : 1 ≤ b) (h : b ≤ 32) : field_mask.f (b : Int) = some (((2 ^ b - 1 : Nat) : Int)) := by
  unfold field_mask.f
  rw [wrap_sub b h, if_pos (by omega)]
  congr 1
  unfold shr
  show (4294967295 : Int) / 2 ^ min ((32 - b : Nat) : Int).toNat 32 = _
  rw [Int.toNat_natCast, Nat.min_eq_left (by omega)]
  have e : (4294967295 : Nat) / 2 ^ (32 - b) = 2 ^ b - 1 := by
    have h2 : 2 ^ (32 - b) * 2 ^ b = 4294967296 := by rw [← Nat.pow_add, show 32 - b + b = 32 by omega]
    have h3 : 0 < 2 ^ (32 - b) := Nat.two_pow_pos _
    have h4 : 0 < 2 ^ b := Nat.two_pow_pos _
    have h5 : 2 ^ (32 - b) * (2 ^ b - 1) + 2 ^ (32 - b) = 4294967296 := by
      rw [← h2, ← Nat.mul_succ]; congr 1; omega
    rw [Nat.div_eq_of_lt_le]
    · rw [Nat.mul_comm]; omega
    · rw [Nat.mul_comm, Nat.mul_succ]; omega
  rw [← e]; simp
theorem in_eq (at_ b : Int) (ha : -9223372036854775808 ≤ at_ ∧ at_ ≤ 9223372036854775807) (hb : -9223372036854775808 ≤ b ∧ b ≤ 9223372036854775807) :
    field_in.f at_ b = some (decide (1 ≤ b ∧ b ≤ 32 ∧ 0 ≤ at_ ∧ at_ ≤ 32 - b)) := by
  unfold field_in.f
  by_cases h1 : b ≥ 1
  · rw [if_pos h1]
    by_cases h2 : b ≤ 32
    · rw [if_pos h2]
      have hw : wrap64 (32 - b) = 32 - b := by unfold wrap64; omega
      rw [hw]
      by_cases h3 : at_ ≥ 0
      · rw [if_pos h3]; congr 1; rw [decide_eq_decide]; omega
      · rw [if_neg h3]; congr 1; symm; rw [decide_eq_false_iff_not]; omega
    · rw [if_neg h2]; congr 1; symm; rw [decide_eq_false_iff_not]; omega
  · rw [if_neg h1]; congr 1; symm; rw [decide_eq_false_iff_not]; omega
theorem get_in (w at_ b : Nat) (hw : w < 2 ^ 32) (h0 : 1 ≤ b) (h : at_ + b ≤ 32) : field_Get.f (w : Int) (at_ : Int) (b : Int) = some ((getN w at_ b : Nat) : Int) := by
  unfold field_Get.f
  rw [in_eq _ _ (by omega) (by omega), Option.bind_some, decide_eq_true (by omega), if_pos rfl, if_pos (by omega), mask_eq b h0 (by omega), Option.bind_some]
  congr 1
  unfold shr
  show Go.bits .and .u32 ((w : Int) / 2 ^ min (at_ : Int).toNat 32) _ = _
  rw [Int.toNat_natCast, Nat.min_eq_left (by omega)]
  have e : (w : Int) / 2 ^ at_ = ((w / 2 ^ at_ : Nat) : Int) := by simp
  have hp := Nat.two_pow_pos b
  have hq := pow_le32 (b := b) (by omega)
  rw [e, and_u32 _ _ (Nat.lt_of_le_of_lt (Nat.div_le_self _ _) hw) (by omega), Nat.and_two_pow_sub_one_eq_mod]; rfl
theorem get_out (w at_ b : Int) (ha : -9223372036854775808 ≤ at_ ∧ at_ ≤ 9223372036854775807) (hb : -9223372036854775808 ≤ b ∧ b ≤ 9223372036854775807) (h : ¬ (1 ≤ b ∧ b ≤ 32 ∧ 0 ≤ at_ ∧ at_ ≤ 32 - b)) :
    field_Get.f w at_ b = some 0 := by
  unfold field_Get.f
  rw [in_eq _ _ ha hb, Option.bind_some, decide_eq_false h]; rfl
theorem shl_u32 (x at_ : Nat) (ha : at_ ≤ 32) : shl .u32 (x : Int) (at_ : Int) = ((x * 2 ^ at_ % 2 ^ 32 : Nat) : Int) := by
  unfold shl
  show IntKind.u32.wrap ((x : Int) * 2 ^ min (at_ : Int).toNat 32) = _
  rw [Int.toNat_natCast, Nat.min_eq_left ha, IntKind.wrap_u32]
  have e : (x : Int) * 2 ^ at_ = ((x * 2 ^ at_ : Nat) : Int) := by simp
  rw [e]; omega
theorem put_in (w at_ b v : Nat) (hw : w < 2 ^ 32) (hv : v < 2 ^ 32) (h0 : 1 ≤ b) (h : at_ + b ≤ 32) : field_Put.f (w : Int) (at_ : Int) (b : Int) (v : Int) = some ((putN w at_ b v : Nat) : Int) := by
  unfold field_Put.f
  rw [in_eq _ _ (by omega) (by omega), Option.bind_some, decide_eq_true (by omega), if_pos rfl, mask_eq b h0 (by omega), Option.bind_some, if_pos (by omega)]
  congr 1
  have hp := Nat.two_pow_pos b
  have hq := pow_le32 (b := b) (by omega)
  rw [and_u32 v _ hv (by omega), Nat.and_two_pow_sub_one_eq_mod, shl_u32 _ _ (by omega), shl_u32 _ _ (by omega)]
  obtain ⟨c, hc, hcl, hcb⟩ := andNot_u32 w ((2 ^ b - 1) * 2 ^ at_ % 2 ^ 32) hw (Nat.mod_lt _ (by decide))
  rw [hc, or_u32 _ _ hcl (Nat.mod_lt _ (by decide))]
  congr 1
  apply Nat.eq_of_testBit_eq
  intro i
  rw [Nat.testBit_or, hcb, putN_bit, Nat.testBit_mod_two_pow, Nat.testBit_mod_two_pow, Nat.mul_comm, Nat.testBit_two_pow_mul, Nat.mul_comm (v % 2 ^ b), Nat.testBit_two_pow_mul, Nat.testBit_two_pow_sub_one, Nat.testBit_mod_two_pow]
  by_cases h1 : at_ ≤ i ∧ i < at_ + b
  · rw [if_pos h1, decide_eq_true h1.1, decide_eq_true (show i - at_ < b by omega), decide_eq_true (show i < 32 by omega)]; simp
  · rw [if_neg h1]
    by_cases h2 : at_ ≤ i
    · rw [decide_eq_false (show ¬ i - at_ < b by omega)]; simp
    · rw [decide_eq_false h2]; simp
theorem put_out (w at_ b v : Int) (ha : -9223372036854775808 ≤ at_ ∧ at_ ≤ 9223372036854775807) (hb : -9223372036854775808 ≤ b ∧ b ≤ 9223372036854775807) (h : ¬ (1 ≤ b ∧ b ≤ 32 ∧ 0 ≤ at_ ∧ at_ ≤ 32 - b)) :
    field_Put.f w at_ b v = some w := by
  unfold field_Put.f
  rw [in_eq _ _ ha hb, Option.bind_some, decide_eq_false h]; rfl
theorem join (x y i : Nat) (hx : x < 2 ^ i) (hy : y * 2 ^ i < 2 ^ 32) (hi : i ≤ 32) : Go.bits .or .u32 (x : Int) ((y : Int) * 2 ^ i) = ((x + y * 2 ^ i : Nat) : Int) := by
  have e : (y : Int) * 2 ^ i = ((y * 2 ^ i : Nat) : Int) := by simp
  rw [e, or_u32 _ _ (Nat.lt_of_lt_of_le hx (pow_le32 hi)) hy, Nat.or_comm, Nat.mul_comm, ← Nat.two_pow_add_eq_or_of_lt hx, Nat.add_comm]
/-- The byte at place i, 0 behind the end. -/
def byt (l : List Int) (i : Nat) : Nat := (l.getD i 0).toNat
theorem byt_le {l : List Int} (h : ∀ x ∈ l, 0 ≤ x ∧ x ≤ 255) (i : Nat) : byt l i ≤ 255 := by
  unfold byt
  by_cases hi : i < l.length
  · rw [List.getD_eq_getElem?_getD, List.getElem?_eq_getElem hi]
    have := h _ (List.getElem_mem hi); simp; omega
  · rw [List.getD_eq_getElem?_getD, List.getElem?_eq_none (by omega)]; simp
theorem byt_rd {l : List Int} (h : ∀ x ∈ l, 0 ≤ x ∧ x ≤ 255) (i : Nat) (hi : i < l.length) : rd l (i : Int) = (byt l i : Int) := by
  unfold rd byt
  rw [Int.toNat_natCast, List.getD_eq_getElem?_getD, List.getElem?_eq_getElem hi]
  have := h _ (List.getElem_mem hi); simp; omega
theorem byt_none {l : List Int} (i : Nat) (hi : ¬ i < l.length) : byt l i = 0 := by
  unfold byt; rw [List.getD_eq_getElem?_getD, List.getElem?_eq_none (by omega)]; rfl
/-- The word of bytes. -/
def wordN (l : List Int) : Nat := byt l 0 + byt l 1 * 256 + byt l 2 * 65536 + byt l 3 * 16777216
theorem word_step {l : List Int} (h : ∀ x ∈ l, 0 ≤ x ∧ x ≤ 255) (k x i : Nat) (hi : i < 4) (hx : x < 2 ^ (8 * i)) :
    field_Word.l0 (k + 1) l (x : Int) (i : Int) = field_Word.l0 k l ((x + byt l i * 2 ^ (8 * i) : Nat) : Int) ((i + 1 : Nat) : Int) := by
  simp only [field_Word.l0]
  have hw : wrap64 ((i : Int) + 1) = ((i + 1 : Nat) : Int) := by unfold wrap64; omega
  rw [if_pos (by omega), hw]
  by_cases hl : i < l.length
  · have hw8 : wrap64 (8 * (i : Int)) = ((8 * i : Nat) : Int) := by unfold wrap64; omega
    have hb := byt_le h i
    rw [if_pos (by omega), if_pos (by omega), hw8, if_pos (by omega), byt_rd h i hl]
    have hm : (byt l i : Int) % 4294967296 = (byt l i : Int) := by omega
    have hp : byt l i * 2 ^ (8 * i) < 2 ^ 32 := by
      have h1 : byt l i * 2 ^ (8 * i) < 2 ^ 8 * 2 ^ (8 * i) := (Nat.mul_lt_mul_right (Nat.two_pow_pos _)).2 (by omega)
      rw [← Nat.pow_add] at h1
      exact Nat.lt_of_lt_of_le h1 (Nat.pow_le_pow_right (by decide) (by omega))
    have hs : shl .u32 (byt l i : Int) ((8 * i : Nat) : Int) = (byt l i : Int) * 2 ^ (8 * i) := by
      rw [shl_u32 _ _ (by omega), Nat.mod_eq_of_lt hp]; simp
    rw [hm, hs, join x _ _ hx hp (by omega)]
  · rw [if_neg (by omega), byt_none i hl]; simp
theorem word_eq {l : List Int} (h : ∀ x ∈ l, 0 ≤ x ∧ x ≤ 255) (k : Nat) (hk : 5 ≤ k) : field_Word.f k l = some ((wordN l : Nat) : Int) := by
  obtain ⟨k, rfl⟩ : ∃ m, k = m + 5 := ⟨k - 5, by omega⟩
  unfold field_Word.f
  have b0 := byt_le h 0
  have b1 := byt_le h 1
  have b2 := byt_le h 2
  have s0 := word_step h (k + 4) 0 0 (by omega) (by decide)
  have s1 := word_step h (k + 3) (0 + byt l 0 * 2 ^ (8 * 0)) 1 (by omega) (by omega)
  have s2 := word_step h (k + 2) (0 + byt l 0 * 2 ^ (8 * 0) + byt l 1 * 2 ^ (8 * 1)) 2 (by omega) (by omega)
  have s3 := word_step h (k + 1) (0 + byt l 0 * 2 ^ (8 * 0) + byt l 1 * 2 ^ (8 * 1) + byt l 2 * 2 ^ (8 * 2)) 3 (by omega) (by omega)
  refine (s0.trans (s1.trans (s2.trans (s3.trans ?_))))
  simp only [field_Word.l0]
  rw [if_neg (by omega)]
  congr 2
  unfold wordN; omega
theorem bytes_mem (w : Int) (_h0 : 0 ≤ w) : ∀ x ∈ ([w % 256, (w / 256) % 256, (w / 65536) % 256, (w / 16777216) % 256] : List Int), 0 ≤ x ∧ x ≤ 255 := by
  intro x hx
  simp only [List.mem_cons, List.not_mem_nil, or_false] at hx
  rcases hx with rfl | rfl | rfl | rfl <;> omega
theorem word_bytes (w : Int) (h0 : 0 ≤ w) (h1 : w < 4294967296) : ((wordN ([w % 256, (w / 256) % 256, (w / 65536) % 256, (w / 16777216) % 256] : List Int) : Nat) : Int) = w := by
  unfold wordN byt; simp only [List.getD_cons_zero, List.getD_cons_succ]; omega
theorem up_eq : ∀ k, 6 ≤ k → dowellaw01_up.f k = some true := by
  intro k hk
  unfold dowellaw01_up.f
  have g := get_in 240 4 4 (by decide) (by decide) (by decide)
  have p := put_in 0 4 4 15 (by decide) (by decide) (by decide) (by decide)
  have e1 : field_Get.f 240 4 4 = some 15 := g
  have e2 : field_Put.f 0 4 4 15 = some 240 := p
  have e3 : field_Sign.f 15 4 = some (-1) := by decide +kernel
  have e4 : field_Word.f k [1, 2] = some 513 := word_eq (by decide) k (by omega)
  rw [e1, e2, e3, e4]; rfl

theorem two_loop (k : Nat) (n j : Nat) (hn : n ≤ 62) (hj : j ≤ n) (hk : n - j < k) : dowelref01_Two.l0 k (n : Int) ((2 ^ j : Nat) : Int) (j : Int) = some ((2 ^ n : Nat) : Int) := by
  induction k generalizing j with
  | zero => omega
  | succ k ih =>
    simp only [dowelref01_Two.l0]
    by_cases h : j < n
    · have hp : 2 ^ (j + 1) ≤ 2 ^ 62 := Nat.pow_le_pow_right (by decide) (by omega)
      rw [Nat.pow_succ] at hp
      have e1 : wrap64 (2 * ((2 ^ j : Nat) : Int)) = ((2 ^ (j + 1) : Nat) : Int) := by rw [Nat.pow_succ]; unfold wrap64; omega
      have e2 : wrap64 ((j : Int) + 1) = ((j + 1 : Nat) : Int) := by unfold wrap64; omega
      rw [if_pos (by omega), e1, e2]
      exact ih (j + 1) (by omega) (by omega)
    · have : j = n := by omega
      subst this
      rw [if_neg (by omega)]
theorem two_eq (k n : Nat) (hn : n ≤ 62) (hk : n < k) : dowelref01_Two.f k (n : Int) = some ((2 ^ n : Nat) : Int) := by
  unfold dowelref01_Two.f
  exact two_loop k n 0 hn (by omega) (by omega)
theorem w64 (n : Nat) (h : n < 2 ^ 63) : wrap64 (n : Int) = (n : Int) := by unfold wrap64; omega
theorem pow_bd {b : Nat} (h : b ≤ 32) : 0 < 2 ^ b ∧ 2 ^ b ≤ 4294967296 := ⟨Nat.two_pow_pos b, pow_le32 h⟩
theorem refget_in (k w at_ b : Nat) (hw : w < 2 ^ 32) (h0 : 1 ≤ b) (h : at_ + b ≤ 32) (hk : 34 ≤ k) : dowelref01_Get.f k (w : Int) (at_ : Int) (b : Int) = some ((getN w at_ b : Nat) : Int) := by
  obtain ⟨k, rfl⟩ : ∃ m, k = m + 1 := ⟨k - 1, by omega⟩
  unfold dowelref01_Get.f
  rw [if_neg (by omega), if_neg (by omega), if_neg (by omega), wrap_sub b (by omega), decide_eq_false (by omega)]
  simp only [dowelref01_Get.j0, Bool.false_eq_true, if_false]
  rw [two_eq k at_ (by omega) (by omega), two_eq k b (by omega) (by omega)]
  have pa := pow_bd (b := at_) (by omega)
  have pb := pow_bd (b := b) (by omega)
  have hd : w / 2 ^ at_ ≤ w := Nat.div_le_self _ _
  have hg := getN_lt w at_ b
  simp only [Option.bind_some]
  rw [if_neg (by omega), if_neg (by omega), w64 w (by omega)]
  have e1 : Int.tdiv (w : Int) ((2 ^ at_ : Nat) : Int) = ((w / 2 ^ at_ : Nat) : Int) := by
    rw [Int.tdiv_eq_ediv_of_nonneg (Int.natCast_nonneg _)]; exact (Int.natCast_ediv _ _).symm
  rw [e1, w64 (w / 2 ^ at_) (by omega)]
  have e2 : Int.tmod ((w / 2 ^ at_ : Nat) : Int) ((2 ^ b : Nat) : Int) = ((getN w at_ b : Nat) : Int) := by
    rw [Int.tmod_eq_emod_of_nonneg (Int.natCast_nonneg _)]; exact (Int.natCast_emod _ _).symm
  rw [e2]
  congr 1; omega
theorem refget_out (k : Nat) (w at_ b : Int) (hb : -9223372036854775808 ≤ b ∧ b ≤ 9223372036854775807) (h : ¬ (1 ≤ b ∧ b ≤ 32 ∧ 0 ≤ at_ ∧ at_ ≤ 32 - b)) (hk : 1 ≤ k) :
    dowelref01_Get.f k w at_ b = some 0 := by
  obtain ⟨k, rfl⟩ : ∃ m, k = m + 1 := ⟨k - 1, by omega⟩
  have out : dowelref01_Get.j0 (k + 1) w at_ b true = some 0 := by simp only [dowelref01_Get.j0, if_true]
  unfold dowelref01_Get.f
  by_cases h1 : b < 1
  · rw [if_pos h1, out]
  by_cases h2 : b > 32
  · rw [if_neg h1, if_pos h2, out]
  by_cases h3 : at_ < 0
  · rw [if_neg h1, if_neg h2, if_pos h3, out]
  have hw : wrap64 (32 - b) = 32 - b := by unfold wrap64; omega
  rw [if_neg h1, if_neg h2, if_neg h3, hw, decide_eq_true (by omega), out]
theorem put_sum (w at_ b v : Nat) : ((putN w at_ b v : Nat) : Int) = (w : Int) - ((getN w at_ b * 2 ^ at_ : Nat) : Int) + ((v % 2 ^ b * 2 ^ at_ : Nat) : Int) := by
  have e : putN w at_ b (w / 2 ^ at_) = w := by
    apply Nat.eq_of_testBit_eq; intro i
    rw [putN_bit]
    by_cases h : at_ ≤ i ∧ i < at_ + b
    · rw [if_pos h, Nat.testBit_div_two_pow]; congr 1; omega
    · rw [if_neg h]
  have e2 : ((putN w at_ b (w / 2 ^ at_) : Nat) : Int) = (w : Int) := by rw [e]
  unfold putN at e2 ⊢
  unfold getN
  rw [Nat.mul_comm (w / 2 ^ at_ % 2 ^ b), Nat.mul_comm (v % 2 ^ b)]
  generalize 2 ^ (at_ + b) * (w / 2 ^ (at_ + b)) = A at e2 ⊢
  generalize 2 ^ at_ * (w / 2 ^ at_ % 2 ^ b) = B at e2 ⊢
  generalize 2 ^ at_ * (v % 2 ^ b) = C at e2 ⊢
  omega
theorem refput_in (k w at_ b v : Nat) (hw : w < 2 ^ 32) (hv : v < 2 ^ 32) (h0 : 1 ≤ b) (h : at_ + b ≤ 32) (hk : 35 ≤ k) : dowelref01_Put.f k (w : Int) (at_ : Int) (b : Int) (v : Int) = some ((putN w at_ b v : Nat) : Int) := by
  obtain ⟨k, rfl⟩ : ∃ m, k = m + 1 := ⟨k - 1, by omega⟩
  unfold dowelref01_Put.f
  rw [if_neg (by omega), if_neg (by omega), if_neg (by omega), wrap_sub b (by omega), decide_eq_false (by omega)]
  simp only [dowelref01_Put.j0, Bool.false_eq_true, if_false]
  rw [refget_in k w at_ b hw h0 h (by omega), two_eq k at_ (by omega) (by omega), two_eq k b (by omega) (by omega)]
  have pa := pow_bd (b := at_) (by omega)
  have pb := pow_bd (b := b) (by omega)
  have hg := getN_lt w at_ b
  have hs := put_sum w at_ b v
  have hl := putN_lt w at_ b v hw h
  have b1 : getN w at_ b * 2 ^ at_ < 2 ^ 32 := by
    have h1 : getN w at_ b * 2 ^ at_ < 2 ^ b * 2 ^ at_ := (Nat.mul_lt_mul_right pa.1).2 hg
    rw [← Nat.pow_add] at h1
    exact Nat.lt_of_lt_of_le h1 (pow_le32 (by omega))
  have b2 : v % 2 ^ b * 2 ^ at_ < 2 ^ 32 := by
    have h1 : v % 2 ^ b * 2 ^ at_ < 2 ^ b * 2 ^ at_ := (Nat.mul_lt_mul_right pa.1).2 (Nat.mod_lt _ pb.1)
    rw [← Nat.pow_add] at h1
    exact Nat.lt_of_lt_of_le h1 (pow_le32 (by omega))
  simp only [Option.bind_some]
  rw [if_neg (by omega), w64 w (by omega), w64 v (by omega), w64 _ (show getN w at_ b < 2 ^ 63 by omega)]
  have e1 : Int.tmod (v : Int) ((2 ^ b : Nat) : Int) = ((v % 2 ^ b : Nat) : Int) := by
    rw [Int.tmod_eq_emod_of_nonneg (Int.natCast_nonneg _)]; exact (Int.natCast_emod _ _).symm
  rw [e1]
  have e2 : ((getN w at_ b : Nat) : Int) * ((2 ^ at_ : Nat) : Int) = ((getN w at_ b * 2 ^ at_ : Nat) : Int) := (Int.natCast_mul _ _).symm
  have e3 : ((v % 2 ^ b : Nat) : Int) * ((2 ^ at_ : Nat) : Int) = ((v % 2 ^ b * 2 ^ at_ : Nat) : Int) := (Int.natCast_mul _ _).symm
  rw [e2, e3, w64 (getN w at_ b * 2 ^ at_) (by omega), w64 _ (show v % 2 ^ b * 2 ^ at_ < 2 ^ 63 by omega)]
  generalize getN w at_ b * 2 ^ at_ = B at *
  generalize v % 2 ^ b * 2 ^ at_ = C at *
  generalize putN w at_ b v = X at *
  have f1 : wrap64 ((w : Int) - (B : Int)) = (w : Int) - (B : Int) := by unfold wrap64; omega
  have f2 : wrap64 ((w : Int) - (B : Int) + (C : Int)) = (w : Int) - (B : Int) + (C : Int) := by unfold wrap64; omega
  rw [f1, f2]
  congr 1; omega
theorem refput_out (k : Nat) (w at_ b v : Int) (hb : -9223372036854775808 ≤ b ∧ b ≤ 9223372036854775807) (h : ¬ (1 ≤ b ∧ b ≤ 32 ∧ 0 ≤ at_ ∧ at_ ≤ 32 - b)) (hk : 1 ≤ k) :
    dowelref01_Put.f k w at_ b v = some w := by
  obtain ⟨k, rfl⟩ : ∃ m, k = m + 1 := ⟨k - 1, by omega⟩
  have out : dowelref01_Put.j0 (k + 1) w at_ b v true = some w := by simp only [dowelref01_Put.j0, if_true]
  unfold dowelref01_Put.f
  by_cases h1 : b < 1
  · rw [if_pos h1, out]
  by_cases h2 : b > 32
  · rw [if_neg h1, if_pos h2, out]
  by_cases h3 : at_ < 0
  · rw [if_neg h1, if_neg h2, if_pos h3, out]
  have hw : wrap64 (32 - b) = 32 - b := by unfold wrap64; omega
  rw [if_neg h1, if_neg h2, if_neg h3, hw, decide_eq_true (by omega), out]
/-- The lowest bits, with a sign. -/
def signN (v b : Nat) : Int := if v % 2 ^ b ≥ 2 ^ (b - 1) then ((v % 2 ^ b : Nat) : Int) - ((2 ^ b : Nat) : Int) else ((v % 2 ^ b : Nat) : Int)
theorem half (b : Nat) (h0 : 1 ≤ b) : 2 ^ b = 2 * 2 ^ (b - 1) := by
  obtain ⟨c, rfl⟩ : ∃ c, b = c + 1 := ⟨b - 1, by omega⟩
  rw [Nat.pow_succ, show c + 1 - 1 = c by omega]; omega
theorem sign_in (v b : Nat) (h0 : 1 ≤ b) (h : b ≤ 32) : field_Sign.f (v : Int) (b : Int) = some (signN v b) := by
  unfold field_Sign.f
  rw [in_eq _ _ (by omega) (by omega), Option.bind_some, decide_eq_true (by omega), if_pos rfl, wrap_sub b h, if_pos (by omega), shl_u32 _ _ (by omega)]
  congr 1
  have hsum : 2 ^ 32 = 2 ^ b * 2 ^ (32 - b) := by rw [← Nat.pow_add]; congr 1; omega
  have e : v * 2 ^ (32 - b) % 2 ^ 32 = v % 2 ^ b * 2 ^ (32 - b) := by rw [hsum, Nat.mul_mod_mul_right]
  rw [e]
  have hu : v % 2 ^ b < 2 ^ b := Nat.mod_lt _ (Nat.two_pow_pos b)
  have hh := half b h0
  have hc : 0 < 2 ^ (32 - b) := Nat.two_pow_pos _
  unfold signN shr
  rw [Int.toNat_natCast, show min (32 - b) IntKind.i32.bits = 32 - b from Nat.min_eq_left (show 32 - b ≤ 32 by omega)]
  generalize v % 2 ^ b = u at *
  have hcast : ((2 : Int) ^ (32 - b)) = ((2 ^ (32 - b) : Nat) : Int) := by simp
  rw [hcast]
  generalize hC : 2 ^ (32 - b) = c at *
  generalize hH : 2 ^ (b - 1) = q at *
  rw [hh] at hsum hu ⊢
  have h31 : q * c = 2147483648 := by rw [Nat.mul_assoc] at hsum; omega
  by_cases hs : u ≥ q
  · rw [if_pos hs]
    have h2 : q * c ≤ u * c := Nat.mul_le_mul_right c hs
    have h3 : u * c < 2 * q * c := (Nat.mul_lt_mul_right hc).2 hu
    rw [Nat.mul_assoc] at h3
    have e2 : wrap32 ((u * c : Nat) : Int) = ((u : Int) - ((2 * q : Nat) : Int)) * (c : Int) := by
      rw [Int.sub_mul, ← Int.natCast_mul, ← Int.natCast_mul, Nat.mul_assoc]; unfold wrap32; omega
    rw [e2, Int.mul_ediv_cancel _ (by omega)]
  · rw [if_neg hs]
    have h3 : u * c < q * c := (Nat.mul_lt_mul_right hc).2 (by omega)
    have e2 : wrap32 ((u * c : Nat) : Int) = (u : Int) * (c : Int) := by rw [← Int.natCast_mul]; unfold wrap32; omega
    rw [e2, Int.mul_ediv_cancel _ (by omega)]
theorem refsign_val (u B q : Nat) (hb : 0 < B) (hB : B ≤ 4294967296) (hh : B = 2 * q) (hu : u < B) :
    wrap32 (wrap64 ((u : Int) - (B : Int))) = (if u ≥ q then (u : Int) - (B : Int) else wrap32 (wrap64 ((u : Int) - (B : Int)))) ∧ (¬ u ≥ q → wrap32 (u : Int) = (u : Int)) := by
  constructor
  · split
    · unfold wrap32 wrap64; omega
    · rfl
  · intro h; unfold wrap32; omega
theorem refsign_j (k : Nat) (v b m B q : Int) (h1 : dowelref01_Two.f k b = some B) (h2 : dowelref01_Two.f k (wrap64 (b - 1)) = some q) (h0 : B ≠ 0) (hm : Int.tmod (wrap64 v) B = m) :
    dowelref01_Sign.j0 (k + 1) v b false = some (if m ≥ q then wrap32 (wrap64 (m - B)) else wrap32 m) := by
  simp only [dowelref01_Sign.j0, Bool.false_eq_true, if_false]
  rw [h1, h2]
  simp only [Option.bind_some]
  rw [if_neg h0, hm]
  split <;> rfl
theorem refsign_in (k v b : Nat) (hv : v < 2 ^ 32) (h0 : 1 ≤ b) (h : b ≤ 32) (hk : 34 ≤ k) : dowelref01_Sign.f k (v : Int) (b : Int) = some (signN v b) := by
  obtain ⟨k, rfl⟩ : ∃ m, k = m + 1 := ⟨k - 1, by omega⟩
  unfold dowelref01_Sign.f
  rw [if_neg (by omega), decide_eq_false (by omega)]
  have hb1 : wrap64 ((b : Int) - 1) = ((b - 1 : Nat) : Int) := by unfold wrap64; omega
  have pb := pow_bd (b := b) (by omega)
  have hh := half b h0
  have hu : v % 2 ^ b < 2 ^ b := Nat.mod_lt _ pb.1
  have e1 : Int.tmod (wrap64 (v : Int)) ((2 ^ b : Nat) : Int) = ((v % 2 ^ b : Nat) : Int) := by
    rw [w64 v (by omega), Int.tmod_eq_emod_of_nonneg (Int.natCast_nonneg _)]; exact (Int.natCast_emod _ _).symm
  rw [refsign_j k v b _ _ _ (two_eq k b (by omega) (by omega)) (by rw [hb1]; exact two_eq k (b - 1) (by omega) (by omega)) (by omega) e1]
  have hr := refsign_val (v % 2 ^ b) (2 ^ b) (2 ^ (b - 1)) pb.1 pb.2 hh hu
  unfold signN
  by_cases hs : v % 2 ^ b ≥ 2 ^ (b - 1)
  · rw [if_pos (by omega), if_pos hs, hr.1, if_pos hs]
  · rw [if_neg (by omega), if_neg hs, hr.2 hs]
theorem sign_out (v b : Int) (hb : -9223372036854775808 ≤ b ∧ b ≤ 9223372036854775807) (h : ¬ (1 ≤ b ∧ b ≤ 32)) : field_Sign.f v b = some 0 := by
  unfold field_Sign.f
  rw [in_eq _ _ (by omega) hb, Option.bind_some, decide_eq_false (by omega)]; rfl
theorem refsign_out (k : Nat) (v b : Int) (h : ¬ (1 ≤ b ∧ b ≤ 32)) (hk : 1 ≤ k) : dowelref01_Sign.f k v b = some 0 := by
  obtain ⟨k, rfl⟩ : ∃ m, k = m + 1 := ⟨k - 1, by omega⟩
  have out : dowelref01_Sign.j0 (k + 1) v b true = some 0 := by simp only [dowelref01_Sign.j0, if_true]
  unfold dowelref01_Sign.f
  by_cases h1 : b < 1
  · rw [if_pos h1, out]
  · rw [if_neg h1, decide_eq_true (by omega), out]
theorem all_same (k : Nat) (w at_ b v g p s : Int) (h0 : dowellaw01_up.f k = some true) (h1 : field_Get.f w at_ b = some g) (h2 : dowelref01_Get.f k w at_ b = some g) (h3 : field_Put.f w at_ b v = some p) (h4 : dowelref01_Put.f k w at_ b v = some p) (h5 : field_Sign.f v b = some s) (h6 : dowelref01_Sign.f k v b = some s) :
    dowellaw01_FieldBits.f k w at_ b v = some true := by
  unfold dowellaw01_FieldBits.f
  rw [h0, h1, h2, h3, h4, h5, h6]
  simp only [Option.bind_some, if_true, beq_self_eq_true]
theorem FieldBits : dowellaw01_FieldBits.Pure := by
  intro w at_ b v hw ha hb hv
  have hw := u32_range hw
  have hv := u32_range hv
  have ha := i64_range ha
  have hb := i64_range hb
  obtain ⟨K, hK⟩ : ∃ K : Nat, 40 ≤ K := ⟨40, Nat.le_refl _⟩
  refine ⟨K, ?_⟩
  have hup := up_eq K (by omega)
  obtain ⟨s, hs1, hs2⟩ : ∃ s, field_Sign.f v b = some s ∧ dowelref01_Sign.f K v b = some s := by
    by_cases h : 1 ≤ b ∧ b ≤ 32
    · obtain ⟨v, rfl⟩ := Int.eq_ofNat_of_zero_le hv.1
      obtain ⟨b, rfl⟩ := Int.eq_ofNat_of_zero_le (show 0 ≤ b by omega)
      exact ⟨_, sign_in v b (by omega) (by omega), refsign_in K v b (by omega) (by omega) (by omega) (by omega)⟩
    · exact ⟨0, sign_out v b hb h, refsign_out K v b h (by omega)⟩
  by_cases h : 1 ≤ b ∧ b ≤ 32 ∧ 0 ≤ at_ ∧ at_ ≤ 32 - b
  · obtain ⟨w, rfl⟩ := Int.eq_ofNat_of_zero_le hw.1
    obtain ⟨v, rfl⟩ := Int.eq_ofNat_of_zero_le hv.1
    obtain ⟨at_, rfl⟩ := Int.eq_ofNat_of_zero_le h.2.2.1
    obtain ⟨b, rfl⟩ := Int.eq_ofNat_of_zero_le (show 0 ≤ b by omega)
    have hwn : w < 2 ^ 32 := by omega
    have hvn : v < 2 ^ 32 := by omega
    exact all_same K _ _ _ _ _ _ _ hup (get_in w at_ b hwn (by omega) (by omega)) (refget_in K w at_ b hwn (by omega) (by omega) (by omega)) (put_in w at_ b v hwn hvn (by omega) (by omega)) (refput_in K w at_ b v hwn hvn (by omega) (by omega) (by omega)) hs1 hs2
  · exact all_same K _ _ _ _ _ _ _ hup (get_out w at_ b ha hb h) (refget_out K w at_ b hb h (by omega)) (put_out w at_ b v ha hb h) (refput_out K w at_ b v hb h (by omega)) hs1 hs2

end Go.Proofs.Ytfoecgcjipckmaa.Pure
