/- Words out of bytes, the plain side: field.Word and the reference's tell the same, and a word's four bytes tell the word. No condition but the bytes' range. -/
import Derived.Test.YtkeijpngfnmjoaaQMemPlaysx1
namespace Go.Proofs.Ytkeijpngfnmjoaa.MineWord
open Go.RowKit Go.Proofs.Ytkeijpngfnmjoaa.QMemPlays Go.Proofs.YtkeijpngfnmjoaaW.PrintWords Go.Proofs.YtkeijpngfnmjoaaW.PrintLast Go.Proofs.YtkeijpngfnmjoaaW.PrintMore
set_option linter.unusedVariables false
theorem u32_range {x : Int} (h : (Lit.int .u32 x).wf = true) : 0 ≤ x ∧ x < 4294967296 := by
  simp [Lit.wf, IntKind.min, IntKind.max, IntKind.signed, IntKind.bits] at h; omega
theorem u8_range {x : Int} (h : (Lit.int .u8 x).wf = true) : 0 ≤ x ∧ x ≤ 255 := by
  simp [Lit.wf, IntKind.min, IntKind.max, IntKind.signed, IntKind.bits] at h; omega
theorem wu32 (n : Int) (h0 : 0 ≤ n) (h1 : n < 2 ^ 32) : IntKind.u32.wrap n = n := by rw [IntKind.wrap_u32]; omega
theorem nat_u32 (n : Nat) (h : n < 2 ^ 32) : IntKind.u32.wrap (n : Int) = (n : Int) := by rw [IntKind.wrap_u32]; omega
theorem bv_u32 (a : Nat) (h : a < 2 ^ 32) : (BitVec.ofInt 32 (a : Int)).toNat = a := by
  rw [BitVec.ofInt_natCast, BitVec.toNat_ofNat]; exact Nat.mod_eq_of_lt h
theorem or_u32 (a b : Nat) (ha : a < 2 ^ 32) (hb : b < 2 ^ 32) : Go.bits .or .u32 (a : Int) (b : Int) = ((a ||| b : Nat) : Int) := by
  show IntKind.u32.wrap ((BitVec.ofInt 32 (a : Int) ||| BitVec.ofInt 32 (b : Int)).toNat : Int) = _
  rw [BitVec.toNat_or, bv_u32 a ha, bv_u32 b hb]; exact nat_u32 _ (Nat.or_lt_two_pow ha hb)
theorem pow_le32 {b : Nat} (h : b ≤ 32) : 2 ^ b ≤ 2 ^ 32 := Nat.pow_le_pow_right (by decide) h
theorem shl_u32 (x at_ : Nat) (ha : at_ ≤ 32) : shl .u32 (x : Int) (at_ : Int) = ((x * 2 ^ at_ % 2 ^ 32 : Nat) : Int) := by
  unfold shl
  show IntKind.u32.wrap ((x : Int) * 2 ^ min (at_ : Int).toNat 32) = _
  rw [Int.toNat_natCast, Nat.min_eq_left ha, IntKind.wrap_u32]
  have e : (x : Int) * 2 ^ at_ = ((x * 2 ^ at_ : Nat) : Int) := by simp
  rw [e]; omega
theorem join (x y i : Nat) (hx : x < 2 ^ i) (hy : y * 2 ^ i < 2 ^ 32) (hi : i ≤ 32) : Go.bits .or .u32 (x : Int) ((y : Int) * 2 ^ i) = ((x + y * 2 ^ i : Nat) : Int) := by
  have e : (y : Int) * 2 ^ i = ((y * 2 ^ i : Nat) : Int) := by simp
  rw [e, or_u32 _ _ (Nat.lt_of_lt_of_le hx (pow_le32 hi)) hy, Nat.or_comm, Nat.mul_comm, ← Nat.two_pow_add_eq_or_of_lt hx, Nat.add_comm]
/-- The byte at place i, 0 behind the end. -/
def byt (l : List Int) (i : Nat) : Nat := (l.getD i 0).toNat
theorem byt_le {l : List Int} (h : ∀ x ∈ l, 0 ≤ x ∧ x ≤ 255) (i : Nat) : byt l i ≤ 255 := by
  unfold byt
  by_cases hi : i < l.length
  · rw [List.getD_eq_getElem?_getD, List.getElem?_eq_getElem hi]
    have := h _ (List.getElem_mem hi); simp; omega
  · rw [List.getD_eq_getElem?_getD, List.getElem?_eq_none (by omega)]; simp
theorem byt_rd {l : List Int} (h : ∀ x ∈ l, 0 ≤ x ∧ x ≤ 255) (i : Nat) (hi : i < l.length) : rd l (i : Int) = (byt l i : Int) := by
  unfold rd byt
  rw [Int.toNat_natCast, List.getD_eq_getElem?_getD, List.getElem?_eq_getElem hi]
  have := h _ (List.getElem_mem hi); simp; omega
theorem byt_none {l : List Int} (i : Nat) (hi : ¬ i < l.length) : byt l i = 0 := by
  unfold byt; rw [List.getD_eq_getElem?_getD, List.getElem?_eq_none (by omega)]; rfl
/-- The word of bytes. -/
def wordN (l : List Int) : Nat := byt l 0 + byt l 1 * 256 + byt l 2 * 65536 + byt l 3 * 16777216
theorem word_step {l : List Int} (h : ∀ x ∈ l, 0 ≤ x ∧ x ≤ 255) (k x i : Nat) (hi : i < 4) (hx : x < 2 ^ (8 * i)) :
    field_Word.l0 (k + 1) l (x : Int) (i : Int) = field_Word.l0 k l ((x + byt l i * 2 ^ (8 * i) : Nat) : Int) ((i + 1 : Nat) : Int) := by
  simp only [field_Word.l0]
  have hw : wrap64 ((i : Int) + 1) = ((i + 1 : Nat) : Int) := by unfold wrap64; omega
  rw [if_pos (by omega), hw]
  by_cases hl : i < l.length
  · have hw8 : wrap64 (8 * (i : Int)) = ((8 * i : Nat) : Int) := by unfold wrap64; omega
    have hb := byt_le h i
    rw [if_pos (by omega), if_pos (by omega), hw8, if_pos (by omega), byt_rd h i hl]
    have hm : (byt l i : Int) % 4294967296 = (byt l i : Int) := by omega
    have hp : byt l i * 2 ^ (8 * i) < 2 ^ 32 := by
      have h1 : byt l i * 2 ^ (8 * i) < 2 ^ 8 * 2 ^ (8 * i) := (Nat.mul_lt_mul_right (Nat.two_pow_pos _)).2 (by omega)
      rw [← Nat.pow_add] at h1
      exact Nat.lt_of_lt_of_le h1 (Nat.pow_le_pow_right (by decide) (by omega))
    have hs : shl .u32 (byt l i : Int) ((8 * i : Nat) : Int) = (byt l i : Int) * 2 ^ (8 * i) := by
      rw [shl_u32 _ _ (by omega), Nat.mod_eq_of_lt hp]; simp
    rw [hm, hs, join x _ _ hx hp (by omega)]
  · rw [if_neg (by omega), byt_none i hl]; simp
theorem word_eq {l : List Int} (h : ∀ x ∈ l, 0 ≤ x ∧ x ≤ 255) (k : Nat) (hk : 5 ≤ k) : field_Word.f k l = some ((wordN l : Nat) : Int) := by
  obtain ⟨k, rfl⟩ : ∃ m, k = m + 5 := ⟨k - 5, by omega⟩
  unfold field_Word.f
  have b0 := byt_le h 0
  have b1 := byt_le h 1
  have b2 := byt_le h 2
  have s0 := word_step h (k + 4) 0 0 (by omega) (by decide)
  have s1 := word_step h (k + 3) (0 + byt l 0 * 2 ^ (8 * 0)) 1 (by omega) (by omega)
  have s2 := word_step h (k + 2) (0 + byt l 0 * 2 ^ (8 * 0) + byt l 1 * 2 ^ (8 * 1)) 2 (by omega) (by omega)
  have s3 := word_step h (k + 1) (0 + byt l 0 * 2 ^ (8 * 0) + byt l 1 * 2 ^ (8 * 1) + byt l 2 * 2 ^ (8 * 2)) 3 (by omega) (by omega)
  refine (s0.trans (s1.trans (s2.trans (s3.trans ?_))))
  simp only [field_Word.l0]
  rw [if_neg (by omega)]
  congr 2
  unfold wordN; omega
theorem bytes_mem (w : Int) (_h0 : 0 ≤ w) : ∀ x ∈ ([w % 256, (w / 256) % 256, (w / 65536) % 256, (w / 16777216) % 256] : List Int), 0 ≤ x ∧ x ≤ 255 := by
  intro x hx
  simp only [List.mem_cons, List.not_mem_nil, or_false] at hx
  rcases hx with rfl | rfl | rfl | rfl <;> omega
theorem word_bytes (w : Int) (h0 : 0 ≤ w) (h1 : w < 4294967296) : ((wordN ([w % 256, (w / 256) % 256, (w / 65536) % 256, (w / 16777216) % 256] : List Int) : Nat) : Int) = w := by
  unfold wordN byt; simp only [List.getD_cons_zero, List.getD_cons_succ]; omega
theorem ref_step {l : List Int} (h : ∀ x ∈ l, 0 ≤ x ∧ x ≤ 255) (k : Nat) (x : Int) (i : Nat) (hi : i < 4) (hx0 : 0 ≤ x) (hx : x < 16777216) :
    dowelref01_Word.l0 (k + 1) l x (i : Int) = dowelref01_Word.l0 k l (256 * x + (byt l i : Int)) ((i : Int) - 1) := by
  simp only [dowelref01_Word.l0]
  have hw : wrap64 ((i : Int) - 1) = (i : Int) - 1 := by unfold wrap64; omega
  have hb := byt_le h i
  rw [if_pos (by omega), hw]
  by_cases hl : i < l.length
  · rw [if_pos (by omega), if_pos (by omega), byt_rd h i hl]; congr 1; omega
  · rw [if_neg (by omega), byt_none i hl]; congr 1; omega
theorem ref_eq {l : List Int} (h : ∀ x ∈ l, 0 ≤ x ∧ x ≤ 255) (k : Nat) (hk : 5 ≤ k) : dowelref01_Word.f k l = some ((wordN l : Nat) : Int) := by
  obtain ⟨k, rfl⟩ : ∃ m, k = m + 5 := ⟨k - 5, by omega⟩
  unfold dowelref01_Word.f
  have b0 := byt_le h 0
  have b1 := byt_le h 1
  have b2 := byt_le h 2
  have b3 := byt_le h 3
  have s0 := ref_step h (k + 4) 0 3 (by omega) (by omega) (by omega)
  have s1 := ref_step h (k + 3) (256 * 0 + (byt l 3 : Int)) 2 (by omega) (by omega) (by omega)
  have s2 := ref_step h (k + 2) (256 * (256 * 0 + (byt l 3 : Int)) + (byt l 2 : Int)) 1 (by omega) (by omega) (by omega)
  have s3 := ref_step h (k + 1) (256 * (256 * (256 * 0 + (byt l 3 : Int)) + (byt l 2 : Int)) + (byt l 1 : Int)) 0 (by omega) (by omega) (by omega)
  refine (s0.trans (s1.trans (s2.trans (s3.trans ?_))))
  simp only [dowelref01_Word.l0]
  rw [if_neg (by omega)]
  congr 1
  unfold wordN; omega
end Go.Proofs.Ytkeijpngfnmjoaa.MineWord
