/- Words out of bytes, number by number, the plain side. No condition but the bytes' range. -/
import Derived.Test.YtfoecgcjipckmaaMineRd
namespace Go.Proofs.Ytfoecgcjipckmaa.MineNum
open Go.RowKit Go.Proofs.YtfoecgcjipckmaaW.PrintWords Go.Proofs.YtfoecgcjipckmaaW.PrintLast Go.Proofs.YtfoecgcjipckmaaW.PrintMore Go.Proofs.Ytfoecgcjipckmaa.MineBase Go.Proofs.Ytfoecgcjipckmaa.MineRd
attribute [local go_sem] max2_int min2_int max_two min_two max_three min_three max_four min_four   -- for this text's walks alone
set_option linter.unusedVariables false
set_option linter.unusedSimpArgs false
theorem wu32 (n : Int) (h0 : 0 ≤ n) (h1 : n < 2 ^ 32) : IntKind.u32.wrap n = n := by rw [IntKind.wrap_u32]; omega
theorem nat_u32 (n : Nat) (h : n < 2 ^ 32) : IntKind.u32.wrap (n : Int) = (n : Int) := by rw [IntKind.wrap_u32]; omega
theorem bv_u32 (a : Nat) (h : a < 2 ^ 32) : (BitVec.ofInt 32 (a : Int)).toNat = a := by
  rw [BitVec.ofInt_natCast, BitVec.toNat_ofNat]; exact Nat.mod_eq_of_lt h
theorem or_u32 (a b : Nat) (ha : a < 2 ^ 32) (hb : b < 2 ^ 32) : Go.bits .or .u32 (a : Int) (b : Int) = ((a ||| b : Nat) : Int) := by
  show IntKind.u32.wrap ((BitVec.ofInt 32 (a : Int) ||| BitVec.ofInt 32 (b : Int)).toNat : Int) = _
  rw [BitVec.toNat_or, bv_u32 a ha, bv_u32 b hb]; exact nat_u32 _ (Nat.or_lt_two_pow ha hb)
theorem pow_le32 {b : Nat} (h : b ≤ 32) : 2 ^ b ≤ 2 ^ 32 := Nat.pow_le_pow_right (by decide) h
theorem shl_u32 (x at_ : Nat) (ha : at_ ≤ 32) : shl .u32 (x : Int) (at_ : Int) = ((x * 2 ^ at_ % 2 ^ 32 : Nat) : Int) := by
  unfold shl
  show IntKind.u32.wrap ((x : Int) * 2 ^ min (at_ : Int).toNat 32) = _
  rw [Int.toNat_natCast, Nat.min_eq_left ha, IntKind.wrap_u32]
  have e : (x : Int) * 2 ^ at_ = ((x * 2 ^ at_ : Nat) : Int) := by simp
  rw [e]; omega
theorem join (x y i : Nat) (hx : x < 2 ^ i) (hy : y * 2 ^ i < 2 ^ 32) (hi : i ≤ 32) : Go.bits .or .u32 (x : Int) ((y : Int) * 2 ^ i) = ((x + y * 2 ^ i : Nat) : Int) := by
  have e : (y : Int) * 2 ^ i = ((y * 2 ^ i : Nat) : Int) := by simp
  rw [e, or_u32 _ _ (Nat.lt_of_lt_of_le hx (pow_le32 hi)) hy, Nat.or_comm, Nat.mul_comm, ← Nat.two_pow_add_eq_or_of_lt hx, Nat.add_comm]
/-- The byte at place i, 0 behind the end. -/
def byt (l : List Int) (i : Nat) : Nat := (l.getD i 0).toNat
theorem byt_le {l : List Int} (h : ∀ x ∈ l, 0 ≤ x ∧ x ≤ 255) (i : Nat) : byt l i ≤ 255 := by
  unfold byt
  by_cases hi : i < l.length
  · rw [List.getD_eq_getElem?_getD, List.getElem?_eq_getElem hi]
    have := h _ (List.getElem_mem hi); simp; omega
  · rw [List.getD_eq_getElem?_getD, List.getElem?_eq_none (by omega)]; simp
theorem byt_rd {l : List Int} (h : ∀ x ∈ l, 0 ≤ x ∧ x ≤ 255) (i : Nat) (hi : i < l.length) : rd l (i : Int) = (byt l i : Int) := by
  unfold rd byt
  rw [Int.toNat_natCast, List.getD_eq_getElem?_getD, List.getElem?_eq_getElem hi]
  have := h _ (List.getElem_mem hi); simp; omega
theorem byt_none {l : List Int} (i : Nat) (hi : ¬ i < l.length) : byt l i = 0 := by
  unfold byt; rw [List.getD_eq_getElem?_getD, List.getElem?_eq_none (by omega)]; rfl
/-- The number of the first k bytes. -/
def wsum (l : List Int) : Nat → Nat
  | 0 => 0
  | k + 1 => wsum l k + byt l k * 2 ^ (8 * k)
theorem wsum_lt {l : List Int} (h : ∀ x ∈ l, 0 ≤ x ∧ x ≤ 255) : ∀ k, wsum l k < 2 ^ (8 * k)
  | 0 => by unfold wsum; decide
  | k + 1 => by
    have ih := wsum_lt h k
    have hb := byt_le h k
    have h1 : byt l k * 2 ^ (8 * k) ≤ 255 * 2 ^ (8 * k) := Nat.mul_le_mul_right _ hb
    have e : 2 ^ (8 * (k + 1)) = 256 * 2 ^ (8 * k) := by rw [show 8 * (k + 1) = 8 * k + 8 by omega, Nat.pow_add]; omega
    unfold wsum
    omega
theorem shift_val {l : List Int} (h : ∀ x ∈ l, 0 ≤ x ∧ x ≤ 255) (k : Nat) (hk : k < 4) (hl : k < l.length) : shl .u32 (rd l (k : Int) % 4294967296) ((8 * k : Nat) : Int) = ((byt l k * 2 ^ (8 * k) : Nat) : Int) := by
  have hb := byt_le h k
  rw [byt_rd h k hl]
  have hm : (byt l k : Int) % 4294967296 = (byt l k : Int) := by omega
  have hp : byt l k * 2 ^ (8 * k) < 2 ^ 32 := by
    have h1 : byt l k * 2 ^ (8 * k) < 2 ^ 8 * 2 ^ (8 * k) := (Nat.mul_lt_mul_right (Nat.two_pow_pos _)).2 (by omega)
    rw [← Nat.pow_add] at h1
    exact Nat.lt_of_lt_of_le h1 (Nat.pow_le_pow_right (by decide) (by omega))
  rw [hm, shl_u32 _ _ (by omega), Nat.mod_eq_of_lt hp]
theorem join_val {l : List Int} (h : ∀ x ∈ l, 0 ≤ x ∧ x ≤ 255) (k : Nat) (hk : k < 4) : Go.bits .or .u32 ((wsum l k : Nat) : Int) ((byt l k * 2 ^ (8 * k) : Nat) : Int) = ((wsum l (k + 1) : Nat) : Int) := by
  have hb := byt_le h k
  have hp : byt l k * 2 ^ (8 * k) < 2 ^ 32 := by
    have h1 : byt l k * 2 ^ (8 * k) < 2 ^ 8 * 2 ^ (8 * k) := (Nat.mul_lt_mul_right (Nat.two_pow_pos _)).2 (by omega)
    rw [← Nat.pow_add] at h1
    exact Nat.lt_of_lt_of_le h1 (Nat.pow_le_pow_right (by decide) (by omega))
  have e : ((byt l k * 2 ^ (8 * k) : Nat) : Int) = (byt l k : Int) * 2 ^ (8 * k) := by simp
  rw [e, join _ _ _ (wsum_lt h k) hp (by omega)]
  rfl
theorem Number_bad (g : Nat) (n : Int) (w : World) (h : n < 1 ∨ 4 < n) :
    Calls Try.prog 33 #[.pointer (some ⟨g, 0, none⟩), .int .i64 n] w fun e w' => e = .returned (.int .u32 0) ∧ w = w' := by
  by_cases c : n < 1
  · have d : decide (n < 1) = true := decide_eq_true c
    clear h c
    go_enter Try.func33, Try.ntmps33
    go_wp2
    go_ret
    exact ⟨by rfl, rfl⟩
  · have d : decide (n < 1) = false := decide_eq_false c
    have d2 : decide (4 < n) = true := decide_eq_true (by omega)
    clear h c
    go_enter Try.func33, Try.ntmps33
    go_wp2
    go_ret
    exact ⟨by rfl, rfl⟩
set_option maxHeartbeats 1000000 in
theorem Number_in (g : Nat) (l : List Int) (n : Nat) (w0 w : World) (hI : IsRd w0 w g l false) (hB : Below w0.heap.size w0 w) (h0 : 1 ≤ n) (h4 : n ≤ 4) (h : n ≤ l.length) (hb : ∀ x ∈ l, 0 ≤ x ∧ x ≤ 255) :
    Calls Try.prog 33 #[.pointer (some ⟨g, 0, none⟩), .int .i64 (n : Int)] w fun e w' => e = .returned (.int .u32 ((wsum l n : Nat) : Int)) ∧ IsRd w0 w' g (l.drop n) false ∧ Below w0.heap.size w0 w' ∧ KeepBut w w' g none := by
  have d : decide ((n : Int) < 1) = false := decide_eq_false (by omega)
  have d2 : decide (4 < (n : Int)) = false := decide_eq_false (by omega)
  have HC := Aside0.mk (next_in g l (n : Int) w0 w hI hB (by omega) (by omega))
  have Hn := Aside0.mk (And.intro h0 (And.intro h4 h))
  have Hb := Aside0.mk hb
  clear hI hB h h0 h4 hb
  go_enter Try.func33, Try.ntmps33
  go_wp2_with fail
  refine HC.out.mono ?_
  rintro e1 w1 ⟨⟨A, c, rfl, hC, hc⟩, hI1, hB1, hK1⟩
  have HI1 := Aside0.mk hI1
  have HB1 := Aside0.mk hB1
  have HK1 := Aside0.mk hK1
  have lT : (l.take (n : Int).toNat).length = n := by rw [List.length_take]; have := Hn.out; omega
  rw [lT] at hC hc ⊢
  have HT := Aside0.mk (show Kd.C (Kd.int .u8) w1 A n (l.take n) from Kd.C_below (show Kd.C (Kd.int .u8) w0 A n (l.take n) from hC) hB1)
  clear hI1 hB1 hK1 hC hc lT HC
  go_wp2_with fail
  go_loopg [5, 18] (n + 1) (fun kq v5 v18 w' => ∃ k : Nat, v5 = .int .u32 ((wsum l k : Nat) : Int) ∧ v18 = .int .i64 (k : Int) ∧ Aside0 (k + kq = n + 1) ∧ Aside0 (k ≤ n) ∧ w' = w1)
  case atStart => exact ⟨0, rfl, rfl, ⟨by omega⟩, ⟨by omega⟩, rfl⟩
  case round =>
    obtain ⟨k, rfl, rfl, Hk, Hkn, rfl⟩ := hrel
    by_cases c : k < n
    · have cb : decide ((k : Int) < (n : Int)) = true := decide_eq_true (by omega)
      have hx := Kd.at_int HT.out (k : Int) (by omega) (by omega)
      obtain ⟨ad, rfl, hc1⟩ := hx
      have hrd : rd (l.take n) (k : Int) = rd l (k : Int) := by
        unfold rd
        rw [Int.toNat_natCast, List.getD_eq_getElem?_getD, List.getD_eq_getElem?_getD, List.getElem?_take_of_lt c]
      rw [hrd, Int.toNat_natCast] at hc1
      have h8 : IntKind.i64.wrap (8 * (k : Int)) = ((8 * k : Nat) : Int) := (i64_w _).trans (show wrap64 _ = _ by have := Hn.out; unfold wrap64; omega)
      have hk1 : IntKind.i64.wrap ((k : Int) + 1) = ((k + 1 : Nat) : Int) := (i64_w _).trans (show wrap64 _ = _ by have := Hn.out; unfold wrap64; omega)
      have hs := shift_val Hb.out k (by have := Hn.out; omega) (by have := Hn.out; omega)
      have hj := join_val Hb.out k (by have := Hn.out; omega)
      have hs' : IntKind.u32.wrap ((rd l (k : Int) % 4294967296) * 2 ^ min ((8 * k : Nat) : Int).toNat 32) = ((byt l k * 2 ^ (8 * k) : Nat) : Int) := hs
      have hs'' := shl_small hs
      have p1 : (0 ≤ (k : Int)) = True := eq_true (by omega)
      have p2 : ((k : Int) < (n : Int)) = True := eq_true (by omega)
      have p3 : (0 ≤ ((8 * k : Nat) : Int)) = True := eq_true (by omega)
      have Hc := Aside0.mk c
      clear c
      generalize ((byt l k * 2 ^ (8 * k) : Nat) : Int) = y at *
      generalize ((8 * k : Nat) : Int) = z at *
      clear hs hs''
      go_wp2
      go_roundg (gk - 1)
      case measure => have := Hk.out; have := Hc.out; omega
      case rel => exact ⟨k + 1, by first | rfl | (simp [hj]; done) | (rw [hj]), by first | rfl | (rw [hk1]), ⟨by have := Hk.out; have := Hc.out; omega⟩, ⟨by have := Hc.out; omega⟩, rfl⟩
    · have cb : decide ((k : Int) < (n : Int)) = false := decide_eq_false (by omega)
      obtain rfl : k = n := by have := Hkn.out; omega
      clear c
      go_wp2
      go_ret
      exact ⟨by rfl, by have := HI1.out; rwa [Int.toNat_natCast] at this, HB1.out, HK1.out⟩
/-- Behind what is short, or too much is asked. -/
theorem Number_out (g : Nat) (l : List Int) (sh : Bool) (n : Nat) (w0 w : World) (hI : IsRd w0 w g l sh) (hB : Below w0.heap.size w0 w) (h0 : 1 ≤ n) (h4 : n ≤ 4) (h : l.length < n) :
    Calls Try.prog 33 #[.pointer (some ⟨g, 0, none⟩), .int .i64 (n : Int)] w fun e w' => e = .returned (.int .u32 0) ∧ IsRd w0 w' g [] true ∧ Below w0.heap.size w0 w' ∧ KeepBut w w' g none := by
  have d : decide ((n : Int) < 1) = false := decide_eq_false (by omega)
  have d2 : decide (4 < (n : Int)) = false := decide_eq_false (by omega)
  have HC := Aside0.mk (next_out g l sh (n : Int) w0 w hI hB (by omega))
  clear hI hB h h0 h4
  go_enter Try.func33, Try.ntmps33
  go_wp2_with fail
  refine HC.out.mono ?_
  rintro e1 w1 ⟨rfl, hI1, hB1, hK1⟩
  have HI1 := Aside0.mk hI1
  have HB1 := Aside0.mk hB1
  have HK1 := Aside0.mk hK1
  clear hI1 hB1 hK1 HC
  go_wp2_with fail
  refine wp_loop_rounds 1 ?_
  rw [rounds_succ]
  go_wp2
  go_ret
  exact ⟨by rfl, HI1.out, HB1.out, HK1.out⟩
end Go.Proofs.Ytfoecgcjipckmaa.MineNum
