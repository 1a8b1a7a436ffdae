/- The document's reader: what Number, Text and Left tell, of any bytes. No condition but that the place is in the bytes. -/
import Derived.Test.YtfoecgcjipckmaaMineTxt
namespace Go.Proofs.Ytfoecgcjipckmaa.MineRr
open Go.RowKit Go.Proofs.YtfoecgcjipckmaaW.PrintWords Go.Proofs.YtfoecgcjipckmaaW.PrintLast Go.Proofs.YtfoecgcjipckmaaW.PrintMore Go.Proofs.Ytfoecgcjipckmaa.MineBase Go.Proofs.Ytfoecgcjipckmaa.MineRd Go.Proofs.Ytfoecgcjipckmaa.MineNum Go.Proofs.Ytfoecgcjipckmaa.MineTxt
attribute [local go_sem] max2_int min2_int max_two min_two max_three min_three max_four min_four   -- for this text's walks alone
set_option linter.unusedVariables false
set_option linter.unusedSimpArgs false
/-- The document's reader at block h: at place i of the bytes b, that came in by w0. -/
def IsRr (w0 W : World) (h : Nat) (b : List Int) (i : Nat) (sh : Bool) : Prop := ∃ A c, W.heap[h]? = some (.cells #[.slice A b.length c, .int .i64 (i : Int), .bool sh] 40 (0, 0)) ∧ w0.heap.size ≤ h ∧ Kd.C (Kd.int .u8) w0 A b.length b ∧ b.length ≤ c ∧ b.length ≤ 1000000 ∧ i ≤ b.length
theorem IsRr.below {w0 W W1 : World} {h : Nat} {b : List Int} {i : Nat} {sh : Bool} (hI : IsRr w0 W h b i sh) (hw : Below W.heap.size W W1) : IsRr w0 W1 h b i sh := by
  obtain ⟨A, c, h1, h2⟩ := hI
  exact ⟨A, c, blk_below h1 hw, h2⟩
theorem IsRr.keep {w0 W W1 : World} {h g' : Nat} {row : Option Nat} {b : List Int} {i : Nat} {sh : Bool} (hI : IsRr w0 W h b i sh) (hk : KeepBut W W1 g' row) (hg : h ≠ g') (hr : some h ≠ row) : IsRr w0 W1 h b i sh := by
  obtain ⟨A, c, h1, h2⟩ := hI
  exact ⟨A, c, hk.blk h1 hg hr, h2⟩
theorem Left_calls (h : Nat) (b : List Int) (i : Nat) (sh : Bool) (w0 w : World) (hI : IsRr w0 w h b i sh) :
    Calls Try.prog 36 #[.pointer (some ⟨h, 0, none⟩)] w fun e w' => e = .returned (.int .i64 (if sh then 0 else ((b.length - i : Nat) : Int))) ∧ ∃ n, w' = w.drewN n := by
  obtain ⟨A, c, h1, h2, h3, h4, h5, h6⟩ := hI
  have c0 : w.cell? ⟨h, 0, none⟩ = some (.slice A b.length c) := (blk_cell h1 0).trans rfl
  have c1 : w.cell? ⟨h, 1, none⟩ = some (.int .i64 (i : Int)) := (blk_cell h1 1).trans rfl
  have c2 : w.cell? ⟨h, 2, none⟩ = some (.bool sh) := (blk_cell h1 2).trans rfl
  have hs : IntKind.i64.wrap ((b.length : Int) - (i : Int)) = ((b.length - i : Nat) : Int) := (i64_w _).trans (show wrap64 _ = _ by unfold wrap64; omega)
  clear h1 h2 h3 h4 h5 h6
  cases sh with
  | true =>
    go_enter Try.func36, Try.ntmps36
    go_wp2
    go_ret
    exact ⟨by rfl, 0, rfl⟩
  | false =>
    go_enter Try.func36, Try.ntmps36
    go_wp2_with fail
    go_quiet (fail)
    go_wp2
    go_ret
    exact ⟨by first | rfl | (simp [hs]; done), _, rfl⟩
theorem Number_bad (h : Nat) (b : List Int) (i : Nat) (sh : Bool) (n : Int) (w0 w : World) (hI : IsRr w0 w h b i sh) (hn : n < 1 ∨ 4 < n ∨ sh = true) :
    Calls Try.prog 34 #[.pointer (some ⟨h, 0, none⟩), .int .i64 n] w fun e w' => e = .returned (.int .u32 0) ∧ w = w' := by
  obtain ⟨A, c, h1, h2, h3, h4, h5, h6⟩ := hI
  have c2 : w.cell? ⟨h, 2, none⟩ = some (.bool sh) := (blk_cell h1 2).trans rfl
  clear h1 h2 h3 h4 h5 h6
  by_cases c : n < 1
  · have d : decide (n < 1) = true := decide_eq_true c
    clear hn c
    go_enter Try.func34, Try.ntmps34
    go_wp2
    go_ret
    exact ⟨by rfl, rfl⟩
  · have d : decide (n < 1) = false := decide_eq_false c
    by_cases c' : 4 < n
    · have d2 : decide (4 < n) = true := decide_eq_true c'
      clear hn c c'
      go_enter Try.func34, Try.ntmps34
      go_wp2
      go_ret
      exact ⟨by rfl, rfl⟩
    · have d2 : decide (4 < n) = false := decide_eq_false c'
      obtain rfl : sh = true := by
        rcases hn with hn | hn | hn
        · exact absurd hn c
        · exact absurd hn c'
        · exact hn
      clear hn c c'
      go_enter Try.func34, Try.ntmps34
      go_wp2
      go_ret
      exact ⟨by rfl, rfl⟩
theorem Number_out (h : Nat) (b : List Int) (i : Nat) (n : Nat) (w0 w : World) (hI : IsRr w0 w h b i false) (hB : Below w0.heap.size w0 w) (h0 : 1 ≤ n) (h4 : n ≤ 4) (hl : b.length < i + n) :
    Calls Try.prog 34 #[.pointer (some ⟨h, 0, none⟩), .int .i64 (n : Int)] w fun e w' => e = .returned (.int .u32 0) ∧ IsRr w0 w' h b i true ∧ Below w0.heap.size w0 w' ∧ KeepBut w w' h none := by
  have HK := Aside0.mk (KeepBut.refl w h none)
  have HB := Aside0.mk hB
  obtain ⟨A, c, h1, h2, h3, h5, h6, h7⟩ := hI
  have c0 : w.cell? ⟨h, 0, none⟩ = some (.slice A b.length c) := (blk_cell h1 0).trans rfl
  have c1 : w.cell? ⟨h, 1, none⟩ = some (.int .i64 (i : Int)) := (blk_cell h1 1).trans rfl
  have c2 : w.cell? ⟨h, 2, none⟩ = some (.bool false) := (blk_cell h1 2).trans rfl
  have f2 := blk_frozen h1 2
  have hs : IntKind.i64.wrap ((i : Int) + (n : Int)) = (i : Int) + (n : Int) := (i64_w _).trans (show wrap64 _ = _ by unfold wrap64; omega)
  have d : decide ((n : Int) < 1) = false := decide_eq_false (by omega)
  have d2 : decide (4 < (n : Int)) = false := decide_eq_false (by omega)
  have d3 : decide ((b.length : Int) < (i : Int) + (n : Int)) = true := decide_eq_true (by omega)
  have d4 : decide (b.length < i + n) = true := decide_eq_true hl
  have HI := Aside0.mk (show IsRr w0 (w.setCell ⟨h, 2, none⟩ (.bool true)) h b i true from ⟨A, c, by simpa using blk_set h1 2 (.bool true), h2, h3, h5, h6, h7⟩)
  have HG := Aside0.mk h2
  clear h1 h2 h3 h5 h6 h7 hB hl h0 h4
  go_enter Try.func34, Try.ntmps34
  go_wp2_with fail
  go_quiet (fail)
  go_wp2
  go_ret
  exact ⟨by rfl, HI.out, pw_below_drewN (below_set HB.out HG.out) _, keep_drewN (KeepBut.set_ HK.out _ _) _⟩
theorem wsum_cons (l : List Int) : ∀ m, wsum l (m + 1) = byt l 0 + 256 * wsum (l.drop 1) m
  | 0 => by simp [wsum]
  | m + 1 => by
    have ih := wsum_cons l m
    have e : byt (l.drop 1) m = byt l (m + 1) := by
      unfold byt
      rw [List.getD_eq_getElem?_getD, List.getD_eq_getElem?_getD, List.getElem?_drop, Nat.add_comm 1 m]
    have e2 : 2 ^ (8 * (m + 1)) = 256 * 2 ^ (8 * m) := by rw [show 8 * (m + 1) = 8 * m + 8 by omega, Nat.pow_add]; omega
    rw [show wsum l (m + 1 + 1) = wsum l (m + 1) + byt l (m + 1) * 2 ^ (8 * (m + 1)) from rfl, ih, show wsum (l.drop 1) (m + 1) = wsum (l.drop 1) m + byt (l.drop 1) m * 2 ^ (8 * m) from rfl, e, e2, Nat.mul_add, Nat.add_assoc, Nat.mul_left_comm]
set_option maxHeartbeats 1000000 in
theorem Number_in (h : Nat) (b : List Int) (i : Nat) (n : Nat) (w0 w : World) (hI : IsRr w0 w h b i false) (hB : Below w0.heap.size w0 w) (h0 : 1 ≤ n) (h4 : n ≤ 4) (hl : i + n ≤ b.length) (hb : ∀ x ∈ b, 0 ≤ x ∧ x ≤ 255) :
    Calls Try.prog 34 #[.pointer (some ⟨h, 0, none⟩), .int .i64 (n : Int)] w fun e w' => e = .returned (.int .u32 ((wsum (b.drop i) n : Nat) : Int)) ∧ IsRr w0 w' h b (i + n) false ∧ Below w0.heap.size w0 w' ∧ KeepBut w w' h none := by
  have HK := Aside0.mk (KeepBut.refl w h none)
  have HB := Aside0.mk hB
  obtain ⟨A, c, h1, h2, h3, h5, h6, h7⟩ := hI
  have c0 : w.cell? ⟨h, 0, none⟩ = some (.slice A b.length c) := (blk_cell h1 0).trans rfl
  have c1 : w.cell? ⟨h, 1, none⟩ = some (.int .i64 (i : Int)) := (blk_cell h1 1).trans rfl
  have c2 : w.cell? ⟨h, 2, none⟩ = some (.bool false) := (blk_cell h1 2).trans rfl
  have f1 := blk_frozen h1 1
  have hs : IntKind.i64.wrap ((i : Int) + (n : Int)) = (i : Int) + (n : Int) := (i64_w _).trans (show wrap64 _ = _ by unfold wrap64; omega)
  have d : decide ((n : Int) < 1) = false := decide_eq_false (by omega)
  have d2 : decide (4 < (n : Int)) = false := decide_eq_false (by omega)
  have d3 : decide ((b.length : Int) < (i : Int) + (n : Int)) = false := decide_eq_false (by omega)
  have hn1 : IntKind.i64.wrap ((n : Int) - 1) = (n : Int) - 1 := (i64_w _).trans (show wrap64 _ = _ by unfold wrap64; omega)
  have HI := Aside0.mk (show IsRr w0 (w.setCell ⟨h, 1, none⟩ (.int .i64 ((i : Int) + (n : Int)))) h b (i + n) false from ⟨A, c, by rw [show ((i + n : Nat) : Int) = (i : Int) + (n : Int) by omega]; simpa using blk_set h1 1 (.int .i64 ((i : Int) + (n : Int))), h2, h3, h5, h6, by omega⟩)
  have HG := Aside0.mk h2
  have HC := Aside0.mk (Kd.C_below h3 hB)
  have Hn := Aside0.mk (And.intro h0 (And.intro h4 (And.intro hl h6)))
  have Hb := Aside0.mk hb
  clear h1 h2 h3 h5 h6 h7 hB hl h0 h4 hb
  go_enter Try.func34, Try.ntmps34
  go_wp2_with fail
  go_quiet (fail)
  go_wp2_with fail
  go_loopg [5, 6] (n + 1) (fun kq v5 v6 w' => ∃ m : Nat, v5 = .int .u32 ((wsum (b.drop (i + (n - m))) m : Nat) : Int) ∧ v6 = .int .i64 ((n : Int) - 1 - (m : Int)) ∧ Aside0 (m + kq = n + 1) ∧ Aside0 (m ≤ n) ∧ ∃ q, w' = w.drewN q)
  case atStart => exact ⟨0, rfl, by simp, ⟨by omega⟩, ⟨by omega⟩, _, rfl⟩
  case round =>
    obtain ⟨m, rfl, rfl, Hm, Hmn, q, rfl⟩ := hrel
    by_cases ck : m < n
    · have cb : decide ((m : Int) ≤ (n : Int) - 1) = true := decide_eq_true (by omega)
      have hn := Hn.out
      have hm := Hm.out
      generalize hp : i + (n - (m + 1)) = p
      have hp1 : i + (n - m) = p + 1 := by omega
      have hv := wsum_lt (l := b.drop (i + (n - m))) (fun x hx => Hb.out x (List.mem_of_mem_drop hx)) m
      have hv' : wsum (b.drop (i + (n - m))) m < 16777216 := Nat.lt_of_lt_of_le hv (show 2 ^ (8 * m) ≤ 2 ^ 24 from Nat.pow_le_pow_right (by decide) (by omega))
      have hbp := byt_le Hb.out p
      have hcons : wsum (b.drop p) (m + 1) = byt b p + 256 * wsum (b.drop (i + (n - m))) m := by
        rw [wsum_cons, List.drop_drop, hp1]
        refine congrArg (· + _) ?_
        unfold byt
        rw [List.getD_eq_getElem?_getD, List.getD_eq_getElem?_getD, List.getElem?_drop, Nat.add_zero]
      obtain ⟨ad, rfl, hc1⟩ := Kd.at_int HC.out (p : Int) (by omega) (by omega)
      rw [Int.toNat_natCast, byt_rd Hb.out p (by omega)] at hc1
      have HW := Aside0.mk hcons
      generalize wsum (b.drop (i + (n - m))) m = v at *
      generalize byt b p = y at *
      have t1 : IntKind.u32.wrap (256 * (v : Int)) = ((256 * v : Nat) : Int) := (IntKind.wrap_u32 _).trans (by omega)
      have t2 : (y : Int) % 4294967296 = (y : Int) := by omega
      have t2' : IntKind.u32.wrap (y : Int) = (y : Int) := (IntKind.wrap_u32 _).trans (by omega)
      have t3 : IntKind.u32.wrap (((256 * v : Nat) : Int) + (y : Int)) = ((y + 256 * v : Nat) : Int) := (IntKind.wrap_u32 _).trans (by omega)
      have x1 : IntKind.i64.wrap ((i : Int) + ((n : Int) - 1 - (m : Int))) = (p : Int) := (i64_w _).trans (show wrap64 _ = _ by unfold wrap64; omega)
      have x2 : IntKind.i64.wrap ((n : Int) - 1 - (m : Int) - 1) = (n : Int) - 1 - ((m + 1 : Nat) : Int) := (i64_w _).trans (show wrap64 _ = _ by unfold wrap64; omega)
      have p1 : (0 ≤ (p : Int)) = True := eq_true (by omega)
      have p2 : ((p : Int) < (b.length : Int)) = True := eq_true (by omega)
      have Hck := Aside0.mk ck
      have Hp := Aside0.mk hp
      generalize ((256 * v : Nat) : Int) = z at *
      clear hn hm hp hp1 hv hv' hbp hcons ck
      go_wp2_with fail
      go_quiet (fail)
      go_wp2
      go_roundg (gk - 1)
      case measure => have := Hm.out; have := Hck.out; omega
      case rel => exact ⟨m + 1, by rw [Hp.out, HW.out]; simp, by simp, ⟨by have := Hm.out; have := Hck.out; omega⟩, ⟨by have := Hck.out; omega⟩, by first | exact ⟨_, rfl⟩ | exact ⟨_, World.drewN_drewN ..⟩⟩
    · have cb : decide ((m : Int) ≤ (n : Int) - 1) = false := decide_eq_false (by have := Hmn.out; omega)
      have hmn : m = n := by have := Hmn.out; omega
      have HMN := Aside0.mk hmn
      clear ck hmn
      go_wp2
      go_ret
      exact ⟨by rw [HMN.out]; simp, HI.out, pw_below_drewN (below_set HB.out HG.out) _, keep_drewN (KeepBut.set_ HK.out _ _) _⟩
theorem Text_short (h : Nat) (b : List Int) (i : Nat) (w0 w : World) (hI : IsRr w0 w h b i true) :
    Calls Try.prog 32 #[.pointer (some ⟨h, 0, none⟩)] w fun e w' => e = .returned (.string (strOfNums [])) ∧ w = w' := by
  have HC := Aside0.mk (Number_bad h b i true 1 w0 w hI (.inr (.inr rfl)))
  obtain ⟨A, c, h1, h2, h3, h4, h5, h6⟩ := hI
  have c2 : w.cell? ⟨h, 2, none⟩ = some (.bool true) := (blk_cell h1 2).trans rfl
  clear h1 h2 h3 h4 h5 h6
  go_enter Try.func32, Try.ntmps32
  go_wp2_with fail
  refine HC.out.mono ?_
  rintro e1 w1 ⟨rfl, rfl⟩
  go_wp2
  go_ret
  exact ⟨by rfl, rfl⟩
theorem Text_none (h : Nat) (b : List Int) (i : Nat) (w0 w : World) (hI : IsRr w0 w h b i false) (hB : Below w0.heap.size w0 w) (hl : b.length < i + 1) :
    Calls Try.prog 32 #[.pointer (some ⟨h, 0, none⟩)] w fun e w' => e = .returned (.string (strOfNums [])) ∧ IsRr w0 w' h b i true ∧ Below w0.heap.size w0 w' ∧ KeepBut w w' h none := by
  have HC := Aside0.mk (Number_out h b i 1 w0 w hI hB (by decide) (by decide) hl)
  clear hI hB hl
  go_enter Try.func32, Try.ntmps32
  go_wp2_with fail
  refine HC.out.mono ?_
  rintro e1 w1 ⟨rfl, hI1, hB1, hK1⟩
  have HI1 := Aside0.mk hI1
  have HB1 := Aside0.mk hB1
  have HK1 := Aside0.mk hK1
  obtain ⟨A, c, h1, h2, h3, h4, h5, h6⟩ := hI1
  have c2 : w1.cell? ⟨h, 2, none⟩ = some (.bool true) := (blk_cell h1 2).trans rfl
  clear h1 h2 h3 h4 h5 h6 hB1 hK1 HC
  go_wp2
  go_ret
  exact ⟨by rfl, HI1.out, HB1.out, HK1.out⟩
theorem wsum_one (l : List Int) : wsum l 1 = byt l 0 := by simp [wsum]
theorem byt_drop (b : List Int) (i : Nat) : byt (b.drop i) 0 = byt b i := by
  unfold byt
  rw [List.getD_eq_getElem?_getD, List.getD_eq_getElem?_getD, List.getElem?_drop, Nat.add_zero]
theorem Text_out (h : Nat) (b : List Int) (i : Nat) (w0 w : World) (hI : IsRr w0 w h b i false) (hB : Below w0.heap.size w0 w) (hb : ∀ x ∈ b, 0 ≤ x ∧ x ≤ 255) (hl : i + 1 ≤ b.length) (ho : b.length < i + 1 + byt b i) :
    Calls Try.prog 32 #[.pointer (some ⟨h, 0, none⟩)] w fun e w' => e = .returned (.string (strOfNums [])) ∧ IsRr w0 w' h b (i + 1) true ∧ Below w0.heap.size w0 w' ∧ KeepBut w w' h none := by
  have hC := Number_in h b i 1 w0 w hI hB (by decide) (by decide) hl hb
  rw [wsum_one, byt_drop] at hC
  have HC := Aside0.mk hC
  have hbi := byt_le hb i
  generalize byt b i = n at *
  have hw : IntKind.i64.wrap (n : Int) = (n : Int) := (i64_w _).trans (show wrap64 _ = _ by unfold wrap64; omega)
  have hw' : wrap64 (n : Int) = (n : Int) := by unfold wrap64; omega
  have Ho := Aside0.mk (And.intro ho hbi)
  clear hI hB hC hb hl ho hbi
  go_enter Try.func32, Try.ntmps32
  go_wp2_with fail
  refine HC.out.mono ?_
  rintro e1 w1 ⟨rfl, hI1, hB1, hK1⟩
  have HB1 := Aside0.mk hB1
  have HK1 := Aside0.mk hK1
  obtain ⟨A, c, h1, h2, h3, h4, h5, h6⟩ := hI1
  have c0 : w1.cell? ⟨h, 0, none⟩ = some (.slice A b.length c) := (blk_cell h1 0).trans rfl
  have c1 : w1.cell? ⟨h, 1, none⟩ = some (.int .i64 ((i + 1 : Nat) : Int)) := (blk_cell h1 1).trans rfl
  have c2 : w1.cell? ⟨h, 2, none⟩ = some (.bool false) := (blk_cell h1 2).trans rfl
  have f2 := blk_frozen h1 2
  have HI2 := Aside0.mk (show IsRr w0 (w1.setCell ⟨h, 2, none⟩ (.bool true)) h b (i + 1) true from ⟨A, c, by simpa using blk_set h1 2 (.bool true), h2, h3, h4, h5, h6⟩)
  have HG := Aside0.mk h2
  have hs : IntKind.i64.wrap (((i + 1 : Nat) : Int) + (n : Int)) = ((i + 1 + n : Nat) : Int) := (i64_w _).trans (show wrap64 _ = _ by have := Ho.out; unfold wrap64; omega)
  have d : decide ((b.length : Int) < ((i + 1 + n : Nat) : Int)) = true := decide_eq_true (by have := Ho.out; omega)
  have d' : decide (b.length < i + 1 + n) = true := decide_eq_true Ho.out.1
  generalize ((i + 1 + n : Nat) : Int) = z at *
  generalize ((i + 1 : Nat) : Int) = y at *
  clear h1 h2 h3 h4 h5 h6 hB1 hK1 HC
  go_wp2_with fail
  go_quiet (fail)
  go_wp2
  go_ret
  exact ⟨by rfl, HI2.out, pw_below_drewN (below_set HB1.out HG.out) _, keep_drewN (KeepBut.set_ HK1.out _ _) _⟩
theorem info5' : (Try.prog.info? 5).map (fun i => (i.zero, i.size, i.bytes)) = some (some (.int .u8 0), 1, 1) := by kernel_rfl
theorem cutM (A : Option Addr) (n c : Nat) (lo hi' : Int) (h0 : 0 ≤ lo) (h1 : lo ≤ hi') (h2 : hi' ≤ n) (hc : n ≤ c) :
    ∀ W : World, (Instr.slice 30 (.slice A n c) (some (.int .i64 lo)) (some (.int .i64 hi')) none).run Try.prog W = .ok (.slice (if c = lo.toNat then A else A.map (·.add (lo.toNat * 1))) (hi'.toNat - lo.toNat) (c - lo.toNat)) W := by
  obtain ⟨i0, hi, hzz⟩ := Option.map_eq_some_iff.1 info5'
  simp only [Prod.mk.injEq] at hzz
  exact cut_mid (P := Try.prog) 30 5 .i64 .i64 Try.underlying30 hi 1 hzz.2.1 A n c lo hi' h0 h1 h2 hc
theorem Text_in (h : Nat) (b : List Int) (i : Nat) (w0 w : World) (hI : IsRr w0 w h b i false) (hB : Below w0.heap.size w0 w) (hb : ∀ x ∈ b, 0 ≤ x ∧ x ≤ 255) (ho : i + 1 + byt b i ≤ b.length) :
    Calls Try.prog 32 #[.pointer (some ⟨h, 0, none⟩)] w fun e w' => e = .returned (.string (strOfNums ((b.drop (i + 1)).take (byt b i)))) ∧ IsRr w0 w' h b (i + 1 + byt b i) false ∧ Below w0.heap.size w0 w' ∧ KeepBut w w' h none := by
  have hC := Number_in h b i 1 w0 w hI hB (by decide) (by decide) (by omega) hb
  rw [wsum_one, byt_drop] at hC
  have HC := Aside0.mk hC
  have hbi := byt_le hb i
  generalize byt b i = n at *
  have hw : IntKind.i64.wrap (n : Int) = (n : Int) := (i64_w _).trans (show wrap64 _ = _ by unfold wrap64; omega)
  have hw' : wrap64 (n : Int) = (n : Int) := by unfold wrap64; omega
  have Ho := Aside0.mk (And.intro ho hbi)
  clear hI hB hC hb ho hbi
  go_enter Try.func32, Try.ntmps32
  go_wp2_with fail
  refine HC.out.mono ?_
  rintro e1 w1 ⟨rfl, hI1, hB1, hK1⟩
  have HB1 := Aside0.mk hB1
  have HK1 := Aside0.mk hK1
  obtain ⟨A, c, h1, h2, h3, h4, h5, h6⟩ := hI1
  have c0 : w1.cell? ⟨h, 0, none⟩ = some (.slice A b.length c) := (blk_cell h1 0).trans rfl
  have c1 : w1.cell? ⟨h, 1, none⟩ = some (.int .i64 ((i + 1 : Nat) : Int)) := (blk_cell h1 1).trans rfl
  have c2 : w1.cell? ⟨h, 2, none⟩ = some (.bool false) := (blk_cell h1 2).trans rfl
  have f1 := blk_frozen h1 1
  have HI2 := Aside0.mk (show IsRr w0 (w1.setCell ⟨h, 1, none⟩ (.int .i64 ((i + 1 + n : Nat) : Int))) h b (i + 1 + n) false from ⟨A, c, by simpa using blk_set h1 1 (.int .i64 ((i + 1 + n : Nat) : Int)), h2, h3, h4, h5, by have := Ho.out; omega⟩)
  have HG := Aside0.mk h2
  have d : decide ((b.length : Int) < ((i + 1 + n : Nat) : Int)) = false := decide_eq_false (by have := Ho.out; omega)
  have hcut := cutM A b.length c ((i + 1 : Nat) : Int) ((i + 1 + n : Nat) : Int) (by omega) (by omega) (by have := Ho.out; omega) h4
  have hM := Kd.C_mid h3 (lo := i + 1) (hi := i + 1 + n) (by omega) (by have := Ho.out; omega) h4
  have eM : (b.take (i + 1 + n)).drop (i + 1) = (b.drop (i + 1)).take n := by rw [List.drop_take, Nat.add_sub_cancel_left]
  have eL : ((b.drop (i + 1)).take n).length = n := by have := Ho.out; simp; omega
  rw [eM, eL] at hM
  have e1' : ((i + 1 + n : Nat) : Int).toNat - ((i + 1 : Nat) : Int).toNat = n := by omega
  rw [e1', Int.toNat_natCast] at hcut
  generalize hA' : (if c = i + 1 then A else A.map (·.add ((i + 1) * 1))) = A' at hcut
  have hM' : Kd.C (Kd.int .u8) w0 A' n ((b.drop (i + 1)).take n) := hA' ▸ hM
  have HM := Aside0.mk hM'
  have hs : IntKind.i64.wrap (((i + 1 : Nat) : Int) + (n : Int)) = ((i + 1 + n : Nat) : Int) := (i64_w _).trans (show wrap64 _ = _ by have := Ho.out; unfold wrap64; omega)
  have hs2 : IntKind.i64.wrap (((i + 1 + n : Nat) : Int) - (n : Int)) = ((i + 1 : Nat) : Int) := (i64_w _).trans (show wrap64 _ = _ by have := Ho.out; unfold wrap64; omega)
  have hs2' : wrap64 (((i + 1 + n : Nat) : Int) - (n : Int)) = ((i + 1 : Nat) : Int) := by have := Ho.out; unfold wrap64; omega
  have hs' : wrap64 (((i + 1 : Nat) : Int) + (n : Int)) = ((i + 1 + n : Nat) : Int) := by have := Ho.out; unfold wrap64; omega
  generalize c - (i + 1) = c' at *
  generalize ((i + 1 + n : Nat) : Int) = z at *
  generalize ((i + 1 : Nat) : Int) = y at *
  clear h1 h2 h3 h4 h5 h6 hB1 hK1 HC hM hM' hA' eM eL e1'
  go_wp2_with fail
  go_quiet (fail)
  have hconv : ∀ (v : Value) (q m : Nat), (convert 30 9 (.slice A' n c')).run Try.prog ((((w1.drewN q).setCell ⟨h, 1, none⟩ v)).drewN m) = .ok (.string (strOfNums ((b.drop (i + 1)).take n))) ((((w1.drewN q).setCell ⟨h, 1, none⟩ v)).drewN m) := fun v q m =>
    Kd.C_string Try.underlying30 Try.underlying5 Try.underlying9 (Kd.C_below HM.out (pw_below_drewN (below_set (pw_below_drewN HB1.out q) HG.out) m))
  have hconv' : ∀ (v : Value) (q m : Nat), (convert 30 9 (.slice A' n c')).run Try.prog ((((w1.setCell ⟨h, 1, none⟩ v).drewN q)).drewN m) = .ok (.string (strOfNums ((b.drop (i + 1)).take n))) ((((w1.setCell ⟨h, 1, none⟩ v).drewN q)).drewN m) := fun v q m =>
    Kd.C_string Try.underlying30 Try.underlying5 Try.underlying9 (Kd.C_below HM.out (pw_below_drewN (pw_below_drewN (below_set HB1.out HG.out) q) m))
  go_wp2_with fail
  go_quiet (fail)
  go_wp2
  go_ret
  exact ⟨by rfl, HI2.out, by first | exact pw_below_drewN (pw_below_drewN (below_set HB1.out HG.out) _) _ | exact pw_below_drewN (below_set HB1.out HG.out) _, by first | exact keep_drewN (keep_drewN (KeepBut.set_ HK1.out _ _) _) _ | exact keep_drewN (KeepBut.set_ HK1.out _ _) _⟩
end Go.Proofs.Ytfoecgcjipckmaa.MineRr
