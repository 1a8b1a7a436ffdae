/- MemKeeps, the walk: for any deeds, place and word the statement returns true. No condition but the word's range. -/
import Derived.Test.YtkeijpngfnmjoaaMineMem
import Derived.Test.YtkeijpngfnmjoaaMineWord
namespace Go.Proofs.Ytkeijpngfnmjoaa.MineMem
open Go.RowKit Go.Proofs.YtkeijpngfnmjoaaW.PrintWords Go.Proofs.YtkeijpngfnmjoaaW.PrintLast Go.Proofs.YtkeijpngfnmjoaaW.PrintMore Go.Proofs.Ytkeijpngfnmjoaa.MineBase Go.Proofs.Ytkeijpngfnmjoaa.QMemPlays
set_option linter.unusedVariables false
set_option linter.unusedSimpArgs false
attribute [local go_sem] Go.Proofs.Ytkeijpngfnmjoaa.MineErr.eql_err Go.Proofs.Ytkeijpngfnmjoaa.MineErr.neq_err Go.Proofs.Ytkeijpngfnmjoaa.MineErr.eql_nil_err Go.Proofs.Ytkeijpngfnmjoaa.MineErr.neq_nil_err
/-- A deed: what, at, w. -/
def kD : Kd (Int × (Int × Int)) := Kd.pair (Kd.int .i64) (Kd.pair (Kd.int .i64) (Kd.int .u32))
theorem deed_at {w : World} {A : Option Addr} {n : Nat} {xs : List (Int × (Int × Int))} (h : Kd.C kD w A n xs) (i : Int) (h0 : 0 ≤ i) (h1 : i < n) :
    ∃ ad p, A = some ad ∧ p ∈ xs ∧ w.cell? ⟨(ad.add (i.toNat * 3)).block, (ad.add (i.toNat * 3)).off + 1, none⟩ = some (.int .i64 p.2.1) ∧ w.cell? ⟨(ad.add (i.toNat * 3)).block, (ad.add (i.toNat * 3)).off + 2, none⟩ = some (.int .u32 p.2.2) := by
  obtain ⟨hl, _, hr⟩ := h
  obtain ⟨ad, e, hc⟩ := hr (by omega)
  have hlt : i.toNat < xs.length := by omega
  obtain ⟨c, hs, hK, hcell⟩ := hc i.toNat _ (List.getElem?_eq_getElem hlt)
  obtain ⟨c0, c1, rfl, hk0, d0, d1, rfl, hk1, hk2⟩ := hK
  obtain rfl := hk0
  obtain rfl := hk1
  obtain rfl := hk2
  exact ⟨ad, _, e, List.getElem_mem hlt, by rw [← add_field _ _ 1 (by omega)]; exact hcell 1 _ rfl, by rw [← add_field _ _ 2 (by omega)]; exact hcell 2 _ rfl⟩
theorem pick_val (c : Int) (hc : -9223372036854775808 ≤ c ∧ c ≤ 9223372036854775807) : ∃ q : Int, dowellaw04_Pick.f c 256 = some q ∧ 0 ≤ q ∧ q < 256 := by
  unfold dowellaw04_Pick.f
  by_cases h : c < 0
  · have e : wrap64 (-(wrap64 (c + 1))) = -(c + 1) := by unfold wrap64; omega
    rw [if_pos h, if_neg (by decide), e]
    refine ⟨_, rfl, ?_, ?_⟩
    · rw [Int.tmod_eq_emod_of_nonneg (by omega)]; omega
    · rw [Int.tmod_eq_emod_of_nonneg (by omega)]; omega
  · rw [if_neg h, if_neg (by decide)]
    refine ⟨_, rfl, ?_, ?_⟩
    · rw [Int.tmod_eq_emod_of_nonneg (by omega)]; omega
    · rw [Int.tmod_eq_emod_of_nonneg (by omega)]; omega
theorem setW_cut (bs : List Int) (i : Nat) (x : Int) (h : i ≤ bs.length) : ((setW bs i x).drop i).take 4 = wb x := by
  unfold setW
  rw [List.drop_append_of_le_length (by simp; omega), List.drop_of_length_le (by simp; omega), List.nil_append, List.take_append_of_le_length (by simp [wb])]
  rfl
theorem setW_word (bs : List Int) (i : Nat) (x : Int) (h : i ≤ bs.length) (hx : 0 ≤ x ∧ x < 4294967296) : field_Word.f 5 (((setW bs i x).drop i).take 4) = some x := by
  rw [setW_cut bs i x h]
  exact (MineWord.word_eq (MineWord.bytes_mem x hx.1) 5 (Nat.le_refl _)).trans (congrArg some (MineWord.word_bytes x hx.1 hx.2))
theorem setW_take (bs : List Int) (i : Nat) (x : Int) (h : i ≤ bs.length) : (setW bs i x).take i = bs.take i := by
  unfold setW
  rw [List.take_append_of_le_length (by simp; omega), List.take_take, Nat.min_self]
theorem setW_drop (bs : List Int) (i : Nat) (x : Int) (h : i + 4 ≤ bs.length) : (setW bs i x).drop (i + 4) = bs.drop (i + 4) := by
  unfold setW
  rw [← List.append_assoc, List.drop_append_of_le_length (by simp [wb]; omega), List.drop_of_length_le (by simp [wb]; omega), List.nil_append]
/-- What was made behind the memory stays while the memory is written. -/
theorem had_keep {w1 w2 : World} {base g r : Nat} {v : Value} {xs : List Int} (h : Kd.R (Kd.int .u8) 5 w1 base (fun _ => True) v xs) (hk : KeepBut w1 w2 g (some r)) (hg : g < base) (hr : r < base) : Kd.R (Kd.int .u8) 5 w2 base (fun _ => True) v xs :=
  Kd.R_mono (Kd.R_move (Kd.R_bound h) (fun k hk' => hk.2 k hk'.2.2.1 (by have := hk'.2.1; omega) (by have := hk'.2.1; intro e; injection e with e; omega))) (fun _ _ => trivial)
/-- Cuts of a row, and their strings. -/
theorem cut_strs {W : World} {A : Option Addr} {n c : Nat} {xs : List Int} (hn : xs.length = n) (hc : n ≤ c) (h : Kd.C (Kd.int .u8) W A n xs) (k : Int) (h0 : 0 ≤ k) (h4 : k + 4 ≤ n) :
    ∃ A' n' c', (∀ W', (Instr.slice 34 (.slice A n c) none (some (.int .i64 k)) none).run Try.prog W' = .ok (.slice A k.toNat c) W') ∧
      (∀ W', (Instr.slice 34 (.slice A n c) (some (.int .i64 (k + 4))) none none).run Try.prog W' = .ok (.slice A' n' c') W') ∧
      (∀ m, (convert 34 9 (.slice A k.toNat c)).run Try.prog (W.drewN m) = .ok (.string (strOfNums (xs.take k.toNat))) (W.drewN m)) ∧
      (∀ m, (convert 34 9 (.slice A' n' c')).run Try.prog (W.drewN m) = .ok (.string (strOfNums (xs.drop (k.toNat + 4)))) (W.drewN m)) := by
  subst hn
  obtain ⟨i0, hi, hzz⟩ := Option.map_eq_some_iff.1 info5'
  simp only [Prod.mk.injEq] at hzz
  have e4 : (k + 4).toNat = k.toNat + 4 := by omega
  have hT := Kd.C_take h (m := k.toNat) (by omega)
  have hD := Kd.C_drop h (m := (k + 4).toNat) (by omega) hc
  rw [show (xs.take k.toNat).length = k.toNat by rw [List.length_take]; omega] at hT
  have hl : (xs.drop (k + 4).toNat).length = xs.length - (k + 4).toNat := List.length_drop
  refine ⟨_, _, _, cut_to 34 5 .i64 Try.underlying34 hi A xs.length c k h0 (by omega) hc, cut_from 34 5 .i64 Try.underlying34 hi 1 hzz.2.1 A xs.length c (k + 4) (by omega) (by omega), fun m => Kd.C_string Try.underlying34 Try.underlying5 Try.underlying9 (show Kd.C (Kd.int .u8) (W.drewN m) _ _ _ from hT), fun m => ?_⟩
  rw [← hl, ← e4]
  exact Kd.C_string Try.underlying34 Try.underlying5 Try.underlying9 (show Kd.C (Kd.int .u8) (W.drewN m) _ _ _ from hD)
theorem cell_keep {w w1 : World} {a : Addr} {v : Value} (hb : Below w.heap.size w.drew w1) (hc : w.cell? a = some v) : w1.cell? a = some v := pw_cell_below (show Below w.heap.size w w1 from (below_drew1 (Below.refl _ w)).trans hb) hc
set_option maxHeartbeats 1000000 in
set_option maxRecDepth 100000 in
theorem MemKeeps_calls (A0 : Option Addr) (c0 : Nat) (l : List (Int × (Int × Int))) (a x : Int) (w : World) (hr0 : Kd.C kD w A0 l.length l) (hc0 : l.length ≤ c0) (hl : ∀ p ∈ l, (-9223372036854775808 ≤ p.2.1 ∧ p.2.1 ≤ 9223372036854775807)) (ha : -9223372036854775808 ≤ a ∧ a ≤ 9223372036854775807) (hx : 0 ≤ x ∧ x < 4294967296) :
    Calls Try.prog 3 #[.slice A0 l.length c0, .int .i64 a, .int .u32 x] w fun e w' => e = .returned (.bool true) ∧ Below w.heap.size w w' := by
  have HR := Aside0.mk hr0
  have HL := Aside0.mk hl
  clear hr0 hl
  go_enter Try.func3, Try.ntmps3
  go_wp2_with fail
  refine (up_calls w).mono ?_
  rintro e1 w1 ⟨rfl, hb1⟩
  have HB1 := Aside0.mk hb1
  clear hb1
  go_wp2_with fail
  refine (New_ok 1024 w1 (by decide) (by decide) (by decide)).mono ?_
  rintro e2 w2 ⟨rfl, hI2, hb2⟩
  have HI2 := Aside0.mk (show IsMem w w2 (w1.heap.size + 1) w1.heap.size (List.replicate 1024 0) from ⟨hI2.1, hI2.2.1, Nat.le_trans HB1.out.size hI2.2.2.1, Nat.le_trans HB1.out.size hI2.2.2.2.1, hI2.2.2.2.2⟩)
  have HB2 := Aside0.mk (below_step HB1.out hb2)
  clear hI2 hb2
  by_cases c : (150 : Int) < (l.length : Int)
  · have cb : decide ((150 : Int) < (l.length : Int)) = true := decide_eq_true c
    clear c
    go_wp2
    go_ret
    exact ⟨by rfl, HB2.out⟩
  · have cb : decide ((150 : Int) < (l.length : Int)) = false := decide_eq_false c
    have hl150 := Aside0.mk (show l.length ≤ 150 by omega)
    clear c
    generalize hg : w1.heap.size + 1 = g at *
    generalize hr : w1.heap.size = r at *
    clear hg hr
    go_wp2_with fail
    go_loopg [10] (l.length + 1) (fun kq v10 w' => ∃ (i : Int) (bs : List Int), v10 = .int .i64 i ∧ Aside0 (0 ≤ i ∧ i ≤ l.length) ∧ Aside0 ((l.length : Int) - i < kq) ∧ Aside0 (bs.length = 1024) ∧ Aside0 (IsMem w w' g r bs) ∧ Aside0 (Below w.heap.size w w'))
    case atStart => exact ⟨0, _, rfl, ⟨by omega⟩, ⟨by omega⟩, ⟨List.length_replicate ..⟩, HI2, HB2⟩
    case round =>
      obtain ⟨i, bs, rfl, Hi, Hk, Hn, HI, HB⟩ := hrel
      by_cases c : i < (l.length : Int)
      · have cb : decide (i < (l.length : Int)) = true := decide_eq_true c
        obtain ⟨ad, p, rfl, hp, hc1, hc2⟩ := deed_at HR.out i Hi.out.1 c
        have hc1' := pw_cell_below HB.out hc1
        have hc2' := pw_cell_below HB.out hc2
        obtain ⟨q, hq, hq0, hq1⟩ := pick_val p.2.1 (HL.out p hp)
        have p1 : (0 ≤ i) = True := eq_true Hi.out.1
        have p2 : (i < (l.length : Int)) = True := eq_true c
        have hq4 : Int.tmod (4 * q) 4 = 0 := Int.mul_tmod_right 4 q
        have hq5 : 0 ≤ 4 * q := by omega
        have hq6 : 4 * q + 4 ≤ (bs.length : Int) := by have := Hn.out; omega
        have hqw : IntKind.i64.wrap (4 * q) = 4 * q := (i64_w _).trans (show wrap64 (4 * q) = 4 * q by unfold wrap64; omega)
        clear c hc1 hc2
        go_wp2_with fail
        go_region_law (first
          | (go_simp; go_at_call 14; refine (dowellaw04_Pick.calls p.2.1 256 q _ hq).mono ?_; rintro e3 w3 ⟨rfl, hd3⟩; have hb3 := hd3.below; have HI3 := Aside0.mk (HI.out.drew.below hb3); have HB3 := Aside0.mk (below_step (below_drew1 HB.out) hb3); have hc3 := cell_keep hb3 hc2'; clear hd3 hb3)
          | (go_simp; go_at_call 13; with_reducible refine (SetWord_in g r bs (4 * q) p.2.2 w _ HI3.out HB3.out hq5 hq4 hq6).mono ?_; rintro e4 w4 ⟨rfl, hI4, hB4, _⟩; have HI4 := Aside0.mk hI4; have HB4 := Aside0.mk hB4; clear hI4 hB4))
        all_goals (
          have hiw : IntKind.i64.wrap (i + 1) = i + 1 := (i64_w _).trans (show wrap64 (i + 1) = i + 1 by have := Hi.out; have := hl150.out; unfold wrap64; omega)
          go_wp2
          go_roundg (gk - 1)
          case measure => have := Hk.out; have := Hi.out; omega
          case rel => exact ⟨i + 1, _, rfl, ⟨by have := Hi.out; have := of_eq_true p2; omega⟩, ⟨by have := Hk.out; have := Hi.out; omega⟩, ⟨by rw [setW_len _ _ _ (by omega)]; exact Hn.out⟩, HI4, HB4⟩)
      · have cb : decide (i < (l.length : Int)) = false := decide_eq_false c
        clear c
        go_wp2_with fail
        refine (Bytes_some g r bs 0 1024 0 1024 w wr HI.out HB.out (by decide) (by rw [Hn.out]; decide) (by decide)).mono ?_
        rw [show (bs.drop (0 : Int).toNat).take ((1024 : Int).toNat - (0 : Int).toNat) = bs from (by show (bs.drop 0).take 1024 = bs; rw [List.drop_zero, ← Hn.out, List.take_length])]
        rintro e5 w5 ⟨v5, rfl, hR5, hI5, hB5, _⟩
        have hg5 := Aside0.mk (show g < wr.heap.size from blk_lt HI.out.1)
        have hr5 := Aside0.mk (show r < wr.heap.size from blk_lt HI.out.2.1)
        obtain ⟨A5, c5, hv5⟩ := Kd.R_slice hR5
        rw [Hn.out] at hv5
        subst hv5
        have HR5 := Aside0.mk hR5
        have HI5 := Aside0.mk hI5
        have HB5 := Aside0.mk hB5
        clear hR5 hI5 hB5 HI HB
        obtain ⟨q, hq, hq0, hq1⟩ := pick_val a ha
        go_wp2_with fail
        refine (dowellaw04_Pick.calls a 256 q _ hq).mono ?_
        rintro e6 w6 ⟨rfl, hd6⟩
        have hb6 := hd6.below
        have HI6 := Aside0.mk (HI5.out.below hb6)
        have HB6 := Aside0.mk (below_step HB5.out hb6)
        have HR6 := Aside0.mk (Kd.R_below HR5.out hb6)
        clear hd6 hb6 HI5 HB5 HR5
        have hq4 : Int.tmod (4 * q) 4 = 0 := Int.mul_tmod_right 4 q
        have hq5 : 0 ≤ 4 * q := by omega
        have hq6 : 4 * q + 4 ≤ (bs.length : Int) := by have := Hn.out; omega
        have hqw : IntKind.i64.wrap (4 * q) = 4 * q := (i64_w _).trans (show wrap64 (4 * q) = 4 * q by unfold wrap64; omega)
        go_wp2_with fail
        with_reducible refine (SetWord_in g r bs (4 * q) x w _ HI6.out HB6.out hq5 hq4 hq6).mono ?_
        rintro e7 w7 ⟨rfl, hI7, hB7, hK7⟩
        have HI7 := Aside0.mk hI7
        have HB7 := Aside0.mk hB7
        have HR7 := Aside0.mk (had_keep HR6.out hK7 hg5.out hr5.out)
        clear hI7 hB7 hK7 HI6 HB6 HR6
        go_wp2_with fail
        have hn7 : (setW bs (4 * q).toNat x).length = 1024 := by rw [setW_len _ _ _ (by omega)]; exact Hn.out
        have hv7 := setW_word bs (4 * q).toNat x (by omega) hx
        have HS := Aside0.mk (And.intro (setW_take bs (4 * q).toNat x (by omega)) (setW_drop bs (4 * q).toNat x (by omega)))
        generalize setW bs (4 * q).toNat x = cs at *
        with_reducible refine (Word_in g r cs (4 * q) x 5 w _ HI7.out HB7.out hq5 hq4 (by rw [hn7]; rw [Hn.out] at hq6; exact hq6) hv7).mono ?_
        rintro e8 w8 ⟨rfl, hI8, hB8, hK8⟩
        have HI8 := Aside0.mk hI8
        have HB8 := Aside0.mk hB8
        have HR8 := Aside0.mk (had_keep HR7.out hK8 hg5.out hr5.out)
        clear hI8 hB8 hK8 HI7 HB7 HR7 hv7
        have Hn8 := Aside0.mk hn7
        clear hn7
        go_wp2_with fail
        refine (Bytes_some g r cs 0 1024 0 1024 w w8 HI8.out HB8.out (by decide) (by rw [Hn8.out]; decide) (by decide)).mono ?_
        rw [show (cs.drop (0 : Int).toNat).take ((1024 : Int).toNat - (0 : Int).toNat) = cs from (by show (cs.drop 0).take 1024 = cs; rw [List.drop_zero, ← Hn8.out, List.take_length])]
        rintro e9 w9 ⟨v9, rfl, hR9, hI9, hB9, hK9⟩
        have HR8' := Aside0.mk (had_keep HR8.out hK9 hg5.out hr5.out)
        have HB9 := Aside0.mk hB9
        obtain ⟨A9, c9, e9, hc9, hC9⟩ := Kd.R_reads hR9
        rw [Hn8.out] at e9 hc9 hC9
        subst e9
        obtain ⟨A5', c5', e5, hc5, hC5⟩ := Kd.R_reads HR8'.out
        rw [Hn.out] at e5 hc5 hC5
        injection e5 with e5a _ e5c
        subst e5a e5c
        obtain ⟨X9, n9, k9, s1, s2, s3, s4⟩ := cut_strs Hn8.out hc9 hC9 (4 * q) hq5 (by omega)
        obtain ⟨X5, n5, k5, t1, t2, t3, t4⟩ := cut_strs Hn.out hc5 hC5 (4 * q) hq5 (by omega)
        rw [HS.out.1] at s3
        rw [HS.out.2] at s4
        have hq8 : IntKind.i64.wrap (4 * q + 4) = 4 * q + 4 := (i64_w _).trans (show wrap64 (4 * q + 4) = 4 * q + 4 by unfold wrap64; omega)
        clear hR9 hI9 hB9 hK9 HR8 HR8' hC9 hC5 hc9 hc5 HI8 HB8 hqw hq4 hq5 hq6
        go_wp2_with fail
        go_quiet (fail)
        go_wp2
        go_ret
        exact ⟨by rfl, pw_below_drewN HB9.out _⟩
end Go.Proofs.Ytkeijpngfnmjoaa.MineMem
