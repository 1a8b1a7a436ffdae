/- MemPlays, the walk: for any size, deeds and range the statement returns true. No condition but the numbers' ranges. -/
import Derived.Test.YtkeijpngfnmjoaaMineMemTail
namespace Go.Proofs.Ytkeijpngfnmjoaa.MineMem
open Go.RowKit Go.Proofs.YtkeijpngfnmjoaaW.PrintWords Go.Proofs.YtkeijpngfnmjoaaW.PrintLast Go.Proofs.YtkeijpngfnmjoaaW.PrintMore Go.Proofs.Ytkeijpngfnmjoaa.MineBase Go.Proofs.Ytkeijpngfnmjoaa.QMemPlays
set_option linter.unusedVariables false
set_option linter.unusedSimpArgs false
attribute [local go_sem] Go.Proofs.Ytkeijpngfnmjoaa.MineErr.eql_err Go.Proofs.Ytkeijpngfnmjoaa.MineErr.neq_err Go.Proofs.Ytkeijpngfnmjoaa.MineErr.eql_nil_err Go.Proofs.Ytkeijpngfnmjoaa.MineErr.neq_nil_err
set_option maxHeartbeats 4000000 in
set_option maxRecDepth 100000 in
theorem MemPlays_calls (n : Int) (A0 : Option Addr) (c0 : Nat) (l : List (Int × (Int × Int))) (f t : Int) (w : World) (hr0 : Kd.C kD w A0 l.length l) (hc0 : l.length ≤ c0)
    (hl : ∀ p ∈ l, (-9223372036854775808 ≤ p.1 ∧ p.1 ≤ 9223372036854775807) ∧ (-9223372036854775808 ≤ p.2.1 ∧ p.2.1 ≤ 9223372036854775807) ∧ (0 ≤ p.2.2 ∧ p.2.2 < 4294967296)) (hf : -9223372036854775808 ≤ f ∧ f ≤ 9223372036854775807) (ht : -9223372036854775808 ≤ t ∧ t ≤ 9223372036854775807) :
    Calls Try.prog 4 #[.int .i64 n, .slice A0 l.length c0, .int .i64 f, .int .i64 t] w fun e w' => e = .returned (.bool true) ∧ Below w.heap.size w w' := by
  have HR := Aside0.mk hr0
  have HL := Aside0.mk hl
  clear hr0 hl
  by_cases hn : 1024 ≤ n ∧ n ≤ 65536 ∧ Int.tmod n 4 = 0
  · obtain ⟨n, rfl⟩ : ∃ m : Nat, n = (m : Int) := ⟨n.toNat, by omega⟩
    obtain ⟨n1, n2, n4⟩ := hn
    have HN := Aside0.mk (And.intro n1 (And.intro n2 n4))
    have d1 : decide ((n : Int) < 1024) = false := decide_eq_false (by omega)
    have d2 : decide (65536 < (n : Int)) = false := decide_eq_false (by omega)
    have d3 : (Int.tmod (n : Int) 4 != 0) = false := by simp [n4]
    have d4 : ((n : Int) % 4 != 0) = false := by rw [← Int.tmod_eq_emod_of_nonneg (by omega)]; exact d3
    go_enter Try.func4, Try.ntmps4
    go_wp2_with fail
    refine (up_calls w).mono ?_
    rintro e1 w1 ⟨rfl, hb1⟩
    have HB1 := Aside0.mk hb1
    clear hb1
    go_wp2_with fail
    refine (New_ok n w1 (by omega) (by omega) n4).mono ?_
    rintro e2 w2 ⟨rfl, hI2, hb2⟩
    have HI2 := Aside0.mk (show IsMem w w2 (w1.heap.size + 1) w1.heap.size (List.replicate n 0) from ⟨hI2.1, hI2.2.1, Nat.le_trans HB1.out.size hI2.2.2.1, Nat.le_trans HB1.out.size hI2.2.2.2.1, hI2.2.2.2.2⟩)
    have HB2 := Aside0.mk (below_step HB1.out hb2)
    clear hI2 hb2 n1 n2 n4
    by_cases c : (4096 : Int) < (n : Int) ∨ (150 : Int) < (l.length : Int)
    · by_cases c' : (4096 : Int) < (n : Int)
      · have cb : decide ((4096 : Int) < (n : Int)) = true := decide_eq_true c'
        clear c c'
        go_wp2
        go_ret
        exact ⟨by rfl, HB2.out⟩
      · have cb' : decide ((4096 : Int) < (n : Int)) = false := decide_eq_false c'
        have cb : decide ((150 : Int) < (l.length : Int)) = true := decide_eq_true (by omega)
        clear c c'
        go_wp2
        go_ret
        exact ⟨by rfl, HB2.out⟩
    · have cb' : decide ((4096 : Int) < (n : Int)) = false := decide_eq_false (by omega)
      have cb : decide ((150 : Int) < (l.length : Int)) = false := decide_eq_false (by omega)
      have hl150 := Aside0.mk (show l.length ≤ 150 ∧ n ≤ 4096 by omega)
      clear c
      generalize hg : w1.heap.size + 1 = g at *
      generalize hr : w1.heap.size = r at *
      clear hg hr
      go_wp2_with (refine make_bytes rfl (.tmp 75) (.tmp 75) rfl n rfl rfl (by have := hl150.out; omega) ?_)
      have HO := Aside0.mk (show Both w (w2.alloc (.cells (bytesC (List.replicate n 0)) 5)) g r w2.heap.size (List.replicate n 0) n from by
        have hb := below_alloc (Below.refl w2.heap.size w2) (.cells (bytesC (List.replicate n 0)) 5)
        have hg := blk_lt HI2.out.1
        have hr := blk_lt HI2.out.2.1
        refine ⟨HI2.out.below hb, ?_, List.length_replicate .., fun x hx => ?_, by omega, by omega, below_step HB2.out hb, HB2.out.size⟩
        · show blk _ _ = _
          rw [get_alloc, if_pos rfl]
        · rw [List.mem_replicate] at hx; omega)
      generalize w2.heap.size = o at *
      generalize hW3 : World.alloc w2 _ = w3 at *
      clear hW3 HI2 HB2
      rename_i K hK
      have HKK := Aside0.mk hK
      clear hK
      go_loopg [13] (l.length + 1) (fun kq v13 w' => ∃ (i : Int) (bs : List Int), v13 = .int .i64 i ∧ Aside0 (0 ≤ i ∧ i ≤ l.length) ∧ Aside0 ((l.length : Int) - i < kq) ∧ Aside0 (Both w w' g r o bs n))
      case atStart => exact ⟨0, _, rfl, ⟨by omega⟩, ⟨by omega⟩, HO⟩
      case round =>
        obtain ⟨G, rfl⟩ : ∃ G : Nat, G = gk := ⟨_, rfl⟩
        obtain ⟨wo, rfl⟩ : ∃ wo : World, wo = wr := ⟨_, rfl⟩
        obtain ⟨i, bs, rfl, Hi, Hk, HO⟩ := hrel
        by_cases c : i < (l.length : Int)
        · have cb : decide (i < (l.length : Int)) = true := decide_eq_true c
          obtain ⟨ad, p, rfl, hp, hc0, hc1, hc2⟩ := deed3 HR.out i Hi.out.1 c
          have hc0' := pw_cell_below HO.out.below hc0
          have hc1' := pw_cell_below HO.out.below hc1
          have hc2' := pw_cell_below HO.out.below hc2
          obtain ⟨q, hq, hq4⟩ := pick4 p.1 (HL.out p hp).1
          have Hp := Aside0.mk (HL.out p hp).2
          have p1 : (0 ≤ i) = True := eq_true Hi.out.1
          have p2 : (i < (l.length : Int)) = True := eq_true c
          have hiw : IntKind.i64.wrap (i + 1) = i + 1 := (i64_w _).trans (show wrap64 (i + 1) = i + 1 by have := Hi.out; have := hl150.out; unfold wrap64; omega)
          have Hq := Aside0.mk hq4
          clear c hc0 hc1 hc2 hq4
          go_wp2_with fail
          have hbx := below_alloc (Below.refl wo.heap.size wo) (.cells #[.int .i64 p.1, .int .i64 p.2.1, .int .u32 p.2.2] 33)
          have HO3 := Aside0.mk (HO.out.step hbx)
          have HX3 := Aside0.mk (show BoxD (wo.alloc (.cells #[.int .i64 p.1, .int .i64 p.2.1, .int .u32 p.2.2] 33)) wo.heap.size p from by show blk _ _ = _; rw [get_alloc, if_pos rfl])
          generalize wo.heap.size = b at *
          generalize hW3 : World.alloc wo _ = w3 at *
          clear hW3 HO hbx hc0' hc1' hc2'
          refine (dowellaw04_Pick.calls p.1 4 q _ hq).mono ?_
          rintro e4 w4 ⟨rfl, hd4⟩
          have hb4 := hd4.below
          have HO4 := Aside0.mk (HO3.out.step hb4)
          have HX4 := Aside0.mk (HX3.out.below hb4)
          clear hd4 hb4 HO3 HX3 hq
          have hx1 := HX4.out.c1
          have hx2 := HX4.out.c2
          rcases Hq.out with rfl | rfl | rfl | rfl
          · by_cases c1 : p.2.1 < 0
            · have g1 : decide (p.2.1 < 0) = true := decide_eq_true c1
              by_cases c3 : Int.tmod p.2.1 4 = 0
              · have g3 : (Int.tmod p.2.1 4 != 0) = false := by simp [c3]
                as_aux_lemma =>
                  have hw : whyW bs.length p.2.1 = 2 := by rw [HO4.out.len]; unfold whyW; rw [if_pos c3, if_pos c1]
                  have hC := Word_out g r bs p.2.1 w w4 HO4.out.mem HO4.out.below (by rw [hw]; decide)
                  rw [hw] at hC
                  have HC := Aside0.mk hC
                  clear hC hw
                  clear c1 c3
                  go_wp2_with fail
                  refine HC.out.mono ?_
                  rintro e5 w5 ⟨rfl, hI5, hB5, hK5⟩
                  have HO5 := Aside0.mk (HO4.out.call hI5 hB5 hK5 (.inl rfl) (.inr rfl))
                  clear hI5 hB5 hK5 HC HO4
                  go_wp2
                  go_roundg (G - 1)
                  case measure => have := Hk.out; have := Hi.out; omega
                  case rel => exact ⟨i + 1, _, rfl, ⟨by have := Hi.out; have := of_eq_true p2; omega⟩, ⟨by have := Hk.out; have := Hi.out; omega⟩, HO5⟩
              · have g3 : (Int.tmod p.2.1 4 != 0) = true := bne_iff_ne.mpr c3
                as_aux_lemma =>
                  have hw : whyW bs.length p.2.1 = 3 := by rw [HO4.out.len]; unfold whyW; rw [if_neg c3]
                  have hC := Word_out g r bs p.2.1 w w4 HO4.out.mem HO4.out.below (by rw [hw]; decide)
                  rw [hw] at hC
                  have HC := Aside0.mk hC
                  clear hC hw
                  clear c1 c3
                  go_wp2_with fail
                  refine HC.out.mono ?_
                  rintro e5 w5 ⟨rfl, hI5, hB5, hK5⟩
                  have HO5 := Aside0.mk (HO4.out.call hI5 hB5 hK5 (.inl rfl) (.inr rfl))
                  clear hI5 hB5 hK5 HC HO4
                  go_wp2
                  go_roundg (G - 1)
                  case measure => have := Hk.out; have := Hi.out; omega
                  case rel => exact ⟨i + 1, _, rfl, ⟨by have := Hi.out; have := of_eq_true p2; omega⟩, ⟨by have := Hk.out; have := Hi.out; omega⟩, HO5⟩
            · have g1 : decide (p.2.1 < 0) = false := decide_eq_false c1
              by_cases c2 : (n : Int) ≤ p.2.1
              · have g2 : decide ((n : Int) ≤ p.2.1) = true := decide_eq_true c2
                by_cases c3 : Int.tmod p.2.1 4 = 0
                · have g3 : (Int.tmod p.2.1 4 != 0) = false := by simp [c3]
                  as_aux_lemma =>
                    have hw : whyW bs.length p.2.1 = 2 := by rw [HO4.out.len]; unfold whyW; rw [if_pos c3, if_neg c1, if_pos c2]
                    have hC := Word_out g r bs p.2.1 w w4 HO4.out.mem HO4.out.below (by rw [hw]; decide)
                    rw [hw] at hC
                    have HC := Aside0.mk hC
                    clear hC hw
                    clear c1 c2 c3
                    go_wp2_with fail
                    refine HC.out.mono ?_
                    rintro e5 w5 ⟨rfl, hI5, hB5, hK5⟩
                    have HO5 := Aside0.mk (HO4.out.call hI5 hB5 hK5 (.inl rfl) (.inr rfl))
                    clear hI5 hB5 hK5 HC HO4
                    go_wp2
                    go_roundg (G - 1)
                    case measure => have := Hk.out; have := Hi.out; omega
                    case rel => exact ⟨i + 1, _, rfl, ⟨by have := Hi.out; have := of_eq_true p2; omega⟩, ⟨by have := Hk.out; have := Hi.out; omega⟩, HO5⟩
                · have g3 : (Int.tmod p.2.1 4 != 0) = true := bne_iff_ne.mpr c3
                  as_aux_lemma =>
                    have hw : whyW bs.length p.2.1 = 3 := by rw [HO4.out.len]; unfold whyW; rw [if_neg c3]
                    have hC := Word_out g r bs p.2.1 w w4 HO4.out.mem HO4.out.below (by rw [hw]; decide)
                    rw [hw] at hC
                    have HC := Aside0.mk hC
                    clear hC hw
                    clear c1 c2 c3
                    go_wp2_with fail
                    refine HC.out.mono ?_
                    rintro e5 w5 ⟨rfl, hI5, hB5, hK5⟩
                    have HO5 := Aside0.mk (HO4.out.call hI5 hB5 hK5 (.inl rfl) (.inr rfl))
                    clear hI5 hB5 hK5 HC HO4
                    go_wp2
                    go_roundg (G - 1)
                    case measure => have := Hk.out; have := Hi.out; omega
                    case rel => exact ⟨i + 1, _, rfl, ⟨by have := Hi.out; have := of_eq_true p2; omega⟩, ⟨by have := Hk.out; have := Hi.out; omega⟩, HO5⟩
              · have g2 : decide ((n : Int) ≤ p.2.1) = false := decide_eq_false c2
                by_cases c3 : Int.tmod p.2.1 4 = 0
                · have g3 : (Int.tmod p.2.1 4 != 0) = false := by simp [c3]
                  as_aux_lemma =>
                    have hlen := HO4.out.len
                    have hle : p.2.1 + 4 ≤ (bs.length : Int) := by rw [hlen]; exact len4 n p.2.1 (by omega) (by omega) c3 HN.out.2.2
                    have h0 : 0 ≤ p.2.1 := by omega
                    have q1 : (0 ≤ p.2.1) = True := eq_true h0
                    have q2 : (p.2.1 ≤ (n : Int)) = True := eq_true (by omega)
                    have q3 : (p.2.1 ≤ p.2.1 + 4) = True := eq_true (by omega)
                    have q4 : (p.2.1 + 4 ≤ (n : Int)) = True := eq_true (by omega)
                    have q5 : (0 ≤ p.2.1 + 4) = True := eq_true (by omega)
                    have q6 : ¬ n = p.2.1.toNat := by omega
                    have ww : wrap64 (p.2.1 + 4) = p.2.1 + 4 := by have := hl150.out; unfold wrap64; omega
                    have hv := MineWord.word_eq (mem_cut HO4.out.byt p.2.1.toNat 4) 5 (Nat.le_refl _)
                    have hv' := MineWord.ref_eq (mem_cut HO4.out.byt p.2.1.toNat 4) 5 (Nat.le_refl _)
                    generalize ((MineWord.wordN ((bs.drop p.2.1.toNat).take 4) : Nat) : Int) = v at hv hv'
                    have Hlen := Aside0.mk hlen
                    have Hw := Aside0.mk hv'
                    have C := Word_in g r bs p.2.1 v 5 w w4 HO4.out.mem HO4.out.below h0 c3 hle hv
                    have HC := Aside0.mk C
                    clear C hlen hv hv' hle
                    go_wp2_with fail
                    refine HC.out.mono ?_
                    rintro e5 w5 ⟨rfl, hI5, hB5, hK5⟩
                    have HX5 := Aside0.mk (box_call HO4.out HX4.out hK5 (.inl rfl) (.inr rfl))
                    have HO5 := Aside0.mk (HO4.out.call hI5 hB5 hK5 (.inl rfl) (.inr rfl))
                    have hx51 := HX5.out.c1
                    clear hI5 hB5 hK5 hx1 hx2 HO4 HX4 HC
                    go_wp2_with fail
                    have e4 : (p.2.1 + 4).toNat - p.2.1.toNat = ((bs.drop p.2.1.toNat).take 4).length := by have := Hlen.out; have := of_eq_true q4; simp; omega
                    rw [e4]
                    refine (dowelref01_Word.calls 5 (some ⟨o, p.2.1.toNat, none⟩) (n - p.2.1.toNat) ((bs.drop p.2.1.toNat).take 4) v _ (HO5.out.row.cut (by have := Hlen.out; have := hl150.out; omega) _ _) (by have := Hlen.out; simp; omega) Hw.out).mono ?_
                    rintro e6 w6 ⟨rfl, hd6⟩
                    have HO6 := Aside0.mk (HO5.out.step hd6.below)
                    clear hd6 HO5 HX5 e4
                    go_wp2
                    go_roundg (G - 1)
                    case measure => have := Hk.out; have := Hi.out; omega
                    case rel => exact ⟨i + 1, _, rfl, ⟨by have := Hi.out; have := of_eq_true p2; omega⟩, ⟨by have := Hk.out; have := Hi.out; omega⟩, HO6⟩
                · have g3 : (Int.tmod p.2.1 4 != 0) = true := bne_iff_ne.mpr c3
                  as_aux_lemma =>
                    have hw : whyW bs.length p.2.1 = 3 := by rw [HO4.out.len]; unfold whyW; rw [if_neg c3]
                    have hC := Word_out g r bs p.2.1 w w4 HO4.out.mem HO4.out.below (by rw [hw]; decide)
                    rw [hw] at hC
                    have HC := Aside0.mk hC
                    clear hC hw
                    clear c1 c2 c3
                    go_wp2_with fail
                    refine HC.out.mono ?_
                    rintro e5 w5 ⟨rfl, hI5, hB5, hK5⟩
                    have HO5 := Aside0.mk (HO4.out.call hI5 hB5 hK5 (.inl rfl) (.inr rfl))
                    clear hI5 hB5 hK5 HC HO4
                    go_wp2
                    go_roundg (G - 1)
                    case measure => have := Hk.out; have := Hi.out; omega
                    case rel => exact ⟨i + 1, _, rfl, ⟨by have := Hi.out; have := of_eq_true p2; omega⟩, ⟨by have := Hk.out; have := Hi.out; omega⟩, HO5⟩
          · by_cases c1 : p.2.1 < 0
            · have g1 : decide (p.2.1 < 0) = true := decide_eq_true c1
              by_cases c3 : Int.tmod p.2.1 4 = 0
              · have g3 : (Int.tmod p.2.1 4 != 0) = false := by simp [c3]
                as_aux_lemma =>
                  have hw : whyW bs.length p.2.1 = 2 := by rw [HO4.out.len]; unfold whyW; rw [if_pos c3, if_pos c1]
                  have hC := SetWord_out g r bs p.2.1 p.2.2 w w4 HO4.out.mem HO4.out.below (by rw [hw]; decide)
                  rw [hw] at hC
                  have HC := Aside0.mk hC
                  clear hC hw
                  clear c1 c3
                  go_wp2_with fail
                  refine HC.out.mono ?_
                  rintro e5 w5 ⟨rfl, hI5, hB5, hK5⟩
                  have HO5 := Aside0.mk (HO4.out.call hI5 hB5 hK5 (.inl rfl) (.inr rfl))
                  clear hI5 hB5 hK5 HC HO4
                  go_wp2
                  go_roundg (G - 1)
                  case measure => have := Hk.out; have := Hi.out; omega
                  case rel => exact ⟨i + 1, _, rfl, ⟨by have := Hi.out; have := of_eq_true p2; omega⟩, ⟨by have := Hk.out; have := Hi.out; omega⟩, HO5⟩
              · have g3 : (Int.tmod p.2.1 4 != 0) = true := bne_iff_ne.mpr c3
                as_aux_lemma =>
                  have hw : whyW bs.length p.2.1 = 3 := by rw [HO4.out.len]; unfold whyW; rw [if_neg c3]
                  have hC := SetWord_out g r bs p.2.1 p.2.2 w w4 HO4.out.mem HO4.out.below (by rw [hw]; decide)
                  rw [hw] at hC
                  have HC := Aside0.mk hC
                  clear hC hw
                  clear c1 c3
                  go_wp2_with fail
                  refine HC.out.mono ?_
                  rintro e5 w5 ⟨rfl, hI5, hB5, hK5⟩
                  have HO5 := Aside0.mk (HO4.out.call hI5 hB5 hK5 (.inl rfl) (.inr rfl))
                  clear hI5 hB5 hK5 HC HO4
                  go_wp2
                  go_roundg (G - 1)
                  case measure => have := Hk.out; have := Hi.out; omega
                  case rel => exact ⟨i + 1, _, rfl, ⟨by have := Hi.out; have := of_eq_true p2; omega⟩, ⟨by have := Hk.out; have := Hi.out; omega⟩, HO5⟩
            · have g1 : decide (p.2.1 < 0) = false := decide_eq_false c1
              by_cases c2 : (n : Int) ≤ p.2.1
              · have g2 : decide ((n : Int) ≤ p.2.1) = true := decide_eq_true c2
                by_cases c3 : Int.tmod p.2.1 4 = 0
                · have g3 : (Int.tmod p.2.1 4 != 0) = false := by simp [c3]
                  as_aux_lemma =>
                    have hw : whyW bs.length p.2.1 = 2 := by rw [HO4.out.len]; unfold whyW; rw [if_pos c3, if_neg c1, if_pos c2]
                    have hC := SetWord_out g r bs p.2.1 p.2.2 w w4 HO4.out.mem HO4.out.below (by rw [hw]; decide)
                    rw [hw] at hC
                    have HC := Aside0.mk hC
                    clear hC hw
                    clear c1 c2 c3
                    go_wp2_with fail
                    refine HC.out.mono ?_
                    rintro e5 w5 ⟨rfl, hI5, hB5, hK5⟩
                    have HO5 := Aside0.mk (HO4.out.call hI5 hB5 hK5 (.inl rfl) (.inr rfl))
                    clear hI5 hB5 hK5 HC HO4
                    go_wp2
                    go_roundg (G - 1)
                    case measure => have := Hk.out; have := Hi.out; omega
                    case rel => exact ⟨i + 1, _, rfl, ⟨by have := Hi.out; have := of_eq_true p2; omega⟩, ⟨by have := Hk.out; have := Hi.out; omega⟩, HO5⟩
                · have g3 : (Int.tmod p.2.1 4 != 0) = true := bne_iff_ne.mpr c3
                  as_aux_lemma =>
                    have hw : whyW bs.length p.2.1 = 3 := by rw [HO4.out.len]; unfold whyW; rw [if_neg c3]
                    have hC := SetWord_out g r bs p.2.1 p.2.2 w w4 HO4.out.mem HO4.out.below (by rw [hw]; decide)
                    rw [hw] at hC
                    have HC := Aside0.mk hC
                    clear hC hw
                    clear c1 c2 c3
                    go_wp2_with fail
                    refine HC.out.mono ?_
                    rintro e5 w5 ⟨rfl, hI5, hB5, hK5⟩
                    have HO5 := Aside0.mk (HO4.out.call hI5 hB5 hK5 (.inl rfl) (.inr rfl))
                    clear hI5 hB5 hK5 HC HO4
                    go_wp2
                    go_roundg (G - 1)
                    case measure => have := Hk.out; have := Hi.out; omega
                    case rel => exact ⟨i + 1, _, rfl, ⟨by have := Hi.out; have := of_eq_true p2; omega⟩, ⟨by have := Hk.out; have := Hi.out; omega⟩, HO5⟩
              · have g2 : decide ((n : Int) ≤ p.2.1) = false := decide_eq_false c2
                by_cases c3 : Int.tmod p.2.1 4 = 0
                · have g3 : (Int.tmod p.2.1 4 != 0) = false := by simp [c3]
                  as_aux_lemma =>
                    have hlen := HO4.out.len
                    have hle : p.2.1 + 4 ≤ (bs.length : Int) := by rw [hlen]; exact len4 n p.2.1 (by omega) (by omega) c3 HN.out.2.2
                    have h0 : 0 ≤ p.2.1 := by omega
                    have q1 : (0 ≤ p.2.1) = True := eq_true h0
                    have q2 : (p.2.1 ≤ (n : Int)) = True := eq_true (by omega)
                    have q3 : (p.2.1 ≤ p.2.1 + 4) = True := eq_true (by omega)
                    have q4 : (p.2.1 + 4 ≤ (n : Int)) = True := eq_true (by omega)
                    have q5 : (0 ≤ p.2.1 + 4) = True := eq_true (by omega)
                    have q6 : ¬ n = p.2.1.toNat := by omega
                    have ww : wrap64 (p.2.1 + 4) = p.2.1 + 4 := by have := hl150.out; unfold wrap64; omega
                    have Hlen := Aside0.mk hlen
                    have Hle := Aside0.mk hle
                    have HC := Aside0.mk (SetWord_in g r bs p.2.1 p.2.2 w w4 HO4.out.mem HO4.out.below h0 c3 hle)
                    clear hlen hle
                    go_wp2_with fail
                    refine HC.out.mono ?_
                    rintro e5 w5 ⟨rfl, hI5, hB5, hK5⟩
                    have HX5 := Aside0.mk (box_call HO4.out HX4.out hK5 (.inl rfl) (.inr rfl))
                    have HR5 := Aside0.mk (HO4.out.row.keep hK5 HO4.out.og (fun e => HO4.out.or_ (Option.some.inj e)))
                    have HI5 := Aside0.mk (And.intro hI5 hB5)
                    have hx52 := HX5.out.c2
                    clear hI5 hB5 hK5 hx1 hx2 HX4 HC
                    go_wp2_with fail
                    refine (dowelref01_Bytes.calls p.2.2 (wb p.2.2) _ (rbytes p.2.2 Hp.out.2.1)).mono ?_
                    rintro e6 w6 ⟨v6, rfl, hR6, hb6⟩
                    obtain ⟨ad6, c6, e6, _⟩ := wb_cells hR6
                    subst e6
                    have Ho5 := Aside0.mk (blk_lt HR5.out)
                    have HS := Aside0.mk (show Laid w w6 g r o b bs (setW bs p.2.1.toNat p.2.2) p 0 n ad6 c6 from
                      ⟨HI5.out.1.below hb6, below_step HI5.out.2 hb6, by rw [lay0]; exact HR5.out.below hb6, HX5.out.below hb6, w5.heap.size, hR6, Ho5.out, by omega, HO4.out.og, HO4.out.or_, HO4.out.old⟩)
                    have Hrest := Aside0.mk (And.intro HO4.out.byt HO4.out.len)
                    have Hoo := Aside0.mk (And.intro HO4.out.og (And.intro HO4.out.or_ HO4.out.old))
                    clear hR6 hb6 HI5 HR5 HX5 HO4 hx52 Ho5
                    go_wp2_with fail
                    go_loopg [20] 5 (fun kq v20 w' => ∃ k : Nat, v20 = .int .i64 (k : Int) ∧ Aside0 (k + kq = 5) ∧ Aside0 (k ≤ 4) ∧ Aside0 (Laid w w' g r o b bs (setW bs p.2.1.toNat p.2.2) p k n ad6 c6))
                    case atStart => exact ⟨0, rfl, ⟨rfl⟩, ⟨by omega⟩, HS⟩
                    case round =>
                      obtain ⟨k, rfl, Hkk, Hk4, HL6⟩ := hrel
                      by_cases ck : k < 4
                      · have cbk : decide ((k : Int) < 4) = true := decide_eq_true (by omega)
                        have hL := HL6.out
                        obtain ⟨base, hRb, hob, _, hog, hor, _⟩ := hL.2.2.2.2
                        have hy1 := hL.2.2.2.1.c1
                        have hy2 := cell_wb hRb k ck
                        have hlay := lay_len bs p.2.1.toNat p.2.2 k (by omega) (by have := Hle.out; omega)
                        have hcl := hL.2.2.1.cell (p.2.1 + (k : Int)).toNat (by have := Hle.out; omega)
                        have hfl : wr.frozen? ⟨o, (p.2.1 + (k : Int)).toNat, none⟩ = false := blk_frozen hL.2.2.1 _
                        have ha := add0 o (p.2.1 + (k : Int)).toNat
                        have hs : IntKind.i64.wrap (p.2.1 + (k : Int)) = p.2.1 + (k : Int) := (i64_w _).trans (show wrap64 _ = _ by have := hl150.out; have := of_eq_true q4; unfold wrap64; omega)
                        have k1 : (0 ≤ p.2.1 + (k : Int)) = True := eq_true (by omega)
                        have k2 : (p.2.1 + (k : Int) < (n : Int)) = True := eq_true (by have := of_eq_true q4; omega)
                        have k3 : ((k : Int) < 4) = True := eq_true (by omega)
                        have k4 : (0 ≤ (k : Int)) = True := eq_true (by omega)
                        have hk1 : IntKind.i64.wrap ((k : Int) + 1) = ((k + 1 : Nat) : Int) := (i64_w _).trans (show wrap64 _ = _ by unfold wrap64; omega)
                        have HN6 := Aside0.mk (Laid.step HL6.out ck h0 (by have := Hle.out; omega))
                        have Hck := Aside0.mk ck
                        clear hL hRb hob hog hor hlay ck
                        go_wp2_with fail
                        go_region
                        go_wp2
                        go_roundg (gk - 1)
                        case measure => have := Hkk.out; have := Hk4.out; omega
                        case rel => exact ⟨k + 1, rfl, ⟨by have := Hkk.out; have := Hck.out; omega⟩, ⟨by have := Hck.out; omega⟩, ⟨Laid.drew HN6.out⟩⟩
                      · have cbk : decide ((k : Int) < 4) = false := decide_eq_false (by omega)
                        obtain rfl : k = 4 := by have := Hk4.out; omega
                        have HO6 := Aside0.mk (Laid.done HL6.out Hrest.out.1 Hrest.out.2 (by have := Hle.out; omega) Hp.out.2)
                        clear HL6 ck
                        go_wp2
                        go_roundg (G - 1)
                        case measure => have := Hk.out; have := Hi.out; omega
                        case rel => exact ⟨i + 1, _, rfl, ⟨by have := Hi.out; have := of_eq_true p2; omega⟩, ⟨by have := Hk.out; have := Hi.out; omega⟩, HO6⟩
                · have g3 : (Int.tmod p.2.1 4 != 0) = true := bne_iff_ne.mpr c3
                  as_aux_lemma =>
                    have hw : whyW bs.length p.2.1 = 3 := by rw [HO4.out.len]; unfold whyW; rw [if_neg c3]
                    have hC := SetWord_out g r bs p.2.1 p.2.2 w w4 HO4.out.mem HO4.out.below (by rw [hw]; decide)
                    rw [hw] at hC
                    have HC := Aside0.mk hC
                    clear hC hw
                    clear c1 c2 c3
                    go_wp2_with fail
                    refine HC.out.mono ?_
                    rintro e5 w5 ⟨rfl, hI5, hB5, hK5⟩
                    have HO5 := Aside0.mk (HO4.out.call hI5 hB5 hK5 (.inl rfl) (.inr rfl))
                    clear hI5 hB5 hK5 HC HO4
                    go_wp2
                    go_roundg (G - 1)
                    case measure => have := Hk.out; have := Hi.out; omega
                    case rel => exact ⟨i + 1, _, rfl, ⟨by have := Hi.out; have := of_eq_true p2; omega⟩, ⟨by have := Hk.out; have := Hi.out; omega⟩, HO5⟩
          · by_cases c1 : p.2.1 < 0
            · have g1 : decide (p.2.1 < 0) = true := decide_eq_true c1
              as_aux_lemma =>
                have hlen := HO4.out.len
                have hv : mem_Memory_Byte.f bs p.2.1 = some (0, 2) := by unfold mem_Memory_Byte.f; rw [if_pos c1]
                have HC := Aside0.mk (Byte_calls g r bs p.2.1 _ _ w w4 HO4.out.mem HO4.out.below hv)
                clear hlen hv
                clear c1
                go_wp2_with fail
                refine HC.out.mono ?_
                rintro e5 w5 ⟨rfl, hI5, hB5, hK5⟩
                have HO5 := Aside0.mk (HO4.out.call hI5 hB5 hK5 (.inl rfl) (.inl rfl))
                clear hI5 hB5 hK5 HC HO4
                go_wp2
                go_roundg (G - 1)
                case measure => have := Hk.out; have := Hi.out; omega
                case rel => exact ⟨i + 1, _, rfl, ⟨by have := Hi.out; have := of_eq_true p2; omega⟩, ⟨by have := Hk.out; have := Hi.out; omega⟩, HO5⟩
            · have g1 : decide (p.2.1 < 0) = false := decide_eq_false c1
              by_cases c2 : (n : Int) ≤ p.2.1
              · have g2 : decide ((n : Int) ≤ p.2.1) = true := decide_eq_true c2
                as_aux_lemma =>
                  have hlen := HO4.out.len
                  have hv : mem_Memory_Byte.f bs p.2.1 = some (0, 2) := by unfold mem_Memory_Byte.f; rw [if_neg c1, if_pos (by omega)]
                  have HC := Aside0.mk (Byte_calls g r bs p.2.1 _ _ w w4 HO4.out.mem HO4.out.below hv)
                  clear hlen hv
                  clear c1 c2
                  go_wp2_with fail
                  refine HC.out.mono ?_
                  rintro e5 w5 ⟨rfl, hI5, hB5, hK5⟩
                  have HO5 := Aside0.mk (HO4.out.call hI5 hB5 hK5 (.inl rfl) (.inl rfl))
                  clear hI5 hB5 hK5 HC HO4
                  go_wp2
                  go_roundg (G - 1)
                  case measure => have := Hk.out; have := Hi.out; omega
                  case rel => exact ⟨i + 1, _, rfl, ⟨by have := Hi.out; have := of_eq_true p2; omega⟩, ⟨by have := Hk.out; have := Hi.out; omega⟩, HO5⟩
              · have g2 : decide ((n : Int) ≤ p.2.1) = false := decide_eq_false c2
                as_aux_lemma =>
                  have hlen := HO4.out.len
                  have hv : mem_Memory_Byte.f bs p.2.1 = some (rd bs p.2.1, 0) := by unfold mem_Memory_Byte.f; rw [if_neg c1, if_neg (by omega), if_pos (by omega), if_pos (by omega)]
                  have HC := Aside0.mk (Byte_calls g r bs p.2.1 _ _ w w4 HO4.out.mem HO4.out.below hv)
                  have q1 : (0 ≤ p.2.1) = True := eq_true (by omega)
                  have q2 : (p.2.1 < (n : Int)) = True := eq_true (by omega)
                  have ha := add0 o p.2.1.toNat
                  have Hlen := Aside0.mk hlen
                  clear hlen hv
                  go_wp2_with fail
                  refine HC.out.mono ?_
                  rintro e5 w5 ⟨rfl, hI5, hB5, hK5⟩
                  have HX5 := Aside0.mk (box_call HO4.out HX4.out hK5 (.inl rfl) (.inl rfl))
                  have HO5 := Aside0.mk (HO4.out.call hI5 hB5 hK5 (.inl rfl) (.inl rfl))
                  have hx51 := HX5.out.c1
                  have hcl := HO5.out.row.cell p.2.1.toNat (by have := Hlen.out; omega)
                  rw [show ((p.2.1.toNat : Nat) : Int) = p.2.1 by omega] at hcl
                  clear hI5 hB5 hK5 HC HO4 HX4 hx1 hx2 HX5
                  go_wp2
                  go_roundg (G - 1)
                  case measure => have := Hk.out; have := Hi.out; omega
                  case rel => exact ⟨i + 1, _, rfl, ⟨by have := Hi.out; have := of_eq_true p2; omega⟩, ⟨by have := Hk.out; have := Hi.out; omega⟩, HO5⟩
          · by_cases c1 : p.2.1 < 0
            · have g1 : decide (p.2.1 < 0) = true := decide_eq_true c1
              as_aux_lemma =>
                have hn' : ¬ (0 ≤ p.2.1 ∧ p.2.1 < (bs.length : Int)) := by rw [HO4.out.len]; omega
                have Hn' := Aside0.mk hn'
                clear hn'
                clear c1
                go_wp2_with fail
                refine (SetByte_out g r bs p.2.1 _ w w4 HO4.out.mem HO4.out.below Hn'.out).mono ?_
                rintro e5 w5 ⟨rfl, hI5, hB5, hK5⟩
                have HO5 := Aside0.mk (HO4.out.call hI5 hB5 hK5 (.inr rfl) (.inl rfl))
                clear hI5 hB5 hK5 HO4
                go_wp2
                go_roundg (G - 1)
                case measure => have := Hk.out; have := Hi.out; omega
                case rel => exact ⟨i + 1, _, rfl, ⟨by have := Hi.out; have := of_eq_true p2; omega⟩, ⟨by have := Hk.out; have := Hi.out; omega⟩, HO5⟩
            · have g1 : decide (p.2.1 < 0) = false := decide_eq_false c1
              by_cases c2 : (n : Int) ≤ p.2.1
              · have g2 : decide ((n : Int) ≤ p.2.1) = true := decide_eq_true c2
                as_aux_lemma =>
                  have hn' : ¬ (0 ≤ p.2.1 ∧ p.2.1 < (bs.length : Int)) := by rw [HO4.out.len]; omega
                  have Hn' := Aside0.mk hn'
                  clear hn'
                  clear c1 c2
                  go_wp2_with fail
                  refine (SetByte_out g r bs p.2.1 _ w w4 HO4.out.mem HO4.out.below Hn'.out).mono ?_
                  rintro e5 w5 ⟨rfl, hI5, hB5, hK5⟩
                  have HO5 := Aside0.mk (HO4.out.call hI5 hB5 hK5 (.inr rfl) (.inl rfl))
                  clear hI5 hB5 hK5 HO4
                  go_wp2
                  go_roundg (G - 1)
                  case measure => have := Hk.out; have := Hi.out; omega
                  case rel => exact ⟨i + 1, _, rfl, ⟨by have := Hi.out; have := of_eq_true p2; omega⟩, ⟨by have := Hk.out; have := Hi.out; omega⟩, HO5⟩
              · have g2 : decide ((n : Int) ≤ p.2.1) = false := decide_eq_false c2
                as_aux_lemma =>
                  have hlen := HO4.out.len
                  have q1 : (0 ≤ p.2.1) = True := eq_true (by omega)
                  have q2 : (p.2.1 < (n : Int)) = True := eq_true (by omega)
                  have ha := add0 o p.2.1.toNat
                  have Hlen := Aside0.mk hlen
                  have hlow : 0 ≤ p.2.1 ∧ p.2.1 < (bs.length : Int) := by omega
                  have Hlow := Aside0.mk hlow
                  clear hlen hlow
                  go_wp2_with fail
                  refine (SetByte_in g r bs p.2.1 _ w w4 HO4.out.mem HO4.out.below Hlow.out.1 Hlow.out.2).mono ?_
                  rintro e5 w5 ⟨rfl, hI5, hB5, hK5⟩
                  have HX5 := Aside0.mk (box_call HO4.out HX4.out hK5 (.inr rfl) (.inl rfl))
                  have HR5 := Aside0.mk (HO4.out.row.keep hK5 HO4.out.or_ (by simp))
                  have hx51 := HX5.out.c1
                  have hx52 := HX5.out.c2
                  have hcl := HR5.out.cell p.2.1.toNat (by have := Hlen.out; omega)
                  have hfl : w5.frozen? ⟨o, p.2.1.toNat, none⟩ = false := blk_frozen HR5.out _
                  have HO5 := Aside0.mk (HO4.out.put hI5 hB5 HR5.out p.2.1.toNat (p.2.2.tmod 256 % 256) (by omega))
                  clear hI5 hB5 hK5 HO4 HX4 hx1 hx2 HX5 HR5
                  go_wp2
                  go_roundg (G - 1)
                  case measure => have := Hk.out; have := Hi.out; omega
                  case rel => exact ⟨i + 1, _, rfl, ⟨by have := Hi.out; have := of_eq_true p2; omega⟩, ⟨by have := Hk.out; have := Hi.out; omega⟩, HO5⟩
        · have cb : decide (i < (l.length : Int)) = false := decide_eq_false c
          clear c
          go_wp2
          refine HKK.out _ _ ?_
          exact tail44_wp g r o n bs w _ f t HO.out hl150.out.2 (by have := HN.out.1; omega) _ _ _ _ _ _ _ _ _ _ _ _ _ _ _ _ _ _ _ _ _ _ _ _ _ _ _ _ _ _ _ _ _ _ _ _ _ _ _ _ _ _ _ _ _ _ _ _ _ _ _ _ _ _ _ _ _ _ _ _ _ _ _ _ _ _ _ _ _ _ _ _ _ _ _ _ _ _ _ _ _ _ _ _ _ _ _ _ _ _ _ _ _ _ _ _ _ _ _ _ _ _ _ _ _ _ _ _ _ _ _ _ _ _ _ _ _ _ _ _ _ _ _ _ _ _ _ _ _ _ _ _ _ _ _ _ _ _ _ _ _ _ _ _ _ _ _ _ _ _ _ _ _ _ _ _ _ _ _ _ _ _ _ _ _ _ _ _ _ _ _ _ _ _ _ _ _ _ _ _ _ _ _ _ _ _ _ _ _ _ _ _ _ _ _ _ _ _ _ _ _ _ _ _ _ _ _ _ _ _ _ _ _ _ _ _ _ _ _ _ _ _ _ _ _ _ _ _ _ _ _ _ _ _ _ _ _ _ _ _ _ _ _ _ _ _ _ _ _ _ _ _ _ _ _ _ _
  · by_cases c1 : n < 1024
    · have d1 : decide (n < 1024) = true := decide_eq_true c1
      go_enter Try.func4, Try.ntmps4
      go_wp2_with fail
      refine (up_calls w).mono ?_
      rintro e1 w1 ⟨rfl, hb1⟩
      have HB1 := Aside0.mk hb1
      clear hb1
      go_wp2_with fail
      refine (New_bad n w1 hn).mono ?_
      rintro e2 w2 ⟨rfl, hb2⟩
      have HB2 := Aside0.mk (below_step HB1.out hb2)
      clear hb2 hn
      go_wp2
      go_ret
      exact ⟨by rfl, HB2.out⟩
    · have d1 : decide (n < 1024) = false := decide_eq_false c1
      by_cases c2 : 65536 < n
      · have d2 : decide (65536 < n) = true := decide_eq_true c2
        go_enter Try.func4, Try.ntmps4
        go_wp2_with fail
        refine (up_calls w).mono ?_
        rintro e1 w1 ⟨rfl, hb1⟩
        have HB1 := Aside0.mk hb1
        clear hb1
        go_wp2_with fail
        refine (New_bad n w1 hn).mono ?_
        rintro e2 w2 ⟨rfl, hb2⟩
        have HB2 := Aside0.mk (below_step HB1.out hb2)
        clear hb2 hn
        go_wp2
        go_ret
        exact ⟨by rfl, HB2.out⟩
      · have d2 : decide (65536 < n) = false := decide_eq_false c2
        have d3 : (Int.tmod n 4 != 0) = true := bne_iff_ne.mpr (fun e => hn ⟨by omega, by omega, e⟩)
        clear c1 c2
        go_enter Try.func4, Try.ntmps4
        go_wp2_with fail
        refine (up_calls w).mono ?_
        rintro e1 w1 ⟨rfl, hb1⟩
        have HB1 := Aside0.mk hb1
        clear hb1
        go_wp2_with fail
        refine (New_bad n w1 hn).mono ?_
        rintro e2 w2 ⟨rfl, hb2⟩
        have HB2 := Aside0.mk (below_step HB1.out hb2)
        clear hb2 hn
        go_wp2
        go_ret
        exact ⟨by rfl, HB2.out⟩
end Go.Proofs.Ytkeijpngfnmjoaa.MineMem
