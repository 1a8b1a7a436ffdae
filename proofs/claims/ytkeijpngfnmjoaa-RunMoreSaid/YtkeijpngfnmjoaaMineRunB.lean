/- RunMore: with more fuel, if it ended, it ends the same, and leaves the same bytes; with less it has done as many steps as there was fuel. Conditions: the words are words. -/
import Derived.Test.YtkeijpngfnmjoaaMineRunA
namespace Go.Proofs.Ytkeijpngfnmjoaa.MineCpu
open Go.Lib Go.Shelf Go.RowKit Go.MapKept Go.Proofs.YtkeijpngfnmjoaaW.PrintWords Go.Proofs.YtkeijpngfnmjoaaW.PrintLast Go.Proofs.YtkeijpngfnmjoaaW.PrintMore Go.Proofs.Ytkeijpngfnmjoaa.MineBase Go.Proofs.Ytkeijpngfnmjoaa.MineSep Go.Proofs.Ytkeijpngfnmjoaa.MineRows Go.Proofs.Ytkeijpngfnmjoaa.MineGen Go.Proofs.Ytkeijpngfnmjoaa.QZonePlays Go.Proofs.Ytkeijpngfnmjoaa.MineMap Go.Proofs.Ytkeijpngfnmjoaa.MineZone Go.Proofs.Ytkeijpngfnmjoaa.MineMem Go.Proofs.Ytkeijpngfnmjoaa.MineWord Go.Proofs.Ytkeijpngfnmjoaa.QMemPlays Go.Proofs.Ytkeijpngfnmjoaa.QCpuGuards Go.Proofs.Ytkeijpngfnmjoaa.QCpuGuardsPlain
attribute [local go_sem ↓] Go.wp_at_zero Go.wp_at_succ
set_option linter.unusedVariables false
set_option linter.unusedSimpArgs false
attribute [local go_sem] Go.Proofs.Ytkeijpngfnmjoaa.MineErr.eql_err Go.Proofs.Ytkeijpngfnmjoaa.MineErr.neq_err Go.Proofs.Ytkeijpngfnmjoaa.MineErr.eql_nil_err Go.Proofs.Ytkeijpngfnmjoaa.MineErr.neq_nil_err
theorem step8_E (B : List Int) (hB : B = setW (List.replicate 2048 0) 272 1472200704) : stepP [zE] B regs0 272 = (0, regs0, 4294967292, B) := by
  rw [hB, step_E ⟨by decide, by decide⟩, ← hB]
  rw [if_neg (by decide)]
  have e1 : opW 1472200704 = 21 := by decide
  have e2 : aW 1472200704 = 15 := by decide
  have e3 : bW 1472200704 = 0 := by decide
  have e4 : nW 1472200704 = 0 := by decide
  rw [e1, e2, e3, e4]
  have e5 : doP [zE] B regs0 21 15 0 0 = (0, regs0, B) := by
    unfold doP
    rw [if_neg (by decide), if_neg (by decide), if_neg (by decide), if_neg (by decide), if_pos (by decide)]
  have e6 : flowP regs0 272 21 15 0 0 = (4294967292, regs0) := by
    unfold flowP
    rw [if_pos rfl]
    rfl
  simp only [e5]
  rw [if_neg (by decide), e6]
theorem run8_a (B : List Int) (hB : B = setW (List.replicate 2048 0) 272 1472200704) : runP [zE] (fuelN 5) 0 B regs0 272 = (0, 0, 1, B) := by
  rw [show fuelN 5 = 4 + 1 from by decide, runP_on _ _ _ _ _ _ (by decide) (by rw [step8_E B hB]), step8_E B hB, runP_done _ _ _ _ _ _ rfl]
theorem run8_b (B : List Int) : runP [zE] (fuelN 0) 0 B regs0 272 = (2, 0, 0, B) := by
  rw [show fuelN 0 = 0 from by decide, runP_fuel _ _ _ _ _ (by decide)]
theorem run8_c (B : List Int) : runP [zE] (fuelN 5) 0 B regs0 16 = (1, 5, 0, B) := by
  have hs : stepP [zE] B regs0 16 = (5, regs0, 16, B) := by
    unfold stepP
    rw [if_pos (by decide)]
  rw [show fuelN 5 = 4 + 1 from by decide, runP_trap _ _ _ _ _ _ (by decide) (by rw [hs]; exact (by decide : (5 : Int) ≠ 0)), hs]
section
variable {w0 w w1 : World} {z m n g r xb br : Nat} {zs zd : List S82} {bs cs : List Int} {l : List Asn}
theorem BS.allocRow (h : BS w0 w z m n g r xb br zs zd bs cs l) (old cur : Array Value) (t : TypeId) : BS w0 ((w.alloc (.cells old t)).setRow w.heap.size cur) z m n g r xb br zs zd bs cs (ABlk w.heap.size (.cells cur t (0, 0)) :: l) := by
  obtain ⟨⟨v, ds, ⟨⟨v', F, hS, hc⟩, i3, i4, i5⟩, hm, hl⟩, h3, h5, h6⟩ := h
  exact ⟨⟨v, ds, ⟨⟨v', F, Sat.push (l1 := [_, _, _, _, _, _, _]) (blk_row (cs := cur) (blk_new hS (.cells old t))), hc⟩, i3, i4, i5⟩, hm, hl⟩, h3, h5, h6⟩
theorem BS.tail (h : BS w0 w z m n g r xb br zs zd bs cs l) : Sat w0 w l := by
  obtain ⟨⟨v, ds, h1, h2⟩, h3, h4, h5⟩ := h
  exact h1.tail.drop.drop.drop.drop
theorem BS.less {A : Asn} (h : BS w0 w z m n g r xb br zs zd bs cs (A :: l)) : BS w0 w z m n g r xb br zs zd bs cs l := by
  obtain ⟨⟨v, ds, ⟨⟨v', F, hS, hc⟩, i3, i4, i5⟩, hm, hl⟩, h3, h5, h6⟩ := h
  exact ⟨⟨v, ds, ⟨⟨v', F, (Sat.pull (l1 := [_, _, _, _, _, _, _]) hS).drop, hc⟩, i3, i4, i5⟩, hm, hl⟩, h3, h5, h6⟩
/-- What it is made of; what else lies there may be another list. -/
theorem BS.flip (h : BS w0 w z m n g r xb br zs zd bs cs l) : ∃ LS : List Asn, Sat w0 w (LS ++ l) ∧ ∀ w1 l1, Sat w0 w1 (LS ++ l1) → BS w0 w1 z m n g r xb br zs zd bs cs l1 := by
  obtain ⟨⟨v, ds, ⟨⟨v', F, hS, hc⟩, i3, i4, i5⟩, hm, hl⟩, h3, h5, h6⟩ := h
  exact ⟨[_, _, _, _, _, _, _], hS, fun w1 l1 h1 => ⟨⟨v, ds, ⟨⟨v', F, h1, hc⟩, i3, i4, i5⟩, hm, hl⟩, h3, h5, h6⟩⟩
/-- All bytes, as a row of the call's own. -/
theorem BS.bytes (h : BS w0 w z m n g r xb br zs zd bs cs l) :
    Calls Try.prog 15 #[.pointer (some ⟨g, 0, none⟩), .int .i64 0, .int .i64 2048] w fun e w' => ∃ A c, e = .returned (.slice A 2048 c) ∧ (Kd.int .u8).C w' A 2048 bs ∧ Below w.heap.size w w' := by
  obtain ⟨⟨v, ds, ⟨⟨v', F, hS, hc⟩, i3, i4, i5⟩, hm, hl⟩, h3, h5, h6⟩ := h
  obtain ⟨hI, hB, hcl⟩ := mem_use (Sat.pull (l1 := [_, _, _, _, _, _]) hS)
  refine (Bytes_some g r bs 0 2048 0 2048 w0 w hI hB (by decide) (by rw [h3]; decide) (by decide)).mono ?_
  rintro e w' ⟨v, rfl, hR, hI', hB', hk⟩
  rw [show (bs.drop (0 : Int).toNat).take ((2048 : Int).toNat - (0 : Int).toNat) = bs from by
    show (bs.drop 0).take _ = bs
    rw [List.drop_zero, List.take_of_length_le (by rw [h3]; decide)]] at hR
  obtain ⟨A, c, e, _, hC⟩ := Kd.R_reads hR
  rw [h3] at e hC
  subst e
  exact ⟨A, c, rfl, hC, bytes_below hI hI' hB hB' hk⟩
end
set_option maxHeartbeats 8000000 in
set_option maxRecDepth 100000 in
theorem up8_calls (w : World) : Calls Try.prog 57 #[] w fun e w' => e = .returned (.bool true) ∧ Below w.heap.size w w' := by
  have hq := dowelref01_PutIns.calls 21 15 0 0 1472200704 w (by decide +kernel)
  have hu108 := Try.underlying108
  go_enter Try.func57, Try.ntmps57
  go_wp2_with fail
  (with_reducible refine hq.mono ?_)
  rintro e1 w1 ⟨rfl, hb1⟩
  have HB1 := Aside0.mk (show Below w.heap.size w w1 from by first | exact hb1 | exact hb1.below)
  clear hq hb1
  go_wp2_with fail
  obtain ⟨W2, hW2⟩ : ∃ W2, ((w1.alloc (.cells #[.int .u32 1472200704] 23)).alloc (.cells #[.int .i64 272, .int .i64 272, .int .i64 272, .int .i64 276, .slice none 0 0, .slice none 0 0, .slice (some ⟨w1.heap.size, 0, none⟩) 1 1] 150)) = W2 := ⟨_, rfl⟩
  have HS2 := blk_new2 (Sat.start w1) (.cells #[.int .u32 1472200704] 23) (.cells #[.int .i64 272, .int .i64 272, .int .i64 272, .int .i64 276, .slice none 0 0, .slice none 0 0, .slice (some ⟨w1.heap.size, 0, none⟩) 1 1] 150)
  rw [hW2] at HS2
  have hC : kBlk.C W2 (some ⟨w1.heap.size + 1, 0, none⟩) 1 [(zE, [1472200704])] := kBlk_one (blk_at HS2) (blk_at HS2.drop)
  have hq : Calls Try.prog 55 #[.slice (some ⟨w1.heap.size + 1, 0, none⟩) 1 1] W2 _ := Begun_calls (Sat.start W2) (some ⟨w1.heap.size + 1, 0, none⟩) 1 [(zE, [1472200704])] hC (by decide) (few_E _) (by simp [WordsP])
  have HQ := Aside0.mk hq
  have HB2 := Aside0.mk (below_then HB1.out HB1.out.size HS2.toBelow)
  clear hq hC HS2 HB1
  rw [hW2]
  clear hW2
  (with_reducible refine HQ.out.mono ?_)
  rintro e3 w3 ⟨z, m, g, r, xb, br, rfl, hB3⟩
  have hB3 : BS W2 w3 z m 1 g r xb br [zE] [zE] (setW (List.replicate 2048 0) 272 1472200704) (setW (List.replicate 2048 0) 272 1472200704) [] := by
    have h := hB3
    rw [show ([(zE, [1472200704])] : List (S82 × List Int)).length = 1 from rfl, zs_E, bs_E] at h
    exact h
  obtain ⟨B, hBB⟩ : ∃ B, B = setW (List.replicate 2048 0) 272 1472200704 := ⟨_, rfl⟩
  have HA := Aside0.mk (run8_a B hBB)
  rw [← hBB] at hB3
  have HB3 := Aside0.mk hB3
  clear HQ hB3 hBB
  have HQ := Aside0.mk (HB3.out |> fun h => Call_calls h (by decide) 272 5)
  rw [HA.out] at HQ
  go_wp2_with fail
  (with_reducible refine HQ.out.mono ?_)
  rintro e4 w4 ⟨rfl, hB4⟩
  have HB4 := Aside0.mk hB4
  clear HQ hB4 HB3
  go_upto_region 5 with (refine wpList_store_row rfl 108 (.tmp 4) (.tmp 22) rfl w4.heap.size #[.int .i64 0, .int .i64 0, .int .i64 1] rfl rfl 108 _ (MapKept.heap_alloc w4 _).1 (by kernel_rfl) rfl (by simp [Value.oneCell']) ?_)
  have HB5 := Aside0.mk (HB4.out.allocRow #[.int .i64 0, .int .i64 0, .int .i64 0] #[.int .i64 0, .int .i64 0, .int .i64 1] 108)
  refine wp_abs (fun W => BS W2 W z m 1 g r xb br [zE] [zE] B B [ABlk w4.heap.size (.cells #[.int .i64 0, .int .i64 0, .int .i64 1] 108 (0, 0))]) HB5.out (fun W5 hB5 => ?_)
  have HB5 := Aside0.mk hB5
  clear HB4 hB5
  generalize w4.heap.size = ba at HB5 ⊢
  have HQ := Aside0.mk (HB5.out |> fun h => Call_calls h (by decide) 272 0)
  rw [run8_b] at HQ
  go_wp2_with fail
  (with_reducible refine HQ.out.mono ?_)
  rintro e6 w6 ⟨rfl, hB6⟩
  have HB6 := Aside0.mk hB6
  clear HQ hB6 HB5
  go_upto_region 6 with (refine wpList_store_row rfl 108 (.tmp 5) (.tmp 25) rfl w6.heap.size #[.int .i64 2, .int .i64 0, .int .i64 0] rfl rfl 108 _ (MapKept.heap_alloc w6 _).1 (by kernel_rfl) rfl (by simp [Value.oneCell']) ?_)
  have HB7 := Aside0.mk (HB6.out.allocRow #[.int .i64 0, .int .i64 0, .int .i64 0] #[.int .i64 2, .int .i64 0, .int .i64 0] 108)
  refine wp_abs (fun W => BS W2 W z m 1 g r xb br [zE] [zE] B B [ABlk w6.heap.size (.cells #[.int .i64 2, .int .i64 0, .int .i64 0] 108 (0, 0)), ABlk ba (.cells #[.int .i64 0, .int .i64 0, .int .i64 1] 108 (0, 0))]) HB7.out (fun W7 hB7 => ?_)
  have HB7 := Aside0.mk hB7
  clear HB6 hB7
  generalize w6.heap.size = bb at HB7 ⊢
  have HQ := Aside0.mk (HB7.out |> fun h => Call_calls h (by decide) 16 5)
  rw [run8_c] at HQ
  go_wp2_with fail
  (with_reducible refine HQ.out.mono ?_)
  rintro e8 w8 ⟨rfl, hB8⟩
  have HB8 := Aside0.mk hB8
  clear HQ hB8 HB7
  go_upto_region 7 with (refine wpList_store_row rfl 108 (.tmp 6) (.tmp 28) rfl w8.heap.size #[.int .i64 1, .int .i64 5, .int .i64 0] rfl rfl 108 _ (MapKept.heap_alloc w8 _).1 (by kernel_rfl) rfl (by simp [Value.oneCell']) ?_)
  have HB9 := Aside0.mk (HB8.out.allocRow #[.int .i64 0, .int .i64 0, .int .i64 0] #[.int .i64 1, .int .i64 5, .int .i64 0] 108)
  refine wp_abs (fun W => BS W2 W z m 1 g r xb br [zE] [zE] B B [ABlk w8.heap.size (.cells #[.int .i64 1, .int .i64 5, .int .i64 0] 108 (0, 0)), ABlk bb (.cells #[.int .i64 2, .int .i64 0, .int .i64 0] 108 (0, 0)), ABlk ba (.cells #[.int .i64 0, .int .i64 0, .int .i64 1] 108 (0, 0))]) HB9.out (fun W9 hB9 => ?_)
  have HB9 := Aside0.mk hB9
  clear HB8 hB9
  generalize w8.heap.size = bc at HB9 ⊢
  have c0 : W9.cell? ⟨bc, 0, none⟩ = some (.int .i64 1) := get_cell (blk_at HB9.out.tail) 0
  have c1 : W9.cell? ⟨bc, 1, none⟩ = some (.int .i64 5) := get_cell (blk_at HB9.out.tail) 1
  have c2 : W9.cell? ⟨bc, 2, none⟩ = some (.int .i64 0) := get_cell (blk_at HB9.out.tail) 2
  have b0 : W9.cell? ⟨bb, 0, none⟩ = some (.int .i64 2) := get_cell (blk_at HB9.out.tail.drop) 0
  have b1 : W9.cell? ⟨bb, 1, none⟩ = some (.int .i64 0) := get_cell (blk_at HB9.out.tail.drop) 1
  have b2 : W9.cell? ⟨bb, 2, none⟩ = some (.int .i64 0) := get_cell (blk_at HB9.out.tail.drop) 2
  have a0 : W9.cell? ⟨ba, 0, none⟩ = some (.int .i64 0) := get_cell (blk_at HB9.out.tail.drop.drop) 0
  have a1 : W9.cell? ⟨ba, 1, none⟩ = some (.int .i64 0) := get_cell (blk_at HB9.out.tail.drop.drop) 1
  have a2 : W9.cell? ⟨ba, 2, none⟩ = some (.int .i64 1) := get_cell (blk_at HB9.out.tail.drop.drop) 2
  go_wp2_with fail
  go_ret
  exact ⟨by rfl, below_then HB2.out HB2.out.size HB9.out.toBelow⟩
set_option maxHeartbeats 16000000 in
set_option maxRecDepth 100000 in
theorem RunMore_calls (A : Option Addr) (c : Nat) (l : List (S82 × List Int)) (at_ fuel more : Int) (w : World) (hC : kBlk.C w A l.length l) (hle : l.length ≤ c) (hW : WordsP l) :
    Calls Try.prog 10 #[.slice A l.length c, .int .i64 at_, .int .i64 fuel, .int .i64 more] w fun e w' => e = .returned (.bool true) ∧ Below w.heap.size w w' := by
  have HC0 := Aside0.mk hC
  have HW := Aside0.mk hW
  have HLE := Aside0.mk hle
  have hq := up8_calls w
  have hu108 := Try.underlying108
  clear hC hW
  go_enter Try.func10, Try.ntmps10
  go_wp2_with fail
  (with_reducible refine hq.mono ?_)
  rintro e1 w1 ⟨rfl, hb1⟩
  have HB1 := Aside0.mk hb1
  have HC1 := Aside0.mk (Kd.C_below HC0.out hb1)
  clear hq hb1 HC0
  have HQ := Aside0.mk (Few_calls A c l w1 HC1.out hle)
  cases hf : fewL l with
  | false =>
    rw [hf] at HQ
    clear hf
    go_wp2_with fail
    (with_reducible refine HQ.out.mono ?_)
    rintro e2 w2 ⟨rfl, hb2⟩
    have HB2 := Aside0.mk (below_then HB1.out HB1.out.size hb2)
    clear HQ hb2
    go_wp2_with fail
    go_ret
    exact ⟨by rfl, HB2.out⟩
  | true =>
    have HF := Aside0.mk ((fewL_iff l).1 hf)
    rw [hf] at HQ
    clear hf
    by_cases f0 : fuel < 0
    · have b0 : decide (fuel < 0) = true := decide_eq_true f0
      have b0' : (fuel < 0) = True := eq_true f0
      clear f0
      go_wp2_with fail
      (with_reducible refine HQ.out.mono ?_)
      rintro e2 w2 ⟨rfl, hb2⟩
      have HB2 := Aside0.mk (below_then HB1.out HB1.out.size hb2)
      clear HQ hb2
      go_wp2_with fail
      go_ret
      exact ⟨by rfl, HB2.out⟩
    have d0 : decide (fuel < 0) = false := decide_eq_false f0
    have d0' : (fuel < 0) = False := eq_false f0
    by_cases f1 : 400 < fuel
    · have b1 : decide (400 < fuel) = true := decide_eq_true f1
      have b1' : (400 < fuel) = True := eq_true f1
      clear f0 f1
      go_wp2_with fail
      (with_reducible refine HQ.out.mono ?_)
      rintro e2 w2 ⟨rfl, hb2⟩
      have HB2 := Aside0.mk (below_then HB1.out HB1.out.size hb2)
      clear HQ hb2
      go_wp2_with fail
      go_ret
      exact ⟨by rfl, HB2.out⟩
    have d1 : decide (400 < fuel) = false := decide_eq_false f1
    have d1' : (400 < fuel) = False := eq_false f1
    by_cases f2 : more < 0
    · have b2 : decide (more < 0) = true := decide_eq_true f2
      have b2' : (more < 0) = True := eq_true f2
      clear f0 f1 f2
      go_wp2_with fail
      (with_reducible refine HQ.out.mono ?_)
      rintro e2 w2 ⟨rfl, hb2⟩
      have HB2 := Aside0.mk (below_then HB1.out HB1.out.size hb2)
      clear HQ hb2
      go_wp2_with fail
      go_ret
      exact ⟨by rfl, HB2.out⟩
    have d2 : decide (more < 0) = false := decide_eq_false f2
    have d2' : (more < 0) = False := eq_false f2
    by_cases f3 : 400 < more
    · have b3 : decide (400 < more) = true := decide_eq_true f3
      have b3' : (400 < more) = True := eq_true f3
      clear f0 f1 f2 f3
      go_wp2_with fail
      (with_reducible refine HQ.out.mono ?_)
      rintro e2 w2 ⟨rfl, hb2⟩
      have HB2 := Aside0.mk (below_then HB1.out HB1.out.size hb2)
      clear HQ hb2
      go_wp2_with fail
      go_ret
      exact ⟨by rfl, HB2.out⟩
    have d3 : decide (400 < more) = false := decide_eq_false f3
    have d3' : (400 < more) = False := eq_false f3
    have HFM := Aside0.mk (show 0 ≤ fuel ∧ fuel ≤ 400 ∧ 0 ≤ more ∧ more ≤ 400 by omega)
    clear f0 f1 f2 f3
    go_wp2_with fail
    (with_reducible refine HQ.out.mono ?_)
    rintro e2 w2 ⟨rfl, hb2⟩
    have HB2 := Aside0.mk (below_then HB1.out HB1.out.size hb2)
    have HC2 := Aside0.mk (Kd.C_below HC1.out hb2)
    clear HQ hb2 HC1 HB1
    have HQ := Aside0.mk (Begun_calls (Sat.start w2) A c l HC2.out HLE.out HF.out HW.out)
    go_wp2_with fail
    (with_reducible refine HQ.out.mono ?_)
    rintro e3 w3 ⟨z, m, g, r, xb, br, rfl, hB3⟩
    obtain ⟨LS1, hS1, hk1⟩ := BS.flip hB3
    rw [List.append_nil] at hS1
    have HK1 := Aside0.mk hk1
    have HS1 := Aside0.mk hS1
    clear HQ hB3 hS1 hk1 d0 d0' d1 d1' d2 d2' d3 d3'
    have HQ := Aside0.mk (Begun_calls HS1.out A c l HC2.out HLE.out HF.out HW.out)
    go_wp2_with fail
    (with_reducible refine HQ.out.mono ?_)
    rintro e4 w4 ⟨z2, m2, g2, r2, xb2, br2, rfl, hB4⟩
    obtain ⟨LS2, hS2, hk2⟩ := BS.flip hB4
    have HK2 := Aside0.mk hk2
    have HB4 := Aside0.mk (HK1.out w4 LS2 (hS2.perm List.perm_append_comm))
    have HN := Aside0.mk (show l.length ≤ 900 by have := HF.out.2; omega)
    clear HQ hB4 hS2 hk2 HS1 HK1
    generalize zsN l l.length = zs at HB4 HK2
    generalize bsN l l.length = B at HB4 HK2
    have HQ := Aside0.mk (Call_calls HB4.out HN.out at_ fuel)
    have h1s := runP_steps zs (fuelN fuel) 0 B regs0 at_
    have h1m := runP_more zs (fuelN (fuel + more) - fuelN fuel) (fuelN fuel) 0 B regs0 at_
    have hfn : fuelN fuel = fuel.toNat := by unfold fuelN; rw [if_pos (by have := HFM.out; omega)]
    have hfm : fuelN (fuel + more) = (fuel + more).toNat := by unfold fuelN; rw [if_pos (by have := HFM.out; omega)]
    rw [show fuelN fuel + (fuelN (fuel + more) - fuelN fuel) = fuelN (fuel + more) by rw [hfn, hfm]; have := HFM.out; omega] at h1m
    obtain ⟨R1, hR1⟩ : ∃ R, runP zs (fuelN fuel) 0 B regs0 at_ = R := ⟨_, rfl⟩
    obtain ⟨R2, hR2⟩ : ∃ R, runP zs (fuelN (fuel + more)) 0 B regs0 at_ = R := ⟨_, rfl⟩
    rw [hR1] at h1s h1m HQ
    rw [hR2] at h1m
    have HR2 := Aside0.mk hR2
    obtain ⟨E1, T1, n1, B1⟩ := R1
    obtain ⟨E2, T2, n2, B2⟩ := R2
    simp only at h1s h1m HQ
    have HP := Aside0.mk (show (n1 : Int) ≤ fuel ∧ n1 ≤ n2 ∧ (E1 = 2 → (n1 : Int) = fuel) ∧ (E1 ≠ 2 → E2 = E1 ∧ T2 = T1 ∧ n2 = n1 ∧ B2 = B1) from by
      rw [hfn] at h1s
      refine ⟨by have := HFM.out; omega, h1m.1, fun h => by have := h1s.2.2 h; have := HFM.out; omega, fun h => ?_⟩
      have := h1m.2 h
      simp only [Prod.mk.injEq] at this
      exact this)
    clear h1s h1m hfn hfm hR1 hR2
    have hwr : IntKind.i64.wrap (fuel + more) = fuel + more := wrap_ok (by have := HFM.out; omega) (by have := HFM.out; omega)
    generalize l.length = n at HB4 HK2 HQ HN ⊢
    go_wp2_with fail
    (with_reducible refine HQ.out.mono ?_)
    rintro e5 w5 ⟨rfl, hB5⟩
    have HB5 := Aside0.mk hB5
    clear HQ hB5 HB4
    go_upto_region 9 with (refine wpList_store_row rfl 108 (.tmp 16) (.tmp 61) rfl w5.heap.size #[.int .i64 E1, .int .i64 T1, .int .i64 (n1 : Int)] rfl rfl 108 _ (MapKept.heap_alloc w5 _).1 (by kernel_rfl) rfl (by simp [Value.oneCell']) ?_)
    have HB6 := Aside0.mk (HB5.out.allocRow #[.int .i64 0, .int .i64 0, .int .i64 0] #[.int .i64 E1, .int .i64 T1, .int .i64 (n1 : Int)] 108)
    refine wp_abs (fun W => BS w2 W z m n g r xb br zs zs B1 B (ABlk w5.heap.size (.cells #[.int .i64 E1, .int .i64 T1, .int .i64 (n1 : Int)] 108 (0, 0)) :: LS2)) HB6.out (fun W6 hB6 => ?_)
    obtain ⟨LS1', hS6, hk6⟩ := BS.flip hB6
    have HK6 := Aside0.mk hk6
    have HB7 := Aside0.mk (HK2.out W6 (ABlk w5.heap.size (.cells #[.int .i64 E1, .int .i64 T1, .int .i64 (n1 : Int)] 108 (0, 0)) :: LS1') (hS6.perm (List.perm_append_comm.trans List.perm_middle.symm)))
    clear HB5 HB6 hB6 hS6 hk6 HK2
    generalize w5.heap.size = ba at HB7 ⊢
    have HQ := Aside0.mk (Call_calls HB7.out HN.out at_ (fuel + more))
    rw [HR2.out] at HQ
    go_wp2_with fail
    (with_reducible refine HQ.out.mono ?_)
    rintro e8 w8 ⟨rfl, hB8⟩
    have HB8 := Aside0.mk hB8
    clear HQ hB8 HB7
    go_upto_region 10 with (refine wpList_store_row rfl 108 (.tmp 17) (.tmp 68) rfl w8.heap.size #[.int .i64 E2, .int .i64 T2, .int .i64 (n2 : Int)] rfl rfl 108 _ (MapKept.heap_alloc w8 _).1 (by kernel_rfl) rfl (by simp [Value.oneCell']) ?_)
    have HB9 := Aside0.mk (HB8.out.allocRow #[.int .i64 0, .int .i64 0, .int .i64 0] #[.int .i64 E2, .int .i64 T2, .int .i64 (n2 : Int)] 108)
    refine wp_abs (fun W => BS w2 W z2 m2 n g2 r2 xb2 br2 zs zs B2 B (ABlk w8.heap.size (.cells #[.int .i64 E2, .int .i64 T2, .int .i64 (n2 : Int)] 108 (0, 0)) :: ABlk ba (.cells #[.int .i64 E1, .int .i64 T1, .int .i64 (n1 : Int)] 108 (0, 0)) :: LS1')) HB9.out (fun W9 hB9 => ?_)
    have HB9 := Aside0.mk hB9
    clear HB8 hB9
    generalize w8.heap.size = bb at HB9 ⊢
    have a0 : W9.cell? ⟨ba, 0, none⟩ = some (.int .i64 E1) := get_cell (blk_at HB9.out.tail.drop) 0
    have a1 : W9.cell? ⟨ba, 1, none⟩ = some (.int .i64 T1) := get_cell (blk_at HB9.out.tail.drop) 1
    have a2 : W9.cell? ⟨ba, 2, none⟩ = some (.int .i64 (n1 : Int)) := get_cell (blk_at HB9.out.tail.drop) 2
    have b0 : W9.cell? ⟨bb, 0, none⟩ = some (.int .i64 E2) := get_cell (blk_at HB9.out.tail) 0
    have b1 : W9.cell? ⟨bb, 1, none⟩ = some (.int .i64 T2) := get_cell (blk_at HB9.out.tail) 1
    have b2 : W9.cell? ⟨bb, 2, none⟩ = some (.int .i64 (n2 : Int)) := get_cell (blk_at HB9.out.tail) 2
    have x1 : decide (fuel < (n1 : Int)) = false := decide_eq_false (by have := HP.out.1; omega)
    have x1' : (fuel < (n1 : Int)) = False := eq_false (by have := HP.out.1; omega)
    have x2 : decide ((n2 : Int) < (n1 : Int)) = false := decide_eq_false (by have := HP.out.2.1; omega)
    have x2' : (n2 < n1) = False := eq_false (by have := HP.out.2.1; omega)
    have HBF := Aside0.mk (by
      obtain ⟨LS2', hS9, _⟩ := BS.flip HB9.out
      have hp : (LS2' ++ (ABlk bb (.cells #[.int .i64 E2, .int .i64 T2, .int .i64 (n2 : Int)] 108 (0, 0)) :: ABlk ba (.cells #[.int .i64 E1, .int .i64 T1, .int .i64 (n1 : Int)] 108 (0, 0)) :: LS1')).Perm (LS1' ++ (ABlk bb (.cells #[.int .i64 E2, .int .i64 T2, .int .i64 (n2 : Int)] 108 (0, 0)) :: ABlk ba (.cells #[.int .i64 E1, .int .i64 T1, .int .i64 (n1 : Int)] 108 (0, 0)) :: LS2')) :=
        List.perm_append_comm.trans ((List.Perm.cons _ List.perm_middle.symm).trans List.perm_middle.symm)
      exact ⟨_, HK6.out W9 _ (hS9.perm hp)⟩ : ∃ L9, BS w2 W9 z m n g r xb br zs zs B1 B L9)
    obtain ⟨L9, hbf⟩ := HBF.out
    replace HBF := Aside0.mk hbf
    clear hbf HK6
    by_cases hE : E1 = 2
    · have hn1 := HP.out.2.2.1 hE
      subst hE
      subst hn1
      go_wp2_with fail
      go_ret
      exact ⟨by rfl, below_then HB2.out HB2.out.size HB9.out.toBelow⟩
    · obtain ⟨q1, q2, q3, q4⟩ := HP.out.2.2.2 hE
      subst q1 q2 q3 q4
      have u1 : (E2 = 2) = False := eq_false hE
      have u2 : (E2 == 2) = false := by simpa using hE
      clear hE
      obtain ⟨st, hst⟩ : ∃ st, strOfNums B2 = st := ⟨_, rfl⟩
      have HST := Aside0.mk hst
      have HD := Aside0.mk (show Below W9.heap.size W9 W9.drew from below_drew (Below.refl _ _))
      have HY1 := Aside0.mk (fun w' (hb : Below W9.heap.size W9 w') => (HBF.out.below hb).bytes)
      have HY2 := Aside0.mk (fun w' (hb : Below W9.heap.size W9 w') => (HB9.out.below hb).bytes)
      clear hst
      go_upto_region 14 with (fail)
      go_region_law (first
        | (go_simp; go_at_call 15; (with_reducible refine (HY1.out _ HD.out).mono ?_); rintro e5 w5 ⟨A5, c5, rfl, hC5, hb5⟩; have HB5 := Aside0.mk (below_then HD.out HD.out.size hb5); have HC5 := Aside0.mk hC5; have hs5 : (convert 34 9 (.slice A5 2048 c5)).run Try.prog w5 = .ok (.string (strOfNums B2)) w5 := Kd.C_string Try.underlying34 Try.underlying5 Try.underlying9 hC5; rw [HST.out] at hs5; clear hC5 hb5)
        | (go_simp; go_at_call 15; (with_reducible refine (HY2.out _ HB5.out).mono ?_); rintro e6 w6 ⟨A6, c6, rfl, hC6, hb6⟩; have HB6 := Aside0.mk (below_then HB5.out HB5.out.size hb6); have hs6 : (convert 34 9 (.slice A6 2048 c6)).run Try.prog w6 = .ok (.string (strOfNums B2)) w6 := Kd.C_string Try.underlying34 Try.underlying5 Try.underlying9 hC6; have hs56 : (convert 34 9 (.slice A5 2048 c5)).run Try.prog w6 = .ok (.string (strOfNums B2)) w6 := Kd.C_string Try.underlying34 Try.underlying5 Try.underlying9 (Kd.C_below HC5.out hb6); rw [HST.out] at hs6 hs56; clear hC6 hb6))
      all_goals (go_wp2; go_ret; exact ⟨by first | rfl | (simp; done), below_then HB2.out HB2.out.size (below_then HB9.out.toBelow HB9.out.toBelow.size HB6.out)⟩)
end Go.Proofs.Ytkeijpngfnmjoaa.MineCpu
