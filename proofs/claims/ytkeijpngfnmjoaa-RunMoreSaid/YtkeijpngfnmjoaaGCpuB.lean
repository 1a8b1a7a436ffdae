/- The cpu: its state, its memory and its zones in memory; loads. Conditions: the zones are few; the registers are there. The cpu: loads. Conditions: the zones are few; the registers are there. The cpu: stores. Conditions: the zones are few; the registers are there. The cpu: where it goes on. Conditions: the numbers are small; the registers are there. -/
import Derived.Test.YtkeijpngfnmjoaaGZoneB
import Derived.Test.YtkeijpngfnmjoaaMineMemSat
import Derived.Test.YtkeijpngfnmjoaaMineMemBoth
import Derived.Test.YtkeijpngfnmjoaaQCpuA
section
namespace Go.Proofs.Ytkeijpngfnmjoaa.MineCpu
open Go.Lib Go.Shelf Go.RowKit Go.MapKept Go.Proofs.YtkeijpngfnmjoaaW.PrintWords Go.Proofs.YtkeijpngfnmjoaaW.PrintLast Go.Proofs.YtkeijpngfnmjoaaW.PrintMore Go.Proofs.Ytkeijpngfnmjoaa.MineBase Go.Proofs.Ytkeijpngfnmjoaa.MineSep Go.Proofs.Ytkeijpngfnmjoaa.MineRows Go.Proofs.Ytkeijpngfnmjoaa.MineGen Go.Proofs.Ytkeijpngfnmjoaa.QZonePlays Go.Proofs.Ytkeijpngfnmjoaa.MineMap Go.Proofs.Ytkeijpngfnmjoaa.MineZone Go.Proofs.Ytkeijpngfnmjoaa.MineMem Go.Proofs.Ytkeijpngfnmjoaa.MineWord Go.Proofs.Ytkeijpngfnmjoaa.QCpuGuards
attribute [local go_sem ↓] Go.wp_at_zero Go.wp_at_succ
set_option linter.unusedVariables false
set_option linter.unusedSimpArgs false
/-- Registers, and a place. -/
def stC (regs : List Int) (pl : Int) : Array Value := (regs.map (Value.int .i32) ++ [Value.int .i64 pl]).toArray
/-- State, memory, zones. -/
structure CS (w0 w : World) (s g r z m n : Nat) (regs : List Int) (pl : Int) (bs : List Int) (zs : List S82) (l : List Asn) : Prop where
  zs : ZS w0 w z m n zs (ABlk s (.cells (stC regs pl) 104 (0, 0)) :: AMem g r bs :: l)
  len : regs.length = 16
  few : n ≤ 900
  size : bs.length = 2048
  byt : ∀ x ∈ bs, 0 ≤ x ∧ x ≤ 255
section
variable {w0 w w1 : World} {s g r z m n : Nat} {regs : List Int} {pl : Int} {bs : List Int} {zs : List S82} {l : List Asn}
theorem CS.below (h : CS w0 w s g r z m n regs pl bs zs l) (hb : Below w.heap.size w w1) : CS w0 w1 s g r z m n regs pl bs zs l := ⟨h.zs.below hb, h.len, h.few, h.size, h.byt⟩
theorem CS.toBelow (h : CS w0 w s g r z m n regs pl bs zs l) : Below w0.heap.size w0 w := h.zs.toBelow
theorem CS.blk (h : CS w0 w s g r z m n regs pl bs zs l) : w.heap[s]? = some (.cells (stC regs pl) 104 (0, 0)) := by
  obtain ⟨v, F, hs, _⟩ := h.zs.swap3
  exact blk_at hs
theorem stC_get (regs : List Int) (pl : Int) (i : Nat) (hi : i < regs.length) : (stC regs pl)[i]? = some (.int .i32 (regs.getD i 0)) := by
  unfold stC
  rw [List.getElem?_toArray, List.getElem?_append_left (by rw [List.length_map]; exact hi), List.getElem?_map, List.getElem?_eq_getElem hi, List.getD_eq_getElem?_getD, List.getElem?_eq_getElem hi]
  rfl
theorem CS.reg (h : CS w0 w s g r z m n regs pl bs zs l) (i : Nat) (hi : i < 16) : w.cell? ⟨s, i, none⟩ = some (.int .i32 (regs.getD i 0)) := by
  have := get_cell h.blk i
  rw [stC_get regs pl i (by rw [h.len]; exact hi)] at this
  exact this
theorem CS.place (h : CS w0 w s g r z m n regs pl bs zs l) : w.cell? ⟨s, 16, none⟩ = some (.int .i64 pl) := by
  have := get_cell h.blk 16
  unfold stC at this
  rw [List.getElem?_toArray, List.getElem?_append_right (by rw [List.length_map, h.len]; exact Nat.le_refl _), List.length_map, h.len] at this
  exact this
theorem CS.free (h : CS w0 w s g r z m n regs pl bs zs l) (i : Nat) : w.frozen? ⟨s, i, none⟩ = false := get_frozen h.blk i
theorem CS.put (h : CS w0 w s g r z m n regs pl bs zs l) (i : Nat) (u : Value) {regs' : List Int} {pl' : Int} (hc : (stC regs pl).setIfInBounds i u = stC regs' pl') (hl : regs'.length = 16) : CS w0 (w.setCell ⟨s, i, none⟩ u) s g r z m n regs' pl' bs zs l := by
  obtain ⟨⟨v, F, h1, h2⟩, h3, h4, h5⟩ := h.zs
  have hp := blk_put (Sat.pull (l1 := [_, _, _]) h1) i u
  rw [hc] at hp
  exact ⟨⟨⟨v, F, Sat.push (l1 := [_, _, _]) hp, h2⟩, h3, h4, h5⟩, hl, h.few, h.size, h.byt⟩
theorem CS.setReg (h : CS w0 w s g r z m n regs pl bs zs l) (i : Nat) (hi : i < 16) (x : Int) : CS w0 (w.setCell ⟨s, i, none⟩ (.int .i32 x)) s g r z m n (regs.set i x) pl bs zs l := by
  refine h.put i _ ?_ (by rw [List.length_set]; exact h.len)
  unfold stC
  apply Array.ext'
  rw [List.map_set]
  simp only [Array.toList_setIfInBounds]
  rw [List.set_append_left _ _ (by rw [List.length_map, h.len]; exact hi)]
theorem CS.setAt (h : CS w0 w s g r z m n regs pl bs zs l) (x : Int) : CS w0 (w.setCell ⟨s, 16, none⟩ (.int .i64 x)) s g r z m n regs x bs zs l := by
  refine h.put 16 _ ?_ h.len
  unfold stC
  apply Array.ext'
  simp only [Array.toList_setIfInBounds]
  rw [List.set_append_right _ _ (by rw [List.length_map, h.len]; exact Nat.le_refl _), List.length_map, h.len]
  rfl
theorem CS.mem (h : CS w0 w s g r z m n regs pl bs zs l) : IsMem w0 w g r bs ∧ Below w0.heap.size w0 w ∧ ∀ w' bs', IsMem w0 w' g r bs' → Below w0.heap.size w0 w' → KeepBut w w' g (some r) → bs'.length = 2048 → (∀ x ∈ bs', 0 ≤ x ∧ x ≤ 255) → CS w0 w' s g r z m n regs pl bs' zs l := by
  obtain ⟨⟨v, F, h1, h2⟩, h3, h4, h5⟩ := h.zs
  obtain ⟨hI, hB, hcl⟩ := mem_use (Sat.pull (l1 := [_, _, _, _]) h1)
  exact ⟨hI, hB, fun w' bs' hI' hB' hk hl hy => ⟨⟨⟨v, F, Sat.push (l1 := [_, _, _, _]) (hcl w' bs' hI' hB' hk), h2⟩, h3, h4, h5⟩, h.len, h.few, hl, hy⟩⟩
/-- A word is loaded. -/
theorem CS.word (h : CS w0 w s g r z m n regs pl bs zs l) (x : Int) (h0 : 0 ≤ x) (h4 : Int.tmod x 4 = 0) (h1 : x < 2048) :
    Calls Try.prog 16 #[.pointer (some ⟨g, 0, none⟩), .int .i64 x] w fun e w' => e = .returned (.tuple #[.int .u32 (wordN ((bs.drop x.toNat).take 4) : Nat), .int .i64 0]) ∧ CS w0 w' s g r z m n regs pl bs zs l := by
  obtain ⟨hI, hB, hcl⟩ := h.mem
  have hl4 : x + 4 ≤ bs.length := len4 bs.length x h0 (by rw [h.size]; omega) h4 (by rw [h.size]; decide)
  refine (Word_in g r bs x _ 5 w0 w hI hB h0 h4 hl4 (word_eq (mem_cut h.byt _ _) 5 (by decide))).mono ?_
  rintro e w' ⟨rfl, hI', hB', hk⟩
  exact ⟨rfl, hcl w' bs hI' hB' hk h.size h.byt⟩
theorem CS.word_out (h : CS w0 w s g r z m n regs pl bs zs l) (x : Int) (hw : whyW 2048 x ≠ 0) :
    Calls Try.prog 16 #[.pointer (some ⟨g, 0, none⟩), .int .i64 x] w fun e w' => e = .returned (.tuple #[.int .u32 0, .int .i64 (whyW 2048 x)]) ∧ CS w0 w' s g r z m n regs pl bs zs l := by
  obtain ⟨hI, hB, hcl⟩ := h.mem
  have hq := Word_out g r bs x w0 w hI hB (by rw [h.size]; exact hw)
  rw [h.size] at hq
  refine hq.mono ?_
  rintro e w' ⟨he, hI', hB', hk⟩
  exact ⟨he, hcl w' bs hI' hB' (by first | exact hk | exact keep_row hk) h.size h.byt⟩
end
end Go.Proofs.Ytkeijpngfnmjoaa.MineCpu
end
section
namespace Go.Proofs.Ytkeijpngfnmjoaa.MineCpu
open Go.Lib Go.Shelf Go.RowKit Go.MapKept Go.Proofs.YtkeijpngfnmjoaaW.PrintWords Go.Proofs.YtkeijpngfnmjoaaW.PrintLast Go.Proofs.YtkeijpngfnmjoaaW.PrintMore Go.Proofs.Ytkeijpngfnmjoaa.MineBase Go.Proofs.Ytkeijpngfnmjoaa.MineSep Go.Proofs.Ytkeijpngfnmjoaa.MineRows Go.Proofs.Ytkeijpngfnmjoaa.MineGen Go.Proofs.Ytkeijpngfnmjoaa.QZonePlays Go.Proofs.Ytkeijpngfnmjoaa.MineMap Go.Proofs.Ytkeijpngfnmjoaa.MineZone Go.Proofs.Ytkeijpngfnmjoaa.MineMem Go.Proofs.Ytkeijpngfnmjoaa.MineWord Go.Proofs.Ytkeijpngfnmjoaa.QMemPlays Go.Proofs.Ytkeijpngfnmjoaa.QCpuGuards
attribute [local go_sem ↓] Go.wp_at_zero Go.wp_at_succ
set_option linter.unusedVariables false
set_option linter.unusedSimpArgs false
section
variable {w0 w w1 : World} {s g r z m n : Nat} {regs : List Int} {pl : Int} {bs : List Int} {zs : List S82} {l : List Asn}
theorem CS.tail (h : CS w0 w s g r z m n regs pl bs zs l) : Sat w0 w l := h.zs.tail.drop.drop
theorem CS.alloc (h : CS w0 w s g r z m n regs pl bs zs l) (o : Obj) : CS w0 (w.alloc o) s g r z m n regs pl bs zs (ABlk w.heap.size o :: l) := by
  obtain ⟨⟨v, F, h1, h2⟩, h3, h4, h5⟩ := h.zs
  exact ⟨⟨⟨v, F, Sat.push (l1 := [_, _, _, _, _]) (blk_new h1 o), h2⟩, h3, h4, h5⟩, h.len, h.few, h.size, h.byt⟩
theorem CS.less {A : Asn} (h : CS w0 w s g r z m n regs pl bs zs (A :: l)) : CS w0 w s g r z m n regs pl bs zs l := by
  obtain ⟨⟨v, F, h1, h2⟩, h3, h4, h5⟩ := h.zs
  exact ⟨⟨⟨v, F, (Sat.pull (l1 := [_, _, _, _, _]) h1).drop, h2⟩, h3, h4, h5⟩, h.len, h.few, h.size, h.byt⟩
theorem CS.zr (h : CS w0 w s g r z m n regs pl bs zs l) : ZR z m zs w := h.zs.zr h.few
theorem CS.drew (h : CS w0 w s g r z m n regs pl bs zs l) : CS w0 w.drew s g r z m n regs pl bs zs l := h.below (below_drew (Below.refl _ _))
theorem CS.byte (h : CS w0 w s g r z m n regs pl bs zs l) (x : Int) :
    Calls Try.prog 19 #[.pointer (some ⟨g, 0, none⟩), .int .i64 x] w fun e w' => e = .returned (.tuple #[.int .u8 (if 0 ≤ x ∧ x < 2048 then rd bs x else 0), .int .i64 (if 0 ≤ x ∧ x < 2048 then 0 else 2)]) ∧ CS w0 w' s g r z m n regs pl bs zs l := by
  obtain ⟨hI, hB, hcl⟩ := h.mem
  have hv : mem_Memory_Byte.f bs x = some (if 0 ≤ x ∧ x < 2048 then rd bs x else 0, if 0 ≤ x ∧ x < 2048 then 0 else 2) := by
    unfold mem_Memory_Byte.f
    have hs := h.size
    by_cases h0 : x < 0
    · rw [if_pos h0, if_neg (by omega), if_neg (by omega)]
    · rw [if_neg h0]
      by_cases h1 : x < 2048
      · have q1 : x < (bs.length : Int) := by omega
        have q2 : 0 ≤ x := by omega
        have q3 : ¬ (x ≥ (bs.length : Int)) := by omega
        simp [q1, q2, q3, h1]
      · rw [if_pos (by omega), if_neg (by omega), if_neg (by omega)]
  refine (Byte_calls g r bs x _ _ w0 w hI hB hv).mono ?_
  rintro e w' ⟨he, hI', hB', hk⟩
  exact ⟨he, hcl w' bs hI' hB' (keep_row hk) h.size h.byt⟩
end
/-- What a load comes to: a trap, and what is loaded. -/
def loadP (zs : List S82) (bs : List Int) (op x : Int) : Int × Int :=
  if op = 14 then (if loadZ zs x 1 = true then (if 0 ≤ x ∧ x < 2048 then (0, IntKind.i32.wrap (rd bs x)) else (2, 0)) else (2, 0))
  else if Int.tmod x 4 = 0 then (if loadZ zs x 4 = true then (if whyW 2048 x = 0 then (0, IntKind.i32.wrap (wordN ((bs.drop x.toNat).take 4) : Nat)) else (whyW 2048 x, 0)) else (2, 0)) else (3, 0)
def setT (regs : List Int) (a : Nat) (q : Int × Int) : List Int := if q.1 = 0 then regs.set a q.2 else regs
set_option maxHeartbeats 8000000 in
set_option maxRecDepth 100000 in
theorem load_calls {w0 w : World} {s g r z m n : Nat} {regs : List Int} {pl : Int} {bs : List Int} {zs : List S82} {l : List Asn} (h : CS w0 w s g r z m n regs pl bs zs l) (op b nn x : Int) (a : Nat) (ha : a < 16) (hx : x ≤ 9223372036854775807) :
    Calls Try.prog 111 #[.agg #[.pointer (some ⟨s, 0, none⟩), .pointer (some ⟨g, 0, none⟩), .pointer (some ⟨z, 0, none⟩)], .agg #[.int .i64 op, .int .i64 (a : Int), .int .i64 b, .int .i64 nn], .int .i64 x] w fun e w' => e = .returned (.int .i64 (loadP zs bs op x).1) ∧ CS w0 w' s g r z m n (setT regs a (loadP zs bs op x)) pl bs zs l := by
  have HA := Aside0.mk ha
  have hu158 := Try.underlying158
  have hu147 := Try.underlying147
  have a0 : 0 ≤ (a : Int) := by omega
  have a1 : (a : Int) < 16 := by omega
  have a2 : a < 16 := ha
  have HX1 := Aside0.mk hx
  obtain ⟨W, hWe⟩ : ∃ W, (w.alloc (.cells #[.pointer (some ⟨s, 0, none⟩), .pointer (some ⟨g, 0, none⟩), .pointer (some ⟨z, 0, none⟩)] 158)).alloc (.cells #[.int .i64 op, .int .i64 (a : Int), .int .i64 b, .int .i64 nn] 147) = W := ⟨_, rfl⟩
  have HC := Aside0.mk (show CS w0 W s g r z m n regs pl bs zs (ABlk (w.heap.size + 1) (.cells #[.int .i64 op, .int .i64 (a : Int), .int .i64 b, .int .i64 nn] 147 (0, 0)) :: ABlk w.heap.size (.cells #[.pointer (some ⟨s, 0, none⟩), .pointer (some ⟨g, 0, none⟩), .pointer (some ⟨z, 0, none⟩)] 158 (0, 0)) :: l) from by
    rw [← hWe]
    have h2 := (h.alloc (.cells #[.pointer (some ⟨s, 0, none⟩), .pointer (some ⟨g, 0, none⟩), .pointer (some ⟨z, 0, none⟩)] 158)).alloc (.cells #[.int .i64 op, .int .i64 (a : Int), .int .i64 b, .int .i64 nn] 147)
    rw [size_alloc] at h2
    exact h2)
  obtain ⟨bm, hbm⟩ : ∃ b, w.heap.size = b := ⟨_, rfl⟩
  rw [hbm] at HC
  have k0 : W.cell? ⟨bm + 1, 0, none⟩ = some (.int .i64 op) := get_cell (blk_at HC.out.tail) 0
  have m2 : W.cell? ⟨bm, 2, none⟩ = some (.pointer (some ⟨z, 0, none⟩)) := get_cell (blk_at HC.out.tail.drop) 2
  clear h ha hx
  by_cases ho : op = 14
  · subst ho
    have HQ := Aside0.mk (CanLoad_calls HC.out.zr x 1 (by decide))
    cases hl : loadZ zs x 1 with
    | false =>
      have e : loadP zs bs 14 x = (2, 0) := by simp [loadP, hl]
      rw [e]
      rw [hl] at HQ
      clear hl e
      go_enter Try.func111, Try.ntmps111
      go_upto_region 1 with fail
      try rw [hWe]
      try rw [hbm]
      go_wp2_with fail
      (with_reducible refine HQ.out.mono ?_)
      rintro e1 w1 ⟨rfl, hb1⟩
      have HC1 := Aside0.mk (HC.out.below hb1)
      clear HQ hb1
      go_wp2_with fail
      go_ret
      exact ⟨by rfl, HC1.out.less.less⟩
    | true =>
      by_cases hin : 0 ≤ x ∧ x < 2048
      · have e : loadP zs bs 14 x = (0, IntKind.i32.wrap (rd bs x)) := by simp [loadP, hl, hin]
        rw [e]
        rw [hl] at HQ
        clear hl e
        go_enter Try.func111, Try.ntmps111
        go_upto_region 1 with fail
        try rw [hWe]
        try rw [hbm]
        go_wp2_with fail
        (with_reducible refine HQ.out.mono ?_)
        rintro e1 w1 ⟨rfl, hb1⟩
        have HC1 := Aside0.mk (HC.out.below hb1)
        clear HQ hb1 k0 m2
        have m1 : w1.cell? ⟨bm, 1, none⟩ = some (.pointer (some ⟨g, 0, none⟩)) := get_cell (blk_at HC1.out.tail.drop) 1
        have HQ := Aside0.mk (HC1.out.byte x)
        rw [if_pos hin, if_pos hin] at HQ
        clear hin
        go_wp2_with fail
        (with_reducible refine HQ.out.mono ?_)
        rintro e2 w2 ⟨rfl, hC2⟩
        have HC2 := Aside0.mk hC2
        clear HQ hC2 m1
        have m0 : w2.cell? ⟨bm, 0, none⟩ = some (.pointer (some ⟨s, 0, none⟩)) := get_cell (blk_at HC2.out.tail.drop) 0
        have k1 : w2.cell? ⟨bm + 1, 1, none⟩ = some (.int .i64 (a : Int)) := get_cell (blk_at HC2.out.tail) 1
        have r1 : w2.cell? ⟨s, a, none⟩ = some (.int .i32 (regs.getD a 0)) := HC2.out.reg a HA.out
        have f1 : w2.frozen? ⟨s, a, none⟩ = false := HC2.out.free a
        go_wp2_with fail
        go_region_law (fail)
        all_goals (
          go_wp2_with fail
          go_ret
          exact ⟨by rfl, (HC2.out.setReg a HA.out _).drew.less.less⟩)
      · have e : loadP zs bs 14 x = (2, 0) := by
          unfold loadP
          rw [if_pos rfl, if_pos hl, if_neg hin]
        rw [e]
        rw [hl] at HQ
        clear hl e
        go_enter Try.func111, Try.ntmps111
        go_upto_region 1 with fail
        try rw [hWe]
        try rw [hbm]
        go_wp2_with fail
        (with_reducible refine HQ.out.mono ?_)
        rintro e1 w1 ⟨rfl, hb1⟩
        have HC1 := Aside0.mk (HC.out.below hb1)
        clear HQ hb1 k0 m2
        have m1 : w1.cell? ⟨bm, 1, none⟩ = some (.pointer (some ⟨g, 0, none⟩)) := get_cell (blk_at HC1.out.tail.drop) 1
        have HQ := Aside0.mk (HC1.out.byte x)
        rw [if_neg hin, if_neg hin] at HQ
        clear hin
        go_wp2_with fail
        (with_reducible refine HQ.out.mono ?_)
        rintro e2 w2 ⟨rfl, hC2⟩
        have HC2 := Aside0.mk hC2
        clear HQ hC2 m1
        go_wp2_with fail
        go_ret
        exact ⟨by rfl, HC2.out.less.less⟩
  · have o1 : (op = 14) = False := eq_false ho
    have o2 : (op == 14) = false := by simpa using ho
    by_cases h4 : Int.tmod x 4 = 0
    · have u1 : (Int.tmod x 4 = 0) = True := eq_true h4
      have u2 : (Int.tmod x 4 == 0) = true := by simpa using h4
      have u3 : (Int.tmod x 4 != 0) = false := by simpa using h4
      have HQ := Aside0.mk (CanLoad_calls HC.out.zr x 4 (by decide))
      cases hl : loadZ zs x 4 with
      | false =>
        have e : loadP zs bs op x = (2, 0) := by simp [loadP, hl, ho, h4]
        rw [e]
        rw [hl] at HQ
        clear hl e h4
        go_enter Try.func111, Try.ntmps111
        go_upto_region 1 with fail
        try rw [hWe]
        try rw [hbm]
        go_wp2_with fail
        (with_reducible refine HQ.out.mono ?_)
        rintro e1 w1 ⟨rfl, hb1⟩
        have HC1 := Aside0.mk (HC.out.below hb1)
        clear HQ hb1
        go_wp2_with fail
        go_ret
        exact ⟨by rfl, HC1.out.less.less⟩
      | true =>
        by_cases hw : whyW 2048 x = 0
        · have hin : 0 ≤ x ∧ x < 2048 := by
            unfold whyW at hw
            rw [if_pos h4] at hw
            by_cases h0 : x < 0
            · rw [if_pos h0] at hw; exact absurd hw (by decide)
            · rw [if_neg h0] at hw
              by_cases h1 : x ≥ ((2048 : Nat) : Int)
              · rw [if_pos h1] at hw; exact absurd hw (by decide)
              · exact ⟨by omega, by omega⟩
          have e : loadP zs bs op x = (0, IntKind.i32.wrap (wordN ((bs.drop x.toNat).take 4) : Nat)) := by simp [loadP, hl, ho, h4, hw]
          rw [e]
          rw [hl] at HQ
          obtain ⟨W4, hW4⟩ : ∃ v : Int, ((wordN ((bs.drop x.toNat).take 4) : Nat) : Int) = v := ⟨_, rfl⟩
          rw [hW4]
          clear hl e hw
          go_enter Try.func111, Try.ntmps111
          go_upto_region 1 with fail
          try rw [hWe]
          try rw [hbm]
          go_wp2_with fail
          (with_reducible refine HQ.out.mono ?_)
          rintro e1 w1 ⟨rfl, hb1⟩
          have HC1 := Aside0.mk (HC.out.below hb1)
          clear HQ hb1 k0 m2
          have m1 : w1.cell? ⟨bm, 1, none⟩ = some (.pointer (some ⟨g, 0, none⟩)) := get_cell (blk_at HC1.out.tail.drop) 1
          have HQ := Aside0.mk (HC1.out.word x hin.1 h4 hin.2)
          rw [hW4] at HQ
          clear hin h4 hW4
          go_wp2_with fail
          (with_reducible refine HQ.out.mono ?_)
          rintro e2 w2 ⟨rfl, hC2⟩
          have HC2 := Aside0.mk hC2
          clear HQ hC2 m1
          have m0 : w2.cell? ⟨bm, 0, none⟩ = some (.pointer (some ⟨s, 0, none⟩)) := get_cell (blk_at HC2.out.tail.drop) 0
          have k1 : w2.cell? ⟨bm + 1, 1, none⟩ = some (.int .i64 (a : Int)) := get_cell (blk_at HC2.out.tail) 1
          have r1 : w2.cell? ⟨s, a, none⟩ = some (.int .i32 (regs.getD a 0)) := HC2.out.reg a HA.out
          have f1 : w2.frozen? ⟨s, a, none⟩ = false := HC2.out.free a
          go_wp2_with fail
          go_region_law (fail)
          all_goals (
            go_wp2_with fail
            go_ret
            exact ⟨by rfl, (HC2.out.setReg a HA.out _).drew.less.less⟩)
        · have e : loadP zs bs op x = (whyW 2048 x, 0) := by simp [loadP, hl, ho, h4, hw]
          rw [e]
          rw [hl] at HQ
          have hst : setT regs a (whyW 2048 x, 0) = regs := by unfold setT; rw [if_neg hw]
          rw [hst]
          have HWW := Aside0.mk (fun w' (h : CS w0 w' s g r z m n regs pl bs zs (ABlk (bm + 1) (.cells #[.int .i64 op, .int .i64 (a : Int), .int .i64 b, .int .i64 nn] 147 (0, 0)) :: ABlk bm (.cells #[.pointer (some ⟨s, 0, none⟩), .pointer (some ⟨g, 0, none⟩), .pointer (some ⟨z, 0, none⟩)] 158 (0, 0)) :: l)) => h.word_out x hw)
          have v1 : (whyW 2048 x = 0) = False := eq_false hw
          have v2 : (whyW 2048 x == 0) = false := by simpa using hw
          generalize whyW 2048 x = t at HWW v1 v2 ⊢
          clear hl e hw h4 hst
          go_enter Try.func111, Try.ntmps111
          go_upto_region 1 with fail
          try rw [hWe]
          try rw [hbm]
          go_wp2_with fail
          (with_reducible refine HQ.out.mono ?_)
          rintro e1 w1 ⟨rfl, hb1⟩
          have HC1 := Aside0.mk (HC.out.below hb1)
          clear HQ hb1 k0 m2
          have m1 : w1.cell? ⟨bm, 1, none⟩ = some (.pointer (some ⟨g, 0, none⟩)) := get_cell (blk_at HC1.out.tail.drop) 1
          have HQ := Aside0.mk (HWW.out _ HC1.out)
          go_wp2_with fail
          (with_reducible refine HQ.out.mono ?_)
          rintro e2 w2 ⟨rfl, hC2⟩
          have HC2 := Aside0.mk hC2
          clear HQ hC2 m1
          go_wp2_with fail
          go_ret
          exact ⟨by rfl, HC2.out.less.less⟩
    · have u1 : (Int.tmod x 4 = 0) = False := eq_false h4
      have u2 : (Int.tmod x 4 == 0) = false := by simpa using h4
      have u3 : (Int.tmod x 4 != 0) = true := by simpa using h4
      have e : loadP zs bs op x = (3, 0) := by simp [loadP, ho, h4]
      rw [e]
      clear e h4
      go_enter Try.func111, Try.ntmps111
      go_upto_region 1 with fail
      try rw [hWe]
      try rw [hbm]
      go_wp2_with fail
      go_ret
      exact ⟨by rfl, HC.out.less.less⟩
end Go.Proofs.Ytkeijpngfnmjoaa.MineCpu
end
section
namespace Go.Proofs.Ytkeijpngfnmjoaa.MineCpu
open Go.Lib Go.Shelf Go.RowKit Go.MapKept Go.Proofs.YtkeijpngfnmjoaaW.PrintWords Go.Proofs.YtkeijpngfnmjoaaW.PrintLast Go.Proofs.YtkeijpngfnmjoaaW.PrintMore Go.Proofs.Ytkeijpngfnmjoaa.MineBase Go.Proofs.Ytkeijpngfnmjoaa.MineSep Go.Proofs.Ytkeijpngfnmjoaa.MineRows Go.Proofs.Ytkeijpngfnmjoaa.MineGen Go.Proofs.Ytkeijpngfnmjoaa.QZonePlays Go.Proofs.Ytkeijpngfnmjoaa.MineMap Go.Proofs.Ytkeijpngfnmjoaa.MineZone Go.Proofs.Ytkeijpngfnmjoaa.MineMem Go.Proofs.Ytkeijpngfnmjoaa.MineWord Go.Proofs.Ytkeijpngfnmjoaa.QMemPlays Go.Proofs.Ytkeijpngfnmjoaa.QCpuGuards
attribute [local go_sem ↓] Go.wp_at_zero Go.wp_at_succ
set_option linter.unusedVariables false
set_option linter.unusedSimpArgs false
section
variable {w0 w w1 : World} {s g r z m n : Nat} {regs : List Int} {pl : Int} {bs : List Int} {zs : List S82} {l : List Asn}
theorem CS.drewN (h : CS w0 w s g r z m n regs pl bs zs l) (k : Nat) : CS w0 (w.drewN k) s g r z m n regs pl bs zs l := h.below (pw_below_drewN (Below.refl _ _) k)
theorem keep_r {w w' : World} {g r : Nat} (h : KeepBut w w' r none) : KeepBut w w' g (some r) := ⟨h.1, fun i hi hg hr => h.2 i hi (fun e => hr (by rw [e])) (by simp)⟩
theorem CS.setByte (h : CS w0 w s g r z m n regs pl bs zs l) (x v : Int) (h0 : 0 ≤ x) (h1 : x < 2048) (hv : 0 ≤ v ∧ v ≤ 255) :
    Calls Try.prog 20 #[.pointer (some ⟨g, 0, none⟩), .int .i64 x, .int .u8 v] w fun e w' => e = .returned (.int .i64 0) ∧ CS w0 w' s g r z m n regs pl (bs.set x.toNat v) zs l := by
  obtain ⟨hI, hB, hcl⟩ := h.mem
  refine (SetByte_in g r bs x v w0 w hI hB h0 (by rw [h.size]; exact h1)).mono ?_
  rintro e w' ⟨rfl, hI', hB', hk⟩
  exact ⟨rfl, hcl w' _ hI' hB' (keep_r hk) (by rw [List.length_set]; exact h.size) (mem_set h.byt _ _ hv)⟩
theorem CS.setByte_out (h : CS w0 w s g r z m n regs pl bs zs l) (x v : Int) (hx : ¬ (0 ≤ x ∧ x < 2048)) :
    Calls Try.prog 20 #[.pointer (some ⟨g, 0, none⟩), .int .i64 x, .int .u8 v] w fun e w' => e = .returned (.int .i64 2) ∧ CS w0 w' s g r z m n regs pl bs zs l := by
  obtain ⟨hI, hB, hcl⟩ := h.mem
  refine (SetByte_out g r bs x v w0 w hI hB (by rw [h.size]; exact hx)).mono ?_
  rintro e w' ⟨he, hI', hB', hk⟩
  exact ⟨he, hcl w' bs hI' hB' (by first | exact hk | exact keep_r hk | exact keep_row hk) h.size h.byt⟩
theorem CS.setWord (h : CS w0 w s g r z m n regs pl bs zs l) (x v : Int) (h0 : 0 ≤ x) (h4 : Int.tmod x 4 = 0) (h1 : x < 2048) (hv : 0 ≤ v) :
    Calls Try.prog 13 #[.pointer (some ⟨g, 0, none⟩), .int .i64 x, .int .u32 v] w fun e w' => e = .returned (.int .i64 0) ∧ CS w0 w' s g r z m n regs pl (setW bs x.toNat v) zs l := by
  obtain ⟨hI, hB, hcl⟩ := h.mem
  have hl4 : x + 4 ≤ bs.length := len4 bs.length x h0 (by rw [h.size]; omega) h4 (by rw [h.size]; decide)
  refine (SetWord_in g r bs x v w0 w hI hB h0 h4 hl4).mono ?_
  rintro e w' ⟨rfl, hI', hB', hk⟩
  exact ⟨rfl, hcl w' _ hI' hB' hk (by rw [setW_len _ _ _ (by omega)]; exact h.size) (setW_mem h.byt _ _ hv)⟩
theorem CS.setWord_out (h : CS w0 w s g r z m n regs pl bs zs l) (x v : Int) (hw : whyW 2048 x ≠ 0) :
    Calls Try.prog 13 #[.pointer (some ⟨g, 0, none⟩), .int .i64 x, .int .u32 v] w fun e w' => e = .returned (.int .i64 (whyW 2048 x)) ∧ CS w0 w' s g r z m n regs pl bs zs l := by
  obtain ⟨hI, hB, hcl⟩ := h.mem
  have hq := SetWord_out g r bs x v w0 w hI hB (by rw [h.size]; exact hw)
  rw [h.size] at hq
  refine hq.mono ?_
  rintro e w' ⟨he, hI', hB', hk⟩
  exact ⟨he, hcl w' bs hI' hB' (by first | exact hk | exact keep_r hk | exact keep_row hk) h.size h.byt⟩
theorem u8_mod (v : Int) : 0 ≤ v % 256 ∧ v % 256 ≤ 255 := by omega
theorem u32_mod (v : Int) : 0 ≤ v % 4294967296 := by omega
end
/-- What a store comes to: a trap, and the bytes. -/
def storeP (zs : List S82) (bs : List Int) (op v x : Int) : Int × List Int :=
  if op = 15 then (if storeZ zs x 1 = true then (if cellZ zs x = 0 then (if 0 ≤ x ∧ x < 2048 then (0, bs.set x.toNat (v % 256)) else (2, bs)) else (6, bs)) else (2, bs))
  else if Int.tmod x 4 = 0 then (if storeZ zs x 4 = true then (if fitsZ zs (cellZ zs x) (v % 4294967296) = true then (if whyW 2048 x = 0 then (0, setW bs x.toNat (v % 4294967296)) else (whyW 2048 x, bs)) else (6, bs)) else (2, bs)) else (3, bs)
set_option maxHeartbeats 8000000 in
set_option maxRecDepth 100000 in
theorem store_calls {w0 w : World} {s g r z m n : Nat} {regs : List Int} {pl : Int} {bs : List Int} {zs : List S82} {l : List Asn} (h : CS w0 w s g r z m n regs pl bs zs l) (op b nn x : Int) (a : Nat) (ha : a < 16) (hx : x ≤ 9223372036854775807) :
    Calls Try.prog 113 #[.agg #[.pointer (some ⟨s, 0, none⟩), .pointer (some ⟨g, 0, none⟩), .pointer (some ⟨z, 0, none⟩)], .agg #[.int .i64 op, .int .i64 (a : Int), .int .i64 b, .int .i64 nn], .int .i64 x] w fun e w' => e = .returned (.int .i64 (storeP zs bs op (regs.getD a 0) x).1) ∧ CS w0 w' s g r z m n regs pl (storeP zs bs op (regs.getD a 0) x).2 zs l := by
  have HA := Aside0.mk ha
  have hu158 := Try.underlying158
  have hu147 := Try.underlying147
  have a0 : 0 ≤ (a : Int) := by omega
  have a1 : (a : Int) < 16 := by omega
  have a2 : a < 16 := ha
  have HX1 := Aside0.mk hx
  obtain ⟨W, hWe⟩ : ∃ W, (w.alloc (.cells #[.pointer (some ⟨s, 0, none⟩), .pointer (some ⟨g, 0, none⟩), .pointer (some ⟨z, 0, none⟩)] 158)).alloc (.cells #[.int .i64 op, .int .i64 (a : Int), .int .i64 b, .int .i64 nn] 147) = W := ⟨_, rfl⟩
  have HC := Aside0.mk (show CS w0 W s g r z m n regs pl bs zs (ABlk (w.heap.size + 1) (.cells #[.int .i64 op, .int .i64 (a : Int), .int .i64 b, .int .i64 nn] 147 (0, 0)) :: ABlk w.heap.size (.cells #[.pointer (some ⟨s, 0, none⟩), .pointer (some ⟨g, 0, none⟩), .pointer (some ⟨z, 0, none⟩)] 158 (0, 0)) :: l) from by
    rw [← hWe]
    have h2 := (h.alloc (.cells #[.pointer (some ⟨s, 0, none⟩), .pointer (some ⟨g, 0, none⟩), .pointer (some ⟨z, 0, none⟩)] 158)).alloc (.cells #[.int .i64 op, .int .i64 (a : Int), .int .i64 b, .int .i64 nn] 147)
    rw [size_alloc] at h2
    exact h2)
  obtain ⟨bm, hbm⟩ : ∃ b, w.heap.size = b := ⟨_, rfl⟩
  rw [hbm] at HC
  have k0 : W.cell? ⟨bm + 1, 0, none⟩ = some (.int .i64 op) := get_cell (blk_at HC.out.tail) 0
  have k1 : W.cell? ⟨bm + 1, 1, none⟩ = some (.int .i64 (a : Int)) := get_cell (blk_at HC.out.tail) 1
  have m0 : W.cell? ⟨bm, 0, none⟩ = some (.pointer (some ⟨s, 0, none⟩)) := get_cell (blk_at HC.out.tail.drop) 0
  have m2 : W.cell? ⟨bm, 2, none⟩ = some (.pointer (some ⟨z, 0, none⟩)) := get_cell (blk_at HC.out.tail.drop) 2
  have r1 : W.cell? ⟨s, a, none⟩ = some (.int .i32 (regs.getD a 0)) := HC.out.reg a ha
  have HM := Aside0.mk (fun w' (h : CS w0 w' s g r z m n regs pl bs zs (ABlk (bm + 1) (.cells #[.int .i64 op, .int .i64 (a : Int), .int .i64 b, .int .i64 nn] 147 (0, 0)) :: ABlk bm (.cells #[.pointer (some ⟨s, 0, none⟩), .pointer (some ⟨g, 0, none⟩), .pointer (some ⟨z, 0, none⟩)] 158 (0, 0)) :: l)) => (get_cell (blk_at h.tail.drop) 2 : w'.cell? ⟨bm, 2, none⟩ = some (.pointer (some ⟨z, 0, none⟩))))
  have HM1 := Aside0.mk (fun w' (h : CS w0 w' s g r z m n regs pl bs zs (ABlk (bm + 1) (.cells #[.int .i64 op, .int .i64 (a : Int), .int .i64 b, .int .i64 nn] 147 (0, 0)) :: ABlk bm (.cells #[.pointer (some ⟨s, 0, none⟩), .pointer (some ⟨g, 0, none⟩), .pointer (some ⟨z, 0, none⟩)] 158 (0, 0)) :: l)) => (get_cell (blk_at h.tail.drop) 1 : w'.cell? ⟨bm, 1, none⟩ = some (.pointer (some ⟨g, 0, none⟩))))
  have HS1 := Aside0.mk (fun w' (h : CS w0 w' s g r z m n regs pl bs zs (ABlk (bm + 1) (.cells #[.int .i64 op, .int .i64 (a : Int), .int .i64 b, .int .i64 nn] 147 (0, 0)) :: ABlk bm (.cells #[.pointer (some ⟨s, 0, none⟩), .pointer (some ⟨g, 0, none⟩), .pointer (some ⟨z, 0, none⟩)] 158 (0, 0)) :: l)) (c : Int) (hc : c ≤ 9223372036854775807) => CanStore_calls h.zr x c hc)
  have HCE := Aside0.mk (fun w' (h : CS w0 w' s g r z m n regs pl bs zs (ABlk (bm + 1) (.cells #[.int .i64 op, .int .i64 (a : Int), .int .i64 b, .int .i64 nn] 147 (0, 0)) :: ABlk bm (.cells #[.pointer (some ⟨s, 0, none⟩), .pointer (some ⟨g, 0, none⟩), .pointer (some ⟨z, 0, none⟩)] 158 (0, 0)) :: l)) => h.zs.cell h.few x HX1.out)
  have HFI := Aside0.mk (fun w' (h : CS w0 w' s g r z m n regs pl bs zs (ABlk (bm + 1) (.cells #[.int .i64 op, .int .i64 (a : Int), .int .i64 b, .int .i64 nn] 147 (0, 0)) :: ABlk bm (.cells #[.pointer (some ⟨s, 0, none⟩), .pointer (some ⟨g, 0, none⟩), .pointer (some ⟨z, 0, none⟩)] 158 (0, 0)) :: l)) (k y : Int) => Fits_calls h.zr k y)
  clear h ha hx
  generalize regs.getD a 0 = v at r1 ⊢
  by_cases ho : op = 15
  · subst ho
    have HSS := Aside0.mk (fun w' h => HS1.out w' h 1 (by decide))
    cases hs : storeZ zs x 1 with
    | false =>
      have e : storeP zs bs 15 v x = (2, bs) := by simp [storeP, hs]
      rw [e]
      have HQ := Aside0.mk (fun w' h => by have q := HSS.out w' h; rw [hs] at q; exact q)
      clear hs e
      go_enter Try.func113, Try.ntmps113
      go_upto_region 1 with fail
      try rw [hWe]
      try rw [hbm]
      go_quiet (fail)
      go_wp2_with fail
      (with_reducible refine (HQ.out _ (HC.out.drewN _)).mono ?_)
      rintro e1 w1 ⟨rfl, hb1⟩
      have HC1 := Aside0.mk ((HC.out.drewN _).below hb1)
      clear HQ hb1
      go_wp2_with fail
      go_ret
      exact ⟨by rfl, HC1.out.less.less⟩
    | true =>
      have HQ := Aside0.mk (fun w' h => by have q := HSS.out w' h; rw [hs] at q; exact q)
      by_cases hc : cellZ zs x = 0
      · by_cases hin : 0 ≤ x ∧ x < 2048
        · have e : storeP zs bs 15 v x = (0, bs.set x.toNat (v % 256)) := by simp [storeP, hs, hc, hin]
          rw [e]
          clear hs e
          go_enter Try.func113, Try.ntmps113
          go_upto_region 1 with fail
          try rw [hWe]
          try rw [hbm]
          go_quiet (fail)
          go_wp2_with fail
          (with_reducible refine (HQ.out _ (HC.out.drewN _)).mono ?_)
          rintro e1 w1 ⟨rfl, hb1⟩
          have HC1 := Aside0.mk ((HC.out.drewN _).below hb1)
          clear HQ hb1
          have m2 := HM.out w1 HC1.out
          have HQ := Aside0.mk (HCE.out w1 HC1.out)
          rw [hc] at HQ
          go_wp2_with fail
          (with_reducible refine HQ.out.mono ?_)
          rintro e2 w2 ⟨rfl, hb2⟩
          have HC2 := Aside0.mk (HC1.out.below hb2)
          clear HQ hb2
          have m1 := HM1.out w2 HC2.out
          have HQ := Aside0.mk (HC2.out.setByte x (v % 256) hin.1 hin.2 (u8_mod v))
          clear m2
          go_wp2_with fail
          (with_reducible refine HQ.out.mono ?_)
          rintro e3 w3 ⟨rfl, hC3⟩
          have HC3 := Aside0.mk hC3
          clear HQ hC3
          go_wp2_with fail
          go_ret
          exact ⟨by rfl, HC3.out.less.less⟩
        · have e : storeP zs bs 15 v x = (2, bs) := by
            unfold storeP
            rw [if_pos rfl, if_pos hs, if_pos hc, if_neg hin]
          rw [e]
          clear hs e
          go_enter Try.func113, Try.ntmps113
          go_upto_region 1 with fail
          try rw [hWe]
          try rw [hbm]
          go_quiet (fail)
          go_wp2_with fail
          (with_reducible refine (HQ.out _ (HC.out.drewN _)).mono ?_)
          rintro e1 w1 ⟨rfl, hb1⟩
          have HC1 := Aside0.mk ((HC.out.drewN _).below hb1)
          clear HQ hb1
          have m2 := HM.out w1 HC1.out
          have HQ := Aside0.mk (HCE.out w1 HC1.out)
          rw [hc] at HQ
          go_wp2_with fail
          (with_reducible refine HQ.out.mono ?_)
          rintro e2 w2 ⟨rfl, hb2⟩
          have HC2 := Aside0.mk (HC1.out.below hb2)
          clear HQ hb2
          have m1 := HM1.out w2 HC2.out
          have HQ := Aside0.mk (HC2.out.setByte_out x (v % 256) hin)
          clear m2 hin
          go_wp2_with fail
          (with_reducible refine HQ.out.mono ?_)
          rintro e3 w3 ⟨rfl, hC3⟩
          have HC3 := Aside0.mk hC3
          clear HQ hC3
          go_wp2_with fail
          go_ret
          exact ⟨by rfl, HC3.out.less.less⟩
      · have e : storeP zs bs 15 v x = (6, bs) := by simp [storeP, hs, hc]
        rw [e]
        have v1 : (cellZ zs x = 0) = False := eq_false hc
        have v2 : (cellZ zs x == 0) = false := by simpa using hc
        have v3 : (cellZ zs x != 0) = true := by simpa using hc
        clear hs e
        go_enter Try.func113, Try.ntmps113
        go_upto_region 1 with fail
        try rw [hWe]
        try rw [hbm]
        go_quiet (fail)
        go_wp2_with fail
        (with_reducible refine (HQ.out _ (HC.out.drewN _)).mono ?_)
        rintro e1 w1 ⟨rfl, hb1⟩
        have HC1 := Aside0.mk ((HC.out.drewN _).below hb1)
        clear HQ hb1
        have m2 := HM.out w1 HC1.out
        have HQ := Aside0.mk (HCE.out w1 HC1.out)
        clear hc
        go_wp2_with fail
        (with_reducible refine HQ.out.mono ?_)
        rintro e2 w2 ⟨rfl, hb2⟩
        have HC2 := Aside0.mk (HC1.out.below hb2)
        clear HQ hb2
        go_wp2_with fail
        go_ret
        exact ⟨by rfl, HC2.out.less.less⟩
  · have o1 : (op = 15) = False := eq_false ho
    have o2 : (op == 15) = false := by simpa using ho
    by_cases h4 : Int.tmod x 4 = 0
    · have u1 : (Int.tmod x 4 = 0) = True := eq_true h4
      have u2 : (Int.tmod x 4 == 0) = true := by simpa using h4
      have u3 : (Int.tmod x 4 != 0) = false := by simpa using h4
      have HSS := Aside0.mk (fun w' h => HS1.out w' h 4 (by decide))
      cases hs : storeZ zs x 4 with
      | false =>
        have e : storeP zs bs op v x = (2, bs) := by simp [storeP, hs, ho, h4]
        rw [e]
        have HQ := Aside0.mk (fun w' h => by have q := HSS.out w' h; rw [hs] at q; exact q)
        clear hs e h4
        go_enter Try.func113, Try.ntmps113
        go_upto_region 1 with fail
        try rw [hWe]
        try rw [hbm]
        go_quiet (fail)
        go_wp2_with fail
        (with_reducible refine (HQ.out _ (HC.out.drewN _)).mono ?_)
        rintro e1 w1 ⟨rfl, hb1⟩
        have HC1 := Aside0.mk ((HC.out.drewN _).below hb1)
        clear HQ hb1
        go_wp2_with fail
        go_ret
        exact ⟨by rfl, HC1.out.less.less⟩
      | true =>
        have HQ := Aside0.mk (fun w' h => by have q := HSS.out w' h; rw [hs] at q; exact q)
        have HPL := Aside0.mk (fun w' => cpu_place.calls v (v % 4294967296) w' rfl)
        cases hf : fitsZ zs (cellZ zs x) (v % 4294967296) with
        | false =>
          have e : storeP zs bs op v x = (6, bs) := by simp [storeP, hs, ho, h4, hf]
          rw [e]
          have HFQ := Aside0.mk (fun w' h => by have q := HFI.out w' h (cellZ zs x) (v % 4294967296); rw [hf] at q; exact q)
          clear hs e h4 hf
          go_enter Try.func113, Try.ntmps113
          go_upto_region 1 with fail
          try rw [hWe]
          try rw [hbm]
          go_quiet (fail)
          go_wp2_with fail
          (with_reducible refine (HQ.out _ (HC.out.drewN _)).mono ?_)
          rintro e1 w1 ⟨rfl, hb1⟩
          have HC1 := Aside0.mk ((HC.out.drewN _).below hb1)
          clear HQ hb1
          have m2 := HM.out w1 HC1.out
          have HKP := Aside0.mk (fun w' (hb : Below w1.heap.size w1 w') => HM.out w' (HC1.out.below hb))
          go_wp2_with fail
          go_region_held3 (fun w' => w'.cell? ⟨bm, 2, none⟩ = some (.pointer (some ⟨z, 0, none⟩))) ((refine HKP.out _ ?_; repeat (first | exact Below.refl _ _ | exact HB5.out | exact HB4.out | exact HB3.out | apply below_drew | apply pw_below_drewN))) (first
            | ((with_reducible refine (HCE.out _ (HC1.out.below (by repeat (first | exact Below.refl _ _ | exact HB4.out | apply below_drew | apply pw_below_drewN)))).mono ?_); rintro e3 w3 ⟨rfl, hb3⟩; have HB3 := Aside0.mk (show Below w1.heap.size w1 w3 from below_step (by repeat (first | exact Below.refl _ _ | exact HB4.out | apply below_drew | apply pw_below_drewN)) hb3); clear hb3)
            | ((with_reducible refine (HPL.out _).mono ?_); rintro e4 w4 ⟨rfl, hd4⟩; have HB4 := Aside0.mk (show Below w1.heap.size w1 w4 from below_step (by repeat (first | exact Below.refl _ _ | exact HB3.out | apply below_drew | apply pw_below_drewN)) hd4.below); clear hd4)
            | ((with_reducible refine (HFQ.out _ (HC1.out.below (by repeat (first | exact Below.refl _ _ | exact HB4.out | exact HB3.out | apply below_drew | apply pw_below_drewN)))).mono ?_); rintro e5 w5 ⟨rfl, hb5⟩; have HB5 := Aside0.mk (show Below w1.heap.size w1 w5 from below_step (by repeat (first | exact Below.refl _ _ | exact HB4.out | exact HB3.out | apply below_drew | apply pw_below_drewN)) hb5); clear hb5))
          all_goals (
            go_wp2_with fail
            go_ret
            exact ⟨by rfl, (HC1.out.below HB5.out).less.less⟩)
        | true =>
          have HFQ := Aside0.mk (fun w' h => by have q := HFI.out w' h (cellZ zs x) (v % 4294967296); rw [hf] at q; exact q)
          by_cases hw : whyW 2048 x = 0
          · have hin : 0 ≤ x ∧ x < 2048 := by
              unfold whyW at hw
              rw [if_pos h4] at hw
              by_cases h0 : x < 0
              · rw [if_pos h0] at hw; exact absurd hw (by decide)
              · rw [if_neg h0] at hw
                by_cases h1 : x ≥ ((2048 : Nat) : Int)
                · rw [if_pos h1] at hw; exact absurd hw (by decide)
                · exact ⟨by omega, by omega⟩
            have e : storeP zs bs op v x = (0, setW bs x.toNat (v % 4294967296)) := by simp [storeP, hs, ho, h4, hw, hf]
            rw [e]
            have HIN := Aside0.mk (And.intro hin h4)
            clear hs e hw hf hin h4
            go_enter Try.func113, Try.ntmps113
            go_upto_region 1 with fail
            try rw [hWe]
            try rw [hbm]
            go_quiet (fail)
            go_wp2_with fail
            (with_reducible refine (HQ.out _ (HC.out.drewN _)).mono ?_)
            rintro e1 w1 ⟨rfl, hb1⟩
            have HC1 := Aside0.mk ((HC.out.drewN _).below hb1)
            clear HQ hb1
            have m2 := HM.out w1 HC1.out
            have HKP := Aside0.mk (fun w' (hb : Below w1.heap.size w1 w') => HM.out w' (HC1.out.below hb))
            go_wp2_with fail
            go_region_held3 (fun w' => w'.cell? ⟨bm, 2, none⟩ = some (.pointer (some ⟨z, 0, none⟩))) ((refine HKP.out _ ?_; repeat (first | exact Below.refl _ _ | exact HB5.out | exact HB4.out | exact HB3.out | apply below_drew | apply pw_below_drewN))) (first
              | ((with_reducible refine (HCE.out _ (HC1.out.below (by repeat (first | exact Below.refl _ _ | exact HB4.out | apply below_drew | apply pw_below_drewN)))).mono ?_); rintro e3 w3 ⟨rfl, hb3⟩; have HB3 := Aside0.mk (show Below w1.heap.size w1 w3 from below_step (by repeat (first | exact Below.refl _ _ | exact HB4.out | apply below_drew | apply pw_below_drewN)) hb3); clear hb3)
              | ((with_reducible refine (HPL.out _).mono ?_); rintro e4 w4 ⟨rfl, hd4⟩; have HB4 := Aside0.mk (show Below w1.heap.size w1 w4 from below_step (by repeat (first | exact Below.refl _ _ | exact HB3.out | apply below_drew | apply pw_below_drewN)) hd4.below); clear hd4)
              | ((with_reducible refine (HFQ.out _ (HC1.out.below (by repeat (first | exact Below.refl _ _ | exact HB4.out | exact HB3.out | apply below_drew | apply pw_below_drewN)))).mono ?_); rintro e5 w5 ⟨rfl, hb5⟩; have HB5 := Aside0.mk (show Below w1.heap.size w1 w5 from below_step (by repeat (first | exact Below.refl _ _ | exact HB4.out | exact HB3.out | apply below_drew | apply pw_below_drewN)) hb5); clear hb5))
            all_goals (
              have HC5 := Aside0.mk (HC1.out.below HB5.out)
              have m1 := HM1.out w5 HC5.out
              have HQ := Aside0.mk (HC5.out.setWord x (v % 4294967296) HIN.out.1.1 HIN.out.2 HIN.out.1.2 (u32_mod v))
              go_wp2_with fail
              (with_reducible refine HQ.out.mono ?_)
              rintro e6 w6 ⟨rfl, hC6⟩
              have HC6 := Aside0.mk hC6
              clear HQ hC6
              go_wp2_with fail
              go_ret
              exact ⟨by rfl, HC6.out.less.less⟩)
          · have e : storeP zs bs op v x = (whyW 2048 x, bs) := by simp [storeP, hs, ho, h4, hw, hf]
            rw [e]
            have HWO := Aside0.mk (fun w' (h : CS w0 w' s g r z m n regs pl bs zs (ABlk (bm + 1) (.cells #[.int .i64 op, .int .i64 (a : Int), .int .i64 b, .int .i64 nn] 147 (0, 0)) :: ABlk bm (.cells #[.pointer (some ⟨s, 0, none⟩), .pointer (some ⟨g, 0, none⟩), .pointer (some ⟨z, 0, none⟩)] 158 (0, 0)) :: l)) => h.setWord_out x (v % 4294967296) hw)
            clear hs e hw hf h4
            go_enter Try.func113, Try.ntmps113
            go_upto_region 1 with fail
            try rw [hWe]
            try rw [hbm]
            go_quiet (fail)
            go_wp2_with fail
            (with_reducible refine (HQ.out _ (HC.out.drewN _)).mono ?_)
            rintro e1 w1 ⟨rfl, hb1⟩
            have HC1 := Aside0.mk ((HC.out.drewN _).below hb1)
            clear HQ hb1
            have m2 := HM.out w1 HC1.out
            have HKP := Aside0.mk (fun w' (hb : Below w1.heap.size w1 w') => HM.out w' (HC1.out.below hb))
            go_wp2_with fail
            go_region_held3 (fun w' => w'.cell? ⟨bm, 2, none⟩ = some (.pointer (some ⟨z, 0, none⟩))) ((refine HKP.out _ ?_; repeat (first | exact Below.refl _ _ | exact HB5.out | exact HB4.out | exact HB3.out | apply below_drew | apply pw_below_drewN))) (first
              | ((with_reducible refine (HCE.out _ (HC1.out.below (by repeat (first | exact Below.refl _ _ | exact HB4.out | apply below_drew | apply pw_below_drewN)))).mono ?_); rintro e3 w3 ⟨rfl, hb3⟩; have HB3 := Aside0.mk (show Below w1.heap.size w1 w3 from below_step (by repeat (first | exact Below.refl _ _ | exact HB4.out | apply below_drew | apply pw_below_drewN)) hb3); clear hb3)
              | ((with_reducible refine (HPL.out _).mono ?_); rintro e4 w4 ⟨rfl, hd4⟩; have HB4 := Aside0.mk (show Below w1.heap.size w1 w4 from below_step (by repeat (first | exact Below.refl _ _ | exact HB3.out | apply below_drew | apply pw_below_drewN)) hd4.below); clear hd4)
              | ((with_reducible refine (HFQ.out _ (HC1.out.below (by repeat (first | exact Below.refl _ _ | exact HB4.out | exact HB3.out | apply below_drew | apply pw_below_drewN)))).mono ?_); rintro e5 w5 ⟨rfl, hb5⟩; have HB5 := Aside0.mk (show Below w1.heap.size w1 w5 from below_step (by repeat (first | exact Below.refl _ _ | exact HB4.out | exact HB3.out | apply below_drew | apply pw_below_drewN)) hb5); clear hb5))
            all_goals (
              have HC5 := Aside0.mk (HC1.out.below HB5.out)
              have m1 := HM1.out w5 HC5.out
              have HQ := Aside0.mk (HWO.out _ HC5.out)
              go_wp2_with fail
              (with_reducible refine HQ.out.mono ?_)
              rintro e6 w6 ⟨rfl, hC6⟩
              have HC6 := Aside0.mk hC6
              clear HQ hC6
              go_wp2_with fail
              go_ret
              exact ⟨by rfl, HC6.out.less.less⟩)
    · have u1 : (Int.tmod x 4 = 0) = False := eq_false h4
      have u2 : (Int.tmod x 4 == 0) = false := by simpa using h4
      have u3 : (Int.tmod x 4 != 0) = true := by simpa using h4
      have e : storeP zs bs op v x = (3, bs) := by simp [storeP, ho, h4]
      rw [e]
      clear e h4
      go_enter Try.func113, Try.ntmps113
      go_upto_region 1 with fail
      try rw [hWe]
      try rw [hbm]
      go_quiet (fail)
      go_wp2_with fail
      go_ret
      exact ⟨by rfl, (HC.out.drewN _).less.less⟩
end Go.Proofs.Ytkeijpngfnmjoaa.MineCpu
end
section
namespace Go.Proofs.Ytkeijpngfnmjoaa.MineCpu
open Go.Lib Go.Shelf Go.RowKit Go.MapKept Go.Proofs.YtkeijpngfnmjoaaW.PrintWords Go.Proofs.YtkeijpngfnmjoaaW.PrintLast Go.Proofs.YtkeijpngfnmjoaaW.PrintMore Go.Proofs.Ytkeijpngfnmjoaa.MineBase Go.Proofs.Ytkeijpngfnmjoaa.MineSep Go.Proofs.Ytkeijpngfnmjoaa.MineRows Go.Proofs.Ytkeijpngfnmjoaa.MineGen Go.Proofs.Ytkeijpngfnmjoaa.QZonePlays Go.Proofs.Ytkeijpngfnmjoaa.MineMap Go.Proofs.Ytkeijpngfnmjoaa.MineZone Go.Proofs.Ytkeijpngfnmjoaa.MineMem Go.Proofs.Ytkeijpngfnmjoaa.MineWord Go.Proofs.Ytkeijpngfnmjoaa.QMemPlays Go.Proofs.Ytkeijpngfnmjoaa.QCpuGuards
attribute [local go_sem ↓] Go.wp_at_zero Go.wp_at_succ
set_option linter.unusedVariables false
set_option linter.unusedSimpArgs false
def meetsB (op x y : Int) : Bool := if op = 16 then x == y else if op = 17 then x != y else if op = 18 then decide (x < y) else op == 19
theorem meets_quiet (op x y : Int) (w : World) (k : Nat) : Calls Try.prog 115 #[.int .i64 op, .int .i32 x, .int .i32 y] (w.drewN k) fun e w'' => e = .returned (.bool (meetsB op x y)) ∧ ∃ k, w'' = w.drewN k := by
  have hf : alu_Meets.f op x y = some (meetsB op x y) := by
    unfold alu_Meets.f meetsB
    by_cases h1 : op = 16
    · simp [h1]
    · by_cases h2 : op = 17
      · simp [h2]
      · by_cases h3 : op = 18
        · simp [h3]
        · simp [h1, h2, h3]
  exact Calls.quiet_of ((alu_Meets.calls op x y _ (w.drewN k) hf).mono fun _ _ h => ⟨h.1, h.2.out⟩)
theorem place_quiet (v : Int) (w : World) (k : Nat) : Calls Try.prog 112 #[.int .i32 v] (w.drewN k) fun e w'' => e = .returned (.int .i64 (v % 4294967296)) ∧ ∃ k, w'' = w.drewN k :=
  Calls.quiet_of ((cpu_place.calls v _ (w.drewN k) rfl).mono fun _ _ h => ⟨h.1, h.2.out⟩)
/-- Where it goes on, and the registers then. -/
def flowP (regs : List Int) (pl op : Int) (a b : Nat) (nn : Int) : Int × List Int :=
  if op = 21 then (regs.getD a 0 % 4294967296, regs)
  else if op = 20 then (pl + 4 + 4 * nn, regs.set a (IntKind.i32.wrap (pl + 4)))
  else if meetsB op (regs.getD a 0) (regs.getD b 0) = true then (pl + 4 + 4 * nn, regs) else (pl + 4, regs)
set_option maxHeartbeats 8000000 in
set_option maxRecDepth 100000 in
theorem flow_calls {w0 w : World} {s g r z m n : Nat} {regs : List Int} {pl : Int} {bs : List Int} {zs : List S82} {l : List Asn} (h : CS w0 w s g r z m n regs pl bs zs l) (op nn : Int) (a b : Nat) (ha : a < 16) (hb : b < 16) (hp : 0 ≤ pl ∧ pl ≤ 100000) (hn : -200000 ≤ nn ∧ nn ≤ 200000) :
    Calls Try.prog 95 #[.agg #[.pointer (some ⟨s, 0, none⟩), .pointer (some ⟨g, 0, none⟩), .pointer (some ⟨z, 0, none⟩)], .agg #[.int .i64 op, .int .i64 (a : Int), .int .i64 (b : Int), .int .i64 nn]] w fun e w' => e = .returned (.int .i64 (flowP regs pl op a b nn).1) ∧ CS w0 w' s g r z m n (flowP regs pl op a b nn).2 pl bs zs l := by
  have HA := Aside0.mk ha
  have HB := Aside0.mk hb
  have hu158 := Try.underlying158
  have hu147 := Try.underlying147
  have hu104 := Try.underlying104
  have a0 : 0 ≤ (a : Int) := by omega
  have a1 : (a : Int) < 16 := by omega
  have a2 : a < 16 := ha
  have b0 : 0 ≤ (b : Int) := by omega
  have b1 : (b : Int) < 16 := by omega
  have b2 : b < 16 := hb
  have t1 : IntKind.i64.wrap (pl + 4) = pl + 4 := wrap_ok (by omega) (by omega)
  have t2 : IntKind.i64.wrap (4 * nn) = 4 * nn := wrap_ok (by omega) (by omega)
  have t3 : IntKind.i64.wrap (pl + 4 + 4 * nn) = pl + 4 + 4 * nn := wrap_ok (by omega) (by omega)
  obtain ⟨W, hWe⟩ : ∃ W, (w.alloc (.cells #[.pointer (some ⟨s, 0, none⟩), .pointer (some ⟨g, 0, none⟩), .pointer (some ⟨z, 0, none⟩)] 158)).alloc (.cells #[.int .i64 op, .int .i64 (a : Int), .int .i64 (b : Int), .int .i64 nn] 147) = W := ⟨_, rfl⟩
  have HC := Aside0.mk (show CS w0 W s g r z m n regs pl bs zs (ABlk (w.heap.size + 1) (.cells #[.int .i64 op, .int .i64 (a : Int), .int .i64 (b : Int), .int .i64 nn] 147 (0, 0)) :: ABlk w.heap.size (.cells #[.pointer (some ⟨s, 0, none⟩), .pointer (some ⟨g, 0, none⟩), .pointer (some ⟨z, 0, none⟩)] 158 (0, 0)) :: l) from by
    rw [← hWe]
    have h2 := (h.alloc (.cells #[.pointer (some ⟨s, 0, none⟩), .pointer (some ⟨g, 0, none⟩), .pointer (some ⟨z, 0, none⟩)] 158)).alloc (.cells #[.int .i64 op, .int .i64 (a : Int), .int .i64 (b : Int), .int .i64 nn] 147)
    rw [size_alloc] at h2
    exact h2)
  obtain ⟨bm, hbm⟩ : ∃ b, w.heap.size = b := ⟨_, rfl⟩
  rw [hbm] at HC
  have k0 : W.cell? ⟨bm + 1, 0, none⟩ = some (.int .i64 op) := get_cell (blk_at HC.out.tail) 0
  have k1 : W.cell? ⟨bm + 1, 1, none⟩ = some (.int .i64 (a : Int)) := get_cell (blk_at HC.out.tail) 1
  have k2 : W.cell? ⟨bm + 1, 2, none⟩ = some (.int .i64 (b : Int)) := get_cell (blk_at HC.out.tail) 2
  have k3 : W.cell? ⟨bm + 1, 3, none⟩ = some (.int .i64 nn) := get_cell (blk_at HC.out.tail) 3
  have m0 : W.cell? ⟨bm, 0, none⟩ = some (.pointer (some ⟨s, 0, none⟩)) := get_cell (blk_at HC.out.tail.drop) 0
  have r1 : W.cell? ⟨s, a, none⟩ = some (.int .i32 (regs.getD a 0)) := HC.out.reg a ha
  have r2 : W.cell? ⟨s, b, none⟩ = some (.int .i32 (regs.getD b 0)) := HC.out.reg b hb
  have f1 : W.frozen? ⟨s, a, none⟩ = false := HC.out.free a
  have p1 : W.cell? ⟨s, 16, none⟩ = some (.int .i64 pl) := HC.out.place
  clear h ha hb hp hn
  unfold flowP
  by_cases o21 : op = 21
  · subst o21
    rw [if_pos rfl]
    go_enter Try.func95, Try.ntmps95
    go_upto_region 1 with fail
    try rw [hWe]
    try rw [hbm]
    go_wp2_with fail
    go_quiet ((go_at_call 112; exact place_quiet _ _ _))
    go_wp2_with fail
    go_ret
    exact ⟨by rfl, (HC.out.drewN _).less.less⟩
  rw [if_neg o21]
  have v1 : (op = 21) = False := eq_false o21
  have v2 : (op == 21) = false := by simpa using o21
  by_cases o20 : op = 20
  · subst o20
    rw [if_pos rfl]
    clear o21 v1 v2
    go_enter Try.func95, Try.ntmps95
    go_upto_region 1 with fail
    try rw [hWe]
    try rw [hbm]
    go_wp2_with fail
    go_region_law (fail)
    all_goals (
      have HC2 := Aside0.mk (HC.out.setReg a HA.out (IntKind.i32.wrap (pl + 4)))
      have k3' : (W.setCell ⟨s, a, none⟩ (.int .i32 (IntKind.i32.wrap (pl + 4)))).cell? ⟨bm + 1, 3, none⟩ = some (.int .i64 nn) := get_cell (blk_at HC2.out.tail) 3
      have k3w := k3'
      rw [i32_w] at k3w
      go_wp2_with fail
      go_ret
      exact ⟨by rfl, by rw [← i32_w]; exact HC2.out.drew.less.less⟩)
  rw [if_neg o20]
  have v3 : (op = 20) = False := eq_false o20
  have v4 : (op == 20) = false := by simpa using o20
  cases hm : meetsB op (regs.getD a 0) (regs.getD b 0) with
  | true =>
    rw [if_pos rfl]
    have HQ := Aside0.mk (fun w k => by have q := meets_quiet op (regs.getD a 0) (regs.getD b 0) w k; rw [hm] at q; exact q)
    clear hm o20 o21
    go_enter Try.func95, Try.ntmps95
    go_upto_region 1 with fail
    try rw [hWe]
    try rw [hbm]
    go_wp2_with fail
    go_quiet ((go_at_call 115; exact HQ.out _ _))
    go_wp2_with fail
    go_ret
    exact ⟨by rfl, (HC.out.drewN _).less.less⟩
  | false =>
    rw [if_neg (by decide)]
    have HQ := Aside0.mk (fun w k => by have q := meets_quiet op (regs.getD a 0) (regs.getD b 0) w k; rw [hm] at q; exact q)
    clear hm o20 o21
    go_enter Try.func95, Try.ntmps95
    go_upto_region 1 with fail
    try rw [hWe]
    try rw [hbm]
    go_wp2_with fail
    go_quiet ((go_at_call 115; exact HQ.out _ _))
    go_wp2_with fail
    go_ret
    exact ⟨by rfl, (HC.out.drewN _).less.less⟩
end Go.Proofs.Ytkeijpngfnmjoaa.MineCpu
end
