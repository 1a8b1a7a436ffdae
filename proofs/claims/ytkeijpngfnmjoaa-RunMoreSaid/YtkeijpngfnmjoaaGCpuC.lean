/- The cpu: a step, in plain words; what the numbers of an instruction are. Condition: the word is one. The cpu: a step. Conditions: the zones are orderly and few. The cpu: what a step leaves as it was, in plain words: a trap turns nothing; a byte that turns can be stored; a cell that fits stays fit. Conditions: the bytes are bytes. The cpu: a state beside what has begun; all bytes; a step of no state; the document's example. No condition but those told. The cpu: the document's example, at the head of the statements. No condition. -/
import Derived.Test.YtkeijpngfnmjoaaMineCpuE
import Derived.Test.YtkeijpngfnmjoaaQCpuGuardsPlain
import Derived.Test.YtkeijpngfnmjoaaGCpuA
section
namespace Go.Proofs.Ytkeijpngfnmjoaa.MineCpu
open Go.Lib Go.Shelf Go.RowKit Go.MapKept Go.Proofs.YtkeijpngfnmjoaaW.PrintWords Go.Proofs.YtkeijpngfnmjoaaW.PrintLast Go.Proofs.YtkeijpngfnmjoaaW.PrintMore Go.Proofs.Ytkeijpngfnmjoaa.MineBase Go.Proofs.Ytkeijpngfnmjoaa.MineSep Go.Proofs.Ytkeijpngfnmjoaa.MineRows Go.Proofs.Ytkeijpngfnmjoaa.MineGen Go.Proofs.Ytkeijpngfnmjoaa.QZonePlays Go.Proofs.Ytkeijpngfnmjoaa.MineMap Go.Proofs.Ytkeijpngfnmjoaa.MineZone Go.Proofs.Ytkeijpngfnmjoaa.MineMem Go.Proofs.Ytkeijpngfnmjoaa.MineWord Go.Proofs.Ytkeijpngfnmjoaa.QMemPlays Go.Proofs.Ytkeijpngfnmjoaa.QCpuGuards Go.Proofs.Ytkeijpngfnmjoaa.QCpuGuardsPlain
attribute [local go_sem ↓] Go.wp_at_zero Go.wp_at_succ
set_option linter.unusedVariables false
set_option linter.unusedSimpArgs false
/-- What runs lies within the greatest memory. -/
theorem run_range {zs : List S82} {pl : Int} (hI : Inv zs) (h : runZ zs pl = true) : 272 ≤ pl ∧ pl < 65536 ∧ Int.tmod pl 4 = 0 := by
  unfold runZ at h
  rw [Bool.and_eq_true] at h
  obtain ⟨y, hy, hd⟩ := List.any_eq_true.1 h.2
  simp only [Bool.and_eq_true, decide_eq_true_eq] at hd
  obtain ⟨⟨h1, h2, h3, h4, h5, h6, _⟩, _⟩ := hI.1 y hy
  exact ⟨by omega, by omega, (tmod4 pl).2 (of_decide_eq_true h.1)⟩
/-- The numbers of a word. -/
def opW (x : Int) : Int := x / 67108864
def aW (x : Int) : Nat := (x / 4194304 % 16).toNat
def bW (x : Int) : Nat := (x / 262144 % 16).toNat
def nW (x : Int) : Int := sg (x % 262144)
def isW (x : Int) : Bool := mayB (x / 67108864) (x / 4194304 % 16) (x / 262144 % 16) (sg (x % 262144))
/-- A step: a trap, registers, the place, the bytes. -/
def stepP (zs : List S82) (bs regs : List Int) (pl : Int) : Int × List Int × Int × List Int :=
  if runZ zs pl = false then (5, regs, pl, bs)
  else if 2048 ≤ pl then (5, regs, pl, bs)
  else
    let x : Int := (wordN ((bs.drop pl.toNat).take 4) : Nat)
    if isW x = false then (1, regs, pl, bs)
    else
      let q := doP zs bs regs (opW x) (aW x) (bW x) (nW x)
      if q.1 ≠ 0 then (q.1, q.2.1, pl, q.2.2)
      else (0, (flowP q.2.1 pl (opW x) (aW x) (bW x) (nW x)).2, (flowP q.2.1 pl (opW x) (aW x) (bW x) (nW x)).1, q.2.2)
end Go.Proofs.Ytkeijpngfnmjoaa.MineCpu
end
section
namespace Go.Proofs.Ytkeijpngfnmjoaa.MineCpu
open Go.Lib Go.Shelf Go.RowKit Go.MapKept Go.Proofs.YtkeijpngfnmjoaaW.PrintWords Go.Proofs.YtkeijpngfnmjoaaW.PrintLast Go.Proofs.YtkeijpngfnmjoaaW.PrintMore Go.Proofs.Ytkeijpngfnmjoaa.MineBase Go.Proofs.Ytkeijpngfnmjoaa.MineSep Go.Proofs.Ytkeijpngfnmjoaa.MineRows Go.Proofs.Ytkeijpngfnmjoaa.MineGen Go.Proofs.Ytkeijpngfnmjoaa.QZonePlays Go.Proofs.Ytkeijpngfnmjoaa.MineMap Go.Proofs.Ytkeijpngfnmjoaa.MineZone Go.Proofs.Ytkeijpngfnmjoaa.MineMem Go.Proofs.Ytkeijpngfnmjoaa.MineWord Go.Proofs.Ytkeijpngfnmjoaa.QMemPlays Go.Proofs.Ytkeijpngfnmjoaa.QCpuGuards Go.Proofs.Ytkeijpngfnmjoaa.QCpuGuardsPlain
attribute [local go_sem ↓] Go.wp_at_zero Go.wp_at_succ
set_option linter.unusedVariables false
set_option linter.unusedSimpArgs false
theorem why_in {pl : Int} (h0 : 272 ≤ pl) (h4 : Int.tmod pl 4 = 0) (h1 : pl < 2048) : whyW 2048 pl = 0 := by
  unfold whyW
  rw [if_pos h4, if_neg (by omega), if_neg (by omega)]
theorem why_out {pl : Int} (h0 : 272 ≤ pl) (h4 : Int.tmod pl 4 = 0) (h1 : 2048 ≤ pl) : whyW 2048 pl = 2 := by
  unfold whyW
  rw [if_pos h4, if_neg (by omega), if_pos (by omega)]
theorem and31 (y : Int) : 0 ≤ Go.bits .and .i32 y 31 := by
  unfold Go.bits
  simp
  have h : (y % 2 ^ IntKind.i32.bits).toNat &&& 31 % 2 ^ IntKind.i32.bits ≤ 31 := Nat.le_trans Nat.and_le_right (by decide)
  generalize (y % 2 ^ IntKind.i32.bits).toNat &&& 31 % 2 ^ IntKind.i32.bits = v at h ⊢
  rw [i32_w]
  unfold wrap32
  omega
theorem alu_some (op x y : Int) : ∃ q, alu_Do.f op x y = some q := by
  unfold alu_Do.f
  simp only [if_pos (and31 y)]
  repeat (first | exact ⟨_, rfl⟩ | split)
theorem word_lt (bs : List Int) (pl : Int) (h : ∀ x ∈ bs, 0 ≤ x ∧ x ≤ 255) : wordN ((bs.drop pl.toNat).take 4) < 4294967296 := by
  have hb := mem_cut h pl.toNat 4
  have h0 := byt_le hb 0
  have h1 := byt_le hb 1
  have h2 := byt_le hb 2
  have h3 := byt_le hb 3
  unfold wordN
  omega
theorem CS.allocRow {w0 w : World} {s g r z m n : Nat} {regs : List Int} {pl : Int} {bs : List Int} {zs : List S82} {l : List Asn} (h : CS w0 w s g r z m n regs pl bs zs l) (old cs : Array Value) (t : TypeId) : CS w0 ((w.alloc (.cells old t)).setRow w.heap.size cs) s g r z m n regs pl bs zs (ABlk w.heap.size (.cells cs t (0, 0)) :: l) := by
  obtain ⟨⟨v, F, h1, h2⟩, h3, h4, h5⟩ := h.zs
  exact ⟨⟨⟨v, F, Sat.push (l1 := [_, _, _, _, _]) (blk_row (blk_new h1 (.cells old t))), h2⟩, h3, h4, h5⟩, h.len, h.few, h.size, h.byt⟩
set_option maxHeartbeats 8000000 in
set_option maxRecDepth 100000 in
theorem Step_calls {w0 w : World} {s g r z m n : Nat} {regs : List Int} {pl : Int} {bs : List Int} {zs : List S82} {l : List Asn} (h : CS w0 w s g r z m n regs pl bs zs l) :
    Calls Try.prog 56 #[.pointer (some ⟨s, 0, none⟩), .pointer (some ⟨g, 0, none⟩), .pointer (some ⟨z, 0, none⟩)] w fun e w' => e = .returned (.int .i64 (stepP zs bs regs pl).1) ∧ CS w0 w' s g r z m n (stepP zs bs regs pl).2.1 (stepP zs bs regs pl).2.2.1 (stepP zs bs regs pl).2.2.2 zs l := by
  have HC := Aside0.mk h
  have hu104 := Try.underlying104
  have hu147 := Try.underlying147
  have hu158 := Try.underlying158
  have p1 := h.place
  have HQ := Aside0.mk (CanRun_calls h.zr pl)
  have hI := h.zs.inv
  clear h
  cases hr : runZ zs pl with
  | false =>
    rw [show stepP zs bs regs pl = (5, regs, pl, bs) from by simp [stepP, hr]]
    rw [hr] at HQ
    go_enter Try.func56, Try.ntmps56
    go_wp2_with fail
    (with_reducible refine HQ.out.mono ?_)
    rintro e1 w1 ⟨rfl, hb1⟩
    have HC1 := Aside0.mk (HC.out.below hb1)
    clear HQ hb1
    go_wp2_with fail
    go_ret
    exact ⟨by rfl, HC1.out⟩
  | true =>
    obtain ⟨q0, q1, q4⟩ := run_range hI hr
    rw [hr] at HQ
    by_cases hout : 2048 ≤ pl
    · rw [show stepP zs bs regs pl = (5, regs, pl, bs) from by simp [stepP, hr, hout]]
      have hw := why_out q0 q4 hout
      go_enter Try.func56, Try.ntmps56
      go_wp2_with fail
      (with_reducible refine HQ.out.mono ?_)
      rintro e1 w1 ⟨rfl, hb1⟩
      have HC1 := Aside0.mk (HC.out.below hb1)
      clear HQ hb1 p1
      have p1 := HC1.out.place
      have HQ := Aside0.mk (HC1.out.word_out pl (by rw [hw]; decide))
      rw [hw] at HQ
      clear hw q0 q1 q4 hout
      go_wp2_with fail
      (with_reducible refine HQ.out.mono ?_)
      rintro e2 w2 ⟨rfl, hC2⟩
      have HC2 := Aside0.mk hC2
      clear HQ hC2
      go_wp2_with fail
      go_ret
      exact ⟨by rfl, HC2.out⟩
    · have hw : pl < 2048 := by omega
      obtain ⟨x, hx⟩ : ∃ x : Int, ((wordN ((bs.drop pl.toNat).take 4) : Nat) : Int) = x := ⟨_, rfl⟩
      have HW := Aside0.mk (And.intro (And.intro q0 hw) q4)
      have HX := Aside0.mk hx
      by_cases hi : isW x = false
      · rw [show stepP zs bs regs pl = (1, regs, pl, bs) from by simp [stepP, hr, hout, hx, hi]]
        have hg : ins_Get.f x = some (0, 0, 0, 0, false) := by
          rw [get_val x (by rw [← hx]; omega) (by rw [← hx]; have := word_lt bs pl HC.out.byt; omega)]
          unfold isW at hi
          rw [hi]
          rfl
        have HG := Aside0.mk (fun w' => ins_Get.calls x 0 0 0 0 false w' hg)
        clear hg hi q0 q1 q4 hout hw hx hr hI
        go_enter Try.func56, Try.ntmps56
        go_wp2_with fail
        (with_reducible refine HQ.out.mono ?_)
        rintro e1 w1 ⟨rfl, hb1⟩
        have HC1 := Aside0.mk (HC.out.below hb1)
        clear HQ hb1 p1
        have p1 := HC1.out.place
        have HQ := Aside0.mk (HC1.out.word pl (by have := HW.out.1.1; omega) HW.out.2 HW.out.1.2)
        rw [HX.out] at HQ
        go_wp2_with fail
        (with_reducible refine HQ.out.mono ?_)
        rintro e2 w2 ⟨rfl, hC2⟩
        have HC2 := Aside0.mk hC2
        clear HQ hC2 p1
        go_wp2_with fail
        (with_reducible refine (HG.out _).mono ?_)
        rintro e3 w3 ⟨rfl, hb3⟩
        have HC3 := Aside0.mk (HC2.out.below hb3)
        clear hb3
        go_upto_region 9 with (refine wpList_store_row rfl 147 (.tmp 9) (.tmp 44) rfl w3.heap.size #[.int .i64 0, .int .i64 0, .int .i64 0, .int .i64 0] rfl rfl 147 _ (MapKept.heap_alloc w3 _).1 (by kernel_rfl) rfl (by simp [Value.oneCell']) ?_)
        refine wp_abs (fun W => CS w0 W s g r z m n regs pl bs zs (_ :: l)) (HC3.out.allocRow _ _ _) (fun W4 hC4 => ?_)
        have HC4 := Aside0.mk hC4.less
        clear hC4
        go_wp2_with fail
        go_ret
        exact ⟨by rfl, HC4.out⟩
      · have hi1 : isW x = true := by cases hq : isW x with
          | true => rfl
          | false => exact absurd hq hi
        have hx0 : 0 ≤ x := by rw [← hx]; omega
        have hx4 : x < 4294967296 := by rw [← hx]; have := word_lt bs pl HC.out.byt; omega
        have hM : MayP (x / 67108864) (x / 4194304 % 16) (x / 262144 % 16) (sg (x % 262144)) := (may_iff _ _ _ _).1 hi1
        obtain ⟨m1, m2, m3, m4, m5, m6, m7, m8, m9⟩ := hM
        have ea : x / 4194304 % 16 = ((aW x : Nat) : Int) := by unfold aW; omega
        have eb : x / 262144 % 16 = ((bW x : Nat) : Int) := by unfold bW; omega
        have hg : ins_Get.f x = some (opW x, ((aW x : Nat) : Int), ((bW x : Nat) : Int), nW x, true) := by
          rw [get_val x hx0 hx4]
          unfold isW at hi1
          rw [hi1, ← ea, ← eb]
          rfl
        have ha : aW x < 16 := by omega
        have hb : bW x < 16 := by omega
        have ho : 1 ≤ opW x ∧ opW x ≤ 21 := ⟨m1, m2⟩
        have hn : -131072 ≤ nW x ∧ nW x ≤ 131071 := ⟨m7, m8⟩
        have hal : ¬ (opW x = 1 ∨ opW x = 11 ∨ 12 ≤ opW x) → (0 ≤ nW x ∧ nW x < 16) ∧ ∃ q, alu_Do.f (opW x) (regs.getD (bW x) 0) (regs.getD (nW x).toNat 0) = some q := fun hh => ⟨by
          have m9' : opW x < 2 ∨ 10 < opW x ∨ 0 ≤ nW x ∧ nW x ≤ 15 := m9
          omega, alu_some _ _ _⟩
        have HG := Aside0.mk (fun w' => ins_Get.calls x _ _ _ _ true w' hg)
        have HDO := Aside0.mk (fun (w' : World) (l' : List Asn) (h' : CS w0 w' s g r z m n regs pl bs zs l') => do_calls h' (opW x) (nW x) (aW x) (bW x) ha hb hal ho)
        have HFL := Aside0.mk (fun (w' : World) (l' : List Asn) (regs' bs' : List Int) (h' : CS w0 w' s g r z m n regs' pl bs' zs l') => flow_calls h' (opW x) (nW x) (aW x) (bW x) ha hb ⟨by omega, by omega⟩ ⟨by omega, by omega⟩)
        obtain ⟨q, hq⟩ : ∃ q, doP zs bs regs (opW x) (aW x) (bW x) (nW x) = q := ⟨_, rfl⟩
        have hst : stepP zs bs regs pl = if q.1 ≠ 0 then (q.1, q.2.1, pl, q.2.2) else (0, (flowP q.2.1 pl (opW x) (aW x) (bW x) (nW x)).2, (flowP q.2.1 pl (opW x) (aW x) (bW x) (nW x)).1, q.2.2) := by
          unfold stepP
          rw [if_neg (by rw [hr]; decide), if_neg hout]
          simp only [hx]
          rw [if_neg hi, hq]
        rw [hst]
        have HQD := Aside0.mk hq
        clear hst hq hal ho hn ha hb hg ea eb m1 m2 m3 m4 m5 m6 m7 m8 m9 hi1 hi hx0 hx4 q0 q1 q4 hout hw hx hr hI
        by_cases hz : q.1 = 0
        · rw [if_neg (by simpa using hz)]
          obtain ⟨t0, rg, by_⟩ := q
          simp only at hz HQD ⊢
          subst hz
          go_enter Try.func56, Try.ntmps56
          go_wp2_with fail
          (with_reducible refine HQ.out.mono ?_)
          rintro e1 w1 ⟨rfl, hb1⟩
          have HC1 := Aside0.mk (HC.out.below hb1)
          clear HQ hb1 p1
          have p1 := HC1.out.place
          have HQ := Aside0.mk (HC1.out.word pl (by have := HW.out.1.1; omega) HW.out.2 HW.out.1.2)
          rw [HX.out] at HQ
          go_wp2_with fail
          (with_reducible refine HQ.out.mono ?_)
          rintro e2 w2 ⟨rfl, hC2⟩
          have HC2 := Aside0.mk hC2
          clear HQ hC2 p1
          go_wp2_with fail
          (with_reducible refine (HG.out _).mono ?_)
          rintro e3 w3 ⟨rfl, hb3⟩
          have HC3 := Aside0.mk (HC2.out.below hb3)
          clear hb3
          go_upto_region 9 with (refine wpList_store_row rfl 147 (.tmp 9) (.tmp 44) rfl w3.heap.size #[.int .i64 (opW x), .int .i64 ((aW x : Nat) : Int), .int .i64 ((bW x : Nat) : Int), .int .i64 (nW x)] rfl rfl 147 _ (MapKept.heap_alloc w3 _).1 (by kernel_rfl) rfl (by simp [Value.oneCell']) ?_)
          refine wp_abs (fun W => CS w0 W s g r z m n regs pl bs zs (ABlk w3.heap.size (.cells #[.int .i64 (opW x), .int .i64 ((aW x : Nat) : Int), .int .i64 ((bW x : Nat) : Int), .int .i64 (nW x)] 147 (0, 0)) :: l)) (HC3.out.allocRow _ _ _) (fun W4 hC4 => ?_)
          have HC4 := Aside0.mk hC4
          generalize w3.heap.size = bi at HC4 ⊢
          clear hC4
          go_upto_region 12 with (refine wpList_store_row rfl 158 (.tmp 11) (.tmp 51) rfl W4.heap.size #[.pointer (some ⟨s, 0, none⟩), .pointer (some ⟨g, 0, none⟩), .pointer (some ⟨z, 0, none⟩)] rfl rfl 158 _ (MapKept.heap_alloc W4 _).1 (by kernel_rfl) rfl (by simp [Value.oneCell']) ?_)
          refine wp_abs (fun W => CS w0 W s g r z m n regs pl bs zs (ABlk W4.heap.size (.cells #[.pointer (some ⟨s, 0, none⟩), .pointer (some ⟨g, 0, none⟩), .pointer (some ⟨z, 0, none⟩)] 158 (0, 0)) :: ABlk bi (.cells #[.int .i64 (opW x), .int .i64 ((aW x : Nat) : Int), .int .i64 ((bW x : Nat) : Int), .int .i64 (nW x)] 147 (0, 0)) :: l)) (HC4.out.allocRow _ _ _) (fun W5 hC5 => ?_)
          have HC5 := Aside0.mk hC5
          generalize W4.heap.size = bm at HC5 ⊢
          clear hC5
          have c0 : W5.cell? ⟨bm, 0, none⟩ = some (.pointer (some ⟨s, 0, none⟩)) := get_cell (blk_at HC5.out.tail) 0
          have c1 : W5.cell? ⟨bm, 1, none⟩ = some (.pointer (some ⟨g, 0, none⟩)) := get_cell (blk_at HC5.out.tail) 1
          have c2 : W5.cell? ⟨bm, 2, none⟩ = some (.pointer (some ⟨z, 0, none⟩)) := get_cell (blk_at HC5.out.tail) 2
          have d0 : W5.cell? ⟨bi, 0, none⟩ = some (.int .i64 (opW x)) := get_cell (blk_at HC5.out.tail.drop) 0
          have d1 : W5.cell? ⟨bi, 1, none⟩ = some (.int .i64 ((aW x : Nat) : Int)) := get_cell (blk_at HC5.out.tail.drop) 1
          have d2 : W5.cell? ⟨bi, 2, none⟩ = some (.int .i64 ((bW x : Nat) : Int)) := get_cell (blk_at HC5.out.tail.drop) 2
          have d3 : W5.cell? ⟨bi, 3, none⟩ = some (.int .i64 (nW x)) := get_cell (blk_at HC5.out.tail.drop) 3
          have HQ := Aside0.mk (HDO.out W5 _ HC5.out)
          rw [HQD.out] at HQ
          go_wp2_with fail
          (with_reducible refine HQ.out.mono ?_)
          rintro e6 w6 ⟨rfl, hC6⟩
          have HC6 := Aside0.mk hC6
          clear HQ hC6 c0 c1 c2 d0 d1 d2 d3
          have c0 : w6.cell? ⟨bm, 0, none⟩ = some (.pointer (some ⟨s, 0, none⟩)) := get_cell (blk_at HC6.out.tail) 0
          have c1 : w6.cell? ⟨bm, 1, none⟩ = some (.pointer (some ⟨g, 0, none⟩)) := get_cell (blk_at HC6.out.tail) 1
          have c2 : w6.cell? ⟨bm, 2, none⟩ = some (.pointer (some ⟨z, 0, none⟩)) := get_cell (blk_at HC6.out.tail) 2
          have d0 : w6.cell? ⟨bi, 0, none⟩ = some (.int .i64 (opW x)) := get_cell (blk_at HC6.out.tail.drop) 0
          have d1 : w6.cell? ⟨bi, 1, none⟩ = some (.int .i64 ((aW x : Nat) : Int)) := get_cell (blk_at HC6.out.tail.drop) 1
          have d2 : w6.cell? ⟨bi, 2, none⟩ = some (.int .i64 ((bW x : Nat) : Int)) := get_cell (blk_at HC6.out.tail.drop) 2
          have d3 : w6.cell? ⟨bi, 3, none⟩ = some (.int .i64 (nW x)) := get_cell (blk_at HC6.out.tail.drop) 3
          have HQ := Aside0.mk (HFL.out w6 _ _ _ HC6.out)
          go_wp2_with fail
          (with_reducible refine HQ.out.mono ?_)
          rintro e7 w7 ⟨rfl, hC7⟩
          have HC7 := Aside0.mk hC7
          clear HQ hC7 c0 c1 c2 d0 d1 d2 d3
          have p1 := HC7.out.place
          have f1 := HC7.out.free 16
          go_wp2_with fail
          go_ret
          exact ⟨by rfl, (HC7.out.setAt _).less.less⟩
        · rw [if_pos hz]
          obtain ⟨t0, rg, by_⟩ := q
          simp only at hz HQD ⊢
          have v1 : (t0 = 0) = False := eq_false hz
          have v2 : (t0 == 0) = false := by simpa using hz
          have v3 : (t0 != 0) = true := by simpa using hz
          clear hz
          go_enter Try.func56, Try.ntmps56
          go_wp2_with fail
          (with_reducible refine HQ.out.mono ?_)
          rintro e1 w1 ⟨rfl, hb1⟩
          have HC1 := Aside0.mk (HC.out.below hb1)
          clear HQ hb1 p1
          have p1 := HC1.out.place
          have HQ := Aside0.mk (HC1.out.word pl (by have := HW.out.1.1; omega) HW.out.2 HW.out.1.2)
          rw [HX.out] at HQ
          go_wp2_with fail
          (with_reducible refine HQ.out.mono ?_)
          rintro e2 w2 ⟨rfl, hC2⟩
          have HC2 := Aside0.mk hC2
          clear HQ hC2 p1
          go_wp2_with fail
          (with_reducible refine (HG.out _).mono ?_)
          rintro e3 w3 ⟨rfl, hb3⟩
          have HC3 := Aside0.mk (HC2.out.below hb3)
          clear hb3
          go_upto_region 9 with (refine wpList_store_row rfl 147 (.tmp 9) (.tmp 44) rfl w3.heap.size #[.int .i64 (opW x), .int .i64 ((aW x : Nat) : Int), .int .i64 ((bW x : Nat) : Int), .int .i64 (nW x)] rfl rfl 147 _ (MapKept.heap_alloc w3 _).1 (by kernel_rfl) rfl (by simp [Value.oneCell']) ?_)
          refine wp_abs (fun W => CS w0 W s g r z m n regs pl bs zs (ABlk w3.heap.size (.cells #[.int .i64 (opW x), .int .i64 ((aW x : Nat) : Int), .int .i64 ((bW x : Nat) : Int), .int .i64 (nW x)] 147 (0, 0)) :: l)) (HC3.out.allocRow _ _ _) (fun W4 hC4 => ?_)
          have HC4 := Aside0.mk hC4
          generalize w3.heap.size = bi at HC4 ⊢
          clear hC4
          go_upto_region 12 with (refine wpList_store_row rfl 158 (.tmp 11) (.tmp 51) rfl W4.heap.size #[.pointer (some ⟨s, 0, none⟩), .pointer (some ⟨g, 0, none⟩), .pointer (some ⟨z, 0, none⟩)] rfl rfl 158 _ (MapKept.heap_alloc W4 _).1 (by kernel_rfl) rfl (by simp [Value.oneCell']) ?_)
          refine wp_abs (fun W => CS w0 W s g r z m n regs pl bs zs (ABlk W4.heap.size (.cells #[.pointer (some ⟨s, 0, none⟩), .pointer (some ⟨g, 0, none⟩), .pointer (some ⟨z, 0, none⟩)] 158 (0, 0)) :: ABlk bi (.cells #[.int .i64 (opW x), .int .i64 ((aW x : Nat) : Int), .int .i64 ((bW x : Nat) : Int), .int .i64 (nW x)] 147 (0, 0)) :: l)) (HC4.out.allocRow _ _ _) (fun W5 hC5 => ?_)
          have HC5 := Aside0.mk hC5
          generalize W4.heap.size = bm at HC5 ⊢
          clear hC5
          have c0 : W5.cell? ⟨bm, 0, none⟩ = some (.pointer (some ⟨s, 0, none⟩)) := get_cell (blk_at HC5.out.tail) 0
          have c1 : W5.cell? ⟨bm, 1, none⟩ = some (.pointer (some ⟨g, 0, none⟩)) := get_cell (blk_at HC5.out.tail) 1
          have c2 : W5.cell? ⟨bm, 2, none⟩ = some (.pointer (some ⟨z, 0, none⟩)) := get_cell (blk_at HC5.out.tail) 2
          have d0 : W5.cell? ⟨bi, 0, none⟩ = some (.int .i64 (opW x)) := get_cell (blk_at HC5.out.tail.drop) 0
          have d1 : W5.cell? ⟨bi, 1, none⟩ = some (.int .i64 ((aW x : Nat) : Int)) := get_cell (blk_at HC5.out.tail.drop) 1
          have d2 : W5.cell? ⟨bi, 2, none⟩ = some (.int .i64 ((bW x : Nat) : Int)) := get_cell (blk_at HC5.out.tail.drop) 2
          have d3 : W5.cell? ⟨bi, 3, none⟩ = some (.int .i64 (nW x)) := get_cell (blk_at HC5.out.tail.drop) 3
          have HQ := Aside0.mk (HDO.out W5 _ HC5.out)
          rw [HQD.out] at HQ
          go_wp2_with fail
          (with_reducible refine HQ.out.mono ?_)
          rintro e6 w6 ⟨rfl, hC6⟩
          have HC6 := Aside0.mk hC6
          clear HQ hC6 c0 c1 c2 d0 d1 d2 d3
          go_wp2_with fail
          go_ret
          exact ⟨by rfl, HC6.out.less.less⟩
end Go.Proofs.Ytkeijpngfnmjoaa.MineCpu
end
section
namespace Go.Proofs.Ytkeijpngfnmjoaa.MineCpu
open Go.Lib Go.Shelf Go.RowKit Go.MapKept Go.Proofs.YtkeijpngfnmjoaaW.PrintWords Go.Proofs.YtkeijpngfnmjoaaW.PrintLast Go.Proofs.YtkeijpngfnmjoaaW.PrintMore Go.Proofs.Ytkeijpngfnmjoaa.MineBase Go.Proofs.Ytkeijpngfnmjoaa.MineSep Go.Proofs.Ytkeijpngfnmjoaa.MineRows Go.Proofs.Ytkeijpngfnmjoaa.MineGen Go.Proofs.Ytkeijpngfnmjoaa.QZonePlays Go.Proofs.Ytkeijpngfnmjoaa.MineMap Go.Proofs.Ytkeijpngfnmjoaa.MineZone Go.Proofs.Ytkeijpngfnmjoaa.MineMem Go.Proofs.Ytkeijpngfnmjoaa.MineWord Go.Proofs.Ytkeijpngfnmjoaa.QMemPlays Go.Proofs.Ytkeijpngfnmjoaa.QCpuGuards Go.Proofs.Ytkeijpngfnmjoaa.QCpuGuardsPlain
set_option linter.unusedVariables false
set_option linter.unusedSimpArgs false
/-- How the bytes may turn. -/
inductive Chg (zs : List S82) (bs : List Int) : List Int → Prop
  | same : Chg zs bs bs
  | byte (x y : Int) (hs : storeZ zs x 1 = true) (hc : cellZ zs x = 0) (h0 : 0 ≤ x) (h1 : x < 2048) : Chg zs bs (bs.set x.toNat y)
  | word (x v : Int) (h4 : x % 4 = 0) (hs : storeZ zs x 4 = true) (hf : fitsZ zs (cellZ zs x) v = true) (h0 : 0 ≤ x) (h1 : x < 2048) (hv : 0 ≤ v ∧ v < 4294967296) : Chg zs bs (setW bs x.toNat v)
theorem why0 {x : Int} (h4 : Int.tmod x 4 = 0) (h : whyW 2048 x = 0) : 0 ≤ x ∧ x < 2048 := by
  unfold whyW at h
  rw [if_pos h4] at h
  by_cases h0 : x < 0
  · rw [if_pos h0] at h; exact absurd h (by decide)
  · rw [if_neg h0] at h
    by_cases h1 : x ≥ ((2048 : Nat) : Int)
    · rw [if_pos h1] at h; exact absurd h (by decide)
    · omega
theorem store_chg (zs : List S82) (bs : List Int) (op v x : Int) : Chg zs bs (storeP zs bs op v x).2 ∧ ((storeP zs bs op v x).1 ≠ 0 → (storeP zs bs op v x).2 = bs) := by
  unfold storeP
  by_cases h1 : op = 15
  · rw [if_pos h1]
    by_cases h2 : storeZ zs x 1 = true
    · rw [if_pos h2]
      by_cases h3 : cellZ zs x = 0
      · rw [if_pos h3]
        by_cases h4 : 0 ≤ x ∧ x < 2048
        · rw [if_pos h4]; exact ⟨.byte x _ h2 h3 h4.1 h4.2, fun h => absurd rfl h⟩
        · rw [if_neg h4]; exact ⟨.same, fun _ => rfl⟩
      · rw [if_neg h3]; exact ⟨.same, fun _ => rfl⟩
    · rw [if_neg h2]; exact ⟨.same, fun _ => rfl⟩
  · rw [if_neg h1]
    by_cases h2 : Int.tmod x 4 = 0
    · rw [if_pos h2]
      by_cases h3 : storeZ zs x 4 = true
      · rw [if_pos h3]
        by_cases h4 : fitsZ zs (cellZ zs x) (v % 4294967296) = true
        · rw [if_pos h4]
          by_cases h5 : whyW 2048 x = 0
          · rw [if_pos h5]
            obtain ⟨a, b⟩ := why0 h2 h5
            exact ⟨.word x _ ((tmod4 x).1 h2) h3 h4 a b ⟨by omega, by omega⟩, fun h => absurd rfl h⟩
          · rw [if_neg h5]; exact ⟨.same, fun _ => rfl⟩
        · rw [if_neg h4]; exact ⟨.same, fun _ => rfl⟩
      · rw [if_neg h3]; exact ⟨.same, fun _ => rfl⟩
    · rw [if_neg h2]; exact ⟨.same, fun _ => rfl⟩
theorem do_chg (zs : List S82) (bs regs : List Int) (op : Int) (a b : Nat) (nn : Int) : Chg zs bs (doP zs bs regs op a b nn).2.2 ∧ ((doP zs bs regs op a b nn).1 ≠ 0 → (doP zs bs regs op a b nn).2 = (regs, bs)) := by
  unfold doP
  by_cases h1 : op = 1
  · rw [if_pos h1]; exact ⟨.same, fun h => absurd rfl h⟩
  rw [if_neg h1]
  by_cases h2 : op = 11
  · rw [if_pos h2]; exact ⟨.same, fun h => absurd rfl h⟩
  rw [if_neg h2]
  by_cases h3 : op = 12 ∨ op = 14
  · rw [if_pos h3]
    refine ⟨.same, fun h => ?_⟩
    unfold setT
    simp only at h ⊢
    rw [if_neg h]
  rw [if_neg h3]
  by_cases h4 : op = 13 ∨ op = 15
  · rw [if_pos h4]
    have hq := store_chg zs bs op (regs.getD a 0) (adr regs b nn)
    exact ⟨hq.1, fun h => by simp only at h ⊢; rw [hq.2 h]⟩
  rw [if_neg h4]
  by_cases h5 : 16 ≤ op ∧ op ≤ 21
  · rw [if_pos h5]; exact ⟨.same, fun h => absurd rfl h⟩
  rw [if_neg h5]
  refine ⟨.same, fun h => ?_⟩
  simp only at h ⊢
  rw [if_neg h]
theorem step_cases (zs : List S82) (bs regs : List Int) (pl : Int) : (∃ t, stepP zs bs regs pl = (t, regs, pl, bs)) ∨ ∃ (op : Int) (a b : Nat) (nn : Int) (q : Int × List Int × List Int), doP zs bs regs op a b nn = q ∧ ((q.1 ≠ 0 ∧ stepP zs bs regs pl = (q.1, q.2.1, pl, q.2.2)) ∨ (q.1 = 0 ∧ ∃ rg p, stepP zs bs regs pl = (0, rg, p, q.2.2))) := by
  by_cases h1 : runZ zs pl = false
  · exact .inl ⟨5, by unfold stepP; rw [if_pos h1]⟩
  by_cases h2 : 2048 ≤ pl
  · exact .inl ⟨5, by unfold stepP; rw [if_neg h1, if_pos h2]⟩
  obtain ⟨x, hx⟩ : ∃ x : Int, ((wordN ((bs.drop pl.toNat).take 4) : Nat) : Int) = x := ⟨_, rfl⟩
  by_cases h3 : isW x = false
  · exact .inl ⟨1, by unfold stepP; rw [if_neg h1, if_neg h2]; simp only [hx]; rw [if_pos h3]⟩
  obtain ⟨q, hq⟩ : ∃ q, doP zs bs regs (opW x) (aW x) (bW x) (nW x) = q := ⟨_, rfl⟩
  refine .inr ⟨_, _, _, _, q, hq, ?_⟩
  have hst : stepP zs bs regs pl = if q.1 ≠ 0 then (q.1, q.2.1, pl, q.2.2) else (0, (flowP q.2.1 pl (opW x) (aW x) (bW x) (nW x)).2, (flowP q.2.1 pl (opW x) (aW x) (bW x) (nW x)).1, q.2.2) := by
    unfold stepP
    rw [if_neg h1, if_neg h2]
    simp only [hx]
    rw [if_neg h3, hq]
  by_cases h4 : q.1 = 0
  · exact .inr ⟨h4, _, _, by rw [hst, if_neg (by simpa using h4)]⟩
  · exact .inl ⟨h4, by rw [hst, if_pos h4]⟩
theorem step_chg (zs : List S82) (bs regs : List Int) (pl : Int) : Chg zs bs (stepP zs bs regs pl).2.2.2 ∧ ((stepP zs bs regs pl).1 ≠ 0 → (stepP zs bs regs pl).2 = (regs, pl, bs)) := by
  rcases step_cases zs bs regs pl with ⟨t, e⟩ | ⟨op, a, b, nn, q, hq, ⟨h, e⟩ | ⟨h, rg, p, e⟩⟩
  · rw [e]; exact ⟨.same, fun _ => rfl⟩
  · have hd := do_chg zs bs regs op a b nn
    rw [hq] at hd
    rw [e]
    refine ⟨hd.1, fun h => ?_⟩
    have e2 := hd.2 h
    show (q.2.1, pl, q.2.2) = _
    rw [e2]
  · have hd := do_chg zs bs regs op a b nn
    rw [hq] at hd
    rw [e]
    exact ⟨hd.1, fun h => absurd rfl h⟩
theorem setW_far {bs : List Int} {i : Nat} {v : Int} (hi : i + 4 ≤ bs.length) {k : Nat} (h : k < i ∨ i + 4 ≤ k) : (setW bs i v)[k]? = bs[k]? := by
  unfold setW
  have h4 : (wb v).length = 4 := rfl
  have hl : (bs.take i).length = i := by rw [List.length_take]; omega
  rcases h with h | h
  · rw [List.getElem?_append_left (by omega), List.getElem?_take_of_lt h]
  · rw [List.getElem?_append_right (by omega), hl, List.getElem?_append_right (by omega), h4, List.getElem?_drop]
    congr 1
    omega
theorem rd_of {bs cs : List Int} {k : Nat} (h : bs[k]? = cs[k]?) : rd bs (k : Int) = rd cs (k : Int) := by
  unfold rd
  rw [Int.toNat_natCast, List.getD_eq_getElem?_getD, List.getD_eq_getElem?_getD, h]
theorem store_part {zs : List S82} {x : Int} {k : Int} (h : storeZ zs x 4 = true) (h0 : x ≤ k) (h1 : k < x + 4) : storeZ zs k 1 = true := by
  unfold storeZ at h ⊢
  rw [Bool.or_eq_true] at h ⊢
  rcases h with h | h
  · refine .inl ?_
    rw [inR_iff] at h ⊢
    omega
  · obtain ⟨y, hy, hr⟩ := List.any_eq_true.1 h
    refine .inr (List.any_eq_true.2 ⟨y, hy, ?_⟩)
    rw [inR_iff] at hr ⊢
    omega
/-- A byte that turned can be stored. -/
theorem chg_store {zs : List S82} {bs cs : List Int} (hl : bs.length = 2048) (h : Chg zs bs cs) (k : Nat) (hk : rd cs (k : Int) ≠ rd bs (k : Int)) : storeZ zs (k : Int) 1 = true := by
  cases h with
  | same => exact absurd rfl hk
  | byte x y hs hc h0 h1 =>
    by_cases e : k = x.toNat
    · rw [show (k : Int) = x by omega]; exact hs
    · exact absurd (rd_of (List.getElem?_set_ne (fun h => e h.symm))) hk
  | word x v h4 hs hf h0 h1 hv =>
    by_cases e : k < x.toNat ∨ x.toNat + 4 ≤ k
    · exact absurd (rd_of (setW_far (by omega) e)) hk
    · exact store_part hs (by omega) (by omega)
theorem chg_len {zs : List S82} {bs cs : List Int} (hl : bs.length = 2048) (h : Chg zs bs cs) : cs.length = 2048 := by
  cases h with
  | same => exact hl
  | byte x y hs hc h0 h1 => rw [List.length_set]; exact hl
  | word x v h4 hs hf h0 h1 hv => rw [setW_len _ _ _ (by omega)]; exact hl
theorem cut_get {bs : List Int} {k j : Nat} (hj : j < 4) : ((bs.drop k).take 4)[j]? = bs[k + j]? := by
  rw [List.getElem?_take_of_lt hj, List.getElem?_drop]
theorem word_of {bs cs : List Int} {k : Nat} (h : ∀ j, j < 4 → bs[k + j]? = cs[k + j]?) : wordN ((bs.drop k).take 4) = wordN ((cs.drop k).take 4) := by
  have hb : ∀ j, j < 4 → byt ((bs.drop k).take 4) j = byt ((cs.drop k).take 4) j := fun j hj => by
    unfold byt
    rw [List.getD_eq_getElem?_getD, List.getD_eq_getElem?_getD, cut_get hj, cut_get hj, h j hj]
  unfold wordN
  rw [hb 0 (by decide), hb 1 (by decide), hb 2 (by decide), hb 3 (by decide)]
theorem setW_word {bs : List Int} {i : Nat} {v : Int} (hi : i + 4 ≤ bs.length) (hv : 0 ≤ v ∧ v < 4294967296) : ((wordN (((setW bs i v).drop i).take 4) : Nat) : Int) = v := by
  have hl : (bs.take i).length = i := by rw [List.length_take]; omega
  have h4 : (wb v).length = 4 := rfl
  have e : ((setW bs i v).drop i).take 4 = wb v := by
    unfold setW
    rw [List.drop_append_of_le_length (by omega), List.drop_of_length_le (by omega), List.nil_append, List.take_append_of_le_length (by omega), List.take_of_length_le (by omega)]
  rw [e]
  exact word_bytes v hv.1 hv.2
/-- A declared cell that fits stays fit. -/
theorem chg_fits {zs : List S82} {bs cs : List Int} (hl : bs.length = 2048) (h : Chg zs bs cs) (k : Nat) (hk4 : k % 4 = 0) (hc : cellZ zs (k : Int) ≠ 0)
    (hf : fitsZ zs (cellZ zs (k : Int)) ((wordN ((bs.drop k).take 4) : Nat) : Int) = true) : fitsZ zs (cellZ zs (k : Int)) ((wordN ((cs.drop k).take 4) : Nat) : Int) = true := by
  cases h with
  | same => exact hf
  | byte x y hs hc' h0 h1 =>
    by_cases e : k ≤ x.toNat ∧ x.toNat < k + 4
    · refine absurd ?_ hc
      rw [← hc']
      unfold cellZ
      rw [if_neg (by omega), if_neg (by omega)]
      congr 1
      omega
    · rw [← word_of (fun j hj => (List.getElem?_set_ne (by omega)).symm)]
      exact hf
  | word x v h4 hs hf' h0 h1 hv =>
    by_cases e : k = x.toNat
    · subst e
      rw [setW_word (by omega) hv]
      rw [show ((x.toNat : Nat) : Int) = x by omega]
      exact hf'
    · rw [← word_of (fun j hj => (setW_far (by omega) (by omega)).symm)]
      exact hf
end Go.Proofs.Ytkeijpngfnmjoaa.MineCpu
end
section
namespace Go.Proofs.Ytkeijpngfnmjoaa.MineCpu
open Go.Lib Go.Shelf Go.RowKit Go.MapKept Go.Proofs.YtkeijpngfnmjoaaW.PrintWords Go.Proofs.YtkeijpngfnmjoaaW.PrintLast Go.Proofs.YtkeijpngfnmjoaaW.PrintMore Go.Proofs.Ytkeijpngfnmjoaa.MineBase Go.Proofs.Ytkeijpngfnmjoaa.MineSep Go.Proofs.Ytkeijpngfnmjoaa.MineRows Go.Proofs.Ytkeijpngfnmjoaa.MineGen Go.Proofs.Ytkeijpngfnmjoaa.QZonePlays Go.Proofs.Ytkeijpngfnmjoaa.MineMap Go.Proofs.Ytkeijpngfnmjoaa.MineZone Go.Proofs.Ytkeijpngfnmjoaa.MineMem Go.Proofs.Ytkeijpngfnmjoaa.MineWord Go.Proofs.Ytkeijpngfnmjoaa.QMemPlays Go.Proofs.Ytkeijpngfnmjoaa.QCpuGuards Go.Proofs.Ytkeijpngfnmjoaa.QCpuGuardsPlain
attribute [local go_sem ↓] Go.wp_at_zero Go.wp_at_succ
set_option linter.unusedVariables false
set_option linter.unusedSimpArgs false
attribute [local go_sem] Go.Proofs.Ytkeijpngfnmjoaa.MineErr.eql_err Go.Proofs.Ytkeijpngfnmjoaa.MineErr.neq_err Go.Proofs.Ytkeijpngfnmjoaa.MineErr.eql_nil_err Go.Proofs.Ytkeijpngfnmjoaa.MineErr.neq_nil_err
section
variable {w0 w w1 : World} {s g r z m n xb br : Nat} {regs : List Int} {pl : Int} {bs cs : List Int} {zs zd : List S82} {l : List Asn}
/-- What lies behind a state: the document's side. -/
def docL (w0 : World) (v : Value) (ds : List SZ) (xb br : Nat) (cs : List Int) (l : List Asn) : List Asn := ADoc w0.heap.size v ds :: AMach xb br v :: ABytes br cs :: l
theorem BS.toCS (h : BS w0 w z m n g r xb br zs zd bs cs l) (hn : n ≤ 900) (pl : Int) : ∃ v ds, CS w0 (w.alloc (.cells (stC (List.replicate 16 0) pl) 104)) w.heap.size g r z m n (List.replicate 16 0) pl bs zs (docL w0 v ds xb br cs l) ∧ ds.map (·.1) = zd ∧ ∀ d ∈ ds, Lie w0 d := by
  obtain ⟨⟨v, ds, h1, h2⟩, h3, h4, h5⟩ := h
  have h6 := ZS.alloc' h1 (.cells (stC (List.replicate 16 0) pl) 104)
  refine ⟨v, ds, ⟨ZS.perm h6 ?_, by simp, hn, h3, h5⟩, h2⟩
  refine .cons _ ?_
  exact List.perm_middle (l₁ := [_, _, _]) (l₂ := l) (a := AMem g r bs)
theorem bytes_below (h1 : IsMem w0 w g r bs) (h2 : IsMem w0 w1 g r bs) (b1 : Below w0.heap.size w0 w) (b2 : Below w0.heap.size w0 w1) (hk : KeepBut w w1 g (some r)) : Below w.heap.size w w1 := by
  refine ⟨b2.os.trans b1.os.symm, b2.tape.trans b1.tape.symm, b2.output.trans b1.output.symm, hk.1, fun i hi => ?_⟩
  by_cases e1 : i = g
  · subst e1; rw [h1.1, h2.1]
  · by_cases e2 : i = r
    · subst e2; rw [h1.2.1, h2.2.1]
    · exact hk.2 i hi e1 (by simp [e2])
theorem CS.newRow {α : Type} {d : Kd α} {e : Nat} {ok : Nat → Prop} {v : Value} {xs : List α} (h : CS w0 w s g r z m n regs pl bs zs l) (hb : Below w.heap.size w w1) (hR : d.R e w1 w.heap.size ok v xs) : CS w0 w1 s g r z m n regs pl bs zs (ARow d e w0.heap.size v xs :: l) := by
  obtain ⟨⟨v, F, h1, h2⟩, h3, h4, h5⟩ := h.zs
  exact ⟨⟨⟨v, F, Sat.push (l1 := [_, _, _, _, _]) (h1.newRow hb hR h1.size), h2⟩, h3, h4, h5⟩, h.len, h.few, h.size, h.byt⟩
/-- All bytes. -/
theorem CS.bytes (h : CS w0 w s g r z m n regs pl bs zs l) :
    Calls Try.prog 15 #[.pointer (some ⟨g, 0, none⟩), .int .i64 0, .int .i64 2048] w fun e w' => ∃ A c, e = .returned (.slice A 2048 c) ∧ 2048 ≤ c ∧ (Kd.int .u8).C w' A 2048 bs ∧ Below w.heap.size w w' ∧ CS w0 w' s g r z m n regs pl bs zs (ARow (Kd.int .u8) 5 w0.heap.size (.slice A 2048 c) bs :: l) := by
  obtain ⟨hI, hB, hcl⟩ := h.mem
  have hs := h.size
  refine (Bytes_some g r bs 0 2048 0 2048 w0 w hI hB (by decide) (by rw [hs]; decide) (by decide)).mono ?_
  rintro e w' ⟨v, rfl, hR, hI', hB', hk⟩
  rw [show (bs.drop (0 : Int).toNat).take ((2048 : Int).toNat - (0 : Int).toNat) = bs from by
    show (bs.drop 0).take _ = bs
    rw [List.drop_zero, List.take_of_length_le (by rw [hs]; decide)]] at hR
  have hb := bytes_below hI hI' hB hB' hk
  obtain ⟨A, c, e, hlc, hC⟩ := Kd.R_reads hR
  rw [hs] at e hlc hC
  subst e
  exact ⟨A, c, rfl, hlc, hC, hb, h.newRow hb hR⟩
end
set_option maxHeartbeats 2000000 in
set_option maxRecDepth 100000 in
theorem Step_nil (g z : Nat) (w : World) : Calls Try.prog 56 #[.pointer none, .pointer (some ⟨g, 0, none⟩), .pointer (some ⟨z, 0, none⟩)] w fun e w' => e = .returned (.int .i64 1) ∧ Below w.heap.size w w' := by
  have HB := Aside0.mk (Below.refl w.heap.size w)
  go_enter Try.func56, Try.ntmps56
  go_wp2_with fail
  go_ret
  exact ⟨by rfl, HB.out⟩
/-- The example's zone. -/
def zE : S82 := ⟨272, 272, 272, 276, [], []⟩
theorem ok_zE : Ok zE := by
  refine ⟨by unfold Places zE; decide, fun i v h => ?_, fun i v h => ?_⟩ <;> simp [zE] at h
theorem zs_E (ws : List Int) : zsN [(zE, ws)] 1 = [zE] := by
  show putZ [] zE = _
  unfold putZ
  rw [if_pos ⟨ok_zE, by simp⟩]
  rfl
theorem bs_E (W : Int) : bsN [(zE, [W])] 1 = setW (List.replicate 2048 0) 272 W := rfl
theorem few_E (W : Int) : FewP [(zE, [W])] := by
  refine ⟨fun d hd => ?_, by simp⟩
  simp at hd
  subst hd
  refine ⟨by simp, by simp [zE], by simp [zE], by simp [zE], by simp [zE]⟩
theorem step_E {W : Int} (hW : 0 ≤ W ∧ W < 4294967296) (regs : List Int) : stepP [zE] (setW (List.replicate 2048 0) 272 W) regs 272 =
    if isW W = false then (1, regs, 272, setW (List.replicate 2048 0) 272 W)
    else
      let q := doP [zE] (setW (List.replicate 2048 0) 272 W) regs (opW W) (aW W) (bW W) (nW W)
      if q.1 ≠ 0 then (q.1, q.2.1, 272, q.2.2)
      else (0, (flowP q.2.1 272 (opW W) (aW W) (bW W) (nW W)).2, (flowP q.2.1 272 (opW W) (aW W) (bW W) (nW W)).1, q.2.2) := by
  have hw := setW_word (bs := List.replicate 2048 0) (i := 272) (v := W) (by rw [List.length_replicate]; decide) hW
  unfold stepP
  rw [if_neg (by decide), if_neg (by decide)]
  simp only [show (272 : Int).toNat = 272 from rfl, hw]
theorem kBlk_one {w : World} {b bw : Nat} {W : Int} {t1 t2 : TypeId} (h1 : w.heap[b]? = some (.cells #[.int .i64 272, .int .i64 272, .int .i64 272, .int .i64 276, .slice none 0 0, .slice none 0 0, .slice (some ⟨bw, 0, none⟩) 1 1] t1 (0, 0))) (h2 : w.heap[bw]? = some (.cells #[.int .u32 W] t2 (0, 0))) :
    kBlk.C w (some ⟨b, 0, none⟩) 1 [(zE, [W])] := by
  refine ⟨rfl, by decide, fun _ => ⟨_, rfl, fun i x hi => ?_⟩⟩
  rcases i with _ | i
  · simp only [List.getElem?_cons_zero, Option.some.injEq] at hi
    subst hi
    have hz : k82.K w zE [.int .i64 272, .int .i64 272, .int .i64 272, .int .i64 276, .slice none 0 0, .slice none 0 0] := k82_mk w zE (A4 := none) (c4 := 0) (Nat.le_refl _) ⟨rfl, Nat.zero_le _, fun h => absurd h (Nat.lt_irrefl _)⟩ (A5 := none) (c5 := 0) (Nat.le_refl _) ⟨rfl, Nat.zero_le _, fun h => absurd h (Nat.lt_irrefl _)⟩
    have hw : (Kd.int .u32).C w (some ⟨bw, 0, none⟩) 1 [W] := by
      refine ⟨rfl, by decide, fun _ => ⟨_, rfl, fun i x hi => ?_⟩⟩
      rcases i with _ | i
      · simp only [List.getElem?_cons_zero, Option.some.injEq] at hi
        subst hi
        refine ⟨[.int .u32 W], rfl, rfl, fun j u hj => ?_⟩
        rcases j with _ | j
        · simp only [List.getElem?_cons_zero, Option.some.injEq] at hj
          subst hj
          exact get_cell h2 0
        · simp at hj
      · simp at hi
    refine ⟨[.int .i64 272, .int .i64 272, .int .i64 272, .int .i64 276, .slice none 0 0, .slice none 0 0, .slice (some ⟨bw, 0, none⟩) 1 1], rfl, ⟨_, [.slice (some ⟨bw, 0, none⟩) 1 1], rfl, hz, some ⟨bw, 0, none⟩, 1, rfl, Nat.le_refl _, hw⟩, fun j u hj => ?_⟩
    have e : ((⟨b, 0, none⟩ : Addr).add (0 * kBlk.sz + j)) = ⟨b, j, none⟩ := by rw [Nat.zero_mul, Nat.zero_add, add0]
    rw [e, get_cell h1 j, List.getElem?_toArray]
    exact hj
  · simp at hi
end Go.Proofs.Ytkeijpngfnmjoaa.MineCpu
end
section
namespace Go.Proofs.Ytkeijpngfnmjoaa.MineCpu
open Go.Lib Go.Shelf Go.RowKit Go.MapKept Go.Proofs.YtkeijpngfnmjoaaW.PrintWords Go.Proofs.YtkeijpngfnmjoaaW.PrintLast Go.Proofs.YtkeijpngfnmjoaaW.PrintMore Go.Proofs.Ytkeijpngfnmjoaa.MineBase Go.Proofs.Ytkeijpngfnmjoaa.MineSep Go.Proofs.Ytkeijpngfnmjoaa.MineRows Go.Proofs.Ytkeijpngfnmjoaa.MineGen Go.Proofs.Ytkeijpngfnmjoaa.QZonePlays Go.Proofs.Ytkeijpngfnmjoaa.MineMap Go.Proofs.Ytkeijpngfnmjoaa.MineZone Go.Proofs.Ytkeijpngfnmjoaa.MineMem Go.Proofs.Ytkeijpngfnmjoaa.MineWord Go.Proofs.Ytkeijpngfnmjoaa.QMemPlays Go.Proofs.Ytkeijpngfnmjoaa.QCpuGuards Go.Proofs.Ytkeijpngfnmjoaa.QCpuGuardsPlain
attribute [local go_sem ↓] Go.wp_at_zero Go.wp_at_succ
set_option linter.unusedVariables false
set_option linter.unusedSimpArgs false
attribute [local go_sem] Go.Proofs.Ytkeijpngfnmjoaa.MineErr.eql_err Go.Proofs.Ytkeijpngfnmjoaa.MineErr.neq_err Go.Proofs.Ytkeijpngfnmjoaa.MineErr.eql_nil_err Go.Proofs.Ytkeijpngfnmjoaa.MineErr.neq_nil_err
theorem step1_E : stepP [zE] (setW (List.replicate 2048 0) 272 79691783) (List.replicate 16 0) 272 = (0, (List.replicate 16 0).set 3 7, 276, setW (List.replicate 2048 0) 272 79691783) := by
  rw [step_E ⟨by decide, by decide⟩]
  generalize setW (List.replicate 2048 0) 272 79691783 = B
  rw [if_neg (by decide)]
  have e1 : opW 79691783 = 1 := by decide
  have e2 : aW 79691783 = 3 := by decide
  have e3 : bW 79691783 = 0 := by decide
  have e4 : nW 79691783 = 7 := by decide
  rw [e1, e2, e3, e4]
  have e5 : doP [zE] B (List.replicate 16 0) 1 3 0 7 = (0, (List.replicate 16 0).set 3 7, B) := by
    unfold doP
    rw [if_pos rfl, show wrap32 7 = 7 from by unfold wrap32; omega]
  have e6 : flowP ((List.replicate 16 0).set 3 7) 272 1 3 0 7 = (276, (List.replicate 16 0).set 3 7) := by
    unfold flowP
    rw [if_neg (by decide), if_neg (by decide), if_neg (by decide)]
    rfl
  simp only [e5]
  rw [if_neg (by decide), e6]
theorem step2_E (B : List Int) (rg : List Int) : stepP [zE] B rg 276 = (5, rg, 276, B) := by
  unfold stepP
  rw [if_pos (by decide)]
set_option maxHeartbeats 4000000 in
set_option maxRecDepth 100000 in
theorem up7_calls (w : World) : Calls Try.prog 53 #[] w fun e w' => e = .returned (.bool true) ∧ Below w.heap.size w w' := by
  have hq := dowellaw07_word.calls 1 3 0 7 79691783 w (by decide +kernel)
  have hu104 := Try.underlying104
  go_enter Try.func53, Try.ntmps53
  go_wp2_with fail
  (with_reducible refine hq.mono ?_)
  rintro e1 w1 ⟨rfl, hb1⟩
  have HB1 := Aside0.mk hb1
  clear hq hb1
  go_wp2_with fail
  obtain ⟨W2, hW2⟩ : ∃ W2, ((w1.alloc (.cells #[.int .u32 79691783] 23)).alloc (.cells #[.int .i64 272, .int .i64 272, .int .i64 272, .int .i64 276, .slice none 0 0, .slice none 0 0, .slice (some ⟨w1.heap.size, 0, none⟩) 1 1] 150)) = W2 := ⟨_, rfl⟩
  have HS2 := blk_new2 (Sat.start w1) (.cells #[.int .u32 79691783] 23) (.cells #[.int .i64 272, .int .i64 272, .int .i64 272, .int .i64 276, .slice none 0 0, .slice none 0 0, .slice (some ⟨w1.heap.size, 0, none⟩) 1 1] 150)
  rw [hW2] at HS2
  have hC : kBlk.C W2 (some ⟨w1.heap.size + 1, 0, none⟩) 1 [(zE, [79691783])] := kBlk_one (blk_at HS2) (blk_at HS2.drop)
  have hq : Calls Try.prog 55 #[.slice (some ⟨w1.heap.size + 1, 0, none⟩) 1 1] W2 _ := Begun_calls (Sat.start W2) (some ⟨w1.heap.size + 1, 0, none⟩) 1 [(zE, [79691783])] hC (by decide) (few_E _) (by simp [WordsP])
  have HQ := Aside0.mk hq
  have HB2 := Aside0.mk (below_then HB1.out HB1.out.size HS2.toBelow)
  clear hq hC HS2 HB1
  rw [hW2]
  clear hW2
  (with_reducible refine HQ.out.mono ?_)
  rintro e3 w3 ⟨z, m, g, r, xb, br, rfl, hB3⟩
  have hB3 : BS W2 w3 z m 1 g r xb br [zE] [zE] (setW (List.replicate 2048 0) 272 79691783) (setW (List.replicate 2048 0) 272 79691783) [] := by
    have h := hB3
    rw [show ([(zE, [79691783])] : List (S82 × List Int)).length = 1 from rfl, zs_E, bs_E] at h
    exact h
  obtain ⟨v, ds, hC3, _⟩ := hB3.toCS (by decide) 272
  have HC3 := Aside0.mk hC3
  clear HQ hB3 hC3
  have hst := step1_E
  generalize setW (List.replicate 2048 0) 272 79691783 = B at HC3 hst
  have HST := Aside0.mk hst
  clear hst
  go_upto_region 5 with (fail)
  refine wp_abs (fun W => CS W2 W w3.heap.size g r z m 1 (List.replicate 16 0) 272 B [zE] (docL W2 v ds xb br B [])) HC3.out (fun W4 hC4 => ?_)
  have HC4 := Aside0.mk hC4
  clear HC3 hC4
  generalize w3.heap.size = sb at HC4 ⊢
  have HQ := Aside0.mk (Step_calls HC4.out)
  rw [HST.out] at HQ
  go_wp2_with fail
  (with_reducible refine HQ.out.mono ?_)
  rintro e5 w5 ⟨rfl, hC5⟩
  have HC5 := Aside0.mk hC5
  clear HQ HC4 hC5 HST
  have HQ := Aside0.mk (Step_calls HC5.out)
  rw [step2_E] at HQ
  go_wp2_with fail
  (with_reducible refine HQ.out.mono ?_)
  rintro e6 w6 ⟨rfl, hC6⟩
  have HC6 := Aside0.mk hC6
  clear HQ HC5 hC6
  have k3 : w6.cell? ⟨sb, 3, none⟩ = some (.int .i32 7) := HC6.out.reg 3 (by decide)
  have k16 : w6.cell? ⟨sb, 16, none⟩ = some (.int .i64 276) := HC6.out.place
  have HQ := Aside0.mk (Step_nil g z w6)
  go_wp2_with fail
  (with_reducible refine HQ.out.mono ?_)
  rintro e7 w7 ⟨rfl, hb7⟩
  have HB7 := Aside0.mk (below_then HB2.out HB2.out.size (HC6.out.below hb7).toBelow)
  clear HQ hb7 HC6 k3 k16
  go_wp2_with fail
  go_ret
  exact ⟨by rfl, HB7.out⟩
end Go.Proofs.Ytkeijpngfnmjoaa.MineCpu
end
