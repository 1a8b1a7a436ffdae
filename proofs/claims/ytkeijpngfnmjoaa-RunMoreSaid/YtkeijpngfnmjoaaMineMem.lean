/- A memory: a pointer to a struct with one row of bytes; what its reading methods tell, the row being read in the world of now. No condition but that the numbers are as told. -/
import Derived.Test.YtkeijpngfnmjoaaQMemPlaysx1
import Derived.Test.YtkeijpngfnmjoaaMineBase
import Derived.Laws.CopyOwn
import Derived.Deep.RegionLaw
namespace Go.Proofs.Ytkeijpngfnmjoaa.MineMem
open Go.RowKit Go.Proofs.YtkeijpngfnmjoaaW.PrintWords Go.Proofs.YtkeijpngfnmjoaaW.PrintLast Go.Proofs.YtkeijpngfnmjoaaW.PrintMore Go.Proofs.Ytkeijpngfnmjoaa.MineBase Go.Proofs.Ytkeijpngfnmjoaa.QMemPlays
attribute [local go_sem] max2_int min2_int max_two min_two max_three min_three max_four min_four   -- for this text's walks alone
set_option linter.unusedVariables false
set_option linter.unusedSimpArgs false
/-- The bytes as cells. -/
def bytesC (bs : List Int) : Array Value := (bs.map (Value.int .u8)).toArray
theorem bytesC_get (bs : List Int) (i : Nat) : (bytesC bs)[i]? = bs[i]?.map (Value.int .u8) := by
  unfold bytesC
  rw [List.getElem?_toArray, List.getElem?_map]
/-- g: the struct's block, r: the row's block, bs: the bytes; both blocks are younger than w0. -/
def IsMem (w0 W : World) (g r : Nat) (bs : List Int) : Prop :=
  W.heap[g]? = some (.cells #[.slice (some ⟨r, 0, none⟩) bs.length bs.length] 113 (0, 0)) ∧ W.heap[r]? = some (.cells (bytesC bs) 5 (0, 0)) ∧ w0.heap.size ≤ g ∧ w0.heap.size ≤ r ∧ g ≠ r ∧ bs.length ≤ 1000000
theorem IsMem.below {w0 W W1 : World} {g r : Nat} {bs : List Int} (h : IsMem w0 W g r bs) (hw : Below W.heap.size W W1) : IsMem w0 W1 g r bs :=
  ⟨blk_below h.1 hw, blk_below h.2.1 hw, h.2.2⟩
theorem IsMem.alloc {w0 W : World} {g r : Nat} {bs : List Int} (h : IsMem w0 W g r bs) (o : Obj) : IsMem w0 (W.alloc o) g r bs := h.below (below_alloc (Below.refl _ _) o)
theorem IsMem.drewN {w0 W : World} {g r : Nat} {bs : List Int} (h : IsMem w0 W g r bs) (m : Nat) : IsMem w0 (W.drewN m) g r bs := h
theorem IsMem.drew {w0 W : World} {g r : Nat} {bs : List Int} (h : IsMem w0 W g r bs) : IsMem w0 W.drew g r bs := h
theorem IsMem.ge {w0 W : World} {g r : Nat} {bs : List Int} (h : IsMem w0 W g r bs) : w0.heap.size ≤ g := h.2.2.1
theorem IsMem.reads {w0 W : World} {g r : Nat} {bs : List Int} (h : IsMem w0 W g r bs) : Kd.C (Kd.int .u8) W (some ⟨r, 0, none⟩) bs.length bs := by
  obtain ⟨_, h2, _, _, _, h5⟩ := h
  refine ⟨rfl, by omega, fun _ => ⟨_, rfl, fun j p hj => ⟨[.int .u8 p], rfl, rfl, fun i u hu => ?_⟩⟩⟩
  cases i with
  | zero =>
    obtain rfl := Option.some.inj hu
    have e : ((⟨r, 0, none⟩ : Addr).add (j * (Kd.int .u8).sz + 0)) = ⟨r, j, none⟩ := by
      show ((⟨r, 0, none⟩ : Addr).add (j * 1 + 0)) = ⟨r, j, none⟩
      rw [Nat.mul_one, Nat.add_zero]
      unfold Addr.add
      by_cases h0 : j = 0
      · simp [h0]
      · simp [h0]
    rw [e, blk_cell h2 j, bytesC_get, hj]; rfl
  | succ i => simp at hu
theorem IsMem.open_ {w0 W : World} {g r : Nat} {bs : List Int} (h : IsMem w0 W g r bs) : ∃ A0 c0, W.heap[g]? = some (.cells #[.slice A0 bs.length c0] 113 (0, 0)) ∧ w0.heap.size ≤ g ∧ Kd.C (Kd.int .u8) W A0 bs.length bs :=
  ⟨_, _, h.1, h.2.2.1, h.reads⟩
theorem IsMem.set_ {w0 W : World} {g r : Nat} {bs : List Int} (h : IsMem w0 W g r bs) (i : Nat) (b : Int) : IsMem w0 (W.setCell ⟨r, i, none⟩ (.int .u8 b)) g r (bs.set i b) := by
  obtain ⟨h1, h2, h3, h4, h5, h6⟩ := h
  refine ⟨?_, ?_, h3, h4, h5, by rw [List.length_set]; exact h6⟩
  · rw [List.length_set]
    exact (Below.heap_setCell W _ _ g h5).trans h1
  · have e := get_setCell W r i (.int .u8 b) r
    rw [if_pos rfl] at e
    have h2' : blk W r = some (.cells (bytesC bs) 5 (0, 0)) := h2
    rw [h2'] at e
    refine Eq.trans e ?_
    refine congrArg some ?_
    unfold objPut bytesC
    refine congrArg (fun c => Obj.cells c 5 (0, 0)) ?_
    refine Array.ext' ?_
    simp [List.map_set]
theorem bad_calls (g r0 : Nat) (s0_0 : List Int) (a1 : Int) (r : Int) (w0 w : World) (hI : IsMem w0 w g r0 s0_0) (hB : Below w0.heap.size w0 w) (h : mem_Memory_bad.f s0_0 a1 = some r) :
    Calls Try.prog 60 #[.pointer (some ⟨g, 0, none⟩), .int .i64 a1] w fun e w' => e = .returned (.int .i64 r) ∧ IsMem w0 w' g r0 s0_0 ∧ Below w0.heap.size w0 w' ∧ KeepBut w w' g none := by
  have HI0 := Aside0.mk hI
  have HK := Aside0.mk (KeepBut.refl w g none)
  have HL := Aside0.mk hB.size
  clear hI
  have HW0 := Aside0.mk hB.size
  have HB := Aside0.mk hB
  clear hB
  have H : (if (Int.tmod a1 4) = 0 then (if a1 < 0 then (some 2) else (if a1 ≥ (s0_0.length : Int) then (some 2) else (some 0))) else (some 3)) = some r := h
  clear h
  by_cases c3 : (Int.tmod a1 4) = 0
  · rw [if_pos c3] at H
    have c3b0 : ((Int.tmod a1 4) == 0) = true := beq_iff_eq.mpr c3
    have c3b1 : ((Int.tmod a1 4) != 0) = false := bne_eq_false_iff_eq.mpr c3
    clear c3
    by_cases c4 : a1 < 0
    · rw [if_pos c4] at H
      have c4b0 : decide (a1 < 0) = true := decide_eq_true c4
      clear c4
      obtain rfl := Option.some.inj H
      go_enter Try.func60, Try.ntmps60
      go_wp2
      go_ret
      exact ⟨by first | rfl | (simp [errW_none, errW_some] <;> rfl) | (simp [*, errW_none, errW_some] <;> rfl), by repeat (first | (with_reducible first | exact HI0.out | apply IsMem.alloc | apply IsMem.drewN | apply IsMem.drew) | exact HI0.out), by repeat (first | (with_reducible first | exact HB.out | apply below_alloc | apply pw_below_drewN | apply below_drew1 | refine below_set ?_ (IsMem.ge HI0.out)) | exact HB.out), by repeat (first | (with_reducible first | exact HK.out | apply KeepBut.set_ | apply keep_drewN | apply keep_drew | apply keep_alloc) | exact HK.out)⟩
    · rw [if_neg c4] at H
      have c4b0 : decide (a1 < 0) = false := decide_eq_false c4
      clear c4
      by_cases c5 : a1 ≥ (s0_0.length : Int)
      · rw [if_pos c5] at H
        have c5b0 : decide ((s0_0.length : Int) ≤ a1) = true := decide_eq_true c5
        clear c5
        obtain rfl := Option.some.inj H
        obtain ⟨ASz6_0, cSz6_0, HGz6, hgz6, HSz6_0⟩ := HI0.out.open_
        have hcz6_0 := cellS113_0 HGz6
        clear HGz6 hgz6
        go_enter Try.func60, Try.ntmps60
        go_wp2
        go_ret
        exact ⟨by first | rfl | (simp [errW_none, errW_some] <;> rfl) | (simp [*, errW_none, errW_some] <;> rfl), by repeat (first | (with_reducible first | exact HI0.out | apply IsMem.alloc | apply IsMem.drewN | apply IsMem.drew) | exact HI0.out), by repeat (first | (with_reducible first | exact HB.out | apply below_alloc | apply pw_below_drewN | apply below_drew1 | refine below_set ?_ (IsMem.ge HI0.out)) | exact HB.out), by repeat (first | (with_reducible first | exact HK.out | apply KeepBut.set_ | apply keep_drewN | apply keep_drew | apply keep_alloc) | exact HK.out)⟩
      · rw [if_neg c5] at H
        have c5b0 : decide ((s0_0.length : Int) ≤ a1) = false := decide_eq_false c5
        clear c5
        obtain rfl := Option.some.inj H
        obtain ⟨ASz7_0, cSz7_0, HGz7, hgz7, HSz7_0⟩ := HI0.out.open_
        have hcz7_0 := cellS113_0 HGz7
        clear HGz7 hgz7
        go_enter Try.func60, Try.ntmps60
        go_wp2
        go_ret
        exact ⟨by first | rfl | (simp [errW_none, errW_some] <;> rfl) | (simp [*, errW_none, errW_some] <;> rfl), by repeat (first | (with_reducible first | exact HI0.out | apply IsMem.alloc | apply IsMem.drewN | apply IsMem.drew) | exact HI0.out), by repeat (first | (with_reducible first | exact HB.out | apply below_alloc | apply pw_below_drewN | apply below_drew1 | refine below_set ?_ (IsMem.ge HI0.out)) | exact HB.out), by repeat (first | (with_reducible first | exact HK.out | apply KeepBut.set_ | apply keep_drewN | apply keep_drew | apply keep_alloc) | exact HK.out)⟩
  · rw [if_neg c3] at H
    have c3b0 : ((Int.tmod a1 4) == 0) = false := beq_eq_false_iff_ne.mpr c3
    have c3b1 : ((Int.tmod a1 4) != 0) = true := bne_iff_ne.mpr c3
    obtain rfl := Option.some.inj H
    go_enter Try.func60, Try.ntmps60
    go_wp2
    go_ret
    exact ⟨by first | rfl | (simp [errW_none, errW_some] <;> rfl) | (simp [*, errW_none, errW_some] <;> rfl), by repeat (first | (with_reducible first | exact HI0.out | apply IsMem.alloc | apply IsMem.drewN | apply IsMem.drew) | exact HI0.out), by repeat (first | (with_reducible first | exact HB.out | apply below_alloc | apply pw_below_drewN | apply below_drew1 | refine below_set ?_ (IsMem.ge HI0.out)) | exact HB.out), by repeat (first | (with_reducible first | exact HK.out | apply KeepBut.set_ | apply keep_drewN | apply keep_drew | apply keep_alloc) | exact HK.out)⟩
theorem Byte_calls (g r0 : Nat) (s0_0 : List Int) (a1 : Int) (r1 : Int) (r2 : Int) (w0 w : World) (hI : IsMem w0 w g r0 s0_0) (hB : Below w0.heap.size w0 w) (h : mem_Memory_Byte.f s0_0 a1 = some (r1, r2)) :
    Calls Try.prog 19 #[.pointer (some ⟨g, 0, none⟩), .int .i64 a1] w fun e w' => e = .returned (.tuple #[.int .u8 r1, .int .i64 r2]) ∧ IsMem w0 w' g r0 s0_0 ∧ Below w0.heap.size w0 w' ∧ KeepBut w w' g none := by
  have HI0 := Aside0.mk hI
  have HK := Aside0.mk (KeepBut.refl w g none)
  have HL := Aside0.mk hB.size
  clear hI
  have HW0 := Aside0.mk hB.size
  have HB := Aside0.mk hB
  clear hB
  have H : (if a1 < 0 then (some (0, 2)) else (if a1 ≥ (s0_0.length : Int) then (some (0, 2)) else (if 0 ≤ a1 then (if a1 < (s0_0.length : Int) then (some (rd s0_0 a1, 0)) else (none)) else (none)))) = some (r1, r2) := h
  clear h
  by_cases c3 : a1 < 0
  · rw [if_pos c3] at H
    have c3b0 : decide (a1 < 0) = true := decide_eq_true c3
    clear c3
    simp only [Option.some.injEq, Prod.mk.injEq] at H
    obtain ⟨rfl, rfl⟩ := H
    go_enter Try.func19, Try.ntmps19
    go_wp2
    go_ret2
    exact ⟨by first | rfl | (simp [errW_none, errW_some] <;> rfl) | (simp [*, errW_none, errW_some] <;> rfl), by repeat (first | (with_reducible first | exact HI0.out | apply IsMem.alloc | apply IsMem.drewN | apply IsMem.drew) | exact HI0.out), by repeat (first | (with_reducible first | exact HB.out | apply below_alloc | apply pw_below_drewN | apply below_drew1 | refine below_set ?_ (IsMem.ge HI0.out)) | exact HB.out), by repeat (first | (with_reducible first | exact HK.out | apply KeepBut.set_ | apply keep_drewN | apply keep_drew | apply keep_alloc) | exact HK.out)⟩
  · rw [if_neg c3] at H
    have c3b0 : decide (a1 < 0) = false := decide_eq_false c3
    clear c3
    by_cases c4 : a1 ≥ (s0_0.length : Int)
    · rw [if_pos c4] at H
      have c4b0 : decide ((s0_0.length : Int) ≤ a1) = true := decide_eq_true c4
      clear c4
      simp only [Option.some.injEq, Prod.mk.injEq] at H
      obtain ⟨rfl, rfl⟩ := H
      obtain ⟨ASz5_0, cSz5_0, HGz5, hgz5, HSz5_0⟩ := HI0.out.open_
      have hcz5_0 := cellS113_0 HGz5
      clear HGz5 hgz5
      go_enter Try.func19, Try.ntmps19
      go_wp2
      go_ret2
      exact ⟨by first | rfl | (simp [errW_none, errW_some] <;> rfl) | (simp [*, errW_none, errW_some] <;> rfl), by repeat (first | (with_reducible first | exact HI0.out | apply IsMem.alloc | apply IsMem.drewN | apply IsMem.drew) | exact HI0.out), by repeat (first | (with_reducible first | exact HB.out | apply below_alloc | apply pw_below_drewN | apply below_drew1 | refine below_set ?_ (IsMem.ge HI0.out)) | exact HB.out), by repeat (first | (with_reducible first | exact HK.out | apply KeepBut.set_ | apply keep_drewN | apply keep_drew | apply keep_alloc) | exact HK.out)⟩
    · rw [if_neg c4] at H
      have c4b0 : decide ((s0_0.length : Int) ≤ a1) = false := decide_eq_false c4
      clear c4
      by_cases c6 : 0 ≤ a1
      · rw [if_pos c6] at H
        have c6b0 : decide (0 ≤ a1) = true := decide_eq_true c6
        clear c6
        by_cases c7 : a1 < (s0_0.length : Int)
        · rw [if_pos c7] at H
          have c7b0 : decide (a1 < (s0_0.length : Int)) = true := decide_eq_true c7
          clear c7
          simp only [Option.some.injEq, Prod.mk.injEq] at H
          obtain ⟨rfl, rfl⟩ := H
          obtain ⟨ASz8_0, cSz8_0, HGz8, hgz8, HSz8_0⟩ := HI0.out.open_
          have hcz8_0 := cellS113_0 HGz8
          clear HGz8 hgz8
          have p107 : 0 ≤ (a1 : Int) := of_decide_eq_true (by first | (with_reducible assumption) | assumption)
          have q107 : a1 < (s0_0.length : Int) := of_decide_eq_true (by first | (with_reducible assumption) | assumption)
          obtain ⟨ad107, e107, hx107_0⟩ := Kd.at_int HSz8_0 a1 p107 q107
          cases e107
          replace hx107_0 := pw_cell_below (Below.refl _ _) hx107_0
          replace p107 := eq_true p107
          replace q107 := eq_true q107
          go_enter Try.func19, Try.ntmps19
          go_wp2
          go_ret2
          exact ⟨by first | rfl | (simp [errW_none, errW_some] <;> rfl) | (simp [*, errW_none, errW_some] <;> rfl), by repeat (first | (with_reducible first | exact HI0.out | apply IsMem.alloc | apply IsMem.drewN | apply IsMem.drew) | exact HI0.out), by repeat (first | (with_reducible first | exact HB.out | apply below_alloc | apply pw_below_drewN | apply below_drew1 | refine below_set ?_ (IsMem.ge HI0.out)) | exact HB.out), by repeat (first | (with_reducible first | exact HK.out | apply KeepBut.set_ | apply keep_drewN | apply keep_drew | apply keep_alloc) | exact HK.out)⟩
        · rw [if_neg c7] at H
          exact absurd H (by simp)
      · rw [if_neg c6] at H
        exact absurd H (by simp)
theorem Size_calls (g r0 : Nat) (s0_0 : List Int) (r : Int) (w0 w : World) (hI : IsMem w0 w g r0 s0_0) (hB : Below w0.heap.size w0 w) (h : mem_Memory_Size.f s0_0 = some r) :
    Calls Try.prog 59 #[.pointer (some ⟨g, 0, none⟩)] w fun e w' => e = .returned (.int .i64 r) ∧ IsMem w0 w' g r0 s0_0 ∧ Below w0.heap.size w0 w' ∧ KeepBut w w' g none := by
  have HI0 := Aside0.mk hI
  have HK := Aside0.mk (KeepBut.refl w g none)
  have HL := Aside0.mk hB.size
  clear hI
  have HW0 := Aside0.mk hB.size
  have HB := Aside0.mk hB
  clear hB
  have H : (some (s0_0.length : Int)) = some r := h
  clear h
  obtain rfl := Option.some.inj H
  obtain ⟨ASz2_0, cSz2_0, HGz2, hgz2, HSz2_0⟩ := HI0.out.open_
  have hcz2_0 := cellS113_0 HGz2
  clear HGz2 hgz2
  go_enter Try.func59, Try.ntmps59
  go_wp2
  go_ret
  exact ⟨by first | rfl | (simp [errW_none, errW_some] <;> rfl) | (simp [*, errW_none, errW_some] <;> rfl), by repeat (first | (with_reducible first | exact HI0.out | apply IsMem.alloc | apply IsMem.drewN | apply IsMem.drew) | exact HI0.out), by repeat (first | (with_reducible first | exact HB.out | apply below_alloc | apply pw_below_drewN | apply below_drew1 | refine below_set ?_ (IsMem.ge HI0.out)) | exact HB.out), by repeat (first | (with_reducible first | exact HK.out | apply KeepBut.set_ | apply keep_drewN | apply keep_drew | apply keep_alloc) | exact HK.out)⟩

-- NOT PRINTED: function 11 (dowellaw04_up)
theorem IsMem.cell {w0 W : World} {g r : Nat} {bs : List Int} (h : IsMem w0 W g r bs) (i : Nat) (hi : i < bs.length) : W.cell? ((⟨r, 0, none⟩ : Addr).add i) = some (.int .u8 (rd bs (i : Int))) := by
  have e : (⟨r, 0, none⟩ : Addr).add i = ⟨r, i, none⟩ := by
    unfold Addr.add
    by_cases h0 : i = 0
    · simp [h0]
    · simp [h0]
  rw [e, blk_cell h.2.1 i, bytesC_get, List.getElem?_eq_getElem hi]
  unfold rd
  rw [Int.toNat_natCast, List.getD_eq_getElem?_getD, List.getElem?_eq_getElem hi]
  rfl
theorem add0 (r i : Nat) : (⟨r, 0, none⟩ : Addr).add i = ⟨r, i, none⟩ := by
  unfold Addr.add
  by_cases h0 : i = 0
  · simp [h0]
  · simp [h0]
theorem SetByte_in (g r0 : Nat) (bs : List Int) (a1 b1 : Int) (w0 w : World) (hI : IsMem w0 w g r0 bs) (hB : Below w0.heap.size w0 w) (h0 : 0 ≤ a1) (h1 : a1 < bs.length) :
    Calls Try.prog 20 #[.pointer (some ⟨g, 0, none⟩), .int .i64 a1, .int .u8 b1] w fun e w' => e = .returned (.int .i64 0) ∧ IsMem w0 w' g r0 (bs.set a1.toNat b1) ∧ Below w0.heap.size w0 w' ∧ KeepBut w w' r0 none := by
  have HI0 := Aside0.mk hI
  have HK := Aside0.mk (KeepBut.refl w r0 none)
  have HB := Aside0.mk hB
  have hcz_0 : w.cell? ⟨g, 0, none⟩ = some (.slice (some ⟨r0, 0, none⟩) bs.length bs.length) := (blk_cell hI.1 0).trans rfl
  have hcz_1 : w.cell? ⟨r0, a1.toNat, none⟩ = some (.int .u8 (rd bs (a1.toNat : Int))) := by rw [← add0]; exact hI.cell a1.toNat (by omega)
  have hfz_1 : w.frozen? ⟨r0, a1.toNat, none⟩ = false := blk_frozen hI.2.1 a1.toNat
  have c3b0 : decide (a1 < 0) = false := decide_eq_false (by omega)
  have c4b0 : decide ((bs.length : Int) ≤ a1) = false := decide_eq_false (by omega)
  have p1 : (0 ≤ a1) = True := eq_true h0
  have p2 : (a1 < (bs.length : Int)) = True := eq_true h1
  have hr := add0 r0 a1.toNat
  clear hI hB h0 h1
  go_enter Try.func20, Try.ntmps20
  go_wp2
  go_ret
  exact ⟨rfl, HI0.out.set_ _ _, below_set HB.out HI0.out.2.2.2.1, KeepBut.set_ HK.out _ _⟩
theorem SetByte_out (g r0 : Nat) (bs : List Int) (a1 b1 : Int) (w0 w : World) (hI : IsMem w0 w g r0 bs) (hB : Below w0.heap.size w0 w) (h : ¬ (0 ≤ a1 ∧ a1 < bs.length)) :
    Calls Try.prog 20 #[.pointer (some ⟨g, 0, none⟩), .int .i64 a1, .int .u8 b1] w fun e w' => e = .returned (.int .i64 2) ∧ IsMem w0 w' g r0 bs ∧ Below w0.heap.size w0 w' ∧ KeepBut w w' r0 none := by
  have HI0 := Aside0.mk hI
  have HK := Aside0.mk (KeepBut.refl w r0 none)
  have HB := Aside0.mk hB
  have hcz_0 : w.cell? ⟨g, 0, none⟩ = some (.slice (some ⟨r0, 0, none⟩) bs.length bs.length) := (blk_cell hI.1 0).trans rfl
  by_cases c : a1 < 0
  · have c3b0 : decide (a1 < 0) = true := decide_eq_true c
    clear hI hB h c
    go_enter Try.func20, Try.ntmps20
    go_wp2
    go_ret
    exact ⟨by rfl, HI0.out, HB.out, HK.out⟩
  · have c3b0 : decide (a1 < 0) = false := decide_eq_false c
    have c4b0 : decide ((bs.length : Int) ≤ a1) = true := decide_eq_true (by omega)
    clear hI hB h c
    go_enter Try.func20, Try.ntmps20
    go_wp2
    go_ret
    exact ⟨by rfl, HI0.out, HB.out, HK.out⟩
theorem keep_row {w w1 : World} {g r : Nat} (h : KeepBut w w1 g none) : KeepBut w w1 g (some r) := ⟨h.1, fun i hi hg _ => h.2 i hi hg (by simp)⟩
theorem add_i (r i j : Nat) : (⟨r, i, none⟩ : Addr).add j = ⟨r, i + j, none⟩ := by
  unfold Addr.add
  by_cases h0 : j = 0
  · simp [h0]
  · simp [h0]
theorem IsMem.cut {w0 W : World} {g r : Nat} {bs : List Int} (h : IsMem w0 W g r bs) (i n : Nat) : Kd.C (Kd.int .u8) W (some ⟨r, i, none⟩) ((bs.drop i).take n).length ((bs.drop i).take n) := by
  obtain ⟨_, h2, _, _, _, h5⟩ := h
  refine ⟨rfl, by simp; omega, fun _ => ⟨_, rfl, fun j p hj => ⟨[.int .u8 p], rfl, rfl, fun q u hu => ?_⟩⟩⟩
  cases q with
  | zero =>
    obtain rfl := Option.some.inj hu
    have e : ((⟨r, i, none⟩ : Addr).add (j * (Kd.int .u8).sz + 0)) = ⟨r, i + j, none⟩ := by
      show ((⟨r, i, none⟩ : Addr).add (j * 1 + 0)) = _
      rw [Nat.mul_one, Nat.add_zero, add_i]
    have hb : bs[i + j]? = some p := by
      have hlt : j < n := by have := (List.getElem?_eq_some_iff.1 hj).1; simp at this; omega
      rw [List.getElem?_take_of_lt hlt, List.getElem?_drop] at hj
      exact hj
    rw [e, blk_cell h2 (i + j), bytesC_get, hb]; rfl
  | succ q => simp at hu
theorem Word_in (g r0 : Nat) (bs : List Int) (a1 v : Int) (k : Nat) (w0 w : World) (hI : IsMem w0 w g r0 bs) (hB : Below w0.heap.size w0 w) (h0 : 0 ≤ a1) (h4 : Int.tmod a1 4 = 0) (h1 : a1 + 4 ≤ bs.length) (hv : field_Word.f k ((bs.drop a1.toNat).take 4) = some v) :
    Calls Try.prog 16 #[.pointer (some ⟨g, 0, none⟩), .int .i64 a1] w fun e w' => e = .returned (.tuple #[.int .u32 v, .int .i64 0]) ∧ IsMem w0 w' g r0 bs ∧ Below w0.heap.size w0 w' ∧ KeepBut w w' g (some r0) := by
  have hbad : mem_Memory_bad.f bs a1 = some 0 := by
    unfold mem_Memory_bad.f
    rw [if_pos h4, if_neg (by omega), if_neg (by omega)]
  have hlen := hI.2.2.2.2.2
  have p1 : (0 ≤ a1) = True := eq_true h0
  have p2 : (a1 ≤ (bs.length : Int)) = True := eq_true (by omega)
  have p3 : (a1 ≤ a1 + 4) = True := eq_true (by omega)
  have p4 : (a1 + 4 ≤ (bs.length : Int)) = True := eq_true h1
  have p5 : (0 ≤ a1 + 4) = True := eq_true (by omega)
  have w4 : wrap64 (a1 + 4) = a1 + 4 := by unfold wrap64; omega
  go_enter Try.func16, Try.ntmps16
  go_wp2_with fail
  refine (bad_calls g r0 bs a1 0 w0 w hI hB hbad).mono ?_
  rintro e1 w1 ⟨rfl, hI1, hB1, hK1⟩
  have hcz_0 : w1.cell? ⟨g, 0, none⟩ = some (.slice (some ⟨r0, 0, none⟩) bs.length bs.length) := (blk_cell hI1.1 0).trans rfl
  go_wp2_with fail
  have e4 : (a1 + 4).toNat - a1.toNat = ((bs.drop a1.toNat).take 4).length := by simp; omega
  rw [e4]
  refine (field_Word.calls k (some ⟨r0, a1.toNat, none⟩) (bs.length - a1.toNat) ((bs.drop a1.toNat).take 4) v w1 (hI1.cut a1.toNat 4) (by simp; omega) hv).mono ?_
  rintro e2 w2 ⟨rfl, hd2⟩
  have hb2 := hd2.below
  have hB2 : Below w0.heap.size w0 w2 := below_step hB1 hb2
  have hI2 := hI1.below hb2
  have hK2 : KeepBut w w2 g (some r0) := keep_row (hK1.trans (KeepBut.of_below hb2 g none) (.inl rfl))
  go_wp2
  go_ret2
  exact ⟨by first | rfl | (simp [*]; done), hI2, hB2, hK2⟩
/-- Why a word isn't there. -/
def whyW (n : Nat) (a : Int) : Int := if Int.tmod a 4 = 0 then (if a < 0 then 2 else if a ≥ (n : Int) then 2 else 0) else 3
theorem bad_val (bs : List Int) (a : Int) : mem_Memory_bad.f bs a = some (whyW bs.length a) := by
  unfold mem_Memory_bad.f whyW
  split <;> (try split) <;> (try split) <;> rfl
theorem Word_out (g r0 : Nat) (bs : List Int) (a1 : Int) (w0 w : World) (hI : IsMem w0 w g r0 bs) (hB : Below w0.heap.size w0 w) (h : whyW bs.length a1 ≠ 0) :
    Calls Try.prog 16 #[.pointer (some ⟨g, 0, none⟩), .int .i64 a1] w fun e w' => e = .returned (.tuple #[.int .u32 0, .int .i64 (whyW bs.length a1)]) ∧ IsMem w0 w' g r0 bs ∧ Below w0.heap.size w0 w' ∧ KeepBut w w' g (some r0) := by
  have hbad := bad_val bs a1
  generalize whyW bs.length a1 = t at *
  have c : (t != 0) = true := bne_iff_ne.mpr h
  clear h
  go_enter Try.func16, Try.ntmps16
  go_wp2_with fail
  refine (bad_calls g r0 bs a1 t w0 w hI hB hbad).mono ?_
  rintro e1 w1 ⟨rfl, hI1, hB1, hK1⟩
  go_wp2
  go_ret2
  exact ⟨by first | rfl | (simp [*]; done), hI1, hB1, keep_row hK1⟩
theorem SetWord_out (g r0 : Nat) (bs : List Int) (a1 x : Int) (w0 w : World) (hI : IsMem w0 w g r0 bs) (hB : Below w0.heap.size w0 w) (h : whyW bs.length a1 ≠ 0) :
    Calls Try.prog 13 #[.pointer (some ⟨g, 0, none⟩), .int .i64 a1, .int .u32 x] w fun e w' => e = .returned (.int .i64 (whyW bs.length a1)) ∧ IsMem w0 w' g r0 bs ∧ Below w0.heap.size w0 w' ∧ KeepBut w w' g (some r0) := by
  have hbad := bad_val bs a1
  generalize whyW bs.length a1 = t at *
  have c : (t == 0) = false := beq_eq_false_iff_ne.mpr h
  clear h
  go_enter Try.func13, Try.ntmps13
  go_wp2_with fail
  refine (bad_calls g r0 bs a1 t w0 w hI hB hbad).mono ?_
  rintro e1 w1 ⟨rfl, hI1, hB1, hK1⟩
  go_wp2
  go_ret
  exact ⟨by first | rfl | (simp [*]; done), hI1, hB1, keep_row hK1⟩
/-- A word's bytes. -/
def wb (x : Int) : List Int := [x % 256, x / 256 % 256, x / 65536 % 256, x / 16777216 % 256]
/-- copy over a part of a row, as one step of a region that draws. -/
theorem step_copy_own {P : Program} {ops : Array Oper} {o : Oper} {a : Act} {w : World} {K : Act → World → Prop} {Q : Exit → Act → World → Prop} {E : Prop} (hgd : o.guard = none) (d s : Operand) (dT sT : TypeId)
    (ho : o.op = .call { callee := .builtin .copy, args := #[d, s], argTypes := #[dT, sT] }) (elem : TypeId) (hu : P.underlying dT = some (.slice elem)) (hsz : (P.info? elem).map (·.size) = some 1)
    (g off dLen dCap : Nat) (ad : Addr) (sLen sCap : Nat) (hd : a.eval d = .slice (some ⟨g, off, none⟩) dLen dCap) (hs : a.eval s = .slice (some ad) sLen sCap)
    (cur : Array Value) (t : TypeId) (hg : w.heap[g]? = some (.cells cur t (0, 0))) (cs : List Value) (hn : cs.length = Nat.min sLen dLen)
    (hsrc : ∀ j v, cs[j]? = some v → w.cell? (ad.add j) = some v) (hfit : off + cs.length ≤ cur.size) (h1 : ∀ v ∈ cs, v.oneCell' = true)
    (h : K (a.put o.dst (goInt cs.length)) (w.setRow g (cur.toList.take off ++ (cs ++ cur.toList.drop (off + cs.length))).toArray)) :
    if Region.wanted o (yielded ops a.tmps) = true then Oper.wp P o a w K Q else E := by
  have hw : Region.wanted o (yielded ops a.tmps) = true := by simp [Region.wanted, hgd]
  rw [if_pos hw]
  have hrun := run_copy_row (P := P) w dT sT o.type elem g off dLen dCap ad sLen sCap cur t cs hu hsz hg hn hsrc hfit h1
  unfold Oper.wp
  simp [execOp, ho, resolve, invoke, builtin, hd, hs, hrun, Result.andThen]
  exact h
/-- The bytes with a word laid over them. -/
def setW (bs : List Int) (i : Nat) (x : Int) : List Int := bs.take i ++ (wb x ++ bs.drop (i + 4))
theorem setW_len (bs : List Int) (i : Nat) (x : Int) (h : i + 4 ≤ bs.length) : (setW bs i x).length = bs.length := by
  unfold setW wb
  simp
  omega
theorem IsMem.row {w0 W : World} {g r : Nat} {bs : List Int} (h : IsMem w0 W g r bs) (i : Nat) (x : Int) (hi : i + 4 ≤ bs.length) :
    IsMem w0 (W.setRow r ((bytesC bs).toList.take i ++ ((wb x).map (Value.int .u8) ++ (bytesC bs).toList.drop (i + ((wb x).map (Value.int .u8)).length))).toArray) g r (setW bs i x) := by
  obtain ⟨h1, h2, h3, h4, h5, h6⟩ := h
  refine ⟨?_, ?_, h3, h4, h5, by rw [setW_len bs i x hi]; exact h6⟩
  · rw [setW_len bs i x hi]
    exact (setRow_other W r g _ h5).trans h1
  · refine (setRow_heap W r _ _ 5 _ h2).trans ?_
    refine congrArg some ?_
    refine congrArg (fun c => Obj.cells c 5 (0, 0)) ?_
    unfold bytesC setW
    simp [List.map_append, List.map_take, List.map_drop, wb]
theorem bytes_val (x : Int) : field_Bytes.f x = some (wb x) := rfl
theorem wb_cells {w : World} {base : Nat} {v : Value} {x : Int} (h : Kd.R (Kd.int .u8) 5 w base (fun _ => True) v (wb x)) : ∃ ad c, v = .slice (some ad) 4 c ∧ ∀ j u, ((wb x).map (Value.int .u8))[j]? = some u → w.cell? (ad.add j) = some u := by
  obtain ⟨A, c, e, hl, hC⟩ := Kd.R_reads h
  obtain ⟨ad, rfl, hc⟩ := hC.2.2 (by show 0 < 4; decide)
  refine ⟨ad, c, e, fun j u hj => ?_⟩
  rw [List.getElem?_map] at hj
  cases hp : (wb x)[j]? with
  | none => rw [hp] at hj; cases hj
  | some p =>
    rw [hp] at hj
    obtain rfl := Option.some.inj hj
    obtain ⟨cs, _, rfl, hu⟩ := hc j p hp
    have := hu 0 (.int .u8 p) rfl
    rw [show j * (Kd.int .u8).sz + 0 = j from Nat.mul_one j] at this
    exact this
theorem setRow_keep {w w1 : World} {g r : Nat} (h : KeepBut w w1 g (some r)) (cs : Array Value) : KeepBut w (w1.setRow r cs) g (some r) :=
  ⟨by have := h.1; simp [World.setRow]; exact this, fun i hi hg hr => (setRow_other w1 r i cs (fun e => hr (by rw [e]))).trans (h.2 i hi hg hr)⟩
set_option maxRecDepth 100000 in
theorem SetWord_in (g r0 : Nat) (bs : List Int) (a1 x : Int) (w0 w : World) (hI : IsMem w0 w g r0 bs) (hB : Below w0.heap.size w0 w) (h0 : 0 ≤ a1) (h4 : Int.tmod a1 4 = 0) (h1 : a1 + 4 ≤ bs.length) :
    Calls Try.prog 13 #[.pointer (some ⟨g, 0, none⟩), .int .i64 a1, .int .u32 x] w fun e w' => e = .returned (.int .i64 0) ∧ IsMem w0 w' g r0 (setW bs a1.toNat x) ∧ Below w0.heap.size w0 w' ∧ KeepBut w w' g (some r0) := by
  have hbad : mem_Memory_bad.f bs a1 = some 0 := by
    unfold mem_Memory_bad.f
    rw [if_pos h4, if_neg (by omega), if_neg (by omega)]
  have hlen := hI.2.2.2.2.2
  have p1 : (0 ≤ a1) = True := eq_true h0
  have p2 : (a1 ≤ (bs.length : Int)) = True := eq_true (by omega)
  have p3 : ¬ bs.length = a1.toNat := by omega
  have hmin : ((wb x).map (Value.int .u8)).length = Nat.min 4 (bs.length - a1.toNat) := (Nat.min_eq_left (show 4 ≤ bs.length - a1.toNat by omega)).symm
  go_enter Try.func13, Try.ntmps13
  go_wp2_with fail
  refine (bad_calls g r0 bs a1 0 w0 w hI hB hbad).mono ?_
  rintro e1 w1 ⟨rfl, hI1, hB1, hK1⟩
  have hcz_0 : w1.cell? ⟨g, 0, none⟩ = some (.slice (some ⟨r0, 0, none⟩) bs.length bs.length) := (blk_cell hI1.1 0).trans rfl
  have hI1' := Aside0.mk hI1
  have hB1' := Aside0.mk hB1
  have hK1' := Aside0.mk (keep_row (r := r0) hK1)
  clear hI1 hB1 hK1
  go_wp2_with fail
  go_region_law (first
    | (go_simp; go_at_call 61; refine (field_Bytes.calls x (wb x) _ (bytes_val x)).mono ?_; rintro e2 w2 ⟨v0, rfl, hR2, hb2⟩; have hI2 := Aside0.mk (hI1'.out.drew.below hb2); have hB2 := Aside0.mk (below_step (below_drew1 hB1'.out) hb2); have hK2 := Aside0.mk ((keep_drew hK1'.out).trans (KeepBut.of_below hb2 g (some r0)) (.inl rfl)); obtain ⟨ad, c, rfl, hs2⟩ := wb_cells hR2; have hs := Aside0.mk hs2; have hcy_0 : w2.cell? ⟨g, 0, none⟩ = some (.slice (some ⟨r0, 0, none⟩) bs.length bs.length) := (blk_cell hI2.out.1 0).trans rfl; clear hR2 hs2 hb2)
    | (refine step_copy_own rfl (.tmp 18) (.tmp 20) 34 34 rfl 5 Try.underlying34 (by kernel_rfl) r0 a1.toNat (bs.length - a1.toNat) (bs.length - a1.toNat) ad 4 c (by simp [Act.eval, Act.put]) (by simp [Act.eval, Act.put]) (bytesC bs) 5 hI2.out.2.1 ((wb x).map (Value.int .u8)) hmin hs.out (by simp [wb, bytesC]; omega) (by simp [wb, Value.oneCell']) ?_; generalize hw3 : World.setRow w2 r0 _ = w3; have hw := Aside0.mk hw3; clear hw3))
  all_goals (
    have hI3 := Aside0.mk (show IsMem w0 w3 g r0 (setW bs a1.toNat x) by rw [← hw.out]; exact hI2.out.row a1.toNat x (by omega))
    have hB3 := Aside0.mk (show Below w0.heap.size w0 w3 by rw [← hw.out]; exact below_setRow hB2.out hI2.out.2.2.2.1 _)
    have hK3 := Aside0.mk (show KeepBut w w3 g (some r0) by rw [← hw.out]; exact setRow_keep hK2.out _)
    clear hw
    go_wp2
    go_ret
    exact ⟨by first | rfl | (simp [*]; done), hI3.out, hB3.out, hK3.out⟩)
theorem made_row (m : Nat) : madeCells (Value.int .u8 0).cells (m * 1) = bytesC (List.replicate m 0) := by
  refine Array.ext' ?_
  refine (toList_madeCells_one (.int .u8 0) (m * 1)).trans ?_
  unfold bytesC
  simp
theorem info5' : (Try.prog.info? 5).map (fun i => (i.zero, i.size, i.bytes)) = some (some (.int .u8 0), 1, 1) := by kernel_rfl
theorem make_bytes {ops : Array Oper} {rest : List Oper} {o : Oper} {a : Act} {W : World} {Q : Exit → Act → World → Prop} (hgd : o.guard = none) (x y : Operand) (ho : o.op = .makeSlice 34 x y) (m : Nat) (hx : a.eval x = .int .i64 (m : Int)) (hy : a.eval y = .int .i64 (m : Int)) (hm : m ≤ 1000000)
    (h : wpList Try.prog ops Q rest (a.put o.dst (.slice (some ⟨W.heap.size, 0, none⟩) m m)) (W.alloc (.cells (bytesC (List.replicate m 0)) 5))) : wpList Try.prog ops Q (o :: rest) a W := by
  obtain ⟨i0, hi, hzz⟩ := Option.map_eq_some_iff.1 info5'
  simp only [Prod.mk.injEq] at hzz
  obtain ⟨hz0, hz1, hz2⟩ := hzz
  have hr := run_make (P := Try.prog) W 34 5 i0 (.int .u8 0) Try.underlying34 hi hz0 .i64 .i64 (m : Int) (m : Int) (by omega) (by omega) (by rw [hz2]; omega) (by omega)
  simp only [Int.toNat_natCast] at hr
  rw [hz1, made_row] at hr
  refine wpList_plain hgd fun K hK => ?_
  unfold Oper.wp
  simp [execOp, ho, hx, hy, hr]
  exact hK _ _ h
theorem New_ok (m : Nat) (w : World) (h0 : 1024 ≤ m) (h1 : m ≤ 65536) (h4 : Int.tmod (m : Int) 4 = 0) :
    Calls Try.prog 12 #[.int .i64 (m : Int)] w fun e w' => e = .returned (.tuple #[.pointer (some ⟨w.heap.size + 1, 0, none⟩), .nilIface]) ∧ IsMem w w' (w.heap.size + 1) w.heap.size (List.replicate m 0) ∧ Below w.heap.size w w' := by
  have c1 : decide ((m : Int) < 1024) = false := decide_eq_false (by omega)
  have c2 : decide (65536 < (m : Int)) = false := decide_eq_false (by omega)
  have c3 : (Int.tmod (m : Int) 4 != 0) = false := by simp [h4]
  have hI : IsMem w ((w.alloc (.cells (bytesC (List.replicate m 0)) 5)).alloc (.cells #[.slice (some ⟨w.heap.size, 0, none⟩) m m] 113)) (w.heap.size + 1) w.heap.size (List.replicate m 0) := by
    have e1 : (w.alloc (.cells (bytesC (List.replicate m 0)) 5)).heap.size = w.heap.size + 1 := by show (w.heap.push _).size = _; exact Array.size_push _
    have hn : w.heap.size + 1 ≠ w.heap.size := by omega
    refine ⟨?_, ?_, Nat.le_succ _, Nat.le_refl _, hn, by simp; omega⟩
    · have h := get_alloc (w.alloc (.cells (bytesC (List.replicate m 0)) 5)) (.cells #[.slice (some ⟨w.heap.size, 0, none⟩) m m] 113) (w.heap.size + 1)
      rw [e1, if_pos rfl] at h
      rw [List.length_replicate]
      exact h
    · show blk _ _ = _
      rw [get_alloc, if_neg (by rw [e1]; omega), get_alloc, if_pos rfl]
  have hI' := Aside0.mk hI
  have hB' := Aside0.mk (below_alloc (below_alloc (Below.refl w.heap.size w) (.cells (bytesC (List.replicate m 0)) 5)) (.cells #[.slice (some ⟨w.heap.size, 0, none⟩) m m] 113))
  clear hI
  go_enter Try.func12, Try.ntmps12
  go_wp2_with (refine make_bytes rfl (.tmp 16) (.tmp 16) rfl m rfl rfl (by omega) ?_)
  go_ret2
  exact ⟨by rfl, hI'.out, hB'.out⟩
theorem New_bad (n : Int) (w : World) (h : ¬ (1024 ≤ n ∧ n ≤ 65536 ∧ Int.tmod n 4 = 0)) :
    Calls Try.prog 12 #[.int .i64 n] w fun e w' => e = .returned (.tuple #[.pointer none, .iface 39 (.int .i64 1)]) ∧ Below w.heap.size w w' := by
  have HB := Aside0.mk (Below.refl w.heap.size w)
  by_cases c : n < 1024
  · have c1 : decide (n < 1024) = true := decide_eq_true c
    clear h c
    go_enter Try.func12, Try.ntmps12
    go_wp2
    go_ret2
    exact ⟨by rfl, HB.out⟩
  · have c1 : decide (n < 1024) = false := decide_eq_false c
    by_cases d : 65536 < n
    · have c2 : decide (65536 < n) = true := decide_eq_true d
      clear h c d
      go_enter Try.func12, Try.ntmps12
      go_wp2
      go_ret2
      exact ⟨by rfl, HB.out⟩
    · have c2 : decide (65536 < n) = false := decide_eq_false d
      have c3 : (Int.tmod n 4 != 0) = true := bne_iff_ne.mpr (fun e => h ⟨by omega, by omega, e⟩)
      clear h c d
      go_enter Try.func12, Try.ntmps12
      go_wp2
      go_ret2
      exact ⟨by rfl, HB.out⟩
theorem clone_val (l : List Int) (h : l.length ≤ 1000000) : slices_Clone_byte_byte.f l = some l := by
  unfold slices_Clone_byte_byte.f
  rw [Option.bind_some, if_pos (by simp; omega)]
  simp
theorem Bytes_none (g r0 : Nat) (bs : List Int) (a b i j : Int) (w0 w : World) (hI : IsMem w0 w g r0 bs) (hB : Below w0.heap.size w0 w) (hi : (if a < 0 then 0 else a) = i) (hj : (if (bs.length : Int) < b then (bs.length : Int) else b) = j) (h : j ≤ i) :
    Calls Try.prog 15 #[.pointer (some ⟨g, 0, none⟩), .int .i64 a, .int .i64 b] w fun e w' => e = .returned (.slice none 0 0) ∧ IsMem w0 w' g r0 bs ∧ Below w0.heap.size w0 w' ∧ KeepBut w w' g (some r0) := by
  have HI0 := Aside0.mk hI
  have HK := Aside0.mk (KeepBut.refl w g (some r0))
  have HB := Aside0.mk hB
  have hcz_0 : w.cell? ⟨g, 0, none⟩ = some (.slice (some ⟨r0, 0, none⟩) bs.length bs.length) := (blk_cell hI.1 0).trans rfl
  have c : decide (j ≤ i) = true := decide_eq_true h
  clear hI hB h
  go_enter Try.func15, Try.ntmps15
  go_wp2_with fail
  go_region
  go_wp2
  go_ret
  exact ⟨by rfl, HI0.out.drew, below_drew1 HB.out, keep_drew HK.out⟩
theorem Bytes_some (g r0 : Nat) (bs : List Int) (a b i j : Int) (w0 w : World) (hI : IsMem w0 w g r0 bs) (hB : Below w0.heap.size w0 w) (hi : (if a < 0 then 0 else a) = i) (hj : (if (bs.length : Int) < b then (bs.length : Int) else b) = j) (h : i < j) :
    Calls Try.prog 15 #[.pointer (some ⟨g, 0, none⟩), .int .i64 a, .int .i64 b] w fun e w' => ∃ v0, e = .returned v0 ∧ Kd.R (Kd.int .u8) 5 w' w.heap.size (fun _ => True) v0 ((bs.drop i.toNat).take (j.toNat - i.toNat)) ∧ IsMem w0 w' g r0 bs ∧ Below w0.heap.size w0 w' ∧ KeepBut w w' g (some r0) := by
  have hi0 : 0 ≤ i := by subst hi; split <;> omega
  have hj0 : j ≤ bs.length := by subst hj; split <;> omega
  have hlen := hI.2.2.2.2.2
  have HI0 := Aside0.mk hI
  have HK := Aside0.mk (KeepBut.refl w g (some r0))
  have HB := Aside0.mk hB
  have hcz_0 : w.cell? ⟨g, 0, none⟩ = some (.slice (some ⟨r0, 0, none⟩) bs.length bs.length) := (blk_cell hI.1 0).trans rfl
  have c : decide (j ≤ i) = false := decide_eq_false (by omega)
  have p1 : (0 ≤ i) = True := eq_true hi0
  have p2 : (i ≤ j) = True := eq_true (by omega)
  have p3 : (j ≤ (bs.length : Int)) = True := eq_true hj0
  have p4 : (0 ≤ j) = True := eq_true (by omega)
  have p5 : ¬ bs.length = i.toNat := by omega
  clear hI hB
  go_enter Try.func15, Try.ntmps15
  go_wp2_with fail
  go_region
  go_wp2_with fail
  have e4 : j.toNat - i.toNat = ((bs.drop i.toNat).take (j.toNat - i.toNat)).length := by simp; omega
  have hcut := HI0.out.drew.cut i.toNat (j.toNat - i.toNat)
  have hcl := clone_val ((bs.drop i.toNat).take (j.toNat - i.toNat)) (by simp; omega)
  have hle : ((bs.drop i.toNat).take (j.toNat - i.toNat)).length ≤ bs.length - i.toNat := by simp; omega
  generalize hL : (bs.drop i.toNat).take (j.toNat - i.toNat) = L at *
  have hL' := Aside0.mk hL
  clear hL
  rw [e4]
  refine (slices_Clone_byte_byte.calls (some ⟨r0, i.toNat, none⟩) (bs.length - i.toNat) L L _ hcut hle hcl).mono ?_
  rintro e2 w2 ⟨v0, rfl, hR, hb2⟩
  have hR' := Aside0.mk hR
  have hI2 := Aside0.mk (HI0.out.drew.below hb2)
  have hB2 := Aside0.mk (below_step (below_drew1 HB.out) hb2)
  have hK2 := Aside0.mk ((keep_drew HK.out).trans (KeepBut.of_below hb2 g (some r0)) (.inl rfl))
  clear hR hb2 hcut hcl hle e4
  go_wp2
  go_ret
  exact ⟨v0, by rfl, by rw [hL'.out]; exact hR'.out, hI2.out, hB2.out, hK2.out⟩
attribute [local go_sem] Go.Proofs.Ytkeijpngfnmjoaa.MineErr.eql_err Go.Proofs.Ytkeijpngfnmjoaa.MineErr.neq_err Go.Proofs.Ytkeijpngfnmjoaa.MineErr.eql_nil_err Go.Proofs.Ytkeijpngfnmjoaa.MineErr.neq_nil_err
theorem up_byte : mem_Memory_Byte.f (setW (List.replicate 1024 0) 4 258) 5 = some (1, 0) := by decide +kernel
theorem up_len : (setW (List.replicate 1024 0) 4 258).length = 1024 := by rw [setW_len _ _ _ (by rw [List.length_replicate]; decide), List.length_replicate]
theorem up_why2 : whyW (setW (List.replicate 1024 0) 4 258).length 2 = 3 := by rw [up_len]; rfl
theorem up_why3 : whyW (setW (List.replicate 1024 0) 4 258).length 1024 = 2 := by rw [up_len]; rfl
theorem up_size : mem_Memory_Size.f (setW (List.replicate 1024 0) 4 258) = some 1024 := by unfold mem_Memory_Size.f; rw [up_len]; rfl
theorem up_calls (w : World) : Calls Try.prog 11 #[] w fun e w' => e = .returned (.bool true) ∧ Below w.heap.size w w' := by
  go_enter Try.func11, Try.ntmps11
  go_wp2_with fail
  refine (New_ok 1024 w (by decide) (by decide) (by decide)).mono ?_
  rintro e1 w1 ⟨rfl, hI1, hB1⟩
  have HI1 := Aside0.mk hI1
  have HB1 := Aside0.mk hB1
  clear hI1 hB1
  go_wp2_with fail
  refine (New_bad 1020 _ (by decide)).mono ?_
  rintro e2 w2 ⟨rfl, hb2⟩
  have HI2 := Aside0.mk (HI1.out.below hb2)
  have HB2 := Aside0.mk (below_step HB1.out hb2)
  clear hb2 HI1 HB1
  go_wp2_with fail
  refine (SetWord_in _ _ _ 4 258 w w2 HI2.out HB2.out (by decide) (by decide) (by rw [List.length_replicate]; decide)).mono ?_
  rintro e3 w3 ⟨rfl, hI3, hB3, _⟩
  have HI3 := Aside0.mk (show IsMem w w3 (w.heap.size + 1) w.heap.size (setW (List.replicate 1024 0) 4 258) from hI3)
  have HB3 := Aside0.mk hB3
  clear hI3 hB3 HI2 HB2
  go_wp2_with fail
  refine (Byte_calls _ _ _ 5 1 0 w w3 HI3.out HB3.out up_byte).mono ?_
  rintro e4 w4 ⟨rfl, hI4, hB4, _⟩
  have HI4 := Aside0.mk hI4
  have HB4 := Aside0.mk hB4
  clear hI4 hB4 HI3 HB3
  go_wp2_with fail
  refine (Word_out _ _ _ 2 w w4 HI4.out HB4.out (by rw [up_why2]; decide)).mono ?_
  rw [up_why2]
  rintro e5 w5 ⟨rfl, hI5, hB5, _⟩
  have HI5 := Aside0.mk hI5
  have HB5 := Aside0.mk hB5
  clear hI5 hB5 HI4 HB4
  go_wp2_with fail
  refine (Word_out _ _ _ 1024 w w5 HI5.out HB5.out (by rw [up_why3]; decide)).mono ?_
  rw [up_why3]
  rintro e6 w6 ⟨rfl, hI6, hB6, _⟩
  have HI6 := Aside0.mk hI6
  have HB6 := Aside0.mk hB6
  clear hI6 hB6 HI5 HB5
  go_wp2_with fail
  refine (Size_calls _ _ _ 1024 w w6 HI6.out HB6.out up_size).mono ?_
  rintro e7 w7 ⟨rfl, _, hB7, _⟩
  have HB7 := Aside0.mk hB7
  clear hB7 HI6 HB6
  go_wp2
  go_ret
  exact ⟨by rfl, HB7.out⟩
end Go.Proofs.Ytkeijpngfnmjoaa.MineMem
