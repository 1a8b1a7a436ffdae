/- Heap: making one, taking a block. Conditions: the numbers are as told. -/
import Derived.Test.YtkeijpngfnmjoaaMineHeapA
import Derived.Test.YtkeijpngfnmjoaaQHeapPlaysx2
namespace Go.Proofs.Ytkeijpngfnmjoaa.MineHeap
open Go.RowKit Go.MapKept Go.Proofs.YtkeijpngfnmjoaaW.PrintWords Go.Proofs.YtkeijpngfnmjoaaW.PrintLast Go.Proofs.Ytkeijpngfnmjoaa.MineBase Go.Proofs.Ytkeijpngfnmjoaa.MineSep Go.Proofs.Ytkeijpngfnmjoaa.MineRows Go.Proofs.Ytkeijpngfnmjoaa.MineGen
set_option linter.unusedVariables false
set_option linter.unusedSimpArgs false
/-- The error's number, or none. -/
def errV : Option Int → Value
  | none => .nilIface
  | some c => .iface 39 (.int .i64 c)
/-- Whole words. -/
def wh (n : Int) : Int := (n + 3) / 4 * 4
theorem wh_spec {n : Int} (h : 1 ≤ n) : 0 < wh n ∧ wh n % 4 = 0 ∧ n ≤ wh n ∧ wh n < n + 4 := by unfold wh; omega
theorem whole_calls (n : Int) (h0 : 1 ≤ n) (h1 : n ≤ 65536) (w : World) : Calls Try.prog 64 #[.int .i64 n] w fun e w' => e = .returned (.int .i64 (wh n)) ∧ Drawn0 w w' := by
  refine Go.Proofs.Ytkeijpngfnmjoaa.QHeapPlays.heap_whole.calls n (wh n) w ?_
  unfold Go.Proofs.Ytkeijpngfnmjoaa.QHeapPlays.heap_whole.f wh
  refine congrArg some ?_
  rw [show wrap64 (n + 4) = n + 4 by unfold wrap64; omega, show n + 4 - 1 = n + 3 by omega, show wrap64 (n + 3) = n + 3 by unfold wrap64; omega, Int.tdiv_eq_ediv_of_nonneg (by omega), show wrap64 ((n + 3) / 4) = (n + 3) / 4 by unfold wrap64; omega]
  unfold wrap64; omega
theorem k2_lit (W : World) (base : Nat) (p : Int × Int) (hb : base ≤ W.heap.size) : Kd.N k2 118 (W.alloc (.cells #[.int .i64 p.1, .int .i64 p.2] 118)) base (fun k => k = W.heap.size) (.slice (some ⟨W.heap.size, 0, none⟩) 1 1) [p] := by
  have hr : Reps (k2.M (W.alloc (.cells #[.int .i64 p.1, .int .i64 p.2] 118)) base (fun k => k = W.heap.size ∧ some k ≠ (Value.slice (some ⟨W.heap.size, 0, none⟩) 1 1).ownBlock)) k2.sz [p] [.int .i64 p.1, .int .i64 p.2] :=
    (Reps.none _ _).snoc (ps := []) (cs := []) ⟨[.int .i64 p.1], [.int .i64 p.2], rfl, rfl, rfl⟩ rfl
  exact Kd.R_N ⟨fun k hk => by simpa [Value.ownBlock] using hk.symm, OwnRow.lit (e := 118) W base hr hb (by simp)⟩
/-- May a heap be of these? -/
def heapOk (lo hi : Int) : Prop := 0 ≤ lo ∧ hi ≤ 65536 ∧ lo ≤ hi ∧ lo % 4 = 0 ∧ hi % 4 = 0
instance (lo hi : Int) : Decidable (heapOk lo hi) := by unfold heapOk; infer_instance
/-- What is free at first. -/
def firstL (lo hi : Int) : Hs := if lo < hi then [(lo, hi - lo)] else []
theorem first_norm {lo hi : Int} (h : heapOk lo hi) : Norm lo hi (firstL lo hi) := by
  obtain ⟨h1, h2, h3, h4, h5⟩ := h
  unfold firstL
  split
  · exact ⟨Int.le_refl _, h4, by omega, by omega, by omega, trivial⟩
  · trivial
set_option maxHeartbeats 1000000 in
set_option maxRecDepth 100000 in
theorem New_bad (lo hi : Int) (h : ¬ heapOk lo hi) (w : World) : Calls Try.prog 22 #[.int .i64 lo, .int .i64 hi] w fun e w' => e = .returned (.tuple #[.pointer none, errV (some 1)]) ∧ Drawn0 w w' := by
  by_cases h1 : lo < 0
  · have d1 : decide (lo < 0) = true := decide_eq_true h1
    clear h
    go_enter Try.func22, Try.ntmps22
    go_wp2
    go_ret2
    exact ⟨by rfl, Drawn0.refl _⟩
  have d1 : decide (lo < 0) = false := decide_eq_false h1
  by_cases h2 : 65536 < hi
  · have d2 : decide (65536 < hi) = true := decide_eq_true h2
    clear h
    go_enter Try.func22, Try.ntmps22
    go_wp2
    go_ret2
    exact ⟨by rfl, Drawn0.refl _⟩
  have d2 : decide (65536 < hi) = false := decide_eq_false h2
  by_cases h3 : hi < lo
  · have d3 : decide (hi < lo) = true := decide_eq_true h3
    clear h
    go_enter Try.func22, Try.ntmps22
    go_wp2
    go_ret2
    exact ⟨by rfl, Drawn0.refl _⟩
  have d3 : decide (hi < lo) = false := decide_eq_false h3
  have p1 : 0 ≤ lo := by omega
  have p2 : 0 ≤ hi := by omega
  have p3 : lo ≤ 65536 := by omega
  have p4 : hi ≤ 65536 := by omega
  by_cases h4 : lo % 4 = 0
  · have h5 : ¬ hi % 4 = 0 := fun h5 => h ⟨by omega, by omega, by omega, h4, h5⟩
    have d4 : (lo % 4 == 0) = true := by simpa using h4
    have d5 : (hi % 4 == 0) = false := by simpa using h5
    clear h h1 h2 h3
    go_enter Try.func22, Try.ntmps22
    go_wp2
    go_ret2
    exact ⟨by rfl, Drawn0.refl _⟩
  · have d4 : (lo % 4 == 0) = false := by simpa using h4
    clear h h1 h2 h3
    go_enter Try.func22, Try.ntmps22
    go_wp2
    go_ret2
    exact ⟨by rfl, Drawn0.refl _⟩
set_option maxHeartbeats 1000000 in
set_option maxRecDepth 100000 in
theorem New_good {w0 w : World} {l : List Asn} (HS : Sat w0 w l) (lo hi : Int) (h : heapOk lo hi) : Calls Try.prog 22 #[.int .i64 lo, .int .i64 hi] w fun e w' => ∃ g, e = .returned (.tuple #[.pointer (some ⟨g, 0, none⟩), errV none]) ∧ Sat w0 w' (AHeap lo hi w0.heap.size g (firstL lo hi) :: l) := by
  obtain ⟨h1, h2, h3, h4, h5⟩ := h
  have d1 : decide (lo < 0) = false := decide_eq_false (by omega)
  have d2 : decide (65536 < hi) = false := decide_eq_false (by omega)
  have d3 : decide (hi < lo) = false := decide_eq_false (by omega)
  have d4 : (lo % 4 == 0) = true := by simpa using h4
  have d5 : (hi % 4 == 0) = true := by simpa using h5
  have p2 : 0 ≤ hi := by omega
  have p3 : lo ≤ 65536 := by omega
  replace HS := Aside0.mk HS
  by_cases hlt : lo < hi
  · have d6 : decide (lo < hi) = true := decide_eq_true hlt
    have HE := Aside0.mk (show firstL lo hi = [(lo, hi - lo)] by unfold firstL; rw [if_pos hlt])
    go_enter Try.func22, Try.ntmps22
    go_wp2
    go_ret2
    refine ⟨_, by rfl, ?_⟩
    rw [HE.out]
    refine box_new (v := .slice (some ⟨w.heap.size + 1, 0, none⟩) 1 1) (ok := fun k => k = w.heap.size + 1) HS.out (below_alloc (below_alloc (Below.refl _ _) _) _) ?_ (Nat.le_refl _) ?_ (fun k hk => by omega)
    · exact blk_alloc (heap_alloc_new w _) _
    · have h := k2_lit (w.alloc (.cells #[.int .i64 lo, .int .i64 hi, .slice (some ⟨w.heap.size + 1, 0, none⟩) 1 1] 116)) w.heap.size (lo, hi - lo) (by simp)
      have e : (w.alloc (.cells #[.int .i64 lo, .int .i64 hi, .slice (some ⟨w.heap.size + 1, 0, none⟩) 1 1] 116)).heap.size = w.heap.size + 1 := by simp
      rw [e] at h
      exact h
  · have d6 : decide (lo < hi) = false := decide_eq_false hlt
    have HE := Aside0.mk (show firstL lo hi = [] by unfold firstL; rw [if_neg hlt])
    go_enter Try.func22, Try.ntmps22
    go_wp2
    go_ret2
    refine ⟨_, by rfl, ?_⟩
    rw [HE.out]
    exact box_new HS.out (below_alloc (Below.refl _ _) _) (heap_alloc_new w _) (Nat.le_refl _) (Kd.N_nil _ _ _ _ (fun k => False)) (fun _ h => h.elim)
/-! ### taking a block -/
/-- May so much be taken, or given? -/
def sizeOk (n : Int) : Prop := 1 ≤ n ∧ n ≤ 65536
instance (n : Int) : Decidable (sizeOk n) := by unfold sizeOk; infer_instance
set_option maxHeartbeats 1000000 in
set_option maxRecDepth 100000 in
theorem Take_bad (g : Nat) (n : Int) (h : ¬ sizeOk n) (w : World) : Calls Try.prog 27 #[.pointer (some ⟨g, 0, none⟩), .int .i64 n] w fun e w' => e = .returned (.tuple #[.int .i64 0, errV (some 1)]) ∧ Drawn0 w w' := by
  by_cases h1 : n < 1
  · have d1 : decide (n < 1) = true := decide_eq_true h1
    clear h
    go_enter Try.func27, Try.ntmps27
    go_wp2
    go_ret2
    exact ⟨by rfl, Drawn0.refl _⟩
  · have d1 : decide (n < 1) = false := decide_eq_false h1
    have h2 : 65536 < n := by unfold sizeOk at h; omega
    have d2 : decide (65536 < n) = true := decide_eq_true h2
    clear h
    go_enter Try.func27, Try.ntmps27
    go_wp2
    go_ret2
    exact ⟨by rfl, Drawn0.refl _⟩
theorem heap_open {w0 w : World} {l : List Asn} {lo hi : Int} {g : Nat} {L : Hs} (h : Sat w0 w (AHeap lo hi w0.heap.size g L :: l)) :
    ∃ A c, w.heap[g]? = some (.cells #[.int .i64 lo, .int .i64 hi, .slice A L.length c] 116 (0, 0)) ∧ L.length ≤ c ∧ k2.C w A L.length L := box_read h
set_option maxHeartbeats 1000000 in
set_option maxRecDepth 100000 in
theorem Take_none {w0 w : World} {l : List Asn} {lo hi : Int} {g : Nat} {L : Hs} (HS : Sat w0 w (AHeap lo hi w0.heap.size g L :: l)) (n : Int) (h : sizeOk n) (hL : L.length ≤ 1000) (hf : fitI L (wh n) < 0) :
    Calls Try.prog 27 #[.pointer (some ⟨g, 0, none⟩), .int .i64 n] w fun e w' => e = .returned (.tuple #[.int .i64 0, errV (some 9)]) ∧ Below w.heap.size w w' := by
  obtain ⟨A, c, hg, hlc, hC⟩ := heap_open HS
  have d1 : decide (n < 1) = false := decide_eq_false (by unfold sizeOk at h; omega)
  have d2 : decide (65536 < n) = false := decide_eq_false (by unfold sizeOk at h; omega)
  have HH := Aside0.mk h
  have HC := Aside0.mk hC
  have HG := Aside0.mk hg
  have d3 : decide (fitI L (wh n) < 0) = true := decide_eq_true hf
  clear HS h hC hg hlc hf
  go_enter Try.func27, Try.ntmps27
  go_wp2_with fail
  have hq := whole_calls n HH.out.1 HH.out.2 w
  (with_reducible refine hq.mono ?_)
  clear hq
  rintro e1 w1 ⟨rfl, hd⟩
  have HB1 := Aside0.mk hd.below
  clear hd
  have c2 : (w1.alloc (.cells #[.int .i64 (wh n)] 3)).cell? ⟨g, 2, none⟩ = some (.slice A L.length c) := get_cell (blk_alloc (blk_below HG.out HB1.out) _) 2
  go_wp2_with fail
  have hq := Index_calls A c L w1.heap.size (wh n) (w1.alloc (.cells #[.int .i64 (wh n)] 3)) (Kd.C_alloc (Kd.C_below HC.out HB1.out) _) hL (get_cell (heap_alloc_new w1 _) 0)
  (with_reducible refine hq.mono ?_)
  clear hq
  rintro e2 w2 ⟨rfl, hb2⟩
  have HB2 := Aside0.mk (below_step (below_alloc HB1.out _) hb2)
  clear hb2
  go_wp2_with fail
  go_ret2
  exact ⟨by rfl, HB2.out⟩
set_option maxHeartbeats 2000000 in
set_option maxRecDepth 100000 in
theorem Take_some {w0 w : World} {l : List Asn} {lo hi : Int} {g : Nat} {L1 L2 : Hs} {p : Int × Int} (HS : Sat w0 w (AHeap lo hi w0.heap.size g (L1 ++ p :: L2) :: l)) (n : Int) (h : sizeOk n) (hL : (L1 ++ p :: L2).length ≤ 1000) (hf : fitI (L1 ++ p :: L2) (wh n) = L1.length) (hp : wh n ≤ p.2) (h1 : 0 ≤ p.1) (h2 : p.1 + p.2 ≤ 65536) :
    Calls Try.prog 27 #[.pointer (some ⟨g, 0, none⟩), .int .i64 n] w fun e w' => e = .returned (.tuple #[.int .i64 p.1, errV none]) ∧ Sat w0 w' (AHeap lo hi w0.heap.size g (L1 ++ (cutP p (wh n) ++ L2)) :: l) := by
  have hwn := wh_spec h.1
  have d1 : decide (n < 1) = false := decide_eq_false (by unfold sizeOk at h; omega)
  have d2 : decide (65536 < n) = false := decide_eq_false (by unfold sizeOk at h; omega)
  have HH := Aside0.mk h
  obtain ⟨k, hk⟩ : ∃ k, k = L1.length := ⟨_, rfl⟩
  obtain ⟨L, hLL⟩ : ∃ L, L = L1 ++ p :: L2 := ⟨_, rfl⟩
  have hget : L[k]? = some p := by rw [hLL, hk]; simp
  have hkl : k < L.length := (List.getElem?_eq_some_iff.1 hget).1
  have HGET := Aside0.mk (And.intro hget (And.intro hLL hk))
  rw [← hLL] at HS hL hf
  rw [← hk] at hf
  replace HS := Aside0.mk HS
  have HWN := Aside0.mk (And.intro hwn (And.intro hp (And.intro h1 (And.intro h2 (And.intro hkl hL)))))
  have HF := Aside0.mk hf
  clear h hwn hp h1 h2 hget hLL hk hkl hf
  obtain ⟨A, c, hg, hlc, hC⟩ := heap_open HS.out
  have HC := Aside0.mk hC
  have HG := Aside0.mk hg
  clear hg hlc hC
  go_enter Try.func27, Try.ntmps27
  go_wp2_with fail
  have hq := whole_calls n HH.out.1 HH.out.2 w
  (with_reducible refine hq.mono ?_)
  clear hq
  rintro e1 w1 ⟨rfl, hd⟩
  have HB1 := Aside0.mk hd.below
  have HS1 := Aside0.mk (blk_new (HS.out.drawn hd) (.cells #[.int .i64 (wh n)] 3)).swap
  clear hd
  have c2 : (w1.alloc (.cells #[.int .i64 (wh n)] 3)).cell? ⟨g, 2, none⟩ = some (.slice A L.length c) := get_cell (blk_alloc (blk_below HG.out HB1.out) _) 2
  go_wp2_with fail
  have hq := Index_calls A c L w1.heap.size (wh n) (w1.alloc (.cells #[.int .i64 (wh n)] 3)) (Kd.C_alloc (Kd.C_below HC.out HB1.out) _) hL (get_cell (heap_alloc_new w1 _) 0)
  (with_reducible refine hq.mono ?_)
  clear hq
  rintro e2 w2 ⟨rfl, hb2⟩
  have HS2 := Aside0.mk (HS1.out.below hb2)
  rw [HF.out]
  obtain ⟨b, hb⟩ : ∃ b, b = w1.heap.size := ⟨_, rfl⟩
  rw [← hb] at HS2 ⊢
  clear hb2 HB1 HS1 c2 HC HG HS hb HF
  obtain ⟨g3, c3, hg, hlc, hgg, hgl, x0, x1, f0, f1, hs0, hs1⟩ := box_k2 HS2.out HGET.out.1
  have y0 : w2.cell? ⟨g, 2, none⟩ = some (.slice (some ⟨g3, 0, none⟩) L.length c3) := get_cell hg 2
  have hbb := blk_at HS2.out.swap
  have y1 : w2.cell? ⟨b, 0, none⟩ = some (.int .i64 (wh n)) := get_cell hbb 0
  have HS0 := Aside0.mk hs0
  have d3 : decide ((k : Int) < 0) = false := decide_eq_false (by omega)
  have p1 : (k < L.length) = True := eq_true HWN.out.2.2.2.2.1
  have p8 : 0 ≤ (k : Int) := by omega
  have p9 : (k : Int) ≤ 1000 := by have := HWN.out.2.2.2.2.1; omega
  have p10 : (k : Int) < L.length := by have := HWN.out.2.2.2.2.1; omega
  have t1 : IntKind.i64.wrap (p.1 + wh n) = p.1 + wh n := wrap_ok (by have := HWN.out; omega) (by have := HWN.out; omega)
  have t2 : IntKind.i64.wrap (p.2 - wh n) = p.2 - wh n := wrap_ok (by have := HWN.out; omega) (by have := HWN.out; omega)
  clear hg hlc hgl hs0 hs1 hbb
  go_wp2_with fail
  go_cut [] (fun wc => Aside0 (Sat w0 wc (AHeap lo hi w0.heap.size g (L.set k (p.1 + wh n, p.2)) :: ABlk b (.cells #[.int .i64 (wh n)] 3) :: l)))
  case first =>
    go_region_law (fail)
    all_goals (
      go_wp2
      go_meet
      case rel => exact ⟨(HS0.out _).drew⟩)
  case rest =>
    have HS3 := hcut
    have hget2 : (L.set k (p.1 + wh n, p.2))[k]? = some (p.1 + wh n, p.2) := by rw [List.getElem?_set_self (HWN.out.2.2.2.2.1)]
    clear HS2 HS0 hcut x0 x1 f0 f1 y0 y1 hgg
    obtain ⟨g3, c3, hg, hlc, hgg, hgl, x0, x1, f0, f1, hs0, hs1⟩ := box_k2 HS3.out hget2
    rw [List.length_set] at hg hlc
    have y0 : wc.cell? ⟨g, 2, none⟩ = some (.slice (some ⟨g3, 0, none⟩) L.length c3) := get_cell hg 2
    have hbb := blk_at HS3.out.swap
    have y1 : wc.cell? ⟨b, 0, none⟩ = some (.int .i64 (wh n)) := get_cell hbb 0
    have HS4 := Aside0.mk (show ∀ y, Sat w0 (wc.setCell ⟨g3, k * 2 + 1, none⟩ (.int .i64 y)) (AHeap lo hi w0.heap.size g (L.set k (p.1 + wh n, y)) :: ABlk b (.cells #[.int .i64 (wh n)] 3) :: l) from fun y => by
      have h := hs1 y
      rw [List.set_set] at h
      exact h)
    replace x1 : wc.cell? ⟨g3, k * 2 + 1, none⟩ = some (.int .i64 p.2) := x1
    clear hg hlc hgl hs0 hs1 hbb hget2
    go_wp2_with fail
    go_cut [] (fun wc => Aside0 (Sat w0 wc (AHeap lo hi w0.heap.size g (L.set k (p.1 + wh n, p.2 - wh n)) :: ABlk b (.cells #[.int .i64 (wh n)] 3) :: l)))
    case first =>
      go_region_law (fail)
      all_goals (
        go_wp2
        go_meet
        case rel => exact ⟨(HS4.out _).drew⟩)
    case rest =>
      have HS5 := hcut
      have hget2 : (L.set k (p.1 + wh n, p.2 - wh n))[k]? = some (p.1 + wh n, p.2 - wh n) := by rw [List.getElem?_set_self (HWN.out.2.2.2.2.1)]
      clear HS3 HS4 hcut x0 x1 f0 f1 y0 y1 hgg
      obtain ⟨g3, c3, hg, hlc, hgg, hgl, x0, x1, f0, f1, hs0, hs1⟩ := box_k2 HS5.out hget2
      rw [List.length_set] at hg hlc
      have y0 : wc.cell? ⟨g, 2, none⟩ = some (.slice (some ⟨g3, 0, none⟩) L.length c3) := get_cell hg 2
      replace x1 : wc.cell? ⟨g3, k * 2 + 1, none⟩ = some (.int .i64 (p.2 - wh n)) := x1
      clear hg hlc hgl hs0 hs1 hget2
      by_cases hz : p.2 - wh n = 0
      · have e0 : (p.2 - wh n == 0) = true := by simpa using hz
        obtain ⟨g4, c4, hg4, hq⟩ := heap_delete HS5.out (by rw [List.length_set]; exact HWN.out.2.2.2.2.1) (by rw [List.length_set]; exact hL)
        rw [List.length_set] at hg4 hq
        have HZ := Aside0.mk (show (L.set k (p.1 + wh n, p.2 - wh n)).eraseIdx k = L1 ++ (cutP p (wh n) ++ L2) by
          unfold cutP
          rw [if_pos hz, HGET.out.2.1, HGET.out.2.2]
          simp [List.set_append, List.eraseIdx_append])
        have y4 : wc.cell? ⟨g, 2, none⟩ = some (.slice (some ⟨g4, 0, none⟩) L.length c4) := get_cell hg4 2
        rw [y0] at y4
        injection y4 with y4
        injection y4 with y4 _ y5
        injection y4 with y4
        injection y4 with y4
        subst y4 y5
        have p11 : IntKind.i64.wrap ((k : Int) + 1) = (k : Int) + 1 := wrap_ok (by omega) (by omega)
        have HQ := Aside0.mk hq
        clear hz hg4 hq
        go_wp2_with fail
        (with_reducible refine HQ.out.mono ?_)
        rintro e3 w3 ⟨rfl, hg3, hS3⟩
        have HS6 := Aside0.mk hS3
        have z0 : w3.cell? ⟨g, 2, none⟩ = some (.slice (some ⟨g3, 0, none⟩) L.length c3) := get_cell hg3 2
        have z1 : w3.frozen? ⟨g, 2, none⟩ = false := get_frozen hg3 2
        clear hS3 hg3 HQ
        go_wp2_with fail
        go_ret2
        refine ⟨by rfl, ?_⟩
        rw [← HZ.out]
        exact HS6.out.swap.drop
      · have e0 : (p.2 - wh n == 0) = false := by simpa using hz
        have HZ := Aside0.mk (show L.set k (p.1 + wh n, p.2 - wh n) = L1 ++ (cutP p (wh n) ++ L2) by
          unfold cutP
          rw [if_neg hz, HGET.out.2.1, HGET.out.2.2]
          simp [List.set_append])
        go_wp2_with fail
        go_ret2
        refine ⟨by rfl, ?_⟩
        rw [← HZ.out]
        exact HS5.out.swap.drop
end Go.Proofs.Ytkeijpngfnmjoaa.MineHeap
