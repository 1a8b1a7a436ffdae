/- Heap: what it is made of in memory; taking an element out of its row; the first hole that is great enough. Conditions: the numbers are small. -/
import Derived.Test.YtkeijpngfnmjoaaMineGen
import Derived.Test.YtkeijpngfnmjoaaMineHeapPure
import Derived.Test.YtkeijpngfnmjoaaMineErr
namespace Go.Proofs.Ytkeijpngfnmjoaa.MineHeap
open Go.RowKit Go.MapKept Go.Proofs.YtkeijpngfnmjoaaW.PrintWords Go.Proofs.YtkeijpngfnmjoaaW.PrintLast Go.Proofs.Ytkeijpngfnmjoaa.MineBase Go.Proofs.Ytkeijpngfnmjoaa.MineSep Go.Proofs.Ytkeijpngfnmjoaa.MineRows Go.Proofs.Ytkeijpngfnmjoaa.MineGen
set_option linter.unusedVariables false
set_option linter.unusedSimpArgs false
/-- A heap: a struct's block g, and a row of holes. -/
def AHeap (lo hi : Int) (base g : Nat) (L : Hs) : Asn := ABox 116 118 k2 [.int .i64 lo, .int .i64 hi] base g L
theorem norm_len {lo hi : Int} : ∀ {L : Hs}, Norm lo hi L → (L.length : Int) ≤ 0 ∨ (L.length : Int) + lo ≤ hi
  | [], _ => .inl (by simp)
  | p :: L, h => by
    have := norm_len h.2.2.2.2.2
    have := h.1; have := h.2.2.1; have := h.2.2.2.2.1
    refine .inr ?_
    simp only [List.length_cons]
    omega
theorem info118 : (Try.prog.info? 118).map (fun i => (i.zero, i.size, i.bytes)) = some (some (.agg #[.int .i64 0, .int .i64 0]), 2, 16) := by kernel_rfl
theorem info118s : (Try.prog.info? 118).map (·.size) = some k2.sz := by kernel_rfl
theorem zero118 (w : World) : (zeroValue 118).run Try.prog w = .ok (.agg #[.int .i64 0, .int .i64 0]) w := by kernel_rfl
theorem one118 : ∀ v ∈ (Value.agg #[.int .i64 0, .int .i64 0]).cells.toList, v.oneCell' = true := by
  have h : (#[Value.int .i64 0, Value.int .i64 0] : Array Value).all (·.oneCell') = true := by simp [Value.oneCell']
  exact fun v hv => Array.all_eq_true_iff_forall_mem.1 h v (Array.mem_toList_iff.1 hv)
theorem grown2 {w w1 w2 : World} {row : Option Nat} (h1 : w.grownBy w1 row) (h2 : w1.grownBy w2 row) : w.grownBy w2 row := by
  obtain ⟨a1, a2, a3, a4, a5⟩ := h1
  obtain ⟨b1, b2, b3, b4, b5⟩ := h2
  exact ⟨b1.trans a1, b2.trans a2, b3.trans a3, Nat.le_trans a4 b4, fun i hi hne => (b5 i (Nat.lt_of_lt_of_le hi a4) hne).trans (a5 i hi hne)⟩
theorem drew_grown {w w1 : World} {row : Option Nat} (h : w.drew.grownBy w1 row) : w.grownBy w1 row := by
  obtain ⟨a1, a2, a3, a4, a5⟩ := h
  exact ⟨a1, a2, a3, a4, a5⟩
section
variable {t e : TypeId} {pre : List Value} {w0 w : World} {g : Nat} {xs : List (Int × Int)} {l : List Asn}
/-- An element of a struct's row, of two numbers: its cells may be turned. -/
theorem box_k2 {k : Nat} {p : Int × Int} (h : Sat w0 w (ABox t e k2 pre w0.heap.size g xs :: l)) (hk : xs[k]? = some p) :
    ∃ g3 c, w.heap[g]? = some (.cells (rowC pre (.slice (some ⟨g3, 0, none⟩) xs.length c)) t (0, 0)) ∧ xs.length ≤ c ∧ g3 ≠ g ∧ g3 < w.heap.size ∧ w.cell? ⟨g3, k * 2, none⟩ = some (.int .i64 p.1) ∧ w.cell? ⟨g3, k * 2 + 1, none⟩ = some (.int .i64 p.2) ∧ w.frozen? ⟨g3, k * 2, none⟩ = false ∧ w.frozen? ⟨g3, k * 2 + 1, none⟩ = false ∧
      (∀ y, Sat w0 (w.setCell ⟨g3, k * 2, none⟩ (.int .i64 y)) (ABox t e k2 pre w0.heap.size g (xs.set k (y, p.2)) :: l)) ∧
      (∀ y, Sat w0 (w.setCell ⟨g3, k * 2 + 1, none⟩ (.int .i64 y)) (ABox t e k2 pre w0.heap.size g (xs.set k (p.1, y)) :: l)) := by
  have hkl : k < xs.length := (List.getElem?_eq_some_iff.1 hk).1
  obtain ⟨A, c, D, hg, hN, hD, hlc, hC, hbp, hclose⟩ := box_parts h
  obtain ⟨g3, cap, e1, hbg, hlt, cells, hgc⟩ := Kd.N_form hN (by omega)
  injection e1 with e1 _ e2
  subst e1 e2
  obtain ⟨ad, e, x0, x1⟩ := k2_at hC hk
  injection e with e
  subst e
  rw [add_plain] at x0 x1
  have hDg : D g3 := hN.1 g3 rfl
  have hcl : ∀ (j : Nat) (y : Int) (q : Int × Int), j < 2 → q = (if j = 0 then (y, p.2) else (p.1, y)) → Sat w0 (w.setCell ⟨g3, k * 2 + j, none⟩ (.int .i64 y)) (ABox t _ k2 pre w0.heap.size g (xs.set k q) :: l) := fun j y q hj hq => by
    have hs := Kd.N_seg (d := k2) hN (k : Int) (by omega) (by omega) (c := [.int .i64 p.1, .int .i64 p.2]) (seg := [.int .i64 y]) (j := j) (x' := q) (okp := fun _ => False) rfl (by
        rw [Int.toNat_natCast]
        intro i u hi
        rcases i with _ | _ | i
        · simp only [List.getElem?_cons_zero, Option.some.injEq] at hi
          subst hi; exact x0
        · simp only [Nat.zero_add, List.getElem?_cons_succ, List.getElem?_cons_zero, Option.some.injEq] at hi
          subst hi; exact x1
        · simp at hi) (by show j + 1 ≤ 2; omega)
      (flat_FK flat_k2 (W := w) (by
        rcases j with _ | _ | j
        · rw [hq]; exact k2_mk w _
        · rw [hq]; exact k2_mk w _
        · omega)) (fun _ hj => hj.elim)
    obtain ⟨h1, h2⟩ := hs
    rw [Int.toNat_natCast] at h1
    have hw : w.setCells g3 (k * k2.sz + j) [.int .i64 y] = w.setCell ⟨g3, k * 2 + j, none⟩ (.int .i64 y) := rfl
    rw [hw] at h1
    refine hclose _ _ _ _ (h.toBelow.setCell (show w0.heap.size ≤ g3 from (hD g3 hDg).1) _) ((Kept.refl w _).setCell (.inl (.inl hDg)) _) (blk_far hg (Ne.symm (hD g3 hDg).2.2) _) (Kd.N_mono h1 (fun j hj => .inl hj))
  refine ⟨g3, c, hg, hlc, (hD g3 hDg).2.2, hlt, x0, x1, get_frozen hgc _, get_frozen hgc _, fun y => hcl 0 y _ (by omega) (by simp), fun y => hcl 1 y _ (by omega) (by simp)⟩
end
set_option maxHeartbeats 1000000 in
set_option maxRecDepth 100000 in
theorem Delete_calls {base g2 n c k : Nat} {ok : Nat → Prop} {ms : Hs} {w : World} (HO : Kd.N k2 118 w base ok (.slice (some ⟨g2, 0, none⟩) n c) ms) (hk : k < n) (hn : n ≤ 1000) (hb : base ≤ w.heap.size) :
    Calls Try.prog 68 #[.slice (some ⟨g2, 0, none⟩) n c, .int .i64 k, .int .i64 (k + 1)] w fun e w' => e = .returned (.slice (some ⟨g2, 0, none⟩) (n - 1 : Nat) c) ∧ Kd.N k2 118 w' base ok (.slice (some ⟨g2, 0, none⟩) (n - 1) c) (ms.eraseIdx k) ∧ w.grownBy w' (some g2) := by
  obtain ⟨n', rfl⟩ : ∃ n', n = n' + 1 := ⟨n - 1, by omega⟩
  obtain ⟨hl, hc, hC⟩ := Kd.N_reads' HO
  clear hC
  replace HO := Aside0.mk HO
  have HL := Aside0.mk hl
  have HB := Aside0.mk hb
  have HK := Aside0.mk hk
  have HN := Aside0.mk hc
  have p1 : (k : Int) < (n' + 1 : Nat) := by omega
  have p2 : (k : Int) + 1 ≤ (n' + 1 : Nat) := by omega
  have p3 : n' + 1 ≤ c := hc
  have p4 : ((n' + 1 : Nat) : Int) ≤ 1000 := by omega
  have p5 : 0 ≤ (k : Int) := by omega
  have p6 : (k ≤ c) = True := eq_true (by omega)
  have p7 : 0 ≤ (k : Int) + 1 := by omega
  have q1 : (k : Int) < n' + 1 := by omega
  have q2 : (k : Int) ≤ n' := by omega
  have q3 : (n' : Int) + 1 ≤ 1000 := by omega
  have q4 : ¬ (c = n') := by omega
  have q5 : (n' : Int) + 1 ≤ c := by omega
  clear hl hb hk hc hn
  go_enter Try.func68, Try.ntmps68
  go_wp2_with fail
  go_region_law ((refine Kd.N_delete_step k2 (w0 := w.drew) base (by rfl) (.tmp 22) (.tmp 25) 63 118 rfl Try.underlying63 info118s (g := g2) (n := n' + 1) (c := c) (k := k) (xs := ms) (ok := ok) rfl rfl (by simp [show k2.sz = 2 from rfl, Addr.add]) (by omega) (Kd.N_drew HO.out) HK.out (Below.refl _ _) HB.out (fun w1 hN hB hG => ?_)); have HN1 := Aside0.mk hN; have HG1 := Aside0.mk hG; clear hN hB hG)
  obtain ⟨w2, hrun, hN2, hG2⟩ := clear_tail (P := Try.prog) (m := 1) (t := 63) (ty := 0) (show Kd.N k2 118 w1 base ok (.slice (some ⟨g2, 0, none⟩) n' c) (ms.eraseIdx k) from HN1.out) (by decide) (by have := HN.out; omega) (by decide) Try.underlying63 zero118 (by rfl) one118 (c - n')
  have HN2 := Aside0.mk hN2
  have HG2 := Aside0.mk hG2
  clear hN2 hG2
  replace hrun : (Builtin.clear_ #[63] 0 #[.slice (some ⟨g2, n' * 2, none⟩) 1 (c - n')]).run Try.prog w1 = .ok (.tuple #[]) w2 := hrun
  go_wp2_with fail
  all_goals (
    try (subst h)
    go_ret
    exact ⟨by rfl, HN2.out, grown2 (drew_grown HG1.out) HG2.out⟩)
/-- A hole is taken out of a heap's row; the struct's field is still to be put. -/
theorem heap_delete {w0 w : World} {l : List Asn} {lo hi : Int} {g : Nat} {L : Hs} {k : Nat} (h : Sat w0 w (AHeap lo hi w0.heap.size g L :: l)) (hk : k < L.length) (hn : L.length ≤ 1000) :
    ∃ g3 c, w.heap[g]? = some (.cells #[.int .i64 lo, .int .i64 hi, .slice (some ⟨g3, 0, none⟩) L.length c] 116 (0, 0)) ∧
      Calls Try.prog 68 #[.slice (some ⟨g3, 0, none⟩) L.length c, .int .i64 k, .int .i64 (k + 1)] w fun e w' => e = .returned (.slice (some ⟨g3, 0, none⟩) (L.length - 1 : Nat) c) ∧ w'.heap[g]? = some (.cells #[.int .i64 lo, .int .i64 hi, .slice (some ⟨g3, 0, none⟩) L.length c] 116 (0, 0)) ∧
        Sat w0 (w'.setCell ⟨g, 2, none⟩ (.slice (some ⟨g3, 0, none⟩) (L.length - 1 : Nat) c)) (AHeap lo hi w0.heap.size g (L.eraseIdx k) :: l) := by
  obtain ⟨A, c, D, hg, hN, hD, hlc, hC, hbp, hclose⟩ := box_parts h
  obtain ⟨g3, cap, e1, hbg, hlt, cells, hgc⟩ := Kd.N_form hN (by omega)
  injection e1 with e1 _ e2
  subst e1 e2
  have hDg : D g3 := hN.1 g3 rfl
  refine ⟨g3, c, hg, (Delete_calls hN hk hn h.size).mono ?_⟩
  rintro e w' ⟨rfl, hN2, hG⟩
  have hg' := blk_grown hg hG (fun e => (hD g3 hDg).2.2 (by injection e with e; exact e.symm))
  refine ⟨rfl, hg', hclose _ _ _ _ ((h.toBelow.grown hG h.size (fun k hk => by injection hk with hk; subst hk; exact (hD _ hDg).1)).setCell hbp _) ((Kept.of_grown hG (Kept.refl w _) (fun k hk => by injection hk with hk; subst hk; exact .inl (.inl hDg))).setCell (.inl (.inr rfl)) _) (blk_set hg' 2 _) (Kd.N_mono (Kd.N_far hN2 (fun j hj => (hD j hj).2.2) _) (fun j hj => .inl hj))⟩
/-- The closure of Take. -/
theorem great_calls (p : Int × Int) (n : Int) (b : Nat) (w : World) (hb : w.cell? ⟨b, 0, none⟩ = some (.int .i64 n)) :
    Calls Try.prog 70 #[.agg #[.int .i64 p.1, .int .i64 p.2], .pointer (some ⟨b, 0, none⟩)] w fun e w' => e = .returned (.bool (decide (n ≤ p.2))) ∧ Below w.heap.size w w' := by
  have hlt := World.block_lt_of_cell? w _ hb
  have hb1 := pw_cell_below (below_alloc (Below.refl w.heap.size w) (.cells #[.int .i64 p.1, .int .i64 p.2] 118)) hb
  go_enter Try.func70, Try.ntmps70
  go_wp2
  go_ret
  exact ⟨by rfl, by repeat (first | exact Below.refl _ _ | apply below_alloc)⟩
/-- The first hole of n bytes. -/
def fitI (L : Hs) (n : Int) : Int := idxP (fun p : Int × Int => decide (n ≤ p.2)) L
set_option maxHeartbeats 1000000 in
set_option maxRecDepth 100000 in
theorem Index_calls (A : Option Addr) (c : Nat) (xs : Hs) (b : Nat) (n : Int) (w : World) (hC : k2.C w A xs.length xs) (hn : xs.length ≤ 1000) (hb : w.cell? ⟨b, 0, none⟩ = some (.int .i64 n)) :
    Calls Try.prog 69 #[.slice A xs.length c, .func (.func 70) #[] #[.pointer (some ⟨b, 0, none⟩)]] w fun e w' => e = .returned (.int .i64 (fitI xs n)) ∧ Below w.heap.size w w' := by
  have HC := Aside0.mk hC
  have HB0 := Aside0.mk hb
  clear hC hb
  go_enter Try.func69, Try.ntmps69
  go_wp2
  go_loopg [8] (xs.length + 1) (fun kq v8 w' => ∃ i : Nat, v8 = .int .i64 i ∧ Aside0 (i ≤ xs.length ∧ xs.length - i < kq) ∧ Aside0 (fitI xs n = shiftI i (idxP (fun p : Int × Int => decide (n ≤ p.2)) (xs.drop i))) ∧ Aside0 (Below w.heap.size w w'))
  case atStart => exact ⟨0, rfl, ⟨by omega⟩, ⟨by rw [List.drop_zero, shift_zero]; rfl⟩, ⟨Below.refl _ _⟩⟩
  case round =>
    obtain ⟨i, rfl, Hi, HR, HB⟩ := hrel
    by_cases hlt : i < xs.length
    · obtain ⟨p, hp⟩ : ∃ p, xs[i]? = some p := ⟨_, List.getElem?_eq_getElem hlt⟩
      obtain ⟨ad, rfl, x0, x1⟩ := k2_at HC.out hp
      have hb := pw_cell_below HB.out HB0.out
      replace x0 := pw_cell_below HB.out x0
      replace x1 := pw_cell_below HB.out x1
      have HG := Aside0.mk hp
      have d1 : decide ((i : Int) < (xs.length : Int)) = true := decide_eq_true (by omega)
      have p1 : (i < xs.length) = True := eq_true hlt
      have p9 : (i : Int) ≤ 1000 := by omega
      have p8 : 0 ≤ (i : Int) := by omega
      clear hlt hp
      go_wp2_with fail
      refine (great_calls p n b wr hb).mono ?_
      rintro e2 w2 ⟨rfl, hb2⟩
      have HB2 := Aside0.mk (below_step HB.out hb2)
      clear hb2 hb x0 x1
      cases hq : decide (n ≤ p.2) with
      | true =>
        have HQ := Aside0.mk (shift_hit (p := fun p : Int × Int => decide (n ≤ p.2)) HG.out hq)
        clear hq
        go_wp2
        go_ret
        exact ⟨ret_eq (by rw [HR.out, HQ.out]; rfl), HB2.out⟩
      | false =>
        have HQ := Aside0.mk (shift_miss (p := fun p : Int × Int => decide (n ≤ p.2)) HG.out hq)
        clear hq
        go_wp2
        go_roundg (gk - 1)
        case measure => have := Hi.out; omega
        case rel => exact ⟨i + 1, by go_num, ⟨by have := Hi.out; have := of_eq_true p1; omega⟩, ⟨by rw [HR.out, HQ.out]⟩, HB2⟩
    · have hi : i = xs.length := by have := Hi.out; omega
      have d1 : (i < xs.length) = False := eq_false hlt
      have HE := Aside0.mk (show fitI xs n = -1 by rw [HR.out, hi, shift_end])
      clear hi hlt
      go_wp2
      go_ret
      exact ⟨ret_eq (by rw [HE.out]; rfl), HB.out⟩
end Go.Proofs.Ytkeijpngfnmjoaa.MineHeap
