/- Heap: a hole is put into its row. Conditions: the numbers are small. -/
import Derived.Test.YtkeijpngfnmjoaaMineIns
namespace Go.Proofs.Ytkeijpngfnmjoaa.MineHeap
open Go.RowKit Go.MapKept Go.Proofs.YtkeijpngfnmjoaaW.PrintWords Go.Proofs.YtkeijpngfnmjoaaW.PrintLast Go.Proofs.Ytkeijpngfnmjoaa.MineBase Go.Proofs.Ytkeijpngfnmjoaa.MineSep Go.Proofs.Ytkeijpngfnmjoaa.MineRows Go.Proofs.Ytkeijpngfnmjoaa.MineGen
set_option linter.unusedVariables false
set_option linter.unusedSimpArgs false
/-- A hole, new in memory. -/
def holeB (p : Int × Int) : Obj := .cells #[.int .i64 p.1, .int .i64 p.2] 118
/-- What putting a hole into the row at place i leaves. -/
def Ins (w0 : World) (l : List Asn) (lo hi : Int) (g : Nat) (A : Option Addr) (c : Nat) (L L' : Hs) (e : Ending) (w' : World) : Prop :=
  ∃ A' c', e = .returned (.slice A' L'.length c') ∧ w'.heap[g]? = some (.cells #[.int .i64 lo, .int .i64 hi, .slice A L.length c] 116 (0, 0)) ∧ Sat w0 (w'.setCell ⟨g, 2, none⟩ (.slice A' L'.length c')) (AHeap lo hi w0.heap.size g L' :: l)
set_option maxHeartbeats 1000000 in
set_option maxRecDepth 100000 in
theorem insert_end {w0 w : World} {l : List Asn} {lo hi : Int} {g : Nat} {L : Hs} (h : Sat w0 w (AHeap lo hi w0.heap.size g L :: l)) (hn : L.length ≤ 1000) (p : Int × Int) (A : Option Addr) (c : Nat)
    (hg : w.heap[g]? = some (.cells #[.int .i64 lo, .int .i64 hi, .slice A L.length c] 116 (0, 0))) :
    Calls Try.prog 67 #[.slice A L.length c, .int .i64 L.length, .slice (some ⟨w.heap.size, 0, none⟩) 1 1] (w.alloc (holeB p)) (Ins w0 l lo hi g A c L (L ++ [p])) := by
  obtain ⟨A2, c2, D, hg2, hN, hD, hlc, hC, hbp, hclose⟩ := box_parts h
  obtain ⟨rfl, rfl⟩ : A2 = A ∧ c2 = c := by
    rw [hg] at hg2
    injection hg2 with hg2
    injection hg2 with hg2
    have := congrArg (fun a : Array Value => a[2]?) hg2
    simp [rowC] at this
    exact ⟨this.1.symm, this.2.symm⟩
  have HN := Aside0.mk (Kd.N_mono (Kd.N_alloc hN (holeB p)) (ok' := fun k => D k ∨ w.heap.size ≤ k) (fun k hk => .inl hk))
  have HF := Aside0.mk (Kd.N_F (pairs_close (w := w.alloc (holeB p)) (base := 0) (e := 118) (g := w.heap.size) (m := 1) (c := 1) (cur := #[.int .i64 p.1, .int .i64 p.2]) (ys := [p]) (heap_alloc_new w _) (Nat.zero_le _) rfl (Nat.le_refl _) (by decide) rfl rfl))
  have HD := Aside0.mk hD
  have HOB := Aside0.mk (show ∀ k, (Value.slice A2 L.length c2).ownBlock = some k → D k from hN.1)
  have HCL := Aside0.mk hclose
  have HG := Aside0.mk (blk_alloc hg (holeB p))
  have HH := Aside0.mk (And.intro h (And.intro hbp hn))
  have HGL := Aside0.mk (blk_lt hg)
  have p1 : L.length ≤ c2 := hlc
  have p2 : (L.length : Int) ≤ 1000 := by omega
  clear h hg hg2 hN hD hlc hC hbp hclose hn
  go_enter Try.func67, Try.ntmps67
  go_wp2_with (at_builtin; refine Kd.N_append_rows k2 (w0 := w0) w0.heap.size rfl (.tmp 23) (.tmp 24) 63 118 _ 16 rfl Try.underlying63 info118 rfl (by decide) (by decide) (.slice A2 L.length c2) L [p] (some ⟨w.heap.size, 0, none⟩) 1 1 (fun k => D k ∨ w.heap.size ≤ k) (fun k => k = w.heap.size) rfl rfl HN.out HF.out (fun k hk => ⟨.inr (by omega), fun e => by (have h1 := HD.out k (HOB.out k e.symm); omega)⟩) (fun k hk => .inr (by simp at hk; omega)) (keep_below HH.out.1 (below_alloc (Below.refl _ _) _)) (by have := HH.out.1.size; simp; omega) (by have := HH.out.2.2; omega) ?_; intro v1 w1 hN1 hB1 hG1 hat1; obtain ⟨A4, c4, rfl⟩ := Kd.N_slice hN1; rw [show (L ++ [p]).length = L.length + 1 from by simp] at hN1 ⊢; have HN1 := Aside0.mk hN1; have HB1 := Aside0.mk hB1; have g4 := Aside0.mk (blk_grown HG.out hG1 (fun e => (HD.out g (HOB.out g e.symm)).2.2 rfl)); have HK1 := Aside0.mk (show Kept w w1 (fun k => D k ∨ k = g) from Kept.of_grown hG1 (Kept.of_below (below_alloc (Below.refl _ _) _) _) (fun k hk => .inl (.inl (HOB.out k hk)))); clear hN1 hB1 hG1 hat1)
  all_goals (
    try subst h
    go_ret
    refine ⟨A4, c4, by rw [show (L ++ [p]).length = L.length + 1 from by simp]; rfl, g4.out, ?_⟩
    rw [show (L ++ [p]).length = L.length + 1 from by simp]
    exact HCL.out _ _ _ _ (HB1.out.setCell HH.out.2.1 _) (HK1.out.setCell (.inl (.inr rfl)) _) (blk_set g4.out 2 _) (Kd.N_far HN1.out (fun j hj e => by
    subst e
    rcases hj with hj | hj
    · exact (HD.out _ hj).2.2 rfl
    · have := HGL.out; omega) _))
theorem overlaps_no {w : World} {g b i : Nat} {cur : Array Value} {p : Int × Int} (hg : w.heap[g]? = some (.cells cur 118 (0, 0))) (hb : w.heap[b]? = some (holeB p)) (hne : b ≠ g) (hs : cur.size ≠ 0) (lb cb : Nat) :
    (callFunc 97 #[.slice (some ⟨b, 0, none⟩) 1 1, .slice (some ⟨g, i, none⟩) lb cb]).run Try.prog w = .ok (.value (.bool false)) w := by
  rw [run_callFunc_extern Try.func97 (by kernel_rfl) (by kernel_rfl) (by kernel_rfl) (e := Extern.SlicesOverlaps.overlaps #[63, 63] #[4]) (by kernel_rfl),
    Lib.run_overlaps_apart w 63 4 118 Try.underlying63 2 (fun w => by kernel_rfl) ⟨b, 0, none⟩ ⟨g, i, none⟩ 1 1 lb cb hne 118 118 2 cur.size (by simp [World.shape?, hb, holeB]) (by simp [World.shape?, hg]) hs (by simp [World.frozen?, hb, holeB]) (by simp [World.frozen?, hb, holeB])]
  rfl
set_option maxHeartbeats 2000000 in
set_option maxRecDepth 100000 in
theorem insert_room {w0 w : World} {l : List Asn} {lo hi : Int} {g : Nat} {L : Hs} (h : Sat w0 w (AHeap lo hi w0.heap.size g L :: l)) (hn : L.length ≤ 1000) (p : Int × Int) (A : Option Addr) (c i : Nat)
    (hg : w.heap[g]? = some (.cells #[.int .i64 lo, .int .i64 hi, .slice A L.length c] 116 (0, 0))) (hil : i < L.length) (hc : L.length + 1 ≤ c) :
    Calls Try.prog 67 #[.slice A L.length c, .int .i64 i, .slice (some ⟨w.heap.size, 0, none⟩) 1 1] (w.alloc (holeB p)) (Ins w0 l lo hi g A c L (L.take i ++ p :: L.drop i)) := by
  obtain ⟨A2, c2, D, hg2, hN, hD, hlc, hC, hbp, hclose⟩ := box_parts h
  obtain ⟨rfl, rfl⟩ : A2 = A ∧ c2 = c := by
    rw [hg] at hg2
    injection hg2 with hg2
    injection hg2 with hg2
    have := congrArg (fun a : Array Value => a[2]?) hg2
    simp [rowC] at this
    exact ⟨this.1.symm, this.2.symm⟩
  obtain ⟨g3, cap, e1, hbg, hlt, _⟩ := Kd.N_form hN (by omega)
  injection e1 with e1 _ e2
  subst e1 e2
  obtain ⟨cur, hcur, _, _, _, hcm, hcs, hct⟩ := pairs_open hN
  have hDg : D g3 := hN.1 g3 rfl
  have hcl : cur.toList.length = c2 * 2 := by rw [Array.length_toList]; exact hcs
  obtain ⟨W, hW⟩ : ∃ W, W = w.alloc (holeB p) := ⟨_, rfl⟩
  have hbW : W.heap[w.heap.size]? = some (holeB p) := by rw [hW]; exact heap_alloc_new w _
  have hgW : W.heap[g3]? = some (.cells cur 118 (0, 0)) := by rw [hW]; exact blk_alloc hcur _
  have hg0 : W.heap[g]? = some (.cells #[.int .i64 lo, .int .i64 hi, .slice (some ⟨g3, 0, none⟩) L.length c2] 116 (0, 0)) := by rw [hW]; exact blk_alloc hg _
  have hov : ∀ lb cb, (callFunc 97 #[.slice (some ⟨w.heap.size, 0, none⟩) 1 1, .slice (some ⟨g3, (i + 1) * 2, none⟩) lb cb]).run Try.prog W = .ok (.value (.bool false)) W := fun lb cb => overlaps_no hgW hbW (by omega) (by omega) lb cb
  obtain ⟨i0, hi0, hii⟩ := Option.map_eq_some_iff.1 info118
  simp only [Prod.mk.injEq] at hii
  have hDl : (cells2 (L.drop i)).length = (L.length - i) * 2 := by rw [cells2_length, List.length_drop]
  have hsome : ∀ (V : World) (cu : Array Value) (o j : Nat), V.heap[g3]? = some (.cells cu 118 (0, 0)) → o + j < cu.size → (V.cell? ⟨g3, o + j, none⟩).isSome = true := fun V cu o j hV hj => by rw [get_cell hV]; simp; omega
  have hcp1 : ∀ ty dc sc, (Builtin.copy_ #[63, 63] ty #[.slice (some ⟨g3, (i + 1) * 2, none⟩) (L.length - i) dc, .slice (some ⟨g3, i * 2, none⟩) (L.length + 1 - i) sc]).run Try.prog W.drew = .ok (goInt (L.length - i : Nat)) (W.drew.setCells g3 ((i + 1) * 2) (cells2 (L.drop i))) := fun ty dc sc =>
    run_copy_wide W.drew 63 63 ty 118 i0 2 g3 ((i + 1) * 2) _ dc ⟨g3, i * 2, none⟩ _ sc (L.length - i) (cells2 (L.drop i)) Try.underlying63 hi0 hii.2.1 (by simp only [Nat.min_def]; split <;> omega) hDl
      (fun j v hj => by
        rw [Addr.add_lit]
        have h1 : cur.toList[i * 2 + j]? = some v := by
          have h2 : (cells2 L)[i * 2 + j]? = some v := by
            conv => lhs; rw [← List.take_append_drop i L, cells2_append]
            rw [List.getElem?_append_right (by rw [cells2_length, List.length_take]; omega), cells2_length, List.length_take, Nat.min_eq_left (by omega), Nat.add_sub_cancel_left]
            exact hj
          rw [← hct, List.getElem?_take] at h2
          split at h2
          · exact h2
          · cases h2
        have : W.drew.cell? ⟨g3, i * 2 + j, none⟩ = cur[i * 2 + j]? := get_cell (show blk W.drew g3 = _ from hgW) _
        rw [this, ← Array.getElem?_toList]; exact h1)
      (fun j hj => hsome W.drew cur _ j hgW (by rw [hDl] at hj; omega)) (fun j hj => get_frozen (show blk W.drew g3 = _ from hgW) _) (cells2_one _)
  obtain ⟨cur1, hc1, hs1, ht1⟩ := setCells_row (cells2 (L.drop i)) ((i + 1) * 2) W.drew cur hgW (by rw [hDl]; omega)
  obtain ⟨W1, hW1⟩ : ∃ W1, W1 = W.drew.setCells g3 ((i + 1) * 2) (cells2 (L.drop i)) := ⟨_, rfl⟩
  rw [← hW1] at hcp1 hc1
  have hb1 : W1.heap[w.heap.size]? = some (holeB p) := by rw [hW1, setCells_far _ _ _ (by omega)]; exact hbW
  have hcp2 : ∀ ty dc, (Builtin.copy_ #[63, 63] ty #[.slice (some ⟨g3, i * 2, none⟩) (L.length + 1 - i) dc, .slice (some ⟨w.heap.size, 0, none⟩) 1 1]).run Try.prog W1 = .ok (goInt (1 : Nat)) (W1.setCells g3 (i * 2) [.int .i64 p.1, .int .i64 p.2]) := fun ty dc =>
    run_copy_wide W1 63 63 ty 118 i0 2 g3 (i * 2) _ dc ⟨w.heap.size, 0, none⟩ 1 1 1 [.int .i64 p.1, .int .i64 p.2] Try.underlying63 hi0 hii.2.1 (by simp only [Nat.min_def]; split <;> omega) rfl
      (fun j v hj => by
        rw [add_plain]
        have : W1.cell? ⟨w.heap.size, j, none⟩ = (#[Value.int .i64 p.1, Value.int .i64 p.2])[j]? := get_cell (show blk W1 w.heap.size = _ from hb1) _
        rw [this]
        simpa using hj)
      (fun j hj => hsome W1 cur1 _ j hc1 (by rw [hs1]; simp at hj; omega)) (fun j hj => get_frozen (show blk W1 g3 = _ from hc1) _) (by simp [Value.oneCell'])
  obtain ⟨cur2, hc2, hs2, ht2⟩ := setCells_row [.int .i64 p.1, .int .i64 p.2] (i * 2) W1 cur1 hc1 (by rw [hs1]; simp; omega)
  obtain ⟨W2, hW2⟩ : ∃ W2, W2 = W1.setCells g3 (i * 2) [.int .i64 p.1, .int .i64 p.2] := ⟨_, rfl⟩
  rw [← hW2] at hcp2 hc2
  have hgr : W.grownBy W2 (some g3) := by
    obtain ⟨a1, a2, a3, a4⟩ := setCells_same g3 (cells2 (L.drop i)) ((i + 1) * 2) W.drew
    obtain ⟨b1, b2, b3, b4⟩ := setCells_same g3 [.int .i64 p.1, .int .i64 p.2] (i * 2) W1
    rw [← hW1] at a1 a2 a3 a4
    rw [← hW2] at b1 b2 b3 b4
    exact ⟨b1.trans a1, b2.trans a2, b3.trans a3, by rw [b4, a4]; exact Nat.le_refl _, fun k hk hne => by
      have hne' : k ≠ g3 := fun e => hne (by rw [e])
      rw [hW2, setCells_far _ _ k hne', hW1, setCells_far _ _ k hne']; rfl⟩
  have hfin : cur2.toList.take ((L.length + 1) * 2) = cells2 (L.take i ++ p :: L.drop i) := by
    rw [ht2, ht1]
    have hX : cur.toList.take (i * 2) = cells2 (L.take i) := by
      have e : cur.toList.take (i * 2) = (cells2 L).take (i * 2) := by rw [← hct, List.take_take, Nat.min_eq_left (by omega)]
      rw [e]
      conv => lhs; rw [← List.take_append_drop i L, cells2_append]
      exact List.take_left' (by rw [cells2_length, List.length_take]; omega)
    rw [splice_b hX (by rw [cells2_length, List.length_take]; omega) rfl hDl (by omega) (by rw [hcl]; omega), cells2_append, List.append_assoc]
    rfl
  have HFIN := Aside0.mk (show Ins w0 l lo hi g (some ⟨g3, 0, none⟩) c2 L (L.take i ++ p :: L.drop i) (.returned (.slice (some ⟨g3, 0, none⟩) (L.length + 1) c2)) W2 from by
    have hlen : (L.take i ++ p :: L.drop i).length = L.length + 1 := by simp; omega
    have hg4 : W2.heap[g]? = some (.cells #[.int .i64 lo, .int .i64 hi, .slice (some ⟨g3, 0, none⟩) L.length c2] 116 (0, 0)) := blk_grown hg0 hgr (fun e => (hD g3 hDg).2.2 (by injection e with e; exact e.symm))
    refine ⟨some ⟨g3, 0, none⟩, c2, by rw [hlen], hg4, ?_⟩
    rw [hlen]
    have hbw : Below w0.heap.size w0 W := by rw [hW]; exact keep_below h (below_alloc (Below.refl _ _) _)
    have hkw : Kept w W (fun k => D k ∨ k = g) := by rw [hW]; exact Kept.of_below (below_alloc (Below.refl _ _) _) _
    have hwW : w.heap.size ≤ W.heap.size := by rw [hW]; simp
    refine hclose _ _ _ _ ((hbw.grown hgr (Nat.le_trans h.1.size hwW) (fun k hk => by injection hk with hk; subst hk; exact (hD _ hDg).1)).setCell hbp _) ((Kept.of_grown hgr hkw (fun k hk => by injection hk with hk; subst hk; exact .inl (.inl hDg))).setCell (.inl (.inr rfl)) _) (blk_set hg4 2 _) ?_
    have hN2 := pairs_close (base := w0.heap.size) (g := g3) (m := L.length + 1) (c := c2) (ys := L.take i ++ p :: L.drop i) hc2 (hD _ hDg).1 hlen.symm hc hcm (by rw [hs2, hs1, hcs]) hfin
    exact Kd.N_mono (Kd.N_far hN2 (fun j hj => by rw [hj]; exact (hD _ hDg).2.2) _) (fun j hj => by rw [hj]; exact .inl hDg))
  rw [← hW]
  have p1 : L.length + 1 ≤ c2 := hc
  have p2 : (L.length : Int) ≤ 1000 := by omega
  have p3 : (i : Int) < L.length := by omega
  have p4 : 0 ≤ (i : Int) := by omega
  have p5 : ((i : Int) == (L.length : Int)) = false := by simp; omega
  have p6 : ((L.length : Int) + 1 ≤ (c2 : Int)) := by omega
  have p7 : (i : Int) ≤ L.length := by omega
  have p8 : ¬ (c2 = i) := by omega
  have p9 : ¬ (c2 = i + 1) := by omega
  have t1 : IntKind.i64.wrap ((i : Int) + 1) = (i : Int) + 1 := wrap_ok (by omega) (by omega)
  have t2 : IntKind.i64.wrap ((L.length : Int) + 1) = (L.length : Int) + 1 := wrap_ok (by omega) (by omega)
  have t3 : ((i : Int) + 1).toNat = i + 1 := by omega
  have t5 : 0 ≤ (i : Int) + 1 := by omega
  have t6 : (i : Int) ≤ (L.length : Int) + 1 := by omega
  have t4 : ((L.length : Int) + 1).toNat = L.length + 1 := by omega
  have HCP1 := Aside0.mk hcp1
  have HCP2 := Aside0.mk hcp2
  clear h hg hg2 hN hD hlc hC hbp hclose hn hcur hcm hcs hct hbW hgW hg0 hi0 hii hDl hsome hc1 hs1 ht1 hb1 hc2 hs2 ht2 hgr hfin hW1 hW2 hW hcp1 hcp2 hcl hDg hbg hlt hil hc
  go_enter Try.func67, Try.ntmps67
  go_wp2_with (simp only [hov])
  go_region_law ((refine step_copy_runI rfl (.tmp 73) (.tmp 76) 63 63 rfl (.slice (some ⟨g3, (i + 1) * 2, none⟩) (L.length - i) (c2 - (i + 1))) (.slice (some ⟨g3, i * 2, none⟩) (L.length + 1 - i) (c2 - i)) (by simp [Act.eval, Act.put]) (by simp [Act.eval, Act.put]) (HCP1.out 3 (c2 - (i + 1)) (c2 - i)) ?_))
  go_wp2_with (refine wpList_copy_runI _ rfl (.tmp 80) (.tmp 81) 63 63 rfl (.slice (some ⟨g3, i * 2, none⟩) (L.length + 1 - i) (c2 - i)) (.slice (some ⟨w.heap.size, 0, none⟩) 1 1) rfl rfl (HCP2.out 3 (c2 - i)) ?_)
  go_ret
  exact HFIN.out
end Go.Proofs.Ytkeijpngfnmjoaa.MineHeap
