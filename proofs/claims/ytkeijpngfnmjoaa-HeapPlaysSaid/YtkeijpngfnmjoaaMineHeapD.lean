/- Heap: a hole is put into its row that has no room. Conditions: the numbers are small. -/
import Derived.Test.YtkeijpngfnmjoaaMineHeapC
namespace Go.Proofs.Ytkeijpngfnmjoaa.MineHeap
open Go.RowKit Go.MapKept Go.Proofs.YtkeijpngfnmjoaaW.PrintWords Go.Proofs.YtkeijpngfnmjoaaW.PrintLast Go.Proofs.Ytkeijpngfnmjoaa.MineBase Go.Proofs.Ytkeijpngfnmjoaa.MineSep Go.Proofs.Ytkeijpngfnmjoaa.MineRows Go.Proofs.Ytkeijpngfnmjoaa.MineGen
set_option linter.unusedVariables false
set_option linter.unusedSimpArgs false
set_option maxHeartbeats 2000000 in
set_option maxRecDepth 100000 in
theorem insert_grow {w0 w : World} {l : List Asn} {lo hi : Int} {g : Nat} {L : Hs} (h : Sat w0 w (AHeap lo hi w0.heap.size g L :: l)) (hn : L.length ≤ 1000) (p : Int × Int) (A : Option Addr) (c i : Nat)
    (hg : w.heap[g]? = some (.cells #[.int .i64 lo, .int .i64 hi, .slice A L.length c] 116 (0, 0))) (hil : i < L.length) (hc : c < L.length + 1) :
    Calls Try.prog 67 #[.slice A L.length c, .int .i64 i, .slice (some ⟨w.heap.size, 0, none⟩) 1 1] (w.alloc (holeB p)) (Ins w0 l lo hi g A c L (L.take i ++ p :: L.drop i)) := by
  obtain ⟨A2, c2, D, hg2, hN, hD, hlc, hC, hbp, hclose⟩ := box_parts h
  obtain ⟨rfl, rfl⟩ : A2 = A ∧ c2 = c := by
    rw [hg] at hg2
    injection hg2 with hg2
    injection hg2 with hg2
    have := congrArg (fun a : Array Value => a[2]?) hg2
    simp [rowC] at this
    exact ⟨this.1.symm, this.2.symm⟩
  obtain ⟨g3, cap, e1, hbg, hlt, _⟩ := Kd.N_form hN (by omega)
  injection e1 with e1 _ e2
  subst e1 e2
  obtain ⟨cur, hcur, _, _, _, hcm, hcs, hct⟩ := pairs_open hN
  have hDg : D g3 := hN.1 g3 rfl
  have hcl : cur.toList.length = c2 * 2 := by rw [Array.length_toList]; exact hcs
  obtain ⟨W, hW⟩ : ∃ W, W = w.alloc (holeB p) := ⟨_, rfl⟩
  have hbW : W.heap[w.heap.size]? = some (holeB p) := by rw [hW]; exact heap_alloc_new w _
  have hgW : W.heap[g3]? = some (.cells cur 118 (0, 0)) := by rw [hW]; exact blk_alloc hcur _
  have hg0 : W.heap[g]? = some (.cells #[.int .i64 lo, .int .i64 hi, .slice (some ⟨g3, 0, none⟩) L.length c2] 116 (0, 0)) := by rw [hW]; exact blk_alloc hg _
  obtain ⟨i0, hi0, hii⟩ := Option.map_eq_some_iff.1 info118
  simp only [Prod.mk.injEq] at hii
  have hDl : (cells2 (L.drop i)).length = (L.length - i) * 2 := by rw [cells2_length, List.length_drop]
  have hsplit : cells2 L = cells2 (L.take i) ++ cells2 (L.drop i) := by rw [← cells2_append, List.take_append_drop]
  have hXl : (cells2 (L.take i)).length = i * 2 := by rw [cells2_length, List.length_take]; omega
  have hX : cur.toList.take (i * 2) = cells2 (L.take i) := by
    have e : cur.toList.take (i * 2) = (cells2 L).take (i * 2) := by rw [← hct, List.take_take, Nat.min_eq_left (by omega)]
    rw [e, hsplit]
    exact List.take_left' hXl
  have hcellW : ∀ j, W.cell? ⟨g3, j, none⟩ = cur.toList[j]? := fun j => by
    have : W.cell? ⟨g3, j, none⟩ = cur[j]? := get_cell hgW j
    rw [this, Array.getElem?_toList]
  obtain ⟨cz, W0, hrz, hoz, hbz⟩ := append_zeros_grow (P := Try.prog) W w0.heap.size 63 3 63 118 i0 (.agg #[.int .i64 0, .int .i64 0]) 2 16 Try.underlying63 Try.underlying3 hi0 hii.1 hii.2.1 hii.2.2 rfl (by decide) (by decide) ⟨g3, 0, none⟩ i c2 (L.length + 1 - i) (cells2 (L.take i)) hXl
    (fun j u hj => by
      rw [add_plain, hcellW]
      rw [← hX, List.getElem?_take] at hj
      split at hj
      · exact hj
      · cases hj) .i64 (by omega) (by rw [hW]; simp; have := h.1.size; omega) (by omega) (by omega)
  have hz1 : i + (L.length + 1 - i) = L.length + 1 := by omega
  rw [hz1] at hrz hoz
  obtain ⟨g4, hg4⟩ : ∃ g4, g4 = W.heap.size := ⟨_, rfl⟩
  rw [← hg4] at hrz hoz
  obtain ⟨cu0, hu0, hcz1, hcz2, hcz3, hcz4⟩ : ∃ cu0 : Array Value, W0.heap[g4]? = some (.cells cu0 118 (0, 0)) ∧ L.length + 1 ≤ cz ∧ cz ≤ maxLen ∧ cu0.size = cz * 2 ∧ cu0.toList.take (i * 2) = cells2 (L.take i) := by
    rcases hoz.2 with ⟨e, _⟩ | ⟨g', cap', cur', e, hb', hg', hnc', hcm', hcs', htk'⟩
    · cases e
    · injection e with e _ e2
      injection e with e
      injection e with e
      subst e e2
      refine ⟨cur', hg', hnc', hcm', hcs', ?_⟩
      have : cur'.toList.take (i * 2) = (cur'.toList.take ((L.length + 1) * 2)).take (i * 2) := by rw [List.take_take, Nat.min_eq_left (by omega)]
      rw [this, htk']
      exact List.take_left' hXl
  have hcl0 : cu0.toList.length = cz * 2 := by rw [Array.length_toList]; exact hcz3
  have hg3W0 : W0.heap[g3]? = some (.cells cur 118 (0, 0)) := blk_below hgW hbz
  have hbW0 : W0.heap[w.heap.size]? = some (holeB p) := blk_below hbW hbz
  have hWs : W.heap.size = w.heap.size + 1 := by rw [hW]; simp
  have hsome : ∀ (V : World) (cu : Array Value) (o j : Nat), V.heap[g4]? = some (.cells cu 118 (0, 0)) → o + j < cu.size → (V.cell? ⟨g4, o + j, none⟩).isSome = true := fun V cu o j hV hj => by rw [get_cell hV]; simp; omega
  have hcp2 : ∀ ty dc, (Builtin.copy_ #[63, 63] ty #[.slice (some ⟨g4, i * 2, none⟩) (L.length + 1 - i) dc, .slice (some ⟨w.heap.size, 0, none⟩) 1 1]).run Try.prog W0 = .ok (goInt (1 : Nat)) (W0.setCells g4 (i * 2) [.int .i64 p.1, .int .i64 p.2]) := fun ty dc =>
    run_copy_wide W0 63 63 ty 118 i0 2 g4 (i * 2) _ dc ⟨w.heap.size, 0, none⟩ 1 1 1 [.int .i64 p.1, .int .i64 p.2] Try.underlying63 hi0 hii.2.1 (by simp only [Nat.min_def]; split <;> omega) rfl
      (fun j v hj => by
        rw [add_plain]
        have : W0.cell? ⟨w.heap.size, j, none⟩ = (#[Value.int .i64 p.1, Value.int .i64 p.2])[j]? := get_cell (show blk W0 w.heap.size = _ from hbW0) _
        rw [this]
        simpa using hj)
      (fun j hj => hsome W0 cu0 _ j hu0 (by rw [hcz3]; simp at hj; omega)) (fun j hj => get_frozen (show blk W0 g4 = _ from hu0) _) (by simp [Value.oneCell'])
  obtain ⟨cur1, hc1, hs1, ht1⟩ := setCells_row [.int .i64 p.1, .int .i64 p.2] (i * 2) W0 cu0 hu0 (by rw [hcz3]; simp; omega)
  obtain ⟨W1, hW1⟩ : ∃ W1, W1 = W0.setCells g4 (i * 2) [.int .i64 p.1, .int .i64 p.2] := ⟨_, rfl⟩
  rw [← hW1] at hcp2 hc1
  have hg3W1 : W1.heap[g3]? = some (.cells cur 118 (0, 0)) := by rw [hW1, setCells_far _ _ _ (by omega)]; exact hg3W0
  have hcp1 : ∀ ty dc sc, (Builtin.copy_ #[63, 63] ty #[.slice (some ⟨g4, (i + 1) * 2, none⟩) (L.length - i) dc, .slice (some ⟨g3, i * 2, none⟩) (L.length - i) sc]).run Try.prog W1.drew = .ok (goInt (L.length - i : Nat)) (W1.drew.setCells g4 ((i + 1) * 2) (cells2 (L.drop i))) := fun ty dc sc =>
    run_copy_wide W1.drew 63 63 ty 118 i0 2 g4 ((i + 1) * 2) _ dc ⟨g3, i * 2, none⟩ _ sc (L.length - i) (cells2 (L.drop i)) Try.underlying63 hi0 hii.2.1 (by simp only [Nat.min_def]; split <;> omega) hDl
      (fun j v hj => by
        rw [Addr.add_lit]
        have h1 : cur.toList[i * 2 + j]? = some v := by
          have h2 : (cells2 L)[i * 2 + j]? = some v := by
            rw [hsplit, List.getElem?_append_right (by omega), hXl, Nat.add_sub_cancel_left]
            exact hj
          rw [← hct, List.getElem?_take] at h2
          split at h2
          · exact h2
          · cases h2
        have : W1.drew.cell? ⟨g3, i * 2 + j, none⟩ = cur[i * 2 + j]? := get_cell (show blk W1.drew g3 = _ from hg3W1) _
        rw [this, ← Array.getElem?_toList]; exact h1)
      (fun j hj => hsome W1.drew cur1 _ j hc1 (by rw [hDl] at hj; rw [hs1, hcz3]; omega)) (fun j hj => get_frozen (show blk W1.drew g4 = _ from hc1) _) (cells2_one _)
  obtain ⟨cur2, hc2, hs2, ht2⟩ := setCells_row (cells2 (L.drop i)) ((i + 1) * 2) W1.drew cur1 hc1 (by rw [hDl, hs1, hcz3]; omega)
  obtain ⟨W2, hW2⟩ : ∃ W2, W2 = W1.drew.setCells g4 ((i + 1) * 2) (cells2 (L.drop i)) := ⟨_, rfl⟩
  rw [← hW2] at hcp1 hc2
  have hB2 : Below W.heap.size W W2 := by
    have hg1 : W0.grownBy W2 (some g4) := by
      obtain ⟨a1, a2, a3, a4⟩ := setCells_same g4 [.int .i64 p.1, .int .i64 p.2] (i * 2) W0
      obtain ⟨b1, b2, b3, b4⟩ := setCells_same g4 (cells2 (L.drop i)) ((i + 1) * 2) W1.drew
      rw [← hW1] at a1 a2 a3 a4
      rw [← hW2] at b1 b2 b3 b4
      exact ⟨b1.trans a1, b2.trans a2, b3.trans a3, by rw [b4]; exact Nat.le_of_eq a4.symm, fun k hk hne => by
        have hne' : k ≠ g4 := fun e => hne (by rw [e])
        rw [hW2, setCells_far _ _ k hne']
        show W1.heap[k]? = _
        rw [hW1, setCells_far _ _ k hne']⟩
    exact hbz.grown hg1 hbz.size (fun k hk => by injection hk with hk; omega)
  have hfin : cur2.toList.take ((L.length + 1) * 2) = cells2 (L.take i ++ p :: L.drop i) := by
    rw [ht2, ht1]
    rw [splice_a hcz4 hXl rfl hDl (by omega) (by rw [hcl0]; omega), cells2_append, List.append_assoc]
    rfl
  have HFIN := Aside0.mk (show Ins w0 l lo hi g (some ⟨g3, 0, none⟩) c2 L (L.take i ++ p :: L.drop i) (.returned (.slice (some ⟨g4, 0, none⟩) (L.length + 1) cz)) W2 from by
    have hlen : (L.take i ++ p :: L.drop i).length = L.length + 1 := by simp; omega
    have hg5 : W2.heap[g]? = some (.cells #[.int .i64 lo, .int .i64 hi, .slice (some ⟨g3, 0, none⟩) L.length c2] 116 (0, 0)) := blk_below hg0 hB2
    refine ⟨some ⟨g4, 0, none⟩, cz, by rw [hlen], hg5, ?_⟩
    rw [hlen]
    have hbw : Below w.heap.size w W2 := by
      have h1 : Below w.heap.size w W := by rw [hW]; exact below_alloc (Below.refl _ _) _
      exact below_step h1 hB2
    refine hclose _ _ _ _ ((keep_below h hbw).setCell hbp _) ((Kept.of_below hbw _).setCell (.inl (.inr rfl)) _) (blk_set hg5 2 _) ?_
    have hN2 := pairs_close (base := w0.heap.size) (g := g4) (m := L.length + 1) (c := cz) (ys := L.take i ++ p :: L.drop i) hc2 (by have := h.1.size; omega) hlen.symm hcz1 hcz2 (by rw [hs2, hs1, hcz3]) hfin
    have hgw := blk_lt hg
    exact Kd.N_mono (Kd.N_far hN2 (fun j hj => by rw [hj]; show g4 ≠ g; omega) _) (fun j hj => by rw [hj]; exact .inr (by omega)))
  rw [← hW]
  have p2 : (L.length : Int) ≤ 1000 := by omega
  have p3 : (i : Int) < L.length := by omega
  have p4 : 0 ≤ (i : Int) := by omega
  have p5 : ((i : Int) == (L.length : Int)) = false := by simp; omega
  have p6 : ¬ ((L.length : Int) + 1 ≤ (c2 : Int)) := by omega
  have q6 : decide ((c2 : Int) < (L.length : Int) + 1) = true := decide_eq_true (by omega)
  have p7 : (i : Int) ≤ L.length := by omega
  have q7 : i ≤ c2 := by omega
  have p8 : ¬ (c2 = i) := by omega
  have q1 : ¬ (cz = i) := by omega
  have q2 : ¬ (cz = i + 1) := by omega
  have q3 : (i : Int) ≤ c2 := by omega
  have t1 : IntKind.i64.wrap ((i : Int) + 1) = (i : Int) + 1 := wrap_ok (by omega) (by omega)
  have t2 : IntKind.i64.wrap ((L.length : Int) + 1) = (L.length : Int) + 1 := wrap_ok (by omega) (by omega)
  have t3 : ((i : Int) + 1).toNat = i + 1 := by omega
  have t4 : ((L.length : Int) + 1).toNat = L.length + 1 := by omega
  have t5 : 0 ≤ (i : Int) + 1 := by omega
  have t6 : (i : Int) ≤ (L.length : Int) + 1 := by omega
  have t7 : (i : Int) + 1 ≤ (L.length : Int) + 1 := by omega
  have t8 : IntKind.i64.wrap ((L.length : Int) + 1 - (i : Int)) = ((L.length + 1 - i : Nat) : Int) := by rw [show (L.length : Int) + 1 - (i : Int) = ((L.length + 1 - i : Nat) : Int) by omega]; exact wrap_ok (by omega) (by omega)
  have HCP1 := Aside0.mk hcp1
  have HCP2 := Aside0.mk hcp2
  have HRZ := Aside0.mk hrz
  clear h hg hg2 hN hD hlc hC hbp hclose hn hcur hcm hcs hct hbW hgW hg0 hi0 hii hDl hsome hc1 hs1 ht1 hc2 hs2 ht2 hfin hW1 hW2 hcp1 hcp2 hcl hDg hbg hlt hil hc hrz hoz hbz hu0 hcz1 hcz2 hcz3 hcz4 hcl0 hg3W0 hbW0 hWs hg3W1 hB2 hsplit hXl hX hcellW hz1 hW hg4
  go_enter Try.func67, Try.ntmps67
  go_wp2_with (first
    | (refine Go.Lib.wpList_append_run _ rfl (.tmp 34) (.tmp 39) 63 3 rfl (.slice (some ⟨g3, 0, none⟩) i c2) (.int .i64 (L.length + 1 - i : Nat)) rfl (by simp [Act.eval, t8]) _ _ HRZ.out ?_)
    | (refine wpList_copy_runI _ rfl (.tmp 43) (.tmp 44) 63 63 rfl (.slice (some ⟨g4, i * 2, none⟩) (L.length + 1 - i) (cz - i)) (.slice (some ⟨w.heap.size, 0, none⟩) 1 1) rfl rfl (HCP2.out 3 (cz - i)) ?_))
  go_region_law ((refine step_copy_runI rfl (.tmp 50) (.tmp 53) 63 63 rfl (.slice (some ⟨g4, (i + 1) * 2, none⟩) (L.length - i) (cz - (i + 1))) (.slice (some ⟨g3, i * 2, none⟩) (L.length - i) (c2 - i)) (by simp [Act.eval, Act.put]) (by simp [Act.eval, Act.put]) (HCP1.out 3 (cz - (i + 1)) (c2 - i)) ?_))
  go_wp2_with fail
  go_ret
  exact HFIN.out
end Go.Proofs.Ytkeijpngfnmjoaa.MineHeap
