/- Files: what putting and deleting a file comes to in the document's list. Conditions: texts and bytes are not too long. -/
import Derived.Test.YtlgfdokdckaejaaMineFilesPlayC
import Derived.Deep.RegionLaw
import Derived.Deep.RegionHeld3
namespace Go.Proofs.Ytlgfdokdckaejaa.MineFilesPlay
open Go.RowKit Go.MapKept Go.Proofs.YtlgfdokdckaejaaW.PrintWords Go.Proofs.YtlgfdokdckaejaaW.PrintLast Go.Proofs.Ytlgfdokdckaejaa.MineBase Go.Proofs.Ytlgfdokdckaejaa.MineSep Go.Proofs.Ytlgfdokdckaejaa.MineRows Go.Proofs.Ytlgfdokdckaejaa.QFilesPlay
open Go.Proofs.Ytlgfdokdckaejaa.MineMap (lookM put del keys)
open Go.Proofs.Ytlgfdokdckaejaa.MineFiles (mayB putE putF thereE delF)
open Go.Proofs.Ytlgfdokdckaejaa.MineTab (idxP idxP_range shiftI shift_zero shift_hit shift_miss shift_end ret_eq eqS eqS_iff)
set_option linter.unusedVariables false
set_option linter.unusedSimpArgs false
/-! ### where a name is: in both lists alike -/
theorem pos_spec (s : ByteArray) (v : List Int) : ∀ F : List (ByteArray × List Int),
    (lookM F s = none ∧ atF (F.map toF) s = -1 ∧ put F s v = F ++ [(s, v)] ∧ del F s = F) ∨
    ∃ k x, k < F.length ∧ atF (F.map toF) s = k ∧ lookM F s = some x ∧ F[k]? = some (s, x) ∧ put F s v = F.set k (s, v) ∧ del F s = F.eraseIdx k
  | [] => .inl ⟨rfl, rfl, rfl, rfl⟩
  | p :: F => by
    by_cases h : p.1 = s
    · refine .inr ⟨0, p.2, by simp, ?_, by simp [lookM, h], by simp [← h], by simp [put, h], by simp [del, h]⟩
      show idxP _ (toF p :: F.map toF) = _
      unfold idxP
      rw [if_pos ((eqS_iff _ _).2 (show (toF p).f0 = s from h))]; rfl
    · have hne : ¬ eqS (toF p).f0 s = true := fun e => h ((eqS_iff _ _).1 e)
      have e : atF ((p :: F).map toF) s = if atF (F.map toF) s < 0 then -1 else atF (F.map toF) s + 1 := by
        show idxP _ (toF p :: F.map toF) = _
        unfold idxP
        rw [if_neg hne]; rfl
      rcases pos_spec s v F with ⟨a1, a2, a3, a4⟩ | ⟨k, x, a1, a2, a3, a4, a5, a6⟩
      · refine .inl ⟨by simp [lookM, h, a1], by rw [e, a2]; rfl, by simp [put, h, a3], by simp [del, h, a4]⟩
      · refine .inr ⟨k + 1, x, by simpa using a1, ?_, by simp [lookM, h, a3], by simpa using a4, by simp [put, h, a5], by simp [del, h, a6]⟩
        rw [e, a2, if_neg (by omega)]; rfl
/-- The document's files, laid open. -/
theorem doc_parts {w0 w : World} {p : Nat} {F : List S48} {l : List Asn} (h : Sat w0 w (ADoc w0.heap.size p F :: l)) :
    ∃ A c D, w.heap[p]? = some (.cells #[.slice A F.length c] 40 (0, 0)) ∧ Kd.N k48 48 w w0.heap.size D (.slice A F.length c) F ∧ (∀ k, D k → w0.heap.size ≤ k ∧ k < w.heap.size ∧ k ≠ p) ∧ F.length ≤ c ∧ F.length ≤ 32 ∧ Kd.C k48 w A F.length F ∧ w0.heap.size ≤ p ∧
      ∀ w1 v F', Below w0.heap.size w0 w1 → Kept w w1 (fun k => D k ∨ k = p) → w1.heap[p]? = some (.cells #[v] 40 (0, 0)) → Kd.N k48 48 w1 w0.heap.size (fun k => D k ∨ w.heap.size ≤ k) v F' → F'.length ≤ 32 → Sat w0 w1 (ADoc w0.heap.size p F' :: l) := by
  obtain ⟨D, hP, hD, _, hclose⟩ := h.open_
  obtain ⟨v, h1, h2, h3, h4⟩ := (ADoc w0.heap.size p F).bound hP
  obtain ⟨A, c, rfl, hl, hC⟩ := Kd.N_reads h3
  refine ⟨A, c, (fun k => (D k ∧ k < w.heap.size) ∧ k ≠ p), h1, h3, fun k hk => ⟨(hD k hk.1.1).1, hk.1.2, hk.2⟩, hl, h4, hC, (hD p h2.1).1, fun w1 v F' hb hk hp hN hl' => ?_⟩
  refine hclose w1 (ADoc w0.heap.size p F') (fun k => D k ∨ w.heap.size ≤ k) hb (hk.mono (fun k hk => ?_)) ⟨v, hp, .inl h2.1, Kd.N_mono hN (fun k hk => ?_), hl'⟩ (fun k hk => hk)
  · rcases hk with hk | hk
    · exact hk.1.1
    · rw [hk]; exact h2.1
  · rcases hk with hk | hk
    · exact ⟨.inl hk.1.1, hk.2⟩
    · exact ⟨.inr hk, fun e => by have := blk_lt h1; omega⟩
theorem wrap_ok {i : Int} (h0 : 0 ≤ i) (h1 : i < 9223372036854775807) : IntKind.i64.wrap i = i := (i64_w _).trans (by unfold wrap64; omega)
theorem info48 : (Try.prog.info? 48).map (fun i => (i.zero, i.size, i.bytes)) = some (some (.agg #[.string ⟨#[]⟩, .slice none 0 0]), 2, 40) := by kernel_rfl
theorem below_da (w : World) (o : Obj) : Below w.heap.size w (w.alloc o).drew := below_drew (below_alloc (Below.refl _ _) o)
theorem setCell_one {w : World} {p : Nat} {u v : Value} {t : TypeId} (h : w.heap[p]? = some (.cells #[u] t (0, 0))) : (w.setCell ⟨p, 0, none⟩ v).heap[p]? = some (.cells #[v] t (0, 0)) := blk_set h 0 v
set_option maxHeartbeats 1000000 in
set_option maxRecDepth 100000 in
theorem DocDelete_calls {w0 w : World} {l : List Asn} {p : Nat} {F : List (ByteArray × List Int)} (HS : Sat w0 w (ADoc w0.heap.size p (F.map toF) :: l)) (s : ByteArray) (hn : s.size ≤ 1000) :
    Calls Try.prog 14 #[.pointer (some ⟨p, 0, none⟩), .string s] w fun e w' => e = .returned (.int .i64 ((thereE F s).getD 0)) ∧ Sat w0 w' (ADoc w0.heap.size p ((delF F s).map toF) :: l) := by
  replace HS := Aside0.mk HS
  go_enter Try.func14, Try.ntmps14
  go_wp2_with fail
  refine (Name_calls s hn w).mono ?_
  rintro e1 w1 ⟨rfl, hd1⟩
  have HS1 := Aside0.mk (HS.out.drawn hd1)
  clear hd1 HS
  cases hm : mayB s with
  | false =>
    have e : thereE F s = some 2 := by simp [thereE, hm]
    have HE := Aside0.mk e
    clear e hm
    go_wp2
    go_ret
    exact ⟨ret_eq (by rw [HE.out]; rfl), by unfold delF; rw [HE.out]; simpa using HS1.out⟩
  | true =>
    have HM := Aside0.mk hm
    clear hm
    go_wp2_with fail
    refine (At_calls HS1.out s).mono ?_
    rintro e2 w2 ⟨rfl, rfl⟩
    rcases pos_spec s [] F with ⟨a1, a2, _, a4⟩ | ⟨k, x, a1, a2, a3, a4, _, a6⟩
    · have HE := Aside0.mk (show thereE F s = some 3 by simp [thereE, HM.out, a1])
      rw [a2]
      clear a1 a2 a4
      go_wp2
      go_ret
      exact ⟨ret_eq (by rw [HE.out]; rfl), by unfold delF; rw [HE.out]; simpa using HS1.out⟩
    · have HE := Aside0.mk (show thereE F s = none by simp [thereE, HM.out, a3])
      have HDel := Aside0.mk a6
      rw [a2]
      have HK := Aside0.mk a1
      clear a2 a3 a4 a6 a1
      obtain ⟨A, c, D, hg, hN, hD, hlc, h32, hC, hbp, hclose⟩ := doc_parts HS1.out
      have hl : (F.map toF).length = F.length := List.length_map _
      rw [hl] at hg hN hlc h32 hC
      have hkl := HK.out
      obtain ⟨g3, rfl⟩ : ∃ g3, A = some ⟨g3, 0, none⟩ := by
        obtain ⟨g3, cap, e1, _⟩ := Kd.N_form hN (by rw [hl]; omega)
        injection e1 with e1
        exact ⟨g3, e1⟩
      have c0 : w2.cell? ⟨p, 0, none⟩ = some (.slice (some ⟨g3, 0, none⟩) F.length c) := get_cell hg 0
      have hF : Kd.F k48 w2 D (some ⟨g3, 0, none⟩) (F.map toF).length (F.map toF) := by rw [hl]; exact Kd.N_F hN
      have HT := Aside0.mk (show Kd.F k48 w2 D (some ⟨g3, 0, none⟩) k ((F.take k).map toF) from by
        have h := Kd.F_take hF (m := k) (by rw [hl]; omega)
        rw [List.length_take, hl, Nat.min_eq_left (by omega)] at h
        rw [List.map_take]; exact h)
      have HDr := Aside0.mk (show Kd.F k48 w2 D (if c = k + 1 then some ⟨g3, 0, none⟩ else some ⟨g3, (k + 1) * 2, none⟩) (F.length - (k + 1)) ((F.drop (k + 1)).map toF) from by
        have h := Kd.F_cut hF (m := k + 1) (c := c) (by rw [hl]; omega) (by rw [hl]; exact hlc)
        rw [List.length_drop, hl] at h
        rw [List.map_drop]
        have e : (some (⟨g3, 0, none⟩ : Addr)).map (·.add ((k + 1) * k48.sz)) = some ⟨g3, (k + 1) * 2, none⟩ := by
          show some ((⟨g3, 0, none⟩ : Addr).add ((k + 1) * 2)) = _
          rw [add_plain]
        rw [e] at h
        exact h)
      have HTl := Aside0.mk (show ((F.take k).map toF).length = k by rw [List.length_map, List.length_take]; omega)
      have HDl := Aside0.mk (show ((F.drop (k + 1)).map toF).length = F.length - (k + 1) by rw [List.length_map, List.length_drop])
      have HCL := Aside0.mk hclose
      have HDD := Aside0.mk hD
      have HG := Aside0.mk hg
      have HL := Aside0.mk (And.intro h32 hbp)
      have p6 : (k ≤ c) = True := eq_true (by omega)
      have p5 : 0 ≤ (k : Int) := by omega
      have p7 : 0 ≤ (k : Int) + 1 := by omega
      have p8 : (k : Int) ≤ 1000 := by omega
      have p9 : (k : Int) + 1 ≤ F.length := by omega
      have p10 : (k : Int) < F.length := by omega
      have p11 : F.length ≤ c := hlc
      have w1k : IntKind.i64.wrap ((k : Int) + 1) = k + 1 := wrap_ok (by omega) (by omega)
      clear hg hN hD hlc h32 hC hbp hclose hl hkl hF
      have z0 : ∀ o : Obj, (w2.alloc o).cell? ⟨p, 0, none⟩ = some (.slice (some ⟨g3, 0, none⟩) F.length c) := fun o => pw_cell_below (below_alloc (Below.refl _ w2) o) c0
      go_wp2_with fail
      go_region_law (first
        | (((refine Kd.N_append_rows_step k48 (w0 := w2) (W := (w2.alloc (.cells #[] 48)).drew) w2.heap.size (by rfl) (.tmp 17) (.tmp 23) 38 48 _ 40 rfl Try.underlying38 info48 rfl (by decide) (by decide) (.slice (some ⟨w2.heap.size, 0, none⟩) 0 0) [] ((F.take k).map toF) (some ⟨g3, 0, none⟩) k c (fun j => D j ∨ w2.heap.size ≤ j) D rfl rfl ?n1 ?n2 ?n3 ?n4 (below_da _ _) (below_da w2 _).size (by show (0 + k) * 40 ≤ _; have := HK.out; have := HL.out.1; omega) ?_)); (case n1 => exact Kd.N_drew (Kd.N_mono (Kd.R_N (Kd.R_bound (empty_R k48 48 w2))) (fun j hj => .inr hj.2.1))); (case n2 => exact Kd.F_below HT.out (below_da _ _)); (case n3 => exact fun j hj => ⟨.inl hj, fun e => by (have h1 := HDD.out j hj; have h2 : j = w2.heap.size := (by simpa [Value.ownBlock] using e); omega)⟩); (case n4 => exact fun j hj => .inr (Nat.le_trans (below_da w2 (.cells #[] 48)).size hj)); intro v6 w6 hN6 hB6 hG6 hat6; rw [List.nil_append] at hN6; have hb6 := Kd.N_base hN6; obtain ⟨A6, c6, rfl⟩ := Kd.N_slice hN6; rw [HTl.out] at hN6 hb6 hat6 ⊢; have HN6 := Aside0.mk hN6; have HB6 := Aside0.mk hB6; have HH6 := Aside0.mk hb6; have z6 := pw_cell_below hB6 c0; clear hN6 hB6 hG6 hat6 hb6)
        | (((refine Kd.N_append_rows_step k48 (w0 := w2) (W := w6) w2.heap.size (by rfl) (.tmp 24) (.tmp 31) 38 48 _ 40 rfl Try.underlying38 info48 rfl (by decide) (by decide) (.slice A6 k c6) ((F.take k).map toF) ((F.drop (k + 1)).map toF) (if c = k + 1 then some ⟨g3, 0, none⟩ else some ⟨g3, (k + 1) * 2, none⟩) (F.length - (k + 1)) (c - (k + 1)) (fun j => D j ∨ w2.heap.size ≤ j) D rfl rfl HN6.out (Kd.F_below HDr.out HB6.out) (fun j hj => ⟨.inl hj, fun e => by (have h1 := HDD.out j hj; have h2 := HH6.out j e.symm; omega)⟩) (fun j hj => .inr (Nat.le_trans HB6.out.size hj)) HB6.out HB6.out.size (by have := HTl.out; have := HL.out.1; have := HK.out; omega) ?_)); intro v7 w7 hN7 hB7 hG7 hat7; obtain ⟨A7, c7, rfl⟩ := Kd.N_slice hN7; obtain ⟨n7, hn7⟩ : ∃ n7, ((F.take k).map toF ++ (F.drop (k + 1)).map toF).length = n7 := ⟨_, rfl⟩; rw [hn7] at hN7 ⊢; clear hn7; have HN7 := Aside0.mk hN7; have HB7 := Aside0.mk hB7; have z7 := pw_cell_below hB7 c0; have f7 : w7.frozen? ⟨p, 0, none⟩ = false := get_frozen (blk_below HG.out hB7) 0; clear hN7 hB7 hG7 hat7))
      all_goals go_wp2
      all_goals (
        go_ret
        exact ⟨ret_eq (by rw [HE.out]; rfl), by
          have e : ((delF F s).map toF) = (F.take k).map toF ++ (F.drop (k + 1)).map toF := by
            unfold delF; rw [HE.out, if_pos rfl, HDel.out, List.eraseIdx_eq_take_drop_succ, List.map_append]
          rw [e]
          have hb := HB7.out
          have hne : ∀ j, (D j ∨ w2.heap.size ≤ j) → j ≠ p := fun j hj e => by
            subst e
            rcases hj with hj | hj
            · exact (HDD.out _ hj).2.2 rfl
            · have := blk_lt HG.out; omega
          exact HCL.out _ _ _ ((below_then HS1.out.1 HS1.out.size hb).setCell HL.out.2 _) ((Kept.of_below hb _).setCell (.inl (.inr rfl)) _) (setCell_one (blk_below HG.out hb)) (Kd.N_far (Kd.N_lower HN7.out HS1.out.size) hne _) (by rw [List.length_append, HTl.out, HDl.out]; have := HK.out; have := HL.out.1; omega)⟩)
end Go.Proofs.Ytlgfdokdckaejaa.MineFilesPlay
