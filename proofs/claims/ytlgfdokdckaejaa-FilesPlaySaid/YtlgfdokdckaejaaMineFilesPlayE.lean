/- Files: what putting a file comes to in the document's list. Conditions: texts and bytes are not too long. -/
import Derived.Test.YtlgfdokdckaejaaMineFilesPlayD
import Derived.Test.YtlgfdokdckaejaaMineFilesKeep
namespace Go.Proofs.Ytlgfdokdckaejaa.MineFilesPlay
open Go.RowKit Go.MapKept Go.Proofs.YtlgfdokdckaejaaW.PrintWords Go.Proofs.YtlgfdokdckaejaaW.PrintLast Go.Proofs.Ytlgfdokdckaejaa.MineBase Go.Proofs.Ytlgfdokdckaejaa.MineSep Go.Proofs.Ytlgfdokdckaejaa.MineRows Go.Proofs.Ytlgfdokdckaejaa.QFilesPlay
open Go.Proofs.Ytlgfdokdckaejaa.MineMap (lookM put del keys)
open Go.Proofs.Ytlgfdokdckaejaa.MineFiles (mayB putE putF thereE delF copy_list)
open Go.Proofs.Ytlgfdokdckaejaa.MineTab (idxP idxP_range shiftI shift_zero shift_hit shift_miss shift_end ret_eq eqS eqS_iff)
set_option linter.unusedVariables false
set_option linter.unusedSimpArgs false
/-- A file whose bytes are a row of the call's own. -/
theorem file_FK {W : World} {base : Nat} {ok okp : Nat → Prop} {v : Value} {bs : List Int} (s : ByteArray) (h : Kd.R (Kd.int .u8) 5 W base ok v bs) (hok : ∀ k, ok k → okp k) : Kd.FK k48 W okp ⟨s, bs⟩ [.string s, v] := by
  obtain ⟨A, c, rfl, hl, _⟩ := Kd.R_reads h
  have hF := Kd.F_mono (Kd.R_F h) hok
  exact fun W' hW => k48_mk W' ⟨s, bs⟩ hl (hF W' hW)
/-- A file's bytes are put in the place of what was there. -/
theorem doc_replace {w0 w w1 : World} {p k : Nat} {F : List S48} {l : List Asn} {v : Value} {bs : List Int} {s : ByteArray} {old : List Int} (h : Sat w0 w (ADoc w0.heap.size p F :: l)) (hb : Below w.heap.size w w1)
    (hR : Kd.R (Kd.int .u8) 5 w1 w.heap.size (fun _ => True) v bs) (hk : F[k]? = some ⟨s, old⟩) :
    ∃ g c u, w1.cell? ⟨p, 0, none⟩ = some (.slice (some ⟨g, 0, none⟩) F.length c) ∧ w1.cell? ⟨g, k * 2 + 1, none⟩ = some u ∧ w1.frozen? ⟨g, k * 2 + 1, none⟩ = false ∧ Sat w0 (w1.setCell ⟨g, k * 2 + 1, none⟩ v) (ADoc w0.heap.size p (F.set k ⟨s, bs⟩) :: l) := by
  have hkl : k < F.length := (List.getElem?_eq_some_iff.1 hk).1
  obtain ⟨A, c, D, hg, hN, hD, hlc, h32, hC, hbp, hclose⟩ := doc_parts h
  obtain ⟨g, cap, e1, hbg, hlt, cells, hgc⟩ := Kd.N_form hN (by omega)
  injection e1 with e1 _ e2
  subst e1 e2
  have hN1 : Kd.N k48 48 w1 w0.heap.size (fun j => D j ∨ w.heap.size ≤ j) (.slice (some ⟨g, 0, none⟩) F.length c) F := Kd.N_mono (Kd.N_below hN hb) (fun j hj => .inl hj)
  obtain ⟨cs, hcl, hcc⟩ : ∃ cs : List Value, cs.length = 2 ∧ (∃ A1 c1, cs = [.string s, .slice A1 old.length c1]) ∧ ∀ j u, cs[j]? = some u → w1.cell? ⟨g, k * 2 + j, none⟩ = some u := by
    have hC1 := Kd.C_below hC hb
    obtain ⟨ad, e, hc⟩ := hC1.2.2 (by omega)
    injection e with e
    subst e
    obtain ⟨cs, hs, hK, hcell⟩ := hc k _ hk
    obtain ⟨A1, c1, e1, _, _⟩ := k48_open hK
    refine ⟨cs, hs, ⟨A1, c1, e1⟩, fun j u hj => ?_⟩
    have := hcell j u hj
    rw [add_plain] at this
    exact this
  obtain ⟨⟨A1, c1, rfl⟩, hcc⟩ := hcc
  have hbg2 : w1.heap[g]? = some (.cells cells 48 (0, 0)) := blk_below hgc hb
  have hs := Kd.N_seg (d := k48) hN1 (k : Int) (by omega) (by omega) (c := [.string s, .slice A1 old.length c1]) (seg := [v]) (j := 1) (x' := ⟨s, bs⟩) (okp := fun j => w.heap.size ≤ j) rfl (by rw [Int.toNat_natCast]; exact hcc) (by show 1 + 1 ≤ 2; omega)
    (by
      have h2 := Kd.R_mono (Kd.R_bound hR) (ok' := fun j => w.heap.size ≤ j) (fun j hj => hj.2.1)
      exact file_FK s h2 (fun _ hj => hj)) (fun j hj => ⟨.inr hj, by omega⟩)
  obtain ⟨h1, h2⟩ := hs
  rw [Int.toNat_natCast] at h1 h2
  refine ⟨g, c, _, get_cell (blk_below hg hb) 0, hcc 1 _ rfl, get_frozen hbg2 _, ?_⟩
  have hDg : D g := hN.1 g rfl
  have hgp : g ≠ p := (hD g hDg).2.2
  have e : w1.setCells g (k * 2 + 1) [v] = w1.setCell ⟨g, k * 2 + 1, none⟩ v := rfl
  have hw : w1.setCells g (k * k48.sz + 1) [v] = w1.setCell ⟨g, k * 2 + 1, none⟩ v := e
  rw [hw] at h1 h2
  refine hclose _ _ _ ((below_then h.1 h.1.size hb).setCell (show w0.heap.size ≤ g from (hD g hDg).1) _) ((Kept.of_below hb _).setCell (.inl (.inl hDg)) _) (blk_far (blk_below hg hb) (Ne.symm hgp) _) h1 (by rw [List.length_set]; exact h32)
theorem map_set {α β : Type} (f : α → β) (l : List α) (k : Nat) (x : α) : (l.set k x).map f = (l.map f).set k (f x) := by rw [List.map_set]
theorem info5 : (Try.prog.info? 5).map (fun i => (i.zero, i.size, i.bytes)) = some (some (.int .u8 0), 1, 1) := by kernel_rfl
set_option maxHeartbeats 1000000 in
set_option maxRecDepth 100000 in
theorem DocPut_calls {w0 w : World} {l : List Asn} {p : Nat} {F : List (ByteArray × List Int)} (HS : Sat w0 w (ADoc w0.heap.size p (F.map toF) :: l)) (s : ByteArray) (hn : s.size ≤ 1000)
    (A0 : Option Addr) (c0 : Nat) (bs : List Int) (hr : Kd.C (Kd.int .u8) w A0 bs.length bs) (hc0 : bs.length ≤ c0) (hl0 : bs.length ≤ 100000) :
    Calls Try.prog 15 #[.pointer (some ⟨p, 0, none⟩), .string s, .slice A0 bs.length c0] w fun e w' => e = .returned (.int .i64 ((putE F s bs).getD 0)) ∧ Sat w0 w' (ADoc w0.heap.size p ((putF F s bs).map toF) :: l) := by
  replace HS := Aside0.mk HS
  replace hr := Aside0.mk hr
  replace hc0 := Aside0.mk hc0
  replace hl0 := Aside0.mk hl0
  go_enter Try.func15, Try.ntmps15
  go_wp2_with fail
  refine (Name_calls s hn w).mono ?_
  rintro e1 w1 ⟨rfl, hd1⟩
  have HS1 := Aside0.mk (HS.out.drawn hd1)
  have HC1 := Aside0.mk (Kd.C_below hr.out hd1.below)
  clear hd1 HS hr
  cases hm : mayB s with
  | false =>
    have HE := Aside0.mk (show putE F s bs = some 2 by simp [putE, hm])
    clear hm
    go_wp2
    go_ret
    exact ⟨ret_eq (by rw [HE.out]; rfl), by unfold putF; rw [HE.out]; simpa using HS1.out⟩
  | true =>
    have HM := Aside0.mk hm
    clear hm
    by_cases h1 : bs.length ≤ 4000
    · have h1b : decide ((4000 : Int) < (bs.length : Int)) = false := decide_eq_false (by omega)
      have H1 := Aside0.mk h1
      clear h1
      go_wp2_with fail
      refine (At_calls HS1.out s).mono ?_
      rintro e2 w2 ⟨rfl, rfl⟩
      rcases pos_spec s bs F with ⟨a1, a2, a3, _⟩ | ⟨k, x, a1, a2, a3, a4, a5, _⟩
      · rw [a2]
        obtain ⟨A, c, D, hg, hN, hD, hlc, h32, hC, hbp, hclose⟩ := doc_parts HS1.out
        have hl : (F.map toF).length = F.length := List.length_map _
        rw [hl] at hg hN hlc h32 hC
        have c0' : w2.cell? ⟨p, 0, none⟩ = some (.slice A F.length c) := get_cell hg 0
        by_cases h2 : 32 ≤ F.length
        · have HE := Aside0.mk (show putE F s bs = some 8 by unfold putE; rw [HM.out, a1]; simp [H1.out, h2])
          have h2b : decide ((32 : Int) ≤ (F.length : Int)) = true := decide_eq_true (by omega)
          clear a1 a2 a3 h2 hg hN hD hlc h32 hC hbp hclose hl
          go_wp2
          go_ret
          exact ⟨ret_eq (by rw [HE.out]; rfl), by unfold putF; rw [HE.out]; simpa using HS1.out⟩
        · have HE := Aside0.mk (show putE F s bs = none by unfold putE; rw [HM.out, a1]; simp [H1.out]; omega)
          have HP := Aside0.mk (show putF F s bs = F ++ [(s, bs)] by unfold putF; rw [if_pos HE.out]; exact a3)
          have h2b : decide ((32 : Int) ≤ (F.length : Int)) = false := decide_eq_false (by omega)
          have HG := Aside0.mk hg
          have HN := Aside0.mk hN
          have HD := Aside0.mk hD
          have HCL := Aside0.mk hclose
          have HL := Aside0.mk (show F.length ≤ 31 ∧ w0.heap.size ≤ p from ⟨by omega, hbp⟩)
          clear a1 a2 a3 h2 hg hN hD hlc h32 hC hbp hclose hl
          have HOB := Aside0.mk (show ∀ k, (Value.slice A F.length c).ownBlock = some k → D k from HN.out.1)
          go_wp2_with (first
            | (at_builtin; refine copy_list rfl (.tmp 30) (.tmp 31) rfl w2 A0 c0 bs rfl rfl HC1.out hl0.out ?_; intro v3 w3 hR3 hb3; have d3 := pw_cell_below hb3 c0'; have HB3 := Aside0.mk hb3; have HFK := Aside0.mk (file_FK (okp := fun j => w2.heap.size ≤ j) s (Kd.R_bound hR3) (fun _ hk => hk.2.1)); obtain ⟨A3, c3, rfl⟩ := Kd.R_slice hR3; clear hR3 hb3)
            | (at_builtin; refine Kd.N_append k48 (w0 := w0) (W := w3) w0.heap.size rfl (.tmp 47) (.tmp 51) 38 48 _ 40 rfl Try.underlying38 info48 rfl (by decide) (by decide) (.slice A F.length c) (F.map toF) ⟨s, bs⟩ [.string s, .slice A3 bs.length c3] (fun j => D j ∨ w2.heap.size ≤ j) (fun j => w2.heap.size ≤ j) rfl (by simp [Act.eval]) HFK.out (fun j hj => ⟨.inr hj, fun e => by (have h1 := HD.out j (HOB.out j e.symm); omega)⟩) (fun j hj => .inr (Nat.le_trans HB3.out.size hj)) (Kd.N_mono (Kd.N_below HN.out HB3.out) (fun j hj => .inl hj)) (below_then HS1.out.1 HS1.out.size HB3.out) (Nat.le_trans HS1.out.size HB3.out.size) (by rw [List.length_map]; have := HL.out.1; omega) ?_; intro v4 w4 hN4 hB4 hG4 hat4; obtain ⟨A4, c4, rfl⟩ := Kd.N_slice hN4; obtain ⟨n4, hn4⟩ : ∃ n4, (F.map toF ++ [(⟨s, bs⟩ : S48)]).length = n4 := ⟨_, rfl⟩; rw [hn4] at hN4 ⊢; clear hn4; have g4 := blk_grown (blk_below HG.out HB3.out) hG4 (fun e => (HD.out p (HOB.out p e.symm)).2.2 rfl); have d4 : w4.cell? ⟨p, 0, none⟩ = some (.slice A F.length c) := get_cell g4 0; have f4 : w4.frozen? ⟨p, 0, none⟩ = false := get_frozen g4 0; have HG4 := Aside0.mk g4; have HN4 := Aside0.mk hN4; have HB4 := Aside0.mk hB4; have HK4 := Aside0.mk (show Kept w2 w4 (fun k => D k ∨ k = p) from Kept.of_grown hG4 (Kept.of_below HB3.out _) (fun k hk => .inl (.inl (HOB.out k hk)))); clear hN4 hB4 hG4 hat4 g4))
          go_ret
          exact ⟨ret_eq (by rw [HE.out]; rfl), by
            rw [HP.out, List.map_append]
            have hne : ∀ j, (D j ∨ w2.heap.size ≤ j) → j ≠ p := fun j hj e => by
              subst e
              rcases hj with hj | hj
              · exact (HD.out _ hj).2.2 rfl
              · have := blk_lt HG.out; omega
            exact HCL.out _ _ _ (HB4.out.setCell HL.out.2 _) (HK4.out.setCell (.inl (.inr rfl)) _) (setCell_one HG4.out) (Kd.N_far HN4.out hne _) (by rw [List.length_append, List.length_map]; have := HL.out.1; simp; omega)⟩
      · have HE := Aside0.mk (show putE F s bs = none by unfold putE; rw [HM.out, a3]; simp [H1.out])
        have HP := Aside0.mk (show putF F s bs = F.set k (s, bs) by unfold putF; rw [if_pos HE.out]; exact a5)
        have hget : (F.map toF)[k]? = some ⟨s, x⟩ := by rw [List.getElem?_map, a4]; rfl
        have HGET := Aside0.mk hget
        rw [a2]
        have hlF : (F.map toF).length = F.length := List.length_map _
        have p8 : 0 ≤ (k : Int) := by omega
        have p9 : (k : Int) < F.length := by omega
        have p10 : (k < F.length) = True := eq_true a1
        clear a1 a2 a3 a4 a5 hget
        go_wp2_with (at_builtin; refine copy_list rfl (.tmp 30) (.tmp 31) rfl w2 A0 c0 bs rfl rfl HC1.out hl0.out ?_; intro v3 w3 hR3 hb3; obtain ⟨g, c, u, d1, d2, d3, hS⟩ := doc_replace HS1.out hb3 hR3 HGET.out; obtain ⟨A3, c3, rfl⟩ := Kd.R_slice hR3; have HS3 := Aside0.mk hS; rw [hlF] at d1; clear hR3 hb3 hS)
        go_ret
        exact ⟨ret_eq (by rw [HE.out]; rfl), by rw [HP.out, map_set]; exact HS3.out⟩
    · have h1b : decide ((4000 : Int) < (bs.length : Int)) = true := decide_eq_true (by omega)
      have HE := Aside0.mk (show putE F s bs = some 13 by simp [putE, HM.out, h1])
      clear h1
      go_wp2
      go_ret
      exact ⟨ret_eq (by rw [HE.out]; rfl), by unfold putF; rw [HE.out]; simpa using HS1.out⟩
end Go.Proofs.Ytlgfdokdckaejaa.MineFilesPlay
