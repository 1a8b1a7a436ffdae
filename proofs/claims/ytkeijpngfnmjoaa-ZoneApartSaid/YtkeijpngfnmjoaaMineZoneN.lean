/- Zones: all of them, by the program: copies of its own. Condition: the list and its rows are short. -/
import Derived.Test.YtkeijpngfnmjoaaMineZoneKB
namespace Go.Proofs.Ytkeijpngfnmjoaa.MineZone
open Go.Lib Go.Shelf Go.RowKit Go.MapKept Go.Proofs.YtkeijpngfnmjoaaW.PrintWords Go.Proofs.YtkeijpngfnmjoaaW.PrintLast Go.Proofs.YtkeijpngfnmjoaaW.PrintMore Go.Proofs.Ytkeijpngfnmjoaa.MineBase Go.Proofs.Ytkeijpngfnmjoaa.MineSep Go.Proofs.Ytkeijpngfnmjoaa.MineRows Go.Proofs.Ytkeijpngfnmjoaa.MineGen Go.Proofs.Ytkeijpngfnmjoaa.QZonePlays Go.Proofs.Ytkeijpngfnmjoaa.MineMap
attribute [local go_sem ↓] Go.wp_at_zero Go.wp_at_succ
set_option linter.unusedVariables false
set_option linter.unusedSimpArgs false
theorem blk_row {w0 W : World} {l : List Asn} {b : Nat} {old cs : Array Value} {t : TypeId} (h : Sat w0 W (ABlk b (.cells old t (0, 0)) :: l)) : Sat w0 (W.setRow b cs) (ABlk b (.cells cs t (0, 0)) :: l) := by
  obtain ⟨D, h1, hD, _, hcl⟩ := h.open_
  have hf : ∀ i, i ≠ b → (W.setRow b cs).heap[i]? = W.heap[i]? := fun i hi => by
    simp only [World.setRow, Array.getElem?_modify]
    rw [if_neg (fun e => hi e.symm)]
  have hs : (W.setRow b cs).heap.size = W.heap.size := by simp [World.setRow]
  have hbb := (hD b h1.2)
  refine hcl _ (ABlk b _) D ?_ ⟨by omega, fun i hi hn => hf i (fun e => hn (by rw [e]; exact h1.2))⟩ ⟨?_, h1.2⟩ (fun k hk => .inl hk)
  · exact h.toBelow.grown (show W.grownBy (W.setRow b cs) (some b) from ⟨rfl, rfl, rfl, by simp, fun i _ hi => setRow_other W b i cs (fun e => hi (by rw [e]))⟩) h.size (fun k hk => by injection hk with hk; subst hk; exact hbb.1)
  · exact setRow_heap W b old cs t _ h1.1
set_option maxHeartbeats 4000000 in
set_option maxRecDepth 100000 in
theorem All_calls {z m : Nat} {zs : List S82} {w : World} (h : ZR z m zs w) (hfew : ∀ y ∈ zs, y.f4.length ≤ 100 ∧ y.f5.length ≤ 100) :
    Calls Try.prog 51 #[.pointer (some ⟨z, 0, none⟩)] w fun e w' => ∃ v, e = .returned v ∧ Sat w w' [ARowN k82 75 w.heap.size v zs] := by
  have H := Aside0.mk h
  have HF := Aside0.mk hfew
  obtain ⟨A, c, hz, hC⟩ := h.row
  have HC := Aside0.mk hC
  have x0 : w.cell? ⟨z, 0, none⟩ = some (.slice A zs.length c) := get_cell hz 0
  have hs : zs.length ≤ 1000 := h.few
  have HS := Aside0.mk hs
  have hN0 : Sat w w [ARowN k82 75 w.heap.size (.slice none 0 0) []] := (Sat.start w).new (A := ARowN k82 75 w.heap.size (.slice none 0 0) []) (Below.refl _ _) (D := fun k => w.heap.size ≤ k) (Kd.N_nil _ _ _ _ _) (fun _ hk => hk)
  have HN0 := Aside0.mk hN0
  have hu75 := Try.underlying75
  clear h hfew hz hC hN0
  go_enter Try.func51, Try.ntmps51
  go_wp2_with fail
  go_loopg [3, 11] (zs.length + 1) (fun kq v3 v11 w' => ∃ i : Nat, v11 = .int .i64 i ∧ Aside0 (i ≤ zs.length ∧ zs.length - i < kq) ∧ Aside0 (Sat w w' [ARowN k82 75 w.heap.size v3 (zs.take i)]))
  case atStart => exact ⟨0, rfl, ⟨by omega⟩, ⟨by rw [List.take_zero]; exact HN0.out⟩⟩
  case round =>
    clear HN0
    obtain ⟨i, rfl, Hi, HW⟩ := hrel
    obtain ⟨wo, rfl⟩ : ∃ y, y = wr := ⟨wr, rfl⟩
    by_cases hlt : i < zs.length
    · obtain ⟨x, hx⟩ : ∃ x, zs[i]? = some x := ⟨_, List.getElem?_eq_getElem hlt⟩
      obtain ⟨ad, A4, c4, A5, c5, eA, y0, y1, y2, y3, y4, y5, hl4, hC4, hl5, hC5⟩ := at_T82 HC.out (i : Int) (by omega) (by omega)
      have ev : rd_T82 zs (i : Int) = x := by
        have := (List.getElem?_eq_some_iff.1 hx).2
        simp [rd_T82, hlt, this]
      rw [ev] at y0 y1 y2 y3 y4 y5 hl4 hC4 hl5 hC5
      simp only [Int.toNat_natCast] at y0 y1 y2 y3 y4 y5
      subst eA
      replace y0 := pw_cell_below HW.out.toBelow y0
      replace y1 := pw_cell_below HW.out.toBelow y1
      replace y2 := pw_cell_below HW.out.toBelow y2
      replace y3 := pw_cell_below HW.out.toBelow y3
      replace y4 := pw_cell_below HW.out.toBelow y4
      replace y5 := pw_cell_below HW.out.toBelow y5
      have hm := HF.out x (List.mem_iff_getElem?.2 ⟨i, hx⟩)
      have HM := Aside0.mk hm
      have HX := Aside0.mk hx
      have p1 : (i < zs.length) = True := eq_true hlt
      have d0 : decide ((i : Int) < (zs.length : Int)) = true := decide_eq_true (by omega)
      have p9 : (i : Int) ≤ 1000 := by omega
      have p8 : 0 ≤ (i : Int) := by omega
      have HX1 := Aside0.mk (blk_new HW.out (.cells #[(.int .i64 0), (.int .i64 0), (.int .i64 0), (.int .i64 0), (.slice none 0 0), (.slice none 0 0)] 75))
      have HC4 := Aside0.mk hC4
      have HC5 := Aside0.mk hC5
      have HL4 := Aside0.mk hl4
      have HL5 := Aside0.mk hl5
      have hsz := HW.out.toBelow
      clear hx hm hlt ev hC4 hC5 hl4 hl5
      go_upto_region 5 with (refine wpList_store_row rfl 75 (.tmp 5) (.tmp 14) rfl wo.heap.size #[.int .i64 x.f0, .int .i64 x.f1, .int .i64 x.f2, .int .i64 x.f3, .slice A4 x.f4.length c4, .slice A5 x.f5.length c5] rfl rfl 75 _ (blk_at HX1.out) (by kernel_rfl) rfl (by simp [Value.oneCell']) ?_; have HX7 := Aside0.mk (blk_row (cs := #[.int .i64 x.f0, .int .i64 x.f1, .int .i64 x.f2, .int .i64 x.f3, .slice A4 x.f4.length c4, .slice A5 x.f5.length c5]) HX1.out))
      refine wp_abs (fun W => Sat w W [ABlk wo.heap.size (.cells #[.int .i64 x.f0, .int .i64 x.f1, .int .i64 x.f2, .int .i64 x.f3, .slice A4 x.f4.length c4, .slice A5 x.f5.length c5] 75 (0, 0)), ARowN k82 75 w.heap.size u3 (zs.take i)]) HX7.out (fun W7 hW7 => ?_)
      replace hW7 := Aside0.mk hW7
      obtain ⟨g, hg⟩ : ∃ g, wo.heap.size = g := ⟨_, rfl⟩
      rw [hg] at hW7 ⊢
      clear HX1 HX7 y0 y1 y2 y3 y4 y5 hsz hg
      have y0 : W7.cell? ⟨g, 0, none⟩ = some (.int .i64 x.f0) := get_cell (blk_at hW7.out) 0
      have y1 : W7.cell? ⟨g, 1, none⟩ = some (.int .i64 x.f1) := get_cell (blk_at hW7.out) 1
      have y2 : W7.cell? ⟨g, 2, none⟩ = some (.int .i64 x.f2) := get_cell (blk_at hW7.out) 2
      have y3 : W7.cell? ⟨g, 3, none⟩ = some (.int .i64 x.f3) := get_cell (blk_at hW7.out) 3
      have y4 : W7.cell? ⟨g, 4, none⟩ = some (.slice A4 x.f4.length c4) := get_cell (blk_at hW7.out) 4
      have y5 : W7.cell? ⟨g, 5, none⟩ = some (.slice A5 x.f5.length c5) := get_cell (blk_at hW7.out) 5
      obtain ⟨D, hN0, hD0, hcl0⟩ := row_open hW7.out.swap
      have HN0 := Aside0.mk hN0
      have HD0 := Aside0.mk hD0
      have HCL0 := Aside0.mk hcl0
      clear hN0 hD0 hcl0
      have ew : QZonePlays.zone_own.f x.f0 x.f1 x.f2 x.f3 x.f4 x.f5 = some (x.f0, x.f1, x.f2, x.f3, x.f4, x.f5) := own_f x (by have := HM.out.1; omega) (by have := HM.out.2; omega)
      have HOWN := Aside0.mk (QZonePlays.zone_own.calls x.f0 x.f1 x.f2 x.f3 A4 c4 x.f4 A5 c5 x.f5 _ _ _ _ _ _ W7 (Kd.C_below HC4.out hW7.out.toBelow) HL4.out (Kd.C_below HC5.out hW7.out.toBelow) HL5.out ew)
      go_wp2_with fail
      (with_reducible refine HOWN.out.mono ?_)
      rintro e3 w3 ⟨v4, v5, rfl, hR4, hR5, hb3⟩
      have HBB := Aside0.mk hb3
      have HB3 := Aside0.mk (hW7.out.below hb3)
      have HR4 := Aside0.mk hR4
      have HR5 := Aside0.mk hR5
      have q1 : (zs.take i).length ≤ 1000 := by rw [List.length_take]; omega
      clear hR4 hR5 hb3 HOWN y0 y1 y2 y3 y4 y5
      go_wp2_with (at_builtin; refine Kd.N_append k82 (w0 := w) (W := w3) w.heap.size rfl (.tmp 15) (.tmp 18) 90 75 _ 80 rfl Try.underlying90 info75 rfl (by decide) (by decide) u3 (zs.take i) x [.int .i64 x.f0, .int .i64 x.f1, .int .i64 x.f2, .int .i64 x.f3, v4, v5] (fun k => D k ∨ W7.heap.size ≤ k) (fun k => W7.heap.size ≤ k) rfl rfl (Kd.FK_of_M (k82_mkM _ _ _ x (fresh_R HR4.out) (fresh_R HR5.out))) (fun k hk => ⟨.inr hk, fun e => by have h1 := (HD0.out k (HN0.out.1 k e.symm)).2; omega⟩) (fun k hk => .inr (Nat.le_trans HBB.out.size hk)) (Kd.N_mono (Kd.N_below HN0.out HBB.out) (fun _ h => .inl h)) HB3.out.toBelow HB3.out.size (by omega) ?_; intro v1 w4 hN1 hB1 hg1 _; have HS4 := Aside0.mk (HCL0.out w4 v1 (zs.take i ++ [x]) (grown_then (grown_of_below HBB.out _) hg1) hN1); clear hN1 hB1 hg1)
      go_roundg (gk - 1)
      case measure => have := Hi.out; have := of_eq_true p1; omega
      case rel => exact ⟨i + 1, by go_num, ⟨by have := Hi.out; have := of_eq_true p1; omega⟩, ⟨by rw [List.take_add_one, HX.out]; exact HS4.out.swap.drop⟩⟩
    · have p1 : (i < zs.length) = False := eq_false hlt
      have d0 : decide ((i : Int) < (zs.length : Int)) = false := decide_eq_false (by omega)
      have HE := Aside0.mk (show zs.take i = zs from List.take_of_length_le (by omega))
      clear hlt
      go_wp2_with fail
      go_ret
      exact ⟨_, rfl, by have := HW.out; rw [HE.out] at this; exact this⟩
end Go.Proofs.Ytkeijpngfnmjoaa.MineZone
