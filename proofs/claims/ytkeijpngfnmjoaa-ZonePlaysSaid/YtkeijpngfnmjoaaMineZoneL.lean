/- Zones: a zone that is taken, by the program. Conditions: the rows are short. -/
import Derived.Test.YtkeijpngfnmjoaaMineZoneI
import Derived.Test.YtkeijpngfnmjoaaMineZoneKB
namespace Go.Proofs.Ytkeijpngfnmjoaa.MineZone
open Go.Lib Go.Shelf Go.RowKit Go.MapKept Go.Proofs.YtkeijpngfnmjoaaW.PrintWords Go.Proofs.YtkeijpngfnmjoaaW.PrintLast Go.Proofs.YtkeijpngfnmjoaaW.PrintMore Go.Proofs.Ytkeijpngfnmjoaa.MineBase Go.Proofs.Ytkeijpngfnmjoaa.MineSep Go.Proofs.Ytkeijpngfnmjoaa.MineRows Go.Proofs.Ytkeijpngfnmjoaa.MineGen Go.Proofs.Ytkeijpngfnmjoaa.QZonePlays Go.Proofs.Ytkeijpngfnmjoaa.MineMap
attribute [local go_sem ↓] Go.wp_at_zero Go.wp_at_succ
set_option linter.unusedVariables false
set_option linter.unusedSimpArgs false
set_option maxHeartbeats 4000000 in
set_option maxRecDepth 100000 in
theorem Add_yes {w0 w : World} {l : List Asn} {z m : Nat} {v : Value} {zs : List S82} {F : List (Int × Value)} (h : Sat w0 w (ABlk z (.cells #[v, .map (some m)] 133 (0, 0)) :: ARowN k82 75 w0.heap.size v zs :: AMapF m F :: l)) (hfew : zs.length ≤ 900) (x : S82) (A4 : Option Addr) (c4 : Nat) (A5 : Option Addr) (c5 : Nat)
    (h4 : ∀ W L, Sat w0 W (L ++ l) → (Kd.int .i64).C W A4 x.f4.length x.f4) (h5 : ∀ W L, Sat w0 W (L ++ l) → (Kd.int .i64).C W A5 x.f5.length x.f5) (hc4 : x.f4.length ≤ c4) (hc5 : x.f5.length ≤ c5) (hn4 : x.f4.length ≤ 100) (hn5 : x.f5.length ≤ 100)
    (ho : Ok x) (hcl : zs.any (clash x) = false) (hI : Inv zs) :
    Calls Try.prog 40 #[.pointer (some ⟨z, 0, none⟩), .agg #[.int .i64 x.f0, .int .i64 x.f1, .int .i64 x.f2, .int .i64 x.f3, .slice A4 x.f4.length c4, .slice A5 x.f5.length c5]] w fun e w' => e = .returned .nilIface ∧ ∃ v', Sat w0 w' (ABlk z (.cells #[v', .map (some m)] 133 (0, 0)) :: ARowN k82 75 w0.heap.size v' (addZ zs x) :: AMapF m (putAll (putAll F (.int .i64 1) x.f4) (.int .i64 2) x.f5) :: l) := by
  have H := Aside0.mk h
  have H4 := Aside0.mk h4
  have H5 := Aside0.mk h5
  have HC4 := Aside0.mk hc4
  have HC5 := Aside0.mk hc5
  have HI := Aside0.mk hI
  have HO := Aside0.mk ho
  have HF := Aside0.mk hfew
  have HCL := Aside0.mk hcl
  have HN4 := Aside0.mk hn4
  have HN5 := Aside0.mk hn5
  obtain ⟨W, hWe⟩ : ∃ W, w.alloc (.cells #[.int .i64 x.f0, .int .i64 x.f1, .int .i64 x.f2, .int .i64 x.f3, .slice A4 x.f4.length c4, .slice A5 x.f5.length c5] 75) = W := ⟨_, rfl⟩
  have hW := Aside0.mk (show Sat w0 W (ABlk w.heap.size (.cells #[.int .i64 x.f0, .int .i64 x.f1, .int .i64 x.f2, .int .i64 x.f3, .slice A4 x.f4.length c4, .slice A5 x.f5.length c5] 75 (0, 0)) :: ABlk z (.cells #[v, .map (some m)] 133 (0, 0)) :: ARowN k82 75 w0.heap.size v zs :: AMapF m F :: l) from by rw [← hWe]; exact blk_new h _)
  have HM := Aside0.mk (may_calls x A4 c4 A5 c5 W (h4 W [_, _, _, _] hW.out) (h5 W [_, _, _, _] hW.out) hn4 hn5 true (by simp [ho]))
  obtain ⟨b, hb⟩ : ∃ b, w.heap.size = b := ⟨_, rfl⟩
  rw [hb] at hW
  have y0 : W.cell? ⟨b, 0, none⟩ = some (.int .i64 x.f0) := get_cell (blk_at hW.out) 0
  have y1 : W.cell? ⟨b, 1, none⟩ = some (.int .i64 x.f1) := get_cell (blk_at hW.out) 1
  have y2 : W.cell? ⟨b, 2, none⟩ = some (.int .i64 x.f2) := get_cell (blk_at hW.out) 2
  have y3 : W.cell? ⟨b, 3, none⟩ = some (.int .i64 x.f3) := get_cell (blk_at hW.out) 3
  have y4 : W.cell? ⟨b, 4, none⟩ = some (.slice A4 x.f4.length c4) := get_cell (blk_at hW.out) 4
  have y5 : W.cell? ⟨b, 5, none⟩ = some (.slice A5 x.f5.length c5) := get_cell (blk_at hW.out) 5
  have hu75 := Try.underlying75
  clear h h4 h5 hc4 hc5 hn4 hn5 ho hcl hI hfew
  go_enter Try.func40, Try.ntmps40
  go_upto_region 1 with fail
  try rw [hWe]
  clear hWe
  try rw [hb]
  clear hb
  go_wp2_with fail
  (with_reducible refine HM.out.mono ?_)
  rintro e1 w1 ⟨rfl, hb1⟩
  have HB1 := Aside0.mk (hW.out.below hb1)
  clear hb1 y0 y1 y2 y3 y4 y5
  obtain ⟨_, hN1, _⟩ := HB1.out.drop.drop.head
  obtain ⟨A, c, hv, _, hC⟩ := Kd.N_reads hN1
  have hz := blk_at HB1.out.drop
  rw [hv] at hz
  have x0 : w1.cell? ⟨z, 0, none⟩ = some (.slice A zs.length c) := get_cell hz 0
  have y0 : w1.cell? ⟨b, 0, none⟩ = some (.int .i64 x.f0) := get_cell (blk_at HB1.out) 0
  have y3 : w1.cell? ⟨b, 3, none⟩ = some (.int .i64 x.f3) := get_cell (blk_at HB1.out) 3
  have hq := Contains1_calls 79 _ _ A c zs w1 hC (by have := HF.out; omega) (tells_clash y0 y3)
  rw [HCL.out] at hq
  have HQ := Aside0.mk hq
  have HV := Aside0.mk hv
  clear hq hz hC y0 y3 hN1
  go_wp2_with fail
  (with_reducible refine HQ.out.mono ?_)
  rintro e2 w2 ⟨rfl, hb2⟩
  have HB2 := Aside0.mk (HB1.out.below hb2)
  clear hb2 HQ HM hW HB1 x0
  have hz := blk_at HB2.out.drop
  rw [HV.out] at hz
  have x0 : w2.cell? ⟨z, 0, none⟩ = some (.slice A zs.length c) := get_cell hz 0
  have y0 : w2.cell? ⟨b, 0, none⟩ = some (.int .i64 x.f0) := get_cell (blk_at HB2.out) 0
  have y1 : w2.cell? ⟨b, 1, none⟩ = some (.int .i64 x.f1) := get_cell (blk_at HB2.out) 1
  have y2 : w2.cell? ⟨b, 2, none⟩ = some (.int .i64 x.f2) := get_cell (blk_at HB2.out) 2
  have y3 : w2.cell? ⟨b, 3, none⟩ = some (.int .i64 x.f3) := get_cell (blk_at HB2.out) 3
  have y4 : w2.cell? ⟨b, 4, none⟩ = some (.slice A4 x.f4.length c4) := get_cell (blk_at HB2.out) 4
  have y5 : w2.cell? ⟨b, 5, none⟩ = some (.slice A5 x.f5.length c5) := get_cell (blk_at HB2.out) 5
  have ew : QZonePlays.zone_own.f x.f0 x.f1 x.f2 x.f3 x.f4 x.f5 = some (x.f0, x.f1, x.f2, x.f3, x.f4, x.f5) := own_f x (by have := HN4.out; omega) (by have := HN5.out; omega)
  have HOWN := Aside0.mk (QZonePlays.zone_own.calls x.f0 x.f1 x.f2 x.f3 A4 c4 x.f4 A5 c5 x.f5 _ _ _ _ _ _ w2.drew (H4.out _ [_, _, _, _] HB2.out.drew) HC4.out (H5.out _ [_, _, _, _] HB2.out.drew) HC5.out ew)
  go_wp2_with fail
  have hS3 := HB2.out.drew.third
  rw [HV.out] at hS3
  obtain ⟨D, hN0, hD0, hcl0⟩ := row_open hS3
  have HN0 := Aside0.mk hN0
  have HD0 := Aside0.mk hD0
  have HCL0 := Aside0.mk hcl0
  clear hN0 hD0 hcl0 hS3
  go_region_law (first
    | (go_simp; go_at_call 80; refine HOWN.out.mono ?_; rintro e3 w3 ⟨v4, v5, rfl, hR4, hR5, hb3⟩; have HBB := Aside0.mk hb3; have HB3 := Aside0.mk (HB2.out.drew.below hb3); have HR4 := Aside0.mk hR4; have HR5 := Aside0.mk hR5; clear hR4 hR5 hb3; have x03 : w3.cell? ⟨z, 0, none⟩ = some (.slice A zs.length c) := (by have hz := blk_at HB3.out.drop; rw [HV.out] at hz; exact get_cell hz 0); have x03b : (w3.alloc (.cells #[.int .i64 x.f0, .int .i64 x.f1, .int .i64 x.f2, .int .i64 x.f3, v4, v5] 75)).cell? ⟨z, 0, none⟩ = some (.slice A zs.length c) := pw_cell_below (below_alloc (Below.refl _ _) _) x03)
    | (refine Kd.N_append_step k82 (w0 := w0) (W := w3) w0.heap.size (by rfl) (.tmp 25) (.tmp 28) 90 75 _ 80 rfl Try.underlying90 info75 rfl (by decide) (by decide) (.slice A zs.length c) zs x [.int .i64 x.f0, .int .i64 x.f1, .int .i64 x.f2, .int .i64 x.f3, v4, v5] (fun k => D k ∨ w2.drew.heap.size ≤ k) (fun k => w2.drew.heap.size ≤ k) rfl rfl (Kd.FK_of_M (k82_mkM _ _ _ x (fresh_R HR4.out) (fresh_R HR5.out))) (fun k hk => ⟨.inr hk, fun e => by have h1 := (HD0.out k (HN0.out.1 k e.symm)).2; omega⟩) (fun k hk => .inr (Nat.le_trans HBB.out.size hk)) (Kd.N_mono (Kd.N_below HN0.out HBB.out) (fun _ h => .inl h)) HB3.out.toBelow HB3.out.size (by have := HF.out; omega) ?_; intro v1 w4 hN1 hB1 hg1 _; obtain ⟨A1, c1, rfl⟩ := Kd.N_slice hN1; rw [show (zs ++ [x]).length = zs.length + 1 from by simp] at hN1; have HS4 := Aside0.mk (show Sat w0 w4 (ARowN k82 75 w0.heap.size (.slice A1 (zs.length + 1) c1) (zs ++ [x]) :: ABlk b (.cells #[.int .i64 x.f0, .int .i64 x.f1, .int .i64 x.f2, .int .i64 x.f3, .slice A4 x.f4.length c4, .slice A5 x.f5.length c5] 75 (0, 0)) :: ABlk z (.cells #[.slice A zs.length c, .map (some m)] 133 (0, 0)) :: AMapF m F :: l) from HCL0.out w4 _ (zs ++ [x]) (grown_then (grown_of_below HBB.out _) hg1) hN1); have hz4 := blk_at HS4.out.drop.drop; have x04 : w4.cell? ⟨z, 0, none⟩ = some (.slice A zs.length c) := get_cell hz4 0; have f04 : w4.frozen? ⟨z, 0, none⟩ = false := get_frozen hz4 0; clear hN1 hB1 hg1 hz4)
    | (trace_state; fail))
  all_goals (
    have HS5 := Aside0.mk (show Sat w0 (w4.setCell ⟨z, 0, none⟩ (.slice A1 (zs.length + 1) c1)) (ABlk z (.cells #[.slice A1 (zs.length + 1) c1, .map (some m)] 133 (0, 0)) :: ARowN k82 75 w0.heap.size (.slice A1 (zs.length + 1) c1) (zs ++ [x]) :: ABlk b (.cells #[.int .i64 x.f0, .int .i64 x.f1, .int .i64 x.f2, .int .i64 x.f3, .slice A4 x.f4.length c4, .slice A5 x.f5.length c5] 75 (0, 0)) :: AMapF m F :: l) from blk_put HS4.out.third 0 _)
    clear HS4 x04 f04
    generalize w4.setCell ⟨z, 0, none⟩ (.slice A1 (zs.length + 1) c1) = w5 at HS5 ⊢
    have hS5 := HS5.out
    clear HS5 HB3 HBB HR4 HR5 HB2 HN0 HD0 HCL0 HOWN x0 x03 y0 y1 y2 y3 y4 y5
    have HS5 := Aside0.mk hS5
    have x0 : w5.cell? ⟨z, 0, none⟩ = some (.slice A1 (zs.length + 1) c1) := get_cell (blk_at HS5.out) 0
    have HQ := Aside0.mk (SortZ_calls HS5.out.swap (by simp) (by have := HF.out; rw [List.length_append, List.length_singleton]; omega))
    clear hS5
    go_wp2_with fail
    (with_reducible refine HQ.out.mono ?_)
    rintro e6 w6 ⟨rfl, zs', hp6, ho6, hS6⟩
    have e7 : zs' = addZ zs x := addZ_unique (inv_add HI.out HO.out (fun y hy => by
      cases hq : clash x y with
      | false => rfl
      | true => exact absurd (List.any_eq_true.2 ⟨y, hy, hq⟩) (by rw [HCL.out]; decide))) hp6 ho6
    subst e7
    have HS4 := Aside0.mk (show Sat w0 w6 (AMapF m F :: ARowN k82 75 w0.heap.size (.slice A1 (zs.length + 1) c1) (addZ zs x) :: ABlk z (.cells #[.slice A1 (zs.length + 1) c1, .map (some m)] 133 (0, 0)) :: ABlk b (.cells #[.int .i64 x.f0, .int .i64 x.f1, .int .i64 x.f2, .int .i64 x.f3, .slice A4 x.f4.length c4, .slice A5 x.f5.length c5] 75 (0, 0)) :: l) from Sat.pull (l1 := [_, _, _]) hS6)
    clear hS6 hp6 ho6 HQ HS5 x0
    have y4 : w6.cell? ⟨b, 4, none⟩ = some (.slice A4 x.f4.length c4) := get_cell (blk_at HS4.out.drop.drop.drop) 4
    go_wp2_with fail
    go_loopg [40] (x.f4.length + 1) (fun kq v40 w' => ∃ (i : Nat) (G : List (Int × Value)), v40 = .int .i64 i ∧ Aside0 (i ≤ x.f4.length ∧ x.f4.length - i < kq) ∧ Aside0 (putAll G (.int .i64 1) (x.f4.drop i) = putAll F (.int .i64 1) x.f4) ∧ Aside0 (Sat w0 w' (AMapF m G :: ARowN k82 75 w0.heap.size (.slice A1 (zs.length + 1) c1) (addZ zs x) :: ABlk z (.cells #[.slice A1 (zs.length + 1) c1, .map (some m)] 133 (0, 0)) :: ABlk b (.cells #[.int .i64 x.f0, .int .i64 x.f1, .int .i64 x.f2, .int .i64 x.f3, .slice A4 x.f4.length c4, .slice A5 x.f5.length c5] 75 (0, 0)) :: l)))
    case atStart => exact ⟨0, F, rfl, ⟨by omega⟩, ⟨by rw [List.drop_zero]⟩, HS4⟩
    case round =>
      clear HS4 y4
      obtain ⟨i, G, rfl, Hi, HE, HS⟩ := hrel
      obtain ⟨wo, rfl⟩ : ∃ y, y = wr := ⟨wr, rfl⟩
      by_cases hlt : i < x.f4.length
      · obtain ⟨n, hn⟩ : ∃ n, x.f4[i]? = some n := ⟨_, List.getElem?_eq_getElem hlt⟩
        have hC := H4.out wo [_, _, _, _] HS.out
        obtain ⟨ad, eA, y0⟩ := Kd.at_int hC (i : Int) (by omega) (by omega)
        have ev : rd x.f4 (i : Int) = n := by
          have := (List.getElem?_eq_some_iff.1 hn).2
          simp [rd, hlt, this]
        rw [ev] at y0
        simp only [Int.toNat_natCast] at y0
        subst eA
        have HN := Aside0.mk hn
        have p1 : (i < x.f4.length) = True := eq_true hlt
        have d0 : decide ((i : Int) < (x.f4.length : Int)) = true := decide_eq_true (by omega)
        have p9 : (i : Int) ≤ 1000 := by have := HN4.out; omega
        have p8 : 0 ≤ (i : Int) := by omega
        have z1 : wo.cell? ⟨z, 1, none⟩ = some (.map (some m)) := get_cell (blk_at HS.out.drop.drop) 1
        obtain ⟨w9, hput, hS9⟩ := mapF_put HS.out n (.int .i64 1)
        have HS9 := Aside0.mk hS9
        clear hS9 hlt hn hC ev
        go_wp2_with fail
        go_roundg (gk - 1)
        case measure => have := Hi.out; have := of_eq_true p1; omega
        case rel => exact ⟨i + 1, _, by go_num, ⟨by have := Hi.out; have := of_eq_true p1; omega⟩, ⟨by
          rw [← HE.out, List.drop_eq_getElem_cons (of_eq_true p1), (List.getElem?_eq_some_iff.1 HN.out).2, putAll]⟩, HS9⟩
      · have p1 : (i < x.f4.length) = False := eq_false hlt
        have d0 : decide ((i : Int) < (x.f4.length : Int)) = false := decide_eq_false (by omega)
        have HG := Aside0.mk (show G = putAll F (.int .i64 1) x.f4 from by
          have h := HE.out
          rw [List.drop_eq_nil_of_le (by omega), putAll] at h
          exact h)
        have eG := HG.out
        subst eG
        clear hlt HE
        have HS5 := HS
        have y5 : wo.cell? ⟨b, 5, none⟩ = some (.slice A5 x.f5.length c5) := get_cell (blk_at HS5.out.drop.drop.drop) 5
        go_wp2_with fail
        go_loopg [53] (x.f5.length + 1) (fun kq v53 w' => ∃ (i : Nat) (G : List (Int × Value)), v53 = .int .i64 i ∧ Aside0 (i ≤ x.f5.length ∧ x.f5.length - i < kq) ∧ Aside0 (putAll G (.int .i64 2) (x.f5.drop i) = putAll (putAll F (.int .i64 1) x.f4) (.int .i64 2) x.f5) ∧ Aside0 (Sat w0 w' (AMapF m G :: ARowN k82 75 w0.heap.size (.slice A1 (zs.length + 1) c1) (addZ zs x) :: ABlk z (.cells #[.slice A1 (zs.length + 1) c1, .map (some m)] 133 (0, 0)) :: ABlk b (.cells #[.int .i64 x.f0, .int .i64 x.f1, .int .i64 x.f2, .int .i64 x.f3, .slice A4 x.f4.length c4, .slice A5 x.f5.length c5] 75 (0, 0)) :: l)))
        case atStart => exact ⟨0, (putAll F (.int .i64 1) x.f4), rfl, ⟨by omega⟩, ⟨by rw [List.drop_zero]⟩, HS5⟩
        case round =>
          clear HS5 y5
          obtain ⟨i, G, rfl, Hi, HE, HS⟩ := hrel
          obtain ⟨wo, rfl⟩ : ∃ y, y = wr := ⟨wr, rfl⟩
          by_cases hlt : i < x.f5.length
          · obtain ⟨n, hn⟩ : ∃ n, x.f5[i]? = some n := ⟨_, List.getElem?_eq_getElem hlt⟩
            have hC := H5.out wo [_, _, _, _] HS.out
            obtain ⟨ad, eA, y0⟩ := Kd.at_int hC (i : Int) (by omega) (by omega)
            have ev : rd x.f5 (i : Int) = n := by
              have := (List.getElem?_eq_some_iff.1 hn).2
              simp [rd, hlt, this]
            rw [ev] at y0
            simp only [Int.toNat_natCast] at y0
            subst eA
            have HN := Aside0.mk hn
            have p1 : (i < x.f5.length) = True := eq_true hlt
            have d0 : decide ((i : Int) < (x.f5.length : Int)) = true := decide_eq_true (by omega)
            have p9 : (i : Int) ≤ 1000 := by have := HN5.out; omega
            have p8 : 0 ≤ (i : Int) := by omega
            have z1 : wo.cell? ⟨z, 1, none⟩ = some (.map (some m)) := get_cell (blk_at HS.out.drop.drop) 1
            obtain ⟨w9, hput, hS9⟩ := mapF_put HS.out n (.int .i64 2)
            have HS9 := Aside0.mk hS9
            clear hS9 hlt hn hC ev
            go_wp2_with fail
            go_roundg (gk - 1)
            case measure => have := Hi.out; have := of_eq_true p1; omega
            case rel => exact ⟨i + 1, _, by go_num, ⟨by have := Hi.out; have := of_eq_true p1; omega⟩, ⟨by
              rw [← HE.out, List.drop_eq_getElem_cons (of_eq_true p1), (List.getElem?_eq_some_iff.1 HN.out).2, putAll]⟩, HS9⟩
          · have p1 : (i < x.f5.length) = False := eq_false hlt
            have d0 : decide ((i : Int) < (x.f5.length : Int)) = false := decide_eq_false (by omega)
            have HG := Aside0.mk (show G = putAll (putAll F (.int .i64 1) x.f4) (.int .i64 2) x.f5 from by
              have h := HE.out
              rw [List.drop_eq_nil_of_le (by omega), putAll] at h
              exact h)
            have eG := HG.out
            subst eG
            clear hlt HE
            go_wp2_with fail
            go_ret
            exact ⟨by rfl, _, ((Sat.pull (l1 := [_, _, _]) HS.out).drop.third).under (fun h => h.swap)⟩)
end Go.Proofs.Ytkeijpngfnmjoaa.MineZone
