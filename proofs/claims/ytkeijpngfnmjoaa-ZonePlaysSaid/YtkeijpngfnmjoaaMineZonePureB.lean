/- Zones, in plain words: what can be stored can be loaded; where an instruction can be nothing can be loaded; a declared cell can be stored. Condition: the list is orderly. -/
import Derived.Test.YtkeijpngfnmjoaaMineZonePure
namespace Go.Proofs.Ytkeijpngfnmjoaa.MineZone
open Go.RowKit Go.MapKept Go.Proofs.YtkeijpngfnmjoaaW.PrintWords Go.Proofs.YtkeijpngfnmjoaaW.PrintLast Go.Proofs.YtkeijpngfnmjoaaW.PrintMore Go.Proofs.Ytkeijpngfnmjoaa.MineBase Go.Proofs.Ytkeijpngfnmjoaa.MineSep Go.Proofs.Ytkeijpngfnmjoaa.MineRows Go.Proofs.Ytkeijpngfnmjoaa.MineGen Go.Proofs.Ytkeijpngfnmjoaa.QZonePlays Go.Proofs.Ytkeijpngfnmjoaa.MineMap
set_option linter.unusedVariables false
set_option linter.unusedSimpArgs false
theorem inR_iff (a n f t : Int) : inR a n f t = true ↔ 1 ≤ n ∧ f ≤ a ∧ a ≤ t - n := by
  unfold inR
  simp only [Bool.and_eq_true, decide_eq_true_eq]
  exact ⟨fun ⟨⟨h1, h2⟩, h3⟩ => ⟨h1, h2, h3⟩, fun ⟨h1, h2, h3⟩ => ⟨⟨h1, h2⟩, h3⟩⟩
theorem store_load {zs : List S82} (h : Inv zs) (a n : Int) (hs : storeZ zs a n = true) : loadZ zs a n = true := by
  unfold storeZ at hs
  unfold loadZ
  rw [Bool.or_eq_true] at hs ⊢
  rcases hs with hs | hs
  · exact .inl hs
  · obtain ⟨y, hy, hr⟩ := List.any_eq_true.1 hs
    refine .inr (List.any_eq_true.2 ⟨y, hy, ?_⟩)
    rw [inR_iff] at hr ⊢
    obtain ⟨⟨h1, h2, h3, h4, h5, h6, _⟩, _⟩ := h.1 y hy
    omega
theorem run_load {zs : List S82} (h : Inv zs) (a : Int) (hr : runZ zs a = true) (hl : loadZ zs a 1 = true) : False := by
  unfold runZ at hr
  unfold loadZ at hl
  rw [Bool.and_eq_true] at hr
  rw [Bool.or_eq_true] at hl
  obtain ⟨y, hy, hd⟩ := List.any_eq_true.1 hr.2
  simp only [Bool.and_eq_true, decide_eq_true_eq] at hd
  obtain ⟨⟨h1, h2, h3, h4, h5, h6, _⟩, _⟩ := h.1 y hy
  rcases hl with hl | hl
  · rw [inR_iff] at hl
    omega
  · obtain ⟨x, hx, hi⟩ := List.any_eq_true.1 hl
    rw [inR_iff] at hi
    obtain ⟨⟨g1, g2, g3, g4, g5, g6, _⟩, _⟩ := h.1 x hx
    have e := inv_one h hx hy (n := a) ⟨by omega, by omega⟩ ⟨by omega, by omega⟩
    subst e
    omega
theorem cell_store {zs : List S82} (h : Inv zs) (a : Int) (hc : cellZ zs a ≠ 0) : storeZ zs a 1 = true := by
  unfold cellZ at hc
  by_cases ha : a < 0
  · rw [if_pos ha] at hc
    exact absurd rfl hc
  · rw [if_neg ha] at hc
    obtain ⟨x, hx, hn⟩ := cellK_ne0 hc
    have hk := (h.1 x hx).cell hn
    obtain ⟨⟨g1, g2, g3, g4, g5, g6, g7, g8, g9, g10⟩, _⟩ := h.1 x hx
    unfold storeZ
    rw [Bool.or_eq_true]
    refine .inr (List.any_eq_true.2 ⟨x, hx, ?_⟩)
    rw [inR_iff]
    omega
theorem fits_run {zs : List S82} (a : Int) : (!fitsZ zs 2 a || decide (a = 0) || runZ zs a) = true := by
  unfold fitsZ
  by_cases h : a = 0
  · simp [h]
  · simp [h]
theorem fits_load {zs : List S82} (a : Int) : (!fitsZ zs 1 a || decide (a = 0) || loadZ zs a 1) = true := by
  unfold fitsZ
  by_cases h : a = 0
  · simp [h]
  · simp only [h, if_false, decide_false, Bool.false_or, Bool.or_false]
    simp only [show ((1 : Int) = 0) = False from by decide, if_false, if_true]
    cases hq : zs.any (fun z => decide (z.f0 ≤ a) && decide (a < z.f2)) with
    | false => rfl
    | true =>
      obtain ⟨x, hx, hd⟩ := List.any_eq_true.1 hq
      simp only [Bool.and_eq_true, decide_eq_true_eq] at hd
      have : loadZ zs a 1 = true := by
        unfold loadZ
        rw [Bool.or_eq_true]
        exact .inr (List.any_eq_true.2 ⟨x, hx, (inR_iff _ _ _ _).2 ⟨by omega, by omega, by omega⟩⟩)
      rw [this]; rfl
end Go.Proofs.Ytkeijpngfnmjoaa.MineZone
