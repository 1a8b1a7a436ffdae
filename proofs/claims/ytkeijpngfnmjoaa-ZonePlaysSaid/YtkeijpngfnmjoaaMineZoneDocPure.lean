/- Zones: what the document's functions tell, in plain words. Conditions: the list is short and orderly. -/
import Derived.Test.YtkeijpngfnmjoaaMineZonePureB
import Derived.Test.YtkeijpngfnmjoaaQZoneDocA
namespace Go.Proofs.Ytkeijpngfnmjoaa.MineZone
open Go.RowKit Go.MapKept Go.Proofs.YtkeijpngfnmjoaaW.PrintWords Go.Proofs.YtkeijpngfnmjoaaW.PrintLast Go.Proofs.YtkeijpngfnmjoaaW.PrintMore Go.Proofs.Ytkeijpngfnmjoaa.MineBase Go.Proofs.Ytkeijpngfnmjoaa.MineSep Go.Proofs.Ytkeijpngfnmjoaa.MineRows Go.Proofs.Ytkeijpngfnmjoaa.MineGen Go.Proofs.Ytkeijpngfnmjoaa.QZonePlays Go.Proofs.Ytkeijpngfnmjoaa.MineMap
set_option linter.unusedVariables false
set_option linter.unusedSimpArgs false
theorem in_f (a n f t : Int) (hn : n ≤ 9223372036854775807) (h0 : 0 ≤ t) (h1 : t ≤ 100000) : dowelref05_in.f a n f t = some (inR a n f t) := by
  unfold dowelref05_in.f inR
  by_cases c1 : 1 ≤ n
  · have hw : wrap64 (t - n) = t - n := by unfold wrap64; omega
    rw [if_pos c1, hw]
    by_cases c2 : f ≤ a
    · rw [if_pos c2]
      simp [c1, c2]
    · rw [if_neg c2]
      simp [c1, c2]
  · rw [if_neg c1]
    simp [c1]
theorem CanLoad_l0 {zs : List S82} (a n : Int) (hn : n ≤ 9223372036854775807) (hz : zs.length ≤ 1000) (ho : ∀ y ∈ zs, Ok y) : ∀ (k i : Nat) (met : Bool), i ≤ zs.length → zs.length - i < k → dowelref05_CanLoad.l0 k zs a n met i = some (met || (zs.drop i).any (fun y => inR a n y.f0 y.f2))
  | 0, i, met, _, h => absurd h (by omega)
  | k + 1, i, met, hi, h => by
    rw [dowelref05_CanLoad.l0]
    by_cases hlt : i < zs.length
    · have hd : zs.drop i = zs[i] :: zs.drop (i + 1) := List.drop_eq_getElem_cons hlt
      have ev : rd_T82 zs (i : Int) = zs[i] := by simp [rd_T82, hlt]
      have hO := ho _ (List.getElem_mem hlt)
      generalize zs[i] = y at hd ev hO
      have hin : dowelref05_in.f a n y.f0 y.f2 = some (inR a n y.f0 y.f2) := by
        obtain ⟨⟨g1, g2, g3, g4, g5, g6, _⟩, _⟩ := hO
        exact in_f _ _ _ _ hn (by omega) (by omega)
      have hw : wrap64 ((i : Int) + 1) = ((i + 1 : Nat) : Int) := by clear hin; unfold wrap64; omega
      have q1 : (i : Int) < (zs.length : Int) := by omega
      have q2 : (0 : Int) ≤ (i : Int) := by omega
      rw [if_pos q1, if_pos q2, ev, hin, Option.bind_some, hw, hd, List.any_cons]
      rw [CanLoad_l0 a n hn hz ho k (i + 1) true (by omega) (by omega), CanLoad_l0 a n hn hz ho k (i + 1) _ (by omega) (by omega)]
      cases met <;> simp
    · have e : i = zs.length := by omega
      subst e
      rw [if_neg (by omega), List.drop_length]
      simp
theorem CanLoad_f {zs : List S82} (a n : Int) (hn : n ≤ 9223372036854775807) (hz : zs.length ≤ 1000) (ho : ∀ y ∈ zs, Ok y) : dowelref05_CanLoad.f 2000 zs a n = some (loadZ zs a n) := by
  unfold dowelref05_CanLoad.f
  rw [in_f _ _ _ _ hn (by omega) (by omega), Option.bind_some]
  exact (CanLoad_l0 a n hn hz ho 2000 0 _ (by omega) (by omega)).trans (by rw [List.drop_zero]; rfl)
theorem CanStore_l0 {zs : List S82} (a n : Int) (hn : n ≤ 9223372036854775807) (hz : zs.length ≤ 1000) (ho : ∀ y ∈ zs, Ok y) : ∀ (k i : Nat) (met : Bool), i ≤ zs.length → zs.length - i < k → dowelref05_CanStore.l0 k zs a n met i = some (met || (zs.drop i).any (fun y => inR a n y.f0 y.f1))
  | 0, i, met, _, h => absurd h (by omega)
  | k + 1, i, met, hi, h => by
    rw [dowelref05_CanStore.l0]
    by_cases hlt : i < zs.length
    · have hd : zs.drop i = zs[i] :: zs.drop (i + 1) := List.drop_eq_getElem_cons hlt
      have ev : rd_T82 zs (i : Int) = zs[i] := by simp [rd_T82, hlt]
      have hO := ho _ (List.getElem_mem hlt)
      generalize zs[i] = y at hd ev hO
      have hin : dowelref05_in.f a n y.f0 y.f1 = some (inR a n y.f0 y.f1) := by
        obtain ⟨⟨g1, g2, g3, g4, g5, g6, _⟩, _⟩ := hO
        exact in_f _ _ _ _ hn (by omega) (by omega)
      have hw : wrap64 ((i : Int) + 1) = ((i + 1 : Nat) : Int) := by clear hin; unfold wrap64; omega
      have q1 : (i : Int) < (zs.length : Int) := by omega
      have q2 : (0 : Int) ≤ (i : Int) := by omega
      rw [if_pos q1, if_pos q2, ev, hin, Option.bind_some, hw, hd, List.any_cons]
      rw [CanStore_l0 a n hn hz ho k (i + 1) true (by omega) (by omega), CanStore_l0 a n hn hz ho k (i + 1) _ (by omega) (by omega)]
      cases met <;> simp
    · have e : i = zs.length := by omega
      subst e
      rw [if_neg (by omega), List.drop_length]
      simp
theorem CanStore_f {zs : List S82} (a n : Int) (hn : n ≤ 9223372036854775807) (hz : zs.length ≤ 1000) (ho : ∀ y ∈ zs, Ok y) : dowelref05_CanStore.f 2000 zs a n = some (storeZ zs a n) := by
  unfold dowelref05_CanStore.f
  rw [in_f _ _ _ _ hn (by omega) (by omega), Option.bind_some]
  exact (CanStore_l0 a n hn hz ho 2000 0 _ (by omega) (by omega)).trans (by rw [List.drop_zero]; rfl)
theorem CanRun_l0 {zs : List S82} (a : Int) (hz : zs.length ≤ 1000) : ∀ (k i : Nat), i ≤ zs.length → zs.length - i < k → dowelref05_CanRun.l0 k zs a i = some (decide (a % 4 = 0) && (zs.drop i).any (fun z => decide (z.f2 ≤ a) && decide (a < z.f3)))
  | 0, i, _, h => absurd h (by omega)
  | k + 1, i, hi, h => by
    rw [dowelref05_CanRun.l0]
    by_cases hlt : i < zs.length
    · have hd : zs.drop i = zs[i] :: zs.drop (i + 1) := List.drop_eq_getElem_cons hlt
      have ev : rd_T82 zs (i : Int) = zs[i] := by simp [rd_T82, hlt]
      have hw : wrap64 ((i : Int) + 1) = ((i + 1 : Nat) : Int) := by unfold wrap64; omega
      rw [if_pos (by omega), if_pos (by omega), ev, hw, hd, List.any_cons, CanRun_l0 a hz k (i + 1) (by omega) (by omega)]
      have ht := (⟨fun h => Int.emod_eq_zero_of_dvd (Int.dvd_of_tmod_eq_zero h), fun h => Int.tmod_eq_zero_of_dvd (Int.dvd_of_emod_eq_zero h)⟩ : Int.tmod a 4 = 0 ↔ a % 4 = 0)
      by_cases c1 : zs[i].f2 ≤ a
      · rw [if_pos c1]
        by_cases c2 : a < zs[i].f3
        · rw [if_pos c2]
          by_cases c3 : a % 4 = 0
          · rw [if_pos (ht.2 c3)]
            simp [c1, c2, c3]
          · rw [if_neg (fun h => c3 (ht.1 h))]
            simp [c3]
        · rw [if_neg c2]
          simp [c2]
      · rw [if_neg c1]
        simp [c1]
    · have e : i = zs.length := by omega
      subst e
      rw [if_neg (by omega), List.drop_length]
      simp
theorem CanRun_f {zs : List S82} (a : Int) (hz : zs.length ≤ 1000) : dowelref05_CanRun.f 2000 zs a = some (runZ zs a) := by
  unfold dowelref05_CanRun.f
  exact (CanRun_l0 a hz 2000 0 (by omega) (by omega)).trans (by rw [List.drop_zero]; rfl)
def dcell : List S82 → Int → Int
  | [], _ => 0
  | y :: zs, n => if n ∈ y.f4 then 1 else if n ∈ y.f5 then 2 else dcell zs n
theorem dcell_spec : ∀ (zs : List S82) (n : Int), (dcell zs n = 1 ∧ ∃ x ∈ zs, n ∈ x.f4) ∨ (dcell zs n = 2 ∧ ∃ x ∈ zs, n ∈ x.f5) ∨ (dcell zs n = 0 ∧ ∀ x ∈ zs, n ∉ x.f4 ∧ n ∉ x.f5)
  | [], n => .inr (.inr ⟨rfl, by simp⟩)
  | y :: zs, n => by
    unfold dcell
    by_cases h4 : n ∈ y.f4
    · rw [if_pos h4]
      exact .inl ⟨rfl, y, List.mem_cons_self, h4⟩
    · rw [if_neg h4]
      by_cases h5 : n ∈ y.f5
      · rw [if_pos h5]
        exact .inr (.inl ⟨rfl, y, List.mem_cons_self, h5⟩)
      · rw [if_neg h5]
        rcases dcell_spec zs n with ⟨h1, x, hx, h2⟩ | ⟨h1, x, hx, h2⟩ | ⟨h1, h2⟩
        · exact .inl ⟨h1, x, List.mem_cons_of_mem _ hx, h2⟩
        · exact .inr (.inl ⟨h1, x, List.mem_cons_of_mem _ hx, h2⟩)
        · refine .inr (.inr ⟨h1, fun x hx => ?_⟩)
          rcases List.mem_cons.1 hx with rfl | hx
          · exact ⟨h4, h5⟩
          · exact h2 x hx
theorem dcell_cell {zs : List S82} (h : Inv zs) (n : Int) : dcell zs n = cellK zs n := by
  rcases dcell_spec zs n with ⟨h1, x, hx, h2⟩ | ⟨h1, x, hx, h2⟩ | ⟨h1, h2⟩
  · rw [h1, cellK_of4 hx h2]
  · rw [h1, cellK_of5 h hx h2]
  · rw [h1, cellK_of0 h2]
/-- A place of four bytes has a byte. -/
theorem has_byte {p a : Int} (h4 : p % 4 = 0) (h0 : 0 ≤ p) (h1 : p ≤ 100000) : (p ≤ a ∧ a < wrap64 (p + 4)) ↔ p = a / 4 * 4 := by
  unfold wrap64
  omega
def CellL (l : List Int) : Prop := ∀ p ∈ l, p % 4 = 0 ∧ 0 ≤ p ∧ p ≤ 100000
theorem ok_cellL {x : S82} (h : Ok x) : CellL x.f4 ∧ CellL x.f5 := by
  obtain ⟨⟨g1, g2, g3, g4, g5, g6, _⟩, hp, hq⟩ := h
  refine ⟨fun p hp' => ?_, fun p hp' => ?_⟩
  · have := fine_mem hp hp'; omega
  · have := fine_mem hq hp'; omega
theorem Cell_l2 {zs : List S82} (a : Int) (i : Nat) (hi : i < zs.length) (hz : zs.length ≤ 1000) (hn : zs[i].f5.length ≤ 1000) (hc : CellL zs[i].f5) : ∀ (j k : Nat), j ≤ zs[i].f5.length → dowelref05_Cell.l2 (zs[i].f5.length - j + 1 + k) zs a i j = if (a / 4 * 4) ∈ zs[i].f5.drop j then some 2 else dowelref05_Cell.l0 k zs a ((i + 1 : Nat) : Int) := by
  intro j k hj
  obtain ⟨m, hm⟩ : ∃ m, m = zs[i].f5.length - j := ⟨_, rfl⟩
  induction m generalizing j with
  | zero =>
    have ej : j = zs[i].f5.length := by omega
    have ev : rd_T82 zs (i : Int) = zs[i] := by simp [rd_T82, hi]
    have hw : wrap64 ((i : Int) + 1) = ((i + 1 : Nat) : Int) := by unfold wrap64; omega
    rw [← hm, show 0 + 1 + k = k + 1 by omega, dowelref05_Cell.l2, if_pos (by omega), if_pos (by omega), ev, if_neg (by omega), hw, List.drop_eq_nil_of_le (by omega), if_neg (by simp)]
  | succ m ih =>
    have hlt : j < zs[i].f5.length := by omega
    have ev : rd_T82 zs (i : Int) = zs[i] := by simp [rd_T82, hi]
    have er : rd zs[i].f5 (j : Int) = zs[i].f5[j] := by simp [rd, hlt]
    have hw : wrap64 ((j : Int) + 1) = ((j + 1 : Nat) : Int) := by unfold wrap64; omega
    have hp := hc _ (List.getElem_mem hlt)
    have hb := has_byte (a := a) hp.1 hp.2.1 hp.2.2
    have ih := ih (j + 1) (by omega) (by omega)
    rw [show zs[i].f5.length - (j + 1) + 1 + k = m + 1 + k by omega] at ih
    rw [← hm, show m + 1 + 1 + k = (m + 1 + k) + 1 by omega, dowelref05_Cell.l2, if_pos (by omega), if_pos (by omega), ev, if_pos (by omega), if_pos (by omega), er, hw, ih, List.drop_eq_getElem_cons hlt]
    by_cases hq : a / 4 * 4 = zs[i].f5[j]
    · have h2 := hb.2 hq.symm
      rw [if_pos h2.1, if_pos h2.2, if_pos (by rw [hq]; exact List.mem_cons_self)]
    · have e1 : ((a / 4 * 4) ∈ zs[i].f5[j] :: zs[i].f5.drop (j + 1)) ↔ (a / 4 * 4) ∈ zs[i].f5.drop (j + 1) := by
        rw [List.mem_cons]
        exact ⟨fun h => h.resolve_left hq, .inr⟩
      simp only [e1]
      by_cases h3 : zs[i].f5[j] ≤ a
      · rw [if_pos h3, if_neg (fun h4 => hq (hb.1 ⟨h3, h4⟩).symm)]
      · rw [if_neg h3]
theorem Cell_l1 {zs : List S82} (a : Int) (i : Nat) (hi : i < zs.length) (hz : zs.length ≤ 1000) (hn : zs[i].f4.length ≤ 1000) (hc : CellL zs[i].f4) : ∀ (j k : Nat), j ≤ zs[i].f4.length → dowelref05_Cell.l1 (zs[i].f4.length - j + 1 + k) zs a i j = if (a / 4 * 4) ∈ zs[i].f4.drop j then some 1 else dowelref05_Cell.l2 k zs a i 0 := by
  intro j k hj
  obtain ⟨m, hm⟩ : ∃ m, m = zs[i].f4.length - j := ⟨_, rfl⟩
  induction m generalizing j with
  | zero =>
    have ej : j = zs[i].f4.length := by omega
    have ev : rd_T82 zs (i : Int) = zs[i] := by simp [rd_T82, hi]
    rw [← hm, show 0 + 1 + k = k + 1 by omega, dowelref05_Cell.l1, if_pos (by omega), if_pos (by omega), ev, if_neg (by omega), List.drop_eq_nil_of_le (by omega), if_neg (by simp)]
  | succ m ih =>
    have hlt : j < zs[i].f4.length := by omega
    have ev : rd_T82 zs (i : Int) = zs[i] := by simp [rd_T82, hi]
    have er : rd zs[i].f4 (j : Int) = zs[i].f4[j] := by simp [rd, hlt]
    have hw : wrap64 ((j : Int) + 1) = ((j + 1 : Nat) : Int) := by unfold wrap64; omega
    have hp := hc _ (List.getElem_mem hlt)
    have hb := has_byte (a := a) hp.1 hp.2.1 hp.2.2
    have ih := ih (j + 1) (by omega) (by omega)
    rw [show zs[i].f4.length - (j + 1) + 1 + k = m + 1 + k by omega] at ih
    rw [← hm, show m + 1 + 1 + k = (m + 1 + k) + 1 by omega, dowelref05_Cell.l1, if_pos (by omega), if_pos (by omega), ev, if_pos (by omega), if_pos (by omega), er, hw, ih, List.drop_eq_getElem_cons hlt]
    by_cases hq : a / 4 * 4 = zs[i].f4[j]
    · have h2 := hb.2 hq.symm
      rw [if_pos h2.1, if_pos h2.2, if_pos (by rw [hq]; exact List.mem_cons_self)]
    · have e1 : ((a / 4 * 4) ∈ zs[i].f4[j] :: zs[i].f4.drop (j + 1)) ↔ (a / 4 * 4) ∈ zs[i].f4.drop (j + 1) := by
        rw [List.mem_cons]
        exact ⟨fun h => h.resolve_left hq, .inr⟩
      simp only [e1]
      by_cases h3 : zs[i].f4[j] ≤ a
      · rw [if_pos h3, if_neg (fun h4 => hq (hb.1 ⟨h3, h4⟩).symm)]
      · rw [if_neg h3]
theorem Cell_l0 {zs : List S82} (a : Int) (hz : zs.length ≤ 1000) (ho : ∀ y ∈ zs, Ok y ∧ y.f4.length ≤ 100 ∧ y.f5.length ≤ 100) : ∀ (m i : Nat), m = zs.length - i → i ≤ zs.length → ∃ k, ∀ k', dowelref05_Cell.l0 (k + k') zs a i = some (dcell (zs.drop i) (a / 4 * 4)) := by
  intro m
  induction m with
  | zero =>
    intro i hm hi
    have e : i = zs.length := by omega
    subst e
    refine ⟨1, fun k' => ?_⟩
    rw [show 1 + k' = k' + 1 by omega, dowelref05_Cell.l0, if_neg (by omega), List.drop_length]
    rfl
  | succ m ih =>
    intro i hm hi
    have hlt : i < zs.length := by omega
    obtain ⟨k, hk⟩ := ih (i + 1) (by omega) (by omega)
    obtain ⟨hO, hn4, hn5⟩ := ho _ (List.getElem_mem hlt)
    have hL := ok_cellL hO
    refine ⟨zs[i].f4.length + 1 + (zs[i].f5.length + 1 + k) + 1, fun k' => ?_⟩
    have h1 := Cell_l1 a i hlt hz (by omega) hL.1 0 (zs[i].f5.length + 1 + (k + k')) (by omega)
    have h2 := Cell_l2 a i hlt hz (by omega) hL.2 0 (k + k') (by omega)
    rw [Nat.sub_zero, List.drop_zero] at h1 h2
    rw [hk k'] at h2
    rw [show zs[i].f4.length + 1 + (zs[i].f5.length + 1 + k) + 1 + k' = (zs[i].f4.length + 1 + (zs[i].f5.length + 1 + (k + k'))) + 1 by omega, dowelref05_Cell.l0, if_pos (by omega)]
    have e0 : ((0 : Nat) : Int) = 0 := rfl
    rw [e0] at h1 h2
    rw [h1, h2, List.drop_eq_getElem_cons hlt]
    rw [dcell]
    by_cases c4 : a / 4 * 4 ∈ zs[i].f4
    · simp [c4]
    · by_cases c5 : a / 4 * 4 ∈ zs[i].f5
      · simp [c4, c5]
      · simp [c4, c5]
theorem Cell_f {zs : List S82} (a : Int) (hz : zs.length ≤ 1000) (ho : ∀ y ∈ zs, Ok y ∧ y.f4.length ≤ 100 ∧ y.f5.length ≤ 100) (hI : Inv zs) : ∃ k, dowelref05_Cell.f k zs a = some (cellZ zs a) := by
  obtain ⟨k, hk⟩ := Cell_l0 a hz ho zs.length 0 (by omega) (by omega)
  refine ⟨k, ?_⟩
  have h := hk 0
  rw [List.drop_zero, dcell_cell hI] at h
  unfold dowelref05_Cell.f cellZ
  by_cases ha : a < 0
  · rw [if_pos ha]
    refine h.trans ?_
    congr 1
    exact cellK_of0 (fun x hx => ⟨fun hn => by have := (hI.1 x hx).cell (.inl hn); omega, fun hn => by have := (hI.1 x hx).cell (.inr hn); omega⟩)
  · rw [if_neg ha]
    exact h
theorem Fits_l0 {zs : List S82} (v : Int) (hz : zs.length ≤ 1000) : ∀ (k i : Nat), i ≤ zs.length → zs.length - i < k → dowelref05_Fits.l0 k zs v i = some ((zs.drop i).any (fun z => decide (z.f0 ≤ v) && decide (v < z.f2)))
  | 0, i, _, h => absurd h (by omega)
  | k + 1, i, hi, h => by
    rw [dowelref05_Fits.l0]
    by_cases hlt : i < zs.length
    · have hd : zs.drop i = zs[i] :: zs.drop (i + 1) := List.drop_eq_getElem_cons hlt
      have ev : rd_T82 zs (i : Int) = zs[i] := by simp [rd_T82, hlt]
      have hw : wrap64 ((i : Int) + 1) = ((i + 1 : Nat) : Int) := by unfold wrap64; omega
      rw [if_pos (by omega), if_pos (by omega), ev, hw, hd, List.any_cons, Fits_l0 v hz k (i + 1) (by omega) (by omega)]
      by_cases c1 : zs[i].f0 ≤ v
      · rw [if_pos c1]
        by_cases c2 : v < zs[i].f2
        · rw [if_pos c2]
          simp [c1, c2]
        · rw [if_neg c2]
          simp [c2]
      · rw [if_neg c1]
        simp [c1]
    · have e : i = zs.length := by omega
      subst e
      rw [if_neg (by omega), List.drop_length]
      simp
theorem Fits_f {zs : List S82} (k v : Int) (hz : zs.length ≤ 1000) : dowelref05_Fits.f 2001 zs k v = some (fitsZ zs k v) := by
  have hr := CanRun_f (zs := zs) v hz
  have hl := Fits_l0 v hz 2000 0 (by omega) (by omega)
  rw [List.drop_zero] at hl
  have e0 : ((0 : Nat) : Int) = 0 := rfl
  rw [e0] at hl
  unfold dowelref05_Fits.f fitsZ
  by_cases c0 : k = 0
  · rw [if_pos c0, if_pos c0]
  rw [if_neg c0, if_neg c0]
  by_cases c1 : k < 0
  · rw [if_pos c1, dowelref05_Fits.j0, if_pos rfl, if_neg (by omega)]
    have : ¬ k = 2 := by omega
    simp [this]
  rw [if_neg c1, dowelref05_Fits.j0]
  by_cases c2 : k > 2
  · rw [if_pos (decide_eq_true c2), if_neg (by omega)]
    have : ¬ k = 2 := by omega
    simp [this]
  rw [if_neg (by simpa using c2)]
  by_cases c3 : v = 0
  · rw [if_pos c3]
    by_cases c4 : k = 1
    · rw [if_pos c4]; simp [c3]
    · rw [if_neg c4]
      have : k = 2 := by omega
      simp [this, c3]
  rw [if_neg c3]
  by_cases c4 : k = 1
  · rw [if_neg (by omega), if_pos c4, hl]
    simp [c3]
  · have c5 : k = 2 := by omega
    rw [if_pos c5, hr, if_neg c4]
    simp [c3, c5]
theorem Ints_l0 {a b : List Int} (hz : a.length ≤ 1000) (he : a.length = b.length) : ∀ (k i : Nat), i ≤ a.length → a.length - i < k → dowelref05_Ints.l0 k a b i = some (a.drop i == b.drop i)
  | 0, i, _, h => absurd h (by omega)
  | k + 1, i, hi, h => by
    rw [dowelref05_Ints.l0]
    by_cases hlt : i < a.length
    · have hlt2 : i < b.length := by omega
      have ev : rd a (i : Int) = a[i] := by simp [rd, hlt]
      have ev2 : rd b (i : Int) = b[i] := by simp [rd, hlt2]
      have hw : wrap64 ((i : Int) + 1) = ((i + 1 : Nat) : Int) := by unfold wrap64; omega
      rw [if_pos (by omega), if_pos (by omega), if_pos (by omega), ev, ev2, hw, Ints_l0 hz he k (i + 1) (by omega) (by omega)]
      have ha : a.drop i = a[i] :: a.drop (i + 1) := List.drop_eq_getElem_cons hlt
      have hb : b.drop i = b[i] :: b.drop (i + 1) := List.drop_eq_getElem_cons hlt2
      by_cases c : a[i] = b[i]
      · rw [if_pos c, ha, hb, c, List.cons_beq_cons, beq_self_eq_true, Bool.true_and]
      · rw [if_neg c, ha, hb, List.cons_beq_cons, beq_eq_false_iff_ne.2 c, Bool.false_and]
    · rw [if_neg (by omega), List.drop_eq_nil_of_le (by omega), List.drop_eq_nil_of_le (by omega)]
      rfl
theorem Ints_f {a : List Int} (hz : a.length ≤ 1000) : dowelref05_Ints.f 2000 a a = some true := by
  unfold dowelref05_Ints.f
  rw [if_pos rfl]
  exact (Ints_l0 hz rfl 2000 0 (by omega) (by omega)).trans (by simp)
end Go.Proofs.Ytkeijpngfnmjoaa.MineZone
