/- Zones, in plain words: a list that rises, a zone that comes in, a zone that goes, which cell has a byte. No condition but those told. -/
import Derived.Test.YtkeijpngfnmjoaaMineZoneB
namespace Go.Proofs.Ytkeijpngfnmjoaa.MineZone
open Go.RowKit Go.MapKept Go.Proofs.YtkeijpngfnmjoaaW.PrintWords Go.Proofs.YtkeijpngfnmjoaaW.PrintLast Go.Proofs.YtkeijpngfnmjoaaW.PrintMore Go.Proofs.Ytkeijpngfnmjoaa.MineBase Go.Proofs.Ytkeijpngfnmjoaa.MineSep Go.Proofs.Ytkeijpngfnmjoaa.MineRows Go.Proofs.Ytkeijpngfnmjoaa.MineGen Go.Proofs.Ytkeijpngfnmjoaa.QZonePlays Go.Proofs.Ytkeijpngfnmjoaa.MineMap
set_option linter.unusedVariables false
set_option linter.unusedSimpArgs false
instance (a b c d : Int) : Decidable (Places a b c d) := by unfold Places; infer_instance
/-- May a zone be? -/
def Ok (x : S82) : Prop := Places x.f0 x.f1 x.f2 x.f3 ∧ Fine x.f0 x.f1 x.f4 x.f5 ∧ Fine x.f0 x.f1 x.f5 x.f4
/-- Do two zones lie in each other? -/
def clash (x y : S82) : Bool := decide (y.f0 < x.f3) && decide (x.f0 < y.f3)
def Inv (zs : List S82) : Prop := (∀ x ∈ zs, Ok x) ∧ zs.Pairwise (fun a b => a.f3 ≤ b.f0)
def low (x y : S82) : Bool := decide (y.f0 < x.f0)
def addZ (zs : List S82) (x : S82) : List S82 := zs.takeWhile (low x) ++ x :: zs.dropWhile (low x)
def remZ (zs : List S82) (b : Int) : List S82 := zs.filter (fun y => decide (y.f0 ≠ b))
theorem Ok.lt {x : S82} (h : Ok x) : x.f0 < x.f3 := by
  obtain ⟨⟨h1, h2, h3, h4, h5, h6, _⟩, _⟩ := h
  omega
theorem Inv.rise {zs : List S82} (h : Inv zs) : zs.Pairwise (fun a b => a.f0 < b.f0) := by
  obtain ⟨h1, h2⟩ := h
  refine List.Pairwise.imp_of_mem (fun {a b} ha hb hab => ?_) h2
  have := (h1 a ha).lt
  omega
theorem drop_high (x : S82) : ∀ (zs : List S82), zs.Pairwise (fun a b => a.f0 < b.f0) → ∀ y ∈ zs.dropWhile (low x), x.f0 ≤ y.f0
  | [], _, y, hy => by simp at hy
  | z :: zs, hp, y, hy => by
    have hp' := List.pairwise_cons.1 hp
    by_cases hz : low x z = true
    · rw [List.dropWhile_cons_of_pos hz] at hy
      exact drop_high x zs hp'.2 y hy
    · rw [List.dropWhile_cons_of_neg hz] at hy
      have hz' : x.f0 ≤ z.f0 := by simpa [low] using hz
      rcases List.mem_cons.1 hy with rfl | hy
      · exact hz'
      · have := hp'.1 y hy; omega
theorem take_low (x : S82) : ∀ (zs : List S82), ∀ y ∈ zs.takeWhile (low x), y.f0 < x.f0
  | [], y, hy => by simp at hy
  | z :: zs, y, hy => by
    by_cases hz : low x z = true
    · rw [List.takeWhile_cons_of_pos hz] at hy
      rcases List.mem_cons.1 hy with rfl | hy
      · simpa [low] using hz
      · exact take_low x zs y hy
    · rw [List.takeWhile_cons_of_neg hz] at hy
      simp at hy
theorem mem_addZ {zs : List S82} {x y : S82} : y ∈ addZ zs x ↔ y = x ∨ y ∈ zs := by
  unfold addZ
  have := List.takeWhile_append_dropWhile (p := low x) (l := zs)
  rw [List.mem_append, List.mem_cons]
  constructor
  · rintro (h | h | h)
    · exact .inr (this ▸ List.mem_append_left _ h)
    · exact .inl h
    · exact .inr (this ▸ List.mem_append_right _ h)
  · rintro (h | h)
    · exact .inr (.inl h)
    · rw [← this, List.mem_append] at h
      exact h.elim .inl (fun h => .inr (.inr h))
theorem inv_add {zs : List S82} {x : S82} (h : Inv zs) (hx : Ok x) (hc : ∀ y ∈ zs, clash x y = false) : Inv (addZ zs x) := by
  refine ⟨fun y hy => ?_, ?_⟩
  · rcases mem_addZ.1 hy with rfl | hy
    · exact hx
    · exact h.1 y hy
  · have e := List.takeWhile_append_dropWhile (p := low x) (l := zs)
    have hp := h.2
    have hr := h.rise
    rw [← e, List.pairwise_append] at hp
    refine List.pairwise_append.2 ⟨hp.1, List.pairwise_cons.2 ⟨fun y hy => ?_, hp.2.1⟩, fun a ha b hb => ?_⟩
    · have hm : y ∈ zs := e ▸ List.mem_append_right _ hy
      have h1 := drop_high x zs hr y hy
      have h2 := hc y hm
      have h3 := (h.1 y hm).lt
      simp [clash] at h2
      by_cases h4 : y.f0 < x.f3
      · have := h2 h4; omega
      · omega
    · rcases List.mem_cons.1 hb with rfl | hb
      · have hm : a ∈ zs := e ▸ List.mem_append_left _ ha
        have h1 := take_low _ zs a ha
        have h2 := hc a hm
        have h3 := hx.lt
        simp [clash] at h2
        exact h2 (by omega)
      · exact hp.2.2 a ha b hb
theorem addZ_perm (zs : List S82) (x : S82) : (addZ zs x).Perm (zs ++ [x]) := by
  unfold addZ
  have e := List.takeWhile_append_dropWhile (p := low x) (l := zs)
  calc (zs.takeWhile (low x) ++ x :: zs.dropWhile (low x)).Perm (x :: (zs.takeWhile (low x) ++ zs.dropWhile (low x))) := List.perm_middle
    _ = x :: zs := by rw [e]
    List.Perm _ (zs ++ [x]) := (List.perm_append_singleton x zs).symm
theorem rise_unique : ∀ {a b : List S82}, a.Perm b → a.Pairwise (fun x y => x.f0 < y.f0) → b.Pairwise (fun x y => x.f0 < y.f0) → a = b
  | [], b, hp, _, _ => (List.nil_perm.1 hp).symm ▸ rfl
  | x :: a, [], hp, _, _ => absurd hp.length_eq (by simp)
  | x :: a, y :: b, hp, ha, hb => by
    have ha' := List.pairwise_cons.1 ha
    have hb' := List.pairwise_cons.1 hb
    have hxy : x = y := by
      have h1 : x ∈ y :: b := hp.mem_iff.1 List.mem_cons_self
      have h2 : y ∈ x :: a := hp.mem_iff.2 List.mem_cons_self
      rcases List.mem_cons.1 h1 with h1 | h1
      · exact h1
      · rcases List.mem_cons.1 h2 with h2 | h2
        · exact h2.symm
        · have := hb'.1 x h1; have := ha'.1 y h2; omega
    subst hxy
    rw [rise_unique ((List.perm_cons x).1 hp) ha'.2 hb'.2]
theorem addZ_unique {zs l : List S82} {x : S82} (h : Inv (addZ zs x)) (hp : l.Perm (zs ++ [x])) (hs : l.Pairwise (fun a b => a.f0 ≤ b.f0)) : l = addZ zs x := by
  have hq : l.Perm (addZ zs x) := hp.trans (addZ_perm zs x).symm
  refine rise_unique hq ?_ h.rise
  have hne : l.Pairwise (fun a b => a.f0 ≠ b.f0) := (hq.pairwise_iff (fun h => Ne.symm h)).2 (h.rise.imp (fun h => by omega))
  exact (hs.and hne).imp (fun h => by omega)
theorem inv_rem {zs : List S82} (b : Int) (h : Inv zs) : Inv (remZ zs b) := ⟨fun y hy => h.1 y (List.mem_filter.1 hy).1, h.2.filter _⟩
theorem rem_hit {l1 l2 : List S82} {y : S82} (h : Inv (l1 ++ y :: l2)) : remZ (l1 ++ y :: l2) y.f0 = l1 ++ l2 := by
  have hr := List.pairwise_append.1 h.rise
  have h2 := List.pairwise_cons.1 hr.2.1
  have e1 : l1.filter (fun z => decide (z.f0 ≠ y.f0)) = l1 := List.filter_eq_self.2 (fun z hz => by
    have := hr.2.2 z hz y List.mem_cons_self
    exact decide_eq_true (by omega))
  have e2 : l2.filter (fun z => decide (z.f0 ≠ y.f0)) = l2 := List.filter_eq_self.2 (fun z hz => by
    have := h2.1 z hz
    exact decide_eq_true (by omega))
  unfold remZ
  rw [List.filter_append, e1, List.filter_cons_of_neg (by simp), e2]
theorem rem_miss {zs : List S82} {b : Int} (h : ∀ y ∈ zs, y.f0 ≠ b) : remZ zs b = zs := List.filter_eq_self.2 (fun z hz => decide_eq_true (h z hz))
/-! ### cells -/
def cellK (zs : List S82) (n : Int) : Int := if zs.any (fun z => decide (n ∈ z.f4)) then 1 else if zs.any (fun z => decide (n ∈ z.f5)) then 2 else 0
/-- The map of cells. -/
def CellsOf (zs : List S82) (F : List (Int × Value)) : Prop := (keys F).Nodup ∧ ∀ n, lookM F n = if cellK zs n = 0 then none else some (.int .i64 (cellK zs n))
theorem fine_mem {b d : Int} {l o : List Int} (h : Fine b d l o) {n : Int} (hn : n ∈ l) : b ≤ n ∧ n < d ∧ n % 4 = 0 ∧ n ∉ o := by
  obtain ⟨i, hi⟩ := List.mem_iff_getElem?.1 hn
  have := h i n hi
  exact ⟨this.1, this.2.1, this.2.2.1, this.2.2.2.2⟩
theorem Ok.cell {x : S82} (h : Ok x) {n : Int} (hn : n ∈ x.f4 ∨ n ∈ x.f5) : x.f0 ≤ n ∧ n < x.f1 ∧ n % 4 = 0 ∧ n < x.f3 ∧ 272 ≤ n := by
  obtain ⟨⟨h1, h2, h3, h4, h5, h6, _⟩, hp, hq⟩ := h
  rcases hn with hn | hn
  · have := fine_mem hp hn; omega
  · have := fine_mem hq hn; omega
theorem Ok.apart {x : S82} (h : Ok x) {n : Int} (h4 : n ∈ x.f4) (h5 : n ∈ x.f5) : False := (fine_mem h.2.1 h4).2.2.2 h5
theorem cellK_range (zs : List S82) (n : Int) : cellK zs n = 0 ∨ cellK zs n = 1 ∨ cellK zs n = 2 := by
  unfold cellK
  split
  · exact .inr (.inl rfl)
  · split
    · exact .inr (.inr rfl)
    · exact .inl rfl
/-- In an orderly list a cell is of one zone alone. -/
theorem inv_one {zs : List S82} (h : Inv zs) {x y : S82} (hx : x ∈ zs) (hy : y ∈ zs) {n : Int} (h1 : x.f0 ≤ n ∧ n < x.f3) (h2 : y.f0 ≤ n ∧ n < y.f3) : x = y := by
  have hp := h.2
  obtain ⟨i, hi⟩ := List.mem_iff_getElem?.1 hx
  obtain ⟨j, hj⟩ := List.mem_iff_getElem?.1 hy
  obtain ⟨hil, hi⟩ := List.getElem?_eq_some_iff.1 hi
  obtain ⟨hjl, hj⟩ := List.getElem?_eq_some_iff.1 hj
  rw [List.pairwise_iff_getElem] at hp
  rcases Nat.lt_trichotomy i j with hij | hij | hij
  · have := hp i j hil hjl hij
    rw [hi, hj] at this; omega
  · subst hij
    rw [← hi, ← hj]
  · have := hp j i hjl hil hij
    rw [hi, hj] at this; omega
theorem cellK_of4 {zs : List S82} {x : S82} {n : Int} (hx : x ∈ zs) (hn : n ∈ x.f4) : cellK zs n = 1 := by
  unfold cellK
  rw [if_pos (List.any_eq_true.2 ⟨x, hx, decide_eq_true hn⟩)]
theorem cellK_of5 {zs : List S82} (h : Inv zs) {x : S82} {n : Int} (hx : x ∈ zs) (hn : n ∈ x.f5) : cellK zs n = 2 := by
  unfold cellK
  rw [if_neg, if_pos (List.any_eq_true.2 ⟨x, hx, decide_eq_true hn⟩)]
  intro ha
  obtain ⟨y, hy, hy4⟩ := List.any_eq_true.1 ha
  have hy4 := of_decide_eq_true hy4
  have hc := (h.1 x hx).cell (.inr hn)
  have hd := (h.1 y hy).cell (.inl hy4)
  obtain rfl := inv_one h hx hy (n := n) ⟨hc.1, hc.2.2.2.1⟩ ⟨hd.1, hd.2.2.2.1⟩
  exact (h.1 x hx).apart hy4 hn
theorem cellK_of0 {zs : List S82} {n : Int} (h : ∀ x ∈ zs, n ∉ x.f4 ∧ n ∉ x.f5) : cellK zs n = 0 := by
  unfold cellK
  rw [if_neg, if_neg]
  · intro ha
    obtain ⟨y, hy, hy4⟩ := List.any_eq_true.1 ha
    exact (h y hy).2 (of_decide_eq_true hy4)
  · intro ha
    obtain ⟨y, hy, hy4⟩ := List.any_eq_true.1 ha
    exact (h y hy).1 (of_decide_eq_true hy4)
theorem cellK_ne0 {zs : List S82} {n : Int} (h : cellK zs n ≠ 0) : ∃ x ∈ zs, n ∈ x.f4 ∨ n ∈ x.f5 := by
  unfold cellK at h
  split at h
  · rename_i ha
    obtain ⟨y, hy, hy4⟩ := List.any_eq_true.1 ha
    exact ⟨y, hy, .inl (of_decide_eq_true hy4)⟩
  · split at h
    · rename_i _ ha
      obtain ⟨y, hy, hy4⟩ := List.any_eq_true.1 ha
      exact ⟨y, hy, .inr (of_decide_eq_true hy4)⟩
    · exact absurd rfl h
/-- Cells of a zone come to the map. -/
def putAll (F : List (Int × Value)) (v : Value) : List Int → List (Int × Value)
  | [] => F
  | n :: l => putAll (put F n v) v l
theorem look_putAll (v : Value) : ∀ (l : List Int) (F : List (Int × Value)) (n : Int), lookM (putAll F v l) n = if n ∈ l then some v else lookM F n
  | [], F, n => by simp [putAll]
  | m :: l, F, n => by
    rw [putAll, look_putAll v l]
    by_cases h : n ∈ l
    · simp [h]
    · rw [if_neg h]
      by_cases hm : n = m
      · subst hm
        rw [look_put_same]; simp
      · rw [look_put_other _ _ _ _ hm, if_neg (by simp [hm, h])]
theorem nodup_putAll (v : Value) : ∀ (l : List Int) (F : List (Int × Value)), (keys F).Nodup → (keys (putAll F v l)).Nodup
  | [], F, h => h
  | m :: l, F, h => nodup_putAll v l _ (nodup_put F m v h)
def delAll (F : List (Int × Value)) : List Int → List (Int × Value)
  | [] => F
  | n :: l => delAll (del F n) l
theorem look_delAll : ∀ (l : List Int) (F : List (Int × Value)) (n : Int), (keys F).Nodup → lookM (delAll F l) n = if n ∈ l then none else lookM F n
  | [], F, n, _ => by simp [delAll]
  | m :: l, F, n, h => by
    rw [delAll, look_delAll l _ _ (nodup_del F m h)]
    by_cases hl : n ∈ l
    · simp [hl]
    · rw [if_neg hl]
      by_cases hm : n = m
      · subst hm
        rw [look_del_same _ _ h]; simp
      · rw [look_del_other _ _ _ hm, if_neg (by simp [hm, hl])]
theorem nodup_delAll : ∀ (l : List Int) (F : List (Int × Value)), (keys F).Nodup → (keys (delAll F l)).Nodup
  | [], F, h => h
  | m :: l, F, h => nodup_delAll l _ (nodup_del F m h)
theorem cells_nil : CellsOf [] [] := ⟨List.nodup_nil, fun n => rfl⟩
theorem cells_add {zs : List S82} {x : S82} {F : List (Int × Value)} (h : CellsOf zs F) (hi : Inv (addZ zs x)) : CellsOf (addZ zs x) (putAll (putAll F (.int .i64 1) x.f4) (.int .i64 2) x.f5) := by
  refine ⟨nodup_putAll _ _ _ (nodup_putAll _ _ _ h.1), fun n => ?_⟩
  rw [look_putAll, look_putAll, h.2]
  have hx : x ∈ addZ zs x := mem_addZ.2 (.inl rfl)
  by_cases h5 : n ∈ x.f5
  · rw [if_pos h5, cellK_of5 hi hx h5]; rfl
  rw [if_neg h5]
  by_cases h4 : n ∈ x.f4
  · rw [if_pos h4, cellK_of4 hx h4]; rfl
  rw [if_neg h4]
  have e : cellK (addZ zs x) n = cellK zs n := by
    have e4 : (addZ zs x).any (fun z => decide (n ∈ z.f4)) = zs.any (fun z => decide (n ∈ z.f4)) := by
      rw [Bool.eq_iff_iff, List.any_eq_true, List.any_eq_true]
      constructor
      · rintro ⟨y, hy, hd⟩
        rcases mem_addZ.1 hy with rfl | hy
        · exact absurd (of_decide_eq_true hd) h4
        · exact ⟨y, hy, hd⟩
      · rintro ⟨y, hy, hd⟩
        exact ⟨y, mem_addZ.2 (.inr hy), hd⟩
    have e5 : (addZ zs x).any (fun z => decide (n ∈ z.f5)) = zs.any (fun z => decide (n ∈ z.f5)) := by
      rw [Bool.eq_iff_iff, List.any_eq_true, List.any_eq_true]
      constructor
      · rintro ⟨y, hy, hd⟩
        rcases mem_addZ.1 hy with rfl | hy
        · exact absurd (of_decide_eq_true hd) h5
        · exact ⟨y, hy, hd⟩
      · rintro ⟨y, hy, hd⟩
        exact ⟨y, mem_addZ.2 (.inr hy), hd⟩
    unfold cellK
    rw [e4, e5]
  rw [e]
theorem cells_rem {l1 l2 : List S82} {y : S82} {F : List (Int × Value)} (h : CellsOf (l1 ++ y :: l2) F) (hi : Inv (l1 ++ y :: l2)) : CellsOf (l1 ++ l2) (delAll F (y.f4 ++ y.f5)) := by
  refine ⟨nodup_delAll _ _ h.1, fun n => ?_⟩
  rw [look_delAll _ _ _ h.1, h.2]
  have hy : y ∈ l1 ++ y :: l2 := by simp
  have hr := List.pairwise_append.1 hi.rise
  have hr2 := List.pairwise_cons.1 hr.2.1
  by_cases hn : n ∈ y.f4 ++ y.f5
  · rw [if_pos hn, if_pos]
    refine cellK_of0 (fun x hx => ?_)
    have hx' : x ∈ l1 ++ y :: l2 := by
      rcases List.mem_append.1 hx with hx | hx <;> simp [hx]
    have hne : x.f0 ≠ y.f0 := by
      rcases List.mem_append.1 hx with hx | hx
      · have := hr.2.2 x hx y List.mem_cons_self; omega
      · have := hr2.1 x hx; omega
    have hc := (hi.1 y hy).cell (List.mem_append.1 hn)
    have : ∀ (hd : n ∈ x.f4 ∨ n ∈ x.f5), False := fun hd => by
      have hd := (hi.1 x hx').cell hd
      exact hne (by rw [inv_one hi hx' hy (n := n) ⟨hd.1, hd.2.2.2.1⟩ ⟨hc.1, hc.2.2.2.1⟩])
    exact ⟨fun h => this (.inl h), fun h => this (.inr h)⟩
  · rw [if_neg hn]
    have hn' : n ∉ y.f4 ∧ n ∉ y.f5 := by simpa [List.mem_append, not_or] using hn
    have e : cellK (l1 ++ y :: l2) n = cellK (l1 ++ l2) n := by
      unfold cellK
      simp [List.any_append, List.any_cons, hn'.1, hn'.2]
    rw [e]
/-! ### what the document's answers are -/
def inR (a n f t : Int) : Bool := decide (1 ≤ n) && decide (f ≤ a) && decide (a ≤ t - n)
def loadZ (zs : List S82) (a n : Int) : Bool := inR a n 16 272 || zs.any (fun z => inR a n z.f0 z.f2)
def storeZ (zs : List S82) (a n : Int) : Bool := inR a n 16 272 || zs.any (fun z => inR a n z.f0 z.f1)
def runZ (zs : List S82) (a : Int) : Bool := decide (a % 4 = 0) && zs.any (fun z => decide (z.f2 ≤ a) && decide (a < z.f3))
def cellZ (zs : List S82) (a : Int) : Int := if a < 0 then 0 else cellK zs (a / 4 * 4)
def fitsZ (zs : List S82) (k v : Int) : Bool := if k = 0 then true else if k = 1 then decide (v = 0) || zs.any (fun z => decide (z.f0 ≤ v) && decide (v < z.f2)) else decide (k = 2) && (decide (v = 0) || runZ zs v)
end Go.Proofs.Ytkeijpngfnmjoaa.MineZone
