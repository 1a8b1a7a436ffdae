/- Tables of modules: what stays true of the law's own list beside the table's. No condition. -/
import Derived.Test.YtlgfdokdckaejaaMineTabP
import Derived.Deep.Slices
import Derived.ChangeArms
namespace Go.Proofs.Ytlgfdokdckaejaa.MineTab
open Go.RowKit Go.MapKept Go.Proofs.YtlgfdokdckaejaaW.PrintWords Go.Proofs.Ytlgfdokdckaejaa.MineBase Go.Proofs.Ytlgfdokdckaejaa.MineSep Go.Proofs.Ytlgfdokdckaejaa.MineRows Go.Proofs.Ytlgfdokdckaejaa.QTableKeeps
open Go.Proofs.Ytlgfdokdckaejaa.QTablePlays (S54 k54 rd_T54 at_T54)
set_option linter.unusedVariables false
/-- No name comes twice. -/
def Distinct (ms : List S65) : Prop := (ms.map (·.f0)).Nodup
theorem distinct_add {most : Int} {ms : List S65} (h : Distinct ms) (m : S65) : Distinct (addT most ms m) := by
  unfold addT
  by_cases he : addE most ms m = none
  · rw [if_pos he]
    have h0 : ¬ 0 ≤ atI ms m.f0 := fun h0 => by
      unfold addE at he
      rw [if_pos h0] at he
      split at he <;> cases he
    unfold Distinct
    rw [List.map_append, List.map_singleton]
    refine List.nodup_append.2 ⟨h, by simp, fun a ha b hb e => ?_⟩
    rw [List.mem_singleton.1 hb] at e
    subst e
    exact h0 ((atI_nonneg ms _).2 ha)
  · rw [if_neg he]; exact h
theorem map_erase {α β : Type} (f : α → β) : ∀ (l : List α) (k : Nat), (l.eraseIdx k).map f = (l.map f).eraseIdx k
  | [], _ => by simp
  | x :: l, 0 => by simp
  | x :: l, k + 1 => by simp [map_erase f l k]
theorem distinct_drop {ms : List S65} (h : Distinct ms) (s : ByteArray) : Distinct (dropT ms s) := by
  unfold dropT
  cases dropE ms s with
  | false => exact h
  | true =>
    simp only [if_true]
    unfold Distinct
    rw [map_erase]
    exact List.Nodup.sublist (List.eraseIdx_sublist _ _) h
theorem at_distinct : ∀ {ms : List S65} (_ : Distinct ms) {j : Nat} {x : S65}, ms[j]? = some x → atI ms x.f0 = j
  | [], _, j, x, hj => by simp at hj
  | m :: ms, h, 0, x, hj => by
    simp only [List.getElem?_cons_zero, Option.some.injEq] at hj
    subst hj
    unfold atI idxP
    rw [if_pos ((eqS_iff _ _).2 rfl)]; rfl
  | m :: ms, h, j + 1, x, hj => by
    simp only [List.getElem?_cons_succ] at hj
    unfold Distinct at h
    rw [List.map_cons, List.nodup_cons] at h
    have ih := at_distinct (ms := ms) h.2 hj
    have hne : ¬ eqS m.f0 x.f0 = true := fun e => h.1 (by
      rw [(eqS_iff _ _).1 e]
      exact List.mem_map.2 ⟨x, List.mem_of_getElem? hj, rfl⟩)
    unfold atI at ih ⊢
    unfold idxP
    rw [if_neg hne, ih, if_neg (by omega)]
    omega
theorem toM_get {m : List S54} {j : Nat} {d : S54} (h : m[j]? = some d) : (m.map toM)[j]? = some (toM d) := by
  rw [List.getElem?_map, h]; rfl
theorem rd_found {ms : List S65} {j : Nat} {x : S65} (h : ms[j]? = some x) : rd_T65 ms (j : Int) = x := by
  unfold rd_T65
  rw [Int.toNat_natCast, List.getD_eq_getElem?_getD, h]; rfl
theorem dropE_toM (m : List S54) (s : ByteArray) : dropE (m.map toM) s = (decide (0 ≤ atI (m.map toM) s) && decide (refsI (m.map toM) s = 0)) := by
  unfold dropE
  have := refsI_range s (m.map toM)
  by_cases h : refsI (m.map toM) s = 0
  · rw [decide_eq_true h, decide_eq_true (show refsI (m.map toM) s ≤ 0 by omega)]
  · rw [decide_eq_false h, decide_eq_false (show ¬ refsI (m.map toM) s ≤ 0 by omega)]
/-- What the law's own reckoning of an error tells. -/
def badI (room : Int) (m : List S54) (x : S54) : Int := if room ≤ m.length then 8 else if 0 ≤ atI (m.map toM) x.f1 then 1 else if 0 ≤ missI (m.map toM) x.f2 then 3 else 0
theorem badI_code (room : Int) (m : List S54) (x : S54) (h : (m.length : Int) ≤ room) : (addE room (m.map toM) (toM x)).getD 0 = badI room m x := by
  unfold addE badI
  rw [List.length_map]
  by_cases h1 : room - (m.length : Int) = 0
  · rw [if_pos h1, if_pos (by omega)]; rfl
  · rw [if_neg h1, if_neg (show ¬ room ≤ (m.length : Int) by omega)]
    show Option.getD (if 0 ≤ atI (m.map toM) x.f1 then some 1 else if 0 ≤ missI (m.map toM) x.f2 then some 3 else none) 0 = _
    split
    · rfl
    · split <;> rfl
theorem addE_cases (room : Int) (ms : List S65) (x : S65) : ∀ c, addE room ms x = some c → c = 1 ∨ c = 3 ∨ c = 8 := by
  intro c h
  unfold addE at h
  split at h
  · injection h with h; omega
  · split at h
    · injection h with h; omega
    · split at h
      · injection h with h; omega
      · cases h
theorem addT_toM {room : Int} {m : List S54} {x : S54} (h : addE room (m.map toM) (toM x) = none) : addT room (m.map toM) (toM x) = (m ++ [x]).map toM := by
  unfold addT
  rw [if_pos h, List.map_append]; rfl
theorem addT_same {room : Int} {m : List S54} {x : S54} (h : addE room (m.map toM) (toM x) ≠ none) : addT room (m.map toM) (toM x) = m.map toM := by
  unfold addT
  rw [if_neg h]
theorem dropT_toM {m : List S54} {s : ByteArray} (h : dropE (m.map toM) s = true) {k : Nat} (hk : atI (m.map toM) s = k) : dropT (m.map toM) s = (m.take k ++ m.drop (k + 1)).map toM := by
  unfold dropT
  rw [if_pos h, hk, Int.toNat_natCast, ← map_erase, List.eraseIdx_eq_take_drop_succ]
theorem dropT_same {m : List S54} {s : ByteArray} (h : dropE (m.map toM) s = false) : dropT (m.map toM) s = m.map toM := by
  unfold dropT
  rw [h]; rfl
/-- A block of the call's own. -/
def ABlk (b : Nat) (o : Obj) : Asn where
  P := fun w D => w.heap[b]? = some o ∧ D b
  mono := fun hd h => ⟨h.1, hd _ h.2⟩
  bound := fun h => ⟨h.1, h.2, (Array.getElem?_eq_some_iff.1 h.1).1⟩
  move := fun hm h => ⟨(hm _ h.2).trans h.1, h.2⟩
theorem blk_new {w0 W : World} {l : List Asn} (h : Sat w0 W l) (o : Obj) : Sat w0 (W.alloc o) (ABlk W.heap.size o :: l) :=
  h.new (A := ABlk W.heap.size o) (below_alloc (Below.refl _ _) o) (D := fun k => W.heap.size ≤ k) ⟨(MapKept.heap_alloc W o).1, Nat.le_refl _⟩ (fun _ hk => hk)
theorem blk_at {w0 W : World} {l : List Asn} {b : Nat} {o : Obj} (h : Sat w0 W (ABlk b o :: l)) : W.heap[b]? = some o := by
  obtain ⟨D, h1, _⟩ := h.head
  exact h1.1
/-- The deeds whose cells are these. -/
def RefP (m : List S54) (rows : List (List Value)) (w : World) : Prop := rows.length = m.length ∧ ∀ (j : Nat) (x : S54) (c : List Value), m[j]? = some x → rows[j]? = some c → k54.K w x c
theorem RefP.nil (w : World) : RefP [] [] w := ⟨rfl, fun j x c h => by simp at h⟩
theorem RefP.append {m1 m2 : List S54} {r1 r2 : List (List Value)} {w : World} (h1 : RefP m1 r1 w) (h2 : RefP m2 r2 w) : RefP (m1 ++ m2) (r1 ++ r2) w := by
  refine ⟨by rw [List.length_append, List.length_append, h1.1, h2.1], fun j x c hx hc => ?_⟩
  by_cases hj : j < m1.length
  · rw [List.getElem?_append_left hj] at hx
    rw [List.getElem?_append_left (by rw [h1.1]; exact hj)] at hc
    exact h1.2 j x c hx hc
  · rw [List.getElem?_append_right (by omega)] at hx
    rw [List.getElem?_append_right (by rw [h1.1]; omega), h1.1] at hc
    exact h2.2 _ x c hx hc
theorem RefP.take {m : List S54} {r : List (List Value)} {w : World} (h : RefP m r w) (k : Nat) : RefP (m.take k) (r.take k) w := by
  refine ⟨by rw [List.length_take, List.length_take, h.1], fun j x c hx hc => ?_⟩
  rw [List.getElem?_take] at hx hc
  split at hx
  · rename_i hj
    rw [if_pos hj] at hc
    exact h.2 j x c hx hc
  · cases hx
theorem RefP.drop {m : List S54} {r : List (List Value)} {w : World} (h : RefP m r w) (k : Nat) : RefP (m.drop k) (r.drop k) w := by
  refine ⟨by rw [List.length_drop, List.length_drop, h.1], fun j x c hx hc => ?_⟩
  rw [List.getElem?_drop] at hx hc
  exact h.2 _ x c hx hc
theorem RefP.one {x : S54} {c : List Value} {w : World} (h : k54.K w x c) : RefP [x] [c] w := by
  refine ⟨rfl, fun j y d hy hd => ?_⟩
  cases j with
  | zero =>
    simp only [List.getElem?_cons_zero, Option.some.injEq] at hy hd
    subst hy hd
    exact h
  | succ j => simp at hy
/-- A raw row of the deeds' cells is the deeds' row. -/
theorem ref_C {w W : World} {A : Option Addr} {n : Nat} {m : List S54} {rows : List (List Value)} (h : (Kd.raw k54.sz).C W A n rows) (hR : RefP m rows w) (hb : Below w.heap.size w W) : Kd.C k54 W A n m := by
  refine ⟨hR.1.symm.trans h.1, h.2.1, fun hp => ?_⟩
  obtain ⟨ad, e, hc⟩ := h.2.2 hp
  refine ⟨ad, e, fun j p hj => ?_⟩
  have hjl : j < rows.length := by rw [hR.1]; exact (List.getElem?_eq_some_iff.1 hj).1
  obtain ⟨cs, hs, hK, hcell⟩ := hc j _ (List.getElem?_eq_getElem hjl)
  obtain ⟨rfl, _⟩ := hK
  exact ⟨_, hs, k54.K_below hb (hR.2 j p _ hj (List.getElem?_eq_getElem hjl)), hcell⟩
/-- What is read of a row's head. -/
theorem reads_take {α : Type} {K : α → List Value → Prop} {sz : Nat} {W : World} {A : Option Addr} {n k : Nat} {ys : List α} (h : ReadsRow K sz W A n ys) (hk : k ≤ n) : ReadsRow K sz W A k (ys.take k) := by
  refine ⟨by rw [List.length_take, h.1]; omega, Nat.le_trans hk h.2.1, fun hp => ?_⟩
  obtain ⟨ad, e, hc⟩ := h.2.2 (by omega)
  refine ⟨ad, e, fun j p hj => ?_⟩
  rw [List.getElem?_take] at hj
  split at hj
  · exact hc j p hj
  · cases hj
/-- What is read of a row's end. -/
theorem reads_drop {α : Type} {K : α → List Value → Prop} {sz : Nat} {W : World} {A A2 : Option Addr} {n k m : Nat} {ys : List α} (h : ReadsRow K sz W A n ys) (hm : m = n - k) (hA : 0 < m → A2 = A.map (·.add (k * sz))) : ReadsRow K sz W A2 m (ys.drop k) := by
  refine ⟨by rw [List.length_drop, h.1, hm], by have := h.2.1; omega, fun hp => ?_⟩
  obtain ⟨ad, e, hc⟩ := h.2.2 (by omega)
  subst e
  refine ⟨ad.add (k * sz), hA hp, fun j p hj => ?_⟩
  rw [List.getElem?_drop] at hj
  obtain ⟨cs, h1, h2, h3⟩ := hc (k + j) p hj
  refine ⟨cs, h1, h2, fun i u hu => ?_⟩
  have := h3 i u hu
  rw [Go.Deep.add_add]
  rw [show k * sz + (j * sz + i) = (k + j) * sz + i from by rw [Nat.add_mul, Nat.add_assoc]]
  exact this
theorem emptyR_at {W : World} {b base : Nat} {sz e : Nat} (hg : W.heap[b]? = some (.cells #[] e (0, 0))) (hb : base ≤ b) : (Kd.raw sz).R e W base (fun _ => True) (.slice (some ⟨b, 0, none⟩) 0 0) [] := by
  refine ⟨fun _ _ => trivial, [], ⟨by simp, .inr ⟨b, 0, #[], rfl, hb, hg, Nat.le_refl _, Nat.zero_le _, by simp, by simp⟩⟩, ⟨by simp, fun j p h => by simp at h⟩⟩
end Go.Proofs.Ytlgfdokdckaejaa.MineTab
