/- Tables of modules: what stays true of the modules of a table. No condition. -/
import Derived.Test.YtlgfdokdckaejaaMineTabL
namespace Go.Proofs.Ytlgfdokdckaejaa.MineTab
open Go.RowKit Go.MapKept Go.Proofs.YtlgfdokdckaejaaW.PrintWords Go.Proofs.Ytlgfdokdckaejaa.MineBase Go.Proofs.Ytlgfdokdckaejaa.QTableKeeps
set_option linter.unusedVariables false
theorem atI_nonneg (ms : List S65) (s : ByteArray) : 0 ≤ atI ms s ↔ s ∈ ms.map (·.f0) := by
  unfold atI
  rw [idxP_nonneg, List.mem_map]
  constructor
  · rintro ⟨x, hx, h⟩
    exact ⟨x, hx, (eqS_iff _ _).1 h⟩
  · rintro ⟨x, hx, h⟩
    exact ⟨x, hx, (eqS_iff _ _).2 h⟩
theorem idxP_at {α : Type} {p : α → Bool} : ∀ {l : List α} {k : Nat}, idxP p l = k → ∃ x, l[k]? = some x ∧ p x = true
  | [], k, h => absurd h (show ¬ ((-1 : Int) = k) by omega)
  | x :: l, k, h => by
    unfold idxP at h
    by_cases hx : p x = true
    · rw [if_pos hx] at h
      obtain rfl : k = 0 := by omega
      exact ⟨x, rfl, hx⟩
    · rw [if_neg hx] at h
      have := idxP_range p l
      by_cases h1 : idxP p l < 0
      · rw [if_pos h1] at h; omega
      · rw [if_neg h1] at h
        have h2 : idxP p l = k - 1 := by omega
        obtain ⟨k', rfl⟩ : ∃ k', k = k' + 1 := ⟨k - 1, by omega⟩
        obtain ⟨y, hy, hp⟩ := idxP_at (p := p) (l := l) (k := k') (by omega)
        exact ⟨y, by simpa using hy, hp⟩
/-- Each module's imports are there. -/
def Closed (ms : List S65) : Prop := ∀ m ∈ ms, ∀ x ∈ m.f5, x ∈ ms.map (·.f0)
theorem refsI_zero {s : ByteArray} : ∀ {ms : List S65}, refsI ms s ≤ 0 → ∀ m ∈ ms, ¬ s ∈ m.f5
  | [], _, m, hm => by cases hm
  | x :: ms, h, m, hm => by
    have := refsI_range s ms
    unfold refsI at h
    by_cases hx : inL s x.f5 = true
    · rw [if_pos hx] at h; omega
    · rw [if_neg hx] at h
      rcases List.mem_cons.1 hm with rfl | hm
      · exact fun hs => hx ((inL_iff _ _).2 hs)
      · exact refsI_zero (by omega) m hm
theorem closed_drop {ms : List S65} (h : Closed ms) (s : ByteArray) : Closed (dropT ms s) := by
  unfold dropT
  cases he : dropE ms s with
  | false => exact h
  | true =>
    simp only [if_true]
    unfold dropE at he
    rw [Bool.and_eq_true, decide_eq_true_iff, decide_eq_true_iff] at he
    intro m hm x hx
    have hm' := List.mem_of_mem_eraseIdx hm
    have hxs : x ≠ s := fun e => refsI_zero he.2 m hm' (e ▸ hx)
    obtain ⟨m', hm2, rfl⟩ := List.mem_map.1 (h m hm' x hx)
    obtain ⟨k, hk⟩ : ∃ k : Nat, atI ms s = k := ⟨(atI ms s).toNat, by omega⟩
    obtain ⟨y, hy, hp⟩ := idxP_at (p := fun m : S65 => eqS m.f0 s) hk
    rw [hk, Int.toNat_natCast]
    refine List.mem_map.2 ⟨m', ?_, rfl⟩
    obtain ⟨j, hj⟩ := List.mem_iff_getElem?.1 hm2
    refine List.mem_eraseIdx_iff_getElem?.2 ⟨j, ?_, hj⟩
    rintro rfl
    rw [hy] at hj
    injection hj with hj
    subst hj
    exact hxs ((eqS_iff _ _).1 hp)
theorem closed_add {most : Int} {ms : List S65} (h : Closed ms) (m : S65) : Closed (addT most ms m) := by
  unfold addT
  by_cases he : addE most ms m = none
  · rw [if_pos he]
    have hmiss : ¬ 0 ≤ missI ms m.f5 := fun h0 => by
      unfold addE at he
      rw [if_pos h0] at he
      split at he
      · cases he
      · split at he <;> cases he
    intro m' hm x hx
    rw [List.map_append, List.mem_append]
    rcases List.mem_append.1 hm with hm | hm
    · exact .inl (h m' hm x hx)
    · rw [List.mem_singleton.1 hm] at hx
      refine .inl ((atI_nonneg ms x).1 ?_)
      by_cases h0 : atI ms x < 0
      · exact absurd ((idxP_nonneg _ _).2 ⟨x, hx, decide_eq_true h0⟩) hmiss
      · omega
  · rw [if_neg he]; exact h
theorem head_drop {mA : S65} {ms : List S65} (h : ms.head? = some mA) (s : ByteArray) (hs : mA.f0 ≠ s) : (dropT ms s).head? = some mA := by
  unfold dropT
  cases he : dropE ms s with
  | false => exact h
  | true =>
    simp only [if_true]
    unfold dropE at he
    rw [Bool.and_eq_true, decide_eq_true_iff, decide_eq_true_iff] at he
    obtain ⟨k, hk⟩ : ∃ k : Nat, atI ms s = k := ⟨(atI ms s).toNat, by omega⟩
    obtain ⟨y, hy, hp⟩ := idxP_at (p := fun m : S65 => eqS m.f0 s) hk
    rw [hk, Int.toNat_natCast]
    cases ms with
    | nil => cases h
    | cons a ms =>
      cases k with
      | zero =>
        simp only [List.getElem?_cons_zero, Option.some.injEq] at hy
        simp only [List.head?_cons, Option.some.injEq] at h
        subst hy h
        exact absurd ((eqS_iff _ _).1 hp) hs
      | succ k => exact h
theorem head_add {mA : S65} {most : Int} {ms : List S65} (h : ms.head? = some mA) (m : S65) : (addT most ms m).head? = some mA := by
  unfold addT
  split
  · cases ms with
    | nil => cases h
    | cons a ms => exact h
  · exact h
theorem head_at {mA : S65} {ms : List S65} (h : ms.head? = some mA) : atI ms mA.f0 = 0 ∧ rd_T65 ms 0 = mA := by
  cases ms with
  | nil => cases h
  | cons a ms =>
    simp only [List.head?_cons, Option.some.injEq] at h
    subst h
    refine ⟨?_, rfl⟩
    unfold atI idxP
    rw [if_pos ((eqS_iff _ _).2 rfl)]
theorem name_there {ms : List S65} {k : Nat} {s : ByteArray} (h : (ms.map (·.f0))[k]? = some s) : 0 ≤ atI ms s := (atI_nonneg ms s).2 (List.mem_of_getElem? h)
theorem found_mem {ms : List S65} {s : ByteArray} (h : 0 ≤ atI ms s) : rd_T65 ms (atI ms s) ∈ ms := by
  have hr := idxP_range (fun m : S65 => eqS m.f0 s) ms
  change -1 ≤ atI ms s ∧ atI ms s < ms.length at hr
  unfold rd_T65
  rw [List.getD_eq_getElem?_getD, List.getElem?_eq_getElem (by omega)]
  exact List.getElem_mem _
theorem import_there {ms : List S65} (h : Closed ms) {s x : ByteArray} {j : Nat} (hs : 0 ≤ atI ms s) (hx : (rd_T65 ms (atI ms s)).f5[j]? = some x) : inL x (ms.map (·.f0)) = true :=
  (inL_iff _ _).2 (h _ (found_mem hs) x (List.mem_of_getElem? hx))
end Go.Proofs.Ytlgfdokdckaejaa.MineTab
