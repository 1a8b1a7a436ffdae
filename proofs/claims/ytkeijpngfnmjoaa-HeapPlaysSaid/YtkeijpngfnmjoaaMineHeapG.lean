/- Heap: giving a block back, where it may be. Conditions: the holes rise, the numbers are small. -/
import Derived.Test.YtkeijpngfnmjoaaMineHeapF
namespace Go.Proofs.Ytkeijpngfnmjoaa.MineHeap
open Go.RowKit Go.MapKept Go.Proofs.YtkeijpngfnmjoaaW.PrintWords Go.Proofs.YtkeijpngfnmjoaaW.PrintLast Go.Proofs.YtkeijpngfnmjoaaW.PrintMore Go.Proofs.Ytkeijpngfnmjoaa.MineBase Go.Proofs.Ytkeijpngfnmjoaa.MineSep Go.Proofs.Ytkeijpngfnmjoaa.MineRows Go.Proofs.Ytkeijpngfnmjoaa.MineGen
attribute [local go_sem] max2_int min2_int max_two min_two
attribute [local go_sem ↓] Go.wp_at_zero Go.wp_at_succ
set_option linter.unusedVariables false
set_option linter.unusedSimpArgs false
theorem insert_any {w0 w : World} {l : List Asn} {lo hi : Int} {g : Nat} {L1 L2 : Hs} (h : Sat w0 w (AHeap lo hi w0.heap.size g (L1 ++ L2) :: l)) (hn : (L1 ++ L2).length ≤ 1000) (p : Int × Int) (A : Option Addr) (c : Nat)
    (hg : w.heap[g]? = some (.cells #[.int .i64 lo, .int .i64 hi, .slice A (L1 ++ L2).length c] 116 (0, 0))) :
    Calls Try.prog 67 #[.slice A (L1 ++ L2).length c, .int .i64 L1.length, .slice (some ⟨w.heap.size, 0, none⟩) 1 1] (w.alloc (holeB p)) (Ins w0 l lo hi g A c (L1 ++ L2) (L1 ++ p :: L2)) := by
  cases L2 with
  | nil =>
    have := insert_end h hn p A c hg
    simp only [List.append_nil] at this ⊢
    exact this
  | cons q L2 =>
    have ht : (L1 ++ q :: L2).take L1.length = L1 := by simp
    have hd : (L1 ++ q :: L2).drop L1.length = q :: L2 := by simp
    have hl : L1.length < (L1 ++ q :: L2).length := by simp
    by_cases hc : (L1 ++ q :: L2).length + 1 ≤ c
    · have := insert_room h hn p A c L1.length hg hl hc
      rw [ht, hd] at this
      exact this
    · have := insert_grow h hn p A c L1.length hg hl (by omega)
      rw [ht, hd] at this
      exact this
/-- No hole is where the block is. -/
def Fits (L1 L2 : Hs) (at_ m : Int) : Prop := (∀ q L', L2 = q :: L' → at_ + m ≤ q.1) ∧ (∀ L0 r, L1 = L0 ++ [r] → r.1 + r.2 ≤ at_)
/-- How far the holes are merged. -/
def Phase (L1 L2 : Hs) (p : Int × Int) (k : Int) (C : Hs) : Prop :=
  (k = L1.length ∧ L2 ≠ [] ∧ C = L1 ++ p :: L2) ∨ (k = (L1.length : Int) - 1 ∧ C = L1 ++ joinR p L2) ∨ (k = (L1.length : Int) - 2 ∧ L1 ≠ [] ∧ C = joinL L1 (joinR p L2))
theorem phase_start (L1 L2 : Hs) (p : Int × Int) : Phase L1 L2 p (if ((L1 ++ p :: L2).length : Int) - 2 < (L1.length : Int) then ((L1 ++ p :: L2).length : Int) - 2 else (L1.length : Int)) (L1 ++ p :: L2) := by
  have hl : ((L1 ++ p :: L2).length : Int) = L1.length + L2.length + 1 := by simp; omega
  rw [hl]
  cases L2 with
  | nil =>
    rw [if_pos (by simp; omega)]
    exact .inr (.inl ⟨by simp; omega, rfl⟩)
  | cons q L2 =>
    rw [if_neg (by simp; omega)]
    exact .inl ⟨rfl, by simp, rfl⟩
theorem phase_round {L1 L2 : Hs} {p : Int × Int} {k : Int} {C : Hs} (h : Phase L1 L2 p k C) (hk : (if (L1.length : Int) - 1 < 0 then 0 else (L1.length : Int) - 1) ≤ k) :
    ∃ kk : Nat, k = kk ∧ kk + 1 < C.length ∧ Phase L1 L2 p (k - 1) (mergeAt kk C) := by
  rcases h with ⟨h1, h2, h3⟩ | ⟨h1, h3⟩ | ⟨h1, h2, h3⟩
  · refine ⟨L1.length, h1, ?_, .inr (.inl ⟨by rw [h1], ?_⟩)⟩
    · rw [h3]
      cases L2 with
      | nil => exact absurd rfl h2
      | cons q L2 => simp
    · rw [h3, merge_right _ _ _ h2]
  · rcases List.eq_nil_or_concat L1 with rfl | ⟨L0, q, rfl⟩
    · exfalso
      simp at hk h1
      omega
    · rw [List.concat_eq_append] at *
      obtain ⟨n, M', e, _⟩ := joinR_form p L2
      refine ⟨L0.length, by rw [h1]; simp, ?_, .inr (.inr ⟨by rw [h1]; omega, by simp, ?_⟩)⟩
      · rw [h3, e]; simp
      · rw [h3, e, merge_left]
  · exfalso
    have : 1 ≤ L1.length := by
      cases L1 with
      | nil => exact absurd rfl h2
      | cons a b => simp
    split at hk <;> omega
theorem phase_end {L1 L2 : Hs} {p : Int × Int} {k : Int} {C : Hs} (h : Phase L1 L2 p k C) (hk : k < (if (L1.length : Int) - 1 < 0 then 0 else (L1.length : Int) - 1)) : C = joinL L1 (joinR p L2) := by
  rcases h with ⟨h1, h2, h3⟩ | ⟨h1, h3⟩ | ⟨h1, h2, h3⟩
  · exfalso
    split at hk <;> omega
  · rcases List.eq_nil_or_concat L1 with rfl | ⟨L0, q, rfl⟩
    · rw [h3]; rfl
    · exfalso
      rw [List.concat_eq_append] at *
      simp at hk h1
      split at hk <;> omega
  · exact h3
theorem phase_len {L1 L2 : Hs} {p : Int × Int} {k : Int} {C : Hs} (h : Phase L1 L2 p k C) : C.length ≤ (L1 ++ L2).length + 1 ∧ -2 ≤ k ∧ k ≤ L1.length := by
  have hj : (joinR p L2).length ≤ L2.length + 1 := by
    obtain ⟨n, M', e, hm⟩ := joinR_form p L2
    rw [e]; simpa using hm
  rcases h with ⟨h1, h2, h3⟩ | ⟨h1, h3⟩ | ⟨h1, h2, h3⟩
  · rw [h3]; simp; omega
  · rw [h3]; simp; omega
  · refine ⟨?_, by omega, by omega⟩
    rw [h3]
    unfold joinL
    split
    · rename_i q p' M' e1 e2
      have hj2 := hj
      rw [e2] at hj2
      simp only [List.length_cons] at hj2
      split
      · simp
        omega
      · simp
        omega
    · simp; omega
theorem mergeAt_get {k : Nat} {C : Hs} {p q : Int × Int} (h1 : C[k]? = some p) (h2 : C[k + 1]? = some q) : mergeAt k C = if p.1 + p.2 = q.1 then (C.set k (p.1, p.2 + q.2)).eraseIdx (k + 1) else C := by
  unfold mergeAt
  rw [h1, h2]
end Go.Proofs.Ytkeijpngfnmjoaa.MineHeap
