/- Heap: giving a block back. Conditions: the holes rise, the numbers are small. -/
import Derived.Test.YtkeijpngfnmjoaaMineHeapE
namespace Go.Proofs.Ytkeijpngfnmjoaa.MineHeap
open Go.RowKit Go.MapKept Go.Proofs.YtkeijpngfnmjoaaW.PrintWords Go.Proofs.YtkeijpngfnmjoaaW.PrintLast Go.Proofs.YtkeijpngfnmjoaaW.PrintMore Go.Proofs.Ytkeijpngfnmjoaa.MineBase Go.Proofs.Ytkeijpngfnmjoaa.MineSep Go.Proofs.Ytkeijpngfnmjoaa.MineRows Go.Proofs.Ytkeijpngfnmjoaa.MineGen
attribute [local go_sem] max2_int min2_int max_two min_two
attribute [local go_sem ↓] Go.wp_at_zero Go.wp_at_succ
set_option linter.unusedVariables false
set_option linter.unusedSimpArgs false
theorem whole_quiet (n : Int) (h0 : 1 ≤ n) (h1 : n ≤ 65536) (w : World) (m : Nat) : Calls Try.prog 64 #[.int .i64 n] (w.drewN m) fun e w'' => e = .returned (.int .i64 (wh n)) ∧ ∃ m, w'' = w.drewN m :=
  Calls.quiet_of ((whole_calls n h0 h1 (w.drewN m)).mono fun _ _ h => ⟨h.1, h.2.out⟩)
/-- May a block be given back, but for what is free? -/
def giveOk (lo hi at_ n : Int) : Prop := lo ≤ at_ ∧ at_ % 4 = 0 ∧ sizeOk n ∧ at_ ≤ hi - wh n
instance (lo hi at_ n : Int) : Decidable (giveOk lo hi at_ n) := by unfold giveOk; infer_instance
set_option maxHeartbeats 600000 in
set_option maxRecDepth 100000 in
theorem Give_bad {w0 w : World} {l : List Asn} {lo hi : Int} {g : Nat} {L : Hs} (HS : Sat w0 w (AHeap lo hi w0.heap.size g L :: l)) (hlo : 0 ≤ lo) (hhi : hi ≤ 65536) (hlh : lo ≤ hi) (at_ n : Int) (h : ¬ giveOk lo hi at_ n) :
    Calls Try.prog 25 #[.pointer (some ⟨g, 0, none⟩), .int .i64 at_, .int .i64 n] w fun e w' => e = .returned (errV (some 1)) ∧ Below w.heap.size w w' := by
  obtain ⟨A, c, hg, hlc, hC⟩ := heap_open HS
  have x0 : w.cell? ⟨g, 0, none⟩ = some (.int .i64 lo) := get_cell hg 0
  have x1 : w.cell? ⟨g, 1, none⟩ = some (.int .i64 hi) := get_cell hg 1
  clear hg hlc hC HS
  by_cases h1 : at_ < lo
  · have d1 : decide (at_ < lo) = true := decide_eq_true h1
    clear h
    go_enter Try.func25, Try.ntmps25
    go_wp2
    go_quiet (fail)
    go_wp2
    go_ret
    exact ⟨by rfl, pw_below_drewN (Below.refl _ _) _⟩
  have d1 : decide (at_ < lo) = false := decide_eq_false h1
  have p1 : 0 ≤ at_ := by omega
  by_cases h2 : ¬ at_ % 4 = 0
  · have e2 : (at_ % 4 != 0) = true := by simpa using h2
    clear h h2
    go_enter Try.func25, Try.ntmps25
    go_wp2
    go_quiet (fail)
    go_wp2
    go_ret
    exact ⟨by rfl, pw_below_drewN (Below.refl _ _) _⟩
  replace h2 : at_ % 4 = 0 := Decidable.not_not.1 h2
  have H2 := Aside0.mk h2
  have e2 : (at_ % 4 != 0) = false := by simpa using h2
  clear h2
  by_cases h3 : n < 1
  · have d3 : decide (n < 1) = true := decide_eq_true h3
    clear h
    go_enter Try.func25, Try.ntmps25
    go_wp2
    go_quiet (fail)
    go_wp2
    go_ret
    exact ⟨by rfl, pw_below_drewN (Below.refl _ _) _⟩
  have d3 : decide (n < 1) = false := decide_eq_false h3
  by_cases h4 : 65536 < n
  · have d4 : decide (65536 < n) = true := decide_eq_true h4
    clear h
    go_enter Try.func25, Try.ntmps25
    go_wp2
    go_quiet (fail)
    go_wp2
    go_ret
    exact ⟨by rfl, pw_below_drewN (Below.refl _ _) _⟩
  have d4 : decide (65536 < n) = false := decide_eq_false h4
  have h5 : hi - wh n < at_ := by
    unfold giveOk sizeOk at h
    have := H2.out
    omega
  have d5 : decide (hi - wh n < at_) = true := decide_eq_true h5
  have hw := wh_spec (show 1 ≤ n by omega)
  have t1 : IntKind.i64.wrap (hi - wh n) = hi - wh n := wrap_ok (by omega) (by omega)
  have HN := Aside0.mk (show 1 ≤ n ∧ n ≤ 65536 by omega)
  clear h h3 h4 h5 hw
  go_enter Try.func25, Try.ntmps25
  go_wp2
  go_quiet ((go_at_call 64; exact whole_quiet n HN.out.1 HN.out.2 _ _))
  go_wp2
  go_ret
  exact ⟨by rfl, pw_below_drewN (Below.refl _ _) _⟩
/-! ### merging -/
/-- Two neighbours that touch are made one. -/
def mergeAt (k : Nat) (L : Hs) : Hs :=
  match L[k]?, L[k + 1]? with
  | some p, some q => if p.1 + p.2 = q.1 then (L.set k (p.1, p.2 + q.2)).eraseIdx (k + 1) else L
  | _, _ => L
theorem merge_right (L1 : Hs) (p : Int × Int) (M : Hs) (hM : M ≠ []) : mergeAt L1.length (L1 ++ p :: M) = L1 ++ joinR p M := by
  cases M with
  | nil => exact absurd rfl hM
  | cons q M =>
    have e1 : (L1 ++ p :: q :: M)[L1.length]? = some p := by simp
    have e2 : (L1 ++ p :: q :: M)[L1.length + 1]? = some q := by rw [List.getElem?_append_right (by omega)]; simp
    unfold mergeAt
    rw [e1, e2]
    simp only [joinR]
    split
    · rw [List.set_append_right _ _ (Nat.le_refl _), List.eraseIdx_append_of_length_le (by omega)]
      simp
    · rfl
theorem merge_left (L0 : Hs) (q : Int × Int) (p : Int × Int) (M : Hs) : mergeAt L0.length ((L0 ++ [q]) ++ p :: M) = joinL (L0 ++ [q]) (p :: M) := by
  have e1 : ((L0 ++ [q]) ++ p :: M)[L0.length]? = some q := by simp
  have e2 : ((L0 ++ [q]) ++ p :: M)[L0.length + 1]? = some p := by rw [List.getElem?_append_right (by simp)]; simp
  unfold mergeAt joinL
  rw [e1, e2, List.getLast?_concat]
  simp only
  split
  · rw [List.dropLast_concat, List.append_assoc, List.set_append_right _ _ (Nat.le_refl _), List.eraseIdx_append_of_length_le (by omega)]
    simp
  · rfl
theorem joinR_form (p : Int × Int) (M : Hs) : ∃ n M', joinR p M = (p.1, n) :: M' ∧ M'.length ≤ M.length := by
  cases M with
  | nil => exact ⟨p.2, [], rfl, Nat.le_refl _⟩
  | cons q M =>
    by_cases h : p.1 + p.2 = q.1
    · exact ⟨p.2 + q.2, M, by simp [joinR, h], by simp⟩
    · exact ⟨p.2, q :: M, by simp [joinR, h], Nat.le_refl _⟩
theorem merge_len (k : Nat) (L : Hs) : (mergeAt k L).length ≤ L.length := by
  unfold mergeAt
  split
  · split
    · rw [List.length_eraseIdx]
      split <;> simp
    · exact Nat.le_refl _
  · exact Nat.le_refl _
end Go.Proofs.Ytkeijpngfnmjoaa.MineHeap
