/- Files: the document's law on names is the program's. Condition: a name is short. -/
import Derived.Test.YtlgfdokdckaejaaMineFilesPlayB
namespace Go.Proofs.Ytlgfdokdckaejaa.MineFilesPlay
open Go.RowKit Go.Proofs.YtlgfdokdckaejaaW.PrintWords Go.Proofs.YtlgfdokdckaejaaW.PrintLast Go.Proofs.Ytlgfdokdckaejaa.MineBase Go.Proofs.Ytlgfdokdckaejaa.QFilesPlay
open Go.Proofs.Ytlgfdokdckaejaa.MineFiles (isL isLD allD mayB)
set_option linter.unusedVariables false
set_option linter.unusedSimpArgs false
/-- May a sign stand at place i? -/
def Good (c i : Int) : Prop := (97 ≤ c ∧ c ≤ 122 ∨ 65 ≤ c ∧ c ≤ 90) ∨ (48 ≤ c ∧ c ≤ 57 ∧ 0 < i)
theorem name_good (k : Nat) (s : ByteArray) (i : Int) (h0 : 0 ≤ i) (h1 : i < s.size) (hg : Good (bt s i) i) : dowelref09_Name.l0 (k + 1) s i = dowelref09_Name.l0 k s (wrap64 (i + 1)) := by
  unfold Good at hg
  simp only [dowelref09_Name.l0]
  rw [if_pos h1, if_pos h0]
  generalize bt s i = c at *
  repeat' split
  all_goals first
    | rfl
    | (exfalso; omega)
theorem name_bad (k : Nat) (s : ByteArray) (i : Int) (h0 : 0 ≤ i) (h1 : i < s.size) (hg : ¬ Good (bt s i) i) : dowelref09_Name.l0 (k + 1) s i = some false := by
  unfold Good at hg
  simp only [dowelref09_Name.l0]
  rw [if_pos h1, if_pos h0]
  generalize bt s i = c at *
  repeat' split
  all_goals first
    | rfl
    | (exfalso; omega)
theorem name_end (k : Nat) (s : ByteArray) : dowelref09_Name.l0 (k + 1) s s.size = some (decide (1 ≤ s.size ∧ s.size ≤ 16)) := by
  simp only [dowelref09_Name.l0]
  rw [if_neg (by omega)]
  split
  · congr 1
    rw [decide_eq_decide]
    omega
  · rw [decide_eq_false (by omega)]
theorem name_loop (s : ByteArray) (hn : s.size ≤ 1000) (d : Nat) : ∀ (k : Nat) (i : Int), 0 < i → i + d = s.size → d < k →
    dowelref09_Name.l0 k s i = some (decide (1 ≤ s.size ∧ s.size ≤ 16) && allD s d i) := by
  induction d with
  | zero =>
    intro k i h0 hd hk
    obtain ⟨k, rfl⟩ : ∃ m, k = m + 1 := ⟨k - 1, by omega⟩
    have e : i = s.size := by omega
    rw [e, name_end]
    simp [allD]
  | succ d ih =>
    intro k i h0 hd hk
    obtain ⟨k, rfl⟩ : ∃ m, k = m + 1 := ⟨k - 1, by omega⟩
    by_cases hg : Good (bt s i) i
    · rw [name_good k s i (by omega) (by omega) hg, show wrap64 (i + 1) = i + 1 by unfold wrap64; omega, ih k (i + 1) (by omega) (by omega) (by omega)]
      have : isLD (bt s i) = true := by
        unfold isLD isL
        unfold Good at hg
        rw [Bool.or_eq_true, decide_eq_true_iff, decide_eq_true_iff]
        omega
      simp only [allD, this, Bool.true_and]
    · rw [name_bad k s i (by omega) (by omega) hg]
      have : isLD (bt s i) = false := by
        unfold isLD isL
        unfold Good at hg
        rw [Bool.or_eq_false_iff, decide_eq_false_iff_not, decide_eq_false_iff_not]
        omega
      simp [allD, this]
theorem name_eq (s : ByteArray) (hn : s.size ≤ 1000) (k : Nat) (hk : s.size < k) : dowelref09_Name.f k s = some (mayB s) := by
  obtain ⟨k, rfl⟩ : ∃ m, k = m + 1 := ⟨k - 1, by omega⟩
  unfold dowelref09_Name.f mayB
  rcases Nat.eq_zero_or_pos s.size with hz | hp
  · have h := name_end k s
    rw [hz] at h
    rw [show ((0 : Nat) : Int) = 0 from rfl] at h
    rw [h, hz]
    rfl
  · obtain ⟨d, hd⟩ : ∃ d, s.size = d + 1 := ⟨s.size - 1, by omega⟩
    by_cases hl : isL (bt s 0) = true
    · have hg : Good (bt s 0) 0 := by
        unfold isL at hl
        rw [decide_eq_true_iff] at hl
        exact .inl hl
      rw [name_good k s 0 (by omega) (by omega) hg, show wrap64 ((0 : Int) + 1) = 1 by (unfold wrap64; omega), name_loop s hn d k 1 (by omega) (by omega) (by omega), hl]
      have e : allD s s.size 0 = allD s d 1 := by
        rw [hd]
        simp only [allD, isLD, hl, Bool.true_or, Bool.true_and]
        rfl
      rw [e, Bool.and_true]
    · have hb : isL (bt s 0) = false := by simpa using hl
      have hg : ¬ Good (bt s 0) 0 := by
        unfold isL at hb
        rw [decide_eq_false_iff_not] at hb
        unfold Good
        omega
      rw [name_bad k s 0 (by omega) (by omega) hg, hb]
      simp
theorem Name_calls (s : ByteArray) (hn : s.size ≤ 1000) (w : World) : Calls Try.prog 32 #[.string s] w fun e w' => e = .returned (.bool (mayB s)) ∧ Drawn0 w w' :=
  dowelref09_Name.calls (s.size + 1) s (mayB s) w (name_eq s hn _ (by omega))
end Go.Proofs.Ytlgfdokdckaejaa.MineFilesPlay
