/- HeapPlays: the document's answers are the heap's. Conditions: the words are the holes. -/
import Derived.Test.YtkeijpngfnmjoaaMineDocD
namespace Go.Proofs.Ytkeijpngfnmjoaa.MineHeap
open Go.RowKit Go.MapKept Go.Proofs.YtkeijpngfnmjoaaW.PrintWords Go.Proofs.YtkeijpngfnmjoaaW.PrintLast Go.Proofs.YtkeijpngfnmjoaaW.PrintMore Go.Proofs.Ytkeijpngfnmjoaa.MineBase Go.Proofs.Ytkeijpngfnmjoaa.MineSep Go.Proofs.Ytkeijpngfnmjoaa.MineRows Go.Proofs.Ytkeijpngfnmjoaa.MineGen Go.Proofs.Ytkeijpngfnmjoaa.QHeapPlays
set_option linter.unusedVariables false
/-- What holds of the document's words beside the holes. -/
structure Pair (lo hi : Int) (F : List Bool) (L : Hs) : Prop where
  ok : heapOk lo hi
  short : hi - lo ≤ 4096
  words : Words lo hi F L
  norm : Norm lo hi L
theorem Pair.len {lo hi : Int} {F : List Bool} {L : Hs} (h : Pair lo hi F L) : F.length ≤ 1024 := by have := h.short; have := h.words.len; omega
theorem Pair.start {lo hi : Int} (h : heapOk lo hi) (hs : hi - lo ≤ 4096) : Pair lo hi (List.replicate ((hi - lo) / 4).toNat true) (firstL lo hi) :=
  ⟨h, hs, words_start h.2.2.1 h.2.2.2.1 h.2.2.2.2 _ (fun x => by
    unfold firstL Has
    split
    · simp; omega
    · simp; omega), first_norm h⟩
theorem has_word {lo hi x : Int} {L : Hs} (hN : Norm lo hi L) (h : Has L x) : Has L (x - x % 4) := by
  obtain ⟨p, hp, h1, h2⟩ := h
  have := hN.mem p hp
  exact ⟨p, hp, by omega, by omega⟩
theorem DTake_pair {w0 w : World} {l : List Asn} {lo hi : Int} {g : Nat} {F : List Bool} {L : Hs} (HS : Sat w0 w (ADocH lo hi w0.heap.size g F :: l)) (hP : Pair lo hi F L) (n : Int) :
    Calls Try.prog 28 #[.pointer (some ⟨g, 0, none⟩), .int .i64 n] w fun e w' => e = .returned (.tuple #[.int .i64 (takeR L n).1, .int .i64 ((takeR L n).2.1.getD 0)]) ∧ ∃ F', Pair lo hi F' (takeR L n).2.2 ∧ Sat w0 w' (ADocH lo hi w0.heap.size g F' :: l) := by
  have hl := hP.ok
  by_cases h : sizeOk n
  · obtain ⟨m, hm⟩ : ∃ m : Nat, (n + 3) / 4 = m := ⟨((n + 3) / 4).toNat, by have := h.1; omega⟩
    have hm0 : 0 < m := by have := h.1; omega
    have hw : wh n = 4 * m := by unfold wh; omega
    rcases take_cases L n h with ⟨_, b, c⟩ | ⟨L1, p, L2, rfl, hfi, hp, hall, d⟩
    · rw [b]
      refine (DTake_none HS hP.len n h m hm (noRun_of hP.words hP.norm hl.2.2.2.1 hm0 _ (fun p hp => by have := c p hp; omega))).mono fun e w' h2 => ⟨h2.1, F, hP, h2.2⟩
    · rw [d]
      obtain ⟨s, h1, h2, h3, h4⟩ := firstRun_of hP.words hP.norm hl.2.2.2.1 hm0 (by omega) (fun q hq => by have := hall q hq; omega)
      have ht := take_norm hP.norm (n := wh n) (by omega) (by omega) hp
      rw [show p.1 = lo + 4 * s from h1]
      refine (DTake_some HS hP.len n h m hm s h2 h3 h4 hl.1 (by have := hl.2.1; have := hl.2.2.1; omega)).mono fun e w' hh => ⟨hh.1, _, ⟨hl, hP.short, words_set hP.words s m false (fun k hk => ?_), ht.1⟩, hh.2⟩
      rw [ht.2, h1]
      by_cases hc : s ≤ k ∧ k < s + m
      · rw [if_pos hc]
        simp only [Bool.false_eq_true, iff_false]
        rintro ⟨_, hn⟩
        exact hn ⟨by omega, by omega⟩
      · rw [if_neg hc]
        exact ⟨fun hx => hx.1, fun hx => ⟨hx, fun ⟨a, b⟩ => hc ⟨by omega, by omega⟩⟩⟩
  · have b : takeR L n = (0, some 1, L) := by unfold takeR; rw [if_neg h]
    rw [b]
    exact (DTake_bad _ n h w).mono fun e w' h2 => ⟨h2.1, F, hP, HS.below h2.2⟩
theorem DGive_no {w0 w : World} {l : List Asn} {lo hi : Int} {g : Nat} {F : List Bool} {L : Hs} (HS : Sat w0 w (ADocH lo hi w0.heap.size g F :: l)) (hP : Pair lo hi F L) (at_ n : Int) (h : ¬ (giveOk lo hi at_ n ∧ ¬ Free L at_ (wh n))) :
    Calls Try.prog 26 #[.pointer (some ⟨g, 0, none⟩), .int .i64 at_, .int .i64 n] w fun e w' => e = .returned (.int .i64 1) ∧ Sat w0 w' (ADocH lo hi w0.heap.size g F :: l) := by
  have hl := hP.ok
  by_cases hg : giveOk lo hi at_ n
  · have hf : Free L at_ (wh n) := Classical.byContradiction fun hc => h ⟨hg, hc⟩
    obtain ⟨x, h1, h2, h3⟩ := hf
    have hn1 := hg.2.2.1.1
    have hw := wh_spec hn1
    obtain ⟨m, hm⟩ : ∃ m : Nat, (n + 3) / 4 = m := ⟨((n + 3) / 4).toNat, by omega⟩
    have hwm : wh n = 4 * m := by unfold wh; omega
    obtain ⟨f, hf⟩ : ∃ f : Nat, (at_ - lo) / 4 = f := ⟨((at_ - lo) / 4).toNat, by have := hg.1; omega⟩
    have hlen := hP.words.len
    have h4 := hl.2.2.2.1
    have hg1 := hg.1; have hg2 := hg.2.1; have hg3 := hg.2.2.2
    obtain ⟨jc, hjc⟩ : ∃ jc : Nat, x - x % 4 = lo + 4 * (f + jc : Nat) := ⟨((x - at_) / 4).toNat, by omega⟩
    have hjl : f + jc < F.length := by omega
    refine DGive_clash HS hl.1 (by have := hl.2.1; have := hl.2.2.1; omega) hP.len hlen at_ n hg h4 f m hf hm jc (by omega) ?_
    have hx := has_word hP.norm h3
    rw [hjc] at hx
    rw [List.getElem?_eq_getElem hjl, (hP.words.free (f + jc) _ (List.getElem?_eq_getElem hjl)).2 hx]
  · exact DGive_bad HS hl.1 (by have := hl.2.1; have := hl.2.2.1; omega) hP.len hP.words.len at_ n hg hl.2.2.2.1
theorem DGive_yes {w0 w : World} {l : List Asn} {lo hi : Int} {g : Nat} {F : List Bool} {L L' : Hs} (HS : Sat w0 w (ADocH lo hi w0.heap.size g F :: l)) (hP : Pair lo hi F L) (at_ n : Int) (h1 : giveOk lo hi at_ n) (h2 : ¬ Free L at_ (wh n)) (hN : Norm lo hi L') (hL : ∀ x, Has L' x ↔ Has L x ∨ (at_ ≤ x ∧ x < at_ + wh n)) :
    Calls Try.prog 26 #[.pointer (some ⟨g, 0, none⟩), .int .i64 at_, .int .i64 n] w fun e w' => e = .returned (.int .i64 0) ∧ ∃ F', Pair lo hi F' L' ∧ Sat w0 w' (ADocH lo hi w0.heap.size g F' :: l) := by
  have hl := hP.ok
  have hn1 := h1.2.2.1.1
  have hw := wh_spec hn1
  obtain ⟨m, hm⟩ : ∃ m : Nat, (n + 3) / 4 = m := ⟨((n + 3) / 4).toNat, by omega⟩
  have hwm : wh n = 4 * m := by unfold wh; omega
  obtain ⟨f, hf⟩ : ∃ f : Nat, (at_ - lo) / 4 = f := ⟨((at_ - lo) / 4).toNat, by have := h1.1; omega⟩
  have hlen := hP.words.len
  have h4 := hl.2.2.2.1
  have hg1 := h1.1; have hg2 := h1.2.1; have hg3 := h1.2.2.2
  refine (DGive_ok HS hl.1 (by have := hl.2.1; have := hl.2.2.1; omega) hP.len hlen at_ n h1 h4 f m hf hm (fun j a b => ?_)).mono fun e w' hh => ⟨hh.1, _, ⟨hl, hP.short, words_set hP.words f m true (fun k hk => ?_), hN⟩, hh.2⟩
  · have hjl : j < F.length := by omega
    rw [List.getElem?_eq_getElem hjl]
    cases e : F[j] with
    | false => rfl
    | true =>
      exfalso
      have := (hP.words.free j true (by rw [List.getElem?_eq_getElem hjl, e])).1 rfl
      exact h2 ⟨_, by omega, by omega, this⟩
  · rw [hL]
    by_cases hc : f ≤ k ∧ k < f + m
    · rw [if_pos hc]
      simp only [iff_true]
      exact .inr ⟨by omega, by omega⟩
    · rw [if_neg hc]
      exact ⟨fun hx => hx.elim id (fun ⟨a, b⟩ => absurd (show f ≤ k ∧ k < f + m from ⟨by omega, by omega⟩) hc), .inl⟩
theorem C_toT {w : World} {A : Option Addr} {n : Nat} {L : Hs} (h : k2.C w A n L) : Kd.C k129 w A n (L.map toT) := by
  refine ⟨by rw [List.length_map]; exact h.1, h.2.1, fun hn => ?_⟩
  obtain ⟨ad, e, hc⟩ := h.2.2 hn
  refine ⟨ad, e, fun j p hj => ?_⟩
  rw [List.getElem?_map] at hj
  obtain ⟨q, hq, rfl⟩ := Option.map_eq_some_iff.1 hj
  exact hc j q hq
theorem DHoles_pair {w0 w : World} {l : List Asn} {lo hi : Int} {g : Nat} {F : List Bool} {L : Hs} (HS : Sat w0 w (ADocH lo hi w0.heap.size g F :: l)) (hP : Pair lo hi F L) :
    Calls Try.prog 32 #[.pointer (some ⟨g, 0, none⟩)] w fun e w' => ∃ v, e = .returned v ∧ k2.R 129 w' w.heap.size (fun _ => True) v L ∧ Below w.heap.size w w' := by
  have h := DHoles_calls HS hP.len hP.ok.1 (by have := hP.ok.2.1; have := hP.ok.2.2.1; omega) hP.ok.2.2.2.1
  rw [holesW_eq hP.words hP.norm hP.ok.2.2.2.1] at h
  exact h
end Go.Proofs.Ytkeijpngfnmjoaa.MineHeap
