/- HeapBack, the plain law: blocks that were taken, and are given back, leave the holes as they were. No program in sight. No condition. -/
import Derived.Test.YtkeijpngfnmjoaaMineHeapPure
namespace Go.Proofs.Ytkeijpngfnmjoaa.MineHeap
set_option linter.unusedVariables false
/-- Blocks that don't lie in each other. -/
def Disj (B : List (Int × Int)) : Prop := B.Pairwise (fun a b => a.1 + a.2 ≤ b.1 ∨ b.1 + b.2 ≤ a.1)
/-- What is true of the holes, and of the blocks that are out. -/
structure Back (hi : Int) (L0 L : Hs) (B : List (Int × Int)) : Prop where
  norm : Norm 0 hi L
  blk : ∀ b ∈ B, 0 ≤ b.1 ∧ b.1 % 4 = 0 ∧ 0 < b.2 ∧ b.2 ≤ 65536 ∧ b.2 % 4 = 0 ∧ b.1 + b.2 ≤ hi
  disj : Disj B
  out : ∀ b ∈ B, ∀ x, b.1 ≤ x → x < b.1 + b.2 → ¬ Has L x
  all : ∀ x, Has L0 x ↔ Has L x ∨ ∃ b ∈ B, b.1 ≤ x ∧ x < b.1 + b.2
theorem Back.start {hi : Int} {L : Hs} (h : Norm 0 hi L) : Back hi L L [] := ⟨h, by simp, List.Pairwise.nil, by simp, by simp⟩
/-- Blocks of which one is free now, and one was out. -/
theorem Back.apart {hi n : Int} {L0 L : Hs} {B : List (Int × Int)} {p : Int × Int} (h : Back hi L0 L B) (hp : p ∈ L) (hn : 0 < n) (hpn : n ≤ p.2) : ∀ b ∈ B, ¬ (p.1 < b.1 + b.2 ∧ b.1 < p.1 + n) := by
  intro b hb ⟨h1, h2⟩
  have hb2 := h.blk b hb
  by_cases hc : p.1 ≤ b.1
  · exact h.out b hb b.1 (Int.le_refl _) (by omega) ⟨p, hp, hc, by omega⟩
  · exact h.out b hb p.1 (by omega) h1 ⟨p, hp, Int.le_refl _, by omega⟩
theorem Back.take {hi n : Int} {L0 L1 L2 : Hs} {p : Int × Int} {B : List (Int × Int)} (h : Back hi L0 (L1 ++ p :: L2) B) (hn : 0 < n) (h4 : n % 4 = 0) (hm : n ≤ 65536) (hp : n ≤ p.2) : Back hi L0 (L1 ++ (cutP p n ++ L2)) (B ++ [(p.1, n)]) := by
  obtain ⟨a, b⟩ := take_norm h.norm hn h4 hp
  have hpm := h.norm.mem p (by simp)
  refine ⟨a, fun c hc => ?_, ?_, fun c hc x x1 x2 hx => ?_, fun x => ?_⟩
  · rcases List.mem_append.1 hc with hc | hc
    · exact h.blk c hc
    · rw [List.mem_singleton.1 hc]; simp only; omega
  · refine List.pairwise_append.2 ⟨h.disj, by simp, fun c hc d hd => ?_⟩
    rw [List.mem_singleton.1 hd]
    have := h.apart (p := p) (by simp) hn hp c hc
    simp only
    omega
  · rcases List.mem_append.1 hc with hc | hc
    · exact h.out c hc x x1 x2 ((b x).1 hx).1
    · rw [List.mem_singleton.1 hc] at x1 x2
      exact ((b x).1 hx).2 ⟨x1, x2⟩
  · rw [h.all x, b x]
    constructor
    · rintro (hx | ⟨c, hc, hx⟩)
      · by_cases hin : p.1 ≤ x ∧ x < p.1 + n
        · exact .inr ⟨(p.1, n), by simp, hin⟩
        · exact .inl ⟨hx, hin⟩
      · exact .inr ⟨c, by simp [hc], hx⟩
    · rintro (⟨hx, _⟩ | ⟨c, hc, hx⟩)
      · exact .inl hx
      · rcases List.mem_append.1 hc with hc | hc
        · exact .inr ⟨c, hc, hx⟩
        · rw [List.mem_singleton.1 hc] at hx
          exact .inl ⟨p, by simp, hx.1, by omega⟩
theorem Back.give {hi : Int} {L0 L L' : Hs} {B1 B2 : List (Int × Int)} {b : Int × Int} (h : Back hi L0 L (B1 ++ b :: B2)) (hN : Norm 0 hi L') (hL : ∀ x, Has L' x ↔ Has L x ∨ (b.1 ≤ x ∧ x < b.1 + b.2)) : Back hi L0 L' (B1 ++ B2) := by
  have hd := List.pairwise_append.1 h.disj
  have hd2 := List.pairwise_cons.1 hd.2.1
  refine ⟨hN, fun c hc => h.blk c ?_, List.pairwise_append.2 ⟨hd.1, hd2.2, fun c hc d hd' => hd.2.2 c hc d (List.mem_cons_of_mem _ hd')⟩, fun c hc x x1 x2 hx => ?_, fun x => ?_⟩
  · rcases List.mem_append.1 hc with hc | hc <;> simp [hc]
  · have hmem : c ∈ B1 ++ b :: B2 := by rcases List.mem_append.1 hc with hc | hc <;> simp [hc]
    rcases (hL x).1 hx with hx | hx
    · exact h.out c hmem x x1 x2 hx
    · rcases List.mem_append.1 hc with hc | hc
      · have := hd.2.2 c hc b List.mem_cons_self; omega
      · have := hd2.1 c hc; omega
  · rw [h.all x, hL x]
    constructor
    · rintro (hx | ⟨c, hc, hx⟩)
      · exact .inl (.inl hx)
      · rcases List.mem_append.1 hc with hc | hc
        · exact .inr ⟨c, by simp [hc], hx⟩
        · rcases List.mem_cons.1 hc with rfl | hc
          · exact .inl (.inr hx)
          · exact .inr ⟨c, by simp [hc], hx⟩
    · rintro ((hx | hx) | ⟨c, hc, hx⟩)
      · exact .inl hx
      · exact .inr ⟨b, by simp, hx⟩
      · refine .inr ⟨c, ?_, hx⟩
        rcases List.mem_append.1 hc with hc | hc <;> simp [hc]
theorem Back.give_at {hi : Int} {L0 L L' : Hs} {B : List (Int × Int)} {b : Int × Int} {r : Nat} {m : Int} (h : Back hi L0 L B) (hb : B[r]? = some b) (hm : m = b.2) (hN : Norm 0 hi L') (hL : ∀ x, Has L' x ↔ Has L x ∨ (b.1 ≤ x ∧ x < b.1 + m)) : Back hi L0 L' (B.take r ++ B.drop (r + 1)) := by
  obtain ⟨hlt, he⟩ := List.getElem?_eq_some_iff.1 hb
  have e : B = B.take r ++ b :: B.drop (r + 1) := by rw [← he, List.getElem_cons_drop hlt, List.take_append_drop]
  rw [e] at h
  rw [hm] at hL
  exact h.give hN hL
theorem Back.fin {hi : Int} {L0 L : Hs} (h : Back hi L0 L []) (h0 : Norm 0 hi L0) : L = L0 :=
  norm_unique h.norm h0 fun x _ => by rw [h.all x]; simp
end Go.Proofs.Ytkeijpngfnmjoaa.MineHeap
