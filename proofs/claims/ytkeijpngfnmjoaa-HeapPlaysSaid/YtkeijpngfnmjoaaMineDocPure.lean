/- HeapPlays, the plain law: which words are free, as the document keeps it, and holes. No program in sight. No condition. -/
import Derived.Test.YtkeijpngfnmjoaaMineHeapPure
namespace Go.Proofs.Ytkeijpngfnmjoaa.MineHeap
set_option linter.unusedVariables false
/-- The document's words are the holes. -/
structure Words (lo hi : Int) (F : List Bool) (L : Hs) : Prop where
  len : (F.length : Int) * 4 = hi - lo
  free : ∀ (k : Nat) (b : Bool), F[k]? = some b → (b = true ↔ Has L (lo + 4 * k))
theorem norm_end {hi : Int} : ∀ {L : Hs} {lo : Int}, Norm lo hi L → ∀ p ∈ L, ¬ Has L (p.1 + p.2)
  | [], _, _, p, hp => by cases hp
  | q :: L, lo, h, p, hp => by
    obtain ⟨q1, q2, q3, q4, q5, q6⟩ := h
    intro hx
    rcases List.mem_cons.1 hp with rfl | hp
    · rcases Has.cons.1 hx with hx | hx
      · omega
      · have := (q6.has hx).1; omega
    · have h2 := q6.mem p hp
      rcases Has.cons.1 hx with hx | hx
      · omega
      · exact norm_end q6 p hp hx
/-- What is free in one piece lies in one hole. -/
theorem run_hole {lo hi a m : Int} {L : Hs} (hN : Norm lo hi L) (ha : a % 4 = 0) (hm : 0 < m) (h : ∀ x, x % 4 = 0 → a ≤ x → x < a + m → Has L x) : ∃ p ∈ L, p.1 ≤ a ∧ a + m ≤ p.1 + p.2 := by
  obtain ⟨p, hp, h1, h2⟩ := h a ha (Int.le_refl _) (by omega)
  refine ⟨p, hp, h1, ?_⟩
  refine Decidable.byContradiction fun hc => ?_
  have := hN.mem p hp
  exact norm_end hN p hp (h _ (by omega) (by omega) (by omega))
/-- A piece of a row is set. -/
def setR (F : List Bool) (s : Nat) (b : Bool) : Nat → List Bool
  | 0 => F
  | m + 1 => (setR F s b m).set (s + m) b
theorem setR_len (F : List Bool) (s : Nat) (b : Bool) : ∀ m, (setR F s b m).length = F.length
  | 0 => rfl
  | m + 1 => by rw [setR, List.length_set]; exact setR_len F s b m
theorem setR_get (F : List Bool) (s : Nat) (b : Bool) (k : Nat) : ∀ m, (setR F s b m)[k]? = if s ≤ k ∧ k < s + m ∧ k < F.length then some b else F[k]?
  | 0 => by rw [setR, if_neg (by omega)]
  | m + 1 => by
    rw [setR, List.getElem?_set, setR_len]
    by_cases h : s + m = k
    · rw [if_pos h]
      by_cases hk : k < F.length
      · rw [if_pos (by omega), if_pos (by omega)]
      · rw [if_neg (by omega), if_neg (by omega), List.getElem?_eq_none (by omega)]
    · rw [if_neg h, setR_get F s b k m]
      by_cases hk : s ≤ k ∧ k < s + m ∧ k < F.length
      · rw [if_pos hk, if_pos (by omega)]
      · rw [if_neg hk, if_neg (by omega)]
theorem words_run {lo hi : Int} {F : List Bool} {L : Hs} (hW : Words lo hi F L) (hN : Norm lo hi L) (h4 : lo % 4 = 0) {s m : Nat} (hm : 0 < m) (hs : s + m ≤ F.length) (h : ¬ ∃ j, s ≤ j ∧ j < s + m ∧ F[j]? = some false) : ∃ p ∈ L, p.1 ≤ lo + 4 * s ∧ lo + 4 * s + 4 * m ≤ p.1 + p.2 := by
  refine run_hole hN (by omega) (by omega) fun x hx h1 h2 => ?_
  obtain ⟨k, rfl⟩ : ∃ k : Nat, x = lo + 4 * k := ⟨((x - lo) / 4).toNat, by omega⟩
  have hk : k < F.length := by omega
  refine (hW.free k true ?_).1 rfl
  rw [List.getElem?_eq_getElem hk]
  cases e : F[k] with
  | true => rfl
  | false => exact absurd ⟨k, by omega, by omega, by rw [List.getElem?_eq_getElem hk, e]⟩ h
/-- No piece is as long. -/
def NoRun (F : List Bool) (m : Nat) (t : Nat) : Prop := ∀ s, s + m ≤ F.length → s < t → ∃ j, s ≤ j ∧ j < s + m ∧ F[j]? = some false
theorem noRun_of {lo hi : Int} {F : List Bool} {L : Hs} (hW : Words lo hi F L) (hN : Norm lo hi L) (h4 : lo % 4 = 0) {m : Nat} (hm : 0 < m) (t : Nat) (h : ∀ p ∈ L, p.2 < 4 * m) : NoRun F m t := by
  intro s hs _
  refine Classical.byContradiction fun hc => ?_
  obtain ⟨p, hp, h1, h2⟩ := words_run hW hN h4 hm hs hc
  have := h p hp
  omega
/-- The first piece that is as long. -/
theorem firstRun_of {lo hi : Int} {F : List Bool} {L1 L2 : Hs} {p : Int × Int} (hW : Words lo hi F (L1 ++ p :: L2)) (hN : Norm lo hi (L1 ++ p :: L2)) (h4 : lo % 4 = 0) {m : Nat} (hm : 0 < m) (hp : 4 * (m : Int) ≤ p.2) (h : ∀ q ∈ L1, q.2 < 4 * m) :
    ∃ s : Nat, p.1 = lo + 4 * s ∧ s + m ≤ F.length ∧ NoRun F m s ∧ ∀ j, s ≤ j → j < s + m → F[j]? = some true := by
  have hpm := hN.mem p (by simp)
  refine ⟨((p.1 - lo) / 4).toNat, by omega, by have := hW.len; omega, fun s hs hlt => ?_, fun j h1 h2 => ?_⟩
  · refine Classical.byContradiction fun hc => ?_
    obtain ⟨q, hq, h1, h2⟩ := words_run hW hN h4 hm hs hc
    rcases List.mem_append.1 hq with hq | hq
    · have := h q hq; omega
    · rcases List.mem_cons.1 hq with rfl | hq
      · omega
      · have h2 : Norm lo hi ((L1 ++ [p]) ++ L2) := by simpa using hN
        have h3 := (norm_app.1 h2).2
        rw [endL_snoc] at h3
        have := h3.mem q hq
        omega
  · have hk : j < F.length := by have := hW.len; omega
    have hf := hW.free j F[j] (List.getElem?_eq_getElem hk)
    rw [List.getElem?_eq_getElem hk, hf.2 ⟨p, by simp, by omega, by omega⟩]
theorem words_set {lo hi : Int} {F : List Bool} {L L' : Hs} (hW : Words lo hi F L) (s m : Nat) (b : Bool) (h : ∀ k : Nat, k < F.length → (Has L' (lo + 4 * k) ↔ if s ≤ k ∧ k < s + m then b = true else Has L (lo + 4 * k))) : Words lo hi (setR F s b m) L' := by
  refine ⟨by rw [setR_len]; exact hW.len, fun k c hk => ?_⟩
  have hl : k < F.length := by
    have := (List.getElem?_eq_some_iff.1 hk).1
    rwa [setR_len] at this
  rw [setR_get] at hk
  rw [h k hl]
  by_cases hc : s ≤ k ∧ k < s + m
  · rw [if_pos ⟨hc.1, hc.2, hl⟩, Option.some.injEq] at hk
    rw [if_pos hc, hk]
  · rw [if_neg (by omega)] at hk
    rw [if_neg hc]
    exact hW.free k c hk
theorem words_start {lo hi : Int} (h1 : lo ≤ hi) (h2 : lo % 4 = 0) (h3 : hi % 4 = 0) (L : Hs) (h : ∀ x, Has L x ↔ lo ≤ x ∧ x < hi) : Words lo hi (List.replicate ((hi - lo) / 4).toNat true) L := by
  refine ⟨by rw [List.length_replicate]; omega, fun k b hk => ?_⟩
  rw [List.getElem?_replicate] at hk
  split at hk
  · rename_i hlt
    injection hk with hk
    rw [← hk, h]
    simp only [true_iff]
    omega
  · cases hk
/-- So many of the last words are free. -/
def RunIs (F : List Bool) (i row : Nat) : Prop := row ≤ i ∧ (∀ j, i - row ≤ j → j < i → F[j]? = some true) ∧ (row = i ∨ F[i - row - 1]? = some false)
theorem run_zero (F : List Bool) : RunIs F 0 0 := ⟨Nat.le_refl _, fun j _ h => absurd h (by omega), .inl rfl⟩
theorem run_true {F : List Bool} {i row : Nat} (h : RunIs F i row) (hF : F[i]? = some true) : RunIs F (i + 1) (row + 1) := by
  obtain ⟨h1, h2, h3⟩ := h
  refine ⟨by omega, fun j a b => ?_, ?_⟩
  · by_cases hj : j = i
    · rw [hj]; exact hF
    · exact h2 j (by omega) (by omega)
  · rcases h3 with h3 | h3
    · exact .inl (by omega)
    · exact .inr (by rw [show i + 1 - (row + 1) - 1 = i - row - 1 by omega]; exact h3)
theorem run_false {F : List Bool} {i : Nat} (hF : F[i]? = some false) : RunIs F (i + 1) 0 := ⟨by omega, fun j a b => absurd b (by omega), .inr (by simpa using hF)⟩
theorem run_no {F : List Bool} {i m t : Nat} (h : RunIs F i m) (hm : 0 < m) (hi : i ≤ F.length) (hn : NoRun F m t) (ht : i - m < t) : False := by
  obtain ⟨j, a, b, c⟩ := hn (i - m) (by have := h.1; omega) ht
  have := h.2.1 j a (by have := h.1; omega)
  rw [c] at this
  cases this
theorem run_hit {F : List Bool} {s m row : Nat} (h : RunIs F (s + m) row) (ha : ∀ j, s ≤ j → j < s + m → F[j]? = some true) : m ≤ row := by
  obtain ⟨h1, h2, h3⟩ := h
  rcases h3 with h3 | h3
  · omega
  · refine Decidable.byContradiction fun hc => ?_
    have := ha (s + m - row - 1) (by omega) (by omega)
    rw [h3] at this
    cases this
/-! ### the document's holes -/
/-- One word more. -/
def addW (lo : Int) (F : List Bool) (i : Nat) (H : Hs) : Hs :=
  if F[i]? = some true then (if 0 < i ∧ 0 < H.length ∧ F[i - 1]? = some true then H.set (H.length - 1) ((H.getD (H.length - 1) (0, 0)).1, (H.getD (H.length - 1) (0, 0)).2 + 4) else H ++ [(lo + 4 * i, 4)]) else H
def holesW (lo : Int) (F : List Bool) : Nat → Hs
  | 0 => []
  | i + 1 => addW lo F i (holesW lo F i)
/-- What the holes of the first words are. -/
structure UpTo (lo : Int) (F : List Bool) (i : Nat) (H : Hs) : Prop where
  norm : Norm lo (lo + 4 * i) H
  has : ∀ k : Nat, Has H (lo + 4 * k) ↔ k < i ∧ F[k]? = some true
  last : 0 < i → F[i - 1]? = some true → ∃ X p, H = X ++ [p] ∧ p.1 + p.2 = lo + 4 * i
  low : (0 < i → F[i - 1]? ≠ some true) → Norm lo (lo + 4 * i - 1) H
theorem norm_snoc {hi hi' : Int} : ∀ {L : Hs} {lo : Int}, Norm lo hi L → ∀ q : Int × Int, lo ≤ q.1 → hi + 1 ≤ q.1 → q.1 % 4 = 0 → 0 < q.2 → q.2 % 4 = 0 → q.1 + q.2 ≤ hi' → Norm lo hi' (L ++ [q])
  | [], lo, _, q, h0, h1, h2, h3, h4, h5 => ⟨h0, h2, h3, h4, h5, trivial⟩
  | p :: L, lo, h, q, h0, h1, h2, h3, h4, h5 => ⟨h.1, h.2.1, h.2.2.1, h.2.2.2.1, by have := h.2.2.2.2.1; omega, norm_snoc h.2.2.2.2.2 q (by have := h.2.2.2.2.1; omega) h1 h2 h3 h4 h5⟩
theorem norm_grow {hi hi' : Int} : ∀ {L : Hs} {lo : Int} {p : Int × Int} {d : Int}, Norm lo hi (L ++ [p]) → 0 ≤ d → d % 4 = 0 → p.1 + p.2 + d ≤ hi' → hi ≤ hi' → Norm lo hi' (L ++ [(p.1, p.2 + d)])
  | [], lo, p, d, h, h1, h2, h3, h4 => ⟨h.1, h.2.1, by have := h.2.2.1; simp only; omega, by have := h.2.2.2.1; simp only; omega, by simp only; omega, trivial⟩
  | q :: L, lo, p, d, h, h1, h2, h3, h4 => ⟨h.1, h.2.1, h.2.2.1, h.2.2.2.1, by have := h.2.2.2.2.1; omega, norm_grow h.2.2.2.2.2 h1 h2 h3 h4⟩
theorem norm_upper {hi hi' : Int} (hh : hi ≤ hi') : ∀ {L : Hs} {lo : Int}, Norm lo hi L → Norm lo hi' L
  | [], _, _ => trivial
  | p :: L, lo, h => ⟨h.1, h.2.1, h.2.2.1, h.2.2.2.1, by have := h.2.2.2.2.1; omega, norm_upper hh h.2.2.2.2.2⟩
theorem upTo_zero (lo : Int) (F : List Bool) : UpTo lo F 0 [] := ⟨trivial, fun k => ⟨fun h => absurd h Has.nil, fun h => absurd h.1 (by omega)⟩, fun h => absurd h (by omega), fun _ => trivial⟩
theorem upTo_succ {lo : Int} {F : List Bool} {i : Nat} {H : Hs} (h4 : lo % 4 = 0) (h : UpTo lo F i H) : UpTo lo F (i + 1) (addW lo F i H) := by
  unfold addW
  by_cases hF : F[i]? = some true
  · rw [if_pos hF]
    by_cases hc : 0 < i ∧ 0 < H.length ∧ F[i - 1]? = some true
    · rw [if_pos hc]
      obtain ⟨X, p, rfl, hp⟩ := h.last hc.1 hc.2.2
      have e : (X ++ [p]).set ((X ++ [p]).length - 1) (((X ++ [p]).getD ((X ++ [p]).length - 1) (0, 0)).1, ((X ++ [p]).getD ((X ++ [p]).length - 1) (0, 0)).2 + 4) = X ++ [(p.1, p.2 + 4)] := by
        rw [show (X ++ [p]).length - 1 = X.length by simp, List.getD_eq_getElem?_getD, List.getElem?_append_right (Nat.le_refl _), Nat.sub_self, List.set_append_right _ _ (Nat.le_refl _), Nat.sub_self]
        rfl
      rw [e]
      have hpm := h.norm.mem p (by simp)
      refine ⟨norm_grow h.norm (by omega) (by omega) (by omega) (by omega), fun k => ?_, fun _ _ => ⟨X, (p.1, p.2 + 4), rfl, by simp only; omega⟩, fun hn => absurd hF (hn (by omega))⟩
      have hk := h.has k
      rw [Has.append, Has.cons] at hk ⊢
      simp only
      constructor
      · rintro (hx | hx | hx)
        · have := hk.1 (.inl hx); exact ⟨by omega, this.2⟩
        · by_cases hki : k < i
          · have := hk.1 (.inr (.inl ⟨hx.1, by omega⟩)); exact ⟨by omega, this.2⟩
          · have : k = i := by omega
            subst this
            exact ⟨by omega, hF⟩
        · exact absurd hx Has.nil
      · rintro ⟨h1, h2⟩
        by_cases hki : k < i
        · rcases hk.2 ⟨hki, h2⟩ with hx | hx | hx
          · exact .inl hx
          · exact .inr (.inl ⟨hx.1, by omega⟩)
          · exact absurd hx Has.nil
        · have : k = i := by omega
          subst this
          exact .inr (.inl ⟨by omega, by omega⟩)
    · rw [if_neg hc]
      have hlow : Norm lo (lo + 4 * i - 1) H := h.low fun hi he => hc ⟨hi, by
        obtain ⟨X, p, rfl, _⟩ := h.last hi he
        simp, he⟩
      refine ⟨norm_snoc hlow (lo + 4 * i, 4) (by simp only; omega) (by simp only; omega) (by simp only; omega) (by simp only; omega) (by show (4 : Int) % 4 = 0; decide) (by simp only; omega), fun k => ?_, fun _ _ => ⟨H, _, rfl, by simp only; omega⟩, fun hn => absurd hF (hn (by omega))⟩
      have hk := h.has k
      rw [Has.append, Has.cons]
      simp only
      constructor
      · rintro (hx | hx | hx)
        · have := hk.1 hx; exact ⟨by omega, this.2⟩
        · have : k = i := by omega
          subst this
          exact ⟨by omega, hF⟩
        · exact absurd hx Has.nil
      · rintro ⟨h1, h2⟩
        by_cases hki : k < i
        · exact .inl (hk.2 ⟨hki, h2⟩)
        · have : k = i := by omega
          subst this
          exact .inr (.inl ⟨by omega, by omega⟩)
  · rw [if_neg hF]
    refine ⟨norm_upper (by omega) h.norm, fun k => ?_, fun _ he => absurd he hF, fun _ => norm_upper (by omega) h.norm⟩
    rw [h.has k]
    constructor
    · rintro ⟨h1, h2⟩; exact ⟨by omega, h2⟩
    · rintro ⟨h1, h2⟩
      refine ⟨?_, h2⟩
      refine Decidable.byContradiction fun hki => ?_
      have : k = i := by omega
      subst this
      exact hF h2
theorem upTo_all {lo : Int} (F : List Bool) (h4 : lo % 4 = 0) : ∀ i, UpTo lo F i (holesW lo F i)
  | 0 => upTo_zero lo F
  | i + 1 => upTo_succ h4 (upTo_all F h4 i)
theorem addW_len (lo : Int) (F : List Bool) (i : Nat) (H : Hs) : (addW lo F i H).length ≤ H.length + 1 := by
  unfold addW
  split
  · split <;> simp
  · omega
theorem holesW_len (lo : Int) (F : List Bool) : ∀ i, (holesW lo F i).length ≤ i
  | 0 => Nat.le_refl _
  | i + 1 => Nat.le_trans (addW_len _ _ _ _) (Nat.succ_le_succ (holesW_len lo F i))
/-- The document's holes are the holes. -/
theorem holesW_eq {lo hi : Int} {F : List Bool} {L : Hs} (hW : Words lo hi F L) (hN : Norm lo hi L) (h4 : lo % 4 = 0) : holesW lo F F.length = L := by
  have hU := upTo_all F h4 F.length
  refine norm_unique hU.norm (norm_upper (by have := hW.len; omega) hN) fun x hx => ?_
  constructor
  · intro h
    have hb := hU.norm.has h
    obtain ⟨k, rfl⟩ : ∃ k : Nat, x = lo + 4 * k := ⟨((x - lo) / 4).toNat, by omega⟩
    obtain ⟨h1, h2⟩ := (hU.has k).1 h
    exact (hW.free k true h2).1 rfl
  · intro h
    have hb := hN.has h
    obtain ⟨k, rfl⟩ : ∃ k : Nat, x = lo + 4 * k := ⟨((x - lo) / 4).toNat, by omega⟩
    have hk : k < F.length := by have := hW.len; omega
    refine (hU.has k).2 ⟨hk, ?_⟩
    rw [List.getElem?_eq_getElem hk, (hW.free k _ (List.getElem?_eq_getElem hk)).2 h]
end Go.Proofs.Ytkeijpngfnmjoaa.MineHeap
