/- Heap: holes as a list of places and sizes, and as what is free, word by word; plain facts, no program in sight. No condition. -/
import Derived.Test.YtkeijpngfnmjoaaMineSep
namespace Go.Proofs.Ytkeijpngfnmjoaa.MineHeap
set_option linter.unusedVariables false
abbrev Hs := List (Int × Int)
/-- A byte is of a hole. -/
def Has (L : Hs) (x : Int) : Prop := ∃ p ∈ L, p.1 ≤ x ∧ x < p.1 + p.2
/-- Holes rise, and don't touch; they are whole words between lo and hi. -/
def Norm (lo hi : Int) : Hs → Prop
  | [] => True
  | p :: L => lo ≤ p.1 ∧ p.1 % 4 = 0 ∧ 0 < p.2 ∧ p.2 % 4 = 0 ∧ p.1 + p.2 ≤ hi ∧ Norm (p.1 + p.2 + 1) hi L
theorem Norm.lower {lo lo' hi : Int} (h : lo' ≤ lo) : ∀ {L : Hs}, Norm lo hi L → Norm lo' hi L
  | [], _ => trivial
  | p :: L, h1 => ⟨by have := h1.1; omega, h1.2⟩
theorem Norm.mem {lo hi : Int} : ∀ {L : Hs}, Norm lo hi L → ∀ p ∈ L, lo ≤ p.1 ∧ p.1 % 4 = 0 ∧ 0 < p.2 ∧ p.2 % 4 = 0 ∧ p.1 + p.2 ≤ hi
  | [], _, p, hp => by cases hp
  | q :: L, h, p, hp => by
    rcases List.mem_cons.1 hp with rfl | hp
    · exact ⟨h.1, h.2.1, h.2.2.1, h.2.2.2.1, h.2.2.2.2.1⟩
    · have h2 := Norm.mem h.2.2.2.2.2 p hp
      have := h.1; have := h.2.2.1
      exact ⟨by omega, h2.2⟩
theorem Has.cons {p : Int × Int} {L : Hs} {x : Int} : Has (p :: L) x ↔ (p.1 ≤ x ∧ x < p.1 + p.2) ∨ Has L x := by
  unfold Has
  simp
theorem Has.nil {x : Int} : ¬ Has [] x := by unfold Has; simp
theorem Has.append {L M : Hs} {x : Int} : Has (L ++ M) x ↔ Has L x ∨ Has M x := by
  unfold Has
  constructor
  · rintro ⟨p, hp, h⟩
    rcases List.mem_append.1 hp with hp | hp
    · exact .inl ⟨p, hp, h⟩
    · exact .inr ⟨p, hp, h⟩
  · rintro (⟨p, hp, h⟩ | ⟨p, hp, h⟩)
    · exact ⟨p, List.mem_append_left _ hp, h⟩
    · exact ⟨p, List.mem_append_right _ hp, h⟩
theorem Norm.has {lo hi : Int} {L : Hs} (h : Norm lo hi L) {x : Int} (hx : Has L x) : lo ≤ x ∧ x < hi := by
  obtain ⟨p, hp, h1, h2⟩ := hx
  have := h.mem p hp
  omega
/-- Holes are told by which words are free. -/
theorem norm_unique {hi : Int} : ∀ {L M : Hs} {lo lo' : Int}, Norm lo hi L → Norm lo' hi M → (∀ x, x % 4 = 0 → (Has L x ↔ Has M x)) → L = M
  | [], [], _, _, _, _, _ => rfl
  | [], q :: M, _, _, _, hM, he => by
    exfalso
    have := (he q.1 hM.2.1).2 (Has.cons.2 (.inl ⟨Int.le_refl _, by have := hM.2.2.1; omega⟩))
    exact Has.nil this
  | p :: L, [], _, _, hL, _, he => by
    exfalso
    have := (he p.1 hL.2.1).1 (Has.cons.2 (.inl ⟨Int.le_refl _, by have := hL.2.2.1; omega⟩))
    exact Has.nil this
  | p :: L, q :: M, lo, lo', hL, hM, he => by
    obtain ⟨p1, p2, p3, p4, p5, p6⟩ := hL
    obtain ⟨q1, q2, q3, q4, q5, q6⟩ := hM
    have tail : ∀ {r : Int × Int} {K : Hs} {x : Int}, Norm (r.1 + r.2 + 1) hi K → Has K x → r.1 + r.2 < x := fun hk hx => by have := (hk.has hx).1; omega
    have e1 : p.1 = q.1 := by
      have a := (he p.1 p2).1 (Has.cons.2 (.inl ⟨Int.le_refl _, by omega⟩))
      have b := (he q.1 q2).2 (Has.cons.2 (.inl ⟨Int.le_refl _, by omega⟩))
      rcases Has.cons.1 a with a | a
      · rcases Has.cons.1 b with b | b
        · omega
        · have := tail p6 b; omega
      · have := tail q6 a
        rcases Has.cons.1 b with b | b
        · omega
        · have := tail p6 b; omega
    have e2 : p.2 = q.2 := by
      rcases Int.lt_trichotomy p.2 q.2 with h | h | h
      · exfalso
        have a := (he (p.1 + p.2) (by omega)).2 (Has.cons.2 (.inl ⟨by omega, by omega⟩))
        rcases Has.cons.1 a with a | a
        · omega
        · have := tail p6 a; omega
      · exact h
      · exfalso
        have a := (he (q.1 + q.2) (by omega)).1 (Has.cons.2 (.inl ⟨by omega, by omega⟩))
        rcases Has.cons.1 a with a | a
        · omega
        · have := tail q6 a; omega
    have e : p = q := by
      cases p; cases q
      simp only at e1 e2
      rw [e1, e2]
    subst e
    congr 1
    refine norm_unique p6 q6 fun x hx => ⟨fun h => ?_, fun h => ?_⟩
    · rcases Has.cons.1 ((he x hx).1 (Has.cons.2 (.inr h))) with a | a
      · have := tail p6 h; omega
      · exact a
    · rcases Has.cons.1 ((he x hx).2 (Has.cons.2 (.inr h))) with a | a
      · have := tail q6 h; omega
      · exact a
/-- Holes at the front, then more. -/
theorem norm_append {hi : Int} : ∀ {L M : Hs} {lo : Int}, Norm lo hi (L ++ M) ↔ Norm lo hi L ∧ Norm (match L.getLast? with | some p => p.1 + p.2 + 1 | none => lo) hi M
  | [], M, lo => by simp [Norm]
  | p :: L, M, lo => by
    simp only [List.cons_append, Norm]
    rw [norm_append]
    have e : (match (p :: L).getLast? with | some q => q.1 + q.2 + 1 | none => lo) = (match L.getLast? with | some q => q.1 + q.2 + 1 | none => p.1 + p.2 + 1) := by
      rw [List.getLast?_cons]
      cases L.getLast? <;> rfl
    rw [e]
    constructor
    · rintro ⟨a, b, c, d, e, f, g⟩; exact ⟨⟨a, b, c, d, e, f⟩, g⟩
    · rintro ⟨⟨a, b, c, d, e, f⟩, g⟩; exact ⟨a, b, c, d, e, f, g⟩
/-- What stands behind the last of a list's holes. -/
def endL (lo : Int) : Hs → Int
  | [] => lo
  | p :: L => endL (p.1 + p.2 + 1) L
theorem norm_app {hi : Int} : ∀ {L M : Hs} {lo : Int}, Norm lo hi (L ++ M) ↔ Norm lo hi L ∧ Norm (endL lo L) hi M
  | [], M, lo => by simp [Norm, endL]
  | p :: L, M, lo => by
    simp only [List.cons_append, Norm, endL]
    rw [norm_app]
    constructor
    · rintro ⟨a, b, c, d, e, f, g⟩; exact ⟨⟨a, b, c, d, e, f⟩, g⟩
    · rintro ⟨⟨a, b, c, d, e, f⟩, g⟩; exact ⟨a, b, c, d, e, f, g⟩
theorem endL_snoc (lo : Int) (p : Int × Int) : ∀ L : Hs, endL lo (L ++ [p]) = p.1 + p.2 + 1
  | [] => rfl
  | q :: L => by simp only [List.cons_append, endL]; exact endL_snoc _ p L
theorem endL_ge {lo hi : Int} : ∀ {L : Hs}, Norm lo hi L → lo ≤ endL lo L ∧ ∀ x, Has L x → x + 1 < endL lo L
  | [], _ => ⟨Int.le_refl _, fun x hx => (Has.nil hx).elim⟩
  | p :: L, h => by
    have h2 := endL_ge h.2.2.2.2.2
    have := h.1; have := h.2.2.1
    refine ⟨by simp only [endL]; omega, fun x hx => ?_⟩
    simp only [endL]
    rcases Has.cons.1 hx with a | a
    · omega
    · exact h2.2 x a
theorem norm_up {lo lo' hi : Int} : ∀ {L : Hs}, Norm lo hi L → (∀ p ∈ L, lo' ≤ p.1) → Norm lo' hi L
  | [], _, _ => trivial
  | p :: L, h, hp => ⟨hp p List.mem_cons_self, h.2⟩
/-! ### a block is taken -/
/-- A block of n bytes is taken from the hole p, behind the holes L1. -/
def cutP (p : Int × Int) (n : Int) : Hs := if p.2 - n = 0 then [] else [(p.1 + n, p.2 - n)]
theorem take_norm {lo hi n : Int} {L1 L2 : Hs} {p : Int × Int} (h : Norm lo hi (L1 ++ p :: L2)) (hn : 0 < n) (h4 : n % 4 = 0) (hp : n ≤ p.2) :
    Norm lo hi (L1 ++ (cutP p n ++ L2)) ∧ ∀ x, Has (L1 ++ (cutP p n ++ L2)) x ↔ Has (L1 ++ p :: L2) x ∧ ¬ (p.1 ≤ x ∧ x < p.1 + n) := by
  rw [norm_app] at h
  obtain ⟨h1, p1, p2, p3, p4, p5, p6⟩ := h
  have hout : ∀ x, Has L1 x → ¬ (p.1 ≤ x ∧ x < p.1 + n) := fun x hx => by have := (endL_ge h1).2 x hx; omega
  have hout2 : ∀ x, Has L2 x → ¬ (p.1 ≤ x ∧ x < p.1 + n) := fun x hx => by have := (p6.has hx).1; omega
  constructor
  · rw [norm_app]
    refine ⟨h1, ?_⟩
    unfold cutP
    split
    · exact Norm.lower (by omega) p6
    · exact ⟨show _ ≤ p.1 + n by omega, show (p.1 + n) % 4 = 0 by omega, show 0 < p.2 - n by omega, show (p.2 - n) % 4 = 0 by omega, show p.1 + n + (p.2 - n) ≤ hi by omega, Norm.lower (show p.1 + n + (p.2 - n) + 1 ≤ _ by omega) p6⟩
  · intro x
    rw [Has.append, Has.append, Has.append, Has.cons]
    have hc : Has (cutP p n) x ↔ p.1 + n ≤ x ∧ x < p.1 + p.2 := by
      unfold cutP
      split
      · constructor
        · intro h; exact (Has.nil h).elim
        · intro h; omega
      · rw [Has.cons]
        constructor
        · rintro (h | h)
          · exact ⟨h.1, by have := h.2; simp only at this; omega⟩
          · exact (Has.nil h).elim
        · intro h; exact .inl ⟨h.1, by simp only; omega⟩
    rw [hc]
    constructor
    · rintro (h | h | h)
      · exact ⟨.inl h, hout x h⟩
      · exact ⟨.inr (.inl ⟨by omega, by omega⟩), by omega⟩
      · exact ⟨.inr (.inr h), hout2 x h⟩
    · rintro ⟨h | h | h, hn⟩
      · exact .inl h
      · exact .inr (.inl (by omega))
      · exact .inr (.inr h)
/-! ### a block is given back -/
/-- A block is laid between two holes, or made one with them. -/
def joinR (p : Int × Int) : Hs → Hs
  | [] => [p]
  | q :: L => if p.1 + p.2 = q.1 then (p.1, p.2 + q.2) :: L else p :: q :: L
theorem joinR_norm {lo hi : Int} {p : Int × Int} {L : Hs} (h : Norm (p.1 + p.2) hi L) (h1 : lo ≤ p.1) (h2 : p.1 % 4 = 0) (h3 : 0 < p.2) (h4 : p.2 % 4 = 0) (h5 : p.1 + p.2 ≤ hi) :
    Norm lo hi (joinR p L) ∧ (∀ x, Has (joinR p L) x ↔ (p.1 ≤ x ∧ x < p.1 + p.2) ∨ Has L x) ∧ ∃ n L', joinR p L = (p.1, n) :: L' := by
  cases L with
  | nil => exact ⟨⟨h1, h2, h3, h4, h5, trivial⟩, fun x => Has.cons, p.2, [], rfl⟩
  | cons q L =>
    obtain ⟨q1, q2, q3, q4, q5, q6⟩ := h
    by_cases e : p.1 + p.2 = q.1
    · have ej : joinR p (q :: L) = (p.1, p.2 + q.2) :: L := by simp [joinR, e]
      rw [ej]
      refine ⟨⟨h1, h2, show 0 < p.2 + q.2 by omega, show (p.2 + q.2) % 4 = 0 by omega, show p.1 + (p.2 + q.2) ≤ hi by omega, Norm.lower (show p.1 + (p.2 + q.2) + 1 ≤ _ by omega) q6⟩, fun x => ?_, _, _, rfl⟩
      rw [Has.cons, Has.cons]
      simp only
      constructor
      · rintro (h | h)
        · by_cases hx : x < p.1 + p.2
          · exact .inl ⟨h.1, hx⟩
          · exact .inr (.inl (by omega))
        · exact .inr (.inr h)
      · rintro (h | h | h)
        · exact .inl (by omega)
        · exact .inl (by omega)
        · exact .inr h
    · have ej : joinR p (q :: L) = p :: q :: L := by simp [joinR, e]
      rw [ej]
      refine ⟨⟨h1, h2, h3, h4, h5, by omega, q2, q3, q4, q5, q6⟩, fun x => Has.cons, _, _, rfl⟩
/-- Behind the holes L, a hole, made one with the last of them if they touch. -/
def joinL (L : Hs) (M : Hs) : Hs :=
  match L.getLast?, M with
  | some q, p :: M' => if q.1 + q.2 = p.1 then L.dropLast ++ (q.1, q.2 + p.2) :: M' else L ++ M
  | _, _ => L ++ M
theorem give_norm {lo hi at_ n : Int} {L M : Hs} (h : Norm lo hi (L ++ M)) (hlo : lo ≤ at_) (h4 : at_ % 4 = 0) (hn : 0 < n) (hn4 : n % 4 = 0) (hhi : at_ + n ≤ hi) (hL : ∀ p ∈ L, p.1 + p.2 ≤ at_) (hM : ∀ p ∈ M, at_ + n ≤ p.1) :
    Norm lo hi (joinL L (joinR (at_, n) M)) ∧ ∀ x, Has (joinL L (joinR (at_, n) M)) x ↔ Has (L ++ M) x ∨ (at_ ≤ x ∧ x < at_ + n) := by
  rw [norm_app] at h
  obtain ⟨h1, h2⟩ := h
  have hM2 : Norm (at_ + n) hi M := norm_up h2 hM
  rcases List.eq_nil_or_concat L with rfl | ⟨L0, q, rfl⟩
  rotate_left
  simp only [List.concat_eq_append] at *
  rotate_left
  · obtain ⟨a, b, n', L', e⟩ := joinR_norm (lo := lo) (p := (at_, n)) hM2 hlo h4 hn hn4 hhi
    have e2 : joinL [] (joinR (at_, n) M) = joinR (at_, n) M := rfl
    rw [e2]
    refine ⟨a, fun x => ?_⟩
    rw [b x, List.nil_append]
    simp only
    exact Or.comm
  · rw [norm_app] at h1
    obtain ⟨h0, q1, q2, q3, q4, q5, _⟩ := h1
    have hq := hL q (by simp)
    obtain ⟨a, b, n', L', e⟩ := joinR_norm (lo := q.1 + q.2) (p := (at_, n)) hM2 hq h4 hn hn4 hhi
    have e2 : joinL (L0 ++ [q]) (joinR (at_, n) M) = if q.1 + q.2 = at_ then L0 ++ (q.1, q.2 + n') :: L' else L0 ++ [q] ++ joinR (at_, n) M := by
      unfold joinL
      rw [e, List.getLast?_concat, List.dropLast_concat]
    rw [e] at a
    have hbx : ∀ x, Has ((at_, n') :: L') x ↔ (at_ ≤ x ∧ x < at_ + n) ∨ Has M x := fun x => by rw [← e]; exact b x
    rw [e2]
    obtain ⟨a1, a2, a3, a4, a5, a6⟩ := a
    simp only at a1 a2 a3 a4 a5 a6
    split
    · rename_i e3
      constructor
      · rw [norm_app]
        exact ⟨h0, q1, q2, show 0 < q.2 + n' by omega, show (q.2 + n') % 4 = 0 by omega, show q.1 + (q.2 + n') ≤ hi by omega, Norm.lower (show q.1 + (q.2 + n') + 1 ≤ _ by omega) a6⟩
      · intro x
        rw [Has.append, Has.append, Has.append, Has.cons, Has.cons]
        have := hbx x
        rw [Has.cons] at this
        simp only at this ⊢
        constructor
        · rintro (h | h | h)
          · exact .inl (.inl (.inl h))
          · by_cases hx : x < q.1 + q.2
            · exact .inl (.inl (.inr (.inl ⟨h.1, hx⟩)))
            · rcases this.1 (.inl ⟨by omega, by omega⟩) with h9 | h9
              · exact .inr h9
              · exact .inl (.inr h9)
          · rcases this.1 (.inr h) with h9 | h9
            · exact .inr h9
            · exact .inl (.inr h9)
        · rintro ((((h | h | h)) | h) | h)
          · exact .inl h
          · exact .inr (.inl (by omega))
          · exact (Has.nil h).elim
          · rcases this.2 (.inr h) with h9 | h9
            · exact .inr (.inl (by omega))
            · exact .inr (.inr h9)
          · rcases this.2 (.inl h) with h9 | h9
            · exact .inr (.inl (by omega))
            · exact .inr (.inr h9)
    · rename_i e3
      constructor
      · rw [norm_app, norm_app, endL_snoc]
        rw [e]
        exact ⟨⟨h0, q1, q2, q3, q4, q5, trivial⟩, show q.1 + q.2 + 1 ≤ at_ by omega, a2, a3, a4, a5, a6⟩
      · intro x
        rw [Has.append (L := L0 ++ [q]), Has.append (L := L0 ++ [q]), b x]
        simp only
        constructor
        · rintro (h | h | h)
          · exact .inl (.inl h)
          · exact .inr h
          · exact .inl (.inr h)
        · rintro ((h | h) | h)
          · exact .inl h
          · exact .inr (.inr h)
          · exact .inr (.inl h)
end Go.Proofs.Ytkeijpngfnmjoaa.MineHeap
