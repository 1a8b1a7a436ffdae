/- A memory among what lies apart in memory; what its methods do to the list. Conditions: the numbers are as told. -/
import Derived.Test.YtkeijpngfnmjoaaMineMem
import Derived.Test.YtkeijpngfnmjoaaMineGen
namespace Go.Proofs.Ytkeijpngfnmjoaa.MineMem
open Go.RowKit Go.Proofs.YtkeijpngfnmjoaaW.PrintWords Go.Proofs.YtkeijpngfnmjoaaW.PrintLast Go.Proofs.YtkeijpngfnmjoaaW.PrintMore Go.Proofs.Ytkeijpngfnmjoaa.MineBase Go.Proofs.Ytkeijpngfnmjoaa.QMemPlays Go.Proofs.Ytkeijpngfnmjoaa.MineSep Go.Proofs.Ytkeijpngfnmjoaa.MineGen
set_option linter.unusedVariables false
set_option linter.unusedSimpArgs false
/-- A memory: its struct g, its bytes' row r. -/
def AMem (g r : Nat) (bs : List Int) : Asn where
  P := fun W D => (W.heap[g]? = some (.cells #[.slice (some ⟨r, 0, none⟩) bs.length bs.length] 113 (0, 0)) ∧ W.heap[r]? = some (.cells (bytesC bs) 5 (0, 0)) ∧ g ≠ r ∧ bs.length ≤ 1000000) ∧ D g ∧ D r
  mono := fun hd h => ⟨h.1, hd _ h.2.1, hd _ h.2.2⟩
  bound := fun h => ⟨h.1, ⟨h.2.1, (Array.getElem?_eq_some_iff.1 h.1.1).1⟩, h.2.2, (Array.getElem?_eq_some_iff.1 h.1.2.1).1⟩
  move := fun hm h => ⟨⟨(hm _ h.2.1).trans h.1.1, (hm _ h.2.2).trans h.1.2.1, h.1.2.2⟩, h.2⟩
theorem mem_use {w0 w : World} {l : List Asn} {g r : Nat} {bs : List Int} (h : Sat w0 w (AMem g r bs :: l)) : IsMem w0 w g r bs ∧ Below w0.heap.size w0 w ∧ ∀ w' bs', IsMem w0 w' g r bs' → Below w0.heap.size w0 w' → KeepBut w w' g (some r) → Sat w0 w' (AMem g r bs' :: l) := by
  have hb0 := h.toBelow
  obtain ⟨D, ⟨⟨h1, h2, h3, h4⟩, hg, hr⟩, hD, _, hcl⟩ := h.open_
  refine ⟨⟨h1, h2, (hD g hg).1, (hD r hr).1, h3, h4⟩, hb0, fun w' bs' hI hb hk => ?_⟩
  refine hcl w' (AMem g r bs') D hb ⟨hk.1, fun i hi hn => hk.2 i hi (fun e => hn (by rw [e]; exact hg)) (fun e => hn (by injection e with e; rw [e]; exact hr))⟩ ⟨⟨hI.1, hI.2.1, hI.2.2.2.2.1, hI.2.2.2.2.2⟩, hg, hr⟩ (fun _ hk => .inl hk)
theorem mem_new {w0 w : World} {g r : Nat} {bs : List Int} (h : IsMem w0 w g r bs) (hb : Below w0.heap.size w0 w) : Sat w0 w [AMem g r bs] :=
  (Sat.start w0).new (A := AMem g r bs) hb (D := fun k => k = g ∨ k = r) ⟨⟨h.1, h.2.1, h.2.2.2.2.1, h.2.2.2.2.2⟩, .inl rfl, .inr rfl⟩ (fun k hk => by rcases hk with rfl | rfl; exact h.2.2.1; exact h.2.2.2.1)
end Go.Proofs.Ytkeijpngfnmjoaa.MineMem
