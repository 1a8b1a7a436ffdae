/- Tables of modules: adding one. Conditions: the lengths are small. -/
import Derived.Test.YtlgfdokdckaejaaMineTabH
namespace Go.Proofs.Ytlgfdokdckaejaa.MineTab
open Go.RowKit Go.MapKept Go.Proofs.YtlgfdokdckaejaaW.PrintWords Go.Proofs.YtlgfdokdckaejaaW.PrintLast Go.Proofs.YtlgfdokdckaejaaW.PrintMore Go.Proofs.Ytlgfdokdckaejaa.MineBase Go.Proofs.Ytlgfdokdckaejaa.MineSep Go.Proofs.Ytlgfdokdckaejaa.MineRows Go.Proofs.Ytlgfdokdckaejaa.QTableKeeps
set_option linter.unusedVariables false
set_option linter.unusedSimpArgs false
/-- The error's number, or none. -/
def errV : Option Int → Value
  | none => .nilIface
  | some c => .iface 30 (.int .i64 c)
/-- What is not there, of a list of names. -/
def missI (ms : List S65) (xs : List ByteArray) : Int := idxP (fun x => decide (atI ms x < 0)) xs
/-- Which error adding a module brings. -/
def addE (most : Int) (ms : List S65) (m : S65) : Option Int := if most - ms.length = 0 then some 8 else if 0 ≤ atI ms m.f0 then some 1 else if 0 ≤ missI ms m.f5 then some 3 else none
/-- The modules, behind. -/
def addT (most : Int) (ms : List S65) (m : S65) : List S65 := if addE most ms m = none then ms ++ [m] else ms
theorem load_row_step {P : Program} {ops : Array Oper} {o : Oper} {a : Act} {W : World} {Kc : Act → World → Prop} {Q : Exit → Act → World → Prop} (hw : Region.wanted o (yielded ops a.tmps) = true) (ty : TypeId) (x : Operand) (ho : o.op = .load ty x)
    (g : Nat) (hx : a.eval x = .pointer (some ⟨g, 0, none⟩)) (t : TypeId) (cs : Array Value) (fr : Nat × Nat) (d : TypeDesc) (hg : W.heap[g]? = some (.cells cs t fr))
    (hu : P.underlying ty = some d) (hd : (match d with | .struct _ | .array _ _ => true | _ => false) = true) (hi : (P.info? ty).map (·.size) = some cs.size)
    (h : Kc (a.put o.dst (.agg cs)) W) : if Region.wanted o (yielded ops a.tmps) = true then Oper.wp P o a W Kc Q else Kc (a.put o.dst undef) W := by
  rw [if_pos hw]
  exact wp_load_row ty x ho g hx t cs fr d hg hu hd hi h
theorem tab_add {w0 W : World} {g : Nat} {most : Int} {ms : List S65} {l : List Asn} {c : Nat} {A : Option Addr} (HS : Sat w0 W (ATab w0.heap.size g most ms :: l)) (hg : W.heap[g]? = some (.cells #[.int .i64 most, .slice A ms.length c] 86 (0, 0))) (m : S65) (hroom : (ms.length : Int) + 1 ≤ most) (hsm : SmallM m) :
    ∃ ok : Nat → Prop, Kd.N k65 65 W w0.heap.size ok (.slice A ms.length c) ms ∧ (∀ k, W.heap.size ≤ k → ok k ∧ some k ≠ (Value.slice A ms.length c).ownBlock) ∧
      ∀ W3 W4 v1, Below W.heap.size W W3 → W3.grownBy W4 (Value.slice A ms.length c).ownBlock → Kd.N k65 65 W4 w0.heap.size ok v1 (ms ++ [m]) → W4.heap[g]? = some (.cells #[.int .i64 most, .slice A ms.length c] 86 (0, 0)) ∧
        Sat w0 (W4.setCell ⟨g, 1, none⟩ v1) (ATab w0.heap.size g most (ms ++ [m]) :: l) := by
  have hS0 := HS.toBelow
  have hSz := HS.size
  obtain ⟨D, ⟨v, h1, h2, h3, h4, h5⟩, hD, _, hcl⟩ := HS.open_
  rw [h1] at hg
  injection hg with hg
  injection hg with hg
  obtain rfl : v = .slice A ms.length c := by simpa using hg
  have hlt := blk_lt h1
  have hob : ∀ k, (Value.slice A ms.length c).ownBlock = some k → (D k ∧ k ≠ g) ∧ k < W.heap.size := fun k hk => ⟨h3.1 k hk, (hD k (h3.1 k hk).1).2⟩
  refine ⟨fun k => (D k ∧ k ≠ g) ∨ W.heap.size ≤ k, Kd.N_mono h3 (fun k hk => .inl hk), fun k hk => ⟨.inr hk, fun e => by have := (hob k e.symm).2; omega⟩, fun W3 W4 v1 hB hG hN => ?_⟩
  have hg3 := (hB.block g hlt).trans h1
  have hg4 : W4.heap[g]? = some (.cells #[.int .i64 most, .slice A ms.length c] 86 (0, 0)) := (hG.block g (blk_lt hg3) (by intro e; exact (hob g e.symm).1.2 rfl)).trans hg3
  refine ⟨hg4, hcl _ (ATab w0.heap.size g most (ms ++ [m])) (fun k => D k ∨ W.heap.size ≤ k) ?_ ?_ ⟨v1, ?_, .inl h2, ?_, ⟨h4.1, h4.2.1, ?_⟩, fun m' hm => ?_⟩ (fun k hk => hk)⟩
  · exact Below.setCell ((below_then hS0 hSz hB).grown hG (Nat.le_trans hSz hB.size) (fun k hk => (hD _ (hob k hk).1.1).1)) (p := ⟨g, 1, none⟩) (hD _ h2).1 _
  · refine Kept.setCell ?_ (p := ⟨g, 1, none⟩) (.inl h2) _
    refine Kept.of_grown hG ?_ (fun k hk => .inl (hob k hk).1.1)
    exact ⟨hB.size, fun k hk _ => hB.block k hk⟩
  · rw [setCell_eq_setRow W4 g 1 _ _ _ _ hg4]
    exact setRow_heap W4 g _ _ 86 _ hg4
  · refine Kd.N_mono (Kd.N_far hN (p := ⟨g, 1, none⟩) (fun k hk => ?_) _) (fun k hk => ?_)
    · rcases hk with hk | hk
      · exact hk.2
      · intro e
        have e' : k = g := e
        omega
    · rcases hk with hk | hk
      · exact ⟨.inl hk.1, hk.2⟩
      · exact ⟨.inr hk, by omega⟩
  · rw [List.length_append, List.length_singleton]; push_cast; omega
  · rcases List.mem_append.1 hm with h | h
    · exact h5 _ h
    · rw [List.mem_singleton.1 h]; exact hsm
end Go.Proofs.Ytlgfdokdckaejaa.MineTab
