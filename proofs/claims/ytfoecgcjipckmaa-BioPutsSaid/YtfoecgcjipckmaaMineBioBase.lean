/- BioPuts: small laws for its walk. No condition but that the lengths are small. -/
import Derived.Test.YtfoecgcjipckmaaMinePut
namespace Go.Proofs.Ytfoecgcjipckmaa.MinePut
open Go.RowKit Go.Proofs.YtfoecgcjipckmaaW.PrintWords Go.Proofs.YtfoecgcjipckmaaW.PrintLast Go.Proofs.YtfoecgcjipckmaaW.PrintMore Go.Proofs.Ytfoecgcjipckmaa.MineBase
attribute [local go_sem] max2_int min2_int max_two min_two max_three min_three max_four min_four   -- for this text's walks alone
set_option linter.unusedVariables false
set_option linter.unusedSimpArgs false
theorem empty_own (W0 : World) : Kd.R (Kd.int .u8) 5 (W0.alloc (.cells #[] 5)) W0.heap.size (fun _ => True) (.slice (some ⟨W0.heap.size, 0, none⟩) 0 0) [] := by
  have h := own_lit W0 W0.heap.size 5 .u8 [] (Nat.le_refl _) (by decide)
  exact Kd.R_of_own (h1 := fun _ => rfl) (ok := fun _ => True) h (fun _ _ => trivial)
theorem copy_list {ops : Array Oper} {rest : List Oper} {o : Oper} {a : Act} {Q : Exit → Act → World → Prop} (hgd : o.guard = none) (s x : Operand)
    (ho : o.op = .call { callee := .builtin .append, args := #[s, x], argTypes := #[30, 30] }) (W0 : World) (A : Option Addr) (c : Nat) (l : List Int)
    (hs : a.eval s = .slice (some ⟨W0.heap.size, 0, none⟩) 0 0) (hx : a.eval x = .slice A l.length c) (hC : Kd.C (Kd.int .u8) W0 A l.length l) (hl : l.length ≤ 1000)
    (h : ∀ v1 w1, Own W0 w1 v1 l → Below W0.heap.size W0 w1 → wpList Try.prog ops Q rest (a.put o.dst v1) w1) : wpList Try.prog ops Q (o :: rest) a (W0.alloc (.cells #[] 5)) := by
  have hb := below_alloc (Below.refl W0.heap.size W0) (.cells #[] 5)
  refine Kd.R_append_row (Value.int .u8) (0 : Int) (h1 := fun _ => rfl) (w0 := W0) W0.heap.size hgd s x 30 5 (.int .u8 0) 1 ho Try.underlying30 info5p rfl (by decide) _ [] l A l.length c (fun _ => True) hs hx (fun _ _ => trivial) (empty_own W0) (Kd.C_below hC hb) hb hb.size (by simp; omega) ?_
  intro v1 w1 hR hB _ _
  exact h v1 w1 hR hB
theorem copy_step {ops : Array Oper} {o : Oper} {a : Act} {Q : Exit → Act → World → Prop} {Kc : Act → World → Prop} (hw : Region.wanted o (yielded ops a.tmps) = true) (s x : Operand)
    (ho : o.op = .call { callee := .builtin .append, args := #[s, x], argTypes := #[30, 30] }) (W0 : World) (A : Option Addr) (c : Nat) (l : List Int)
    (hs : a.eval s = .slice (some ⟨W0.heap.size, 0, none⟩) 0 0) (hx : a.eval x = .slice A l.length c) (hC : Kd.C (Kd.int .u8) W0 A l.length l) (hl : l.length ≤ 1000)
    (h : ∀ v1 w1, Own W0 w1 v1 l → Below W0.heap.size W0 w1 → Kc (a.put o.dst v1) w1) :
    if Region.wanted o (yielded ops a.tmps) = true then Oper.wp Try.prog o a (W0.alloc (.cells #[] 5)) Kc Q else Kc (a.put o.dst undef) (W0.alloc (.cells #[] 5)) := by
  have hb := below_alloc (Below.refl W0.heap.size W0) (.cells #[] 5)
  refine Kd.R_append_rows_step (Kd.int .u8) (Rr := (Kd.int .u8).K W0) (w0 := W0) W0.heap.size hw s x 30 5 (.int .u8 0) 1 ho Try.underlying30 info5p rfl (by decide) (by decide) _ [] l A l.length c (fun _ => True) (fun _ => False) hs hx (empty_own W0) (Kd.C_below hC hb) (fun _ _ h => h) (fun _ h => h.elim) (fun _ _ => trivial) hb hb.size (by simp; omega) ?_
  intro v1 w1 hR hB _ _
  exact h v1 w1 (by simpa using hR) hB
/-- A row's string, in all later worlds. -/
theorem own_cut {W0 W : World} {v : Value} {l : List Int} (h : Own W0 W v l) : ∃ A n c, v = .slice A n c ∧ ∀ W', Below W.heap.size W W' → (convert 30 9 (.slice A n c)).run Try.prog W' = .ok (.string (strOfNums l)) W' := by
  obtain ⟨A, c, rfl, _, hC⟩ := Kd.R_reads h
  exact ⟨A, l.length, c, rfl, fun W' hB => Kd.C_string Try.underlying30 Try.underlying5 Try.underlying9 (Kd.C_below hC hB)⟩
def txt (s : ByteArray) : List Int := if 255 < s.size then [255] ++ bytesOf (s.extract 0 255) else [(s.size : Int)] ++ bytesOf s
theorem PutText_any (v : Value) (l : List Int) (s : ByteArray) (w0 w : World) (hB : Below w0.heap.size w0 w) (ho : Own w0 w v l) (hl : l.length ≤ 1000) (hs : s.size ≤ 1000) :
    Calls Try.prog 39 #[v, .string s] w fun e w' => ∃ v', e = .returned v' ∧ Own w0 w' v' (l ++ txt s) ∧ Below w0.heap.size w0 w' := by
  unfold txt
  by_cases h : 255 < s.size
  · rw [if_pos h, ← List.append_assoc]; exact PutText_long v l s w0 w hB ho hl h hs
  · rw [if_neg h, ← List.append_assoc]; exact PutText_short v l s w0 w hB ho hl (by omega)
theorem ref_PutText_any (v : Value) (l : List Int) (s : ByteArray) (w0 w : World) (hB : Below w0.heap.size w0 w) (ho : Own w0 w v l) (hl : l.length ≤ 1000) (hs : s.size ≤ 1000) :
    Calls Try.prog 41 #[v, .string s] w fun e w' => ∃ v', e = .returned v' ∧ Own w0 w' v' (l ++ txt s) ∧ Below w0.heap.size w0 w' := by
  unfold txt
  by_cases h : 255 < s.size
  · rw [if_pos h, ← List.append_assoc]; exact ref_PutText_long v l s w0 w hB ho hl h hs
  · rw [if_neg h, ← List.append_assoc]; exact ref_PutText_short v l s w0 w hB ho hl (by omega)
end Go.Proofs.Ytfoecgcjipckmaa.MinePut
