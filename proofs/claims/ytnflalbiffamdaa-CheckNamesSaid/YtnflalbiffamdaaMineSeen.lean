/- Maps that tell what has been seen: each key's entry is 1. Conditions: the keys are texts, or whole numbers. -/
import Derived.Test.YtnflalbiffamdaaMineRecs
import Derived.Carry
namespace Go.Proofs.Ytnflalbiffamdaa.MineObj
open Go.RowKit Go.MapKept Go.Proofs.YtnflalbiffamdaaW.PrintWords Go.Proofs.YtnflalbiffamdaaW.PrintLast Go.Proofs.YtnflalbiffamdaaW.PrintMore Go.Proofs.Ytnflalbiffamdaa.MineBase Go.Proofs.Ytnflalbiffamdaa.MineSep Go.Proofs.Ytnflalbiffamdaa.MineRows Go.Proofs.Ytnflalbiffamdaa.MineGen Go.Proofs.Ytnflalbiffamdaa.MineMap
set_option linter.unusedVariables false
set_option linter.unusedSectionVars false
theorem strKeys : KeysOf (κ := ByteArray) .string Value.string (fun _ => True) := ⟨fun _ _ => trivial, fun _ _ h => by injection h⟩
theorem intKeys : KeysOf (κ := Int) (.int .i64) (Value.int .i64) (fun _ => True) := ⟨fun _ _ => rfl, fun _ _ h => by injection h⟩
theorem zero3 (w : World) : (zeroValue 3).run Try.prog w = .ok (.int .i64 0) w := by kernel_rfl
section
variable {κ : Type} [DecidableEq κ]
def seenM (L : List κ) : List (κ × Value) := L.map fun k => (k, .int .i64 1)
theorem look_seen (L : List κ) (k : κ) : lookM (seenM L) k = if k ∈ L then some (.int .i64 1) else none := by
  induction L with
  | nil => rfl
  | cons x L ih =>
    unfold seenM at *
    rw [List.map_cons, lookM]
    by_cases h : x = k
    · subst h
      rw [if_pos rfl, if_pos List.mem_cons_self]
    · rw [if_neg h, ih]
      have h' : ¬ k = x := fun e => h e.symm
      simp [List.mem_cons, h']
theorem put_seen (L : List κ) (k : κ) (h : k ∉ L) : put (seenM L) k (.int .i64 1) = seenM (L ++ [k]) := by
  induction L with
  | nil => rfl
  | cons x L ih =>
    have h' : ¬ (k = x ∨ k ∈ L) := fun e => h (List.mem_cons.2 e)
    have hx : ¬ x = k := fun e => h' (.inl e.symm)
    unfold seenM at *
    rw [List.map_cons, put, if_neg hx, ih (fun e => h' (.inr e))]
    rfl
/-- A map of what was seen. -/
def ASeen (kv : κ → Value) (m : Nat) (L : List κ) : Asn where
  P := fun w D => (∃ es clock, w.heap[m]? = some (.map es clock) ∧ EsOf kv es.toList (seenM L)) ∧ D m
  mono := fun hd h => ⟨h.1, hd _ h.2⟩
  bound := fun ⟨⟨es, c, h1, h2⟩, h3⟩ => ⟨⟨es, c, h1, h2⟩, h3, blk_lt h1⟩
  move := fun hm ⟨⟨es, c, h1, h2⟩, h3⟩ => ⟨⟨es, c, (hm _ h3).trans h1, h2⟩, h3⟩
variable {kv : κ → Value} {w0 W : World} {l : List Asn} {m : Nat} {L : List κ} {d : TypeDesc} {t kt : TypeId}
theorem seen_new (h : Sat w0 W l) (kv : κ → Value) : Sat w0 (W.alloc (.map #[] 0)) (ASeen kv W.heap.size ([] : List κ) :: l) :=
  (blk_new h (.map #[] 0)).imp (B := ASeen kv W.heap.size []) (fun D hp => ⟨⟨#[], 0, hp.1, rfl⟩, hp.2⟩)
theorem seen_look (K : KeysOf d kv (fun _ => True)) (ht : Try.prog.underlying t = some (.map kt 3)) (hd : Try.prog.underlying kt = some d) (h : Sat w0 W (ASeen kv m L :: l)) (k : κ) :
    (Instr.lookup t (.map (some m)) (kv k) false).run Try.prog W = .ok (.int .i64 (if k ∈ L then 1 else 0)) W := by
  obtain ⟨D, ⟨⟨es, c, h1, h2⟩, _⟩, _⟩ := h.head
  have h3 := lookup_run (P := Try.prog) K ht hd (zero3 W) h1 (seenM L) (fun _ _ => trivial) h2 k trivial false
  rw [h3, look_seen]
  by_cases hk : k ∈ L
  · simp [hk]
  · simp [hk]
theorem seen_put (K : KeysOf d kv (fun _ => True)) (ht : Try.prog.underlying t = some (.map kt 3)) (hd : Try.prog.underlying kt = some d) (h : Sat w0 W (ASeen kv m L :: l)) (k : κ) (hk : k ∉ L) :
    ∃ w', (Instr.mapUpdate t (.map (some m)) (kv k) (.int .i64 1)).run Try.prog W = .ok () w' ∧ Sat w0 w' (ASeen kv m (L ++ [k]) :: l) := by
  have hb0 := h.toBelow
  have hsz := h.size
  obtain ⟨D, ⟨⟨es, c, h1, h2⟩, hDm⟩, hD, _, hcl⟩ := h.open_
  obtain ⟨w', es', c', hrun, hm', he', hg, _⟩ := update_run (P := Try.prog) K ht hd h1 (seenM L) (fun _ _ => trivial) h2 k trivial (.int .i64 1)
  rw [put_seen L k hk] at he'
  refine ⟨w', hrun, hcl w' (ASeen kv m (L ++ [k])) D (hb0.grown hg hsz (fun j hj => by injection hj with hj; subst hj; exact (hD _ hDm).1)) (Kept.of_grown hg (Kept.refl W D) (fun j hj => by injection hj with hj; subst hj; exact .inl hDm)) ⟨⟨es', c', hm', he'⟩, hDm⟩ (fun _ hj => .inl hj)⟩
theorem seen_clear (ty : TypeId) {d : TypeDesc} (ht : Try.prog.underlying t = some d) (h : Sat w0 W (ASeen kv m L :: l)) :
    ∃ w', (Builtin.clear_ #[t] ty #[.map (some m)]).run Try.prog W = .ok (.tuple #[]) w' ∧ Sat w0 w' (ASeen kv m ([] : List κ) :: l) := by
  have hb0 := h.toBelow
  have hsz := h.size
  obtain ⟨D, ⟨⟨es, c, h1, h2⟩, hDm⟩, hD, _, hcl⟩ := h.open_
  have hg : W.grownBy (setB W m (.map #[] c)) (some m) := setB_grown h1
  refine ⟨setB W m (.map #[] c), ?_, hcl _ (ASeen kv m []) D (hb0.grown hg hsz (fun j hj => by injection hj with hj; subst hj; exact (hD _ hDm).1)) (Kept.of_grown hg (Kept.refl W D) (fun j hj => by injection hj with hj; subst hj; exact .inl hDm)) ⟨⟨#[], c, (heap_set h1).1, rfl⟩, hDm⟩ (fun _ hj => .inl hj)⟩
  simp [Builtin.clear_, run_underlying ht, MapKept.run_getObj_map h1, MapKept.run_setObj_map _ h1, Result.andThen, setB]
end
end Go.Proofs.Ytnflalbiffamdaa.MineObj
