/- Rows of a call's own: a copy of a row, the end of a row struck; plain facts, used by this seat's walks. Conditions: the lengths are small, the types' shapes are as told. -/
import Derived.Test.YtkeijpngfnmjoaaMineSep
namespace Go.Proofs.Ytkeijpngfnmjoaa.MineRows
open Go.RowKit Go.Proofs.YtkeijpngfnmjoaaW.PrintWords Go.Proofs.Ytkeijpngfnmjoaa.MineBase Go.Proofs.Ytkeijpngfnmjoaa.MineSep
set_option linter.unusedVariables false
/-- A row of the call's own whose elements share what they lead to. -/
def ARowN {α : Type} (d : Kd α) (e base : Nat) (v : Value) (xs : List α) : Asn where
  P := fun w D => Kd.N d e w base D v xs
  mono := fun hd h => Kd.N_mono h hd
  bound := fun h => Kd.N_bound h
  move := fun hm h => Kd.N_step h (fun k hk _ => hm k hk)
section
variable {α : Type} {d : Kd α} {e base : Nat} {w0 w w1 : World} {v : Value} {xs : List α} {l : List Asn}
theorem empty_R (d : Kd α) (e : Nat) (W0 : World) : d.R e (W0.alloc (.cells #[] e)) W0.heap.size (fun _ => True) (.slice (some ⟨W0.heap.size, 0, none⟩) 0 0) [] := by
  refine ⟨fun _ _ => trivial, [], ⟨by simp, .inr ⟨W0.heap.size, 0, #[], rfl, Nat.le_refl _, ?_, Nat.le_refl _, Nat.zero_le _, by simp, by simp⟩⟩, ⟨by simp, fun j p h => by simp at h⟩⟩
  exact (MapKept.heap_alloc W0 _).1
theorem Sat.newRowN {ok : Nat → Prop} (h : Sat w0 w l) (hb : Below w.heap.size w w1) (hR : Kd.N d e w1 w.heap.size ok v xs) (hok : ∀ k, ok k → w.heap.size ≤ k) (hbase : base ≤ w.heap.size) : Sat w0 w1 (ARowN d e base v xs :: l) :=
  h.new (A := ARowN d e base v xs) hb (D := ok) (Kd.N_lower hR hbase) hok
variable {P : Program} {ops : Array Oper} {rest : List Oper} {o : Oper} {a : Act} {Q : Exit → Act → World → Prop} {Kc : Act → World → Prop}
/-- 'append([]T{}, l...)', T without anything that leads on. -/
theorem copy_flat (d : Kd α) (hgd : o.guard = none) (s x : Operand) (t e : TypeId) (z : Value) (bytes : Nat)
    (ho : o.op = .call { callee := .builtin .append, args := #[s, x], argTypes := #[t, t] })
    (ht : P.underlying t = some (.slice e)) (hinfo : (P.info? e).map (fun i => (i.zero, i.size, i.bytes)) = some (some z, d.sz, bytes)) (hz : z.cells.size = d.sz) (hs0 : 0 < d.sz) (hb0 : 0 < bytes)
    (hflat : ∀ W base ok x cs, d.K W x cs → d.M W base ok x cs) (W0 : World) (A : Option Addr) (c : Nat) (xs : List α)
    (hs : a.eval s = .slice (some ⟨W0.heap.size, 0, none⟩) 0 0) (hx : a.eval x = .slice A xs.length c) (hC : d.C W0 A xs.length xs) (hl : xs.length * bytes ≤ 140737488355328)
    (h : ∀ v1 w1, d.R e w1 W0.heap.size (fun _ => True) v1 xs → Below W0.heap.size W0 w1 → wpList P ops Q rest (a.put o.dst v1) w1) : wpList P ops Q (o :: rest) a (W0.alloc (.cells #[] e)) := by
  have hb := below_alloc (Below.refl W0.heap.size W0) (.cells #[] e)
  refine Kd.R_append_rows d (Rr := d.K (W0.alloc (.cells #[] e))) (w0 := W0) W0.heap.size hgd s x t e z bytes ho ht hinfo hz hs0 hb0 _ [] xs A xs.length c (fun _ => True) (fun _ => False) hs hx (empty_R d e W0) (Kd.C_below hC hb) (fun x cs hk => hflat _ _ _ x cs hk) (fun _ h => h.elim) (fun _ _ => trivial) hb hb.size (by simpa using hl) ?_
  intro v1 w1 hR hB _ _
  exact h v1 w1 (by simpa using hR) hB
/-- 'append([]T{}, l...)': what the elements lead to is shared. -/
theorem copy_N (d : Kd α) (hgd : o.guard = none) (s x : Operand) (t e : TypeId) (z : Value) (bytes : Nat)
    (ho : o.op = .call { callee := .builtin .append, args := #[s, x], argTypes := #[t, t] })
    (ht : P.underlying t = some (.slice e)) (hinfo : (P.info? e).map (fun i => (i.zero, i.size, i.bytes)) = some (some z, d.sz, bytes)) (hz : z.cells.size = d.sz) (hs0 : 0 < d.sz) (hb0 : 0 < bytes)
    (W0 : World) (A : Option Addr) (c : Nat) (xs : List α) (ok : Nat → Prop)
    (hs : a.eval s = .slice (some ⟨W0.heap.size, 0, none⟩) 0 0) (hx : a.eval x = .slice A xs.length c) (hF : Kd.F d W0 ok A xs.length xs) (hl : xs.length * bytes ≤ 140737488355328)
    (h : ∀ v1 w1, Kd.N d e w1 W0.heap.size (fun k => ok k ∨ W0.heap.size ≤ k) v1 xs → Below W0.heap.size W0 w1 → wpList P ops Q rest (a.put o.dst v1) w1) : wpList P ops Q (o :: rest) a (W0.alloc (.cells #[] e)) := by
  have hb := below_alloc (Below.refl W0.heap.size W0) (.cells #[] e)
  have hE : Kd.N d e (W0.alloc (.cells #[] e)) W0.heap.size (fun k => ok k ∨ W0.heap.size ≤ k) (.slice (some ⟨W0.heap.size, 0, none⟩) 0 0) [] :=
    Kd.N_mono (Kd.R_N (Kd.R_bound (empty_R d e W0))) (fun k hk => .inr hk.2.1)
  refine Kd.N_append_rows d (w0 := W0) W0.heap.size hgd s x t e z bytes ho ht hinfo hz hs0 hb0 _ [] xs A xs.length c (fun k => ok k ∨ W0.heap.size ≤ k) (fun k => ok k ∧ k < W0.heap.size) hs hx hE (Kd.F_below (Kd.F_bound hF) hb) (fun k hk => ⟨.inl hk.1, fun e => ?_⟩) (fun k hk => .inr (Nat.le_trans hb.size hk)) hb hb.size (by simpa using hl) ?_
  · have h1 := hk.2
    have h2 : k = W0.heap.size := by simpa [Value.ownBlock] using e
    omega
  · intro v1 w1 hR hB _ _
    exact h v1 w1 (by simpa using hR) hB
/-- 'append([]T{}, l...)': the cells of what comes are those of what was. -/
theorem copy_raw (d : Kd α) (hgd : o.guard = none) (s x : Operand) (t e : TypeId) (z : Value) (bytes : Nat)
    (ho : o.op = .call { callee := .builtin .append, args := #[s, x], argTypes := #[t, t] })
    (ht : P.underlying t = some (.slice e)) (hinfo : (P.info? e).map (fun i => (i.zero, i.size, i.bytes)) = some (some z, d.sz, bytes)) (hz : z.cells.size = d.sz) (hs0 : 0 < d.sz) (hb0 : 0 < bytes)
    (We W0 : World) (A : Option Addr) (c : Nat) (xs : List α)
    (hs : a.eval s = .slice (some ⟨W0.heap.size, 0, none⟩) 0 0) (hx : a.eval x = .slice A xs.length c) (hC : ReadsRow (d.K We) d.sz W0 A xs.length xs) (hl : xs.length * bytes ≤ 140737488355328)
    (h : ∀ v1 w1 (rows : List (List Value)), rows.length = xs.length → (Kd.raw d.sz).R e w1 W0.heap.size (fun _ => True) v1 rows → (∀ (j : Nat) (x : α) (c : List Value), xs[j]? = some x → rows[j]? = some c → d.K We x c) → Below W0.heap.size W0 w1 → wpList P ops Q rest (a.put o.dst v1) w1) : wpList P ops Q (o :: rest) a (W0.alloc (.cells #[] e)) := by
  have hb := below_alloc (Below.refl W0.heap.size W0) (.cells #[] e)
  obtain ⟨rows, hnl, hnr, hnf⟩ := Kd.reads_raw (hC.imp_ hb (fun _ _ hk => hk)) (fun y c hk => ⟨d.K_len hk, d.K_one hk⟩)
  refine Kd.R_append_rows (Kd.raw d.sz) (w0 := W0) W0.heap.size hgd s x t e z bytes ho ht hinfo hz hs0 hb0 _ [] rows A xs.length c (fun _ => True) (fun _ => False) hs hx (empty_R _ e W0) hnr (fun _ _ hk => hk) (fun _ h => h.elim) (fun _ _ => trivial) hb hb.size (by simpa using hl) ?_
  intro v1 w1 hR hB _ _
  exact h v1 w1 rows hnl (by simpa using hR) hnf hB
/-- The end of a row's block, behind what the row has, may be turned. -/
theorem own_tail {size n cap : Nat} {g : Nat} {xs : List Value} {cur : Array Value} (h : w.ownsRow base e size (.slice (some ⟨g, 0, none⟩) n cap) n xs) (hg : w.heap[g]? = some (.cells cur e (0, 0))) {cur' : Array Value} (hsz : cur'.size = cur.size) (htk : cur'.toList.take (n * size) = cur.toList.take (n * size)) :
    (w.setRow g cur').ownsRow base e size (.slice (some ⟨g, 0, none⟩) n cap) n xs := by
  obtain ⟨h1, h2⟩ := h
  refine ⟨h1, ?_⟩
  rcases h2 with ⟨h2, _⟩ | ⟨g', cap', cur1, e1, hb, hg', hnc, hcm, hcs, ht⟩
  · cases h2
  · injection e1 with e1 _ e2
    injection e1 with e1
    injection e1 with e1
    subst e1 e2
    rw [hg] at hg'
    injection hg' with hg'
    injection hg' with hg'
    subst hg'
    exact .inr ⟨g, cap, cur', rfl, hb, setRow_heap w g cur cur' e _ hg, hnc, hcm, by rw [hsz]; exact hcs, by rw [htk]; exact ht⟩
/-- 'clear(s[len(s):len(s)+m])', s a row of the call's own. -/
theorem clear_tail {ok : Nat → Prop} {g n cap m : Nat} {t ty : TypeId} {z : Value} (HO : Kd.N d e w base ok (.slice (some ⟨g, 0, none⟩) n cap) xs) (hm : 0 < m) (hc : n + m ≤ cap) (hd0 : 0 < d.sz)
    (ht : P.underlying t = some (.slice e)) (hzr : ∀ w, (zeroValue e).run P w = .ok z w) (hz : z.cells.size = d.sz) (hone : ∀ v ∈ z.cells.toList, v.oneCell' = true) (c2 : Nat) :
    ∃ w1, (Builtin.clear_ #[t] ty #[.slice (some ⟨g, n * d.sz, none⟩) m c2]).run P w = .ok (.tuple #[]) w1 ∧ Kd.N d e w1 base ok (.slice (some ⟨g, 0, none⟩) n cap) xs ∧ w.grownBy w1 (some g) := by
  obtain ⟨h0, rows, hl, ⟨hr0, inner, hown, hreps⟩, hf⟩ := HO
  have hown' := hown
  obtain ⟨h1, h2⟩ := hown'
  rcases h2 with ⟨h2, _⟩ | ⟨g', cap', cur, e1, hb, hg, hnc, hcm, hcs, htk⟩
  · cases h2
  injection e1 with e1 e3 e2
  injection e1 with e1
  injection e1 with e1
  subst e1 e2
  replace hcs : cur.size = cap * d.sz := hcs
  have hown3 : w.ownsRow base e d.sz (.slice (some ⟨g, 0, none⟩) n cap) n inner := by rw [← e3] at hown; exact hown
  have hcl : (Builtin.zeroCells z.cells m).toList.length = m * d.sz := by
    rw [Array.length_toList, size_zeroCells, hz]
  have h1c : ∀ u ∈ (Builtin.zeroCells z.cells m).toList, u.oneCell' = true := by
    intro u hu
    obtain ⟨i, hi, rfl⟩ := List.mem_iff_getElem.1 hu
    have hlt : i % z.cells.size < z.cells.size := Nat.mod_lt _ (by omega)
    have e2 : (Builtin.zeroCells z.cells m).toList[i] = z.cells[i % z.cells.size] := by
      simp [Builtin.zeroCells, hlt]
    rw [e2]
    exact hone _ (Array.getElem_mem_toList hlt)
  have hle : n * d.sz + m * d.sz ≤ cap * d.sz := by rw [← Nat.add_mul]; exact Nat.mul_le_mul_right _ hc
  have hst := run_storeCells_at (P := P) g (n * d.sz) e (Builtin.zeroCells z.cells m).toList 0 cur w hg (by rw [hcl, hcs]; omega) h1c
  obtain ⟨m', rfl⟩ : ∃ m', m = m' + 1 := ⟨m - 1, by omega⟩
  have hcur : (cur.toList.take (n * d.sz + 0) ++ (Builtin.zeroCells z.cells (m' + 1)).toList ++ cur.toList.drop (n * d.sz + 0 + (Builtin.zeroCells z.cells (m' + 1)).toList.length)).length = cur.toList.length := by
    rw [List.length_append, List.length_append, List.length_take, List.length_drop, hcl, Array.length_toList, hcs]
    omega
  generalize hcs' : (cur.toList.take (n * d.sz + 0) ++ (Builtin.zeroCells z.cells (m' + 1)).toList ++ cur.toList.drop (n * d.sz + 0 + (Builtin.zeroCells z.cells (m' + 1)).toList.length)) = cs' at hst hcur
  have htk' : cs'.take (n * d.sz) = cur.toList.take (n * d.sz) := by
    rw [← hcs', List.append_assoc, List.take_append_of_le_length (by rw [List.length_take, Array.length_toList, hcs]; omega), Nat.add_zero, List.take_take, Nat.min_self]
  have hgr : w.grownBy (w.setRow g cs'.toArray) (some g) := by
    refine ⟨rfl, rfl, rfl, by simp [World.setRow], fun i hi hne => ?_⟩
    have hgi : g ≠ i := fun e => hne (by rw [e])
    simp [World.setRow, Array.getElem?_modify, hgi]
  refine ⟨w.setRow g cs'.toArray, ?_, ?_, hgr⟩
  · simp [Builtin.clear_, run_underlying ht, hzr, hst, Result.andThen]
  · have hown2 := own_tail hown3 hg (cur' := cs'.toArray) (by rw [List.size_toArray, hcur, Array.length_toList]) (by simpa using htk')
    refine ⟨h0, rows, hl, ⟨hr0, inner, by rw [← e3]; exact hown2, hreps⟩, fun j x c hx hcj => ?_⟩
    exact Kd.FK_step (hf j x c hx hcj) (fun k hk hlt => hgr.block k hlt (fun e => hk.2 (by rw [e]; rfl)))
end
end Go.Proofs.Ytkeijpngfnmjoaa.MineRows
