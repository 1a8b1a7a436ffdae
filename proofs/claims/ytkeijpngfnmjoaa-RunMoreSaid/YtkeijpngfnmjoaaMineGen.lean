/- Small laws for walks over several things in memory: a block of the call's own; a struct whose last field is a row; first places; plain facts. No condition. -/
import Derived.Test.YtkeijpngfnmjoaaMineRows
import Derived.Test.YtkeijpngfnmjoaaMineMap
import Derived.Deep.RegionLaw
import Derived.Deep.RegionHeld3
import Derived.Deep.DeepCutAuto
import Derived.Deep.QuietTactic
import Derived.BigQuiet
import Derived.Deep.DrawnRows
import Derived.WalkLawsBesides
namespace Go.Proofs.Ytkeijpngfnmjoaa.MineGen
open Go.RowKit Go.MapKept Go.Proofs.YtkeijpngfnmjoaaW.PrintWords Go.Proofs.YtkeijpngfnmjoaaW.PrintLast Go.Proofs.Ytkeijpngfnmjoaa.MineBase Go.Proofs.Ytkeijpngfnmjoaa.MineSep Go.Proofs.Ytkeijpngfnmjoaa.MineRows
set_option linter.unusedVariables false
theorem wp_abs {P : Program} {c : Code} {Q : Exit → Act → World → Prop} {a : Act} {w : World} (F : World → Prop) (hF : F w) (h : ∀ W, F W → c.wp P Q a W) : c.wp P Q a w := h w hF
theorem ret_eq {a b : Value} (h : a = b) : Ending.returned a = .returned b := by rw [h]
theorem wrap_ok {i : Int} (h0 : -9223372036854775808 ≤ i) (h1 : i < 9223372036854775808) : IntKind.i64.wrap i = i := (i64_w _).trans (by unfold wrap64; omega)
theorem below_da (w : World) (o : Obj) : Below w.heap.size w (w.alloc o).drew := below_drew (below_alloc (Below.refl _ _) o)
theorem keep_below {w0 w w1 : World} {l : List Asn} (h : Sat w0 w l) (hb : Below w.heap.size w w1) : Below w0.heap.size w0 w1 := below_then h.1 h.1.size hb
/-- A block of the call's own. -/
def ABlk (b : Nat) (o : Obj) : Asn where
  P := fun w D => w.heap[b]? = some o ∧ D b
  mono := fun hd h => ⟨h.1, hd _ h.2⟩
  bound := fun h => ⟨h.1, h.2, (Array.getElem?_eq_some_iff.1 h.1).1⟩
  move := fun hm h => ⟨(hm _ h.2).trans h.1, h.2⟩
theorem blk_new {w0 W : World} {l : List Asn} (h : Sat w0 W l) (o : Obj) : Sat w0 (W.alloc o) (ABlk W.heap.size o :: l) :=
  h.new (A := ABlk W.heap.size o) (below_alloc (Below.refl _ _) o) (D := fun k => W.heap.size ≤ k) ⟨(MapKept.heap_alloc W o).1, Nat.le_refl _⟩ (fun _ hk => hk)
theorem blk_at {w0 W : World} {l : List Asn} {b : Nat} {o : Obj} (h : Sat w0 W (ABlk b o :: l)) : W.heap[b]? = some o := by
  obtain ⟨D, h1, _⟩ := h.head
  exact h1.1
theorem blk_put {w0 W : World} {l : List Asn} {b : Nat} {cs : Array Value} {t : TypeId} (h : Sat w0 W (ABlk b (.cells cs t (0, 0)) :: l)) (i : Nat) (u : Value) : Sat w0 (W.setCell ⟨b, i, none⟩ u) (ABlk b (.cells (cs.setIfInBounds i u) t (0, 0)) :: l) := by
  obtain ⟨D, h1, hD, _, hcl⟩ := h.open_
  exact hcl _ (ABlk b _) D (h.toBelow.setCell (hD b h1.2).1 u) ((Kept.refl W D).setCell (.inl h1.2) u) ⟨blk_set h1.1 i u, h1.2⟩ (fun k hk => .inl hk)
/-- Cells, and one more. -/
def rowC (pre : List Value) (v : Value) : Array Value := (pre ++ [v]).toArray
/-- A struct in memory, whose last field is a row. -/
def ABox {α : Type} (t e : TypeId) (d : Kd α) (pre : List Value) (base g : Nat) (xs : List α) : Asn where
  P := fun W D => ∃ v, W.heap[g]? = some (.cells (rowC pre v) t (0, 0)) ∧ D g ∧ Kd.N d e W base (fun k => D k ∧ k ≠ g) v xs
  mono := fun hd ⟨v, h1, h2, h3⟩ => ⟨v, h1, hd _ h2, Kd.N_mono h3 (fun k hk => ⟨hd k hk.1, hk.2⟩)⟩
  bound := fun ⟨v, h1, h2, h3⟩ => ⟨v, h1, ⟨h2, blk_lt h1⟩, Kd.N_mono (Kd.N_bound h3) (fun k hk => ⟨⟨hk.1.1, hk.2⟩, hk.1.2⟩)⟩
  move := fun hm ⟨v, h1, h2, h3⟩ => ⟨v, (hm _ h2).trans h1, h2, Kd.N_step h3 (fun k hk _ => hm k hk.1)⟩
section
variable {α : Type} {t e : TypeId} {d : Kd α} {pre : List Value} {w0 w w1 : World} {g : Nat} {xs : List α} {l : List Asn}
theorem box_parts (h : Sat w0 w (ABox t e d pre w0.heap.size g xs :: l)) :
    ∃ A c D, w.heap[g]? = some (.cells (rowC pre (.slice A xs.length c)) t (0, 0)) ∧ Kd.N d e w w0.heap.size D (.slice A xs.length c) xs ∧ (∀ k, D k → w0.heap.size ≤ k ∧ k < w.heap.size ∧ k ≠ g) ∧ xs.length ≤ c ∧ d.C w A xs.length xs ∧ w0.heap.size ≤ g ∧
      ∀ w1 v pre' ys, Below w0.heap.size w0 w1 → Kept w w1 (fun k => D k ∨ k = g) → w1.heap[g]? = some (.cells (rowC pre' v) t (0, 0)) → Kd.N d e w1 w0.heap.size (fun k => D k ∨ w.heap.size ≤ k) v ys → Sat w0 w1 (ABox t e d pre' w0.heap.size g ys :: l) := by
  obtain ⟨D, hP, hD, _, hclose⟩ := h.open_
  obtain ⟨v, h1, h2, h3⟩ := (ABox t e d pre w0.heap.size g xs).bound hP
  obtain ⟨A, c, rfl, hl, hC⟩ := Kd.N_reads h3
  refine ⟨A, c, (fun k => (D k ∧ k < w.heap.size) ∧ k ≠ g), h1, h3, fun k hk => ⟨(hD k hk.1.1).1, hk.1.2, hk.2⟩, hl, hC, (hD g h2.1).1, fun w1 v pre' ys hb hk hp hN => ?_⟩
  refine hclose w1 (ABox t e d pre' w0.heap.size g ys) (fun k => D k ∨ w.heap.size ≤ k) hb (hk.mono (fun k hk => ?_)) ⟨v, hp, .inl h2.1, Kd.N_mono hN (fun k hk => ?_)⟩ (fun k hk => hk)
  · rcases hk with hk | hk
    · exact hk.1.1
    · rw [hk]; exact h2.1
  · rcases hk with hk | hk
    · exact ⟨.inl hk.1.1, hk.2⟩
    · exact ⟨.inr hk, fun e => by have := blk_lt h1; omega⟩
theorem box_read (h : Sat w0 w (ABox t e d pre w0.heap.size g xs :: l)) : ∃ A c, w.heap[g]? = some (.cells (rowC pre (.slice A xs.length c)) t (0, 0)) ∧ xs.length ≤ c ∧ d.C w A xs.length xs := by
  obtain ⟨A, c, D, h1, _, _, h2, h3, _⟩ := box_parts h
  exact ⟨A, c, h1, h2, h3⟩
/-- A struct that comes to the list, with a row that was made since. -/
theorem box_new {ok : Nat → Prop} {v : Value} (h : Sat w0 w l) (hb : Below w.heap.size w w1) (hg : w1.heap[g]? = some (.cells (rowC pre v) t (0, 0))) (hw : w.heap.size ≤ g) (hN : Kd.N d e w1 w.heap.size ok v xs) (hok : ∀ k, ok k → w.heap.size ≤ k ∧ k ≠ g) : Sat w0 w1 (ABox t e d pre w0.heap.size g xs :: l) :=
  h.new (A := ABox t e d pre w0.heap.size g xs) hb (D := fun k => w.heap.size ≤ k) ⟨v, hg, hw, Kd.N_mono (Kd.N_lower hN h.1.size) hok⟩ (fun _ hk => hk)
end
/-! ### rows of what leads on to nothing -/
/-- What leads on to nothing. -/
def Flat {α : Type} (d : Kd α) : Prop := ∀ (W W' : World) (x : α) (cs : List Value), d.K W x cs → d.K W' x cs
theorem flat_FK {α : Type} {d : Kd α} (hf : Flat d) {W : World} {ok : Nat → Prop} {x : α} {cs : List Value} (h : d.K W x cs) : Kd.FK d W ok x cs := fun W' _ => hf _ _ _ _ h
theorem flat_int (k : IntKind) : Flat (Kd.int k) := fun _ _ _ _ h => h
theorem flat_bool : Flat Kd.bool := fun _ _ _ _ h => h
/-- A row of two whole numbers each. -/
def k2 : Kd (Int × Int) := Kd.pair (Kd.int .i64) (Kd.int .i64)
theorem k2_open {W : World} {x : Int × Int} {cs : List Value} (h : k2.K W x cs) : cs = [.int .i64 x.1, .int .i64 x.2] := by
  obtain ⟨c0, c1, rfl, h0, h1⟩ := h
  obtain rfl := h0
  obtain rfl := h1
  rfl
theorem k2_mk (W : World) (x : Int × Int) : k2.K W x [.int .i64 x.1, .int .i64 x.2] := ⟨[.int .i64 x.1], [.int .i64 x.2], rfl, rfl, rfl⟩
theorem flat_k2 : Flat k2 := fun W W' x cs h => by rw [k2_open h]; exact k2_mk W' x
theorem k2_at {W : World} {A : Option Addr} {n : Nat} {xs : List (Int × Int)} (h : k2.C W A n xs) {i : Nat} {p : Int × Int} (hi : xs[i]? = some p) :
    ∃ ad, A = some ad ∧ W.cell? (ad.add (i * 2)) = some (.int .i64 p.1) ∧ W.cell? ⟨(ad.add (i * 2)).block, (ad.add (i * 2)).off + 1, none⟩ = some (.int .i64 p.2) := by
  have hl := (List.getElem?_eq_some_iff.1 hi).1
  obtain ⟨ad, e, hc⟩ := h.2.2 (by have := h.1; omega)
  obtain ⟨cs, hs, hK, hcell⟩ := hc i p hi
  obtain rfl := k2_open hK
  exact ⟨ad, e, hcell 0 _ rfl, by rw [← add_field _ _ 1 (by omega)]; exact hcell 1 _ rfl⟩
/-! ### the first place of what is sought -/
def idxP {α : Type} (p : α → Bool) : List α → Int
  | [] => -1
  | x :: l => if p x then 0 else (if idxP p l < 0 then -1 else idxP p l + 1)
theorem idxP_range {α : Type} (p : α → Bool) : ∀ l : List α, -1 ≤ idxP p l ∧ idxP p l < l.length
  | [] => by simp [idxP]
  | x :: l => by
    have := idxP_range p l
    unfold idxP
    simp only [List.length_cons]
    split
    · omega
    · split <;> omega
theorem idxP_spec {α : Type} (p : α → Bool) : ∀ l : List α, (idxP p l = -1 ∧ ∀ x ∈ l, p x = false) ∨ ∃ (l1 : List α) (x : α) (l2 : List α), l = l1 ++ x :: l2 ∧ idxP p l = l1.length ∧ p x = true ∧ ∀ y ∈ l1, p y = false
  | [] => .inl ⟨rfl, by simp⟩
  | x :: l => by
    cases h : p x with
    | true => exact .inr ⟨[], x, l, rfl, by simp [idxP, h], h, by simp⟩
    | false =>
      rcases idxP_spec p l with ⟨a, b⟩ | ⟨l1, y, l2, a, b, c, e⟩
      · exact .inl ⟨by simp [idxP, h, a], by simpa [h] using b⟩
      · refine .inr ⟨x :: l1, y, l2, by rw [a]; rfl, ?_, c, by simpa [h] using e⟩
        unfold idxP
        rw [b, h]
        simp only [Bool.false_eq_true, if_false, List.length_cons]
        rw [if_neg (by omega)]
        omega
def shiftI (i : Nat) (x : Int) : Int := if x < 0 then -1 else i + x
theorem shift_zero {α : Type} (p : α → Bool) (l : List α) : shiftI 0 (idxP p l) = idxP p l := by
  have := idxP_range p l
  unfold shiftI
  split <;> omega
theorem shift_hit {α : Type} {p : α → Bool} {l : List α} {i : Nat} {x : α} (h : l[i]? = some x) (hp : p x = true) : shiftI i (idxP p (l.drop i)) = i := by
  have hl := (List.getElem?_eq_some_iff.1 h).1
  rw [List.drop_eq_getElem_cons hl, (List.getElem?_eq_some_iff.1 h).2]
  simp [idxP, hp, shiftI]
theorem shift_miss {α : Type} {p : α → Bool} {l : List α} {i : Nat} {x : α} (h : l[i]? = some x) (hp : p x = false) : shiftI i (idxP p (l.drop i)) = shiftI (i + 1) (idxP p (l.drop (i + 1))) := by
  have hl := (List.getElem?_eq_some_iff.1 h).1
  have := idxP_range p (l.drop (i + 1))
  rw [List.drop_eq_getElem_cons hl, (List.getElem?_eq_some_iff.1 h).2]
  simp only [idxP, hp, shiftI]
  simp only [Bool.false_eq_true, if_false]
  by_cases h1 : idxP p (l.drop (i + 1)) < 0
  · simp [h1]
  · rw [if_neg h1, if_neg (by omega), if_neg h1]; omega
theorem shift_end {α : Type} (p : α → Bool) (l : List α) : shiftI l.length (idxP p (l.drop l.length)) = -1 := by
  rw [List.drop_length]; rfl
/-- Two texts are one. -/
def eqS (a b : ByteArray) : Bool := a.toList == b.toList
theorem eqS_iff (a b : ByteArray) : eqS a b = true ↔ a = b := by
  unfold eqS
  rw [beq_iff_eq, ByteArray.toList_eq, ByteArray.toList_eq]
  constructor
  · intro h
    cases a
    cases b
    simp only [ByteArray.mk.injEq]
    exact Array.toList_inj.1 h
  · intro h; rw [h]
end Go.Proofs.Ytkeijpngfnmjoaa.MineGen
