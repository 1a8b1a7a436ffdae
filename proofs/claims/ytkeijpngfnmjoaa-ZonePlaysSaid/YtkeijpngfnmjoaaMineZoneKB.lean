/- Zones: the program's row laid open, and small facts. No condition. -/
import Derived.Test.YtkeijpngfnmjoaaMineZoneK
namespace Go.Proofs.Ytkeijpngfnmjoaa.MineZone
open Go.Lib Go.Shelf Go.RowKit Go.MapKept Go.Proofs.YtkeijpngfnmjoaaW.PrintWords Go.Proofs.YtkeijpngfnmjoaaW.PrintLast Go.Proofs.YtkeijpngfnmjoaaW.PrintMore Go.Proofs.Ytkeijpngfnmjoaa.MineBase Go.Proofs.Ytkeijpngfnmjoaa.MineSep Go.Proofs.Ytkeijpngfnmjoaa.MineRows Go.Proofs.Ytkeijpngfnmjoaa.MineGen Go.Proofs.Ytkeijpngfnmjoaa.QZonePlays Go.Proofs.Ytkeijpngfnmjoaa.MineMap
attribute [local go_sem ↓] Go.wp_at_zero Go.wp_at_succ
set_option linter.unusedVariables false
set_option linter.unusedSimpArgs false
theorem info75 : (Try.prog.info? 75).map (fun i => (i.zero, i.size, i.bytes)) = some (some (.agg #[(.int .i64 0), (.int .i64 0), (.int .i64 0), (.int .i64 0), (.slice none 0 0), (.slice none 0 0)]), 6, 80) := by kernel_rfl
theorem fresh_R {w : World} {b : Nat} {ok : Nat → Prop} {v : Value} {xs : List Int} (h : Kd.R (Kd.int .i64) 3 w b ok v xs) : Kd.R (Kd.int .i64) 3 w b (fun k => b ≤ k) v xs := by
  obtain ⟨_, inner, hown, hrep⟩ := h
  exact ⟨fun k hk => own_base hown k hk, inner, hown, hrep⟩
theorem grown_then {a w w' : World} {row : Option Nat} (h : a.grownBy w row) (k : w.grownBy w' row) : a.grownBy w' row :=
  ⟨k.os.trans h.os, k.tape.trans h.tape, k.output.trans h.output, Nat.le_trans h.size k.size, fun i hi hne => (k.block i (Nat.lt_of_lt_of_le hi h.size) hne).trans (h.block i hi hne)⟩
/-- A row, laid open for an append. -/
theorem row_open {w0 w : World} {l : List Asn} {base : Nat} {v : Value} {zs : List S82} (h : Sat w0 w (ARowN k82 75 base v zs :: l)) : ∃ D : Nat → Prop, Kd.N k82 75 w base D v zs ∧ (∀ k, D k → w0.heap.size ≤ k ∧ k < w.heap.size) ∧
    (∀ (w1 : World) (v1 : Value) (zs1 : List S82), w.grownBy w1 v.ownBlock → Kd.N k82 75 w1 base (fun k => D k ∨ w.heap.size ≤ k) v1 zs1 → Sat w0 w1 (ARowN k82 75 base v1 zs1 :: l)) := by
  have hb0 := h.toBelow
  have hsz := h.size
  obtain ⟨D, hP, hD, _, hcl⟩ := h.open_
  refine ⟨D, hP, hD, fun w1 v1 zs1 hg hN => hcl w1 (ARowN k82 75 base v1 zs1) (fun k => D k ∨ w.heap.size ≤ k) (hb0.grown hg hsz (fun j hj => (hD _ (hP.1 j hj)).1)) (Kept.of_grown hg (Kept.refl w D) (fun j hj => .inl (hP.1 j hj))) hN (fun _ hj => hj)⟩
theorem clone_f (l : List Int) (h : l.length ≤ 1000) : QZonePlays.slices_Clone_int_int.f l = some l := by
  unfold QZonePlays.slices_Clone_int_int.f
  rw [Option.bind_some, if_pos (by simp; omega), List.nil_append]
theorem own_f (x : S82) (h4 : x.f4.length ≤ 1000) (h5 : x.f5.length ≤ 1000) : QZonePlays.zone_own.f x.f0 x.f1 x.f2 x.f3 x.f4 x.f5 = some (x.f0, x.f1, x.f2, x.f3, x.f4, x.f5) := by
  unfold QZonePlays.zone_own.f
  rw [clone_f _ h4, Option.bind_some, clone_f _ h5, Option.bind_some]
theorem info75s : (Try.prog.info? 75).map (·.size) = some k82.sz := by kernel_rfl
theorem zero75 (w : World) : (zeroValue 75).run Try.prog w = .ok (.agg #[(.int .i64 0), (.int .i64 0), (.int .i64 0), (.int .i64 0), (.slice none 0 0), (.slice none 0 0)]) w := by kernel_rfl
theorem one75 : ∀ v ∈ (Value.agg #[(.int .i64 0), (.int .i64 0), (.int .i64 0), (.int .i64 0), (.slice none 0 0), (.slice none 0 0)]).cells.toList, v.oneCell' = true := by
  have h : (#[(.int .i64 0), (.int .i64 0), (.int .i64 0), (.int .i64 0), (.slice none 0 0), (.slice none 0 0)] : Array Value).all (·.oneCell') = true := by simp [Value.oneCell']
  exact fun v hv => Array.all_eq_true_iff_forall_mem.1 h v (Array.mem_toList_iff.1 hv)
theorem grown2 {w w1 w2 : World} {row : Option Nat} (h1 : w.grownBy w1 row) (h2 : w1.grownBy w2 row) : w.grownBy w2 row := by
  obtain ⟨a1, a2, a3, a4, a5⟩ := h1
  obtain ⟨b1, b2, b3, b4, b5⟩ := h2
  exact ⟨b1.trans a1, b2.trans a2, b3.trans a3, Nat.le_trans a4 b4, fun i hi hne => (b5 i (Nat.lt_of_lt_of_le hi a4) hne).trans (a5 i hi hne)⟩
theorem drew_grown {w w1 : World} {row : Option Nat} (h : w.drew.grownBy w1 row) : w.grownBy w1 row := by
  obtain ⟨a1, a2, a3, a4, a5⟩ := h
  exact ⟨a1, a2, a3, a4, a5⟩
end Go.Proofs.Ytkeijpngfnmjoaa.MineZone
