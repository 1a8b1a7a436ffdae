/- Zones: the map of cells among what lies in memory; a zone that is not there is not removed. No condition but that the list is short. -/
import Derived.Test.YtkeijpngfnmjoaaMineZoneJ
namespace Go.Proofs.Ytkeijpngfnmjoaa.MineZone
open Go.Lib Go.Shelf Go.RowKit Go.MapKept Go.Proofs.YtkeijpngfnmjoaaW.PrintWords Go.Proofs.YtkeijpngfnmjoaaW.PrintLast Go.Proofs.YtkeijpngfnmjoaaW.PrintMore Go.Proofs.Ytkeijpngfnmjoaa.MineBase Go.Proofs.Ytkeijpngfnmjoaa.MineSep Go.Proofs.Ytkeijpngfnmjoaa.MineRows Go.Proofs.Ytkeijpngfnmjoaa.MineGen Go.Proofs.Ytkeijpngfnmjoaa.QZonePlays Go.Proofs.Ytkeijpngfnmjoaa.MineMap
attribute [local go_sem ↓] Go.wp_at_zero Go.wp_at_succ
set_option linter.unusedVariables false
set_option linter.unusedSimpArgs false
/-- A map of cells. -/
def AMapF (m : Nat) (F : List (Int × Value)) : Asn where
  P := fun w D => (∃ es clock, w.heap[m]? = some (.map es clock) ∧ EsOf (Value.int .i64) es.toList F) ∧ D m
  mono := fun hd h => ⟨h.1, hd _ h.2⟩
  bound := fun ⟨⟨es, c, h1, h2⟩, h3⟩ => ⟨⟨es, c, h1, h2⟩, h3, blk_lt h1⟩
  move := fun hm ⟨⟨es, c, h1, h2⟩, h3⟩ => ⟨⟨es, c, (hm _ h3).trans h1, h2⟩, h3⟩
theorem mapF_new {w0 W : World} {l : List Asn} {m : Nat} (h : Sat w0 W (ABlk m (.map #[] 0) :: l)) : Sat w0 W (AMapF m [] :: l) :=
  h.imp (B := AMapF m []) (fun D hp => ⟨⟨#[], 0, hp.1, rfl⟩, hp.2⟩)
theorem mapF_at {w0 W : World} {l : List Asn} {m : Nat} {F : List (Int × Value)} (h : Sat w0 W (AMapF m F :: l)) : ∃ es clock, W.heap[m]? = some (.map es clock) ∧ EsOf (Value.int .i64) es.toList F := by
  obtain ⟨D, ⟨h1, _⟩, _⟩ := h.head
  exact h1
theorem mapF_put {w0 W : World} {l : List Asn} {m : Nat} {F : List (Int × Value)} (h : Sat w0 W (AMapF m F :: l)) (k : Int) (v : Value) :
    ∃ w', (Instr.mapUpdate 131 (.map (some m)) (.int .i64 k) v).run Try.prog W = .ok () w' ∧ Sat w0 w' (AMapF m (put F k v) :: l) := by
  have hb0 := h.toBelow
  have hsz := h.size
  obtain ⟨D, ⟨⟨es, c, h1, h2⟩, hDm⟩, hD, _, hcl⟩ := h.open_
  obtain ⟨w', es', c', hrun, hm', he', hg, _⟩ := update_run (P := Try.prog) intKeys Try.underlying131 Try.underlying3 h1 F (fun _ _ => trivial) h2 k trivial v
  exact ⟨w', hrun, hcl w' (AMapF m (put F k v)) D (hb0.grown hg hsz (fun j hj => by injection hj with hj; subst hj; exact (hD _ hDm).1)) (Kept.of_grown hg (Kept.refl W D) (fun j hj => by injection hj with hj; subst hj; exact .inl hDm)) ⟨⟨es', c', hm', he'⟩, hDm⟩ (fun _ hj => .inl hj)⟩
theorem mapF_del {w0 W : World} {l : List Asn} {m : Nat} {F : List (Int × Value)} (h : Sat w0 W (AMapF m F :: l)) (k : Int) (ty : TypeId) :
    ∃ w', (Builtin.delete_ #[131, 3] ty #[.map (some m), .int .i64 k]).run Try.prog W = .ok (.tuple #[]) w' ∧ Sat w0 w' (AMapF m (del F k) :: l) := by
  have hb0 := h.toBelow
  have hsz := h.size
  obtain ⟨D, ⟨⟨es, c, h1, h2⟩, hDm⟩, hD, _, hcl⟩ := h.open_
  obtain ⟨w', es', c', hrun, hm', he', hg, _⟩ := delete_run (P := Try.prog) intKeys Try.underlying131 Try.underlying3 h1 F (fun _ _ => trivial) h2 k trivial ty
  exact ⟨w', hrun, hcl w' (AMapF m (del F k)) D (hb0.grown hg hsz (fun j hj => by injection hj with hj; subst hj; exact (hD _ hDm).1)) (Kept.of_grown hg (Kept.refl W D) (fun j hj => by injection hj with hj; subst hj; exact .inl hDm)) ⟨⟨es', c', hm', he'⟩, hDm⟩ (fun _ hj => .inl hj)⟩
set_option maxRecDepth 100000 in
theorem tells_base {v : Int} {b : Nat} {w : World} {zs : List S82} (h0 : w.cell? ⟨b, 0, none⟩ = some (.int .i64 v)) : Tells1 73 (.pointer (some ⟨b, 0, none⟩)) (fun z => z.f0 == v) zs w := by
  refine ⟨enters_of Try.func73 (by kernel_rfl) rfl, fun y A4 c4 A5 c5 W _ hb => ?_⟩
  have k0 := pw_cell_below (below_alloc hb (.cells #[.int .i64 y.f0, .int .i64 y.f1, .int .i64 y.f2, .int .i64 y.f3, .slice A4 y.f4.length c4, .slice A5 y.f5.length c5] 75)) h0
  have hu75 := Try.underlying75
  go_enter Try.func73, Try.ntmps73
  go_wp2
  go_ret
  exact ⟨by first | rfl | simp | (congr 2), below_alloc (Below.refl _ _) _⟩
set_option maxHeartbeats 2000000 in
set_option maxRecDepth 100000 in
theorem Remove_no {z m : Nat} {zs : List S82} {w : World} (h : ZR z m zs w) (b : Int) (hno : ∀ y ∈ zs, y.f0 ≠ b) :
    Calls Try.prog 37 #[.pointer (some ⟨z, 0, none⟩), .int .i64 b] w fun e w' => e = .returned (.bool false) ∧ Below w.heap.size w w' := by
  have H := Aside0.mk h
  have e1 : idxP (fun z : S82 => z.f0 == b) zs = -1 := by
    rcases idxP_spec (fun z : S82 => z.f0 == b) zs with h | ⟨l1, x, l2, e, _, hx, _⟩
    · exact h.1
    · exact absurd (by simpa using hx) (hno x (by rw [e]; simp))
  obtain ⟨W, hWe⟩ : ∃ W, w.alloc (.cells #[.int .i64 b] 3) = W := ⟨_, rfl⟩
  have hW := Aside0.mk (show Sat w W [ABlk w.heap.size (.cells #[.int .i64 b] 3 (0, 0))] from by rw [← hWe]; exact blk_new (Sat.start w) _)
  obtain ⟨A, c, hz, hC⟩ := (H.out.below hW.out.toBelow).row
  have x0 : W.cell? ⟨z, 0, none⟩ = some (.slice A zs.length c) := get_cell hz 0
  have x1 : W.cell? ⟨w.heap.size, 0, none⟩ = some (.int .i64 b) := get_cell (blk_at hW.out) 0
  have hq := Index1_calls 73 _ _ A c zs W hC H.out.few (tells_base x1)
  rw [e1] at hq
  have HQ := Aside0.mk hq
  clear hq hz hC h hno e1
  go_enter Try.func37, Try.ntmps37
  go_upto_region 1 with fail
  try rw [hWe]
  clear hWe
  go_wp2_with fail
  (with_reducible refine HQ.out.mono ?_)
  rintro e2 w2 ⟨rfl, hb2⟩
  have HB2 := Aside0.mk (hW.out.below hb2)
  clear hb2
  go_wp2_with fail
  go_ret
  exact ⟨by rfl, HB2.out.toBelow⟩
end Go.Proofs.Ytkeijpngfnmjoaa.MineZone
