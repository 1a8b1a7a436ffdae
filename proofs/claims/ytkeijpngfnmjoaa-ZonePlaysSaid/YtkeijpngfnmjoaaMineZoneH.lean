/- Zones sorted by their base: what the library's sort leaves. Conditions: the row is of the call's own. -/
import Derived.Test.YtkeijpngfnmjoaaMineZoneE
import Derived.Test.YtkeijpngfnmjoaaMineLay
import Derived.Shelf.SlSortCmp.WholeK
namespace Go.Proofs.Ytkeijpngfnmjoaa.MineZone
open Go.Lib Go.Sort Go.Shelf Go.RowKit Go.MapKept Go.Proofs.YtkeijpngfnmjoaaW.PrintWords Go.Proofs.YtkeijpngfnmjoaaW.PrintLast Go.Proofs.YtkeijpngfnmjoaaW.PrintMore Go.Proofs.Ytkeijpngfnmjoaa.MineBase Go.Proofs.Ytkeijpngfnmjoaa.MineSep Go.Proofs.Ytkeijpngfnmjoaa.MineRows Go.Proofs.Ytkeijpngfnmjoaa.MineGen Go.Proofs.Ytkeijpngfnmjoaa.QZonePlays Go.Proofs.Ytkeijpngfnmjoaa.MineMap
attribute [local go_sem ↓] Go.wp_at_zero Go.wp_at_succ
set_option linter.unusedVariables false
set_option linter.unusedSimpArgs false
instance : Inhabited S82 := ⟨z82⟩
/-- A zone and where its rows lie. -/
abbrev SZ := S82 × (Option Addr × Nat) × (Option Addr × Nat)
def encZ (x : SZ) : List Value := [.int .i64 x.1.f0, .int .i64 x.1.f1, .int .i64 x.1.f2, .int .i64 x.1.f3, .slice x.2.1.1 x.1.f4.length x.2.1.2, .slice x.2.2.1 x.1.f5.length x.2.2.2]
theorem encZ_len (x : SZ) : (encZ x).length = 6 := rfl
theorem encZ_one (x : SZ) : ∀ v ∈ encZ x, v.oneCell' = true := by
  intro v hv
  simp only [encZ, List.mem_cons, List.not_mem_nil, or_false] at hv
  rcases hv with rfl | rfl | rfl | rfl | rfl | rfl <;> rfl
def cfZ (x y : SZ) : Int := Lib.compareInt x.1.f0 y.1.f0
theorem ltZ (x y : SZ) : ltOf cfZ x y = decide (x.1.f0 < y.1.f0) := by
  unfold ltOf cfZ Lib.compareInt
  by_cases h1 : x.1.f0 < y.1.f0
  · simp [h1]
  · by_cases h2 : y.1.f0 < x.1.f0 <;> simp [h1, h2]
theorem swoZ : SWO (ltOf cfZ) where
  irrefl x := by rw [ltZ]; simp
  trans x y z h1 h2 := by rw [ltZ] at *; simp at *; omega
  ntrans x y z h1 h2 := by rw [ltZ] at *; simp at *; omega
set_option maxHeartbeats 1000000 in
set_option maxRecDepth 100000 in
theorem cmp82_calls (x y : SZ) (W : World) : Calls Try.prog 82 #[.agg (encZ x).toArray, .agg (encZ y).toArray] W fun e w' => e = .returned (.int .i64 (cfZ x y)) ∧ ∃ q os', w' = grow (W.drewN q) os' := by
  have hcon := fun W' => AnyG.cmp_Compare_int Try.cmpZ x.1.f0 y.1.f0 W'
  change ∀ W', Calls Try.prog 83 _ _ _ at hcon
  unfold cfZ
  unfold encZ
  generalize Lib.compareInt x.1.f0 y.1.f0 = r at hcon ⊢
  go_enter Try.func82, Try.ntmps82
  go_wp2_with (go_at_call 83; refine (hcon _).mono ?_; rintro e w' ⟨rfl, rfl⟩)
  go_ret
  exact ⟨rfl, 0, _, by rw [alloc_eq_grow, alloc_eq_grow, grow_grow]; rfl⟩
theorem cmpLaysZ (blk off size : Nat) (w : World) : CmpLays Try.prog 82 #[] encZ 6 cfZ blk off size w :=
  fun _ _ _ _ x y => cmp82_calls x y _
set_option maxHeartbeats 1000000 in
theorem Sort_calls (blk off cap : Nat) (d : Array SZ) (w : World) (hH : HoldsK encZ 6 w blk off d) (hblk : blk < w.heap.size) (hsz : d.size < 4611686018427387904) :
    Calls Try.prog 81 #[.slice (some ⟨blk, off, none⟩) d.size cap, .func (.func 82) #[] #[]] w fun e w' => e = .returned (.tuple #[]) ∧ ∃ d' n os, PermIn 0 d.size d d' ∧ SortedIn (ltOf cfZ) 0 d.size d' ∧ w' = sortWorldK encZ 6 w blk off n d' os := by
  have eg : ∀ args w, (callFunc 82 args).run Try.prog w = .ok (.enter 82 args) w := enters_of Try.func82 (by kernel_rfl) rfl
  have hcon := AnyQ.slices_SortFunc Try.sortZ 6 Try.isAgg75 Try.sizeOf75 encZ encZ_len encZ_one cfZ swoZ 82 #[] blk off cap d w eg (cmpLaysZ blk off d.size w) hH hblk hsz
  exact hcon
end Go.Proofs.Ytkeijpngfnmjoaa.MineZone
