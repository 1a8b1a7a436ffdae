/- Zones: the first zone that a closure tells of; whether there is one. Conditions: the list is short; the closure tells what p tells, whatever lies behind. -/
import Derived.Test.YtkeijpngfnmjoaaMineZonePure
import Derived.Shelf.Abstract
namespace Go.Proofs.Ytkeijpngfnmjoaa.MineZone
open Go.Shelf Go.RowKit Go.MapKept Go.Proofs.YtkeijpngfnmjoaaW.PrintWords Go.Proofs.YtkeijpngfnmjoaaW.PrintLast Go.Proofs.YtkeijpngfnmjoaaW.PrintMore Go.Proofs.Ytkeijpngfnmjoaa.MineBase Go.Proofs.Ytkeijpngfnmjoaa.MineSep Go.Proofs.Ytkeijpngfnmjoaa.MineRows Go.Proofs.Ytkeijpngfnmjoaa.MineGen Go.Proofs.Ytkeijpngfnmjoaa.QZonePlays Go.Proofs.Ytkeijpngfnmjoaa.MineMap
attribute [local go_sem ↓] Go.wp_at_zero Go.wp_at_succ
set_option linter.unusedVariables false
set_option linter.unusedSimpArgs false
/-- What a closure with one thing caught tells of a zone. -/
def Tells1 (g : Nat) (v1 : Value) (p : S82 → Bool) (zs : List S82) (w : World) : Prop :=
  (∀ args W, (callFunc g args).run Try.prog W = .ok (.enter g args) W) ∧ ∀ (x : S82) (A4 : Option Addr) (c4 : Nat) (A5 : Option Addr) (c5 : Nat) (W : World), x ∈ zs → Below w.heap.size w W →
    Calls Try.prog g #[.agg #[.int .i64 x.f0, .int .i64 x.f1, .int .i64 x.f2, .int .i64 x.f3, .slice A4 x.f4.length c4, .slice A5 x.f5.length c5], v1] W fun e w' => e = .returned (.bool (p x)) ∧ Below W.heap.size W w'
set_option maxHeartbeats 2000000 in
set_option maxRecDepth 100000 in
theorem Index1_calls (g : Nat) (v1 : Value) (p : S82 → Bool) (A : Option Addr) (c : Nat) (zs : List S82) (w : World) (hC : k82.C w A zs.length zs) (hn : zs.length ≤ 1000) (ht : Tells1 g v1 p zs w) :
    Calls Try.prog 72 #[.slice A zs.length c, .func (.func g) #[] #[v1]] w fun e w' => e = .returned (.int .i64 (idxP p zs)) ∧ Below w.heap.size w w' := by
  have HC := Aside0.mk hC
  have HT := Aside0.mk ht.2
  have eg := ht.1
  clear hC ht
  go_enter Try.func72, Try.ntmps72
  go_wp2
  go_loopg [8] (zs.length + 1) (fun kq v8 w' => ∃ i : Nat, v8 = .int .i64 i ∧ Aside0 (i ≤ zs.length ∧ zs.length - i < kq) ∧ Aside0 (idxP p zs = shiftI i (idxP p (zs.drop i))) ∧ Aside0 (Below w.heap.size w w'))
  case atStart => exact ⟨0, rfl, ⟨by omega⟩, ⟨by rw [List.drop_zero, shift_zero]⟩, ⟨Below.refl _ _⟩⟩
  case round =>
    obtain ⟨i, rfl, Hi, HR, HB⟩ := hrel
    by_cases hlt : i < zs.length
    · obtain ⟨x, hx⟩ : ∃ x, zs[i]? = some x := ⟨_, List.getElem?_eq_getElem hlt⟩
      obtain ⟨ad, A4, c4, A5, c5, eA, y0, y1, y2, y3, y4, y5, _⟩ := at_T82 (Kd.C_below HC.out HB.out) (i : Int) (by omega) (by omega)
      have ev : rd_T82 zs (i : Int) = x := by
        have := (List.getElem?_eq_some_iff.1 hx).2
        simp [rd_T82, hlt, this]
      rw [ev] at y0 y1 y2 y3 y4 y5
      simp only [Int.toNat_natCast] at y0 y1 y2 y3 y4 y5
      subst eA
      have HG := Aside0.mk hx
      have d1 : decide ((i : Int) < (zs.length : Int)) = true := decide_eq_true (by omega)
      have p1 : (i < zs.length) = True := eq_true hlt
      have p9 : (i : Int) ≤ 1000 := by omega
      have p8 : 0 ≤ (i : Int) := by omega
      clear hlt hx ev
      go_wp2_with fail
      have hq := HT.out x A4 c4 A5 c5 wr (List.mem_iff_getElem?.2 ⟨i, HG.out⟩) HB.out
      (with_reducible refine hq.mono ?_)
      clear hq
      rintro e2 w2 ⟨rfl, hb2⟩
      have HB2 := Aside0.mk (below_step HB.out hb2)
      clear hb2 y0 y1 y2 y3 y4 y5
      cases hq : p x with
      | true =>
        have HQ := Aside0.mk (shift_hit (p := p) HG.out hq)
        clear hq
        go_wp2
        go_ret
        exact ⟨ret_eq (by rw [HR.out, HQ.out]; rfl), HB2.out⟩
      | false =>
        have HQ := Aside0.mk (shift_miss (p := p) HG.out hq)
        clear hq
        go_wp2
        go_roundg (gk - 1)
        case measure => have := Hi.out; omega
        case rel => exact ⟨i + 1, by go_num, ⟨by have := Hi.out; have := of_eq_true p1; omega⟩, ⟨by rw [HR.out, HQ.out]⟩, HB2⟩
    · have hi : i = zs.length := by have := Hi.out; omega
      have d1 : (i < zs.length) = False := eq_false hlt
      have HE := Aside0.mk (show idxP p zs = -1 by rw [HR.out, hi, shift_end])
      clear hi hlt
      go_wp2
      go_ret
      exact ⟨ret_eq (by rw [HE.out]; rfl), HB.out⟩
/-- What a closure with three things caught tells of a zone. -/
def Tells3 (g : Nat) (v1 v2 v3 : Value) (p : S82 → Bool) (zs : List S82) (w : World) : Prop :=
  (∀ args W, (callFunc g args).run Try.prog W = .ok (.enter g args) W) ∧ ∀ (x : S82) (A4 : Option Addr) (c4 : Nat) (A5 : Option Addr) (c5 : Nat) (W : World), x ∈ zs → Below w.heap.size w W →
    Calls Try.prog g #[.agg #[.int .i64 x.f0, .int .i64 x.f1, .int .i64 x.f2, .int .i64 x.f3, .slice A4 x.f4.length c4, .slice A5 x.f5.length c5], v1, v2, v3] W fun e w' => e = .returned (.bool (p x)) ∧ Below W.heap.size W w'
set_option maxHeartbeats 2000000 in
set_option maxRecDepth 100000 in
theorem Index3_calls (g : Nat) (v1 v2 v3 : Value) (p : S82 → Bool) (A : Option Addr) (c : Nat) (zs : List S82) (w : World) (hC : k82.C w A zs.length zs) (hn : zs.length ≤ 1000) (ht : Tells3 g v1 v2 v3 p zs w) :
    Calls Try.prog 72 #[.slice A zs.length c, .func (.func g) #[] #[v1, v2, v3]] w fun e w' => e = .returned (.int .i64 (idxP p zs)) ∧ Below w.heap.size w w' := by
  have HC := Aside0.mk hC
  have HT := Aside0.mk ht.2
  have eg := ht.1
  clear hC ht
  go_enter Try.func72, Try.ntmps72
  go_wp2
  go_loopg [8] (zs.length + 1) (fun kq v8 w' => ∃ i : Nat, v8 = .int .i64 i ∧ Aside0 (i ≤ zs.length ∧ zs.length - i < kq) ∧ Aside0 (idxP p zs = shiftI i (idxP p (zs.drop i))) ∧ Aside0 (Below w.heap.size w w'))
  case atStart => exact ⟨0, rfl, ⟨by omega⟩, ⟨by rw [List.drop_zero, shift_zero]⟩, ⟨Below.refl _ _⟩⟩
  case round =>
    obtain ⟨i, rfl, Hi, HR, HB⟩ := hrel
    by_cases hlt : i < zs.length
    · obtain ⟨x, hx⟩ : ∃ x, zs[i]? = some x := ⟨_, List.getElem?_eq_getElem hlt⟩
      obtain ⟨ad, A4, c4, A5, c5, eA, y0, y1, y2, y3, y4, y5, _⟩ := at_T82 (Kd.C_below HC.out HB.out) (i : Int) (by omega) (by omega)
      have ev : rd_T82 zs (i : Int) = x := by
        have := (List.getElem?_eq_some_iff.1 hx).2
        simp [rd_T82, hlt, this]
      rw [ev] at y0 y1 y2 y3 y4 y5
      simp only [Int.toNat_natCast] at y0 y1 y2 y3 y4 y5
      subst eA
      have HG := Aside0.mk hx
      have d1 : decide ((i : Int) < (zs.length : Int)) = true := decide_eq_true (by omega)
      have p1 : (i < zs.length) = True := eq_true hlt
      have p9 : (i : Int) ≤ 1000 := by omega
      have p8 : 0 ≤ (i : Int) := by omega
      clear hlt hx ev
      go_wp2_with fail
      have hq := HT.out x A4 c4 A5 c5 wr (List.mem_iff_getElem?.2 ⟨i, HG.out⟩) HB.out
      (with_reducible refine hq.mono ?_)
      clear hq
      rintro e2 w2 ⟨rfl, hb2⟩
      have HB2 := Aside0.mk (below_step HB.out hb2)
      clear hb2 y0 y1 y2 y3 y4 y5
      cases hq : p x with
      | true =>
        have HQ := Aside0.mk (shift_hit (p := p) HG.out hq)
        clear hq
        go_wp2
        go_ret
        exact ⟨ret_eq (by rw [HR.out, HQ.out]; rfl), HB2.out⟩
      | false =>
        have HQ := Aside0.mk (shift_miss (p := p) HG.out hq)
        clear hq
        go_wp2
        go_roundg (gk - 1)
        case measure => have := Hi.out; omega
        case rel => exact ⟨i + 1, by go_num, ⟨by have := Hi.out; have := of_eq_true p1; omega⟩, ⟨by rw [HR.out, HQ.out]⟩, HB2⟩
    · have hi : i = zs.length := by have := Hi.out; omega
      have d1 : (i < zs.length) = False := eq_false hlt
      have HE := Aside0.mk (show idxP p zs = -1 by rw [HR.out, hi, shift_end])
      clear hi hlt
      go_wp2
      go_ret
      exact ⟨ret_eq (by rw [HE.out]; rfl), HB.out⟩
theorem idx_any {α : Type} (p : α → Bool) (l : List α) : decide (0 ≤ idxP p l) = l.any p := by
  rcases idxP_spec p l with ⟨h1, h2⟩ | ⟨l1, x, l2, e, h1, h2, h3⟩
  · rw [h1]
    have : l.any p = false := List.any_eq_false.2 (fun x hx => by rw [h2 x hx]; decide)
    rw [this]; rfl
  · have : l.any p = true := List.any_eq_true.2 ⟨x, by rw [e]; simp, h2⟩
    rw [this, h1]
    exact decide_eq_true (by omega)
theorem Contains1_calls (g : Nat) (v1 : Value) (p : S82 → Bool) (A : Option Addr) (c : Nat) (zs : List S82) (w : World) (hC : k82.C w A zs.length zs) (hn : zs.length ≤ 1000) (ht : Tells1 g v1 p zs w) :
    Calls Try.prog 78 #[.slice A zs.length c, .func (.func g) #[] #[v1]] w fun e w' => e = .returned (.bool (zs.any p)) ∧ Below w.heap.size w w' := by
  have hq := Index1_calls g v1 p A c zs w hC hn ht
  obtain ⟨x, hx⟩ : ∃ x, idxP p zs = x := ⟨_, rfl⟩
  have ha := idx_any p zs
  rw [hx] at hq ha
  rw [← ha]
  clear hC ht ha
  go_enter Try.func78, Try.ntmps78
  go_wp2_with fail
  (with_reducible refine hq.mono ?_)
  clear hq
  rintro e1 w1 ⟨rfl, hb1⟩
  have HB := Aside0.mk hb1
  clear hb1
  go_wp2_with fail
  go_ret
  exact ⟨by rfl, HB.out⟩
theorem Contains3_calls (g : Nat) (v1 v2 v3 : Value) (p : S82 → Bool) (A : Option Addr) (c : Nat) (zs : List S82) (w : World) (hC : k82.C w A zs.length zs) (hn : zs.length ≤ 1000) (ht : Tells3 g v1 v2 v3 p zs w) :
    Calls Try.prog 78 #[.slice A zs.length c, .func (.func g) #[] #[v1, v2, v3]] w fun e w' => e = .returned (.bool (zs.any p)) ∧ Below w.heap.size w w' := by
  have hq := Index3_calls g v1 v2 v3 p A c zs w hC hn ht
  obtain ⟨x, hx⟩ : ∃ x, idxP p zs = x := ⟨_, rfl⟩
  have ha := idx_any p zs
  rw [hx] at hq ha
  rw [← ha]
  clear hC ht ha
  go_enter Try.func78, Try.ntmps78
  go_wp2_with fail
  (with_reducible refine hq.mono ?_)
  clear hq
  rintro e1 w1 ⟨rfl, hb1⟩
  have HB := Aside0.mk hb1
  clear hb1
  go_wp2_with fail
  go_ret
  exact ⟨by rfl, HB.out⟩
/-! ### the closures -/
theorem tells_clash {x : S82} {b : Nat} {w : World} {zs : List S82} (h0 : w.cell? ⟨b, 0, none⟩ = some (.int .i64 x.f0)) (h3 : w.cell? ⟨b, 3, none⟩ = some (.int .i64 x.f3)) : Tells1 79 (.pointer (some ⟨b, 0, none⟩)) (clash x) zs w := by
  refine ⟨enters_of Try.func79 (by kernel_rfl) rfl, fun y A4 c4 A5 c5 W _ hb => ?_⟩
  have k0 := pw_cell_below (below_alloc hb (.cells #[.int .i64 y.f0, .int .i64 y.f1, .int .i64 y.f2, .int .i64 y.f3, .slice A4 y.f4.length c4, .slice A5 y.f5.length c5] 75)) h0
  have k3 := pw_cell_below (below_alloc hb (.cells #[.int .i64 y.f0, .int .i64 y.f1, .int .i64 y.f2, .int .i64 y.f3, .slice A4 y.f4.length c4, .slice A5 y.f5.length c5] 75)) h3
  unfold clash
  have hu75 := Try.underlying75
  by_cases g1 : y.f0 < x.f3
  · have d1 : (y.f0 < x.f3) = True := eq_true g1
    have d2 : decide (y.f0 < x.f3) = true := decide_eq_true g1
    clear g1
    go_enter Try.func79, Try.ntmps79
    go_wp2
    go_ret
    exact ⟨by simp [d2], below_alloc (Below.refl _ _) _⟩
  · have d1 : (y.f0 < x.f3) = False := eq_false g1
    have d2 : decide (y.f0 < x.f3) = false := decide_eq_false g1
    clear g1
    go_enter Try.func79, Try.ntmps79
    go_wp2
    go_ret
    exact ⟨by simp [d2], below_alloc (Below.refl _ _) _⟩
theorem tells_run {v : Int} {b : Nat} {w : World} {zs : List S82} (h0 : w.cell? ⟨b, 0, none⟩ = some (.int .i64 v)) : Tells1 88 (.pointer (some ⟨b, 0, none⟩)) (fun z => decide (z.f2 ≤ v) && decide (v < z.f3)) zs w := by
  refine ⟨enters_of Try.func88 (by kernel_rfl) rfl, fun y A4 c4 A5 c5 W _ hb => ?_⟩
  have k0 := pw_cell_below (below_alloc hb (.cells #[.int .i64 y.f0, .int .i64 y.f1, .int .i64 y.f2, .int .i64 y.f3, .slice A4 y.f4.length c4, .slice A5 y.f5.length c5] 75)) h0
  have hu75 := Try.underlying75
  by_cases g1 : y.f2 ≤ v
  · have d1 : (y.f2 ≤ v) = True := eq_true g1
    have d2 : decide (y.f2 ≤ v) = true := decide_eq_true g1
    clear g1
    go_enter Try.func88, Try.ntmps88
    go_wp2
    go_ret
    exact ⟨by simp [d2], below_alloc (Below.refl _ _) _⟩
  · have d1 : (y.f2 ≤ v) = False := eq_false g1
    have d2 : decide (y.f2 ≤ v) = false := decide_eq_false g1
    clear g1
    go_enter Try.func88, Try.ntmps88
    go_wp2
    go_ret
    exact ⟨by simp [d2], below_alloc (Below.refl _ _) _⟩
theorem tells_fit {v : Int} {b : Nat} {w : World} {zs : List S82} (h0 : w.cell? ⟨b, 0, none⟩ = some (.int .i64 v)) : Tells1 89 (.pointer (some ⟨b, 0, none⟩)) (fun z => decide (z.f0 ≤ v) && decide (v < z.f2)) zs w := by
  refine ⟨enters_of Try.func89 (by kernel_rfl) rfl, fun y A4 c4 A5 c5 W _ hb => ?_⟩
  have k0 := pw_cell_below (below_alloc hb (.cells #[.int .i64 y.f0, .int .i64 y.f1, .int .i64 y.f2, .int .i64 y.f3, .slice A4 y.f4.length c4, .slice A5 y.f5.length c5] 75)) h0
  have hu75 := Try.underlying75
  by_cases g1 : y.f0 ≤ v
  · have d1 : (y.f0 ≤ v) = True := eq_true g1
    have d2 : decide (y.f0 ≤ v) = true := decide_eq_true g1
    clear g1
    go_enter Try.func89, Try.ntmps89
    go_wp2
    go_ret
    exact ⟨by simp [d2], below_alloc (Below.refl _ _) _⟩
  · have d1 : (y.f0 ≤ v) = False := eq_false g1
    have d2 : decide (y.f0 ≤ v) = false := decide_eq_false g1
    clear g1
    go_enter Try.func89, Try.ntmps89
    go_wp2
    go_ret
    exact ⟨by simp [d2], below_alloc (Below.refl _ _) _⟩
end Go.Proofs.Ytkeijpngfnmjoaa.MineZone
