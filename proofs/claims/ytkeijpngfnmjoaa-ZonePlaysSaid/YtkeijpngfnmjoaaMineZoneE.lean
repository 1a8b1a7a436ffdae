/- Zones: what can be done at any place, by the program: its methods. Conditions: the list is short and orderly; the map tells the cells. -/
import Derived.Test.YtkeijpngfnmjoaaMineZoneD
namespace Go.Proofs.Ytkeijpngfnmjoaa.MineZone
open Go.Shelf Go.RowKit Go.MapKept Go.Proofs.YtkeijpngfnmjoaaW.PrintWords Go.Proofs.YtkeijpngfnmjoaaW.PrintLast Go.Proofs.YtkeijpngfnmjoaaW.PrintMore Go.Proofs.Ytkeijpngfnmjoaa.MineBase Go.Proofs.Ytkeijpngfnmjoaa.MineSep Go.Proofs.Ytkeijpngfnmjoaa.MineRows Go.Proofs.Ytkeijpngfnmjoaa.MineGen Go.Proofs.Ytkeijpngfnmjoaa.QZonePlays Go.Proofs.Ytkeijpngfnmjoaa.MineMap
attribute [local go_sem ↓] Go.wp_at_zero Go.wp_at_succ
set_option linter.unusedVariables false
set_option linter.unusedSimpArgs false
theorem size_alloc (W : World) (o : Obj) : (W.alloc o).heap.size = W.heap.size + 1 := by simp only [World.alloc, Array.size_push]
theorem blk_new3 {w0 W : World} {l : List Asn} (h : Sat w0 W l) (o1 o2 o3 : Obj) : Sat w0 (((W.alloc o1).alloc o2).alloc o3) (ABlk (W.heap.size + 1 + 1) o3 :: ABlk (W.heap.size + 1) o2 :: ABlk W.heap.size o1 :: l) := by
  have h := blk_new (blk_new (blk_new h o1) o2) o3
  rw [size_alloc, size_alloc] at h
  exact h
/-- The program's zones, for reading. -/
structure ZR (z m : Nat) (zs : List S82) (w : World) : Prop where
  row : ∃ A c, blk w z = some (.cells #[.slice A zs.length c, .map (some m)] 133 (0, 0)) ∧ k82.C w A zs.length zs
  few : zs.length ≤ 1000
  ok : ∀ y ∈ zs, Ok y
theorem ZR.below {z m : Nat} {zs : List S82} {w w' : World} (h : ZR z m zs w) (hb : Below w.heap.size w w') : ZR z m zs w' := by
  obtain ⟨⟨A, c, h1, h2⟩, h3, h4⟩ := h
  exact ⟨⟨A, c, get_below h1 hb, Kd.C_below h2 hb⟩, h3, h4⟩
theorem Ok.read {y : S82} (h : Ok y) : 0 ≤ y.f2 ∧ y.f2 ≤ 100000 := by
  obtain ⟨⟨h1, h2, h3, h4, h5, h6, _⟩, _⟩ := h
  omega
theorem Ok.data {y : S82} (h : Ok y) : 0 ≤ y.f1 ∧ y.f1 ≤ 100000 := by
  obtain ⟨⟨h1, h2, h3, h4, h5, h6, _⟩, _⟩ := h
  omega
set_option maxRecDepth 100000 in
set_option maxHeartbeats 2000000 in
theorem can85_calls {z m : Nat} {zs : List S82} {w : World} (h : ZR z m zs w) (a n : Int) (hn : n ≤ 9223372036854775807) :
    Calls Try.prog 84 #[.pointer (some ⟨z, 0, none⟩), .int .i64 a, .int .i64 n, .func (.func 85) #[] #[]] w fun e w' => e = .returned (.bool (inR a n 16 272 || zs.any (fun y => inR a n y.f0 y.f2))) ∧ Below w.heap.size w w' := by
  have H := Aside0.mk h
  have HN := Aside0.mk hn
  clear h hn
  obtain ⟨b0, hb0⟩ : ∃ b0, inR a n 16 272 = b0 := ⟨_, rfl⟩
  have HW := Aside0.mk (fun W => by have h := within_calls a n 16 272 HN.out (by decide) (by decide) W; rw [hb0] at h; exact h)
  rw [hb0]
  clear hb0
  go_enter Try.func84, Try.ntmps84
  go_upto_region 1 with fail
  refine wp_abs (fun W => Sat w W [ABlk (w.heap.size + 1 + 1) (.cells #[.func (.func 85) #[] #[]] 143 (0, 0)), ABlk (w.heap.size + 1) (.cells #[.int .i64 n] 3 (0, 0)), ABlk w.heap.size (.cells #[.int .i64 a] 3 (0, 0))]) (blk_new3 (Sat.start w) _ _ _) (fun W hW => ?_)
  generalize w.heap.size + 1 + 1 = b3 at hW ⊢
  generalize w.heap.size + 1 = b2 at hW ⊢
  obtain ⟨b1, hb1⟩ : ∃ b1, w.heap.size = b1 := ⟨_, rfl⟩
  have HSZ := Aside0.mk hb1
  rw [hb1] at hW ⊢
  clear hb1
  replace hW := Aside0.mk hW
  obtain ⟨A, c, hz, hC⟩ := (H.out.below hW.out.toBelow).row
  have HC := Aside0.mk hC
  have x1 : W.cell? ⟨b1, 0, none⟩ = some (.int .i64 a) := get_cell (blk_at hW.out.drop.drop) 0
  have x2 : W.cell? ⟨b2, 0, none⟩ = some (.int .i64 n) := get_cell (blk_at hW.out.drop) 0
  have x3 : W.cell? ⟨b3, 0, none⟩ = some (.func (.func 85) #[] #[]) := get_cell (blk_at hW.out) 0
  have x0 : W.cell? ⟨z, 0, none⟩ = some (.slice A zs.length c) := get_cell hz 0
  have HT := Aside0.mk (Contains3_calls 106 _ _ _ _ A c zs W hC H.out.few (tells_can85 HN.out (fun y hy => (H.out.ok y hy).read) x1 x2 x3))
  clear hz hC
  cases b0 with
  | true =>
    go_wp2_with (go_at_call 105; (with_reducible refine (HW.out _).mono ?_); rintro e5 w5 ⟨rfl, h5⟩; replace h5 := h5.symm; subst h5)
    go_ret
    exact ⟨by rfl, by first | exact hW.out.toBelow | (rw [hWe]; exact hW.out.toBelow) | (rw [← hWe]; exact hWe ▸ hW.out.toBelow)⟩
  | false =>
    go_wp2_with (go_at_call 105; (with_reducible refine (HW.out _).mono ?_); rintro e5 w5 ⟨rfl, h5⟩; replace h5 := h5.symm; subst h5)
    (with_reducible refine HT.out.mono ?_)
    rintro e6 w6 ⟨rfl, hb6⟩
    have HB6 := Aside0.mk (hW.out.below hb6)
    clear hb6
    go_wp2_with fail
    go_ret
    exact ⟨by rfl, HB6.out.toBelow⟩
theorem CanLoad_calls {z m : Nat} {zs : List S82} {w : World} (h : ZR z m zs w) (a n : Int) (hn : n ≤ 9223372036854775807) :
    Calls Try.prog 41 #[.pointer (some ⟨z, 0, none⟩), .int .i64 a, .int .i64 n] w fun e w' => e = .returned (.bool (loadZ zs a n)) ∧ Below w.heap.size w w' := by
  have hq := can85_calls h a n hn
  have e0 : (inR a n 16 272 || zs.any (fun y => inR a n y.f0 y.f2)) = loadZ zs a n := rfl
  rw [e0] at hq
  generalize loadZ zs a n = b at hq ⊢
  clear h hn e0
  go_enter Try.func41, Try.ntmps41
  go_wp2_with fail
  (with_reducible refine hq.mono ?_)
  clear hq
  rintro e1 w1 ⟨rfl, hb1⟩
  have HB := Aside0.mk hb1
  clear hb1
  go_wp2_with fail
  go_ret
  exact ⟨by rfl, HB.out⟩
set_option maxRecDepth 100000 in
set_option maxHeartbeats 2000000 in
theorem can87_calls {z m : Nat} {zs : List S82} {w : World} (h : ZR z m zs w) (a n : Int) (hn : n ≤ 9223372036854775807) :
    Calls Try.prog 84 #[.pointer (some ⟨z, 0, none⟩), .int .i64 a, .int .i64 n, .func (.func 87) #[] #[]] w fun e w' => e = .returned (.bool (inR a n 16 272 || zs.any (fun y => inR a n y.f0 y.f1))) ∧ Below w.heap.size w w' := by
  have H := Aside0.mk h
  have HN := Aside0.mk hn
  clear h hn
  obtain ⟨b0, hb0⟩ : ∃ b0, inR a n 16 272 = b0 := ⟨_, rfl⟩
  have HW := Aside0.mk (fun W => by have h := within_calls a n 16 272 HN.out (by decide) (by decide) W; rw [hb0] at h; exact h)
  rw [hb0]
  clear hb0
  go_enter Try.func84, Try.ntmps84
  go_upto_region 1 with fail
  refine wp_abs (fun W => Sat w W [ABlk (w.heap.size + 1 + 1) (.cells #[.func (.func 87) #[] #[]] 143 (0, 0)), ABlk (w.heap.size + 1) (.cells #[.int .i64 n] 3 (0, 0)), ABlk w.heap.size (.cells #[.int .i64 a] 3 (0, 0))]) (blk_new3 (Sat.start w) _ _ _) (fun W hW => ?_)
  generalize w.heap.size + 1 + 1 = b3 at hW ⊢
  generalize w.heap.size + 1 = b2 at hW ⊢
  obtain ⟨b1, hb1⟩ : ∃ b1, w.heap.size = b1 := ⟨_, rfl⟩
  have HSZ := Aside0.mk hb1
  rw [hb1] at hW ⊢
  clear hb1
  replace hW := Aside0.mk hW
  obtain ⟨A, c, hz, hC⟩ := (H.out.below hW.out.toBelow).row
  have HC := Aside0.mk hC
  have x1 : W.cell? ⟨b1, 0, none⟩ = some (.int .i64 a) := get_cell (blk_at hW.out.drop.drop) 0
  have x2 : W.cell? ⟨b2, 0, none⟩ = some (.int .i64 n) := get_cell (blk_at hW.out.drop) 0
  have x3 : W.cell? ⟨b3, 0, none⟩ = some (.func (.func 87) #[] #[]) := get_cell (blk_at hW.out) 0
  have x0 : W.cell? ⟨z, 0, none⟩ = some (.slice A zs.length c) := get_cell hz 0
  have HT := Aside0.mk (Contains3_calls 106 _ _ _ _ A c zs W hC H.out.few (tells_can87 HN.out (fun y hy => (H.out.ok y hy).data) x1 x2 x3))
  clear hz hC
  cases b0 with
  | true =>
    go_wp2_with (go_at_call 105; (with_reducible refine (HW.out _).mono ?_); rintro e5 w5 ⟨rfl, h5⟩; replace h5 := h5.symm; subst h5)
    go_ret
    exact ⟨by rfl, by first | exact hW.out.toBelow | (rw [hWe]; exact hW.out.toBelow) | (rw [← hWe]; exact hWe ▸ hW.out.toBelow)⟩
  | false =>
    go_wp2_with (go_at_call 105; (with_reducible refine (HW.out _).mono ?_); rintro e5 w5 ⟨rfl, h5⟩; replace h5 := h5.symm; subst h5)
    (with_reducible refine HT.out.mono ?_)
    rintro e6 w6 ⟨rfl, hb6⟩
    have HB6 := Aside0.mk (hW.out.below hb6)
    clear hb6
    go_wp2_with fail
    go_ret
    exact ⟨by rfl, HB6.out.toBelow⟩
theorem CanStore_calls {z m : Nat} {zs : List S82} {w : World} (h : ZR z m zs w) (a n : Int) (hn : n ≤ 9223372036854775807) :
    Calls Try.prog 43 #[.pointer (some ⟨z, 0, none⟩), .int .i64 a, .int .i64 n] w fun e w' => e = .returned (.bool (storeZ zs a n)) ∧ Below w.heap.size w w' := by
  have hq := can87_calls h a n hn
  have e0 : (inR a n 16 272 || zs.any (fun y => inR a n y.f0 y.f1)) = storeZ zs a n := rfl
  rw [e0] at hq
  generalize storeZ zs a n = b at hq ⊢
  clear h hn e0
  go_enter Try.func43, Try.ntmps43
  go_wp2_with fail
  (with_reducible refine hq.mono ?_)
  clear hq
  rintro e1 w1 ⟨rfl, hb1⟩
  have HB := Aside0.mk hb1
  clear hb1
  go_wp2_with fail
  go_ret
  exact ⟨by rfl, HB.out⟩
set_option maxRecDepth 100000 in
set_option maxHeartbeats 2000000 in
theorem CanRun_calls {z m : Nat} {zs : List S82} {w : World} (h : ZR z m zs w) (a : Int) :
    Calls Try.prog 45 #[.pointer (some ⟨z, 0, none⟩), .int .i64 a] w fun e w' => e = .returned (.bool (runZ zs a)) ∧ Below w.heap.size w w' := by
  have H := Aside0.mk h
  clear h
  have hta : Int.tmod a 4 = 0 ↔ a % 4 = 0 := ⟨fun h => Int.emod_eq_zero_of_dvd (Int.dvd_of_tmod_eq_zero h), fun h => Int.tmod_eq_zero_of_dvd (Int.dvd_of_emod_eq_zero h)⟩
  obtain ⟨W, hWe⟩ : ∃ W, w.alloc (.cells #[.int .i64 a] 3) = W := ⟨_, rfl⟩
  have hW := Aside0.mk (show Sat w W [ABlk w.heap.size (.cells #[.int .i64 a] 3 (0, 0))] from by rw [← hWe]; exact blk_new (Sat.start w) _)
  obtain ⟨A, c, hz, hC⟩ := (H.out.below hW.out.toBelow).row
  have x0 : W.cell? ⟨z, 0, none⟩ = some (.slice A zs.length c) := get_cell hz 0
  have x1 : W.cell? ⟨w.heap.size, 0, none⟩ = some (.int .i64 a) := get_cell (blk_at hW.out) 0
  have HT := Aside0.mk (Contains1_calls 88 _ _ A c zs W hC H.out.few (tells_run x1))
  clear hz hC
  unfold runZ
  by_cases g1 : a % 4 = 0
  · have d1 : decide (a % 4 = 0) = true := decide_eq_true g1
    have m1 : Int.tmod a 4 = 0 := hta.2 g1
    rw [d1]
    clear hta
    go_enter Try.func45, Try.ntmps45
    go_upto_region 1 with fail
    try rw [hWe]
    clear hWe
    go_wp2_with fail
    (with_reducible refine HT.out.mono ?_)
    rintro e6 w6 ⟨rfl, hb6⟩
    have HB6 := Aside0.mk (hW.out.below hb6)
    clear hb6
    go_wp2_with fail
    go_ret
    exact ⟨by rfl, HB6.out.toBelow⟩
  · have d1 : decide (a % 4 = 0) = false := decide_eq_false g1
    have m1 : (Int.tmod a 4 = 0) = False := eq_false (fun h => g1 (hta.1 h))
    have m2 : (Int.tmod a 4 == 0) = false := by simpa using (fun h => g1 (hta.1 h))
    have m3 : (a % 4 = 0) = False := eq_false g1
    rw [d1]
    clear hta g1
    go_enter Try.func45, Try.ntmps45
    go_upto_region 1 with fail
    try rw [hWe]
    clear hWe
    go_wp2_with fail
    go_ret
    exact ⟨by simp, hW.out.toBelow⟩
theorem intKeys : KeysOf (κ := Int) (.int .i64) (Value.int .i64) (fun _ => True) := ⟨fun _ _ => rfl, fun _ _ h => by injection h⟩
theorem zero3 (w : World) : (zeroValue 3).run Try.prog w = .ok (.int .i64 0) w := by kernel_rfl
set_option maxRecDepth 100000 in
theorem Cell_calls {z m : Nat} {zs : List S82} {w : World} (h : ZR z m zs w) {es : Array MapEntry} {clock : Nat} {F : List (Int × Value)} (hm : w.heap[m]? = some (.map es clock)) (he : EsOf (Value.int .i64) es.toList F) (hF : CellsOf zs F) (a : Int) (ha : a ≤ 9223372036854775807) :
    Calls Try.prog 47 #[.pointer (some ⟨z, 0, none⟩), .int .i64 a] w fun e w' => e = .returned (.int .i64 (cellZ zs a)) ∧ Below w.heap.size w w' := by
  obtain ⟨A, c, hz, hC⟩ := h.row
  have x1 : w.cell? ⟨z, 1, none⟩ = some (.map (some m)) := get_cell hz 1
  have hl := lookup_run (P := Try.prog) intKeys Try.underlying131 Try.underlying3 (zero3 w) hm F (fun _ _ => trivial) he (a / 4 * 4) trivial false
  rw [hF.2] at hl
  have hv : ((if cellK zs (a / 4 * 4) = 0 then none else some (.int .i64 (cellK zs (a / 4 * 4)))) : Option Value).getD (.int .i64 0) = .int .i64 (cellK zs (a / 4 * 4)) := by
    split
    · rename_i e; rw [e]; rfl
    · rfl
  unfold cellZ
  by_cases g1 : a < 0
  · have d1 : (a < 0) = True := eq_true g1
    have d2 : decide (a < 0) = true := decide_eq_true g1
    rw [if_pos g1]
    clear hl hv hz hC hm he hF h ha g1
    go_enter Try.func47, Try.ntmps47
    go_wp2_with fail
    go_ret
    exact ⟨by rfl, Below.refl _ _⟩
  · have d1 : (a < 0) = False := eq_false g1
    have d2 : decide (a < 0) = false := decide_eq_false g1
    have d3 : 0 ≤ a := by omega
    have w1 : wrap64 (a / 4 * 4) = a / 4 * 4 := by unfold wrap64; omega
    have t1 : Int.tdiv a 4 = a / 4 := Int.tdiv_eq_ediv_of_nonneg d3
    rw [if_neg g1]
    simp only [Bool.false_eq_true, if_false] at hl
    rw [hv] at hl
    generalize cellK zs (a / 4 * 4) = r at hl ⊢
    clear hv hz hC hm he hF h g1
    go_enter Try.func47, Try.ntmps47
    go_wp2_with fail
    go_ret
    exact ⟨by rfl, Below.refl _ _⟩
set_option maxRecDepth 100000 in
set_option maxHeartbeats 2000000 in
theorem Fits_calls {z m : Nat} {zs : List S82} {w : World} (h : ZR z m zs w) (k v : Int) :
    Calls Try.prog 49 #[.pointer (some ⟨z, 0, none⟩), .int .i64 k, .int .i64 v] w fun e w' => e = .returned (.bool (fitsZ zs k v)) ∧ Below w.heap.size w w' := by
  have H := Aside0.mk h
  clear h
  obtain ⟨W, hWe⟩ : ∃ W, w.alloc (.cells #[.int .i64 v] 3) = W := ⟨_, rfl⟩
  have hW := Aside0.mk (show Sat w W [ABlk w.heap.size (.cells #[.int .i64 v] 3 (0, 0))] from by rw [← hWe]; exact blk_new (Sat.start w) _)
  obtain ⟨A, c, hz, hC⟩ := (H.out.below hW.out.toBelow).row
  have x0 : W.cell? ⟨z, 0, none⟩ = some (.slice A zs.length c) := get_cell hz 0
  have x1 : W.cell? ⟨w.heap.size, 0, none⟩ = some (.int .i64 v) := get_cell (blk_at hW.out) 0
  have HT := Aside0.mk (Contains1_calls 89 _ _ A c zs W hC H.out.few (tells_fit x1))
  have HR := Aside0.mk (CanRun_calls (H.out.below hW.out.toBelow) v)
  clear hz hC
  unfold fitsZ
  by_cases k0 : k = 0
  · subst k0
    rw [if_pos rfl]
    go_enter Try.func49, Try.ntmps49
    go_wp2_with fail
    go_ret
    exact ⟨by rfl, by first | exact hW.out.toBelow | (rw [hWe]; exact hW.out.toBelow) | (rw [← hWe]; exact hWe ▸ hW.out.toBelow)⟩
  have e0 : (k == 0) = false := by simpa using k0
  have f0 : (k = 0) = False := eq_false k0
  rw [if_neg k0]
  by_cases k1 : k = 1
  · subst k1
    rw [if_pos rfl]
    clear k0
    by_cases v0 : v = 0
    · subst v0
      rw [show decide ((0 : Int) = 0) = true from rfl]
      clear HT HR
      go_enter Try.func49, Try.ntmps49
      go_upto_region 4 with fail
      try rw [hWe]
      clear hWe
      go_wp2_with fail
      go_ret
      exact ⟨by simp, hW.out.toBelow⟩
    · have d1 : decide (v = 0) = false := decide_eq_false v0
      have d2 : (v == 0) = false := by simpa using v0
      have d3 : (v = 0) = False := eq_false v0
      rw [d1, Bool.false_or]
      clear HR v0
      go_enter Try.func49, Try.ntmps49
      go_upto_region 4 with fail
      try rw [hWe]
      clear hWe
      go_wp2_with fail
      (with_reducible refine HT.out.mono ?_)
      rintro e6 w6 ⟨rfl, hb6⟩
      have HB6 := Aside0.mk (hW.out.below hb6)
      clear hb6
      go_wp2_with fail
      go_ret
      exact ⟨by rfl, HB6.out.toBelow⟩
  have e1 : (k == 1) = false := by simpa using k1
  have f1 : (k = 1) = False := eq_false k1
  rw [if_neg k1]
  by_cases k2 : k = 2
  · subst k2
    have d0 : decide ((2 : Int) = 2) = true := rfl
    rw [d0, Bool.true_and]
    clear k0 k1 d0
    by_cases v0 : v = 0
    · subst v0
      rw [show decide ((0 : Int) = 0) = true from rfl]
      clear HT HR
      go_enter Try.func49, Try.ntmps49
      go_upto_region 5 with fail
      try rw [hWe]
      clear hWe
      go_wp2_with fail
      go_ret
      exact ⟨by simp, hW.out.toBelow⟩
    · have d1 : decide (v = 0) = false := decide_eq_false v0
      have d2 : (v == 0) = false := by simpa using v0
      have d3 : (v = 0) = False := eq_false v0
      rw [d1, Bool.false_or]
      clear HT v0
      go_enter Try.func49, Try.ntmps49
      go_upto_region 5 with fail
      try rw [hWe]
      clear hWe
      go_wp2_with fail
      (with_reducible refine HR.out.mono ?_)
      rintro e6 w6 ⟨rfl, hb6⟩
      have HB6 := Aside0.mk (hW.out.below hb6)
      clear hb6
      go_wp2_with fail
      go_ret
      exact ⟨by rfl, HB6.out.toBelow⟩
  · have e2 : (k == 2) = false := by simpa using k2
    have f2 : (k = 2) = False := eq_false k2
    have d0 : decide (k = 2) = false := decide_eq_false k2
    rw [d0, Bool.false_and]
    clear HT HR k0 k1 k2 d0
    go_enter Try.func49, Try.ntmps49
    go_upto_region 5 with fail
    try rw [hWe]
    clear hWe
    go_wp2_with fail
    go_ret
    exact ⟨by rfl, by first | exact hW.out.toBelow | (rw [hWe]; exact hW.out.toBelow) | (rw [← hWe]; exact hWe ▸ hW.out.toBelow)⟩
end Go.Proofs.Ytkeijpngfnmjoaa.MineZone
