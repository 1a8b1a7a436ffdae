/- Plans: where all parts of an object are. Conditions: its lengths are small. -/
import Derived.Test.YtnflalbiffamdaaMineObj
namespace Go.Proofs.Ytnflalbiffamdaa.MineObj
open Go.RowKit Go.MapKept Go.Proofs.YtnflalbiffamdaaW.PrintWords Go.Proofs.YtnflalbiffamdaaW.PrintLast Go.Proofs.YtnflalbiffamdaaW.PrintMore Go.Proofs.Ytnflalbiffamdaa.MineBase Go.Proofs.Ytnflalbiffamdaa.MineSep Go.Proofs.Ytnflalbiffamdaa.MineRows Go.Proofs.Ytnflalbiffamdaa.MineGen Go.Proofs.Ytnflalbiffamdaa.QCheckTells
attribute [local go_sem] max2_int min2_int max_two min_two
attribute [local go_sem ↓] Go.wp_at_zero Go.wp_at_succ
set_option linter.unusedVariables false
set_option linter.unusedSimpArgs false
theorem size_alloc (W : World) (o : Obj) : (W.alloc o).heap.size = W.heap.size + 1 := by simp only [World.alloc, Array.size_push]
theorem after_alloc {W w6 : World} {o : Obj} (hb : Below (W.alloc o).drew.heap.size (W.alloc o).drew w6) : w6.heap[W.heap.size]? = some o :=
  get_below (w := (W.alloc o).drew) (g := W.heap.size) (show blk (W.alloc o).drew W.heap.size = some o from (MapKept.heap_alloc W o).1) hb
theorem after_alloc2 {W w6 : World} {o p : Obj} (hb : Below ((W.alloc o).alloc p).drew.heap.size ((W.alloc o).alloc p).drew w6) : w6.heap[W.heap.size]? = some o ∧ w6.heap[W.heap.size + 1]? = some p := by
  constructor
  · refine get_below (w := ((W.alloc o).alloc p).drew) (g := W.heap.size) (show blk _ W.heap.size = some o from ?_) hb
    have h := (MapKept.heap_alloc W o).1
    exact get_below (w := W.alloc o) (show blk (W.alloc o) W.heap.size = some o from h) (w1 := (W.alloc o).alloc p) (below_alloc (Below.refl _ _) p)
  · refine get_below (w := ((W.alloc o).alloc p).drew) (g := W.heap.size + 1) (show blk _ (W.heap.size + 1) = some p from ?_) hb
    have h := (MapKept.heap_alloc (W.alloc o) p).1
    rw [size_alloc] at h
    exact h
theorem blk_new2 {w0 W : World} {l : List Asn} (h : Sat w0 W l) (o1 o2 : Obj) : Sat w0 ((W.alloc o1).alloc o2) (ABlk (W.heap.size + 1) o2 :: ABlk W.heap.size o1 :: l) := by
  have h := blk_new (blk_new h o1) o2
  rw [size_alloc] at h
  exact h
theorem blk_new3 {w0 W : World} {l : List Asn} (h : Sat w0 W l) (o1 o2 o3 : Obj) : Sat w0 (((W.alloc o1).alloc o2).alloc o3) (ABlk (W.heap.size + 2) o3 :: ABlk (W.heap.size + 1) o2 :: ABlk W.heap.size o1 :: l) := by
  have h := blk_new (blk_new2 h o1 o2) o3
  rw [size_alloc, size_alloc] at h
  exact h
/-- A plan's four places. -/
def dataP (o : Ob) : Int := if 0 ≤ o.data then o.data else 0
def textP (o : Ob) : Int := (o.text.size + 3) / 4 * 4
set_option maxRecDepth 100000 in
set_option maxHeartbeats 4000000 in
theorem Of_calls (o : Ob) (a : Oa) (w : World) (n2 n3 n6 n7 n8 n9 n10 : Nat) (h3 : n3 ≤ 1000) (h6 : n6 ≤ 2000) (hd : o.data ≤ 100000) (ht : o.text.size ≤ 1000) (D T : Int) (hD : D = dataP o) (hT : T = textP o) :
    Calls Try.prog 16 #[.agg #[.string o.nm, .int .u32 o.key, .slice a.A2 n2 a.c2, .slice a.A3 n3 a.c3, .int .i64 o.data, .string o.text, .slice a.A6 n6 a.c6, .slice a.A7 n7 a.c7, .slice a.A8 n8 a.c8, .slice a.A9 n9 a.c9, .slice a.A10 n10 a.c10, .int .i64 o.x0, .int .i64 o.x1, .int .i64 o.x2, .int .i64 o.body]] w fun e w' => e = .returned (.agg #[.int .i64 (4 * D), .int .i64 (4 * D + 16 * n3), .int .i64 (4 * D + 16 * n3 + T), .int .i64 (4 * D + 16 * n3 + T + 4 * n6)]) ∧ Below w.heap.size w w' := by
  have hmx : mx o.data 0 = D := by rw [hD]; unfold mx dataP; (repeat' split) <;> omega
  have d0 : 0 ≤ D := by rw [hD]; unfold dataP; split <;> omega
  have d1 : D ≤ 100000 := by rw [hD]; unfold dataP; split <;> omega
  have hq : Int.tdiv ((o.text.size : Int) + 4 - 1) 4 * 4 = T := by rw [hT, Int.tdiv_eq_ediv_of_nonneg (by omega)]; unfold textP; omega
  have hq' : ((o.text.size : Int) + 4 - 1) / 4 * 4 = T := by rw [hT]; unfold textP; omega
  have hq2 : ((o.text.size : Int) + 3) / 4 * 4 = T := by rw [hT]; unfold textP; omega
  have t0 : 0 ≤ T := by rw [hT]; unfold textP; omega
  have t1 : T ≤ 2000 := by rw [hT]; unfold textP; omega
  have ht2 : (o.text.size : Int) ≤ 1000 := by omega
  have h32 : (n3 : Int) ≤ 1000 := by omega
  have h62 : (n6 : Int) ≤ 2000 := by omega
  clear hD hT hd
  have hu31 := Try.underlying31
  have hu35 := Try.underlying35
  have hmx1 : (if o.data < 0 then 0 else o.data) = D := by rw [← hmx]; unfold mx; (repeat' split) <;> omega
  have w1 : wrap64 (4 * D) = 4 * D := by unfold wrap64; omega
  have w2 : wrap64 (16 * (n3 : Int)) = 16 * (n3 : Int) := by unfold wrap64; omega
  have w3 : wrap64 (4 * D + 16 * (n3 : Int)) = 4 * D + 16 * (n3 : Int) := by unfold wrap64; omega
  have w4 : wrap64 (4 * D + 16 * (n3 : Int) + T) = 4 * D + 16 * (n3 : Int) + T := by unfold wrap64; omega
  have w5 : wrap64 (4 * (n6 : Int)) = 4 * (n6 : Int) := by unfold wrap64; omega
  have w6 : wrap64 (4 * D + 16 * (n3 : Int) + T + 4 * (n6 : Int)) = 4 * D + 16 * (n3 : Int) + T + 4 * (n6 : Int) := by unfold wrap64; omega
  clear hmx
  go_enter Try.func16, Try.ntmps16
  go_wp2_with fail
  exact bodyPost_ret (v := .agg _) (results_cell_row rfl _ _ (w.heap.size + 1) 35 _ (0, 0) _ rfl (blk_at (blk_new3 (Sat.start w) _ _ _).drop) Try.underlying35 rfl (by kernel_rfl)) rfl ⟨by rfl, (blk_new3 (Sat.start w) _ _ _).toBelow⟩
/-- Where an export is. -/
def expP (o : Ob) (x : S43) : Int := if x.f0 = 0 then 4 * dataP o + 16 * o.typs.length + textP o + 4 * x.f1 else if x.f0 = 1 then 4 * x.f1 else 4 * dataP o + 16 * x.f1
set_option maxRecDepth 100000 in
set_option maxHeartbeats 4000000 in
theorem Export_calls (o : Ob) (a : Oa) (w : World) (n2 n3 n6 n7 n8 n9 n10 : Nat) (e8 : n8 = o.exps.length) (hO : ObR o a w) (h3 : n3 ≤ 1000) (h6 : n6 ≤ 2000) (hd : o.data ≤ 100000) (ht : o.text.size ≤ 1000) (D T : Int) (hD : D = dataP o) (hT : T = textP o) (i : Nat) (x : S43) (hx : o.exps[i]? = some x) (hx1 : 0 ≤ x.f1) (hx2 : x.f1 ≤ 100000) (r : Int) (hr : r = if x.f0 = 0 then 4 * D + 16 * n3 + T + 4 * x.f1 else if x.f0 = 1 then 4 * x.f1 else 4 * D + 16 * x.f1) (hk : x.f0 = 0 ∨ x.f0 = 1 ∨ x.f0 = 2) :
    Calls Try.prog 18 #[.agg #[.string o.nm, .int .u32 o.key, .slice a.A2 n2 a.c2, .slice a.A3 n3 a.c3, .int .i64 o.data, .string o.text, .slice a.A6 n6 a.c6, .slice a.A7 n7 a.c7, .slice a.A8 n8 a.c8, .slice a.A9 n9 a.c9, .slice a.A10 n10 a.c10, .int .i64 o.x0, .int .i64 o.x1, .int .i64 o.x2, .int .i64 o.body], .int .i64 i] w fun e w' => e = .returned (.tuple #[.int .i64 r, .bool true]) ∧ Below w.heap.size w w' := by
  have d0 : 0 ≤ D := by rw [hD]; unfold dataP; split <;> omega
  have d1 : D ≤ 100000 := by rw [hD]; unfold dataP; split <;> omega
  have t0 : 0 ≤ T := by rw [hT]; unfold textP; omega
  have t1 : T ≤ 2000 := by rw [hT]; unfold textP; omega
  have hil : i < n8 := by rw [e8]; exact (List.getElem?_eq_some_iff.1 hx).1
  have hn8 : n8 ≤ 9223372036854775807 := by rw [e8]; exact (hO.r8).2.1
  obtain ⟨ad, eA, y0, y1⟩ := at_T43 hO.r8 (i : Int) (by omega) (by omega)
  have ev : rd_T43 o.exps (i : Int) = x := by
    have hl := (List.getElem?_eq_some_iff.1 hx).1
    have := (List.getElem?_eq_some_iff.1 hx).2
    simp [rd_T43, hl, this]
  rw [ev] at y0 y1
  simp only [Int.toNat_natCast] at y0 y1
  obtain ⟨b0, b1⟩ := x
  simp only at y0 y1 hr hk hx1 hx2
  rw [eA]
  have HQ := Aside0.mk (fun w => Of_calls o a w n2 n3 n6 n7 n8 n9 n10 h3 h6 hd ht D T hD hT)
  rw [eA] at HQ
  have hu31 := Try.underlying31
  have hu35 := Try.underlying35
  have hu43 := Try.underlying43
  have q1 : (i < n8) = True := eq_true hil
  have q2 : 0 ≤ (i : Int) := by omega
  have q3 : ((n8 : Nat) : Int) ≤ (i : Int) ↔ False := ⟨fun h => by omega, False.elim⟩
  have q4 : (n8 ≤ i) = False := eq_false (by omega)
  have HB := Aside0.mk (And.intro hr hk)
  have HN := Aside0.mk hil
  have HL := Aside0.mk h3
  clear hD hT hd ht h3 h6 hO eA ev hx e8 hil hr hk hn8
  go_enter Try.func18, Try.ntmps18
  go_upto_region 3 with fail
  obtain ⟨g, hg⟩ : ∃ g, w.heap.size = g := ⟨_, rfl⟩
  have HW := Aside0.mk (blk_new (Sat.start w) (.cells #[.string o.nm, .int .u32 o.key, .slice a.A2 n2 a.c2, .slice a.A3 n3 a.c3, .int .i64 o.data, .string o.text, .slice a.A6 n6 a.c6, .slice a.A7 n7 a.c7, .slice (some ad) n8 a.c8, .slice a.A9 n9 a.c9, .slice a.A10 n10 a.c10, .int .i64 o.x0, .int .i64 o.x1, .int .i64 o.x2, .int .i64 o.body] 31))
  rw [hg] at HW ⊢
  generalize w.alloc (.cells #[.string o.nm, .int .u32 o.key, .slice a.A2 n2 a.c2, .slice a.A3 n3 a.c3, .int .i64 o.data, .string o.text, .slice a.A6 n6 a.c6, .slice a.A7 n7 a.c7, .slice (some ad) n8 a.c8, .slice a.A9 n9 a.c9, .slice a.A10 n10 a.c10, .int .i64 o.x0, .int .i64 o.x1, .int .i64 o.x2, .int .i64 o.body] 31) = W at HW ⊢
  have HS : ∀ w', Below W.heap.size W w' → (w'.cell? ⟨g, 0, none⟩ = some (.string o.nm) ∧ w'.cell? ⟨g, 1, none⟩ = some (.int .u32 o.key) ∧ w'.cell? ⟨g, 2, none⟩ = some (.slice a.A2 n2 a.c2) ∧ w'.cell? ⟨g, 3, none⟩ = some (.slice a.A3 n3 a.c3) ∧ w'.cell? ⟨g, 4, none⟩ = some (.int .i64 o.data) ∧ w'.cell? ⟨g, 5, none⟩ = some (.string o.text) ∧ w'.cell? ⟨g, 6, none⟩ = some (.slice a.A6 n6 a.c6) ∧ w'.cell? ⟨g, 7, none⟩ = some (.slice a.A7 n7 a.c7) ∧ w'.cell? ⟨g, 8, none⟩ = some (.slice (some ad) n8 a.c8) ∧ w'.cell? ⟨g, 9, none⟩ = some (.slice a.A9 n9 a.c9) ∧ w'.cell? ⟨g, 10, none⟩ = some (.slice a.A10 n10 a.c10) ∧ w'.cell? ⟨g, 11, none⟩ = some (.int .i64 o.x0) ∧ w'.cell? ⟨g, 12, none⟩ = some (.int .i64 o.x1) ∧ w'.cell? ⟨g, 13, none⟩ = some (.int .i64 o.x2) ∧ w'.cell? ⟨g, 14, none⟩ = some (.int .i64 o.body) ∧ w'.cell? (ad.add (i * 2)) = some (.int .i64 b0) ∧ w'.cell? ⟨(ad.add (i * 2)).block, (ad.add (i * 2)).off + 1, none⟩ = some (.int .i64 b1)) := fun w' hb => ⟨pw_cell_below hb (get_cell (blk_at HW.out) 0), pw_cell_below hb (get_cell (blk_at HW.out) 1), pw_cell_below hb (get_cell (blk_at HW.out) 2), pw_cell_below hb (get_cell (blk_at HW.out) 3), pw_cell_below hb (get_cell (blk_at HW.out) 4), pw_cell_below hb (get_cell (blk_at HW.out) 5), pw_cell_below hb (get_cell (blk_at HW.out) 6), pw_cell_below hb (get_cell (blk_at HW.out) 7), pw_cell_below hb (get_cell (blk_at HW.out) 8), pw_cell_below hb (get_cell (blk_at HW.out) 9), pw_cell_below hb (get_cell (blk_at HW.out) 10), pw_cell_below hb (get_cell (blk_at HW.out) 11), pw_cell_below hb (get_cell (blk_at HW.out) 12), pw_cell_below hb (get_cell (blk_at HW.out) 13), pw_cell_below hb (get_cell (blk_at HW.out) 14), pw_cell_below (below_then HW.out.toBelow HW.out.size hb) y0, pw_cell_below (below_then HW.out.toBelow HW.out.size hb) y1⟩
  replace HS := Aside0.mk HS
  clear y0 y1
  go_region_held3 (fun w' => w'.cell? ⟨g, 0, none⟩ = some (.string o.nm) ∧ w'.cell? ⟨g, 1, none⟩ = some (.int .u32 o.key) ∧ w'.cell? ⟨g, 2, none⟩ = some (.slice a.A2 n2 a.c2) ∧ w'.cell? ⟨g, 3, none⟩ = some (.slice a.A3 n3 a.c3) ∧ w'.cell? ⟨g, 4, none⟩ = some (.int .i64 o.data) ∧ w'.cell? ⟨g, 5, none⟩ = some (.string o.text) ∧ w'.cell? ⟨g, 6, none⟩ = some (.slice a.A6 n6 a.c6) ∧ w'.cell? ⟨g, 7, none⟩ = some (.slice a.A7 n7 a.c7) ∧ w'.cell? ⟨g, 8, none⟩ = some (.slice (some ad) n8 a.c8) ∧ w'.cell? ⟨g, 9, none⟩ = some (.slice a.A9 n9 a.c9) ∧ w'.cell? ⟨g, 10, none⟩ = some (.slice a.A10 n10 a.c10) ∧ w'.cell? ⟨g, 11, none⟩ = some (.int .i64 o.x0) ∧ w'.cell? ⟨g, 12, none⟩ = some (.int .i64 o.x1) ∧ w'.cell? ⟨g, 13, none⟩ = some (.int .i64 o.x2) ∧ w'.cell? ⟨g, 14, none⟩ = some (.int .i64 o.body) ∧ w'.cell? (ad.add (i * 2)) = some (.int .i64 b0) ∧ w'.cell? ⟨(ad.add (i * 2)).block, (ad.add (i * 2)).off + 1, none⟩ = some (.int .i64 b1)) ((refine HS.out _ ?_; repeat (with_reducible first | exact Below.refl _ _ | exact HB6.out | apply below_drew | apply below_alloc | apply pw_below_drewN | (refine Below.setCell ?_ (by first | exact Nat.le_refl _ | exact HB6.out.size | exact Nat.le_trans HB6.out.size (Nat.le_succ _) | exact Nat.le_succ _ | (have := HB6.out.size; simp only [size_alloc]; omega)) _)))) (first | ((with_reducible refine (HQ.out _).mono ?_); rintro e6 w6 ⟨rfl, hb6⟩; have HB6 := Aside0.mk (show Below W.heap.size W w6 from below_step (by repeat (with_reducible first | exact Below.refl _ _ | apply below_drew | apply below_alloc | apply pw_below_drewN)) hb6); first | (have h35 := (by with_reducible exact after_alloc hb6); have cc0 : w6.cell? ⟨W.heap.size, 0, none⟩ = some (.int .i64 0) := get_cell h35 0; have cf0 : w6.frozen? ⟨W.heap.size, 0, none⟩ = false := get_frozen h35 0; have cc1 : w6.cell? ⟨W.heap.size, 1, none⟩ = some (.int .i64 0) := get_cell h35 1; have cf1 : w6.frozen? ⟨W.heap.size, 1, none⟩ = false := get_frozen h35 1; have cc2 : w6.cell? ⟨W.heap.size, 2, none⟩ = some (.int .i64 0) := get_cell h35 2; have cf2 : w6.frozen? ⟨W.heap.size, 2, none⟩ = false := get_frozen h35 2; have cc3 : w6.cell? ⟨W.heap.size, 3, none⟩ = some (.int .i64 0) := get_cell h35 3; have cf3 : w6.frozen? ⟨W.heap.size, 3, none⟩ = false := get_frozen h35 3; have cs : W.heap.size < w6.heap.size := blk_lt h35; clear h35) | (have h35 := (by with_reducible exact after_alloc2 hb6); have h43 := h35.2; replace h35 := h35.1; have dc0 : w6.cell? ⟨W.heap.size, 0, none⟩ = some (.int .i64 0) := get_cell h35 0; have df0 : w6.frozen? ⟨W.heap.size, 0, none⟩ = false := get_frozen h35 0; have dc1 : w6.cell? ⟨W.heap.size, 1, none⟩ = some (.int .i64 0) := get_cell h35 1; have df1 : w6.frozen? ⟨W.heap.size, 1, none⟩ = false := get_frozen h35 1; have dc2 : w6.cell? ⟨W.heap.size, 2, none⟩ = some (.int .i64 0) := get_cell h35 2; have df2 : w6.frozen? ⟨W.heap.size, 2, none⟩ = false := get_frozen h35 2; have dc3 : w6.cell? ⟨W.heap.size, 3, none⟩ = some (.int .i64 0) := get_cell h35 3; have df3 : w6.frozen? ⟨W.heap.size, 3, none⟩ = false := get_frozen h35 3; have ds : W.heap.size < w6.heap.size := blk_lt h35; have ec0 : w6.cell? ⟨W.heap.size + 1, 0, none⟩ = some (.int .i64 0) := get_cell h43 0; have ef0 : w6.frozen? ⟨W.heap.size + 1, 0, none⟩ = false := get_frozen h43 0; have ec1 : w6.cell? ⟨W.heap.size + 1, 1, none⟩ = some (.int .i64 0) := get_cell h43 1; have ef1 : w6.frozen? ⟨W.heap.size + 1, 1, none⟩ = false := get_frozen h43 1; have es : W.heap.size + 1 < w6.heap.size := blk_lt h43; clear h35 h43) | (have h35 := (by with_reducible exact after_alloc hb6); have kc0 : w6.cell? ⟨W.heap.size, 0, none⟩ = some (.int .i64 0) := get_cell h35 0; have kf0 : w6.frozen? ⟨W.heap.size, 0, none⟩ = false := get_frozen h35 0; have kc1 : w6.cell? ⟨W.heap.size, 1, none⟩ = some (.int .i64 0) := get_cell h35 1; have kf1 : w6.frozen? ⟨W.heap.size, 1, none⟩ = false := get_frozen h35 1; have ks : W.heap.size < w6.heap.size := blk_lt h35; clear h35) | (have h35 := (by with_reducible exact after_alloc2 hb6); have h43 := h35.2; replace h35 := h35.1; have lc0 : w6.cell? ⟨W.heap.size, 0, none⟩ = some (.int .i64 0) := get_cell h35 0; have lf0 : w6.frozen? ⟨W.heap.size, 0, none⟩ = false := get_frozen h35 0; have lc1 : w6.cell? ⟨W.heap.size, 1, none⟩ = some (.int .i64 0) := get_cell h35 1; have lf1 : w6.frozen? ⟨W.heap.size, 1, none⟩ = false := get_frozen h35 1; have ls : W.heap.size < w6.heap.size := blk_lt h35; have mc0 : w6.cell? ⟨W.heap.size + 1, 0, none⟩ = some (.int .i64 0) := get_cell h43 0; have mf0 : w6.frozen? ⟨W.heap.size + 1, 0, none⟩ = false := get_frozen h43 0; have mc1 : w6.cell? ⟨W.heap.size + 1, 1, none⟩ = some (.int .i64 0) := get_cell h43 1; have mf1 : w6.frozen? ⟨W.heap.size + 1, 1, none⟩ = false := get_frozen h43 1; have mc2 : w6.cell? ⟨W.heap.size + 1, 2, none⟩ = some (.int .i64 0) := get_cell h43 2; have mf2 : w6.frozen? ⟨W.heap.size + 1, 2, none⟩ = false := get_frozen h43 2; have mc3 : w6.cell? ⟨W.heap.size + 1, 3, none⟩ = some (.int .i64 0) := get_cell h43 3; have mf3 : w6.frozen? ⟨W.heap.size + 1, 3, none⟩ = false := get_frozen h43 3; have ms : W.heap.size + 1 < w6.heap.size := blk_lt h43; clear h35 h43) | skip; clear hb6) | fail)
  all_goals (
    rcases HB.out.2 with h0 | h0 | h0
    · have hr0 : r = 4 * D + 16 * n3 + T + 4 * b1 := by rw [HB.out.1, if_pos h0]
      have w1 : wrap64 (4 * b1) = 4 * b1 := by unfold wrap64; omega
      have h32 : (n3 : Int) ≤ 1000 := by have := HL.out; omega
      have w2 : wrap64 (4 * D + 16 * (n3 : Int) + T + 4 * b1) = 4 * D + 16 * (n3 : Int) + T + 4 * b1 := by have := HL.out; unfold wrap64; omega
      clear HB
      subst hr0 h0
      go_wp2_with fail
      go_ret2
      exact ⟨by first | rfl | (trace_state; fail), by refine below_step HW.out.toBelow ?_; repeat (with_reducible first | exact Below.refl _ _ | exact HB6.out | apply below_drew | apply below_alloc | (refine Below.setCell ?_ (by first | exact Nat.le_refl _ | exact HB6.out.size | exact Nat.le_trans HB6.out.size (Nat.le_succ _) | exact Nat.le_succ _ | (have := HB6.out.size; simp only [size_alloc]; omega)) _))⟩
    · have hr0 : r = 4 * b1 := by rw [HB.out.1, if_neg (by omega), if_pos h0]
      have w1 : wrap64 (4 * b1) = 4 * b1 := by unfold wrap64; omega
      clear HB
      subst hr0 h0
      go_wp2_with fail
      go_ret2
      exact ⟨by first | rfl | (trace_state; fail), by refine below_step HW.out.toBelow ?_; repeat (with_reducible first | exact Below.refl _ _ | exact HB6.out | apply below_drew | apply below_alloc | (refine Below.setCell ?_ (by first | exact Nat.le_refl _ | exact HB6.out.size | exact Nat.le_trans HB6.out.size (Nat.le_succ _) | exact Nat.le_succ _ | (have := HB6.out.size; simp only [size_alloc]; omega)) _))⟩
    · have hr0 : r = 4 * D + 16 * b1 := by rw [HB.out.1, if_neg (by omega), if_neg (by omega)]
      have w1 : wrap64 (16 * b1) = 16 * b1 := by unfold wrap64; omega
      have w2 : wrap64 (4 * D + 16 * b1) = 4 * D + 16 * b1 := by unfold wrap64; omega
      clear HB
      subst hr0 h0
      go_wp2_with fail
      go_ret2
      exact ⟨by first | rfl | (trace_state; fail), by refine below_step HW.out.toBelow ?_; repeat (with_reducible first | exact Below.refl _ _ | exact HB6.out | apply below_drew | apply below_alloc | (refine Below.setCell ?_ (by first | exact Nat.le_refl _ | exact HB6.out.size | exact Nat.le_trans HB6.out.size (Nat.le_succ _) | exact Nat.le_succ _ | (have := HB6.out.size; simp only [size_alloc]; omega)) _))⟩)
end Go.Proofs.Ytnflalbiffamdaa.MineObj
