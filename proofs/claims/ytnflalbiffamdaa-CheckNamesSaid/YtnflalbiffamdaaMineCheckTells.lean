/- Chains of an object: CheckTells' walk: the program's answers are the document's. Condition: the numbers are such as Go hands over. -/
import Derived.Test.YtnflalbiffamdaaMineUp14
namespace Go.Proofs.Ytnflalbiffamdaa.MineObj
open Go.RowKit Go.MapKept Go.Proofs.YtnflalbiffamdaaW.PrintWords Go.Proofs.YtnflalbiffamdaaW.PrintLast Go.Proofs.YtnflalbiffamdaaW.PrintMore Go.Proofs.Ytnflalbiffamdaa.MineBase Go.Proofs.Ytnflalbiffamdaa.MineSep Go.Proofs.Ytnflalbiffamdaa.MineRows Go.Proofs.Ytnflalbiffamdaa.MineGen Go.Proofs.Ytnflalbiffamdaa.MineName Go.Proofs.Ytnflalbiffamdaa.MineMap Go.Proofs.Ytnflalbiffamdaa.QCheckTells Go.Proofs.Ytnflalbiffamdaa.QCheckTellsPlain Go.Proofs.Ytnflalbiffamdaa.PureChain
attribute [local go_sem] Go.Proofs.Ytnflalbiffamdaa.MineErr.eql_err Go.Proofs.Ytnflalbiffamdaa.MineErr.neq_err Go.Proofs.Ytnflalbiffamdaa.MineErr.eql_nil_err Go.Proofs.Ytnflalbiffamdaa.MineErr.neq_nil_err
attribute [local go_sem ↓] Go.wp_at_zero Go.wp_at_succ
set_option linter.unusedVariables false
set_option linter.unusedSimpArgs false
theorem hold_append : ∀ {L : List Asn} {l : List Asn} {W : World} {E F G : Nat → Prop}, Hold L W E → Hold l W F → (∀ k, E k → G k) → (∀ k, F k → G k) → (∀ k, F k → ¬ E k) → Hold (L ++ l) W G
  | [], l, W, E, F, G, _, h2, _, hF, _ => Hold.mono hF h2
  | A :: L, l, W, E, F, G, ⟨D1, h1, h2, h3⟩, h4, hE, hF, hd =>
    ⟨D1, h1, fun k hk => hE k (h2 k hk), hold_append h3 h4 (fun k hk => ⟨hE k hk.1, hk.2⟩) (fun k hk => ⟨hF k hk, fun h => hd k hk (h2 k h)⟩) (fun k hk h => hd k hk h.1)⟩
theorem sat_join {w W w1 : World} {l L : List Asn} (h : Sat w W l) (hs : Sat W w1 L) : Sat w w1 (L ++ l) := by
  have h1 := h.below hs.toBelow
  have hsz := h.size
  refine ⟨h1.toBelow, hold_append hs.2 (Hold.move (fun k hk => hs.toBelow.block k hk.2) h.2) (fun k hk => ⟨Nat.le_trans hsz hk.1, hk.2⟩) (fun k hk => ⟨hk.1, Nat.lt_of_lt_of_le hk.2 hs.toBelow.size⟩) (fun k hk hk2 => ?_)⟩
  have := hk.2; have := hk2.1; omega
theorem chains_lens {o : Ob} {ls : List (List Rf)} (h : refsF o = some ls) : ∀ l ∈ ls, l.length ≤ 1000 := by
  have key : ∀ (ws : List Nat) (S : List Int) (ls : List (List Rf)), chainsFrom o ws S = some ls → ∀ l ∈ ls, l.length ≤ 1000 := by
    intro ws
    induction ws with
    | nil => intro S ls h l hl; injection h with h; subst h; simp at hl
    | cons w ws ih =>
      intro S ls h l hl
      unfold chainsFrom at h
      split at h
      · cases h
      · rename_i x hx
        split at h
        · cases h
        · obtain ⟨y, hy, e⟩ := Option.map_eq_some_iff.1 h
          rw [← e] at hl
          rcases List.mem_cons.1 hl with rfl | hl
          · exact (walkW_in hx).1
          · exact ih _ _ hy l hl
  rcases Classical.em (NamesOk o ∧ PartsOk o) with h1 | h1
  · rw [refs_some h1] at h; exact key _ _ _ h
  · rw [refs_none h1] at h; cases h
theorem same_calls (l : List Rf) (hl : l.length ≤ 1000) (A B : Option Addr) (n c c' : Nat) (hn : l.length = n) (w : World) (h1 : Kd.C k118 w A (l.map p18).length (l.map p18)) (h2 : (l.map p18).length ≤ c) (h3 : Kd.C k117 w B (l.map p17).length (l.map p17)) (h4 : (l.map p17).length ≤ c') :
    Calls Try.prog 22 #[.slice A n c, .slice B n c'] w fun e w' => e = .returned (.int .i64 1) ∧ Drawn0 w w' := by
  subst hn
  have h := dowellaw13_Same.calls 2000 A c (l.map p18) B c' (l.map p17) 1 w h1 h2 h3 h4 (same_val l hl 2000 (by omega))
  rw [List.length_map, List.length_map] at h
  exact h
theorem raw_at {W : World} {A : Option Addr} {n : Nat} {vs : List Value} (h : (Kd.raw 1).C W A n (vs.map fun x => [x])) {k : Nat} {v : Value} (hv : vs[k]? = some v) : ∃ ad, A = some ad ∧ W.cell? (ad.add k) = some v := by
  have hl := (List.getElem?_eq_some_iff.1 hv).1
  obtain ⟨ad, e, hc⟩ := h.2.2 (by have h1 := h.1; rw [List.length_map] at h1; omega)
  obtain ⟨cs, hs, hK, hcell⟩ := hc k [v] (by rw [List.getElem?_map, hv]; rfl)
  obtain ⟨rfl, _⟩ := hK
  have h3 := hcell 0 v rfl
  refine ⟨ad, e, ?_⟩
  simpa [show (Kd.raw 1).sz = 1 from rfl] using h3
theorem arr_get {vs : List Value} (h : vs.length = 3) {k : Nat} {v : Value} (hv : vs[k]? = some v) : (arrV vs)[k]? = some v := by
  obtain ⟨a, b, c, rfl⟩ := three_of h
  rw [arr_some]
  simpa using hv

set_option maxRecDepth 100000 in
set_option maxHeartbeats 8000000 in
theorem CheckTells_calls (o : Ob) (a : Oa) (w : World) (n2 n3 n6 n7 n8 n9 n10 : Nat) (e2 : n2 = o.imps.length) (e3 : n3 = o.typs.length) (e6 : n6 = o.code.length) (e7 : n7 = o.cmds.length) (e8 : n8 = o.exps.length) (e9 : n9 = o.ptrs.length) (e10 : n10 = o.procs.length) (hO : ObR o a w) (hS : Sane o) (wh kd : Int) :
    Calls Try.prog 10 #[.agg #[.string o.nm, .int .u32 o.key, .slice a.A2 n2 a.c2, .slice a.A3 n3 a.c3, .int .i64 o.data, .string o.text, .slice a.A6 n6 a.c6, .slice a.A7 n7 a.c7, .slice a.A8 n8 a.c8, .slice a.A9 n9 a.c9, .slice a.A10 n10 a.c10, .int .i64 o.x0, .int .i64 o.x1, .int .i64 o.x2, .int .i64 o.body], .int .i64 wh, .int .i64 kd] w fun e w' => e = .returned (.bool true) ∧ Below w.heap.size w w' := by
  obtain ⟨fv, hfv, hfew⟩ := fewN_calls o a w n2 n3 n6 n7 n8 n9 n10 e2 e3 e6 e7 e8 e9 e10 hO
  have HFEW := Aside0.mk hfew
  have HFV := Aside0.mk hfv
  have hr : True := trivial
  have HO := Aside0.mk hO
  have HR := Aside0.mk hr
  have HE := Aside0.mk (And.intro e2 (And.intro e3 (And.intro e6 (And.intro e7 (And.intro e8 (And.intro e9 e10))))))
  have hu31 := Try.underlying31
  have HS := Aside0.mk hS
  clear hO hr hS e2 e3 e6 e7 e8 e9 e10 hfew HR
  have hu86 := Try.underlying86
  obtain ⟨fb, hfb⟩ : ∃ fb, fitsB wh kd = fb := ⟨_, rfl⟩
  have HFB := Aside0.mk hfb
  clear hfb
  obtain ⟨r, hr⟩ : ∃ r, refsF o = r := ⟨_, rfl⟩
  have HR := Aside0.mk hr
  clear hr
  go_enter Try.func10, Try.ntmps10
  go_wp2_with fail
  have hW := Aside0.mk (blk_new (Sat.start w) (.cells #[.string o.nm, .int .u32 o.key, .slice a.A2 n2 a.c2, .slice a.A3 n3 a.c3, .int .i64 o.data, .string o.text, .slice a.A6 n6 a.c6, .slice a.A7 n7 a.c7, .slice a.A8 n8 a.c8, .slice a.A9 n9 a.c9, .slice a.A10 n10 a.c10, .int .i64 o.x0, .int .i64 o.x1, .int .i64 o.x2, .int .i64 o.body] 31))
  generalize w.alloc (.cells #[.string o.nm, .int .u32 o.key, .slice a.A2 n2 a.c2, .slice a.A3 n3 a.c3, .int .i64 o.data, .string o.text, .slice a.A6 n6 a.c6, .slice a.A7 n7 a.c7, .slice a.A8 n8 a.c8, .slice a.A9 n9 a.c9, .slice a.A10 n10 a.c10, .int .i64 o.x0, .int .i64 o.x1, .int .i64 o.x2, .int .i64 o.body] 31) = Wz at *
  (with_reducible refine (up_calls _).mono ?_)
  rintro e1 w1 ⟨rfl, hb1⟩
  have HW1 := Aside0.mk (hW.out.below hb1)
  clear hb1 hW
  have x0 : w1.cell? ⟨w.heap.size, 0, none⟩ = some (.string o.nm) := get_cell (blk_at HW1.out) 0
  have x1 : w1.cell? ⟨w.heap.size, 1, none⟩ = some (.int .u32 o.key) := get_cell (blk_at HW1.out) 1
  have x2 : w1.cell? ⟨w.heap.size, 2, none⟩ = some (.slice a.A2 n2 a.c2) := get_cell (blk_at HW1.out) 2
  have x3 : w1.cell? ⟨w.heap.size, 3, none⟩ = some (.slice a.A3 n3 a.c3) := get_cell (blk_at HW1.out) 3
  have x4 : w1.cell? ⟨w.heap.size, 4, none⟩ = some (.int .i64 o.data) := get_cell (blk_at HW1.out) 4
  have x5 : w1.cell? ⟨w.heap.size, 5, none⟩ = some (.string o.text) := get_cell (blk_at HW1.out) 5
  have x6 : w1.cell? ⟨w.heap.size, 6, none⟩ = some (.slice a.A6 n6 a.c6) := get_cell (blk_at HW1.out) 6
  have x7 : w1.cell? ⟨w.heap.size, 7, none⟩ = some (.slice a.A7 n7 a.c7) := get_cell (blk_at HW1.out) 7
  have x8 : w1.cell? ⟨w.heap.size, 8, none⟩ = some (.slice a.A8 n8 a.c8) := get_cell (blk_at HW1.out) 8
  have x9 : w1.cell? ⟨w.heap.size, 9, none⟩ = some (.slice a.A9 n9 a.c9) := get_cell (blk_at HW1.out) 9
  have x10 : w1.cell? ⟨w.heap.size, 10, none⟩ = some (.slice a.A10 n10 a.c10) := get_cell (blk_at HW1.out) 10
  have x11 : w1.cell? ⟨w.heap.size, 11, none⟩ = some (.int .i64 o.x0) := get_cell (blk_at HW1.out) 11
  have x12 : w1.cell? ⟨w.heap.size, 12, none⟩ = some (.int .i64 o.x1) := get_cell (blk_at HW1.out) 12
  have x13 : w1.cell? ⟨w.heap.size, 13, none⟩ = some (.int .i64 o.x2) := get_cell (blk_at HW1.out) 13
  have x14 : w1.cell? ⟨w.heap.size, 14, none⟩ = some (.int .i64 o.body) := get_cell (blk_at HW1.out) 14
  go_wp2_with fail
  have hq := HFEW.out w1 (HO.out.sat HW1.out)
  (with_reducible refine hq.mono ?_)
  clear hq
  rintro e2 w2 ⟨rfl, hb2⟩
  have HW2 := Aside0.mk (HW1.out.below hb2)
  clear hb2 HW1 x0 x1 x2 x3 x4 x5 x6 x7 x8 x9 x10 x11 x12 x13 x14
  rcases hfv with rfl | ⟨rfl, hF⟩
  · go_wp2_with fail
    go_ret
    exact ⟨by rfl, HW2.out.toBelow⟩
  · have HF := Aside0.mk hF
    clear hF
    have x0 : w2.cell? ⟨w.heap.size, 0, none⟩ = some (.string o.nm) := get_cell (blk_at HW2.out) 0
    have x1 : w2.cell? ⟨w.heap.size, 1, none⟩ = some (.int .u32 o.key) := get_cell (blk_at HW2.out) 1
    have x2 : w2.cell? ⟨w.heap.size, 2, none⟩ = some (.slice a.A2 n2 a.c2) := get_cell (blk_at HW2.out) 2
    have x3 : w2.cell? ⟨w.heap.size, 3, none⟩ = some (.slice a.A3 n3 a.c3) := get_cell (blk_at HW2.out) 3
    have x4 : w2.cell? ⟨w.heap.size, 4, none⟩ = some (.int .i64 o.data) := get_cell (blk_at HW2.out) 4
    have x5 : w2.cell? ⟨w.heap.size, 5, none⟩ = some (.string o.text) := get_cell (blk_at HW2.out) 5
    have x6 : w2.cell? ⟨w.heap.size, 6, none⟩ = some (.slice a.A6 n6 a.c6) := get_cell (blk_at HW2.out) 6
    have x7 : w2.cell? ⟨w.heap.size, 7, none⟩ = some (.slice a.A7 n7 a.c7) := get_cell (blk_at HW2.out) 7
    have x8 : w2.cell? ⟨w.heap.size, 8, none⟩ = some (.slice a.A8 n8 a.c8) := get_cell (blk_at HW2.out) 8
    have x9 : w2.cell? ⟨w.heap.size, 9, none⟩ = some (.slice a.A9 n9 a.c9) := get_cell (blk_at HW2.out) 9
    have x10 : w2.cell? ⟨w.heap.size, 10, none⟩ = some (.slice a.A10 n10 a.c10) := get_cell (blk_at HW2.out) 10
    have x11 : w2.cell? ⟨w.heap.size, 11, none⟩ = some (.int .i64 o.x0) := get_cell (blk_at HW2.out) 11
    have x12 : w2.cell? ⟨w.heap.size, 12, none⟩ = some (.int .i64 o.x1) := get_cell (blk_at HW2.out) 12
    have x13 : w2.cell? ⟨w.heap.size, 13, none⟩ = some (.int .i64 o.x2) := get_cell (blk_at HW2.out) 13
    have x14 : w2.cell? ⟨w.heap.size, 14, none⟩ = some (.int .i64 o.body) := get_cell (blk_at HW2.out) 14
    go_wp2_with fail
    have hq := prefs_calls o a w2 n2 n3 n6 n7 n8 n9 n10 HE.out.1 HE.out.2.1 HE.out.2.2.1 HE.out.2.2.2.1 HE.out.2.2.2.2.1 HE.out.2.2.2.2.2.1 HE.out.2.2.2.2.2.2 (HO.out.sat HW2.out) HF.out HS.out r HR.out
    (with_reducible refine hq.mono ?_)
    clear hq
    rintro e3 w3 ⟨vs, rfl, hS3⟩
    have HS3 := Aside0.mk hS3
    have HVS := Aside0.mk (vs_cells (o := o) hS3 (show refsF o = r from HR.out))
    have HJ := Aside0.mk (sat_join HW2.out hS3)
    clear hS3
    have HX := Aside0.mk (blk_new HJ.out (.cells #[.slice none 0 0, .slice none 0 0, .slice none 0 0] 86))
    go_upto_region 5 with (refine wpList_store_row rfl 86 (.tmp 8) (.tmp 22) rfl w3.heap.size (arrV vs) rfl rfl 86 _ (blk_at HX.out) (by rw [HVS.out.1]; kernel_rfl) HVS.out.1.symm HVS.out.2 ?_; have HZ := Aside0.mk (blk_row (cs := arrV vs) HX.out))
    refine wp_abs (fun W => Sat w W [ABlk w3.heap.size (.cells (arrV vs) 86 (0, 0)), ASees k118 vs (List.map (fun x : List Rf => List.map p18 x) (r.getD [])), ABlk w.heap.size (.cells #[.string o.nm, .int .u32 o.key, .slice a.A2 n2 a.c2, .slice a.A3 n3 a.c3, .int .i64 o.data, .string o.text, .slice a.A6 n6 a.c6, .slice a.A7 n7 a.c7, .slice a.A8 n8 a.c8, .slice a.A9 n9 a.c9, .slice a.A10 n10 a.c10, .int .i64 o.x0, .int .i64 o.x1, .int .i64 o.x2, .int .i64 o.body] 31 (0, 0))]) HZ.out (fun W4 hW4 => ?_)
    generalize w3.heap.size = bp at hW4 ⊢
    replace hW4 := Aside0.mk hW4
    clear HX HZ HJ HS3 HW2 x0 x1 x2 x3 x4 x5 x6 x7 x8 x9 x10 x11 x12 x13 x14
    have x0 : W4.cell? ⟨w.heap.size, 0, none⟩ = some (.string o.nm) := get_cell (blk_at hW4.out.drop.drop) 0
    have x1 : W4.cell? ⟨w.heap.size, 1, none⟩ = some (.int .u32 o.key) := get_cell (blk_at hW4.out.drop.drop) 1
    have x2 : W4.cell? ⟨w.heap.size, 2, none⟩ = some (.slice a.A2 n2 a.c2) := get_cell (blk_at hW4.out.drop.drop) 2
    have x3 : W4.cell? ⟨w.heap.size, 3, none⟩ = some (.slice a.A3 n3 a.c3) := get_cell (blk_at hW4.out.drop.drop) 3
    have x4 : W4.cell? ⟨w.heap.size, 4, none⟩ = some (.int .i64 o.data) := get_cell (blk_at hW4.out.drop.drop) 4
    have x5 : W4.cell? ⟨w.heap.size, 5, none⟩ = some (.string o.text) := get_cell (blk_at hW4.out.drop.drop) 5
    have x6 : W4.cell? ⟨w.heap.size, 6, none⟩ = some (.slice a.A6 n6 a.c6) := get_cell (blk_at hW4.out.drop.drop) 6
    have x7 : W4.cell? ⟨w.heap.size, 7, none⟩ = some (.slice a.A7 n7 a.c7) := get_cell (blk_at hW4.out.drop.drop) 7
    have x8 : W4.cell? ⟨w.heap.size, 8, none⟩ = some (.slice a.A8 n8 a.c8) := get_cell (blk_at hW4.out.drop.drop) 8
    have x9 : W4.cell? ⟨w.heap.size, 9, none⟩ = some (.slice a.A9 n9 a.c9) := get_cell (blk_at hW4.out.drop.drop) 9
    have x10 : W4.cell? ⟨w.heap.size, 10, none⟩ = some (.slice a.A10 n10 a.c10) := get_cell (blk_at hW4.out.drop.drop) 10
    have x11 : W4.cell? ⟨w.heap.size, 11, none⟩ = some (.int .i64 o.x0) := get_cell (blk_at hW4.out.drop.drop) 11
    have x12 : W4.cell? ⟨w.heap.size, 12, none⟩ = some (.int .i64 o.x1) := get_cell (blk_at hW4.out.drop.drop) 12
    have x13 : W4.cell? ⟨w.heap.size, 13, none⟩ = some (.int .i64 o.x2) := get_cell (blk_at hW4.out.drop.drop) 13
    have x14 : W4.cell? ⟨w.heap.size, 14, none⟩ = some (.int .i64 o.body) := get_cell (blk_at hW4.out.drop.drop) 14
    go_wp2_with fail
    have hq := rrefs_calls o a W4 n2 n3 n6 n7 n8 n9 n10 HE.out.1 HE.out.2.1 HE.out.2.2.1 HE.out.2.2.2.1 HE.out.2.2.2.2.1 HE.out.2.2.2.2.2.1 HE.out.2.2.2.2.2.2 (HO.out.sat hW4.out) HF.out HS.out r HR.out
    (with_reducible refine hq.mono ?_)
    clear hq
    rintro e5 w5 ⟨vo, vs2, rfl, hS5, hb5⟩
    have HB5 := Aside0.mk (hW4.out.below hb5)
    have HS5 := Aside0.mk hS5
    clear hb5 hS5
    clear x0 x1 x2 x3 x4 x5 x6 x7 x8 x9 x10 x11 x12 x13 x14
    have x0 : w5.cell? ⟨w.heap.size, 0, none⟩ = some (.string o.nm) := get_cell (blk_at HB5.out.drop.drop) 0
    have x1 : w5.cell? ⟨w.heap.size, 1, none⟩ = some (.int .u32 o.key) := get_cell (blk_at HB5.out.drop.drop) 1
    have x2 : w5.cell? ⟨w.heap.size, 2, none⟩ = some (.slice a.A2 n2 a.c2) := get_cell (blk_at HB5.out.drop.drop) 2
    have x3 : w5.cell? ⟨w.heap.size, 3, none⟩ = some (.slice a.A3 n3 a.c3) := get_cell (blk_at HB5.out.drop.drop) 3
    have x4 : w5.cell? ⟨w.heap.size, 4, none⟩ = some (.int .i64 o.data) := get_cell (blk_at HB5.out.drop.drop) 4
    have x5 : w5.cell? ⟨w.heap.size, 5, none⟩ = some (.string o.text) := get_cell (blk_at HB5.out.drop.drop) 5
    have x6 : w5.cell? ⟨w.heap.size, 6, none⟩ = some (.slice a.A6 n6 a.c6) := get_cell (blk_at HB5.out.drop.drop) 6
    have x7 : w5.cell? ⟨w.heap.size, 7, none⟩ = some (.slice a.A7 n7 a.c7) := get_cell (blk_at HB5.out.drop.drop) 7
    have x8 : w5.cell? ⟨w.heap.size, 8, none⟩ = some (.slice a.A8 n8 a.c8) := get_cell (blk_at HB5.out.drop.drop) 8
    have x9 : w5.cell? ⟨w.heap.size, 9, none⟩ = some (.slice a.A9 n9 a.c9) := get_cell (blk_at HB5.out.drop.drop) 9
    have x10 : w5.cell? ⟨w.heap.size, 10, none⟩ = some (.slice a.A10 n10 a.c10) := get_cell (blk_at HB5.out.drop.drop) 10
    have x11 : w5.cell? ⟨w.heap.size, 11, none⟩ = some (.int .i64 o.x0) := get_cell (blk_at HB5.out.drop.drop) 11
    have x12 : w5.cell? ⟨w.heap.size, 12, none⟩ = some (.int .i64 o.x1) := get_cell (blk_at HB5.out.drop.drop) 12
    have x13 : w5.cell? ⟨w.heap.size, 13, none⟩ = some (.int .i64 o.x2) := get_cell (blk_at HB5.out.drop.drop) 13
    have x14 : w5.cell? ⟨w.heap.size, 14, none⟩ = some (.int .i64 o.body) := get_cell (blk_at HB5.out.drop.drop) 14
    cases r with
    | none =>
      go_wp2_with fail
      have hq := valid_calls o a w5 n2 n3 n6 n7 n8 n9 n10 HE.out.1 HE.out.2.1 HE.out.2.2.1 HE.out.2.2.2.1 HE.out.2.2.2.2.1 HE.out.2.2.2.2.2.1 HE.out.2.2.2.2.2.2 (HO.out.sat HB5.out) HF.out HS.out _ HR.out
      (with_reducible refine hq.mono ?_)
      clear hq
      rintro e6 w6 ⟨rfl, hb6⟩
      go_wp2_with fail
      (with_reducible refine (pfits_calls wh kd fb HFB.out _).mono ?_)
      rintro e7 w7 ⟨rfl, hd7⟩
      go_wp2_with fail
      (with_reducible refine (rfits_calls wh kd fb HFB.out _).mono ?_)
      rintro e8 w8 ⟨rfl, hd8⟩
      have HB8 := Aside0.mk (show Below w5.heap.size w5 w8 from below_step (below_step hb6 hd7.below) hd8.below)
      clear hb6 hd7 hd8 x0 x1 x2 x3 x4 x5 x6 x7 x8 x9 x10 x11 x12 x13 x14
      have HSS := Aside0.mk (show Sat w w8 [ABlk bp (.cells (arrV vs) 86 (0, 0)), ASees k118 vs [], ABlk w.heap.size (.cells #[.string o.nm, .int .u32 o.key, .slice a.A2 n2 a.c2, .slice a.A3 n3 a.c3, .int .i64 o.data, .string o.text, .slice a.A6 n6 a.c6, .slice a.A7 n7 a.c7, .slice a.A8 n8 a.c8, .slice a.A9 n9 a.c9, .slice a.A10 n10 a.c10, .int .i64 o.x0, .int .i64 o.x1, .int .i64 o.x2, .int .i64 o.body] 31 (0, 0))] from HB5.out.below HB8.out)
      clear HB5 HB8 hW4 HS5
      have hvs : vs = [] := List.length_eq_zero_iff.1 (sees_len HSS.out.swap)
      subst hvs
      cases fb with
      | false =>
        go_wp2_with fail
        go_loopg [12] 4 (fun kq v w' => ∃ k : Nat, v = .int .i64 k ∧ Aside0 (k ≤ 3 ∧ 3 - k < kq) ∧ Aside0 (Sat w w' [ABlk bp (.cells (arrV []) 86 (0, 0)), ASees k118 [] [], ABlk w.heap.size (.cells #[.string o.nm, .int .u32 o.key, .slice a.A2 n2 a.c2, .slice a.A3 n3 a.c3, .int .i64 o.data, .string o.text, .slice a.A6 n6 a.c6, .slice a.A7 n7 a.c7, .slice a.A8 n8 a.c8, .slice a.A9 n9 a.c9, .slice a.A10 n10 a.c10, .int .i64 o.x0, .int .i64 o.x1, .int .i64 o.x2, .int .i64 o.body] 31 (0, 0))]))
        case atStart => exact ⟨0, rfl, ⟨by omega⟩, HSS⟩
        case round =>
          clear HSS
          obtain ⟨k, rfl, Hk, HW⟩ := hrel
          by_cases hlt : k < 3
          · have HQ := Aside0.mk hlt
            have q1 : (k < 3) = True := eq_true hlt
            have q2 : 0 ≤ (k : Int) := by omega
            have q3 : (k : Int) < 3 := by omega
            have x1 : wr.cell? ⟨bp, k, none⟩ = some (.slice none 0 0) := by
              rw [get_cell (blk_at HW.out) k]
              rcases k with _ | _ | _ | k
              · rfl
              · rfl
              · rfl
              · omega
            clear hlt
            go_wp2_with fail
            have hq := same_calls [] (by simp) none none 0 0 0 rfl wr (none_row _ wr) (Nat.le_refl _) (none_row _ wr) (Nat.le_refl _)
            (with_reducible refine hq.mono ?_)
            clear hq
            rintro e9 w9 ⟨rfl, hd9⟩
            have HW9 := Aside0.mk (HW.out.drawn hd9)
            clear hd9 x1
            go_wp2_with fail
            go_roundg (gk - 1)
            case measure => have := Hk.out; have := HQ.out; omega
            case rel => exact ⟨k + 1, by go_num, ⟨by have := Hk.out; have := HQ.out; omega⟩, HW9⟩
          · have q1 : (k < 3) = False := eq_false hlt
            have q3 : ((k : Int) < 3) = False := eq_false (by omega)
            clear hlt
            go_wp2_with fail
            go_ret
            exact ⟨by rfl, HW.out.toBelow⟩
      | true =>
        go_wp2_with fail
        go_loopg [12] 4 (fun kq v w' => ∃ k : Nat, v = .int .i64 k ∧ Aside0 (k ≤ 3 ∧ 3 - k < kq) ∧ Aside0 (Sat w w' [ABlk bp (.cells (arrV []) 86 (0, 0)), ASees k118 [] [], ABlk w.heap.size (.cells #[.string o.nm, .int .u32 o.key, .slice a.A2 n2 a.c2, .slice a.A3 n3 a.c3, .int .i64 o.data, .string o.text, .slice a.A6 n6 a.c6, .slice a.A7 n7 a.c7, .slice a.A8 n8 a.c8, .slice a.A9 n9 a.c9, .slice a.A10 n10 a.c10, .int .i64 o.x0, .int .i64 o.x1, .int .i64 o.x2, .int .i64 o.body] 31 (0, 0))]))
        case atStart => exact ⟨0, rfl, ⟨by omega⟩, HSS⟩
        case round =>
          clear HSS
          obtain ⟨k, rfl, Hk, HW⟩ := hrel
          by_cases hlt : k < 3
          · have HQ := Aside0.mk hlt
            have q1 : (k < 3) = True := eq_true hlt
            have q2 : 0 ≤ (k : Int) := by omega
            have q3 : (k : Int) < 3 := by omega
            have x1 : wr.cell? ⟨bp, k, none⟩ = some (.slice none 0 0) := by
              rw [get_cell (blk_at HW.out) k]
              rcases k with _ | _ | _ | k
              · rfl
              · rfl
              · rfl
              · omega
            clear hlt
            go_wp2_with fail
            have hq := same_calls [] (by simp) none none 0 0 0 rfl wr (none_row _ wr) (Nat.le_refl _) (none_row _ wr) (Nat.le_refl _)
            (with_reducible refine hq.mono ?_)
            clear hq
            rintro e9 w9 ⟨rfl, hd9⟩
            have HW9 := Aside0.mk (HW.out.drawn hd9)
            clear hd9 x1
            go_wp2_with fail
            go_roundg (gk - 1)
            case measure => have := Hk.out; have := HQ.out; omega
            case rel => exact ⟨k + 1, by go_num, ⟨by have := Hk.out; have := HQ.out; omega⟩, HW9⟩
          · have q1 : (k < 3) = False := eq_false hlt
            have q3 : ((k : Int) < 3) = False := eq_false (by omega)
            clear hlt
            go_wp2_with fail
            go_ret
            exact ⟨by rfl, HW.out.toBelow⟩
    | some ls =>
      go_wp2_with fail
      have hq := valid_calls o a w5 n2 n3 n6 n7 n8 n9 n10 HE.out.1 HE.out.2.1 HE.out.2.2.1 HE.out.2.2.2.1 HE.out.2.2.2.2.1 HE.out.2.2.2.2.2.1 HE.out.2.2.2.2.2.2 (HO.out.sat HB5.out) HF.out HS.out _ HR.out
      (with_reducible refine hq.mono ?_)
      clear hq
      rintro e6 w6 ⟨rfl, hb6⟩
      go_wp2_with fail
      (with_reducible refine (pfits_calls wh kd fb HFB.out _).mono ?_)
      rintro e7 w7 ⟨rfl, hd7⟩
      go_wp2_with fail
      (with_reducible refine (rfits_calls wh kd fb HFB.out _).mono ?_)
      rintro e8 w8 ⟨rfl, hd8⟩
      have HB8 := Aside0.mk (show Below w5.heap.size w5 w8 from below_step (below_step hb6 hd7.below) hd8.below)
      clear hb6 hd7 hd8 x0 x1 x2 x3 x4 x5 x6 x7 x8 x9 x10 x11 x12 x13 x14
      have HSO := Aside0.mk (sat_join hW4.out (HS5.out ls rfl))
      have HSS := Aside0.mk (show Sat w w8 [ARow (Kd.raw 1) 52 W4.heap.size vo (vs2.map fun x => [x]), ASees k117 vs2 (List.map (fun x : List Rf => List.map p17 x) ls), ABlk bp (.cells (arrV vs) 86 (0, 0)), ASees k118 vs (List.map (fun x : List Rf => List.map p18 x) ls), ABlk w.heap.size (.cells #[.string o.nm, .int .u32 o.key, .slice a.A2 n2 a.c2, .slice a.A3 n3 a.c3, .int .i64 o.data, .string o.text, .slice a.A6 n6 a.c6, .slice a.A7 n7 a.c7, .slice a.A8 n8 a.c8, .slice a.A9 n9 a.c9, .slice a.A10 n10 a.c10, .int .i64 o.x0, .int .i64 o.x1, .int .i64 o.x2, .int .i64 o.body] 31 (0, 0))] from HSO.out.below HB8.out)
      clear HSO HB5 HB8 hW4 HS5
      have H3 := Aside0.mk (refs_three HR.out)
      have HLL := Aside0.mk (chains_lens HR.out)
      have HV3 := Aside0.mk (show vs.length = 3 ∧ vs2.length = 3 from ⟨by have := sees_len (Sat.pull (l1 := [_, _, _]) HSS.out); rw [List.length_map] at this; have := H3.out; omega, by have := sees_len HSS.out.swap; rw [List.length_map] at this; have := H3.out; omega⟩)
      obtain ⟨AO, cO, eO⟩ := HSS.out.rowSlice
      rw [List.length_map, HV3.out.2] at eO
      subst eO
      cases fb with
      | false =>
        go_wp2_with fail
        go_loopg [12] 4 (fun kq v w' => ∃ k : Nat, v = .int .i64 k ∧ Aside0 (k ≤ 3 ∧ 3 - k < kq) ∧ Aside0 (Sat w w' [ARow (Kd.raw 1) 52 W4.heap.size (.slice AO 3 cO) (vs2.map fun x => [x]), ASees k117 vs2 (List.map (fun x : List Rf => List.map p17 x) ls), ABlk bp (.cells (arrV vs) 86 (0, 0)), ASees k118 vs (List.map (fun x : List Rf => List.map p18 x) ls), ABlk w.heap.size (.cells #[.string o.nm, .int .u32 o.key, .slice a.A2 n2 a.c2, .slice a.A3 n3 a.c3, .int .i64 o.data, .string o.text, .slice a.A6 n6 a.c6, .slice a.A7 n7 a.c7, .slice a.A8 n8 a.c8, .slice a.A9 n9 a.c9, .slice a.A10 n10 a.c10, .int .i64 o.x0, .int .i64 o.x1, .int .i64 o.x2, .int .i64 o.body] 31 (0, 0))]))
        case atStart => exact ⟨0, rfl, ⟨by omega⟩, HSS⟩
        case round =>
          clear HSS
          obtain ⟨k, rfl, Hk, HW⟩ := hrel
          by_cases hlt : k < 3
          · have HQ := Aside0.mk hlt
            have q1 : (k < 3) = True := eq_true hlt
            have q2 : 0 ≤ (k : Int) := by omega
            have q3 : (k : Int) < 3 := by omega
            obtain ⟨l, hl⟩ : ∃ l, ls[k]? = some l := ⟨_, List.getElem?_eq_getElem (by have := H3.out; omega)⟩
            have HL := Aside0.mk (HLL.out l (List.mem_iff_getElem?.2 ⟨k, hl⟩))
            obtain ⟨v1, hv1⟩ : ∃ v, vs[k]? = some v := ⟨_, List.getElem?_eq_getElem (by have := HV3.out.1; omega)⟩
            obtain ⟨v2, hv2⟩ : ∃ v, vs2[k]? = some v := ⟨_, List.getElem?_eq_getElem (by have := HV3.out.2; omega)⟩
            obtain ⟨A1, c1, e1, l1, C1⟩ := sees_at (Sat.pull (l1 := [_, _, _]) HW.out) hv1 (show (List.map (fun x : List Rf => List.map p18 x) ls)[k]? = some (l.map p18) from by rw [List.getElem?_map, hl]; rfl)
            obtain ⟨A2, c2, e2, l2, C2⟩ := sees_at HW.out.swap hv2 (show (List.map (fun x : List Rf => List.map p17 x) ls)[k]? = some (l.map p17) from by rw [List.getElem?_map, hl]; rfl)
            have HC := Aside0.mk (And.intro (And.intro C1 l1) (And.intro C2 l2))
            rw [List.length_map] at e1 e2
            subst e1 e2
            have HBP := Aside0.mk (Sat.pull (l1 := [_, _]) HW.out)
            have x1 : wr.cell? ⟨bp, k, none⟩ = some (.slice A1 l.length c1) := by rw [get_cell (blk_at HBP.out) k]; exact arr_get HV3.out.1 hv1
            obtain ⟨ad, eA, x2⟩ := raw_at (by obtain ⟨A, c, e, _, hC⟩ := HW.out.rowReads; injection e with e1 _ _; rw [← e1] at hC; exact hC) hv2
            subst eA
            obtain ⟨nl, hnl⟩ : ∃ nl, l.length = nl := ⟨_, rfl⟩
            rw [hnl] at x1 x2
            have HNL := Aside0.mk hnl
            clear hnl hlt hl hv1 hv2 C1 C2 l1 l2
            go_wp2_with fail
            have hq := same_calls l HL.out A1 A2 nl c1 c2 HNL.out wr HC.out.1.1 HC.out.1.2 HC.out.2.1 HC.out.2.2
            (with_reducible refine hq.mono ?_)
            clear hq
            rintro e9 w9 ⟨rfl, hd9⟩
            have HW9 := Aside0.mk (HW.out.drawn hd9)
            clear hd9 x1 x2
            go_wp2_with fail
            go_roundg (gk - 1)
            case measure => have := Hk.out; have := HQ.out; omega
            case rel => exact ⟨k + 1, by go_num, ⟨by have := Hk.out; have := HQ.out; omega⟩, HW9⟩
          · have q1 : (k < 3) = False := eq_false hlt
            have q3 : ((k : Int) < 3) = False := eq_false (by omega)
            clear hlt
            go_wp2_with fail
            go_ret
            exact ⟨by rfl, HW.out.toBelow⟩
      | true =>
        go_wp2_with fail
        go_loopg [12] 4 (fun kq v w' => ∃ k : Nat, v = .int .i64 k ∧ Aside0 (k ≤ 3 ∧ 3 - k < kq) ∧ Aside0 (Sat w w' [ARow (Kd.raw 1) 52 W4.heap.size (.slice AO 3 cO) (vs2.map fun x => [x]), ASees k117 vs2 (List.map (fun x : List Rf => List.map p17 x) ls), ABlk bp (.cells (arrV vs) 86 (0, 0)), ASees k118 vs (List.map (fun x : List Rf => List.map p18 x) ls), ABlk w.heap.size (.cells #[.string o.nm, .int .u32 o.key, .slice a.A2 n2 a.c2, .slice a.A3 n3 a.c3, .int .i64 o.data, .string o.text, .slice a.A6 n6 a.c6, .slice a.A7 n7 a.c7, .slice a.A8 n8 a.c8, .slice a.A9 n9 a.c9, .slice a.A10 n10 a.c10, .int .i64 o.x0, .int .i64 o.x1, .int .i64 o.x2, .int .i64 o.body] 31 (0, 0))]))
        case atStart => exact ⟨0, rfl, ⟨by omega⟩, HSS⟩
        case round =>
          clear HSS
          obtain ⟨k, rfl, Hk, HW⟩ := hrel
          by_cases hlt : k < 3
          · have HQ := Aside0.mk hlt
            have q1 : (k < 3) = True := eq_true hlt
            have q2 : 0 ≤ (k : Int) := by omega
            have q3 : (k : Int) < 3 := by omega
            obtain ⟨l, hl⟩ : ∃ l, ls[k]? = some l := ⟨_, List.getElem?_eq_getElem (by have := H3.out; omega)⟩
            have HL := Aside0.mk (HLL.out l (List.mem_iff_getElem?.2 ⟨k, hl⟩))
            obtain ⟨v1, hv1⟩ : ∃ v, vs[k]? = some v := ⟨_, List.getElem?_eq_getElem (by have := HV3.out.1; omega)⟩
            obtain ⟨v2, hv2⟩ : ∃ v, vs2[k]? = some v := ⟨_, List.getElem?_eq_getElem (by have := HV3.out.2; omega)⟩
            obtain ⟨A1, c1, e1, l1, C1⟩ := sees_at (Sat.pull (l1 := [_, _, _]) HW.out) hv1 (show (List.map (fun x : List Rf => List.map p18 x) ls)[k]? = some (l.map p18) from by rw [List.getElem?_map, hl]; rfl)
            obtain ⟨A2, c2, e2, l2, C2⟩ := sees_at HW.out.swap hv2 (show (List.map (fun x : List Rf => List.map p17 x) ls)[k]? = some (l.map p17) from by rw [List.getElem?_map, hl]; rfl)
            have HC := Aside0.mk (And.intro (And.intro C1 l1) (And.intro C2 l2))
            rw [List.length_map] at e1 e2
            subst e1 e2
            have HBP := Aside0.mk (Sat.pull (l1 := [_, _]) HW.out)
            have x1 : wr.cell? ⟨bp, k, none⟩ = some (.slice A1 l.length c1) := by rw [get_cell (blk_at HBP.out) k]; exact arr_get HV3.out.1 hv1
            obtain ⟨ad, eA, x2⟩ := raw_at (by obtain ⟨A, c, e, _, hC⟩ := HW.out.rowReads; injection e with e1 _ _; rw [← e1] at hC; exact hC) hv2
            subst eA
            obtain ⟨nl, hnl⟩ : ∃ nl, l.length = nl := ⟨_, rfl⟩
            rw [hnl] at x1 x2
            have HNL := Aside0.mk hnl
            clear hnl hlt hl hv1 hv2 C1 C2 l1 l2
            go_wp2_with fail
            have hq := same_calls l HL.out A1 A2 nl c1 c2 HNL.out wr HC.out.1.1 HC.out.1.2 HC.out.2.1 HC.out.2.2
            (with_reducible refine hq.mono ?_)
            clear hq
            rintro e9 w9 ⟨rfl, hd9⟩
            have HW9 := Aside0.mk (HW.out.drawn hd9)
            clear hd9 x1 x2
            go_wp2_with fail
            go_roundg (gk - 1)
            case measure => have := Hk.out; have := HQ.out; omega
            case rel => exact ⟨k + 1, by go_num, ⟨by have := Hk.out; have := HQ.out; omega⟩, HW9⟩
          · have q1 : (k < 3) = False := eq_false hlt
            have q3 : ((k : Int) < 3) = False := eq_false (by omega)
            clear hlt
            go_wp2_with fail
            go_ret
            exact ⟨by rfl, HW.out.toBelow⟩
end Go.Proofs.Ytnflalbiffamdaa.MineObj
