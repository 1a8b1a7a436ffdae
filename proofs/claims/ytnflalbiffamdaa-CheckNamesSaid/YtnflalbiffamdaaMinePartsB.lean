/- Objects of modules: the document's parts: which objects' parts may be. Condition: the sizes are right. -/
import Derived.Test.YtnflalbiffamdaaMineParts
namespace Go.Proofs.Ytnflalbiffamdaa.MineObj
open Go.RowKit Go.MapKept Go.Proofs.YtnflalbiffamdaaW.PrintWords Go.Proofs.YtnflalbiffamdaaW.PrintLast Go.Proofs.YtnflalbiffamdaaW.PrintMore Go.Proofs.Ytnflalbiffamdaa.MineBase Go.Proofs.Ytnflalbiffamdaa.MineSep Go.Proofs.Ytnflalbiffamdaa.MineRows Go.Proofs.Ytnflalbiffamdaa.MineGen Go.Proofs.Ytnflalbiffamdaa.QCheckTells
attribute [local go_sem ↓] Go.wp_at_zero Go.wp_at_succ
set_option linter.unusedVariables false
set_option linter.unusedSimpArgs false

set_option maxRecDepth 100000 in
set_option maxHeartbeats 8000000 in
theorem parts_good (o : Ob) (a : Oa) (w : World) (n2 n3 n6 n7 n8 n9 n10 : Nat) (e2 : n2 = o.imps.length) (e3 : n3 = o.typs.length) (e6 : n6 = o.code.length) (e7 : n7 = o.cmds.length) (e8 : n8 = o.exps.length) (e9 : n9 = o.ptrs.length) (e10 : n10 = o.procs.length) (hO : ObR o a w) (h : SizesOk o) (r : Bool) (hr : r = true ↔ TypesOk o ∧ ExpsOk o ∧ CellsOk o) :
    Calls Try.prog 53 #[.agg #[.string o.nm, .int .u32 o.key, .slice a.A2 n2 a.c2, .slice a.A3 n3 a.c3, .int .i64 o.data, .string o.text, .slice a.A6 n6 a.c6, .slice a.A7 n7 a.c7, .slice a.A8 n8 a.c8, .slice a.A9 n9 a.c9, .slice a.A10 n10 a.c10, .int .i64 o.x0, .int .i64 o.x1, .int .i64 o.x2, .int .i64 o.body]] w fun e w' => e = .returned (.bool r) ∧ Below w.heap.size w w' := by
  have HO := Aside0.mk hO
  have HR := Aside0.mk hr
  have HS := Aside0.mk h
  have HE := Aside0.mk (And.intro e2 (And.intro e3 (And.intro e6 (And.intro e7 (And.intro e8 (And.intro e9 e10))))))
  unfold SizesOk at h
  rw [← e3, ← e6, ← e8, ← e9, ← e10] at h
  obtain ⟨s1, s2, s3, s4, s5, s6, s7, s8, s9, s10, s11⟩ := h
  clear hO hr
  have gt1 : ¬ (o.data < 0) := by omega
  have t1a : (o.data < 0) = False := eq_false gt1
  have t1b : decide (o.data < 0) = false := decide_eq_false gt1
  clear gt1
  have gt2 : ¬ (64 < o.data) := by omega
  have t2a : (64 < o.data) = False := eq_false gt2
  have t2b : decide (64 < o.data) = false := decide_eq_false gt2
  clear gt2
  have gt3 : ¬ (60 < ((o.text.size : Nat) : Int)) := by omega
  have t3a : (60 < ((o.text.size : Nat) : Int)) = False := eq_false gt3
  have t3b : decide (60 < ((o.text.size : Nat) : Int)) = false := decide_eq_false gt3
  have t3c : (60 < o.text.size) = False := eq_false (by omega)
  clear gt3
  have gt4 : ¬ (((n6 : Nat) : Int) < 1) := by omega
  have t4a : (((n6 : Nat) : Int) < 1) = False := eq_false gt4
  have t4b : decide (((n6 : Nat) : Int) < 1) = false := decide_eq_false gt4
  have t4c : (n6 < 1) = False := eq_false (by omega)
  have t4d : (n6 = 0) = False := eq_false (by omega)
  clear gt4
  have gt5 : ¬ (256 < ((n6 : Nat) : Int)) := by omega
  have t5a : (256 < ((n6 : Nat) : Int)) = False := eq_false gt5
  have t5b : decide (256 < ((n6 : Nat) : Int)) = false := decide_eq_false gt5
  have t5c : (256 < n6) = False := eq_false (by omega)
  clear gt5
  have gt6 : ¬ (o.body < 0) := by omega
  have t6a : (o.body < 0) = False := eq_false gt6
  have t6b : decide (o.body < 0) = false := decide_eq_false gt6
  clear gt6
  have gt7 : ¬ (((n6 : Nat) : Int) < o.body) := by omega
  have t7a : (((n6 : Nat) : Int) < o.body) = False := eq_false gt7
  have t7b : decide (((n6 : Nat) : Int) < o.body) = false := decide_eq_false gt7
  clear gt7
  have gt8 : ¬ (8 < ((n3 : Nat) : Int)) := by omega
  have t8a : (8 < ((n3 : Nat) : Int)) = False := eq_false gt8
  have t8b : decide (8 < ((n3 : Nat) : Int)) = false := decide_eq_false gt8
  have t8c : (8 < n3) = False := eq_false (by omega)
  clear gt8
  have gt9 : ¬ (64 < ((n8 : Nat) : Int)) := by omega
  have t9a : (64 < ((n8 : Nat) : Int)) = False := eq_false gt9
  have t9b : decide (64 < ((n8 : Nat) : Int)) = false := decide_eq_false gt9
  have t9c : (64 < n8) = False := eq_false (by omega)
  clear gt9
  have gt10 : ¬ (16 < ((n9 : Nat) : Int)) := by omega
  have t10a : (16 < ((n9 : Nat) : Int)) = False := eq_false gt10
  have t10b : decide (16 < ((n9 : Nat) : Int)) = false := decide_eq_false gt10
  have t10c : (16 < n9) = False := eq_false (by omega)
  clear gt10
  have gt11 : ¬ (16 < ((n10 : Nat) : Int)) := by omega
  have t11a : (16 < ((n10 : Nat) : Int)) = False := eq_false gt11
  have t11b : decide (16 < ((n10 : Nat) : Int)) = false := decide_eq_false gt11
  have t11c : (16 < n10) = False := eq_false (by omega)
  clear gt11
  clear e2 e3 e6 e7 e8 e9 e10 s2 s3 s6 s7
  have hu31 := Try.underlying31
  have hu130 := Try.underlying130
  have hu43 := Try.underlying43
  go_enter Try.func53, Try.ntmps53
  go_wp2_with fail
  refine wp_abs (fun W => Sat w W [ABlk w.heap.size (.cells #[.string o.nm, .int .u32 o.key, .slice a.A2 n2 a.c2, .slice a.A3 n3 a.c3, .int .i64 o.data, .string o.text, .slice a.A6 n6 a.c6, .slice a.A7 n7 a.c7, .slice a.A8 n8 a.c8, .slice a.A9 n9 a.c9, .slice a.A10 n10 a.c10, .int .i64 o.x0, .int .i64 o.x1, .int .i64 o.x2, .int .i64 o.body] 31 (0, 0))]) (blk_new (Sat.start w) _) (fun W hW => ?_)
  replace hW := Aside0.mk hW
  clear t1a t1b t2a t2b t3a t3b t4a t4b t5a t5b t6a t6b t7a t7b t8a t8b t9a t9b t10a t10b t11a t11b t3c t4c t4d t5c t8c t9c t10c t11c
  go_loopg [3] (n3 + 1) (fun kq v3 w' => ∃ i : Nat, v3 = .int .i64 i ∧ Aside0 (i ≤ n3 ∧ n3 - i < kq) ∧ Aside0 (∀ (j : Nat) (x : S130), j < i → o.typs[j]? = some x → TypeOk n2 j x) ∧ Aside0 (Sat w w' [ABlk w.heap.size (.cells #[.string o.nm, .int .u32 o.key, .slice a.A2 n2 a.c2, .slice a.A3 n3 a.c3, .int .i64 o.data, .string o.text, .slice a.A6 n6 a.c6, .slice a.A7 n7 a.c7, .slice a.A8 n8 a.c8, .slice a.A9 n9 a.c9, .slice a.A10 n10 a.c10, .int .i64 o.x0, .int .i64 o.x1, .int .i64 o.x2, .int .i64 o.body] 31 (0, 0))]))
  case atStart => exact ⟨0, rfl, ⟨by omega⟩, ⟨fun j x h => absurd h (by omega)⟩, hW⟩
  case round =>
    clear hW
    obtain ⟨i, rfl, Hi, HG, HW⟩ := hrel
    have x2 : wr.cell? ⟨w.heap.size, 2, none⟩ = some (.slice a.A2 n2 a.c2) := get_cell (blk_at HW.out) 2
    have x3 : wr.cell? ⟨w.heap.size, 3, none⟩ = some (.slice a.A3 n3 a.c3) := get_cell (blk_at HW.out) 3
    by_cases hlt : i < n3
    · obtain ⟨x, hx⟩ : ∃ x, o.typs[i]? = some x := ⟨_, List.getElem?_eq_getElem (by have := HE.out.2.1; omega)⟩
      obtain ⟨ad, eA, y0, y1, y2⟩ := at_T130 (HO.out.sat HW.out).r3 (i : Int) (by omega) (by have := HE.out.2.1; omega)
      have ev : rd_T130 o.typs (i : Int) = x := by
        have hl := (List.getElem?_eq_some_iff.1 hx).1
        have := (List.getElem?_eq_some_iff.1 hx).2
        simp [rd_T130, hl, this]
      rw [ev] at y0 y1 y2
      simp only [Int.toNat_natCast] at y0 y1 y2
      have HV := Aside0.mk hx
      clear ev hx
      have q0 : i < n3 := hlt
      have q1 : (i < n3) = True := eq_true hlt
      have q2 : 0 ≤ (i : Int) := by omega
      have q3 : (i : Int) ≤ 100 := by omega
      clear hlt
      have HBAD := Aside0.mk (show ¬ TypeOk n2 i x → r = false from fun hn => by
        cases r with
        | false => rfl
        | true => exact absurd ((HR.out.1 rfl).1 i x HV.out) (by have := HE.out.1; rw [← this]; exact hn))
      obtain ⟨a0, a1, a2⟩ := x
      simp only at y0 y1 y2
      have HX := Aside0.mk (blk_new HW.out (.cells #[.int .i64 0, .int .i64 0, .int .i64 0] 130))
      rw [eA] at x3
      clear eA
      go_upto_region 7 with (first | (refine wpList_store_row rfl 130 (.tmp 4) (.tmp 86) rfl wr.heap.size #[.int .i64 a0, .int .i64 a1, .int .i64 a2] rfl rfl 130 _ (blk_at HX.out) (by kernel_rfl) rfl (by simp [Value.oneCell']) ?_; have HX7 := Aside0.mk (blk_row (cs := #[.int .i64 a0, .int .i64 a1, .int .i64 a2]) HX.out)))
      refine wp_abs (fun W => Sat w W [ABlk wr.heap.size (.cells #[.int .i64 a0, .int .i64 a1, .int .i64 a2] 130 (0, 0)), ABlk w.heap.size (.cells #[.string o.nm, .int .u32 o.key, .slice a.A2 n2 a.c2, .slice a.A3 n3 a.c3, .int .i64 o.data, .string o.text, .slice a.A6 n6 a.c6, .slice a.A7 n7 a.c7, .slice a.A8 n8 a.c8, .slice a.A9 n9 a.c9, .slice a.A10 n10 a.c10, .int .i64 o.x0, .int .i64 o.x1, .int .i64 o.x2, .int .i64 o.body] 31 (0, 0))]) HX7.out (fun W7 hW7 => ?_)
      replace hW7 := Aside0.mk hW7
      clear HX HX7 y0 y1 y2 x2 x3
      have z0 : W7.cell? ⟨wr.heap.size, 0, none⟩ = some (.int .i64 a0) := get_cell (blk_at hW7.out) 0
      have z1 : W7.cell? ⟨wr.heap.size, 1, none⟩ = some (.int .i64 a1) := get_cell (blk_at hW7.out) 1
      have z2 : W7.cell? ⟨wr.heap.size, 2, none⟩ = some (.int .i64 a2) := get_cell (blk_at hW7.out) 2
      have x2 : W7.cell? ⟨w.heap.size, 2, none⟩ = some (.slice a.A2 n2 a.c2) := get_cell (blk_at hW7.out.drop) 2
      by_cases gu1 : a0 < 0
      · have u1a : (a0 < 0) = True := eq_true gu1
        have u1b : decide (a0 < 0) = true := decide_eq_true gu1
        have e : r = false := HBAD.out (fun h => by obtain ⟨h1, h2, h3, h4, h5, h6, h7, h8⟩ := h; simp only at h1 h2 h3 h4 h5 h6 h7 h8; omega)
        subst e
        clear gu1
        go_wp2_with fail
        go_ret
        exact ⟨by rfl, hW7.out.toBelow⟩
      have u1a : (a0 < 0) = False := eq_false gu1
      have u1b : decide (a0 < 0) = false := decide_eq_false gu1
      have u1p : 0 ≤ a0 := by omega
      by_cases gu2 : 256 < a0
      · have u2a : (256 < a0) = True := eq_true gu2
        have u2b : decide (256 < a0) = true := decide_eq_true gu2
        have e : r = false := HBAD.out (fun h => by obtain ⟨h1, h2, h3, h4, h5, h6, h7, h8⟩ := h; simp only at h1 h2 h3 h4 h5 h6 h7 h8; omega)
        subst e
        clear gu1 gu2
        go_wp2_with fail
        go_ret
        exact ⟨by rfl, hW7.out.toBelow⟩
      have u2a : (256 < a0) = False := eq_false gu2
      have u2b : decide (256 < a0) = false := decide_eq_false gu2
      by_cases gu3 : ¬ a0 % 4 = 0
      · have u3c : (a0 % 4 != 0) = true := by simpa using gu3
        have u3d : (a0 % 4 = 0) = False := eq_false gu3
        have e : r = false := HBAD.out (fun h => by obtain ⟨h1, h2, h3, h4, h5, h6, h7, h8⟩ := h; simp only at h1 h2 h3 h4 h5 h6 h7 h8; omega)
        subst e
        clear gu1 gu2 gu3
        go_wp2_with fail
        go_ret
        exact ⟨by rfl, hW7.out.toBelow⟩
      have u3c : (a0 % 4 != 0) = false := by simpa using gu3
      have u3d : a0 % 4 = 0 := Decidable.not_not.1 gu3
      by_cases gu4 : a1 < 0
      · have u4a : (a1 < 0) = True := eq_true gu4
        have u4b : decide (a1 < 0) = true := decide_eq_true gu4
        have e : r = false := HBAD.out (fun h => by obtain ⟨h1, h2, h3, h4, h5, h6, h7, h8⟩ := h; simp only at h1 h2 h3 h4 h5 h6 h7 h8; omega)
        subst e
        clear gu1 gu2 gu3 gu4
        go_wp2_with fail
        go_ret
        exact ⟨by rfl, hW7.out.toBelow⟩
      have u4a : (a1 < 0) = False := eq_false gu4
      have u4b : decide (a1 < 0) = false := decide_eq_false gu4
      by_cases gu5 : ((n2 : Nat) : Int) < a1
      · have u5a : (((n2 : Nat) : Int) < a1) = True := eq_true gu5
        have u5b : decide (((n2 : Nat) : Int) < a1) = true := decide_eq_true gu5
        have e : r = false := HBAD.out (fun h => by obtain ⟨h1, h2, h3, h4, h5, h6, h7, h8⟩ := h; simp only at h1 h2 h3 h4 h5 h6 h7 h8; omega)
        subst e
        clear gu1 gu2 gu3 gu4 gu5
        go_wp2_with fail
        go_ret
        exact ⟨by rfl, hW7.out.toBelow⟩
      have u5a : (((n2 : Nat) : Int) < a1) = False := eq_false gu5
      have u5b : decide (((n2 : Nat) : Int) < a1) = false := decide_eq_false gu5
      by_cases gu6 : 63 < a2
      · have u6a : (63 < a2) = True := eq_true gu6
        have u6b : decide (63 < a2) = true := decide_eq_true gu6
        have e : r = false := HBAD.out (fun h => by obtain ⟨h1, h2, h3, h4, h5, h6, h7, h8⟩ := h; simp only at h1 h2 h3 h4 h5 h6 h7 h8; omega)
        subst e
        clear gu1 gu2 gu3 gu4 gu5 gu6
        go_wp2_with fail
        go_ret
        exact ⟨by rfl, hW7.out.toBelow⟩
      have u6a : (63 < a2) = False := eq_false gu6
      have u6b : decide (63 < a2) = false := decide_eq_false gu6
      by_cases gz : a1 = 0
      · have gze : (a1 == 0) = true := by simpa using gz
        have gzp : (0 < a1) = False := eq_false (by omega)
        have gzq : decide (0 < a1) = false := decide_eq_false (by omega)
        by_cases gv1 : a2 < (-1)
        · have v1a : (a2 < (-1)) = True := eq_true gv1
          have v1b : decide (a2 < (-1)) = true := decide_eq_true gv1
          have e : r = false := HBAD.out (fun h => by obtain ⟨h1, h2, h3, h4, h5, h6, h7, h8⟩ := h; simp only at h1 h2 h3 h4 h5 h6 h7 h8; omega)
          subst e
          clear gu1 gu2 gu3 gu4 gu5 gu6 gz gv1
          go_wp2_with fail
          go_ret
          exact ⟨by rfl, hW7.out.toBelow⟩
        have v1a : (a2 < (-1)) = False := eq_false gv1
        have v1b : decide (a2 < (-1)) = false := decide_eq_false gv1
        by_cases gv2 : ((i : Nat) : Int) ≤ a2
        · have v2a : (((i : Nat) : Int) ≤ a2) = True := eq_true gv2
          have v2b : decide (((i : Nat) : Int) ≤ a2) = true := decide_eq_true gv2
          have e : r = false := HBAD.out (fun h => by obtain ⟨h1, h2, h3, h4, h5, h6, h7, h8⟩ := h; simp only at h1 h2 h3 h4 h5 h6 h7 h8; omega)
          subst e
          clear gu1 gu2 gu3 gu4 gu5 gu6 gz gv1 gv2
          go_wp2_with fail
          go_ret
          exact ⟨by rfl, hW7.out.toBelow⟩
        have v2a : (((i : Nat) : Int) ≤ a2) = False := eq_false gv2
        have v2b : decide (((i : Nat) : Int) ≤ a2) = false := decide_eq_false gv2
        have HT := Aside0.mk (show TypeOk n2 i ⟨a0, a1, a2⟩ from by unfold TypeOk; simp only; omega)
        clear gu1 gu2 gu3 gu4 gu5 gu6 gz gv1 gv2
        go_wp2_with fail
        go_roundg (gk - 1)
        case measure => have := Hi.out; omega
        case rel => exact ⟨i + 1, by go_num, ⟨by have := Hi.out; omega⟩, ⟨fun j y hj hy => by
          by_cases hji : j = i
          · subst hji
            have := HV.out
            rw [hy] at this
            injection this with this
            rw [this]; exact HT.out
          · exact HG.out j y (by omega) hy⟩, ⟨hW7.out.drop⟩⟩
      · have gze : (a1 == 0) = false := by simpa using gz
        have gzf : (a1 = 0) = False := eq_false gz
        have gzp : (0 < a1) = True := eq_true (by omega)
        have gzq : decide (0 < a1) = true := decide_eq_true (by omega)
        by_cases gv1 : a2 < 0
        · have v1a : (a2 < 0) = True := eq_true gv1
          have v1b : decide (a2 < 0) = true := decide_eq_true gv1
          have e : r = false := HBAD.out (fun h => by obtain ⟨h1, h2, h3, h4, h5, h6, h7, h8⟩ := h; simp only at h1 h2 h3 h4 h5 h6 h7 h8; omega)
          subst e
          clear gu1 gu2 gu3 gu4 gu5 gu6 gz gv1
          go_wp2_with fail
          go_ret
          exact ⟨by rfl, hW7.out.toBelow⟩
        have v1a : (a2 < 0) = False := eq_false gv1
        have v1b : decide (a2 < 0) = false := decide_eq_false gv1
        have HT := Aside0.mk (show TypeOk n2 i ⟨a0, a1, a2⟩ from by unfold TypeOk; simp only; omega)
        clear gu1 gu2 gu3 gu4 gu5 gu6 gz gv1
        go_wp2_with fail
        go_roundg (gk - 1)
        case measure => have := Hi.out; omega
        case rel => exact ⟨i + 1, by go_num, ⟨by have := Hi.out; omega⟩, ⟨fun j y hj hy => by
          by_cases hji : j = i
          · subst hji
            have := HV.out
            rw [hy] at this
            injection this with this
            rw [this]; exact HT.out
          · exact HG.out j y (by omega) hy⟩, ⟨hW7.out.drop⟩⟩
    · have HT := Aside0.mk (show TypesOk o from fun j x hj => by rw [← HE.out.1]; exact HG.out j x (by have := (List.getElem?_eq_some_iff.1 hj).1; have := HE.out.2.1; omega) hj)
      have q1 : (i < n3) = False := eq_false hlt
      clear hlt HG x2
      go_wp2_with fail
      go_loopg [5] (n8 + 1) (fun kq v3 w' => ∃ i : Nat, v3 = .int .i64 i ∧ Aside0 (i ≤ n8 ∧ n8 - i < kq) ∧ Aside0 (∀ (j : Nat) (x : S43), j < i → o.exps[j]? = some x → ExpOk o x) ∧ Aside0 (Sat w w' [ABlk w.heap.size (.cells #[.string o.nm, .int .u32 o.key, .slice a.A2 n2 a.c2, .slice a.A3 n3 a.c3, .int .i64 o.data, .string o.text, .slice a.A6 n6 a.c6, .slice a.A7 n7 a.c7, .slice a.A8 n8 a.c8, .slice a.A9 n9 a.c9, .slice a.A10 n10 a.c10, .int .i64 o.x0, .int .i64 o.x1, .int .i64 o.x2, .int .i64 o.body] 31 (0, 0))]))
      case atStart => exact ⟨0, rfl, ⟨by omega⟩, ⟨fun j x h => absurd h (by omega)⟩, HW⟩
      case round =>
        clear HW Hi q1 x3
        obtain ⟨i, rfl, Hi, HG, HW⟩ := hrel
        have x3 : wr.cell? ⟨w.heap.size, 3, none⟩ = some (.slice a.A3 n3 a.c3) := get_cell (blk_at HW.out) 3
        have x4 : wr.cell? ⟨w.heap.size, 4, none⟩ = some (.int .i64 o.data) := get_cell (blk_at HW.out) 4
        have x6 : wr.cell? ⟨w.heap.size, 6, none⟩ = some (.slice a.A6 n6 a.c6) := get_cell (blk_at HW.out) 6
        have x8 : wr.cell? ⟨w.heap.size, 8, none⟩ = some (.slice a.A8 n8 a.c8) := get_cell (blk_at HW.out) 8
        by_cases hlt : i < n8
        · obtain ⟨x, hx⟩ : ∃ x, o.exps[i]? = some x := ⟨_, List.getElem?_eq_getElem (by have := HE.out.2.2.2.2.1; omega)⟩
          obtain ⟨ad, eA, y0, y1⟩ := at_T43 (HO.out.sat HW.out).r8 (i : Int) (by omega) (by have := HE.out.2.2.2.2.1; omega)
          have ev : rd_T43 o.exps (i : Int) = x := by
            have hl := (List.getElem?_eq_some_iff.1 hx).1
            have := (List.getElem?_eq_some_iff.1 hx).2
            simp [rd_T43, hl, this]
          rw [ev] at y0 y1
          simp only [Int.toNat_natCast] at y0 y1
          have HV := Aside0.mk hx
          clear ev hx
          have q0 : i < n8 := hlt
          have q1 : (i < n8) = True := eq_true hlt
          have q2 : 0 ≤ (i : Int) := by omega
          have q3 : (i : Int) ≤ 100 := by omega
          clear hlt
          have HBAD := Aside0.mk (show ¬ ExpOk o x → r = false from fun hn => by
            cases r with
            | false => rfl
            | true => exact absurd ((HR.out.1 rfl).2.1 i x HV.out) hn)
          have HEQ : ExpOk o x = (0 ≤ x.f1 ∧ (x.f0 = 0 ∧ x.f1 < n6 ∨ x.f0 = 1 ∧ x.f1 < o.data ∨ x.f0 = 2 ∧ x.f1 < n3)) := by unfold ExpOk; rw [HE.out.2.1, HE.out.2.2.1]
          obtain ⟨b0, b1⟩ := x
          simp only at y0 y1 HEQ
          replace HEQ := Aside0.mk HEQ
          have HX := Aside0.mk (blk_new HW.out (.cells #[.int .i64 0, .int .i64 0] 43))
          rw [eA] at x8
          clear eA
          go_upto_region 15 with (first | (refine wpList_store_row rfl 43 (.tmp 6) (.tmp 154) rfl wr.heap.size #[.int .i64 b0, .int .i64 b1] rfl rfl 43 _ (blk_at HX.out) (by kernel_rfl) rfl (by simp [Value.oneCell']) ?_; have HX7 := Aside0.mk (blk_row (cs := #[.int .i64 b0, .int .i64 b1]) HX.out)))
          refine wp_abs (fun W => Sat w W [ABlk wr.heap.size (.cells #[.int .i64 b0, .int .i64 b1] 43 (0, 0)), ABlk w.heap.size (.cells #[.string o.nm, .int .u32 o.key, .slice a.A2 n2 a.c2, .slice a.A3 n3 a.c3, .int .i64 o.data, .string o.text, .slice a.A6 n6 a.c6, .slice a.A7 n7 a.c7, .slice a.A8 n8 a.c8, .slice a.A9 n9 a.c9, .slice a.A10 n10 a.c10, .int .i64 o.x0, .int .i64 o.x1, .int .i64 o.x2, .int .i64 o.body] 31 (0, 0))]) HX7.out (fun W7 hW7 => ?_)
          replace hW7 := Aside0.mk hW7
          clear HX HX7 y0 y1 x3 x4 x6 x8
          have z0 : W7.cell? ⟨wr.heap.size, 0, none⟩ = some (.int .i64 b0) := get_cell (blk_at hW7.out) 0
          have z1 : W7.cell? ⟨wr.heap.size, 1, none⟩ = some (.int .i64 b1) := get_cell (blk_at hW7.out) 1
          have x3 : W7.cell? ⟨w.heap.size, 3, none⟩ = some (.slice a.A3 n3 a.c3) := get_cell (blk_at hW7.out.drop) 3
          have x4 : W7.cell? ⟨w.heap.size, 4, none⟩ = some (.int .i64 o.data) := get_cell (blk_at hW7.out.drop) 4
          have x6 : W7.cell? ⟨w.heap.size, 6, none⟩ = some (.slice a.A6 n6 a.c6) := get_cell (blk_at hW7.out.drop) 6
          by_cases gb0 : b0 = 0
          · subst gb0
            by_cases gl : b1 < ((n6 : Nat) : Int)
            · have la : (b1 < ((n6 : Nat) : Int)) = True := eq_true gl
              have lb : decide (b1 < ((n6 : Nat) : Int)) = true := decide_eq_true gl
              by_cases gw : b1 < 0
              · have wa : (b1 < 0) = True := eq_true gw
                have wb : decide (b1 < 0) = true := decide_eq_true gw
                have e : r = false := HBAD.out (fun h => by rw [HEQ.out] at h; omega)
                subst e
                clear  gl gw
                go_wp2_with fail
                go_ret
                exact ⟨by rfl, hW7.out.toBelow⟩
              have wa : (b1 < 0) = False := eq_false gw
              have wb : decide (b1 < 0) = false := decide_eq_false gw
              have HT2 := Aside0.mk (show ExpOk o ⟨0, b1⟩ from by rw [HEQ.out]; omega)
              clear  gl gw
              go_wp2_with fail
              go_roundg (gk - 1)
              case measure => have := Hi.out; omega
              case rel => exact ⟨i + 1, by go_num, ⟨by have := Hi.out; omega⟩, ⟨fun j y hj hy => by
                by_cases hji : j = i
                · subst hji
                  have := HV.out
                  rw [hy] at this
                  injection this with this
                  rw [this]; exact HT2.out
                · exact HG.out j y (by omega) hy⟩, ⟨hW7.out.drop⟩⟩
            · have la : (b1 < ((n6 : Nat) : Int)) = False := eq_false gl
              have lb : decide (b1 < ((n6 : Nat) : Int)) = false := decide_eq_false gl
              have e : r = false := HBAD.out (fun h => by rw [HEQ.out] at h; omega)
              subst e
              clear  gl
              go_wp2_with fail
              go_ret
              exact ⟨by rfl, hW7.out.toBelow⟩
          have k0 : (b0 == 0) = false := by simpa using gb0
          have k0d : (b0 = 0) = False := eq_false gb0
          by_cases gb1 : b0 = 1
          · subst gb1
            by_cases gl : b1 < o.data
            · have la : (b1 < o.data) = True := eq_true gl
              have lb : decide (b1 < o.data) = true := decide_eq_true gl
              by_cases gw : b1 < 0
              · have wa : (b1 < 0) = True := eq_true gw
                have wb : decide (b1 < 0) = true := decide_eq_true gw
                have e : r = false := HBAD.out (fun h => by rw [HEQ.out] at h; omega)
                subst e
                clear gb0 gl gw
                go_wp2_with fail
                go_ret
                exact ⟨by rfl, hW7.out.toBelow⟩
              have wa : (b1 < 0) = False := eq_false gw
              have wb : decide (b1 < 0) = false := decide_eq_false gw
              have HT2 := Aside0.mk (show ExpOk o ⟨1, b1⟩ from by rw [HEQ.out]; omega)
              clear gb0 gl gw
              go_wp2_with fail
              go_roundg (gk - 1)
              case measure => have := Hi.out; omega
              case rel => exact ⟨i + 1, by go_num, ⟨by have := Hi.out; omega⟩, ⟨fun j y hj hy => by
                by_cases hji : j = i
                · subst hji
                  have := HV.out
                  rw [hy] at this
                  injection this with this
                  rw [this]; exact HT2.out
                · exact HG.out j y (by omega) hy⟩, ⟨hW7.out.drop⟩⟩
            · have la : (b1 < o.data) = False := eq_false gl
              have lb : decide (b1 < o.data) = false := decide_eq_false gl
              have e : r = false := HBAD.out (fun h => by rw [HEQ.out] at h; omega)
              subst e
              clear gb0 gl
              go_wp2_with fail
              go_ret
              exact ⟨by rfl, hW7.out.toBelow⟩
          have k1 : (b0 == 1) = false := by simpa using gb1
          have k1d : (b0 = 1) = False := eq_false gb1
          by_cases gb2 : b0 = 2
          · subst gb2
            by_cases gl : b1 < ((n3 : Nat) : Int)
            · have la : (b1 < ((n3 : Nat) : Int)) = True := eq_true gl
              have lb : decide (b1 < ((n3 : Nat) : Int)) = true := decide_eq_true gl
              by_cases gw : b1 < 0
              · have wa : (b1 < 0) = True := eq_true gw
                have wb : decide (b1 < 0) = true := decide_eq_true gw
                have e : r = false := HBAD.out (fun h => by rw [HEQ.out] at h; omega)
                subst e
                clear gb0 gb1 gl gw
                go_wp2_with fail
                go_ret
                exact ⟨by rfl, hW7.out.toBelow⟩
              have wa : (b1 < 0) = False := eq_false gw
              have wb : decide (b1 < 0) = false := decide_eq_false gw
              have HT2 := Aside0.mk (show ExpOk o ⟨2, b1⟩ from by rw [HEQ.out]; omega)
              clear gb0 gb1 gl gw
              go_wp2_with fail
              go_roundg (gk - 1)
              case measure => have := Hi.out; omega
              case rel => exact ⟨i + 1, by go_num, ⟨by have := Hi.out; omega⟩, ⟨fun j y hj hy => by
                by_cases hji : j = i
                · subst hji
                  have := HV.out
                  rw [hy] at this
                  injection this with this
                  rw [this]; exact HT2.out
                · exact HG.out j y (by omega) hy⟩, ⟨hW7.out.drop⟩⟩
            · have la : (b1 < ((n3 : Nat) : Int)) = False := eq_false gl
              have lb : decide (b1 < ((n3 : Nat) : Int)) = false := decide_eq_false gl
              have e : r = false := HBAD.out (fun h => by rw [HEQ.out] at h; omega)
              subst e
              clear gb0 gb1 gl
              go_wp2_with fail
              go_ret
              exact ⟨by rfl, hW7.out.toBelow⟩
          have k2 : (b0 == 2) = false := by simpa using gb2
          have k2d : (b0 = 2) = False := eq_false gb2
          have e : r = false := HBAD.out (fun h => by rw [HEQ.out] at h; omega)
          subst e
          clear gb0 gb1 gb2
          go_wp2_with fail
          go_ret
          exact ⟨by rfl, hW7.out.toBelow⟩
        · have HT2 := Aside0.mk (show ExpsOk o from fun j x hj => HG.out j x (by have := (List.getElem?_eq_some_iff.1 hj).1; have := HE.out.2.2.2.2.1; omega) hj)
          have q1 : (i < n8) = False := eq_false hlt
          clear hlt HG x3 x4 x6
          have hmk : ∀ W : World, (Instr.makeSlice 115 (.int .i64 65) (.int .i64 65)).run Try.prog W = .ok (.slice (some ⟨W.heap.size, 0, none⟩) 65 65) (W.alloc (.cells (madeCells #[.bool false] 65) 4)) := print_make_of 115 4 (.bool false) 1 Try.underlying115 info4 rfl (by decide) 65 (by decide)
          go_wp2_with fail
          refine wp_abs (fun W => Sat w W [ABlk wr.heap.size (.cells (mbA (MB [] 65)) 4 (0, 0)), ABlk w.heap.size (.cells #[.string o.nm, .int .u32 o.key, .slice a.A2 n2 a.c2, .slice a.A3 n3 a.c3, .int .i64 o.data, .string o.text, .slice a.A6 n6 a.c6, .slice a.A7 n7 a.c7, .slice a.A8 n8 a.c8, .slice a.A9 n9 a.c9, .slice a.A10 n10 a.c10, .int .i64 o.x0, .int .i64 o.x1, .int .i64 o.x2, .int .i64 o.body] 31 (0, 0))]) (by rw [← mb_make]; exact blk_new HW.out _) (fun W hW => ?_)
          clear HW Hi hmk q1 x8
          generalize wr.heap.size = g at hW ⊢
          replace hW := Aside0.mk hW
          go_loopg [9, 10] (n9 + n10 + 1) (fun kq v9 v10 w' => ∃ (last : Int) (i : Nat), v9 = .int .i64 last ∧ v10 = .int .i64 i ∧ Aside0 (i ≤ n9 + n10 ∧ n9 + n10 - i < kq) ∧ Aside0 (-1 ≤ last ∧ (¬ i = n9 → last = lastOf o i)) ∧ Aside0 (∀ (j : Nat) (n : Int), j < i → (cellsL o)[j]? = some n → GoodCell o j n) ∧ Aside0 (Sat w w' [ABlk g (.cells (mbA (MB ((cellsL o).take i) 65)) 4 (0, 0)), ABlk w.heap.size (.cells #[.string o.nm, .int .u32 o.key, .slice a.A2 n2 a.c2, .slice a.A3 n3 a.c3, .int .i64 o.data, .string o.text, .slice a.A6 n6 a.c6, .slice a.A7 n7 a.c7, .slice a.A8 n8 a.c8, .slice a.A9 n9 a.c9, .slice a.A10 n10 a.c10, .int .i64 o.x0, .int .i64 o.x1, .int .i64 o.x2, .int .i64 o.body] 31 (0, 0))]))
          case atStart => exact ⟨-1, 0, rfl, rfl, ⟨by omega⟩, ⟨by omega, fun h => by simp [lastOf]⟩, ⟨fun j n h => absurd h (by omega)⟩, hW⟩
          case round =>
            clear hW
            obtain ⟨last, i, rfl, rfl, Hi, HLA, HG, HW⟩ := hrel
            have x4 : wr.cell? ⟨w.heap.size, 4, none⟩ = some (.int .i64 o.data) := get_cell (blk_at HW.out.drop) 4
            have x9 : wr.cell? ⟨w.heap.size, 9, none⟩ = some (.slice a.A9 n9 a.c9) := get_cell (blk_at HW.out.drop) 9
            have x10 : wr.cell? ⟨w.heap.size, 10, none⟩ = some (.slice a.A10 n10 a.c10) := get_cell (blk_at HW.out.drop) 10
            have HCL := Aside0.mk (show (cellsL o).length = n9 + n10 from by unfold cellsL; rw [List.length_append, HE.out.2.2.2.2.2.1, HE.out.2.2.2.2.2.2])
            by_cases hlt : i < n9 + n10
            · obtain ⟨n, hn⟩ : ∃ n, (cellsL o)[i]? = some n := ⟨_, List.getElem?_eq_getElem (by have := HCL.out; omega)⟩
              have HV := Aside0.mk hn
              have HBAD := Aside0.mk (show ¬ GoodCell o i n → r = false from fun hx => by
                cases r with
                | false => rfl
                | true => exact absurd ((cells_iff o).1 (HR.out.1 rfl).2.2 i n HV.out) hx)
              have q1 : (i < n9 + n10) = True := eq_true hlt
              have q1' : ((i : Int) < (n9 : Int) + (n10 : Int)) = True := eq_true (by omega)
              have q2 : 0 ≤ (i : Int) := by omega
              have q3 : (i : Int) ≤ 100 := by omega
              have HQ := Aside0.mk hlt
              clear hlt
              by_cases hip : i < n9
              · obtain ⟨ad, eA, y0⟩ := Kd.at_int (HO.out.sat HW.out).r9 (i : Int) (by omega) (by have := HE.out.2.2.2.2.2.1; omega)
                have ev : rd o.ptrs (i : Int) = n := by
                  have hl : i < o.ptrs.length := by have := HE.out.2.2.2.2.2.1; omega
                  have h := HV.out
                  unfold cellsL at h
                  rw [List.getElem?_append_left hl] at h
                  have := (List.getElem?_eq_some_iff.1 h).2
                  simp [rd, hl, this]
                rw [ev] at y0
                simp only [Int.toNat_natCast] at y0
                have HLE := Aside0.mk (show last = lastOf o i from HLA.out.2 (by omega))
                rw [eA] at x9
                clear eA ev hn
                have q4 : (i < n9) = True := eq_true hip
                have q5 : ((i : Int) == (n9 : Int)) = false := beq_eq_false_iff_ne.2 (by omega)
                have q6 : (i = n9) = False := eq_false (by omega)
                clear hip
                by_cases m1 : n ≤ last
                · have m1a : (n ≤ last) = True := eq_true m1
                  have m1b : decide (n ≤ last) = true := decide_eq_true m1
                  have e : r = false := HBAD.out (fun h => by have := h.1; have := HLE.out; omega)
                  subst e
                  clear m1
                  go_wp2_with fail
                  go_ret
                  exact ⟨by rfl, HW.out.toBelow⟩
                have m1a : (n ≤ last) = False := eq_false m1
                have m1b : decide (n ≤ last) = false := decide_eq_false m1
                by_cases m2 : o.data ≤ n
                · have m2a : (o.data ≤ n) = True := eq_true m2
                  have m2b : decide (o.data ≤ n) = true := decide_eq_true m2
                  have e : r = false := HBAD.out (fun h => by have := h.2.1; omega)
                  subst e
                  clear m1 m2
                  go_wp2_with fail
                  go_ret
                  exact ⟨by rfl, HW.out.toBelow⟩
                have m2a : (o.data ≤ n) = False := eq_false m2
                have m2b : decide (o.data ≤ n) = false := decide_eq_false m2
                have m3 : 0 ≤ n := by have := HLE.out; have := HLA.out.1; omega
                have m4 : n < 65 := by have := HS.out.2.1; omega
                have m5 : n.toNat < 65 := by omega
                have HNN := Aside0.mk (show ((n.toNat : Nat) : Int) = n from by omega)
                have y1 : wr.cell? ⟨g, n.toNat, none⟩ = some (.bool (decide (n ∈ (cellsL o).take i))) := by rw [get_cell (blk_at HW.out) n.toNat, mb_get m5, HNN.out]
                have y2 : wr.frozen? ⟨g, n.toNat, none⟩ = false := get_frozen (blk_at HW.out) _
                by_cases m6 : n ∈ (cellsL o).take i
                · have e : r = false := HBAD.out (fun h => h.2.2 m6)
                  rw [decide_eq_true m6] at y1
                  subst e
                  clear m1 m2 m6
                  go_wp2_with fail
                  go_ret
                  exact ⟨by rfl, HW.out.toBelow⟩
                rw [decide_eq_false m6] at y1
                have HT3 := Aside0.mk (show GoodCell o i n from ⟨by have := HLE.out; omega, by omega, m6⟩)
                have HPUT := Aside0.mk (show Sat w (wr.setCell ⟨g, n.toNat, none⟩ (.bool true)) [ABlk g (.cells (mbA (MB ((cellsL o).take (i + 1)) 65)) 4 (0, 0)), ABlk w.heap.size (.cells #[.string o.nm, .int .u32 o.key, .slice a.A2 n2 a.c2, .slice a.A3 n3 a.c3, .int .i64 o.data, .string o.text, .slice a.A6 n6 a.c6, .slice a.A7 n7 a.c7, .slice a.A8 n8 a.c8, .slice a.A9 n9 a.c9, .slice a.A10 n10 a.c10, .int .i64 o.x0, .int .i64 o.x1, .int .i64 o.x2, .int .i64 o.body] 31 (0, 0))] from by
                  have h := blk_put HW.out n.toNat (.bool true)
                  rw [mb_put m5, HNN.out] at h
                  rw [List.take_add_one, HV.out]
                  exact h)
                have HLN := Aside0.mk (show ¬ i + 1 = n9 → n = lastOf o (i + 1) from fun h => by
                  unfold lastOf
                  rw [if_neg (by have := HE.out.2.2.2.2.2.1; omega), Nat.add_sub_cancel, List.getD_eq_getElem?_getD, HV.out]; rfl)
                clear m1 m2 m6
                go_wp2_with fail
                go_roundg (gk - 1)
                case measure => have := Hi.out; have := HQ.out; omega
                case rel => exact ⟨n, i + 1, by go_num, by go_num, ⟨by have := Hi.out; have := HQ.out; omega⟩, ⟨by omega, HLN.out⟩, ⟨fun jj y hj hy => by
                  by_cases hji : jj = i
                  · subst hji
                    have := HV.out
                    rw [hy] at this
                    injection this with this
                    rw [this]; exact HT3.out
                  · exact HG.out jj y (by omega) hy⟩, HPUT⟩
              · obtain ⟨j, rfl⟩ : ∃ j, i = n9 + j := ⟨i - n9, by omega⟩
                obtain ⟨ad, eA, y0⟩ := Kd.at_int (HO.out.sat HW.out).r10 (j : Int) (by omega) (by have := HE.out.2.2.2.2.2.2; have := HQ.out; omega)
                have ev : rd o.procs (j : Int) = n := by
                  have hl : j < o.procs.length := by have := HE.out.2.2.2.2.2.2; have := HQ.out; omega
                  have h := HV.out
                  unfold cellsL at h
                  have e0 : n9 + j - o.ptrs.length = j := by have := HE.out.2.2.2.2.2.1; omega
                  rw [List.getElem?_append_right (by have := HE.out.2.2.2.2.2.1; omega), e0] at h
                  have := (List.getElem?_eq_some_iff.1 h).2
                  simp [rd, hl, this]
                rw [ev] at y0
                simp only [Int.toNat_natCast] at y0
                rw [eA] at x10
                clear eA ev hn
                have q4 : (n9 + j < n9) = False := eq_false hip
                have q4' : ((n9 : Int) + (j : Int) < (n9 : Int)) = False := eq_false (by omega)
                have q8 : j < n10 := by have := HQ.out; omega
                have q9 : (j < n10) = True := eq_true q8
                have q10 : 0 ≤ (j : Int) := by omega
                have q11 : (j : Int) ≤ 100 := by omega
                have q12 : (n9 : Int) ≤ 100 := by omega
                have q13 : 0 ≤ (n9 : Int) := by omega
                clear hip
                by_cases hz : j = 0
                · have q5 : (((n9 + j : Nat) : Int) == (n9 : Int)) = true := beq_iff_eq.2 (by omega)
                  have q5' : ((n9 : Int) + (j : Int) == (n9 : Int)) = true := beq_iff_eq.2 (by omega)
                  have q6 : (j = 0) = True := eq_true hz
                  have HLE := Aside0.mk (show (-1 : Int) = lastOf o (n9 + j) from by unfold lastOf; rw [if_pos (.inl (by have := HE.out.2.2.2.2.2.1; omega))])
                  clear hz
                  by_cases m1 : n ≤ (-1)
                  · have m1a : (n ≤ (-1)) = True := eq_true m1
                    have m1b : decide (n ≤ (-1)) = true := decide_eq_true m1
                    have e : r = false := HBAD.out (fun h => by have := h.1; have := HLE.out; omega)
                    subst e
                    clear m1
                    go_wp2_with fail
                    go_ret
                    exact ⟨by rfl, HW.out.toBelow⟩
                  have m1a : (n ≤ (-1)) = False := eq_false m1
                  have m1b : decide (n ≤ (-1)) = false := decide_eq_false m1
                  by_cases m2 : o.data ≤ n
                  · have m2a : (o.data ≤ n) = True := eq_true m2
                    have m2b : decide (o.data ≤ n) = true := decide_eq_true m2
                    have e : r = false := HBAD.out (fun h => by have := h.2.1; omega)
                    subst e
                    clear m1 m2
                    go_wp2_with fail
                    go_ret
                    exact ⟨by rfl, HW.out.toBelow⟩
                  have m2a : (o.data ≤ n) = False := eq_false m2
                  have m2b : decide (o.data ≤ n) = false := decide_eq_false m2
                  have m3 : 0 ≤ n := by have := HLE.out; have := HLA.out.1; omega
                  have m4 : n < 65 := by have := HS.out.2.1; omega
                  have m5 : n.toNat < 65 := by omega
                  have HNN := Aside0.mk (show ((n.toNat : Nat) : Int) = n from by omega)
                  have y1 : wr.cell? ⟨g, n.toNat, none⟩ = some (.bool (decide (n ∈ (cellsL o).take (n9 + j)))) := by rw [get_cell (blk_at HW.out) n.toNat, mb_get m5, HNN.out]
                  have y2 : wr.frozen? ⟨g, n.toNat, none⟩ = false := get_frozen (blk_at HW.out) _
                  by_cases m6 : n ∈ (cellsL o).take (n9 + j)
                  · have e : r = false := HBAD.out (fun h => h.2.2 m6)
                    rw [decide_eq_true m6] at y1
                    subst e
                    clear m1 m2 m6
                    go_wp2_with fail
                    go_ret
                    exact ⟨by rfl, HW.out.toBelow⟩
                  rw [decide_eq_false m6] at y1
                  have HT3 := Aside0.mk (show GoodCell o (n9 + j) n from ⟨by have := HLE.out; omega, by omega, m6⟩)
                  have HPUT := Aside0.mk (show Sat w (wr.setCell ⟨g, n.toNat, none⟩ (.bool true)) [ABlk g (.cells (mbA (MB ((cellsL o).take ((n9 + j) + 1)) 65)) 4 (0, 0)), ABlk w.heap.size (.cells #[.string o.nm, .int .u32 o.key, .slice a.A2 n2 a.c2, .slice a.A3 n3 a.c3, .int .i64 o.data, .string o.text, .slice a.A6 n6 a.c6, .slice a.A7 n7 a.c7, .slice a.A8 n8 a.c8, .slice a.A9 n9 a.c9, .slice a.A10 n10 a.c10, .int .i64 o.x0, .int .i64 o.x1, .int .i64 o.x2, .int .i64 o.body] 31 (0, 0))] from by
                    have h := blk_put HW.out n.toNat (.bool true)
                    rw [mb_put m5, HNN.out] at h
                    rw [List.take_add_one, HV.out]
                    exact h)
                  have HLN := Aside0.mk (show ¬ (n9 + j) + 1 = n9 → n = lastOf o ((n9 + j) + 1) from fun h => by
                    unfold lastOf
                    rw [if_neg (by have := HE.out.2.2.2.2.2.1; omega), Nat.add_sub_cancel, List.getD_eq_getElem?_getD, HV.out]; rfl)
                  clear m1 m2 m6
                  go_wp2_with fail
                  go_roundg (gk - 1)
                  case measure => have := Hi.out; have := HQ.out; omega
                  case rel => exact ⟨n, (n9 + j) + 1, by go_num, by go_num, ⟨by have := Hi.out; have := HQ.out; omega⟩, ⟨by omega, HLN.out⟩, ⟨fun jj y hj hy => by
                    by_cases hji : jj = (n9 + j)
                    · subst hji
                      have := HV.out
                      rw [hy] at this
                      injection this with this
                      rw [this]; exact HT3.out
                    · exact HG.out jj y (by omega) hy⟩, HPUT⟩
                · have q5 : (((n9 + j : Nat) : Int) == (n9 : Int)) = false := beq_eq_false_iff_ne.2 (by omega)
                  have q5' : ((n9 : Int) + (j : Int) == (n9 : Int)) = false := beq_eq_false_iff_ne.2 (by omega)
                  have q6 : (j = 0) = False := eq_false hz
                  have HLE := Aside0.mk (show last = lastOf o (n9 + j) from HLA.out.2 (by omega))
                  clear hz
                  by_cases m1 : n ≤ last
                  · have m1a : (n ≤ last) = True := eq_true m1
                    have m1b : decide (n ≤ last) = true := decide_eq_true m1
                    have e : r = false := HBAD.out (fun h => by have := h.1; have := HLE.out; omega)
                    subst e
                    clear m1
                    go_wp2_with fail
                    go_ret
                    exact ⟨by rfl, HW.out.toBelow⟩
                  have m1a : (n ≤ last) = False := eq_false m1
                  have m1b : decide (n ≤ last) = false := decide_eq_false m1
                  by_cases m2 : o.data ≤ n
                  · have m2a : (o.data ≤ n) = True := eq_true m2
                    have m2b : decide (o.data ≤ n) = true := decide_eq_true m2
                    have e : r = false := HBAD.out (fun h => by have := h.2.1; omega)
                    subst e
                    clear m1 m2
                    go_wp2_with fail
                    go_ret
                    exact ⟨by rfl, HW.out.toBelow⟩
                  have m2a : (o.data ≤ n) = False := eq_false m2
                  have m2b : decide (o.data ≤ n) = false := decide_eq_false m2
                  have m3 : 0 ≤ n := by have := HLE.out; have := HLA.out.1; omega
                  have m4 : n < 65 := by have := HS.out.2.1; omega
                  have m5 : n.toNat < 65 := by omega
                  have HNN := Aside0.mk (show ((n.toNat : Nat) : Int) = n from by omega)
                  have y1 : wr.cell? ⟨g, n.toNat, none⟩ = some (.bool (decide (n ∈ (cellsL o).take (n9 + j)))) := by rw [get_cell (blk_at HW.out) n.toNat, mb_get m5, HNN.out]
                  have y2 : wr.frozen? ⟨g, n.toNat, none⟩ = false := get_frozen (blk_at HW.out) _
                  by_cases m6 : n ∈ (cellsL o).take (n9 + j)
                  · have e : r = false := HBAD.out (fun h => h.2.2 m6)
                    rw [decide_eq_true m6] at y1
                    subst e
                    clear m1 m2 m6
                    go_wp2_with fail
                    go_ret
                    exact ⟨by rfl, HW.out.toBelow⟩
                  rw [decide_eq_false m6] at y1
                  have HT3 := Aside0.mk (show GoodCell o (n9 + j) n from ⟨by have := HLE.out; omega, by omega, m6⟩)
                  have HPUT := Aside0.mk (show Sat w (wr.setCell ⟨g, n.toNat, none⟩ (.bool true)) [ABlk g (.cells (mbA (MB ((cellsL o).take ((n9 + j) + 1)) 65)) 4 (0, 0)), ABlk w.heap.size (.cells #[.string o.nm, .int .u32 o.key, .slice a.A2 n2 a.c2, .slice a.A3 n3 a.c3, .int .i64 o.data, .string o.text, .slice a.A6 n6 a.c6, .slice a.A7 n7 a.c7, .slice a.A8 n8 a.c8, .slice a.A9 n9 a.c9, .slice a.A10 n10 a.c10, .int .i64 o.x0, .int .i64 o.x1, .int .i64 o.x2, .int .i64 o.body] 31 (0, 0))] from by
                    have h := blk_put HW.out n.toNat (.bool true)
                    rw [mb_put m5, HNN.out] at h
                    rw [List.take_add_one, HV.out]
                    exact h)
                  have HLN := Aside0.mk (show ¬ (n9 + j) + 1 = n9 → n = lastOf o ((n9 + j) + 1) from fun h => by
                    unfold lastOf
                    rw [if_neg (by have := HE.out.2.2.2.2.2.1; omega), Nat.add_sub_cancel, List.getD_eq_getElem?_getD, HV.out]; rfl)
                  clear m1 m2 m6
                  go_wp2_with fail
                  go_roundg (gk - 1)
                  case measure => have := Hi.out; have := HQ.out; omega
                  case rel => exact ⟨n, (n9 + j) + 1, by go_num, by go_num, ⟨by have := Hi.out; have := HQ.out; omega⟩, ⟨by omega, HLN.out⟩, ⟨fun jj y hj hy => by
                    by_cases hji : jj = (n9 + j)
                    · subst hji
                      have := HV.out
                      rw [hy] at this
                      injection this with this
                      rw [this]; exact HT3.out
                    · exact HG.out jj y (by omega) hy⟩, HPUT⟩
            · have e : r = true := HR.out.2 ⟨HT.out, HT2.out, (cells_iff o).2 (fun j n hj => HG.out j n (by have := (List.getElem?_eq_some_iff.1 hj).1; have := HCL.out; omega) hj)⟩
              subst e
              have q1 : (i < n9 + n10) = False := eq_false hlt
              have q1' : ((i : Int) < (n9 : Int) + (n10 : Int)) = False := eq_false (by omega)
              clear hlt
              go_wp2_with fail
              go_ret
              exact ⟨by rfl, HW.out.toBelow⟩
end Go.Proofs.Ytnflalbiffamdaa.MineObj
