/- Objects of modules: the program's types and exports (rules 3 and 4). Conditions: the rows are short. -/
import Derived.Test.YtnflalbiffamdaaMineNames
namespace Go.Proofs.Ytnflalbiffamdaa.MineObj
open Go.RowKit Go.MapKept Go.Proofs.YtnflalbiffamdaaW.PrintWords Go.Proofs.YtnflalbiffamdaaW.PrintLast Go.Proofs.YtnflalbiffamdaaW.PrintMore Go.Proofs.Ytnflalbiffamdaa.MineBase Go.Proofs.Ytnflalbiffamdaa.MineSep Go.Proofs.Ytnflalbiffamdaa.MineRows Go.Proofs.Ytnflalbiffamdaa.MineGen Go.Proofs.Ytnflalbiffamdaa.MineName Go.Proofs.Ytnflalbiffamdaa.QCheckTells
attribute [local go_sem ↓] Go.wp_at_zero Go.wp_at_succ
set_option linter.unusedVariables false
set_option linter.unusedSimpArgs false

set_option maxRecDepth 100000 in
theorem in_calls (n m : Int) (b : Bool) (hb : b = decide (0 ≤ n ∧ n ≤ m)) (w : World) : Calls Try.prog 97 #[.int .i64 n, .int .i64 m] w fun e w' => e = .returned (.bool b) ∧ w' = w := by
  by_cases h0 : 0 ≤ n
  · have e : b = decide (n ≤ m) := by rw [hb]; simp [h0]
    subst e
    have d0 : decide (0 ≤ n) = true := decide_eq_true h0
    clear hb
    go_enter Try.func97, Try.ntmps97
    go_wp2
    go_ret
    exact ⟨by rfl, rfl⟩
  · have e : b = false := by rw [hb]; simp [h0]
    subst e
    have d0 : decide (0 ≤ n) = false := decide_eq_false h0
    have d1 : (0 ≤ n) = False := eq_false h0
    clear hb
    go_enter Try.func97, Try.ntmps97
    go_wp2
    go_ret
    exact ⟨by rfl, rfl⟩
set_option maxRecDepth 100000 in
set_option maxHeartbeats 8000000 in
theorem records_calls (o : Ob) (a : Oa) (w : World) (n2 n3 n6 n7 n8 n9 n10 : Nat) (e2 : n2 = o.imps.length) (e3 : n3 = o.typs.length) (e6 : n6 = o.code.length) (e7 : n7 = o.cmds.length) (e8 : n8 = o.exps.length) (e9 : n9 = o.ptrs.length) (e10 : n10 = o.procs.length) (hO : ObR o a w) (l3 : n3 ≤ 20) (l2 : n2 ≤ 20) (r : Bool) (hr : r = true ↔ TypesOk o ∧ o.typs.length ≤ 8) :
    Calls Try.prog 99 #[.agg #[.string o.nm, .int .u32 o.key, .slice a.A2 n2 a.c2, .slice a.A3 n3 a.c3, .int .i64 o.data, .string o.text, .slice a.A6 n6 a.c6, .slice a.A7 n7 a.c7, .slice a.A8 n8 a.c8, .slice a.A9 n9 a.c9, .slice a.A10 n10 a.c10, .int .i64 o.x0, .int .i64 o.x1, .int .i64 o.x2, .int .i64 o.body]] w fun e w' => e = .returned (.bool r) ∧ Below w.heap.size w w' := by
  have HO := Aside0.mk hO
  have HR := Aside0.mk hr
  have HE := Aside0.mk (And.intro e2 (And.intro e3 (And.intro e6 (And.intro e7 (And.intro e8 (And.intro e9 e10))))))
  have hu31 := Try.underlying31
  have hu130 := Try.underlying130
  clear hO hr e2 e3 e6 e7 e8 e9 e10
  obtain ⟨A3, hA⟩ : ∃ A3, a.A3 = A3 := ⟨_, rfl⟩
  rw [hA]
  have HA := Aside0.mk hA
  clear hA
  go_enter Try.func99, Try.ntmps99
  go_wp2_with fail
  refine wp_abs (fun W => Sat w W [ABlk w.heap.size (.cells #[.string o.nm, .int .u32 o.key, .slice a.A2 n2 a.c2, .slice A3 n3 a.c3, .int .i64 o.data, .string o.text, .slice a.A6 n6 a.c6, .slice a.A7 n7 a.c7, .slice a.A8 n8 a.c8, .slice a.A9 n9 a.c9, .slice a.A10 n10 a.c10, .int .i64 o.x0, .int .i64 o.x1, .int .i64 o.x2, .int .i64 o.body] 31 (0, 0))]) (blk_new (Sat.start w) _) (fun W hW => ?_)
  replace hW := Aside0.mk hW
  go_loopg [10] (n3 + 1) (fun kq v w' => ∃ i : Nat, v = .int .i64 i ∧ Aside0 (i ≤ n3 ∧ n3 - i < kq) ∧ Aside0 (∀ (j : Nat) (x : S130), j < i → o.typs[j]? = some x → TypeOk n2 j x) ∧ Aside0 (Sat w w' [ABlk w.heap.size (.cells #[.string o.nm, .int .u32 o.key, .slice a.A2 n2 a.c2, .slice A3 n3 a.c3, .int .i64 o.data, .string o.text, .slice a.A6 n6 a.c6, .slice a.A7 n7 a.c7, .slice a.A8 n8 a.c8, .slice a.A9 n9 a.c9, .slice a.A10 n10 a.c10, .int .i64 o.x0, .int .i64 o.x1, .int .i64 o.x2, .int .i64 o.body] 31 (0, 0))]))
  case atStart => exact ⟨0, rfl, ⟨by omega⟩, ⟨fun j x h => absurd h (by omega)⟩, hW⟩
  case round =>
    clear hW
    obtain ⟨i, rfl, Hi, HG, HW⟩ := hrel
    have x2 : wr.cell? ⟨w.heap.size, 2, none⟩ = some (.slice a.A2 n2 a.c2) := get_cell (blk_at HW.out) 2
    have x3 : wr.cell? ⟨w.heap.size, 3, none⟩ = some (.slice A3 n3 a.c3) := get_cell (blk_at HW.out) 3
    by_cases hlt : i < n3
    · obtain ⟨x, hx⟩ : ∃ x, o.typs[i]? = some x := ⟨_, List.getElem?_eq_getElem (by have := HE.out.2.1; omega)⟩
      obtain ⟨adx, eAx, y0, y1, y2⟩ := at_T130 (HO.out.sat HW.out).r3 (i : Int) (by omega) (by have := HE.out.2.1; omega)
      have evx : rd_T130 o.typs (i : Int) = x := by
        have hl := (List.getElem?_eq_some_iff.1 hx).1
        have := (List.getElem?_eq_some_iff.1 hx).2
        simp [rd_T130, hl, this]
      rw [evx] at y0 y1 y2
      simp only [Int.toNat_natCast] at y0 y1 y2
      have HV := Aside0.mk hx
      clear evx hx
      have q0 : i < n3 := hlt
      have q1 : (i < n3) = True := eq_true hlt
      have q2 : 0 ≤ (i : Int) := by omega
      have q3 : (i : Int) ≤ 100 := by omega
      clear hlt
      have HBAD := Aside0.mk (show ¬ TypeOk n2 i x → r = false from fun hn => by
        cases r with
        | false => rfl
        | true => exact absurd ((HR.out.1 rfl).1 i x HV.out) (by rw [← HE.out.1]; exact hn))
      obtain ⟨a0, a1, a2⟩ := x
      simp only at y0 y1 y2
      have HX := Aside0.mk (blk_new HW.out (.cells #[.int .i64 0, .int .i64 0, .int .i64 0] 130))
      have HX7 := Aside0.mk (blk_row (cs := #[.int .i64 a0, .int .i64 a1, .int .i64 a2]) HX.out)
      replace eAx := HA.out.symm.trans eAx
      subst eAx
      go_upto_region 4 with (refine wpList_store_row rfl 130 (.tmp 4) (.tmp 14) rfl wr.heap.size #[.int .i64 a0, .int .i64 a1, .int .i64 a2] rfl rfl 130 _ (blk_at HX.out) (by kernel_rfl) rfl (by simp [Value.oneCell']) ?_)
      refine wp_abs (fun W => Sat w W [ABlk wr.heap.size (.cells #[.int .i64 a0, .int .i64 a1, .int .i64 a2] 130 (0, 0)), ABlk w.heap.size (.cells #[.string o.nm, .int .u32 o.key, .slice a.A2 n2 a.c2, .slice (some adx) n3 a.c3, .int .i64 o.data, .string o.text, .slice a.A6 n6 a.c6, .slice a.A7 n7 a.c7, .slice a.A8 n8 a.c8, .slice a.A9 n9 a.c9, .slice a.A10 n10 a.c10, .int .i64 o.x0, .int .i64 o.x1, .int .i64 o.x2, .int .i64 o.body] 31 (0, 0))]) HX7.out (fun W7 hW7 => ?_)
      replace hW7 := Aside0.mk hW7
      clear HX HX7 y0 y1 y2 x2 x3
      have z0 : W7.cell? ⟨wr.heap.size, 0, none⟩ = some (.int .i64 a0) := get_cell (blk_at hW7.out) 0
      have z1 : W7.cell? ⟨wr.heap.size, 1, none⟩ = some (.int .i64 a1) := get_cell (blk_at hW7.out) 1
      have z2 : W7.cell? ⟨wr.heap.size, 2, none⟩ = some (.int .i64 a2) := get_cell (blk_at hW7.out) 2
      have x2 : W7.cell? ⟨w.heap.size, 2, none⟩ = some (.slice a.A2 n2 a.c2) := get_cell (blk_at hW7.out.drop) 2
      have x3 : W7.cell? ⟨w.heap.size, 3, none⟩ = some (.slice (some adx) n3 a.c3) := get_cell (blk_at hW7.out.drop) 3
      obtain ⟨bs, hbs⟩ : ∃ b, b = decide (0 ≤ a0 ∧ a0 ≤ 256) := ⟨_, rfl⟩
      have HBS := Aside0.mk hbs
      obtain ⟨bb, hbb⟩ : ∃ b, b = decide (0 ≤ a2 ∧ a2 ≤ 63) := ⟨_, rfl⟩
      have HBB := Aside0.mk hbb
      clear hbs hbb
      by_cases gz : a1 = 0
      · have gze : (a1 == 0) = true := by simpa using gz
        have gzf : (1 ≤ a1) = False := eq_false (by omega)
        have gzg : decide (1 ≤ a1) = false := decide_eq_false (by omega)
        by_cases gp1 : (-1) ≤ a2
        · have p1a : ((-1) ≤ a2) = True := eq_true gp1
          have p1b : decide ((-1) ≤ a2) = true := decide_eq_true gp1
          by_cases gp2 : a2 < ((i : Nat) : Int)
          · have p2a : (a2 < ((i : Nat) : Int)) = True := eq_true gp2
            have p2b : decide (a2 < ((i : Nat) : Int)) = true := decide_eq_true gp2
            cases bs with
            | false =>
              have hb0 := of_decide_eq_false HBS.out.symm
              have e : r = false := HBAD.out (fun h => by unfold TypeOk at h; simp only at h; omega)
              subst e
              clear hb0 gp1 gp2 gz
              go_wp2_with (first | (go_at_call 97; (with_reducible refine (in_calls a0 256 _ HBS.out _).mono ?_); rintro e6 w6 ⟨rfl, rfl⟩) | (go_at_call 97; (with_reducible refine (in_calls a2 63 _ HBB.out _).mono ?_); rintro e6 w6 ⟨rfl, rfl⟩))
              go_ret
              exact ⟨by rfl, hW7.out.toBelow⟩
            | true =>
              have hb0 := of_decide_eq_true HBS.out.symm
              have hb1 : 0 ≤ a0 := hb0.1
              by_cases gm : ¬ a0 % 4 = 0
              · have gma : (a0 % 4 != 0) = true := by simpa using gm
                have gmb : (a0 % 4 = 0) = False := eq_false gm
                have e : r = false := HBAD.out (fun h => by unfold TypeOk at h; simp only at h; omega)
                subst e
                clear hb0 gm gp1 gp2 gz
                go_wp2_with (first | (go_at_call 97; (with_reducible refine (in_calls a0 256 _ HBS.out _).mono ?_); rintro e6 w6 ⟨rfl, rfl⟩) | (go_at_call 97; (with_reducible refine (in_calls a2 63 _ HBB.out _).mono ?_); rintro e6 w6 ⟨rfl, rfl⟩))
                go_ret
                exact ⟨by rfl, hW7.out.toBelow⟩
              · replace gm : a0 % 4 = 0 := Decidable.not_not.1 gm
                have gma : (a0 % 4 != 0) = false := by simpa using gm
                have HT := Aside0.mk (show TypeOk n2 i ⟨a0, a1, a2⟩ from by unfold TypeOk; simp only; omega)
                clear hb0 gp1 gp2 gz
                go_wp2_with (first | (go_at_call 97; (with_reducible refine (in_calls a0 256 _ HBS.out _).mono ?_); rintro e6 w6 ⟨rfl, rfl⟩) | (go_at_call 97; (with_reducible refine (in_calls a2 63 _ HBB.out _).mono ?_); rintro e6 w6 ⟨rfl, rfl⟩))
                go_roundg (gk - 1)
                case measure => have := Hi.out; omega
                case rel => exact ⟨i + 1, by go_num, ⟨by have := Hi.out; omega⟩, ⟨fun j y hj hy => by
                  by_cases hji : j = i
                  · subst hji
                    have := HV.out
                    rw [hy] at this
                    injection this with this
                    rw [this]; exact HT.out
                  · exact HG.out j y (by omega) hy⟩, ⟨hW7.out.drop⟩⟩
          · have p2a : (a2 < ((i : Nat) : Int)) = False := eq_false gp2
            have p2b : decide (a2 < ((i : Nat) : Int)) = false := decide_eq_false gp2
            cases bs with
            | false =>
              have hb0 := of_decide_eq_false HBS.out.symm
              have e : r = false := HBAD.out (fun h => by unfold TypeOk at h; simp only at h; omega)
              subst e
              clear hb0 gp1 gp2 gz
              go_wp2_with (first | (go_at_call 97; (with_reducible refine (in_calls a0 256 _ HBS.out _).mono ?_); rintro e6 w6 ⟨rfl, rfl⟩) | (go_at_call 97; (with_reducible refine (in_calls a2 63 _ HBB.out _).mono ?_); rintro e6 w6 ⟨rfl, rfl⟩))
              go_ret
              exact ⟨by rfl, hW7.out.toBelow⟩
            | true =>
              have hb0 := of_decide_eq_true HBS.out.symm
              have hb1 : 0 ≤ a0 := hb0.1
              by_cases gm : ¬ a0 % 4 = 0
              · have gma : (a0 % 4 != 0) = true := by simpa using gm
                have gmb : (a0 % 4 = 0) = False := eq_false gm
                have e : r = false := HBAD.out (fun h => by unfold TypeOk at h; simp only at h; omega)
                subst e
                clear hb0 gm gp1 gp2 gz
                go_wp2_with (first | (go_at_call 97; (with_reducible refine (in_calls a0 256 _ HBS.out _).mono ?_); rintro e6 w6 ⟨rfl, rfl⟩) | (go_at_call 97; (with_reducible refine (in_calls a2 63 _ HBB.out _).mono ?_); rintro e6 w6 ⟨rfl, rfl⟩))
                go_ret
                exact ⟨by rfl, hW7.out.toBelow⟩
              · replace gm : a0 % 4 = 0 := Decidable.not_not.1 gm
                have gma : (a0 % 4 != 0) = false := by simpa using gm
                have e : r = false := HBAD.out (fun h => by unfold TypeOk at h; simp only at h; omega)
                subst e
                clear hb0 gp1 gp2 gz
                go_wp2_with (first | (go_at_call 97; (with_reducible refine (in_calls a0 256 _ HBS.out _).mono ?_); rintro e6 w6 ⟨rfl, rfl⟩) | (go_at_call 97; (with_reducible refine (in_calls a2 63 _ HBB.out _).mono ?_); rintro e6 w6 ⟨rfl, rfl⟩))
                go_ret
                exact ⟨by rfl, hW7.out.toBelow⟩
        · have p1a : ((-1) ≤ a2) = False := eq_false gp1
          have p1b : decide ((-1) ≤ a2) = false := decide_eq_false gp1
          cases bs with
          | false =>
            have hb0 := of_decide_eq_false HBS.out.symm
            have e : r = false := HBAD.out (fun h => by unfold TypeOk at h; simp only at h; omega)
            subst e
            clear hb0 gp1 gz
            go_wp2_with (first | (go_at_call 97; (with_reducible refine (in_calls a0 256 _ HBS.out _).mono ?_); rintro e6 w6 ⟨rfl, rfl⟩) | (go_at_call 97; (with_reducible refine (in_calls a2 63 _ HBB.out _).mono ?_); rintro e6 w6 ⟨rfl, rfl⟩))
            go_ret
            exact ⟨by rfl, hW7.out.toBelow⟩
          | true =>
            have hb0 := of_decide_eq_true HBS.out.symm
            have hb1 : 0 ≤ a0 := hb0.1
            by_cases gm : ¬ a0 % 4 = 0
            · have gma : (a0 % 4 != 0) = true := by simpa using gm
              have gmb : (a0 % 4 = 0) = False := eq_false gm
              have e : r = false := HBAD.out (fun h => by unfold TypeOk at h; simp only at h; omega)
              subst e
              clear hb0 gm gp1 gz
              go_wp2_with (first | (go_at_call 97; (with_reducible refine (in_calls a0 256 _ HBS.out _).mono ?_); rintro e6 w6 ⟨rfl, rfl⟩) | (go_at_call 97; (with_reducible refine (in_calls a2 63 _ HBB.out _).mono ?_); rintro e6 w6 ⟨rfl, rfl⟩))
              go_ret
              exact ⟨by rfl, hW7.out.toBelow⟩
            · replace gm : a0 % 4 = 0 := Decidable.not_not.1 gm
              have gma : (a0 % 4 != 0) = false := by simpa using gm
              have e : r = false := HBAD.out (fun h => by unfold TypeOk at h; simp only at h; omega)
              subst e
              clear hb0 gp1 gz
              go_wp2_with (first | (go_at_call 97; (with_reducible refine (in_calls a0 256 _ HBS.out _).mono ?_); rintro e6 w6 ⟨rfl, rfl⟩) | (go_at_call 97; (with_reducible refine (in_calls a2 63 _ HBB.out _).mono ?_); rintro e6 w6 ⟨rfl, rfl⟩))
              go_ret
              exact ⟨by rfl, hW7.out.toBelow⟩
      · have gze : (a1 == 0) = false := by simpa using gz
        have gzf : (a1 = 0) = False := eq_false gz
        by_cases gp1 : 1 ≤ a1
        · have p1a : (1 ≤ a1) = True := eq_true gp1
          have p1b : decide (1 ≤ a1) = true := decide_eq_true gp1
          by_cases gp2 : a1 ≤ ((n2 : Nat) : Int)
          · have p2a : (a1 ≤ ((n2 : Nat) : Int)) = True := eq_true gp2
            have p2b : decide (a1 ≤ ((n2 : Nat) : Int)) = true := decide_eq_true gp2
            cases bb with
            | false =>
              have hc0 := of_decide_eq_false HBB.out.symm
              cases bs with
              | false =>
                have hb0 := of_decide_eq_false HBS.out.symm
                have e : r = false := HBAD.out (fun h => by unfold TypeOk at h; simp only at h; omega)
                subst e
                clear hb0 hc0 gp1 gp2 gz
                go_wp2_with (first | (go_at_call 97; (with_reducible refine (in_calls a0 256 _ HBS.out _).mono ?_); rintro e6 w6 ⟨rfl, rfl⟩) | (go_at_call 97; (with_reducible refine (in_calls a2 63 _ HBB.out _).mono ?_); rintro e6 w6 ⟨rfl, rfl⟩))
                go_ret
                exact ⟨by rfl, hW7.out.toBelow⟩
              | true =>
                have hb0 := of_decide_eq_true HBS.out.symm
                have hb1 : 0 ≤ a0 := hb0.1
                by_cases gm : ¬ a0 % 4 = 0
                · have gma : (a0 % 4 != 0) = true := by simpa using gm
                  have gmb : (a0 % 4 = 0) = False := eq_false gm
                  have e : r = false := HBAD.out (fun h => by unfold TypeOk at h; simp only at h; omega)
                  subst e
                  clear hb0 gm hc0 gp1 gp2 gz
                  go_wp2_with (first | (go_at_call 97; (with_reducible refine (in_calls a0 256 _ HBS.out _).mono ?_); rintro e6 w6 ⟨rfl, rfl⟩) | (go_at_call 97; (with_reducible refine (in_calls a2 63 _ HBB.out _).mono ?_); rintro e6 w6 ⟨rfl, rfl⟩))
                  go_ret
                  exact ⟨by rfl, hW7.out.toBelow⟩
                · replace gm : a0 % 4 = 0 := Decidable.not_not.1 gm
                  have gma : (a0 % 4 != 0) = false := by simpa using gm
                  have e : r = false := HBAD.out (fun h => by unfold TypeOk at h; simp only at h; omega)
                  subst e
                  clear hb0 hc0 gp1 gp2 gz
                  go_wp2_with (first | (go_at_call 97; (with_reducible refine (in_calls a0 256 _ HBS.out _).mono ?_); rintro e6 w6 ⟨rfl, rfl⟩) | (go_at_call 97; (with_reducible refine (in_calls a2 63 _ HBB.out _).mono ?_); rintro e6 w6 ⟨rfl, rfl⟩))
                  go_ret
                  exact ⟨by rfl, hW7.out.toBelow⟩
            | true =>
              have hc0 := of_decide_eq_true HBB.out.symm
              cases bs with
              | false =>
                have hb0 := of_decide_eq_false HBS.out.symm
                have e : r = false := HBAD.out (fun h => by unfold TypeOk at h; simp only at h; omega)
                subst e
                clear hb0 hc0 gp1 gp2 gz
                go_wp2_with (first | (go_at_call 97; (with_reducible refine (in_calls a0 256 _ HBS.out _).mono ?_); rintro e6 w6 ⟨rfl, rfl⟩) | (go_at_call 97; (with_reducible refine (in_calls a2 63 _ HBB.out _).mono ?_); rintro e6 w6 ⟨rfl, rfl⟩))
                go_ret
                exact ⟨by rfl, hW7.out.toBelow⟩
              | true =>
                have hb0 := of_decide_eq_true HBS.out.symm
                have hb1 : 0 ≤ a0 := hb0.1
                by_cases gm : ¬ a0 % 4 = 0
                · have gma : (a0 % 4 != 0) = true := by simpa using gm
                  have gmb : (a0 % 4 = 0) = False := eq_false gm
                  have e : r = false := HBAD.out (fun h => by unfold TypeOk at h; simp only at h; omega)
                  subst e
                  clear hb0 gm hc0 gp1 gp2 gz
                  go_wp2_with (first | (go_at_call 97; (with_reducible refine (in_calls a0 256 _ HBS.out _).mono ?_); rintro e6 w6 ⟨rfl, rfl⟩) | (go_at_call 97; (with_reducible refine (in_calls a2 63 _ HBB.out _).mono ?_); rintro e6 w6 ⟨rfl, rfl⟩))
                  go_ret
                  exact ⟨by rfl, hW7.out.toBelow⟩
                · replace gm : a0 % 4 = 0 := Decidable.not_not.1 gm
                  have gma : (a0 % 4 != 0) = false := by simpa using gm
                  have HT := Aside0.mk (show TypeOk n2 i ⟨a0, a1, a2⟩ from by unfold TypeOk; simp only; omega)
                  clear hb0 hc0 gp1 gp2 gz
                  go_wp2_with (first | (go_at_call 97; (with_reducible refine (in_calls a0 256 _ HBS.out _).mono ?_); rintro e6 w6 ⟨rfl, rfl⟩) | (go_at_call 97; (with_reducible refine (in_calls a2 63 _ HBB.out _).mono ?_); rintro e6 w6 ⟨rfl, rfl⟩))
                  go_roundg (gk - 1)
                  case measure => have := Hi.out; omega
                  case rel => exact ⟨i + 1, by go_num, ⟨by have := Hi.out; omega⟩, ⟨fun j y hj hy => by
                    by_cases hji : j = i
                    · subst hji
                      have := HV.out
                      rw [hy] at this
                      injection this with this
                      rw [this]; exact HT.out
                    · exact HG.out j y (by omega) hy⟩, ⟨hW7.out.drop⟩⟩
          · have p2a : (a1 ≤ ((n2 : Nat) : Int)) = False := eq_false gp2
            have p2b : decide (a1 ≤ ((n2 : Nat) : Int)) = false := decide_eq_false gp2
            cases bs with
            | false =>
              have hb0 := of_decide_eq_false HBS.out.symm
              have e : r = false := HBAD.out (fun h => by unfold TypeOk at h; simp only at h; omega)
              subst e
              clear hb0 gp1 gp2 gz
              go_wp2_with (first | (go_at_call 97; (with_reducible refine (in_calls a0 256 _ HBS.out _).mono ?_); rintro e6 w6 ⟨rfl, rfl⟩) | (go_at_call 97; (with_reducible refine (in_calls a2 63 _ HBB.out _).mono ?_); rintro e6 w6 ⟨rfl, rfl⟩))
              go_ret
              exact ⟨by rfl, hW7.out.toBelow⟩
            | true =>
              have hb0 := of_decide_eq_true HBS.out.symm
              have hb1 : 0 ≤ a0 := hb0.1
              by_cases gm : ¬ a0 % 4 = 0
              · have gma : (a0 % 4 != 0) = true := by simpa using gm
                have gmb : (a0 % 4 = 0) = False := eq_false gm
                have e : r = false := HBAD.out (fun h => by unfold TypeOk at h; simp only at h; omega)
                subst e
                clear hb0 gm gp1 gp2 gz
                go_wp2_with (first | (go_at_call 97; (with_reducible refine (in_calls a0 256 _ HBS.out _).mono ?_); rintro e6 w6 ⟨rfl, rfl⟩) | (go_at_call 97; (with_reducible refine (in_calls a2 63 _ HBB.out _).mono ?_); rintro e6 w6 ⟨rfl, rfl⟩))
                go_ret
                exact ⟨by rfl, hW7.out.toBelow⟩
              · replace gm : a0 % 4 = 0 := Decidable.not_not.1 gm
                have gma : (a0 % 4 != 0) = false := by simpa using gm
                have e : r = false := HBAD.out (fun h => by unfold TypeOk at h; simp only at h; omega)
                subst e
                clear hb0 gp1 gp2 gz
                go_wp2_with (first | (go_at_call 97; (with_reducible refine (in_calls a0 256 _ HBS.out _).mono ?_); rintro e6 w6 ⟨rfl, rfl⟩) | (go_at_call 97; (with_reducible refine (in_calls a2 63 _ HBB.out _).mono ?_); rintro e6 w6 ⟨rfl, rfl⟩))
                go_ret
                exact ⟨by rfl, hW7.out.toBelow⟩
        · have p1a : (1 ≤ a1) = False := eq_false gp1
          have p1b : decide (1 ≤ a1) = false := decide_eq_false gp1
          cases bs with
          | false =>
            have hb0 := of_decide_eq_false HBS.out.symm
            have e : r = false := HBAD.out (fun h => by unfold TypeOk at h; simp only at h; omega)
            subst e
            clear hb0 gp1 gz
            go_wp2_with (first | (go_at_call 97; (with_reducible refine (in_calls a0 256 _ HBS.out _).mono ?_); rintro e6 w6 ⟨rfl, rfl⟩) | (go_at_call 97; (with_reducible refine (in_calls a2 63 _ HBB.out _).mono ?_); rintro e6 w6 ⟨rfl, rfl⟩))
            go_ret
            exact ⟨by rfl, hW7.out.toBelow⟩
          | true =>
            have hb0 := of_decide_eq_true HBS.out.symm
            have hb1 : 0 ≤ a0 := hb0.1
            by_cases gm : ¬ a0 % 4 = 0
            · have gma : (a0 % 4 != 0) = true := by simpa using gm
              have gmb : (a0 % 4 = 0) = False := eq_false gm
              have e : r = false := HBAD.out (fun h => by unfold TypeOk at h; simp only at h; omega)
              subst e
              clear hb0 gm gp1 gz
              go_wp2_with (first | (go_at_call 97; (with_reducible refine (in_calls a0 256 _ HBS.out _).mono ?_); rintro e6 w6 ⟨rfl, rfl⟩) | (go_at_call 97; (with_reducible refine (in_calls a2 63 _ HBB.out _).mono ?_); rintro e6 w6 ⟨rfl, rfl⟩))
              go_ret
              exact ⟨by rfl, hW7.out.toBelow⟩
            · replace gm : a0 % 4 = 0 := Decidable.not_not.1 gm
              have gma : (a0 % 4 != 0) = false := by simpa using gm
              have e : r = false := HBAD.out (fun h => by unfold TypeOk at h; simp only at h; omega)
              subst e
              clear hb0 gp1 gz
              go_wp2_with (first | (go_at_call 97; (with_reducible refine (in_calls a0 256 _ HBS.out _).mono ?_); rintro e6 w6 ⟨rfl, rfl⟩) | (go_at_call 97; (with_reducible refine (in_calls a2 63 _ HBB.out _).mono ?_); rintro e6 w6 ⟨rfl, rfl⟩))
              go_ret
              exact ⟨by rfl, hW7.out.toBelow⟩
    · have HT := Aside0.mk (show TypesOk o from fun j x hj => by rw [← HE.out.1]; exact HG.out j x (by have := (List.getElem?_eq_some_iff.1 hj).1; have := HE.out.2.1; omega) hj)
      have q1 : (i < n3) = False := eq_false hlt
      clear hlt HG x2
      have e : r = decide (n3 ≤ 8) := by
        rw [Bool.eq_iff_iff, HR.out, decide_eq_true_iff, HE.out.2.1]
        exact ⟨fun h => h.2, fun h => ⟨HT.out, h⟩⟩
      by_cases gk : n3 ≤ 8
      · have ka : (n3 ≤ 8) = True := eq_true gk
        have kb : decide (n3 ≤ 8) = true := decide_eq_true gk
        have e2 : r = true := by rw [e, kb]
        subst e2
        have kc : ((n3 : Nat) : Int) ≤ 8 := by omega
        clear e gk
        go_wp2_with fail
        go_ret
        exact ⟨by rfl, HW.out.toBelow⟩
      · have ka : (n3 ≤ 8) = False := eq_false gk
        have kb : decide (n3 ≤ 8) = false := decide_eq_false gk
        have e2 : r = false := by rw [e, kb]
        subst e2
        have kc : (((n3 : Nat) : Int) ≤ 8) = False := eq_false (by omega)
        clear e gk
        go_wp2_with fail
        go_ret
        exact ⟨by rfl, HW.out.toBelow⟩
set_option maxRecDepth 100000 in
set_option maxHeartbeats 8000000 in
theorem exports_calls (o : Ob) (a : Oa) (w : World) (n2 n3 n6 n7 n8 n9 n10 : Nat) (e2 : n2 = o.imps.length) (e3 : n3 = o.typs.length) (e6 : n6 = o.code.length) (e7 : n7 = o.cmds.length) (e8 : n8 = o.exps.length) (e9 : n9 = o.ptrs.length) (e10 : n10 = o.procs.length) (hO : ObR o a w) (l8 : n8 ≤ 300) (l6 : n6 ≤ 1100) (l3 : n3 ≤ 20) (hda : -9223372036854775808 ≤ o.data ∧ o.data ≤ 9223372036854775807) (hd : 0 ≤ o.data) (r : Bool) (hr : r = true ↔ ExpsOk o ∧ o.exps.length ≤ 64) :
    Calls Try.prog 100 #[.agg #[.string o.nm, .int .u32 o.key, .slice a.A2 n2 a.c2, .slice a.A3 n3 a.c3, .int .i64 o.data, .string o.text, .slice a.A6 n6 a.c6, .slice a.A7 n7 a.c7, .slice a.A8 n8 a.c8, .slice a.A9 n9 a.c9, .slice a.A10 n10 a.c10, .int .i64 o.x0, .int .i64 o.x1, .int .i64 o.x2, .int .i64 o.body]] w fun e w' => e = .returned (.bool r) ∧ Below w.heap.size w w' := by
  have HO := Aside0.mk hO
  have HR := Aside0.mk hr
  have HE := Aside0.mk (And.intro e2 (And.intro e3 (And.intro e6 (And.intro e7 (And.intro e8 (And.intro e9 e10))))))
  have hu31 := Try.underlying31
  have hu43 := Try.underlying43
  clear hO hr e2 e3 e6 e7 e8 e9 e10
  have hd2 := hda.2
  clear hda
  obtain ⟨A8, hA⟩ : ∃ A8, a.A8 = A8 := ⟨_, rfl⟩
  rw [hA]
  have HA := Aside0.mk hA
  clear hA
  go_enter Try.func100, Try.ntmps100
  go_wp2_with fail
  refine wp_abs (fun W => Sat w W [ABlk w.heap.size (.cells #[.string o.nm, .int .u32 o.key, .slice a.A2 n2 a.c2, .slice a.A3 n3 a.c3, .int .i64 o.data, .string o.text, .slice a.A6 n6 a.c6, .slice a.A7 n7 a.c7, .slice A8 n8 a.c8, .slice a.A9 n9 a.c9, .slice a.A10 n10 a.c10, .int .i64 o.x0, .int .i64 o.x1, .int .i64 o.x2, .int .i64 o.body] 31 (0, 0))]) (blk_new (Sat.start w) _) (fun W hW => ?_)
  replace hW := Aside0.mk hW
  go_loopg [9] (n8 + 1) (fun kq v w' => ∃ i : Nat, v = .int .i64 i ∧ Aside0 (i ≤ n8 ∧ n8 - i < kq) ∧ Aside0 (∀ (j : Nat) (x : S43), j < i → o.exps[j]? = some x → ExpOk o x) ∧ Aside0 (Sat w w' [ABlk w.heap.size (.cells #[.string o.nm, .int .u32 o.key, .slice a.A2 n2 a.c2, .slice a.A3 n3 a.c3, .int .i64 o.data, .string o.text, .slice a.A6 n6 a.c6, .slice a.A7 n7 a.c7, .slice A8 n8 a.c8, .slice a.A9 n9 a.c9, .slice a.A10 n10 a.c10, .int .i64 o.x0, .int .i64 o.x1, .int .i64 o.x2, .int .i64 o.body] 31 (0, 0))]))
  case atStart => exact ⟨0, rfl, ⟨by omega⟩, ⟨fun j x h => absurd h (by omega)⟩, hW⟩
  case round =>
    clear hW
    obtain ⟨i, rfl, Hi, HG, HW⟩ := hrel
    have x3 : wr.cell? ⟨w.heap.size, 3, none⟩ = some (.slice a.A3 n3 a.c3) := get_cell (blk_at HW.out) 3
    have x4 : wr.cell? ⟨w.heap.size, 4, none⟩ = some (.int .i64 o.data) := get_cell (blk_at HW.out) 4
    have x6 : wr.cell? ⟨w.heap.size, 6, none⟩ = some (.slice a.A6 n6 a.c6) := get_cell (blk_at HW.out) 6
    have x8 : wr.cell? ⟨w.heap.size, 8, none⟩ = some (.slice A8 n8 a.c8) := get_cell (blk_at HW.out) 8
    by_cases hlt : i < n8
    · obtain ⟨x, hx⟩ : ∃ x, o.exps[i]? = some x := ⟨_, List.getElem?_eq_getElem (by have := HE.out.2.2.2.2.1; omega)⟩
      obtain ⟨adx, eAx, y0, y1⟩ := at_T43 (HO.out.sat HW.out).r8 (i : Int) (by omega) (by have := HE.out.2.2.2.2.1; omega)
      have evx : rd_T43 o.exps (i : Int) = x := by
        have hl := (List.getElem?_eq_some_iff.1 hx).1
        have := (List.getElem?_eq_some_iff.1 hx).2
        simp [rd_T43, hl, this]
      rw [evx] at y0 y1
      simp only [Int.toNat_natCast] at y0 y1
      have HV := Aside0.mk hx
      clear evx hx
      have q0 : i < n8 := hlt
      have q1 : (i < n8) = True := eq_true hlt
      have q2 : 0 ≤ (i : Int) := by omega
      have q3 : (i : Int) ≤ 300 := by omega
      clear hlt
      have HBAD := Aside0.mk (show ¬ ExpOk o x → r = false from fun hn => by
        cases r with
        | false => rfl
        | true => exact absurd ((HR.out.1 rfl).1 i x HV.out) hn)
      have HEQ : ExpOk o x = (0 ≤ x.f1 ∧ (x.f0 = 0 ∧ x.f1 < n6 ∨ x.f0 = 1 ∧ x.f1 < o.data ∨ x.f0 = 2 ∧ x.f1 < n3)) := by unfold ExpOk; rw [HE.out.2.1, HE.out.2.2.1]
      obtain ⟨b0, b1⟩ := x
      simp only at y0 y1 HEQ
      replace HEQ := Aside0.mk HEQ
      have HX := Aside0.mk (blk_new HW.out (.cells #[.int .i64 0, .int .i64 0] 43))
      have HX7 := Aside0.mk (blk_row (cs := #[.int .i64 b0, .int .i64 b1]) HX.out)
      replace eAx := HA.out.symm.trans eAx
      subst eAx
      go_upto_region 4 with (refine wpList_store_row rfl 43 (.tmp 4) (.tmp 12) rfl wr.heap.size #[.int .i64 b0, .int .i64 b1] rfl rfl 43 _ (blk_at HX.out) (by kernel_rfl) rfl (by simp [Value.oneCell']) ?_)
      refine wp_abs (fun W => Sat w W [ABlk wr.heap.size (.cells #[.int .i64 b0, .int .i64 b1] 43 (0, 0)), ABlk w.heap.size (.cells #[.string o.nm, .int .u32 o.key, .slice a.A2 n2 a.c2, .slice a.A3 n3 a.c3, .int .i64 o.data, .string o.text, .slice a.A6 n6 a.c6, .slice a.A7 n7 a.c7, .slice (some adx) n8 a.c8, .slice a.A9 n9 a.c9, .slice a.A10 n10 a.c10, .int .i64 o.x0, .int .i64 o.x1, .int .i64 o.x2, .int .i64 o.body] 31 (0, 0))]) HX7.out (fun W7 hW7 => ?_)
      replace hW7 := Aside0.mk hW7
      clear HX HX7 y0 y1 x3 x4 x6 x8
      have z0 : W7.cell? ⟨wr.heap.size, 0, none⟩ = some (.int .i64 b0) := get_cell (blk_at hW7.out) 0
      have z1 : W7.cell? ⟨wr.heap.size, 1, none⟩ = some (.int .i64 b1) := get_cell (blk_at hW7.out) 1
      have x3 : W7.cell? ⟨w.heap.size, 3, none⟩ = some (.slice a.A3 n3 a.c3) := get_cell (blk_at hW7.out.drop) 3
      have x4 : W7.cell? ⟨w.heap.size, 4, none⟩ = some (.int .i64 o.data) := get_cell (blk_at hW7.out.drop) 4
      have x6 : W7.cell? ⟨w.heap.size, 6, none⟩ = some (.slice a.A6 n6 a.c6) := get_cell (blk_at hW7.out.drop) 6
      have x8 : W7.cell? ⟨w.heap.size, 8, none⟩ = some (.slice (some adx) n8 a.c8) := get_cell (blk_at hW7.out.drop) 8
      by_cases gb0 : b0 = 0
      · subst gb0
        obtain ⟨bs, hbs⟩ : ∃ b, b = decide (0 ≤ b1 ∧ b1 ≤ ((n6 : Nat) : Int) - 1) := ⟨_, rfl⟩
        have HBS := Aside0.mk hbs
        clear hbs
        cases bs with
        | false =>
          have hb0 := of_decide_eq_false HBS.out.symm
          have e : r = false := HBAD.out (fun h => by rw [HEQ.out] at h; omega)
          subst e
          clear hb0 
          go_wp2_with (go_at_call 97; (with_reducible refine (in_calls b1 _ _ HBS.out _).mono ?_); rintro e6 w6 ⟨rfl, rfl⟩)
          go_ret
          exact ⟨by rfl, hW7.out.toBelow⟩
        | true =>
          have hb0 := of_decide_eq_true HBS.out.symm
          have HT := Aside0.mk (show ExpOk o ⟨0, b1⟩ from by rw [HEQ.out]; omega)
          clear hb0 
          go_wp2_with (go_at_call 97; (with_reducible refine (in_calls b1 _ _ HBS.out _).mono ?_); rintro e6 w6 ⟨rfl, rfl⟩)
          go_roundg (gk - 1)
          case measure => have := Hi.out; omega
          case rel => exact ⟨i + 1, by go_num, ⟨by have := Hi.out; omega⟩, ⟨fun j y hj hy => by
            by_cases hji : j = i
            · subst hji
              have := HV.out
              rw [hy] at this
              injection this with this
              rw [this]; exact HT.out
            · exact HG.out j y (by omega) hy⟩, ⟨hW7.out.drop⟩⟩
      have k0 : (b0 == 0) = false := by simpa using gb0
      have k0d : (b0 = 0) = False := eq_false gb0
      by_cases gb1 : b0 = 1
      · subst gb1
        obtain ⟨bs, hbs⟩ : ∃ b, b = decide (0 ≤ b1 ∧ b1 ≤ o.data - 1) := ⟨_, rfl⟩
        have HBS := Aside0.mk hbs
        clear hbs
        cases bs with
        | false =>
          have hb0 := of_decide_eq_false HBS.out.symm
          have e : r = false := HBAD.out (fun h => by rw [HEQ.out] at h; omega)
          subst e
          clear hb0 gb0
          go_wp2_with (go_at_call 97; (with_reducible refine (in_calls b1 _ _ HBS.out _).mono ?_); rintro e6 w6 ⟨rfl, rfl⟩)
          go_ret
          exact ⟨by rfl, hW7.out.toBelow⟩
        | true =>
          have hb0 := of_decide_eq_true HBS.out.symm
          have HT := Aside0.mk (show ExpOk o ⟨1, b1⟩ from by rw [HEQ.out]; omega)
          clear hb0 gb0
          go_wp2_with (go_at_call 97; (with_reducible refine (in_calls b1 _ _ HBS.out _).mono ?_); rintro e6 w6 ⟨rfl, rfl⟩)
          go_roundg (gk - 1)
          case measure => have := Hi.out; omega
          case rel => exact ⟨i + 1, by go_num, ⟨by have := Hi.out; omega⟩, ⟨fun j y hj hy => by
            by_cases hji : j = i
            · subst hji
              have := HV.out
              rw [hy] at this
              injection this with this
              rw [this]; exact HT.out
            · exact HG.out j y (by omega) hy⟩, ⟨hW7.out.drop⟩⟩
      have k1 : (b0 == 1) = false := by simpa using gb1
      have k1d : (b0 = 1) = False := eq_false gb1
      by_cases gb2 : b0 = 2
      · subst gb2
        obtain ⟨bs, hbs⟩ : ∃ b, b = decide (0 ≤ b1 ∧ b1 ≤ ((n3 : Nat) : Int) - 1) := ⟨_, rfl⟩
        have HBS := Aside0.mk hbs
        clear hbs
        cases bs with
        | false =>
          have hb0 := of_decide_eq_false HBS.out.symm
          have e : r = false := HBAD.out (fun h => by rw [HEQ.out] at h; omega)
          subst e
          clear hb0 gb0 gb1
          go_wp2_with (go_at_call 97; (with_reducible refine (in_calls b1 _ _ HBS.out _).mono ?_); rintro e6 w6 ⟨rfl, rfl⟩)
          go_ret
          exact ⟨by rfl, hW7.out.toBelow⟩
        | true =>
          have hb0 := of_decide_eq_true HBS.out.symm
          have HT := Aside0.mk (show ExpOk o ⟨2, b1⟩ from by rw [HEQ.out]; omega)
          clear hb0 gb0 gb1
          go_wp2_with (go_at_call 97; (with_reducible refine (in_calls b1 _ _ HBS.out _).mono ?_); rintro e6 w6 ⟨rfl, rfl⟩)
          go_roundg (gk - 1)
          case measure => have := Hi.out; omega
          case rel => exact ⟨i + 1, by go_num, ⟨by have := Hi.out; omega⟩, ⟨fun j y hj hy => by
            by_cases hji : j = i
            · subst hji
              have := HV.out
              rw [hy] at this
              injection this with this
              rw [this]; exact HT.out
            · exact HG.out j y (by omega) hy⟩, ⟨hW7.out.drop⟩⟩
      have k2 : (b0 == 2) = false := by simpa using gb2
      have k2d : (b0 = 2) = False := eq_false gb2
      obtain ⟨bs, hbs⟩ : ∃ b, b = decide (0 ≤ b1 ∧ b1 ≤ (-2)) := ⟨_, rfl⟩
      have HBS := Aside0.mk hbs
      clear hbs
      cases bs with
      | false =>
        have hb0 := of_decide_eq_false HBS.out.symm
        have e : r = false := HBAD.out (fun h => by rw [HEQ.out] at h; omega)
        subst e
        clear hb0 gb0 gb1 gb2
        go_wp2_with (go_at_call 97; (with_reducible refine (in_calls b1 _ _ HBS.out _).mono ?_); rintro e6 w6 ⟨rfl, rfl⟩)
        go_ret
        exact ⟨by rfl, hW7.out.toBelow⟩
      | true =>
        have hb0 := of_decide_eq_true HBS.out.symm
        exfalso; omega
    · have HT := Aside0.mk (show ExpsOk o from fun j x hj => HG.out j x (by have := (List.getElem?_eq_some_iff.1 hj).1; have := HE.out.2.2.2.2.1; omega) hj)
      have q1 : (i < n8) = False := eq_false hlt
      clear hlt HG
      have e : r = decide (n8 ≤ 64) := by
        rw [Bool.eq_iff_iff, HR.out, decide_eq_true_iff, HE.out.2.2.2.2.1]
        exact ⟨fun h => h.2, fun h => ⟨HT.out, h⟩⟩
      by_cases gk : n8 ≤ 64
      · have ka : (n8 ≤ 64) = True := eq_true gk
        have kb : decide (n8 ≤ 64) = true := decide_eq_true gk
        have e2 : r = true := by rw [e, kb]
        subst e2
        have kc : ((n8 : Nat) : Int) ≤ 64 := by omega
        clear e gk
        go_wp2_with fail
        go_ret
        exact ⟨by rfl, HW.out.toBelow⟩
      · have ka : (n8 ≤ 64) = False := eq_false gk
        have kb : decide (n8 ≤ 64) = false := decide_eq_false gk
        have e2 : r = false := by rw [e, kb]
        subst e2
        have kc : (((n8 : Nat) : Int) ≤ 64) = False := eq_false (by omega)
        clear e gk
        go_wp2_with fail
        go_ret
        exact ⟨by rfl, HW.out.toBelow⟩
end Go.Proofs.Ytnflalbiffamdaa.MineObj
