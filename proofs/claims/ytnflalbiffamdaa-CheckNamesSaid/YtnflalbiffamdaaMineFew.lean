/- Objects of modules: whether an object's parts are few, and short. No condition. -/
import Derived.Test.YtnflalbiffamdaaMineNames
namespace Go.Proofs.Ytnflalbiffamdaa.MineObj
open Go.RowKit Go.MapKept Go.Proofs.YtnflalbiffamdaaW.PrintWords Go.Proofs.YtnflalbiffamdaaW.PrintLast Go.Proofs.YtnflalbiffamdaaW.PrintMore Go.Proofs.Ytnflalbiffamdaa.MineBase Go.Proofs.Ytnflalbiffamdaa.MineSep Go.Proofs.Ytnflalbiffamdaa.MineRows Go.Proofs.Ytnflalbiffamdaa.MineGen Go.Proofs.Ytnflalbiffamdaa.MineName Go.Proofs.Ytnflalbiffamdaa.QCheckTells
attribute [local go_sem ↓] Go.wp_at_zero Go.wp_at_succ
set_option linter.unusedVariables false
set_option linter.unusedSimpArgs false

set_option maxRecDepth 100000 in
set_option maxHeartbeats 8000000 in
theorem fewIs_calls (o : Ob) (a : Oa) (w : World) (n2 n3 n6 n7 n8 n9 n10 : Nat) (e2 : n2 = o.imps.length) (e3 : n3 = o.typs.length) (e6 : n6 = o.code.length) (e7 : n7 = o.cmds.length) (e8 : n8 = o.exps.length) (e9 : n9 = o.ptrs.length) (e10 : n10 = o.procs.length) (hO : ObR o a w) (r : Bool) (hr : r = true ↔ FewOk o) :
    Calls Try.prog 51 #[.agg #[.string o.nm, .int .u32 o.key, .slice a.A2 n2 a.c2, .slice a.A3 n3 a.c3, .int .i64 o.data, .string o.text, .slice a.A6 n6 a.c6, .slice a.A7 n7 a.c7, .slice a.A8 n8 a.c8, .slice a.A9 n9 a.c9, .slice a.A10 n10 a.c10, .int .i64 o.x0, .int .i64 o.x1, .int .i64 o.x2, .int .i64 o.body]] w fun e w' => e = .returned (.bool r) ∧ Below w.heap.size w w' := by
  have HM := Aside0.mk (show n2 ≤ 9223372036854775807 ∧ n7 ≤ 9223372036854775807 from ⟨by rw [e2]; exact hO.r2.2.1, by rw [e7]; exact hO.r7.2.1⟩)
  have HO := Aside0.mk hO
  have HR := Aside0.mk hr
  have HE := Aside0.mk (And.intro e2 (And.intro e3 (And.intro e6 (And.intro e7 (And.intro e8 (And.intro e9 e10))))))
  have hu31 := Try.underlying31
  clear hO hr e2 e3 e6 e7 e8 e9 e10
  go_enter Try.func51, Try.ntmps51
  go_wp2_with fail
  refine wp_abs (fun W => Sat w W [ABlk w.heap.size (.cells #[.string o.nm, .int .u32 o.key, .slice a.A2 n2 a.c2, .slice a.A3 n3 a.c3, .int .i64 o.data, .string o.text, .slice a.A6 n6 a.c6, .slice a.A7 n7 a.c7, .slice a.A8 n8 a.c8, .slice a.A9 n9 a.c9, .slice a.A10 n10 a.c10, .int .i64 o.x0, .int .i64 o.x1, .int .i64 o.x2, .int .i64 o.body] 31 (0, 0))]) (blk_new (Sat.start w) _) (fun W hW => ?_)
  replace hW := Aside0.mk hW
  go_loopg [3] (n2 + 1) (fun kq v w' => ∃ i : Nat, v = .int .i64 i ∧ Aside0 (i ≤ n2 ∧ n2 - i < kq) ∧ Aside0 (∀ (j : Nat) (x : S92), j < i → o.imps[j]? = some x → x.f0.size ≤ 300) ∧ Aside0 (Sat w w' [ABlk w.heap.size (.cells #[.string o.nm, .int .u32 o.key, .slice a.A2 n2 a.c2, .slice a.A3 n3 a.c3, .int .i64 o.data, .string o.text, .slice a.A6 n6 a.c6, .slice a.A7 n7 a.c7, .slice a.A8 n8 a.c8, .slice a.A9 n9 a.c9, .slice a.A10 n10 a.c10, .int .i64 o.x0, .int .i64 o.x1, .int .i64 o.x2, .int .i64 o.body] 31 (0, 0))]))
  case atStart => exact ⟨0, rfl, ⟨by omega⟩, ⟨fun j x h => absurd h (by omega)⟩, hW⟩
  case round =>
    clear hW
    obtain ⟨i, rfl, Hi, HG, HW⟩ := hrel
    have x2 : wr.cell? ⟨w.heap.size, 2, none⟩ = some (.slice a.A2 n2 a.c2) := get_cell (blk_at HW.out) 2
    by_cases hlt : i < n2
    · obtain ⟨x, hx⟩ : ∃ x, o.imps[i]? = some x := ⟨_, List.getElem?_eq_getElem (by have := HE.out.1; omega)⟩
      obtain ⟨adx, eAx, y0, y1⟩ := at_T92 (HO.out.sat HW.out).r2 (i : Int) (by omega) (by have := HE.out.1; omega)
      have evx : rd_T92 o.imps (i : Int) = x := by
        have hl := (List.getElem?_eq_some_iff.1 hx).1
        have := (List.getElem?_eq_some_iff.1 hx).2
        simp [rd_T92, hl, this]
      rw [evx] at y0 y1
      simp only [Int.toNat_natCast] at y0 y1
      have HV := Aside0.mk hx
      rw [eAx] at x2
      have q1 : (i < n2) = True := eq_true hlt
      have q2 : 0 ≤ (i : Int) := by omega
      have hwr : wrap64 ((i : Int) + 1) = (i : Int) + 1 := by have := HM.out; unfold wrap64; omega
      have HQ := Aside0.mk hlt
      clear hlt evx hx eAx y1
      by_cases gz : 300 < ((x.f0.size : Nat) : Int)
      · have za : (300 < ((x.f0.size : Nat) : Int)) = True := eq_true gz
        have zb : decide (300 < ((x.f0.size : Nat) : Int)) = true := decide_eq_true gz
        have e : r = false := by
          cases r with
          | false => rfl
          | true => exact absurd ((HR.out.1 rfl).imp x (List.mem_iff_getElem?.2 ⟨i, HV.out⟩)) (by omega)
        have zc : (300 < x.f0.size) = True := eq_true (by omega)
        subst e
        clear gz
        go_wp2_with fail
        go_ret
        exact ⟨by rfl, HW.out.toBelow⟩
      · have za : (300 < ((x.f0.size : Nat) : Int)) = False := eq_false gz
        have zb : decide (300 < ((x.f0.size : Nat) : Int)) = false := decide_eq_false gz
        have zc : (300 < x.f0.size) = False := eq_false (by omega)
        have HT := Aside0.mk (show x.f0.size ≤ 300 from by omega)
        clear gz
        go_wp2_with fail
        go_roundg (gk - 1)
        case measure => have := Hi.out; have := HQ.out; omega
        case rel => exact ⟨i + 1, by first | rfl | go_num | exact congrArg _ (by have := HM.out; have := HQ.out; omega), ⟨by have := Hi.out; have := HQ.out; omega⟩, ⟨fun j u hj hu => by
          by_cases hji : j = i
          · subst hji
            have := HV.out
            rw [hu] at this
            injection this with this
            rw [this]; exact HT.out
          · exact HG.out j u (by omega) hu⟩, HW⟩
    · have HI := Aside0.mk (show ∀ x ∈ o.imps, x.f0.size ≤ 300 from fun x hx => by
        obtain ⟨j, hj⟩ := List.mem_iff_getElem?.1 hx
        exact HG.out j x (by have := (List.getElem?_eq_some_iff.1 hj).1; have := HE.out.1; omega) hj)
      have q1 : (i < n2) = False := eq_false hlt
      clear hlt HG
      go_wp2_with fail
      clear q1 Hi x2
      go_loopg [4] (n7 + 1) (fun kq v w' => ∃ i : Nat, v = .int .i64 i ∧ Aside0 (i ≤ n7 ∧ n7 - i < kq) ∧ Aside0 (∀ (j : Nat) (x : S95), j < i → o.cmds[j]? = some x → x.f0.size ≤ 300) ∧ Aside0 (Sat w w' [ABlk w.heap.size (.cells #[.string o.nm, .int .u32 o.key, .slice a.A2 n2 a.c2, .slice a.A3 n3 a.c3, .int .i64 o.data, .string o.text, .slice a.A6 n6 a.c6, .slice a.A7 n7 a.c7, .slice a.A8 n8 a.c8, .slice a.A9 n9 a.c9, .slice a.A10 n10 a.c10, .int .i64 o.x0, .int .i64 o.x1, .int .i64 o.x2, .int .i64 o.body] 31 (0, 0))]))
      case atStart => exact ⟨0, rfl, ⟨by omega⟩, ⟨fun j x h => absurd h (by omega)⟩, HW⟩
      case round =>
        clear HW
        obtain ⟨i, rfl, Hi, HG, HW⟩ := hrel
        have x7 : wr.cell? ⟨w.heap.size, 7, none⟩ = some (.slice a.A7 n7 a.c7) := get_cell (blk_at HW.out) 7
        by_cases hlt : i < n7
        · obtain ⟨x, hx⟩ : ∃ x, o.cmds[i]? = some x := ⟨_, List.getElem?_eq_getElem (by have := HE.out.2.2.2.1; omega)⟩
          obtain ⟨adx, eAx, y0, y1⟩ := at_T95 (HO.out.sat HW.out).r7 (i : Int) (by omega) (by have := HE.out.2.2.2.1; omega)
          have evx : rd_T95 o.cmds (i : Int) = x := by
            have hl := (List.getElem?_eq_some_iff.1 hx).1
            have := (List.getElem?_eq_some_iff.1 hx).2
            simp [rd_T95, hl, this]
          rw [evx] at y0 y1
          simp only [Int.toNat_natCast] at y0 y1
          have HV := Aside0.mk hx
          rw [eAx] at x7
          have q1 : (i < n7) = True := eq_true hlt
          have q2 : 0 ≤ (i : Int) := by omega
          have hwr : wrap64 ((i : Int) + 1) = (i : Int) + 1 := by have := HM.out; unfold wrap64; omega
          have HQ := Aside0.mk hlt
          clear hlt evx hx eAx y1
          by_cases gz : 300 < ((x.f0.size : Nat) : Int)
          · have za : (300 < ((x.f0.size : Nat) : Int)) = True := eq_true gz
            have zb : decide (300 < ((x.f0.size : Nat) : Int)) = true := decide_eq_true gz
            have e : r = false := by
              cases r with
              | false => rfl
              | true => exact absurd ((HR.out.1 rfl).cmd x (List.mem_iff_getElem?.2 ⟨i, HV.out⟩)) (by omega)
            have zc : (300 < x.f0.size) = True := eq_true (by omega)
            subst e
            clear gz
            go_wp2_with fail
            go_ret
            exact ⟨by rfl, HW.out.toBelow⟩
          · have za : (300 < ((x.f0.size : Nat) : Int)) = False := eq_false gz
            have zb : decide (300 < ((x.f0.size : Nat) : Int)) = false := decide_eq_false gz
            have zc : (300 < x.f0.size) = False := eq_false (by omega)
            have HT := Aside0.mk (show x.f0.size ≤ 300 from by omega)
            clear gz
            go_wp2_with fail
            go_roundg (gk - 1)
            case measure => have := Hi.out; have := HQ.out; omega
            case rel => exact ⟨i + 1, by first | rfl | go_num | exact congrArg _ (by have := HM.out; have := HQ.out; omega), ⟨by have := Hi.out; have := HQ.out; omega⟩, ⟨fun j u hj hu => by
              by_cases hji : j = i
              · subst hji
                have := HV.out
                rw [hu] at this
                injection this with this
                rw [this]; exact HT.out
              · exact HG.out j u (by omega) hu⟩, HW⟩
        · have HC := Aside0.mk (show ∀ x ∈ o.cmds, x.f0.size ≤ 300 from fun x hx => by
            obtain ⟨j, hj⟩ := List.mem_iff_getElem?.1 hx
            exact HG.out j x (by have := (List.getElem?_eq_some_iff.1 hj).1; have := HE.out.2.2.2.1; omega) hj)
          have q1 : (i < n7) = False := eq_false hlt
          clear hlt HG x7
          have x0 : wr.cell? ⟨w.heap.size, 0, none⟩ = some (.string o.nm) := get_cell (blk_at HW.out) 0
          have x2 : wr.cell? ⟨w.heap.size, 2, none⟩ = some (.slice a.A2 n2 a.c2) := get_cell (blk_at HW.out) 2
          have x3 : wr.cell? ⟨w.heap.size, 3, none⟩ = some (.slice a.A3 n3 a.c3) := get_cell (blk_at HW.out) 3
          have x5 : wr.cell? ⟨w.heap.size, 5, none⟩ = some (.string o.text) := get_cell (blk_at HW.out) 5
          have x6 : wr.cell? ⟨w.heap.size, 6, none⟩ = some (.slice a.A6 n6 a.c6) := get_cell (blk_at HW.out) 6
          have x7 : wr.cell? ⟨w.heap.size, 7, none⟩ = some (.slice a.A7 n7 a.c7) := get_cell (blk_at HW.out) 7
          have x8 : wr.cell? ⟨w.heap.size, 8, none⟩ = some (.slice a.A8 n8 a.c8) := get_cell (blk_at HW.out) 8
          have x9 : wr.cell? ⟨w.heap.size, 9, none⟩ = some (.slice a.A9 n9 a.c9) := get_cell (blk_at HW.out) 9
          have x10 : wr.cell? ⟨w.heap.size, 10, none⟩ = some (.slice a.A10 n10 a.c10) := get_cell (blk_at HW.out) 10
          by_cases gl0 : ¬ ((o.nm.size : Nat) : Int) ≤ 300
          · have l0a : (((o.nm.size : Nat) : Int) ≤ 300) = False := eq_false gl0
            have l0b : decide (((o.nm.size : Nat) : Int) ≤ 300) = false := decide_eq_false gl0
            have e : r = false := by
              cases r with
              | false => rfl
              | true => exact absurd (HR.out.1 rfl).nm (by have := HE.out; omega)
            have l0c : (o.nm.size ≤ 300) = False := eq_false (by omega)
            subst e
            clear gl0
            go_wp2_with fail
            go_ret
            exact ⟨by rfl, HW.out.toBelow⟩
          replace gl0 := Decidable.not_not.1 gl0
          have l0a : (((o.nm.size : Nat) : Int) ≤ 300) = True := eq_true gl0
          have l0b : decide (((o.nm.size : Nat) : Int) ≤ 300) = true := decide_eq_true gl0
          have l0c : (o.nm.size ≤ 300) = True := eq_true (by omega)
          by_cases gl1 : ¬ ((o.text.size : Nat) : Int) ≤ 300
          · have l1a : (((o.text.size : Nat) : Int) ≤ 300) = False := eq_false gl1
            have l1b : decide (((o.text.size : Nat) : Int) ≤ 300) = false := decide_eq_false gl1
            have e : r = false := by
              cases r with
              | false => rfl
              | true => exact absurd (HR.out.1 rfl).text (by have := HE.out; omega)
            have l1c : (o.text.size ≤ 300) = False := eq_false (by omega)
            subst e
            clear gl0 gl1
            go_wp2_with fail
            go_ret
            exact ⟨by rfl, HW.out.toBelow⟩
          replace gl1 := Decidable.not_not.1 gl1
          have l1a : (((o.text.size : Nat) : Int) ≤ 300) = True := eq_true gl1
          have l1b : decide (((o.text.size : Nat) : Int) ≤ 300) = true := decide_eq_true gl1
          have l1c : (o.text.size ≤ 300) = True := eq_true (by omega)
          by_cases gl2 : ¬ ((n2 : Nat) : Int) ≤ 20
          · have l2a : (((n2 : Nat) : Int) ≤ 20) = False := eq_false gl2
            have l2b : decide (((n2 : Nat) : Int) ≤ 20) = false := decide_eq_false gl2
            have e : r = false := by
              cases r with
              | false => rfl
              | true => exact absurd (HR.out.1 rfl).imps (by have := HE.out; omega)
            have l2c : (n2 ≤ 20) = False := eq_false (by omega)
            subst e
            clear gl0 gl1 gl2
            go_wp2_with fail
            go_ret
            exact ⟨by rfl, HW.out.toBelow⟩
          replace gl2 := Decidable.not_not.1 gl2
          have l2a : (((n2 : Nat) : Int) ≤ 20) = True := eq_true gl2
          have l2b : decide (((n2 : Nat) : Int) ≤ 20) = true := decide_eq_true gl2
          have l2c : (n2 ≤ 20) = True := eq_true (by omega)
          by_cases gl3 : ¬ ((n3 : Nat) : Int) ≤ 20
          · have l3a : (((n3 : Nat) : Int) ≤ 20) = False := eq_false gl3
            have l3b : decide (((n3 : Nat) : Int) ≤ 20) = false := decide_eq_false gl3
            have e : r = false := by
              cases r with
              | false => rfl
              | true => exact absurd (HR.out.1 rfl).typs (by have := HE.out; omega)
            have l3c : (n3 ≤ 20) = False := eq_false (by omega)
            subst e
            clear gl0 gl1 gl2 gl3
            go_wp2_with fail
            go_ret
            exact ⟨by rfl, HW.out.toBelow⟩
          replace gl3 := Decidable.not_not.1 gl3
          have l3a : (((n3 : Nat) : Int) ≤ 20) = True := eq_true gl3
          have l3b : decide (((n3 : Nat) : Int) ≤ 20) = true := decide_eq_true gl3
          have l3c : (n3 ≤ 20) = True := eq_true (by omega)
          by_cases gl4 : ¬ ((n6 : Nat) : Int) ≤ 1100
          · have l4a : (((n6 : Nat) : Int) ≤ 1100) = False := eq_false gl4
            have l4b : decide (((n6 : Nat) : Int) ≤ 1100) = false := decide_eq_false gl4
            have e : r = false := by
              cases r with
              | false => rfl
              | true => exact absurd (HR.out.1 rfl).code (by have := HE.out; omega)
            have l4c : (n6 ≤ 1100) = False := eq_false (by omega)
            subst e
            clear gl0 gl1 gl2 gl3 gl4
            go_wp2_with fail
            go_ret
            exact ⟨by rfl, HW.out.toBelow⟩
          replace gl4 := Decidable.not_not.1 gl4
          have l4a : (((n6 : Nat) : Int) ≤ 1100) = True := eq_true gl4
          have l4b : decide (((n6 : Nat) : Int) ≤ 1100) = true := decide_eq_true gl4
          have l4c : (n6 ≤ 1100) = True := eq_true (by omega)
          by_cases gl5 : ¬ ((n7 : Nat) : Int) ≤ 20
          · have l5a : (((n7 : Nat) : Int) ≤ 20) = False := eq_false gl5
            have l5b : decide (((n7 : Nat) : Int) ≤ 20) = false := decide_eq_false gl5
            have e : r = false := by
              cases r with
              | false => rfl
              | true => exact absurd (HR.out.1 rfl).cmds (by have := HE.out; omega)
            have l5c : (n7 ≤ 20) = False := eq_false (by omega)
            subst e
            clear gl0 gl1 gl2 gl3 gl4 gl5
            go_wp2_with fail
            go_ret
            exact ⟨by rfl, HW.out.toBelow⟩
          replace gl5 := Decidable.not_not.1 gl5
          have l5a : (((n7 : Nat) : Int) ≤ 20) = True := eq_true gl5
          have l5b : decide (((n7 : Nat) : Int) ≤ 20) = true := decide_eq_true gl5
          have l5c : (n7 ≤ 20) = True := eq_true (by omega)
          by_cases gl6 : ¬ ((n8 : Nat) : Int) ≤ 300
          · have l6a : (((n8 : Nat) : Int) ≤ 300) = False := eq_false gl6
            have l6b : decide (((n8 : Nat) : Int) ≤ 300) = false := decide_eq_false gl6
            have e : r = false := by
              cases r with
              | false => rfl
              | true => exact absurd (HR.out.1 rfl).exps (by have := HE.out; omega)
            have l6c : (n8 ≤ 300) = False := eq_false (by omega)
            subst e
            clear gl0 gl1 gl2 gl3 gl4 gl5 gl6
            go_wp2_with fail
            go_ret
            exact ⟨by rfl, HW.out.toBelow⟩
          replace gl6 := Decidable.not_not.1 gl6
          have l6a : (((n8 : Nat) : Int) ≤ 300) = True := eq_true gl6
          have l6b : decide (((n8 : Nat) : Int) ≤ 300) = true := decide_eq_true gl6
          have l6c : (n8 ≤ 300) = True := eq_true (by omega)
          by_cases gl7 : ¬ ((n9 : Nat) : Int) ≤ 300
          · have l7a : (((n9 : Nat) : Int) ≤ 300) = False := eq_false gl7
            have l7b : decide (((n9 : Nat) : Int) ≤ 300) = false := decide_eq_false gl7
            have e : r = false := by
              cases r with
              | false => rfl
              | true => exact absurd (HR.out.1 rfl).ptrs (by have := HE.out; omega)
            have l7c : (n9 ≤ 300) = False := eq_false (by omega)
            subst e
            clear gl0 gl1 gl2 gl3 gl4 gl5 gl6 gl7
            go_wp2_with fail
            go_ret
            exact ⟨by rfl, HW.out.toBelow⟩
          replace gl7 := Decidable.not_not.1 gl7
          have l7a : (((n9 : Nat) : Int) ≤ 300) = True := eq_true gl7
          have l7b : decide (((n9 : Nat) : Int) ≤ 300) = true := decide_eq_true gl7
          have l7c : (n9 ≤ 300) = True := eq_true (by omega)
          by_cases gl8 : ¬ ((n10 : Nat) : Int) ≤ 300
          · have l8a : (((n10 : Nat) : Int) ≤ 300) = False := eq_false gl8
            have l8b : decide (((n10 : Nat) : Int) ≤ 300) = false := decide_eq_false gl8
            have e : r = false := by
              cases r with
              | false => rfl
              | true => exact absurd (HR.out.1 rfl).procs (by have := HE.out; omega)
            have l8c : (n10 ≤ 300) = False := eq_false (by omega)
            subst e
            clear gl0 gl1 gl2 gl3 gl4 gl5 gl6 gl7 gl8
            go_wp2_with fail
            go_ret
            exact ⟨by rfl, HW.out.toBelow⟩
          replace gl8 := Decidable.not_not.1 gl8
          have l8a : (((n10 : Nat) : Int) ≤ 300) = True := eq_true gl8
          have l8b : decide (((n10 : Nat) : Int) ≤ 300) = true := decide_eq_true gl8
          have l8c : (n10 ≤ 300) = True := eq_true (by omega)
          have e : r = true := HR.out.2 ⟨by have := HE.out; omega, by have := HE.out; omega, by have := HE.out; omega, by have := HE.out; omega, by have := HE.out; omega, by have := HE.out; omega, by have := HE.out; omega, by have := HE.out; omega, by have := HE.out; omega, HI.out, HC.out⟩
          subst e
          clear gl0 gl1 gl2 gl3 gl4 gl5 gl6 gl7 gl8
          go_wp2_with fail
          go_ret
          exact ⟨by rfl, HW.out.toBelow⟩
set_option maxRecDepth 100000 in
theorem fewN_calls (o : Ob) (a : Oa) (w : World) (n2 n3 n6 n7 n8 n9 n10 : Nat) (e2 : n2 = o.imps.length) (e3 : n3 = o.typs.length) (e6 : n6 = o.code.length) (e7 : n7 = o.cmds.length) (e8 : n8 = o.exps.length) (e9 : n9 = o.ptrs.length) (e10 : n10 = o.procs.length) (hO : ObR o a w) : ∃ v, (v = 0 ∨ v = 1 ∧ FewOk o) ∧
    ∀ W, ObR o a W → Calls Try.prog 15 #[.agg #[.string o.nm, .int .u32 o.key, .slice a.A2 n2 a.c2, .slice a.A3 n3 a.c3, .int .i64 o.data, .string o.text, .slice a.A6 n6 a.c6, .slice a.A7 n7 a.c7, .slice a.A8 n8 a.c8, .slice a.A9 n9 a.c9, .slice a.A10 n10 a.c10, .int .i64 o.x0, .int .i64 o.x1, .int .i64 o.x2, .int .i64 o.body]] W fun e w' => e = .returned (.int .i64 v) ∧ Below W.heap.size W w' := by
  obtain ⟨b, hb⟩ : ∃ b : Bool, b = true ↔ FewOk o := by
    rcases Classical.em (FewOk o) with h | h
    · exact ⟨true, by simp [h]⟩
    · exact ⟨false, by simp [h]⟩
  refine ⟨if b = true then 1 else 0, ?_, fun W hW => ?_⟩
  · cases b with
    | false => exact .inl rfl
    | true => exact .inr ⟨rfl, hb.1 rfl⟩
  · have HW := Aside0.mk (fun w hw => fewIs_calls o a w n2 n3 n6 n7 n8 n9 n10 e2 e3 e6 e7 e8 e9 e10 hw b hb)
    have HO := Aside0.mk hW
    clear hb hO hW e2 e3 e6 e7 e8 e9 e10
    have hu31 := Try.underlying31
    go_enter Try.func15, Try.ntmps15
    go_wp2_with fail
    have HB := Aside0.mk (blk_new (Sat.start W) (.cells #[.string o.nm, .int .u32 o.key, .slice a.A2 n2 a.c2, .slice a.A3 n3 a.c3, .int .i64 o.data, .string o.text, .slice a.A6 n6 a.c6, .slice a.A7 n7 a.c7, .slice a.A8 n8 a.c8, .slice a.A9 n9 a.c9, .slice a.A10 n10 a.c10, .int .i64 o.x0, .int .i64 o.x1, .int .i64 o.x2, .int .i64 o.body] 31))
    generalize W.alloc (.cells #[.string o.nm, .int .u32 o.key, .slice a.A2 n2 a.c2, .slice a.A3 n3 a.c3, .int .i64 o.data, .string o.text, .slice a.A6 n6 a.c6, .slice a.A7 n7 a.c7, .slice a.A8 n8 a.c8, .slice a.A9 n9 a.c9, .slice a.A10 n10 a.c10, .int .i64 o.x0, .int .i64 o.x1, .int .i64 o.x2, .int .i64 o.body] 31) = W1 at *
    have hq := HW.out W1 (HO.out.sat HB.out)
    (with_reducible refine hq.mono ?_)
    clear hq
    rintro e w1 ⟨rfl, hb1⟩
    have HB1 := Aside0.mk (HB.out.below hb1)
    clear hb1
    cases b with
    | false =>
      go_wp2_with fail
      go_ret
      exact ⟨by rfl, HB1.out.toBelow⟩
    | true =>
      go_wp2_with fail
      go_ret
      exact ⟨by rfl, HB1.out.toBelow⟩
end Go.Proofs.Ytnflalbiffamdaa.MineObj
