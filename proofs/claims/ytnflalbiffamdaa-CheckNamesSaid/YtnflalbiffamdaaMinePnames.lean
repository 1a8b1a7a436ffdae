/- Objects of modules: the program's names (rule 1). Conditions: the texts are short. -/
import Derived.Test.YtnflalbiffamdaaMineSeen
namespace Go.Proofs.Ytnflalbiffamdaa.MineObj
open Go.RowKit Go.MapKept Go.Proofs.YtnflalbiffamdaaW.PrintWords Go.Proofs.YtnflalbiffamdaaW.PrintLast Go.Proofs.YtnflalbiffamdaaW.PrintMore Go.Proofs.Ytnflalbiffamdaa.MineBase Go.Proofs.Ytnflalbiffamdaa.MineSep Go.Proofs.Ytnflalbiffamdaa.MineRows Go.Proofs.Ytnflalbiffamdaa.MineGen Go.Proofs.Ytnflalbiffamdaa.MineName Go.Proofs.Ytnflalbiffamdaa.MineMap Go.Proofs.Ytnflalbiffamdaa.QCheckTells
attribute [local go_sem ↓] Go.wp_at_zero Go.wp_at_succ
set_option linter.unusedVariables false
set_option linter.unusedSimpArgs false

instance : DecidableEq ByteArray := fun a b => decidable_of_iff (a.toList = b.toList) toList_inj
/-- The names ahead of import i, and the object's own. -/
def impL (o : Ob) (i : Nat) : List ByteArray := o.nm :: (o.imps.take i).map (·.f0)
def cmdL (o : Ob) (i : Nat) : List ByteArray := (o.cmds.take i).map (·.f0)
theorem imp_iff (o : Ob) (i : Nat) (x : S92) : ImpOk o i x ↔ nameB x.f0 = true ∧ x.f0 ∉ impL o i := by
  unfold ImpOk impL
  rw [List.mem_cons, not_or, List.mem_map]
  refine and_congr_right (fun _ => and_congr_right (fun _ => ⟨fun h => ?_, fun h k y hk hy e => ?_⟩))
  · rintro ⟨y, hy, e⟩
    obtain ⟨k, hk⟩ := List.mem_iff_getElem?.1 hy
    have hl := (List.getElem?_eq_some_iff.1 hk).1
    rw [List.length_take] at hl
    rw [List.getElem?_take, if_pos (by omega)] at hk
    exact h k y (by omega) hk e
  · refine h ⟨y, List.mem_iff_getElem?.2 ⟨k, ?_⟩, e⟩
    rw [List.getElem?_take, if_pos hk]; exact hy
theorem cmd_iff (o : Ob) (i : Nat) (x : S95) : CmdOk o i x ↔ nameB x.f0 = true ∧ 0 ≤ x.f1 ∧ x.f1 < o.code.length ∧ x.f0 ∉ cmdL o i := by
  unfold CmdOk cmdL
  rw [List.mem_map]
  refine and_congr_right (fun _ => and_congr_right (fun _ => and_congr_right (fun _ => ⟨fun h => ?_, fun h k y hk hy e => ?_⟩)))
  · rintro ⟨y, hy, e⟩
    obtain ⟨k, hk⟩ := List.mem_iff_getElem?.1 hy
    have hl := (List.getElem?_eq_some_iff.1 hk).1
    rw [List.length_take] at hl
    rw [List.getElem?_take, if_pos (by omega)] at hk
    exact h k y (by omega) hk e
  · refine h ⟨y, List.mem_iff_getElem?.2 ⟨k, ?_⟩, e⟩
    rw [List.getElem?_take, if_pos hk]; exact hy
theorem impL_step {o : Ob} {i : Nat} {x : S92} (h : o.imps[i]? = some x) : impL o (i + 1) = impL o i ++ [x.f0] := by
  unfold impL
  rw [List.take_add_one, h]; simp
theorem cmdL_step {o : Ob} {i : Nat} {x : S95} (h : o.cmds[i]? = some x) : cmdL o (i + 1) = cmdL o i ++ [x.f0] := by
  unfold cmdL
  rw [List.take_add_one, h]; simp
set_option maxRecDepth 100000 in
set_option maxHeartbeats 8000000 in
theorem pnames_calls (o : Ob) (a : Oa) (w : World) (n2 n3 n6 n7 n8 n9 n10 : Nat) (e2 : n2 = o.imps.length) (e3 : n3 = o.typs.length) (e6 : n6 = o.code.length) (e7 : n7 = o.cmds.length) (e8 : n8 = o.exps.length) (e9 : n9 = o.ptrs.length) (e10 : n10 = o.procs.length) (hO : ObR o a w) (hF : FewOk o) (r : Bool) (hr : r = true ↔ NamesOk o) :
    Calls Try.prog 98 #[.agg #[.string o.nm, .int .u32 o.key, .slice a.A2 n2 a.c2, .slice a.A3 n3 a.c3, .int .i64 o.data, .string o.text, .slice a.A6 n6 a.c6, .slice a.A7 n7 a.c7, .slice a.A8 n8 a.c8, .slice a.A9 n9 a.c9, .slice a.A10 n10 a.c10, .int .i64 o.x0, .int .i64 o.x1, .int .i64 o.x2, .int .i64 o.body]] w fun e w' => e = .returned (.bool r) ∧ Below w.heap.size w w' := by
  have HO := Aside0.mk hO
  have HR := Aside0.mk hr
  have HE := Aside0.mk (And.intro e2 (And.intro e3 (And.intro e6 (And.intro e7 (And.intro e8 (And.intro e9 e10))))))
  have hu31 := Try.underlying31
  have HF := Aside0.mk hF
  have hu92 := Try.underlying92
  have hu95 := Try.underlying95
  have l2 : n2 ≤ 20 := by rw [e2]; exact hF.imps
  have l7 : n7 ≤ 20 := by rw [e7]; exact hF.cmds
  have l6 : n6 ≤ 1100 := by rw [e6]; exact hF.code
  clear hO hr hF e2 e3 e6 e7 e8 e9 e10
  obtain ⟨nb, hnb⟩ : ∃ b, nameB o.nm = b := ⟨_, rfl⟩
  have HNB := Aside0.mk hnb
  clear hnb
  obtain ⟨A2, hA⟩ : ∃ A2, a.A2 = A2 := ⟨_, rfl⟩
  obtain ⟨A7, hB⟩ : ∃ A7, a.A7 = A7 := ⟨_, rfl⟩
  rw [hA, hB]
  have HA := Aside0.mk hA
  have HB := Aside0.mk hB
  clear hA hB
  go_enter Try.func98, Try.ntmps98
  go_wp2_with fail
  have hW := Aside0.mk (blk_new (Sat.start w) (.cells #[.string o.nm, .int .u32 o.key, .slice A2 n2 a.c2, .slice a.A3 n3 a.c3, .int .i64 o.data, .string o.text, .slice a.A6 n6 a.c6, .slice A7 n7 a.c7, .slice a.A8 n8 a.c8, .slice a.A9 n9 a.c9, .slice a.A10 n10 a.c10, .int .i64 o.x0, .int .i64 o.x1, .int .i64 o.x2, .int .i64 o.body] 31))
  generalize w.alloc (.cells #[.string o.nm, .int .u32 o.key, .slice A2 n2 a.c2, .slice a.A3 n3 a.c3, .int .i64 o.data, .string o.text, .slice a.A6 n6 a.c6, .slice A7 n7 a.c7, .slice a.A8 n8 a.c8, .slice a.A9 n9 a.c9, .slice a.A10 n10 a.c10, .int .i64 o.x0, .int .i64 o.x1, .int .i64 o.x2, .int .i64 o.body] 31) = W at *
  have hq := pname_calls o.nm HF.out.nm nb HNB.out W
  (with_reducible refine hq.mono ?_)
  clear hq
  rintro e1 w1 ⟨rfl, hd1⟩
  have HW := Aside0.mk (hW.out.drawn hd1)
  clear hd1 hW
  have x0 : w1.cell? ⟨w.heap.size, 0, none⟩ = some (.string o.nm) := get_cell (blk_at HW.out) 0
  have x2 : w1.cell? ⟨w.heap.size, 2, none⟩ = some (.slice A2 n2 a.c2) := get_cell (blk_at HW.out) 2
  have x7 : w1.cell? ⟨w.heap.size, 7, none⟩ = some (.slice A7 n7 a.c7) := get_cell (blk_at HW.out) 7
  cases nb with
  | false =>
    have e : r = false := by
      cases r with
      | false => rfl
      | true => exact absurd (HR.out.1 rfl) (fun h => by have h1 := h.1; rw [HNB.out] at h1; cases h1)
    subst e
    skip
    go_wp2_with fail
    go_ret
    exact ⟨by rfl, HW.out.toBelow⟩
  | true =>
    by_cases g1 : 8 < n2
    · have g1a : (8 < n2) = True := eq_true g1
      have g1b : ((8 : Int) < ((n2 : Nat) : Int)) = True := eq_true (by omega)
      have g1c : decide ((8 : Int) < ((n2 : Nat) : Int)) = true := decide_eq_true (by omega)
      have e : r = false := by
        cases r with
        | false => rfl
        | true => exact absurd (HR.out.1 rfl) (fun h => by have h1 := h.2.1; have := HE.out.1; omega)
      subst e
      clear g1
      go_wp2_with fail
      go_ret
      exact ⟨by rfl, HW.out.toBelow⟩
    have g1a : (8 < n2) = False := eq_false g1
    have g1b : ((8 : Int) < ((n2 : Nat) : Int)) = False := eq_false (by omega)
    have g1c : decide ((8 : Int) < ((n2 : Nat) : Int)) = false := decide_eq_false (by omega)
    by_cases g2 : 8 < n7
    · have g2a : (8 < n7) = True := eq_true g2
      have g2b : ((8 : Int) < ((n7 : Nat) : Int)) = True := eq_true (by omega)
      have g2c : decide ((8 : Int) < ((n7 : Nat) : Int)) = true := decide_eq_true (by omega)
      have e : r = false := by
        cases r with
        | false => rfl
        | true => exact absurd (HR.out.1 rfl) (fun h => by have h1 := h.2.2.1; have := HE.out.2.2.2.1; omega)
      subst e
      clear g1 g2
      go_wp2_with fail
      go_ret
      exact ⟨by rfl, HW.out.toBelow⟩
    have g2a : (8 < n7) = False := eq_false g2
    have g2b : ((8 : Int) < ((n7 : Nat) : Int)) = False := eq_false (by omega)
    have g2c : decide ((8 : Int) < ((n7 : Nat) : Int)) = false := decide_eq_false (by omega)
    have HN := Aside0.mk (show n2 ≤ 8 ∧ n7 ≤ 8 from by omega)
    clear g1 g2
    have hmm := @run_makeMap Try.prog
    have HW0 := Aside0.mk (seen_new HW.out (κ := ByteArray) Value.string)
    obtain ⟨w2, hput, hS2⟩ := seen_put strKeys Try.underlying101 Try.underlying9 HW0.out o.nm (by simp)
    have HW2 := Aside0.mk (show Sat w w2 [ASeen Value.string w1.heap.size (impL o 0), ABlk w.heap.size (.cells #[.string o.nm, .int .u32 o.key, .slice A2 n2 a.c2, .slice a.A3 n3 a.c3, .int .i64 o.data, .string o.text, .slice a.A6 n6 a.c6, .slice A7 n7 a.c7, .slice a.A8 n8 a.c8, .slice a.A9 n9 a.c9, .slice a.A10 n10 a.c10, .int .i64 o.x0, .int .i64 o.x1, .int .i64 o.x2, .int .i64 o.body] 31 (0, 0))] from hS2)
    clear hS2
    obtain ⟨m, hm⟩ : ∃ m, w1.heap.size = m := ⟨_, rfl⟩
    rw [hm] at HW2 hput
    have HM := Aside0.mk hm
    have v2 : w2.cell? ⟨w.heap.size, 2, none⟩ = some (.slice A2 n2 a.c2) := get_cell (blk_at HW2.out.drop) 2
    have xa0 : (w1.alloc (.map #[] 0)).cell? ⟨w.heap.size, 0, none⟩ = some (.string o.nm) := get_cell (blk_at HW0.out.drop) 0
    go_wp2_with fail
    clear xa0 hm hmm hput g1a g1b g1c g2a g2b g2c x0 x2 x7 v2 HW HW0 HM
    go_loopg [31] (n2 + 1) (fun kq v w' => ∃ i : Nat, v = .int .i64 i ∧ Aside0 (i ≤ n2 ∧ n2 - i < kq) ∧ Aside0 (∀ (j : Nat) (x : S92), j < i → o.imps[j]? = some x → ImpOk o j x) ∧ Aside0 (Sat w w' [ASeen Value.string m (impL o i), ABlk w.heap.size (.cells #[.string o.nm, .int .u32 o.key, .slice A2 n2 a.c2, .slice a.A3 n3 a.c3, .int .i64 o.data, .string o.text, .slice a.A6 n6 a.c6, .slice A7 n7 a.c7, .slice a.A8 n8 a.c8, .slice a.A9 n9 a.c9, .slice a.A10 n10 a.c10, .int .i64 o.x0, .int .i64 o.x1, .int .i64 o.x2, .int .i64 o.body] 31 (0, 0))]))
    case atStart => exact ⟨0, rfl, ⟨by omega⟩, ⟨fun j x h => absurd h (by omega)⟩, HW2⟩
    case round =>
      clear HW2
      obtain ⟨i, rfl, Hi, HG, HW⟩ := hrel
      by_cases hlt : i < n2
      · obtain ⟨x, hx⟩ : ∃ x, o.imps[i]? = some x := ⟨_, List.getElem?_eq_getElem (by have := HE.out.1; omega)⟩
        obtain ⟨adx, eAx, y0, y1⟩ := at_T92 (HO.out.sat HW.out).r2 (i : Int) (by omega) (by have := HE.out.1; omega)
        have evx : rd_T92 o.imps (i : Int) = x := by
          have hl := (List.getElem?_eq_some_iff.1 hx).1
          have := (List.getElem?_eq_some_iff.1 hx).2
          simp [rd_T92, hl, this]
        rw [evx] at y0 y1
        simp only [Int.toNat_natCast] at y0 y1
        have HV := Aside0.mk hx
        have q0 : i < n2 := hlt
        have q1 : (i < n2) = True := eq_true hlt
        have q2 : 0 ≤ (i : Int) := by omega
        have q3 : (i : Int) ≤ 100 := by omega
        clear hlt evx hx
        have HSZ := Aside0.mk (HF.out.imp x (List.mem_iff_getElem?.2 ⟨i, HV.out⟩))
        have HBAD := Aside0.mk (show ¬ ImpOk o i x → r = false from fun hn => by
          cases r with
          | false => rfl
          | true => exact absurd ((HR.out.1 rfl).2.2.2.1 i x HV.out) hn)
        replace eAx := HA.out.symm.trans eAx
        subst eAx
        obtain ⟨f0, f1⟩ := x
        simp only at y0 y1 HSZ
        have HX := Aside0.mk (blk_new HW.out (.cells #[.string ⟨#[]⟩, .int .u32 0] 92))
        have HX7 := Aside0.mk (blk_row (cs := #[.string f0, .int .u32 f1]) HX.out)
        go_upto_region 7 with (refine wpList_store_row rfl 92 (.tmp 5) (.tmp 34) rfl wr.heap.size #[.string f0, .int .u32 f1] rfl rfl 92 _ (blk_at HX.out) (by kernel_rfl) rfl (by simp [Value.oneCell']) ?_)
        refine wp_abs (fun W => Sat w W [ABlk wr.heap.size (.cells #[.string f0, .int .u32 f1] 92 (0, 0)), ASeen Value.string m (impL o i), ABlk w.heap.size (.cells #[.string o.nm, .int .u32 o.key, .slice (some adx) n2 a.c2, .slice a.A3 n3 a.c3, .int .i64 o.data, .string o.text, .slice a.A6 n6 a.c6, .slice A7 n7 a.c7, .slice a.A8 n8 a.c8, .slice a.A9 n9 a.c9, .slice a.A10 n10 a.c10, .int .i64 o.x0, .int .i64 o.x1, .int .i64 o.x2, .int .i64 o.body] 31 (0, 0))]) HX7.out (fun W7 hW7 => ?_)
        replace hW7 := Aside0.mk hW7
        clear HX HX7 y0 y1
        obtain ⟨b7, hb7⟩ : ∃ b7, wr.heap.size = b7 := ⟨_, rfl⟩
        rw [hb7] at hW7 ⊢
        clear hb7
        have z0 : W7.cell? ⟨b7, 0, none⟩ = some (.string f0) := get_cell (blk_at hW7.out) 0
        have z1 : W7.cell? ⟨b7, 1, none⟩ = some (.int .u32 f1) := get_cell (blk_at hW7.out) 1
        obtain ⟨mb, hmb⟩ : ∃ b, nameB f0 = b := ⟨_, rfl⟩
        have HMB := Aside0.mk hmb
        clear hmb
        go_wp2_with fail
        have hq := pname_calls f0 HSZ.out mb HMB.out W7
        (with_reducible refine hq.mono ?_)
        clear hq
        rintro e8 w8 ⟨rfl, hd8⟩
        have HW8 := Aside0.mk (hW7.out.drawn hd8)
        clear hd8 z0 z1 hW7
        have z0 : w8.cell? ⟨b7, 0, none⟩ = some (.string f0) := get_cell (blk_at HW8.out) 0
        have z1 : w8.cell? ⟨b7, 1, none⟩ = some (.int .u32 f1) := get_cell (blk_at HW8.out) 1
        have hlk := seen_look strKeys Try.underlying101 Try.underlying9 HW8.out.drop f0
        cases mb with
        | false =>
          have e : r = false := HBAD.out (fun h => by have h1 := h.1; simp only at h1; rw [HMB.out] at h1; cases h1)
          subst e
          clear hlk
          go_wp2_with fail
          go_ret
          exact ⟨by rfl, HW8.out.toBelow⟩
        | true =>
          by_cases gs : f0 ∈ impL o i
          · rw [if_pos gs] at hlk
            have e : r = false := HBAD.out (fun h => ((imp_iff o i _).1 h).2 gs)
            subst e
            clear gs
            go_wp2_with fail
            go_ret
            exact ⟨by rfl, HW8.out.toBelow⟩
          · rw [if_neg gs] at hlk
            obtain ⟨w9, hput, hS9⟩ := seen_put strKeys Try.underlying101 Try.underlying9 HW8.out.drop f0 gs
            rw [← impL_step HV.out] at hS9
            have HW9 := Aside0.mk hS9
            have HT := Aside0.mk (show ImpOk o i ⟨f0, f1⟩ from (imp_iff o i _).2 ⟨HMB.out, gs⟩)
            clear hS9 gs
            go_wp2_with fail
            go_roundg (gk - 1)
            case measure => have := Hi.out; omega
            case rel => exact ⟨i + 1, by go_num, ⟨by have := Hi.out; omega⟩, ⟨fun j u hj hu => by
              by_cases hji : j = i
              · subst hji
                have := HV.out
                rw [hu] at this
                injection this with this
                rw [this]; exact HT.out
              · exact HG.out j u (by omega) hu⟩, HW9⟩
      · have HI := Aside0.mk (show ∀ (i : Nat) (x : S92), o.imps[i]? = some x → ImpOk o i x from fun j x hj => HG.out j x (by have := (List.getElem?_eq_some_iff.1 hj).1; have := HE.out.1; omega) hj)
        have q1 : (i < n2) = False := eq_false hlt
        clear hlt HG
        obtain ⟨w3, hclr, hS3⟩ := seen_clear (ty := 0) Try.underlying101 HW.out
        have HW3 := Aside0.mk (show Sat w w3 [ASeen Value.string m (cmdL o 0), ABlk w.heap.size (.cells #[.string o.nm, .int .u32 o.key, .slice A2 n2 a.c2, .slice a.A3 n3 a.c3, .int .i64 o.data, .string o.text, .slice a.A6 n6 a.c6, .slice A7 n7 a.c7, .slice a.A8 n8 a.c8, .slice a.A9 n9 a.c9, .slice a.A10 n10 a.c10, .int .i64 o.x0, .int .i64 o.x1, .int .i64 o.x2, .int .i64 o.body] 31 (0, 0))] from hS3)
        clear hS3
        have x7 : w3.cell? ⟨w.heap.size, 7, none⟩ = some (.slice A7 n7 a.c7) := get_cell (blk_at HW3.out.drop) 7
        go_wp2_with fail
        clear hclr HW Hi q1 x7
        go_loopg [56] (n7 + 1) (fun kq v w' => ∃ i : Nat, v = .int .i64 i ∧ Aside0 (i ≤ n7 ∧ n7 - i < kq) ∧ Aside0 (∀ (j : Nat) (x : S95), j < i → o.cmds[j]? = some x → CmdOk o j x) ∧ Aside0 (Sat w w' [ASeen Value.string m (cmdL o i), ABlk w.heap.size (.cells #[.string o.nm, .int .u32 o.key, .slice A2 n2 a.c2, .slice a.A3 n3 a.c3, .int .i64 o.data, .string o.text, .slice a.A6 n6 a.c6, .slice A7 n7 a.c7, .slice a.A8 n8 a.c8, .slice a.A9 n9 a.c9, .slice a.A10 n10 a.c10, .int .i64 o.x0, .int .i64 o.x1, .int .i64 o.x2, .int .i64 o.body] 31 (0, 0))]))
        case atStart => exact ⟨0, rfl, ⟨by omega⟩, ⟨fun j x h => absurd h (by omega)⟩, HW3⟩
        case round =>
          clear HW3
          obtain ⟨i, rfl, Hi, HG, HW⟩ := hrel
          by_cases hlt : i < n7
          · obtain ⟨x, hx⟩ : ∃ x, o.cmds[i]? = some x := ⟨_, List.getElem?_eq_getElem (by have := HE.out.2.2.2.1; omega)⟩
            obtain ⟨adx, eAx, y0, y1⟩ := at_T95 (HO.out.sat HW.out).r7 (i : Int) (by omega) (by have := HE.out.2.2.2.1; omega)
            have evx : rd_T95 o.cmds (i : Int) = x := by
              have hl := (List.getElem?_eq_some_iff.1 hx).1
              have := (List.getElem?_eq_some_iff.1 hx).2
              simp [rd_T95, hl, this]
            rw [evx] at y0 y1
            simp only [Int.toNat_natCast] at y0 y1
            have HV := Aside0.mk hx
            have q0 : i < n7 := hlt
            have q1 : (i < n7) = True := eq_true hlt
            have q2 : 0 ≤ (i : Int) := by omega
            have q3 : (i : Int) ≤ 100 := by omega
            clear hlt evx hx
            have HSZ := Aside0.mk (HF.out.cmd x (List.mem_iff_getElem?.2 ⟨i, HV.out⟩))
            have HBAD := Aside0.mk (show ¬ CmdOk o i x → r = false from fun hn => by
              cases r with
              | false => rfl
              | true => exact absurd ((HR.out.1 rfl).2.2.2.2 i x HV.out) hn)
            replace eAx := HB.out.symm.trans eAx
            subst eAx
            obtain ⟨f0, f1⟩ := x
            simp only at y0 y1 HSZ
            have HX := Aside0.mk (blk_new HW.out (.cells #[.string ⟨#[]⟩, .int .i64 0] 95))
            have HX7 := Aside0.mk (blk_row (cs := #[.string f0, .int .i64 f1]) HX.out)
            go_upto_region 15 with (refine wpList_store_row rfl 95 (.tmp 7) (.tmp 59) rfl wr.heap.size #[.string f0, .int .i64 f1] rfl rfl 95 _ (blk_at HX.out) (by kernel_rfl) rfl (by simp [Value.oneCell']) ?_)
            refine wp_abs (fun W => Sat w W [ABlk wr.heap.size (.cells #[.string f0, .int .i64 f1] 95 (0, 0)), ASeen Value.string m (cmdL o i), ABlk w.heap.size (.cells #[.string o.nm, .int .u32 o.key, .slice A2 n2 a.c2, .slice a.A3 n3 a.c3, .int .i64 o.data, .string o.text, .slice a.A6 n6 a.c6, .slice (some adx) n7 a.c7, .slice a.A8 n8 a.c8, .slice a.A9 n9 a.c9, .slice a.A10 n10 a.c10, .int .i64 o.x0, .int .i64 o.x1, .int .i64 o.x2, .int .i64 o.body] 31 (0, 0))]) HX7.out (fun W7 hW7 => ?_)
            replace hW7 := Aside0.mk hW7
            clear HX HX7 y0 y1
            obtain ⟨b7, hb7⟩ : ∃ b7, wr.heap.size = b7 := ⟨_, rfl⟩
            rw [hb7] at hW7 ⊢
            clear hb7
            have z0 : W7.cell? ⟨b7, 0, none⟩ = some (.string f0) := get_cell (blk_at hW7.out) 0
            have z1 : W7.cell? ⟨b7, 1, none⟩ = some (.int .i64 f1) := get_cell (blk_at hW7.out) 1
            obtain ⟨mb, hmb⟩ : ∃ b, nameB f0 = b := ⟨_, rfl⟩
            have HMB := Aside0.mk hmb
            clear hmb
            go_wp2_with fail
            have hq := pname_calls f0 HSZ.out mb HMB.out W7
            (with_reducible refine hq.mono ?_)
            clear hq
            rintro e8 w8 ⟨rfl, hd8⟩
            have HW8 := Aside0.mk (hW7.out.drawn hd8)
            clear hd8 z0 z1 hW7
            have z0 : w8.cell? ⟨b7, 0, none⟩ = some (.string f0) := get_cell (blk_at HW8.out) 0
            have z1 : w8.cell? ⟨b7, 1, none⟩ = some (.int .i64 f1) := get_cell (blk_at HW8.out) 1
            have hlk := seen_look strKeys Try.underlying101 Try.underlying9 HW8.out.drop f0
            cases mb with
            | false =>
              have e : r = false := HBAD.out (fun h => by have h1 := h.1; simp only at h1; rw [HMB.out] at h1; cases h1)
              subst e
              clear hlk
              go_wp2_with fail
              go_ret
              exact ⟨by rfl, HW8.out.toBelow⟩
            | true =>
              by_cases gs : f0 ∈ cmdL o i
              · rw [if_pos gs] at hlk
                have e : r = false := HBAD.out (fun h => ((cmd_iff o i _).1 h).2.2.2 gs)
                subst e
                clear gs
                go_wp2_with fail
                go_ret
                exact ⟨by rfl, HW8.out.toBelow⟩
              · rw [if_neg gs] at hlk
                have x6 : w8.cell? ⟨w.heap.size, 6, none⟩ = some (.slice a.A6 n6 a.c6) := get_cell (blk_at HW8.out.drop.drop) 6
                obtain ⟨bs, hbs⟩ : ∃ b, b = decide (0 ≤ f1 ∧ f1 ≤ ((n6 : Nat) : Int) - 1) := ⟨_, rfl⟩
                have HBS := Aside0.mk hbs
                clear hbs
                cases bs with
                | false =>
                  have hb0 := of_decide_eq_false HBS.out.symm
                  have e : r = false := HBAD.out (fun h => by have h1 := (cmd_iff o i _).1 h; simp only at h1; rw [← HE.out.2.2.1] at h1; omega)
                  subst e
                  clear hb0 gs
                  go_wp2_with (go_at_call 97; (with_reducible refine (in_calls f1 _ _ HBS.out _).mono ?_); rintro e6 w6 ⟨rfl, rfl⟩)
                  go_ret
                  exact ⟨by rfl, HW8.out.toBelow⟩
                | true =>
                  have hb0 := of_decide_eq_true HBS.out.symm
                  obtain ⟨w9, hput, hS9⟩ := seen_put strKeys Try.underlying101 Try.underlying9 HW8.out.drop f0 gs
                  rw [← cmdL_step HV.out] at hS9
                  have HW9 := Aside0.mk hS9
                  have HT := Aside0.mk (show CmdOk o i ⟨f0, f1⟩ from (cmd_iff o i _).2 ⟨HMB.out, hb0.1, by have := HE.out.2.2.1; simp only; omega, gs⟩)
                  clear hS9 gs hb0
                  go_wp2_with (go_at_call 97; (with_reducible refine (in_calls f1 _ _ HBS.out _).mono ?_); rintro e6 w6 ⟨rfl, rfl⟩)
                  go_roundg (gk - 1)
                  case measure => have := Hi.out; omega
                  case rel => exact ⟨i + 1, by go_num, ⟨by have := Hi.out; omega⟩, ⟨fun j u hj hu => by
                    by_cases hji : j = i
                    · subst hji
                      have := HV.out
                      rw [hu] at this
                      injection this with this
                      rw [this]; exact HT.out
                    · exact HG.out j u (by omega) hu⟩, HW9⟩
          · have e : r = true := HR.out.2 ⟨HNB.out, by have := HE.out.1; have := HN.out; omega, by have := HE.out.2.2.2.1; have := HN.out; omega, HI.out, fun j x hj => HG.out j x (by have := (List.getElem?_eq_some_iff.1 hj).1; have := HE.out.2.2.2.1; omega) hj⟩
            subst e
            have q1 : (i < n7) = False := eq_false hlt
            clear hlt
            go_wp2_with fail
            go_ret
            exact ⟨by rfl, HW.out.toBelow⟩
end Go.Proofs.Ytnflalbiffamdaa.MineObj
