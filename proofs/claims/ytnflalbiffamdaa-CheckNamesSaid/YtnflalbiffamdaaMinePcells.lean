/- Objects of modules: the program's cells (rule 5). Conditions: the rows are short. -/
import Derived.Test.YtnflalbiffamdaaMinePnames
namespace Go.Proofs.Ytnflalbiffamdaa.MineObj
open Go.RowKit Go.MapKept Go.Proofs.YtnflalbiffamdaaW.PrintWords Go.Proofs.YtnflalbiffamdaaW.PrintLast Go.Proofs.YtnflalbiffamdaaW.PrintMore Go.Proofs.Ytnflalbiffamdaa.MineBase Go.Proofs.Ytnflalbiffamdaa.MineSep Go.Proofs.Ytnflalbiffamdaa.MineRows Go.Proofs.Ytnflalbiffamdaa.MineGen Go.Proofs.Ytnflalbiffamdaa.MineName Go.Proofs.Ytnflalbiffamdaa.MineMap Go.Proofs.Ytnflalbiffamdaa.QCheckTells
attribute [local go_sem ↓] Go.wp_at_zero Go.wp_at_succ
set_option linter.unusedVariables false
set_option linter.unusedSimpArgs false

/-- How many cells lie ahead of row k; the cells ahead of place i of row k. -/
def startC (o : Ob) (k : Nat) : Nat := if k = 0 then 0 else if k = 1 then o.ptrs.length else o.ptrs.length + o.procs.length
def cellsAt (o : Ob) (k i : Nat) : List Int := (cellsL o).take (startC o k + i)
theorem cells_at_0 (o : Ob) (i : Nat) (h : i < o.ptrs.length) : (cellsL o)[startC o 0 + i]? = o.ptrs[i]? := by
  unfold cellsL startC
  rw [if_pos rfl, Nat.zero_add, List.getElem?_append_left h]
theorem cells_at_1 (o : Ob) (i : Nat) (h : i < o.procs.length) : (cellsL o)[startC o 1 + i]? = o.procs[i]? := by
  unfold cellsL startC
  rw [if_neg (by decide), if_pos rfl, List.getElem?_append_right (by omega), Nat.add_sub_cancel_left]
theorem cellsAt_step_0 (o : Ob) (i : Nat) (n : Int) (h : o.ptrs[i]? = some n) : cellsAt o 0 (i + 1) = cellsAt o 0 i ++ [n] := by
  have hl := (List.getElem?_eq_some_iff.1 h).1
  unfold cellsAt
  rw [← Nat.add_assoc, List.take_add_one, cells_at_0 o i hl, h]; rfl
theorem cellsAt_step_1 (o : Ob) (i : Nat) (n : Int) (h : o.procs[i]? = some n) : cellsAt o 1 (i + 1) = cellsAt o 1 i ++ [n] := by
  have hl := (List.getElem?_eq_some_iff.1 h).1
  unfold cellsAt
  rw [← Nat.add_assoc, List.take_add_one, cells_at_1 o i hl, h]; rfl
theorem cellsAt_mem (o : Ob) (k i : Nat) (p : Int) (j : Nat) (hj : i < j) (h : (cellsL o)[startC o k + i]? = some p) : p ∈ cellsAt o k j := by
  unfold cellsAt
  refine List.mem_iff_getElem?.2 ⟨startC o k + i, ?_⟩
  rw [List.getElem?_take, if_pos (by omega)]; exact h
theorem cellsAt_mem_0 (o : Ob) (i : Nat) (p : Int) (j : Nat) (hj : i < j) (h : (cellsL o)[startC o 0 + i]? = some p) : p ∈ cellsAt o 0 j := cellsAt_mem o 0 i p j hj h
theorem cellsAt_mem_1 (o : Ob) (i : Nat) (p : Int) (j : Nat) (hj : i < j) (h : (cellsL o)[startC o 1 + i]? = some p) : p ∈ cellsAt o 1 j := cellsAt_mem o 1 i p j hj h
theorem cells_next_0 (o : Ob) (n : Nat) (h : n = o.ptrs.length) : cellsAt o 0 n = cellsAt o 1 0 ∧ startC o 0 + n = startC o 1 := by
  subst h
  unfold cellsAt startC
  simp
theorem cells_next_1 (o : Ob) (n : Nat) (h : n = o.procs.length) : cellsAt o 1 n = cellsAt o 2 0 ∧ startC o 1 + n = startC o 2 := by
  subst h
  unfold cellsAt startC
  simp
theorem lastOf_0 (o : Ob) : lastOf o (startC o 0 + 0) = -1 := by simp [lastOf, startC]
theorem lastOf_1 (o : Ob) : lastOf o (startC o 1 + 0) = -1 := by simp [lastOf, startC]
theorem seen_put2 {κ : Type} [DecidableEq κ] {kv : κ → Value} {w0 W : World} {l : List Asn} {B : Asn} {m : Nat} {L : List κ} {d : TypeDesc} {t kt : TypeId} (K : KeysOf d kv (fun _ => True)) (ht : Try.prog.underlying t = some (.map kt 3)) (hd : Try.prog.underlying kt = some d) (h : Sat w0 W (B :: ASeen kv m L :: l)) (k : κ) (hk : k ∉ L) :
    ∃ w', (Instr.mapUpdate t (.map (some m)) (kv k) (.int .i64 1)).run Try.prog W = .ok () w' ∧ Sat w0 w' (B :: ASeen kv m (L ++ [k]) :: l) := by
  obtain ⟨w', h1, h2⟩ := seen_put K ht hd h.swap k hk
  exact ⟨w', h1, h2.swap⟩
theorem size_alloc1 (W : World) (o : Obj) : (W.alloc o).heap.size = W.heap.size + 1 := by simp only [World.alloc, Array.size_push]
theorem three_new {w0 W : World} {l : List Asn} (h : Sat w0 W l) (o1 o3 : Obj) {κ : Type} [DecidableEq κ] (kv : κ → Value) : Sat w0 (((W.alloc o1).alloc (.map #[] 0)).alloc o3) (ABlk (W.heap.size + 1 + 1) o3 :: ASeen kv (W.heap.size + 1) ([] : List κ) :: ABlk W.heap.size o1 :: l) := by
  have h1 := seen_new (blk_new h o1) kv
  rw [size_alloc1] at h1
  have h2 := blk_new h1 o3
  rw [size_alloc1, size_alloc1] at h2
  exact h2
set_option maxRecDepth 100000 in
set_option maxHeartbeats 8000000 in
theorem cells_calls (o : Ob) (a : Oa) (w : World) (n2 n3 n6 n7 n8 n9 n10 : Nat) (e2 : n2 = o.imps.length) (e3 : n3 = o.typs.length) (e6 : n6 = o.code.length) (e7 : n7 = o.cmds.length) (e8 : n8 = o.exps.length) (e9 : n9 = o.ptrs.length) (e10 : n10 = o.procs.length) (hO : ObR o a w) (l9 : n9 ≤ 300) (l10 : n10 ≤ 300) (hd : 0 ≤ o.data) (hda : o.data ≤ 9223372036854775807) (r : Bool) (hr : r = true ↔ CellsOk o ∧ o.ptrs.length ≤ 16 ∧ o.procs.length ≤ 16) :
    Calls Try.prog 101 #[.agg #[.string o.nm, .int .u32 o.key, .slice a.A2 n2 a.c2, .slice a.A3 n3 a.c3, .int .i64 o.data, .string o.text, .slice a.A6 n6 a.c6, .slice a.A7 n7 a.c7, .slice a.A8 n8 a.c8, .slice a.A9 n9 a.c9, .slice a.A10 n10 a.c10, .int .i64 o.x0, .int .i64 o.x1, .int .i64 o.x2, .int .i64 o.body]] w fun e w' => e = .returned (.bool r) ∧ Below w.heap.size w w' := by
  have HO := Aside0.mk hO
  have HR := Aside0.mk hr
  have HE := Aside0.mk (And.intro e2 (And.intro e3 (And.intro e6 (And.intro e7 (And.intro e8 (And.intro e9 e10))))))
  have hu31 := Try.underlying31
  have HCL := Aside0.mk (show (cellsL o).length = n9 + n10 from by unfold cellsL; rw [List.length_append, e9, e10])
  clear hO hr e2 e3 e6 e7 e8 e9 e10
  obtain ⟨A9, hA⟩ : ∃ A, a.A9 = A := ⟨_, rfl⟩
  obtain ⟨A10, hB⟩ : ∃ A, a.A10 = A := ⟨_, rfl⟩
  rw [hA, hB]
  have HA := Aside0.mk hA
  have HB := Aside0.mk hB
  clear hA hB
  have hmm := @run_makeMap Try.prog
  go_enter Try.func101, Try.ntmps101
  go_wp2_with fail
  refine wp_abs (fun W => Sat w W [ABlk (w.heap.size + 1 + 1) (.cells #[.slice A9 n9 a.c9, .slice A10 n10 a.c10] 28 (0, 0)), ASeen (Value.int .i64) (w.heap.size + 1) (cellsAt o 0 0), ABlk w.heap.size (.cells #[.string o.nm, .int .u32 o.key, .slice a.A2 n2 a.c2, .slice a.A3 n3 a.c3, .int .i64 o.data, .string o.text, .slice a.A6 n6 a.c6, .slice a.A7 n7 a.c7, .slice a.A8 n8 a.c8, .slice A9 n9 a.c9, .slice A10 n10 a.c10, .int .i64 o.x0, .int .i64 o.x1, .int .i64 o.x2, .int .i64 o.body] 31 (0, 0))]) (three_new (Sat.start w) _ _ (Value.int .i64)) (fun W hW => ?_)
  generalize w.heap.size + 1 + 1 = b2 at hW ⊢
  generalize w.heap.size + 1 = m at hW ⊢
  replace hW := Aside0.mk hW
  clear hmm
  go_loopg [15] 4 (fun kq v w' => ∃ k : Nat, v = .int .i64 k ∧ Aside0 (k ≤ 2 ∧ 3 - k < kq) ∧ Aside0 (1 ≤ k → n9 ≤ 16) ∧ Aside0 (2 ≤ k → n10 ≤ 16) ∧ Aside0 (∀ (j : Nat) (n : Int), j < startC o k → (cellsL o)[j]? = some n → GoodCell o j n ∧ 0 ≤ n) ∧ Aside0 (Sat w w' [ABlk b2 (.cells #[.slice A9 n9 a.c9, .slice A10 n10 a.c10] 28 (0, 0)), ASeen (Value.int .i64) m (cellsAt o k 0), ABlk w.heap.size (.cells #[.string o.nm, .int .u32 o.key, .slice a.A2 n2 a.c2, .slice a.A3 n3 a.c3, .int .i64 o.data, .string o.text, .slice a.A6 n6 a.c6, .slice a.A7 n7 a.c7, .slice a.A8 n8 a.c8, .slice A9 n9 a.c9, .slice A10 n10 a.c10, .int .i64 o.x0, .int .i64 o.x1, .int .i64 o.x2, .int .i64 o.body] 31 (0, 0))]))
  case atStart => exact ⟨0, rfl, ⟨by omega⟩, ⟨fun h => absurd h (by omega)⟩, ⟨fun h => absurd h (by omega)⟩, ⟨fun j n h => absurd h (by simp [startC])⟩, hW⟩
  case round =>
    clear hW
    obtain ⟨k, rfl, Hk, H9, H10, HG, HW⟩ := hrel
    obtain ⟨gk1, rfl⟩ : ∃ x, x = gk := ⟨gk, rfl⟩
    have u0 : wr.cell? ⟨b2, 0, none⟩ = some (.slice A9 n9 a.c9) := get_cell (blk_at HW.out) 0
    have u1 : wr.cell? ⟨b2, 1, none⟩ = some (.slice A10 n10 a.c10) := get_cell (blk_at HW.out) 1
    have Hk1 := Hk
    by_cases hk0 : k = 0
    · subst hk0
      go_wp2_with fail
      clear u0 u1
      go_loopg [21] (n9 + 1) (fun kq v w' => ∃ i : Nat, v = .int .i64 i ∧ Aside0 (i ≤ n9 ∧ n9 - i < kq) ∧ Aside0 (∀ (j : Nat) (n : Int), j < startC o 0 + i → (cellsL o)[j]? = some n → GoodCell o j n ∧ 0 ≤ n) ∧ Aside0 (Sat w w' [ABlk b2 (.cells #[.slice A9 n9 a.c9, .slice A10 n10 a.c10] 28 (0, 0)), ASeen (Value.int .i64) m (cellsAt o 0 i), ABlk w.heap.size (.cells #[.string o.nm, .int .u32 o.key, .slice a.A2 n2 a.c2, .slice a.A3 n3 a.c3, .int .i64 o.data, .string o.text, .slice a.A6 n6 a.c6, .slice a.A7 n7 a.c7, .slice a.A8 n8 a.c8, .slice A9 n9 a.c9, .slice A10 n10 a.c10, .int .i64 o.x0, .int .i64 o.x1, .int .i64 o.x2, .int .i64 o.body] 31 (0, 0))]))
      case atStart => exact ⟨0, rfl, ⟨by omega⟩, HG, HW⟩
      case round =>
        clear HW HG Hk
        obtain ⟨i, rfl, Hi, HG, HW⟩ := hrel
        obtain ⟨gk2, rfl⟩ : ∃ x, x = gk := ⟨gk, rfl⟩
        have x4 : wr.cell? ⟨w.heap.size, 4, none⟩ = some (.int .i64 o.data) := get_cell (blk_at HW.out.drop.drop) 4
        by_cases hlt : i < n9
        · have hlL : i < o.ptrs.length := by have := HE.out.2.2.2.2.2.1; omega
          obtain ⟨n, hn⟩ : ∃ n, o.ptrs[i]? = some n := ⟨_, List.getElem?_eq_getElem hlL⟩
          have HV0 := Aside0.mk hn
          have HV := Aside0.mk (show (cellsL o)[startC o 0 + i]? = some n from by rw [cells_at_0 o i hlL]; exact hn)
          obtain ⟨ad, eA, y0⟩ := Kd.at_int (HO.out.sat HW.out).r9 (i : Int) (by omega) (by omega)
          have ev : rd o.ptrs (i : Int) = n := by
            have := (List.getElem?_eq_some_iff.1 hn).2
            simp [rd, hlL, this]
          rw [ev] at y0
          simp only [Int.toNat_natCast] at y0
          have HAD := Aside0.mk eA
          replace eA := HA.out.symm.trans eA
          subst eA
          have HQ := Aside0.mk hlt
          have q1 : (i < n9) = True := eq_true hlt
          have q0 : i < n9 := hlt
          have q2 : 0 ≤ (i : Int) := by omega
          have q3 : (i : Int) ≤ 300 := by omega
          clear hlt ev hn
          have HBAD := Aside0.mk (show ¬ GoodCell o (startC o 0 + i) n ∨ ¬ (0 ≤ n ∧ n < o.data) → r = false from fun hx => by
            cases r with
            | false => rfl
            | true =>
              have hc := (HR.out.1 rfl).1
              rcases hx with hx | hx
              · exact absurd ((cells_iff o).1 hc _ n HV.out) hx
              · exact absurd (hc.1 n (List.mem_iff_getElem?.2 ⟨_, HV.out⟩)) hx)
          have hlk := seen_look intKeys Try.underlying174 Try.underlying3 HW.out.drop n
          obtain ⟨bs, hbs⟩ : ∃ b, b = decide (0 ≤ n ∧ n ≤ o.data - 1) := ⟨_, rfl⟩
          have HBS := Aside0.mk hbs
          clear hbs
          cases bs with
          | false =>
            have hb0 := of_decide_eq_false HBS.out.symm
            have e : r = false := HBAD.out (.inr (by omega))
            subst e
            clear hb0 hlk
            go_wp2_with (go_at_call 97; (with_reducible refine (in_calls n _ _ HBS.out _).mono ?_); rintro e6 w6 ⟨rfl, rfl⟩)
            go_ret
            exact ⟨by rfl, HW.out.toBelow⟩
          | true =>
            have hb0 := of_decide_eq_true HBS.out.symm
            by_cases gs : n ∈ cellsAt o 0 i
            · rw [if_pos gs] at hlk
              have e : r = false := HBAD.out (.inl (fun h => h.2.2 gs))
              subst e
              clear hb0 gs
              go_wp2_with (go_at_call 97; (with_reducible refine (in_calls n _ _ HBS.out _).mono ?_); rintro e6 w6 ⟨rfl, rfl⟩)
              go_ret
              exact ⟨by rfl, HW.out.toBelow⟩
            · rw [if_neg gs] at hlk
              obtain ⟨w9, hput, hS9⟩ := seen_put intKeys Try.underlying174 Try.underlying3 HW.out.drop n gs
              have HW9 := Aside0.mk (show Sat w w9 [ABlk b2 (.cells #[.slice (some ad) n9 a.c9, .slice A10 n10 a.c10] 28 (0, 0)), ASeen (Value.int .i64) m (cellsAt o 0 (i + 1)), ABlk w.heap.size (.cells #[.string o.nm, .int .u32 o.key, .slice a.A2 n2 a.c2, .slice a.A3 n3 a.c3, .int .i64 o.data, .string o.text, .slice a.A6 n6 a.c6, .slice a.A7 n7 a.c7, .slice a.A8 n8 a.c8, .slice (some ad) n9 a.c9, .slice A10 n10 a.c10, .int .i64 o.x0, .int .i64 o.x1, .int .i64 o.x2, .int .i64 o.body] 31 (0, 0))] from by
                obtain ⟨w9b, hput2, hS9b⟩ := seen_put2 intKeys Try.underlying174 Try.underlying3 HW.out n gs
                rw [hput] at hput2
                injection hput2 with _ e9
                rw [e9, cellsAt_step_0 o i n HV0.out]; exact hS9b)
              clear hS9
              have HGS := Aside0.mk gs
              clear gs
              cases i with
              | zero =>
                have HT := Aside0.mk (show GoodCell o (startC o 0 + 0) n ∧ 0 ≤ n from ⟨⟨by rw [lastOf_0]; omega, by omega, HGS.out⟩, hb0.1⟩)
                have y0z : wr.cell? ad = some (.int .i64 n) := y0
                clear hb0
                go_wp2_with (go_at_call 97; (with_reducible refine (in_calls n _ _ HBS.out _).mono ?_); rintro e6 w6 ⟨rfl, rfl⟩)
                go_roundg (gk2 - 1)
                case measure => have := Hi.out; have := HQ.out; omega
                case rel => exact ⟨0 + 1, by go_num, ⟨by have := Hi.out; have := HQ.out; omega⟩, ⟨fun j u hj hu => by
                  by_cases hji : j = startC o 0 + 0
                  · subst hji
                    have := HV.out
                    rw [hu] at this
                    injection this with this
                    rw [this]; exact HT.out
                  · exact HG.out j u (by omega) hu⟩, HW9⟩
              | succ i =>
                obtain ⟨p, hp⟩ : ∃ p, o.ptrs[i]? = some p := ⟨_, List.getElem?_eq_getElem (by omega)⟩
                have HP := Aside0.mk (show (cellsL o)[startC o 0 + i]? = some p from by rw [cells_at_0 o i (by omega)]; exact hp)
                obtain ⟨ad2, eA2, y1⟩ := Kd.at_int (HO.out.sat HW.out).r9 (i : Int) (by omega) (by omega)
                have ev : rd o.ptrs (i : Int) = p := by
                  have hl := (List.getElem?_eq_some_iff.1 hp).1
                  have := (List.getElem?_eq_some_iff.1 hp).2
                  simp [rd, hl, this]
                rw [ev] at y1
                simp only [Int.toNat_natCast] at y1
                have e12 : ad2 = ad := by have h := HAD.out.symm.trans eA2; injection h with h; exact h.symm
                subst e12
                clear eA2 ev hp
                have y0s : wr.cell? ⟨ad2.block, ad2.off + (i + 1), none⟩ = some (.int .i64 n) := y0
                have HLT := Aside0.mk (show lastOf o (startC o 0 + (i + 1)) = p from by
                  unfold lastOf
                  rw [if_neg (by have := HE.out.2.2.2.2.2.1; have := HQ.out; unfold startC; first | (simp; done) | (simp; omega)), List.getD_eq_getElem?_getD]
                  rw [show startC o 0 + (i + 1) - 1 = startC o 0 + i from by omega, HP.out]; rfl)
                have r2 : 0 ≤ (i : Int) := by omega
                have r3 : (i : Int) ≤ 300 := by omega
                have r4 : i < n9 := by omega
                have r5 : (i < n9) = True := eq_true r4
                have r6 : 0 < (i : Int) + 1 := by omega
                by_cases gp : n < p
                · have gpa : (n < p) = True := eq_true gp
                  have gpb : decide (n < p) = true := decide_eq_true gp
                  have e : r = false := HBAD.out (.inl (fun h => by have h1 := h.1; rw [HLT.out] at h1; omega))
                  subst e
                  clear hb0 gp
                  go_wp2_with (go_at_call 97; (with_reducible refine (in_calls n _ _ HBS.out _).mono ?_); rintro e6 w6 ⟨rfl, rfl⟩)
                  go_ret
                  exact ⟨by rfl, HW.out.toBelow⟩
                · have gpa : (n < p) = False := eq_false gp
                  have gpb : decide (n < p) = false := decide_eq_false gp
                  have HT := Aside0.mk (show GoodCell o (startC o 0 + (i + 1)) n ∧ 0 ≤ n from ⟨⟨by
                    rw [HLT.out]
                    have hne : n ≠ p := fun e => HGS.out (by rw [e]; exact cellsAt_mem_0 o i p (i + 1) (by omega) HP.out)
                    omega, by omega, HGS.out⟩, hb0.1⟩)
                  clear hb0 gp
                  go_wp2_with (go_at_call 97; (with_reducible refine (in_calls n _ _ HBS.out _).mono ?_); rintro e6 w6 ⟨rfl, rfl⟩)
                  go_roundg (gk2 - 1)
                  case measure => have := Hi.out; have := HQ.out; omega
                  case rel => exact ⟨(i + 1) + 1, by go_num, ⟨by have := Hi.out; have := HQ.out; omega⟩, ⟨fun j u hj hu => by
                    by_cases hji : j = startC o 0 + (i + 1)
                    · subst hji
                      have := HV.out
                      rw [hu] at this
                      injection this with this
                      rw [this]; exact HT.out
                    · exact HG.out j u (by omega) hu⟩, HW9⟩
        · have q1 : (i < n9) = False := eq_false hlt
          have HIE := Aside0.mk (show i = n9 from by have := Hi.out; omega)
          clear hlt
          by_cases gl : 16 < n9
          · have gla : (16 < n9) = True := eq_true gl
            have glb : ((16 : Int) < ((n9 : Nat) : Int)) = True := eq_true (by omega)
            have glc : decide ((16 : Int) < ((n9 : Nat) : Int)) = true := decide_eq_true (by omega)
            have e : r = false := by
              cases r with
              | false => rfl
              | true => exact absurd (HR.out.1 rfl) (fun h => by have h1 := h.2.1; have := HE.out.2.2.2.2.2.1; omega)
            subst e
            clear gl
            go_wp2_with fail
            go_ret
            exact ⟨by rfl, HW.out.toBelow⟩
          · have gla : (16 < n9) = False := eq_false gl
            have glb : ((16 : Int) < ((n9 : Nat) : Int)) = False := eq_false (by omega)
            have glc : decide ((16 : Int) < ((n9 : Nat) : Int)) = false := decide_eq_false (by omega)
            have HL16 := Aside0.mk (show n9 ≤ 16 from by omega)
            have HNX := Aside0.mk (show cellsAt o 0 i = cellsAt o 1 0 ∧ startC o 0 + i = startC o 1 from by rw [HIE.out]; exact cells_next_0 o n9 HE.out.2.2.2.2.2.1)
            clear gl x4
            go_wp2_with fail
            go_roundg (gk1 - 1)
            case measure => have := Hk1.out; omega
            case rel => exact ⟨1, by go_num, ⟨by have := Hk1.out; omega⟩, ⟨fun _ => HL16.out⟩, ⟨fun h => absurd h (by omega)⟩, ⟨fun j u hj hu => HG.out j u (by rw [HNX.out.2]; exact hj) hu⟩, ⟨by have h := HW.out; rw [HNX.out.1] at h; exact h⟩⟩
    by_cases hk1 : k = 1
    · subst hk1
      go_wp2_with fail
      clear u0 u1
      go_loopg [21] (n10 + 1) (fun kq v w' => ∃ i : Nat, v = .int .i64 i ∧ Aside0 (i ≤ n10 ∧ n10 - i < kq) ∧ Aside0 (∀ (j : Nat) (n : Int), j < startC o 1 + i → (cellsL o)[j]? = some n → GoodCell o j n ∧ 0 ≤ n) ∧ Aside0 (Sat w w' [ABlk b2 (.cells #[.slice A9 n9 a.c9, .slice A10 n10 a.c10] 28 (0, 0)), ASeen (Value.int .i64) m (cellsAt o 1 i), ABlk w.heap.size (.cells #[.string o.nm, .int .u32 o.key, .slice a.A2 n2 a.c2, .slice a.A3 n3 a.c3, .int .i64 o.data, .string o.text, .slice a.A6 n6 a.c6, .slice a.A7 n7 a.c7, .slice a.A8 n8 a.c8, .slice A9 n9 a.c9, .slice A10 n10 a.c10, .int .i64 o.x0, .int .i64 o.x1, .int .i64 o.x2, .int .i64 o.body] 31 (0, 0))]))
      case atStart => exact ⟨0, rfl, ⟨by omega⟩, HG, HW⟩
      case round =>
        clear HW HG Hk
        obtain ⟨i, rfl, Hi, HG, HW⟩ := hrel
        obtain ⟨gk2, rfl⟩ : ∃ x, x = gk := ⟨gk, rfl⟩
        have x4 : wr.cell? ⟨w.heap.size, 4, none⟩ = some (.int .i64 o.data) := get_cell (blk_at HW.out.drop.drop) 4
        by_cases hlt : i < n10
        · have hlL : i < o.procs.length := by have := HE.out.2.2.2.2.2.2; omega
          obtain ⟨n, hn⟩ : ∃ n, o.procs[i]? = some n := ⟨_, List.getElem?_eq_getElem hlL⟩
          have HV0 := Aside0.mk hn
          have HV := Aside0.mk (show (cellsL o)[startC o 1 + i]? = some n from by rw [cells_at_1 o i hlL]; exact hn)
          obtain ⟨ad, eA, y0⟩ := Kd.at_int (HO.out.sat HW.out).r10 (i : Int) (by omega) (by omega)
          have ev : rd o.procs (i : Int) = n := by
            have := (List.getElem?_eq_some_iff.1 hn).2
            simp [rd, hlL, this]
          rw [ev] at y0
          simp only [Int.toNat_natCast] at y0
          have HAD := Aside0.mk eA
          replace eA := HB.out.symm.trans eA
          subst eA
          have HQ := Aside0.mk hlt
          have q1 : (i < n10) = True := eq_true hlt
          have q0 : i < n10 := hlt
          have q2 : 0 ≤ (i : Int) := by omega
          have q3 : (i : Int) ≤ 300 := by omega
          clear hlt ev hn
          have HBAD := Aside0.mk (show ¬ GoodCell o (startC o 1 + i) n ∨ ¬ (0 ≤ n ∧ n < o.data) → r = false from fun hx => by
            cases r with
            | false => rfl
            | true =>
              have hc := (HR.out.1 rfl).1
              rcases hx with hx | hx
              · exact absurd ((cells_iff o).1 hc _ n HV.out) hx
              · exact absurd (hc.1 n (List.mem_iff_getElem?.2 ⟨_, HV.out⟩)) hx)
          have hlk := seen_look intKeys Try.underlying174 Try.underlying3 HW.out.drop n
          obtain ⟨bs, hbs⟩ : ∃ b, b = decide (0 ≤ n ∧ n ≤ o.data - 1) := ⟨_, rfl⟩
          have HBS := Aside0.mk hbs
          clear hbs
          cases bs with
          | false =>
            have hb0 := of_decide_eq_false HBS.out.symm
            have e : r = false := HBAD.out (.inr (by omega))
            subst e
            clear hb0 hlk
            go_wp2_with (go_at_call 97; (with_reducible refine (in_calls n _ _ HBS.out _).mono ?_); rintro e6 w6 ⟨rfl, rfl⟩)
            go_ret
            exact ⟨by rfl, HW.out.toBelow⟩
          | true =>
            have hb0 := of_decide_eq_true HBS.out.symm
            by_cases gs : n ∈ cellsAt o 1 i
            · rw [if_pos gs] at hlk
              have e : r = false := HBAD.out (.inl (fun h => h.2.2 gs))
              subst e
              clear hb0 gs
              go_wp2_with (go_at_call 97; (with_reducible refine (in_calls n _ _ HBS.out _).mono ?_); rintro e6 w6 ⟨rfl, rfl⟩)
              go_ret
              exact ⟨by rfl, HW.out.toBelow⟩
            · rw [if_neg gs] at hlk
              obtain ⟨w9, hput, hS9⟩ := seen_put intKeys Try.underlying174 Try.underlying3 HW.out.drop n gs
              have HW9 := Aside0.mk (show Sat w w9 [ABlk b2 (.cells #[.slice A9 n9 a.c9, .slice (some ad) n10 a.c10] 28 (0, 0)), ASeen (Value.int .i64) m (cellsAt o 1 (i + 1)), ABlk w.heap.size (.cells #[.string o.nm, .int .u32 o.key, .slice a.A2 n2 a.c2, .slice a.A3 n3 a.c3, .int .i64 o.data, .string o.text, .slice a.A6 n6 a.c6, .slice a.A7 n7 a.c7, .slice a.A8 n8 a.c8, .slice A9 n9 a.c9, .slice (some ad) n10 a.c10, .int .i64 o.x0, .int .i64 o.x1, .int .i64 o.x2, .int .i64 o.body] 31 (0, 0))] from by
                obtain ⟨w9b, hput2, hS9b⟩ := seen_put2 intKeys Try.underlying174 Try.underlying3 HW.out n gs
                rw [hput] at hput2
                injection hput2 with _ e9
                rw [e9, cellsAt_step_1 o i n HV0.out]; exact hS9b)
              clear hS9
              have HGS := Aside0.mk gs
              clear gs
              cases i with
              | zero =>
                have HT := Aside0.mk (show GoodCell o (startC o 1 + 0) n ∧ 0 ≤ n from ⟨⟨by rw [lastOf_1]; omega, by omega, HGS.out⟩, hb0.1⟩)
                have y0z : wr.cell? ad = some (.int .i64 n) := y0
                clear hb0
                go_wp2_with (go_at_call 97; (with_reducible refine (in_calls n _ _ HBS.out _).mono ?_); rintro e6 w6 ⟨rfl, rfl⟩)
                go_roundg (gk2 - 1)
                case measure => have := Hi.out; have := HQ.out; omega
                case rel => exact ⟨0 + 1, by go_num, ⟨by have := Hi.out; have := HQ.out; omega⟩, ⟨fun j u hj hu => by
                  by_cases hji : j = startC o 1 + 0
                  · subst hji
                    have := HV.out
                    rw [hu] at this
                    injection this with this
                    rw [this]; exact HT.out
                  · exact HG.out j u (by omega) hu⟩, HW9⟩
              | succ i =>
                obtain ⟨p, hp⟩ : ∃ p, o.procs[i]? = some p := ⟨_, List.getElem?_eq_getElem (by omega)⟩
                have HP := Aside0.mk (show (cellsL o)[startC o 1 + i]? = some p from by rw [cells_at_1 o i (by omega)]; exact hp)
                obtain ⟨ad2, eA2, y1⟩ := Kd.at_int (HO.out.sat HW.out).r10 (i : Int) (by omega) (by omega)
                have ev : rd o.procs (i : Int) = p := by
                  have hl := (List.getElem?_eq_some_iff.1 hp).1
                  have := (List.getElem?_eq_some_iff.1 hp).2
                  simp [rd, hl, this]
                rw [ev] at y1
                simp only [Int.toNat_natCast] at y1
                have e12 : ad2 = ad := by have h := HAD.out.symm.trans eA2; injection h with h; exact h.symm
                subst e12
                clear eA2 ev hp
                have y0s : wr.cell? ⟨ad2.block, ad2.off + (i + 1), none⟩ = some (.int .i64 n) := y0
                have HLT := Aside0.mk (show lastOf o (startC o 1 + (i + 1)) = p from by
                  unfold lastOf
                  rw [if_neg (by have := HE.out.2.2.2.2.2.1; have := HQ.out; unfold startC; first | (simp; done) | (simp; omega)), List.getD_eq_getElem?_getD]
                  rw [show startC o 1 + (i + 1) - 1 = startC o 1 + i from by omega, HP.out]; rfl)
                have r2 : 0 ≤ (i : Int) := by omega
                have r3 : (i : Int) ≤ 300 := by omega
                have r4 : i < n10 := by omega
                have r5 : (i < n10) = True := eq_true r4
                have r6 : 0 < (i : Int) + 1 := by omega
                by_cases gp : n < p
                · have gpa : (n < p) = True := eq_true gp
                  have gpb : decide (n < p) = true := decide_eq_true gp
                  have e : r = false := HBAD.out (.inl (fun h => by have h1 := h.1; rw [HLT.out] at h1; omega))
                  subst e
                  clear hb0 gp
                  go_wp2_with (go_at_call 97; (with_reducible refine (in_calls n _ _ HBS.out _).mono ?_); rintro e6 w6 ⟨rfl, rfl⟩)
                  go_ret
                  exact ⟨by rfl, HW.out.toBelow⟩
                · have gpa : (n < p) = False := eq_false gp
                  have gpb : decide (n < p) = false := decide_eq_false gp
                  have HT := Aside0.mk (show GoodCell o (startC o 1 + (i + 1)) n ∧ 0 ≤ n from ⟨⟨by
                    rw [HLT.out]
                    have hne : n ≠ p := fun e => HGS.out (by rw [e]; exact cellsAt_mem_1 o i p (i + 1) (by omega) HP.out)
                    omega, by omega, HGS.out⟩, hb0.1⟩)
                  clear hb0 gp
                  go_wp2_with (go_at_call 97; (with_reducible refine (in_calls n _ _ HBS.out _).mono ?_); rintro e6 w6 ⟨rfl, rfl⟩)
                  go_roundg (gk2 - 1)
                  case measure => have := Hi.out; have := HQ.out; omega
                  case rel => exact ⟨(i + 1) + 1, by go_num, ⟨by have := Hi.out; have := HQ.out; omega⟩, ⟨fun j u hj hu => by
                    by_cases hji : j = startC o 1 + (i + 1)
                    · subst hji
                      have := HV.out
                      rw [hu] at this
                      injection this with this
                      rw [this]; exact HT.out
                    · exact HG.out j u (by omega) hu⟩, HW9⟩
        · have q1 : (i < n10) = False := eq_false hlt
          have HIE := Aside0.mk (show i = n10 from by have := Hi.out; omega)
          clear hlt
          by_cases gl : 16 < n10
          · have gla : (16 < n10) = True := eq_true gl
            have glb : ((16 : Int) < ((n10 : Nat) : Int)) = True := eq_true (by omega)
            have glc : decide ((16 : Int) < ((n10 : Nat) : Int)) = true := decide_eq_true (by omega)
            have e : r = false := by
              cases r with
              | false => rfl
              | true => exact absurd (HR.out.1 rfl) (fun h => by have h1 := h.2.2; have := HE.out.2.2.2.2.2.2; omega)
            subst e
            clear gl
            go_wp2_with fail
            go_ret
            exact ⟨by rfl, HW.out.toBelow⟩
          · have gla : (16 < n10) = False := eq_false gl
            have glb : ((16 : Int) < ((n10 : Nat) : Int)) = False := eq_false (by omega)
            have glc : decide ((16 : Int) < ((n10 : Nat) : Int)) = false := decide_eq_false (by omega)
            have HL16 := Aside0.mk (show n10 ≤ 16 from by omega)
            have HNX := Aside0.mk (show cellsAt o 1 i = cellsAt o 2 0 ∧ startC o 1 + i = startC o 2 from by rw [HIE.out]; exact cells_next_1 o n10 HE.out.2.2.2.2.2.2)
            clear gl x4
            go_wp2_with fail
            go_roundg (gk1 - 1)
            case measure => have := Hk1.out; omega
            case rel => exact ⟨2, by go_num, ⟨by have := Hk1.out; omega⟩, ⟨fun _ => H9.out (by omega)⟩, ⟨fun _ => HL16.out⟩, ⟨fun j u hj hu => HG.out j u (by rw [HNX.out.2]; exact hj) hu⟩, ⟨by have h := HW.out; rw [HNX.out.1] at h; exact h⟩⟩
    have hk2 : k = 2 := by have := Hk.out; omega
    subst hk2
    have e : r = true := HR.out.2 ⟨(cells_iff o).2 (fun j n hj => (HG.out j n (by have := (List.getElem?_eq_some_iff.1 hj).1; have := HCL.out; have := HE.out.2.2.2.2.2.1; have := HE.out.2.2.2.2.2.2; show j < o.ptrs.length + o.procs.length; omega) hj).1), by have := H9.out (by omega); have := HE.out.2.2.2.2.2.1; omega, by have := H10.out (by omega); have := HE.out.2.2.2.2.2.2; omega⟩
    subst e
    go_wp2_with fail
    go_ret
    exact ⟨by rfl, HW.out.toBelow⟩
end Go.Proofs.Ytnflalbiffamdaa.MineObj
