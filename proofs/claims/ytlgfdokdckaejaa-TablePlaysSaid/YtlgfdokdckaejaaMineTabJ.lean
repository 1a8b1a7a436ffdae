/- Tables of modules: adding one, walked. Conditions: the lengths are small. -/
import Derived.Test.YtlgfdokdckaejaaMineTabI
namespace Go.Proofs.Ytlgfdokdckaejaa.MineTab
open Go.RowKit Go.MapKept Go.Proofs.YtlgfdokdckaejaaW.PrintWords Go.Proofs.YtlgfdokdckaejaaW.PrintLast Go.Proofs.YtlgfdokdckaejaaW.PrintMore Go.Proofs.Ytlgfdokdckaejaa.MineBase Go.Proofs.Ytlgfdokdckaejaa.MineSep Go.Proofs.Ytlgfdokdckaejaa.MineRows Go.Proofs.Ytlgfdokdckaejaa.QTableKeeps
set_option linter.unusedVariables false
set_option linter.unusedSimpArgs false
theorem infoMz : (Try.prog.info? 65).map (fun i => (i.zero, i.size, i.bytes)) = some (some (.agg zeroM), k65.sz, 192) := by kernel_rfl
theorem cells_slices {w : World} {ok : Nat → Prop} {m : S65} {v8 v9 v10 v11 v12 : Value} (h : Kd.FK k65 w ok m (cellsM m v8 v9 v10 v11 v12).toList) :
    ∃ A8 c8 A9 c9 A10 c10 A11 c11 A12 c12, v8 = .slice A8 m.f4.f4.length c8 ∧ v9 = .slice A9 m.f4.f5.length c9 ∧ v10 = .slice A10 m.f5.length c10 ∧ v11 = .slice A11 m.f6.length c11 ∧ v12 = .slice A12 m.f7.length c12 := by
  obtain ⟨A8, c8, A9, c9, A10, c10, A11, c11, A12, c12, e, _⟩ := k65_open (Kd.FK_now h)
  have e' : [v8, v9, v10, v11, v12] = [.slice A8 m.f4.f4.length c8, .slice A9 m.f4.f5.length c9, .slice A10 m.f5.length c10, .slice A11 m.f6.length c11, .slice A12 m.f7.length c12] := congrArg (fun l => l.drop 8) e
  simp only [List.cons.injEq, and_true] at e'
  exact ⟨A8, c8, A9, c9, A10, c10, A11, c11, A12, c12, e'⟩
set_option maxHeartbeats 40000000 in
set_option maxRecDepth 100000 in
theorem Add_calls {w0 w : World} {l : List Asn} {g : Nat} {most : Int} {ms : List S65} (HS : Sat w0 w (ATab w0.heap.size g most ms :: l)) (m : S65) (A8 A9 A10 A11 A12 : Option Addr) (c8 c9 c10 c11 c12 : Nat)
    (g8 : (Kd.int .i64).C w A8 m.f4.f4.length m.f4.f4) (g9 : (Kd.int .i64).C w A9 m.f4.f5.length m.f4.f5) (g10 : Kd.string.C w A10 m.f5.length m.f5) (g11 : k71.C w A11 m.f6.length m.f6) (g12 : k100.C w A12 m.f7.length m.f7) (hsm : SmallM m) :
    Calls Try.prog 22 #[.pointer (some ⟨g, 0, none⟩), .agg #[.string m.f0, .int .u32 m.f1, .int .i64 m.f2, .int .i64 m.f3, .int .i64 m.f4.f0, .int .i64 m.f4.f1, .int .i64 m.f4.f2, .int .i64 m.f4.f3, .slice A8 m.f4.f4.length c8, .slice A9 m.f4.f5.length c9, .slice A10 m.f5.length c10, .slice A11 m.f6.length c11, .slice A12 m.f7.length c12]] w
      fun e w' => e = .returned (errV (addE most ms m)) ∧ Sat w0 w' (ATab w0.heap.size g most (addT most ms m) :: l) := by
  replace HS := Aside0.mk HS
  have hbx := below_alloc (below_alloc (Below.refl w.heap.size w) (.cells #[.pointer (some ⟨g, 0, none⟩)] 51)) (.cells (cellsM m (.slice A8 m.f4.f4.length c8) (.slice A9 m.f4.f5.length c9) (.slice A10 m.f5.length c10) (.slice A11 m.f6.length c11) (.slice A12 m.f7.length c12)) 65)
  have HS1 := Aside0.mk (HS.out.below hbx)
  have HSM := Aside0.mk hsm
  have G8 := Aside0.mk (Kd.C_below g8 hbx)
  have G9 := Aside0.mk (Kd.C_below g9 hbx)
  have G10 := Aside0.mk (Kd.C_below g10 hbx)
  have G11 := Aside0.mk (Kd.C_below g11 hbx)
  have G12 := Aside0.mk (Kd.C_below g12 hbx)
  have HP := Aside0.mk (heap_alloc2_old w (.cells #[.pointer (some ⟨g, 0, none⟩)] 51) (.cells (cellsM m (.slice A8 m.f4.f4.length c8) (.slice A9 m.f4.f5.length c9) (.slice A10 m.f5.length c10) (.slice A11 m.f6.length c11) (.slice A12 m.f7.length c12)) 65))
  have HM := Aside0.mk (heap_alloc2_new w (.cells #[.pointer (some ⟨g, 0, none⟩)] 51) (.cells (cellsM m (.slice A8 m.f4.f4.length c8) (.slice A9 m.f4.f5.length c9) (.slice A10 m.f5.length c10) (.slice A11 m.f6.length c11) (.slice A12 m.f7.length c12)) 65))
  have HQ := HSM
  clear g8 g9 g10 g11 g12 hsm hbx HS HQ
  go_enter Try.func22, Try.ntmps22
  go_wp2_with fail
  refine (Room_calls HS1.out).mono ?_
  rintro e1 w1 ⟨rfl, hb1⟩
  have HS2 := Aside0.mk (HS1.out.below hb1)
  have HP2 := Aside0.mk (blk_below HP.out hb1)
  have HM2 := Aside0.mk (blk_below HM.out hb1)
  replace G8 := Aside0.mk (Kd.C_below G8.out hb1)
  replace G9 := Aside0.mk (Kd.C_below G9.out hb1)
  replace G10 := Aside0.mk (Kd.C_below G10.out hb1)
  replace G11 := Aside0.mk (Kd.C_below G11.out hb1)
  replace G12 := Aside0.mk (Kd.C_below G12.out hb1)
  clear HS1 HP HM hb1
  by_cases h1 : most - ms.length = 0
  · have H1 := Aside0.mk h1
    rw [h1]
    clear h1
    go_wp2_with fail
    have HE := Aside0.mk (show addE most ms m = some 8 by unfold addE; rw [if_pos H1.out])
    have HT := Aside0.mk (show addT most ms m = ms by unfold addT; rw [HE.out]; rfl)
    go_ret
    exact ⟨ret_eq (by rw [HE.out]; rfl), by rw [HT.out]; exact HS2.out⟩
  · have d1 : (most - ms.length == 0) = false := by simpa using h1
    have H1 := Aside0.mk h1
    clear h1
    have c1 : w1.cell? ⟨w.heap.size, 0, none⟩ = some (.pointer (some ⟨g, 0, none⟩)) := get_cell HP2.out 0
    have c2 : w1.cell? ⟨w.heap.size + 1, 0, none⟩ = some (.string m.f0) := get_cell HM2.out 0
    go_wp2_with fail
    refine (at_calls HS2.out m.f0).mono ?_
    rintro e2 w2 ⟨rfl, hb2⟩
    have HS3 := Aside0.mk (HS2.out.below hb2)
    have HP3 := Aside0.mk (blk_below HP2.out hb2)
    have HM3 := Aside0.mk (blk_below HM2.out hb2)
    replace G8 := Aside0.mk (Kd.C_below G8.out hb2)
    replace G9 := Aside0.mk (Kd.C_below G9.out hb2)
    replace G10 := Aside0.mk (Kd.C_below G10.out hb2)
    replace G11 := Aside0.mk (Kd.C_below G11.out hb2)
    replace G12 := Aside0.mk (Kd.C_below G12.out hb2)
    clear HS2 HP2 HM2 hb2 c1 c2
    by_cases h2 : 0 ≤ atI ms m.f0
    · have d2 : decide (0 ≤ atI ms m.f0) = true := decide_eq_true h2
      have HE := Aside0.mk (show addE most ms m = some 1 by unfold addE; rw [if_neg H1.out, if_pos h2])
      have HT := Aside0.mk (show addT most ms m = ms by unfold addT; rw [HE.out]; rfl)
      clear h2
      go_wp2_with fail
      go_ret
      exact ⟨ret_eq (by rw [HE.out]; rfl), by rw [HT.out]; exact HS3.out⟩
    · have d2 : decide (0 ≤ atI ms m.f0) = false := decide_eq_false h2
      have H2 := Aside0.mk h2
      clear h2
      have c1 : w2.cell? ⟨w.heap.size, 0, none⟩ = some (.pointer (some ⟨g, 0, none⟩)) := get_cell HP3.out 0
      have c2 : w2.cell? ⟨w.heap.size + 1, 10, none⟩ = some (.slice A10 m.f5.length c10) := get_cell HM3.out 10
      go_wp2_with fail
      refine (ContainsF_calls HS3.out c1 A10 c10 m.f5 G10.out HSM.out.2.2.1).mono ?_
      rintro e3 w3 ⟨rfl, hb3⟩
      have HS4 := Aside0.mk (HS3.out.below hb3)
      have HP4 := Aside0.mk (blk_below HP3.out hb3)
      have HM4 := Aside0.mk (blk_below HM3.out hb3)
      replace G8 := Aside0.mk (Kd.C_below G8.out hb3)
      replace G9 := Aside0.mk (Kd.C_below G9.out hb3)
      replace G10 := Aside0.mk (Kd.C_below G10.out hb3)
      replace G11 := Aside0.mk (Kd.C_below G11.out hb3)
      replace G12 := Aside0.mk (Kd.C_below G12.out hb3)
      clear HS3 HP3 HM3 hb3 c1 c2
      by_cases h3 : 0 ≤ missI ms m.f5
      · have HE := Aside0.mk (show addE most ms m = some 3 by unfold addE; rw [if_neg H1.out, if_neg (Int.not_le.2 H2.out), if_pos h3])
        have HT := Aside0.mk (show addT most ms m = ms by unfold addT; rw [HE.out]; rfl)
        rw [show decide (0 ≤ idxP (fun x => decide (atI ms x < 0)) m.f5) = true from decide_eq_true h3]
        clear h3
        go_wp2_with fail
        go_ret
        exact ⟨ret_eq (by rw [HE.out]; rfl), by rw [HT.out]; exact HS4.out⟩
      · have HE := Aside0.mk (show addE most ms m = none by unfold addE; rw [if_neg H1.out, if_neg (Int.not_le.2 H2.out), if_neg h3])
        have HT := Aside0.mk (show addT most ms m = ms ++ [m] by unfold addT; rw [HE.out]; rfl)
        rw [show decide (0 ≤ idxP (fun x => decide (atI ms x < 0)) m.f5) = false from decide_eq_false h3]
        clear h3
        obtain ⟨A, c, hg, hC, hcl, hm, hsm, hgw⟩ := tab_open HS4.out
        obtain ⟨ok, hN, hok, hcut⟩ := tab_add HS4.out hg m (by have := H1.out; omega) HSM.out
        have HN := Aside0.mk hN
        have HOK := Aside0.mk hok
        have HNE := Aside0.mk (Kd.N_ne hN HP4.out (by decide))
        have HCUT := Aside0.mk hcut
        have HG := Aside0.mk hg
        have HL := Aside0.mk (show ms.length ≤ 16 by omega)
        have c1 : w3.cell? ⟨w.heap.size, 0, none⟩ = some (.pointer (some ⟨g, 0, none⟩)) := get_cell HP4.out 0
        have c3 : w3.cell? ⟨g, 1, none⟩ = some (.slice A ms.length c) := get_cell hg 1
        clear hN hok hcut hg hC hcl hm hsm hgw
        have m0 : w3.cell? ⟨w.heap.size + 1, 0, none⟩ = some (.string m.f0) := get_cell HM4.out 0
        have m1 : w3.cell? ⟨w.heap.size + 1, 1, none⟩ = some (.int .u32 m.f1) := get_cell HM4.out 1
        have m2 : w3.cell? ⟨w.heap.size + 1, 2, none⟩ = some (.int .i64 m.f2) := get_cell HM4.out 2
        have m3 : w3.cell? ⟨w.heap.size + 1, 3, none⟩ = some (.int .i64 m.f3) := get_cell HM4.out 3
        have m4 : w3.cell? ⟨w.heap.size + 1, 4, none⟩ = some (.int .i64 m.f4.f0) := get_cell HM4.out 4
        have m5 : w3.cell? ⟨w.heap.size + 1, 5, none⟩ = some (.int .i64 m.f4.f1) := get_cell HM4.out 5
        have m6 : w3.cell? ⟨w.heap.size + 1, 6, none⟩ = some (.int .i64 m.f4.f2) := get_cell HM4.out 6
        have m7 : w3.cell? ⟨w.heap.size + 1, 7, none⟩ = some (.int .i64 m.f4.f3) := get_cell HM4.out 7
        have m8 : w3.cell? ⟨w.heap.size + 1, 8, none⟩ = some (.slice A8 m.f4.f4.length c8) := get_cell HM4.out 8
        have m9 : w3.cell? ⟨w.heap.size + 1, 9, none⟩ = some (.slice A9 m.f4.f5.length c9) := get_cell HM4.out 9
        have m10 : w3.cell? ⟨w.heap.size + 1, 10, none⟩ = some (.slice A10 m.f5.length c10) := get_cell HM4.out 10
        have m11 : w3.cell? ⟨w.heap.size + 1, 11, none⟩ = some (.slice A11 m.f6.length c11) := get_cell HM4.out 11
        have m12 : w3.cell? ⟨w.heap.size + 1, 12, none⟩ = some (.slice A12 m.f7.length c12) := get_cell HM4.out 12
        have HD := Aside0.mk (below_drew (Below.refl w3.heap.size w3))
        go_wp2_with fail
        go_region_law (first
          | (go_simp; go_at_call 40; have hq := own_calls m A8 A9 A10 A11 A12 c8 c9 c10 c11 c12 w3.drew (Kd.C_below G8.out HD.out) (Kd.C_below G9.out HD.out) (Kd.C_below G10.out HD.out) (Kd.C_below G11.out HD.out) (Kd.C_below G12.out HD.out) HSM.out.1 HSM.out.2.1 HSM.out.2.2.1 HSM.out.2.2.2.1 HSM.out.2.2.2.2.1 HSM.out.2.2.2.2.2; (with_reducible refine hq.mono ?_); clear hq; rintro e4 w4 ⟨v8, v9, v10, v11, v12, rfl, hF, hb4⟩; obtain ⟨B8, d8, B9, d9, B10, d10, B11, d11, B12, d12, rfl, rfl, rfl, rfl, rfl⟩ := cells_slices hF; simp only [cellsM]; have HF := Aside0.mk hF; have HB4 := Aside0.mk (below_step HD.out hb4); have q1 : w4.cell? ⟨g, 1, none⟩ = some (.slice A ms.length c) := pw_cell_below HB4.out c3; have q2 : w4.cell? ⟨w.heap.size, 0, none⟩ = some (.pointer (some ⟨g, 0, none⟩)) := pw_cell_below HB4.out c1; have q3 : ∀ o : Obj, (w4.alloc o).cell? ⟨g, 1, none⟩ = some (.slice A ms.length c) := fun o => pw_cell_below (below_alloc (Below.refl _ w4) o) q1; have q4 : ∀ o : Obj, (w4.alloc o).cell? ⟨w.heap.size, 0, none⟩ = some (.pointer (some ⟨g, 0, none⟩)) := fun o => pw_cell_below (below_alloc (Below.refl _ w4) o) q2; clear hF hb4 m0 m1 m2 m3 m4 m5 m6 m7 m8 m9 m10 m11 m12)
          | ((refine Kd.N_append_step k65 (w0 := w4) (W := w4) w0.heap.size (by rfl) (.tmp 27) (.tmp 30) 84 65 (.agg zeroM) 192 rfl Try.underlying84 infoMz rfl (by decide) (by decide) (.slice A ms.length c) ms m _ ok (fun k => w3.heap.size ≤ k) rfl (by simp [Act.eval]) HF.out HOK.out (fun k hk => (HOK.out k (Nat.le_trans HB4.out.size hk)).1) (Kd.N_below HN.out HB4.out) (Below.refl _ _) (Nat.le_trans HS4.out.size HB4.out.size) (by have := HL.out; omega) (fun v1 w5 hN5 hB5 hG5 hat => ?_)); obtain ⟨B, b, rfl⟩ := Kd.N_slice hN5; obtain ⟨hg5, hS5⟩ := HCUT.out w4 w5 _ HB4.out hG5 hN5; have HS5 := Aside0.mk hS5; have f5 : w5.frozen? ⟨g, 1, none⟩ = false := get_frozen hg5 1; have c5 : w5.cell? ⟨g, 1, none⟩ = some (.slice A ms.length c) := get_cell hg5 1; have c6 : w5.cell? ⟨w.heap.size, 0, none⟩ = some (.pointer (some ⟨g, 0, none⟩)) := get_cell (blk_grown (blk_below HP4.out HB4.out) hG5 HNE.out) 0; clear hg5 hS5 hN5 hB5 hG5 hat))
        all_goals (
          go_wp2
          go_ret
          exact ⟨ret_eq (by rw [HE.out]; rfl), by rw [HT.out]; have h := HS5.out; rw [List.length_append, List.length_singleton] at h; exact h⟩)
end Go.Proofs.Ytlgfdokdckaejaa.MineTab
