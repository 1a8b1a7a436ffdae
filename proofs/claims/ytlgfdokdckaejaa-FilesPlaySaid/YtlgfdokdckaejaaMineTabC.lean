/- Tables of modules: a module's copy has memory of its own. Conditions: the lengths are small. -/
import Derived.Test.YtlgfdokdckaejaaMineTabB
namespace Go.Proofs.Ytlgfdokdckaejaa.MineTab
open Go.RowKit Go.MapKept Go.Proofs.YtlgfdokdckaejaaW.PrintWords Go.Proofs.YtlgfdokdckaejaaW.PrintLast Go.Proofs.YtlgfdokdckaejaaW.PrintMore Go.Proofs.Ytlgfdokdckaejaa.MineBase Go.Proofs.Ytlgfdokdckaejaa.MineSep Go.Proofs.Ytlgfdokdckaejaa.MineRows Go.Proofs.Ytlgfdokdckaejaa.QTableKeeps
set_option linter.unusedVariables false
set_option linter.unusedSimpArgs false
theorem own_end {w W : World} {b : Nat} {m : S65} {v8 v9 v10 v11 v12 : Value} {l : List Asn} (h : Sat w W (AOwn b m v8 v9 v10 v11 v12 :: l)) (cs : Array Value) :
    W.heap[b]? = some (.cells (cellsM m v8 v9 v10 v11 v12) 65 (0, 0)) ∧ W.heap[b + 1]? = some (.cells zeroM 65 (0, 0)) ∧ (W.setRow (b + 1) cs).heap[b + 1]? = some (.cells cs 65 (0, 0)) ∧ Sat w (W.setRow (b + 1) cs) l := by
  obtain ⟨D, ⟨h1, h2, h3, h4⟩, hD, hcl, _⟩ := h.open_
  have hg : W.grownBy (W.setRow (b + 1) cs) (some (b + 1)) := ⟨rfl, rfl, rfl, by simp, fun i _ hi => setRow_other W (b + 1) i cs (fun e => hi (by rw [e]))⟩
  refine ⟨h1, h2, setRow_heap W (b + 1) zeroM cs 65 _ h2, hcl _ (h.toBelow.grown hg h.size (fun k hk => by injection hk with hk; subst hk; exact (hD _ h4).1)) (Kept.of_grown hg (Kept.refl W D) (fun k hk => by injection hk with hk; subst hk; exact .inl h4))⟩
theorem perm5 (A B C E F : Asn) : [A, B, C, E, F].Perm [F, E, C, A, B] := by
  have h1 : [A, B, C, E, F].Perm [F, A, B, C, E] := (perm_pull [A, B, C, E] F [])
  have h2 : [A, B, C, E].Perm [E, A, B, C] := (perm_pull [A, B, C] E [])
  have h3 : [A, B, C].Perm [C, A, B] := (perm_pull [A, B] C [])
  exact h1.trans ((h2.trans (h3.cons E)).cons F)
theorem cells_one (m : S65) (B8 B9 B10 B11 B12 : Option Addr) (n8 n9 n10 n11 n12 d8 d9 d10 d11 d12 : Nat) : (cellsM m (.slice B8 n8 d8) (.slice B9 n9 d9) (.slice B10 n10 d10) (.slice B11 n11 d11) (.slice B12 n12 d12)).all (·.oneCell') = true := by
  simp [cellsM, Value.oneCell']
set_option maxHeartbeats 4000000 in
set_option maxRecDepth 100000 in
theorem own_calls (m : S65) (A8 A9 A10 A11 A12 : Option Addr) (c8 c9 c10 c11 c12 : Nat) (w : World)
    (g8 : (Kd.int .i64).C w A8 m.f4.f4.length m.f4.f4) (g9 : (Kd.int .i64).C w A9 m.f4.f5.length m.f4.f5) (g10 : Kd.string.C w A10 m.f5.length m.f5) (g11 : k71.C w A11 m.f6.length m.f6) (g12 : k100.C w A12 m.f7.length m.f7)
    (l8 : m.f4.f4.length ≤ 1000000) (l9 : m.f4.f5.length ≤ 1000000) (l10 : m.f5.length ≤ 1000000) (l11 : m.f6.length ≤ 1000000) (l12 : m.f7.length ≤ 1000000) (lx : ∀ x ∈ m.f6, x.f2.length ≤ 1000000) :
    Calls Try.prog 40 #[.agg #[.string m.f0, .int .u32 m.f1, .int .i64 m.f2, .int .i64 m.f3, .int .i64 m.f4.f0, .int .i64 m.f4.f1, .int .i64 m.f4.f2, .int .i64 m.f4.f3, .slice A8 m.f4.f4.length c8, .slice A9 m.f4.f5.length c9, .slice A10 m.f5.length c10, .slice A11 m.f6.length c11, .slice A12 m.f7.length c12]] w
      fun e w' => ∃ v8 v9 v10 v11 v12, e = .returned (.agg (cellsM m v8 v9 v10 v11 v12)) ∧ Kd.FK k65 w' (fun k => w.heap.size ≤ k) m (cellsM m v8 v9 v10 v11 v12).toList ∧ Below w.heap.size w w' := by
  have G8 := Aside0.mk g8
  have G9 := Aside0.mk g9
  have G10 := Aside0.mk g10
  have G11 := Aside0.mk (And.intro g11 l11)
  have G12 := Aside0.mk g12
  have LX := Aside0.mk lx
  clear g8 g9 g10 g11 g12 l11 lx
  go_enter Try.func40, Try.ntmps40
  go_upto_region 1 with (fail)
  refine wp_abs (fun W => Sat w W [AOwn w.heap.size m (.slice A8 m.f4.f4.length c8) (.slice A9 m.f4.f5.length c9) (.slice A10 m.f5.length c10) (.slice A11 m.f6.length c11) (.slice A12 m.f7.length c12)]) (own_start (Sat.start w) _ _ _ _ _ m) (fun W hW => ?_)
  have HW := Aside0.mk hW
  clear hW
  go_cut [] (fun wc => ∃ v8 v9, Aside0 (Sat w wc [AOwn w.heap.size m v8 v9 (.slice A10 m.f5.length c10) (.slice A11 m.f6.length c11) (.slice A12 m.f7.length c12), ARow (Kd.int .i64) 3 w.heap.size v9 m.f4.f5, ARow (Kd.int .i64) 3 w.heap.size v8 m.f4.f4]))
  case first =>
    have s8 : W.cell? ⟨w.heap.size, 8, none⟩ = some (.slice A8 m.f4.f4.length c8) := own_cell HW.out 8
    have s9 : W.cell? ⟨w.heap.size, 9, none⟩ = some (.slice A9 m.f4.f5.length c9) := own_cell HW.out 9
    go_region_law (first
        | (go_simp; go_at_call 49; have hq := CloneI_calls A8 c8 m.f4.f4 W.drew (Kd.C_below G8.out HW.out.drew.toBelow) l8; (with_reducible refine hq.mono ?_); clear hq; rintro e1 w1 ⟨u8, rfl, hR1, hb1⟩; obtain ⟨B8, d8, rfl⟩ := Kd.R_slice hR1; have HW1 := Aside0.mk (HW.out.drew.newRow hb1 hR1 HW.out.size); have q9 : w1.cell? ⟨w.heap.size, 9, none⟩ = some (.slice A9 m.f4.f5.length c9) := own_cell HW1.out.swap 9; clear hR1 hb1)
        | (go_simp; go_at_call 49; have hq := CloneI_calls A9 c9 m.f4.f5 w1 (Kd.C_below G9.out HW1.out.toBelow) l9; (with_reducible refine hq.mono ?_); clear hq; rintro e2 w2 ⟨u9, rfl, hR2, hb2⟩; obtain ⟨B9, d9, rfl⟩ := Kd.R_slice hR2; have HW2 := Aside0.mk (HW1.out.newRow hb2 hR2 HW1.out.size).third; have r8 : w2.cell? ⟨w.heap.size, 8, none⟩ = some (.slice A8 m.f4.f4.length c8) := own_cell HW2.out 8; have r9 : w2.cell? ⟨w.heap.size, 9, none⟩ = some (.slice A9 m.f4.f5.length c9) := own_cell HW2.out 9; have k8 := own_frozen HW2.out 8; have k9 := own_frozen HW2.out 9; clear hR2 hb2))
    all_goals (
      go_wp2
      go_meet
      case rel => exact ⟨_, _, ⟨own_put (own_put HW2.out rfl) rfl⟩⟩)
  case rest =>
    obtain ⟨v8, v9, HW3⟩ := hcut
    clear HW
    go_upto_region 2 with (fail)
    go_cut [] (fun wc => ∃ v8 v9 v10 v11 v12, Aside0 (Sat w wc [AX w w.heap.size 0 v11 m.f6, AOwn w.heap.size m v8 v9 v10 v11 v12, ARow k100 100 w.heap.size v12 m.f7, ARow Kd.string 9 w.heap.size v10 m.f5, ARow (Kd.int .i64) 3 w.heap.size v9 m.f4.f5, ARow (Kd.int .i64) 3 w.heap.size v8 m.f4.f4]))
    case first =>
      have s10 : wc.cell? ⟨w.heap.size, 10, none⟩ = some (.slice A10 m.f5.length c10) := own_cell HW3.out 10
      have s11 : wc.cell? ⟨w.heap.size, 11, none⟩ = some (.slice A11 m.f6.length c11) := own_cell HW3.out 11
      have s12 : wc.cell? ⟨w.heap.size, 12, none⟩ = some (.slice A12 m.f7.length c12) := own_cell HW3.out 12
      go_region_law (first
        | (go_simp; go_at_call 50; have hq := CloneS_calls A10 c10 m.f5 wc.drew (Kd.C_below G10.out HW3.out.drew.toBelow) l10; (with_reducible refine hq.mono ?_); clear hq; rintro e1 w1 ⟨u10, rfl, hR1, hb1⟩; obtain ⟨B10, d10, rfl⟩ := Kd.R_slice hR1; have HW1 := Aside0.mk (HW3.out.drew.newRow hb1 hR1 HW3.out.size).swap; have q11 : w1.cell? ⟨w.heap.size, 11, none⟩ = some (.slice A11 m.f6.length c11) := own_cell HW1.out 11; have q12 : w1.cell? ⟨w.heap.size, 12, none⟩ = some (.slice A12 m.f7.length c12) := own_cell HW1.out 12; clear hR1 hb1)
        | (go_simp; go_at_call 51; have hq := CloneX_calls A11 c11 m.f6 w w1 ((show ReadsRow (k71.K w) k71.sz w A11 m.f6.length m.f6 from G11.out.1).imp_ HW1.out.toBelow (fun _ _ h => h)) G11.out.2; (with_reducible refine hq.mono ?_); clear hq; rintro e2 w2 ⟨u11, rows, rfl, hrl, hR2, hrK, hb2⟩; obtain ⟨B11, d11, rfl⟩ := Kd.R_slice hR2; rw [hrl] at hR2 ⊢; have HW2 := Aside0.mk (AX_start (v := .slice B11 m.f6.length d11) HW1.out hb2 hrl hR2 hrK HW1.out.size).swap; have r12 : w2.cell? ⟨w.heap.size, 12, none⟩ = some (.slice A12 m.f7.length c12) := own_cell HW2.out 12; clear hR2 hb2 hrl hrK)
        | (go_simp; go_at_call 52; have hq := CloneE_calls A12 c12 m.f7 w2 (Kd.C_below G12.out HW2.out.toBelow) l12; (with_reducible refine hq.mono ?_); clear hq; rintro e3 w3 ⟨u12, rfl, hR3, hb3⟩; obtain ⟨B12, d12, rfl⟩ := Kd.R_slice hR3; have HW4 := Aside0.mk (HW2.out.newRow hb3 hR3 HW2.out.size).swap; have t10 : w3.cell? ⟨w.heap.size, 10, none⟩ = some (.slice A10 m.f5.length c10) := own_cell HW4.out 10; have t11 : w3.cell? ⟨w.heap.size, 11, none⟩ = some (.slice A11 m.f6.length c11) := own_cell HW4.out 11; have t12 : w3.cell? ⟨w.heap.size, 12, none⟩ = some (.slice A12 m.f7.length c12) := own_cell HW4.out 12; have z10 := own_frozen HW4.out 10; have z11 := own_frozen HW4.out 11; have z12 := own_frozen HW4.out 12; clear hR3 hb3))
      all_goals (
        go_wp2
        go_meet
        case rel => exact ⟨_, _, _, _, _, ⟨(own_put (own_put (own_put HW4.out rfl) rfl) rfl).third⟩⟩)
    case rest =>
      obtain ⟨v8, v9, v10, v11, v12, HW5⟩ := hcut
      clear HW3
      obtain ⟨B11, d11, rfl⟩ : ∃ A c, v11 = .slice A m.f6.length c := AX_slice HW5.out
      have s11 : wc.cell? ⟨w.heap.size, 11, none⟩ = some (.slice B11 m.f6.length d11) := own_cell HW5.out.swap 11
      have HL := Aside0.mk G11.out.2
      go_wp2_with fail
      clear s11
      go_loopg [31] (m.f6.length + 1) (fun kq v31 w' => ∃ i : Nat, v31 = .int .i64 i ∧ Aside0 (i ≤ m.f6.length ∧ m.f6.length - i < kq) ∧ Aside0 (Sat w w' [AX w w.heap.size i (.slice B11 m.f6.length d11) m.f6, AOwn w.heap.size m v8 v9 v10 (.slice B11 m.f6.length d11) v12, ARow k100 100 w.heap.size v12 m.f7, ARow Kd.string 9 w.heap.size v10 m.f5, ARow (Kd.int .i64) 3 w.heap.size v9 m.f4.f5, ARow (Kd.int .i64) 3 w.heap.size v8 m.f4.f4]))
      case atStart => exact ⟨0, rfl, ⟨by omega⟩, HW5⟩
      case round =>
        obtain ⟨i, rfl, Hi, HW6⟩ := hrel
        clear HW5
        by_cases hlt : i < m.f6.length
        · have s11 : wr.cell? ⟨w.heap.size, 11, none⟩ = some (.slice B11 m.f6.length d11) := own_cell HW6.out.swap 11
          obtain ⟨g, cap, A, c, e1, hcell, hfr, hC⟩ := AX_at HW6.out hlt
          injection e1 with e1 _ e2
          subst e1 e2
          have HX := Aside0.mk (show m.f6[i]? = some (m.f6.getD i z71) by rw [List.getD_eq_getElem?_getD, List.getElem?_eq_getElem hlt]; rfl)
          have HM := Aside0.mk (show (m.f6.getD i z71).f2.length ≤ 1000000 by
            rw [List.getD_eq_getElem?_getD, List.getElem?_eq_getElem hlt]
            exact LX.out _ (List.getElem_mem hlt))
          have HC := Aside0.mk (Kd.C_below hC HW6.out.drew.toBelow)
          have HI := Aside0.mk hlt
          have p1 : (i < m.f6.length) = True := eq_true hlt
          have p9 : (i : Int) ≤ 1000000 := by have := HL.out; omega
          have p8 : 0 ≤ (i : Int) := by omega
          clear hC hlt
          generalize hx : m.f6.getD i z71 = x at *
          clear hx
          go_wp2_with fail
          go_region_law (go_simp; go_at_call 49; have hq := CloneI_calls A c x.f2 wr.drew HC.out HM.out; (with_reducible refine hq.mono ?_); clear hq; rintro e1 w1 ⟨u1, rfl, hR1, hb1⟩; obtain ⟨B1, b1, rfl⟩ := Kd.R_slice hR1; have HW7 := Aside0.mk (HW6.out.drew.newRow hb1 hR1 HW6.out.size); have hb2 : Below wr.heap.size wr w1 := (below_drew1 (Below.refl _ wr)).trans hb1; have hc2 := pw_cell_below hb2 hcell; have hf2 : w1.frozen? ⟨g, i * 3 + 2, none⟩ = false := (hb2.frozen (p := ⟨g, i * 3 + 2, none⟩) (World.block_lt_of_cell? wr _ hcell)).trans hfr; have s12 := pw_cell_below hb2 s11; clear hR1 hb1 hb2)
          all_goals (
            go_wp2
            go_roundg (gk - 1)
            case measure => have := Hi.out; have := HI.out; omega
            case rel => exact ⟨i + 1, by go_num, ⟨by have := Hi.out; have := HI.out; omega⟩, ⟨AX_put HW7.out HI.out HX.out⟩⟩)
        · have hi : i = m.f6.length := by have := Hi.out; omega
          have d1 : (i < m.f6.length) = False := eq_false hlt
          have HS := Aside0.mk (show Sat w wr [ARowN k71 71 w.heap.size (.slice B11 m.f6.length d11) m.f6, AOwn w.heap.size m v8 v9 v10 (.slice B11 m.f6.length d11) v12, ARow k100 100 w.heap.size v12 m.f7, ARow Kd.string 9 w.heap.size v10 m.f5, ARow (Kd.int .i64) 3 w.heap.size v9 m.f4.f5, ARow (Kd.int .i64) 3 w.heap.size v8 m.f4.f4] from by
            have h := HW6.out
            rw [hi] at h
            exact AX_done h)
          obtain ⟨B8, d8, rfl⟩ := (Sat.pull (l1 := [_, _, _, _, _]) HS.out).rowSlice
          obtain ⟨B9, d9, rfl⟩ := (Sat.pull (l1 := [_, _, _, _]) HS.out).rowSlice
          obtain ⟨B10, d10, rfl⟩ := (Sat.pull (l1 := [_, _, _]) HS.out).rowSlice
          obtain ⟨B12, d12, rfl⟩ := (Sat.pull (l1 := [_, _]) HS.out).rowSlice
          obtain ⟨h1, h2, h3, h4⟩ := own_end HS.out.swap (cellsM m (.slice B8 m.f4.f4.length d8) (.slice B9 m.f4.f5.length d9) (.slice B10 m.f5.length d10) (.slice B11 m.f6.length d11) (.slice B12 m.f7.length d12))
          have H1 := Aside0.mk h1
          have H2 := Aside0.mk h2
          have H3 := Aside0.mk h3
          have H4 := Aside0.mk h4
          clear h1 h2 h3 h4 hi hlt HS HW6
          go_wp2_with (first
            | (refine wpList_load_row rfl 65 (.tmp 1) rfl w.heap.size rfl 65 _ (0, 0) _ H1.out Try.underlying65 rfl (by kernel_rfl) ?_)
            | (refine wpList_store_row rfl 65 (.tmp 2) (.tmp 47) rfl (w.heap.size + 1) _ rfl rfl 65 zeroM H2.out (by kernel_rfl) rfl (cells_one _ _ _ _ _ _ _ _ _ _ _ _ _ _ _ _) ?_))
          exact bodyPost_ret (v := .agg _) (results_cell_row rfl _ _ (w.heap.size + 1) 65 _ (0, 0) _ rfl H3.out Try.underlying65 rfl (by kernel_rfl)) rfl ⟨_, _, _, _, _, rfl, own_all (Sat.perm H4.out (perm5 _ _ _ _ _)), H4.out.toBelow⟩
end Go.Proofs.Ytlgfdokdckaejaa.MineTab
