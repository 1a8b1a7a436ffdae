/- Tables of modules: the law's walk. Conditions: the rows are those of the statement. -/
import Derived.Test.YtlgfdokdckaejaaMineTabM
import Derived.Test.YtlgfdokdckaejaaMineTabK
namespace Go.Proofs.Ytlgfdokdckaejaa.MineTab
open Go.RowKit Go.MapKept Go.Proofs.YtlgfdokdckaejaaW.PrintWords Go.Proofs.YtlgfdokdckaejaaW.PrintLast Go.Proofs.YtlgfdokdckaejaaW.PrintMore Go.Proofs.Ytlgfdokdckaejaa.MineBase Go.Proofs.Ytlgfdokdckaejaa.MineSep Go.Proofs.Ytlgfdokdckaejaa.MineRows Go.Proofs.Ytlgfdokdckaejaa.QTableKeeps
open Go.Proofs.Ytlgfdokdckaejaa.QTablePlays (S54 k54 rd_T54 at_T54)
set_option linter.unusedVariables false
set_option linter.unusedSimpArgs false
attribute [local go_sem] Go.Proofs.Ytlgfdokdckaejaa.MineErr.eql_err Go.Proofs.Ytlgfdokdckaejaa.MineErr.neq_err Go.Proofs.Ytlgfdokdckaejaa.MineErr.eql_nil_err Go.Proofs.Ytlgfdokdckaejaa.MineErr.neq_nil_err
/-- The module that the law puts in first. -/
def modA (ps : List Int) : S65 := ⟨sA, 0, 0, 0, ⟨0, 0, 0, 0, [], []⟩, [], [⟨2, 0, ps⟩], []⟩
theorem addE_A (ps : List Int) : addE 16 [] (modA ps) = none := by
  unfold addE
  rw [if_neg (by decide), if_neg (by show ¬ (0 : Int) ≤ -1; decide), if_neg (by show ¬ (0 : Int) ≤ -1; decide)]
theorem addT_A (ps : List Int) : addT 16 [] (modA ps) = [modA ps] := by
  unfold addT
  rw [addE_A]; rfl
theorem closed_A (ps : List Int) : Closed [modA ps] := by
  intro m hm x hx
  rw [List.mem_singleton.1 hm] at hx
  cases hx
theorem litX_C (W : World) (x : S71) (A : Option Addr) (c : Nat) (hC : (Kd.int .i64).C W A x.f2.length x.f2) (hl : x.f2.length ≤ c) : k71.C (W.alloc (.cells #[.int .i64 x.f0, .int .i64 x.f1, .slice A x.f2.length c] 71)) (some ⟨W.heap.size, 0, none⟩) [x].length [x] := by
  refine ⟨rfl, show 1 ≤ 9223372036854775807 by decide, fun _ => ⟨_, rfl, fun j p hj => ⟨[.int .i64 x.f0, .int .i64 x.f1, .slice A x.f2.length c], rfl, ?_, fun i u hu => ?_⟩⟩⟩
  · obtain ⟨rfl, rfl⟩ : j = 0 ∧ x = p := by
      cases j with
      | zero => exact ⟨rfl, by simpa using hj⟩
      | succ j => simp at hj
    exact k71_mk _ x hl (Kd.C_below hC (below_alloc (Below.refl _ _) _))
  · obtain ⟨rfl, rfl⟩ : j = 0 ∧ x = p := by
      cases j with
      | zero => exact ⟨rfl, by simpa using hj⟩
      | succ j => simp at hj
    have hb := heap_alloc_new W (.cells #[.int .i64 x.f0, .int .i64 x.f1, .slice A x.f2.length c] 71)
    rw [show ((⟨W.heap.size, 0, none⟩ : Addr).add (0 * k71.sz + i)) = ⟨W.heap.size, i, none⟩ from by rw [Nat.zero_mul, Nat.zero_add]; exact add_plain _ _, get_cell hb i, ← hu]
    simp
theorem cells_C10 {w : World} {ok : Nat → Prop} {m : S65} {v8 v9 v11 v12 : Value} {B10 : Option Addr} {d10 : Nat} (h : Kd.FK k65 w ok m (cellsM m v8 v9 (.slice B10 m.f5.length d10) v11 v12).toList) : Kd.string.C w B10 m.f5.length m.f5 := by
  obtain ⟨A8, c8, A9, c9, A10, c10, A11, c11, A12, c12, e, l8, g8, l9, g9, l10, g10, _⟩ := k65_open (Kd.FK_now h)
  have e' : some (Value.slice B10 m.f5.length d10) = some (.slice A10 m.f5.length c10) := congrArg (fun l => l[10]?) e
  injection e' with e'
  injection e' with e1 _ _
  rw [e1]; exact g10
theorem cells_C11 {w : World} {ok : Nat → Prop} {m : S65} {v8 v9 v10 v12 : Value} {B11 : Option Addr} {d11 : Nat} (h : Kd.FK k65 w ok m (cellsM m v8 v9 v10 (.slice B11 m.f6.length d11) v12).toList) : k71.C w B11 m.f6.length m.f6 := by
  obtain ⟨A8, c8, A9, c9, A10, c10, A11, c11, A12, c12, e, l8, g8, l9, g9, l10, g10, l11, g11, _⟩ := k65_open (Kd.FK_now h)
  have e' : some (Value.slice B11 m.f6.length d11) = some (.slice A11 m.f6.length c11) := congrArg (fun l => l[11]?) e
  injection e' with e'
  injection e' with e1 _ _
  rw [e1]; exact g11
theorem own_round {w0 W : World} {n c i : Nat} {A : Option Addr} {xs : List Int} {l : List Asn} (h : Sat w0 W (ARow (Kd.int .i64) 3 w0.heap.size (.slice A n c) xs :: l)) (hn : n = xs.length) (hi : i < n) :
    ∃ g3 x, A = some ⟨g3, 0, none⟩ ∧ W.cell? ⟨g3, i, none⟩ = some (.int .i64 x) ∧ W.frozen? ⟨g3, i, none⟩ = false ∧
      ∀ y, Sat w0 (W.setCell ⟨g3, i, none⟩ (.int .i64 y)) (ARow (Kd.int .i64) 3 w0.heap.size (.slice A n c) (xs.set i y) :: l) := by
  subst hn
  have hS0 := h.toBelow
  have hSz := h.size
  obtain ⟨D, hR, hD, _, hcl⟩ := h.open_
  obtain ⟨g3, cap, e1, hb, hlt, cells, hg⟩ := Kd.R_form hR (by omega)
  injection e1 with e1 _ e2
  subst e1 e2
  obtain ⟨_, _, hC⟩ := Kd.R_reads' hR
  obtain ⟨ad, e, hc⟩ := hC.2.2 (by omega)
  injection e with e
  subst e
  obtain ⟨cs, hs, hK, hcell⟩ := hc i _ (List.getElem?_eq_getElem hi)
  obtain rfl := hK
  have h1 := hcell 0 _ rfl
  rw [show (⟨g3, 0, none⟩ : Addr).add (i * (Kd.int .i64).sz + 0) = ⟨g3, i, none⟩ from by rw [show i * (Kd.int .i64).sz + 0 = i from by show i * 1 + 0 = i; omega]; exact add_plain _ _] at h1
  refine ⟨g3, _, rfl, h1, get_frozen hg i, fun y => ?_⟩
  have hg3 : D g3 := hR.1 g3 rfl
  obtain ⟨hR2, hgr⟩ := Kd.R_put hR (i : Int) y
  rw [Int.toNat_natCast] at hR2 hgr
  exact hcl _ (ARow (Kd.int .i64) 3 w0.heap.size _ _) D (hS0.grown hgr hSz (fun k hk => by injection hk with hk; subst hk; exact hb)) (Kept.of_grown hgr (Kept.refl W D) (fun k hk => by injection hk with hk; subst hk; exact .inl hg3)) hR2 (fun k hk => .inl hk)
set_option maxRecDepth 100000 in
set_option maxHeartbeats 4000000 in
theorem TableKeeps_calls (A0 A1 : Option Addr) (c0 c1 : Nat) (l : List S54) (ps : List Int) (w : World) (hL : Kd.C k54 w A0 l.length l) (hP : Kd.C (Kd.int .i64) w A1 ps.length ps) (hc1 : ps.length ≤ c1) :
    Calls Try.prog 6 #[.slice A0 l.length c0, .slice A1 ps.length c1] w fun e w' => e = .returned (.bool true) ∧ Below w.heap.size w w' := by
  have HL := Aside0.mk hL
  have HP := Aside0.mk hP
  clear hL hP
  go_enter Try.func6, Try.ntmps6
  go_wp2_with fail
  refine (up_calls w).mono ?_
  rintro e1 w1 ⟨rfl, hb1⟩
  have HS1 := Aside0.mk ((Sat.start w).below hb1)
  clear hb1
  go_wp2_with fail
  refine (New_calls HS1.out 16).mono ?_
  rintro e2 w2 ⟨g, rfl, hS2⟩
  rw [show mn (mx 16 0) 16 = 16 by decide] at hS2
  have HS2 := Aside0.mk hS2
  clear hS2
  rcases Nat.lt_or_ge 80 l.length with h80 | h80
  · have p1 : (80 < (l.length : Int)) = True := eq_true (by omega)
    clear h80
    go_wp2_with fail
    go_ret
    exact ⟨rfl, HS2.out.toBelow⟩
  rcases Nat.lt_or_ge 50 ps.length with h50 | h50
  · have p1 : (80 < (l.length : Int)) = False := eq_false (by omega)
    have p2 : (50 < (ps.length : Int)) = True := eq_true (by omega)
    clear h80 h50
    go_wp2_with fail
    go_ret
    exact ⟨rfl, HS2.out.toBelow⟩
  have p1 : (80 < (l.length : Int)) = False := eq_false (by omega)
  have p2 : (50 < (ps.length : Int)) = False := eq_false (by omega)
  have HN := Aside0.mk (show l.length ≤ 80 ∧ ps.length ≤ 50 ∧ ps.length ≤ c1 from ⟨h80, h50, hc1⟩)
  clear h80 h50 hc1
  have HPS := Aside0.mk (Kd.C_below HP.out HS2.out.toBelow)
  go_wp2_with (at_builtin; refine copy_flat (Kd.int .i64) rfl (.tmp 37) (.tmp 38) 59 3 (.int .i64 0) 8 rfl Try.underlying59 infoI rfl (by decide) (by decide) (fun _ _ _ _ _ h => h) w2 A1 c1 ps rfl rfl HPS.out (by have := HN.out.2.1; omega) ?_; intro v1 w3 hR1 hb3; obtain ⟨A3, c3, rfl⟩ := Kd.R_slice hR1; have HS3 := Aside0.mk (HS2.out.newRow hb3 hR1 HS2.out.size); clear hR1 hb3)
  have HA := Aside0.mk (show Calls Try.prog 22 #[.pointer (some ⟨g, 0, none⟩), .agg #[.string { data := #[65] }, .int .u32 0, .int .i64 0, .int .i64 0, .int .i64 0, .int .i64 0, .int .i64 0, .int .i64 0, .slice none 0 0, .slice none 0 0, .slice none 0 0, .slice (some ⟨w3.heap.size, 0, none⟩) 1 1, .slice none 0 0]] (w3.alloc (.cells #[.int .i64 2, .int .i64 0, .slice A3 ps.length c3] 71)) (fun e w' => e = .returned (errV none) ∧ Sat w w' [ATab w.heap.size g 16 [modA ps], ARow (Kd.int .i64) 3 w.heap.size (.slice A3 ps.length c3) ps]) from by
    obtain ⟨A, c, e, hlc, hC⟩ := HS3.out.rowReads
    injection e with e1 _ e2
    subst e1 e2
    have h := Add_calls (HS3.out.swap.alloc (.cells #[.int .i64 2, .int .i64 0, .slice A3 ps.length c3] 71)) (modA ps) none none none (some ⟨w3.heap.size, 0, none⟩) none 0 0 0 1 0 (nil_C _ _) (nil_C _ _) (nil_C _ _) (litX_C w3 ⟨2, 0, ps⟩ A3 c3 hC hlc) (nil_C _ _) ⟨Nat.zero_le _, Nat.zero_le _, Nat.zero_le _, show 1 ≤ 1000000 by decide, Nat.zero_le _, fun x hx => by rw [List.mem_singleton.1 hx]; exact Nat.le_trans HN.out.2.1 (by decide)⟩
    rw [addE_A, addT_A] at h
    exact h)
  refine HA.out.mono ?_
  clear HA HS1 HS2 HS3 HPS
  rintro e4 w4 ⟨rfl, hS4⟩
  have HS4 := Aside0.mk hS4.swap
  rw [show errV none = .nilIface from rfl]
  clear hS4
  go_wp2_with fail
  go_loopg [9] (ps.length + 1) (fun kq v9 w' => ∃ (i : Nat) (xs : List Int), v9 = .int .i64 i ∧ Aside0 (i ≤ ps.length ∧ ps.length - i < kq) ∧ Aside0 (xs.length = ps.length) ∧ Aside0 (Sat w w' [ARow (Kd.int .i64) 3 w.heap.size (.slice A3 ps.length c3) xs, ATab w.heap.size g 16 [modA ps]]))
  case atStart => exact ⟨0, ps, rfl, ⟨by omega⟩, ⟨rfl⟩, HS4⟩
  case round =>
    obtain ⟨i, xs, rfl, Hi, HX, HS5⟩ := hrel
    clear HS4
    by_cases hlt : i < ps.length
    · obtain ⟨g3, x, rfl, h1, h2, h3⟩ := own_round HS5.out HX.out.symm hlt
      have H3 := Aside0.mk h3
      have q1 : (i < ps.length) = True := eq_true hlt
      have q9 : (i : Int) ≤ 1000000 := by have := HN.out; omega
      have q8 : 0 ≤ (i : Int) := by omega
      clear hlt h3
      go_wp2_with fail
      go_roundg (gk - 1)
      case measure => have := Hi.out; omega
      case rel => exact ⟨i + 1, _, by go_num, ⟨by have := Hi.out; have := of_eq_true q1; omega⟩, ⟨by rw [List.length_set]; exact HX.out⟩, ⟨H3.out _⟩⟩
    · have d1 : (i < ps.length) = False := eq_false hlt
      have HS6 := Aside0.mk (show Sat w wr [ATab w.heap.size g 16 [modA ps]] from HS5.out.drop)
      have HCL := Aside0.mk (show Closed [modA ps] ∧ [modA ps].head? = some (modA ps) from ⟨closed_A ps, rfl⟩)
      clear hlt HS5
      go_wp2_with fail
      clear HX
      go_loopg [10] (l.length + 1) (fun kq v10 w' => ∃ (i : Nat) (ms : List S65), v10 = .int .i64 i ∧ Aside0 (i ≤ l.length ∧ l.length - i < kq) ∧ Aside0 (Closed ms ∧ ms.head? = some (modA ps)) ∧ Aside0 (Sat w w' [ATab w.heap.size g 16 ms]))
      case atStart => exact ⟨0, _, rfl, ⟨by omega⟩, HCL, HS6⟩
      case round =>
        clear HS6 HCL Hi d1
        obtain ⟨gk1, rfl⟩ : ∃ x, x = gk := ⟨gk, rfl⟩
        obtain ⟨i, ms, rfl, Hi, HCL, HS7⟩ := hrel
        by_cases hlt : i < l.length
        · obtain ⟨ad, A2, c2, rfl, x0, x1, x2, x3, hrest⟩ := at_T54 (Kd.C_below HL.out HS7.out.toBelow) (i : Int) (by omega) (by omega)
          simp only [Int.toNat_natCast] at x0 x1 x2 x3
          have HREST := Aside0.mk hrest
          have q1 : (i < l.length) = True := eq_true hlt
          have q9 : (i : Int) ≤ 1000000 := by have := HN.out; omega
          have q8 : 0 ≤ (i : Int) := by omega
          clear hlt hrest
          generalize hx : rd_T54 l (i : Int) = x at *
          clear hx
          by_cases h100 : x.f1.size ≤ 100
          · by_cases h20 : x.f2.length ≤ 20
            · have q100 : (100 < (x.f1.size : Int)) = False := eq_false (by omega)
              have q20 : (20 < (x.f2.length : Int)) = False := eq_false (by omega)
              have H20 := Aside0.mk h20
              clear h100 h20
              go_upto_region 18 with (fail)
              go_cut [97] (fun c wx => ∃ b : Bool, c = .bool b ∧ Aside0 (b = true → (modA ps).f0 ≠ x.f1) ∧ wx = wr)
              case first =>
                cases hf : x.f0 with
                | true =>
                  rw [hf] at x0
                  cases hq : eqS x.f1 sA with
                  | true =>
                    have hq' : (x.f1.toList == [65]) = true := by have h := hq; unfold eqS at h; rw [show sA.toList = [65] by decide +kernel] at h; exact h
                    go_wp2_with fail
                    go_meet
                    case rel => exact ⟨false, by rfl, ⟨fun h => by cases h⟩, rfl⟩
                  | false =>
                    have hq' : (x.f1.toList == [65]) = false := by have h := hq; unfold eqS at h; rw [show sA.toList = [65] by decide +kernel] at h; exact h
                    go_wp2_with fail
                    go_meet
                    case rel => exact ⟨true, by rfl, ⟨fun _ e => by rw [(eqS_iff x.f1 sA).2 e.symm] at hq; cases hq⟩, rfl⟩
                | false =>
                  rw [hf] at x0
                  go_wp2_with fail
                  go_meet
                  case rel => exact ⟨false, by rfl, ⟨fun h => by cases h⟩, rfl⟩
              case rest =>
                obtain ⟨b, rfl, HB, rfl⟩ := hcut
                go_upto_if 97 with (fail)
                go_cut [] (fun wx => ∃ ms' : List S65, Aside0 (Closed ms' ∧ ms'.head? = some (modA ps)) ∧ Aside0 (Sat w wx [ATab w.heap.size g 16 ms']))
                case first =>
                  cases b with
                  | true =>
                    go_wp2_with fail
                    refine (Remove_calls HS7.out x.f1).mono ?_
                    rintro e5 w5 ⟨rfl, hS5⟩
                    have HS8 := Aside0.mk hS5
                    clear hS5
                    go_wp2_with fail
                    go_meet
                    case rel => exact ⟨_, ⟨closed_drop HCL.out.1 _, head_drop HCL.out.2 _ (by first | exact HB.out rfl | exact HB.out trivial)⟩, HS8⟩
                  | false =>
                    go_wp2_with fail
                    go_region_law (go_simp; go_at_call 22; have hq := Add_mod HS7.out.drew x.f1 x.f2 0 A2 c2 (Kd.C_below HREST.out.2 (below_drew (Below.refl wc.heap.size wc))) (by have := H20.out; omega); (with_reducible refine hq.mono ?_); clear hq; rintro e5 w5 ⟨rfl, hS5⟩; have HS8 := Aside0.mk hS5; clear hS5)
                    all_goals (
                      go_wp2
                      go_meet
                      case rel => exact ⟨_, ⟨closed_add HCL.out.1 _, head_add HCL.out.2 _⟩, HS8⟩)
                case rest =>
                  obtain ⟨ms', HCL2, HS8⟩ := hcut
                  clear HCL HS7 HB x0 x1 x2 x3 HREST
                  go_wp2_with fail
                  refine (Names_calls HS8.out).mono ?_
                  rintro e6 w6 ⟨v, rfl, hR, hb6⟩
                  obtain ⟨A6, c6, rfl⟩ := Kd.R_slice hR
                  have HS9 := Aside0.mk (HS8.out.newRow hb6 hR HS8.out.size).swap
                  clear hR hb6 HS8
                  have HLN := Aside0.mk (show (ms'.map (·.f0)).length = ms'.length ∧ ms'.length ≤ 16 from by
                    obtain ⟨_, _, _, _, _, h, _⟩ := tab_open HS9.out
                    exact ⟨List.length_map _, by omega⟩)
                  generalize hns : ms'.map (·.f0) = ns at *
                  have HNS := Aside0.mk hns
                  clear hns
                  go_wp2_with fail
                  go_loopg [12] (ns.length + 1) (fun kq v12 w' => ∃ k : Nat, v12 = .int .i64 k ∧ Aside0 (k ≤ ns.length ∧ ns.length - k < kq) ∧ Aside0 (Sat w w' [ATab w.heap.size g 16 ms', ARow Kd.string 9 w.heap.size (.slice A6 ns.length c6) ns]))
                  case atStart => exact ⟨0, rfl, ⟨by omega⟩, HS9⟩
                  case round =>
                    clear HS9
                    obtain ⟨gk2, rfl⟩ : ∃ x, x = gk := ⟨gk, rfl⟩
                    obtain ⟨k, rfl, Hk, HS10⟩ := hrel
                    by_cases hlt : k < ns.length
                    · obtain ⟨AN, cN, eN, _, hCN⟩ := HS10.out.swap.rowReads
                      injection eN with eN1 _ eN2
                      subst eN1 eN2
                      obtain ⟨ad2, s, rfl, hs, hc⟩ := str_at hCN hlt
                      have HSK := Aside0.mk (show 0 ≤ atI ms' s from name_there (by rw [HNS.out]; exact hs))
                      have r1 : (k < ns.length) = True := eq_true hlt
                      have r9 : (k : Int) ≤ 1000000 := by have := HLN.out; omega
                      have r8 : 0 ≤ (k : Int) := by omega
                      clear hlt hs hCN
                      go_wp2_with fail
                      have hq := Find_calls HS10.out s
                      (with_reducible refine hq.mono ?_)
                      clear hq
                      rintro e7 w7 ⟨hb7, _, hf7⟩
                      obtain ⟨v8, v9, v10, v11, v12, rfl, hF7⟩ := hf7 HSK.out
                      clear hf7
                      have HMI := Aside0.mk (fun (j : Nat) (x : ByteArray) (hj : (rd_T65 ms' (atI ms' s)).f5[j]? = some x) => import_there HCL2.out.1 HSK.out hj)
                      have HM16 := Aside0.mk (show (rd_T65 ms' (atI ms' s)).f5.length ≤ 1000000 from by
                        obtain ⟨_, _, _, _, _, _, h, _⟩ := tab_open HS10.out
                        exact (h _ (found_mem HSK.out)).2.2.1)
                      generalize rd_T65 ms' (atI ms' s) = m at *
                      have HS11 := Aside0.mk (HS10.out.below hb7)
                      obtain ⟨B8, d8, B9, d9, B10, d10, B11, d11, B12, d12, rfl, rfl, rfl, rfl, rfl⟩ := cells_slices hF7
                      have HF7 := Aside0.mk hF7
                      clear hb7 hF7 hc HS10
                      go_wp2_with (refine wpList_store_row rfl 65 (.tmp 13) (.tmp 133) rfl w7.heap.size _ rfl rfl 65 zeroM (heap_alloc_new _ _) (by kernel_rfl) rfl (cells_one _ _ _ _ _ _ _ _ _ _ _ _ _ _ _ _) ?_)
                      refine wp_abs (fun W => W.heap[w7.heap.size]? = some (.cells (cellsM m (.slice B8 m.f4.f4.length d8) (.slice B9 m.f4.f5.length d9) (.slice B10 m.f5.length d10) (.slice B11 m.f6.length d11) (.slice B12 m.f7.length d12)) 65 (0, 0)) ∧ Below w7.heap.size w7 W) ⟨setRow_heap _ _ _ _ _ _ (heap_alloc_new _ _), below_row (below_alloc (Below.refl _ _) _) (Nat.le_refl _) _⟩ (fun W hW => ?_)
                      have HS12 := Aside0.mk (HS11.out.below hW.2)
                      have HCI := Aside0.mk (Kd.C_below (cells_C10 HF7.out) hW.2)
                      obtain ⟨AN, cN, eN, _, hCN⟩ := HS12.out.swap.rowReads
                      injection eN with eN1 _ eN2
                      subst eN1 eN2
                      have HCN := Aside0.mk hCN
                      have x10 : W.cell? ⟨w7.heap.size, 10, none⟩ = some (.slice B10 m.f5.length d10) := get_cell hW.1 10
                      clear hW hCN HS11 HF7
                      go_loopg [15] (m.f5.length + 1) (fun kq v15 w' => ∃ j : Nat, v15 = .int .i64 j ∧ Aside0 (j ≤ m.f5.length ∧ m.f5.length - j < kq) ∧ Aside0 (w' = W))
                      case atStart => exact ⟨0, rfl, ⟨by omega⟩, ⟨rfl⟩⟩
                      case round =>
                        obtain ⟨gk3, rfl⟩ : ∃ x, x = gk := ⟨gk, rfl⟩
                        obtain ⟨j, rfl, Hj, HW⟩ := hrel
                        obtain rfl := HW.out
                        by_cases hlt : j < m.f5.length
                        · obtain ⟨ad3, y, rfl, hy, hcy⟩ := str_at HCI.out hlt
                          have HY := Aside0.mk (HMI.out j y hy)
                          have t1 : (j < m.f5.length) = True := eq_true hlt
                          have t9 : (j : Int) ≤ 1000000 := by have := HM16.out; omega
                          have t8 : 0 ≤ (j : Int) := by omega
                          clear hlt hy
                          go_wp2_with fail
                          have hq := has_calls (some ad2) c6 ns y wr HCN.out (by have := HLN.out; omega)
                          (with_reducible refine hq.mono ?_)
                          clear hq
                          rintro e8 w8 ⟨rfl, rfl⟩
                          rw [show inL y ns = true from by rw [← HNS.out]; exact HY.out]
                          go_wp2_with fail
                          go_roundg (gk3 - 1)
                          case measure => have := Hj.out; omega
                          case rel => exact ⟨j + 1, by go_num, ⟨by have := Hj.out; have := of_eq_true t1; omega⟩, ⟨rfl⟩⟩
                        · have d1 : (j < m.f5.length) = False := eq_false hlt
                          clear hlt
                          go_wp2_with fail
                          go_roundg (gk2 - 1)
                          case measure => have := Hk.out; omega
                          case rel => exact ⟨k + 1, by go_num, ⟨by have := Hk.out; have := of_eq_true r1; omega⟩, HS12⟩
                    · have d1 : (k < ns.length) = False := eq_false hlt
                      clear hlt
                      go_wp2_with fail
                      go_roundg (gk1 - 1)
                      case measure => have := Hi.out; omega
                      case rel => exact ⟨i + 1, _, by go_num, ⟨by have := Hi.out; have := of_eq_true q1; omega⟩, HCL2, ⟨HS10.out.swap.drop⟩⟩
            · have q100 : (100 < (x.f1.size : Int)) = False := eq_false (by omega)
              have q20 : (20 < (x.f2.length : Int)) = True := eq_true (by omega)
              clear h100 h20
              go_wp2_with fail
              go_ret
              exact ⟨by rfl, HS7.out.toBelow⟩
          · have q100 : (100 < (x.f1.size : Int)) = True := eq_true (by omega)
            clear h100
            go_wp2_with fail
            go_ret
            exact ⟨by rfl, HS7.out.toBelow⟩
        · have d1 : (i < l.length) = False := eq_false hlt
          obtain ⟨hat, hrd⟩ := head_at HCL.out.2
          clear hlt
          go_wp2_with fail
          have hq := Find_calls HS7.out { data := #[65] }
          (with_reducible refine hq.mono ?_)
          clear hq
          rintro e7 w7 ⟨hb7, _, hf7⟩
          obtain ⟨v8, v9, v10, v11, v12, rfl, hF7⟩ := hf7 (by have h : atI ms { data := #[65] } = 0 := hat; omega)
          rw [show atI ms { data := #[65] } = 0 from hat, hrd] at hF7 ⊢
          clear hf7 hat hrd
          have HS11 := Aside0.mk (HS7.out.below hb7)
          obtain ⟨B8, d8, B9, d9, B10, d10, B11, d11, B12, d12, rfl, rfl, rfl, rfl, rfl⟩ := cells_slices hF7
          have HF7 := Aside0.mk hF7
          clear hb7 hF7 HS7
          go_upto_region 34 with (refine wpList_store_row rfl 65 (.tmp 16) (.tmp 155) rfl w7.heap.size _ rfl rfl 65 zeroM (heap_alloc_new _ _) (by kernel_rfl) rfl (cells_one _ _ _ _ _ _ _ _ _ _ _ _ _ _ _ _) ?_)
          refine wp_abs (fun W => W.heap[w7.heap.size]? = some (.cells (cellsM (modA ps) (.slice B8 (modA ps).f4.f4.length d8) (.slice B9 (modA ps).f4.f5.length d9) (.slice B10 (modA ps).f5.length d10) (.slice B11 (modA ps).f6.length d11) (.slice B12 (modA ps).f7.length d12)) 65 (0, 0)) ∧ Below w7.heap.size w7 W) ⟨setRow_heap _ _ _ _ _ _ (heap_alloc_new _ _), below_row (below_alloc (Below.refl _ _) _) (Nat.le_refl _) _⟩ (fun W hW => ?_)
          have HS12 := Aside0.mk (HS11.out.below hW.2)
          have x11 : W.cell? ⟨w7.heap.size, 11, none⟩ = some (.slice B11 1 d11) := get_cell hW.1 11
          obtain ⟨ad, A2, c2, rfl, y0, y1, y2, hl2, hC2⟩ := at_T71 (Kd.C_below (show k71.C w7 B11 1 [⟨2, 0, ps⟩] from cells_C11 HF7.out) hW.2) 0 (by decide) (by decide)
          obtain ⟨ki, hki⟩ := ints_self ps (by have := HN.out; omega)
          have HKI := Aside0.mk hki
          have HC2 := Aside0.mk (show c2 = c2 ∧ ps.length ≤ c2 ∧ (Kd.int .i64).C W A2 ps.length ps from ⟨rfl, hl2, hC2⟩)
          have HPW := Aside0.mk (Kd.C_below HP.out HS12.out.toBelow)
          have y3 : W.cell? ⟨ad.block, ad.off + 2, none⟩ = some (.slice A2 ps.length c2) := by
            have h := y2
            rw [show ad.add (Int.toNat 0 * 3) = ad from by
              obtain ⟨b, o, r⟩ := ad
              cases r <;> simp [Addr.add]] at h
            exact h
          clear hW hl2 hC2 hki HS11 HF7 y0 y1 y2
          go_wp2_with fail
          have hq := dowelref09_Ints.calls ki A2 c2 ps A1 c1 ps true W HC2.out.2.2 HC2.out.2.1 HPW.out HN.out.2.2 HKI.out
          (with_reducible refine hq.mono ?_)
          clear hq
          rintro e8 w8 ⟨rfl, hd8⟩
          have HB8 := Aside0.mk (HS12.out.drawn hd8).toBelow
          clear hd8
          go_wp2_with fail
          go_ret
          exact ⟨by rfl, HB8.out⟩
end Go.Proofs.Ytlgfdokdckaejaa.MineTab
