/- Tables of modules: the law beside its own list, walked. Conditions: the rows are those of the statement. -/
import Derived.Test.YtlgfdokdckaejaaMineTabQ
import Derived.Deep.RegionHeld3
namespace Go.Proofs.Ytlgfdokdckaejaa.MineTab
open Go.RowKit Go.MapKept Go.Proofs.YtlgfdokdckaejaaW.PrintWords Go.Proofs.YtlgfdokdckaejaaW.PrintLast Go.Proofs.YtlgfdokdckaejaaW.PrintMore Go.Proofs.Ytlgfdokdckaejaa.MineBase Go.Proofs.Ytlgfdokdckaejaa.MineSep Go.Proofs.Ytlgfdokdckaejaa.MineRows Go.Proofs.Ytlgfdokdckaejaa.QTableKeeps
open Go.Proofs.Ytlgfdokdckaejaa.QTablePlays (S54 k54 rd_T54 at_T54)
set_option linter.unusedVariables false
set_option linter.unusedSimpArgs false
attribute [local go_sem] Go.Proofs.Ytlgfdokdckaejaa.MineErr.eql_err Go.Proofs.Ytlgfdokdckaejaa.MineErr.neq_err Go.Proofs.Ytlgfdokdckaejaa.MineErr.eql_nil_err Go.Proofs.Ytlgfdokdckaejaa.MineErr.neq_nil_err
theorem info54 : (Try.prog.info? 54).map (fun i => (i.zero, i.size, i.bytes)) = some (some (.agg #[.bool false, .string ⟨#[]⟩, .slice none 0 0, .int .i64 0]), (Kd.raw k54.sz).sz, 56) := by kernel_rfl
/-- A missing import's error. -/
def b3 (ms : List S65) (xs : List ByteArray) : Int := if 0 ≤ missI ms xs then 3 else 0
theorem miss_iff (ms : List S65) (xs : List ByteArray) : 0 ≤ missI ms xs ↔ ∃ x ∈ xs, atI ms x < 0 := by
  unfold missI
  rw [idxP_nonneg]
  simp only [decide_eq_true_iff]
theorem b3_hit {ms : List S65} {xs : List ByteArray} {j : Nat} {x : ByteArray} (h : xs[j]? = some x) (hx : atI ms x < 0) : b3 ms (xs.take (j + 1)) = 3 := by
  unfold b3
  rw [if_pos ((miss_iff _ _).2 ⟨x, List.mem_of_getElem? (by rw [List.getElem?_take, if_pos (Nat.lt_succ_self j)]; exact h), hx⟩)]
theorem b3_miss {ms : List S65} {xs : List ByteArray} {j : Nat} {x : ByteArray} (h : xs[j]? = some x) (hx : ¬ atI ms x < 0) : b3 ms (xs.take (j + 1)) = b3 ms (xs.take j) := by
  have hj := (List.getElem?_eq_some_iff.1 h).1
  unfold b3
  have e : (0 ≤ missI ms (xs.take (j + 1))) = (0 ≤ missI ms (xs.take j)) := by
    refine propext ⟨fun h1 => ?_, fun h1 => ?_⟩
    · obtain ⟨y, hy, hy2⟩ := (miss_iff _ _).1 h1
      rw [List.take_add_one, h] at hy
      rcases List.mem_append.1 hy with hy | hy
      · exact (miss_iff _ _).2 ⟨y, hy, hy2⟩
      · simp at hy
        subst hy
        exact absurd hy2 hx
    · obtain ⟨y, hy, hy2⟩ := (miss_iff _ _).1 h1
      refine (miss_iff _ _).2 ⟨y, ?_, hy2⟩
      rw [List.take_add_one]
      exact List.mem_append_left _ hy
  simp only [e]
/-- The same, and what is there. -/
def b1 (ms : List S65) (x : S54) : Int := if 0 ≤ atI ms x.f1 then 1 else b3 ms x.f2
theorem b1_bad (room : Int) (m : List S54) (x : S54) : badI room m x = if room ≤ m.length then 8 else b1 (m.map toM) x := rfl
theorem ref_reads {w W : World} {base c : Nat} {A : Option Addr} {m : List S54} {rows : List (List Value)} {l : List Asn} (h : Sat w W (ARow (Kd.raw k54.sz) 54 base (.slice A m.length c) rows :: l)) (hR : RefP m rows w) : Kd.C k54 W A m.length m ∧ m.length ≤ c ∧ (Kd.raw k54.sz).C W A m.length rows := by
  obtain ⟨A2, c2, e, hl, hC⟩ := h.rowReads
  injection e with e1 e2 e3
  subst e1 e3
  rw [← e2] at hC hl
  exact ⟨ref_C hC hR h.toBelow, hl, hC⟩
theorem one_reads {W : World} {b : Nat} {cs : List Value} (hg : W.heap[b]? = some (.cells cs.toArray 54 (0, 0))) (hl : cs.length = k54.sz) (h1 : ∀ u ∈ cs, u.oneCell' = true) : (Kd.raw k54.sz).C W (some ⟨b, 0, none⟩) 1 [cs] := by
  refine ⟨rfl, by decide, fun _ => ⟨_, rfl, fun j p hj => ?_⟩⟩
  obtain ⟨rfl, rfl⟩ : j = 0 ∧ cs = p := by
    cases j with
    | zero => exact ⟨rfl, by simpa using hj⟩
    | succ j => simp at hj
  refine ⟨cs, hl, ⟨rfl, hl, h1⟩, fun i u hu => ?_⟩
  rw [show ((⟨b, 0, none⟩ : Addr).add (0 * (Kd.raw k54.sz).sz + i)) = ⟨b, i, none⟩ from by rw [Nat.zero_mul, Nat.zero_add]; exact add_plain _ _, get_cell hg i, ← hu]
  simp
theorem below_da (W : World) (o : Obj) : Below W.heap.size W (W.drew.alloc o) := below_alloc (below_drew (Below.refl _ _)) o
theorem tab_len {w W : World} {g : Nat} {room : Int} {m : List S54} {l : List Asn} (h : Sat w W (ATab w.heap.size g room (m.map toM) :: l)) : (m.length : Int) ≤ room ∧ m.length ≤ 16 := by
  obtain ⟨_, _, _, _, _, h1, _⟩ := tab_open h
  rw [List.length_map] at h1
  exact ⟨h1.2.2, by omega⟩
set_option maxRecDepth 100000 in
set_option maxHeartbeats 8000000 in
theorem TablePlays_calls (most : Int) (A0 : Option Addr) (c0 : Nat) (l : List S54) (s : ByteArray) (w : World) (hL : Kd.C k54 w A0 l.length l) :
    Calls Try.prog 5 #[.int .i64 most, .slice A0 l.length c0, .string s] w fun e w' => e = .returned (.bool true) ∧ Below w.heap.size w w' := by
  have HL := Aside0.mk hL
  clear hL
  go_enter Try.func5, Try.ntmps5
  go_wp2_with fail
  refine (up_calls w).mono ?_
  rintro e1 w1 ⟨rfl, hb1⟩
  have HS1 := Aside0.mk ((Sat.start w).below hb1)
  clear hb1
  go_wp2_with fail
  refine (New_calls HS1.out most).mono ?_
  rintro e2 w2 ⟨g, rfl, hS2⟩
  have HS2 := Aside0.mk hS2
  clear hS2
  rcases Nat.lt_or_ge 80 l.length with h80 | h80
  · have p1 : (80 < (l.length : Int)) = True := eq_true (by omega)
    clear h80
    go_wp2_with fail
    go_ret
    exact ⟨rfl, HS2.out.toBelow⟩
  rcases Nat.lt_or_ge 100 s.size with h100 | h100
  · have p1 : (80 < (l.length : Int)) = False := eq_false (by omega)
    have p2 : (100 < (s.size : Int)) = True := eq_true (by omega)
    clear h80 h100
    go_wp2_with fail
    go_ret
    exact ⟨rfl, HS2.out.toBelow⟩
  have p1 : (80 < (l.length : Int)) = False := eq_false (by omega)
  have p2 : (100 < (s.size : Int)) = False := eq_false (by omega)
  have HN := Aside0.mk h80
  clear h80 h100
  go_upto_if 46 with (fail)
  go_cut [9] (fun v wx => v = .int .i64 (mx most 0) ∧ wx = w2)
  case first =>
    by_cases h : most < 0
    · have d : decide (most < 0) = true := decide_eq_true h
      have e : mx most 0 = 0 := by unfold mx; split <;> omega
      go_wp2_with fail
      go_meet
      case rel => exact ⟨by rw [e], rfl⟩
    · have d : decide (most < 0) = false := decide_eq_false h
      have e : mx most 0 = most := by unfold mx; split <;> omega
      go_wp2_with fail
      go_meet
      case rel => exact ⟨by rw [e], rfl⟩
  case rest =>
    obtain ⟨rfl, rfl⟩ := hcut
    go_upto_if 48 with (fail)
    go_cut [9] (fun v wx => v = .int .i64 (mn (mx most 0) 16) ∧ wx = wc)
    case first =>
      by_cases h : 16 < mx most 0
      · have d : decide (16 < mx most 0) = true := decide_eq_true h
        have e : mn (mx most 0) 16 = 16 := by unfold mn; split <;> omega
        go_wp2_with fail
        go_meet
        case rel => exact ⟨by rw [e], rfl⟩
      · have d : decide (16 < mx most 0) = false := decide_eq_false h
        have e : mn (mx most 0) 16 = mx most 0 := by unfold mn; split <;> omega
        go_wp2_with fail
        go_meet
        case rel => exact ⟨by rw [e], rfl⟩
    case rest =>
      obtain ⟨rfl, rfl⟩ := hcut
      generalize mn (mx most 0) 16 = room at *
      have HR := Aside0.mk (show 0 ≤ room ∧ room ≤ 16 from by
        obtain ⟨_, _, _, _, _, h, _⟩ := tab_open HS2.out
        exact ⟨h.1, h.2.1⟩)
      have HS3 := Aside0.mk (show Sat w wc [ATab w.heap.size g room (([] : List S54).map toM), ARow (Kd.raw k54.sz) 54 w.heap.size (.slice none 0 0) []] from (HS2.out.newRow (Below.refl _ _) (Kd.R_nil (Kd.raw k54.sz) 54 wc wc.heap.size (fun _ => True)) HS2.out.size).swap)
      clear HS2 HS1
      go_wp2_with fail
      go_loopg [10, 11] (l.length + 1) (fun kq v10 v11 w' => ∃ (i : Nat) (m : List S54) (rows : List (List Value)) (A : Option Addr) (c : Nat), v10 = .slice A m.length c ∧ v11 = .int .i64 i ∧ Aside0 (i ≤ l.length ∧ l.length - i < kq) ∧ Aside0 (RefP m rows w ∧ Distinct (m.map toM) ∧ ∀ d ∈ m, d.f2.length ≤ 20) ∧ Aside0 (Sat w w' [ATab w.heap.size g room (m.map toM), ARow (Kd.raw k54.sz) 54 w.heap.size (.slice A m.length c) rows]))
      case atStart => exact ⟨0, [], [], none, 0, rfl, rfl, ⟨by omega⟩, ⟨RefP.nil w, List.nodup_nil, fun d hd => by cases hd⟩, HS3⟩
      case round =>
        clear HS3
        obtain ⟨gk1, rfl⟩ : ∃ x, x = gk := ⟨gk, rfl⟩
        obtain ⟨i, m, rows, A, c, rfl, rfl, Hi, HM, HS4⟩ := hrel
        by_cases hlt : i < l.length
        · obtain ⟨ad, A2, c2, rfl, x0, x1, x2, x3, hrest⟩ := at_T54 HL.out (i : Int) (by omega) (by omega)
          simp only [Int.toNat_natCast] at x0 x1 x2 x3
          replace x0 := pw_cell_below HS4.out.toBelow x0
          replace x1 := pw_cell_below HS4.out.toBelow x1
          replace x2 := pw_cell_below HS4.out.toBelow x2
          replace x3 := pw_cell_below HS4.out.toBelow x3
          have HREST := Aside0.mk hrest
          have q1 : (i < l.length) = True := eq_true hlt
          have q9 : (i : Int) ≤ 1000000 := by have := HN.out; omega
          have q8 : 0 ≤ (i : Int) := by omega
          clear hlt hrest
          generalize hx : rd_T54 l (i : Int) = x at *
          clear hx
          by_cases h100 : x.f1.size ≤ 100
          · by_cases h20 : x.f2.length ≤ 20
            · have q100 : (100 < (x.f1.size : Int)) = False := eq_false (by omega)
              have q20 : (20 < (x.f2.length : Int)) = False := eq_false (by omega)
              have H20 := Aside0.mk h20
              clear h100 h20
              go_upto_region 17 with (fail)
              refine wp_abs (fun W => Sat w W [ATab w.heap.size g room (m.map toM), ARow (Kd.raw k54.sz) 54 w.heap.size (.slice A m.length c) rows, ABlk wr.heap.size (.cells #[.bool x.f0, .string x.f1, .slice A2 x.f2.length c2, .int .i64 x.f3] 54)]) (Sat.push (l1 := [_, _]) (blk_new HS4.out _)) (fun W hW => ?_)
              have HW := Aside0.mk hW
              have hb := blk_at (Sat.pull (l1 := [_, _]) hW)
              have y0 : W.cell? ⟨wr.heap.size, 0, none⟩ = some (.bool x.f0) := get_cell hb 0
              have y1 : W.cell? ⟨wr.heap.size, 1, none⟩ = some (.string x.f1) := get_cell hb 1
              have HML := Aside0.mk (tab_len hW)
              obtain ⟨ka, hka⟩ := at_law m x.f1 (by have := HML.out; omega)
              have HKA := Aside0.mk hka
              have HCM := Aside0.mk (ref_reads hW.swap HM.out.1)
              clear hW hb hka x0 x1 x2 x3 HS4
              go_wp2_with fail
              have hq := Go.Proofs.Ytlgfdokdckaejaa.QTablePlays.dowellaw18_at.calls ka A c m x.f1 _ W HCM.out.1 HCM.out.2.1 HKA.out
              (with_reducible refine hq.mono ?_)
              clear hq
              rintro e3 w3 ⟨rfl, hd3⟩
              have HW3 := Aside0.mk (HW.out.drawn hd3)
              clear hd3 HW HCM HKA y0 y1
              have hb := blk_at (Sat.pull (l1 := [_, _]) HW3.out)
              have y0 : w3.cell? ⟨wr.heap.size, 0, none⟩ = some (.bool x.f0) := get_cell hb 0
              have y1 : w3.cell? ⟨wr.heap.size, 1, none⟩ = some (.string x.f1) := get_cell hb 1
              have y2 : w3.cell? ⟨wr.heap.size, 2, none⟩ = some (.slice A2 x.f2.length c2) := get_cell hb 2
              have y3 : w3.cell? ⟨wr.heap.size, 3, none⟩ = some (.int .i64 x.f3) := get_cell hb 3
              clear hb
              go_upto_if 75 with (fail)
              go_cut [10] (fun v10 wx => ∃ (m' : List S54) (rows' : List (List Value)) (A' : Option Addr) (c' : Nat), v10 = .slice A' m'.length c' ∧ Aside0 (RefP m' rows' w ∧ Distinct (m'.map toM) ∧ ∀ d ∈ m', d.f2.length ≤ 20) ∧ Aside0 (Sat w wx [ATab w.heap.size g room (m'.map toM), ARow (Kd.raw k54.sz) 54 w.heap.size (.slice A' m'.length c') rows']))
              case first =>
                rcases Bool.eq_false_or_eq_true x.f0 with hf | hf
                · skip
                  rw [hf] at y0 ⊢
                  by_cases ha : 0 ≤ atI (m.map toM) x.f1
                  · have da : decide (0 ≤ atI (m.map toM) x.f1) = true := decide_eq_true ha
                    obtain ⟨kr, hkr⟩ := refs_law m x.f1 (by have := HML.out; omega) (fun d hd => by have := HM.out.2.2 d hd; omega)
                    have HKR := Aside0.mk hkr
                    have HCM := Aside0.mk (ref_reads HW3.out.swap HM.out.1)
                    have HA := Aside0.mk ha
                    clear hkr ha
                    go_wp2_with fail
                    have hq := Go.Proofs.Ytlgfdokdckaejaa.QTablePlays.dowellaw18_refs.calls kr A c m x.f1 _ w3 HCM.out.1 HCM.out.2.1 HKR.out
                    (with_reducible refine hq.mono ?_)
                    clear hq
                    rintro e4 w4 ⟨rfl, hd4⟩
                    have HW4 := Aside0.mk (HW3.out.drawn hd4)
                    clear hd4 HW3 HCM HKR y0 y1 y2 y3
                    have hb := blk_at (Sat.pull (l1 := [_, _]) HW4.out)
                    have y1 : w4.cell? ⟨wr.heap.size, 1, none⟩ = some (.string x.f1) := get_cell hb 1
                    clear hb
                    by_cases hr : refsI (m.map toM) x.f1 = 0
                    · have dr : (refsI (m.map toM) x.f1 == 0) = true := by simpa using hr
                      have HE := Aside0.mk (show dropE (m.map toM) x.f1 = true by rw [dropE_toM, decide_eq_true HA.out, decide_eq_true hr]; rfl)
                      clear hr
                      go_wp2_with fail
                      have hq := Remove_calls HW4.out x.f1
                      (with_reducible refine hq.mono ?_)
                      clear hq
                      rintro e5 w5 ⟨rfl, hS5⟩
                      have HW5 := Aside0.mk hS5
                      rw [HE.out]
                      clear hS5 HW4 y1
                      go_wp2_with fail
                      as_aux_lemma =>
                        obtain ⟨k, hk⟩ : ∃ k : Nat, atI (m.map toM) x.f1 = k := ⟨(atI (m.map toM) x.f1).toNat, by have := HA.out; omega⟩
                        have hkl : k < m.length := by
                          have h := (idxP_range (fun m : S65 => eqS m.f0 x.f1) (m.map toM)).2
                          change atI (m.map toM) x.f1 < _ at h
                          rw [List.length_map] at h
                          omega
                        have HDT := Aside0.mk (dropT_toM HE.out hk)
                        obtain ⟨m', hm'⟩ : ∃ m', m' = m.take k ++ m.drop (k + 1) := ⟨_, rfl⟩
                        obtain ⟨T, hT⟩ : ∃ T, T = rows.take k := ⟨_, rfl⟩
                        obtain ⟨D, hD⟩ : ∃ D, D = rows.drop (k + 1) := ⟨_, rfl⟩
                        have hRP : RefP m' (T ++ D) w := by
                          rw [hm', hT, hD]
                          exact (HM.out.1.take k).append (HM.out.1.drop (k + 1))
                        have HRP := Aside0.mk hRP
                        have hTl : T.length = k := by rw [hT, List.length_take, HM.out.1.1]; omega
                        obtain ⟨hCm, hmc, hCr⟩ := ref_reads HW5.out.swap HM.out.1
                        obtain ⟨g3, hA⟩ : ∃ g3, A = some ⟨g3, 0, none⟩ := by
                          obtain ⟨_, hR, _⟩ := HW5.out.swap.head
                          obtain ⟨g3, cap, e1, _⟩ := Kd.R_form hR (by rw [HM.out.1.1]; omega)
                          injection e1 with e1
                          exact ⟨g3, e1⟩
                        subst hA
                        have HRT := Aside0.mk (show (Kd.raw k54.sz).C (w5.drew.alloc (.cells #[] 54)) (some ⟨g3, 0, none⟩) k T from by rw [hT]; exact reads_take (Kd.C_below hCr (below_da _ _)) (by omega))
                        have HRD := Aside0.mk (show (Kd.raw k54.sz).C w5 (if c = k + 1 then some ⟨g3, 0, none⟩ else some ⟨g3, (k + 1) * 4, none⟩) (m.length - (k + 1)) D from by
                          rw [hD]
                          refine reads_drop hCr rfl (fun hp => ?_)
                          rw [if_neg (by omega)]
                          show _ = some ((⟨g3, 0, none⟩ : Addr).add _)
                          rw [add_plain]; rfl)
                        have HTL := Aside0.mk hTl
                        have HDM := Aside0.mk hm'
                        have HSM := Aside0.mk (show m.length ≤ 16 from by have := HML.out; omega)
                        have p6 : (k ≤ c) = True := eq_true (by omega)
                        have p5 : 0 ≤ (k : Int) := by omega
                        have p7 : 0 ≤ (k : Int) + 1 := by omega
                        have p8 : (k : Int) ≤ 1000 := by have := HML.out; omega
                        have p9 : (k : Int) + 1 ≤ m.length := by omega
                        have w1k : IntKind.i64.wrap ((k : Int) + 1) = k + 1 := wrap_small (by omega) (by have := HML.out; omega)
                        have p10 : (k : Int) < m.length := by omega
                        have p11 : m.length ≤ c := hmc
                        rw [hk]
                        clear hCm hmc hCr hT hD hm' hTl hkl hRP
                        have HK := Aside0.mk hk
                        clear hk
                        go_region_held3 (fun w' => True) (exact trivial) (first
                          | (((refine Kd.R_append_rows_step (Kd.raw k54.sz) (Rr := fun x cs => cs = x ∧ cs.length = k54.sz ∧ ∀ u ∈ cs, u.oneCell' = true) (w0 := w5.drew.alloc (.cells #[] 54)) (W := w5.drew.alloc (.cells #[] 54)) w5.heap.size (by rfl) (.tmp 92) (.tmp 95) 50 54 _ 56 rfl Try.underlying50 info54 rfl (by decide) (by decide) _ [] T (some ⟨g3, 0, none⟩) k c (fun _ => True) (fun _ => False) rfl rfl (emptyR_at (heap_alloc_new _ _) (Nat.le_refl _)) HRT.out (fun _ _ h => h) (fun _ h => h.elim) (fun _ _ => trivial) (Below.refl _ _) (below_da w5 _).size (by show (0 + k) * 56 ≤ _; omega) ?_)); intro v6 w6 hR6 hB6 _ _; rw [List.nil_append] at hR6; obtain ⟨A6, c6, rfl⟩ := Kd.R_slice hR6; rw [HTL.out] at hR6 ⊢; have HR6 := Aside0.mk hR6; have HB6 := Aside0.mk ((below_da w5 (.cells #[] 54)).trans hB6); clear hR6 hB6)
                          | (((refine Kd.R_append_rows_step (Kd.raw k54.sz) (Rr := fun x cs => cs = x ∧ cs.length = k54.sz ∧ ∀ u ∈ cs, u.oneCell' = true) (w0 := w6) (W := w6) w5.heap.size (by rfl) (.tmp 96) (.tmp 100) 50 54 _ 56 rfl Try.underlying50 info54 rfl (by decide) (by decide) _ T D (if c = k + 1 then some ⟨g3, 0, none⟩ else some ⟨g3, (k + 1) * 4, none⟩) (m.length - (k + 1)) (c - (k + 1)) (fun _ => True) (fun _ => False) rfl rfl HR6.out (Kd.C_below HRD.out HB6.out) (fun _ _ h => h) (fun _ h => h.elim) (fun _ _ => trivial) (Below.refl _ _) HB6.out.size (by have := HTL.out; have := HSM.out; omega) ?_)); (intro v7 w7 hR7 hB7 hg7 ha7; clear hg7 ha7); (obtain ⟨A7, c7, rfl⟩ := Kd.R_slice hR7); (rw [HRP.out.1] at hR7); (rw [HRP.out.1]); have HR7 := Aside0.mk hR7; (have HB7 := Aside0.mk (HB6.out.trans hB7)); clear hR7 hB7))
                        all_goals go_wp2
                        all_goals (
                          rw [← HK.out]
                          go_meet
                          case rel => exact ⟨m', T ++ D, A7, c7, by rfl, ⟨HRP.out, by rw [HDM.out, ← HDT.out]; exact distinct_drop HM.out.2.1 _, fun d hd => by
                            rw [HDM.out] at hd
                            rcases List.mem_append.1 hd with h | h
                            · exact HM.out.2.2 d (List.mem_of_mem_take h)
                            · exact HM.out.2.2 d (List.mem_of_mem_drop h)⟩, ⟨by
                            have h := (Sat.drop (HW5.out.swap)).drop
                            have h2 := HW5.out
                            rw [HDT.out, ← HDM.out] at h2
                            have h3 := Sat.drop (Sat.pull (l1 := [_, _]) h2)
                            have h4 := Sat.drop h3.swap
                            exact (h4.newRow HB7.out HR7.out h4.size).swap⟩⟩)
                    · have dr : (refsI (m.map toM) x.f1 == 0) = false := by simpa using hr
                      have HE := Aside0.mk (show dropE (m.map toM) x.f1 = false by rw [dropE_toM, decide_eq_true HA.out, decide_eq_false hr]; rfl)
                      clear hr
                      go_wp2_with fail
                      have hq := Remove_calls HW4.out x.f1
                      (with_reducible refine hq.mono ?_)
                      clear hq
                      rintro e5 w5 ⟨rfl, hS5⟩
                      rw [dropT_same HE.out] at hS5
                      have HW5 := Aside0.mk (Sat.drop (Sat.pull (l1 := [_, _]) hS5))
                      rw [HE.out]
                      clear hS5 HW4 y1
                      go_wp2_with fail
                      go_meet
                      case rel => exact ⟨m, rows, A, c, by rfl, HM, HW5⟩
                  · have da : decide (0 ≤ atI (m.map toM) x.f1) = false := decide_eq_false ha
                    have HE := Aside0.mk (show dropE (m.map toM) x.f1 = false by rw [dropE_toM, decide_eq_false ha]; rfl)
                    clear ha
                    go_wp2_with fail
                    have hq := Remove_calls HW3.out x.f1
                    (with_reducible refine hq.mono ?_)
                    clear hq
                    rintro e5 w5 ⟨rfl, hS5⟩
                    rw [dropT_same HE.out] at hS5
                    have HW5 := Aside0.mk (Sat.drop (Sat.pull (l1 := [_, _]) hS5))
                    rw [HE.out]
                    clear hS5 HW3 y1 y0 y2 y3
                    go_wp2_with fail
                    go_meet
                    case rel => exact ⟨m, rows, A, c, by rfl, HM, HW5⟩
                · skip
                  as_aux_lemma =>
                    rw [hf] at y0 ⊢
                    go_wp2_with fail
                    go_loopg [15, 16] (x.f2.length + 1) (fun kq v15 v16 w' => ∃ j : Nat, v15 = .int .i64 (b3 (m.map toM) (x.f2.take j)) ∧ v16 = .int .i64 j ∧ Aside0 (j ≤ x.f2.length ∧ x.f2.length - j < kq) ∧ Aside0 (Sat w w' [ATab w.heap.size g room (m.map toM), ARow (Kd.raw k54.sz) 54 w.heap.size (.slice A m.length c) rows, ABlk wr.heap.size (.cells #[.bool x.f0, .string x.f1, .slice A2 x.f2.length c2, .int .i64 x.f3] 54)]))
                    case atStart => exact ⟨0, by rfl, by rfl, ⟨by omega⟩, HW3⟩
                    case round =>
                      clear HW3 y0 y1 y2 y3
                      obtain ⟨wo, rfl⟩ : ∃ y, y = wr := ⟨wr, rfl⟩
                      obtain ⟨gk2, rfl⟩ : ∃ y, y = gk := ⟨gk, rfl⟩
                      obtain ⟨j, rfl, rfl, Hj, HW4⟩ := hrel
                      have hb := blk_at (Sat.pull (l1 := [_, _]) HW4.out)
                      have y1 : wo.cell? ⟨_, 1, none⟩ = some (.string x.f1) := get_cell hb 1
                      have y2 : wo.cell? ⟨_, 2, none⟩ = some (.slice A2 x.f2.length c2) := get_cell hb 2
                      have y3 : wo.cell? ⟨_, 3, none⟩ = some (.int .i64 x.f3) := get_cell hb 3
                      clear hb
                      by_cases hjl : j < x.f2.length
                      · as_aux_lemma =>
                        obtain ⟨adj, y, rfl, hy, hc⟩ := str_at (Kd.C_below HREST.out.2 HW4.out.toBelow) hjl
                        obtain ⟨ka, hka⟩ := at_law m y (by have := HML.out; omega)
                        have HKA := Aside0.mk hka
                        have HCM := Aside0.mk (ref_reads HW4.out.swap HM.out.1)
                        have HY := Aside0.mk hy
                        have r1 : (j < x.f2.length) = True := eq_true hjl
                        have r9 : (j : Int) ≤ 1000000 := by have := H20.out; omega
                        have r8 : 0 ≤ (j : Int) := by omega
                        clear hjl hy hka
                        go_wp2_with fail
                        have hq := Go.Proofs.Ytlgfdokdckaejaa.QTablePlays.dowellaw18_at.calls ka A c m y _ wo HCM.out.1 HCM.out.2.1 HKA.out
                        (with_reducible refine hq.mono ?_)
                        clear hq
                        rintro e4 w4 ⟨rfl, hd4⟩
                        have HW5 := Aside0.mk (HW4.out.drawn hd4)
                        clear hd4 HW4 HCM HKA y1 y2 y3 hc
                        by_cases ha : atI (m.map toM) y < 0
                        · have da : decide (atI (m.map toM) y < 0) = true := decide_eq_true ha
                          have HB3 := Aside0.mk (b3_hit HY.out ha)
                          clear ha
                          go_wp2_with fail
                          go_roundg (gk2 - 1)
                          case measure => have := Hj.out; have := of_eq_true r1; omega
                          case rel => exact ⟨j + 1, by rw [HB3.out], by go_num, ⟨by have := Hj.out; have := of_eq_true r1; omega⟩, HW5⟩
                        · have da : decide (atI (m.map toM) y < 0) = false := decide_eq_false ha
                          have HB3 := Aside0.mk (b3_miss HY.out ha)
                          clear ha
                          go_wp2_with fail
                          go_roundg (gk2 - 1)
                          case measure => have := Hj.out; have := of_eq_true r1; omega
                          case rel => exact ⟨j + 1, by rw [HB3.out], by go_num, ⟨by have := Hj.out; have := of_eq_true r1; omega⟩, HW5⟩
                      · have d1 : (j < x.f2.length) = False := eq_false hjl
                        rw [show x.f2.take j = x.f2 from List.take_of_length_le (by omega)]
                        clear hjl
                        go_upto_if 118 with (fail)
                        go_cut [15] (fun v wx => v = .int .i64 (b1 (m.map toM) x) ∧ wx = wo)
                        case first =>
                          as_aux_lemma =>
                          by_cases ha : 0 ≤ atI (m.map toM) x.f1
                          · have da : decide (0 ≤ atI (m.map toM) x.f1) = true := decide_eq_true ha
                            have HE := Aside0.mk (show b1 (m.map toM) x = 1 from if_pos ha)
                            have db : (0 ≤ atI (m.map toM) x.f1) = True := eq_true ha
                            have dc : decide (atI (m.map toM) x.f1 < 0) = false := decide_eq_false (by omega)
                            have HA := Aside0.mk ha
                            clear ha
                            go_wp2_with fail
                            all_goals (first
                              | (exfalso; have h := HA.out; omega)
                              | (go_meet; case rel => exact ⟨by rw [HE.out], rfl⟩))
                          · have da : decide (0 ≤ atI (m.map toM) x.f1) = false := decide_eq_false ha
                            have HE := Aside0.mk (show b1 (m.map toM) x = b3 (m.map toM) x.f2 from if_neg ha)
                            have db : (0 ≤ atI (m.map toM) x.f1) = False := eq_false ha
                            have dc : decide (atI (m.map toM) x.f1 < 0) = true := decide_eq_true (by omega)
                            have HA := Aside0.mk ha
                            clear ha
                            go_wp2_with fail
                            all_goals (first
                              | (exfalso; have h := HA.out; omega)
                              | (go_meet; case rel => exact ⟨by rw [HE.out], rfl⟩))
                        case rest =>
                          obtain ⟨rfl, rfl⟩ := hcut
                          go_upto_if 122 with (fail)
                          go_cut [15] (fun v wx => v = .int .i64 (badI room m x) ∧ wx = wc)
                          case first =>
                            as_aux_lemma =>
                            by_cases ha : room ≤ (m.length : Int)
                            · have da : decide (room ≤ (m.length : Int)) = true := decide_eq_true ha
                              have HE := Aside0.mk (show badI room m x = 8 from if_pos ha)
                              have db : (room ≤ (m.length : Int)) = True := eq_true ha
                              have dc : decide ((m.length : Int) < room) = false := decide_eq_false (by omega)
                              have HA := Aside0.mk ha
                              clear ha
                              go_wp2_with fail
                              all_goals (first
                                | (exfalso; have h := HA.out; omega)
                                | (go_meet; case rel => exact ⟨by rw [HE.out], rfl⟩))
                            · have da : decide (room ≤ (m.length : Int)) = false := decide_eq_false ha
                              have HE := Aside0.mk (show badI room m x = b1 (m.map toM) x from if_neg ha)
                              have db : (room ≤ (m.length : Int)) = False := eq_false ha
                              have dc : decide ((m.length : Int) < room) = true := decide_eq_true (by omega)
                              have HA := Aside0.mk ha
                              clear ha
                              go_wp2_with fail
                              all_goals (first
                                | (exfalso; have h := HA.out; omega)
                                | (go_meet; case rel => exact ⟨by rw [HE.out], rfl⟩))
                          case rest =>
                            obtain ⟨rfl, rfl⟩ := hcut
                            go_wp2_with fail
                            have hq := Add_mod HW4.out x.f1 x.f2 x.f3 A2 c2 (Kd.C_below HREST.out.2 HW4.out.toBelow) (by have := H20.out; omega)
                            (with_reducible refine hq.mono ?_)
                            clear hq
                            rintro e5 w5 ⟨rfl, hS5⟩
                            have HW5 := Aside0.mk hS5
                            clear hS5 HW4 y1 y2 y3
                            go_wp2_with fail
                            have hq := Code_calls (addE room (m.map toM) (modM x.f1 x.f2 x.f3)) (addE_cases _ _ _) w5
                            (with_reducible refine hq.mono ?_)
                            clear hq
                            rintro e6 w6 ⟨rfl, hb6⟩
                            have HW6 := Aside0.mk (HW5.out.below hb6)
                            rw [show (addE room (m.map toM) (modM x.f1 x.f2 x.f3)).getD 0 = badI room m x from badI_code room m x HML.out.1]
                            clear hb6 HW5
                            by_cases hz : addE room (m.map toM) (modM x.f1 x.f2 x.f3) = none
                            · have HB := Aside0.mk (show badI room m x = 0 from by rw [← badI_code room m x HML.out.1, show addE room (m.map toM) (toM x) = none from hz]; rfl)
                              have HZ := Aside0.mk hz
                              rw [HB.out]
                              clear hz
                              go_wp2_with fail
                              have hb := blk_at (Sat.pull (l1 := [_, _]) HW6.out)
                              have y0 : w6.cell? ⟨wr.heap.size, 0, none⟩ = some (.bool false) := by rw [← hf]; exact get_cell hb 0
                              have y1 : w6.cell? ⟨wr.heap.size, 1, none⟩ = some (.string x.f1) := get_cell hb 1
                              have y2 : w6.cell? ⟨wr.heap.size, 2, none⟩ = some (.slice A2 x.f2.length c2) := get_cell hb 2
                              have y3 : w6.cell? ⟨wr.heap.size, 3, none⟩ = some (.int .i64 x.f3) := get_cell hb 3
                              have z0 : ∀ o : Obj, (w6.drew.alloc o).cell? ⟨wr.heap.size, 0, none⟩ = some (.bool false) := fun o => pw_cell_below (below_da w6 o) y0
                              have z1 : ∀ o : Obj, (w6.drew.alloc o).cell? ⟨wr.heap.size, 1, none⟩ = some (.string x.f1) := fun o => pw_cell_below (below_da w6 o) y1
                              have z2 : ∀ o : Obj, (w6.drew.alloc o).cell? ⟨wr.heap.size, 2, none⟩ = some (.slice A2 x.f2.length c2) := fun o => pw_cell_below (below_da w6 o) y2
                              have z3 : ∀ o : Obj, (w6.drew.alloc o).cell? ⟨wr.heap.size, 3, none⟩ = some (.int .i64 x.f3) := fun o => pw_cell_below (below_da w6 o) y3
                              have HCr := Aside0.mk (ref_reads HW6.out.swap HM.out.1).2.2
                              have HRL := Aside0.mk HM.out.1.1
                              obtain ⟨m2, hm2⟩ : ∃ m2, m2 = m ++ [x] := ⟨_, rfl⟩
                              have HRP := Aside0.mk (show RefP m2 (rows ++ [[.bool false, .string x.f1, .slice A2 x.f2.length c2, .int .i64 x.f3]]) w from by rw [hm2]; exact HM.out.1.append (RefP.one (by have h := Go.Proofs.Ytlgfdokdckaejaa.QTablePlays.k54_mk w x HREST.out.1 HREST.out.2; rw [hf] at h; exact h)))
                              have HM2 := Aside0.mk hm2
                              have HAD := Aside0.mk (addT_toM (show addE room (m.map toM) (toM x) = none from HZ.out))
                              clear hm2 hb
                              have zz0 : ∀ o o2 : Obj, ((w6.drew.alloc o).alloc o2).cell? ⟨wr.heap.size, 0, none⟩ = some (.bool false) := fun o o2 => pw_cell_below (below_alloc (below_da w6 o) o2) y0
                              have zz1 : ∀ o o2 : Obj, ((w6.drew.alloc o).alloc o2).cell? ⟨wr.heap.size, 1, none⟩ = some (.string x.f1) := fun o o2 => pw_cell_below (below_alloc (below_da w6 o) o2) y1
                              have zz2 : ∀ o o2 : Obj, ((w6.drew.alloc o).alloc o2).cell? ⟨wr.heap.size, 2, none⟩ = some (.slice A2 x.f2.length c2) := fun o o2 => pw_cell_below (below_alloc (below_da w6 o) o2) y2
                              have zz3 : ∀ o o2 : Obj, ((w6.drew.alloc o).alloc o2).cell? ⟨wr.heap.size, 3, none⟩ = some (.int .i64 x.f3) := fun o o2 => pw_cell_below (below_alloc (below_da w6 o) o2) y3
                              go_region_held3 (fun w' => w'.cell? ⟨wr.heap.size, 0, none⟩ = some (.bool false) ∧ w'.cell? ⟨wr.heap.size, 1, none⟩ = some (.string x.f1) ∧ w'.cell? ⟨wr.heap.size, 2, none⟩ = some (.slice A2 x.f2.length c2) ∧ w'.cell? ⟨wr.heap.size, 3, none⟩ = some (.int .i64 x.f3)) (first | exact ⟨y0, y1, y2, y3⟩ | exact ⟨z0 _, z1 _, z2 _, z3 _⟩ | exact ⟨zz0 _ _, zz1 _ _, zz2 _ _, zz3 _ _⟩ | exact ⟨s0, s1, s2, s3⟩ | exact ⟨r0 _, r1 _, r2 _, r3 _⟩ | exact ⟨t0, t1, t2, t3⟩) (first
                                | (refine Kd.R_append_rows_step (Kd.raw k54.sz) (Rr := fun x cs => cs = x ∧ cs.length = k54.sz ∧ ∀ u ∈ cs, u.oneCell' = true) (w0 := w6.drew.alloc (.cells #[] 54)) (W := w6.drew.alloc (.cells #[] 54)) w6.heap.size (by rfl) (.tmp 138) (.tmp 139) 50 54 _ 56 rfl Try.underlying50 info54 rfl (by decide) (by decide) (.slice (some ⟨w6.heap.size, 0, none⟩) 0 0) [] rows A m.length c (fun _ => True) (fun _ => False) rfl rfl (emptyR_at (W := w6.drew.alloc (.cells #[] 54)) (b := w6.heap.size) (heap_alloc_new _ _) (Nat.le_refl _)) (Kd.C_below HCr.out (below_da w6 (.cells #[] 54))) (fun _ _ h => h) (fun _ h => h.elim) (fun _ _ => trivial) (Below.refl _ _) ((below_da w6 (.cells #[] 54))).size (by have := HML.out; show (0 + m.length) * 56 ≤ _; omega) ?_; intro v7 w7 hR7 hB7 hG7 ha7; rw [List.nil_append] at hR7; obtain ⟨A7, c7, rfl⟩ := Kd.R_slice hR7; rw [HRL.out] at hR7 ⊢; have HR7 := Aside0.mk hR7; have HB7 := Aside0.mk (((below_da w6 (.cells #[] 54))).trans hB7); have s0 : w7.cell? ⟨wr.heap.size, 0, none⟩ = some (.bool false) := pw_cell_below HB7.out y0; have s1 : w7.cell? ⟨wr.heap.size, 1, none⟩ = some (.string x.f1) := pw_cell_below HB7.out y1; have s2 : w7.cell? ⟨wr.heap.size, 2, none⟩ = some (.slice A2 x.f2.length c2) := pw_cell_below HB7.out y2; have s3 : w7.cell? ⟨wr.heap.size, 3, none⟩ = some (.int .i64 x.f3) := pw_cell_below HB7.out y3; have r0 : ∀ o : Obj, (w7.alloc o).cell? ⟨wr.heap.size, 0, none⟩ = some (.bool false) := fun o => pw_cell_below (below_alloc (Below.refl _ w7) o) s0; have r1 : ∀ o : Obj, (w7.alloc o).cell? ⟨wr.heap.size, 1, none⟩ = some (.string x.f1) := fun o => pw_cell_below (below_alloc (Below.refl _ w7) o) s1; have r2 : ∀ o : Obj, (w7.alloc o).cell? ⟨wr.heap.size, 2, none⟩ = some (.slice A2 x.f2.length c2) := fun o => pw_cell_below (below_alloc (Below.refl _ w7) o) s2; have r3 : ∀ o : Obj, (w7.alloc o).cell? ⟨wr.heap.size, 3, none⟩ = some (.int .i64 x.f3) := fun o => pw_cell_below (below_alloc (Below.refl _ w7) o) s3; clear hR7 hB7 hG7 ha7)
                                | (refine Kd.R_append_rows_step (Kd.raw k54.sz) (Rr := fun x cs => cs = x ∧ cs.length = k54.sz ∧ ∀ u ∈ cs, u.oneCell' = true) (w0 := (w6.drew.alloc (.cells #[] 54)).alloc (.cells #[.bool false, .string x.f1, .slice A2 x.f2.length c2, .int .i64 x.f3] 54)) (W := (w6.drew.alloc (.cells #[] 54)).alloc (.cells #[.bool false, .string x.f1, .slice A2 x.f2.length c2, .int .i64 x.f3] 54)) w6.heap.size (by rfl) (.tmp 138) (.tmp 139) 50 54 _ 56 rfl Try.underlying50 info54 rfl (by decide) (by decide) (.slice (some ⟨w6.heap.size, 0, none⟩) 0 0) [] rows A m.length c (fun _ => True) (fun _ => False) rfl rfl (emptyR_at (W := (w6.drew.alloc (.cells #[] 54)).alloc (.cells #[.bool false, .string x.f1, .slice A2 x.f2.length c2, .int .i64 x.f3] 54)) (b := w6.heap.size) (heap_alloc2_old w6.drew _ _) (Nat.le_refl _)) (Kd.C_below HCr.out (below_alloc (below_da w6 (.cells #[] 54)) (.cells #[.bool false, .string x.f1, .slice A2 x.f2.length c2, .int .i64 x.f3] 54))) (fun _ _ h => h) (fun _ h => h.elim) (fun _ _ => trivial) (Below.refl _ _) ((below_alloc (below_da w6 (.cells #[] 54)) (.cells #[.bool false, .string x.f1, .slice A2 x.f2.length c2, .int .i64 x.f3] 54))).size (by have := HML.out; show (0 + m.length) * 56 ≤ _; omega) ?_; intro v7 w7 hR7 hB7 hG7 ha7; rw [List.nil_append] at hR7; obtain ⟨A7, c7, rfl⟩ := Kd.R_slice hR7; rw [HRL.out] at hR7 ⊢; have HR7 := Aside0.mk hR7; have HB7 := Aside0.mk (((below_alloc (below_da w6 (.cells #[] 54)) (.cells #[.bool false, .string x.f1, .slice A2 x.f2.length c2, .int .i64 x.f3] 54))).trans hB7); have s0 : w7.cell? ⟨wr.heap.size, 0, none⟩ = some (.bool false) := pw_cell_below HB7.out y0; have s1 : w7.cell? ⟨wr.heap.size, 1, none⟩ = some (.string x.f1) := pw_cell_below HB7.out y1; have s2 : w7.cell? ⟨wr.heap.size, 2, none⟩ = some (.slice A2 x.f2.length c2) := pw_cell_below HB7.out y2; have s3 : w7.cell? ⟨wr.heap.size, 3, none⟩ = some (.int .i64 x.f3) := pw_cell_below HB7.out y3; have HX7 := Aside0.mk (blk_grown (heap_alloc2_new w6.drew (.cells #[] 54) (.cells #[.bool false, .string x.f1, .slice A2 x.f2.length c2, .int .i64 x.f3] 54)) hG7 (by simp [Value.ownBlock])); have r0 : ∀ o : Obj, (w7.alloc o).cell? ⟨wr.heap.size, 0, none⟩ = some (.bool false) := fun o => pw_cell_below (below_alloc (Below.refl _ w7) o) s0; have r1 : ∀ o : Obj, (w7.alloc o).cell? ⟨wr.heap.size, 1, none⟩ = some (.string x.f1) := fun o => pw_cell_below (below_alloc (Below.refl _ w7) o) s1; have r2 : ∀ o : Obj, (w7.alloc o).cell? ⟨wr.heap.size, 2, none⟩ = some (.slice A2 x.f2.length c2) := fun o => pw_cell_below (below_alloc (Below.refl _ w7) o) s2; have r3 : ∀ o : Obj, (w7.alloc o).cell? ⟨wr.heap.size, 3, none⟩ = some (.int .i64 x.f3) := fun o => pw_cell_below (below_alloc (Below.refl _ w7) o) s3; clear hR7 hB7 hG7 ha7)
                                | (refine Kd.R_append_rows_step (Kd.raw k54.sz) (Rr := fun x cs => cs = x ∧ cs.length = k54.sz ∧ ∀ u ∈ cs, u.oneCell' = true) (w0 := (w6.drew.alloc (.cells #[.bool false, .string x.f1, .slice A2 x.f2.length c2, .int .i64 x.f3] 54)).alloc (.cells #[] 54)) (W := (w6.drew.alloc (.cells #[.bool false, .string x.f1, .slice A2 x.f2.length c2, .int .i64 x.f3] 54)).alloc (.cells #[] 54)) w6.heap.size (by rfl) (.tmp 138) (.tmp 139) 50 54 _ 56 rfl Try.underlying50 info54 rfl (by decide) (by decide) (.slice (some ⟨w6.heap.size + 1, 0, none⟩) 0 0) [] rows A m.length c (fun _ => True) (fun _ => False) rfl rfl (emptyR_at (W := (w6.drew.alloc (.cells #[.bool false, .string x.f1, .slice A2 x.f2.length c2, .int .i64 x.f3] 54)).alloc (.cells #[] 54)) (b := w6.heap.size + 1) (heap_alloc2_new w6.drew _ _) (Nat.le_succ _)) (Kd.C_below HCr.out (below_alloc (below_da w6 (.cells #[.bool false, .string x.f1, .slice A2 x.f2.length c2, .int .i64 x.f3] 54)) (.cells #[] 54))) (fun _ _ h => h) (fun _ h => h.elim) (fun _ _ => trivial) (Below.refl _ _) ((below_alloc (below_da w6 (.cells #[.bool false, .string x.f1, .slice A2 x.f2.length c2, .int .i64 x.f3] 54)) (.cells #[] 54))).size (by have := HML.out; show (0 + m.length) * 56 ≤ _; omega) ?_; intro v7 w7 hR7 hB7 hG7 ha7; rw [List.nil_append] at hR7; obtain ⟨A7, c7, rfl⟩ := Kd.R_slice hR7; rw [HRL.out] at hR7 ⊢; have HR7 := Aside0.mk hR7; have HB7 := Aside0.mk (((below_alloc (below_da w6 (.cells #[.bool false, .string x.f1, .slice A2 x.f2.length c2, .int .i64 x.f3] 54)) (.cells #[] 54))).trans hB7); have s0 : w7.cell? ⟨wr.heap.size, 0, none⟩ = some (.bool false) := pw_cell_below HB7.out y0; have s1 : w7.cell? ⟨wr.heap.size, 1, none⟩ = some (.string x.f1) := pw_cell_below HB7.out y1; have s2 : w7.cell? ⟨wr.heap.size, 2, none⟩ = some (.slice A2 x.f2.length c2) := pw_cell_below HB7.out y2; have s3 : w7.cell? ⟨wr.heap.size, 3, none⟩ = some (.int .i64 x.f3) := pw_cell_below HB7.out y3; have HX7 := Aside0.mk (blk_grown (heap_alloc2_old w6.drew (.cells #[.bool false, .string x.f1, .slice A2 x.f2.length c2, .int .i64 x.f3] 54) (.cells #[] 54)) hG7 (by simp [Value.ownBlock])); have r0 : ∀ o : Obj, (w7.alloc o).cell? ⟨wr.heap.size, 0, none⟩ = some (.bool false) := fun o => pw_cell_below (below_alloc (Below.refl _ w7) o) s0; have r1 : ∀ o : Obj, (w7.alloc o).cell? ⟨wr.heap.size, 1, none⟩ = some (.string x.f1) := fun o => pw_cell_below (below_alloc (Below.refl _ w7) o) s1; have r2 : ∀ o : Obj, (w7.alloc o).cell? ⟨wr.heap.size, 2, none⟩ = some (.slice A2 x.f2.length c2) := fun o => pw_cell_below (below_alloc (Below.refl _ w7) o) s2; have r3 : ∀ o : Obj, (w7.alloc o).cell? ⟨wr.heap.size, 3, none⟩ = some (.int .i64 x.f3) := fun o => pw_cell_below (below_alloc (Below.refl _ w7) o) s3; clear hR7 hB7 hG7 ha7)
                                | ((refine Kd.R_append_rows_step (Kd.raw k54.sz) (Rr := fun x cs => cs = x ∧ cs.length = k54.sz ∧ ∀ u ∈ cs, u.oneCell' = true) (w0 := w7.alloc (.cells #[.bool false, .string x.f1, .slice A2 x.f2.length c2, .int .i64 x.f3] 54)) (W := w7.alloc (.cells #[.bool false, .string x.f1, .slice A2 x.f2.length c2, .int .i64 x.f3] 54)) w6.heap.size (by rfl) (.tmp 140) (.tmp 142) 50 54 _ 56 rfl Try.underlying50 info54 rfl (by decide) (by decide) _ rows [[.bool false, .string x.f1, .slice A2 x.f2.length c2, .int .i64 x.f3]] _ 1 1 (fun _ => True) (fun _ => False) rfl rfl (Kd.R_alloc HR7.out _) (show (Kd.raw k54.sz).C _ _ 1 [[.bool false, .string x.f1, .slice A2 x.f2.length c2, .int .i64 x.f3]] from one_reads (heap_alloc_new w7 (.cells #[.bool false, .string x.f1, .slice A2 x.f2.length c2, .int .i64 x.f3] 54)) rfl (by simp [Value.oneCell'])) (fun _ _ h => h) (fun _ h => h.elim) (fun _ _ => trivial) (Below.refl _ _) ((show Below w6.heap.size w6 (w7.alloc (.cells #[.bool false, .string x.f1, .slice A2 x.f2.length c2, .int .i64 x.f3] 54)) from below_step HB7.out (below_alloc (Below.refl _ _) _))).size (by have := HML.out; have := HRL.out; omega) ?_); (intro v8 w8 hR8 hB8 hG8 ha8; obtain ⟨A8, c8, rfl⟩ := Kd.R_slice hR8; rw [HRP.out.1] at hR8 ⊢; have HR8 := Aside0.mk hR8; have HB8 := Aside0.mk (((show Below w6.heap.size w6 (w7.alloc (.cells #[.bool false, .string x.f1, .slice A2 x.f2.length c2, .int .i64 x.f3] 54)) from below_step HB7.out (below_alloc (Below.refl _ _) _))).trans hB8); have t0 : w8.cell? ⟨wr.heap.size, 0, none⟩ = some (.bool false) := pw_cell_below HB8.out y0; have t1 : w8.cell? ⟨wr.heap.size, 1, none⟩ = some (.string x.f1) := pw_cell_below HB8.out y1; have t2 : w8.cell? ⟨wr.heap.size, 2, none⟩ = some (.slice A2 x.f2.length c2) := pw_cell_below HB8.out y2; have t3 : w8.cell? ⟨wr.heap.size, 3, none⟩ = some (.int .i64 x.f3) := pw_cell_below HB8.out y3; clear hR8 hB8 hG8 ha8))
                                | ((refine Kd.R_append_rows_step (Kd.raw k54.sz) (Rr := fun x cs => cs = x ∧ cs.length = k54.sz ∧ ∀ u ∈ cs, u.oneCell' = true) (w0 := w7) (W := w7) w6.heap.size (by rfl) (.tmp 140) (.tmp 142) 50 54 _ 56 rfl Try.underlying50 info54 rfl (by decide) (by decide) _ rows [[.bool false, .string x.f1, .slice A2 x.f2.length c2, .int .i64 x.f3]] _ 1 1 (fun _ => True) (fun _ => False) rfl rfl HR7.out (show (Kd.raw k54.sz).C _ _ 1 [[.bool false, .string x.f1, .slice A2 x.f2.length c2, .int .i64 x.f3]] from one_reads HX7.out rfl (by simp [Value.oneCell'])) (fun _ _ h => h) (fun _ h => h.elim) (fun _ _ => trivial) (Below.refl _ _) (HB7.out).size (by have := HML.out; have := HRL.out; omega) ?_); (intro v8 w8 hR8 hB8 hG8 ha8; obtain ⟨A8, c8, rfl⟩ := Kd.R_slice hR8; rw [HRP.out.1] at hR8 ⊢; have HR8 := Aside0.mk hR8; have HB8 := Aside0.mk ((HB7.out).trans hB8); have t0 : w8.cell? ⟨wr.heap.size, 0, none⟩ = some (.bool false) := pw_cell_below HB8.out y0; have t1 : w8.cell? ⟨wr.heap.size, 1, none⟩ = some (.string x.f1) := pw_cell_below HB8.out y1; have t2 : w8.cell? ⟨wr.heap.size, 2, none⟩ = some (.slice A2 x.f2.length c2) := pw_cell_below HB8.out y2; have t3 : w8.cell? ⟨wr.heap.size, 3, none⟩ = some (.int .i64 x.f3) := pw_cell_below HB8.out y3; clear hR8 hB8 hG8 ha8)))
                              all_goals (
                                go_wp2
                                go_meet
                                case rel => exact ⟨m2, rows ++ [[.bool false, .string x.f1, .slice A2 x.f2.length c2, .int .i64 x.f3]], A8, c8, by rfl, ⟨HRP.out, by rw [HM2.out, ← HAD.out]; exact distinct_add HM.out.2.1 _, fun d hd => by
                                  rw [HM2.out] at hd
                                  rcases List.mem_append.1 hd with h | h
                                  · exact HM.out.2.2 d h
                                  · rw [List.mem_singleton.1 h]; exact H20.out⟩, ⟨by
                                  have h2 := HW6.out
                                  rw [show addT room (m.map toM) (modM x.f1 x.f2 x.f3) = m2.map toM from by rw [HM2.out]; exact HAD.out] at h2
                                  have h3 := Sat.drop (Sat.pull (l1 := [_, _]) h2)
                                  have h4 := Sat.drop h3.swap
                                  exact (h4.newRow HB8.out HR8.out h4.size).swap⟩⟩)
                            · have dz : (badI room m x == 0) = false := by
                                rw [← badI_code room m x HML.out.1]
                                cases he : addE room (m.map toM) (toM x) with
                                | none => exact absurd he hz
                                | some q =>
                                  have := addE_cases _ _ _ q he
                                  simp
                                  omega
                              have HZ := Aside0.mk (addT_same hz)
                              clear hz
                              go_wp2_with fail
                              go_meet
                              case rel => exact ⟨m, rows, A, c, by rfl, HM, ⟨by
                                have h := Sat.drop (Sat.pull (l1 := [_, _]) HW6.out)
                                rw [show addT room (m.map toM) (modM x.f1 x.f2 x.f3) = m.map toM from HZ.out] at h
                                exact h⟩⟩
              case rest =>
                as_aux_lemma =>
                  obtain ⟨m', rows', A', c', rfl, HM2, HS5⟩ := hcut
                  clear HM HW3 y0 y1 y2 y3 HML HREST
                  have HML2 := Aside0.mk (tab_len HS5.out)
                  go_wp2_with fail
                  have hq := Names_calls HS5.out
                  (with_reducible refine hq.mono ?_)
                  clear hq
                  rintro e6 w6 ⟨v6, rfl, hR6, hb6⟩
                  obtain ⟨A6, c6, rfl⟩ := Kd.R_slice hR6
                  have HS6 := Aside0.mk (HS5.out.newRow hb6 hR6 HS5.out.size).swap
                  obtain ⟨ns, hns⟩ : ∃ ns, ns = (m'.map toM).map (·.f0) := ⟨_, rfl⟩
                  rw [← hns] at HS6 ⊢
                  have hnl : ns.length = m'.length := by rw [hns, List.length_map, List.length_map]
                  rw [hnl] at HS6 ⊢
                  have HNS := Aside0.mk (And.intro hns hnl)
                  clear hR6 hb6 HS5 hns hnl
                  go_wp2_with fail
                  have hq := Room_calls HS6.out
                  (with_reducible refine hq.mono ?_)
                  clear hq
                  rintro e7 w7 ⟨rfl, hb7⟩
                  have HS7 := Aside0.mk (HS6.out.below hb7)
                  have hwr : IntKind.i64.wrap (room - (m'.length : Int)) = room - m'.length := (i64_w _).trans (show wrap64 (room - (m'.length : Int)) = room - m'.length by have := HML2.out; have := HR.out; unfold wrap64; omega)
                  rw [show ((m'.map toM).length : Int) = m'.length from by rw [List.length_map]]
                  clear hb7 HS6
                  go_wp2_with fail
                  have hq := Refs_calls HS7.out s
                  (with_reducible refine hq.mono ?_)
                  clear hq
                  rintro e8 w8 ⟨rfl, hb8⟩
                  have HS8 := Aside0.mk (HS7.out.below hb8)
                  obtain ⟨kr, hkr⟩ := refs_law m' s (by have := HML2.out; omega) (fun d hd => by have := HM2.out.2.2 d hd; omega)
                  have HKR := Aside0.mk hkr
                  have HCM := Aside0.mk (ref_reads (Sat.pull (l1 := [_, _]) HS8.out) HM2.out.1)
                  clear hb8 HS7 hkr hwr
                  go_wp2_with fail
                  have hq := Go.Proofs.Ytlgfdokdckaejaa.QTablePlays.dowellaw18_refs.calls kr A' c' m' s _ w8 HCM.out.1 HCM.out.2.1 HKR.out
                  (with_reducible refine hq.mono ?_)
                  clear hq
                  rintro e9 w9 ⟨rfl, hd9⟩
                  have HS9 := Aside0.mk (HS8.out.drawn hd9)
                  clear hd9 HS8 HKR HCM
                  go_wp2_with fail
                  go_loopg [19] (m'.length + 1) (fun kq v19 w' => ∃ j : Nat, v19 = .int .i64 j ∧ Aside0 (j ≤ m'.length ∧ m'.length - j < kq) ∧ Aside0 (Sat w w' [ATab w.heap.size g room (m'.map toM), ARow Kd.string 9 w.heap.size (.slice A6 m'.length c6) ns, ARow (Kd.raw k54.sz) 54 w.heap.size (.slice A' m'.length c') rows']))
                  case atStart => exact ⟨0, rfl, ⟨by omega⟩, HS9⟩
                  case round =>
                    clear HS9
                    obtain ⟨gk2, rfl⟩ : ∃ x, x = gk := ⟨gk, rfl⟩
                    obtain ⟨j, rfl, Hj, HS10⟩ := hrel
                    by_cases hjl : j < m'.length
                    · obtain ⟨AN, cN, eN, _, hCN⟩ := HS10.out.swap.rowReads
                      injection eN with eN1 eN0 eN2
                      subst eN1 eN2
                      clear eN0
                      obtain ⟨ad2, y, rfl, hy, hc⟩ := str_at hCN (by rw [HNS.out.2]; exact hjl)
                      obtain ⟨ad3, A9, c9, rfl, z0, z1, z2, z3, _, _⟩ := at_T54 (ref_reads (Sat.pull (l1 := [_, _]) HS10.out) HM2.out.1).1 (j : Int) (by omega) (by omega)
                      simp only [Int.toNat_natCast] at z0 z1 z2 z3
                      have hd := rd54_get hjl
                      generalize rd_T54 m' (j : Int) = d at *
                      obtain rfl : y = d.f1 := by
                        rw [HNS.out.1, List.getElem?_map, toM_get hd] at hy
                        injection hy with hy
                        exact hy.symm
                      have hat : atI (m'.map toM) d.f1 = j := at_distinct HM2.out.2.1 (toM_get hd)
                      have hrd : rd_T65 (m'.map toM) (j : Int) = toM d := rd_found (toM_get hd)
                      have r1 : (j < m'.length) = True := eq_true hjl
                      have r9 : (j : Int) ≤ 1000000 := by have := HML2.out; omega
                      have r8 : 0 ≤ (j : Int) := by omega
                      have HAT := Aside0.mk hat
                      have HRD := Aside0.mk hrd
                      clear hjl hy hCN hd hat hrd
                      go_wp2_with fail
                      have hq := Find_calls HS10.out d.f1
                      (with_reducible refine hq.mono ?_)
                      clear hq
                      rintro e11 w11 ⟨hb11, _, hf11⟩
                      obtain ⟨v8, v9, v10, v11, v12, rfl, hF11⟩ := hf11 (by rw [HAT.out]; omega)
                      rw [HAT.out, HRD.out] at hF11 ⊢
                      clear hf11
                      have HS11 := Aside0.mk (HS10.out.below hb11)
                      replace z0 := pw_cell_below hb11 z0
                      replace z1 := pw_cell_below hb11 z1
                      replace z2 := pw_cell_below hb11 z2
                      replace z3 := pw_cell_below hb11 z3
                      replace hc := pw_cell_below hb11 hc
                      obtain ⟨B8, d8, B9, d9, B10, d10, B11, d11, B12, d12, rfl, rfl, rfl, rfl, rfl⟩ := cells_slices hF11
                      clear hb11 hF11 HS10
                      as_aux_lemma =>
                        go_upto_region 46 with (refine wpList_store_row rfl 65 (.tmp 20) (.tmp 183) rfl w11.heap.size _ rfl rfl 65 zeroM (heap_alloc_new _ _) (by kernel_rfl) rfl (cells_one _ _ _ _ _ _ _ _ _ _ _ _ _ _ _ _) ?_)
                        refine wp_abs (fun W => W.heap[w11.heap.size]? = some (.cells (cellsM (toM d) (.slice B8 (toM d).f4.f4.length d8) (.slice B9 (toM d).f4.f5.length d9) (.slice B10 (toM d).f5.length d10) (.slice B11 (toM d).f6.length d11) (.slice B12 (toM d).f7.length d12)) 65 (0, 0)) ∧ Below w11.heap.size w11 W) ⟨setRow_heap _ _ _ _ _ _ (heap_alloc_new _ _), below_row (below_alloc (Below.refl _ _) _) (Nat.le_refl _) _⟩ (fun W2 hW2 => ?_)
                        have HS12 := Aside0.mk (HS11.out.below hW2.2)
                        replace z0 := pw_cell_below hW2.2 z0
                        replace z1 := pw_cell_below hW2.2 z1
                        replace z2 := pw_cell_below hW2.2 z2
                        replace z3 := pw_cell_below hW2.2 z3
                        replace hc := pw_cell_below hW2.2 hc
                        have t2 : W2.cell? ⟨w11.heap.size, 2, none⟩ = some (.int .i64 d.f3) := get_cell hW2.1 2
                        have t10 : W2.cell? ⟨w11.heap.size, 10, none⟩ = some (.slice B10 d.f2.length d10) := get_cell hW2.1 10
                        have hself : (d.f1.toList == d.f1.toList) = true := by simp
                        clear hW2 HS11
                        go_quiet (fail)
                        go_wp2_with fail
                        go_roundg (gk2 - 1)
                        case measure => have := Hj.out; have := of_eq_true r1; omega
                        case rel => exact ⟨j + 1, by go_num, ⟨by have := Hj.out; have := of_eq_true r1; omega⟩, ⟨HS12.out.drewN _⟩⟩
                    · as_aux_lemma =>
                        have d1 : (j < m'.length) = False := eq_false hjl
                        obtain ⟨ka, hka⟩ := at_law m' s (by have := HML2.out; omega)
                        have HKA := Aside0.mk hka
                        clear hjl hka
                        go_wp2_with fail
                        have hq := Find_calls HS10.out s
                        (with_reducible refine hq.mono ?_)
                        clear hq
                        rintro e11 w11 ⟨hb11, hf0, hf11⟩
                        have HS11 := Aside0.mk (HS10.out.below hb11)
                        clear hb11 HS10
                        by_cases ha : 0 ≤ atI (m'.map toM) s
                        · obtain ⟨v8, v9, v10, v11, v12, rfl, hF11⟩ := hf11 ha
                          obtain ⟨B8, d8, B9, d9, B10, d10, B11, d11, B12, d12, rfl, rfl, rfl, rfl, rfl⟩ := cells_slices hF11
                          have da : decide (0 ≤ atI (m'.map toM) s) = true := decide_eq_true ha
                          clear hf0 hf11 hF11 ha
                          go_upto_region 49 with (refine wpList_store_row rfl 65 (.tmp 22) (.tmp 225) rfl w11.heap.size _ rfl rfl 65 zeroM (heap_alloc_new _ _) (by kernel_rfl) rfl (cells_one _ _ _ _ _ _ _ _ _ _ _ _ _ _ _ _) ?_)
                          refine wp_abs (fun W => Below w11.heap.size w11 W) (below_row (below_alloc (Below.refl _ _) _) (Nat.le_refl _) _) (fun W2 hW2 => ?_)
                          have HS12 := Aside0.mk (HS11.out.below hW2)
                          have HCM := Aside0.mk (ref_reads (Sat.pull (l1 := [_, _]) HS12.out) HM2.out.1)
                          clear hW2 HS11
                          go_wp2_with fail
                          have hq := Go.Proofs.Ytlgfdokdckaejaa.QTablePlays.dowellaw18_at.calls ka A' c' m' s _ W2 HCM.out.1 HCM.out.2.1 HKA.out
                          (with_reducible refine hq.mono ?_)
                          clear hq
                          rintro e13 w13 ⟨rfl, hd13⟩
                          have HS13 := Aside0.mk (HS12.out.drawn hd13)
                          clear hd13 HS12 HCM HKA
                          go_wp2_with fail
                          go_roundg (gk1 - 1)
                          case measure => have := Hi.out; have := of_eq_true q1; omega
                          case rel => exact ⟨i + 1, m', rows', A', c', by rfl, by go_num, ⟨by have := Hi.out; have := of_eq_true q1; omega⟩, HM2, ⟨Sat.under HS13.out (fun h => by obtain ⟨D1, _, _, h3⟩ := h; exact Hold.mono (fun _ hk => hk.1) h3)⟩⟩
                        · obtain rfl := hf0 (by omega)
                          have da : decide (0 ≤ atI (m'.map toM) s) = false := decide_eq_false ha
                          clear hf0 hf11 ha
                          go_upto_region 49 with (refine wpList_store_row rfl 65 (.tmp 22) (.tmp 225) rfl w11.heap.size zeroM rfl rfl 65 zeroM (heap_alloc_new _ _) (by kernel_rfl) rfl zero_one ?_)
                          refine wp_abs (fun W => Below w11.heap.size w11 W) (below_row (below_alloc (Below.refl _ _) _) (Nat.le_refl _) _) (fun W2 hW2 => ?_)
                          have HS12 := Aside0.mk (HS11.out.below hW2)
                          have HCM := Aside0.mk (ref_reads (Sat.pull (l1 := [_, _]) HS12.out) HM2.out.1)
                          clear hW2 HS11
                          go_wp2_with fail
                          have hq := Go.Proofs.Ytlgfdokdckaejaa.QTablePlays.dowellaw18_at.calls ka A' c' m' s _ W2 HCM.out.1 HCM.out.2.1 HKA.out
                          (with_reducible refine hq.mono ?_)
                          clear hq
                          rintro e13 w13 ⟨rfl, hd13⟩
                          have HS13 := Aside0.mk (HS12.out.drawn hd13)
                          clear hd13 HS12 HCM HKA
                          go_wp2_with fail
                          go_roundg (gk1 - 1)
                          case measure => have := Hi.out; have := of_eq_true q1; omega
                          case rel => exact ⟨i + 1, m', rows', A', c', by rfl, by go_num, ⟨by have := Hi.out; have := of_eq_true q1; omega⟩, HM2, ⟨Sat.under HS13.out (fun h => by obtain ⟨D1, _, _, h3⟩ := h; exact Hold.mono (fun _ hk => hk.1) h3)⟩⟩
            · have q100 : (100 < (x.f1.size : Int)) = False := eq_false (by omega)
              have q20 : (20 < (x.f2.length : Int)) = True := eq_true (by omega)
              clear h100 h20
              go_wp2_with fail
              go_ret
              exact ⟨by rfl, (HS4.out.alloc _).toBelow⟩
          · have q100 : (100 < (x.f1.size : Int)) = True := eq_true (by omega)
            clear h100
            go_wp2_with fail
            go_ret
            exact ⟨by rfl, (HS4.out.alloc _).toBelow⟩
        · have d1 : (i < l.length) = False := eq_false hlt
          clear hlt
          go_wp2_with fail
          go_ret
          exact ⟨by rfl, HS4.out.toBelow⟩
end Go.Proofs.Ytlgfdokdckaejaa.MineTab
