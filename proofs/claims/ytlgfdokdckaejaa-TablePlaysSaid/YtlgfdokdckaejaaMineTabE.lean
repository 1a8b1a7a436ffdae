/- Tables of modules: all names, and how many refer to one. Conditions: the lengths are small. -/
import Derived.Test.YtlgfdokdckaejaaMineTabD
namespace Go.Proofs.Ytlgfdokdckaejaa.MineTab
open Go.RowKit Go.MapKept Go.Proofs.YtlgfdokdckaejaaW.PrintWords Go.Proofs.YtlgfdokdckaejaaW.PrintLast Go.Proofs.YtlgfdokdckaejaaW.PrintMore Go.Proofs.Ytlgfdokdckaejaa.MineBase Go.Proofs.Ytlgfdokdckaejaa.MineSep Go.Proofs.Ytlgfdokdckaejaa.MineRows Go.Proofs.Ytlgfdokdckaejaa.QTableKeeps
set_option linter.unusedVariables false
set_option linter.unusedSimpArgs false
theorem mod_at {w : World} {A : Option Addr} {xs : List S65} (h : Kd.C k65 w A xs.length xs) {i : Nat} (hi : i < xs.length) : xs[i]? = some (rd_T65 xs (i : Int)) := by
  unfold rd_T65
  rw [Int.toNat_natCast, List.getD_eq_getElem?_getD, List.getElem?_eq_getElem hi]; rfl
set_option maxHeartbeats 1000000 in
set_option maxRecDepth 100000 in
theorem Names_calls {w0 w : World} {l : List Asn} {g : Nat} {most : Int} {ms : List S65} (HS : Sat w0 w (ATab w0.heap.size g most ms :: l)) :
    Calls Try.prog 23 #[.pointer (some ⟨g, 0, none⟩)] w fun e w' => ∃ v, e = .returned v ∧ Kd.R Kd.string 9 w' w.heap.size (fun _ => True) v (ms.map (·.f0)) ∧ Below w.heap.size w w' := by
  obtain ⟨A, c, hg, hC, _, hm, _⟩ := tab_open HS
  have h1 : w.cell? ⟨g, 1, none⟩ = some (.slice A ms.length c) := get_cell hg 1
  have HC := Aside0.mk hC
  have HL := Aside0.mk (show ms.length ≤ 16 by omega)
  clear HS hg hm hC
  go_enter Try.func23, Try.ntmps23
  go_wp2
  clear h1
  go_loopg [3, 11] (ms.length + 1) (fun kq v3 v11 w' => ∃ i : Nat, v11 = .int .i64 i ∧ Aside0 (i ≤ ms.length ∧ ms.length - i < kq) ∧ Aside0 (Kd.R Kd.string 9 w' w.heap.size (fun _ => True) v3 ((ms.take i).map (·.f0))) ∧ Aside0 (Below w.heap.size w w'))
  case atStart => exact ⟨0, rfl, ⟨by omega⟩, ⟨Kd.R_nil _ _ _ _ _⟩, ⟨Below.refl _ _⟩⟩
  case round =>
    obtain ⟨i, rfl, Hi, HR, HB⟩ := hrel
    by_cases hlt : i < ms.length
    · obtain ⟨ad, A8, c8, A9, c9, A10, c10, A11, c11, A12, c12, rfl, x0, x1, x2, x3, x4, x5, x6, x7, x8, x9, x10, x11, x12, _⟩ := at_T65 HC.out (i : Int) (by omega) (by omega)
      replace x0 := pw_cell_below HB.out x0
      replace x1 := pw_cell_below HB.out x1
      replace x2 := pw_cell_below HB.out x2
      replace x3 := pw_cell_below HB.out x3
      replace x4 := pw_cell_below HB.out x4
      replace x5 := pw_cell_below HB.out x5
      replace x6 := pw_cell_below HB.out x6
      replace x7 := pw_cell_below HB.out x7
      replace x8 := pw_cell_below HB.out x8
      replace x9 := pw_cell_below HB.out x9
      replace x10 := pw_cell_below HB.out x10
      replace x11 := pw_cell_below HB.out x11
      replace x12 := pw_cell_below HB.out x12
      have HG := Aside0.mk (mod_at HC.out hlt)
      have p1 : (i < ms.length) = True := eq_true hlt
      have p9 : (i : Int) ≤ 1000 := by have := HL.out; omega
      have p8 : 0 ≤ (i : Int) := by omega
      simp only [Int.toNat_natCast] at x0 x1 x2 x3 x4 x5 x6 x7 x8 x9 x10 x11 x12
      clear hlt
      have HT := Aside0.mk (show (ms.take (i + 1)).map (·.f0) = (ms.take i).map (·.f0) ++ [(rd_T65 ms (i : Int)).f0] by
        have h2 := HG.out
        obtain ⟨hlt, he⟩ := List.getElem?_eq_some_iff.1 h2
        rw [List.take_succ_eq_append_getElem hlt, he, List.map_append]; rfl)
      go_wp2_with (at_builtin; refine Kd.R_append Kd.string (w0 := w) w.heap.size rfl (.tmp 15) (.tmp 18) 45 9 (.string ⟨#[]⟩) 16 rfl Try.underlying45 infoS rfl (by decide) (by decide) u3 ((ms.take i).map (·.f0)) (rd_T65 ms (i : Int)).f0 [.string (rd_T65 ms (i : Int)).f0] (fun _ => True) (fun _ => False) rfl (by simp [Act.eval]) ?aP (fun _ hk => hk.elim) (fun _ _ => trivial) ?aO ?aB ?aS ?aL ?_; (case aP => exact rfl); (case aO => exact Kd.R_alloc HR.out _); (case aB => exact below_alloc HB.out _); (case aS => exact (below_alloc HB.out _).size); (case aL => (have := HL.out; have := Hi.out; simp only [List.length_map, List.length_take]; omega)); intro v19 w19 hR19 hB19 _ _; rw [← HT.out] at hR19; have HR19 := Aside0.mk hR19; have HB19 := Aside0.mk hB19; clear hR19 hB19)
      go_roundg (gk - 1)
      case measure => have := Hi.out; have := of_eq_true p1; omega
      case rel => exact ⟨i + 1, by go_num, ⟨by have := Hi.out; have := of_eq_true p1; omega⟩, HR19, HB19⟩
    · have d1 : (i < ms.length) = False := eq_false hlt
      have HE := Aside0.mk (show ms.take i = ms by rw [show i = ms.length by have := Hi.out; omega, List.take_length])
      clear hlt
      go_wp2
      go_ret
      exact ⟨_, rfl, by have h := HR.out; rw [HE.out] at h; exact h, HB.out⟩
/-- How many refer to one. -/
def refsI : List S65 → ByteArray → Int
  | [], _ => 0
  | m :: ms, s => (if inL s m.f5 then 1 else 0) + refsI ms s
theorem refsI_range (s : ByteArray) : ∀ ms : List S65, 0 ≤ refsI ms s ∧ refsI ms s ≤ ms.length
  | [] => by simp [refsI]
  | m :: ms => by
    have := refsI_range s ms
    simp only [refsI, List.length_cons]
    split <;> omega
theorem refsI_append (s : ByteArray) (m : S65) : ∀ ms : List S65, refsI (ms ++ [m]) s = refsI ms s + if inL s m.f5 then 1 else 0
  | [] => by simp [refsI]
  | x :: ms => by
    have := refsI_append s m ms
    simp only [List.cons_append, refsI, this]
    omega
set_option maxHeartbeats 1000000 in
set_option maxRecDepth 100000 in
theorem Refs_calls {w0 w : World} {l : List Asn} {g : Nat} {most : Int} {ms : List S65} (HS : Sat w0 w (ATab w0.heap.size g most ms :: l)) (s : ByteArray) :
    Calls Try.prog 25 #[.pointer (some ⟨g, 0, none⟩), .string s] w fun e w' => e = .returned (.int .i64 (refsI ms s)) ∧ Below w.heap.size w w' := by
  obtain ⟨A, c, hg, hC, _, hm, hsm, _⟩ := tab_open HS
  have h1 : w.cell? ⟨g, 1, none⟩ = some (.slice A ms.length c) := get_cell hg 1
  have HC := Aside0.mk hC
  have HL := Aside0.mk (show ms.length ≤ 16 by omega)
  have HSM := Aside0.mk hsm
  clear HS hg hm hC hsm
  go_enter Try.func25, Try.ntmps25
  go_wp2
  clear h1
  go_loopg [5, 13] (ms.length + 1) (fun kq v5 v13 w' => ∃ i : Nat, v13 = .int .i64 i ∧ v5 = .int .i64 (refsI (ms.take i) s) ∧ Aside0 (i ≤ ms.length ∧ ms.length - i < kq) ∧ Aside0 (Below w.heap.size w w'))
  case atStart => exact ⟨0, rfl, rfl, ⟨by omega⟩, ⟨Below.refl _ _⟩⟩
  case round =>
    obtain ⟨i, rfl, rfl, Hi, HB⟩ := hrel
    by_cases hlt : i < ms.length
    · obtain ⟨ad, A8, c8, A9, c9, A10, c10, A11, c11, A12, c12, rfl, x0, x1, x2, x3, x4, x5, x6, x7, x8, x9, x10, x11, x12, _, _, _, _, _, h10, _⟩ := at_T65 HC.out (i : Int) (by omega) (by omega)
      replace x0 := pw_cell_below HB.out x0
      replace x1 := pw_cell_below HB.out x1
      replace x2 := pw_cell_below HB.out x2
      replace x3 := pw_cell_below HB.out x3
      replace x4 := pw_cell_below HB.out x4
      replace x5 := pw_cell_below HB.out x5
      replace x6 := pw_cell_below HB.out x6
      replace x7 := pw_cell_below HB.out x7
      replace x8 := pw_cell_below HB.out x8
      replace x9 := pw_cell_below HB.out x9
      replace x10 := pw_cell_below HB.out x10
      replace x11 := pw_cell_below HB.out x11
      replace x12 := pw_cell_below HB.out x12
      have hmod := mod_at HC.out hlt
      have HM5 := Aside0.mk (show (rd_T65 ms (i : Int)).f5.length ≤ 1000000 from (HSM.out _ (List.mem_of_getElem? hmod)).2.2.1)
      have HT := Aside0.mk (show refsI (ms.take (i + 1)) s = refsI (ms.take i) s + if inL s (rd_T65 ms (i : Int)).f5 then 1 else 0 by
        obtain ⟨hlt, he⟩ := List.getElem?_eq_some_iff.1 hmod
        rw [List.take_succ_eq_append_getElem hlt, he, refsI_append])
      have hr1 := refsI_range s (ms.take i)
      have hr2 : (ms.take i).length ≤ 16 := by rw [List.length_take]; have := HL.out; omega
      have r1 : 0 ≤ refsI (ms.take i) s := hr1.1
      have r2 : refsI (ms.take i) s ≤ 16 := by omega
      have H10 := Aside0.mk h10
      have p1 : (i < ms.length) = True := eq_true hlt
      have p9 : (i : Int) ≤ 1000 := by have := HL.out; omega
      have p8 : 0 ≤ (i : Int) := by omega
      simp only [Int.toNat_natCast] at x0 x1 x2 x3 x4 x5 x6 x7 x8 x9 x10 x11 x12
      clear hlt hmod hr1 hr2 h10
      go_wp2_with fail
      refine (Contains_calls A10 c10 _ s _ (Kd.C_below H10.out (below_alloc HB.out _)) HM5.out).mono ?_
      cases hq : inL s (rd_T65 ms (i : Int)).f5 with
      | true =>
        rw [hq] at HT
        rintro e2 w2 ⟨rfl, rfl⟩
        go_wp2
        go_roundg (gk - 1)
        case measure => have := Hi.out; have := of_eq_true p1; omega
        case rel => exact ⟨i + 1, by go_num, by rw [HT.out]; rfl, ⟨by have := Hi.out; have := of_eq_true p1; omega⟩, ⟨below_alloc HB.out _⟩⟩
      | false =>
        rw [hq] at HT
        rintro e2 w2 ⟨rfl, rfl⟩
        go_wp2
        go_roundg (gk - 1)
        case measure => have := Hi.out; have := of_eq_true p1; omega
        case rel => exact ⟨i + 1, by go_num, by rw [HT.out]; simp, ⟨by have := Hi.out; have := of_eq_true p1; omega⟩, ⟨below_alloc HB.out _⟩⟩
    · have d1 : (i < ms.length) = False := eq_false hlt
      have HE := Aside0.mk (show ms.take i = ms by rw [show i = ms.length by have := Hi.out; omega, List.take_length])
      clear hlt
      go_wp2
      go_ret
      exact ⟨ret_eq (by rw [HE.out]; rfl), HB.out⟩
end Go.Proofs.Ytlgfdokdckaejaa.MineTab
