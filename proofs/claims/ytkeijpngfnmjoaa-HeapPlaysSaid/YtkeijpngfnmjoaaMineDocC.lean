/- HeapPlays: the document's Give. Conditions: the words are the holes. -/
import Derived.Test.YtkeijpngfnmjoaaMineDocB
namespace Go.Proofs.Ytkeijpngfnmjoaa.MineHeap
open Go.RowKit Go.MapKept Go.Proofs.YtkeijpngfnmjoaaW.PrintWords Go.Proofs.YtkeijpngfnmjoaaW.PrintLast Go.Proofs.YtkeijpngfnmjoaaW.PrintMore Go.Proofs.Ytkeijpngfnmjoaa.MineBase Go.Proofs.Ytkeijpngfnmjoaa.MineSep Go.Proofs.Ytkeijpngfnmjoaa.MineRows Go.Proofs.Ytkeijpngfnmjoaa.MineGen Go.Proofs.Ytkeijpngfnmjoaa.QHeapPlays
attribute [local go_sem] Go.Proofs.Ytkeijpngfnmjoaa.MineErr.eql_err Go.Proofs.Ytkeijpngfnmjoaa.MineErr.neq_err Go.Proofs.Ytkeijpngfnmjoaa.MineErr.eql_nil_err Go.Proofs.Ytkeijpngfnmjoaa.MineErr.neq_nil_err
attribute [local go_sem ↓] Go.wp_at_zero Go.wp_at_succ
set_option linter.unusedVariables false
set_option linter.unusedSimpArgs false
set_option maxRecDepth 100000 in
set_option maxHeartbeats 2000000 in
theorem DGive_bad {w0 w : World} {l : List Asn} {lo hi : Int} {g : Nat} {F : List Bool} (HS : Sat w0 w (ADocH lo hi w0.heap.size g F :: l)) (hlo : 0 ≤ lo) (hlo2 : lo ≤ 65536) (hF : F.length ≤ 1024) (hlen : (F.length : Int) * 4 = hi - lo) (at_ n : Int) (h : ¬ giveOk lo hi at_ n) (h4 : lo % 4 = 0) :
    Calls Try.prog 26 #[.pointer (some ⟨g, 0, none⟩), .int .i64 at_, .int .i64 n] w fun e w' => e = .returned (.int .i64 1) ∧ Sat w0 w' (ADocH lo hi w0.heap.size g F :: l) := by
  obtain ⟨A, c, hg, hlc, hC⟩ := box_read HS
  have x0 : w.cell? ⟨g, 0, none⟩ = some (.int .i64 lo) := get_cell hg 0
  have x1 : w.cell? ⟨g, 1, none⟩ = some (.int .i64 hi) := get_cell hg 1
  have x2 : w.cell? ⟨g, 2, none⟩ = some (.slice A F.length c) := get_cell hg 2
  replace HS := Aside0.mk HS
  clear hg hlc hC
  by_cases h1 : at_ < lo
  · have d1 : (at_ < lo) = True := eq_true h1
    clear h h1 hlo hlo2 h4 hlen hF
    go_enter Try.func26, Try.ntmps26
    go_wp2_with fail
    go_ret
    exact ⟨by rfl, HS.out⟩
  have p0 : 0 ≤ at_ := by omega
  have d1 : (at_ < lo) = False := eq_false h1
  by_cases h2 : hi ≤ at_
  · have d2 : (hi ≤ at_) = True := eq_true h2
    clear h h1 h2 hlo hlo2 h4 hlen hF
    go_enter Try.func26, Try.ntmps26
    go_wp2_with fail
    go_ret
    exact ⟨by rfl, HS.out⟩
  have d2 : (hi ≤ at_) = False := eq_false h2
  have p1 : at_ ≤ 65536 + 4096 := by omega
  by_cases h3 : at_ % 4 = 0
  · have HF := Aside0.mk (show F.length ≤ 1024 ∧ (F.length : Int) * 4 = hi - lo ∧ 0 ≤ lo ∧ lo ≤ 65536 ∧ lo % 4 = 0 ∧ at_ % 4 = 0 ∧ lo ≤ at_ ∧ at_ < hi from ⟨hF, hlen, hlo, hlo2, h4, h3, by omega, by omega⟩)
    by_cases h5 : n < 1
    · have d5 : (n < 1) = True := eq_true h5
      clear h h1 h2 hlo hlo2 h4 hlen h5 hF
      go_enter Try.func26, Try.ntmps26
      go_wp2_with fail
      go_ret
      exact ⟨by rfl, HS.out⟩
    have d5 : (n < 1) = False := eq_false h5
    by_cases h6 : 65536 < n
    · have d6 : (65536 < n) = True := eq_true h6
      clear h h1 h2 hlo hlo2 h4 hlen h5 h6 hF
      go_enter Try.func26, Try.ntmps26
      go_wp2_with fail
      go_ret
      exact ⟨by rfl, HS.out⟩
    have d6 : (65536 < n) = False := eq_false h6
    have p6 : 1 ≤ n := by omega
    have p7 : n ≤ 65536 := by omega
    have p8 : lo ≤ at_ := by omega
    have d7 : ((F.length : Int) < (at_ - lo) / 4 + (n + 3) / 4) = True := eq_true (by
      unfold giveOk sizeOk wh at h
      omega)
    clear h h1 h2 h4 hlen h5 h6
    go_enter Try.func26, Try.ntmps26
    go_wp2_with fail
    go_ret
    exact ⟨by rfl, HS.out⟩
  · have d3 : (at_ % 4 = 0) = False := eq_false h3
    clear h h1 h2 h3 hlo hlo2 h4 hlen hF
    go_enter Try.func26, Try.ntmps26
    go_wp2_with fail
    go_ret
    exact ⟨by rfl, HS.out⟩
set_option maxRecDepth 100000 in
set_option maxHeartbeats 2000000 in
theorem DGive_clash {w0 w : World} {l : List Asn} {lo hi : Int} {g : Nat} {F : List Bool} (HS : Sat w0 w (ADocH lo hi w0.heap.size g F :: l)) (hlo : 0 ≤ lo) (hlo2 : lo ≤ 65536) (hF : F.length ≤ 1024) (hlen : (F.length : Int) * 4 = hi - lo) (at_ n : Int) (h : giveOk lo hi at_ n) (h4 : lo % 4 = 0) (f m : Nat) (hf : (at_ - lo) / 4 = f) (hm : (n + 3) / 4 = m) (jc : Nat) (hjc : jc < m) (hc : F[f + jc]? = some true) :
    Calls Try.prog 26 #[.pointer (some ⟨g, 0, none⟩), .int .i64 at_, .int .i64 n] w fun e w' => e = .returned (.int .i64 1) ∧ Sat w0 w' (ADocH lo hi w0.heap.size g (F) :: l) := by
  have HC := Aside0.mk (And.intro hjc hc)
  clear hjc hc
  obtain ⟨A, c, hg, hlc, hC⟩ := box_read HS
  have x0 : w.cell? ⟨g, 0, none⟩ = some (.int .i64 lo) := get_cell hg 0
  have x1 : w.cell? ⟨g, 1, none⟩ = some (.int .i64 hi) := get_cell hg 1
  have x2 : w.cell? ⟨g, 2, none⟩ = some (.slice A F.length c) := get_cell hg 2
  replace HS := Aside0.mk HS
  clear hg hlc hC
  obtain ⟨⟨h1, h2, ⟨h3, h3'⟩, h5⟩, hw⟩ := And.intro h (wh_spec h.2.2.1.1)
  have hwm : wh n = 4 * m := by unfold wh; omega
  have HF := Aside0.mk (show F.length ≤ 1024 ∧ f + m ≤ F.length ∧ 0 < m from ⟨hF, by omega, by omega⟩)
  have d1 : (at_ < lo) = False := eq_false (by omega)
  have d2 : (hi ≤ at_) = False := eq_false (by omega)
  have p0 : 0 ≤ at_ := by omega
  have p1 : at_ ≤ 65536 + 4096 := by omega
  have p2 : at_ % 4 = 0 := h2
  have p6 : 1 ≤ n := h3
  have p7 : n ≤ 65536 := h3'
  have p8 : lo ≤ at_ := h1
  have d7 : ((F.length : Int) < (f : Int) + m) = False := eq_false (by have := HF.out; omega)
  have q0 : (f : Int) ≤ 1024 := by have := HF.out; omega
  have q1 : (m : Int) ≤ 1024 := by have := HF.out; omega
  have q2 : 0 ≤ (f : Int) := by omega
  have q3 : 0 ≤ (m : Int) := by omega
  clear h h1 h2 h3 h3' h5 hw h4 hlen hwm
  go_enter Try.func26, Try.ntmps26
  go_wp2_with fail
  rw [hf, hm]
  clear p0 p1 p2 p6 p7 p8 d1 d2 d7 hf hm
  go_loopg [9] (m + 1) (fun kq v9 w' => ∃ j : Nat, v9 = .int .i64 ((f : Int) + j) ∧ Aside0 (j ≤ jc ∧ m - j < kq) ∧ Aside0 (Sat w0 w' (ADocH lo hi w0.heap.size g F :: l)))
  case atStart => exact ⟨0, by simp, ⟨by omega⟩, HS⟩
  case round =>
    clear HS
    obtain ⟨gk2, rfl⟩ : ∃ x, x = gk := ⟨gk, rfl⟩
    obtain ⟨j, rfl, Hj, HW⟩ := hrel
    clear x0 x1 x2
    have y2 : (f : Int) + j ≤ 1024 := by have := HF.out; have := Hj.out; have := HC.out.1; omega
    have y3 : 0 ≤ (f : Int) + j := by omega
    have y4 : ((f : Int) + j).toNat = f + j := by omega
    have hjm : j < m := by have := Hj.out; have := HC.out.1; omega
    by_cases hjc : j = jc
    · subst hjc
      have hsl : f + j < F.length := by have := HF.out; omega
      have hb := HC.out.2
      obtain ⟨g4, c4, hg4, hlc4, hgg, z1, f1, hset⟩ := doc_bool HW.out hb
      have z0 : wr.cell? ⟨g, 2, none⟩ = some (.slice (some ⟨g4, 0, none⟩) F.length c4) := get_cell hg4 2
      have y1 : ((f : Int) + j < (f : Int) + m) = True := eq_true (by omega)
      have y5 : (f : Int) + j < (F.length : Int) := by omega
      have y6 : f + j < F.length := hsl
      have HJM := Aside0.mk hjm
      clear hg4 hlc4 hgg hset hjm hsl hb
      go_wp2_with fail
      go_ret
      exact ⟨by rfl, HW.out⟩
    · have HJC := Aside0.mk hjc
      clear hjc
      have hsl : f + j < F.length := by have := HF.out; omega
      obtain ⟨b, hb⟩ : ∃ b, F[f + j]? = some b := ⟨_, List.getElem?_eq_getElem hsl⟩
      obtain ⟨g4, c4, hg4, hlc4, hgg, z1, f1, hset⟩ := doc_bool HW.out hb
      have z0 : wr.cell? ⟨g, 2, none⟩ = some (.slice (some ⟨g4, 0, none⟩) F.length c4) := get_cell hg4 2
      have y1 : ((f : Int) + j < (f : Int) + m) = True := eq_true (by omega)
      have y5 : (f : Int) + j < (F.length : Int) := by omega
      have y6 : f + j < F.length := hsl
      have HJM := Aside0.mk hjm
      clear hg4 hlc4 hgg hset hjm hsl hb
      cases b with
      | true =>
        go_wp2_with fail
        go_ret
        exact ⟨by rfl, HW.out⟩
      | false =>
        go_wp2_with fail
        go_roundg (gk2 - 1)
        case measure => have := Hj.out; have := HJM.out; omega
        case rel => exact ⟨j + 1, by go_num, ⟨by have := Hj.out; have := HJM.out; have := HJC.out; omega⟩, HW⟩
set_option maxRecDepth 100000 in
set_option maxHeartbeats 2000000 in
theorem DGive_ok {w0 w : World} {l : List Asn} {lo hi : Int} {g : Nat} {F : List Bool} (HS : Sat w0 w (ADocH lo hi w0.heap.size g F :: l)) (hlo : 0 ≤ lo) (hlo2 : lo ≤ 65536) (hF : F.length ≤ 1024) (hlen : (F.length : Int) * 4 = hi - lo) (at_ n : Int) (h : giveOk lo hi at_ n) (h4 : lo % 4 = 0) (f m : Nat) (hf : (at_ - lo) / 4 = f) (hm : (n + 3) / 4 = m) (hall : ∀ j, f ≤ j → j < f + m → F[j]? = some false) :
    Calls Try.prog 26 #[.pointer (some ⟨g, 0, none⟩), .int .i64 at_, .int .i64 n] w fun e w' => e = .returned (.int .i64 0) ∧ Sat w0 w' (ADocH lo hi w0.heap.size g (setR F f true m) :: l) := by
  have HA := Aside0.mk hall
  clear hall
  obtain ⟨A, c, hg, hlc, hC⟩ := box_read HS
  have x0 : w.cell? ⟨g, 0, none⟩ = some (.int .i64 lo) := get_cell hg 0
  have x1 : w.cell? ⟨g, 1, none⟩ = some (.int .i64 hi) := get_cell hg 1
  have x2 : w.cell? ⟨g, 2, none⟩ = some (.slice A F.length c) := get_cell hg 2
  replace HS := Aside0.mk HS
  clear hg hlc hC
  obtain ⟨⟨h1, h2, ⟨h3, h3'⟩, h5⟩, hw⟩ := And.intro h (wh_spec h.2.2.1.1)
  have hwm : wh n = 4 * m := by unfold wh; omega
  have HF := Aside0.mk (show F.length ≤ 1024 ∧ f + m ≤ F.length ∧ 0 < m from ⟨hF, by omega, by omega⟩)
  have d1 : (at_ < lo) = False := eq_false (by omega)
  have d2 : (hi ≤ at_) = False := eq_false (by omega)
  have p0 : 0 ≤ at_ := by omega
  have p1 : at_ ≤ 65536 + 4096 := by omega
  have p2 : at_ % 4 = 0 := h2
  have p6 : 1 ≤ n := h3
  have p7 : n ≤ 65536 := h3'
  have p8 : lo ≤ at_ := h1
  have d7 : ((F.length : Int) < (f : Int) + m) = False := eq_false (by have := HF.out; omega)
  have q0 : (f : Int) ≤ 1024 := by have := HF.out; omega
  have q1 : (m : Int) ≤ 1024 := by have := HF.out; omega
  have q2 : 0 ≤ (f : Int) := by omega
  have q3 : 0 ≤ (m : Int) := by omega
  clear h h1 h2 h3 h3' h5 hw h4 hlen hwm
  go_enter Try.func26, Try.ntmps26
  go_wp2_with fail
  rw [hf, hm]
  clear p0 p1 p2 p6 p7 p8 d1 d2 d7 hf hm
  go_loopg [9] (m + 1) (fun kq v9 w' => ∃ j : Nat, v9 = .int .i64 ((f : Int) + j) ∧ Aside0 (j ≤ m ∧ m - j < kq) ∧ Aside0 (Sat w0 w' (ADocH lo hi w0.heap.size g F :: l)))
  case atStart => exact ⟨0, by simp, ⟨by omega⟩, HS⟩
  case round =>
    clear HS
    obtain ⟨gk2, rfl⟩ : ∃ x, x = gk := ⟨gk, rfl⟩
    obtain ⟨j, rfl, Hj, HW⟩ := hrel
    clear x0 x1 x2
    have y2 : (f : Int) + j ≤ 1024 := by have := HF.out; have := Hj.out; skip; omega
    have y3 : 0 ≤ (f : Int) + j := by omega
    have y4 : ((f : Int) + j).toNat = f + j := by omega
    by_cases hjm : j < m
    · skip
      have hsl : f + j < F.length := by have := HF.out; omega
      have hb := HA.out (f + j) (by omega) (by omega)
      obtain ⟨g4, c4, hg4, hlc4, hgg, z1, f1, hset⟩ := doc_bool HW.out hb
      have z0 : wr.cell? ⟨g, 2, none⟩ = some (.slice (some ⟨g4, 0, none⟩) F.length c4) := get_cell hg4 2
      have y1 : ((f : Int) + j < (f : Int) + m) = True := eq_true (by omega)
      have y5 : (f : Int) + j < (F.length : Int) := by omega
      have y6 : f + j < F.length := hsl
      have HJM := Aside0.mk hjm
      clear hg4 hlc4 hgg hset hjm hsl hb
      go_wp2_with fail
      go_roundg (gk2 - 1)
      case measure => have := Hj.out; have := HJM.out; omega
      case rel => exact ⟨j + 1, by go_num, ⟨by have := Hj.out; have := HJM.out; omega⟩, HW⟩
    · have y1 : ((f : Int) + j < (f : Int) + m) = False := eq_false (by omega)
      clear hjm
      go_wp2_with fail
      go_loopg [10] (m + 1) (fun kq v10 w' => ∃ i : Nat, v10 = .int .i64 ((f : Int) + i) ∧ Aside0 (i ≤ m ∧ m - i < kq) ∧ Aside0 (Sat w0 w' (ADocH lo hi w0.heap.size g (setR F f true i) :: l)))
      case atStart => exact ⟨0, by simp, ⟨by omega⟩, HW⟩
      case round =>
        clear y2 y3 y4 y1
        obtain ⟨gk3, rfl⟩ : ∃ x, x = gk := ⟨gk, rfl⟩
        obtain ⟨i, rfl, Hi, HW2⟩ := hrel
        have y2 : (f : Int) + i ≤ 1024 := by have := HF.out; have := Hi.out; omega
        have y3 : 0 ≤ (f : Int) + i := by omega
        have y4 : ((f : Int) + i).toNat = f + i := by omega
        by_cases him : i < m
        · have hsl : f + i < (setR F f true i).length := by rw [setR_len]; have := HF.out; omega
          obtain ⟨b, hb⟩ : ∃ b, (setR F f true i)[f + i]? = some b := ⟨_, List.getElem?_eq_getElem hsl⟩
          obtain ⟨g4, c4, hg4, hlc4, hgg, z1, f1, hset⟩ := doc_bool HW2.out hb
          have z0 : wr.cell? ⟨g, 2, none⟩ = some (.slice (some ⟨g4, 0, none⟩) F.length c4) := by rw [← setR_len F f true i]; exact get_cell hg4 2
          have HS3 := Aside0.mk (hset true)
          have y1 : ((f : Int) + i < (f : Int) + m) = True := eq_true (by omega)
          have y5 : (f : Int) + i < (F.length : Int) := by have := HF.out; omega
          have y6 : f + i < F.length := by have := HF.out; omega
          have HIM := Aside0.mk him
          clear hg4 hlc4 hgg hset him hsl hb
          go_wp2_with fail
          go_roundg (gk3 - 1)
          case measure => have := Hi.out; have := HIM.out; omega
          case rel => exact ⟨i + 1, by go_num, ⟨by have := Hi.out; have := HIM.out; omega⟩, HS3⟩
        · have him2 : i = m := by have := Hi.out; omega
          have y1 : ((f : Int) + i < (f : Int) + m) = False := eq_false (by omega)
          have HE := Aside0.mk him2
          clear him him2
          go_wp2_with fail
          go_ret
          exact ⟨by rfl, by rw [← HE.out]; exact HW2.out⟩
end Go.Proofs.Ytkeijpngfnmjoaa.MineHeap
