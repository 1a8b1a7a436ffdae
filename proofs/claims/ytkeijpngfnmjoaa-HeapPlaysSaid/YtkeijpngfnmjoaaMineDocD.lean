/- HeapPlays: the document's Holes. Conditions: the words are the holes. -/
import Derived.Test.YtkeijpngfnmjoaaMineDocC
import Derived.Test.YtkeijpngfnmjoaaMineHeapBack
namespace Go.Proofs.Ytkeijpngfnmjoaa.MineHeap
open Go.RowKit Go.MapKept Go.Proofs.YtkeijpngfnmjoaaW.PrintWords Go.Proofs.YtkeijpngfnmjoaaW.PrintLast Go.Proofs.YtkeijpngfnmjoaaW.PrintMore Go.Proofs.Ytkeijpngfnmjoaa.MineBase Go.Proofs.Ytkeijpngfnmjoaa.MineSep Go.Proofs.Ytkeijpngfnmjoaa.MineRows Go.Proofs.Ytkeijpngfnmjoaa.MineGen Go.Proofs.Ytkeijpngfnmjoaa.QHeapPlays
attribute [local go_sem] Go.Proofs.Ytkeijpngfnmjoaa.MineErr.eql_err Go.Proofs.Ytkeijpngfnmjoaa.MineErr.neq_err Go.Proofs.Ytkeijpngfnmjoaa.MineErr.eql_nil_err Go.Proofs.Ytkeijpngfnmjoaa.MineErr.neq_nil_err
attribute [local go_sem ↓] Go.wp_at_zero Go.wp_at_succ
set_option linter.unusedVariables false
set_option linter.unusedSimpArgs false
theorem info129 : (Try.prog.info? 129).map (fun i => (i.zero, i.size, i.bytes)) = some (some (.agg #[.int .i64 0, .int .i64 0]), 2, 16) := by kernel_rfl
theorem k2_M (W : World) (base : Nat) (ok : Nat → Prop) (x : Int × Int) : k2.M W base ok x [.int .i64 x.1, .int .i64 x.2] := ⟨[.int .i64 x.1], [.int .i64 x.2], rfl, rfl, rfl⟩
theorem row_k2 {w0 W : World} {n c k e : Nat} {A : Option Addr} {xs : List (Int × Int)} {p : Int × Int} {l : List Asn} (h : Sat w0 W (ARow k2 e w0.heap.size (.slice A n c) xs :: l)) (hk : xs[k]? = some p) :
    ∃ g3, A = some ⟨g3, 0, none⟩ ∧ W.cell? ⟨g3, k * 2 + 1, none⟩ = some (.int .i64 p.2) ∧ W.frozen? ⟨g3, k * 2 + 1, none⟩ = false ∧
      ∀ y, Sat w0 (W.setCell ⟨g3, k * 2 + 1, none⟩ (.int .i64 y)) (ARow k2 e w0.heap.size (.slice A n c) (xs.set k (p.1, y)) :: l) := by
  have hkl : k < xs.length := (List.getElem?_eq_some_iff.1 hk).1
  have hS0 := h.toBelow
  have hSz := h.size
  obtain ⟨D, hR, hD, _, hcl⟩ := h.open_
  obtain ⟨g3, cap, e1, hb, hlt, cells, hg⟩ := Kd.R_form hR (by omega)
  injection e1 with e1 e3 e2
  subst e1 e2
  have e3 : n = xs.length := by
    first | exact e3 | exact Int.ofNat.inj e3
  subst e3
  obtain ⟨_, _, hC⟩ := Kd.R_reads' hR
  obtain ⟨ad, e, x0, x1⟩ := k2_at hC hk
  injection e with e
  subst e
  rw [add_plain] at x0 x1
  have hDg : D g3 := hR.1 g3 rfl
  refine ⟨g3, rfl, x1, get_frozen hg _, fun y => ?_⟩
  have hs := Kd.R_seg (d := k2) hR (k : Int) (by omega) (by omega) (c := [.int .i64 p.1, .int .i64 p.2]) (seg := [.int .i64 y]) (j := 1) (x' := (p.1, y)) (okp := fun _ => False) rfl (by
      rw [Int.toNat_natCast]
      intro i u hi
      rcases i with _ | _ | i
      · simp only [List.getElem?_cons_zero, Option.some.injEq] at hi
        subst hi; exact x0
      · simp only [Nat.zero_add, List.getElem?_cons_succ, List.getElem?_cons_zero, Option.some.injEq] at hi
        subst hi; exact x1
      · simp at hi) (by show 1 + 1 ≤ 2; omega) (k2_M _ _ _ (p.1, y)) (fun _ hj => hj.elim)
  obtain ⟨h1, h2⟩ := hs
  rw [Int.toNat_natCast] at h1
  exact hcl _ (ARow k2 _ w0.heap.size _ _) D (hS0.setCell (hD g3 hDg).1 _) ((Kept.refl W D).setCell (.inl hDg) _) h1 (fun k hk => .inl hk)
set_option maxRecDepth 100000 in
set_option maxHeartbeats 4000000 in
theorem DHoles_calls {w0 w : World} {l : List Asn} {lo hi : Int} {g : Nat} {F : List Bool} (HS : Sat w0 w (ADocH lo hi w0.heap.size g F :: l)) (hF : F.length ≤ 1024) (hlo : 0 ≤ lo) (hlo2 : lo ≤ 65536) (h4 : lo % 4 = 0) :
    Calls Try.prog 32 #[.pointer (some ⟨g, 0, none⟩)] w fun e w' => ∃ v, e = .returned v ∧ k2.R 129 w' w.heap.size (fun _ => True) v (holesW lo F F.length) ∧ Below w.heap.size w w' := by
  obtain ⟨A0, c0, hg, hlc, hC⟩ := box_read HS
  have HX := Aside0.mk (show w.cell? ⟨g, 0, none⟩ = some (.int .i64 lo) ∧ w.cell? ⟨g, 2, none⟩ = some (.slice A0 F.length c0) from ⟨get_cell hg 0, get_cell hg 2⟩)
  have HC := Aside0.mk hC
  have HF := Aside0.mk (And.intro hF h4)
  clear hg hlc hC HS hF h4
  go_enter Try.func32, Try.ntmps32
  go_wp2_with fail
  go_loopg [3, 4] (F.length + 1) (fun kq v3 v4 w' => ∃ (i : Nat) (H : Hs) (A : Option Addr) (c : Nat), v3 = .slice A H.length c ∧ v4 = .int .i64 i ∧ Aside0 (i ≤ F.length ∧ F.length - i < kq) ∧ Aside0 (H = holesW lo F i) ∧ Aside0 (Sat w w' [ARow k2 129 w.heap.size (.slice A H.length c) H]))
  case atStart => exact ⟨0, [], none, 0, rfl, rfl, ⟨by omega⟩, ⟨rfl⟩, ⟨(Sat.start w).newRow (Below.refl _ _) (Kd.R_nil k2 129 w w.heap.size (fun _ => True)) (Nat.le_refl _)⟩⟩
  case round =>
    obtain ⟨i, H, A, c, rfl, rfl, Hi, HH, HW⟩ := hrel
    have x0 := pw_cell_below HW.out.toBelow HX.out.1
    have x2 := pw_cell_below HW.out.toBelow HX.out.2
    by_cases hlt : i < F.length
    · obtain ⟨b, hb⟩ : ∃ b, F[i]? = some b := ⟨_, List.getElem?_eq_getElem hlt⟩
      obtain ⟨ad, e, y0⟩ := bool_at (Kd.C_below HC.out HW.out.toBelow) hb
      subst e
      have HB := Aside0.mk hb
      have HHL := Aside0.mk (show H.length ≤ i from by rw [HH.out]; exact holesW_len lo F i)
      have q1 : (i < F.length) = True := eq_true hlt
      have q2 : (i : Int) ≤ 1024 := by have := HF.out.1; omega
      have q3 : 0 ≤ (i : Int) := by omega
      have q4 : (H.length : Int) ≤ 1024 := by have := HHL.out; omega
      clear hlt hb
      cases b with
      | false =>
        have HE := Aside0.mk (show H = holesW lo F (i + 1) from by
          show H = addW lo F i (holesW lo F i)
          unfold addW
          rw [if_neg (by rw [HB.out]; decide)]
          exact HH.out)
        go_wp2_with fail
        go_roundg (gk - 1)
        case measure => have := Hi.out; have := of_eq_true q1; omega
        case rel => exact ⟨i + 1, H, A, c, by rfl, by go_num, ⟨by have := Hi.out; have := of_eq_true q1; omega⟩, HE, HW⟩
      | true =>
        by_cases hc : 0 < i ∧ 0 < H.length ∧ F[i - 1]? = some true
        · obtain ⟨hi0, hH0, hb1⟩ := hc
          have HPF := Aside0.mk (show ∃ X p, H = X ++ [p] ∧ p.1 + p.2 = lo + 4 * i by
            rw [HH.out]
            exact (upTo_all F HF.out.2 i).last hi0 hb1)
          have HNM := Aside0.mk (show Norm lo (lo + 4 * i) H by rw [HH.out]; exact (upTo_all F HF.out.2 i).norm)
          obtain ⟨X, p, hXp, hpe⟩ := HPF.out
          obtain ⟨N, hN⟩ : ∃ N, H.length = N + 1 := ⟨X.length, by rw [hXp]; simp⟩
          have hk : H[N]? = some p := by
            have : X.length = N := by rw [hXp] at hN; simpa using hN
            rw [hXp, ← this]; simp
          have hpm := HNM.out.mem p (by rw [hXp]; simp)
          have HE := Aside0.mk (show H.set N (p.1, p.2 + 4) = holesW lo F (i + 1) from by
            show _ = addW lo F i (holesW lo F i)
            unfold addW
            rw [if_pos HB.out, ← HH.out, if_pos ⟨hi0, hH0, hb1⟩, hN, Nat.add_sub_cancel, List.getD_eq_getElem?_getD, hk]
            rfl)
          obtain ⟨g3, eA, z1, f1, hset⟩ := row_k2 HW.out hk
          subst eA
          have HST := Aside0.mk (hset (p.2 + 4))
          obtain ⟨ad1, e1, y1⟩ := bool_at (Kd.C_below HC.out HW.out.toBelow) hb1
          injection e1 with e1
          subst e1
          have d1 : (0 < (i : Int)) = True := eq_true (by omega)
          have d2 : (0 < i) = True := eq_true hi0
          have d5 : ((i : Int) - 1).toNat = i - 1 := by omega
          have d6 : 0 ≤ (i : Int) - 1 := by omega
          have d7 : (i : Int) - 1 < (F.length : Int) := by have := of_eq_true q1; omega
          have d8 : i - 1 < F.length := by have := of_eq_true q1; omega
          have d9 : (N : Int) ≤ 1024 := by omega
          have p1 : 0 ≤ p.2 := by omega
          have p2 : p.2 ≤ 65536 := by omega
          have HNN := Aside0.mk hN
          rw [hN]
          clear hset hXp hpe hpm hk hi0 hH0 hb1 hN
          go_wp2_with fail
          go_roundg (gk - 1)
          case measure => have := Hi.out; have := of_eq_true q1; omega
          case rel => exact ⟨i + 1, H.set N (p.1, p.2 + 4), some ⟨g3, 0, none⟩, c, by rw [List.length_set, HNN.out], by go_num, ⟨by have := Hi.out; have := of_eq_true q1; omega⟩, HE, ⟨by rw [List.length_set]; exact HST.out⟩⟩
        · have HE := Aside0.mk (show H ++ [(lo + 4 * (i : Int), 4)] = holesW lo F (i + 1) from by
            show _ = addW lo F i (holesW lo F i)
            unfold addW
            rw [if_pos HB.out, ← HH.out, if_neg hc])
          rcases Nat.eq_zero_or_pos i with hi0 | hi0
          · have d1 : (0 < (i : Int)) = False := eq_false (by omega)
            have d2 : (0 < i) = False := eq_false (by omega)
            clear hc hi0
            go_wp2_with (at_builtin; refine sat_append k2 (w0 := w) (W := wr) rfl (.tmp 53) (.tmp 62) 61 129 _ 16 rfl Try.underlying61 info129 rfl (by decide) (by decide) (.slice A H.length c) H (lo + 4 * (i : Int), 4) [.int .i64 (lo + 4 * (i : Int)), .int .i64 4] rfl rfl (fun W base => k2_M W base _ _) HW.out (by have := HHL.out; have := Hi.out; have := HF.out.1; omega) ?_; intro v1 w7 hS7; obtain ⟨A7, c7, rfl⟩ := hS7.rowSlice; have HS7 := Aside0.mk hS7; clear hS7)
            go_roundg (gk - 1)
            case measure => have := Hi.out; have := of_eq_true q1; omega
            case rel => exact ⟨i + 1, H ++ [(lo + 4 * (i : Int), 4)], A7, c7, by simp, by go_num, ⟨by have := Hi.out; have := of_eq_true q1; omega⟩, HE, HS7⟩
          · have d1 : (0 < (i : Int)) = True := eq_true (by omega)
            have d2 : (0 < i) = True := eq_true (by omega)
            rcases Nat.eq_zero_or_pos H.length with hH0 | hH0
            · have d3 : (0 < (H.length : Int)) = False := eq_false (by omega)
              have d4 : (0 < H.length) = False := eq_false (by omega)
              clear hc hi0 hH0
              go_wp2_with (at_builtin; refine sat_append k2 (w0 := w) (W := wr) rfl (.tmp 53) (.tmp 62) 61 129 _ 16 rfl Try.underlying61 info129 rfl (by decide) (by decide) (.slice A H.length c) H (lo + 4 * (i : Int), 4) [.int .i64 (lo + 4 * (i : Int)), .int .i64 4] rfl rfl (fun W base => k2_M W base _ _) HW.out (by have := HHL.out; have := Hi.out; have := HF.out.1; omega) ?_; intro v1 w7 hS7; obtain ⟨A7, c7, rfl⟩ := hS7.rowSlice; have HS7 := Aside0.mk hS7; clear hS7)
              go_roundg (gk - 1)
              case measure => have := Hi.out; have := of_eq_true q1; omega
              case rel => exact ⟨i + 1, H ++ [(lo + 4 * (i : Int), 4)], A7, c7, by simp, by go_num, ⟨by have := Hi.out; have := of_eq_true q1; omega⟩, HE, HS7⟩
            · have d3 : (0 < (H.length : Int)) = True := eq_true (by omega)
              have d4 : (0 < H.length) = True := eq_true (by omega)
              have hl1 : i - 1 < F.length := by have := of_eq_true q1; omega
              have hb1 : F[i - 1]? = some false := by
                rw [List.getElem?_eq_getElem hl1] at hc ⊢
                cases e : F[i - 1] with
                | false => rfl
                | true => exact absurd ⟨hi0, hH0, by rw [e]⟩ hc
              obtain ⟨ad1, e1, y1⟩ := bool_at (Kd.C_below HC.out HW.out.toBelow) hb1
              injection e1 with e1
              subst e1
              have d5 : ((i : Int) - 1).toNat = i - 1 := by omega
              have d6 : 0 ≤ (i : Int) - 1 := by omega
              have d7 : (i : Int) - 1 < (F.length : Int) := by omega
              have d8 : i - 1 < F.length := hl1
              clear hc hi0 hH0 hb1 hl1
              go_wp2_with (at_builtin; refine sat_append k2 (w0 := w) (W := wr) rfl (.tmp 53) (.tmp 62) 61 129 _ 16 rfl Try.underlying61 info129 rfl (by decide) (by decide) (.slice A H.length c) H (lo + 4 * (i : Int), 4) [.int .i64 (lo + 4 * (i : Int)), .int .i64 4] rfl rfl (fun W base => k2_M W base _ _) HW.out (by have := HHL.out; have := Hi.out; have := HF.out.1; omega) ?_; intro v1 w7 hS7; obtain ⟨A7, c7, rfl⟩ := hS7.rowSlice; have HS7 := Aside0.mk hS7; clear hS7)
              go_roundg (gk - 1)
              case measure => have := Hi.out; have := of_eq_true q1; omega
              case rel => exact ⟨i + 1, H ++ [(lo + 4 * (i : Int), 4)], A7, c7, by simp, by go_num, ⟨by have := Hi.out; have := of_eq_true q1; omega⟩, HE, HS7⟩
    · have q1 : (i < F.length) = False := eq_false hlt
      have HE := Aside0.mk (show i = F.length from by have := Hi.out; omega)
      clear hlt
      go_wp2_with fail
      go_ret
      obtain ⟨D, hR, _⟩ := HW.out.head
      exact ⟨_, rfl, Kd.R_mono (by rw [← HE.out, ← HH.out]; exact hR) (fun _ _ => trivial), HW.out.toBelow⟩
end Go.Proofs.Ytkeijpngfnmjoaa.MineHeap
