/- FilesKeep, the walk: for any deeds, name and bytes the statement returns true. Condition: the name isn't longer than memory. -/
import Derived.Test.YtlgfdokdckaejaaMineFilesUp
import Derived.Deep.QuietTactic
import Derived.BigQuiet
namespace Go.Proofs.Ytlgfdokdckaejaa.MineFiles
open Go.RowKit Go.MapKept Go.Proofs.YtlgfdokdckaejaaW.PrintWords Go.Proofs.YtlgfdokdckaejaaW.PrintLast Go.Proofs.Ytlgfdokdckaejaa.MineBase Go.Proofs.Ytlgfdokdckaejaa.MineSep Go.Proofs.Ytlgfdokdckaejaa.MineMap Go.Proofs.Ytlgfdokdckaejaa.QFilesKeep
set_option linter.unusedVariables false
set_option linter.unusedSimpArgs false
attribute [local go_sem] Go.Proofs.Ytlgfdokdckaejaa.MineErr.eql_err Go.Proofs.Ytlgfdokdckaejaa.MineErr.neq_err Go.Proofs.Ytlgfdokdckaejaa.MineErr.eql_nil_err Go.Proofs.Ytlgfdokdckaejaa.MineErr.neq_nil_err
/-- A deed: what, a name, bytes. -/
def kD : Kd (Int × (ByteArray × List Int)) := Kd.pair (Kd.int .i64) (Kd.pair Kd.string (Kd.slice 5 (Kd.int .u8)))
theorem deed_at {w : World} {A : Option Addr} {n : Nat} {xs : List (Int × (ByteArray × List Int))} (h : Kd.C kD w A n xs) (i : Int) (h0 : 0 ≤ i) (h1 : i < n) :
    ∃ ad p AB cB, A = some ad ∧ p ∈ xs ∧ w.cell? ⟨(ad.add (i.toNat * 3)).block, (ad.add (i.toNat * 3)).off + 1, none⟩ = some (.string p.2.1) ∧
      w.cell? ⟨(ad.add (i.toNat * 3)).block, (ad.add (i.toNat * 3)).off + 2, none⟩ = some (.slice AB p.2.2.length cB) ∧ p.2.2.length ≤ cB ∧ Kd.C (Kd.int .u8) w AB p.2.2.length p.2.2 := by
  obtain ⟨hl, _, hr⟩ := h
  obtain ⟨ad, e, hc⟩ := hr (by omega)
  have hlt : i.toNat < xs.length := by omega
  obtain ⟨c, hs, hK, hcell⟩ := hc i.toNat _ (List.getElem?_eq_getElem hlt)
  obtain ⟨c0, c1, rfl, hk0, d0, d1, rfl, hk1, AB, cB, rfl, hle, hC⟩ := hK
  obtain rfl := hk0
  obtain rfl := hk1
  exact ⟨ad, _, AB, cB, e, List.getElem_mem hlt, by rw [← add_field _ _ 1 (by omega)]; exact hcell 1 _ rfl, by rw [← add_field _ _ 2 (by omega)]; exact hcell 2 _ rfl, hle, hC⟩
/-- A row's first byte; it may be turned, and the row forgotten. -/
theorem row_cell {w0 w : World} {v : Value} {bs : List Int} {l : List Asn} (h : Sat w0 w (ARow (Kd.int .u8) 5 w0.heap.size v bs :: l)) (hpos : 0 < bs.length) :
    ∃ k c x, v = .slice (some ⟨k, 0, none⟩) bs.length c ∧ w.cell? ⟨k, 0, none⟩ = some (.int .u8 x) ∧ w.frozen? ⟨k, 0, none⟩ = false ∧ ∀ u, Sat w0 (w.setCell ⟨k, 0, none⟩ u) l := by
  obtain ⟨D, hR, hD, hcl, _⟩ := h.open_
  obtain ⟨A, c, e, hl, hC⟩ := Kd.R_reads hR
  obtain ⟨h0, inner, ho, _⟩ := hR
  rcases ho.2 with ⟨e1, _⟩ | ⟨g, cap, cur, e1, hbg, hg, _⟩
  · rw [e1] at e; injection e with _ e; omega
  · obtain ⟨x, hx⟩ : ∃ x, w.cell? ⟨g, 0, none⟩ = some (.int .u8 x) := by
      rw [e1] at e
      injection e with e2 _ _
      subst e2
      obtain ⟨ad, e3, hc⟩ := hC.2.2 hpos
      injection e3 with e3
      subst e3
      obtain ⟨c, hs, hK, hcell⟩ := hc 0 _ (List.getElem?_eq_getElem hpos)
      obtain rfl := hK
      exact ⟨_, by simpa [Addr.add] using hcell 0 _ rfl⟩
    have hDg : D g := h0 g (by rw [e1]; rfl)
    refine ⟨g, cap, x, e1, hx, get_frozen hg 0, fun u => hcl _ (h.toBelow.setCell (hD g hDg).1 u) ((Kept.refl w D).setCell (.inl hDg) u)⟩
theorem info5p : (Try.prog.info? 5).map (fun i => (i.zero, i.size, i.bytes)) = some (some (.int .u8 0), 1, 1) := by kernel_rfl
theorem empty_own (W0 : World) : Kd.R (Kd.int .u8) 5 (W0.alloc (.cells #[] 5)) W0.heap.size (fun _ => True) (.slice (some ⟨W0.heap.size, 0, none⟩) 0 0) [] := by
  have h := own_lit W0 W0.heap.size 5 .u8 [] (Nat.le_refl _) (by decide)
  exact Kd.R_of_own (h1 := fun _ => rfl) (ok := fun _ => True) h (fun _ _ => trivial)
theorem copy_list {ops : Array Oper} {rest : List Oper} {o : Oper} {a : Act} {Q : Exit → Act → World → Prop} (hgd : o.guard = none) (s x : Operand)
    (ho : o.op = .call { callee := .builtin .append, args := #[s, x], argTypes := #[23, 23] }) (W0 : World) (A : Option Addr) (c : Nat) (l : List Int)
    (hs : a.eval s = .slice (some ⟨W0.heap.size, 0, none⟩) 0 0) (hx : a.eval x = .slice A l.length c) (hC : Kd.C (Kd.int .u8) W0 A l.length l) (hl : l.length ≤ 100000)
    (h : ∀ v1 w1, Kd.R (Kd.int .u8) 5 w1 W0.heap.size (fun _ => True) v1 l → Below W0.heap.size W0 w1 → wpList Try.prog ops Q rest (a.put o.dst v1) w1) : wpList Try.prog ops Q (o :: rest) a (W0.alloc (.cells #[] 5)) := by
  have hb := below_alloc (Below.refl W0.heap.size W0) (.cells #[] 5)
  refine Kd.R_append_row (Value.int .u8) (0 : Int) (h1 := fun _ => rfl) (w0 := W0) W0.heap.size hgd s x 23 5 (.int .u8 0) 1 ho Try.underlying23 info5p rfl (by decide) _ [] l A l.length c (fun _ => True) hs hx (fun _ _ => trivial) (empty_own W0) (Kd.C_below hC hb) hb hb.size (by simp; omega) ?_
  intro v1 w1 hR hB _ _
  exact h v1 w1 hR hB
theorem put_none {s : ByteArray} {b : List Int} (hb : b.length ≤ 4000) : putE [] s b = if mayB s then none else some 2 := by
  unfold putE
  by_cases hm : mayB s
  · simp [hm, hb]
  · simp [hm]
theorem lookM_putF {F : List (ByteArray × List Int)} {s t : ByteArray} {b x : List Int} (h : lookM F s = some b) (hne : ¬ t.toList = s.toList) : lookM (putF F t x) s = some b := by
  have h1 : s ≠ t := fun e => hne (by rw [e])
  unfold putF
  split
  · rw [look_put_other _ _ _ _ h1]; exact h
  · exact h
theorem nodup_putF {F : List (ByteArray × List Int)} {t : ByteArray} {x : List Int} (h : (keys F).Nodup) : (keys (putF F t x)).Nodup := by
  unfold putF
  split
  · exact nodup_put _ _ _ h
  · exact h
set_option maxHeartbeats 4000000 in
set_option maxRecDepth 100000 in
theorem FilesKeep_calls (A0 : Option Addr) (c0 : Nat) (l : List (Int × (ByteArray × List Int))) (s : ByteArray) (Ab : Option Addr) (cb : Nat) (b : List Int) (w : World)
    (hr0 : Kd.C kD w A0 l.length l) (hs : s.size ≤ 140737488351232) (hrb : Kd.C (Kd.int .u8) w Ab b.length b) (hcb : b.length ≤ cb) :
    Calls Try.prog 3 #[.slice A0 l.length c0, .string s, .slice Ab b.length cb] w fun e w' => e = .returned (.bool true) ∧ Below w.heap.size w w' := by
  have HR := Aside0.mk hr0
  have HRB := Aside0.mk (And.intro hrb hcb)
  have Hs := Aside0.mk hs
  clear hr0 hrb hcb hs
  go_enter Try.func3, Try.ntmps3
  go_wp2_with fail
  refine (up_calls w).mono ?_
  rintro e1 w1 ⟨rfl, hb1⟩
  go_wp2_with fail
  refine (New_calls ((Sat.start w).below hb1)).mono ?_
  rintro e2 w2 ⟨g, rfl, hS2⟩
  have HS2 := Aside0.mk hS2
  clear hS2 hb1
  by_cases d1 : (30 : Int) < (l.length : Int)
  · have d1b : decide ((30 : Int) < (l.length : Int)) = true := decide_eq_true d1
    clear d1
    go_wp2
    go_ret
    exact ⟨by rfl, HS2.out.toBelow⟩
  have d1b : decide ((30 : Int) < (l.length : Int)) = false := decide_eq_false d1
  by_cases d2 : (4000 : Int) < (b.length : Int)
  · have d2b : decide ((4000 : Int) < (b.length : Int)) = true := decide_eq_true d2
    clear d1 d2
    go_wp2
    go_ret
    exact ⟨by rfl, HS2.out.toBelow⟩
  have d2b : decide ((4000 : Int) < (b.length : Int)) = false := decide_eq_false d2
  by_cases d3 : (b.length : Int) = 0
  · have d3b : ((b.length : Int) == 0) = true := beq_iff_eq.mpr d3
    have d3c : (b.length == 0) = true := beq_iff_eq.mpr (by omega)
    clear d1 d2 d3
    go_wp2
    go_ret
    exact ⟨by rfl, HS2.out.toBelow⟩
  have d3b : ((b.length : Int) == 0) = false := beq_eq_false_iff_ne.mpr d3
  have d3c : (b.length == 0) = false := beq_eq_false_iff_ne.mpr (by omega)
  have HL := Aside0.mk (show l.length ≤ 30 ∧ 0 < b.length ∧ b.length ≤ 4000 by omega)
  have HC2 := Aside0.mk (Kd.C_below HRB.out.1 HS2.out.toBelow)
  clear d1 d2 d3
  go_wp2_with (at_builtin; refine copy_list rfl (.tmp 43) (.tmp 44) rfl w2 Ab cb b rfl rfl HC2.out (by have := HL.out; omega) ?_; intro v3 w3 hR3 hb3; have HS3 := Aside0.mk (HS2.out.newRow hb3 hR3 HS2.out.size); clear hR3 hb3)
  obtain ⟨A3, c3, rfl, hl3, hC3⟩ := HS3.out.rowReads
  refine (Put_calls HS3.out.swap s Hs.out A3 c3 b hC3 hl3 (by have := HL.out; omega)).mono ?_
  rw [put_none HL.out.2.2]
  cases hm : mayB s with
  | false =>
    rintro e4 w4 ⟨rfl, hS4⟩
    have HS4 := Aside0.mk hS4
    have z2 : errV (if false = true then none else some 2) = .iface 30 (.int .i64 2) := rfl
    rw [z2]
    clear hS4 z2 hC3 hl3
    go_wp2
    go_ret
    exact ⟨by rfl, HS4.out.toBelow⟩
  | true =>
    rw [show putF [] s b = [(s, b)] by unfold putF; rw [put_none HL.out.2.2, hm]; rfl]
    rintro e4 w4 ⟨rfl, hS4⟩
    obtain ⟨k4, q4, x4, e4, hx4, hf4, hS5⟩ := row_cell hS4.swap HL.out.2.1
    injection e4 with e4 _ e5
    subst e4 e5
    have HS5 := Aside0.mk hS5
    have z0 : errV (if true = true then none else some 2) = .nilIface := rfl
    rw [z0]
    clear hS4 z0 hC3 hl3 hS5
    have p0 : (0 < b.length) = True := eq_true HL.out.2.1
    go_wp2_with fail
    have HS6 := Aside0.mk (HS5.out (.int .u8 ((x4 + 1) % 256)))
    clear hx4 hf4 HS3 HS2 HC2 d1b d2b d3b d3c HS5
    go_loopg [11] (l.length + 1) (fun kq v11 w' => ∃ (i : Int) (F : List (ByteArray × List Int)), v11 = .int .i64 i ∧ Aside0 (0 ≤ i ∧ i ≤ l.length) ∧ Aside0 ((l.length : Int) - i < kq) ∧ Aside0 (lookM F s = some b) ∧ Aside0 ((keys F).Nodup) ∧ Aside0 (Sat w w' [AFiles g F]))
    case atStart => exact ⟨0, [(s, b)], rfl, ⟨by omega⟩, ⟨by omega⟩, ⟨by simp [lookM]⟩, ⟨by simp [keys]⟩, HS6⟩
    case round =>
      obtain ⟨i, F, rfl, Hi, Hk, Hlk, Hnd, HS7⟩ := hrel
      by_cases c : i < (l.length : Int)
      · have cb1 : decide (i < (l.length : Int)) = true := decide_eq_true c
        obtain ⟨ad, p, AB, cB, rfl, hp, hc1, hc2, hcB, hB⟩ := deed_at HR.out i Hi.out.1 c
        have hc1' := pw_cell_below HS7.out.toBelow hc1
        have hc2' := pw_cell_below HS7.out.toBelow hc2
        have HB' := Aside0.mk (And.intro (Kd.C_below hB HS7.out.toBelow) hcB)
        have p1 : (0 ≤ i) = True := eq_true Hi.out.1
        have p2 : (i < (l.length : Int)) = True := eq_true c
        have hiw : IntKind.i64.wrap (i + 1) = i + 1 := (i64_w _).trans (show wrap64 (i + 1) = i + 1 by have := Hi.out; have := HL.out; unfold wrap64; omega)
        clear c hc1 hc2 hB hcB
        go_wp2_with fail
        any_goals (
          go_roundg (gk - 1)
          case measure => have := Hk.out; have := Hi.out; omega
          case rel => exact ⟨i + 1, F, rfl, ⟨by have := Hi.out; have := of_eq_true p2; omega⟩, ⟨by have := Hk.out; have := Hi.out; omega⟩, Hlk, Hnd, HS7⟩)
        have hne : ¬ p.2.1.toList = s.toList := by assumption
        have hsz : (p.2.1.size : Int) ≤ 100 := by assumption
        have hln : (!p.2.1.toList == s.toList) = true ∧ (p.2.2.length : Int) ≤ 5000 := by assumption
        have HX := Aside0.mk (And.intro hne (And.intro hsz hln.2))
        clear hne hsz hln
        go_region_law (go_simp; go_at_call 9; refine (Put_calls HS7.out.drew p.2.1 (by have := HX.out; omega) AB cB p.2.2 HB'.out.1 HB'.out.2 (by have := HX.out; omega)).mono ?_; rintro e8 w8 ⟨rfl, hS8⟩; have HS8 := Aside0.mk hS8; clear hS8)
        all_goals (
          go_wp2
          go_roundg (gk - 1)
          case measure => have := Hk.out; have := Hi.out; omega
          case rel => exact ⟨i + 1, _, rfl, ⟨by have := Hi.out; have := of_eq_true p2; omega⟩, ⟨by have := Hk.out; have := Hi.out; omega⟩, ⟨lookM_putF Hlk.out HX.out.1⟩, ⟨nodup_putF Hnd.out⟩, HS8⟩)
      · have cb1 : decide (i < (l.length : Int)) = false := decide_eq_false c
        clear c
        have HT := Aside0.mk (show thereE F s = none by unfold thereE; rw [hm, Hlk.out]; rfl)
        go_wp2_with fail
        refine (Get_calls HS7.out s Hs.out (fun bs h => by rw [Hlk.out] at h; injection h with h; subst h; have := HL.out; omega)).mono ?_
        rintro e8 w8 ⟨_, h8⟩
        obtain ⟨b8, v8, hb8, rfl, hS8⟩ := h8 HT.out
        rw [Hlk.out] at hb8
        injection hb8 with hb8
        subst hb8
        obtain ⟨A8, c8, rfl, hl8, hC8, hs8⟩ := row_string hS8
        have hsb := Kd.C_string Try.underlying23 Try.underlying5 Try.underlying9 (c := cb) (Kd.C_below HRB.out.1 hS8.toBelow)
        have z0 : errV none = .nilIface := rfl
        rw [z0]
        obtain ⟨k8, q8, x8, e8, hx8, hf8, hS9⟩ := row_cell hS8 HL.out.2.1
        injection e8 with e8 _ e9
        subst e8 e9
        have HS9 := Aside0.mk hS9
        clear h8 hS8 hl8 hC8 z0 hS9
        go_wp2_with fail
        refine (Get_calls (HS9.out _) s Hs.out (fun bs h => by rw [Hlk.out] at h; injection h with h; subst h; have := HL.out; omega)).mono ?_
        rintro e10 w10 ⟨_, h10⟩
        obtain ⟨b10, v10, hb10, rfl, hS10⟩ := h10 HT.out
        rw [Hlk.out] at hb10
        injection hb10 with hb10
        subst hb10
        have HS10 := Aside0.mk hS10
        have z0 : errV none = .nilIface := rfl
        rw [z0]
        obtain ⟨A10, c10, rfl⟩ := hS10.rowSlice
        clear h10 hS10 z0 hs8 hx8 hf8 hsb HS9
        go_wp2_with fail
        refine (Delete_calls HS10.out.swap s Hs.out).mono ?_
        rw [show delF F s = del F s by unfold delF; rw [HT.out]; rfl, HT.out]
        rintro e11 w11 ⟨rfl, hS11⟩
        have HS11 := Aside0.mk hS11
        have z0 : errV none = .nilIface := rfl
        rw [z0]
        clear hS11 z0 HS10
        have HT2 := Aside0.mk (show thereE (del F s) s = some 3 by unfold thereE; rw [hm, look_del_same _ _ Hnd.out]; rfl)
        have HT3 := Aside0.mk (look_del_same _ s Hnd.out)
        go_wp2_with fail
        refine (Get_calls HS11.out s Hs.out (fun bs h => by rw [HT3.out] at h; cases h)).mono ?_
        rintro e12 w12 ⟨h12, _⟩
        obtain ⟨rfl, hS12⟩ := h12 3 HT2.out
        obtain ⟨A12, c12, e12, hl12, hC12, hs12⟩ := row_string hS12.swap
        injection e12 with e12 _ e13
        subst e12 e13
        have hsb := Kd.C_string Try.underlying23 Try.underlying5 Try.underlying9 (c := cb) (Kd.C_below HRB.out.1 hS12.toBelow)
        have HB12 := Aside0.mk hS12.toBelow
        have z3 : errV (some 3) = .iface 30 (.int .i64 3) := rfl
        rw [z3]
        clear h12 hS12 z3 hl12 hC12
        go_wp2_with fail
        go_ret
        exact ⟨by rfl, HB12.out⟩
end Go.Proofs.Ytlgfdokdckaejaa.MineFiles
