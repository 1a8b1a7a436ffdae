/- Objects of modules: the document's names (rule 1). Conditions: the texts are short. -/
import Derived.Test.YtnflalbiffamdaaMineObj
import Derived.Test.YtnflalbiffamdaaMineName
namespace Go.Proofs.Ytnflalbiffamdaa.MineObj
open Go.RowKit Go.MapKept Go.Proofs.YtnflalbiffamdaaW.PrintWords Go.Proofs.YtnflalbiffamdaaW.PrintLast Go.Proofs.YtnflalbiffamdaaW.PrintMore Go.Proofs.Ytnflalbiffamdaa.MineBase Go.Proofs.Ytnflalbiffamdaa.MineSep Go.Proofs.Ytnflalbiffamdaa.MineRows Go.Proofs.Ytnflalbiffamdaa.MineGen Go.Proofs.Ytnflalbiffamdaa.MineName Go.Proofs.Ytnflalbiffamdaa.QCheckTells
attribute [local go_sem ↓] Go.wp_at_zero Go.wp_at_succ
set_option linter.unusedVariables false
set_option linter.unusedSimpArgs false
theorem toList_inj {a b : ByteArray} : a.toList = b.toList ↔ a = b := by
  have h := eqS_iff a b
  unfold eqS at h
  rw [beq_iff_eq] at h
  exact h
structure FewOk (o : Ob) : Prop where
  nm : o.nm.size ≤ 300
  text : o.text.size ≤ 300
  imps : o.imps.length ≤ 20
  typs : o.typs.length ≤ 20
  code : o.code.length ≤ 1100
  cmds : o.cmds.length ≤ 20
  exps : o.exps.length ≤ 300
  ptrs : o.ptrs.length ≤ 300
  procs : o.procs.length ≤ 300
  imp : ∀ x ∈ o.imps, x.f0.size ≤ 300
  cmd : ∀ x ∈ o.cmds, x.f0.size ≤ 300
def ImpOk (o : Ob) (i : Nat) (x : S92) : Prop := nameB x.f0 = true ∧ x.f0 ≠ o.nm ∧ ∀ (k : Nat) (y : S92), k < i → o.imps[k]? = some y → y.f0 ≠ x.f0
def CmdOk (o : Ob) (i : Nat) (x : S95) : Prop := nameB x.f0 = true ∧ 0 ≤ x.f1 ∧ x.f1 < o.code.length ∧ ∀ (k : Nat) (y : S95), k < i → o.cmds[k]? = some y → y.f0 ≠ x.f0
def NamesOk (o : Ob) : Prop := nameB o.nm = true ∧ o.imps.length ≤ 8 ∧ o.cmds.length ≤ 8 ∧ (∀ (i : Nat) (x : S92), o.imps[i]? = some x → ImpOk o i x) ∧ ∀ (i : Nat) (x : S95), o.cmds[i]? = some x → CmdOk o i x
theorem rname_calls (s : ByteArray) (hs : s.size ≤ 300) (b : Bool) (hb : nameB s = b) (w : World) : Calls Try.prog 42 #[.string s] w fun e w' => e = .returned (.bool b) ∧ Drawn0 w w' := by
  subst hb
  exact dowelref09_Name.calls (s.size + 2) s _ w (ref_eq s (by omega) _ (by omega))
theorem pname_calls (s : ByteArray) (hs : s.size ≤ 300) (b : Bool) (hb : nameB s = b) (w : World) : Calls Try.prog 117 #[.string s] w fun e w' => e = .returned (.bool b) ∧ Drawn0 w w' := by
  subst hb
  exact name_May.calls (s.size + 3) s _ w (may_eq s (by omega) _ (by omega))

set_option maxRecDepth 100000 in
set_option maxHeartbeats 4000000 in
theorem rnames_calls (o : Ob) (a : Oa) (w : World) (n2 n3 n6 n7 n8 n9 n10 : Nat) (e2 : n2 = o.imps.length) (e3 : n3 = o.typs.length) (e6 : n6 = o.code.length) (e7 : n7 = o.cmds.length) (e8 : n8 = o.exps.length) (e9 : n9 = o.ptrs.length) (e10 : n10 = o.procs.length) (hO : ObR o a w) (hF : FewOk o) (r : Bool) (hr : r = true ↔ NamesOk o) :
    Calls Try.prog 52 #[.agg #[.string o.nm, .int .u32 o.key, .slice a.A2 n2 a.c2, .slice a.A3 n3 a.c3, .int .i64 o.data, .string o.text, .slice a.A6 n6 a.c6, .slice a.A7 n7 a.c7, .slice a.A8 n8 a.c8, .slice a.A9 n9 a.c9, .slice a.A10 n10 a.c10, .int .i64 o.x0, .int .i64 o.x1, .int .i64 o.x2, .int .i64 o.body]] w fun e w' => e = .returned (.bool r) ∧ Below w.heap.size w w' := by
  have HO := Aside0.mk hO
  have HR := Aside0.mk hr
  have HE := Aside0.mk (And.intro e2 (And.intro e3 (And.intro e6 (And.intro e7 (And.intro e8 (And.intro e9 e10))))))
  have hu31 := Try.underlying31
  have HF := Aside0.mk hF
  have l2 : n2 ≤ 20 := by rw [e2]; exact hF.imps
  have l7 : n7 ≤ 20 := by rw [e7]; exact hF.cmds
  have l6 : n6 ≤ 1100 := by rw [e6]; exact hF.code
  clear hO hr hF e2 e3 e6 e7 e8 e9 e10
  obtain ⟨nb, hnb⟩ : ∃ b, nameB o.nm = b := ⟨_, rfl⟩
  have HNB := Aside0.mk hnb
  clear hnb
  go_enter Try.func52, Try.ntmps52
  go_wp2_with fail
  have hW := Aside0.mk (blk_new (Sat.start w) (.cells #[.string o.nm, .int .u32 o.key, .slice a.A2 n2 a.c2, .slice a.A3 n3 a.c3, .int .i64 o.data, .string o.text, .slice a.A6 n6 a.c6, .slice a.A7 n7 a.c7, .slice a.A8 n8 a.c8, .slice a.A9 n9 a.c9, .slice a.A10 n10 a.c10, .int .i64 o.x0, .int .i64 o.x1, .int .i64 o.x2, .int .i64 o.body] 31))
  generalize w.alloc (.cells #[.string o.nm, .int .u32 o.key, .slice a.A2 n2 a.c2, .slice a.A3 n3 a.c3, .int .i64 o.data, .string o.text, .slice a.A6 n6 a.c6, .slice a.A7 n7 a.c7, .slice a.A8 n8 a.c8, .slice a.A9 n9 a.c9, .slice a.A10 n10 a.c10, .int .i64 o.x0, .int .i64 o.x1, .int .i64 o.x2, .int .i64 o.body] 31) = W at *
  have hq := rname_calls o.nm HF.out.nm nb HNB.out W
  (with_reducible refine hq.mono ?_)
  clear hq
  rintro e1 w1 ⟨rfl, hd1⟩
  have HW := Aside0.mk (hW.out.drawn hd1)
  clear hd1 hW
  have x2 : w1.cell? ⟨w.heap.size, 2, none⟩ = some (.slice a.A2 n2 a.c2) := get_cell (blk_at HW.out) 2
  have x7 : w1.cell? ⟨w.heap.size, 7, none⟩ = some (.slice a.A7 n7 a.c7) := get_cell (blk_at HW.out) 7
  cases nb with
  | false =>
    have e : r = false := by
      cases r with
      | false => rfl
      | true => exact absurd (HR.out.1 rfl) (fun h => by have h1 := h.1; rw [HNB.out] at h1; cases h1)
    subst e
    skip
    go_wp2_with fail
    go_ret
    exact ⟨by rfl, HW.out.toBelow⟩
  | true =>
    by_cases g1 : 8 < n2
    · have g1a : (8 < n2) = True := eq_true g1
      have g1b : ((8 : Int) < ((n2 : Nat) : Int)) = True := eq_true (by omega)
      have g1c : decide ((8 : Int) < ((n2 : Nat) : Int)) = true := decide_eq_true (by omega)
      have e : r = false := by
        cases r with
        | false => rfl
        | true => exact absurd (HR.out.1 rfl) (fun h => by have h1 := h.2.1; have := HE.out.1; omega)
      subst e
      clear g1
      go_wp2_with fail
      go_ret
      exact ⟨by rfl, HW.out.toBelow⟩
    have g1a : (8 < n2) = False := eq_false g1
    have g1b : ((8 : Int) < ((n2 : Nat) : Int)) = False := eq_false (by omega)
    have g1c : decide ((8 : Int) < ((n2 : Nat) : Int)) = false := decide_eq_false (by omega)
    by_cases g2 : 8 < n7
    · have g2a : (8 < n7) = True := eq_true g2
      have g2b : ((8 : Int) < ((n7 : Nat) : Int)) = True := eq_true (by omega)
      have g2c : decide ((8 : Int) < ((n7 : Nat) : Int)) = true := decide_eq_true (by omega)
      have e : r = false := by
        cases r with
        | false => rfl
        | true => exact absurd (HR.out.1 rfl) (fun h => by have h1 := h.2.2.1; have := HE.out.2.2.2.1; omega)
      subst e
      clear g1 g2
      go_wp2_with fail
      go_ret
      exact ⟨by rfl, HW.out.toBelow⟩
    have g2a : (8 < n7) = False := eq_false g2
    have g2b : ((8 : Int) < ((n7 : Nat) : Int)) = False := eq_false (by omega)
    have g2c : decide ((8 : Int) < ((n7 : Nat) : Int)) = false := decide_eq_false (by omega)
    have HN := Aside0.mk (show n2 ≤ 8 ∧ n7 ≤ 8 from by omega)
    clear g1 g2
    go_wp2_with fail
    clear g1a g1b g1c g2a g2b g2c x2 x7
    go_loopg [4] (n2 + 1) (fun kq v w' => ∃ i : Nat, v = .int .i64 i ∧ Aside0 (i ≤ n2 ∧ n2 - i < kq) ∧ Aside0 (∀ (j : Nat) (x : S92), j < i → o.imps[j]? = some x → ImpOk o j x) ∧ Aside0 (Sat w w' [ABlk w.heap.size (.cells #[.string o.nm, .int .u32 o.key, .slice a.A2 n2 a.c2, .slice a.A3 n3 a.c3, .int .i64 o.data, .string o.text, .slice a.A6 n6 a.c6, .slice a.A7 n7 a.c7, .slice a.A8 n8 a.c8, .slice a.A9 n9 a.c9, .slice a.A10 n10 a.c10, .int .i64 o.x0, .int .i64 o.x1, .int .i64 o.x2, .int .i64 o.body] 31 (0, 0))]))
    case atStart => exact ⟨0, rfl, ⟨by omega⟩, ⟨fun j x h => absurd h (by omega)⟩, HW⟩
    case round =>
      clear HW
      obtain ⟨i, rfl, Hi, HG, HW⟩ := hrel
      obtain ⟨gk1, rfl⟩ : ∃ x, x = gk := ⟨gk, rfl⟩
      have x0 : wr.cell? ⟨w.heap.size, 0, none⟩ = some (.string o.nm) := get_cell (blk_at HW.out) 0
      have x2 : wr.cell? ⟨w.heap.size, 2, none⟩ = some (.slice a.A2 n2 a.c2) := get_cell (blk_at HW.out) 2
      by_cases hlt : i < n2
      · obtain ⟨x, hx⟩ : ∃ x, o.imps[i]? = some x := ⟨_, List.getElem?_eq_getElem (by have := HE.out.1; omega)⟩
        obtain ⟨adx, eAx, y0, y1⟩ := at_T92 (HO.out.sat HW.out).r2 (i : Int) (by omega) (by have := HE.out.1; omega)
        have evx : rd_T92 o.imps (i : Int) = x := by
          have hl := (List.getElem?_eq_some_iff.1 hx).1
          have := (List.getElem?_eq_some_iff.1 hx).2
          simp [rd_T92, hl, this]
        rw [evx] at y0 y1
        simp only [Int.toNat_natCast] at y0 y1
        have HV := Aside0.mk hx
        rw [eAx] at x2
        have HS2 := Aside0.mk (And.intro eAx (And.intro y0 y1))
        have HO0 := Aside0.mk (show w.cell? (adx.add (i * 2)) = some (.string x.f0) from by
          obtain ⟨ad2, e2, v0, v1⟩ := at_T92 HO.out.r2 (i : Int) (by omega) (by have := HE.out.1; omega)
          rw [evx] at v0
          simp only [Int.toNat_natCast] at v0
          have h := eAx.symm.trans e2
          injection h with h
          rw [h]; exact v0)
        have q1 : (i < n2) = True := eq_true hlt
        have q2 : 0 ≤ (i : Int) := by omega
        have q3 : (i : Int) ≤ 100 := by omega
        have HQ := Aside0.mk hlt
        clear hlt evx hx eAx
        have HSZ := Aside0.mk (HF.out.imp x (List.mem_iff_getElem?.2 ⟨i, HV.out⟩))
        have HBAD := Aside0.mk (show ¬ ImpOk o i x → r = false from fun hn => by
          cases r with
          | false => rfl
          | true => exact absurd ((HR.out.1 rfl).2.2.2.1 i x HV.out) hn)
        obtain ⟨mb, hmb⟩ : ∃ b, nameB x.f0 = b := ⟨_, rfl⟩
        have HMB := Aside0.mk hmb
        clear hmb
        go_wp2_with fail
        have hq := rname_calls x.f0 HSZ.out mb HMB.out wr
        (with_reducible refine hq.mono ?_)
        clear hq
        rintro e2 w2 ⟨rfl, hd2⟩
        have HW2 := Aside0.mk (HW.out.drawn hd2)
        have z0 := pw_cell_below hd2.below HS2.out.2.1
        clear hd2 x0 x2 y0 y1
        have x0 : w2.cell? ⟨w.heap.size, 0, none⟩ = some (.string o.nm) := get_cell (blk_at HW2.out) 0
        have x2 : w2.cell? ⟨w.heap.size, 2, none⟩ = some (.slice a.A2 n2 a.c2) := get_cell (blk_at HW2.out) 2
        rw [HS2.out.1] at x2
        cases mb with
        | false =>
          have e : r = false := HBAD.out (fun h => by have h1 := h.1; rw [HMB.out] at h1; cases h1)
          subst e
          go_wp2_with fail
          go_quiet (fail)
          go_wp2_with fail
          go_ret
          exact ⟨by rfl, (HW2.out.drewN _).toBelow⟩
        | true =>
          by_cases g3 : x.f0.toList = o.nm.toList
          · have t3a : (x.f0.toList == o.nm.toList) = true := beq_iff_eq.2 g3
            have t3b : (x.f0.toList = o.nm.toList) = True := eq_true g3
            have e : r = false := HBAD.out (fun h => h.2.1 (toList_inj.1 g3))
            subst e
            clear g3
            go_wp2_with fail
            go_quiet (fail)
            go_wp2_with fail
            go_ret
            exact ⟨by rfl, (HW2.out.drewN _).toBelow⟩
          · have t3a : (x.f0.toList == o.nm.toList) = false := beq_eq_false_iff_ne.2 g3
            have t3b : (x.f0.toList = o.nm.toList) = False := eq_false g3
            have HNE := Aside0.mk (show x.f0 ≠ o.nm from fun h => g3 (toList_inj.2 h))
            clear g3
            go_wp2_with fail
            go_quiet (fail)
            go_wp2_with fail
            refine wp_abs (fun W => Sat w W [ABlk w.heap.size (.cells #[.string o.nm, .int .u32 o.key, .slice a.A2 n2 a.c2, .slice a.A3 n3 a.c3, .int .i64 o.data, .string o.text, .slice a.A6 n6 a.c6, .slice a.A7 n7 a.c7, .slice a.A8 n8 a.c8, .slice a.A9 n9 a.c9, .slice a.A10 n10 a.c10, .int .i64 o.x0, .int .i64 o.x1, .int .i64 o.x2, .int .i64 o.body] 31 (0, 0))]) (HW2.out.drewN _) (fun W3 hW3 => ?_)
            replace hW3 := Aside0.mk hW3
            clear HW2 HW z0 x0 x2
            go_loopg [6] (i + 1) (fun kq v w' => ∃ k : Nat, v = .int .i64 k ∧ Aside0 (k ≤ i ∧ i - k < kq) ∧ Aside0 (∀ (j : Nat) (y : S92), j < k → o.imps[j]? = some y → y.f0 ≠ x.f0) ∧ Aside0 (Sat w w' [ABlk w.heap.size (.cells #[.string o.nm, .int .u32 o.key, .slice a.A2 n2 a.c2, .slice a.A3 n3 a.c3, .int .i64 o.data, .string o.text, .slice a.A6 n6 a.c6, .slice a.A7 n7 a.c7, .slice a.A8 n8 a.c8, .slice a.A9 n9 a.c9, .slice a.A10 n10 a.c10, .int .i64 o.x0, .int .i64 o.x1, .int .i64 o.x2, .int .i64 o.body] 31 (0, 0))]))
            case atStart => exact ⟨0, rfl, ⟨by omega⟩, ⟨fun j x h => absurd h (by omega)⟩, hW3⟩
            case round =>
              clear hW3
              obtain ⟨k, rfl, Hk, HGk, HW⟩ := hrel
              obtain ⟨gk2, rfl⟩ : ∃ x, x = gk := ⟨gk, rfl⟩
              have x2 : wr.cell? ⟨w.heap.size, 2, none⟩ = some (.slice a.A2 n2 a.c2) := get_cell (blk_at HW.out) 2
              have z0 := pw_cell_below HW.out.toBelow HO0.out
              by_cases hlt : k < i
              · obtain ⟨y, hy⟩ : ∃ y, o.imps[k]? = some y := ⟨_, List.getElem?_eq_getElem (by have := HQ.out; have := HE.out.1; omega)⟩
                obtain ⟨ady, eAy, u0, u1⟩ := at_T92 (HO.out.sat HW.out).r2 (k : Int) (by omega) (by have := HQ.out; have := HE.out.1; omega)
                have evy : rd_T92 o.imps (k : Int) = y := by
                  have hl := (List.getElem?_eq_some_iff.1 hy).1
                  have := (List.getElem?_eq_some_iff.1 hy).2
                  simp [rd_T92, hl, this]
                rw [evy] at u0 u1
                simp only [Int.toNat_natCast] at u0 u1
                have eAd : adx = ady := by have h := HS2.out.1.symm.trans eAy; injection h
                subst eAd
                rw [HS2.out.1] at x2
                have HY := Aside0.mk hy
                have q4 : (k < i) = True := eq_true hlt
                have q5 : 0 ≤ (k : Int) := by omega
                have q7 : (k : Int) ≤ 100 := by omega
                have q6 : (k < n2) = True := eq_true (by have := HQ.out; omega)
                have HK := Aside0.mk hlt
                clear hlt evy hy eAy
                by_cases g4 : y.f0.toList = x.f0.toList
                · have t4a : (y.f0.toList == x.f0.toList) = true := beq_iff_eq.2 g4
                  have t4b : (y.f0.toList = x.f0.toList) = True := eq_true g4
                  have e : r = false := HBAD.out (fun h => h.2.2 k y HK.out HY.out (toList_inj.1 g4))
                  subst e
                  clear g4
                  go_wp2_with fail
                  go_quiet (fail)
                  go_wp2_with fail
                  go_ret
                  exact ⟨by rfl, (HW.out.drewN _).toBelow⟩
                · have t4a : (y.f0.toList == x.f0.toList) = false := beq_eq_false_iff_ne.2 g4
                  have t4b : (y.f0.toList = x.f0.toList) = False := eq_false g4
                  have HNE2 := Aside0.mk (show y.f0 ≠ x.f0 from fun h => g4 (toList_inj.2 h))
                  clear g4
                  go_wp2_with fail
                  go_quiet (fail)
                  go_wp2_with fail
                  go_roundg (gk2 - 1)
                  case measure => have := Hk.out; have := HK.out; omega
                  case rel => exact ⟨k + 1, by go_num, ⟨by have := Hk.out; have := HK.out; omega⟩, ⟨fun j u hj hu => by
                    by_cases hjk : j = k
                    · subst hjk
                      have := HY.out
                      rw [hu] at this
                      injection this with this
                      rw [this]; exact HNE2.out
                    · exact HGk.out j u (by omega) hu⟩, ⟨HW.out.drewN _⟩⟩
              · have hke : k = i := by have := Hk.out; omega
                have HT := Aside0.mk (show ImpOk o i x from ⟨HMB.out, HNE.out, fun j y hj hy => HGk.out j y (by omega) hy⟩)
                have q4 : (k < i) = False := eq_false hlt
                clear hlt x2 z0
                go_wp2_with fail
                go_roundg (gk1 - 1)
                case measure => have := Hi.out; have := HQ.out; omega
                case rel => exact ⟨i + 1, by go_num, ⟨by have := Hi.out; have := HQ.out; omega⟩, ⟨fun j u hj hu => by
                  by_cases hji : j = i
                  · subst hji
                    have := HV.out
                    rw [hu] at this
                    injection this with this
                    rw [this]; exact HT.out
                  · exact HG.out j u (by omega) hu⟩, HW⟩
      · have HI := Aside0.mk (show ∀ (i : Nat) (x : S92), o.imps[i]? = some x → ImpOk o i x from fun j x hj => HG.out j x (by have := (List.getElem?_eq_some_iff.1 hj).1; have := HE.out.1; omega) hj)
        have q1 : (i < n2) = False := eq_false hlt
        clear hlt HG x0
        go_wp2_with fail
        go_loopg [7] (n7 + 1) (fun kq v w' => ∃ i : Nat, v = .int .i64 i ∧ Aside0 (i ≤ n7 ∧ n7 - i < kq) ∧ Aside0 (∀ (j : Nat) (x : S95), j < i → o.cmds[j]? = some x → CmdOk o j x) ∧ Aside0 (Sat w w' [ABlk w.heap.size (.cells #[.string o.nm, .int .u32 o.key, .slice a.A2 n2 a.c2, .slice a.A3 n3 a.c3, .int .i64 o.data, .string o.text, .slice a.A6 n6 a.c6, .slice a.A7 n7 a.c7, .slice a.A8 n8 a.c8, .slice a.A9 n9 a.c9, .slice a.A10 n10 a.c10, .int .i64 o.x0, .int .i64 o.x1, .int .i64 o.x2, .int .i64 o.body] 31 (0, 0))]))
        case atStart => exact ⟨0, rfl, ⟨by omega⟩, ⟨fun j x h => absurd h (by omega)⟩, HW⟩
        case round =>
          clear HW Hi q1 x2
          obtain ⟨i, rfl, Hi, HG, HW⟩ := hrel
          obtain ⟨gk1, rfl⟩ : ∃ x, x = gk := ⟨gk, rfl⟩
          have x6 : wr.cell? ⟨w.heap.size, 6, none⟩ = some (.slice a.A6 n6 a.c6) := get_cell (blk_at HW.out) 6
          have x7 : wr.cell? ⟨w.heap.size, 7, none⟩ = some (.slice a.A7 n7 a.c7) := get_cell (blk_at HW.out) 7
          by_cases hlt : i < n7
          · obtain ⟨x, hx⟩ : ∃ x, o.cmds[i]? = some x := ⟨_, List.getElem?_eq_getElem (by have := HE.out.2.2.2.1; omega)⟩
            obtain ⟨adx, eAx, y0, y1⟩ := at_T95 (HO.out.sat HW.out).r7 (i : Int) (by omega) (by have := HE.out.2.2.2.1; omega)
            have evx : rd_T95 o.cmds (i : Int) = x := by
              have hl := (List.getElem?_eq_some_iff.1 hx).1
              have := (List.getElem?_eq_some_iff.1 hx).2
              simp [rd_T95, hl, this]
            rw [evx] at y0 y1
            simp only [Int.toNat_natCast] at y0 y1
            have HV := Aside0.mk hx
            rw [eAx] at x7
            have HS2 := Aside0.mk (And.intro eAx (And.intro y0 y1))
            have HO0 := Aside0.mk (show w.cell? (adx.add (i * 2)) = some (.string x.f0) from by
              obtain ⟨ad2, e2, v0, v1⟩ := at_T95 HO.out.r7 (i : Int) (by omega) (by have := HE.out.2.2.2.1; omega)
              rw [evx] at v0
              simp only [Int.toNat_natCast] at v0
              have h := eAx.symm.trans e2
              injection h with h
              rw [h]; exact v0)
            have q1 : (i < n7) = True := eq_true hlt
            have q2 : 0 ≤ (i : Int) := by omega
            have q3 : (i : Int) ≤ 100 := by omega
            have HQ := Aside0.mk hlt
            clear hlt evx hx eAx
            have HSZ := Aside0.mk (HF.out.cmd x (List.mem_iff_getElem?.2 ⟨i, HV.out⟩))
            have HBAD := Aside0.mk (show ¬ CmdOk o i x → r = false from fun hn => by
              cases r with
              | false => rfl
              | true => exact absurd ((HR.out.1 rfl).2.2.2.2 i x HV.out) hn)
            have HEQ := Aside0.mk (show CmdOk o i x ↔ (nameB x.f0 = true ∧ 0 ≤ x.f1 ∧ x.f1 < n6 ∧ ∀ (k : Nat) (y : S95), k < i → o.cmds[k]? = some y → y.f0 ≠ x.f0) from by unfold CmdOk; rw [HE.out.2.2.1])
            obtain ⟨mb, hmb⟩ : ∃ b, nameB x.f0 = b := ⟨_, rfl⟩
            have HMB := Aside0.mk hmb
            clear hmb
            go_wp2_with fail
            have hq := rname_calls x.f0 HSZ.out mb HMB.out wr
            (with_reducible refine hq.mono ?_)
            clear hq
            rintro e2 w2 ⟨rfl, hd2⟩
            have HW2 := Aside0.mk (HW.out.drawn hd2)
            have z1 := pw_cell_below hd2.below HS2.out.2.2
            clear hd2 x6 x7 y0 y1
            have x6 : w2.cell? ⟨w.heap.size, 6, none⟩ = some (.slice a.A6 n6 a.c6) := get_cell (blk_at HW2.out) 6
            have x7 : w2.cell? ⟨w.heap.size, 7, none⟩ = some (.slice a.A7 n7 a.c7) := get_cell (blk_at HW2.out) 7
            rw [HS2.out.1] at x7
            cases mb with
            | false =>
              have e : r = false := HBAD.out (fun h => by have h1 := h.1; rw [HMB.out] at h1; cases h1)
              subst e
              go_wp2_with fail
              go_quiet (fail)
              go_wp2_with fail
              go_ret
              exact ⟨by rfl, (HW2.out.drewN _).toBelow⟩
            | true =>
              by_cases gm1 : x.f1 < 0
              · have m1a : (x.f1 < 0) = True := eq_true gm1
                have m1b : decide (x.f1 < 0) = true := decide_eq_true gm1
                have e : r = false := HBAD.out (fun h => by rw [HEQ.out] at h; omega)
                subst e
                clear gm1
                go_wp2_with fail
                go_quiet (fail)
                go_wp2_with fail
                go_ret
                exact ⟨by rfl, (HW2.out.drewN _).toBelow⟩
              have m1a : (x.f1 < 0) = False := eq_false gm1
              have m1b : decide (x.f1 < 0) = false := decide_eq_false gm1
              have m1p : 0 ≤ x.f1 := by omega
              by_cases gm2 : ((n6 : Nat) : Int) ≤ x.f1
              · have m2a : (((n6 : Nat) : Int) ≤ x.f1) = True := eq_true gm2
                have m2b : decide (((n6 : Nat) : Int) ≤ x.f1) = true := decide_eq_true gm2
                have e : r = false := HBAD.out (fun h => by rw [HEQ.out] at h; omega)
                subst e
                clear gm1 gm2
                go_wp2_with fail
                go_quiet (fail)
                go_wp2_with fail
                go_ret
                exact ⟨by rfl, (HW2.out.drewN _).toBelow⟩
              have m2a : (((n6 : Nat) : Int) ≤ x.f1) = False := eq_false gm2
              have m2b : decide (((n6 : Nat) : Int) ≤ x.f1) = false := decide_eq_false gm2
              have HRG := Aside0.mk (show 0 ≤ x.f1 ∧ x.f1 < n6 from by omega)
              clear gm1 gm2
              go_wp2_with fail
              go_quiet (fail)
              go_wp2_with fail
              refine wp_abs (fun W => Sat w W [ABlk w.heap.size (.cells #[.string o.nm, .int .u32 o.key, .slice a.A2 n2 a.c2, .slice a.A3 n3 a.c3, .int .i64 o.data, .string o.text, .slice a.A6 n6 a.c6, .slice a.A7 n7 a.c7, .slice a.A8 n8 a.c8, .slice a.A9 n9 a.c9, .slice a.A10 n10 a.c10, .int .i64 o.x0, .int .i64 o.x1, .int .i64 o.x2, .int .i64 o.body] 31 (0, 0))]) (HW2.out.drewN _) (fun W3 hW3 => ?_)
              replace hW3 := Aside0.mk hW3
              clear HW2 HW z1 x6 x7
              go_loopg [9] (i + 1) (fun kq v w' => ∃ k : Nat, v = .int .i64 k ∧ Aside0 (k ≤ i ∧ i - k < kq) ∧ Aside0 (∀ (j : Nat) (y : S95), j < k → o.cmds[j]? = some y → y.f0 ≠ x.f0) ∧ Aside0 (Sat w w' [ABlk w.heap.size (.cells #[.string o.nm, .int .u32 o.key, .slice a.A2 n2 a.c2, .slice a.A3 n3 a.c3, .int .i64 o.data, .string o.text, .slice a.A6 n6 a.c6, .slice a.A7 n7 a.c7, .slice a.A8 n8 a.c8, .slice a.A9 n9 a.c9, .slice a.A10 n10 a.c10, .int .i64 o.x0, .int .i64 o.x1, .int .i64 o.x2, .int .i64 o.body] 31 (0, 0))]))
              case atStart => exact ⟨0, rfl, ⟨by omega⟩, ⟨fun j x h => absurd h (by omega)⟩, hW3⟩
              case round =>
                clear hW3
                obtain ⟨k, rfl, Hk, HGk, HW⟩ := hrel
                obtain ⟨gk2, rfl⟩ : ∃ x, x = gk := ⟨gk, rfl⟩
                have x7 : wr.cell? ⟨w.heap.size, 7, none⟩ = some (.slice a.A7 n7 a.c7) := get_cell (blk_at HW.out) 7
                have z0 := pw_cell_below HW.out.toBelow HO0.out
                by_cases hlt : k < i
                · obtain ⟨y, hy⟩ : ∃ y, o.cmds[k]? = some y := ⟨_, List.getElem?_eq_getElem (by have := HQ.out; have := HE.out.2.2.2.1; omega)⟩
                  obtain ⟨ady, eAy, u0, u1⟩ := at_T95 (HO.out.sat HW.out).r7 (k : Int) (by omega) (by have := HQ.out; have := HE.out.2.2.2.1; omega)
                  have evy : rd_T95 o.cmds (k : Int) = y := by
                    have hl := (List.getElem?_eq_some_iff.1 hy).1
                    have := (List.getElem?_eq_some_iff.1 hy).2
                    simp [rd_T95, hl, this]
                  rw [evy] at u0 u1
                  simp only [Int.toNat_natCast] at u0 u1
                  have eAd : adx = ady := by have h := HS2.out.1.symm.trans eAy; injection h
                  subst eAd
                  rw [HS2.out.1] at x7
                  have HY := Aside0.mk hy
                  have q4 : (k < i) = True := eq_true hlt
                  have q5 : 0 ≤ (k : Int) := by omega
                  have q7 : (k : Int) ≤ 100 := by omega
                  have q6 : (k < n7) = True := eq_true (by have := HQ.out; omega)
                  have HK := Aside0.mk hlt
                  clear hlt evy hy eAy
                  by_cases g4 : y.f0.toList = x.f0.toList
                  · have t4a : (y.f0.toList == x.f0.toList) = true := beq_iff_eq.2 g4
                    have t4b : (y.f0.toList = x.f0.toList) = True := eq_true g4
                    have e : r = false := HBAD.out (fun h => h.2.2.2 k y HK.out HY.out (toList_inj.1 g4))
                    subst e
                    clear g4
                    go_wp2_with fail
                    go_quiet (fail)
                    go_wp2_with fail
                    go_ret
                    exact ⟨by rfl, (HW.out.drewN _).toBelow⟩
                  · have t4a : (y.f0.toList == x.f0.toList) = false := beq_eq_false_iff_ne.2 g4
                    have t4b : (y.f0.toList = x.f0.toList) = False := eq_false g4
                    have HNE2 := Aside0.mk (show y.f0 ≠ x.f0 from fun h => g4 (toList_inj.2 h))
                    clear g4
                    go_wp2_with fail
                    go_quiet (fail)
                    go_wp2_with fail
                    go_roundg (gk2 - 1)
                    case measure => have := Hk.out; have := HK.out; omega
                    case rel => exact ⟨k + 1, by go_num, ⟨by have := Hk.out; have := HK.out; omega⟩, ⟨fun j u hj hu => by
                      by_cases hjk : j = k
                      · subst hjk
                        have := HY.out
                        rw [hu] at this
                        injection this with this
                        rw [this]; exact HNE2.out
                      · exact HGk.out j u (by omega) hu⟩, ⟨HW.out.drewN _⟩⟩
                · have hke : k = i := by have := Hk.out; omega
                  have HT := Aside0.mk (show CmdOk o i x from HEQ.out.2 ⟨HMB.out, HRG.out.1, HRG.out.2, fun j y hj hy => HGk.out j y (by omega) hy⟩)
                  have q4 : (k < i) = False := eq_false hlt
                  clear hlt x7 z0
                  go_wp2_with fail
                  go_roundg (gk1 - 1)
                  case measure => have := Hi.out; have := HQ.out; omega
                  case rel => exact ⟨i + 1, by go_num, ⟨by have := Hi.out; have := HQ.out; omega⟩, ⟨fun j u hj hu => by
                    by_cases hji : j = i
                    · subst hji
                      have := HV.out
                      rw [hu] at this
                      injection this with this
                      rw [this]; exact HT.out
                    · exact HG.out j u (by omega) hu⟩, HW⟩
          · have e : r = true := HR.out.2 ⟨HNB.out, by have := HE.out.1; have := HN.out; omega, by have := HE.out.2.2.2.1; have := HN.out; omega, HI.out, fun j x hj => HG.out j x (by have := (List.getElem?_eq_some_iff.1 hj).1; have := HE.out.2.2.2.1; omega) hj⟩
            subst e
            have q1 : (i < n7) = False := eq_false hlt
            clear hlt
            go_wp2_with fail
            go_ret
            exact ⟨by rfl, HW.out.toBelow⟩
end Go.Proofs.Ytnflalbiffamdaa.MineObj
