/- Chains of an object: which objects may be modules, by the program. Conditions: the parts are few, the words are words of 32 bits. -/
import Derived.Test.YtnflalbiffamdaaMinePchains
import Derived.Test.YtnflalbiffamdaaMinePartsB
namespace Go.Proofs.Ytnflalbiffamdaa.MineObj
open Go.RowKit Go.MapKept Go.Proofs.YtnflalbiffamdaaW.PrintWords Go.Proofs.YtnflalbiffamdaaW.PrintLast Go.Proofs.YtnflalbiffamdaaW.PrintMore Go.Proofs.Ytnflalbiffamdaa.MineBase Go.Proofs.Ytnflalbiffamdaa.MineSep Go.Proofs.Ytnflalbiffamdaa.MineRows Go.Proofs.Ytnflalbiffamdaa.MineGen Go.Proofs.Ytnflalbiffamdaa.MineName Go.Proofs.Ytnflalbiffamdaa.MineMap Go.Proofs.Ytnflalbiffamdaa.QCheckTells Go.Proofs.Ytnflalbiffamdaa.QCheckTellsPlain Go.Proofs.Ytnflalbiffamdaa.PureChain
attribute [local go_sem] Go.Proofs.Ytnflalbiffamdaa.MineErr.eql_err Go.Proofs.Ytnflalbiffamdaa.MineErr.neq_err Go.Proofs.Ytnflalbiffamdaa.MineErr.eql_nil_err Go.Proofs.Ytnflalbiffamdaa.MineErr.neq_nil_err
attribute [local go_sem ↓] Go.wp_at_zero Go.wp_at_succ
set_option linter.unusedVariables false
set_option linter.unusedSimpArgs false
theorem bool_of (p : Prop) : ∃ b : Bool, b = true ↔ p := by
  rcases Classical.em p with h | h
  · exact ⟨true, by simp [h]⟩
  · exact ⟨false, by simp [h]⟩
open Classical in
/-- All that an object's chains mean, if it may be a module. -/
noncomputable def refsF (o : Ob) : Option (List (List Rf)) := if NamesOk o ∧ PartsOk o then chainsF o else none
theorem refs_none {o : Ob} (h : ¬ (NamesOk o ∧ PartsOk o)) : refsF o = none := by unfold refsF; rw [if_neg h]
theorem refs_some {o : Ob} (h : NamesOk o ∧ PartsOk o) : refsF o = chainsF o := by unfold refsF; rw [if_pos h]
theorem refs_three {o : Ob} {ls : List (List Rf)} (h : refsF o = some ls) : ls.length = 3 := by
  rcases Classical.em (NamesOk o ∧ PartsOk o) with h1 | h1
  · rw [refs_some h1] at h; exact chains_len h
  · rw [refs_none h1] at h; cases h
theorem sees_len {α : Type} {d : Kd α} {w0 W : World} {l : List Asn} {vs : List Value} {xss : List (List α)} (h : Sat w0 W (ASees d vs xss :: l)) : vs.length = xss.length := by
  obtain ⟨D, ⟨h0, _⟩, _⟩ := h.head
  exact h0
/-- What an object is that Go hands over. -/
structure Sane (o : Ob) : Prop where
  code : ∀ x ∈ o.code, 0 ≤ x ∧ x < 4294967296
  fix : ∀ k, -9223372036854775808 ≤ fixO o k ∧ fixO o k ≤ 9223372036854775807
  data : -9223372036854775808 ≤ o.data ∧ o.data ≤ 9223372036854775807
theorem sees_under {α : Type} {d : Kd α} {w0 W w1 : World} {A B : Asn} {vs : List Value} {xss : List (List α)} (h : Sat w0 W [A, B]) (hs : Sat W w1 [ASees d vs xss]) : Sat w0 w1 [A, B, ASees d vs xss] := by
  obtain ⟨D, hP, hD⟩ := hs.head
  have h1 : Sat w0 w1 (ASees d vs xss :: [A, B]) := h.new (A := ASees d vs xss) hs.toBelow (D := D) hP (fun k hk => (hD k hk).1)
  exact h1.perm (List.perm_append_comm (l₁ := [ASees d vs xss]) (l₂ := [A, B]))
theorem vs_cells {o : Ob} {w0 W : World} {l : List Asn} {vs : List Value} {r : Option (List (List Rf))} (h : Sat w0 W (ASees k118 vs ((r.getD []).map (·.map p18)) :: l)) (hr : refsF o = r) : (arrV vs).size = 3 ∧ (arrV vs).all (·.oneCell') = true := by
  refine ⟨arr_size vs, ?_⟩
  have hl := sees_len h
  cases r with
  | none =>
    have e : vs = [] := List.length_eq_zero_iff.1 (by simpa using hl)
    subst e
    simp [arrV, Value.oneCell']
  | some ls =>
    have h3 := refs_three hr
    obtain ⟨a, b, c, rfl⟩ := three_of (vs := vs) (by rw [hl]; simpa using h3)
    exact sees_ones h

set_option maxRecDepth 100000 in
set_option maxHeartbeats 8000000 in
theorem prefs_calls (o : Ob) (a : Oa) (w : World) (n2 n3 n6 n7 n8 n9 n10 : Nat) (e2 : n2 = o.imps.length) (e3 : n3 = o.typs.length) (e6 : n6 = o.code.length) (e7 : n7 = o.cmds.length) (e8 : n8 = o.exps.length) (e9 : n9 = o.ptrs.length) (e10 : n10 = o.procs.length) (hO : ObR o a w) (hF : FewOk o) (hS : Sane o) (r : Option (List (List Rf))) (hr : refsF o = r) :
    Calls Try.prog 38 #[.agg #[.string o.nm, .int .u32 o.key, .slice a.A2 n2 a.c2, .slice a.A3 n3 a.c3, .int .i64 o.data, .string o.text, .slice a.A6 n6 a.c6, .slice a.A7 n7 a.c7, .slice a.A8 n8 a.c8, .slice a.A9 n9 a.c9, .slice a.A10 n10 a.c10, .int .i64 o.x0, .int .i64 o.x1, .int .i64 o.x2, .int .i64 o.body]] w fun e w' => ∃ vs, e = .returned (.tuple #[.agg (arrV vs), .bool r.isSome]) ∧ Sat w w' [ASees k118 vs ((r.getD []).map (·.map p18))] := by
  have HO := Aside0.mk hO
  have HR := Aside0.mk hr
  have HE := Aside0.mk (And.intro e2 (And.intro e3 (And.intro e6 (And.intro e7 (And.intro e8 (And.intro e9 e10))))))
  have hu31 := Try.underlying31
  have HF := Aside0.mk hF
  have HS := Aside0.mk hS
  have l2 : n2 ≤ 20 := by rw [e2]; exact hF.imps
  have l3 : n3 ≤ 20 := by rw [e3]; exact hF.typs
  have l6 : n6 ≤ 1100 := by rw [e6]; exact hF.code
  have l8 : n8 ≤ 300 := by rw [e8]; exact hF.exps
  have l9 : n9 ≤ 300 := by rw [e9]; exact hF.ptrs
  have l10 : n10 ≤ 300 := by rw [e10]; exact hF.procs
  clear hO hr hF hS e2 e3 e6 e7 e8 e9 e10
  have hu86 := Try.underlying86
  obtain ⟨nb, hnb⟩ := bool_of (NamesOk o)
  have HNB := Aside0.mk hnb
  clear hnb
  go_enter Try.func38, Try.ntmps38
  go_upto_region 1 with fail
  refine wp_abs (fun W => Sat w W [ABlk (w.heap.size + 1) (.cells #[.slice none 0 0, .slice none 0 0, .slice none 0 0] 86 (0, 0)), ABlk w.heap.size (.cells #[.string o.nm, .int .u32 o.key, .slice a.A2 n2 a.c2, .slice a.A3 n3 a.c3, .int .i64 o.data, .string o.text, .slice a.A6 n6 a.c6, .slice a.A7 n7 a.c7, .slice a.A8 n8 a.c8, .slice a.A9 n9 a.c9, .slice a.A10 n10 a.c10, .int .i64 o.x0, .int .i64 o.x1, .int .i64 o.x2, .int .i64 o.body] 31 (0, 0))]) ?_ (fun Wz hW => ?_)
  · have h := blk_new (blk_new (Sat.start w) (.cells #[.string o.nm, .int .u32 o.key, .slice a.A2 n2 a.c2, .slice a.A3 n3 a.c3, .int .i64 o.data, .string o.text, .slice a.A6 n6 a.c6, .slice a.A7 n7 a.c7, .slice a.A8 n8 a.c8, .slice a.A9 n9 a.c9, .slice a.A10 n10 a.c10, .int .i64 o.x0, .int .i64 o.x1, .int .i64 o.x2, .int .i64 o.body] 31)) (.cells #[.slice none 0 0, .slice none 0 0, .slice none 0 0] 86)
    rw [size_alloc2] at h
    exact h
  generalize w.heap.size + 1 = br at hW ⊢
  replace hW := Aside0.mk hW
  have x0 : Wz.cell? ⟨w.heap.size, 0, none⟩ = some (.string o.nm) := get_cell (blk_at hW.out.drop) 0
  have x1 : Wz.cell? ⟨w.heap.size, 1, none⟩ = some (.int .u32 o.key) := get_cell (blk_at hW.out.drop) 1
  have x2 : Wz.cell? ⟨w.heap.size, 2, none⟩ = some (.slice a.A2 n2 a.c2) := get_cell (blk_at hW.out.drop) 2
  have x3 : Wz.cell? ⟨w.heap.size, 3, none⟩ = some (.slice a.A3 n3 a.c3) := get_cell (blk_at hW.out.drop) 3
  have x4 : Wz.cell? ⟨w.heap.size, 4, none⟩ = some (.int .i64 o.data) := get_cell (blk_at hW.out.drop) 4
  have x5 : Wz.cell? ⟨w.heap.size, 5, none⟩ = some (.string o.text) := get_cell (blk_at hW.out.drop) 5
  have x6 : Wz.cell? ⟨w.heap.size, 6, none⟩ = some (.slice a.A6 n6 a.c6) := get_cell (blk_at hW.out.drop) 6
  have x7 : Wz.cell? ⟨w.heap.size, 7, none⟩ = some (.slice a.A7 n7 a.c7) := get_cell (blk_at hW.out.drop) 7
  have x8 : Wz.cell? ⟨w.heap.size, 8, none⟩ = some (.slice a.A8 n8 a.c8) := get_cell (blk_at hW.out.drop) 8
  have x9 : Wz.cell? ⟨w.heap.size, 9, none⟩ = some (.slice a.A9 n9 a.c9) := get_cell (blk_at hW.out.drop) 9
  have x10 : Wz.cell? ⟨w.heap.size, 10, none⟩ = some (.slice a.A10 n10 a.c10) := get_cell (blk_at hW.out.drop) 10
  have x11 : Wz.cell? ⟨w.heap.size, 11, none⟩ = some (.int .i64 o.x0) := get_cell (blk_at hW.out.drop) 11
  have x12 : Wz.cell? ⟨w.heap.size, 12, none⟩ = some (.int .i64 o.x1) := get_cell (blk_at hW.out.drop) 12
  have x13 : Wz.cell? ⟨w.heap.size, 13, none⟩ = some (.int .i64 o.x2) := get_cell (blk_at hW.out.drop) 13
  have x14 : Wz.cell? ⟨w.heap.size, 14, none⟩ = some (.int .i64 o.body) := get_cell (blk_at hW.out.drop) 14
  obtain ⟨bD, hbD⟩ : ∃ b, b = decide (0 ≤ o.data ∧ o.data ≤ 64) := ⟨_, rfl⟩
  have HBD := Aside0.mk hbD
  clear hbD
  cases bD with
  | false =>
    have gb1 := of_decide_eq_false HBD.out.symm
    have hrn := HR.out.symm.trans (refs_none (o := o) (fun h => by have h1 := h.2.1; unfold SizesOk at h1; have := HE.out.2.2.1; omega))
    subst hrn
    clear gb1
    go_wp2_with (first | (go_at_call 97; (with_reducible refine (in_calls o.data 64 _ HBD.out _).mono ?_); rintro e5 w5 ⟨rfl, h5⟩; replace h5 := h5.symm; subst h5) | (go_at_call 97; (with_reducible refine (in_calls o.body _ _ HBB.out _).mono ?_); rintro e5 w5 ⟨rfl, h5⟩; replace h5 := h5.symm; subst h5))
    have hq := pnames_calls o a Wz n2 n3 n6 n7 n8 n9 n10 HE.out.1 HE.out.2.1 HE.out.2.2.1 HE.out.2.2.2.1 HE.out.2.2.2.2.1 HE.out.2.2.2.2.2.1 HE.out.2.2.2.2.2.2 (HO.out.sat hW.out) HF.out nb HNB.out
    (with_reducible refine hq.mono ?_)
    clear hq
    rintro e7 w7 ⟨rfl, hb7⟩
    have HW7 := Aside0.mk (hW.out.below hb7)
    clear hb7 x0 x1 x2 x3 x4 x5 x6 x7 x8 x9 x10 x11 x12 x13 x14
    have x0 : w7.cell? ⟨w.heap.size, 0, none⟩ = some (.string o.nm) := get_cell (blk_at HW7.out.drop) 0
    have x1 : w7.cell? ⟨w.heap.size, 1, none⟩ = some (.int .u32 o.key) := get_cell (blk_at HW7.out.drop) 1
    have x2 : w7.cell? ⟨w.heap.size, 2, none⟩ = some (.slice a.A2 n2 a.c2) := get_cell (blk_at HW7.out.drop) 2
    have x3 : w7.cell? ⟨w.heap.size, 3, none⟩ = some (.slice a.A3 n3 a.c3) := get_cell (blk_at HW7.out.drop) 3
    have x4 : w7.cell? ⟨w.heap.size, 4, none⟩ = some (.int .i64 o.data) := get_cell (blk_at HW7.out.drop) 4
    have x5 : w7.cell? ⟨w.heap.size, 5, none⟩ = some (.string o.text) := get_cell (blk_at HW7.out.drop) 5
    have x6 : w7.cell? ⟨w.heap.size, 6, none⟩ = some (.slice a.A6 n6 a.c6) := get_cell (blk_at HW7.out.drop) 6
    have x7 : w7.cell? ⟨w.heap.size, 7, none⟩ = some (.slice a.A7 n7 a.c7) := get_cell (blk_at HW7.out.drop) 7
    have x8 : w7.cell? ⟨w.heap.size, 8, none⟩ = some (.slice a.A8 n8 a.c8) := get_cell (blk_at HW7.out.drop) 8
    have x9 : w7.cell? ⟨w.heap.size, 9, none⟩ = some (.slice a.A9 n9 a.c9) := get_cell (blk_at HW7.out.drop) 9
    have x10 : w7.cell? ⟨w.heap.size, 10, none⟩ = some (.slice a.A10 n10 a.c10) := get_cell (blk_at HW7.out.drop) 10
    have x11 : w7.cell? ⟨w.heap.size, 11, none⟩ = some (.int .i64 o.x0) := get_cell (blk_at HW7.out.drop) 11
    have x12 : w7.cell? ⟨w.heap.size, 12, none⟩ = some (.int .i64 o.x1) := get_cell (blk_at HW7.out.drop) 12
    have x13 : w7.cell? ⟨w.heap.size, 13, none⟩ = some (.int .i64 o.x2) := get_cell (blk_at HW7.out.drop) 13
    have x14 : w7.cell? ⟨w.heap.size, 14, none⟩ = some (.int .i64 o.body) := get_cell (blk_at HW7.out.drop) 14
    cases nb with
    | false =>
      go_wp2_with (refine wpList_store_row rfl 86 (.tmp 2) (.tmp 56) rfl br #[.slice none 0 0, .slice none 0 0, .slice none 0 0] rfl rfl 86 _ (blk_at HW7.out) (by kernel_rfl) rfl (by simp [Value.oneCell']) ?_; have HZ := Aside0.mk (blk_row (cs := #[.slice none 0 0, .slice none 0 0, .slice none 0 0]) HW7.out))
      exact bodyPost_ret (v := .tuple _) (res2 rfl _ _ br 86 _ (0, 0) _ rfl (blk_at HZ.out) Try.underlying86 rfl (by kernel_rfl) _ rfl) rfl ⟨[], rfl, sees_nil HZ.out⟩
    | true =>
      go_wp2_with (refine wpList_store_row rfl 86 (.tmp 2) (.tmp 56) rfl br #[.slice none 0 0, .slice none 0 0, .slice none 0 0] rfl rfl 86 _ (blk_at HW7.out) (by kernel_rfl) rfl (by simp [Value.oneCell']) ?_; have HZ := Aside0.mk (blk_row (cs := #[.slice none 0 0, .slice none 0 0, .slice none 0 0]) HW7.out))
      exact bodyPost_ret (v := .tuple _) (res2 rfl _ _ br 86 _ (0, 0) _ rfl (blk_at HZ.out) Try.underlying86 rfl (by kernel_rfl) _ rfl) rfl ⟨[], rfl, sees_nil HZ.out⟩
  | true =>
    have gb1 := of_decide_eq_true HBD.out.symm
    by_cases gs1 : ((o.text.size : Nat) : Int) ≤ 60
    · have s1a : (((o.text.size : Nat) : Int) ≤ 60) = True := eq_true gs1
      have s1b : decide (((o.text.size : Nat) : Int) ≤ 60) = true := decide_eq_true gs1
      have s1c : (o.text.size ≤ 60) = True := eq_true (by omega)
      by_cases gs2 : 1 ≤ ((n6 : Nat) : Int)
      · have s2a : (1 ≤ ((n6 : Nat) : Int)) = True := eq_true gs2
        have s2b : decide (1 ≤ ((n6 : Nat) : Int)) = true := decide_eq_true gs2
        have s2c : (1 ≤ n6) = True := eq_true (by omega)
        have s2d : (0 < n6) = True := eq_true (by omega)
        have s2e : (n6 = 0) = False := eq_false (by omega)
        by_cases gs3 : ((n6 : Nat) : Int) ≤ 256
        · have s3a : (((n6 : Nat) : Int) ≤ 256) = True := eq_true gs3
          have s3b : decide (((n6 : Nat) : Int) ≤ 256) = true := decide_eq_true gs3
          have s3c : (n6 ≤ 256) = True := eq_true (by omega)
          obtain ⟨bB, hbB⟩ : ∃ b, b = decide (0 ≤ o.body ∧ o.body ≤ ((n6 : Nat) : Int)) := ⟨_, rfl⟩
          have HBB := Aside0.mk hbB
          clear hbB
          cases bB with
          | false =>
            have gb2 := of_decide_eq_false HBB.out.symm
            have hrn := HR.out.symm.trans (refs_none (o := o) (fun h => by have h1 := h.2.1; unfold SizesOk at h1; have := HE.out.2.2.1; omega))
            subst hrn
            clear gb1 gs1 gs2 gs3 gb2
            go_wp2_with (first | (go_at_call 97; (with_reducible refine (in_calls o.data 64 _ HBD.out _).mono ?_); rintro e5 w5 ⟨rfl, h5⟩; replace h5 := h5.symm; subst h5) | (go_at_call 97; (with_reducible refine (in_calls o.body _ _ HBB.out _).mono ?_); rintro e5 w5 ⟨rfl, h5⟩; replace h5 := h5.symm; subst h5))
            have hq := pnames_calls o a Wz n2 n3 n6 n7 n8 n9 n10 HE.out.1 HE.out.2.1 HE.out.2.2.1 HE.out.2.2.2.1 HE.out.2.2.2.2.1 HE.out.2.2.2.2.2.1 HE.out.2.2.2.2.2.2 (HO.out.sat hW.out) HF.out nb HNB.out
            (with_reducible refine hq.mono ?_)
            clear hq
            rintro e7 w7 ⟨rfl, hb7⟩
            have HW7 := Aside0.mk (hW.out.below hb7)
            clear hb7 x0 x1 x2 x3 x4 x5 x6 x7 x8 x9 x10 x11 x12 x13 x14
            have x0 : w7.cell? ⟨w.heap.size, 0, none⟩ = some (.string o.nm) := get_cell (blk_at HW7.out.drop) 0
            have x1 : w7.cell? ⟨w.heap.size, 1, none⟩ = some (.int .u32 o.key) := get_cell (blk_at HW7.out.drop) 1
            have x2 : w7.cell? ⟨w.heap.size, 2, none⟩ = some (.slice a.A2 n2 a.c2) := get_cell (blk_at HW7.out.drop) 2
            have x3 : w7.cell? ⟨w.heap.size, 3, none⟩ = some (.slice a.A3 n3 a.c3) := get_cell (blk_at HW7.out.drop) 3
            have x4 : w7.cell? ⟨w.heap.size, 4, none⟩ = some (.int .i64 o.data) := get_cell (blk_at HW7.out.drop) 4
            have x5 : w7.cell? ⟨w.heap.size, 5, none⟩ = some (.string o.text) := get_cell (blk_at HW7.out.drop) 5
            have x6 : w7.cell? ⟨w.heap.size, 6, none⟩ = some (.slice a.A6 n6 a.c6) := get_cell (blk_at HW7.out.drop) 6
            have x7 : w7.cell? ⟨w.heap.size, 7, none⟩ = some (.slice a.A7 n7 a.c7) := get_cell (blk_at HW7.out.drop) 7
            have x8 : w7.cell? ⟨w.heap.size, 8, none⟩ = some (.slice a.A8 n8 a.c8) := get_cell (blk_at HW7.out.drop) 8
            have x9 : w7.cell? ⟨w.heap.size, 9, none⟩ = some (.slice a.A9 n9 a.c9) := get_cell (blk_at HW7.out.drop) 9
            have x10 : w7.cell? ⟨w.heap.size, 10, none⟩ = some (.slice a.A10 n10 a.c10) := get_cell (blk_at HW7.out.drop) 10
            have x11 : w7.cell? ⟨w.heap.size, 11, none⟩ = some (.int .i64 o.x0) := get_cell (blk_at HW7.out.drop) 11
            have x12 : w7.cell? ⟨w.heap.size, 12, none⟩ = some (.int .i64 o.x1) := get_cell (blk_at HW7.out.drop) 12
            have x13 : w7.cell? ⟨w.heap.size, 13, none⟩ = some (.int .i64 o.x2) := get_cell (blk_at HW7.out.drop) 13
            have x14 : w7.cell? ⟨w.heap.size, 14, none⟩ = some (.int .i64 o.body) := get_cell (blk_at HW7.out.drop) 14
            cases nb with
            | false =>
              go_wp2_with (refine wpList_store_row rfl 86 (.tmp 2) (.tmp 56) rfl br #[.slice none 0 0, .slice none 0 0, .slice none 0 0] rfl rfl 86 _ (blk_at HW7.out) (by kernel_rfl) rfl (by simp [Value.oneCell']) ?_; have HZ := Aside0.mk (blk_row (cs := #[.slice none 0 0, .slice none 0 0, .slice none 0 0]) HW7.out))
              exact bodyPost_ret (v := .tuple _) (res2 rfl _ _ br 86 _ (0, 0) _ rfl (blk_at HZ.out) Try.underlying86 rfl (by kernel_rfl) _ rfl) rfl ⟨[], rfl, sees_nil HZ.out⟩
            | true =>
              go_wp2_with (refine wpList_store_row rfl 86 (.tmp 2) (.tmp 56) rfl br #[.slice none 0 0, .slice none 0 0, .slice none 0 0] rfl rfl 86 _ (blk_at HW7.out) (by kernel_rfl) rfl (by simp [Value.oneCell']) ?_; have HZ := Aside0.mk (blk_row (cs := #[.slice none 0 0, .slice none 0 0, .slice none 0 0]) HW7.out))
              exact bodyPost_ret (v := .tuple _) (res2 rfl _ _ br 86 _ (0, 0) _ rfl (blk_at HZ.out) Try.underlying86 rfl (by kernel_rfl) _ rfl) rfl ⟨[], rfl, sees_nil HZ.out⟩
          | true =>
            have gb2 := of_decide_eq_true HBB.out.symm
            have HSZ := Aside0.mk (show 0 ≤ o.data ∧ o.data ≤ 64 ∧ o.text.size ≤ 60 ∧ 1 ≤ n6 ∧ n6 ≤ 256 ∧ 0 ≤ o.body ∧ o.body ≤ n6 from by omega)
            clear gb1 gs1 gs2 gs3 gb2
            go_wp2_with (first | (go_at_call 97; (with_reducible refine (in_calls o.data 64 _ HBD.out _).mono ?_); rintro e5 w5 ⟨rfl, h5⟩; replace h5 := h5.symm; subst h5) | (go_at_call 97; (with_reducible refine (in_calls o.body _ _ HBB.out _).mono ?_); rintro e5 w5 ⟨rfl, h5⟩; replace h5 := h5.symm; subst h5))
            have hq := pnames_calls o a Wz n2 n3 n6 n7 n8 n9 n10 HE.out.1 HE.out.2.1 HE.out.2.2.1 HE.out.2.2.2.1 HE.out.2.2.2.2.1 HE.out.2.2.2.2.2.1 HE.out.2.2.2.2.2.2 (HO.out.sat hW.out) HF.out nb HNB.out
            (with_reducible refine hq.mono ?_)
            clear hq
            rintro e7 w7 ⟨rfl, hb7⟩
            have HW7 := Aside0.mk (hW.out.below hb7)
            clear hb7 x0 x1 x2 x3 x4 x5 x6 x7 x8 x9 x10 x11 x12 x13 x14
            have x0 : w7.cell? ⟨w.heap.size, 0, none⟩ = some (.string o.nm) := get_cell (blk_at HW7.out.drop) 0
            have x1 : w7.cell? ⟨w.heap.size, 1, none⟩ = some (.int .u32 o.key) := get_cell (blk_at HW7.out.drop) 1
            have x2 : w7.cell? ⟨w.heap.size, 2, none⟩ = some (.slice a.A2 n2 a.c2) := get_cell (blk_at HW7.out.drop) 2
            have x3 : w7.cell? ⟨w.heap.size, 3, none⟩ = some (.slice a.A3 n3 a.c3) := get_cell (blk_at HW7.out.drop) 3
            have x4 : w7.cell? ⟨w.heap.size, 4, none⟩ = some (.int .i64 o.data) := get_cell (blk_at HW7.out.drop) 4
            have x5 : w7.cell? ⟨w.heap.size, 5, none⟩ = some (.string o.text) := get_cell (blk_at HW7.out.drop) 5
            have x6 : w7.cell? ⟨w.heap.size, 6, none⟩ = some (.slice a.A6 n6 a.c6) := get_cell (blk_at HW7.out.drop) 6
            have x7 : w7.cell? ⟨w.heap.size, 7, none⟩ = some (.slice a.A7 n7 a.c7) := get_cell (blk_at HW7.out.drop) 7
            have x8 : w7.cell? ⟨w.heap.size, 8, none⟩ = some (.slice a.A8 n8 a.c8) := get_cell (blk_at HW7.out.drop) 8
            have x9 : w7.cell? ⟨w.heap.size, 9, none⟩ = some (.slice a.A9 n9 a.c9) := get_cell (blk_at HW7.out.drop) 9
            have x10 : w7.cell? ⟨w.heap.size, 10, none⟩ = some (.slice a.A10 n10 a.c10) := get_cell (blk_at HW7.out.drop) 10
            have x11 : w7.cell? ⟨w.heap.size, 11, none⟩ = some (.int .i64 o.x0) := get_cell (blk_at HW7.out.drop) 11
            have x12 : w7.cell? ⟨w.heap.size, 12, none⟩ = some (.int .i64 o.x1) := get_cell (blk_at HW7.out.drop) 12
            have x13 : w7.cell? ⟨w.heap.size, 13, none⟩ = some (.int .i64 o.x2) := get_cell (blk_at HW7.out.drop) 13
            have x14 : w7.cell? ⟨w.heap.size, 14, none⟩ = some (.int .i64 o.body) := get_cell (blk_at HW7.out.drop) 14
            cases nb with
            | false =>
              have hrn := HR.out.symm.trans (refs_none (o := o) (fun h => by have h1 := HNB.out.2 h.1; cases h1))
              subst hrn
              go_wp2_with (refine wpList_store_row rfl 86 (.tmp 2) (.tmp 56) rfl br #[.slice none 0 0, .slice none 0 0, .slice none 0 0] rfl rfl 86 _ (blk_at HW7.out) (by kernel_rfl) rfl (by simp [Value.oneCell']) ?_; have HZ := Aside0.mk (blk_row (cs := #[.slice none 0 0, .slice none 0 0, .slice none 0 0]) HW7.out))
              exact bodyPost_ret (v := .tuple _) (res2 rfl _ _ br 86 _ (0, 0) _ rfl (blk_at HZ.out) Try.underlying86 rfl (by kernel_rfl) _ rfl) rfl ⟨[], rfl, sees_nil HZ.out⟩
            | true =>
              have HNT := Aside0.mk (HNB.out.1 rfl)
              obtain ⟨rb, hrb⟩ := bool_of (TypesOk o ∧ o.typs.length ≤ 8)
              have HRB := Aside0.mk hrb
              clear hrb
              go_wp2_with fail
              have hq := records_calls o a w7 n2 n3 n6 n7 n8 n9 n10 HE.out.1 HE.out.2.1 HE.out.2.2.1 HE.out.2.2.2.1 HE.out.2.2.2.2.1 HE.out.2.2.2.2.2.1 HE.out.2.2.2.2.2.2 (HO.out.sat HW7.out) l3 l2 rb HRB.out
              (with_reducible refine hq.mono ?_)
              clear hq
              rintro e8 w8 ⟨rfl, hb8⟩
              have HW8 := Aside0.mk (HW7.out.below hb8)
              clear hb8 x0 x1 x2 x3 x4 x5 x6 x7 x8 x9 x10 x11 x12 x13 x14
              have x0 : w8.cell? ⟨w.heap.size, 0, none⟩ = some (.string o.nm) := get_cell (blk_at HW8.out.drop) 0
              have x1 : w8.cell? ⟨w.heap.size, 1, none⟩ = some (.int .u32 o.key) := get_cell (blk_at HW8.out.drop) 1
              have x2 : w8.cell? ⟨w.heap.size, 2, none⟩ = some (.slice a.A2 n2 a.c2) := get_cell (blk_at HW8.out.drop) 2
              have x3 : w8.cell? ⟨w.heap.size, 3, none⟩ = some (.slice a.A3 n3 a.c3) := get_cell (blk_at HW8.out.drop) 3
              have x4 : w8.cell? ⟨w.heap.size, 4, none⟩ = some (.int .i64 o.data) := get_cell (blk_at HW8.out.drop) 4
              have x5 : w8.cell? ⟨w.heap.size, 5, none⟩ = some (.string o.text) := get_cell (blk_at HW8.out.drop) 5
              have x6 : w8.cell? ⟨w.heap.size, 6, none⟩ = some (.slice a.A6 n6 a.c6) := get_cell (blk_at HW8.out.drop) 6
              have x7 : w8.cell? ⟨w.heap.size, 7, none⟩ = some (.slice a.A7 n7 a.c7) := get_cell (blk_at HW8.out.drop) 7
              have x8 : w8.cell? ⟨w.heap.size, 8, none⟩ = some (.slice a.A8 n8 a.c8) := get_cell (blk_at HW8.out.drop) 8
              have x9 : w8.cell? ⟨w.heap.size, 9, none⟩ = some (.slice a.A9 n9 a.c9) := get_cell (blk_at HW8.out.drop) 9
              have x10 : w8.cell? ⟨w.heap.size, 10, none⟩ = some (.slice a.A10 n10 a.c10) := get_cell (blk_at HW8.out.drop) 10
              have x11 : w8.cell? ⟨w.heap.size, 11, none⟩ = some (.int .i64 o.x0) := get_cell (blk_at HW8.out.drop) 11
              have x12 : w8.cell? ⟨w.heap.size, 12, none⟩ = some (.int .i64 o.x1) := get_cell (blk_at HW8.out.drop) 12
              have x13 : w8.cell? ⟨w.heap.size, 13, none⟩ = some (.int .i64 o.x2) := get_cell (blk_at HW8.out.drop) 13
              have x14 : w8.cell? ⟨w.heap.size, 14, none⟩ = some (.int .i64 o.body) := get_cell (blk_at HW8.out.drop) 14
              cases rb with
              | false =>
                have hrn := HR.out.symm.trans (refs_none (o := o) (fun h => by have h1 := HRB.out.2 ⟨h.2.2.1, h.2.1.2.2.2.2.2.2.2.1⟩; cases h1))
                subst hrn
                go_wp2_with (refine wpList_store_row rfl 86 (.tmp 2) (.tmp 56) rfl br #[.slice none 0 0, .slice none 0 0, .slice none 0 0] rfl rfl 86 _ (blk_at HW8.out) (by kernel_rfl) rfl (by simp [Value.oneCell']) ?_; have HZ := Aside0.mk (blk_row (cs := #[.slice none 0 0, .slice none 0 0, .slice none 0 0]) HW8.out))
                exact bodyPost_ret (v := .tuple _) (res2 rfl _ _ br 86 _ (0, 0) _ rfl (blk_at HZ.out) Try.underlying86 rfl (by kernel_rfl) _ rfl) rfl ⟨[], rfl, sees_nil HZ.out⟩
              | true =>
                have HRT := Aside0.mk (HRB.out.1 rfl)
                obtain ⟨eb, heb⟩ := bool_of (ExpsOk o ∧ o.exps.length ≤ 64)
                have HEB := Aside0.mk heb
                clear heb
                go_wp2_with fail
                have hq := exports_calls o a w8 n2 n3 n6 n7 n8 n9 n10 HE.out.1 HE.out.2.1 HE.out.2.2.1 HE.out.2.2.2.1 HE.out.2.2.2.2.1 HE.out.2.2.2.2.2.1 HE.out.2.2.2.2.2.2 (HO.out.sat HW8.out) l8 l6 l3 HS.out.data HSZ.out.1 eb HEB.out
                (with_reducible refine hq.mono ?_)
                clear hq
                rintro e9 w9 ⟨rfl, hb9⟩
                have HW9 := Aside0.mk (HW8.out.below hb9)
                clear hb9 x0 x1 x2 x3 x4 x5 x6 x7 x8 x9 x10 x11 x12 x13 x14
                have x0 : w9.cell? ⟨w.heap.size, 0, none⟩ = some (.string o.nm) := get_cell (blk_at HW9.out.drop) 0
                have x1 : w9.cell? ⟨w.heap.size, 1, none⟩ = some (.int .u32 o.key) := get_cell (blk_at HW9.out.drop) 1
                have x2 : w9.cell? ⟨w.heap.size, 2, none⟩ = some (.slice a.A2 n2 a.c2) := get_cell (blk_at HW9.out.drop) 2
                have x3 : w9.cell? ⟨w.heap.size, 3, none⟩ = some (.slice a.A3 n3 a.c3) := get_cell (blk_at HW9.out.drop) 3
                have x4 : w9.cell? ⟨w.heap.size, 4, none⟩ = some (.int .i64 o.data) := get_cell (blk_at HW9.out.drop) 4
                have x5 : w9.cell? ⟨w.heap.size, 5, none⟩ = some (.string o.text) := get_cell (blk_at HW9.out.drop) 5
                have x6 : w9.cell? ⟨w.heap.size, 6, none⟩ = some (.slice a.A6 n6 a.c6) := get_cell (blk_at HW9.out.drop) 6
                have x7 : w9.cell? ⟨w.heap.size, 7, none⟩ = some (.slice a.A7 n7 a.c7) := get_cell (blk_at HW9.out.drop) 7
                have x8 : w9.cell? ⟨w.heap.size, 8, none⟩ = some (.slice a.A8 n8 a.c8) := get_cell (blk_at HW9.out.drop) 8
                have x9 : w9.cell? ⟨w.heap.size, 9, none⟩ = some (.slice a.A9 n9 a.c9) := get_cell (blk_at HW9.out.drop) 9
                have x10 : w9.cell? ⟨w.heap.size, 10, none⟩ = some (.slice a.A10 n10 a.c10) := get_cell (blk_at HW9.out.drop) 10
                have x11 : w9.cell? ⟨w.heap.size, 11, none⟩ = some (.int .i64 o.x0) := get_cell (blk_at HW9.out.drop) 11
                have x12 : w9.cell? ⟨w.heap.size, 12, none⟩ = some (.int .i64 o.x1) := get_cell (blk_at HW9.out.drop) 12
                have x13 : w9.cell? ⟨w.heap.size, 13, none⟩ = some (.int .i64 o.x2) := get_cell (blk_at HW9.out.drop) 13
                have x14 : w9.cell? ⟨w.heap.size, 14, none⟩ = some (.int .i64 o.body) := get_cell (blk_at HW9.out.drop) 14
                cases eb with
                | false =>
                  have hrn := HR.out.symm.trans (refs_none (o := o) (fun h => by have h1 := HEB.out.2 ⟨h.2.2.2.1, h.2.1.2.2.2.2.2.2.2.2.1⟩; cases h1))
                  subst hrn
                  go_wp2_with (refine wpList_store_row rfl 86 (.tmp 2) (.tmp 56) rfl br #[.slice none 0 0, .slice none 0 0, .slice none 0 0] rfl rfl 86 _ (blk_at HW9.out) (by kernel_rfl) rfl (by simp [Value.oneCell']) ?_; have HZ := Aside0.mk (blk_row (cs := #[.slice none 0 0, .slice none 0 0, .slice none 0 0]) HW9.out))
                  exact bodyPost_ret (v := .tuple _) (res2 rfl _ _ br 86 _ (0, 0) _ rfl (blk_at HZ.out) Try.underlying86 rfl (by kernel_rfl) _ rfl) rfl ⟨[], rfl, sees_nil HZ.out⟩
                | true =>
                  have HET := Aside0.mk (HEB.out.1 rfl)
                  obtain ⟨cb, hcb⟩ := bool_of (CellsOk o ∧ o.ptrs.length ≤ 16 ∧ o.procs.length ≤ 16)
                  have HCB := Aside0.mk hcb
                  clear hcb
                  go_wp2_with fail
                  have hq := cells_calls o a w9 n2 n3 n6 n7 n8 n9 n10 HE.out.1 HE.out.2.1 HE.out.2.2.1 HE.out.2.2.2.1 HE.out.2.2.2.2.1 HE.out.2.2.2.2.2.1 HE.out.2.2.2.2.2.2 (HO.out.sat HW9.out) l9 l10 HSZ.out.1 HS.out.data.2 cb HCB.out
                  (with_reducible refine hq.mono ?_)
                  clear hq
                  rintro e10 w10 ⟨rfl, hb10⟩
                  have HW10 := Aside0.mk (HW9.out.below hb10)
                  clear hb10 x0 x1 x2 x3 x4 x5 x6 x7 x8 x9 x10 x11 x12 x13 x14
                  have x0 : w10.cell? ⟨w.heap.size, 0, none⟩ = some (.string o.nm) := get_cell (blk_at HW10.out.drop) 0
                  have x1 : w10.cell? ⟨w.heap.size, 1, none⟩ = some (.int .u32 o.key) := get_cell (blk_at HW10.out.drop) 1
                  have x2 : w10.cell? ⟨w.heap.size, 2, none⟩ = some (.slice a.A2 n2 a.c2) := get_cell (blk_at HW10.out.drop) 2
                  have x3 : w10.cell? ⟨w.heap.size, 3, none⟩ = some (.slice a.A3 n3 a.c3) := get_cell (blk_at HW10.out.drop) 3
                  have x4 : w10.cell? ⟨w.heap.size, 4, none⟩ = some (.int .i64 o.data) := get_cell (blk_at HW10.out.drop) 4
                  have x5 : w10.cell? ⟨w.heap.size, 5, none⟩ = some (.string o.text) := get_cell (blk_at HW10.out.drop) 5
                  have x6 : w10.cell? ⟨w.heap.size, 6, none⟩ = some (.slice a.A6 n6 a.c6) := get_cell (blk_at HW10.out.drop) 6
                  have x7 : w10.cell? ⟨w.heap.size, 7, none⟩ = some (.slice a.A7 n7 a.c7) := get_cell (blk_at HW10.out.drop) 7
                  have x8 : w10.cell? ⟨w.heap.size, 8, none⟩ = some (.slice a.A8 n8 a.c8) := get_cell (blk_at HW10.out.drop) 8
                  have x9 : w10.cell? ⟨w.heap.size, 9, none⟩ = some (.slice a.A9 n9 a.c9) := get_cell (blk_at HW10.out.drop) 9
                  have x10 : w10.cell? ⟨w.heap.size, 10, none⟩ = some (.slice a.A10 n10 a.c10) := get_cell (blk_at HW10.out.drop) 10
                  have x11 : w10.cell? ⟨w.heap.size, 11, none⟩ = some (.int .i64 o.x0) := get_cell (blk_at HW10.out.drop) 11
                  have x12 : w10.cell? ⟨w.heap.size, 12, none⟩ = some (.int .i64 o.x1) := get_cell (blk_at HW10.out.drop) 12
                  have x13 : w10.cell? ⟨w.heap.size, 13, none⟩ = some (.int .i64 o.x2) := get_cell (blk_at HW10.out.drop) 13
                  have x14 : w10.cell? ⟨w.heap.size, 14, none⟩ = some (.int .i64 o.body) := get_cell (blk_at HW10.out.drop) 14
                  cases cb with
                  | false =>
                    have hrn := HR.out.symm.trans (refs_none (o := o) (fun h => by have h1 := HCB.out.2 ⟨h.2.2.2.2, h.2.1.2.2.2.2.2.2.2.2.2.1, h.2.1.2.2.2.2.2.2.2.2.2.2⟩; cases h1))
                    subst hrn
                    go_wp2_with (refine wpList_store_row rfl 86 (.tmp 2) (.tmp 56) rfl br #[.slice none 0 0, .slice none 0 0, .slice none 0 0] rfl rfl 86 _ (blk_at HW10.out) (by kernel_rfl) rfl (by simp [Value.oneCell']) ?_; have HZ := Aside0.mk (blk_row (cs := #[.slice none 0 0, .slice none 0 0, .slice none 0 0]) HW10.out))
                    exact bodyPost_ret (v := .tuple _) (res2 rfl _ _ br 86 _ (0, 0) _ rfl (blk_at HZ.out) Try.underlying86 rfl (by kernel_rfl) _ rfl) rfl ⟨[], rfl, sees_nil HZ.out⟩
                  | true =>
                    have HCT := Aside0.mk (HCB.out.1 rfl)
                    have hre := refs_some (o := o) ⟨HNT.out, ⟨by have h1 := HSZ.out; have h2 := HRT.out; have h3 := HET.out; have h4 := HCT.out; have := HE.out.2.2.1; unfold SizesOk; omega, HRT.out.1, HET.out.1, HCT.out.1⟩⟩
                    have HRC := Aside0.mk (hre.symm.trans HR.out)
                    clear hre
                    go_wp2_with fail
                    have hq := chains_calls o a w10 n2 n3 n6 n7 n8 n9 n10 HE.out.1 HE.out.2.1 HE.out.2.2.1 HE.out.2.2.2.1 HE.out.2.2.2.2.1 HE.out.2.2.2.2.2.1 HE.out.2.2.2.2.2.2 (HO.out.sat HW10.out) (by have := HSZ.out; omega) HS.out.code HS.out.fix r HRC.out
                    (with_reducible refine hq.mono ?_)
                    clear hq
                    rintro e11 w11 ⟨vs, rfl, hS11⟩
                    have HS11 := Aside0.mk hS11
                    have HW11 := Aside0.mk (HW10.out.below hS11.toBelow)
                    clear hS11
                    have HA := Aside0.mk (show Sat w w11 [ABlk br (.cells #[.slice none 0 0, .slice none 0 0, .slice none 0 0] 86 (0, 0)), ABlk w.heap.size (.cells #[.string o.nm, .int .u32 o.key, .slice a.A2 n2 a.c2, .slice a.A3 n3 a.c3, .int .i64 o.data, .string o.text, .slice a.A6 n6 a.c6, .slice a.A7 n7 a.c7, .slice a.A8 n8 a.c8, .slice a.A9 n9 a.c9, .slice a.A10 n10 a.c10, .int .i64 o.x0, .int .i64 o.x1, .int .i64 o.x2, .int .i64 o.body] 31 (0, 0)), ASees k118 vs ((r.getD []).map (·.map p18))] from sees_under HW10.out HS11.out)
                    have HVS := Aside0.mk (vs_cells (o := o) HS11.out (show refsF o = r from HR.out))
                    go_wp2_with (refine wpList_store_row rfl 86 (.tmp 2) (.tmp 59) rfl br (arrV vs) rfl rfl 86 _ (blk_at HA.out) (by rw [HVS.out.1]; kernel_rfl) HVS.out.1.symm HVS.out.2 ?_; have HZ := Aside0.mk (blk_row (cs := arrV vs) HA.out))
                    exact bodyPost_ret (v := .tuple _) (res2 rfl _ _ br 86 _ (0, 0) _ rfl (blk_at HZ.out) Try.underlying86 rfl (by rw [HVS.out.1]; kernel_rfl) _ rfl) rfl ⟨vs, rfl, HZ.out.drop.drop⟩
        · have s3a : (((n6 : Nat) : Int) ≤ 256) = False := eq_false gs3
          have s3b : decide (((n6 : Nat) : Int) ≤ 256) = false := decide_eq_false gs3
          have s3c : (n6 ≤ 256) = False := eq_false (by omega)
          have hrn := HR.out.symm.trans (refs_none (o := o) (fun h => by have h1 := h.2.1; unfold SizesOk at h1; have := HE.out.2.2.1; omega))
          subst hrn
          clear gb1 gs1 gs2 gs3
          go_wp2_with (first | (go_at_call 97; (with_reducible refine (in_calls o.data 64 _ HBD.out _).mono ?_); rintro e5 w5 ⟨rfl, h5⟩; replace h5 := h5.symm; subst h5) | (go_at_call 97; (with_reducible refine (in_calls o.body _ _ HBB.out _).mono ?_); rintro e5 w5 ⟨rfl, h5⟩; replace h5 := h5.symm; subst h5))
          have hq := pnames_calls o a Wz n2 n3 n6 n7 n8 n9 n10 HE.out.1 HE.out.2.1 HE.out.2.2.1 HE.out.2.2.2.1 HE.out.2.2.2.2.1 HE.out.2.2.2.2.2.1 HE.out.2.2.2.2.2.2 (HO.out.sat hW.out) HF.out nb HNB.out
          (with_reducible refine hq.mono ?_)
          clear hq
          rintro e7 w7 ⟨rfl, hb7⟩
          have HW7 := Aside0.mk (hW.out.below hb7)
          clear hb7 x0 x1 x2 x3 x4 x5 x6 x7 x8 x9 x10 x11 x12 x13 x14
          have x0 : w7.cell? ⟨w.heap.size, 0, none⟩ = some (.string o.nm) := get_cell (blk_at HW7.out.drop) 0
          have x1 : w7.cell? ⟨w.heap.size, 1, none⟩ = some (.int .u32 o.key) := get_cell (blk_at HW7.out.drop) 1
          have x2 : w7.cell? ⟨w.heap.size, 2, none⟩ = some (.slice a.A2 n2 a.c2) := get_cell (blk_at HW7.out.drop) 2
          have x3 : w7.cell? ⟨w.heap.size, 3, none⟩ = some (.slice a.A3 n3 a.c3) := get_cell (blk_at HW7.out.drop) 3
          have x4 : w7.cell? ⟨w.heap.size, 4, none⟩ = some (.int .i64 o.data) := get_cell (blk_at HW7.out.drop) 4
          have x5 : w7.cell? ⟨w.heap.size, 5, none⟩ = some (.string o.text) := get_cell (blk_at HW7.out.drop) 5
          have x6 : w7.cell? ⟨w.heap.size, 6, none⟩ = some (.slice a.A6 n6 a.c6) := get_cell (blk_at HW7.out.drop) 6
          have x7 : w7.cell? ⟨w.heap.size, 7, none⟩ = some (.slice a.A7 n7 a.c7) := get_cell (blk_at HW7.out.drop) 7
          have x8 : w7.cell? ⟨w.heap.size, 8, none⟩ = some (.slice a.A8 n8 a.c8) := get_cell (blk_at HW7.out.drop) 8
          have x9 : w7.cell? ⟨w.heap.size, 9, none⟩ = some (.slice a.A9 n9 a.c9) := get_cell (blk_at HW7.out.drop) 9
          have x10 : w7.cell? ⟨w.heap.size, 10, none⟩ = some (.slice a.A10 n10 a.c10) := get_cell (blk_at HW7.out.drop) 10
          have x11 : w7.cell? ⟨w.heap.size, 11, none⟩ = some (.int .i64 o.x0) := get_cell (blk_at HW7.out.drop) 11
          have x12 : w7.cell? ⟨w.heap.size, 12, none⟩ = some (.int .i64 o.x1) := get_cell (blk_at HW7.out.drop) 12
          have x13 : w7.cell? ⟨w.heap.size, 13, none⟩ = some (.int .i64 o.x2) := get_cell (blk_at HW7.out.drop) 13
          have x14 : w7.cell? ⟨w.heap.size, 14, none⟩ = some (.int .i64 o.body) := get_cell (blk_at HW7.out.drop) 14
          cases nb with
          | false =>
            go_wp2_with (refine wpList_store_row rfl 86 (.tmp 2) (.tmp 56) rfl br #[.slice none 0 0, .slice none 0 0, .slice none 0 0] rfl rfl 86 _ (blk_at HW7.out) (by kernel_rfl) rfl (by simp [Value.oneCell']) ?_; have HZ := Aside0.mk (blk_row (cs := #[.slice none 0 0, .slice none 0 0, .slice none 0 0]) HW7.out))
            exact bodyPost_ret (v := .tuple _) (res2 rfl _ _ br 86 _ (0, 0) _ rfl (blk_at HZ.out) Try.underlying86 rfl (by kernel_rfl) _ rfl) rfl ⟨[], rfl, sees_nil HZ.out⟩
          | true =>
            go_wp2_with (refine wpList_store_row rfl 86 (.tmp 2) (.tmp 56) rfl br #[.slice none 0 0, .slice none 0 0, .slice none 0 0] rfl rfl 86 _ (blk_at HW7.out) (by kernel_rfl) rfl (by simp [Value.oneCell']) ?_; have HZ := Aside0.mk (blk_row (cs := #[.slice none 0 0, .slice none 0 0, .slice none 0 0]) HW7.out))
            exact bodyPost_ret (v := .tuple _) (res2 rfl _ _ br 86 _ (0, 0) _ rfl (blk_at HZ.out) Try.underlying86 rfl (by kernel_rfl) _ rfl) rfl ⟨[], rfl, sees_nil HZ.out⟩
      · have s2a : (1 ≤ ((n6 : Nat) : Int)) = False := eq_false gs2
        have s2b : decide (1 ≤ ((n6 : Nat) : Int)) = false := decide_eq_false gs2
        have s2c : (1 ≤ n6) = False := eq_false (by omega)
        have s2d : (0 < n6) = False := eq_false (by omega)
        have s2e : (n6 = 0) = True := eq_true (by omega)
        have hrn := HR.out.symm.trans (refs_none (o := o) (fun h => by have h1 := h.2.1; unfold SizesOk at h1; have := HE.out.2.2.1; omega))
        subst hrn
        clear gb1 gs1 gs2
        go_wp2_with (first | (go_at_call 97; (with_reducible refine (in_calls o.data 64 _ HBD.out _).mono ?_); rintro e5 w5 ⟨rfl, h5⟩; replace h5 := h5.symm; subst h5) | (go_at_call 97; (with_reducible refine (in_calls o.body _ _ HBB.out _).mono ?_); rintro e5 w5 ⟨rfl, h5⟩; replace h5 := h5.symm; subst h5))
        have hq := pnames_calls o a Wz n2 n3 n6 n7 n8 n9 n10 HE.out.1 HE.out.2.1 HE.out.2.2.1 HE.out.2.2.2.1 HE.out.2.2.2.2.1 HE.out.2.2.2.2.2.1 HE.out.2.2.2.2.2.2 (HO.out.sat hW.out) HF.out nb HNB.out
        (with_reducible refine hq.mono ?_)
        clear hq
        rintro e7 w7 ⟨rfl, hb7⟩
        have HW7 := Aside0.mk (hW.out.below hb7)
        clear hb7 x0 x1 x2 x3 x4 x5 x6 x7 x8 x9 x10 x11 x12 x13 x14
        have x0 : w7.cell? ⟨w.heap.size, 0, none⟩ = some (.string o.nm) := get_cell (blk_at HW7.out.drop) 0
        have x1 : w7.cell? ⟨w.heap.size, 1, none⟩ = some (.int .u32 o.key) := get_cell (blk_at HW7.out.drop) 1
        have x2 : w7.cell? ⟨w.heap.size, 2, none⟩ = some (.slice a.A2 n2 a.c2) := get_cell (blk_at HW7.out.drop) 2
        have x3 : w7.cell? ⟨w.heap.size, 3, none⟩ = some (.slice a.A3 n3 a.c3) := get_cell (blk_at HW7.out.drop) 3
        have x4 : w7.cell? ⟨w.heap.size, 4, none⟩ = some (.int .i64 o.data) := get_cell (blk_at HW7.out.drop) 4
        have x5 : w7.cell? ⟨w.heap.size, 5, none⟩ = some (.string o.text) := get_cell (blk_at HW7.out.drop) 5
        have x6 : w7.cell? ⟨w.heap.size, 6, none⟩ = some (.slice a.A6 n6 a.c6) := get_cell (blk_at HW7.out.drop) 6
        have x7 : w7.cell? ⟨w.heap.size, 7, none⟩ = some (.slice a.A7 n7 a.c7) := get_cell (blk_at HW7.out.drop) 7
        have x8 : w7.cell? ⟨w.heap.size, 8, none⟩ = some (.slice a.A8 n8 a.c8) := get_cell (blk_at HW7.out.drop) 8
        have x9 : w7.cell? ⟨w.heap.size, 9, none⟩ = some (.slice a.A9 n9 a.c9) := get_cell (blk_at HW7.out.drop) 9
        have x10 : w7.cell? ⟨w.heap.size, 10, none⟩ = some (.slice a.A10 n10 a.c10) := get_cell (blk_at HW7.out.drop) 10
        have x11 : w7.cell? ⟨w.heap.size, 11, none⟩ = some (.int .i64 o.x0) := get_cell (blk_at HW7.out.drop) 11
        have x12 : w7.cell? ⟨w.heap.size, 12, none⟩ = some (.int .i64 o.x1) := get_cell (blk_at HW7.out.drop) 12
        have x13 : w7.cell? ⟨w.heap.size, 13, none⟩ = some (.int .i64 o.x2) := get_cell (blk_at HW7.out.drop) 13
        have x14 : w7.cell? ⟨w.heap.size, 14, none⟩ = some (.int .i64 o.body) := get_cell (blk_at HW7.out.drop) 14
        cases nb with
        | false =>
          go_wp2_with (refine wpList_store_row rfl 86 (.tmp 2) (.tmp 56) rfl br #[.slice none 0 0, .slice none 0 0, .slice none 0 0] rfl rfl 86 _ (blk_at HW7.out) (by kernel_rfl) rfl (by simp [Value.oneCell']) ?_; have HZ := Aside0.mk (blk_row (cs := #[.slice none 0 0, .slice none 0 0, .slice none 0 0]) HW7.out))
          exact bodyPost_ret (v := .tuple _) (res2 rfl _ _ br 86 _ (0, 0) _ rfl (blk_at HZ.out) Try.underlying86 rfl (by kernel_rfl) _ rfl) rfl ⟨[], rfl, sees_nil HZ.out⟩
        | true =>
          go_wp2_with (refine wpList_store_row rfl 86 (.tmp 2) (.tmp 56) rfl br #[.slice none 0 0, .slice none 0 0, .slice none 0 0] rfl rfl 86 _ (blk_at HW7.out) (by kernel_rfl) rfl (by simp [Value.oneCell']) ?_; have HZ := Aside0.mk (blk_row (cs := #[.slice none 0 0, .slice none 0 0, .slice none 0 0]) HW7.out))
          exact bodyPost_ret (v := .tuple _) (res2 rfl _ _ br 86 _ (0, 0) _ rfl (blk_at HZ.out) Try.underlying86 rfl (by kernel_rfl) _ rfl) rfl ⟨[], rfl, sees_nil HZ.out⟩
    · have s1a : (((o.text.size : Nat) : Int) ≤ 60) = False := eq_false gs1
      have s1b : decide (((o.text.size : Nat) : Int) ≤ 60) = false := decide_eq_false gs1
      have s1c : (o.text.size ≤ 60) = False := eq_false (by omega)
      have hrn := HR.out.symm.trans (refs_none (o := o) (fun h => by have h1 := h.2.1; unfold SizesOk at h1; have := HE.out.2.2.1; omega))
      subst hrn
      clear gb1 gs1
      go_wp2_with (first | (go_at_call 97; (with_reducible refine (in_calls o.data 64 _ HBD.out _).mono ?_); rintro e5 w5 ⟨rfl, h5⟩; replace h5 := h5.symm; subst h5) | (go_at_call 97; (with_reducible refine (in_calls o.body _ _ HBB.out _).mono ?_); rintro e5 w5 ⟨rfl, h5⟩; replace h5 := h5.symm; subst h5))
      have hq := pnames_calls o a Wz n2 n3 n6 n7 n8 n9 n10 HE.out.1 HE.out.2.1 HE.out.2.2.1 HE.out.2.2.2.1 HE.out.2.2.2.2.1 HE.out.2.2.2.2.2.1 HE.out.2.2.2.2.2.2 (HO.out.sat hW.out) HF.out nb HNB.out
      (with_reducible refine hq.mono ?_)
      clear hq
      rintro e7 w7 ⟨rfl, hb7⟩
      have HW7 := Aside0.mk (hW.out.below hb7)
      clear hb7 x0 x1 x2 x3 x4 x5 x6 x7 x8 x9 x10 x11 x12 x13 x14
      have x0 : w7.cell? ⟨w.heap.size, 0, none⟩ = some (.string o.nm) := get_cell (blk_at HW7.out.drop) 0
      have x1 : w7.cell? ⟨w.heap.size, 1, none⟩ = some (.int .u32 o.key) := get_cell (blk_at HW7.out.drop) 1
      have x2 : w7.cell? ⟨w.heap.size, 2, none⟩ = some (.slice a.A2 n2 a.c2) := get_cell (blk_at HW7.out.drop) 2
      have x3 : w7.cell? ⟨w.heap.size, 3, none⟩ = some (.slice a.A3 n3 a.c3) := get_cell (blk_at HW7.out.drop) 3
      have x4 : w7.cell? ⟨w.heap.size, 4, none⟩ = some (.int .i64 o.data) := get_cell (blk_at HW7.out.drop) 4
      have x5 : w7.cell? ⟨w.heap.size, 5, none⟩ = some (.string o.text) := get_cell (blk_at HW7.out.drop) 5
      have x6 : w7.cell? ⟨w.heap.size, 6, none⟩ = some (.slice a.A6 n6 a.c6) := get_cell (blk_at HW7.out.drop) 6
      have x7 : w7.cell? ⟨w.heap.size, 7, none⟩ = some (.slice a.A7 n7 a.c7) := get_cell (blk_at HW7.out.drop) 7
      have x8 : w7.cell? ⟨w.heap.size, 8, none⟩ = some (.slice a.A8 n8 a.c8) := get_cell (blk_at HW7.out.drop) 8
      have x9 : w7.cell? ⟨w.heap.size, 9, none⟩ = some (.slice a.A9 n9 a.c9) := get_cell (blk_at HW7.out.drop) 9
      have x10 : w7.cell? ⟨w.heap.size, 10, none⟩ = some (.slice a.A10 n10 a.c10) := get_cell (blk_at HW7.out.drop) 10
      have x11 : w7.cell? ⟨w.heap.size, 11, none⟩ = some (.int .i64 o.x0) := get_cell (blk_at HW7.out.drop) 11
      have x12 : w7.cell? ⟨w.heap.size, 12, none⟩ = some (.int .i64 o.x1) := get_cell (blk_at HW7.out.drop) 12
      have x13 : w7.cell? ⟨w.heap.size, 13, none⟩ = some (.int .i64 o.x2) := get_cell (blk_at HW7.out.drop) 13
      have x14 : w7.cell? ⟨w.heap.size, 14, none⟩ = some (.int .i64 o.body) := get_cell (blk_at HW7.out.drop) 14
      cases nb with
      | false =>
        go_wp2_with (refine wpList_store_row rfl 86 (.tmp 2) (.tmp 56) rfl br #[.slice none 0 0, .slice none 0 0, .slice none 0 0] rfl rfl 86 _ (blk_at HW7.out) (by kernel_rfl) rfl (by simp [Value.oneCell']) ?_; have HZ := Aside0.mk (blk_row (cs := #[.slice none 0 0, .slice none 0 0, .slice none 0 0]) HW7.out))
        exact bodyPost_ret (v := .tuple _) (res2 rfl _ _ br 86 _ (0, 0) _ rfl (blk_at HZ.out) Try.underlying86 rfl (by kernel_rfl) _ rfl) rfl ⟨[], rfl, sees_nil HZ.out⟩
      | true =>
        go_wp2_with (refine wpList_store_row rfl 86 (.tmp 2) (.tmp 56) rfl br #[.slice none 0 0, .slice none 0 0, .slice none 0 0] rfl rfl 86 _ (blk_at HW7.out) (by kernel_rfl) rfl (by simp [Value.oneCell']) ?_; have HZ := Aside0.mk (blk_row (cs := #[.slice none 0 0, .slice none 0 0, .slice none 0 0]) HW7.out))
        exact bodyPost_ret (v := .tuple _) (res2 rfl _ _ br 86 _ (0, 0) _ rfl (blk_at HZ.out) Try.underlying86 rfl (by kernel_rfl) _ rfl) rfl ⟨[], rfl, sees_nil HZ.out⟩
end Go.Proofs.Ytnflalbiffamdaa.MineObj
