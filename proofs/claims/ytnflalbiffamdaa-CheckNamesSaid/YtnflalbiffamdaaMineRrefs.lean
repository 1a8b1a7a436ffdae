/- Chains of an object: which objects may be modules, by the document. Conditions: the parts are few, the words are words of 32 bits. -/
import Derived.Test.YtnflalbiffamdaaMinePrefs
namespace Go.Proofs.Ytnflalbiffamdaa.MineObj
open Go.RowKit Go.MapKept Go.Proofs.YtnflalbiffamdaaW.PrintWords Go.Proofs.YtnflalbiffamdaaW.PrintLast Go.Proofs.YtnflalbiffamdaaW.PrintMore Go.Proofs.Ytnflalbiffamdaa.MineBase Go.Proofs.Ytnflalbiffamdaa.MineSep Go.Proofs.Ytnflalbiffamdaa.MineRows Go.Proofs.Ytnflalbiffamdaa.MineGen Go.Proofs.Ytnflalbiffamdaa.MineName Go.Proofs.Ytnflalbiffamdaa.MineMap Go.Proofs.Ytnflalbiffamdaa.QCheckTells Go.Proofs.Ytnflalbiffamdaa.QCheckTellsPlain Go.Proofs.Ytnflalbiffamdaa.PureChain
attribute [local go_sem] Go.Proofs.Ytnflalbiffamdaa.MineErr.eql_err Go.Proofs.Ytnflalbiffamdaa.MineErr.neq_err Go.Proofs.Ytnflalbiffamdaa.MineErr.eql_nil_err Go.Proofs.Ytnflalbiffamdaa.MineErr.neq_nil_err
attribute [local go_sem ↓] Go.wp_at_zero Go.wp_at_succ
set_option linter.unusedVariables false
set_option linter.unusedSimpArgs false
/-- append(v, x) to a row of the list. -/
theorem sat_append {P : Program} {ops : Array Oper} {rest : List Oper} {o : Oper} {a : Act} {Q : Exit → Act → World → Prop} {α : Type} (d : Kd α) {w0 W : World} {l : List Asn} (hgd : o.guard = none) (s x : Operand) (t e : TypeId) (z : Value) (bytes : Nat)
    (ho : o.op = .call { callee := .builtin .append, args := #[s, x], argTypes := #[t, t] })
    (ht : P.underlying t = some (.slice e)) (hinfo : (P.info? e).map (fun i => (i.zero, i.size, i.bytes)) = some (some z, d.sz, bytes)) (hz : z.cells.size = d.sz) (hs0 : 0 < d.sz) (hb0 : 0 < bytes)
    (v : Value) (xs : List α) (p : α) (cs : List Value) (hs : a.eval s = v) (hx : a.eval x = .slice (some ⟨W.heap.size, 0, none⟩) 1 1) (hp : ∀ W base, d.M W base (fun _ => False) p cs) (HS : Sat w0 W (ARow d e w0.heap.size v xs :: l)) (hl : (xs.length + 1) * bytes ≤ 140737488355328)
    (h : ∀ v1 w1, Sat w0 w1 (ARow d e w0.heap.size v1 (xs ++ [p]) :: l) → wpList P ops Q rest (a.put o.dst v1) w1) :
    wpList P ops Q (o :: rest) a (W.alloc (.cells cs.toArray e)) := by
  obtain ⟨D, hR, hD, _, hcl⟩ := HS.open_
  have hR2 : d.R e W w0.heap.size D v xs := hR
  refine Kd.R_append d (w0 := w0) w0.heap.size hgd s x t e z bytes ho ht hinfo hz hs0 hb0 v xs p cs (fun k => D k ∨ W.heap.size ≤ k) (fun _ => False) hs hx (hp _ _) (fun _ h => h.elim) (fun _ h => .inr h) (Kd.R_mono hR2 (fun _ h => .inl h)) HS.toBelow HS.size hl ?_
  intro v1 w1 hR1 hB1 hG1 hat1
  have hob : ∀ k, v.ownBlock = some k → D k := hR2.1
  exact h v1 w1 (hcl w1 (ARow d e w0.heap.size v1 (xs ++ [p])) _ hB1 (Kept.of_grown hG1 (Kept.refl W D) (fun k hk => .inl (hob k hk))) hR1 (fun _ h => h))
theorem info52 : (Try.prog.info? 52).map (fun i => (i.zero, i.size, i.bytes)) = some (some (.slice none 0 0), 1, 24) := by kernel_rfl
theorem parts_calls (o : Ob) (a : Oa) (w : World) (n2 n3 n6 n7 n8 n9 n10 : Nat) (e2 : n2 = o.imps.length) (e3 : n3 = o.typs.length) (e6 : n6 = o.code.length) (e7 : n7 = o.cmds.length) (e8 : n8 = o.exps.length) (e9 : n9 = o.ptrs.length) (e10 : n10 = o.procs.length) (hO : ObR o a w) (r : Bool) (hr : r = true ↔ PartsOk o) :
    Calls Try.prog 53 #[.agg #[.string o.nm, .int .u32 o.key, .slice a.A2 n2 a.c2, .slice a.A3 n3 a.c3, .int .i64 o.data, .string o.text, .slice a.A6 n6 a.c6, .slice a.A7 n7 a.c7, .slice a.A8 n8 a.c8, .slice a.A9 n9 a.c9, .slice a.A10 n10 a.c10, .int .i64 o.x0, .int .i64 o.x1, .int .i64 o.x2, .int .i64 o.body]] w fun e w' => e = .returned (.bool r) ∧ Below w.heap.size w w' := by
  by_cases h : SizesOk o
  · exact parts_good o a w n2 n3 n6 n7 n8 n9 n10 e2 e3 e6 e7 e8 e9 e10 hO h r (hr.trans ⟨fun h => h.2, fun h2 => ⟨h, h2⟩⟩)
  · have e : r = false := by
      cases r with
      | false => rfl
      | true => exact absurd (hr.1 rfl).1 h
    subst e e2 e3 e6 e7 e8 e9 e10
    exact parts_bad o a w h
theorem rwalk_calls {o : Ob} {A : Option Addr} {c n : Nat} (hn : n = o.code.length) (hC : ∀ x ∈ o.code, 0 ≤ x ∧ x < 4294967296) (hl : o.code.length ≤ 600) (hx : ∀ k, -9223372036854775808 ≤ fixO o k ∧ fixO o k ≤ 9223372036854775807) (k : Nat) {w : World} (hr : Kd.C (Kd.int .u32) w A o.code.length o.code) (hc : o.code.length ≤ c) :
    Calls Try.prog 21 #[.slice A n c, .int .i64 (fixO o k), .int .i64 (opO k)] w fun e w' => ∃ v, e = .returned (.tuple #[v, .bool (ansR (walkW o.code (fixO o k) (opO k))).2]) ∧ Kd.R k117 117 w' w.heap.size (fun _ => True) v (ansR (walkW o.code (fixO o k) (opO k))).1 ∧ Below w.heap.size w w' := by
  subst hn
  exact dowelref09_Walk.calls 2000 A c o.code (fixO o k) (opO k) _ _ w hr hc (walkW_eq o.code hC hl (fixO o k) (opO k) 2000 (by omega) (hx k)).2
theorem rref_three {w0 W : World} {l : List Asn} (h : Sat w0 W l) (o5 o6 : Obj) (hd : W.heap.size = W.heap.size) : Sat w0 ((W.alloc o5).alloc o6) (ABlk (W.heap.size + 1) o6 :: ABlk W.heap.size o5 :: l) := by
  have h1 := blk_new (blk_new h o5) o6
  rw [size_alloc2] at h1
  exact h1
theorem rperm5 (a b c d e : Asn) : [a, b, c, d, e].Perm [c, d, e, a, b] := perm_by a [a, b, c, d, e] [0, 1, 2, 3, 4] [2, 3, 4, 0, 1] (by decide)
theorem rperm7 (a b c d e f g : Asn) : [c, a, b, d, e, f, g].Perm [a, b, c, d, e, f, g] := perm_by a [a, b, c, d, e, f, g] [2, 0, 1, 3, 4, 5, 6] [0, 1, 2, 3, 4, 5, 6] (by decide)
theorem rperm6 (a b c d e f : Asn) : [e, a, b, c, d, f].Perm [a, f, b, c, d, e] := perm_by a [a, b, c, d, e, f] [4, 0, 1, 2, 3, 5] [0, 5, 1, 2, 3, 4] (by decide)
theorem rperm5b (a b c d e : Asn) : [a, b, c, d, e].Perm [b, c, d, e, a] := perm_by a [a, b, c, d, e] [0, 1, 2, 3, 4] [1, 2, 3, 4, 0] (by decide)

set_option maxRecDepth 100000 in
set_option maxHeartbeats 8000000 in
theorem rrefs_calls (o : Ob) (a : Oa) (w : World) (n2 n3 n6 n7 n8 n9 n10 : Nat) (e2 : n2 = o.imps.length) (e3 : n3 = o.typs.length) (e6 : n6 = o.code.length) (e7 : n7 = o.cmds.length) (e8 : n8 = o.exps.length) (e9 : n9 = o.ptrs.length) (e10 : n10 = o.procs.length) (hO : ObR o a w) (hF : FewOk o) (hS : Sane o) (r : Option (List (List Rf))) (hr : refsF o = r) :
    Calls Try.prog 17 #[.agg #[.string o.nm, .int .u32 o.key, .slice a.A2 n2 a.c2, .slice a.A3 n3 a.c3, .int .i64 o.data, .string o.text, .slice a.A6 n6 a.c6, .slice a.A7 n7 a.c7, .slice a.A8 n8 a.c8, .slice a.A9 n9 a.c9, .slice a.A10 n10 a.c10, .int .i64 o.x0, .int .i64 o.x1, .int .i64 o.x2, .int .i64 o.body]] w fun e w' => ∃ v vs, e = .returned (.tuple #[v, .bool r.isSome]) ∧ (∀ ls, r = some ls → Sat w w' [ARow (Kd.raw 1) 52 w.heap.size v (vs.map fun x => [x]), ASees k117 vs (ls.map (·.map p17))]) ∧ Below w.heap.size w w' := by
  have HO := Aside0.mk hO
  have HR := Aside0.mk hr
  have HE := Aside0.mk (And.intro e2 (And.intro e3 (And.intro e6 (And.intro e7 (And.intro e8 (And.intro e9 e10))))))
  have hu31 := Try.underlying31
  have HF := Aside0.mk hF
  have HS := Aside0.mk hS
  clear hO hr hF hS e2 e3 e6 e7 e8 e9 e10
  have hu117 := Try.underlying117
  have hu43 := Try.underlying43
  obtain ⟨nb, hnb⟩ := bool_of (NamesOk o)
  have HNB := Aside0.mk hnb
  obtain ⟨pb, hpb⟩ := bool_of (PartsOk o)
  have HPB := Aside0.mk hpb
  clear hnb hpb
  go_enter Try.func17, Try.ntmps17
  go_wp2_with fail
  have hW := Aside0.mk (blk_new (Sat.start w) (.cells #[.string o.nm, .int .u32 o.key, .slice a.A2 n2 a.c2, .slice a.A3 n3 a.c3, .int .i64 o.data, .string o.text, .slice a.A6 n6 a.c6, .slice a.A7 n7 a.c7, .slice a.A8 n8 a.c8, .slice a.A9 n9 a.c9, .slice a.A10 n10 a.c10, .int .i64 o.x0, .int .i64 o.x1, .int .i64 o.x2, .int .i64 o.body] 31))
  generalize w.alloc (.cells #[.string o.nm, .int .u32 o.key, .slice a.A2 n2 a.c2, .slice a.A3 n3 a.c3, .int .i64 o.data, .string o.text, .slice a.A6 n6 a.c6, .slice a.A7 n7 a.c7, .slice a.A8 n8 a.c8, .slice a.A9 n9 a.c9, .slice a.A10 n10 a.c10, .int .i64 o.x0, .int .i64 o.x1, .int .i64 o.x2, .int .i64 o.body] 31) = Wz at *
  have hq := rnames_calls o a Wz n2 n3 n6 n7 n8 n9 n10 HE.out.1 HE.out.2.1 HE.out.2.2.1 HE.out.2.2.2.1 HE.out.2.2.2.2.1 HE.out.2.2.2.2.2.1 HE.out.2.2.2.2.2.2 (HO.out.sat hW.out) HF.out nb HNB.out
  (with_reducible refine hq.mono ?_)
  clear hq
  rintro e1 w1 ⟨rfl, hb1⟩
  have HW1 := Aside0.mk (hW.out.below hb1)
  clear hb1 hW
  have x0 : w1.cell? ⟨w.heap.size, 0, none⟩ = some (.string o.nm) := get_cell (blk_at HW1.out) 0
  have x1 : w1.cell? ⟨w.heap.size, 1, none⟩ = some (.int .u32 o.key) := get_cell (blk_at HW1.out) 1
  have x2 : w1.cell? ⟨w.heap.size, 2, none⟩ = some (.slice a.A2 n2 a.c2) := get_cell (blk_at HW1.out) 2
  have x3 : w1.cell? ⟨w.heap.size, 3, none⟩ = some (.slice a.A3 n3 a.c3) := get_cell (blk_at HW1.out) 3
  have x4 : w1.cell? ⟨w.heap.size, 4, none⟩ = some (.int .i64 o.data) := get_cell (blk_at HW1.out) 4
  have x5 : w1.cell? ⟨w.heap.size, 5, none⟩ = some (.string o.text) := get_cell (blk_at HW1.out) 5
  have x6 : w1.cell? ⟨w.heap.size, 6, none⟩ = some (.slice a.A6 n6 a.c6) := get_cell (blk_at HW1.out) 6
  have x7 : w1.cell? ⟨w.heap.size, 7, none⟩ = some (.slice a.A7 n7 a.c7) := get_cell (blk_at HW1.out) 7
  have x8 : w1.cell? ⟨w.heap.size, 8, none⟩ = some (.slice a.A8 n8 a.c8) := get_cell (blk_at HW1.out) 8
  have x9 : w1.cell? ⟨w.heap.size, 9, none⟩ = some (.slice a.A9 n9 a.c9) := get_cell (blk_at HW1.out) 9
  have x10 : w1.cell? ⟨w.heap.size, 10, none⟩ = some (.slice a.A10 n10 a.c10) := get_cell (blk_at HW1.out) 10
  have x11 : w1.cell? ⟨w.heap.size, 11, none⟩ = some (.int .i64 o.x0) := get_cell (blk_at HW1.out) 11
  have x12 : w1.cell? ⟨w.heap.size, 12, none⟩ = some (.int .i64 o.x1) := get_cell (blk_at HW1.out) 12
  have x13 : w1.cell? ⟨w.heap.size, 13, none⟩ = some (.int .i64 o.x2) := get_cell (blk_at HW1.out) 13
  have x14 : w1.cell? ⟨w.heap.size, 14, none⟩ = some (.int .i64 o.body) := get_cell (blk_at HW1.out) 14
  go_wp2_with fail
  have hq := parts_calls o a w1 n2 n3 n6 n7 n8 n9 n10 HE.out.1 HE.out.2.1 HE.out.2.2.1 HE.out.2.2.2.1 HE.out.2.2.2.2.1 HE.out.2.2.2.2.2.1 HE.out.2.2.2.2.2.2 (HO.out.sat HW1.out) pb HPB.out
  (with_reducible refine hq.mono ?_)
  clear hq
  rintro e2 w2 ⟨rfl, hb2⟩
  have HW2 := Aside0.mk (HW1.out.below hb2)
  clear hb2 HW1 x0 x1 x2 x3 x4 x5 x6 x7 x8 x9 x10 x11 x12 x13 x14
  cases nb with
  | false =>
    have hrn := HR.out.symm.trans (refs_none (o := o) (fun h => by have h1 := HNB.out.2 h.1; cases h1))
    subst hrn
    go_wp2_with fail
    go_ret2
    exact ⟨_, [], by rfl, fun ls h => absurd h (by simp), HW2.out.toBelow⟩
  | true =>
    have HNT := Aside0.mk (HNB.out.1 rfl)
    cases pb with
    | false =>
      have hrn := HR.out.symm.trans (refs_none (o := o) (fun h => by have h1 := HPB.out.2 h.2; cases h1))
      subst hrn
      go_wp2_with fail
      go_ret2
      exact ⟨_, [], by rfl, fun ls h => absurd h (by simp), HW2.out.toBelow⟩
    | true =>
      have HPT := Aside0.mk (HPB.out.1 rfl)
      have HRC := Aside0.mk ((refs_some (o := o) ⟨HNT.out, HPT.out⟩).symm.trans HR.out)
      have HSZ := Aside0.mk (show 1 ≤ n6 ∧ n6 ≤ 256 ∧ n8 ≤ 64 from by have h1 := HPT.out.1; unfold SizesOk at h1; have := HE.out.2.2.1; have := HE.out.2.2.2.2.1; omega)
      have hmk : ∀ W : World, (Instr.makeSlice 115 (.int .i64 (n6 : Int)) (.int .i64 (n6 : Int))).run Try.prog W = .ok (.slice (some ⟨W.heap.size, 0, none⟩) n6 n6) (W.alloc (.cells (madeCells #[.bool false] n6) 4)) := print_make_of 115 4 (.bool false) 1 Try.underlying115 info4 rfl (by decide) n6 (by have := HSZ.out; omega)
      have x6 : w2.cell? ⟨w.heap.size, 6, none⟩ = some (.slice a.A6 n6 a.c6) := get_cell (blk_at HW2.out) 6
      have x6a : ∀ ob, (w2.alloc ob).cell? ⟨w.heap.size, 6, none⟩ = some (.slice a.A6 n6 a.c6) := fun ob => pw_cell_below (below_alloc (Below.refl _ _) ob) x6
      go_wp2_with fail
      refine wp_abs (fun W => Sat w W [ABlk (w2.heap.size + 1) (.cells (mbA (MB [] n6)) 4 (0, 0)), ABlk w2.heap.size (.cells #[.int .i64 20, .int .i64 1, .int .i64 1] 3 (0, 0)), ABlk w.heap.size (.cells #[.string o.nm, .int .u32 o.key, .slice a.A2 n2 a.c2, .slice a.A3 n3 a.c3, .int .i64 o.data, .string o.text, .slice a.A6 n6 a.c6, .slice a.A7 n7 a.c7, .slice a.A8 n8 a.c8, .slice a.A9 n9 a.c9, .slice a.A10 n10 a.c10, .int .i64 o.x0, .int .i64 o.x1, .int .i64 o.x2, .int .i64 o.body] 31 (0, 0)), ARow (Kd.raw 1) 52 w.heap.size (.slice none 0 0) (([] : List Value).map fun x => [x]), ASees k117 [] []]) ?_ (fun W hW => ?_)
      · have h := rref_three HW2.out (.cells #[.int .i64 20, .int .i64 1, .int .i64 1] 3) (.cells (madeCells #[.bool false] n6) 4) rfl
        rw [mb_make] at h ⊢
        have h2 := (sees_new (d := k117) h).newRow (d := Kd.raw 1) (e := 52) (base := w.heap.size) (ok := fun _ => True) (Below.refl _ _) (Kd.R_nil _ _ _ _ _) h.size
        exact h2.perm (rperm5 _ _ _ _ _)
      generalize w2.heap.size + 1 = bm at hW ⊢
      generalize w2.heap.size = bo at hW ⊢
      replace hW := Aside0.mk hW
      clear hmk x6 x6a HW2
      go_loopg [8, 9] 4 (fun kq v8 v9 w' => ∃ (k : Nat) (vs : List Value) (done : List (List Rf)) (S : List Int) (vo : Value), v8 = vo ∧ v9 = .int .i64 k ∧ Aside0 (k ≤ 3 ∧ 3 - k < kq ∧ vs.length = k ∧ done.length = k) ∧ Aside0 (chainsF o = more done (chainsFrom o (restW k) S)) ∧ Aside0 (Sat w w' [ABlk bm (.cells (mbA (MB S n6)) 4 (0, 0)), ABlk bo (.cells #[.int .i64 20, .int .i64 1, .int .i64 1] 3 (0, 0)), ABlk w.heap.size (.cells #[.string o.nm, .int .u32 o.key, .slice a.A2 n2 a.c2, .slice a.A3 n3 a.c3, .int .i64 o.data, .string o.text, .slice a.A6 n6 a.c6, .slice a.A7 n7 a.c7, .slice a.A8 n8 a.c8, .slice a.A9 n9 a.c9, .slice a.A10 n10 a.c10, .int .i64 o.x0, .int .i64 o.x1, .int .i64 o.x2, .int .i64 o.body] 31 (0, 0)), ARow (Kd.raw 1) 52 w.heap.size vo (vs.map fun x => [x]), ASees k117 vs (done.map (·.map p17))]))
      case atStart => exact ⟨0, [], [], [], _, rfl, rfl, ⟨by omega, by omega, rfl, rfl⟩, ⟨by unfold chainsF restW more; simp⟩, hW⟩
      case round =>
        clear hW
        obtain ⟨k, vs, done, S, vo, hv8, rfl, Hk, HCh, HW⟩ := hrel
        replace hv8 := hv8.symm
        subst hv8
        obtain ⟨gk1, rfl⟩ : ∃ x, x = gk := ⟨gk, rfl⟩
        by_cases hlt : k < 3
        · have HQ := Aside0.mk hlt
          have q1 : (k < 3) = True := eq_true hlt
          have q2 : 0 ≤ (k : Int) := by omega
          have q3 : (k : Int) < 3 := by omega
          have HO1 := Aside0.mk (Sat.pull (l1 := [_, _]) HW.out)
          have HO2 := Aside0.mk HW.out.swap
          have x6 : wr.cell? ⟨w.heap.size, 6, none⟩ = some (.slice a.A6 n6 a.c6) := get_cell (blk_at HO1.out) 6
          have xf : wr.cell? ⟨w.heap.size, 11 + k, none⟩ = some (.int .i64 (fixO o k)) := fix_cell (blk_at HO1.out) rfl rfl rfl hlt
          have xo : wr.cell? ⟨bo, k, none⟩ = some (.int .i64 (opO k)) := op_cell (blk_at HO2.out) hlt
          clear hlt
          go_upto_region 11 with fail
          have HS3 := Aside0.mk (fun (w2 : World) (hb : Below wr.heap.size wr w2) => (⟨pw_cell_below hb x6, pw_cell_below hb xf, pw_cell_below hb xo⟩ : w2.cell? ⟨w.heap.size, 6, none⟩ = some (.slice a.A6 n6 a.c6) ∧ w2.cell? ⟨w.heap.size, 11 + k, none⟩ = some (.int .i64 (fixO o k)) ∧ w2.cell? ⟨bo, k, none⟩ = some (.int .i64 (opO k))))
          clear x6 xf xo
          have HPW := Aside0.mk (fun w2 hr => rwalk_calls (n := n6) (A := a.A6) (c := a.c6) HE.out.2.2.1 HS.out.code (by have := HE.out.2.2.1; have := HSZ.out; omega) HS.out.fix k (w := w2) hr HO.out.l6)
          go_region_held3 (fun w' => w'.cell? ⟨w.heap.size, 6, none⟩ = some (.slice a.A6 n6 a.c6) ∧ w'.cell? ⟨w.heap.size, 11 + k, none⟩ = some (.int .i64 (fixO o k)) ∧ w'.cell? ⟨bo, k, none⟩ = some (.int .i64 (opO k))) ((refine HS3.out _ ?_; repeat (first | exact Below.refl _ _ | exact HB6.out | apply below_drew | apply pw_below_drewN))) (first | ((with_reducible refine (HPW.out _ (HO.out.sat (HW.out.below (by repeat (first | exact Below.refl _ _ | apply below_drew | apply pw_below_drewN)))).r6).mono ?_); rintro e6 w6 ⟨v6, rfl, hR6, hb6⟩; have HB6 := Aside0.mk (show Below wr.heap.size wr w6 from below_step (by repeat (first | exact Below.refl _ _ | apply below_drew | apply pw_below_drewN)) hb6); have HR6 := Aside0.mk (And.intro hR6 hb6); clear hR6 hb6))
          obtain ⟨x, hx⟩ : ∃ x, walkW o.code (fixO o k) (opO k) = x := ⟨_, rfl⟩
          have HX := Aside0.mk hx
          replace HR6 := HR6.out
          rw [hx] at HR6 ⊢
          clear hx
          replace HR6 := Aside0.mk HR6
          clear HPW HS3 HO1 HO2
          cases x with
          | none =>
            have hrn := chains_none HQ.out HCh.out HX.out
            rw [HRC.out] at hrn
            subst hrn
            have HS6 := Aside0.mk (HW.out.below HB6.out)
            have eE : (ansR none).2 = false := rfl
            rw [eE]
            clear eE
            go_wp2_with fail
            go_ret2
            exact ⟨_, [], by rfl, fun ls h => absurd h (by simp), HS6.out.toBelow⟩
          | some l =>
            have HS6 := Aside0.mk (show Sat w w6 (ARow k117 117 w.heap.size v6 (l.map p17) :: [ABlk bm (.cells (mbA (MB S n6)) 4 (0, 0)), ABlk bo (.cells #[.int .i64 20, .int .i64 1, .int .i64 1] 3 (0, 0)), ABlk w.heap.size (.cells #[.string o.nm, .int .u32 o.key, .slice a.A2 n2 a.c2, .slice a.A3 n3 a.c3, .int .i64 o.data, .string o.text, .slice a.A6 n6 a.c6, .slice a.A7 n7 a.c7, .slice a.A8 n8 a.c8, .slice a.A9 n9 a.c9, .slice a.A10 n10 a.c10, .int .i64 o.x0, .int .i64 o.x1, .int .i64 o.x2, .int .i64 o.body] 31 (0, 0)), ARow (Kd.raw 1) 52 w.heap.size vo (vs.map fun x => [x]), ASees k117 vs (done.map (·.map p17))]) from HW.out.newRow HB6.out (show k117.R 117 w6 wr.heap.size (fun _ => True) v6 (l.map p17) from HR6.out.1) HW.out.size)
            have HCW := Aside0.mk (chains_some HQ.out HCh.out HX.out)
            have HLI := Aside0.mk (walkW_in HX.out)
            obtain ⟨A8, c8, e8⟩ := HS6.out.rowSlice
            rw [List.length_map] at e8
            subst e8
            have eE : (ansR (some l)).2 = true := rfl
            rw [eE]
            clear eE HW HR6 HB6
            obtain ⟨nl, hnl⟩ : ∃ nl, l.length = nl := ⟨_, rfl⟩
            have HNL := Aside0.mk hnl
            rw [hnl] at HS6 ⊢
            clear hnl
            go_wp2_with fail
            go_loopg [12] (nl + 1) (fun kq v w' => ∃ (i : Nat) (S : List Int), v = .int .i64 i ∧ Aside0 (i ≤ nl ∧ nl - i < kq) ∧ Aside0 (chainsF o = within o k done l S i) ∧ Aside0 (Sat w w' [ARow k117 117 w.heap.size (.slice A8 nl c8) (l.map p17), ABlk bm (.cells (mbA (MB S n6)) 4 (0, 0)), ABlk bo (.cells #[.int .i64 20, .int .i64 1, .int .i64 1] 3 (0, 0)), ABlk w.heap.size (.cells #[.string o.nm, .int .u32 o.key, .slice a.A2 n2 a.c2, .slice a.A3 n3 a.c3, .int .i64 o.data, .string o.text, .slice a.A6 n6 a.c6, .slice a.A7 n7 a.c7, .slice a.A8 n8 a.c8, .slice a.A9 n9 a.c9, .slice a.A10 n10 a.c10, .int .i64 o.x0, .int .i64 o.x1, .int .i64 o.x2, .int .i64 o.body] 31 (0, 0)), ARow (Kd.raw 1) 52 w.heap.size vo (vs.map fun x => [x]), ASees k117 vs (done.map (·.map p17))]))
            case atStart => exact ⟨0, S, rfl, ⟨by omega⟩, HCW, HS6⟩
            case round =>
              clear HS6 HCW HCh
              obtain ⟨i, S, rfl, Hi, HCW, HW⟩ := hrel
              obtain ⟨gk2, rfl⟩ : ∃ x, x = gk := ⟨gk, rfl⟩
              by_cases hlt : i < nl
              · obtain ⟨rf, hrf⟩ : ∃ rf, l[i]? = some rf := ⟨_, List.getElem?_eq_getElem (by have := HNL.out; omega)⟩
                have HV := Aside0.mk hrf
                have HIN := Aside0.mk (HLI.out.2 rf (List.mem_iff_getElem?.2 ⟨i, hrf⟩))
                have HI1 := Aside0.mk (show nl ≤ 1000 from by have := HLI.out.1; have := HNL.out; omega)
                obtain ⟨ad, eA, y0, y1, y2⟩ := at_T117 (by obtain ⟨A, c, e, _, hC⟩ := HW.out.rowReads; injection e with e1 _ _; rw [← e1] at hC; exact hC) (i : Int) (by omega) (by rw [List.length_map]; have := HNL.out; omega)
                have ev : rd_T117 (l.map p17) (i : Int) = p17 rf := by
                  have hl := (List.getElem?_eq_some_iff.1 hrf).1
                  have := (List.getElem?_eq_some_iff.1 hrf).2
                  simp [rd_T117, hl, this]
                rw [ev] at y0 y1 y2
                simp only [Int.toNat_natCast, p17] at y0 y1 y2
                subst eA
                have HQ2 := Aside0.mk hlt
                have q4 : (i < nl) = True := eq_true hlt
                have q5 : 0 ≤ (i : Int) := by omega
                have q6 : (i : Int) ≤ 1000 := by have := HI1.out; omega
                clear hlt ev hrf
                have HX := Aside0.mk (blk_new HW.out (.cells #[.int .i64 0, .int .i64 0, .int .i64 0] 117))
                have HX7 := Aside0.mk (blk_row (cs := #[.int .i64 rf.a, .int .i64 rf.m, .int .i64 rf.e]) HX.out)
                go_upto_region 18 with (refine wpList_store_row rfl 117 (.tmp 13) (.tmp 59) rfl wr.heap.size #[.int .i64 rf.a, .int .i64 rf.m, .int .i64 rf.e] rfl rfl 117 _ (blk_at HX.out) (by kernel_rfl) rfl (by simp [Value.oneCell']) ?_)
                refine wp_abs (fun W => Sat w W (ABlk wr.heap.size (.cells #[.int .i64 rf.a, .int .i64 rf.m, .int .i64 rf.e] 117 (0, 0)) :: [ARow k117 117 w.heap.size (.slice (some ad) nl c8) (l.map p17), ABlk bm (.cells (mbA (MB S n6)) 4 (0, 0)), ABlk bo (.cells #[.int .i64 20, .int .i64 1, .int .i64 1] 3 (0, 0)), ABlk w.heap.size (.cells #[.string o.nm, .int .u32 o.key, .slice a.A2 n2 a.c2, .slice a.A3 n3 a.c3, .int .i64 o.data, .string o.text, .slice a.A6 n6 a.c6, .slice a.A7 n7 a.c7, .slice a.A8 n8 a.c8, .slice a.A9 n9 a.c9, .slice a.A10 n10 a.c10, .int .i64 o.x0, .int .i64 o.x1, .int .i64 o.x2, .int .i64 o.body] 31 (0, 0)), ARow (Kd.raw 1) 52 w.heap.size vo (vs.map fun x => [x]), ASees k117 vs (done.map (·.map p17))])) HX7.out (fun W7 hW7 => ?_)
                replace hW7 := Aside0.mk hW7
                clear HX HX7 y0 y1 y2
                obtain ⟨b7, hb7⟩ : ∃ b7, wr.heap.size = b7 := ⟨_, rfl⟩
                rw [hb7] at hW7 ⊢
                clear hb7
                have z0 : W7.cell? ⟨b7, 0, none⟩ = some (.int .i64 rf.a) := get_cell (blk_at hW7.out) 0
                have HMT := Aside0.mk (Sat.pull (l1 := [_, _]) hW7.out)
                have p1 : 0 ≤ rf.a := HIN.out.1
                have p2 : rf.a < (n6 : Int) := by have := HIN.out.2.1; have := HE.out.2.2.1; omega
                have p3 : rf.a.toNat < n6 := by omega
                have p4 : (n6 : Int) ≤ 256 := by have := HSZ.out; omega
                have HNN := Aside0.mk (show ((rf.a.toNat : Nat) : Int) = rf.a from by omega)
                have y1 : W7.cell? ⟨bm, rf.a.toNat, none⟩ = some (.bool (decide (rf.a ∈ S))) := by rw [get_cell (blk_at HMT.out) rf.a.toNat, mb_get p3, HNN.out]
                have y2 : W7.frozen? ⟨bm, rf.a.toNat, none⟩ = false := get_frozen (blk_at HMT.out) _
                by_cases gs : rf.a ∈ S
                · rw [decide_eq_true gs] at y1
                  have hrn := HCW.out.trans (within_seen HV.out gs)
                  rw [HRC.out] at hrn
                  subst hrn
                  clear gs
                  go_wp2_with fail
                  go_ret2
                  exact ⟨_, [], by rfl, fun ls h => absurd h (by simp), hW7.out.toBelow⟩
                · rw [decide_eq_false gs] at y1
                  have HGS := Aside0.mk gs
                  clear gs
                  have hp := blk_put HMT.out rf.a.toNat (.bool true)
                  rw [mb_put p3, HNN.out] at hp
                  have HP := Aside0.mk (show Sat w (W7.setCell ⟨bm, rf.a.toNat, none⟩ (.bool true)) (ABlk b7 (.cells #[.int .i64 rf.a, .int .i64 rf.m, .int .i64 rf.e] 117 (0, 0)) :: [ARow k117 117 w.heap.size (.slice (some ad) nl c8) (l.map p17), ABlk bm (.cells (mbA (MB (S ++ [rf.a]) n6)) 4 (0, 0)), ABlk bo (.cells #[.int .i64 20, .int .i64 1, .int .i64 1] 3 (0, 0)), ABlk w.heap.size (.cells #[.string o.nm, .int .u32 o.key, .slice a.A2 n2 a.c2, .slice a.A3 n3 a.c3, .int .i64 o.data, .string o.text, .slice a.A6 n6 a.c6, .slice a.A7 n7 a.c7, .slice a.A8 n8 a.c8, .slice a.A9 n9 a.c9, .slice a.A10 n10 a.c10, .int .i64 o.x0, .int .i64 o.x1, .int .i64 o.x2, .int .i64 o.body] 31 (0, 0)), ARow (Kd.raw 1) 52 w.heap.size vo (vs.map fun x => [x]), ASees k117 vs (done.map (·.map p17))]) from hp.perm (rperm7 _ _ _ _ _ _ _))
                  clear hp
                  go_upto_region 21 with fail
                  refine wp_abs (fun W => Sat w W (ABlk b7 (.cells #[.int .i64 rf.a, .int .i64 rf.m, .int .i64 rf.e] 117 (0, 0)) :: [ARow k117 117 w.heap.size (.slice (some ad) nl c8) (l.map p17), ABlk bm (.cells (mbA (MB (S ++ [rf.a]) n6)) 4 (0, 0)), ABlk bo (.cells #[.int .i64 20, .int .i64 1, .int .i64 1] 3 (0, 0)), ABlk w.heap.size (.cells #[.string o.nm, .int .u32 o.key, .slice a.A2 n2 a.c2, .slice a.A3 n3 a.c3, .int .i64 o.data, .string o.text, .slice a.A6 n6 a.c6, .slice a.A7 n7 a.c7, .slice a.A8 n8 a.c8, .slice a.A9 n9 a.c9, .slice a.A10 n10 a.c10, .int .i64 o.x0, .int .i64 o.x1, .int .i64 o.x2, .int .i64 o.body] 31 (0, 0)), ARow (Kd.raw 1) 52 w.heap.size vo (vs.map fun x => [x]), ASees k117 vs (done.map (·.map p17))])) HP.out (fun W8 hW8 => ?_)
                  replace hW8 := Aside0.mk hW8
                  clear HP HMT hW7 z0 y1 y2 p1 p2 p3 p4
                  have z1 : W8.cell? ⟨b7, 1, none⟩ = some (.int .i64 rf.m) := get_cell (blk_at hW8.out) 1
                  have z2 : W8.cell? ⟨b7, 2, none⟩ = some (.int .i64 rf.e) := get_cell (blk_at hW8.out) 2
                  have HO1 := Aside0.mk (Sat.pull (l1 := [_, _, _, _]) hW8.out)
                  have x2 : W8.cell? ⟨w.heap.size, 2, none⟩ = some (.slice a.A2 n2 a.c2) := get_cell (blk_at HO1.out) 2
                  have x5 : W8.cell? ⟨w.heap.size, 5, none⟩ = some (.string o.text) := get_cell (blk_at HO1.out) 5
                  have x8 : W8.cell? ⟨w.heap.size, 8, none⟩ = some (.slice a.A8 n8 a.c8) := get_cell (blk_at HO1.out) 8
                  by_cases gm : rf.m = 15
                  · have ma : (rf.m = 15) = True := eq_true gm
                    have mb : decide (rf.m = 15) = true := decide_eq_true gm
                    have mc : (rf.m == 15) = true := beq_iff_eq.2 gm
                    have md : (rf.m != 15) = false := by simpa using gm
                    by_cases gk : ((k : Nat) : Int) = 1
                    · have ka : (((k : Nat) : Int) = 1) = True := eq_true gk
                      have kb : decide (((k : Nat) : Int) = 1) = true := decide_eq_true gk
                      have kc : (((k : Nat) : Int) == 1) = true := beq_iff_eq.2 gk
                      have kd : (((k : Nat) : Int) != 1) = false := by simpa using gk
                      have ke : (k = 1) = True := eq_true (by omega)
                      by_cases gt : ((o.text.size : Nat) : Int) < rf.e
                      · have ta : (((o.text.size : Nat) : Int) < rf.e) = True := eq_true gt
                        have tb : decide (((o.text.size : Nat) : Int) < rf.e) = true := decide_eq_true gt
                        have hmf : meansB o k rf = false := by
                          unfold meansB
                          rw [if_pos gm]; exact decide_eq_false (by omega)
                        have hrn := HCW.out.trans (within_not HV.out hmf)
                        rw [HRC.out] at hrn
                        subst hrn
                        clear hmf gm gk gt
                        go_wp2_with fail
                        go_ret2
                        exact ⟨_, [], by rfl, fun ls h => absurd h (by simp), hW8.out.toBelow⟩
                      · have ta : (((o.text.size : Nat) : Int) < rf.e) = False := eq_false gt
                        have tb : decide (((o.text.size : Nat) : Int) < rf.e) = false := decide_eq_false gt
                        have hmt : meansB o k rf = true := by
                          unfold meansB
                          rw [if_pos gm]; exact decide_eq_true (by omega)
                        have HCN := Aside0.mk (HCW.out.trans (within_step HV.out HGS.out hmt))
                        clear hmt gm gk gt
                        go_wp2_with fail
                        go_roundg (gk2 - 1)
                        case measure => have := Hi.out; have := HQ2.out; omega
                        case rel => exact ⟨i + 1, S ++ [rf.a], by go_num, ⟨by have := Hi.out; have := HQ2.out; omega⟩, HCN, ⟨hW8.out.drop⟩⟩
                    · have ka : (((k : Nat) : Int) = 1) = False := eq_false gk
                      have kb : decide (((k : Nat) : Int) = 1) = false := decide_eq_false gk
                      have kc : (((k : Nat) : Int) == 1) = false := beq_eq_false_iff_ne.2 gk
                      have kd : (((k : Nat) : Int) != 1) = true := by simpa using gk
                      have ke : (k = 1) = False := eq_false (by omega)
                      have hmf : meansB o k rf = false := by
                        unfold meansB
                        rw [if_pos gm]; exact decide_eq_false (by omega)
                      have hrn := HCW.out.trans (within_not HV.out hmf)
                      rw [HRC.out] at hrn
                      subst hrn
                      clear hmf gm gk
                      go_wp2_with fail
                      go_ret2
                      exact ⟨_, [], by rfl, fun ls h => absurd h (by simp), hW8.out.toBelow⟩
                  · have ma : (rf.m = 15) = False := eq_false gm
                    have mb : decide (rf.m = 15) = false := decide_eq_false gm
                    have mc : (rf.m == 15) = false := beq_eq_false_iff_ne.2 gm
                    have md : (rf.m != 15) = true := by simpa using gm
                    by_cases gi : ((n2 : Nat) : Int) < rf.m
                    · have ia : (((n2 : Nat) : Int) < rf.m) = True := eq_true gi
                      have ib : decide (((n2 : Nat) : Int) < rf.m) = true := decide_eq_true gi
                      have hmf : meansB o k rf = false := by
                        unfold meansB
                        rw [if_neg gm, if_pos (by omega)]; exact decide_eq_false (by have := HE.out.1; omega)
                      have hrn := HCW.out.trans (within_not HV.out hmf)
                      rw [HRC.out] at hrn
                      subst hrn
                      clear hmf gm gi
                      go_wp2_with fail
                      go_ret2
                      exact ⟨_, [], by rfl, fun ls h => absurd h (by simp), hW8.out.toBelow⟩
                    · have ia : (((n2 : Nat) : Int) < rf.m) = False := eq_false gi
                      have ib : decide (((n2 : Nat) : Int) < rf.m) = false := decide_eq_false gi
                      by_cases gz : rf.m = 0
                      · have za : (rf.m = 0) = True := eq_true gz
                        have zb : decide (rf.m = 0) = true := decide_eq_true gz
                        have zc : (rf.m == 0) = true := beq_iff_eq.2 gz
                        have zd : (rf.m != 0) = false := by simpa using gz
                        by_cases ge : ((n8 : Nat) : Int) ≤ rf.e
                        · have ea : (((n8 : Nat) : Int) ≤ rf.e) = True := eq_true ge
                          have eb : decide (((n8 : Nat) : Int) ≤ rf.e) = true := decide_eq_true ge
                          have hmf : meansB o k rf = false := by
                            unfold meansB
                            rw [if_neg gm, if_neg (by omega), decide_eq_false (by have := HE.out.2.2.2.2.1; omega), Bool.false_and]
                          have hrn := HCW.out.trans (within_not HV.out hmf)
                          rw [HRC.out] at hrn
                          subst hrn
                          clear hmf gm gi gz ge
                          go_wp2_with fail
                          go_ret2
                          exact ⟨_, [], by rfl, fun ls h => absurd h (by simp), hW8.out.toBelow⟩
                        · have ea : (((n8 : Nat) : Int) ≤ rf.e) = False := eq_false ge
                          have eb : decide (((n8 : Nat) : Int) ≤ rf.e) = false := decide_eq_false ge
                          obtain ⟨adx, eAx, u0, _⟩ := at_T43 (HO.out.sat hW8.out).r8 rf.e HIN.out.2.2.2.2.1 (by have := HE.out.2.2.2.2.1; omega)
                          rw [eAx] at x8
                          have w0 : 0 ≤ rf.e := HIN.out.2.2.2.2.1
                          have w1 : rf.e < (n8 : Int) := by omega
                          have w2 : (n8 : Int) ≤ 64 := by have := HSZ.out; omega
                          obtain ⟨fb, hfb⟩ : ∃ fb, fitsB (k : Int) (rd_T43 o.exps rf.e).f0 = fb := ⟨_, rfl⟩
                          have HFB := Aside0.mk hfb
                          clear hfb
                          have HGM := Aside0.mk (And.intro gm (And.intro gz ge))
                          clear gm gz ge gi eAx
                          go_wp2_with fail
                          have hq := dowelref09_Fits.calls (k : Int) (rd_T43 o.exps rf.e).f0 fb W8 (by rw [rfits_val, HFB.out])
                          (with_reducible refine hq.mono ?_)
                          clear hq
                          rintro e9 w9 ⟨rfl, hd9⟩
                          have HW9 := Aside0.mk (hW8.out.drawn hd9)
                          clear hd9
                          cases fb with
                          | false =>
                            have hmf : meansB o k rf = false := by
                              unfold meansB
                              rw [if_neg HGM.out.1, if_neg (by have := HGM.out.2.1; omega), HFB.out, Bool.and_false]
                            have hrn := HCW.out.trans (within_not HV.out hmf)
                            rw [HRC.out] at hrn
                            subst hrn
                            clear hmf w0
                            go_wp2_with fail
                            go_ret2
                            exact ⟨_, [], by rfl, fun ls h => absurd h (by simp), HW9.out.toBelow⟩
                          | true =>
                            have hmt : meansB o k rf = true := by
                              unfold meansB
                              rw [if_neg HGM.out.1, if_neg (by have := HGM.out.2.1; omega), HFB.out, Bool.and_true]; exact decide_eq_true (by have := HGM.out.2.2; have := HE.out.2.2.2.2.1; omega)
                            have HCN := Aside0.mk (HCW.out.trans (within_step HV.out HGS.out hmt))
                            clear hmt w0
                            go_wp2_with fail
                            go_roundg (gk2 - 1)
                            case measure => have := Hi.out; have := HQ2.out; omega
                            case rel => exact ⟨i + 1, S ++ [rf.a], by go_num, ⟨by have := Hi.out; have := HQ2.out; omega⟩, HCN, ⟨HW9.out.drop⟩⟩
                      · have za : (rf.m = 0) = False := eq_false gz
                        have zb : decide (rf.m = 0) = false := decide_eq_false gz
                        have zc : (rf.m == 0) = false := beq_eq_false_iff_ne.2 gz
                        have zd : (rf.m != 0) = true := by simpa using gz
                        have hmt : meansB o k rf = true := by
                          unfold meansB
                          rw [if_neg gm, if_pos (by have := HIN.out.2.2.1; omega)]; exact decide_eq_true (by have := HE.out.1; omega)
                        have HCN := Aside0.mk (HCW.out.trans (within_step HV.out HGS.out hmt))
                        clear hmt gm gi gz
                        go_wp2_with fail
                        go_roundg (gk2 - 1)
                        case measure => have := Hi.out; have := HQ2.out; omega
                        case rel => exact ⟨i + 1, S ++ [rf.a], by go_num, ⟨by have := Hi.out; have := HQ2.out; omega⟩, HCN, ⟨hW8.out.drop⟩⟩
              · have q4 : (i < nl) = False := eq_false hlt
                have hie : i = nl := by have := Hi.out; omega
                have HCN := Aside0.mk (show chainsF o = more (done ++ [l]) (chainsFrom o (restW (k + 1)) S) from by rw [HCW.out, hie, ← HNL.out]; exact within_end)
                clear hie hlt
                have HA4 := Aside0.mk (Sat.pull (l1 := [_, _, _, _]) HW.out)
                go_upto_region 10 with (refine sat_append (Kd.raw 1) (w0 := w) rfl (.tmp 115) (.tmp 117) 37 52 (.slice none 0 0) 24 rfl Try.underlying37 info52 (by rfl) (by decide) (by decide) vo (vs.map fun x => [x]) [.slice A8 nl c8] [.slice A8 nl c8] rfl rfl (fun W base => ⟨rfl, rfl, by intro u hu; simp at hu; subst hu; rfl⟩) HA4.out (by rw [List.length_map, Hk.out.2.2.1]; have := HQ.out; omega) ?_; intro v5 w5 hS5; have HS5 := Aside0.mk hS5; clear hS5)
                have HP := Aside0.mk (show Sat w w5 [ABlk bm (.cells (mbA (MB S n6)) 4 (0, 0)), ABlk bo (.cells #[.int .i64 20, .int .i64 1, .int .i64 1] 3 (0, 0)), ABlk w.heap.size (.cells #[.string o.nm, .int .u32 o.key, .slice a.A2 n2 a.c2, .slice a.A3 n3 a.c3, .int .i64 o.data, .string o.text, .slice a.A6 n6 a.c6, .slice a.A7 n7 a.c7, .slice a.A8 n8 a.c8, .slice a.A9 n9 a.c9, .slice a.A10 n10 a.c10, .int .i64 o.x0, .int .i64 o.x1, .int .i64 o.x2, .int .i64 o.body] 31 (0, 0)), ARow (Kd.raw 1) 52 w.heap.size v5 ((vs ++ [Value.slice A8 nl c8]).map fun x => [x]), ASees k117 (vs ++ [Value.slice A8 nl c8]) (done.map (·.map p17) ++ [l.map p17])] from (sees_add (HS5.out.perm (rperm6 _ _ _ _ _ _))).perm (rperm5b _ _ _ _ _) |> fun h => by rw [List.map_append]; exact h)
                go_wp2_with fail
                go_roundg (gk1 - 1)
                case measure => have := Hk.out; have := HQ.out; omega
                case rel => exact ⟨k + 1, vs ++ [Value.slice A8 nl c8], done ++ [l], S, v5, rfl, by go_num, ⟨by have := HQ.out; omega, by have := Hk.out; have := HQ.out; omega, by rw [List.length_append, Hk.out.2.2.1]; rfl, by rw [List.length_append, Hk.out.2.2.2]; rfl⟩, HCN, ⟨by rw [List.map_append (l₁ := done)]; exact HP.out⟩⟩
        · have hk3 : k = 3 := by have := Hk.out.1; omega
          subst hk3
          have hrs := chains_end HCh.out
          rw [HRC.out] at hrs
          subst hrs
          clear hlt
          go_wp2_with fail
          go_ret2
          refine ⟨vo, vs, by rfl, fun ls h => ?_, HW.out.toBelow⟩
          injection h with h
          subst h
          exact HW.out.drop.drop.drop
end Go.Proofs.Ytnflalbiffamdaa.MineObj
