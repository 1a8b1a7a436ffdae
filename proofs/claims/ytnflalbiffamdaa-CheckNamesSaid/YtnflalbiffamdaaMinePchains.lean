/- Chains of an object: what the program's chains tells. Conditions: the code is short, its words are words of 32 bits. -/
import Derived.Test.YtnflalbiffamdaaMineChains
namespace Go.Proofs.Ytnflalbiffamdaa.MineObj
open Go.RowKit Go.MapKept Go.Proofs.YtnflalbiffamdaaW.PrintWords Go.Proofs.YtnflalbiffamdaaW.PrintLast Go.Proofs.YtnflalbiffamdaaW.PrintMore Go.Proofs.Ytnflalbiffamdaa.MineBase Go.Proofs.Ytnflalbiffamdaa.MineSep Go.Proofs.Ytnflalbiffamdaa.MineRows Go.Proofs.Ytnflalbiffamdaa.MineGen Go.Proofs.Ytnflalbiffamdaa.MineName Go.Proofs.Ytnflalbiffamdaa.MineMap Go.Proofs.Ytnflalbiffamdaa.QCheckTells Go.Proofs.Ytnflalbiffamdaa.QCheckTellsPlain Go.Proofs.Ytnflalbiffamdaa.PureChain
attribute [local go_sem] Go.Proofs.Ytnflalbiffamdaa.MineErr.eql_err Go.Proofs.Ytnflalbiffamdaa.MineErr.neq_err Go.Proofs.Ytnflalbiffamdaa.MineErr.eql_nil_err Go.Proofs.Ytnflalbiffamdaa.MineErr.neq_nil_err
attribute [local go_sem ↓] Go.wp_at_zero Go.wp_at_succ
set_option linter.unusedVariables false
set_option linter.unusedSimpArgs false
theorem res2 {P : Program} {fn : Func} {p u : Tmp} {ty : TypeId} (h : fn.results = #[.cell p ty, .tmp u]) (tmps : Array Value) (w : World) (g : Nat) (t : TypeId) (cs : Array Value) (fr : Nat × Nat) (d : TypeDesc)
    (hp : tmps.getD p undef = .pointer (some ⟨g, 0, none⟩)) (hg : w.heap[g]? = some (.cells cs t fr))
    (hu : P.underlying ty = some d) (hd : (match d with | .struct _ | .array _ _ => true | _ => false) = true) (hi : (P.info? ty).map (·.size) = some cs.size) (x : Value) (hx : tmps.getD u undef = x) :
    (results fn tmps).run P w = .ok (.tuple #[.agg cs, x]) w := by
  rw [results_cell_tmp h, hp, hx]
  simp [asAddr, run_loadVar_row w g t ty cs fr d hg hu hd hi, Result.andThen]
theorem size_alloc2 (W : World) (o : Obj) : (W.alloc o).heap.size = W.heap.size + 1 := by simp only [World.alloc, Array.size_push]
/-- Three rows in an array, as far as they are there. -/
def arrV (vs : List Value) : Array Value := ((vs ++ [Value.slice none 0 0, Value.slice none 0 0, Value.slice none 0 0]).take 3).toArray
theorem arr_put {vs : List Value} {k : Nat} (hk : vs.length = k) (h : k < 3) (v : Value) : (arrV vs).setIfInBounds k v = arrV (vs ++ [v]) := by
  subst hk
  rcases vs with _ | ⟨a, _ | ⟨b, _ | ⟨c, vs⟩⟩⟩
  · rfl
  · rfl
  · rfl
  · exfalso; simp at h; omega
theorem arr_at {vs : List Value} {k : Nat} (h : k < 3) : ∃ v, (arrV vs)[k]? = some v := by
  refine ⟨_, Array.getElem?_eq_getElem ?_⟩
  simp [arrV]; omega
theorem arr_size (vs : List Value) : (arrV vs).size = 3 := by simp [arrV]
theorem perm_by {α : Type} (x : α) (L : List α) (p q : List Nat) (h : p.Perm q) : (p.map (L.getD · x)).Perm (q.map (L.getD · x)) := h.map _
theorem perm7 (a b c d e f g : Asn) : [d, a, b, c, e, f, g].Perm [a, g, b, c, d, e, f] := perm_by a [a, b, c, d, e, f, g] [3, 0, 1, 2, 4, 5, 6] [0, 6, 1, 2, 3, 4, 5] (by decide)
theorem perm6 (a b c d e f : Asn) : [f, a, b, c, d, e].Perm [a, b, c, d, e, f] := perm_by a [a, b, c, d, e, f] [5, 0, 1, 2, 3, 4] [0, 1, 2, 3, 4, 5] (by decide)
theorem sees_nil {α : Type} {d : Kd α} {w0 W : World} {l : List Asn} (h : Sat w0 W l) : Sat w0 W [ASees d [] ([] : List (List α))] := sees_new (show Sat w0 W [] from ⟨h.toBelow, trivial⟩)
theorem sees_ones {α : Type} {d : Kd α} {w0 W : World} {l : List Asn} {a b c : Value} {xss : List (List α)} (h : Sat w0 W (ASees d [a, b, c] xss :: l)) : (#[a, b, c] : Array Value).all (·.oneCell') = true := by
  obtain ⟨D, ⟨h0, h1⟩, _⟩ := h.head
  have key : ∀ (j : Nat) (v : Value), [a, b, c][j]? = some v → v.oneCell' = true := fun j v hv => by
    have hl := (List.getElem?_eq_some_iff.1 hv).1
    obtain ⟨A, n, e, _⟩ := h1 j v _ hv (List.getElem?_eq_getElem (by omega))
    subst e; rfl
  simp [key 0 a rfl, key 1 b rfl, key 2 c rfl]
theorem three_of {vs : List Value} (h : vs.length = 3) : ∃ a b c, vs = [a, b, c] := by
  rcases vs with _ | ⟨a, _ | ⟨b, _ | ⟨c, _ | ⟨d, vs⟩⟩⟩⟩
  · cases h
  · cases h
  · cases h
  · exact ⟨a, b, c, rfl⟩
  · simp at h
theorem pchain_five {w0 W : World} {l : List Asn} (h : Sat w0 W l) (o1 o2 o3 o5 : Obj) : Sat w0 (((((W.alloc o1).alloc o2).alloc o3).alloc (.map #[] 0)).alloc o5) (ASeen (Value.int .i64) (W.heap.size + 1 + 1 + 1) ([] : List Int) :: ABlk (W.heap.size + 1 + 1 + 1 + 1) o5 :: ABlk (W.heap.size + 1 + 1) o3 :: ABlk (W.heap.size + 1) o2 :: ABlk W.heap.size o1 :: l) := by
  have h1 := blk_new (blk_new (blk_new h o1) o2) o3
  rw [size_alloc2, size_alloc2] at h1
  have h2 := seen_new h1 (κ := Int) (Value.int .i64)
  rw [size_alloc2, size_alloc2, size_alloc2] at h2
  have h3 := blk_new h2 o5
  rw [size_alloc2, size_alloc2, size_alloc2, size_alloc2] at h3
  exact h3.swap
theorem fix_cell {W : World} {b : Nat} {o : Ob} {cs : Array Value} {t : TypeId} (h : blk W b = some (.cells cs t (0, 0))) (h0 : cs[11]? = some (.int .i64 o.x0)) (h1 : cs[12]? = some (.int .i64 o.x1)) (h2 : cs[13]? = some (.int .i64 o.x2)) {k : Nat} (hk : k < 3) : W.cell? ⟨b, 11 + k, none⟩ = some (.int .i64 (fixO o k)) := by
  rw [get_cell h]
  rcases k with _ | _ | _ | k
  · exact h0
  · exact h1
  · exact h2
  · omega
theorem op_cell {W : World} {b : Nat} {t : TypeId} (h : blk W b = some (.cells #[.int .i64 20, .int .i64 1, .int .i64 1] t (0, 0))) {k : Nat} (hk : k < 3) : W.cell? ⟨b, k, none⟩ = some (.int .i64 (opO k)) := by
  rw [get_cell h]
  rcases k with _ | _ | _ | k
  · rfl
  · rfl
  · rfl
  · omega
theorem pwalk_calls {o : Ob} {A : Option Addr} {c n : Nat} (hn : n = o.code.length) (hC : ∀ x ∈ o.code, 0 ≤ x ∧ x < 4294967296) (hl : o.code.length ≤ 600) (hx : ∀ k, -9223372036854775808 ≤ fixO o k ∧ fixO o k ≤ 9223372036854775807) (k : Nat) {w : World} (hr : Kd.C (Kd.int .u32) w A o.code.length o.code) (hc : o.code.length ≤ c) :
    Calls Try.prog 20 #[.slice A n c, .int .i64 (fixO o k), .int .i64 (opO k)] w fun e w' => ∃ v, e = .returned (.tuple #[v, errW (ansP (walkW o.code (fixO o k) (opO k))).2]) ∧ Kd.R k118 118 w' w.heap.size (fun _ => True) v (ansP (walkW o.code (fixO o k) (opO k))).1 ∧ Below w.heap.size w w' := by
  subst hn
  exact chain_Walk.calls 2000 A c o.code (fixO o k) (opO k) _ _ w hr hc (walkW_eq o.code hC hl (fixO o k) (opO k) 2000 (by omega) (hx k)).1

set_option maxRecDepth 100000 in
set_option maxHeartbeats 8000000 in
theorem chains_calls (o : Ob) (a : Oa) (w : World) (n2 n3 n6 n7 n8 n9 n10 : Nat) (e2 : n2 = o.imps.length) (e3 : n3 = o.typs.length) (e6 : n6 = o.code.length) (e7 : n7 = o.cmds.length) (e8 : n8 = o.exps.length) (e9 : n9 = o.ptrs.length) (e10 : n10 = o.procs.length) (hO : ObR o a w) (l6 : n6 ≤ 600) (hC : ∀ x ∈ o.code, 0 ≤ x ∧ x < 4294967296) (hx : ∀ k, -9223372036854775808 ≤ fixO o k ∧ fixO o k ≤ 9223372036854775807) (r : Option (List (List Rf))) (hr : chainsF o = r) :
    Calls Try.prog 102 #[.agg #[.string o.nm, .int .u32 o.key, .slice a.A2 n2 a.c2, .slice a.A3 n3 a.c3, .int .i64 o.data, .string o.text, .slice a.A6 n6 a.c6, .slice a.A7 n7 a.c7, .slice a.A8 n8 a.c8, .slice a.A9 n9 a.c9, .slice a.A10 n10 a.c10, .int .i64 o.x0, .int .i64 o.x1, .int .i64 o.x2, .int .i64 o.body]] w fun e w' => ∃ vs, e = .returned (.tuple #[.agg (arrV vs), .bool r.isSome]) ∧ Sat w w' [ASees k118 vs ((r.getD []).map (·.map p18))] := by
  have HO := Aside0.mk hO
  have HR := Aside0.mk hr
  have HE := Aside0.mk (And.intro e2 (And.intro e3 (And.intro e6 (And.intro e7 (And.intro e8 (And.intro e9 e10))))))
  have hu31 := Try.underlying31
  have HC := Aside0.mk (And.intro hC hx)
  clear hO hr hC hx e2 e3 e6 e7 e8 e9 e10
  have hmm := @run_makeMap Try.prog
  have hu86 := Try.underlying86
  have hu118 := Try.underlying118
  go_enter Try.func102, Try.ntmps102
  go_wp2_with fail
  refine wp_abs (fun W => Sat w W [ASeen (Value.int .i64) (w.heap.size + 1 + 1 + 1) [], ABlk (w.heap.size + 1 + 1 + 1 + 1) (.cells #[.int .i64 20, .int .i64 1, .int .i64 1] 3 (0, 0)), ABlk (w.heap.size + 1 + 1) (.cells (arrV []) 86 (0, 0)), ABlk (w.heap.size + 1) (.cells (arrV []) 86 (0, 0)), ABlk w.heap.size (.cells #[.string o.nm, .int .u32 o.key, .slice a.A2 n2 a.c2, .slice a.A3 n3 a.c3, .int .i64 o.data, .string o.text, .slice a.A6 n6 a.c6, .slice a.A7 n7 a.c7, .slice a.A8 n8 a.c8, .slice a.A9 n9 a.c9, .slice a.A10 n10 a.c10, .int .i64 o.x0, .int .i64 o.x1, .int .i64 o.x2, .int .i64 o.body] 31 (0, 0)), ASees k118 [] []]) ?_ (fun W hW => ?_)
  · exact (sees_new (pchain_five (Sat.start w) _ _ _ _)).perm (List.perm_append_comm (l₁ := [ASees k118 [] []]) (l₂ := [_, _, _, _, _]))
  generalize w.heap.size + 1 + 1 + 1 + 1 = bo at hW ⊢
  generalize w.heap.size + 1 + 1 + 1 = m at hW ⊢
  generalize w.heap.size + 1 + 1 = bu at hW ⊢
  generalize w.heap.size + 1 = br at hW ⊢
  replace hW := Aside0.mk hW
  clear hmm
  go_loopg [15] 4 (fun kq v w' => ∃ (k : Nat) (vs : List Value) (done : List (List Rf)) (S : List Int), v = .int .i64 k ∧ Aside0 (k ≤ 3 ∧ 3 - k < kq ∧ vs.length = k ∧ done.length = k) ∧ Aside0 (chainsF o = more done (chainsFrom o (restW k) S)) ∧ Aside0 (Sat w w' [ASeen (Value.int .i64) m S, ABlk bo (.cells #[.int .i64 20, .int .i64 1, .int .i64 1] 3 (0, 0)), ABlk bu (.cells (arrV vs) 86 (0, 0)), ABlk br (.cells (arrV []) 86 (0, 0)), ABlk w.heap.size (.cells #[.string o.nm, .int .u32 o.key, .slice a.A2 n2 a.c2, .slice a.A3 n3 a.c3, .int .i64 o.data, .string o.text, .slice a.A6 n6 a.c6, .slice a.A7 n7 a.c7, .slice a.A8 n8 a.c8, .slice a.A9 n9 a.c9, .slice a.A10 n10 a.c10, .int .i64 o.x0, .int .i64 o.x1, .int .i64 o.x2, .int .i64 o.body] 31 (0, 0)), ASees k118 vs (done.map (·.map p18))]))
  case atStart => exact ⟨0, [], [], [], rfl, ⟨by omega, by omega, rfl, rfl⟩, ⟨by unfold chainsF restW more; simp⟩, hW⟩
  case round =>
    clear hW
    obtain ⟨k, vs, done, S, rfl, Hk, HCh, HW⟩ := hrel
    obtain ⟨gk1, rfl⟩ : ∃ x, x = gk := ⟨gk, rfl⟩
    by_cases hlt : k < 3
    · have HQ := Aside0.mk hlt
      have q1 : (k < 3) = True := eq_true hlt
      have q2 : 0 ≤ (k : Int) := by omega
      have q3 : (k : Int) < 3 := by omega
      have HO1 := Aside0.mk (Sat.pull (l1 := [_, _, _, _]) HW.out)
      have HO2 := Aside0.mk HW.out.swap
      have x6 : wr.cell? ⟨w.heap.size, 6, none⟩ = some (.slice a.A6 n6 a.c6) := get_cell (blk_at HO1.out) 6
      have xf : wr.cell? ⟨w.heap.size, 11 + k, none⟩ = some (.int .i64 (fixO o k)) := fix_cell (blk_at HO1.out) rfl rfl rfl hlt
      have xo : wr.cell? ⟨bo, k, none⟩ = some (.int .i64 (opO k)) := op_cell (blk_at HO2.out) hlt
      clear hlt
      go_upto_region 6 with fail
      have HS := Aside0.mk (fun (w2 : World) (hb : Below wr.heap.size wr w2) => (⟨pw_cell_below hb x6, pw_cell_below hb xf⟩ : w2.cell? ⟨w.heap.size, 6, none⟩ = some (.slice a.A6 n6 a.c6) ∧ w2.cell? ⟨w.heap.size, 11 + k, none⟩ = some (.int .i64 (fixO o k))))
      clear x6 xf xo
      have HPW := Aside0.mk (fun w2 hr => pwalk_calls (n := n6) (A := a.A6) (c := a.c6) HE.out.2.2.1 HC.out.1 (by have := HE.out.2.2.1; omega) HC.out.2 k (w := w2) hr HO.out.l6)
      go_region_held3 (fun w' => w'.cell? ⟨w.heap.size, 6, none⟩ = some (.slice a.A6 n6 a.c6) ∧ w'.cell? ⟨w.heap.size, 11 + k, none⟩ = some (.int .i64 (fixO o k))) ((refine HS.out _ ?_; repeat (first | exact Below.refl _ _ | exact HB6.out | apply below_drew | apply pw_below_drewN))) (first | ((with_reducible refine (HPW.out _ (HO.out.sat (HW.out.below (by repeat (first | exact Below.refl _ _ | apply below_drew | apply pw_below_drewN)))).r6).mono ?_); rintro e6 w6 ⟨v6, rfl, hR6, hb6⟩; have HB6 := Aside0.mk (show Below wr.heap.size wr w6 from below_step (by repeat (first | exact Below.refl _ _ | apply below_drew | apply pw_below_drewN)) hb6); have HR6 := Aside0.mk (And.intro hR6 hb6); clear hR6 hb6))
      obtain ⟨x, hx⟩ : ∃ x, walkW o.code (fixO o k) (opO k) = x := ⟨_, rfl⟩
      have HX := Aside0.mk hx
      replace HR6 := HR6.out
      rw [hx] at HR6 ⊢
      clear hx
      replace HR6 := Aside0.mk HR6
      clear HPW HS HO1 HO2
      cases x with
      | none =>
        have hrn := chains_none HQ.out HCh.out HX.out
        rw [HR.out] at hrn
        subst hrn
        have HS6 := Aside0.mk (Sat.pull (l1 := [_, _, _]) (HW.out.below HB6.out))
        have eE : errW (ansP none).2 = .iface 55 (.int .i64 4) := rfl
        rw [eE]
        clear eE
        go_wp2_with (refine wpList_store_row rfl 86 (.tmp 2) (.tmp 33) rfl br #[.slice none 0 0, .slice none 0 0, .slice none 0 0] rfl rfl 86 _ (blk_at HS6.out) (by kernel_rfl) rfl (by simp [Value.oneCell']) ?_; have HZ := Aside0.mk (blk_row (cs := #[.slice none 0 0, .slice none 0 0, .slice none 0 0]) HS6.out))
        exact bodyPost_ret (v := .tuple _) (res2 rfl _ _ br 86 _ (0, 0) _ rfl (blk_at HZ.out) Try.underlying86 rfl (by kernel_rfl) _ rfl) rfl ⟨[], rfl, sees_nil HZ.out⟩
      | some l =>
        have HS6 := Aside0.mk (show Sat w w6 (ARow k118 118 w.heap.size v6 (l.map p18) :: [ASeen (Value.int .i64) m S, ABlk bo (.cells #[.int .i64 20, .int .i64 1, .int .i64 1] 3 (0, 0)), ABlk bu (.cells (arrV vs) 86 (0, 0)), ABlk br (.cells (arrV []) 86 (0, 0)), ABlk w.heap.size (.cells #[.string o.nm, .int .u32 o.key, .slice a.A2 n2 a.c2, .slice a.A3 n3 a.c3, .int .i64 o.data, .string o.text, .slice a.A6 n6 a.c6, .slice a.A7 n7 a.c7, .slice a.A8 n8 a.c8, .slice a.A9 n9 a.c9, .slice a.A10 n10 a.c10, .int .i64 o.x0, .int .i64 o.x1, .int .i64 o.x2, .int .i64 o.body] 31 (0, 0)), ASees k118 vs (done.map (·.map p18))]) from HW.out.newRow HB6.out (show k118.R 118 w6 wr.heap.size (fun _ => True) v6 (l.map p18) from HR6.out.1) HW.out.size)
        have HCW := Aside0.mk (chains_some HQ.out HCh.out HX.out)
        have HLI := Aside0.mk (walkW_in HX.out)
        obtain ⟨A8, c8, e8⟩ := HS6.out.rowSlice
        rw [List.length_map] at e8
        subst e8
        have eE : errW (ansP (some l)).2 = .nilIface := rfl
        rw [eE]
        clear eE HW HR6 HB6
        obtain ⟨nl, hnl⟩ : ∃ nl, l.length = nl := ⟨_, rfl⟩
        have HNL := Aside0.mk hnl
        rw [hnl] at HS6 ⊢
        clear hnl
        go_wp2_with fail
        go_loopg [36] (nl + 1) (fun kq v w' => ∃ (i : Nat) (S : List Int), v = .int .i64 i ∧ Aside0 (i ≤ nl ∧ nl - i < kq) ∧ Aside0 (chainsF o = within o k done l S i) ∧ Aside0 (Sat w w' [ARow k118 118 w.heap.size (.slice A8 nl c8) (l.map p18), ASeen (Value.int .i64) m S, ABlk bo (.cells #[.int .i64 20, .int .i64 1, .int .i64 1] 3 (0, 0)), ABlk bu (.cells (arrV vs) 86 (0, 0)), ABlk br (.cells (arrV []) 86 (0, 0)), ABlk w.heap.size (.cells #[.string o.nm, .int .u32 o.key, .slice a.A2 n2 a.c2, .slice a.A3 n3 a.c3, .int .i64 o.data, .string o.text, .slice a.A6 n6 a.c6, .slice a.A7 n7 a.c7, .slice a.A8 n8 a.c8, .slice a.A9 n9 a.c9, .slice a.A10 n10 a.c10, .int .i64 o.x0, .int .i64 o.x1, .int .i64 o.x2, .int .i64 o.body] 31 (0, 0)), ASees k118 vs (done.map (·.map p18))]))
        case atStart => exact ⟨0, S, rfl, ⟨by omega⟩, HCW, HS6⟩
        case round =>
          clear HS6 HCW HCh
          obtain ⟨i, S, rfl, Hi, HCW, HW⟩ := hrel
          obtain ⟨gk2, rfl⟩ : ∃ x, x = gk := ⟨gk, rfl⟩
          by_cases hlt : i < nl
          · obtain ⟨rf, hrf⟩ : ∃ rf, l[i]? = some rf := ⟨_, List.getElem?_eq_getElem (by have := HNL.out; omega)⟩
            have HV := Aside0.mk hrf
            have HIN := Aside0.mk (HLI.out.2 rf (List.mem_iff_getElem?.2 ⟨i, hrf⟩))
            have HI1 := Aside0.mk (show nl ≤ 1000 from by have := HLI.out.1; have := HNL.out; omega)
            obtain ⟨ad, eA, y0, y1, y2⟩ := at_T118 (by obtain ⟨A, c, e, _, hC⟩ := HW.out.rowReads; injection e with e1 _ _; rw [← e1] at hC; exact hC) (i : Int) (by omega) (by rw [List.length_map]; have := HNL.out; omega)
            have ev : rd_T118 (l.map p18) (i : Int) = p18 rf := by
              have hl := (List.getElem?_eq_some_iff.1 hrf).1
              have := (List.getElem?_eq_some_iff.1 hrf).2
              simp [rd_T118, hl, this]
            rw [ev] at y0 y1 y2
            simp only [Int.toNat_natCast, p18] at y0 y1 y2
            subst eA
            have HQ2 := Aside0.mk hlt
            have q4 : (i < nl) = True := eq_true hlt
            have q5 : 0 ≤ (i : Int) := by omega
            have q6 : (i : Int) ≤ 1000 := by have := HI1.out; omega
            clear hlt ev hrf
            have HX := Aside0.mk (blk_new HW.out (.cells #[.int .i64 0, .int .i64 0, .int .i64 0] 118))
            have HX7 := Aside0.mk (blk_row (cs := #[.int .i64 rf.a, .int .i64 rf.m, .int .i64 rf.e]) HX.out)
            go_upto_region 12 with (refine wpList_store_row rfl 118 (.tmp 11) (.tmp 39) rfl wr.heap.size #[.int .i64 rf.a, .int .i64 rf.m, .int .i64 rf.e] rfl rfl 118 _ (blk_at HX.out) (by kernel_rfl) rfl (by simp [Value.oneCell']) ?_)
            refine wp_abs (fun W => Sat w W (ABlk wr.heap.size (.cells #[.int .i64 rf.a, .int .i64 rf.m, .int .i64 rf.e] 118 (0, 0)) :: [ARow k118 118 w.heap.size (.slice (some ad) nl c8) (l.map p18), ASeen (Value.int .i64) m S, ABlk bo (.cells #[.int .i64 20, .int .i64 1, .int .i64 1] 3 (0, 0)), ABlk bu (.cells (arrV vs) 86 (0, 0)), ABlk br (.cells (arrV []) 86 (0, 0)), ABlk w.heap.size (.cells #[.string o.nm, .int .u32 o.key, .slice a.A2 n2 a.c2, .slice a.A3 n3 a.c3, .int .i64 o.data, .string o.text, .slice a.A6 n6 a.c6, .slice a.A7 n7 a.c7, .slice a.A8 n8 a.c8, .slice a.A9 n9 a.c9, .slice a.A10 n10 a.c10, .int .i64 o.x0, .int .i64 o.x1, .int .i64 o.x2, .int .i64 o.body] 31 (0, 0)), ASees k118 vs (done.map (·.map p18))])) HX7.out (fun W7 hW7 => ?_)
            replace hW7 := Aside0.mk hW7
            clear HX HX7 y0 y1 y2
            obtain ⟨b7, hb7⟩ : ∃ b7, wr.heap.size = b7 := ⟨_, rfl⟩
            rw [hb7] at hW7 ⊢
            clear hb7
            have z0 : W7.cell? ⟨b7, 0, none⟩ = some (.int .i64 rf.a) := get_cell (blk_at hW7.out) 0
            have z1 : W7.cell? ⟨b7, 1, none⟩ = some (.int .i64 rf.m) := get_cell (blk_at hW7.out) 1
            have z2 : W7.cell? ⟨b7, 2, none⟩ = some (.int .i64 rf.e) := get_cell (blk_at hW7.out) 2
            have hlk := seen_look intKeys Try.underlying174 Try.underlying3 (Sat.pull (l1 := [_, _]) hW7.out) rf.a
            by_cases gs : rf.a ∈ S
            · rw [if_pos gs] at hlk
              have hrn := HCW.out.trans (within_seen HV.out gs)
              rw [HR.out] at hrn
              subst hrn
              clear gs
              have HS6 := Aside0.mk (Sat.pull (l1 := [_, _, _, _, _]) hW7.out)
              go_wp2_with (refine wpList_store_row rfl 86 (.tmp 2) (.tmp 52) rfl br #[.slice none 0 0, .slice none 0 0, .slice none 0 0] rfl rfl 86 _ (blk_at HS6.out) (by kernel_rfl) rfl (by simp [Value.oneCell']) ?_; have HZ := Aside0.mk (blk_row (cs := #[.slice none 0 0, .slice none 0 0, .slice none 0 0]) HS6.out))
              exact bodyPost_ret (v := .tuple _) (res2 rfl _ _ br 86 _ (0, 0) _ rfl (blk_at HZ.out) Try.underlying86 rfl (by kernel_rfl) _ rfl) rfl ⟨[], rfl, sees_nil HZ.out⟩
            · rw [if_neg gs] at hlk
              have HGS := Aside0.mk gs
              clear gs
              have HO1 := Aside0.mk (Sat.pull (l1 := [_, _, _, _, _, _]) hW7.out)
              have x0 : W7.cell? ⟨w.heap.size, 0, none⟩ = some (.string o.nm) := get_cell (blk_at HO1.out) 0
              have x1 : W7.cell? ⟨w.heap.size, 1, none⟩ = some (.int .u32 o.key) := get_cell (blk_at HO1.out) 1
              have x2 : W7.cell? ⟨w.heap.size, 2, none⟩ = some (.slice a.A2 n2 a.c2) := get_cell (blk_at HO1.out) 2
              have x3 : W7.cell? ⟨w.heap.size, 3, none⟩ = some (.slice a.A3 n3 a.c3) := get_cell (blk_at HO1.out) 3
              have x4 : W7.cell? ⟨w.heap.size, 4, none⟩ = some (.int .i64 o.data) := get_cell (blk_at HO1.out) 4
              have x5 : W7.cell? ⟨w.heap.size, 5, none⟩ = some (.string o.text) := get_cell (blk_at HO1.out) 5
              have x6 : W7.cell? ⟨w.heap.size, 6, none⟩ = some (.slice a.A6 n6 a.c6) := get_cell (blk_at HO1.out) 6
              have x7 : W7.cell? ⟨w.heap.size, 7, none⟩ = some (.slice a.A7 n7 a.c7) := get_cell (blk_at HO1.out) 7
              have x8 : W7.cell? ⟨w.heap.size, 8, none⟩ = some (.slice a.A8 n8 a.c8) := get_cell (blk_at HO1.out) 8
              have x9 : W7.cell? ⟨w.heap.size, 9, none⟩ = some (.slice a.A9 n9 a.c9) := get_cell (blk_at HO1.out) 9
              have x10 : W7.cell? ⟨w.heap.size, 10, none⟩ = some (.slice a.A10 n10 a.c10) := get_cell (blk_at HO1.out) 10
              have x11 : W7.cell? ⟨w.heap.size, 11, none⟩ = some (.int .i64 o.x0) := get_cell (blk_at HO1.out) 11
              have x12 : W7.cell? ⟨w.heap.size, 12, none⟩ = some (.int .i64 o.x1) := get_cell (blk_at HO1.out) 12
              have x13 : W7.cell? ⟨w.heap.size, 13, none⟩ = some (.int .i64 o.x2) := get_cell (blk_at HO1.out) 13
              have x14 : W7.cell? ⟨w.heap.size, 14, none⟩ = some (.int .i64 o.body) := get_cell (blk_at HO1.out) 14
              go_wp2_with fail
              clear HO1 x0 x1 x2 x3 x4 x5 x6 x7 x8 x9 x10 x11 x12 x13 x14
              obtain ⟨mb, hmb⟩ : ∃ b, b = meansB o k rf := ⟨_, rfl⟩
              have HMB := Aside0.mk hmb
              clear hmb
              have hq := means_calls o a W7 n2 n3 n6 n7 n8 n9 n10 HE.out.1 HE.out.2.1 HE.out.2.2.1 HE.out.2.2.2.1 HE.out.2.2.2.2.1 HE.out.2.2.2.2.2.1 HE.out.2.2.2.2.2.2 (HO.out.sat hW7.out) (k : Int) rf HIN.out.2.2.2.2.1 HIN.out.2.2.1 mb HMB.out
              (with_reducible refine hq.mono ?_)
              clear hq
              rintro e8 w8 ⟨rfl, hb8⟩
              have HW8 := Aside0.mk (hW7.out.below hb8)
              clear hb8 hW7 z0 z1 z2 hlk
              cases mb with
              | false =>
                have hrn := HCW.out.trans (within_not HV.out HMB.out.symm)
                rw [HR.out] at hrn
                subst hrn
                have HS6 := Aside0.mk (Sat.pull (l1 := [_, _, _, _, _]) HW8.out)
                go_wp2_with (refine wpList_store_row rfl 86 (.tmp 2) (.tmp 52) rfl br #[.slice none 0 0, .slice none 0 0, .slice none 0 0] rfl rfl 86 _ (blk_at HS6.out) (by kernel_rfl) rfl (by simp [Value.oneCell']) ?_; have HZ := Aside0.mk (blk_row (cs := #[.slice none 0 0, .slice none 0 0, .slice none 0 0]) HS6.out))
                exact bodyPost_ret (v := .tuple _) (res2 rfl _ _ br 86 _ (0, 0) _ rfl (blk_at HZ.out) Try.underlying86 rfl (by kernel_rfl) _ rfl) rfl ⟨[], rfl, sees_nil HZ.out⟩
              | true =>
                have z0 : w8.cell? ⟨b7, 0, none⟩ = some (.int .i64 rf.a) := get_cell (blk_at HW8.out) 0
                have hlk := seen_look intKeys Try.underlying174 Try.underlying3 (Sat.pull (l1 := [_, _]) HW8.out) rf.a
                rw [if_neg HGS.out] at hlk
                obtain ⟨w9, hput, hS9⟩ := seen_put2 intKeys Try.underlying174 Try.underlying3 HW8.out.drop rf.a HGS.out
                have HW9 := Aside0.mk hS9
                have HCN := Aside0.mk (HCW.out.trans (within_step HV.out HGS.out HMB.out.symm))
                clear hS9
                go_wp2_with fail
                go_roundg (gk2 - 1)
                case measure => have := Hi.out; have := HQ2.out; omega
                case rel => exact ⟨i + 1, S ++ [rf.a], by go_num, ⟨by have := Hi.out; have := HQ2.out; omega⟩, HCN, HW9⟩
          · have q4 : (i < nl) = False := eq_false hlt
            have hie : i = nl := by have := Hi.out; omega
            have HCN := Aside0.mk (show chainsF o = more (done ++ [l]) (chainsFrom o (restW (k + 1)) S) from by rw [HCW.out, hie, ← HNL.out]; exact within_end)
            clear hie hlt
            have HU := Aside0.mk (Sat.pull (l1 := [_, _, _]) HW.out)
            obtain ⟨vk, hvk⟩ := arr_at (vs := vs) HQ.out
            have x7 : wr.cell? ⟨bu, k, none⟩ = some vk := by rw [get_cell (blk_at HU.out) k]; exact hvk
            have f7 : wr.frozen? ⟨bu, k, none⟩ = false := get_frozen (blk_at HU.out) k
            have hp := blk_put HU.out k (.slice A8 nl c8)
            rw [arr_put Hk.out.2.2.1 HQ.out] at hp
            have HP := Aside0.mk (show Sat w (wr.setCell ⟨bu, k, none⟩ (.slice A8 nl c8)) [ASeen (Value.int .i64) m S, ABlk bo (.cells #[.int .i64 20, .int .i64 1, .int .i64 1] 3 (0, 0)), ABlk bu (.cells (arrV (vs ++ [.slice A8 nl c8])) 86 (0, 0)), ABlk br (.cells (arrV []) 86 (0, 0)), ABlk w.heap.size (.cells #[.string o.nm, .int .u32 o.key, .slice a.A2 n2 a.c2, .slice a.A3 n3 a.c3, .int .i64 o.data, .string o.text, .slice a.A6 n6 a.c6, .slice a.A7 n7 a.c7, .slice a.A8 n8 a.c8, .slice a.A9 n9 a.c9, .slice a.A10 n10 a.c10, .int .i64 o.x0, .int .i64 o.x1, .int .i64 o.x2, .int .i64 o.body] 31 (0, 0)), ASees k118 (vs ++ [.slice A8 nl c8]) (done.map (·.map p18) ++ [l.map p18])] from (sees_add (hp.perm (perm7 _ _ _ _ _ _ _))).perm (List.perm_append_comm (l₁ := [_]) (l₂ := [_, _, _, _, _])))
            clear hp hvk
            go_wp2_with fail
            go_roundg (gk1 - 1)
            case measure => have := Hk.out; have := HQ.out; omega
            case rel => exact ⟨k + 1, vs ++ [.slice A8 nl c8], done ++ [l], S, by go_num, ⟨by have := HQ.out; omega, by have := Hk.out; have := HQ.out; omega, by rw [List.length_append, Hk.out.2.2.1]; rfl, by rw [List.length_append, Hk.out.2.2.2]; rfl⟩, HCN, ⟨by rw [List.map_append]; exact HP.out⟩⟩
    · have hk3 : k = 3 := by have := Hk.out.1; omega
      subst hk3
      have hrs := chains_end HCh.out
      rw [HR.out] at hrs
      subst hrs
      clear hlt
      obtain ⟨va, vb, vc, hvs⟩ := three_of Hk.out.2.2.1
      subst hvs
      have HU := Aside0.mk (Sat.pull (l1 := [_, _]) HW.out)
      have HB := Aside0.mk (Sat.pull (l1 := [_, _, _]) HW.out)
      have x0 : wr.cell? ⟨bu, 0, none⟩ = some va := get_cell (blk_at HU.out) 0
      have x1 : wr.cell? ⟨bu, 1, none⟩ = some vb := get_cell (blk_at HU.out) 1
      have x2 : wr.cell? ⟨bu, 2, none⟩ = some vc := get_cell (blk_at HU.out) 2
      have HON := Aside0.mk (sees_ones (Sat.pull (l1 := [_, _, _, _, _]) HW.out))
      go_wp2_with (refine wpList_store_row rfl 86 (.tmp 2) (.tmp 63) rfl br #[va, vb, vc] rfl rfl 86 _ (blk_at HB.out) (by kernel_rfl) rfl HON.out ?_; have HZ := Aside0.mk (blk_row (cs := #[va, vb, vc]) HB.out))
      exact bodyPost_ret (v := .tuple _) (res2 rfl _ _ br 86 _ (0, 0) _ rfl (blk_at HZ.out) Try.underlying86 rfl (by kernel_rfl) _ rfl) rfl ⟨[va, vb, vc], rfl, by have h := Sat.pull (l1 := [_, _, _, _, _]) HZ.out; exact ⟨h.1, (show Hold [_] _ _ from (Hold.perm (List.Perm.refl _) h.2 |> fun ⟨D, h1, h2, _⟩ => ⟨D, h1, h2, trivial⟩))⟩⟩
end Go.Proofs.Ytnflalbiffamdaa.MineObj
