/- Chains of an object: CheckNames' walk: what may be a module may be one under another name. Condition: the numbers are such as Go hands over. -/
import Derived.Test.YtnflalbiffamdaaMineCheckTells
namespace Go.Proofs.Ytnflalbiffamdaa.MineObj
open Go.RowKit Go.MapKept Go.Proofs.YtnflalbiffamdaaW.PrintWords Go.Proofs.YtnflalbiffamdaaW.PrintLast Go.Proofs.YtnflalbiffamdaaW.PrintMore Go.Proofs.Ytnflalbiffamdaa.MineBase Go.Proofs.Ytnflalbiffamdaa.MineSep Go.Proofs.Ytnflalbiffamdaa.MineRows Go.Proofs.Ytnflalbiffamdaa.MineGen Go.Proofs.Ytnflalbiffamdaa.MineName Go.Proofs.Ytnflalbiffamdaa.MineMap Go.Proofs.Ytnflalbiffamdaa.QCheckTells Go.Proofs.Ytnflalbiffamdaa.QCheckTellsPlain Go.Proofs.Ytnflalbiffamdaa.PureChain
attribute [local go_sem] Go.Proofs.Ytnflalbiffamdaa.MineErr.eql_err Go.Proofs.Ytnflalbiffamdaa.MineErr.neq_err Go.Proofs.Ytnflalbiffamdaa.MineErr.eql_nil_err Go.Proofs.Ytnflalbiffamdaa.MineErr.neq_nil_err
attribute [local go_sem ↓] Go.wp_at_zero Go.wp_at_succ
set_option linter.unusedVariables false
set_option linter.unusedSimpArgs false
def oX (o : Ob) (s : ByteArray) (key : Int) : Ob := { o with nm := s, key := key }
def oY (o : Ob) : Ob := { o with cmds := [⟨⟨#[71, 111]⟩, (o.code.length : Int)⟩] }
def oW (o : Ob) : Ob := { o with code := [] }
def aY (a : Oa) (g : Nat) : Oa := { a with A7 := some ⟨g, 0, none⟩, c7 := 1 }
def aW (a : Oa) : Oa := { a with A6 := none, c6 := 0 }
theorem fewX {o : Ob} (h : FewOk o) {s : ByteArray} (hs : s.size ≤ 300) (key : Int) : FewOk (oX o s key) := ⟨hs, h.text, h.imps, h.typs, h.code, h.cmds, h.exps, h.ptrs, h.procs, h.imp, h.cmd⟩
theorem fewY {o : Ob} (h : FewOk o) : FewOk (oY o) := ⟨h.nm, h.text, h.imps, h.typs, h.code, by show 1 ≤ 20; decide, h.exps, h.ptrs, h.procs, h.imp, fun x hx => by
  have hx' : x ∈ [(⟨⟨#[71, 111]⟩, (o.code.length : Int)⟩ : S95)] := hx
  rw [List.mem_singleton.1 hx']; exact (show ByteArray.size ⟨#[71, 111]⟩ ≤ 300 from by decide)⟩
theorem fewW {o : Ob} (h : FewOk o) : FewOk (oW o) := ⟨h.nm, h.text, h.imps, h.typs, Nat.zero_le _, h.cmds, h.exps, h.ptrs, h.procs, h.imp, h.cmd⟩
theorem saneX {o : Ob} (h : Sane o) (s : ByteArray) (key : Int) : Sane (oX o s key) := ⟨h.code, h.fix, h.data⟩
theorem saneY {o : Ob} (h : Sane o) : Sane (oY o) := ⟨h.code, h.fix, h.data⟩
theorem saneW {o : Ob} (h : Sane o) : Sane (oW o) := ⟨fun x hx => absurd hx (by show x ∉ []; simp), h.fix, h.data⟩
theorem rX {o : Ob} {a : Oa} {w : World} (h : ObR o a w) (s : ByteArray) (key : Int) : ObR (oX o s key) a w := ⟨h.r2, h.r3, h.r6, h.r7, h.r8, h.r9, h.r10, h.l2, h.l3, h.l6, h.l7, h.l8, h.l9, h.l10⟩
theorem rW {o : Ob} {a : Oa} {w : World} (h : ObR o a w) : ObR (oW o) (aW a) w := ⟨h.r2, h.r3, none_row _ w, h.r7, h.r8, h.r9, h.r10, h.l2, h.l3, Nat.le_refl _, h.l7, h.l8, h.l9, h.l10⟩
theorem rY {o : Ob} {a : Oa} {w : World} (h : ObR o a w) {g : Nat} (hg : blk w g = some (.cells #[.string ⟨#[71, 111]⟩, .int .i64 o.code.length] 95 (0, 0))) : ObR (oY o) (aY a g) w := by
  refine ⟨h.r2, h.r3, h.r6, ⟨rfl, by show 1 ≤ 9223372036854775807; decide, fun _ => ⟨⟨g, 0, none⟩, rfl, fun i x hx => ?_⟩⟩, h.r8, h.r9, h.r10, h.l2, h.l3, h.l6, Nat.le_refl _, h.l8, h.l9, h.l10⟩
  have hx' : [(⟨⟨#[71, 111]⟩, (o.code.length : Int)⟩ : S95)][i]? = some x := hx
  rcases i with _ | i
  · simp at hx'
    subst hx'
    refine ⟨[.string ⟨#[71, 111]⟩, .int .i64 o.code.length], rfl, k95_mk w _, fun j u hu => ?_⟩
    rcases j with _ | _ | j
    · have hu' : some (Value.string ⟨#[71, 111]⟩) = some u := hu
      rw [← hu']; exact get_cell hg 0
    · have hu' : some (Value.int .i64 o.code.length) = some u := hu
      rw [← hu']; exact get_cell hg 1
    · simp at hu
  · simp at hx'
theorem refsY (o : Ob) : refsF (oY o) = none := refs_none (fun h => by
  have h1 := h.1.2.2.2.2 0 ⟨⟨#[71, 111]⟩, (o.code.length : Int)⟩ rfl
  have h2 : (o.code.length : Int) < (o.code.length : Int) := h1.2.2.1
  omega)
theorem refsW (o : Ob) : refsF (oW o) = none := refs_none (fun h => by
  have h1 : 1 ≤ ([] : List Int).length := h.2.1.2.2.2.1
  simp at h1)
def metB (o : Ob) (s : ByteArray) (i : Nat) : Bool := (o.imps.take i).any (fun x => x.f0.toList == s.toList)
theorem met_step {o : Ob} {s : ByteArray} {i : Nat} {x : S92} (h : o.imps[i]? = some x) : metB o s (i + 1) = (metB o s i || (x.f0.toList == s.toList)) := by
  unfold metB
  rw [List.take_add_one, h]
  simp [List.any_append]
theorem chainsX (o : Ob) (s : ByteArray) (key : Int) : chainsF (oX o s key) = chainsF o := by
  have e1 : ∀ (w : Nat) (l : List Rf) (S : List Int), eat (oX o s key) w S l = eat o w S l := by
    intro w l
    induction l with
    | nil => intro S; rfl
    | cons r l ih =>
      intro S
      unfold eat
      rw [ih]
      rfl
  have e2 : ∀ (ws : List Nat) (S : List Int), chainsFrom (oX o s key) ws S = chainsFrom o ws S := by
    intro ws
    induction ws with
    | nil => intro S; rfl
    | cons w ws ih =>
      intro S
      unfold chainsFrom
      rw [show walkW (oX o s key).code (fixO (oX o s key) w) (opO w) = walkW o.code (fixO o w) (opO w) from rfl]
      cases walkW o.code (fixO o w) (opO w) with
      | none => rfl
      | some l =>
        simp only
        rw [e1]
        cases eat o w S l with
        | none => rfl
        | some S' => simp only; rw [ih]
  exact e2 _ _
theorem refsX {o : Ob} {ls : List (List Rf)} (h : refsF o = some ls) (s : ByteArray) (key : Int) : (refsF (oX o s key)).isSome = (nameB s && !metB o s o.imps.length) := by
  have h0 : NamesOk o ∧ PartsOk o := by
    rcases Classical.em (NamesOk o ∧ PartsOk o) with h1 | h1
    · exact h1
    · rw [refs_none h1] at h; cases h
  have hm : metB o s o.imps.length = true ↔ ∃ x ∈ o.imps, x.f0 = s := by
    unfold metB
    rw [List.take_length, List.any_eq_true]
    constructor
    · rintro ⟨x, hx, e⟩; exact ⟨x, hx, toList_inj.1 (beq_iff_eq.1 e)⟩
    · rintro ⟨x, hx, e⟩; exact ⟨x, hx, beq_iff_eq.2 (toList_inj.2 e)⟩
  by_cases hc : nameB s = true ∧ ¬ ∃ x ∈ o.imps, x.f0 = s
  · have hX : NamesOk (oX o s key) ∧ PartsOk (oX o s key) := by
      refine ⟨⟨hc.1, h0.1.2.1, h0.1.2.2.1, fun i x hx => ?_, h0.1.2.2.2.2⟩, h0.2⟩
      have h1 := h0.1.2.2.2.1 i x hx
      exact ⟨h1.1, fun e => hc.2 ⟨x, List.mem_iff_getElem?.2 ⟨i, hx⟩, e⟩, h1.2.2⟩
    rw [refs_some hX, chainsX, ← refs_some h0, h, hc.1]
    have hmf : metB o s o.imps.length = false := by
      cases hb : metB o s o.imps.length with
      | false => rfl
      | true => exact absurd (hm.1 hb) hc.2
    rw [hmf]; rfl
  · have hX : ¬ (NamesOk (oX o s key) ∧ PartsOk (oX o s key)) := fun hX => hc ⟨hX.1.1, fun ⟨x, hx, e⟩ => by
      obtain ⟨i, hi⟩ := List.mem_iff_getElem?.1 hx
      exact (hX.1.2.2.2.1 i x hi).2.1 e⟩
    rw [refs_none hX]
    cases hb : nameB s with
    | false => rfl
    | true =>
      have hmt : metB o s o.imps.length = true := hm.2 (Classical.not_not.1 (fun hn => hc ⟨hb, hn⟩))
      rw [hmt]; rfl

set_option maxRecDepth 100000 in
set_option maxHeartbeats 8000000 in
theorem CheckNames_calls (o : Ob) (a : Oa) (w : World) (n2 n3 n6 n7 n8 n9 n10 : Nat) (e2 : n2 = o.imps.length) (e3 : n3 = o.typs.length) (e6 : n6 = o.code.length) (e7 : n7 = o.cmds.length) (e8 : n8 = o.exps.length) (e9 : n9 = o.ptrs.length) (e10 : n10 = o.procs.length) (hO : ObR o a w) (hS : Sane o) (s : ByteArray) (key : Int) :
    Calls Try.prog 11 #[.agg #[.string o.nm, .int .u32 o.key, .slice a.A2 n2 a.c2, .slice a.A3 n3 a.c3, .int .i64 o.data, .string o.text, .slice a.A6 n6 a.c6, .slice a.A7 n7 a.c7, .slice a.A8 n8 a.c8, .slice a.A9 n9 a.c9, .slice a.A10 n10 a.c10, .int .i64 o.x0, .int .i64 o.x1, .int .i64 o.x2, .int .i64 o.body], .string s, .int .u32 key] w fun e w' => e = .returned (.bool true) ∧ Below w.heap.size w w' := by
  obtain ⟨fv, hfv, hfew⟩ := fewN_calls o a w n2 n3 n6 n7 n8 n9 n10 e2 e3 e6 e7 e8 e9 e10 hO
  have HFEW := Aside0.mk hfew
  have hr : True := trivial
  have HO := Aside0.mk hO
  have HR := Aside0.mk hr
  have HE := Aside0.mk (And.intro e2 (And.intro e3 (And.intro e6 (And.intro e7 (And.intro e8 (And.intro e9 e10))))))
  have hu31 := Try.underlying31
  have HS := Aside0.mk hS
  clear hO hr hS e2 e3 e6 e7 e8 e9 e10 hfew HR
  have hu95 := Try.underlying95
  go_enter Try.func11, Try.ntmps11
  go_wp2_with fail
  have hW := Aside0.mk (blk_new (Sat.start w) (.cells #[.string o.nm, .int .u32 o.key, .slice a.A2 n2 a.c2, .slice a.A3 n3 a.c3, .int .i64 o.data, .string o.text, .slice a.A6 n6 a.c6, .slice a.A7 n7 a.c7, .slice a.A8 n8 a.c8, .slice a.A9 n9 a.c9, .slice a.A10 n10 a.c10, .int .i64 o.x0, .int .i64 o.x1, .int .i64 o.x2, .int .i64 o.body] 31))
  generalize w.alloc (.cells #[.string o.nm, .int .u32 o.key, .slice a.A2 n2 a.c2, .slice a.A3 n3 a.c3, .int .i64 o.data, .string o.text, .slice a.A6 n6 a.c6, .slice a.A7 n7 a.c7, .slice a.A8 n8 a.c8, .slice a.A9 n9 a.c9, .slice a.A10 n10 a.c10, .int .i64 o.x0, .int .i64 o.x1, .int .i64 o.x2, .int .i64 o.body] 31) = Wz at *
  (with_reducible refine (up_calls _).mono ?_)
  rintro e1 w1 ⟨rfl, hb1⟩
  have HW1 := Aside0.mk (hW.out.below hb1)
  clear hb1 hW
  have x0 : w1.cell? ⟨w.heap.size, 0, none⟩ = some (.string o.nm) := get_cell (blk_at HW1.out) 0
  have x1 : w1.cell? ⟨w.heap.size, 1, none⟩ = some (.int .u32 o.key) := get_cell (blk_at HW1.out) 1
  have x2 : w1.cell? ⟨w.heap.size, 2, none⟩ = some (.slice a.A2 n2 a.c2) := get_cell (blk_at HW1.out) 2
  have x3 : w1.cell? ⟨w.heap.size, 3, none⟩ = some (.slice a.A3 n3 a.c3) := get_cell (blk_at HW1.out) 3
  have x4 : w1.cell? ⟨w.heap.size, 4, none⟩ = some (.int .i64 o.data) := get_cell (blk_at HW1.out) 4
  have x5 : w1.cell? ⟨w.heap.size, 5, none⟩ = some (.string o.text) := get_cell (blk_at HW1.out) 5
  have x6 : w1.cell? ⟨w.heap.size, 6, none⟩ = some (.slice a.A6 n6 a.c6) := get_cell (blk_at HW1.out) 6
  have x7 : w1.cell? ⟨w.heap.size, 7, none⟩ = some (.slice a.A7 n7 a.c7) := get_cell (blk_at HW1.out) 7
  have x8 : w1.cell? ⟨w.heap.size, 8, none⟩ = some (.slice a.A8 n8 a.c8) := get_cell (blk_at HW1.out) 8
  have x9 : w1.cell? ⟨w.heap.size, 9, none⟩ = some (.slice a.A9 n9 a.c9) := get_cell (blk_at HW1.out) 9
  have x10 : w1.cell? ⟨w.heap.size, 10, none⟩ = some (.slice a.A10 n10 a.c10) := get_cell (blk_at HW1.out) 10
  have x11 : w1.cell? ⟨w.heap.size, 11, none⟩ = some (.int .i64 o.x0) := get_cell (blk_at HW1.out) 11
  have x12 : w1.cell? ⟨w.heap.size, 12, none⟩ = some (.int .i64 o.x1) := get_cell (blk_at HW1.out) 12
  have x13 : w1.cell? ⟨w.heap.size, 13, none⟩ = some (.int .i64 o.x2) := get_cell (blk_at HW1.out) 13
  have x14 : w1.cell? ⟨w.heap.size, 14, none⟩ = some (.int .i64 o.body) := get_cell (blk_at HW1.out) 14
  go_wp2_with fail
  have hq := HFEW.out w1 (HO.out.sat HW1.out)
  (with_reducible refine hq.mono ?_)
  clear hq
  rintro e2 w2 ⟨rfl, hb2⟩
  have HW2 := Aside0.mk (HW1.out.below hb2)
  clear hb2 HW1 x0 x1 x2 x3 x4 x5 x6 x7 x8 x9 x10 x11 x12 x13 x14
  rcases hfv with rfl | ⟨rfl, hF⟩
  · go_wp2_with fail
    go_ret
    exact ⟨by rfl, HW2.out.toBelow⟩
  · have HF := Aside0.mk hF
    clear hF
    by_cases gs : 300 < s.size
    · have gsa : (300 < s.size) = True := eq_true gs
      have gsb : ((300 : Int) < ((s.size : Nat) : Int)) = True := eq_true (by omega)
      have gsc : decide ((300 : Int) < ((s.size : Nat) : Int)) = true := decide_eq_true (by omega)
      clear gs
      go_wp2_with fail
      go_ret
      exact ⟨by rfl, HW2.out.toBelow⟩
    · have gsa : (300 < s.size) = False := eq_false gs
      have gsb : ((300 : Int) < ((s.size : Nat) : Int)) = False := eq_false (by omega)
      have gsc : decide ((300 : Int) < ((s.size : Nat) : Int)) = false := decide_eq_false (by omega)
      have HSS := Aside0.mk (show s.size ≤ 300 from by omega)
      clear gs
      have x0 : w2.cell? ⟨w.heap.size, 0, none⟩ = some (.string o.nm) := get_cell (blk_at HW2.out) 0
      have x1 : w2.cell? ⟨w.heap.size, 1, none⟩ = some (.int .u32 o.key) := get_cell (blk_at HW2.out) 1
      have x2 : w2.cell? ⟨w.heap.size, 2, none⟩ = some (.slice a.A2 n2 a.c2) := get_cell (blk_at HW2.out) 2
      have x3 : w2.cell? ⟨w.heap.size, 3, none⟩ = some (.slice a.A3 n3 a.c3) := get_cell (blk_at HW2.out) 3
      have x4 : w2.cell? ⟨w.heap.size, 4, none⟩ = some (.int .i64 o.data) := get_cell (blk_at HW2.out) 4
      have x5 : w2.cell? ⟨w.heap.size, 5, none⟩ = some (.string o.text) := get_cell (blk_at HW2.out) 5
      have x6 : w2.cell? ⟨w.heap.size, 6, none⟩ = some (.slice a.A6 n6 a.c6) := get_cell (blk_at HW2.out) 6
      have x7 : w2.cell? ⟨w.heap.size, 7, none⟩ = some (.slice a.A7 n7 a.c7) := get_cell (blk_at HW2.out) 7
      have x8 : w2.cell? ⟨w.heap.size, 8, none⟩ = some (.slice a.A8 n8 a.c8) := get_cell (blk_at HW2.out) 8
      have x9 : w2.cell? ⟨w.heap.size, 9, none⟩ = some (.slice a.A9 n9 a.c9) := get_cell (blk_at HW2.out) 9
      have x10 : w2.cell? ⟨w.heap.size, 10, none⟩ = some (.slice a.A10 n10 a.c10) := get_cell (blk_at HW2.out) 10
      have x11 : w2.cell? ⟨w.heap.size, 11, none⟩ = some (.int .i64 o.x0) := get_cell (blk_at HW2.out) 11
      have x12 : w2.cell? ⟨w.heap.size, 12, none⟩ = some (.int .i64 o.x1) := get_cell (blk_at HW2.out) 12
      have x13 : w2.cell? ⟨w.heap.size, 13, none⟩ = some (.int .i64 o.x2) := get_cell (blk_at HW2.out) 13
      have x14 : w2.cell? ⟨w.heap.size, 14, none⟩ = some (.int .i64 o.body) := get_cell (blk_at HW2.out) 14
      obtain ⟨r, hr⟩ : ∃ r, refsF o = r := ⟨_, rfl⟩
      have HR := Aside0.mk hr
      clear hr
      go_wp2_with fail
      clear gsa gsb gsc
      have hq := valid_calls o a w2 n2 n3 n6 n7 n8 n9 n10 HE.out.1 HE.out.2.1 HE.out.2.2.1 HE.out.2.2.2.1 HE.out.2.2.2.2.1 HE.out.2.2.2.2.2.1 HE.out.2.2.2.2.2.2 (HO.out.sat HW2.out) HF.out HS.out r HR.out
      (with_reducible refine hq.mono ?_)
      clear hq
      rintro e3 w3 ⟨rfl, hb3⟩
      have HW3 := Aside0.mk (HW2.out.below hb3)
      clear hb3 HW2 x0 x1 x2 x3 x4 x5 x6 x7 x8 x9 x10 x11 x12 x13 x14
      cases r with
      | none =>
        go_wp2_with fail
        go_ret
        exact ⟨by rfl, HW3.out.toBelow⟩
      | some ls =>
        have x0 : w3.cell? ⟨w.heap.size, 0, none⟩ = some (.string o.nm) := get_cell (blk_at HW3.out) 0
        have x1 : w3.cell? ⟨w.heap.size, 1, none⟩ = some (.int .u32 o.key) := get_cell (blk_at HW3.out) 1
        have x2 : w3.cell? ⟨w.heap.size, 2, none⟩ = some (.slice a.A2 n2 a.c2) := get_cell (blk_at HW3.out) 2
        have x3 : w3.cell? ⟨w.heap.size, 3, none⟩ = some (.slice a.A3 n3 a.c3) := get_cell (blk_at HW3.out) 3
        have x4 : w3.cell? ⟨w.heap.size, 4, none⟩ = some (.int .i64 o.data) := get_cell (blk_at HW3.out) 4
        have x5 : w3.cell? ⟨w.heap.size, 5, none⟩ = some (.string o.text) := get_cell (blk_at HW3.out) 5
        have x6 : w3.cell? ⟨w.heap.size, 6, none⟩ = some (.slice a.A6 n6 a.c6) := get_cell (blk_at HW3.out) 6
        have x7 : w3.cell? ⟨w.heap.size, 7, none⟩ = some (.slice a.A7 n7 a.c7) := get_cell (blk_at HW3.out) 7
        have x8 : w3.cell? ⟨w.heap.size, 8, none⟩ = some (.slice a.A8 n8 a.c8) := get_cell (blk_at HW3.out) 8
        have x9 : w3.cell? ⟨w.heap.size, 9, none⟩ = some (.slice a.A9 n9 a.c9) := get_cell (blk_at HW3.out) 9
        have x10 : w3.cell? ⟨w.heap.size, 10, none⟩ = some (.slice a.A10 n10 a.c10) := get_cell (blk_at HW3.out) 10
        have x11 : w3.cell? ⟨w.heap.size, 11, none⟩ = some (.int .i64 o.x0) := get_cell (blk_at HW3.out) 11
        have x12 : w3.cell? ⟨w.heap.size, 12, none⟩ = some (.int .i64 o.x1) := get_cell (blk_at HW3.out) 12
        have x13 : w3.cell? ⟨w.heap.size, 13, none⟩ = some (.int .i64 o.x2) := get_cell (blk_at HW3.out) 13
        have x14 : w3.cell? ⟨w.heap.size, 14, none⟩ = some (.int .i64 o.body) := get_cell (blk_at HW3.out) 14
        go_upto_region 9 with fail
        refine wp_abs (fun W => Sat w W [ABlk w3.heap.size (.cells #[.string s, .int .u32 key, .slice a.A2 n2 a.c2, .slice a.A3 n3 a.c3, .int .i64 o.data, .string o.text, .slice a.A6 n6 a.c6, .slice a.A7 n7 a.c7, .slice a.A8 n8 a.c8, .slice a.A9 n9 a.c9, .slice a.A10 n10 a.c10, .int .i64 o.x0, .int .i64 o.x1, .int .i64 o.x2, .int .i64 o.body] 31 (0, 0)), ABlk w.heap.size (.cells #[.string o.nm, .int .u32 o.key, .slice a.A2 n2 a.c2, .slice a.A3 n3 a.c3, .int .i64 o.data, .string o.text, .slice a.A6 n6 a.c6, .slice a.A7 n7 a.c7, .slice a.A8 n8 a.c8, .slice a.A9 n9 a.c9, .slice a.A10 n10 a.c10, .int .i64 o.x0, .int .i64 o.x1, .int .i64 o.x2, .int .i64 o.body] 31 (0, 0))]) (blk_new HW3.out _) (fun W4 hW4 => ?_)
        generalize w3.heap.size = bx at hW4 ⊢
        replace hW4 := Aside0.mk hW4
        clear HW3 x0 x1 x2 x3 x4 x5 x6 x7 x8 x9 x10 x11 x12 x13 x14
        go_wp2_with fail
        go_loopg [9, 10] (n2 + 1) (fun kq v9 v10 w' => ∃ i : Nat, v9 = .bool (metB o s i) ∧ v10 = .int .i64 i ∧ Aside0 (i ≤ n2 ∧ n2 - i < kq) ∧ Aside0 (Sat w w' [ABlk bx (.cells #[.string s, .int .u32 key, .slice a.A2 n2 a.c2, .slice a.A3 n3 a.c3, .int .i64 o.data, .string o.text, .slice a.A6 n6 a.c6, .slice a.A7 n7 a.c7, .slice a.A8 n8 a.c8, .slice a.A9 n9 a.c9, .slice a.A10 n10 a.c10, .int .i64 o.x0, .int .i64 o.x1, .int .i64 o.x2, .int .i64 o.body] 31 (0, 0)), ABlk w.heap.size (.cells #[.string o.nm, .int .u32 o.key, .slice a.A2 n2 a.c2, .slice a.A3 n3 a.c3, .int .i64 o.data, .string o.text, .slice a.A6 n6 a.c6, .slice a.A7 n7 a.c7, .slice a.A8 n8 a.c8, .slice a.A9 n9 a.c9, .slice a.A10 n10 a.c10, .int .i64 o.x0, .int .i64 o.x1, .int .i64 o.x2, .int .i64 o.body] 31 (0, 0))]))
        case atStart => exact ⟨0, rfl, rfl, ⟨by omega⟩, hW4⟩
        case round =>
          clear hW4
          obtain ⟨i, rfl, rfl, Hi, HW⟩ := hrel
          obtain ⟨mb, hmb⟩ : ∃ mb, metB o s i = mb := ⟨_, rfl⟩
          have HMB := Aside0.mk hmb
          rw [hmb]
          clear hmb
          have x2 : wr.cell? ⟨w.heap.size, 2, none⟩ = some (.slice a.A2 n2 a.c2) := get_cell (blk_at HW.out.drop) 2
          by_cases hlt : i < n2
          · obtain ⟨x, hx⟩ : ∃ x, o.imps[i]? = some x := ⟨_, List.getElem?_eq_getElem (by have := HE.out.1; omega)⟩
            obtain ⟨adx, eAx, y0, y1⟩ := at_T92 (HO.out.sat HW.out).r2 (i : Int) (by omega) (by have := HE.out.1; omega)
            have evx : rd_T92 o.imps (i : Int) = x := by
              have hl := (List.getElem?_eq_some_iff.1 hx).1
              have := (List.getElem?_eq_some_iff.1 hx).2
              simp [rd_T92, hl, this]
            rw [evx] at y0 y1
            simp only [Int.toNat_natCast] at y0 y1
            have HV := Aside0.mk hx
            rw [eAx] at x2
            clear eAx evx hx y1
            have HQ := Aside0.mk hlt
            have q1 : (i < n2) = True := eq_true hlt
            have q2 : 0 ≤ (i : Int) := by omega
            have q3 : (i : Int) ≤ 100 := by have := HF.out.imps; have := HE.out.1; omega
            clear hlt
            obtain ⟨eb, heb⟩ : ∃ eb, (x.f0.toList == s.toList) = eb := ⟨_, rfl⟩
            have HME := Aside0.mk (show metB o s (i + 1) = (mb || eb) from by rw [met_step HV.out, HMB.out, heb])
            have hep : (x.f0.toList = s.toList) = (eb = true) := by rw [← heb, beq_iff_eq]
            cases mb with
            | false =>
              cases eb with
              | false =>
                go_wp2_with fail
                go_roundg (gk - 1)
                case measure => have := Hi.out; have := HQ.out; omega
                case rel => exact ⟨i + 1, by rw [HME.out]; rfl, by go_num, ⟨by have := Hi.out; have := HQ.out; omega⟩, HW⟩
              | true =>
                go_wp2_with fail
                go_roundg (gk - 1)
                case measure => have := Hi.out; have := HQ.out; omega
                case rel => exact ⟨i + 1, by rw [HME.out]; rfl, by go_num, ⟨by have := Hi.out; have := HQ.out; omega⟩, HW⟩
            | true =>
              cases eb with
              | false =>
                go_wp2_with fail
                go_roundg (gk - 1)
                case measure => have := Hi.out; have := HQ.out; omega
                case rel => exact ⟨i + 1, by rw [HME.out]; rfl, by go_num, ⟨by have := Hi.out; have := HQ.out; omega⟩, HW⟩
              | true =>
                go_wp2_with fail
                go_roundg (gk - 1)
                case measure => have := Hi.out; have := HQ.out; omega
                case rel => exact ⟨i + 1, by rw [HME.out]; rfl, by go_num, ⟨by have := Hi.out; have := HQ.out; omega⟩, HW⟩
          · have hie : i = o.imps.length := by have := Hi.out; have := HE.out.1; omega
            have HMB2 := Aside0.mk (show metB o s o.imps.length = mb from by rw [← hie]; exact HMB.out)
            have q1 : (i < n2) = False := eq_false hlt
            clear hie hlt
            obtain ⟨nb, hnb⟩ : ∃ nb, nameB s = nb := ⟨_, rfl⟩
            have HNB := Aside0.mk hnb
            clear hnb
            go_wp2_with fail
            have hq := rname_calls s HSS.out nb HNB.out wr
            (with_reducible refine hq.mono ?_)
            clear hq
            rintro e5 w5 ⟨rfl, hd5⟩
            have HW5 := Aside0.mk (HW.out.drawn hd5)
            clear hd5 HW x2
            have x0 : w5.cell? ⟨bx, 0, none⟩ = some (.string s) := get_cell (blk_at HW5.out) 0
            have x1 : w5.cell? ⟨bx, 1, none⟩ = some (.int .u32 key) := get_cell (blk_at HW5.out) 1
            have x2 : w5.cell? ⟨bx, 2, none⟩ = some (.slice a.A2 n2 a.c2) := get_cell (blk_at HW5.out) 2
            have x3 : w5.cell? ⟨bx, 3, none⟩ = some (.slice a.A3 n3 a.c3) := get_cell (blk_at HW5.out) 3
            have x4 : w5.cell? ⟨bx, 4, none⟩ = some (.int .i64 o.data) := get_cell (blk_at HW5.out) 4
            have x5 : w5.cell? ⟨bx, 5, none⟩ = some (.string o.text) := get_cell (blk_at HW5.out) 5
            have x6 : w5.cell? ⟨bx, 6, none⟩ = some (.slice a.A6 n6 a.c6) := get_cell (blk_at HW5.out) 6
            have x7 : w5.cell? ⟨bx, 7, none⟩ = some (.slice a.A7 n7 a.c7) := get_cell (blk_at HW5.out) 7
            have x8 : w5.cell? ⟨bx, 8, none⟩ = some (.slice a.A8 n8 a.c8) := get_cell (blk_at HW5.out) 8
            have x9 : w5.cell? ⟨bx, 9, none⟩ = some (.slice a.A9 n9 a.c9) := get_cell (blk_at HW5.out) 9
            have x10 : w5.cell? ⟨bx, 10, none⟩ = some (.slice a.A10 n10 a.c10) := get_cell (blk_at HW5.out) 10
            have x11 : w5.cell? ⟨bx, 11, none⟩ = some (.int .i64 o.x0) := get_cell (blk_at HW5.out) 11
            have x12 : w5.cell? ⟨bx, 12, none⟩ = some (.int .i64 o.x1) := get_cell (blk_at HW5.out) 12
            have x13 : w5.cell? ⟨bx, 13, none⟩ = some (.int .i64 o.x2) := get_cell (blk_at HW5.out) 13
            have x14 : w5.cell? ⟨bx, 14, none⟩ = some (.int .i64 o.body) := get_cell (blk_at HW5.out) 14
            go_wp2_with fail
            have hq : Calls Try.prog 39 #[.agg #[.string s, .int .u32 key, .slice a.A2 n2 a.c2, .slice a.A3 n3 a.c3, .int .i64 o.data, .string o.text, .slice a.A6 n6 a.c6, .slice a.A7 n7 a.c7, .slice a.A8 n8 a.c8, .slice a.A9 n9 a.c9, .slice a.A10 n10 a.c10, .int .i64 o.x0, .int .i64 o.x1, .int .i64 o.x2, .int .i64 o.body]] w5 fun e w' => e = .returned (.bool (nb && !mb)) ∧ Below w5.heap.size w5 w' := by
              have h := valid_calls (oX o s key) a w5 n2 n3 n6 n7 n8 n9 n10 HE.out.1 HE.out.2.1 HE.out.2.2.1 HE.out.2.2.2.1 HE.out.2.2.2.2.1 HE.out.2.2.2.2.2.1 HE.out.2.2.2.2.2.2 (rX (HO.out.sat HW5.out) s key) (fewX HF.out HSS.out key) (saneX HS.out s key) _ rfl
              rw [refsX HR.out s key, HNB.out, HMB2.out] at h
              exact h
            (with_reducible refine hq.mono ?_)
            clear hq
            rintro e6 w6 ⟨rfl, hb6⟩
            have HW6 := Aside0.mk ((HW5.out.below hb6).drop)
            clear hb6 HW5 x0 x1 x2 x3 x4 x5 x6 x7 x8 x9 x10 x11 x12 x13 x14
            cases nb with
            | false =>
              cases mb with
              | false =>
                as_aux_lemma =>
                  have x0 : w6.cell? ⟨w.heap.size, 0, none⟩ = some (.string o.nm) := get_cell (blk_at HW6.out) 0
                  have x1 : w6.cell? ⟨w.heap.size, 1, none⟩ = some (.int .u32 o.key) := get_cell (blk_at HW6.out) 1
                  have x2 : w6.cell? ⟨w.heap.size, 2, none⟩ = some (.slice a.A2 n2 a.c2) := get_cell (blk_at HW6.out) 2
                  have x3 : w6.cell? ⟨w.heap.size, 3, none⟩ = some (.slice a.A3 n3 a.c3) := get_cell (blk_at HW6.out) 3
                  have x4 : w6.cell? ⟨w.heap.size, 4, none⟩ = some (.int .i64 o.data) := get_cell (blk_at HW6.out) 4
                  have x5 : w6.cell? ⟨w.heap.size, 5, none⟩ = some (.string o.text) := get_cell (blk_at HW6.out) 5
                  have x6 : w6.cell? ⟨w.heap.size, 6, none⟩ = some (.slice a.A6 n6 a.c6) := get_cell (blk_at HW6.out) 6
                  have x7 : w6.cell? ⟨w.heap.size, 7, none⟩ = some (.slice a.A7 n7 a.c7) := get_cell (blk_at HW6.out) 7
                  have x8 : w6.cell? ⟨w.heap.size, 8, none⟩ = some (.slice a.A8 n8 a.c8) := get_cell (blk_at HW6.out) 8
                  have x9 : w6.cell? ⟨w.heap.size, 9, none⟩ = some (.slice a.A9 n9 a.c9) := get_cell (blk_at HW6.out) 9
                  have x10 : w6.cell? ⟨w.heap.size, 10, none⟩ = some (.slice a.A10 n10 a.c10) := get_cell (blk_at HW6.out) 10
                  have x11 : w6.cell? ⟨w.heap.size, 11, none⟩ = some (.int .i64 o.x0) := get_cell (blk_at HW6.out) 11
                  have x12 : w6.cell? ⟨w.heap.size, 12, none⟩ = some (.int .i64 o.x1) := get_cell (blk_at HW6.out) 12
                  have x13 : w6.cell? ⟨w.heap.size, 13, none⟩ = some (.int .i64 o.x2) := get_cell (blk_at HW6.out) 13
                  have x14 : w6.cell? ⟨w.heap.size, 14, none⟩ = some (.int .i64 o.body) := get_cell (blk_at HW6.out) 14
                  go_upto_region 18 with fail
                  refine wp_abs (fun W => Sat w W [ABlk w6.heap.size (.cells #[.string o.nm, .int .u32 o.key, .slice a.A2 n2 a.c2, .slice a.A3 n3 a.c3, .int .i64 o.data, .string o.text, .slice a.A6 n6 a.c6, .slice a.A7 n7 a.c7, .slice a.A8 n8 a.c8, .slice a.A9 n9 a.c9, .slice a.A10 n10 a.c10, .int .i64 o.x0, .int .i64 o.x1, .int .i64 o.x2, .int .i64 o.body] 31 (0, 0)), ABlk w.heap.size (.cells #[.string o.nm, .int .u32 o.key, .slice a.A2 n2 a.c2, .slice a.A3 n3 a.c3, .int .i64 o.data, .string o.text, .slice a.A6 n6 a.c6, .slice a.A7 n7 a.c7, .slice a.A8 n8 a.c8, .slice a.A9 n9 a.c9, .slice a.A10 n10 a.c10, .int .i64 o.x0, .int .i64 o.x1, .int .i64 o.x2, .int .i64 o.body] 31 (0, 0))]) (blk_new HW6.out _) (fun W7 hW7 => ?_)
                  generalize w6.heap.size = b7 at hW7 ⊢
                  replace hW7 := Aside0.mk hW7
                  clear x0 x1 x2 x3 x4 x5 x6 x7 x8 x9 x10 x11 x12 x13 x14
                  have x6 : W7.cell? ⟨w.heap.size, 6, none⟩ = some (.slice a.A6 n6 a.c6) := get_cell (blk_at hW7.out.drop) 6
                  have hx7 := hW7.out
                  have y7 : ∀ ob, (W7.alloc ob).cell? ⟨b7, 7, none⟩ = some (.slice a.A7 n7 a.c7) := fun ob => pw_cell_below (below_alloc (Below.refl _ _) ob) (get_cell (blk_at hx7) 7)
                  have f7 : ∀ ob, (W7.alloc ob).frozen? ⟨b7, 7, none⟩ = false := fun ob => get_frozen (get_below (show blk W7 b7 = _ from blk_at hx7) (below_alloc (Below.refl _ _) ob)) 7
                  clear hx7
                  go_upto_region 19 with fail
                  refine wp_abs (fun W => Sat w W [ABlk b7 (.cells #[.string o.nm, .int .u32 o.key, .slice a.A2 n2 a.c2, .slice a.A3 n3 a.c3, .int .i64 o.data, .string o.text, .slice a.A6 n6 a.c6, .slice (some ⟨W7.heap.size, 0, none⟩) 1 1, .slice a.A8 n8 a.c8, .slice a.A9 n9 a.c9, .slice a.A10 n10 a.c10, .int .i64 o.x0, .int .i64 o.x1, .int .i64 o.x2, .int .i64 o.body] 31 (0, 0)), ABlk W7.heap.size (.cells #[.string ⟨#[71, 111]⟩, .int .i64 n6] 95 (0, 0)), ABlk w.heap.size (.cells #[.string o.nm, .int .u32 o.key, .slice a.A2 n2 a.c2, .slice a.A3 n3 a.c3, .int .i64 o.data, .string o.text, .slice a.A6 n6 a.c6, .slice a.A7 n7 a.c7, .slice a.A8 n8 a.c8, .slice a.A9 n9 a.c9, .slice a.A10 n10 a.c10, .int .i64 o.x0, .int .i64 o.x1, .int .i64 o.x2, .int .i64 o.body] 31 (0, 0))]) ?_ (fun W8 hW8 => ?_)
                  · have h := blk_new hW7.out (.cells #[.string ⟨#[71, 111]⟩, .int .i64 n6] 95)
                    exact blk_put h.swap 7 (.slice (some ⟨W7.heap.size, 0, none⟩) 1 1)
                  generalize W7.heap.size = bg at hW8 ⊢
                  replace hW8 := Aside0.mk hW8
                  clear hW7 x6 y7 f7 HW6
                  have HOO := Aside0.mk (Sat.pull (l1 := [_, _]) hW8.out)
                  have x0 : W8.cell? ⟨w.heap.size, 0, none⟩ = some (.string o.nm) := get_cell (blk_at HOO.out) 0
                  have x1 : W8.cell? ⟨w.heap.size, 1, none⟩ = some (.int .u32 o.key) := get_cell (blk_at HOO.out) 1
                  have x2 : W8.cell? ⟨w.heap.size, 2, none⟩ = some (.slice a.A2 n2 a.c2) := get_cell (blk_at HOO.out) 2
                  have x3 : W8.cell? ⟨w.heap.size, 3, none⟩ = some (.slice a.A3 n3 a.c3) := get_cell (blk_at HOO.out) 3
                  have x4 : W8.cell? ⟨w.heap.size, 4, none⟩ = some (.int .i64 o.data) := get_cell (blk_at HOO.out) 4
                  have x5 : W8.cell? ⟨w.heap.size, 5, none⟩ = some (.string o.text) := get_cell (blk_at HOO.out) 5
                  have x6 : W8.cell? ⟨w.heap.size, 6, none⟩ = some (.slice a.A6 n6 a.c6) := get_cell (blk_at HOO.out) 6
                  have x7 : W8.cell? ⟨w.heap.size, 7, none⟩ = some (.slice a.A7 n7 a.c7) := get_cell (blk_at HOO.out) 7
                  have x8 : W8.cell? ⟨w.heap.size, 8, none⟩ = some (.slice a.A8 n8 a.c8) := get_cell (blk_at HOO.out) 8
                  have x9 : W8.cell? ⟨w.heap.size, 9, none⟩ = some (.slice a.A9 n9 a.c9) := get_cell (blk_at HOO.out) 9
                  have x10 : W8.cell? ⟨w.heap.size, 10, none⟩ = some (.slice a.A10 n10 a.c10) := get_cell (blk_at HOO.out) 10
                  have x11 : W8.cell? ⟨w.heap.size, 11, none⟩ = some (.int .i64 o.x0) := get_cell (blk_at HOO.out) 11
                  have x12 : W8.cell? ⟨w.heap.size, 12, none⟩ = some (.int .i64 o.x1) := get_cell (blk_at HOO.out) 12
                  have x13 : W8.cell? ⟨w.heap.size, 13, none⟩ = some (.int .i64 o.x2) := get_cell (blk_at HOO.out) 13
                  have x14 : W8.cell? ⟨w.heap.size, 14, none⟩ = some (.int .i64 o.body) := get_cell (blk_at HOO.out) 14
                  go_upto_region 21 with fail
                  refine wp_abs (fun W => Sat w W [ABlk W8.heap.size (.cells #[.string o.nm, .int .u32 o.key, .slice a.A2 n2 a.c2, .slice a.A3 n3 a.c3, .int .i64 o.data, .string o.text, .slice none 0 0, .slice a.A7 n7 a.c7, .slice a.A8 n8 a.c8, .slice a.A9 n9 a.c9, .slice a.A10 n10 a.c10, .int .i64 o.x0, .int .i64 o.x1, .int .i64 o.x2, .int .i64 o.body] 31 (0, 0)), ABlk b7 (.cells #[.string o.nm, .int .u32 o.key, .slice a.A2 n2 a.c2, .slice a.A3 n3 a.c3, .int .i64 o.data, .string o.text, .slice a.A6 n6 a.c6, .slice (some ⟨bg, 0, none⟩) 1 1, .slice a.A8 n8 a.c8, .slice a.A9 n9 a.c9, .slice a.A10 n10 a.c10, .int .i64 o.x0, .int .i64 o.x1, .int .i64 o.x2, .int .i64 o.body] 31 (0, 0)), ABlk bg (.cells #[.string ⟨#[71, 111]⟩, .int .i64 n6] 95 (0, 0)), ABlk w.heap.size (.cells #[.string o.nm, .int .u32 o.key, .slice a.A2 n2 a.c2, .slice a.A3 n3 a.c3, .int .i64 o.data, .string o.text, .slice a.A6 n6 a.c6, .slice a.A7 n7 a.c7, .slice a.A8 n8 a.c8, .slice a.A9 n9 a.c9, .slice a.A10 n10 a.c10, .int .i64 o.x0, .int .i64 o.x1, .int .i64 o.x2, .int .i64 o.body] 31 (0, 0))]) (blk_new hW8.out _) (fun W9 hW9 => ?_)
                  generalize W8.heap.size = b9 at hW9 ⊢
                  replace hW9 := Aside0.mk hW9
                  clear hW8 HOO x0 x1 x2 x3 x4 x5 x6 x7 x8 x9 x10 x11 x12 x13 x14
                  have x0 : W9.cell? ⟨b7, 0, none⟩ = some (.string o.nm) := get_cell (blk_at hW9.out.drop) 0
                  have x1 : W9.cell? ⟨b7, 1, none⟩ = some (.int .u32 o.key) := get_cell (blk_at hW9.out.drop) 1
                  have x2 : W9.cell? ⟨b7, 2, none⟩ = some (.slice a.A2 n2 a.c2) := get_cell (blk_at hW9.out.drop) 2
                  have x3 : W9.cell? ⟨b7, 3, none⟩ = some (.slice a.A3 n3 a.c3) := get_cell (blk_at hW9.out.drop) 3
                  have x4 : W9.cell? ⟨b7, 4, none⟩ = some (.int .i64 o.data) := get_cell (blk_at hW9.out.drop) 4
                  have x5 : W9.cell? ⟨b7, 5, none⟩ = some (.string o.text) := get_cell (blk_at hW9.out.drop) 5
                  have x6 : W9.cell? ⟨b7, 6, none⟩ = some (.slice a.A6 n6 a.c6) := get_cell (blk_at hW9.out.drop) 6
                  have x7 : W9.cell? ⟨b7, 7, none⟩ = some (.slice (some ⟨bg, 0, none⟩) 1 1) := get_cell (blk_at hW9.out.drop) 7
                  have x8 : W9.cell? ⟨b7, 8, none⟩ = some (.slice a.A8 n8 a.c8) := get_cell (blk_at hW9.out.drop) 8
                  have x9 : W9.cell? ⟨b7, 9, none⟩ = some (.slice a.A9 n9 a.c9) := get_cell (blk_at hW9.out.drop) 9
                  have x10 : W9.cell? ⟨b7, 10, none⟩ = some (.slice a.A10 n10 a.c10) := get_cell (blk_at hW9.out.drop) 10
                  have x11 : W9.cell? ⟨b7, 11, none⟩ = some (.int .i64 o.x0) := get_cell (blk_at hW9.out.drop) 11
                  have x12 : W9.cell? ⟨b7, 12, none⟩ = some (.int .i64 o.x1) := get_cell (blk_at hW9.out.drop) 12
                  have x13 : W9.cell? ⟨b7, 13, none⟩ = some (.int .i64 o.x2) := get_cell (blk_at hW9.out.drop) 13
                  have x14 : W9.cell? ⟨b7, 14, none⟩ = some (.int .i64 o.body) := get_cell (blk_at hW9.out.drop) 14
                  go_wp2_with fail
                  have hq : Calls Try.prog 39 #[.agg #[.string o.nm, .int .u32 o.key, .slice a.A2 n2 a.c2, .slice a.A3 n3 a.c3, .int .i64 o.data, .string o.text, .slice a.A6 n6 a.c6, .slice (some ⟨bg, 0, none⟩) 1 1, .slice a.A8 n8 a.c8, .slice a.A9 n9 a.c9, .slice a.A10 n10 a.c10, .int .i64 o.x0, .int .i64 o.x1, .int .i64 o.x2, .int .i64 o.body]] W9 fun e w' => e = .returned (.bool false) ∧ Below W9.heap.size W9 w' := valid_calls (oY o) (aY a bg) W9 n2 n3 n6 1 n8 n9 n10 HE.out.1 HE.out.2.1 HE.out.2.2.1 rfl HE.out.2.2.2.2.1 HE.out.2.2.2.2.2.1 HE.out.2.2.2.2.2.2 (rY (HO.out.sat hW9.out) (by have h := blk_at (Sat.pull (l1 := [_, _]) hW9.out); rw [HE.out.2.2.1] at h; exact h)) (fewY HF.out) (saneY HS.out) none (refsY o)
                  (with_reducible refine hq.mono ?_)
                  clear hq
                  rintro e10 w10 ⟨rfl, hb10⟩
                  have HW10 := Aside0.mk (hW9.out.below hb10)
                  clear hb10 hW9 x0 x1 x2 x3 x4 x5 x6 x7 x8 x9 x10 x11 x12 x13 x14
                  have x0 : w10.cell? ⟨b9, 0, none⟩ = some (.string o.nm) := get_cell (blk_at HW10.out) 0
                  have x1 : w10.cell? ⟨b9, 1, none⟩ = some (.int .u32 o.key) := get_cell (blk_at HW10.out) 1
                  have x2 : w10.cell? ⟨b9, 2, none⟩ = some (.slice a.A2 n2 a.c2) := get_cell (blk_at HW10.out) 2
                  have x3 : w10.cell? ⟨b9, 3, none⟩ = some (.slice a.A3 n3 a.c3) := get_cell (blk_at HW10.out) 3
                  have x4 : w10.cell? ⟨b9, 4, none⟩ = some (.int .i64 o.data) := get_cell (blk_at HW10.out) 4
                  have x5 : w10.cell? ⟨b9, 5, none⟩ = some (.string o.text) := get_cell (blk_at HW10.out) 5
                  have x6 : w10.cell? ⟨b9, 6, none⟩ = some (.slice none 0 0) := get_cell (blk_at HW10.out) 6
                  have x7 : w10.cell? ⟨b9, 7, none⟩ = some (.slice a.A7 n7 a.c7) := get_cell (blk_at HW10.out) 7
                  have x8 : w10.cell? ⟨b9, 8, none⟩ = some (.slice a.A8 n8 a.c8) := get_cell (blk_at HW10.out) 8
                  have x9 : w10.cell? ⟨b9, 9, none⟩ = some (.slice a.A9 n9 a.c9) := get_cell (blk_at HW10.out) 9
                  have x10 : w10.cell? ⟨b9, 10, none⟩ = some (.slice a.A10 n10 a.c10) := get_cell (blk_at HW10.out) 10
                  have x11 : w10.cell? ⟨b9, 11, none⟩ = some (.int .i64 o.x0) := get_cell (blk_at HW10.out) 11
                  have x12 : w10.cell? ⟨b9, 12, none⟩ = some (.int .i64 o.x1) := get_cell (blk_at HW10.out) 12
                  have x13 : w10.cell? ⟨b9, 13, none⟩ = some (.int .i64 o.x2) := get_cell (blk_at HW10.out) 13
                  have x14 : w10.cell? ⟨b9, 14, none⟩ = some (.int .i64 o.body) := get_cell (blk_at HW10.out) 14
                  go_wp2_with fail
                  have hq : Calls Try.prog 39 #[.agg #[.string o.nm, .int .u32 o.key, .slice a.A2 n2 a.c2, .slice a.A3 n3 a.c3, .int .i64 o.data, .string o.text, .slice none 0 0, .slice a.A7 n7 a.c7, .slice a.A8 n8 a.c8, .slice a.A9 n9 a.c9, .slice a.A10 n10 a.c10, .int .i64 o.x0, .int .i64 o.x1, .int .i64 o.x2, .int .i64 o.body]] w10 fun e w' => e = .returned (.bool false) ∧ Below w10.heap.size w10 w' := valid_calls (oW o) (aW a) w10 n2 n3 0 n7 n8 n9 n10 HE.out.1 HE.out.2.1 rfl HE.out.2.2.2.1 HE.out.2.2.2.2.1 HE.out.2.2.2.2.2.1 HE.out.2.2.2.2.2.2 (rW (HO.out.sat HW10.out)) (fewW HF.out) (saneW HS.out) none (refsW o)
                  (with_reducible refine hq.mono ?_)
                  clear hq
                  rintro e11 w11 ⟨rfl, hb11⟩
                  have HW11 := Aside0.mk (HW10.out.below hb11)
                  clear hb11 HW10 x0 x1 x2 x3 x4 x5 x6 x7 x8 x9 x10 x11 x12 x13 x14
                  go_wp2_with fail
                  go_ret
                  exact ⟨by rfl, HW11.out.toBelow⟩
              | true =>
                as_aux_lemma =>
                  have x0 : w6.cell? ⟨w.heap.size, 0, none⟩ = some (.string o.nm) := get_cell (blk_at HW6.out) 0
                  have x1 : w6.cell? ⟨w.heap.size, 1, none⟩ = some (.int .u32 o.key) := get_cell (blk_at HW6.out) 1
                  have x2 : w6.cell? ⟨w.heap.size, 2, none⟩ = some (.slice a.A2 n2 a.c2) := get_cell (blk_at HW6.out) 2
                  have x3 : w6.cell? ⟨w.heap.size, 3, none⟩ = some (.slice a.A3 n3 a.c3) := get_cell (blk_at HW6.out) 3
                  have x4 : w6.cell? ⟨w.heap.size, 4, none⟩ = some (.int .i64 o.data) := get_cell (blk_at HW6.out) 4
                  have x5 : w6.cell? ⟨w.heap.size, 5, none⟩ = some (.string o.text) := get_cell (blk_at HW6.out) 5
                  have x6 : w6.cell? ⟨w.heap.size, 6, none⟩ = some (.slice a.A6 n6 a.c6) := get_cell (blk_at HW6.out) 6
                  have x7 : w6.cell? ⟨w.heap.size, 7, none⟩ = some (.slice a.A7 n7 a.c7) := get_cell (blk_at HW6.out) 7
                  have x8 : w6.cell? ⟨w.heap.size, 8, none⟩ = some (.slice a.A8 n8 a.c8) := get_cell (blk_at HW6.out) 8
                  have x9 : w6.cell? ⟨w.heap.size, 9, none⟩ = some (.slice a.A9 n9 a.c9) := get_cell (blk_at HW6.out) 9
                  have x10 : w6.cell? ⟨w.heap.size, 10, none⟩ = some (.slice a.A10 n10 a.c10) := get_cell (blk_at HW6.out) 10
                  have x11 : w6.cell? ⟨w.heap.size, 11, none⟩ = some (.int .i64 o.x0) := get_cell (blk_at HW6.out) 11
                  have x12 : w6.cell? ⟨w.heap.size, 12, none⟩ = some (.int .i64 o.x1) := get_cell (blk_at HW6.out) 12
                  have x13 : w6.cell? ⟨w.heap.size, 13, none⟩ = some (.int .i64 o.x2) := get_cell (blk_at HW6.out) 13
                  have x14 : w6.cell? ⟨w.heap.size, 14, none⟩ = some (.int .i64 o.body) := get_cell (blk_at HW6.out) 14
                  go_upto_region 18 with fail
                  refine wp_abs (fun W => Sat w W [ABlk w6.heap.size (.cells #[.string o.nm, .int .u32 o.key, .slice a.A2 n2 a.c2, .slice a.A3 n3 a.c3, .int .i64 o.data, .string o.text, .slice a.A6 n6 a.c6, .slice a.A7 n7 a.c7, .slice a.A8 n8 a.c8, .slice a.A9 n9 a.c9, .slice a.A10 n10 a.c10, .int .i64 o.x0, .int .i64 o.x1, .int .i64 o.x2, .int .i64 o.body] 31 (0, 0)), ABlk w.heap.size (.cells #[.string o.nm, .int .u32 o.key, .slice a.A2 n2 a.c2, .slice a.A3 n3 a.c3, .int .i64 o.data, .string o.text, .slice a.A6 n6 a.c6, .slice a.A7 n7 a.c7, .slice a.A8 n8 a.c8, .slice a.A9 n9 a.c9, .slice a.A10 n10 a.c10, .int .i64 o.x0, .int .i64 o.x1, .int .i64 o.x2, .int .i64 o.body] 31 (0, 0))]) (blk_new HW6.out _) (fun W7 hW7 => ?_)
                  generalize w6.heap.size = b7 at hW7 ⊢
                  replace hW7 := Aside0.mk hW7
                  clear x0 x1 x2 x3 x4 x5 x6 x7 x8 x9 x10 x11 x12 x13 x14
                  have x6 : W7.cell? ⟨w.heap.size, 6, none⟩ = some (.slice a.A6 n6 a.c6) := get_cell (blk_at hW7.out.drop) 6
                  have hx7 := hW7.out
                  have y7 : ∀ ob, (W7.alloc ob).cell? ⟨b7, 7, none⟩ = some (.slice a.A7 n7 a.c7) := fun ob => pw_cell_below (below_alloc (Below.refl _ _) ob) (get_cell (blk_at hx7) 7)
                  have f7 : ∀ ob, (W7.alloc ob).frozen? ⟨b7, 7, none⟩ = false := fun ob => get_frozen (get_below (show blk W7 b7 = _ from blk_at hx7) (below_alloc (Below.refl _ _) ob)) 7
                  clear hx7
                  go_upto_region 19 with fail
                  refine wp_abs (fun W => Sat w W [ABlk b7 (.cells #[.string o.nm, .int .u32 o.key, .slice a.A2 n2 a.c2, .slice a.A3 n3 a.c3, .int .i64 o.data, .string o.text, .slice a.A6 n6 a.c6, .slice (some ⟨W7.heap.size, 0, none⟩) 1 1, .slice a.A8 n8 a.c8, .slice a.A9 n9 a.c9, .slice a.A10 n10 a.c10, .int .i64 o.x0, .int .i64 o.x1, .int .i64 o.x2, .int .i64 o.body] 31 (0, 0)), ABlk W7.heap.size (.cells #[.string ⟨#[71, 111]⟩, .int .i64 n6] 95 (0, 0)), ABlk w.heap.size (.cells #[.string o.nm, .int .u32 o.key, .slice a.A2 n2 a.c2, .slice a.A3 n3 a.c3, .int .i64 o.data, .string o.text, .slice a.A6 n6 a.c6, .slice a.A7 n7 a.c7, .slice a.A8 n8 a.c8, .slice a.A9 n9 a.c9, .slice a.A10 n10 a.c10, .int .i64 o.x0, .int .i64 o.x1, .int .i64 o.x2, .int .i64 o.body] 31 (0, 0))]) ?_ (fun W8 hW8 => ?_)
                  · have h := blk_new hW7.out (.cells #[.string ⟨#[71, 111]⟩, .int .i64 n6] 95)
                    exact blk_put h.swap 7 (.slice (some ⟨W7.heap.size, 0, none⟩) 1 1)
                  generalize W7.heap.size = bg at hW8 ⊢
                  replace hW8 := Aside0.mk hW8
                  clear hW7 x6 y7 f7 HW6
                  have HOO := Aside0.mk (Sat.pull (l1 := [_, _]) hW8.out)
                  have x0 : W8.cell? ⟨w.heap.size, 0, none⟩ = some (.string o.nm) := get_cell (blk_at HOO.out) 0
                  have x1 : W8.cell? ⟨w.heap.size, 1, none⟩ = some (.int .u32 o.key) := get_cell (blk_at HOO.out) 1
                  have x2 : W8.cell? ⟨w.heap.size, 2, none⟩ = some (.slice a.A2 n2 a.c2) := get_cell (blk_at HOO.out) 2
                  have x3 : W8.cell? ⟨w.heap.size, 3, none⟩ = some (.slice a.A3 n3 a.c3) := get_cell (blk_at HOO.out) 3
                  have x4 : W8.cell? ⟨w.heap.size, 4, none⟩ = some (.int .i64 o.data) := get_cell (blk_at HOO.out) 4
                  have x5 : W8.cell? ⟨w.heap.size, 5, none⟩ = some (.string o.text) := get_cell (blk_at HOO.out) 5
                  have x6 : W8.cell? ⟨w.heap.size, 6, none⟩ = some (.slice a.A6 n6 a.c6) := get_cell (blk_at HOO.out) 6
                  have x7 : W8.cell? ⟨w.heap.size, 7, none⟩ = some (.slice a.A7 n7 a.c7) := get_cell (blk_at HOO.out) 7
                  have x8 : W8.cell? ⟨w.heap.size, 8, none⟩ = some (.slice a.A8 n8 a.c8) := get_cell (blk_at HOO.out) 8
                  have x9 : W8.cell? ⟨w.heap.size, 9, none⟩ = some (.slice a.A9 n9 a.c9) := get_cell (blk_at HOO.out) 9
                  have x10 : W8.cell? ⟨w.heap.size, 10, none⟩ = some (.slice a.A10 n10 a.c10) := get_cell (blk_at HOO.out) 10
                  have x11 : W8.cell? ⟨w.heap.size, 11, none⟩ = some (.int .i64 o.x0) := get_cell (blk_at HOO.out) 11
                  have x12 : W8.cell? ⟨w.heap.size, 12, none⟩ = some (.int .i64 o.x1) := get_cell (blk_at HOO.out) 12
                  have x13 : W8.cell? ⟨w.heap.size, 13, none⟩ = some (.int .i64 o.x2) := get_cell (blk_at HOO.out) 13
                  have x14 : W8.cell? ⟨w.heap.size, 14, none⟩ = some (.int .i64 o.body) := get_cell (blk_at HOO.out) 14
                  go_upto_region 21 with fail
                  refine wp_abs (fun W => Sat w W [ABlk W8.heap.size (.cells #[.string o.nm, .int .u32 o.key, .slice a.A2 n2 a.c2, .slice a.A3 n3 a.c3, .int .i64 o.data, .string o.text, .slice none 0 0, .slice a.A7 n7 a.c7, .slice a.A8 n8 a.c8, .slice a.A9 n9 a.c9, .slice a.A10 n10 a.c10, .int .i64 o.x0, .int .i64 o.x1, .int .i64 o.x2, .int .i64 o.body] 31 (0, 0)), ABlk b7 (.cells #[.string o.nm, .int .u32 o.key, .slice a.A2 n2 a.c2, .slice a.A3 n3 a.c3, .int .i64 o.data, .string o.text, .slice a.A6 n6 a.c6, .slice (some ⟨bg, 0, none⟩) 1 1, .slice a.A8 n8 a.c8, .slice a.A9 n9 a.c9, .slice a.A10 n10 a.c10, .int .i64 o.x0, .int .i64 o.x1, .int .i64 o.x2, .int .i64 o.body] 31 (0, 0)), ABlk bg (.cells #[.string ⟨#[71, 111]⟩, .int .i64 n6] 95 (0, 0)), ABlk w.heap.size (.cells #[.string o.nm, .int .u32 o.key, .slice a.A2 n2 a.c2, .slice a.A3 n3 a.c3, .int .i64 o.data, .string o.text, .slice a.A6 n6 a.c6, .slice a.A7 n7 a.c7, .slice a.A8 n8 a.c8, .slice a.A9 n9 a.c9, .slice a.A10 n10 a.c10, .int .i64 o.x0, .int .i64 o.x1, .int .i64 o.x2, .int .i64 o.body] 31 (0, 0))]) (blk_new hW8.out _) (fun W9 hW9 => ?_)
                  generalize W8.heap.size = b9 at hW9 ⊢
                  replace hW9 := Aside0.mk hW9
                  clear hW8 HOO x0 x1 x2 x3 x4 x5 x6 x7 x8 x9 x10 x11 x12 x13 x14
                  have x0 : W9.cell? ⟨b7, 0, none⟩ = some (.string o.nm) := get_cell (blk_at hW9.out.drop) 0
                  have x1 : W9.cell? ⟨b7, 1, none⟩ = some (.int .u32 o.key) := get_cell (blk_at hW9.out.drop) 1
                  have x2 : W9.cell? ⟨b7, 2, none⟩ = some (.slice a.A2 n2 a.c2) := get_cell (blk_at hW9.out.drop) 2
                  have x3 : W9.cell? ⟨b7, 3, none⟩ = some (.slice a.A3 n3 a.c3) := get_cell (blk_at hW9.out.drop) 3
                  have x4 : W9.cell? ⟨b7, 4, none⟩ = some (.int .i64 o.data) := get_cell (blk_at hW9.out.drop) 4
                  have x5 : W9.cell? ⟨b7, 5, none⟩ = some (.string o.text) := get_cell (blk_at hW9.out.drop) 5
                  have x6 : W9.cell? ⟨b7, 6, none⟩ = some (.slice a.A6 n6 a.c6) := get_cell (blk_at hW9.out.drop) 6
                  have x7 : W9.cell? ⟨b7, 7, none⟩ = some (.slice (some ⟨bg, 0, none⟩) 1 1) := get_cell (blk_at hW9.out.drop) 7
                  have x8 : W9.cell? ⟨b7, 8, none⟩ = some (.slice a.A8 n8 a.c8) := get_cell (blk_at hW9.out.drop) 8
                  have x9 : W9.cell? ⟨b7, 9, none⟩ = some (.slice a.A9 n9 a.c9) := get_cell (blk_at hW9.out.drop) 9
                  have x10 : W9.cell? ⟨b7, 10, none⟩ = some (.slice a.A10 n10 a.c10) := get_cell (blk_at hW9.out.drop) 10
                  have x11 : W9.cell? ⟨b7, 11, none⟩ = some (.int .i64 o.x0) := get_cell (blk_at hW9.out.drop) 11
                  have x12 : W9.cell? ⟨b7, 12, none⟩ = some (.int .i64 o.x1) := get_cell (blk_at hW9.out.drop) 12
                  have x13 : W9.cell? ⟨b7, 13, none⟩ = some (.int .i64 o.x2) := get_cell (blk_at hW9.out.drop) 13
                  have x14 : W9.cell? ⟨b7, 14, none⟩ = some (.int .i64 o.body) := get_cell (blk_at hW9.out.drop) 14
                  go_wp2_with fail
                  have hq : Calls Try.prog 39 #[.agg #[.string o.nm, .int .u32 o.key, .slice a.A2 n2 a.c2, .slice a.A3 n3 a.c3, .int .i64 o.data, .string o.text, .slice a.A6 n6 a.c6, .slice (some ⟨bg, 0, none⟩) 1 1, .slice a.A8 n8 a.c8, .slice a.A9 n9 a.c9, .slice a.A10 n10 a.c10, .int .i64 o.x0, .int .i64 o.x1, .int .i64 o.x2, .int .i64 o.body]] W9 fun e w' => e = .returned (.bool false) ∧ Below W9.heap.size W9 w' := valid_calls (oY o) (aY a bg) W9 n2 n3 n6 1 n8 n9 n10 HE.out.1 HE.out.2.1 HE.out.2.2.1 rfl HE.out.2.2.2.2.1 HE.out.2.2.2.2.2.1 HE.out.2.2.2.2.2.2 (rY (HO.out.sat hW9.out) (by have h := blk_at (Sat.pull (l1 := [_, _]) hW9.out); rw [HE.out.2.2.1] at h; exact h)) (fewY HF.out) (saneY HS.out) none (refsY o)
                  (with_reducible refine hq.mono ?_)
                  clear hq
                  rintro e10 w10 ⟨rfl, hb10⟩
                  have HW10 := Aside0.mk (hW9.out.below hb10)
                  clear hb10 hW9 x0 x1 x2 x3 x4 x5 x6 x7 x8 x9 x10 x11 x12 x13 x14
                  have x0 : w10.cell? ⟨b9, 0, none⟩ = some (.string o.nm) := get_cell (blk_at HW10.out) 0
                  have x1 : w10.cell? ⟨b9, 1, none⟩ = some (.int .u32 o.key) := get_cell (blk_at HW10.out) 1
                  have x2 : w10.cell? ⟨b9, 2, none⟩ = some (.slice a.A2 n2 a.c2) := get_cell (blk_at HW10.out) 2
                  have x3 : w10.cell? ⟨b9, 3, none⟩ = some (.slice a.A3 n3 a.c3) := get_cell (blk_at HW10.out) 3
                  have x4 : w10.cell? ⟨b9, 4, none⟩ = some (.int .i64 o.data) := get_cell (blk_at HW10.out) 4
                  have x5 : w10.cell? ⟨b9, 5, none⟩ = some (.string o.text) := get_cell (blk_at HW10.out) 5
                  have x6 : w10.cell? ⟨b9, 6, none⟩ = some (.slice none 0 0) := get_cell (blk_at HW10.out) 6
                  have x7 : w10.cell? ⟨b9, 7, none⟩ = some (.slice a.A7 n7 a.c7) := get_cell (blk_at HW10.out) 7
                  have x8 : w10.cell? ⟨b9, 8, none⟩ = some (.slice a.A8 n8 a.c8) := get_cell (blk_at HW10.out) 8
                  have x9 : w10.cell? ⟨b9, 9, none⟩ = some (.slice a.A9 n9 a.c9) := get_cell (blk_at HW10.out) 9
                  have x10 : w10.cell? ⟨b9, 10, none⟩ = some (.slice a.A10 n10 a.c10) := get_cell (blk_at HW10.out) 10
                  have x11 : w10.cell? ⟨b9, 11, none⟩ = some (.int .i64 o.x0) := get_cell (blk_at HW10.out) 11
                  have x12 : w10.cell? ⟨b9, 12, none⟩ = some (.int .i64 o.x1) := get_cell (blk_at HW10.out) 12
                  have x13 : w10.cell? ⟨b9, 13, none⟩ = some (.int .i64 o.x2) := get_cell (blk_at HW10.out) 13
                  have x14 : w10.cell? ⟨b9, 14, none⟩ = some (.int .i64 o.body) := get_cell (blk_at HW10.out) 14
                  go_wp2_with fail
                  have hq : Calls Try.prog 39 #[.agg #[.string o.nm, .int .u32 o.key, .slice a.A2 n2 a.c2, .slice a.A3 n3 a.c3, .int .i64 o.data, .string o.text, .slice none 0 0, .slice a.A7 n7 a.c7, .slice a.A8 n8 a.c8, .slice a.A9 n9 a.c9, .slice a.A10 n10 a.c10, .int .i64 o.x0, .int .i64 o.x1, .int .i64 o.x2, .int .i64 o.body]] w10 fun e w' => e = .returned (.bool false) ∧ Below w10.heap.size w10 w' := valid_calls (oW o) (aW a) w10 n2 n3 0 n7 n8 n9 n10 HE.out.1 HE.out.2.1 rfl HE.out.2.2.2.1 HE.out.2.2.2.2.1 HE.out.2.2.2.2.2.1 HE.out.2.2.2.2.2.2 (rW (HO.out.sat HW10.out)) (fewW HF.out) (saneW HS.out) none (refsW o)
                  (with_reducible refine hq.mono ?_)
                  clear hq
                  rintro e11 w11 ⟨rfl, hb11⟩
                  have HW11 := Aside0.mk (HW10.out.below hb11)
                  clear hb11 HW10 x0 x1 x2 x3 x4 x5 x6 x7 x8 x9 x10 x11 x12 x13 x14
                  go_wp2_with fail
                  go_ret
                  exact ⟨by rfl, HW11.out.toBelow⟩
            | true =>
              cases mb with
              | false =>
                as_aux_lemma =>
                  have x0 : w6.cell? ⟨w.heap.size, 0, none⟩ = some (.string o.nm) := get_cell (blk_at HW6.out) 0
                  have x1 : w6.cell? ⟨w.heap.size, 1, none⟩ = some (.int .u32 o.key) := get_cell (blk_at HW6.out) 1
                  have x2 : w6.cell? ⟨w.heap.size, 2, none⟩ = some (.slice a.A2 n2 a.c2) := get_cell (blk_at HW6.out) 2
                  have x3 : w6.cell? ⟨w.heap.size, 3, none⟩ = some (.slice a.A3 n3 a.c3) := get_cell (blk_at HW6.out) 3
                  have x4 : w6.cell? ⟨w.heap.size, 4, none⟩ = some (.int .i64 o.data) := get_cell (blk_at HW6.out) 4
                  have x5 : w6.cell? ⟨w.heap.size, 5, none⟩ = some (.string o.text) := get_cell (blk_at HW6.out) 5
                  have x6 : w6.cell? ⟨w.heap.size, 6, none⟩ = some (.slice a.A6 n6 a.c6) := get_cell (blk_at HW6.out) 6
                  have x7 : w6.cell? ⟨w.heap.size, 7, none⟩ = some (.slice a.A7 n7 a.c7) := get_cell (blk_at HW6.out) 7
                  have x8 : w6.cell? ⟨w.heap.size, 8, none⟩ = some (.slice a.A8 n8 a.c8) := get_cell (blk_at HW6.out) 8
                  have x9 : w6.cell? ⟨w.heap.size, 9, none⟩ = some (.slice a.A9 n9 a.c9) := get_cell (blk_at HW6.out) 9
                  have x10 : w6.cell? ⟨w.heap.size, 10, none⟩ = some (.slice a.A10 n10 a.c10) := get_cell (blk_at HW6.out) 10
                  have x11 : w6.cell? ⟨w.heap.size, 11, none⟩ = some (.int .i64 o.x0) := get_cell (blk_at HW6.out) 11
                  have x12 : w6.cell? ⟨w.heap.size, 12, none⟩ = some (.int .i64 o.x1) := get_cell (blk_at HW6.out) 12
                  have x13 : w6.cell? ⟨w.heap.size, 13, none⟩ = some (.int .i64 o.x2) := get_cell (blk_at HW6.out) 13
                  have x14 : w6.cell? ⟨w.heap.size, 14, none⟩ = some (.int .i64 o.body) := get_cell (blk_at HW6.out) 14
                  go_upto_region 18 with fail
                  refine wp_abs (fun W => Sat w W [ABlk w6.heap.size (.cells #[.string o.nm, .int .u32 o.key, .slice a.A2 n2 a.c2, .slice a.A3 n3 a.c3, .int .i64 o.data, .string o.text, .slice a.A6 n6 a.c6, .slice a.A7 n7 a.c7, .slice a.A8 n8 a.c8, .slice a.A9 n9 a.c9, .slice a.A10 n10 a.c10, .int .i64 o.x0, .int .i64 o.x1, .int .i64 o.x2, .int .i64 o.body] 31 (0, 0)), ABlk w.heap.size (.cells #[.string o.nm, .int .u32 o.key, .slice a.A2 n2 a.c2, .slice a.A3 n3 a.c3, .int .i64 o.data, .string o.text, .slice a.A6 n6 a.c6, .slice a.A7 n7 a.c7, .slice a.A8 n8 a.c8, .slice a.A9 n9 a.c9, .slice a.A10 n10 a.c10, .int .i64 o.x0, .int .i64 o.x1, .int .i64 o.x2, .int .i64 o.body] 31 (0, 0))]) (blk_new HW6.out _) (fun W7 hW7 => ?_)
                  generalize w6.heap.size = b7 at hW7 ⊢
                  replace hW7 := Aside0.mk hW7
                  clear x0 x1 x2 x3 x4 x5 x6 x7 x8 x9 x10 x11 x12 x13 x14
                  have x6 : W7.cell? ⟨w.heap.size, 6, none⟩ = some (.slice a.A6 n6 a.c6) := get_cell (blk_at hW7.out.drop) 6
                  have hx7 := hW7.out
                  have y7 : ∀ ob, (W7.alloc ob).cell? ⟨b7, 7, none⟩ = some (.slice a.A7 n7 a.c7) := fun ob => pw_cell_below (below_alloc (Below.refl _ _) ob) (get_cell (blk_at hx7) 7)
                  have f7 : ∀ ob, (W7.alloc ob).frozen? ⟨b7, 7, none⟩ = false := fun ob => get_frozen (get_below (show blk W7 b7 = _ from blk_at hx7) (below_alloc (Below.refl _ _) ob)) 7
                  clear hx7
                  go_upto_region 19 with fail
                  refine wp_abs (fun W => Sat w W [ABlk b7 (.cells #[.string o.nm, .int .u32 o.key, .slice a.A2 n2 a.c2, .slice a.A3 n3 a.c3, .int .i64 o.data, .string o.text, .slice a.A6 n6 a.c6, .slice (some ⟨W7.heap.size, 0, none⟩) 1 1, .slice a.A8 n8 a.c8, .slice a.A9 n9 a.c9, .slice a.A10 n10 a.c10, .int .i64 o.x0, .int .i64 o.x1, .int .i64 o.x2, .int .i64 o.body] 31 (0, 0)), ABlk W7.heap.size (.cells #[.string ⟨#[71, 111]⟩, .int .i64 n6] 95 (0, 0)), ABlk w.heap.size (.cells #[.string o.nm, .int .u32 o.key, .slice a.A2 n2 a.c2, .slice a.A3 n3 a.c3, .int .i64 o.data, .string o.text, .slice a.A6 n6 a.c6, .slice a.A7 n7 a.c7, .slice a.A8 n8 a.c8, .slice a.A9 n9 a.c9, .slice a.A10 n10 a.c10, .int .i64 o.x0, .int .i64 o.x1, .int .i64 o.x2, .int .i64 o.body] 31 (0, 0))]) ?_ (fun W8 hW8 => ?_)
                  · have h := blk_new hW7.out (.cells #[.string ⟨#[71, 111]⟩, .int .i64 n6] 95)
                    exact blk_put h.swap 7 (.slice (some ⟨W7.heap.size, 0, none⟩) 1 1)
                  generalize W7.heap.size = bg at hW8 ⊢
                  replace hW8 := Aside0.mk hW8
                  clear hW7 x6 y7 f7 HW6
                  have HOO := Aside0.mk (Sat.pull (l1 := [_, _]) hW8.out)
                  have x0 : W8.cell? ⟨w.heap.size, 0, none⟩ = some (.string o.nm) := get_cell (blk_at HOO.out) 0
                  have x1 : W8.cell? ⟨w.heap.size, 1, none⟩ = some (.int .u32 o.key) := get_cell (blk_at HOO.out) 1
                  have x2 : W8.cell? ⟨w.heap.size, 2, none⟩ = some (.slice a.A2 n2 a.c2) := get_cell (blk_at HOO.out) 2
                  have x3 : W8.cell? ⟨w.heap.size, 3, none⟩ = some (.slice a.A3 n3 a.c3) := get_cell (blk_at HOO.out) 3
                  have x4 : W8.cell? ⟨w.heap.size, 4, none⟩ = some (.int .i64 o.data) := get_cell (blk_at HOO.out) 4
                  have x5 : W8.cell? ⟨w.heap.size, 5, none⟩ = some (.string o.text) := get_cell (blk_at HOO.out) 5
                  have x6 : W8.cell? ⟨w.heap.size, 6, none⟩ = some (.slice a.A6 n6 a.c6) := get_cell (blk_at HOO.out) 6
                  have x7 : W8.cell? ⟨w.heap.size, 7, none⟩ = some (.slice a.A7 n7 a.c7) := get_cell (blk_at HOO.out) 7
                  have x8 : W8.cell? ⟨w.heap.size, 8, none⟩ = some (.slice a.A8 n8 a.c8) := get_cell (blk_at HOO.out) 8
                  have x9 : W8.cell? ⟨w.heap.size, 9, none⟩ = some (.slice a.A9 n9 a.c9) := get_cell (blk_at HOO.out) 9
                  have x10 : W8.cell? ⟨w.heap.size, 10, none⟩ = some (.slice a.A10 n10 a.c10) := get_cell (blk_at HOO.out) 10
                  have x11 : W8.cell? ⟨w.heap.size, 11, none⟩ = some (.int .i64 o.x0) := get_cell (blk_at HOO.out) 11
                  have x12 : W8.cell? ⟨w.heap.size, 12, none⟩ = some (.int .i64 o.x1) := get_cell (blk_at HOO.out) 12
                  have x13 : W8.cell? ⟨w.heap.size, 13, none⟩ = some (.int .i64 o.x2) := get_cell (blk_at HOO.out) 13
                  have x14 : W8.cell? ⟨w.heap.size, 14, none⟩ = some (.int .i64 o.body) := get_cell (blk_at HOO.out) 14
                  go_upto_region 21 with fail
                  refine wp_abs (fun W => Sat w W [ABlk W8.heap.size (.cells #[.string o.nm, .int .u32 o.key, .slice a.A2 n2 a.c2, .slice a.A3 n3 a.c3, .int .i64 o.data, .string o.text, .slice none 0 0, .slice a.A7 n7 a.c7, .slice a.A8 n8 a.c8, .slice a.A9 n9 a.c9, .slice a.A10 n10 a.c10, .int .i64 o.x0, .int .i64 o.x1, .int .i64 o.x2, .int .i64 o.body] 31 (0, 0)), ABlk b7 (.cells #[.string o.nm, .int .u32 o.key, .slice a.A2 n2 a.c2, .slice a.A3 n3 a.c3, .int .i64 o.data, .string o.text, .slice a.A6 n6 a.c6, .slice (some ⟨bg, 0, none⟩) 1 1, .slice a.A8 n8 a.c8, .slice a.A9 n9 a.c9, .slice a.A10 n10 a.c10, .int .i64 o.x0, .int .i64 o.x1, .int .i64 o.x2, .int .i64 o.body] 31 (0, 0)), ABlk bg (.cells #[.string ⟨#[71, 111]⟩, .int .i64 n6] 95 (0, 0)), ABlk w.heap.size (.cells #[.string o.nm, .int .u32 o.key, .slice a.A2 n2 a.c2, .slice a.A3 n3 a.c3, .int .i64 o.data, .string o.text, .slice a.A6 n6 a.c6, .slice a.A7 n7 a.c7, .slice a.A8 n8 a.c8, .slice a.A9 n9 a.c9, .slice a.A10 n10 a.c10, .int .i64 o.x0, .int .i64 o.x1, .int .i64 o.x2, .int .i64 o.body] 31 (0, 0))]) (blk_new hW8.out _) (fun W9 hW9 => ?_)
                  generalize W8.heap.size = b9 at hW9 ⊢
                  replace hW9 := Aside0.mk hW9
                  clear hW8 HOO x0 x1 x2 x3 x4 x5 x6 x7 x8 x9 x10 x11 x12 x13 x14
                  have x0 : W9.cell? ⟨b7, 0, none⟩ = some (.string o.nm) := get_cell (blk_at hW9.out.drop) 0
                  have x1 : W9.cell? ⟨b7, 1, none⟩ = some (.int .u32 o.key) := get_cell (blk_at hW9.out.drop) 1
                  have x2 : W9.cell? ⟨b7, 2, none⟩ = some (.slice a.A2 n2 a.c2) := get_cell (blk_at hW9.out.drop) 2
                  have x3 : W9.cell? ⟨b7, 3, none⟩ = some (.slice a.A3 n3 a.c3) := get_cell (blk_at hW9.out.drop) 3
                  have x4 : W9.cell? ⟨b7, 4, none⟩ = some (.int .i64 o.data) := get_cell (blk_at hW9.out.drop) 4
                  have x5 : W9.cell? ⟨b7, 5, none⟩ = some (.string o.text) := get_cell (blk_at hW9.out.drop) 5
                  have x6 : W9.cell? ⟨b7, 6, none⟩ = some (.slice a.A6 n6 a.c6) := get_cell (blk_at hW9.out.drop) 6
                  have x7 : W9.cell? ⟨b7, 7, none⟩ = some (.slice (some ⟨bg, 0, none⟩) 1 1) := get_cell (blk_at hW9.out.drop) 7
                  have x8 : W9.cell? ⟨b7, 8, none⟩ = some (.slice a.A8 n8 a.c8) := get_cell (blk_at hW9.out.drop) 8
                  have x9 : W9.cell? ⟨b7, 9, none⟩ = some (.slice a.A9 n9 a.c9) := get_cell (blk_at hW9.out.drop) 9
                  have x10 : W9.cell? ⟨b7, 10, none⟩ = some (.slice a.A10 n10 a.c10) := get_cell (blk_at hW9.out.drop) 10
                  have x11 : W9.cell? ⟨b7, 11, none⟩ = some (.int .i64 o.x0) := get_cell (blk_at hW9.out.drop) 11
                  have x12 : W9.cell? ⟨b7, 12, none⟩ = some (.int .i64 o.x1) := get_cell (blk_at hW9.out.drop) 12
                  have x13 : W9.cell? ⟨b7, 13, none⟩ = some (.int .i64 o.x2) := get_cell (blk_at hW9.out.drop) 13
                  have x14 : W9.cell? ⟨b7, 14, none⟩ = some (.int .i64 o.body) := get_cell (blk_at hW9.out.drop) 14
                  go_wp2_with fail
                  have hq : Calls Try.prog 39 #[.agg #[.string o.nm, .int .u32 o.key, .slice a.A2 n2 a.c2, .slice a.A3 n3 a.c3, .int .i64 o.data, .string o.text, .slice a.A6 n6 a.c6, .slice (some ⟨bg, 0, none⟩) 1 1, .slice a.A8 n8 a.c8, .slice a.A9 n9 a.c9, .slice a.A10 n10 a.c10, .int .i64 o.x0, .int .i64 o.x1, .int .i64 o.x2, .int .i64 o.body]] W9 fun e w' => e = .returned (.bool false) ∧ Below W9.heap.size W9 w' := valid_calls (oY o) (aY a bg) W9 n2 n3 n6 1 n8 n9 n10 HE.out.1 HE.out.2.1 HE.out.2.2.1 rfl HE.out.2.2.2.2.1 HE.out.2.2.2.2.2.1 HE.out.2.2.2.2.2.2 (rY (HO.out.sat hW9.out) (by have h := blk_at (Sat.pull (l1 := [_, _]) hW9.out); rw [HE.out.2.2.1] at h; exact h)) (fewY HF.out) (saneY HS.out) none (refsY o)
                  (with_reducible refine hq.mono ?_)
                  clear hq
                  rintro e10 w10 ⟨rfl, hb10⟩
                  have HW10 := Aside0.mk (hW9.out.below hb10)
                  clear hb10 hW9 x0 x1 x2 x3 x4 x5 x6 x7 x8 x9 x10 x11 x12 x13 x14
                  have x0 : w10.cell? ⟨b9, 0, none⟩ = some (.string o.nm) := get_cell (blk_at HW10.out) 0
                  have x1 : w10.cell? ⟨b9, 1, none⟩ = some (.int .u32 o.key) := get_cell (blk_at HW10.out) 1
                  have x2 : w10.cell? ⟨b9, 2, none⟩ = some (.slice a.A2 n2 a.c2) := get_cell (blk_at HW10.out) 2
                  have x3 : w10.cell? ⟨b9, 3, none⟩ = some (.slice a.A3 n3 a.c3) := get_cell (blk_at HW10.out) 3
                  have x4 : w10.cell? ⟨b9, 4, none⟩ = some (.int .i64 o.data) := get_cell (blk_at HW10.out) 4
                  have x5 : w10.cell? ⟨b9, 5, none⟩ = some (.string o.text) := get_cell (blk_at HW10.out) 5
                  have x6 : w10.cell? ⟨b9, 6, none⟩ = some (.slice none 0 0) := get_cell (blk_at HW10.out) 6
                  have x7 : w10.cell? ⟨b9, 7, none⟩ = some (.slice a.A7 n7 a.c7) := get_cell (blk_at HW10.out) 7
                  have x8 : w10.cell? ⟨b9, 8, none⟩ = some (.slice a.A8 n8 a.c8) := get_cell (blk_at HW10.out) 8
                  have x9 : w10.cell? ⟨b9, 9, none⟩ = some (.slice a.A9 n9 a.c9) := get_cell (blk_at HW10.out) 9
                  have x10 : w10.cell? ⟨b9, 10, none⟩ = some (.slice a.A10 n10 a.c10) := get_cell (blk_at HW10.out) 10
                  have x11 : w10.cell? ⟨b9, 11, none⟩ = some (.int .i64 o.x0) := get_cell (blk_at HW10.out) 11
                  have x12 : w10.cell? ⟨b9, 12, none⟩ = some (.int .i64 o.x1) := get_cell (blk_at HW10.out) 12
                  have x13 : w10.cell? ⟨b9, 13, none⟩ = some (.int .i64 o.x2) := get_cell (blk_at HW10.out) 13
                  have x14 : w10.cell? ⟨b9, 14, none⟩ = some (.int .i64 o.body) := get_cell (blk_at HW10.out) 14
                  go_wp2_with fail
                  have hq : Calls Try.prog 39 #[.agg #[.string o.nm, .int .u32 o.key, .slice a.A2 n2 a.c2, .slice a.A3 n3 a.c3, .int .i64 o.data, .string o.text, .slice none 0 0, .slice a.A7 n7 a.c7, .slice a.A8 n8 a.c8, .slice a.A9 n9 a.c9, .slice a.A10 n10 a.c10, .int .i64 o.x0, .int .i64 o.x1, .int .i64 o.x2, .int .i64 o.body]] w10 fun e w' => e = .returned (.bool false) ∧ Below w10.heap.size w10 w' := valid_calls (oW o) (aW a) w10 n2 n3 0 n7 n8 n9 n10 HE.out.1 HE.out.2.1 rfl HE.out.2.2.2.1 HE.out.2.2.2.2.1 HE.out.2.2.2.2.2.1 HE.out.2.2.2.2.2.2 (rW (HO.out.sat HW10.out)) (fewW HF.out) (saneW HS.out) none (refsW o)
                  (with_reducible refine hq.mono ?_)
                  clear hq
                  rintro e11 w11 ⟨rfl, hb11⟩
                  have HW11 := Aside0.mk (HW10.out.below hb11)
                  clear hb11 HW10 x0 x1 x2 x3 x4 x5 x6 x7 x8 x9 x10 x11 x12 x13 x14
                  go_wp2_with fail
                  go_ret
                  exact ⟨by rfl, HW11.out.toBelow⟩
              | true =>
                as_aux_lemma =>
                  have x0 : w6.cell? ⟨w.heap.size, 0, none⟩ = some (.string o.nm) := get_cell (blk_at HW6.out) 0
                  have x1 : w6.cell? ⟨w.heap.size, 1, none⟩ = some (.int .u32 o.key) := get_cell (blk_at HW6.out) 1
                  have x2 : w6.cell? ⟨w.heap.size, 2, none⟩ = some (.slice a.A2 n2 a.c2) := get_cell (blk_at HW6.out) 2
                  have x3 : w6.cell? ⟨w.heap.size, 3, none⟩ = some (.slice a.A3 n3 a.c3) := get_cell (blk_at HW6.out) 3
                  have x4 : w6.cell? ⟨w.heap.size, 4, none⟩ = some (.int .i64 o.data) := get_cell (blk_at HW6.out) 4
                  have x5 : w6.cell? ⟨w.heap.size, 5, none⟩ = some (.string o.text) := get_cell (blk_at HW6.out) 5
                  have x6 : w6.cell? ⟨w.heap.size, 6, none⟩ = some (.slice a.A6 n6 a.c6) := get_cell (blk_at HW6.out) 6
                  have x7 : w6.cell? ⟨w.heap.size, 7, none⟩ = some (.slice a.A7 n7 a.c7) := get_cell (blk_at HW6.out) 7
                  have x8 : w6.cell? ⟨w.heap.size, 8, none⟩ = some (.slice a.A8 n8 a.c8) := get_cell (blk_at HW6.out) 8
                  have x9 : w6.cell? ⟨w.heap.size, 9, none⟩ = some (.slice a.A9 n9 a.c9) := get_cell (blk_at HW6.out) 9
                  have x10 : w6.cell? ⟨w.heap.size, 10, none⟩ = some (.slice a.A10 n10 a.c10) := get_cell (blk_at HW6.out) 10
                  have x11 : w6.cell? ⟨w.heap.size, 11, none⟩ = some (.int .i64 o.x0) := get_cell (blk_at HW6.out) 11
                  have x12 : w6.cell? ⟨w.heap.size, 12, none⟩ = some (.int .i64 o.x1) := get_cell (blk_at HW6.out) 12
                  have x13 : w6.cell? ⟨w.heap.size, 13, none⟩ = some (.int .i64 o.x2) := get_cell (blk_at HW6.out) 13
                  have x14 : w6.cell? ⟨w.heap.size, 14, none⟩ = some (.int .i64 o.body) := get_cell (blk_at HW6.out) 14
                  go_upto_region 18 with fail
                  refine wp_abs (fun W => Sat w W [ABlk w6.heap.size (.cells #[.string o.nm, .int .u32 o.key, .slice a.A2 n2 a.c2, .slice a.A3 n3 a.c3, .int .i64 o.data, .string o.text, .slice a.A6 n6 a.c6, .slice a.A7 n7 a.c7, .slice a.A8 n8 a.c8, .slice a.A9 n9 a.c9, .slice a.A10 n10 a.c10, .int .i64 o.x0, .int .i64 o.x1, .int .i64 o.x2, .int .i64 o.body] 31 (0, 0)), ABlk w.heap.size (.cells #[.string o.nm, .int .u32 o.key, .slice a.A2 n2 a.c2, .slice a.A3 n3 a.c3, .int .i64 o.data, .string o.text, .slice a.A6 n6 a.c6, .slice a.A7 n7 a.c7, .slice a.A8 n8 a.c8, .slice a.A9 n9 a.c9, .slice a.A10 n10 a.c10, .int .i64 o.x0, .int .i64 o.x1, .int .i64 o.x2, .int .i64 o.body] 31 (0, 0))]) (blk_new HW6.out _) (fun W7 hW7 => ?_)
                  generalize w6.heap.size = b7 at hW7 ⊢
                  replace hW7 := Aside0.mk hW7
                  clear x0 x1 x2 x3 x4 x5 x6 x7 x8 x9 x10 x11 x12 x13 x14
                  have x6 : W7.cell? ⟨w.heap.size, 6, none⟩ = some (.slice a.A6 n6 a.c6) := get_cell (blk_at hW7.out.drop) 6
                  have hx7 := hW7.out
                  have y7 : ∀ ob, (W7.alloc ob).cell? ⟨b7, 7, none⟩ = some (.slice a.A7 n7 a.c7) := fun ob => pw_cell_below (below_alloc (Below.refl _ _) ob) (get_cell (blk_at hx7) 7)
                  have f7 : ∀ ob, (W7.alloc ob).frozen? ⟨b7, 7, none⟩ = false := fun ob => get_frozen (get_below (show blk W7 b7 = _ from blk_at hx7) (below_alloc (Below.refl _ _) ob)) 7
                  clear hx7
                  go_upto_region 19 with fail
                  refine wp_abs (fun W => Sat w W [ABlk b7 (.cells #[.string o.nm, .int .u32 o.key, .slice a.A2 n2 a.c2, .slice a.A3 n3 a.c3, .int .i64 o.data, .string o.text, .slice a.A6 n6 a.c6, .slice (some ⟨W7.heap.size, 0, none⟩) 1 1, .slice a.A8 n8 a.c8, .slice a.A9 n9 a.c9, .slice a.A10 n10 a.c10, .int .i64 o.x0, .int .i64 o.x1, .int .i64 o.x2, .int .i64 o.body] 31 (0, 0)), ABlk W7.heap.size (.cells #[.string ⟨#[71, 111]⟩, .int .i64 n6] 95 (0, 0)), ABlk w.heap.size (.cells #[.string o.nm, .int .u32 o.key, .slice a.A2 n2 a.c2, .slice a.A3 n3 a.c3, .int .i64 o.data, .string o.text, .slice a.A6 n6 a.c6, .slice a.A7 n7 a.c7, .slice a.A8 n8 a.c8, .slice a.A9 n9 a.c9, .slice a.A10 n10 a.c10, .int .i64 o.x0, .int .i64 o.x1, .int .i64 o.x2, .int .i64 o.body] 31 (0, 0))]) ?_ (fun W8 hW8 => ?_)
                  · have h := blk_new hW7.out (.cells #[.string ⟨#[71, 111]⟩, .int .i64 n6] 95)
                    exact blk_put h.swap 7 (.slice (some ⟨W7.heap.size, 0, none⟩) 1 1)
                  generalize W7.heap.size = bg at hW8 ⊢
                  replace hW8 := Aside0.mk hW8
                  clear hW7 x6 y7 f7 HW6
                  have HOO := Aside0.mk (Sat.pull (l1 := [_, _]) hW8.out)
                  have x0 : W8.cell? ⟨w.heap.size, 0, none⟩ = some (.string o.nm) := get_cell (blk_at HOO.out) 0
                  have x1 : W8.cell? ⟨w.heap.size, 1, none⟩ = some (.int .u32 o.key) := get_cell (blk_at HOO.out) 1
                  have x2 : W8.cell? ⟨w.heap.size, 2, none⟩ = some (.slice a.A2 n2 a.c2) := get_cell (blk_at HOO.out) 2
                  have x3 : W8.cell? ⟨w.heap.size, 3, none⟩ = some (.slice a.A3 n3 a.c3) := get_cell (blk_at HOO.out) 3
                  have x4 : W8.cell? ⟨w.heap.size, 4, none⟩ = some (.int .i64 o.data) := get_cell (blk_at HOO.out) 4
                  have x5 : W8.cell? ⟨w.heap.size, 5, none⟩ = some (.string o.text) := get_cell (blk_at HOO.out) 5
                  have x6 : W8.cell? ⟨w.heap.size, 6, none⟩ = some (.slice a.A6 n6 a.c6) := get_cell (blk_at HOO.out) 6
                  have x7 : W8.cell? ⟨w.heap.size, 7, none⟩ = some (.slice a.A7 n7 a.c7) := get_cell (blk_at HOO.out) 7
                  have x8 : W8.cell? ⟨w.heap.size, 8, none⟩ = some (.slice a.A8 n8 a.c8) := get_cell (blk_at HOO.out) 8
                  have x9 : W8.cell? ⟨w.heap.size, 9, none⟩ = some (.slice a.A9 n9 a.c9) := get_cell (blk_at HOO.out) 9
                  have x10 : W8.cell? ⟨w.heap.size, 10, none⟩ = some (.slice a.A10 n10 a.c10) := get_cell (blk_at HOO.out) 10
                  have x11 : W8.cell? ⟨w.heap.size, 11, none⟩ = some (.int .i64 o.x0) := get_cell (blk_at HOO.out) 11
                  have x12 : W8.cell? ⟨w.heap.size, 12, none⟩ = some (.int .i64 o.x1) := get_cell (blk_at HOO.out) 12
                  have x13 : W8.cell? ⟨w.heap.size, 13, none⟩ = some (.int .i64 o.x2) := get_cell (blk_at HOO.out) 13
                  have x14 : W8.cell? ⟨w.heap.size, 14, none⟩ = some (.int .i64 o.body) := get_cell (blk_at HOO.out) 14
                  go_upto_region 21 with fail
                  refine wp_abs (fun W => Sat w W [ABlk W8.heap.size (.cells #[.string o.nm, .int .u32 o.key, .slice a.A2 n2 a.c2, .slice a.A3 n3 a.c3, .int .i64 o.data, .string o.text, .slice none 0 0, .slice a.A7 n7 a.c7, .slice a.A8 n8 a.c8, .slice a.A9 n9 a.c9, .slice a.A10 n10 a.c10, .int .i64 o.x0, .int .i64 o.x1, .int .i64 o.x2, .int .i64 o.body] 31 (0, 0)), ABlk b7 (.cells #[.string o.nm, .int .u32 o.key, .slice a.A2 n2 a.c2, .slice a.A3 n3 a.c3, .int .i64 o.data, .string o.text, .slice a.A6 n6 a.c6, .slice (some ⟨bg, 0, none⟩) 1 1, .slice a.A8 n8 a.c8, .slice a.A9 n9 a.c9, .slice a.A10 n10 a.c10, .int .i64 o.x0, .int .i64 o.x1, .int .i64 o.x2, .int .i64 o.body] 31 (0, 0)), ABlk bg (.cells #[.string ⟨#[71, 111]⟩, .int .i64 n6] 95 (0, 0)), ABlk w.heap.size (.cells #[.string o.nm, .int .u32 o.key, .slice a.A2 n2 a.c2, .slice a.A3 n3 a.c3, .int .i64 o.data, .string o.text, .slice a.A6 n6 a.c6, .slice a.A7 n7 a.c7, .slice a.A8 n8 a.c8, .slice a.A9 n9 a.c9, .slice a.A10 n10 a.c10, .int .i64 o.x0, .int .i64 o.x1, .int .i64 o.x2, .int .i64 o.body] 31 (0, 0))]) (blk_new hW8.out _) (fun W9 hW9 => ?_)
                  generalize W8.heap.size = b9 at hW9 ⊢
                  replace hW9 := Aside0.mk hW9
                  clear hW8 HOO x0 x1 x2 x3 x4 x5 x6 x7 x8 x9 x10 x11 x12 x13 x14
                  have x0 : W9.cell? ⟨b7, 0, none⟩ = some (.string o.nm) := get_cell (blk_at hW9.out.drop) 0
                  have x1 : W9.cell? ⟨b7, 1, none⟩ = some (.int .u32 o.key) := get_cell (blk_at hW9.out.drop) 1
                  have x2 : W9.cell? ⟨b7, 2, none⟩ = some (.slice a.A2 n2 a.c2) := get_cell (blk_at hW9.out.drop) 2
                  have x3 : W9.cell? ⟨b7, 3, none⟩ = some (.slice a.A3 n3 a.c3) := get_cell (blk_at hW9.out.drop) 3
                  have x4 : W9.cell? ⟨b7, 4, none⟩ = some (.int .i64 o.data) := get_cell (blk_at hW9.out.drop) 4
                  have x5 : W9.cell? ⟨b7, 5, none⟩ = some (.string o.text) := get_cell (blk_at hW9.out.drop) 5
                  have x6 : W9.cell? ⟨b7, 6, none⟩ = some (.slice a.A6 n6 a.c6) := get_cell (blk_at hW9.out.drop) 6
                  have x7 : W9.cell? ⟨b7, 7, none⟩ = some (.slice (some ⟨bg, 0, none⟩) 1 1) := get_cell (blk_at hW9.out.drop) 7
                  have x8 : W9.cell? ⟨b7, 8, none⟩ = some (.slice a.A8 n8 a.c8) := get_cell (blk_at hW9.out.drop) 8
                  have x9 : W9.cell? ⟨b7, 9, none⟩ = some (.slice a.A9 n9 a.c9) := get_cell (blk_at hW9.out.drop) 9
                  have x10 : W9.cell? ⟨b7, 10, none⟩ = some (.slice a.A10 n10 a.c10) := get_cell (blk_at hW9.out.drop) 10
                  have x11 : W9.cell? ⟨b7, 11, none⟩ = some (.int .i64 o.x0) := get_cell (blk_at hW9.out.drop) 11
                  have x12 : W9.cell? ⟨b7, 12, none⟩ = some (.int .i64 o.x1) := get_cell (blk_at hW9.out.drop) 12
                  have x13 : W9.cell? ⟨b7, 13, none⟩ = some (.int .i64 o.x2) := get_cell (blk_at hW9.out.drop) 13
                  have x14 : W9.cell? ⟨b7, 14, none⟩ = some (.int .i64 o.body) := get_cell (blk_at hW9.out.drop) 14
                  go_wp2_with fail
                  have hq : Calls Try.prog 39 #[.agg #[.string o.nm, .int .u32 o.key, .slice a.A2 n2 a.c2, .slice a.A3 n3 a.c3, .int .i64 o.data, .string o.text, .slice a.A6 n6 a.c6, .slice (some ⟨bg, 0, none⟩) 1 1, .slice a.A8 n8 a.c8, .slice a.A9 n9 a.c9, .slice a.A10 n10 a.c10, .int .i64 o.x0, .int .i64 o.x1, .int .i64 o.x2, .int .i64 o.body]] W9 fun e w' => e = .returned (.bool false) ∧ Below W9.heap.size W9 w' := valid_calls (oY o) (aY a bg) W9 n2 n3 n6 1 n8 n9 n10 HE.out.1 HE.out.2.1 HE.out.2.2.1 rfl HE.out.2.2.2.2.1 HE.out.2.2.2.2.2.1 HE.out.2.2.2.2.2.2 (rY (HO.out.sat hW9.out) (by have h := blk_at (Sat.pull (l1 := [_, _]) hW9.out); rw [HE.out.2.2.1] at h; exact h)) (fewY HF.out) (saneY HS.out) none (refsY o)
                  (with_reducible refine hq.mono ?_)
                  clear hq
                  rintro e10 w10 ⟨rfl, hb10⟩
                  have HW10 := Aside0.mk (hW9.out.below hb10)
                  clear hb10 hW9 x0 x1 x2 x3 x4 x5 x6 x7 x8 x9 x10 x11 x12 x13 x14
                  have x0 : w10.cell? ⟨b9, 0, none⟩ = some (.string o.nm) := get_cell (blk_at HW10.out) 0
                  have x1 : w10.cell? ⟨b9, 1, none⟩ = some (.int .u32 o.key) := get_cell (blk_at HW10.out) 1
                  have x2 : w10.cell? ⟨b9, 2, none⟩ = some (.slice a.A2 n2 a.c2) := get_cell (blk_at HW10.out) 2
                  have x3 : w10.cell? ⟨b9, 3, none⟩ = some (.slice a.A3 n3 a.c3) := get_cell (blk_at HW10.out) 3
                  have x4 : w10.cell? ⟨b9, 4, none⟩ = some (.int .i64 o.data) := get_cell (blk_at HW10.out) 4
                  have x5 : w10.cell? ⟨b9, 5, none⟩ = some (.string o.text) := get_cell (blk_at HW10.out) 5
                  have x6 : w10.cell? ⟨b9, 6, none⟩ = some (.slice none 0 0) := get_cell (blk_at HW10.out) 6
                  have x7 : w10.cell? ⟨b9, 7, none⟩ = some (.slice a.A7 n7 a.c7) := get_cell (blk_at HW10.out) 7
                  have x8 : w10.cell? ⟨b9, 8, none⟩ = some (.slice a.A8 n8 a.c8) := get_cell (blk_at HW10.out) 8
                  have x9 : w10.cell? ⟨b9, 9, none⟩ = some (.slice a.A9 n9 a.c9) := get_cell (blk_at HW10.out) 9
                  have x10 : w10.cell? ⟨b9, 10, none⟩ = some (.slice a.A10 n10 a.c10) := get_cell (blk_at HW10.out) 10
                  have x11 : w10.cell? ⟨b9, 11, none⟩ = some (.int .i64 o.x0) := get_cell (blk_at HW10.out) 11
                  have x12 : w10.cell? ⟨b9, 12, none⟩ = some (.int .i64 o.x1) := get_cell (blk_at HW10.out) 12
                  have x13 : w10.cell? ⟨b9, 13, none⟩ = some (.int .i64 o.x2) := get_cell (blk_at HW10.out) 13
                  have x14 : w10.cell? ⟨b9, 14, none⟩ = some (.int .i64 o.body) := get_cell (blk_at HW10.out) 14
                  go_wp2_with fail
                  have hq : Calls Try.prog 39 #[.agg #[.string o.nm, .int .u32 o.key, .slice a.A2 n2 a.c2, .slice a.A3 n3 a.c3, .int .i64 o.data, .string o.text, .slice none 0 0, .slice a.A7 n7 a.c7, .slice a.A8 n8 a.c8, .slice a.A9 n9 a.c9, .slice a.A10 n10 a.c10, .int .i64 o.x0, .int .i64 o.x1, .int .i64 o.x2, .int .i64 o.body]] w10 fun e w' => e = .returned (.bool false) ∧ Below w10.heap.size w10 w' := valid_calls (oW o) (aW a) w10 n2 n3 0 n7 n8 n9 n10 HE.out.1 HE.out.2.1 rfl HE.out.2.2.2.1 HE.out.2.2.2.2.1 HE.out.2.2.2.2.2.1 HE.out.2.2.2.2.2.2 (rW (HO.out.sat HW10.out)) (fewW HF.out) (saneW HS.out) none (refsW o)
                  (with_reducible refine hq.mono ?_)
                  clear hq
                  rintro e11 w11 ⟨rfl, hb11⟩
                  have HW11 := Aside0.mk (HW10.out.below hb11)
                  clear hb11 HW10 x0 x1 x2 x3 x4 x5 x6 x7 x8 x9 x10 x11 x12 x13 x14
                  go_wp2_with fail
                  go_ret
                  exact ⟨by rfl, HW11.out.toBelow⟩
end Go.Proofs.Ytnflalbiffamdaa.MineObj
