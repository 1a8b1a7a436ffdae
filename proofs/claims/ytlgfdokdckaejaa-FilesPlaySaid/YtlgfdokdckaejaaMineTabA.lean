/- Tables of modules: copies of rows; where a module of a name is. Conditions: the lengths are small. -/
import Derived.Test.YtlgfdokdckaejaaQTableKeepsx2
import Derived.Test.YtlgfdokdckaejaaMineRows
import Derived.Deep.RegionLaw
namespace Go.Proofs.Ytlgfdokdckaejaa.MineTab
open Go.RowKit Go.MapKept Go.Proofs.YtlgfdokdckaejaaW.PrintWords Go.Proofs.YtlgfdokdckaejaaW.PrintLast Go.Proofs.YtlgfdokdckaejaaW.PrintMore Go.Proofs.Ytlgfdokdckaejaa.MineBase Go.Proofs.Ytlgfdokdckaejaa.MineSep Go.Proofs.Ytlgfdokdckaejaa.MineRows Go.Proofs.Ytlgfdokdckaejaa.QTableKeeps
set_option linter.unusedVariables false
set_option linter.unusedSimpArgs false
theorem infoI : (Try.prog.info? 3).map (fun i => (i.zero, i.size, i.bytes)) = some (some (.int .i64 0), 1, 8) := by kernel_rfl
theorem infoS : (Try.prog.info? 9).map (fun i => (i.zero, i.size, i.bytes)) = some (some (.string ⟨#[]⟩), 1, 16) := by kernel_rfl
theorem infoX : (Try.prog.info? 71).map (fun i => (i.zero, i.size, i.bytes)) = some (some (.agg #[.int .i64 0, .int .i64 0, .slice none 0 0]), 3, 40) := by kernel_rfl
theorem infoE : (Try.prog.info? 100).map (fun i => (i.zero, i.size, i.bytes)) = some (some (.agg #[.string ⟨#[]⟩, .int .i64 0]), 2, 24) := by kernel_rfl
theorem flat100 : ∀ (W : World) base ok (x : S100) cs, k100.K W x cs → k100.M W base ok x cs := fun W base ok x cs h => by
  have e := k100_open h
  subst e
  exact k100_mkM W base ok x
theorem nil_of {α : Type} {d : Kd α} {w : World} {l : List α} (h : d.C w none l.length l) : l = [] := by
  rcases Nat.eq_zero_or_pos l.length with hz | hz
  · exact List.length_eq_zero_iff.1 hz
  · obtain ⟨ad, e1, _⟩ := h.2.2 hz
    cases e1
set_option maxHeartbeats 1000000 in
set_option maxRecDepth 100000 in
theorem CloneI_calls (A : Option Addr) (c : Nat) (l : List Int) (w : World) (hr : Kd.C (Kd.int .i64) w A l.length l) (hl : l.length ≤ 1000000) :
    Calls Try.prog 49 #[.slice A l.length c] w fun e w' => ∃ v, e = .returned v ∧ Kd.R (Kd.int .i64) 3 w' w.heap.size (fun _ => True) v l ∧ Below w.heap.size w w' := by
  have hnl : ∀ w : World, (binOp .eql 59 (.slice A l.length c) (.slice none 0 0)).run Try.prog w = .ok (.bool A.isNone) w := fun w => Lib.run_eql_slice_nil (P := Try.prog) w 59 3 A l.length c 0 0 Try.underlying59
  cases A with
  | none =>
    obtain rfl := nil_of hr
    replace hnl : ∀ w : World, (binOp .eql 59 (.slice none 0 c) (.slice none 0 0)).run Try.prog w = .ok (.bool true) w := hnl
    go_enter Try.func49, Try.ntmps49
    go_wp2
    go_ret
    exact ⟨_, rfl, Kd.R_nil _ _ _ _ _, Below.refl _ _⟩
  | some A =>
    replace hnl : ∀ w : World, (binOp .eql 59 (.slice (some A) l.length c) (.slice none 0 0)).run Try.prog w = .ok (.bool false) w := hnl
    have HR := Aside0.mk hr
    clear hr
    go_enter Try.func49, Try.ntmps49
    go_wp2_with (at_builtin; refine copy_flat (Kd.int .i64) rfl (.tmp 5) (.tmp 6) 59 3 (.int .i64 0) 8 rfl Try.underlying59 infoI rfl (by decide) (by decide) (fun _ _ _ _ _ h => h) w (some A) c l rfl rfl HR.out (by omega) ?_; intro v1 w1 hR1 hb1; have HR1 := Aside0.mk hR1; have HB1 := Aside0.mk hb1; clear hR1 hb1)
    go_ret
    exact ⟨_, rfl, HR1.out, HB1.out⟩
set_option maxHeartbeats 1000000 in
set_option maxRecDepth 100000 in
theorem CloneS_calls (A : Option Addr) (c : Nat) (l : List ByteArray) (w : World) (hr : Kd.C Kd.string w A l.length l) (hl : l.length ≤ 1000000) :
    Calls Try.prog 50 #[.slice A l.length c] w fun e w' => ∃ v, e = .returned v ∧ Kd.R Kd.string 9 w' w.heap.size (fun _ => True) v l ∧ Below w.heap.size w w' := by
  have hnl : ∀ w : World, (binOp .eql 45 (.slice A l.length c) (.slice none 0 0)).run Try.prog w = .ok (.bool A.isNone) w := fun w => Lib.run_eql_slice_nil (P := Try.prog) w 45 9 A l.length c 0 0 Try.underlying45
  cases A with
  | none =>
    obtain rfl := nil_of hr
    replace hnl : ∀ w : World, (binOp .eql 45 (.slice none 0 c) (.slice none 0 0)).run Try.prog w = .ok (.bool true) w := hnl
    go_enter Try.func50, Try.ntmps50
    go_wp2
    go_ret
    exact ⟨_, rfl, Kd.R_nil _ _ _ _ _, Below.refl _ _⟩
  | some A =>
    replace hnl : ∀ w : World, (binOp .eql 45 (.slice (some A) l.length c) (.slice none 0 0)).run Try.prog w = .ok (.bool false) w := hnl
    have HR := Aside0.mk hr
    clear hr
    go_enter Try.func50, Try.ntmps50
    go_wp2_with (at_builtin; refine copy_flat Kd.string rfl (.tmp 5) (.tmp 6) 45 9 (.string ⟨#[]⟩) 16 rfl Try.underlying45 infoS rfl (by decide) (by decide) (fun _ _ _ _ _ h => h) w (some A) c l rfl rfl HR.out (by omega) ?_; intro v1 w1 hR1 hb1; have HR1 := Aside0.mk hR1; have HB1 := Aside0.mk hb1; clear hR1 hb1)
    go_ret
    exact ⟨_, rfl, HR1.out, HB1.out⟩
set_option maxHeartbeats 1000000 in
set_option maxRecDepth 100000 in
theorem CloneE_calls (A : Option Addr) (c : Nat) (l : List S100) (w : World) (hr : Kd.C k100 w A l.length l) (hl : l.length ≤ 1000000) :
    Calls Try.prog 52 #[.slice A l.length c] w fun e w' => ∃ v, e = .returned v ∧ Kd.R k100 100 w' w.heap.size (fun _ => True) v l ∧ Below w.heap.size w w' := by
  have hnl : ∀ w : World, (binOp .eql 63 (.slice A l.length c) (.slice none 0 0)).run Try.prog w = .ok (.bool A.isNone) w := fun w => Lib.run_eql_slice_nil (P := Try.prog) w 63 100 A l.length c 0 0 Try.underlying63
  cases A with
  | none =>
    obtain rfl := nil_of hr
    replace hnl : ∀ w : World, (binOp .eql 63 (.slice none 0 c) (.slice none 0 0)).run Try.prog w = .ok (.bool true) w := hnl
    go_enter Try.func52, Try.ntmps52
    go_wp2
    go_ret
    exact ⟨_, rfl, Kd.R_nil _ _ _ _ _, Below.refl _ _⟩
  | some A =>
    replace hnl : ∀ w : World, (binOp .eql 63 (.slice (some A) l.length c) (.slice none 0 0)).run Try.prog w = .ok (.bool false) w := hnl
    have HR := Aside0.mk hr
    clear hr
    go_enter Try.func52, Try.ntmps52
    go_wp2_with (at_builtin; refine copy_flat k100 rfl (.tmp 5) (.tmp 6) 63 100 _ 24 rfl Try.underlying63 infoE rfl (by decide) (by decide) flat100 w (some A) c l rfl rfl HR.out (by omega) ?_; intro v1 w1 hR1 hb1; have HR1 := Aside0.mk hR1; have HB1 := Aside0.mk hb1; clear hR1 hb1)
    go_ret
    exact ⟨_, rfl, HR1.out, HB1.out⟩
set_option maxHeartbeats 1000000 in
set_option maxRecDepth 100000 in
theorem CloneX_calls (A : Option Addr) (c : Nat) (l : List S71) (we w : World) (hr : ReadsRow (k71.K we) k71.sz w A l.length l) (hl : l.length ≤ 1000000) :
    Calls Try.prog 51 #[.slice A l.length c] w fun e w' => ∃ v rows, e = .returned v ∧ rows.length = l.length ∧ (Kd.raw k71.sz).R 71 w' w.heap.size (fun _ => True) v rows ∧ (∀ (j : Nat) (x : S71) (c : List Value), l[j]? = some x → rows[j]? = some c → k71.K we x c) ∧ Below w.heap.size w w' := by
  have hnl : ∀ w : World, (binOp .eql 62 (.slice A l.length c) (.slice none 0 0)).run Try.prog w = .ok (.bool A.isNone) w := fun w => Lib.run_eql_slice_nil (P := Try.prog) w 62 71 A l.length c 0 0 Try.underlying62
  cases A with
  | none =>
    obtain rfl : l = [] := by
      rcases Nat.eq_zero_or_pos l.length with hz | hz
      · exact List.length_eq_zero_iff.1 hz
      · obtain ⟨ad, e1, _⟩ := hr.2.2 hz
        cases e1
    replace hnl : ∀ w : World, (binOp .eql 62 (.slice none 0 c) (.slice none 0 0)).run Try.prog w = .ok (.bool true) w := hnl
    go_enter Try.func51, Try.ntmps51
    go_wp2
    go_ret
    exact ⟨_, [], rfl, rfl, Kd.R_nil _ _ _ _ _, fun j x c h => by simp at h, Below.refl _ _⟩
  | some A =>
    replace hnl : ∀ w : World, (binOp .eql 62 (.slice (some A) l.length c) (.slice none 0 0)).run Try.prog w = .ok (.bool false) w := hnl
    have HR := Aside0.mk hr
    clear hr
    go_enter Try.func51, Try.ntmps51
    go_wp2_with (at_builtin; refine copy_raw k71 rfl (.tmp 5) (.tmp 6) 62 71 _ 40 rfl Try.underlying62 infoX rfl (by decide) (by decide) we w (some A) c l rfl rfl HR.out (by omega) ?_; intro v1 w1 rows hrl hR1 hrK hb1; have HRL := Aside0.mk hrl; have HR1 := Aside0.mk hR1; have HK1 := Aside0.mk hrK; have HB1 := Aside0.mk hb1; clear hR1 hb1 hrl hrK)
    go_ret
    exact ⟨_, rows, rfl, HRL.out, HR1.out, HK1.out, HB1.out⟩
/-- The first place where p holds; -1: nowhere. -/
def idxP {α : Type} (p : α → Bool) : List α → Int
  | [] => -1
  | x :: l => if p x then 0 else (if idxP p l < 0 then -1 else idxP p l + 1)
theorem idxP_range {α : Type} (p : α → Bool) : ∀ l : List α, -1 ≤ idxP p l ∧ idxP p l < l.length
  | [] => by simp [idxP]
  | x :: l => by
    have := idxP_range p l
    unfold idxP
    simp only [List.length_cons]
    split
    · omega
    · split <;> omega
/-- A place, told from i on. -/
def shiftI (i : Nat) (r : Int) : Int := if r < 0 then -1 else r + i
theorem shift_zero {α : Type} (p : α → Bool) (l : List α) : shiftI 0 (idxP p l) = idxP p l := by
  have := idxP_range p l
  unfold shiftI
  split <;> omega
theorem shift_hit {α : Type} {p : α → Bool} {l : List α} {i : Nat} {x : α} (h : l[i]? = some x) (hp : p x = true) : shiftI i (idxP p (l.drop i)) = i := by
  have hl := (List.getElem?_eq_some_iff.1 h).1
  rw [List.drop_eq_getElem_cons hl, (List.getElem?_eq_some_iff.1 h).2]
  simp [idxP, hp, shiftI]
theorem shift_miss {α : Type} {p : α → Bool} {l : List α} {i : Nat} {x : α} (h : l[i]? = some x) (hp : p x = false) : shiftI i (idxP p (l.drop i)) = shiftI (i + 1) (idxP p (l.drop (i + 1))) := by
  have hl := (List.getElem?_eq_some_iff.1 h).1
  have := idxP_range p (l.drop (i + 1))
  rw [List.drop_eq_getElem_cons hl, (List.getElem?_eq_some_iff.1 h).2]
  simp only [idxP, hp, shiftI]
  simp only [Bool.false_eq_true, if_false]
  by_cases h1 : idxP p (l.drop (i + 1)) < 0
  · rw [if_pos h1, if_pos h1, if_pos (by decide)]
  · rw [if_neg h1, if_neg h1, if_neg (by omega)]; omega
theorem shift_end {α : Type} (p : α → Bool) (l : List α) : shiftI l.length (idxP p (l.drop l.length)) = -1 := by
  rw [List.drop_length]; rfl
theorem ret_eq {a b : Value} (h : a = b) : Ending.returned a = .returned b := by rw [h]
/-- Two texts are one. -/
def eqS (a b : ByteArray) : Bool := a.toList == b.toList
theorem eqS_iff (a b : ByteArray) : eqS a b = true ↔ a = b := by
  unfold eqS
  rw [beq_iff_eq, ByteArray.toList_eq, ByteArray.toList_eq]
  constructor
  · intro h
    cases a
    cases b
    exact congrArg ByteArray.mk (Array.toList_inj.1 h)
  · intro h; rw [h]
/-- Where a module of a name is; -1: nowhere. -/
def atI (ms : List S65) (s : ByteArray) : Int := idxP (fun m : S65 => eqS m.f0 s) ms
set_option maxHeartbeats 1000000 in
set_option maxRecDepth 100000 in
theorem at1_calls (m : S65) (s : ByteArray) (b : Nat) (v1 v2 v3 v4 v5 v6 v7 v8 v9 v10 v11 v12 : Value) (w : World) (hb : w.cell? ⟨b, 0, none⟩ = some (.string s)) :
    Calls Try.prog 47 #[.agg #[.string m.f0, v1, v2, v3, v4, v5, v6, v7, v8, v9, v10, v11, v12], .pointer (some ⟨b, 0, none⟩)] w fun e w' => e = .returned (.bool (eqS m.f0 s)) ∧ Below w.heap.size w w' := by
  have hlt := World.block_lt_of_cell? w _ hb
  have hb1 := pw_cell_below (below_alloc (Below.refl w.heap.size w) (.cells #[.string m.f0, v1, v2, v3, v4, v5, v6, v7, v8, v9, v10, v11, v12] 65)) hb
  go_enter Try.func47, Try.ntmps47
  go_wp2
  go_ret
  exact ⟨by rfl, by repeat (first | exact Below.refl _ _ | apply below_alloc)⟩
set_option maxHeartbeats 1000000 in
set_option maxRecDepth 100000 in
theorem IndexM_calls (A : Option Addr) (c : Nat) (xs : List S65) (b : Nat) (s : ByteArray) (w : World) (hC : Kd.C k65 w A xs.length xs) (hn : xs.length ≤ 1000) (hb : w.cell? ⟨b, 0, none⟩ = some (.string s)) :
    Calls Try.prog 46 #[.slice A xs.length c, .func (.func 47) #[] #[.pointer (some ⟨b, 0, none⟩)]] w fun e w' => e = .returned (.int .i64 (atI xs s)) ∧ Below w.heap.size w w' := by
  have HC := Aside0.mk hC
  have HB0 := Aside0.mk hb
  clear hC hb
  go_enter Try.func46, Try.ntmps46
  go_wp2
  go_loopg [8] (xs.length + 1) (fun kq v8 w' => ∃ i : Nat, v8 = .int .i64 i ∧ Aside0 (i ≤ xs.length ∧ xs.length - i < kq) ∧ Aside0 (atI xs s = shiftI i (idxP (fun m : S65 => eqS m.f0 s) (xs.drop i))) ∧ Aside0 (Below w.heap.size w w'))
  case atStart => exact ⟨0, rfl, ⟨by omega⟩, ⟨by rw [List.drop_zero, shift_zero]; rfl⟩, ⟨Below.refl _ _⟩⟩
  case round =>
    obtain ⟨i, rfl, Hi, HR, HB⟩ := hrel
    by_cases hlt : i < xs.length
    · obtain ⟨ad, A8, c8, A9, c9, A10, c10, A11, c11, A12, c12, rfl, x0, x1, x2, x3, x4, x5, x6, x7, x8, x9, x10, x11, x12, _⟩ := at_T65 HC.out (i : Int) (by omega) (by omega)
      have hb := pw_cell_below HB.out HB0.out
      replace x0 := pw_cell_below HB.out x0
      replace x1 := pw_cell_below HB.out x1
      replace x2 := pw_cell_below HB.out x2
      replace x3 := pw_cell_below HB.out x3
      replace x4 := pw_cell_below HB.out x4
      replace x5 := pw_cell_below HB.out x5
      replace x6 := pw_cell_below HB.out x6
      replace x7 := pw_cell_below HB.out x7
      replace x8 := pw_cell_below HB.out x8
      replace x9 := pw_cell_below HB.out x9
      replace x10 := pw_cell_below HB.out x10
      replace x11 := pw_cell_below HB.out x11
      replace x12 := pw_cell_below HB.out x12
      have hget : xs[i]? = some (rd_T65 xs (i : Int)) := by
        unfold rd_T65
        rw [Int.toNat_natCast, List.getD_eq_getElem?_getD, List.getElem?_eq_getElem hlt]; rfl
      have HG := Aside0.mk hget
      have d1 : decide ((i : Int) < (xs.length : Int)) = true := decide_eq_true (by omega)
      have p1 : (i < xs.length) = True := eq_true hlt
      have p9 : (i : Int) ≤ 1000 := by omega
      have p8 : 0 ≤ (i : Int) := by omega
      simp only [Int.toNat_natCast] at x0 x1 x2 x3 x4 x5 x6 x7 x8 x9 x10 x11 x12
      clear hlt hget
      go_wp2_with fail
      refine (at1_calls (rd_T65 xs (i : Int)) s b _ _ _ _ _ _ _ _ _ _ _ _ wr hb).mono ?_
      rintro e2 w2 ⟨rfl, hb2⟩
      have HB2 := Aside0.mk (below_step HB.out hb2)
      clear hb2 hb x0 x1 x2 x3 x4 x5 x6 x7 x8 x9 x10 x11 x12
      cases hq : eqS (rd_T65 xs (i : Int)).f0 s with
      | true =>
        have HQ := Aside0.mk (shift_hit (p := fun m : S65 => eqS m.f0 s) HG.out hq)
        clear hq
        go_wp2
        go_ret
        exact ⟨ret_eq (by rw [HR.out, HQ.out]; rfl), HB2.out⟩
      | false =>
        have HQ := Aside0.mk (shift_miss (p := fun m : S65 => eqS m.f0 s) HG.out hq)
        clear hq
        go_wp2
        go_roundg (gk - 1)
        case measure => have := Hi.out; omega
        case rel => exact ⟨i + 1, by go_num, ⟨by have := Hi.out; have := of_eq_true p1; omega⟩, ⟨by rw [HR.out, HQ.out]⟩, HB2⟩
    · have hi : i = xs.length := by have := Hi.out; omega
      have d1 : (i < xs.length) = False := eq_false hlt
      have HE := Aside0.mk (show atI xs s = -1 by rw [HR.out, hi, shift_end])
      clear hi hlt
      go_wp2
      go_ret
      exact ⟨ret_eq (by rw [HE.out]; rfl), HB.out⟩
end Go.Proofs.Ytlgfdokdckaejaa.MineTab
