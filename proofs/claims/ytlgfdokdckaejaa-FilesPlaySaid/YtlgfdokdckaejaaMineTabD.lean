/- Tables of modules: a table in memory, and what it tells: where a module is, how many refer to one, for how many there is room, all names. Conditions: the lengths are small. -/
import Derived.Test.YtlgfdokdckaejaaMineTabC
import Derived.Deep.QuietTactic
import Derived.BigQuiet
namespace Go.Proofs.Ytlgfdokdckaejaa.MineTab
open Go.RowKit Go.MapKept Go.Proofs.YtlgfdokdckaejaaW.PrintWords Go.Proofs.YtlgfdokdckaejaaW.PrintLast Go.Proofs.YtlgfdokdckaejaaW.PrintMore Go.Proofs.Ytlgfdokdckaejaa.MineBase Go.Proofs.Ytlgfdokdckaejaa.MineSep Go.Proofs.Ytlgfdokdckaejaa.MineRows Go.Proofs.Ytlgfdokdckaejaa.QTableKeeps
set_option linter.unusedVariables false
set_option linter.unusedSimpArgs false
attribute [local go_sem] max2_int min2_int max_two min_two max_three min_three max_four min_four   -- for this text's walks alone
/-- A module's rows are short. -/
def SmallM (m : S65) : Prop := m.f4.f4.length ≤ 1000000 ∧ m.f4.f5.length ≤ 1000000 ∧ m.f5.length ≤ 1000000 ∧ m.f6.length ≤ 1000000 ∧ m.f7.length ≤ 1000000 ∧ ∀ x ∈ m.f6, x.f2.length ≤ 1000000
/-- A table: a struct's block g, and a row of modules. -/
def TabP (base g : Nat) (most : Int) (ms : List S65) (W : World) (D : Nat → Prop) : Prop :=
  ∃ v, W.heap[g]? = some (.cells #[.int .i64 most, v] 86 (0, 0)) ∧ D g ∧ Kd.N k65 65 W base (fun k => D k ∧ k ≠ g) v ms ∧ (0 ≤ most ∧ most ≤ 16 ∧ (ms.length : Int) ≤ most) ∧ ∀ m ∈ ms, SmallM m
def ATab (base g : Nat) (most : Int) (ms : List S65) : Asn where
  P := TabP base g most ms
  mono := fun hd ⟨v, h1, h2, h3, h4⟩ => ⟨v, h1, hd _ h2, Kd.N_mono h3 (fun k hk => ⟨hd k hk.1, hk.2⟩), h4⟩
  bound := fun ⟨v, h1, h2, h3, h4⟩ => ⟨v, h1, ⟨h2, blk_lt h1⟩, Kd.N_mono (Kd.N_bound h3) (fun k hk => ⟨⟨hk.1.1, hk.2⟩, hk.1.2⟩), h4⟩
  move := fun hm ⟨v, h1, h2, h3, h4⟩ => ⟨v, (hm _ h2).trans h1, h2, Kd.N_step h3 (fun k hk _ => hm k hk.1), h4⟩
theorem tab_open {w0 W : World} {base g : Nat} {most : Int} {ms : List S65} {l : List Asn} (h : Sat w0 W (ATab base g most ms :: l)) :
    ∃ A c, W.heap[g]? = some (.cells #[.int .i64 most, .slice A ms.length c] 86 (0, 0)) ∧ Kd.C k65 W A ms.length ms ∧ ms.length ≤ c ∧ (0 ≤ most ∧ most ≤ 16 ∧ (ms.length : Int) ≤ most) ∧ (∀ m ∈ ms, SmallM m) ∧ w0.heap.size ≤ g := by
  obtain ⟨D, ⟨v, h1, h2, h3, h4, h5⟩, hD⟩ := h.head
  obtain ⟨A, c, rfl, hl, hC⟩ := Kd.N_reads h3
  exact ⟨A, c, h1, hC, hl, h4, h5, (hD _ h2).1⟩
theorem new_tab {w0 w : World} {l : List Asn} (HS : Sat w0 w l) {a x : Int} (hx : mn (mx a 0) 16 = x) (h0 : 0 ≤ x ∧ x ≤ 16) : Sat w0 (w.alloc (.cells #[.int .i64 x, .slice none 0 0] 86)) (ATab w0.heap.size w.heap.size (mn (mx a 0) 16) [] :: l) := by
  rw [hx]
  exact HS.new (A := ATab w0.heap.size w.heap.size x []) (below_alloc (Below.refl _ _) _) (D := fun k => w.heap.size ≤ k) ⟨.slice none 0 0, heap_alloc_new w _, Nat.le_refl _, Kd.N_nil _ _ _ _ _, ⟨h0.1, h0.2, h0.1⟩, fun m hm => by cases hm⟩ (fun _ h => h)
set_option maxRecDepth 100000 in
theorem New_calls {w0 w : World} {l : List Asn} (HS : Sat w0 w l) (a : Int) : Calls Try.prog 18 #[.int .i64 a] w fun e w' => ∃ g, e = .returned (.pointer (some ⟨g, 0, none⟩)) ∧ Sat w0 w' (ATab w0.heap.size g (mn (mx a 0) 16) [] :: l) := by
  replace HS := Aside0.mk HS
  go_enter Try.func18, Try.ntmps18
  go_wp2
  all_goals (go_ret; exact ⟨w.heap.size, rfl, new_tab HS.out (by unfold mn mx; (repeat' split) <;> omega) (by omega)⟩)
set_option maxRecDepth 100000 in
theorem Room_calls {w0 w : World} {l : List Asn} {g : Nat} {most : Int} {ms : List S65} (HS : Sat w0 w (ATab w0.heap.size g most ms :: l)) :
    Calls Try.prog 24 #[.pointer (some ⟨g, 0, none⟩)] w fun e w' => e = .returned (.int .i64 (most - ms.length)) ∧ Below w.heap.size w w' := by
  obtain ⟨A, c, hg, _, _, hm, _⟩ := tab_open HS
  have h0 : w.cell? ⟨g, 0, none⟩ = some (.int .i64 most) := get_cell hg 0
  have h1 : w.cell? ⟨g, 1, none⟩ = some (.slice A ms.length c) := get_cell hg 1
  have hw : IntKind.i64.wrap (most - ms.length) = most - ms.length := (i64_w _).trans (show wrap64 (most - ms.length) = most - ms.length by unfold wrap64; omega)
  clear HS hg hm
  go_enter Try.func24, Try.ntmps24
  go_wp2
  go_quiet (fail)
  go_wp2
  go_ret
  exact ⟨by rfl, pw_below_drewN (Below.refl _ _) _⟩
set_option maxRecDepth 100000 in
theorem at_calls {w0 w : World} {l : List Asn} {g : Nat} {most : Int} {ms : List S65} (HS : Sat w0 w (ATab w0.heap.size g most ms :: l)) (s : ByteArray) :
    Calls Try.prog 36 #[.pointer (some ⟨g, 0, none⟩), .string s] w fun e w' => e = .returned (.int .i64 (atI ms s)) ∧ Below w.heap.size w w' := by
  obtain ⟨A, c, hg, hC, _, hm, _⟩ := tab_open HS
  have h1 : w.cell? ⟨g, 1, none⟩ = some (.slice A ms.length c) := get_cell hg 1
  have hlt : g < w.heap.size := blk_lt hg
  have HC := Aside0.mk (Kd.C_below hC (below_alloc (Below.refl _ _) (.cells #[.string s] 9)))
  have HL := Aside0.mk (show ms.length ≤ 1000 by omega)
  have h2 := pw_cell_below (below_alloc (Below.refl _ _) (.cells #[.string s] 9)) h1
  clear HS hg hm hC
  go_enter Try.func36, Try.ntmps36
  go_wp2_with fail
  refine (IndexM_calls A c ms w.heap.size s _ HC.out HL.out (by rw [World.cell?, heap_alloc_new]; rfl)).mono ?_
  rintro e2 w2 ⟨rfl, hb2⟩
  have HB2 := Aside0.mk (below_step (below_alloc (Below.refl _ _) (.cells #[.string s] 9)) hb2)
  clear hb2
  go_wp2
  go_ret
  exact ⟨by rfl, HB2.out⟩
theorem str_at {w : World} {A : Option Addr} {xs : List ByteArray} (h : Kd.C Kd.string w A xs.length xs) {i : Nat} (hi : i < xs.length) : ∃ ad x, A = some ad ∧ xs[i]? = some x ∧ w.cell? (ad.add i) = some (.string x) := by
  obtain ⟨ad, e, hc⟩ := h.2.2 (by omega)
  obtain ⟨c, hs, hK, hcell⟩ := hc i _ (List.getElem?_eq_getElem hi)
  obtain rfl := hK
  refine ⟨ad, _, e, List.getElem?_eq_getElem hi, ?_⟩
  have := hcell 0 _ rfl
  rwa [show i * Kd.string.sz + 0 = i from by show i * 1 + 0 = i; omega] at this
set_option maxHeartbeats 1000000 in
set_option maxRecDepth 100000 in
theorem IndexS_calls (A : Option Addr) (c : Nat) (xs : List ByteArray) (s : ByteArray) (w : World) (hC : Kd.C Kd.string w A xs.length xs) (hn : xs.length ≤ 1000000) :
    Calls Try.prog 53 #[.slice A xs.length c, .string s] w fun e w' => e = .returned (.int .i64 (idxP (fun x => eqS s x) xs)) ∧ w' = w := by
  have HC := Aside0.mk hC
  clear hC
  go_enter Try.func53, Try.ntmps53
  go_wp2
  go_loopg [8] (xs.length + 1) (fun kq v8 w' => ∃ i : Nat, v8 = .int .i64 i ∧ Aside0 (i ≤ xs.length ∧ xs.length - i < kq) ∧ Aside0 (idxP (fun x => eqS s x) xs = shiftI i (idxP (fun x => eqS s x) (xs.drop i))) ∧ Aside0 (w' = w))
  case atStart => exact ⟨0, rfl, ⟨by omega⟩, ⟨by rw [List.drop_zero, shift_zero]⟩, ⟨rfl⟩⟩
  case round =>
    obtain ⟨i, rfl, Hi, HR, HW⟩ := hrel
    obtain rfl := HW.out
    by_cases hlt : i < xs.length
    · obtain ⟨ad, x, rfl, hx, hc⟩ := str_at HC.out hlt
      have HG := Aside0.mk hx
      have p1 : (i < xs.length) = True := eq_true hlt
      have p9 : (i : Int) ≤ 1000000 := by omega
      have p8 : 0 ≤ (i : Int) := by omega
      clear hlt hx
      cases hq : eqS s x with
      | true =>
        have HQ := Aside0.mk (shift_hit (p := fun x => eqS s x) HG.out hq)
        have hq' : (s.toList == x.toList) = true := hq
        clear hq
        go_wp2
        go_ret
        exact ⟨ret_eq (by rw [HR.out, HQ.out]; rfl), rfl⟩
      | false =>
        have HQ := Aside0.mk (shift_miss (p := fun x => eqS s x) HG.out hq)
        have hq' : (s.toList == x.toList) = false := hq
        clear hq
        go_wp2
        go_roundg (gk - 1)
        case measure => have := Hi.out; omega
        case rel => exact ⟨i + 1, by go_num, ⟨by have := Hi.out; have := of_eq_true p1; omega⟩, ⟨by rw [HR.out, HQ.out]⟩, ⟨rfl⟩⟩
    · have d1 : (i < xs.length) = False := eq_false hlt
      have HE := Aside0.mk (show idxP (fun x => eqS s x) xs = -1 by rw [HR.out, show i = xs.length by have := Hi.out; omega, shift_end])
      clear hlt
      go_wp2
      go_ret
      exact ⟨ret_eq (by rw [HE.out]; rfl), rfl⟩
/-- Is a text in a list? -/
def inL (s : ByteArray) (xs : List ByteArray) : Bool := decide (0 ≤ idxP (fun x => eqS s x) xs)
theorem Contains_calls (A : Option Addr) (c : Nat) (xs : List ByteArray) (s : ByteArray) (w : World) (hC : Kd.C Kd.string w A xs.length xs) (hn : xs.length ≤ 1000000) :
    Calls Try.prog 41 #[.slice A xs.length c, .string s] w fun e w' => e = .returned (.bool (inL s xs)) ∧ w' = w := by
  have HC := Aside0.mk hC
  clear hC
  go_enter Try.func41, Try.ntmps41
  go_wp2_with fail
  refine (IndexS_calls A c xs s w HC.out hn).mono ?_
  rintro e1 w1 ⟨rfl, rfl⟩
  go_wp2
  go_ret
  exact ⟨by rfl, rfl⟩
theorem idxP_nonneg {α : Type} (p : α → Bool) : ∀ l : List α, 0 ≤ idxP p l ↔ ∃ x ∈ l, p x = true
  | [] => by simp [idxP]
  | x :: l => by
    have ih := idxP_nonneg p l
    have hr := idxP_range p l
    by_cases hx : p x = true
    · simp [idxP, hx]
    · simp only [idxP, hx, if_false, Bool.false_eq_true]
      constructor
      · intro h
        obtain ⟨y, hy, hp⟩ := ih.1 (by split at h <;> omega)
        exact ⟨y, List.mem_cons_of_mem _ hy, hp⟩
      · rintro ⟨y, hy, hp⟩
        rcases List.mem_cons.1 hy with rfl | hy
        · exact absurd hp hx
        · have := ih.2 ⟨y, hy, hp⟩
          split <;> omega
theorem inL_iff (s : ByteArray) (xs : List ByteArray) : inL s xs = true ↔ s ∈ xs := by
  unfold inL
  rw [decide_eq_true_iff, idxP_nonneg]
  constructor
  · rintro ⟨x, hx, h⟩
    rw [(eqS_iff s x).1 h]; exact hx
  · exact fun h => ⟨s, h, (eqS_iff s s).2 rfl⟩
set_option maxRecDepth 100000 in
theorem Add1_calls {w0 w : World} {l : List Asn} {g b : Nat} {most : Int} {ms : List S65} (HS : Sat w0 w (ATab w0.heap.size g most ms :: l)) (hb : w.cell? ⟨b, 0, none⟩ = some (.pointer (some ⟨g, 0, none⟩))) (s : ByteArray) :
    Calls Try.prog 39 #[.string s, .pointer (some ⟨b, 0, none⟩)] w fun e w' => e = .returned (.bool (decide (atI ms s < 0))) ∧ Below w.heap.size w w' := by
  have HS := Aside0.mk HS
  go_enter Try.func39, Try.ntmps39
  go_wp2_with fail
  refine (at_calls HS.out s).mono ?_
  rintro e1 w1 ⟨rfl, hb1⟩
  have HB := Aside0.mk hb1
  clear hb1
  go_wp2
  go_ret
  exact ⟨by rfl, HB.out⟩
set_option maxHeartbeats 1000000 in
set_option maxRecDepth 100000 in
theorem IndexF_calls {w0 w : World} {l : List Asn} {g b : Nat} {most : Int} {ms : List S65} (HS : Sat w0 w (ATab w0.heap.size g most ms :: l)) (hb : w.cell? ⟨b, 0, none⟩ = some (.pointer (some ⟨g, 0, none⟩)))
    (A : Option Addr) (c : Nat) (xs : List ByteArray) (hC : Kd.C Kd.string w A xs.length xs) (hn : xs.length ≤ 1000000) :
    Calls Try.prog 48 #[.slice A xs.length c, .func (.func 39) #[] #[.pointer (some ⟨b, 0, none⟩)]] w fun e w' => e = .returned (.int .i64 (idxP (fun x => decide (atI ms x < 0)) xs)) ∧ Below w.heap.size w w' := by
  have HS := Aside0.mk HS
  have HC := Aside0.mk hC
  have HB0 := Aside0.mk hb
  clear hC hb
  go_enter Try.func48, Try.ntmps48
  go_wp2
  go_loopg [8] (xs.length + 1) (fun kq v8 w' => ∃ i : Nat, v8 = .int .i64 i ∧ Aside0 (i ≤ xs.length ∧ xs.length - i < kq) ∧ Aside0 (idxP (fun x => decide (atI ms x < 0)) xs = shiftI i (idxP (fun x => decide (atI ms x < 0)) (xs.drop i))) ∧ Aside0 (Below w.heap.size w w'))
  case atStart => exact ⟨0, rfl, ⟨by omega⟩, ⟨by rw [List.drop_zero, shift_zero]⟩, ⟨Below.refl _ _⟩⟩
  case round =>
    obtain ⟨i, rfl, Hi, HR, HB⟩ := hrel
    by_cases hlt : i < xs.length
    · obtain ⟨ad, x, rfl, hx, hc⟩ := str_at HC.out hlt
      have hb := pw_cell_below HB.out HB0.out
      have hc' := pw_cell_below HB.out hc
      have HG := Aside0.mk hx
      have p1 : (i < xs.length) = True := eq_true hlt
      have p9 : (i : Int) ≤ 1000000 := by omega
      have p8 : 0 ≤ (i : Int) := by omega
      clear hlt hx hc
      go_wp2_with fail
      refine (Add1_calls (HS.out.below HB.out) hb x).mono ?_
      rintro e2 w2 ⟨rfl, hb2⟩
      have HB2 := Aside0.mk (below_step HB.out hb2)
      clear hb2 hb
      by_cases hq : atI ms x < 0
      · have HQ := Aside0.mk (shift_hit (p := fun x => decide (atI ms x < 0)) HG.out (decide_eq_true hq))
        have hq' : decide (atI ms x < 0) = true := decide_eq_true hq
        clear hq
        go_wp2
        go_ret
        exact ⟨ret_eq (by rw [HR.out, HQ.out]; rfl), HB2.out⟩
      · have HQ := Aside0.mk (shift_miss (p := fun x => decide (atI ms x < 0)) HG.out (decide_eq_false hq))
        have hq' : decide (atI ms x < 0) = false := decide_eq_false hq
        clear hq
        go_wp2
        go_roundg (gk - 1)
        case measure => have := Hi.out; omega
        case rel => exact ⟨i + 1, by go_num, ⟨by have := Hi.out; have := of_eq_true p1; omega⟩, ⟨by rw [HR.out, HQ.out]⟩, HB2⟩
    · have d1 : (i < xs.length) = False := eq_false hlt
      have HE := Aside0.mk (show idxP (fun x => decide (atI ms x < 0)) xs = -1 by rw [HR.out, show i = xs.length by have := Hi.out; omega, shift_end])
      clear hlt
      go_wp2
      go_ret
      exact ⟨ret_eq (by rw [HE.out]; rfl), HB.out⟩
theorem ContainsF_calls {w0 w : World} {l : List Asn} {g b : Nat} {most : Int} {ms : List S65} (HS : Sat w0 w (ATab w0.heap.size g most ms :: l)) (hb : w.cell? ⟨b, 0, none⟩ = some (.pointer (some ⟨g, 0, none⟩)))
    (A : Option Addr) (c : Nat) (xs : List ByteArray) (hC : Kd.C Kd.string w A xs.length xs) (hn : xs.length ≤ 1000000) :
    Calls Try.prog 38 #[.slice A xs.length c, .func (.func 39) #[] #[.pointer (some ⟨b, 0, none⟩)]] w fun e w' => e = .returned (.bool (decide (0 ≤ idxP (fun x => decide (atI ms x < 0)) xs))) ∧ Below w.heap.size w w' := by
  have HS := Aside0.mk HS
  have HC := Aside0.mk hC
  have HB0 := Aside0.mk hb
  clear hC hb
  go_enter Try.func38, Try.ntmps38
  go_wp2_with fail
  refine (IndexF_calls HS.out HB0.out A c xs HC.out hn).mono ?_
  rintro e1 w1 ⟨rfl, hb1⟩
  have HB := Aside0.mk hb1
  clear hb1
  go_wp2
  go_ret
  exact ⟨by rfl, HB.out⟩
end Go.Proofs.Ytlgfdokdckaejaa.MineTab
