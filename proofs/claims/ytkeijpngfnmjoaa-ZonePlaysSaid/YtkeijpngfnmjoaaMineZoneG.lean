/- Zones: may a zone be? By the program. Conditions: the rows are short. -/
import Derived.Test.YtkeijpngfnmjoaaMineZoneF
import Derived.Carry
namespace Go.Proofs.Ytkeijpngfnmjoaa.MineZone
open Go.Lib Go.Shelf Go.RowKit Go.MapKept Go.Proofs.YtkeijpngfnmjoaaW.PrintWords Go.Proofs.YtkeijpngfnmjoaaW.PrintLast Go.Proofs.YtkeijpngfnmjoaaW.PrintMore Go.Proofs.Ytkeijpngfnmjoaa.MineBase Go.Proofs.Ytkeijpngfnmjoaa.MineSep Go.Proofs.Ytkeijpngfnmjoaa.MineRows Go.Proofs.Ytkeijpngfnmjoaa.MineGen Go.Proofs.Ytkeijpngfnmjoaa.QZonePlays Go.Proofs.Ytkeijpngfnmjoaa.MineMap
attribute [local go_sem ↓] Go.wp_at_zero Go.wp_at_succ
set_option linter.unusedVariables false
set_option linter.unusedSimpArgs false
set_option linter.unusedSectionVars false
section
variable {κ : Type} [DecidableEq κ]
def seenM (L : List κ) : List (κ × Value) := L.map fun k => (k, .int .i64 1)
theorem look_seen (L : List κ) (k : κ) : lookM (seenM L) k = if k ∈ L then some (.int .i64 1) else none := by
  induction L with
  | nil => rfl
  | cons x L ih =>
    unfold seenM at *
    rw [List.map_cons, lookM]
    by_cases h : x = k
    · subst h
      rw [if_pos rfl, if_pos List.mem_cons_self]
    · rw [if_neg h, ih]
      have h' : ¬ k = x := fun e => h e.symm
      simp [List.mem_cons, h']
theorem put_seen (L : List κ) (k : κ) (h : k ∉ L) : put (seenM L) k (.int .i64 1) = seenM (L ++ [k]) := by
  induction L with
  | nil => rfl
  | cons x L ih =>
    have h' : ¬ (k = x ∨ k ∈ L) := fun e => h (List.mem_cons.2 e)
    have hx : ¬ x = k := fun e => h' (.inl e.symm)
    unfold seenM at *
    rw [List.map_cons, put, if_neg hx, ih (fun e => h' (.inr e))]
    rfl
/-- A map of what was seen. -/
def ASeen (kv : κ → Value) (m : Nat) (L : List κ) : Asn where
  P := fun w D => (∃ es clock, w.heap[m]? = some (.map es clock) ∧ EsOf kv es.toList (seenM L)) ∧ D m
  mono := fun hd h => ⟨h.1, hd _ h.2⟩
  bound := fun ⟨⟨es, c, h1, h2⟩, h3⟩ => ⟨⟨es, c, h1, h2⟩, h3, blk_lt h1⟩
  move := fun hm ⟨⟨es, c, h1, h2⟩, h3⟩ => ⟨⟨es, c, (hm _ h3).trans h1, h2⟩, h3⟩
variable {kv : κ → Value} {w0 W : World} {l : List Asn} {m : Nat} {L : List κ} {d : TypeDesc} {t kt : TypeId}
theorem seen_new (h : Sat w0 W l) (kv : κ → Value) : Sat w0 (W.alloc (.map #[] 0)) (ASeen kv W.heap.size ([] : List κ) :: l) :=
  (blk_new h (.map #[] 0)).imp (B := ASeen kv W.heap.size []) (fun D hp => ⟨⟨#[], 0, hp.1, rfl⟩, hp.2⟩)
theorem seen_look (K : KeysOf d kv (fun _ => True)) (ht : Try.prog.underlying t = some (.map kt 3)) (hd : Try.prog.underlying kt = some d) (h : Sat w0 W (ASeen kv m L :: l)) (k : κ) :
    (Instr.lookup t (.map (some m)) (kv k) false).run Try.prog W = .ok (.int .i64 (if k ∈ L then 1 else 0)) W := by
  obtain ⟨D, ⟨⟨es, c, h1, h2⟩, _⟩, _⟩ := h.head
  have h3 := lookup_run (P := Try.prog) K ht hd (zero3 W) h1 (seenM L) (fun _ _ => trivial) h2 k trivial false
  rw [h3, look_seen]
  by_cases hk : k ∈ L
  · simp [hk]
  · simp [hk]
theorem seen_put (K : KeysOf d kv (fun _ => True)) (ht : Try.prog.underlying t = some (.map kt 3)) (hd : Try.prog.underlying kt = some d) (h : Sat w0 W (ASeen kv m L :: l)) (k : κ) (hk : k ∉ L) :
    ∃ w', (Instr.mapUpdate t (.map (some m)) (kv k) (.int .i64 1)).run Try.prog W = .ok () w' ∧ Sat w0 w' (ASeen kv m (L ++ [k]) :: l) := by
  have hb0 := h.toBelow
  have hsz := h.size
  obtain ⟨D, ⟨⟨es, c, h1, h2⟩, hDm⟩, hD, _, hcl⟩ := h.open_
  obtain ⟨w', es', c', hrun, hm', he', hg, _⟩ := update_run (P := Try.prog) K ht hd h1 (seenM L) (fun _ _ => trivial) h2 k trivial (.int .i64 1)
  rw [put_seen L k hk] at he'
  refine ⟨w', hrun, hcl w' (ASeen kv m (L ++ [k])) D (hb0.grown hg hsz (fun j hj => by injection hj with hj; subst hj; exact (hD _ hDm).1)) (Kept.of_grown hg (Kept.refl W D) (fun j hj => by injection hj with hj; subst hj; exact .inl hDm)) ⟨⟨es', c', hm', he'⟩, hDm⟩ (fun _ hj => .inl hj)⟩
end
theorem blk_new2 {w0 W : World} {l : List Asn} (h : Sat w0 W l) (o1 o2 : Obj) : Sat w0 ((W.alloc o1).alloc o2) (ABlk (W.heap.size + 1) o2 :: ABlk W.heap.size o1 :: l) := by
  have h := blk_new (blk_new h o1) o2
  rw [size_alloc] at h
  exact h
/-- What is behind a zone's places so far. -/
def bef (x : S82) : Nat → Int
  | 0 => 272
  | 1 => x.f0
  | 2 => x.f1
  | 3 => x.f2
  | _ => x.f3
def At (p n : Int) : Prop := p ≤ n ∧ n ≤ 65536 ∧ n % 4 = 0
def Pl (x : S82) (i : Nat) : Prop := (1 ≤ i → At 272 x.f0) ∧ (2 ≤ i → At x.f0 x.f1) ∧ (3 ≤ i → At x.f1 x.f2) ∧ (4 ≤ i → At x.f2 x.f3)
/-- Places of data, each once. -/
def GoodL (a d : Int) (L : List Int) : Prop := ∀ (i : Nat) (v : Int), L[i]? = some v → a ≤ v ∧ v < d ∧ v % 4 = 0 ∧ v ∉ L.take i
theorem fine_good (a d : Int) (ps qs : List Int) : GoodL a d (ps ++ qs) ↔ Fine a d ps qs ∧ Fine a d qs ps := by
  constructor
  · intro h
    refine ⟨fun i v hv => ?_, fun i v hv => ?_⟩
    · have hi := (List.getElem?_eq_some_iff.1 hv).1
      obtain ⟨h1, h2, h3, h4⟩ := h i v (by rw [List.getElem?_append_left hi]; exact hv)
      rw [List.take_append_of_le_length (by omega)] at h4
      refine ⟨h1, h2, h3, h4, fun hq => ?_⟩
      obtain ⟨j, hj⟩ := List.mem_iff_getElem?.1 hq
      obtain ⟨_, _, _, g4⟩ := h (ps.length + j) v (by rw [List.getElem?_append_right (by omega), Nat.add_sub_cancel_left]; exact hj)
      rw [List.take_length_add_append] at g4
      exact g4 (List.mem_append_left _ (List.mem_iff_getElem?.2 ⟨i, hv⟩))
    · obtain ⟨h1, h2, h3, h4⟩ := h (ps.length + i) v (by rw [List.getElem?_append_right (by omega), Nat.add_sub_cancel_left]; exact hv)
      rw [List.take_length_add_append, List.mem_append] at h4
      exact ⟨h1, h2, h3, fun h => h4 (.inr h), fun h => h4 (.inl h)⟩
  · rintro ⟨h1, h2⟩ i v hv
    by_cases hi : i < ps.length
    · rw [List.getElem?_append_left hi] at hv
      obtain ⟨g1, g2, g3, g4, _⟩ := h1 i v hv
      rw [List.take_append_of_le_length (by omega)]
      exact ⟨g1, g2, g3, g4⟩
    · obtain ⟨k, rfl⟩ : ∃ k, i = ps.length + k := ⟨i - ps.length, by omega⟩
      rw [List.getElem?_append_right (by omega), Nat.add_sub_cancel_left] at hv
      obtain ⟨g1, g2, g3, g4, g5⟩ := h2 k v hv
      rw [List.take_length_add_append, List.mem_append]
      exact ⟨g1, g2, g3, fun h => h.elim g5 g4⟩
theorem ok_iff (x : S82) : Ok x ↔ Pl x 4 ∧ GoodL x.f0 x.f1 (x.f4 ++ x.f5) ∧ x.f0 < x.f3 := by
  rw [fine_good]
  unfold Ok Places Pl At
  constructor
  · rintro ⟨⟨h1, h2, h3, h4, h5, h6, h7, h8, h9, h10⟩, h11⟩
    exact ⟨⟨fun _ => ⟨h1, by omega, h7⟩, fun _ => ⟨h2, by omega, h8⟩, fun _ => ⟨h3, by omega, h9⟩, fun _ => ⟨h4, h5, h10⟩⟩, h11, by omega⟩
  · rintro ⟨⟨g1, g2, g3, g4⟩, h11, h12⟩
    have g1 := g1 (by omega); have g2 := g2 (by omega); have g3 := g3 (by omega); have g4 := g4 (by omega)
    exact ⟨⟨g1.1, g2.1, g3.1, g4.1, g4.2.1, by omega, g1.2.2, g2.2.2, g3.2.2, g4.2.2⟩, h11⟩
theorem tmod4 (n : Int) : Int.tmod n 4 = 0 ↔ n % 4 = 0 := ⟨fun h => Int.emod_eq_zero_of_dvd (Int.dvd_of_tmod_eq_zero h), fun h => Int.tmod_eq_zero_of_dvd (Int.dvd_of_emod_eq_zero h)⟩
set_option maxHeartbeats 8000000 in
set_option maxRecDepth 100000 in
theorem may_calls (x : S82) (A4 : Option Addr) (c4 : Nat) (A5 : Option Addr) (c5 : Nat) (w : World) (h4 : (Kd.int .i64).C w A4 x.f4.length x.f4) (h5 : (Kd.int .i64).C w A5 x.f5.length x.f5) (hn4 : x.f4.length ≤ 100) (hn5 : x.f5.length ≤ 100) (r : Bool) (hr : r = true ↔ Ok x) :
    Calls Try.prog 77 #[.agg #[.int .i64 x.f0, .int .i64 x.f1, .int .i64 x.f2, .int .i64 x.f3, .slice A4 x.f4.length c4, .slice A5 x.f5.length c5]] w fun e w' => e = .returned (.bool r) ∧ Below w.heap.size w w' := by
  have H4 := Aside0.mk h4
  have H5 := Aside0.mk h5
  have N4 := Aside0.mk hn4
  have N5 := Aside0.mk hn5
  have HRR := Aside0.mk (hr.trans (ok_iff x))
  clear h4 h5 hn4 hn5 hr
  go_enter Try.func77, Try.ntmps77
  go_wp2_with fail
  refine wp_abs (fun W => Sat w W [ABlk (w.heap.size + 1) (.cells #[.int .i64 x.f0, .int .i64 x.f1, .int .i64 x.f2, .int .i64 x.f3] 3 (0, 0)), ABlk w.heap.size (.cells #[.int .i64 x.f0, .int .i64 x.f1, .int .i64 x.f2, .int .i64 x.f3, .slice A4 x.f4.length c4, .slice A5 x.f5.length c5] 75 (0, 0))]) (blk_new2 (Sat.start w) _ _) (fun W hW => ?_)
  generalize w.heap.size + 1 = b2 at hW ⊢
  obtain ⟨b1, hb1⟩ : ∃ b, w.heap.size = b := ⟨_, rfl⟩
  have HSZ := Aside0.mk hb1
  rw [hb1] at hW ⊢
  replace hW := Aside0.mk hW
  clear hb1
  go_loopg [3, 19] 5 (fun kq v3 v19 w' => ∃ i : Nat, v19 = .int .i64 i ∧ v3 = .int .i64 (bef x i) ∧ Aside0 (i ≤ 4 ∧ 4 - i < kq) ∧ Aside0 (Pl x i) ∧ w' = W)
  case atStart => exact ⟨0, rfl, rfl, ⟨by omega⟩, ⟨⟨fun h => absurd h (by omega), fun h => absurd h (by omega), fun h => absurd h (by omega), fun h => absurd h (by omega)⟩⟩, rfl⟩
  case round =>
    obtain ⟨i, rfl, rfl, Hi, HP, hw⟩ := hrel
    obtain ⟨wo, rfl⟩ : ∃ y, y = wr := ⟨wr, rfl⟩
    subst hw
    rcases (show i = 0 ∨ i = 1 ∨ i = 2 ∨ i = 3 ∨ i = 4 by have := Hi.out; omega) with rfl | rfl | rfl | rfl | rfl
    · have y0 : wo.cell? ⟨b2, 0, none⟩ = some (.int .i64 x.f0) := get_cell (blk_at hW.out) 0
      have HBAD := Aside0.mk (show ¬ At 272 x.f0 → r = false from fun hx => by
        cases r with
        | false => rfl
        | true => exact absurd ((HRR.out.1 rfl).1.1 (by omega)) hx)
      simp only [bef]
      by_cases c1 : x.f0 < 272
      · have e : r = false := HBAD.out (fun h => by have := h.1; omega)
        subst e
        have d1 : (x.f0 < 272) = True := eq_true c1
        have d2 : decide (x.f0 < 272) = true := decide_eq_true c1
        clear c1
        go_wp2_with fail
        go_ret
        exact ⟨by rfl, by first | exact hW.out.toBelow | (rw [HSZ.out]; exact hW.out.toBelow) | (have := hW.out.toBelow; rw [HSZ.out] at this; exact this)⟩
      have d1 : (x.f0 < 272) = False := eq_false c1
      have d2 : decide (x.f0 < 272) = false := decide_eq_false c1
      by_cases c2 : x.f0 > 65536
      · have e : r = false := HBAD.out (fun h => by have := h.2.1; omega)
        subst e
        have d3 : (x.f0 > 65536) = True := eq_true c2
        have d4 : decide (x.f0 > 65536) = true := decide_eq_true c2
        have d5 : 65536 < x.f0 := c2
        clear c1 c2
        go_wp2_with fail
        go_ret
        exact ⟨by rfl, by first | exact hW.out.toBelow | (rw [HSZ.out]; exact hW.out.toBelow) | (have := hW.out.toBelow; rw [HSZ.out] at this; exact this)⟩
      have d3 : (65536 < x.f0) = False := eq_false c2
      have d4 : decide (65536 < x.f0) = false := decide_eq_false c2
      by_cases c3 : x.f0 % 4 = 0
      · have HA := Aside0.mk (show At 272 x.f0 from ⟨by omega, by omega, c3⟩)
        have d5 : Int.tmod x.f0 4 = 0 := (tmod4 _).2 c3
        clear c1 c2 c3
        go_wp2_with fail
        go_roundg (gk - 1)
        case measure => have := Hi.out; omega
        case rel => exact ⟨1, rfl, rfl, ⟨by have := Hi.out; omega⟩, ⟨by have h0 := HP.out; have h1 := HA.out; refine ⟨fun h => ?_, fun h => ?_, fun h => ?_, fun h => ?_⟩ <;> first | exact h1 | exact h0.1 (by omega) | exact h0.2.1 (by omega) | exact h0.2.2.1 (by omega) | exact absurd h (by omega)⟩, rfl⟩
      · have e : r = false := HBAD.out (fun h => c3 h.2.2)
        subst e
        have d5 : (Int.tmod x.f0 4 = 0) = False := eq_false (fun h => c3 ((tmod4 _).1 h))
        have d6 : (Int.tmod x.f0 4 == 0) = false := by simpa using (fun h => c3 ((tmod4 _).1 h))
        clear c1 c2 c3
        go_wp2_with fail
        go_ret
        exact ⟨by rfl, by first | exact hW.out.toBelow | (rw [HSZ.out]; exact hW.out.toBelow) | (have := hW.out.toBelow; rw [HSZ.out] at this; exact this)⟩
    · have y0 : wo.cell? ⟨b2, 1, none⟩ = some (.int .i64 x.f1) := get_cell (blk_at hW.out) 1
      have HBAD := Aside0.mk (show ¬ At x.f0 x.f1 → r = false from fun hx => by
        cases r with
        | false => rfl
        | true => exact absurd ((HRR.out.1 rfl).1.2.1 (by omega)) hx)
      simp only [bef]
      by_cases c1 : x.f1 < x.f0
      · have e : r = false := HBAD.out (fun h => by have := h.1; omega)
        subst e
        have d1 : (x.f1 < x.f0) = True := eq_true c1
        have d2 : decide (x.f1 < x.f0) = true := decide_eq_true c1
        clear c1
        go_wp2_with fail
        go_ret
        exact ⟨by rfl, by first | exact hW.out.toBelow | (rw [HSZ.out]; exact hW.out.toBelow) | (have := hW.out.toBelow; rw [HSZ.out] at this; exact this)⟩
      have d1 : (x.f1 < x.f0) = False := eq_false c1
      have d2 : decide (x.f1 < x.f0) = false := decide_eq_false c1
      by_cases c2 : x.f1 > 65536
      · have e : r = false := HBAD.out (fun h => by have := h.2.1; omega)
        subst e
        have d3 : (x.f1 > 65536) = True := eq_true c2
        have d4 : decide (x.f1 > 65536) = true := decide_eq_true c2
        have d5 : 65536 < x.f1 := c2
        clear c1 c2
        go_wp2_with fail
        go_ret
        exact ⟨by rfl, by first | exact hW.out.toBelow | (rw [HSZ.out]; exact hW.out.toBelow) | (have := hW.out.toBelow; rw [HSZ.out] at this; exact this)⟩
      have d3 : (65536 < x.f1) = False := eq_false c2
      have d4 : decide (65536 < x.f1) = false := decide_eq_false c2
      by_cases c3 : x.f1 % 4 = 0
      · have HA := Aside0.mk (show At x.f0 x.f1 from ⟨by omega, by omega, c3⟩)
        have d5 : Int.tmod x.f1 4 = 0 := (tmod4 _).2 c3
        clear c1 c2 c3
        go_wp2_with fail
        go_roundg (gk - 1)
        case measure => have := Hi.out; omega
        case rel => exact ⟨2, rfl, rfl, ⟨by have := Hi.out; omega⟩, ⟨by have h0 := HP.out; have h1 := HA.out; refine ⟨fun h => ?_, fun h => ?_, fun h => ?_, fun h => ?_⟩ <;> first | exact h1 | exact h0.1 (by omega) | exact h0.2.1 (by omega) | exact h0.2.2.1 (by omega) | exact absurd h (by omega)⟩, rfl⟩
      · have e : r = false := HBAD.out (fun h => c3 h.2.2)
        subst e
        have d5 : (Int.tmod x.f1 4 = 0) = False := eq_false (fun h => c3 ((tmod4 _).1 h))
        have d6 : (Int.tmod x.f1 4 == 0) = false := by simpa using (fun h => c3 ((tmod4 _).1 h))
        clear c1 c2 c3
        go_wp2_with fail
        go_ret
        exact ⟨by rfl, by first | exact hW.out.toBelow | (rw [HSZ.out]; exact hW.out.toBelow) | (have := hW.out.toBelow; rw [HSZ.out] at this; exact this)⟩
    · have y0 : wo.cell? ⟨b2, 2, none⟩ = some (.int .i64 x.f2) := get_cell (blk_at hW.out) 2
      have HBAD := Aside0.mk (show ¬ At x.f1 x.f2 → r = false from fun hx => by
        cases r with
        | false => rfl
        | true => exact absurd ((HRR.out.1 rfl).1.2.2.1 (by omega)) hx)
      simp only [bef]
      by_cases c1 : x.f2 < x.f1
      · have e : r = false := HBAD.out (fun h => by have := h.1; omega)
        subst e
        have d1 : (x.f2 < x.f1) = True := eq_true c1
        have d2 : decide (x.f2 < x.f1) = true := decide_eq_true c1
        clear c1
        go_wp2_with fail
        go_ret
        exact ⟨by rfl, by first | exact hW.out.toBelow | (rw [HSZ.out]; exact hW.out.toBelow) | (have := hW.out.toBelow; rw [HSZ.out] at this; exact this)⟩
      have d1 : (x.f2 < x.f1) = False := eq_false c1
      have d2 : decide (x.f2 < x.f1) = false := decide_eq_false c1
      by_cases c2 : x.f2 > 65536
      · have e : r = false := HBAD.out (fun h => by have := h.2.1; omega)
        subst e
        have d3 : (x.f2 > 65536) = True := eq_true c2
        have d4 : decide (x.f2 > 65536) = true := decide_eq_true c2
        have d5 : 65536 < x.f2 := c2
        clear c1 c2
        go_wp2_with fail
        go_ret
        exact ⟨by rfl, by first | exact hW.out.toBelow | (rw [HSZ.out]; exact hW.out.toBelow) | (have := hW.out.toBelow; rw [HSZ.out] at this; exact this)⟩
      have d3 : (65536 < x.f2) = False := eq_false c2
      have d4 : decide (65536 < x.f2) = false := decide_eq_false c2
      by_cases c3 : x.f2 % 4 = 0
      · have HA := Aside0.mk (show At x.f1 x.f2 from ⟨by omega, by omega, c3⟩)
        have d5 : Int.tmod x.f2 4 = 0 := (tmod4 _).2 c3
        clear c1 c2 c3
        go_wp2_with fail
        go_roundg (gk - 1)
        case measure => have := Hi.out; omega
        case rel => exact ⟨3, rfl, rfl, ⟨by have := Hi.out; omega⟩, ⟨by have h0 := HP.out; have h1 := HA.out; refine ⟨fun h => ?_, fun h => ?_, fun h => ?_, fun h => ?_⟩ <;> first | exact h1 | exact h0.1 (by omega) | exact h0.2.1 (by omega) | exact h0.2.2.1 (by omega) | exact absurd h (by omega)⟩, rfl⟩
      · have e : r = false := HBAD.out (fun h => c3 h.2.2)
        subst e
        have d5 : (Int.tmod x.f2 4 = 0) = False := eq_false (fun h => c3 ((tmod4 _).1 h))
        have d6 : (Int.tmod x.f2 4 == 0) = false := by simpa using (fun h => c3 ((tmod4 _).1 h))
        clear c1 c2 c3
        go_wp2_with fail
        go_ret
        exact ⟨by rfl, by first | exact hW.out.toBelow | (rw [HSZ.out]; exact hW.out.toBelow) | (have := hW.out.toBelow; rw [HSZ.out] at this; exact this)⟩
    · have y0 : wo.cell? ⟨b2, 3, none⟩ = some (.int .i64 x.f3) := get_cell (blk_at hW.out) 3
      have HBAD := Aside0.mk (show ¬ At x.f2 x.f3 → r = false from fun hx => by
        cases r with
        | false => rfl
        | true => exact absurd ((HRR.out.1 rfl).1.2.2.2 (by omega)) hx)
      simp only [bef]
      by_cases c1 : x.f3 < x.f2
      · have e : r = false := HBAD.out (fun h => by have := h.1; omega)
        subst e
        have d1 : (x.f3 < x.f2) = True := eq_true c1
        have d2 : decide (x.f3 < x.f2) = true := decide_eq_true c1
        clear c1
        go_wp2_with fail
        go_ret
        exact ⟨by rfl, by first | exact hW.out.toBelow | (rw [HSZ.out]; exact hW.out.toBelow) | (have := hW.out.toBelow; rw [HSZ.out] at this; exact this)⟩
      have d1 : (x.f3 < x.f2) = False := eq_false c1
      have d2 : decide (x.f3 < x.f2) = false := decide_eq_false c1
      by_cases c2 : x.f3 > 65536
      · have e : r = false := HBAD.out (fun h => by have := h.2.1; omega)
        subst e
        have d3 : (x.f3 > 65536) = True := eq_true c2
        have d4 : decide (x.f3 > 65536) = true := decide_eq_true c2
        have d5 : 65536 < x.f3 := c2
        clear c1 c2
        go_wp2_with fail
        go_ret
        exact ⟨by rfl, by first | exact hW.out.toBelow | (rw [HSZ.out]; exact hW.out.toBelow) | (have := hW.out.toBelow; rw [HSZ.out] at this; exact this)⟩
      have d3 : (65536 < x.f3) = False := eq_false c2
      have d4 : decide (65536 < x.f3) = false := decide_eq_false c2
      by_cases c3 : x.f3 % 4 = 0
      · have HA := Aside0.mk (show At x.f2 x.f3 from ⟨by omega, by omega, c3⟩)
        have d5 : Int.tmod x.f3 4 = 0 := (tmod4 _).2 c3
        clear c1 c2 c3
        go_wp2_with fail
        go_roundg (gk - 1)
        case measure => have := Hi.out; omega
        case rel => exact ⟨4, rfl, rfl, ⟨by have := Hi.out; omega⟩, ⟨by have h0 := HP.out; have h1 := HA.out; refine ⟨fun h => ?_, fun h => ?_, fun h => ?_, fun h => ?_⟩ <;> first | exact h1 | exact h0.1 (by omega) | exact h0.2.1 (by omega) | exact h0.2.2.1 (by omega) | exact absurd h (by omega)⟩, rfl⟩
      · have e : r = false := HBAD.out (fun h => c3 h.2.2)
        subst e
        have d5 : (Int.tmod x.f3 4 = 0) = False := eq_false (fun h => c3 ((tmod4 _).1 h))
        have d6 : (Int.tmod x.f3 4 == 0) = false := by simpa using (fun h => c3 ((tmod4 _).1 h))
        clear c1 c2 c3
        go_wp2_with fail
        go_ret
        exact ⟨by rfl, by first | exact hW.out.toBelow | (rw [HSZ.out]; exact hW.out.toBelow) | (have := hW.out.toBelow; rw [HSZ.out] at this; exact this)⟩
    · have hmm := @run_makeMap Try.prog
      go_upto_region 10 with fail
      refine wp_abs (fun W2 => Sat w W2 [ASeen (Value.int .i64) wo.heap.size ([] : List Int), ABlk b1 (.cells #[.int .i64 x.f0, .int .i64 x.f1, .int .i64 x.f2, .int .i64 x.f3, .slice A4 x.f4.length c4, .slice A5 x.f5.length c5] 75 (0, 0))]) (seen_new hW.out.drop _) (fun W2 hW2 => ?_)
      generalize wo.heap.size = m at hW2 ⊢
      replace hW2 := Aside0.mk hW2
      clear hmm
      have x4 : W2.cell? ⟨b1, 4, none⟩ = some (.slice A4 x.f4.length c4) := get_cell (blk_at hW2.out.drop) 4
      have x5 : W2.cell? ⟨b1, 5, none⟩ = some (.slice A5 x.f5.length c5) := get_cell (blk_at hW2.out.drop) 5
      obtain ⟨W3, hW3⟩ : ∃ W3, W2.alloc (.cells #[.slice A4 x.f4.length c4, .slice A5 x.f5.length c5] 67) = W3 := ⟨_, rfl⟩
      have HS3 := Aside0.mk (show Sat w W3 [ABlk W2.heap.size (.cells #[.slice A4 x.f4.length c4, .slice A5 x.f5.length c5] 67 (0, 0)), ASeen (Value.int .i64) m ([] : List Int), ABlk b1 (.cells #[.int .i64 x.f0, .int .i64 x.f1, .int .i64 x.f2, .int .i64 x.f3, .slice A4 x.f4.length c4, .slice A5 x.f5.length c5] 75 (0, 0))] from by rw [← hW3]; exact blk_new hW2.out _)
      have hq := Concat_calls W2.heap.size A4 c4 x.f4 A5 c5 x.f5 W3 (blk_at HS3.out) (Kd.C_below H4.out HS3.out.toBelow) (Kd.C_below H5.out HS3.out.toBelow) (by have := N4.out; omega) (by have := N5.out; omega)
      have HLn0 : (x.f4 ++ x.f5).length ≤ 200 := by have := N4.out; have := N5.out; rw [List.length_append]; omega
      have hrr := HRR.out
      clear HRR
      generalize x.f4 ++ x.f5 = L at hq HLn0 hrr
      have HRR := Aside0.mk hrr
      have HLn := Aside0.mk HLn0
      have HQ := Aside0.mk hq
      clear hq HLn0 hrr
      obtain ⟨b3, hb3⟩ : ∃ b, W2.heap.size = b := ⟨_, rfl⟩
      rw [hb3] at HQ HS3
      go_wp2_with fail
      try rw [hW3]
      clear hW3
      try rw [hb3]
      clear hb3
      (with_reducible refine HQ.out.mono ?_)
      rintro e4 w4 ⟨v1, rfl, hR, hB⟩
      have HS4 := Aside0.mk (HS3.out.newRow hB hR (Nat.le_refl _))
      obtain ⟨Av, cv, rfl, hcv, _⟩ := HS4.out.rowReads
      clear hR hB x4 x5
      generalize W3.heap.size = base at HS4
      clear HS3 HQ hW2
      go_wp2_with fail
      go_loopg [45] (L.length + 1) (fun kq v45 w' => ∃ i : Nat, v45 = .int .i64 i ∧ Aside0 (i ≤ L.length ∧ L.length - i < kq) ∧ Aside0 (∀ (j : Nat) (v : Int), j < i → L[j]? = some v → x.f0 ≤ v ∧ v < x.f1 ∧ v % 4 = 0 ∧ v ∉ L.take j) ∧ Aside0 (Sat w w' [ARow (Kd.int .i64) 3 base (.slice Av L.length cv) L, ABlk b3 (.cells #[.slice A4 x.f4.length c4, .slice A5 x.f5.length c5] 67 (0, 0)), ASeen (Value.int .i64) m (L.take i), ABlk b1 (.cells #[.int .i64 x.f0, .int .i64 x.f1, .int .i64 x.f2, .int .i64 x.f3, .slice A4 x.f4.length c4, .slice A5 x.f5.length c5] 75 (0, 0))]))
      case atStart => exact ⟨0, rfl, ⟨by omega⟩, ⟨fun j v h => absurd h (by omega)⟩, HS4⟩
      case round =>
        clear HS4
        obtain ⟨i, rfl, Hj, HG, HW⟩ := hrel
        have x0 : wr.cell? ⟨b1, 0, none⟩ = some (.int .i64 x.f0) := get_cell (blk_at HW.out.drop.drop.drop) 0
        have x1 : wr.cell? ⟨b1, 1, none⟩ = some (.int .i64 x.f1) := get_cell (blk_at HW.out.drop.drop.drop) 1
        have x3 : wr.cell? ⟨b1, 3, none⟩ = some (.int .i64 x.f3) := get_cell (blk_at HW.out.drop.drop.drop) 3
        by_cases hlt : i < L.length
        · obtain ⟨n, hn⟩ : ∃ n, L[i]? = some n := ⟨_, List.getElem?_eq_getElem hlt⟩
          obtain ⟨A', c', e', _, hC⟩ := HW.out.rowReads
          injection e' with e1 e2 e3
          subst e1
          obtain ⟨ad, eA, y0⟩ := Kd.at_int hC (i : Int) (by omega) (by omega)
          have ev : rd L (i : Int) = n := by
            have := (List.getElem?_eq_some_iff.1 hn).2
            simp [rd, hlt, this]
          rw [ev] at y0
          simp only [Int.toNat_natCast] at y0
          subst eA
          have HN := Aside0.mk hn
          have p1 : (i < L.length) = True := eq_true hlt
          have d0 : decide ((i : Int) < (L.length : Int)) = true := decide_eq_true (by omega)
          have p9 : (i : Int) ≤ 1000 := by have := HLn.out; omega
          have p8 : 0 ≤ (i : Int) := by omega
          have hlk := seen_look intKeys Try.underlying131 Try.underlying3 HW.out.drop.drop n
          have HBAD := Aside0.mk (show ¬ (x.f0 ≤ n ∧ n < x.f1 ∧ n % 4 = 0 ∧ n ∉ L.take i) → r = false from fun hx => by
            cases r with
            | false => rfl
            | true => exact absurd ((HRR.out.1 rfl).2.1 i n HN.out) hx)
          clear hlt hn hC e2 e3 ev hcv
          by_cases c1 : n < x.f0
          · have e : r = false := HBAD.out (fun h => by have := h.1; omega)
            subst e
            have d1 : (n < x.f0) = True := eq_true c1
            have d2 : decide (n < x.f0) = true := decide_eq_true c1
            clear c1 hlk
            go_wp2_with fail
            go_ret
            exact ⟨by rfl, HW.out.toBelow⟩
          have d1 : (n < x.f0) = False := eq_false c1
          have d2 : decide (n < x.f0) = false := decide_eq_false c1
          by_cases c2 : x.f1 ≤ n
          · have e : r = false := HBAD.out (fun h => by have := h.2.1; omega)
            subst e
            have d3 : (x.f1 ≤ n) = True := eq_true c2
            have d4 : decide (x.f1 ≤ n) = true := decide_eq_true c2
            clear c1 c2 hlk
            go_wp2_with fail
            go_ret
            exact ⟨by rfl, HW.out.toBelow⟩
          have d3 : (x.f1 ≤ n) = False := eq_false c2
          have d4 : decide (x.f1 ≤ n) = false := decide_eq_false c2
          by_cases c3 : n % 4 = 0
          · have d5 : Int.tmod n 4 = 0 := (tmod4 _).2 c3
            by_cases gs : n ∈ L.take i
            · rw [if_pos gs] at hlk
              have e : r = false := HBAD.out (fun h => h.2.2.2 gs)
              subst e
              clear c1 c2 c3 gs
              go_wp2_with fail
              go_ret
              exact ⟨by rfl, HW.out.toBelow⟩
            · rw [if_neg gs] at hlk
              obtain ⟨w9, hput, hS9⟩ := seen_put intKeys Try.underlying131 Try.underlying3 HW.out.third n gs
              have HW9 := Aside0.mk hS9.back2
              have HK := Aside0.mk (show x.f0 ≤ n ∧ n < x.f1 ∧ n % 4 = 0 ∧ n ∉ L.take i from ⟨by omega, by omega, c3, gs⟩)
              clear c1 c2 c3 gs hS9
              go_wp2_with fail
              go_roundg (gk - 1)
              case measure => have := Hj.out; have := of_eq_true p1; omega
              case rel => exact ⟨i + 1, by go_num, ⟨by have := Hj.out; have := of_eq_true p1; omega⟩, ⟨fun j u hj hu => by
                by_cases hji : j = i
                · subst hji
                  have := HN.out
                  rw [hu] at this
                  injection this with this
                  rw [this]; exact HK.out
                · exact HG.out j u (by omega) hu⟩, ⟨by rw [List.take_add_one, HN.out]; exact HW9.out⟩⟩
          · have e : r = false := HBAD.out (fun h => c3 h.2.2.1)
            subst e
            have d5 : (Int.tmod n 4 = 0) = False := eq_false (fun h => c3 ((tmod4 _).1 h))
            have d6 : (Int.tmod n 4 == 0) = false := by simpa using (fun h => c3 ((tmod4 _).1 h))
            clear c1 c2 c3 hlk
            go_wp2_with fail
            go_ret
            exact ⟨by rfl, HW.out.toBelow⟩
        · have hi : i = L.length := by have := Hj.out; omega
          have p1 : (i < L.length) = False := eq_false hlt
          have HE := Aside0.mk (show decide (x.f0 < x.f3) = r from by
            have h1 : GoodL x.f0 x.f1 L := fun j v hv => HG.out j v (by have := (List.getElem?_eq_some_iff.1 hv).1; omega) hv
            rw [Bool.eq_iff_iff, decide_eq_true_eq]
            exact ⟨fun h => HRR.out.2 ⟨HP.out, h1, h⟩, fun h => (HRR.out.1 h).2.2⟩)
          clear hi hlt
          go_wp2_with fail
          go_ret
          exact ⟨ret_eq (by rw [← HE.out]; rfl), HW.out.toBelow⟩
end Go.Proofs.Ytkeijpngfnmjoaa.MineZone
