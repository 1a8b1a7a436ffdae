/- Zones: an empty list; two rows one after the other. No condition but that they are short. Zones: may a zone be? By the program. Conditions: the rows are short. Zones: a zone that is refused, by the program. Conditions: the rows are short. Zones: the map of cells among what lies in memory; a zone that is not there is not removed. No condition but that the list is short. Zones: the program's row laid open, and small facts. No condition. Zones: a zone that is taken, by the program. Conditions: the rows are short. Zones: taking a zone out of the program's row; a zone that is removed; all of them. Conditions: the list is short and orderly. Zones, in plain words: what can be stored can be loaded; where an instruction can be nothing can be loaded; a declared cell can be stored. Condition: the list is orderly. Zones: the program's zones, as one thing; what each method does to them. Conditions: they are few. Zones: the document's list in memory; a zone that is removed from it, or added. Conditions: the list is short and orderly. Zones: a zone of the program as one of the document. No condition. -/
import Derived.Test.YtkeijpngfnmjoaaGZoneA
import Derived.Lib.AppendZerosOnto
import Derived.Carry
import Derived.Deep.Slices
section
namespace Go.Proofs.Ytkeijpngfnmjoaa.MineZone
open Go.Lib Go.Shelf Go.RowKit Go.MapKept Go.Proofs.YtkeijpngfnmjoaaW.PrintWords Go.Proofs.YtkeijpngfnmjoaaW.PrintLast Go.Proofs.YtkeijpngfnmjoaaW.PrintMore Go.Proofs.Ytkeijpngfnmjoaa.MineBase Go.Proofs.Ytkeijpngfnmjoaa.MineSep Go.Proofs.Ytkeijpngfnmjoaa.MineRows Go.Proofs.Ytkeijpngfnmjoaa.MineGen Go.Proofs.Ytkeijpngfnmjoaa.QZonePlays Go.Proofs.Ytkeijpngfnmjoaa.MineMap
attribute [local go_sem ↓] Go.wp_at_zero Go.wp_at_succ
set_option linter.unusedVariables false
set_option linter.unusedSimpArgs false
theorem info3i : ∃ i0 : TypeInfo, Try.prog.info? 3 = some i0 ∧ i0.zero = some (.int .i64 0) ∧ i0.size = 1 ∧ i0.bytes = 8 := by
  have h := info3
  obtain ⟨i0, h1, h2⟩ := Option.map_eq_some_iff.1 h
  simp only [Prod.mk.injEq] at h2
  exact ⟨i0, h1, h2.1, h2.2.1, h2.2.2⟩
set_option maxHeartbeats 2000000 in
set_option maxRecDepth 100000 in
theorem New_calls (w : World) : Calls Try.prog 34 #[] w fun e w' => ∃ z m, e = .returned (.pointer (some ⟨z, 0, none⟩)) ∧ z = w.heap.size + 1 ∧ m = w.heap.size ∧ Sat w w' [ABlk z (.cells #[.slice none 0 0, .map (some m)] 133 (0, 0)), ABlk m (.map #[] 0)] := by
  have hmm := @run_makeMap Try.prog
  go_enter Try.func34, Try.ntmps34
  go_wp2
  go_ret
  have h := blk_new (blk_new (Sat.start w) (.map #[] 0)) (.cells #[.slice none 0 0, .map (some w.heap.size)] 133 (0, 0))
  rw [size_alloc] at h
  exact ⟨_, _, rfl, rfl, rfl, h⟩
set_option maxHeartbeats 2000000 in
set_option maxRecDepth 100000 in
theorem Grow_calls (n : Nat) (hn : n ≤ 100000) (w : World) :
    Calls Try.prog 99 #[.slice none 0 0, .int .i64 (n : Int)] w fun e w' => ∃ v, e = .returned v ∧ Kd.R (Kd.int .i64) 3 w' w.heap.size (fun _ => True) v [] ∧ Below w.heap.size w w' := by
  by_cases h0 : n = 0
  · subst h0
    go_enter Try.func99, Try.ntmps99
    go_wp2
    go_ret
    exact ⟨_, rfl, Kd.R_nil _ _ _ _ _, Below.refl _ _⟩
  obtain ⟨i0, e1, e2, e3, e4⟩ := info3i
  have h := Lib.run_append_grow_zeros (P := Try.prog) w 67 3 67 3 i0 (.int .i64 0) .i64 .i64 Try.underlying67 Try.underlying3 e1 e2 none 0 0 [] (run_firstCells_none w.drew i0.size 0 0 0) n (by omega) (by omega) (by omega) (by omega)
      (by rw [e4]; omega) (by rw [e4]; exact growslice_fits (by omega) (by omega))
  rw [Nat.zero_add] at h
  have g1 : n ≤ grownCap w n 0 3 := grownCap_ge w _ _ _
  have g2 := grownCap_le_maxLen w n 0 3 (by unfold maxLen; omega)
  have hs : (#[] ++ Builtin.zeroCells (Value.int .i64 0).cells n ++ Builtin.zeroCells (Value.int .i64 0).cells (grownCap w n 0 3 - n) : Array Value).size = grownCap w n 0 3 * 1 := by
    have z1 : ((Value.int .i64 0).cells).size = 1 := rfl
    simp only [Array.size_append, size_zeroCells, z1, List.size_toArray, List.length_nil]
    omega
  obtain ⟨G, hG⟩ : ∃ G, grownCap w n 0 3 = G := ⟨_, rfl⟩
  rw [hG] at h g1 g2 hs
  obtain ⟨cur, hcur⟩ : ∃ cur, (#[] ++ Builtin.zeroCells (Value.int .i64 0).cells n ++ Builtin.zeroCells (Value.int .i64 0).cells (G - n) : Array Value) = cur := ⟨_, rfl⟩
  rw [hcur] at h hs
  have d1 : ¬ ((n : Int) < 0) := by omega
  have d2 : ((n : Int) > 0) := by omega
  have d3 : ((n : Int) < 0) = False := eq_false d1
  have d4 : decide ((n : Int) > 0) = true := decide_eq_true d2
  have d5 : (n : Int) ≤ 100000 := by omega
  have g3 : G ≤ 9223372036854775807 := by unfold maxLen at g2; omega
  have hR : Kd.R (Kd.int .i64) 3 (w.drew.alloc (.cells cur 3)) w.heap.size (fun _ => True) (.slice (some ⟨w.heap.size, 0, none⟩) 0 G) [] :=
    ⟨fun _ _ => trivial, [], ⟨by simp, .inr ⟨w.heap.size, G, cur, rfl, Nat.le_refl _, (MapKept.heap_alloc w.drew _).1, Nat.zero_le _, g2, hs, by simp⟩⟩, ⟨by simp, fun j p h => by simp at h⟩⟩
  have hB : Below w.heap.size w (w.drew.alloc (.cells cur 3)) := below_alloc (below_drew (Below.refl _ _)) _
  clear hs hcur g2 hG e1 e2 e3 e4 h0
  go_enter Try.func99, Try.ntmps99
  go_wp2_with (at_builtin; refine Lib.wpList_append_run _ rfl _ _ _ _ rfl _ _ rfl rfl _ _ h ?_)
  go_ret
  exact ⟨_, rfl, hR, hB⟩
set_option maxHeartbeats 4000000 in
set_option maxRecDepth 100000 in
theorem Concat_calls (g : Nat) (A4 : Option Addr) (c4 : Nat) (l4 : List Int) (A5 : Option Addr) (c5 : Nat) (l5 : List Int) (w : World) (hg : w.heap[g]? = some (.cells #[.slice A4 l4.length c4, .slice A5 l5.length c5] 67 (0, 0)))
    (h4 : (Kd.int .i64).C w A4 l4.length l4) (h5 : (Kd.int .i64).C w A5 l5.length l5) (hn4 : l4.length ≤ 1000) (hn5 : l5.length ≤ 1000) :
    Calls Try.prog 74 #[.slice (some ⟨g, 0, none⟩) 2 2] w fun e w' => ∃ v, e = .returned v ∧ Kd.R (Kd.int .i64) 3 w' w.heap.size (fun _ => True) v (l4 ++ l5) ∧ Below w.heap.size w w' := by
  have H4 := Aside0.mk h4
  have H5 := Aside0.mk h5
  have HG := Aside0.mk (show blk w g = _ from hg)
  have N4 := Aside0.mk hn4
  have N5 := Aside0.mk hn5
  have HW := Aside0.mk (Grow_calls (l4.length + l5.length) (by omega))
  clear h4 h5 hg hn4 hn5
  go_enter Try.func74, Try.ntmps74
  go_wp2_with fail
  go_loopg [3, 11] 3 (fun kq v3 v11 w' => ∃ i : Nat, v11 = .int .i64 i ∧ v3 = .int .i64 (if i = 0 then 0 else if i = 1 then (l4.length : Int) else (l4.length : Int) + l5.length) ∧ Aside0 (i ≤ 2 ∧ 2 - i < kq) ∧ w' = w)
  case atStart => exact ⟨0, rfl, rfl, ⟨by omega⟩, rfl⟩
  case round =>
    obtain ⟨i, rfl, rfl, Hi, rfl⟩ := hrel
    have y0 := get_cell HG.out 0
    have y1 := get_cell HG.out 1
    simp only [List.getElem?_toArray, List.getElem?_cons_zero, List.getElem?_cons_succ] at y0 y1
    have n4 := N4.out
    have n5 := N5.out
    obtain ⟨wo, rfl⟩ : ∃ x, x = wr := ⟨wr, rfl⟩
    rcases (show i = 0 ∨ i = 1 ∨ i = 2 by have := Hi.out; omega) with rfl | rfl | rfl
    · have w1 : wrap64 ((0 : Int) + (l4.length : Int)) = (l4.length : Int) := by unfold wrap64; omega
      have w2 : ((l4.length : Int) < 0) = False := eq_false (by omega)
      go_wp2_with fail
      go_roundg (gk - 1)
      case measure => have := Hi.out; omega
      case rel => exact ⟨1, rfl, by first | rfl | simp, ⟨by have := Hi.out; omega⟩, rfl⟩
    · have w1 : wrap64 ((l4.length : Int) + (l5.length : Int)) = (l4.length : Int) + (l5.length : Int) := by unfold wrap64; omega
      have w2 : ((l4.length : Int) + (l5.length : Int) < 0) = False := eq_false (by omega)
      go_wp2_with fail
      go_roundg (gk - 1)
      case measure => have := Hi.out; omega
      case rel => exact ⟨2, rfl, by first | rfl | simp, ⟨by have := Hi.out; omega⟩, rfl⟩
    · have hq := HW.out wo
      rw [show ((l4.length + l5.length : Nat) : Int) = (l4.length : Int) + (l5.length : Int) from by push_cast; rfl] at hq
      have HQ := Aside0.mk hq
      clear hq n4 n5 HW y0 y1
      go_wp2_with fail
      (with_reducible refine HQ.out.mono ?_)
      rintro e1 w1 ⟨v1, rfl, hR1, hB1⟩
      have HR1 := Aside0.mk hR1
      have HB1 := Aside0.mk hB1
      clear hR1 hB1
      go_wp2_with fail
      go_loopg [6, 27] 3 (fun kq v6 v27 w' => ∃ i : Nat, v27 = .int .i64 i ∧ Aside0 (i ≤ 2 ∧ 2 - i < kq) ∧ Aside0 (Kd.R (Kd.int .i64) 3 w' wo.heap.size (fun _ => True) v6 (if i = 0 then [] else if i = 1 then l4 else l4 ++ l5)) ∧ Aside0 (Below wo.heap.size wo w'))
      case atStart => exact ⟨0, rfl, ⟨by omega⟩, HR1, HB1⟩
      case round =>
        obtain ⟨i, rfl, Hj, HR, HB⟩ := hrel
        have n4 := N4.out
        have n5 := N5.out
        have y0 := get_cell (get_below HG.out HB.out) 0
        have y1 := get_cell (get_below HG.out HB.out) 1
        simp only [List.getElem?_toArray, List.getElem?_cons_zero, List.getElem?_cons_succ] at y0 y1
        rcases (show i = 0 ∨ i = 1 ∨ i = 2 by have := Hj.out; omega) with rfl | rfl | rfl
        · go_wp2_with (at_builtin; refine Kd.R_append_rows (Kd.int .i64) (w0 := wo) wo.heap.size rfl (.tmp 31) (.tmp 32) 67 3 (.int .i64 0) 8 rfl Try.underlying67 info3 rfl (by decide) (by decide) _ _ l4 _ _ _ (fun _ => True) (fun _ => False) rfl rfl HR.out (Kd.C_below H4.out HB.out) (fun _ _ h => h) (fun _ h => h.elim) (fun _ _ => trivial) HB.out HB.out.size (by simp; omega) ?_; intro v2 w2 hR2 hB2 _ _; have HR2 := Aside0.mk hR2; have HB2 := Aside0.mk hB2; clear hR2 hB2)
          go_roundg (gk - 1)
          case measure => have := Hj.out; omega
          case rel => exact ⟨1, rfl, ⟨by have := Hj.out; omega⟩, ⟨by simpa using HR2.out⟩, HB2⟩
        · go_wp2_with (at_builtin; refine Kd.R_append_rows (Kd.int .i64) (w0 := wo) wo.heap.size rfl (.tmp 31) (.tmp 32) 67 3 (.int .i64 0) 8 rfl Try.underlying67 info3 rfl (by decide) (by decide) _ _ l5 _ _ _ (fun _ => True) (fun _ => False) rfl rfl HR.out (Kd.C_below H5.out HB.out) (fun _ _ h => h) (fun _ h => h.elim) (fun _ _ => trivial) HB.out HB.out.size (by simp; omega) ?_; intro v2 w2 hR2 hB2 _ _; have HR2 := Aside0.mk hR2; have HB2 := Aside0.mk hB2; clear hR2 hB2)
          go_roundg (gk - 1)
          case measure => have := Hj.out; omega
          case rel => exact ⟨2, rfl, ⟨by have := Hj.out; omega⟩, ⟨by simpa using HR2.out⟩, HB2⟩
        · go_wp2_with fail
          go_ret
          exact ⟨_, rfl, HR.out, HB.out⟩
end Go.Proofs.Ytkeijpngfnmjoaa.MineZone
end
section
namespace Go.Proofs.Ytkeijpngfnmjoaa.MineZone
open Go.Lib Go.Shelf Go.RowKit Go.MapKept Go.Proofs.YtkeijpngfnmjoaaW.PrintWords Go.Proofs.YtkeijpngfnmjoaaW.PrintLast Go.Proofs.YtkeijpngfnmjoaaW.PrintMore Go.Proofs.Ytkeijpngfnmjoaa.MineBase Go.Proofs.Ytkeijpngfnmjoaa.MineSep Go.Proofs.Ytkeijpngfnmjoaa.MineRows Go.Proofs.Ytkeijpngfnmjoaa.MineGen Go.Proofs.Ytkeijpngfnmjoaa.QZonePlays Go.Proofs.Ytkeijpngfnmjoaa.MineMap
attribute [local go_sem ↓] Go.wp_at_zero Go.wp_at_succ
set_option linter.unusedVariables false
set_option linter.unusedSimpArgs false
set_option linter.unusedSectionVars false
section
variable {κ : Type} [DecidableEq κ]
def seenM (L : List κ) : List (κ × Value) := L.map fun k => (k, .int .i64 1)
theorem look_seen (L : List κ) (k : κ) : lookM (seenM L) k = if k ∈ L then some (.int .i64 1) else none := by
  induction L with
  | nil => rfl
  | cons x L ih =>
    unfold seenM at *
    rw [List.map_cons, lookM]
    by_cases h : x = k
    · subst h
      rw [if_pos rfl, if_pos List.mem_cons_self]
    · rw [if_neg h, ih]
      have h' : ¬ k = x := fun e => h e.symm
      simp [List.mem_cons, h']
theorem put_seen (L : List κ) (k : κ) (h : k ∉ L) : put (seenM L) k (.int .i64 1) = seenM (L ++ [k]) := by
  induction L with
  | nil => rfl
  | cons x L ih =>
    have h' : ¬ (k = x ∨ k ∈ L) := fun e => h (List.mem_cons.2 e)
    have hx : ¬ x = k := fun e => h' (.inl e.symm)
    unfold seenM at *
    rw [List.map_cons, put, if_neg hx, ih (fun e => h' (.inr e))]
    rfl
/-- A map of what was seen. -/
def ASeen (kv : κ → Value) (m : Nat) (L : List κ) : Asn where
  P := fun w D => (∃ es clock, w.heap[m]? = some (.map es clock) ∧ EsOf kv es.toList (seenM L)) ∧ D m
  mono := fun hd h => ⟨h.1, hd _ h.2⟩
  bound := fun ⟨⟨es, c, h1, h2⟩, h3⟩ => ⟨⟨es, c, h1, h2⟩, h3, blk_lt h1⟩
  move := fun hm ⟨⟨es, c, h1, h2⟩, h3⟩ => ⟨⟨es, c, (hm _ h3).trans h1, h2⟩, h3⟩
variable {kv : κ → Value} {w0 W : World} {l : List Asn} {m : Nat} {L : List κ} {d : TypeDesc} {t kt : TypeId}
theorem seen_new (h : Sat w0 W l) (kv : κ → Value) : Sat w0 (W.alloc (.map #[] 0)) (ASeen kv W.heap.size ([] : List κ) :: l) :=
  (blk_new h (.map #[] 0)).imp (B := ASeen kv W.heap.size []) (fun D hp => ⟨⟨#[], 0, hp.1, rfl⟩, hp.2⟩)
theorem seen_look (K : KeysOf d kv (fun _ => True)) (ht : Try.prog.underlying t = some (.map kt 3)) (hd : Try.prog.underlying kt = some d) (h : Sat w0 W (ASeen kv m L :: l)) (k : κ) :
    (Instr.lookup t (.map (some m)) (kv k) false).run Try.prog W = .ok (.int .i64 (if k ∈ L then 1 else 0)) W := by
  obtain ⟨D, ⟨⟨es, c, h1, h2⟩, _⟩, _⟩ := h.head
  have h3 := lookup_run (P := Try.prog) K ht hd (zero3 W) h1 (seenM L) (fun _ _ => trivial) h2 k trivial false
  rw [h3, look_seen]
  by_cases hk : k ∈ L
  · simp [hk]
  · simp [hk]
theorem seen_put (K : KeysOf d kv (fun _ => True)) (ht : Try.prog.underlying t = some (.map kt 3)) (hd : Try.prog.underlying kt = some d) (h : Sat w0 W (ASeen kv m L :: l)) (k : κ) (hk : k ∉ L) :
    ∃ w', (Instr.mapUpdate t (.map (some m)) (kv k) (.int .i64 1)).run Try.prog W = .ok () w' ∧ Sat w0 w' (ASeen kv m (L ++ [k]) :: l) := by
  have hb0 := h.toBelow
  have hsz := h.size
  obtain ⟨D, ⟨⟨es, c, h1, h2⟩, hDm⟩, hD, _, hcl⟩ := h.open_
  obtain ⟨w', es', c', hrun, hm', he', hg, _⟩ := update_run (P := Try.prog) K ht hd h1 (seenM L) (fun _ _ => trivial) h2 k trivial (.int .i64 1)
  rw [put_seen L k hk] at he'
  refine ⟨w', hrun, hcl w' (ASeen kv m (L ++ [k])) D (hb0.grown hg hsz (fun j hj => by injection hj with hj; subst hj; exact (hD _ hDm).1)) (Kept.of_grown hg (Kept.refl W D) (fun j hj => by injection hj with hj; subst hj; exact .inl hDm)) ⟨⟨es', c', hm', he'⟩, hDm⟩ (fun _ hj => .inl hj)⟩
end
theorem blk_new2 {w0 W : World} {l : List Asn} (h : Sat w0 W l) (o1 o2 : Obj) : Sat w0 ((W.alloc o1).alloc o2) (ABlk (W.heap.size + 1) o2 :: ABlk W.heap.size o1 :: l) := by
  have h := blk_new (blk_new h o1) o2
  rw [size_alloc] at h
  exact h
/-- What is behind a zone's places so far. -/
def bef (x : S82) : Nat → Int
  | 0 => 272
  | 1 => x.f0
  | 2 => x.f1
  | 3 => x.f2
  | _ => x.f3
def At (p n : Int) : Prop := p ≤ n ∧ n ≤ 65536 ∧ n % 4 = 0
def Pl (x : S82) (i : Nat) : Prop := (1 ≤ i → At 272 x.f0) ∧ (2 ≤ i → At x.f0 x.f1) ∧ (3 ≤ i → At x.f1 x.f2) ∧ (4 ≤ i → At x.f2 x.f3)
/-- Places of data, each once. -/
def GoodL (a d : Int) (L : List Int) : Prop := ∀ (i : Nat) (v : Int), L[i]? = some v → a ≤ v ∧ v < d ∧ v % 4 = 0 ∧ v ∉ L.take i
theorem fine_good (a d : Int) (ps qs : List Int) : GoodL a d (ps ++ qs) ↔ Fine a d ps qs ∧ Fine a d qs ps := by
  constructor
  · intro h
    refine ⟨fun i v hv => ?_, fun i v hv => ?_⟩
    · have hi := (List.getElem?_eq_some_iff.1 hv).1
      obtain ⟨h1, h2, h3, h4⟩ := h i v (by rw [List.getElem?_append_left hi]; exact hv)
      rw [List.take_append_of_le_length (by omega)] at h4
      refine ⟨h1, h2, h3, h4, fun hq => ?_⟩
      obtain ⟨j, hj⟩ := List.mem_iff_getElem?.1 hq
      obtain ⟨_, _, _, g4⟩ := h (ps.length + j) v (by rw [List.getElem?_append_right (by omega), Nat.add_sub_cancel_left]; exact hj)
      rw [List.take_length_add_append] at g4
      exact g4 (List.mem_append_left _ (List.mem_iff_getElem?.2 ⟨i, hv⟩))
    · obtain ⟨h1, h2, h3, h4⟩ := h (ps.length + i) v (by rw [List.getElem?_append_right (by omega), Nat.add_sub_cancel_left]; exact hv)
      rw [List.take_length_add_append, List.mem_append] at h4
      exact ⟨h1, h2, h3, fun h => h4 (.inr h), fun h => h4 (.inl h)⟩
  · rintro ⟨h1, h2⟩ i v hv
    by_cases hi : i < ps.length
    · rw [List.getElem?_append_left hi] at hv
      obtain ⟨g1, g2, g3, g4, _⟩ := h1 i v hv
      rw [List.take_append_of_le_length (by omega)]
      exact ⟨g1, g2, g3, g4⟩
    · obtain ⟨k, rfl⟩ : ∃ k, i = ps.length + k := ⟨i - ps.length, by omega⟩
      rw [List.getElem?_append_right (by omega), Nat.add_sub_cancel_left] at hv
      obtain ⟨g1, g2, g3, g4, g5⟩ := h2 k v hv
      rw [List.take_length_add_append, List.mem_append]
      exact ⟨g1, g2, g3, fun h => h.elim g5 g4⟩
theorem ok_iff (x : S82) : Ok x ↔ Pl x 4 ∧ GoodL x.f0 x.f1 (x.f4 ++ x.f5) ∧ x.f0 < x.f3 := by
  rw [fine_good]
  unfold Ok Places Pl At
  constructor
  · rintro ⟨⟨h1, h2, h3, h4, h5, h6, h7, h8, h9, h10⟩, h11⟩
    exact ⟨⟨fun _ => ⟨h1, by omega, h7⟩, fun _ => ⟨h2, by omega, h8⟩, fun _ => ⟨h3, by omega, h9⟩, fun _ => ⟨h4, h5, h10⟩⟩, h11, by omega⟩
  · rintro ⟨⟨g1, g2, g3, g4⟩, h11, h12⟩
    have g1 := g1 (by omega); have g2 := g2 (by omega); have g3 := g3 (by omega); have g4 := g4 (by omega)
    exact ⟨⟨g1.1, g2.1, g3.1, g4.1, g4.2.1, by omega, g1.2.2, g2.2.2, g3.2.2, g4.2.2⟩, h11⟩
theorem tmod4 (n : Int) : Int.tmod n 4 = 0 ↔ n % 4 = 0 := ⟨fun h => Int.emod_eq_zero_of_dvd (Int.dvd_of_tmod_eq_zero h), fun h => Int.tmod_eq_zero_of_dvd (Int.dvd_of_emod_eq_zero h)⟩
set_option maxHeartbeats 8000000 in
set_option maxRecDepth 100000 in
theorem may_calls (x : S82) (A4 : Option Addr) (c4 : Nat) (A5 : Option Addr) (c5 : Nat) (w : World) (h4 : (Kd.int .i64).C w A4 x.f4.length x.f4) (h5 : (Kd.int .i64).C w A5 x.f5.length x.f5) (hn4 : x.f4.length ≤ 100) (hn5 : x.f5.length ≤ 100) (r : Bool) (hr : r = true ↔ Ok x) :
    Calls Try.prog 77 #[.agg #[.int .i64 x.f0, .int .i64 x.f1, .int .i64 x.f2, .int .i64 x.f3, .slice A4 x.f4.length c4, .slice A5 x.f5.length c5]] w fun e w' => e = .returned (.bool r) ∧ Below w.heap.size w w' := by
  have H4 := Aside0.mk h4
  have H5 := Aside0.mk h5
  have N4 := Aside0.mk hn4
  have N5 := Aside0.mk hn5
  have HRR := Aside0.mk (hr.trans (ok_iff x))
  clear h4 h5 hn4 hn5 hr
  go_enter Try.func77, Try.ntmps77
  go_wp2_with fail
  refine wp_abs (fun W => Sat w W [ABlk (w.heap.size + 1) (.cells #[.int .i64 x.f0, .int .i64 x.f1, .int .i64 x.f2, .int .i64 x.f3] 3 (0, 0)), ABlk w.heap.size (.cells #[.int .i64 x.f0, .int .i64 x.f1, .int .i64 x.f2, .int .i64 x.f3, .slice A4 x.f4.length c4, .slice A5 x.f5.length c5] 75 (0, 0))]) (blk_new2 (Sat.start w) _ _) (fun W hW => ?_)
  generalize w.heap.size + 1 = b2 at hW ⊢
  obtain ⟨b1, hb1⟩ : ∃ b, w.heap.size = b := ⟨_, rfl⟩
  have HSZ := Aside0.mk hb1
  rw [hb1] at hW ⊢
  replace hW := Aside0.mk hW
  clear hb1
  go_loopg [3, 19] 5 (fun kq v3 v19 w' => ∃ i : Nat, v19 = .int .i64 i ∧ v3 = .int .i64 (bef x i) ∧ Aside0 (i ≤ 4 ∧ 4 - i < kq) ∧ Aside0 (Pl x i) ∧ w' = W)
  case atStart => exact ⟨0, rfl, rfl, ⟨by omega⟩, ⟨⟨fun h => absurd h (by omega), fun h => absurd h (by omega), fun h => absurd h (by omega), fun h => absurd h (by omega)⟩⟩, rfl⟩
  case round =>
    obtain ⟨i, rfl, rfl, Hi, HP, hw⟩ := hrel
    obtain ⟨wo, rfl⟩ : ∃ y, y = wr := ⟨wr, rfl⟩
    subst hw
    rcases (show i = 0 ∨ i = 1 ∨ i = 2 ∨ i = 3 ∨ i = 4 by have := Hi.out; omega) with rfl | rfl | rfl | rfl | rfl
    · have y0 : wo.cell? ⟨b2, 0, none⟩ = some (.int .i64 x.f0) := get_cell (blk_at hW.out) 0
      have HBAD := Aside0.mk (show ¬ At 272 x.f0 → r = false from fun hx => by
        cases r with
        | false => rfl
        | true => exact absurd ((HRR.out.1 rfl).1.1 (by omega)) hx)
      simp only [bef]
      by_cases c1 : x.f0 < 272
      · have e : r = false := HBAD.out (fun h => by have := h.1; omega)
        subst e
        have d1 : (x.f0 < 272) = True := eq_true c1
        have d2 : decide (x.f0 < 272) = true := decide_eq_true c1
        clear c1
        go_wp2_with fail
        go_ret
        exact ⟨by rfl, by first | exact hW.out.toBelow | (rw [HSZ.out]; exact hW.out.toBelow) | (have := hW.out.toBelow; rw [HSZ.out] at this; exact this)⟩
      have d1 : (x.f0 < 272) = False := eq_false c1
      have d2 : decide (x.f0 < 272) = false := decide_eq_false c1
      by_cases c2 : x.f0 > 65536
      · have e : r = false := HBAD.out (fun h => by have := h.2.1; omega)
        subst e
        have d3 : (x.f0 > 65536) = True := eq_true c2
        have d4 : decide (x.f0 > 65536) = true := decide_eq_true c2
        have d5 : 65536 < x.f0 := c2
        clear c1 c2
        go_wp2_with fail
        go_ret
        exact ⟨by rfl, by first | exact hW.out.toBelow | (rw [HSZ.out]; exact hW.out.toBelow) | (have := hW.out.toBelow; rw [HSZ.out] at this; exact this)⟩
      have d3 : (65536 < x.f0) = False := eq_false c2
      have d4 : decide (65536 < x.f0) = false := decide_eq_false c2
      by_cases c3 : x.f0 % 4 = 0
      · have HA := Aside0.mk (show At 272 x.f0 from ⟨by omega, by omega, c3⟩)
        have d5 : Int.tmod x.f0 4 = 0 := (tmod4 _).2 c3
        clear c1 c2 c3
        go_wp2_with fail
        go_roundg (gk - 1)
        case measure => have := Hi.out; omega
        case rel => exact ⟨1, rfl, rfl, ⟨by have := Hi.out; omega⟩, ⟨by have h0 := HP.out; have h1 := HA.out; refine ⟨fun h => ?_, fun h => ?_, fun h => ?_, fun h => ?_⟩ <;> first | exact h1 | exact h0.1 (by omega) | exact h0.2.1 (by omega) | exact h0.2.2.1 (by omega) | exact absurd h (by omega)⟩, rfl⟩
      · have e : r = false := HBAD.out (fun h => c3 h.2.2)
        subst e
        have d5 : (Int.tmod x.f0 4 = 0) = False := eq_false (fun h => c3 ((tmod4 _).1 h))
        have d6 : (Int.tmod x.f0 4 == 0) = false := by simpa using (fun h => c3 ((tmod4 _).1 h))
        clear c1 c2 c3
        go_wp2_with fail
        go_ret
        exact ⟨by rfl, by first | exact hW.out.toBelow | (rw [HSZ.out]; exact hW.out.toBelow) | (have := hW.out.toBelow; rw [HSZ.out] at this; exact this)⟩
    · have y0 : wo.cell? ⟨b2, 1, none⟩ = some (.int .i64 x.f1) := get_cell (blk_at hW.out) 1
      have HBAD := Aside0.mk (show ¬ At x.f0 x.f1 → r = false from fun hx => by
        cases r with
        | false => rfl
        | true => exact absurd ((HRR.out.1 rfl).1.2.1 (by omega)) hx)
      simp only [bef]
      by_cases c1 : x.f1 < x.f0
      · have e : r = false := HBAD.out (fun h => by have := h.1; omega)
        subst e
        have d1 : (x.f1 < x.f0) = True := eq_true c1
        have d2 : decide (x.f1 < x.f0) = true := decide_eq_true c1
        clear c1
        go_wp2_with fail
        go_ret
        exact ⟨by rfl, by first | exact hW.out.toBelow | (rw [HSZ.out]; exact hW.out.toBelow) | (have := hW.out.toBelow; rw [HSZ.out] at this; exact this)⟩
      have d1 : (x.f1 < x.f0) = False := eq_false c1
      have d2 : decide (x.f1 < x.f0) = false := decide_eq_false c1
      by_cases c2 : x.f1 > 65536
      · have e : r = false := HBAD.out (fun h => by have := h.2.1; omega)
        subst e
        have d3 : (x.f1 > 65536) = True := eq_true c2
        have d4 : decide (x.f1 > 65536) = true := decide_eq_true c2
        have d5 : 65536 < x.f1 := c2
        clear c1 c2
        go_wp2_with fail
        go_ret
        exact ⟨by rfl, by first | exact hW.out.toBelow | (rw [HSZ.out]; exact hW.out.toBelow) | (have := hW.out.toBelow; rw [HSZ.out] at this; exact this)⟩
      have d3 : (65536 < x.f1) = False := eq_false c2
      have d4 : decide (65536 < x.f1) = false := decide_eq_false c2
      by_cases c3 : x.f1 % 4 = 0
      · have HA := Aside0.mk (show At x.f0 x.f1 from ⟨by omega, by omega, c3⟩)
        have d5 : Int.tmod x.f1 4 = 0 := (tmod4 _).2 c3
        clear c1 c2 c3
        go_wp2_with fail
        go_roundg (gk - 1)
        case measure => have := Hi.out; omega
        case rel => exact ⟨2, rfl, rfl, ⟨by have := Hi.out; omega⟩, ⟨by have h0 := HP.out; have h1 := HA.out; refine ⟨fun h => ?_, fun h => ?_, fun h => ?_, fun h => ?_⟩ <;> first | exact h1 | exact h0.1 (by omega) | exact h0.2.1 (by omega) | exact h0.2.2.1 (by omega) | exact absurd h (by omega)⟩, rfl⟩
      · have e : r = false := HBAD.out (fun h => c3 h.2.2)
        subst e
        have d5 : (Int.tmod x.f1 4 = 0) = False := eq_false (fun h => c3 ((tmod4 _).1 h))
        have d6 : (Int.tmod x.f1 4 == 0) = false := by simpa using (fun h => c3 ((tmod4 _).1 h))
        clear c1 c2 c3
        go_wp2_with fail
        go_ret
        exact ⟨by rfl, by first | exact hW.out.toBelow | (rw [HSZ.out]; exact hW.out.toBelow) | (have := hW.out.toBelow; rw [HSZ.out] at this; exact this)⟩
    · have y0 : wo.cell? ⟨b2, 2, none⟩ = some (.int .i64 x.f2) := get_cell (blk_at hW.out) 2
      have HBAD := Aside0.mk (show ¬ At x.f1 x.f2 → r = false from fun hx => by
        cases r with
        | false => rfl
        | true => exact absurd ((HRR.out.1 rfl).1.2.2.1 (by omega)) hx)
      simp only [bef]
      by_cases c1 : x.f2 < x.f1
      · have e : r = false := HBAD.out (fun h => by have := h.1; omega)
        subst e
        have d1 : (x.f2 < x.f1) = True := eq_true c1
        have d2 : decide (x.f2 < x.f1) = true := decide_eq_true c1
        clear c1
        go_wp2_with fail
        go_ret
        exact ⟨by rfl, by first | exact hW.out.toBelow | (rw [HSZ.out]; exact hW.out.toBelow) | (have := hW.out.toBelow; rw [HSZ.out] at this; exact this)⟩
      have d1 : (x.f2 < x.f1) = False := eq_false c1
      have d2 : decide (x.f2 < x.f1) = false := decide_eq_false c1
      by_cases c2 : x.f2 > 65536
      · have e : r = false := HBAD.out (fun h => by have := h.2.1; omega)
        subst e
        have d3 : (x.f2 > 65536) = True := eq_true c2
        have d4 : decide (x.f2 > 65536) = true := decide_eq_true c2
        have d5 : 65536 < x.f2 := c2
        clear c1 c2
        go_wp2_with fail
        go_ret
        exact ⟨by rfl, by first | exact hW.out.toBelow | (rw [HSZ.out]; exact hW.out.toBelow) | (have := hW.out.toBelow; rw [HSZ.out] at this; exact this)⟩
      have d3 : (65536 < x.f2) = False := eq_false c2
      have d4 : decide (65536 < x.f2) = false := decide_eq_false c2
      by_cases c3 : x.f2 % 4 = 0
      · have HA := Aside0.mk (show At x.f1 x.f2 from ⟨by omega, by omega, c3⟩)
        have d5 : Int.tmod x.f2 4 = 0 := (tmod4 _).2 c3
        clear c1 c2 c3
        go_wp2_with fail
        go_roundg (gk - 1)
        case measure => have := Hi.out; omega
        case rel => exact ⟨3, rfl, rfl, ⟨by have := Hi.out; omega⟩, ⟨by have h0 := HP.out; have h1 := HA.out; refine ⟨fun h => ?_, fun h => ?_, fun h => ?_, fun h => ?_⟩ <;> first | exact h1 | exact h0.1 (by omega) | exact h0.2.1 (by omega) | exact h0.2.2.1 (by omega) | exact absurd h (by omega)⟩, rfl⟩
      · have e : r = false := HBAD.out (fun h => c3 h.2.2)
        subst e
        have d5 : (Int.tmod x.f2 4 = 0) = False := eq_false (fun h => c3 ((tmod4 _).1 h))
        have d6 : (Int.tmod x.f2 4 == 0) = false := by simpa using (fun h => c3 ((tmod4 _).1 h))
        clear c1 c2 c3
        go_wp2_with fail
        go_ret
        exact ⟨by rfl, by first | exact hW.out.toBelow | (rw [HSZ.out]; exact hW.out.toBelow) | (have := hW.out.toBelow; rw [HSZ.out] at this; exact this)⟩
    · have y0 : wo.cell? ⟨b2, 3, none⟩ = some (.int .i64 x.f3) := get_cell (blk_at hW.out) 3
      have HBAD := Aside0.mk (show ¬ At x.f2 x.f3 → r = false from fun hx => by
        cases r with
        | false => rfl
        | true => exact absurd ((HRR.out.1 rfl).1.2.2.2 (by omega)) hx)
      simp only [bef]
      by_cases c1 : x.f3 < x.f2
      · have e : r = false := HBAD.out (fun h => by have := h.1; omega)
        subst e
        have d1 : (x.f3 < x.f2) = True := eq_true c1
        have d2 : decide (x.f3 < x.f2) = true := decide_eq_true c1
        clear c1
        go_wp2_with fail
        go_ret
        exact ⟨by rfl, by first | exact hW.out.toBelow | (rw [HSZ.out]; exact hW.out.toBelow) | (have := hW.out.toBelow; rw [HSZ.out] at this; exact this)⟩
      have d1 : (x.f3 < x.f2) = False := eq_false c1
      have d2 : decide (x.f3 < x.f2) = false := decide_eq_false c1
      by_cases c2 : x.f3 > 65536
      · have e : r = false := HBAD.out (fun h => by have := h.2.1; omega)
        subst e
        have d3 : (x.f3 > 65536) = True := eq_true c2
        have d4 : decide (x.f3 > 65536) = true := decide_eq_true c2
        have d5 : 65536 < x.f3 := c2
        clear c1 c2
        go_wp2_with fail
        go_ret
        exact ⟨by rfl, by first | exact hW.out.toBelow | (rw [HSZ.out]; exact hW.out.toBelow) | (have := hW.out.toBelow; rw [HSZ.out] at this; exact this)⟩
      have d3 : (65536 < x.f3) = False := eq_false c2
      have d4 : decide (65536 < x.f3) = false := decide_eq_false c2
      by_cases c3 : x.f3 % 4 = 0
      · have HA := Aside0.mk (show At x.f2 x.f3 from ⟨by omega, by omega, c3⟩)
        have d5 : Int.tmod x.f3 4 = 0 := (tmod4 _).2 c3
        clear c1 c2 c3
        go_wp2_with fail
        go_roundg (gk - 1)
        case measure => have := Hi.out; omega
        case rel => exact ⟨4, rfl, rfl, ⟨by have := Hi.out; omega⟩, ⟨by have h0 := HP.out; have h1 := HA.out; refine ⟨fun h => ?_, fun h => ?_, fun h => ?_, fun h => ?_⟩ <;> first | exact h1 | exact h0.1 (by omega) | exact h0.2.1 (by omega) | exact h0.2.2.1 (by omega) | exact absurd h (by omega)⟩, rfl⟩
      · have e : r = false := HBAD.out (fun h => c3 h.2.2)
        subst e
        have d5 : (Int.tmod x.f3 4 = 0) = False := eq_false (fun h => c3 ((tmod4 _).1 h))
        have d6 : (Int.tmod x.f3 4 == 0) = false := by simpa using (fun h => c3 ((tmod4 _).1 h))
        clear c1 c2 c3
        go_wp2_with fail
        go_ret
        exact ⟨by rfl, by first | exact hW.out.toBelow | (rw [HSZ.out]; exact hW.out.toBelow) | (have := hW.out.toBelow; rw [HSZ.out] at this; exact this)⟩
    · have hmm := @run_makeMap Try.prog
      go_upto_region 10 with fail
      refine wp_abs (fun W2 => Sat w W2 [ASeen (Value.int .i64) wo.heap.size ([] : List Int), ABlk b1 (.cells #[.int .i64 x.f0, .int .i64 x.f1, .int .i64 x.f2, .int .i64 x.f3, .slice A4 x.f4.length c4, .slice A5 x.f5.length c5] 75 (0, 0))]) (seen_new hW.out.drop _) (fun W2 hW2 => ?_)
      generalize wo.heap.size = m at hW2 ⊢
      replace hW2 := Aside0.mk hW2
      clear hmm
      have x4 : W2.cell? ⟨b1, 4, none⟩ = some (.slice A4 x.f4.length c4) := get_cell (blk_at hW2.out.drop) 4
      have x5 : W2.cell? ⟨b1, 5, none⟩ = some (.slice A5 x.f5.length c5) := get_cell (blk_at hW2.out.drop) 5
      obtain ⟨W3, hW3⟩ : ∃ W3, W2.alloc (.cells #[.slice A4 x.f4.length c4, .slice A5 x.f5.length c5] 67) = W3 := ⟨_, rfl⟩
      have HS3 := Aside0.mk (show Sat w W3 [ABlk W2.heap.size (.cells #[.slice A4 x.f4.length c4, .slice A5 x.f5.length c5] 67 (0, 0)), ASeen (Value.int .i64) m ([] : List Int), ABlk b1 (.cells #[.int .i64 x.f0, .int .i64 x.f1, .int .i64 x.f2, .int .i64 x.f3, .slice A4 x.f4.length c4, .slice A5 x.f5.length c5] 75 (0, 0))] from by rw [← hW3]; exact blk_new hW2.out _)
      have hq := Concat_calls W2.heap.size A4 c4 x.f4 A5 c5 x.f5 W3 (blk_at HS3.out) (Kd.C_below H4.out HS3.out.toBelow) (Kd.C_below H5.out HS3.out.toBelow) (by have := N4.out; omega) (by have := N5.out; omega)
      have HLn0 : (x.f4 ++ x.f5).length ≤ 200 := by have := N4.out; have := N5.out; rw [List.length_append]; omega
      have hrr := HRR.out
      clear HRR
      generalize x.f4 ++ x.f5 = L at hq HLn0 hrr
      have HRR := Aside0.mk hrr
      have HLn := Aside0.mk HLn0
      have HQ := Aside0.mk hq
      clear hq HLn0 hrr
      obtain ⟨b3, hb3⟩ : ∃ b, W2.heap.size = b := ⟨_, rfl⟩
      rw [hb3] at HQ HS3
      go_wp2_with fail
      try rw [hW3]
      clear hW3
      try rw [hb3]
      clear hb3
      (with_reducible refine HQ.out.mono ?_)
      rintro e4 w4 ⟨v1, rfl, hR, hB⟩
      have HS4 := Aside0.mk (HS3.out.newRow hB hR (Nat.le_refl _))
      obtain ⟨Av, cv, rfl, hcv, _⟩ := HS4.out.rowReads
      clear hR hB x4 x5
      generalize W3.heap.size = base at HS4
      clear HS3 HQ hW2
      go_wp2_with fail
      go_loopg [45] (L.length + 1) (fun kq v45 w' => ∃ i : Nat, v45 = .int .i64 i ∧ Aside0 (i ≤ L.length ∧ L.length - i < kq) ∧ Aside0 (∀ (j : Nat) (v : Int), j < i → L[j]? = some v → x.f0 ≤ v ∧ v < x.f1 ∧ v % 4 = 0 ∧ v ∉ L.take j) ∧ Aside0 (Sat w w' [ARow (Kd.int .i64) 3 base (.slice Av L.length cv) L, ABlk b3 (.cells #[.slice A4 x.f4.length c4, .slice A5 x.f5.length c5] 67 (0, 0)), ASeen (Value.int .i64) m (L.take i), ABlk b1 (.cells #[.int .i64 x.f0, .int .i64 x.f1, .int .i64 x.f2, .int .i64 x.f3, .slice A4 x.f4.length c4, .slice A5 x.f5.length c5] 75 (0, 0))]))
      case atStart => exact ⟨0, rfl, ⟨by omega⟩, ⟨fun j v h => absurd h (by omega)⟩, HS4⟩
      case round =>
        clear HS4
        obtain ⟨i, rfl, Hj, HG, HW⟩ := hrel
        have x0 : wr.cell? ⟨b1, 0, none⟩ = some (.int .i64 x.f0) := get_cell (blk_at HW.out.drop.drop.drop) 0
        have x1 : wr.cell? ⟨b1, 1, none⟩ = some (.int .i64 x.f1) := get_cell (blk_at HW.out.drop.drop.drop) 1
        have x3 : wr.cell? ⟨b1, 3, none⟩ = some (.int .i64 x.f3) := get_cell (blk_at HW.out.drop.drop.drop) 3
        by_cases hlt : i < L.length
        · obtain ⟨n, hn⟩ : ∃ n, L[i]? = some n := ⟨_, List.getElem?_eq_getElem hlt⟩
          obtain ⟨A', c', e', _, hC⟩ := HW.out.rowReads
          injection e' with e1 e2 e3
          subst e1
          obtain ⟨ad, eA, y0⟩ := Kd.at_int hC (i : Int) (by omega) (by omega)
          have ev : rd L (i : Int) = n := by
            have := (List.getElem?_eq_some_iff.1 hn).2
            simp [rd, hlt, this]
          rw [ev] at y0
          simp only [Int.toNat_natCast] at y0
          subst eA
          have HN := Aside0.mk hn
          have p1 : (i < L.length) = True := eq_true hlt
          have d0 : decide ((i : Int) < (L.length : Int)) = true := decide_eq_true (by omega)
          have p9 : (i : Int) ≤ 1000 := by have := HLn.out; omega
          have p8 : 0 ≤ (i : Int) := by omega
          have hlk := seen_look intKeys Try.underlying131 Try.underlying3 HW.out.drop.drop n
          have HBAD := Aside0.mk (show ¬ (x.f0 ≤ n ∧ n < x.f1 ∧ n % 4 = 0 ∧ n ∉ L.take i) → r = false from fun hx => by
            cases r with
            | false => rfl
            | true => exact absurd ((HRR.out.1 rfl).2.1 i n HN.out) hx)
          clear hlt hn hC e2 e3 ev hcv
          by_cases c1 : n < x.f0
          · have e : r = false := HBAD.out (fun h => by have := h.1; omega)
            subst e
            have d1 : (n < x.f0) = True := eq_true c1
            have d2 : decide (n < x.f0) = true := decide_eq_true c1
            clear c1 hlk
            go_wp2_with fail
            go_ret
            exact ⟨by rfl, HW.out.toBelow⟩
          have d1 : (n < x.f0) = False := eq_false c1
          have d2 : decide (n < x.f0) = false := decide_eq_false c1
          by_cases c2 : x.f1 ≤ n
          · have e : r = false := HBAD.out (fun h => by have := h.2.1; omega)
            subst e
            have d3 : (x.f1 ≤ n) = True := eq_true c2
            have d4 : decide (x.f1 ≤ n) = true := decide_eq_true c2
            clear c1 c2 hlk
            go_wp2_with fail
            go_ret
            exact ⟨by rfl, HW.out.toBelow⟩
          have d3 : (x.f1 ≤ n) = False := eq_false c2
          have d4 : decide (x.f1 ≤ n) = false := decide_eq_false c2
          by_cases c3 : n % 4 = 0
          · have d5 : Int.tmod n 4 = 0 := (tmod4 _).2 c3
            by_cases gs : n ∈ L.take i
            · rw [if_pos gs] at hlk
              have e : r = false := HBAD.out (fun h => h.2.2.2 gs)
              subst e
              clear c1 c2 c3 gs
              go_wp2_with fail
              go_ret
              exact ⟨by rfl, HW.out.toBelow⟩
            · rw [if_neg gs] at hlk
              obtain ⟨w9, hput, hS9⟩ := seen_put intKeys Try.underlying131 Try.underlying3 HW.out.third n gs
              have HW9 := Aside0.mk hS9.back2
              have HK := Aside0.mk (show x.f0 ≤ n ∧ n < x.f1 ∧ n % 4 = 0 ∧ n ∉ L.take i from ⟨by omega, by omega, c3, gs⟩)
              clear c1 c2 c3 gs hS9
              go_wp2_with fail
              go_roundg (gk - 1)
              case measure => have := Hj.out; have := of_eq_true p1; omega
              case rel => exact ⟨i + 1, by go_num, ⟨by have := Hj.out; have := of_eq_true p1; omega⟩, ⟨fun j u hj hu => by
                by_cases hji : j = i
                · subst hji
                  have := HN.out
                  rw [hu] at this
                  injection this with this
                  rw [this]; exact HK.out
                · exact HG.out j u (by omega) hu⟩, ⟨by rw [List.take_add_one, HN.out]; exact HW9.out⟩⟩
          · have e : r = false := HBAD.out (fun h => c3 h.2.2.1)
            subst e
            have d5 : (Int.tmod n 4 = 0) = False := eq_false (fun h => c3 ((tmod4 _).1 h))
            have d6 : (Int.tmod n 4 == 0) = false := by simpa using (fun h => c3 ((tmod4 _).1 h))
            clear c1 c2 c3 hlk
            go_wp2_with fail
            go_ret
            exact ⟨by rfl, HW.out.toBelow⟩
        · have hi : i = L.length := by have := Hj.out; omega
          have p1 : (i < L.length) = False := eq_false hlt
          have HE := Aside0.mk (show decide (x.f0 < x.f3) = r from by
            have h1 : GoodL x.f0 x.f1 L := fun j v hv => HG.out j v (by have := (List.getElem?_eq_some_iff.1 hv).1; omega) hv
            rw [Bool.eq_iff_iff, decide_eq_true_eq]
            exact ⟨fun h => HRR.out.2 ⟨HP.out, h1, h⟩, fun h => (HRR.out.1 h).2.2⟩)
          clear hi hlt
          go_wp2_with fail
          go_ret
          exact ⟨ret_eq (by rw [← HE.out]; rfl), HW.out.toBelow⟩
end Go.Proofs.Ytkeijpngfnmjoaa.MineZone
end
section
namespace Go.Proofs.Ytkeijpngfnmjoaa.MineZone
open Go.Lib Go.Shelf Go.RowKit Go.MapKept Go.Proofs.YtkeijpngfnmjoaaW.PrintWords Go.Proofs.YtkeijpngfnmjoaaW.PrintLast Go.Proofs.YtkeijpngfnmjoaaW.PrintMore Go.Proofs.Ytkeijpngfnmjoaa.MineBase Go.Proofs.Ytkeijpngfnmjoaa.MineSep Go.Proofs.Ytkeijpngfnmjoaa.MineRows Go.Proofs.Ytkeijpngfnmjoaa.MineGen Go.Proofs.Ytkeijpngfnmjoaa.QZonePlays Go.Proofs.Ytkeijpngfnmjoaa.MineMap
attribute [local go_sem ↓] Go.wp_at_zero Go.wp_at_succ
set_option linter.unusedVariables false
set_option linter.unusedSimpArgs false
set_option maxHeartbeats 4000000 in
set_option maxRecDepth 100000 in
theorem Add_no {z m : Nat} {zs : List S82} {w : World} (h : ZR z m zs w) (x : S82) (A4 : Option Addr) (c4 : Nat) (A5 : Option Addr) (c5 : Nat) (h4 : (Kd.int .i64).C w A4 x.f4.length x.f4) (h5 : (Kd.int .i64).C w A5 x.f5.length x.f5) (hn4 : x.f4.length ≤ 100) (hn5 : x.f5.length ≤ 100)
    (hno : ¬ Ok x ∨ zs.any (clash x) = true) :
    Calls Try.prog 40 #[.pointer (some ⟨z, 0, none⟩), .agg #[.int .i64 x.f0, .int .i64 x.f1, .int .i64 x.f2, .int .i64 x.f3, .slice A4 x.f4.length c4, .slice A5 x.f5.length c5]] w fun e w' => e = .returned (.iface 39 (.int .i64 1)) ∧ Below w.heap.size w w' := by
  have H := Aside0.mk h
  obtain ⟨W, hWe⟩ : ∃ W, w.alloc (.cells #[.int .i64 x.f0, .int .i64 x.f1, .int .i64 x.f2, .int .i64 x.f3, .slice A4 x.f4.length c4, .slice A5 x.f5.length c5] 75) = W := ⟨_, rfl⟩
  have hW := Aside0.mk (show Sat w W [ABlk w.heap.size (.cells #[.int .i64 x.f0, .int .i64 x.f1, .int .i64 x.f2, .int .i64 x.f3, .slice A4 x.f4.length c4, .slice A5 x.f5.length c5] 75 (0, 0))] from by rw [← hWe]; exact blk_new (Sat.start w) _)
  have hm := fun r hr => may_calls x A4 c4 A5 c5 W (Kd.C_below h4 hW.out.toBelow) (Kd.C_below h5 hW.out.toBelow) hn4 hn5 r hr
  have y0 : W.cell? ⟨w.heap.size, 0, none⟩ = some (.int .i64 x.f0) := get_cell (blk_at hW.out) 0
  have y1 : W.cell? ⟨w.heap.size, 1, none⟩ = some (.int .i64 x.f1) := get_cell (blk_at hW.out) 1
  have y2 : W.cell? ⟨w.heap.size, 2, none⟩ = some (.int .i64 x.f2) := get_cell (blk_at hW.out) 2
  have y3 : W.cell? ⟨w.heap.size, 3, none⟩ = some (.int .i64 x.f3) := get_cell (blk_at hW.out) 3
  have y4 : W.cell? ⟨w.heap.size, 4, none⟩ = some (.slice A4 x.f4.length c4) := get_cell (blk_at hW.out) 4
  have y5 : W.cell? ⟨w.heap.size, 5, none⟩ = some (.slice A5 x.f5.length c5) := get_cell (blk_at hW.out) 5
  have hu75 := Try.underlying75
  clear h h4 h5 hn4 hn5
  by_cases ho : Ok x
  · have hc : zs.any (clash x) = true := hno.resolve_left (fun h => h ho)
    have HM := Aside0.mk (hm true (by simp [ho]))
    have HC := Aside0.mk hc
    clear hm ho hno hc
    go_enter Try.func40, Try.ntmps40
    go_upto_region 1 with fail
    try rw [hWe]
    clear hWe
    go_wp2_with fail
    (with_reducible refine HM.out.mono ?_)
    rintro e1 w1 ⟨rfl, hb1⟩
    have HB1 := Aside0.mk (hW.out.below hb1)
    clear hb1 y0 y1 y2 y3 y4 y5
    obtain ⟨A, c, hz, hC⟩ := (H.out.below HB1.out.toBelow).row
    have x0 : w1.cell? ⟨z, 0, none⟩ = some (.slice A zs.length c) := get_cell hz 0
    have y0 : w1.cell? ⟨w.heap.size, 0, none⟩ = some (.int .i64 x.f0) := get_cell (blk_at HB1.out) 0
    have y3 : w1.cell? ⟨w.heap.size, 3, none⟩ = some (.int .i64 x.f3) := get_cell (blk_at HB1.out) 3
    have hq := Contains1_calls 79 _ _ A c zs w1 hC H.out.few (tells_clash y0 y3)
    rw [HC.out] at hq
    have HQ := Aside0.mk hq
    clear hq hz hC y0 y3
    go_wp2_with fail
    (with_reducible refine HQ.out.mono ?_)
    rintro e2 w2 ⟨rfl, hb2⟩
    have HB2 := Aside0.mk (HB1.out.below hb2)
    clear hb2
    go_wp2_with fail
    go_ret
    exact ⟨by rfl, HB2.out.toBelow⟩
  · have HM := Aside0.mk (hm false (by simp [ho]))
    clear hm ho hno
    go_enter Try.func40, Try.ntmps40
    go_upto_region 1 with fail
    try rw [hWe]
    clear hWe
    go_wp2_with fail
    (with_reducible refine HM.out.mono ?_)
    rintro e1 w1 ⟨rfl, hb1⟩
    have HB1 := Aside0.mk (hW.out.below hb1)
    clear hb1 y0 y1 y2 y3 y4 y5
    go_wp2_with fail
    go_ret
    exact ⟨by rfl, HB1.out.toBelow⟩
end Go.Proofs.Ytkeijpngfnmjoaa.MineZone
end
section
namespace Go.Proofs.Ytkeijpngfnmjoaa.MineZone
open Go.Lib Go.Shelf Go.RowKit Go.MapKept Go.Proofs.YtkeijpngfnmjoaaW.PrintWords Go.Proofs.YtkeijpngfnmjoaaW.PrintLast Go.Proofs.YtkeijpngfnmjoaaW.PrintMore Go.Proofs.Ytkeijpngfnmjoaa.MineBase Go.Proofs.Ytkeijpngfnmjoaa.MineSep Go.Proofs.Ytkeijpngfnmjoaa.MineRows Go.Proofs.Ytkeijpngfnmjoaa.MineGen Go.Proofs.Ytkeijpngfnmjoaa.QZonePlays Go.Proofs.Ytkeijpngfnmjoaa.MineMap
attribute [local go_sem ↓] Go.wp_at_zero Go.wp_at_succ
set_option linter.unusedVariables false
set_option linter.unusedSimpArgs false
/-- A map of cells. -/
def AMapF (m : Nat) (F : List (Int × Value)) : Asn where
  P := fun w D => (∃ es clock, w.heap[m]? = some (.map es clock) ∧ EsOf (Value.int .i64) es.toList F) ∧ D m
  mono := fun hd h => ⟨h.1, hd _ h.2⟩
  bound := fun ⟨⟨es, c, h1, h2⟩, h3⟩ => ⟨⟨es, c, h1, h2⟩, h3, blk_lt h1⟩
  move := fun hm ⟨⟨es, c, h1, h2⟩, h3⟩ => ⟨⟨es, c, (hm _ h3).trans h1, h2⟩, h3⟩
theorem mapF_new {w0 W : World} {l : List Asn} {m : Nat} (h : Sat w0 W (ABlk m (.map #[] 0) :: l)) : Sat w0 W (AMapF m [] :: l) :=
  h.imp (B := AMapF m []) (fun D hp => ⟨⟨#[], 0, hp.1, rfl⟩, hp.2⟩)
theorem mapF_at {w0 W : World} {l : List Asn} {m : Nat} {F : List (Int × Value)} (h : Sat w0 W (AMapF m F :: l)) : ∃ es clock, W.heap[m]? = some (.map es clock) ∧ EsOf (Value.int .i64) es.toList F := by
  obtain ⟨D, ⟨h1, _⟩, _⟩ := h.head
  exact h1
theorem mapF_put {w0 W : World} {l : List Asn} {m : Nat} {F : List (Int × Value)} (h : Sat w0 W (AMapF m F :: l)) (k : Int) (v : Value) :
    ∃ w', (Instr.mapUpdate 131 (.map (some m)) (.int .i64 k) v).run Try.prog W = .ok () w' ∧ Sat w0 w' (AMapF m (put F k v) :: l) := by
  have hb0 := h.toBelow
  have hsz := h.size
  obtain ⟨D, ⟨⟨es, c, h1, h2⟩, hDm⟩, hD, _, hcl⟩ := h.open_
  obtain ⟨w', es', c', hrun, hm', he', hg, _⟩ := update_run (P := Try.prog) intKeys Try.underlying131 Try.underlying3 h1 F (fun _ _ => trivial) h2 k trivial v
  exact ⟨w', hrun, hcl w' (AMapF m (put F k v)) D (hb0.grown hg hsz (fun j hj => by injection hj with hj; subst hj; exact (hD _ hDm).1)) (Kept.of_grown hg (Kept.refl W D) (fun j hj => by injection hj with hj; subst hj; exact .inl hDm)) ⟨⟨es', c', hm', he'⟩, hDm⟩ (fun _ hj => .inl hj)⟩
theorem mapF_del {w0 W : World} {l : List Asn} {m : Nat} {F : List (Int × Value)} (h : Sat w0 W (AMapF m F :: l)) (k : Int) (ty : TypeId) :
    ∃ w', (Builtin.delete_ #[131, 3] ty #[.map (some m), .int .i64 k]).run Try.prog W = .ok (.tuple #[]) w' ∧ Sat w0 w' (AMapF m (del F k) :: l) := by
  have hb0 := h.toBelow
  have hsz := h.size
  obtain ⟨D, ⟨⟨es, c, h1, h2⟩, hDm⟩, hD, _, hcl⟩ := h.open_
  obtain ⟨w', es', c', hrun, hm', he', hg, _⟩ := delete_run (P := Try.prog) intKeys Try.underlying131 Try.underlying3 h1 F (fun _ _ => trivial) h2 k trivial ty
  exact ⟨w', hrun, hcl w' (AMapF m (del F k)) D (hb0.grown hg hsz (fun j hj => by injection hj with hj; subst hj; exact (hD _ hDm).1)) (Kept.of_grown hg (Kept.refl W D) (fun j hj => by injection hj with hj; subst hj; exact .inl hDm)) ⟨⟨es', c', hm', he'⟩, hDm⟩ (fun _ hj => .inl hj)⟩
set_option maxRecDepth 100000 in
theorem tells_base {v : Int} {b : Nat} {w : World} {zs : List S82} (h0 : w.cell? ⟨b, 0, none⟩ = some (.int .i64 v)) : Tells1 73 (.pointer (some ⟨b, 0, none⟩)) (fun z => z.f0 == v) zs w := by
  refine ⟨enters_of Try.func73 (by kernel_rfl) rfl, fun y A4 c4 A5 c5 W _ hb => ?_⟩
  have k0 := pw_cell_below (below_alloc hb (.cells #[.int .i64 y.f0, .int .i64 y.f1, .int .i64 y.f2, .int .i64 y.f3, .slice A4 y.f4.length c4, .slice A5 y.f5.length c5] 75)) h0
  have hu75 := Try.underlying75
  go_enter Try.func73, Try.ntmps73
  go_wp2
  go_ret
  exact ⟨by first | rfl | simp | (congr 2), below_alloc (Below.refl _ _) _⟩
set_option maxHeartbeats 2000000 in
set_option maxRecDepth 100000 in
theorem Remove_no {z m : Nat} {zs : List S82} {w : World} (h : ZR z m zs w) (b : Int) (hno : ∀ y ∈ zs, y.f0 ≠ b) :
    Calls Try.prog 37 #[.pointer (some ⟨z, 0, none⟩), .int .i64 b] w fun e w' => e = .returned (.bool false) ∧ Below w.heap.size w w' := by
  have H := Aside0.mk h
  have e1 : idxP (fun z : S82 => z.f0 == b) zs = -1 := by
    rcases idxP_spec (fun z : S82 => z.f0 == b) zs with h | ⟨l1, x, l2, e, _, hx, _⟩
    · exact h.1
    · exact absurd (by simpa using hx) (hno x (by rw [e]; simp))
  obtain ⟨W, hWe⟩ : ∃ W, w.alloc (.cells #[.int .i64 b] 3) = W := ⟨_, rfl⟩
  have hW := Aside0.mk (show Sat w W [ABlk w.heap.size (.cells #[.int .i64 b] 3 (0, 0))] from by rw [← hWe]; exact blk_new (Sat.start w) _)
  obtain ⟨A, c, hz, hC⟩ := (H.out.below hW.out.toBelow).row
  have x0 : W.cell? ⟨z, 0, none⟩ = some (.slice A zs.length c) := get_cell hz 0
  have x1 : W.cell? ⟨w.heap.size, 0, none⟩ = some (.int .i64 b) := get_cell (blk_at hW.out) 0
  have hq := Index1_calls 73 _ _ A c zs W hC H.out.few (tells_base x1)
  rw [e1] at hq
  have HQ := Aside0.mk hq
  clear hq hz hC h hno e1
  go_enter Try.func37, Try.ntmps37
  go_upto_region 1 with fail
  try rw [hWe]
  clear hWe
  go_wp2_with fail
  (with_reducible refine HQ.out.mono ?_)
  rintro e2 w2 ⟨rfl, hb2⟩
  have HB2 := Aside0.mk (hW.out.below hb2)
  clear hb2
  go_wp2_with fail
  go_ret
  exact ⟨by rfl, HB2.out.toBelow⟩
end Go.Proofs.Ytkeijpngfnmjoaa.MineZone
end
section
namespace Go.Proofs.Ytkeijpngfnmjoaa.MineZone
open Go.Lib Go.Shelf Go.RowKit Go.MapKept Go.Proofs.YtkeijpngfnmjoaaW.PrintWords Go.Proofs.YtkeijpngfnmjoaaW.PrintLast Go.Proofs.YtkeijpngfnmjoaaW.PrintMore Go.Proofs.Ytkeijpngfnmjoaa.MineBase Go.Proofs.Ytkeijpngfnmjoaa.MineSep Go.Proofs.Ytkeijpngfnmjoaa.MineRows Go.Proofs.Ytkeijpngfnmjoaa.MineGen Go.Proofs.Ytkeijpngfnmjoaa.QZonePlays Go.Proofs.Ytkeijpngfnmjoaa.MineMap
attribute [local go_sem ↓] Go.wp_at_zero Go.wp_at_succ
set_option linter.unusedVariables false
set_option linter.unusedSimpArgs false
theorem info75 : (Try.prog.info? 75).map (fun i => (i.zero, i.size, i.bytes)) = some (some (.agg #[(.int .i64 0), (.int .i64 0), (.int .i64 0), (.int .i64 0), (.slice none 0 0), (.slice none 0 0)]), 6, 80) := by kernel_rfl
theorem fresh_R {w : World} {b : Nat} {ok : Nat → Prop} {v : Value} {xs : List Int} (h : Kd.R (Kd.int .i64) 3 w b ok v xs) : Kd.R (Kd.int .i64) 3 w b (fun k => b ≤ k) v xs := by
  obtain ⟨_, inner, hown, hrep⟩ := h
  exact ⟨fun k hk => own_base hown k hk, inner, hown, hrep⟩
theorem grown_then {a w w' : World} {row : Option Nat} (h : a.grownBy w row) (k : w.grownBy w' row) : a.grownBy w' row :=
  ⟨k.os.trans h.os, k.tape.trans h.tape, k.output.trans h.output, Nat.le_trans h.size k.size, fun i hi hne => (k.block i (Nat.lt_of_lt_of_le hi h.size) hne).trans (h.block i hi hne)⟩
/-- A row, laid open for an append. -/
theorem row_open {w0 w : World} {l : List Asn} {base : Nat} {v : Value} {zs : List S82} (h : Sat w0 w (ARowN k82 75 base v zs :: l)) : ∃ D : Nat → Prop, Kd.N k82 75 w base D v zs ∧ (∀ k, D k → w0.heap.size ≤ k ∧ k < w.heap.size) ∧
    (∀ (w1 : World) (v1 : Value) (zs1 : List S82), w.grownBy w1 v.ownBlock → Kd.N k82 75 w1 base (fun k => D k ∨ w.heap.size ≤ k) v1 zs1 → Sat w0 w1 (ARowN k82 75 base v1 zs1 :: l)) := by
  have hb0 := h.toBelow
  have hsz := h.size
  obtain ⟨D, hP, hD, _, hcl⟩ := h.open_
  refine ⟨D, hP, hD, fun w1 v1 zs1 hg hN => hcl w1 (ARowN k82 75 base v1 zs1) (fun k => D k ∨ w.heap.size ≤ k) (hb0.grown hg hsz (fun j hj => (hD _ (hP.1 j hj)).1)) (Kept.of_grown hg (Kept.refl w D) (fun j hj => .inl (hP.1 j hj))) hN (fun _ hj => hj)⟩
theorem clone_f (l : List Int) (h : l.length ≤ 1000) : QZonePlays.slices_Clone_int_int.f l = some l := by
  unfold QZonePlays.slices_Clone_int_int.f
  rw [Option.bind_some, if_pos (by simp; omega), List.nil_append]
theorem own_f (x : S82) (h4 : x.f4.length ≤ 1000) (h5 : x.f5.length ≤ 1000) : QZonePlays.zone_own.f x.f0 x.f1 x.f2 x.f3 x.f4 x.f5 = some (x.f0, x.f1, x.f2, x.f3, x.f4, x.f5) := by
  unfold QZonePlays.zone_own.f
  rw [clone_f _ h4, Option.bind_some, clone_f _ h5, Option.bind_some]
theorem info75s : (Try.prog.info? 75).map (·.size) = some k82.sz := by kernel_rfl
theorem zero75 (w : World) : (zeroValue 75).run Try.prog w = .ok (.agg #[(.int .i64 0), (.int .i64 0), (.int .i64 0), (.int .i64 0), (.slice none 0 0), (.slice none 0 0)]) w := by kernel_rfl
theorem one75 : ∀ v ∈ (Value.agg #[(.int .i64 0), (.int .i64 0), (.int .i64 0), (.int .i64 0), (.slice none 0 0), (.slice none 0 0)]).cells.toList, v.oneCell' = true := by
  have h : (#[(.int .i64 0), (.int .i64 0), (.int .i64 0), (.int .i64 0), (.slice none 0 0), (.slice none 0 0)] : Array Value).all (·.oneCell') = true := by simp [Value.oneCell']
  exact fun v hv => Array.all_eq_true_iff_forall_mem.1 h v (Array.mem_toList_iff.1 hv)
theorem grown2 {w w1 w2 : World} {row : Option Nat} (h1 : w.grownBy w1 row) (h2 : w1.grownBy w2 row) : w.grownBy w2 row := by
  obtain ⟨a1, a2, a3, a4, a5⟩ := h1
  obtain ⟨b1, b2, b3, b4, b5⟩ := h2
  exact ⟨b1.trans a1, b2.trans a2, b3.trans a3, Nat.le_trans a4 b4, fun i hi hne => (b5 i (Nat.lt_of_lt_of_le hi a4) hne).trans (a5 i hi hne)⟩
theorem drew_grown {w w1 : World} {row : Option Nat} (h : w.drew.grownBy w1 row) : w.grownBy w1 row := by
  obtain ⟨a1, a2, a3, a4, a5⟩ := h
  exact ⟨a1, a2, a3, a4, a5⟩
end Go.Proofs.Ytkeijpngfnmjoaa.MineZone
end
section
namespace Go.Proofs.Ytkeijpngfnmjoaa.MineZone
open Go.Lib Go.Shelf Go.RowKit Go.MapKept Go.Proofs.YtkeijpngfnmjoaaW.PrintWords Go.Proofs.YtkeijpngfnmjoaaW.PrintLast Go.Proofs.YtkeijpngfnmjoaaW.PrintMore Go.Proofs.Ytkeijpngfnmjoaa.MineBase Go.Proofs.Ytkeijpngfnmjoaa.MineSep Go.Proofs.Ytkeijpngfnmjoaa.MineRows Go.Proofs.Ytkeijpngfnmjoaa.MineGen Go.Proofs.Ytkeijpngfnmjoaa.QZonePlays Go.Proofs.Ytkeijpngfnmjoaa.MineMap
attribute [local go_sem ↓] Go.wp_at_zero Go.wp_at_succ
set_option linter.unusedVariables false
set_option linter.unusedSimpArgs false
set_option maxHeartbeats 4000000 in
set_option maxRecDepth 100000 in
theorem Add_yes {w0 w : World} {l : List Asn} {z m : Nat} {v : Value} {zs : List S82} {F : List (Int × Value)} (h : Sat w0 w (ABlk z (.cells #[v, .map (some m)] 133 (0, 0)) :: ARowN k82 75 w0.heap.size v zs :: AMapF m F :: l)) (hfew : zs.length ≤ 900) (x : S82) (A4 : Option Addr) (c4 : Nat) (A5 : Option Addr) (c5 : Nat)
    (h4 : ∀ W L, Sat w0 W (L ++ l) → (Kd.int .i64).C W A4 x.f4.length x.f4) (h5 : ∀ W L, Sat w0 W (L ++ l) → (Kd.int .i64).C W A5 x.f5.length x.f5) (hc4 : x.f4.length ≤ c4) (hc5 : x.f5.length ≤ c5) (hn4 : x.f4.length ≤ 100) (hn5 : x.f5.length ≤ 100)
    (ho : Ok x) (hcl : zs.any (clash x) = false) (hI : Inv zs) :
    Calls Try.prog 40 #[.pointer (some ⟨z, 0, none⟩), .agg #[.int .i64 x.f0, .int .i64 x.f1, .int .i64 x.f2, .int .i64 x.f3, .slice A4 x.f4.length c4, .slice A5 x.f5.length c5]] w fun e w' => e = .returned .nilIface ∧ ∃ v', Sat w0 w' (ABlk z (.cells #[v', .map (some m)] 133 (0, 0)) :: ARowN k82 75 w0.heap.size v' (addZ zs x) :: AMapF m (putAll (putAll F (.int .i64 1) x.f4) (.int .i64 2) x.f5) :: l) := by
  have H := Aside0.mk h
  have H4 := Aside0.mk h4
  have H5 := Aside0.mk h5
  have HC4 := Aside0.mk hc4
  have HC5 := Aside0.mk hc5
  have HI := Aside0.mk hI
  have HO := Aside0.mk ho
  have HF := Aside0.mk hfew
  have HCL := Aside0.mk hcl
  have HN4 := Aside0.mk hn4
  have HN5 := Aside0.mk hn5
  obtain ⟨W, hWe⟩ : ∃ W, w.alloc (.cells #[.int .i64 x.f0, .int .i64 x.f1, .int .i64 x.f2, .int .i64 x.f3, .slice A4 x.f4.length c4, .slice A5 x.f5.length c5] 75) = W := ⟨_, rfl⟩
  have hW := Aside0.mk (show Sat w0 W (ABlk w.heap.size (.cells #[.int .i64 x.f0, .int .i64 x.f1, .int .i64 x.f2, .int .i64 x.f3, .slice A4 x.f4.length c4, .slice A5 x.f5.length c5] 75 (0, 0)) :: ABlk z (.cells #[v, .map (some m)] 133 (0, 0)) :: ARowN k82 75 w0.heap.size v zs :: AMapF m F :: l) from by rw [← hWe]; exact blk_new h _)
  have HM := Aside0.mk (may_calls x A4 c4 A5 c5 W (h4 W [_, _, _, _] hW.out) (h5 W [_, _, _, _] hW.out) hn4 hn5 true (by simp [ho]))
  obtain ⟨b, hb⟩ : ∃ b, w.heap.size = b := ⟨_, rfl⟩
  rw [hb] at hW
  have y0 : W.cell? ⟨b, 0, none⟩ = some (.int .i64 x.f0) := get_cell (blk_at hW.out) 0
  have y1 : W.cell? ⟨b, 1, none⟩ = some (.int .i64 x.f1) := get_cell (blk_at hW.out) 1
  have y2 : W.cell? ⟨b, 2, none⟩ = some (.int .i64 x.f2) := get_cell (blk_at hW.out) 2
  have y3 : W.cell? ⟨b, 3, none⟩ = some (.int .i64 x.f3) := get_cell (blk_at hW.out) 3
  have y4 : W.cell? ⟨b, 4, none⟩ = some (.slice A4 x.f4.length c4) := get_cell (blk_at hW.out) 4
  have y5 : W.cell? ⟨b, 5, none⟩ = some (.slice A5 x.f5.length c5) := get_cell (blk_at hW.out) 5
  have hu75 := Try.underlying75
  clear h h4 h5 hc4 hc5 hn4 hn5 ho hcl hI hfew
  go_enter Try.func40, Try.ntmps40
  go_upto_region 1 with fail
  try rw [hWe]
  clear hWe
  try rw [hb]
  clear hb
  go_wp2_with fail
  (with_reducible refine HM.out.mono ?_)
  rintro e1 w1 ⟨rfl, hb1⟩
  have HB1 := Aside0.mk (hW.out.below hb1)
  clear hb1 y0 y1 y2 y3 y4 y5
  obtain ⟨_, hN1, _⟩ := HB1.out.drop.drop.head
  obtain ⟨A, c, hv, _, hC⟩ := Kd.N_reads hN1
  have hz := blk_at HB1.out.drop
  rw [hv] at hz
  have x0 : w1.cell? ⟨z, 0, none⟩ = some (.slice A zs.length c) := get_cell hz 0
  have y0 : w1.cell? ⟨b, 0, none⟩ = some (.int .i64 x.f0) := get_cell (blk_at HB1.out) 0
  have y3 : w1.cell? ⟨b, 3, none⟩ = some (.int .i64 x.f3) := get_cell (blk_at HB1.out) 3
  have hq := Contains1_calls 79 _ _ A c zs w1 hC (by have := HF.out; omega) (tells_clash y0 y3)
  rw [HCL.out] at hq
  have HQ := Aside0.mk hq
  have HV := Aside0.mk hv
  clear hq hz hC y0 y3 hN1
  go_wp2_with fail
  (with_reducible refine HQ.out.mono ?_)
  rintro e2 w2 ⟨rfl, hb2⟩
  have HB2 := Aside0.mk (HB1.out.below hb2)
  clear hb2 HQ HM hW HB1 x0
  have hz := blk_at HB2.out.drop
  rw [HV.out] at hz
  have x0 : w2.cell? ⟨z, 0, none⟩ = some (.slice A zs.length c) := get_cell hz 0
  have y0 : w2.cell? ⟨b, 0, none⟩ = some (.int .i64 x.f0) := get_cell (blk_at HB2.out) 0
  have y1 : w2.cell? ⟨b, 1, none⟩ = some (.int .i64 x.f1) := get_cell (blk_at HB2.out) 1
  have y2 : w2.cell? ⟨b, 2, none⟩ = some (.int .i64 x.f2) := get_cell (blk_at HB2.out) 2
  have y3 : w2.cell? ⟨b, 3, none⟩ = some (.int .i64 x.f3) := get_cell (blk_at HB2.out) 3
  have y4 : w2.cell? ⟨b, 4, none⟩ = some (.slice A4 x.f4.length c4) := get_cell (blk_at HB2.out) 4
  have y5 : w2.cell? ⟨b, 5, none⟩ = some (.slice A5 x.f5.length c5) := get_cell (blk_at HB2.out) 5
  have ew : QZonePlays.zone_own.f x.f0 x.f1 x.f2 x.f3 x.f4 x.f5 = some (x.f0, x.f1, x.f2, x.f3, x.f4, x.f5) := own_f x (by have := HN4.out; omega) (by have := HN5.out; omega)
  have HOWN := Aside0.mk (QZonePlays.zone_own.calls x.f0 x.f1 x.f2 x.f3 A4 c4 x.f4 A5 c5 x.f5 _ _ _ _ _ _ w2.drew (H4.out _ [_, _, _, _] HB2.out.drew) HC4.out (H5.out _ [_, _, _, _] HB2.out.drew) HC5.out ew)
  go_wp2_with fail
  have hS3 := HB2.out.drew.third
  rw [HV.out] at hS3
  obtain ⟨D, hN0, hD0, hcl0⟩ := row_open hS3
  have HN0 := Aside0.mk hN0
  have HD0 := Aside0.mk hD0
  have HCL0 := Aside0.mk hcl0
  clear hN0 hD0 hcl0 hS3
  go_region_law (first
    | (go_simp; go_at_call 80; refine HOWN.out.mono ?_; rintro e3 w3 ⟨v4, v5, rfl, hR4, hR5, hb3⟩; have HBB := Aside0.mk hb3; have HB3 := Aside0.mk (HB2.out.drew.below hb3); have HR4 := Aside0.mk hR4; have HR5 := Aside0.mk hR5; clear hR4 hR5 hb3; have x03 : w3.cell? ⟨z, 0, none⟩ = some (.slice A zs.length c) := (by have hz := blk_at HB3.out.drop; rw [HV.out] at hz; exact get_cell hz 0); have x03b : (w3.alloc (.cells #[.int .i64 x.f0, .int .i64 x.f1, .int .i64 x.f2, .int .i64 x.f3, v4, v5] 75)).cell? ⟨z, 0, none⟩ = some (.slice A zs.length c) := pw_cell_below (below_alloc (Below.refl _ _) _) x03)
    | (refine Kd.N_append_step k82 (w0 := w0) (W := w3) w0.heap.size (by rfl) (.tmp 25) (.tmp 28) 90 75 _ 80 rfl Try.underlying90 info75 rfl (by decide) (by decide) (.slice A zs.length c) zs x [.int .i64 x.f0, .int .i64 x.f1, .int .i64 x.f2, .int .i64 x.f3, v4, v5] (fun k => D k ∨ w2.drew.heap.size ≤ k) (fun k => w2.drew.heap.size ≤ k) rfl rfl (Kd.FK_of_M (k82_mkM _ _ _ x (fresh_R HR4.out) (fresh_R HR5.out))) (fun k hk => ⟨.inr hk, fun e => by have h1 := (HD0.out k (HN0.out.1 k e.symm)).2; omega⟩) (fun k hk => .inr (Nat.le_trans HBB.out.size hk)) (Kd.N_mono (Kd.N_below HN0.out HBB.out) (fun _ h => .inl h)) HB3.out.toBelow HB3.out.size (by have := HF.out; omega) ?_; intro v1 w4 hN1 hB1 hg1 _; obtain ⟨A1, c1, rfl⟩ := Kd.N_slice hN1; rw [show (zs ++ [x]).length = zs.length + 1 from by simp] at hN1; have HS4 := Aside0.mk (show Sat w0 w4 (ARowN k82 75 w0.heap.size (.slice A1 (zs.length + 1) c1) (zs ++ [x]) :: ABlk b (.cells #[.int .i64 x.f0, .int .i64 x.f1, .int .i64 x.f2, .int .i64 x.f3, .slice A4 x.f4.length c4, .slice A5 x.f5.length c5] 75 (0, 0)) :: ABlk z (.cells #[.slice A zs.length c, .map (some m)] 133 (0, 0)) :: AMapF m F :: l) from HCL0.out w4 _ (zs ++ [x]) (grown_then (grown_of_below HBB.out _) hg1) hN1); have hz4 := blk_at HS4.out.drop.drop; have x04 : w4.cell? ⟨z, 0, none⟩ = some (.slice A zs.length c) := get_cell hz4 0; have f04 : w4.frozen? ⟨z, 0, none⟩ = false := get_frozen hz4 0; clear hN1 hB1 hg1 hz4)
    | (trace_state; fail))
  all_goals (
    have HS5 := Aside0.mk (show Sat w0 (w4.setCell ⟨z, 0, none⟩ (.slice A1 (zs.length + 1) c1)) (ABlk z (.cells #[.slice A1 (zs.length + 1) c1, .map (some m)] 133 (0, 0)) :: ARowN k82 75 w0.heap.size (.slice A1 (zs.length + 1) c1) (zs ++ [x]) :: ABlk b (.cells #[.int .i64 x.f0, .int .i64 x.f1, .int .i64 x.f2, .int .i64 x.f3, .slice A4 x.f4.length c4, .slice A5 x.f5.length c5] 75 (0, 0)) :: AMapF m F :: l) from blk_put HS4.out.third 0 _)
    clear HS4 x04 f04
    generalize w4.setCell ⟨z, 0, none⟩ (.slice A1 (zs.length + 1) c1) = w5 at HS5 ⊢
    have hS5 := HS5.out
    clear HS5 HB3 HBB HR4 HR5 HB2 HN0 HD0 HCL0 HOWN x0 x03 y0 y1 y2 y3 y4 y5
    have HS5 := Aside0.mk hS5
    have x0 : w5.cell? ⟨z, 0, none⟩ = some (.slice A1 (zs.length + 1) c1) := get_cell (blk_at HS5.out) 0
    have HQ := Aside0.mk (SortZ_calls HS5.out.swap (by simp) (by have := HF.out; rw [List.length_append, List.length_singleton]; omega))
    clear hS5
    go_wp2_with fail
    (with_reducible refine HQ.out.mono ?_)
    rintro e6 w6 ⟨rfl, zs', hp6, ho6, hS6⟩
    have e7 : zs' = addZ zs x := addZ_unique (inv_add HI.out HO.out (fun y hy => by
      cases hq : clash x y with
      | false => rfl
      | true => exact absurd (List.any_eq_true.2 ⟨y, hy, hq⟩) (by rw [HCL.out]; decide))) hp6 ho6
    subst e7
    have HS4 := Aside0.mk (show Sat w0 w6 (AMapF m F :: ARowN k82 75 w0.heap.size (.slice A1 (zs.length + 1) c1) (addZ zs x) :: ABlk z (.cells #[.slice A1 (zs.length + 1) c1, .map (some m)] 133 (0, 0)) :: ABlk b (.cells #[.int .i64 x.f0, .int .i64 x.f1, .int .i64 x.f2, .int .i64 x.f3, .slice A4 x.f4.length c4, .slice A5 x.f5.length c5] 75 (0, 0)) :: l) from Sat.pull (l1 := [_, _, _]) hS6)
    clear hS6 hp6 ho6 HQ HS5 x0
    have y4 : w6.cell? ⟨b, 4, none⟩ = some (.slice A4 x.f4.length c4) := get_cell (blk_at HS4.out.drop.drop.drop) 4
    go_wp2_with fail
    go_loopg [40] (x.f4.length + 1) (fun kq v40 w' => ∃ (i : Nat) (G : List (Int × Value)), v40 = .int .i64 i ∧ Aside0 (i ≤ x.f4.length ∧ x.f4.length - i < kq) ∧ Aside0 (putAll G (.int .i64 1) (x.f4.drop i) = putAll F (.int .i64 1) x.f4) ∧ Aside0 (Sat w0 w' (AMapF m G :: ARowN k82 75 w0.heap.size (.slice A1 (zs.length + 1) c1) (addZ zs x) :: ABlk z (.cells #[.slice A1 (zs.length + 1) c1, .map (some m)] 133 (0, 0)) :: ABlk b (.cells #[.int .i64 x.f0, .int .i64 x.f1, .int .i64 x.f2, .int .i64 x.f3, .slice A4 x.f4.length c4, .slice A5 x.f5.length c5] 75 (0, 0)) :: l)))
    case atStart => exact ⟨0, F, rfl, ⟨by omega⟩, ⟨by rw [List.drop_zero]⟩, HS4⟩
    case round =>
      clear HS4 y4
      obtain ⟨i, G, rfl, Hi, HE, HS⟩ := hrel
      obtain ⟨wo, rfl⟩ : ∃ y, y = wr := ⟨wr, rfl⟩
      by_cases hlt : i < x.f4.length
      · obtain ⟨n, hn⟩ : ∃ n, x.f4[i]? = some n := ⟨_, List.getElem?_eq_getElem hlt⟩
        have hC := H4.out wo [_, _, _, _] HS.out
        obtain ⟨ad, eA, y0⟩ := Kd.at_int hC (i : Int) (by omega) (by omega)
        have ev : rd x.f4 (i : Int) = n := by
          have := (List.getElem?_eq_some_iff.1 hn).2
          simp [rd, hlt, this]
        rw [ev] at y0
        simp only [Int.toNat_natCast] at y0
        subst eA
        have HN := Aside0.mk hn
        have p1 : (i < x.f4.length) = True := eq_true hlt
        have d0 : decide ((i : Int) < (x.f4.length : Int)) = true := decide_eq_true (by omega)
        have p9 : (i : Int) ≤ 1000 := by have := HN4.out; omega
        have p8 : 0 ≤ (i : Int) := by omega
        have z1 : wo.cell? ⟨z, 1, none⟩ = some (.map (some m)) := get_cell (blk_at HS.out.drop.drop) 1
        obtain ⟨w9, hput, hS9⟩ := mapF_put HS.out n (.int .i64 1)
        have HS9 := Aside0.mk hS9
        clear hS9 hlt hn hC ev
        go_wp2_with fail
        go_roundg (gk - 1)
        case measure => have := Hi.out; have := of_eq_true p1; omega
        case rel => exact ⟨i + 1, _, by go_num, ⟨by have := Hi.out; have := of_eq_true p1; omega⟩, ⟨by
          rw [← HE.out, List.drop_eq_getElem_cons (of_eq_true p1), (List.getElem?_eq_some_iff.1 HN.out).2, putAll]⟩, HS9⟩
      · have p1 : (i < x.f4.length) = False := eq_false hlt
        have d0 : decide ((i : Int) < (x.f4.length : Int)) = false := decide_eq_false (by omega)
        have HG := Aside0.mk (show G = putAll F (.int .i64 1) x.f4 from by
          have h := HE.out
          rw [List.drop_eq_nil_of_le (by omega), putAll] at h
          exact h)
        have eG := HG.out
        subst eG
        clear hlt HE
        have HS5 := HS
        have y5 : wo.cell? ⟨b, 5, none⟩ = some (.slice A5 x.f5.length c5) := get_cell (blk_at HS5.out.drop.drop.drop) 5
        go_wp2_with fail
        go_loopg [53] (x.f5.length + 1) (fun kq v53 w' => ∃ (i : Nat) (G : List (Int × Value)), v53 = .int .i64 i ∧ Aside0 (i ≤ x.f5.length ∧ x.f5.length - i < kq) ∧ Aside0 (putAll G (.int .i64 2) (x.f5.drop i) = putAll (putAll F (.int .i64 1) x.f4) (.int .i64 2) x.f5) ∧ Aside0 (Sat w0 w' (AMapF m G :: ARowN k82 75 w0.heap.size (.slice A1 (zs.length + 1) c1) (addZ zs x) :: ABlk z (.cells #[.slice A1 (zs.length + 1) c1, .map (some m)] 133 (0, 0)) :: ABlk b (.cells #[.int .i64 x.f0, .int .i64 x.f1, .int .i64 x.f2, .int .i64 x.f3, .slice A4 x.f4.length c4, .slice A5 x.f5.length c5] 75 (0, 0)) :: l)))
        case atStart => exact ⟨0, (putAll F (.int .i64 1) x.f4), rfl, ⟨by omega⟩, ⟨by rw [List.drop_zero]⟩, HS5⟩
        case round =>
          clear HS5 y5
          obtain ⟨i, G, rfl, Hi, HE, HS⟩ := hrel
          obtain ⟨wo, rfl⟩ : ∃ y, y = wr := ⟨wr, rfl⟩
          by_cases hlt : i < x.f5.length
          · obtain ⟨n, hn⟩ : ∃ n, x.f5[i]? = some n := ⟨_, List.getElem?_eq_getElem hlt⟩
            have hC := H5.out wo [_, _, _, _] HS.out
            obtain ⟨ad, eA, y0⟩ := Kd.at_int hC (i : Int) (by omega) (by omega)
            have ev : rd x.f5 (i : Int) = n := by
              have := (List.getElem?_eq_some_iff.1 hn).2
              simp [rd, hlt, this]
            rw [ev] at y0
            simp only [Int.toNat_natCast] at y0
            subst eA
            have HN := Aside0.mk hn
            have p1 : (i < x.f5.length) = True := eq_true hlt
            have d0 : decide ((i : Int) < (x.f5.length : Int)) = true := decide_eq_true (by omega)
            have p9 : (i : Int) ≤ 1000 := by have := HN5.out; omega
            have p8 : 0 ≤ (i : Int) := by omega
            have z1 : wo.cell? ⟨z, 1, none⟩ = some (.map (some m)) := get_cell (blk_at HS.out.drop.drop) 1
            obtain ⟨w9, hput, hS9⟩ := mapF_put HS.out n (.int .i64 2)
            have HS9 := Aside0.mk hS9
            clear hS9 hlt hn hC ev
            go_wp2_with fail
            go_roundg (gk - 1)
            case measure => have := Hi.out; have := of_eq_true p1; omega
            case rel => exact ⟨i + 1, _, by go_num, ⟨by have := Hi.out; have := of_eq_true p1; omega⟩, ⟨by
              rw [← HE.out, List.drop_eq_getElem_cons (of_eq_true p1), (List.getElem?_eq_some_iff.1 HN.out).2, putAll]⟩, HS9⟩
          · have p1 : (i < x.f5.length) = False := eq_false hlt
            have d0 : decide ((i : Int) < (x.f5.length : Int)) = false := decide_eq_false (by omega)
            have HG := Aside0.mk (show G = putAll (putAll F (.int .i64 1) x.f4) (.int .i64 2) x.f5 from by
              have h := HE.out
              rw [List.drop_eq_nil_of_le (by omega), putAll] at h
              exact h)
            have eG := HG.out
            subst eG
            clear hlt HE
            go_wp2_with fail
            go_ret
            exact ⟨by rfl, _, ((Sat.pull (l1 := [_, _, _]) HS.out).drop.third).under (fun h => h.swap)⟩)
end Go.Proofs.Ytkeijpngfnmjoaa.MineZone
end
section
namespace Go.Proofs.Ytkeijpngfnmjoaa.MineZone
open Go.Lib Go.Shelf Go.RowKit Go.MapKept Go.Proofs.YtkeijpngfnmjoaaW.PrintWords Go.Proofs.YtkeijpngfnmjoaaW.PrintLast Go.Proofs.YtkeijpngfnmjoaaW.PrintMore Go.Proofs.Ytkeijpngfnmjoaa.MineBase Go.Proofs.Ytkeijpngfnmjoaa.MineSep Go.Proofs.Ytkeijpngfnmjoaa.MineRows Go.Proofs.Ytkeijpngfnmjoaa.MineGen Go.Proofs.Ytkeijpngfnmjoaa.QZonePlays Go.Proofs.Ytkeijpngfnmjoaa.MineMap
attribute [local go_sem ↓] Go.wp_at_zero Go.wp_at_succ
set_option linter.unusedVariables false
set_option linter.unusedSimpArgs false
set_option maxHeartbeats 1000000 in
set_option maxRecDepth 100000 in
theorem Delete_calls {base g2 n c k : Nat} {ok : Nat → Prop} {ms : List S82} {w : World} (HO : Kd.N k82 75 w base ok (.slice (some ⟨g2, 0, none⟩) n c) ms) (hk : k < n) (hn : n ≤ 1000) (hb : base ≤ w.heap.size) :
    Calls Try.prog 75 #[.slice (some ⟨g2, 0, none⟩) n c, .int .i64 k, .int .i64 (k + 1)] w fun e w' => e = .returned (.slice (some ⟨g2, 0, none⟩) (n - 1 : Nat) c) ∧ Kd.N k82 75 w' base ok (.slice (some ⟨g2, 0, none⟩) (n - 1) c) (ms.eraseIdx k) ∧ w.grownBy w' (some g2) := by
  obtain ⟨n', rfl⟩ : ∃ n', n = n' + 1 := ⟨n - 1, by omega⟩
  obtain ⟨hl, hc, hC⟩ := Kd.N_reads' HO
  clear hC
  replace HO := Aside0.mk HO
  have HL := Aside0.mk hl
  have HB := Aside0.mk hb
  have HK := Aside0.mk hk
  have HN := Aside0.mk hc
  have p1 : (k : Int) < (n' + 1 : Nat) := by omega
  have p2 : (k : Int) + 1 ≤ (n' + 1 : Nat) := by omega
  have p3 : n' + 1 ≤ c := hc
  have p4 : ((n' + 1 : Nat) : Int) ≤ 1000 := by omega
  have p5 : 0 ≤ (k : Int) := by omega
  have p6 : (k ≤ c) = True := eq_true (by omega)
  have p7 : 0 ≤ (k : Int) + 1 := by omega
  have q1 : (k : Int) < n' + 1 := by omega
  have q2 : (k : Int) ≤ n' := by omega
  have q3 : (n' : Int) + 1 ≤ 1000 := by omega
  have q4 : ¬ (c = n') := by omega
  have q5 : (n' : Int) + 1 ≤ c := by omega
  clear hl hb hk hc hn
  go_enter Try.func75, Try.ntmps75
  go_wp2_with fail
  go_region_law ((refine Kd.N_delete_step k82 (w0 := w.drew) base (by rfl) (.tmp 22) (.tmp 25) 90 75 rfl Try.underlying90 info75s (g := g2) (n := n' + 1) (c := c) (k := k) (xs := ms) (ok := ok) rfl rfl (by simp [show k82.sz = 6 from rfl, Addr.add]) (by omega) (Kd.N_drew HO.out) HK.out (Below.refl _ _) HB.out (fun w1 hN hB hG => ?_)); have HN1 := Aside0.mk hN; have HG1 := Aside0.mk hG; clear hN hB hG)
  obtain ⟨w2, hrun, hN2, hG2⟩ := clear_tail (P := Try.prog) (m := 1) (t := 90) (ty := 0) (show Kd.N k82 75 w1 base ok (.slice (some ⟨g2, 0, none⟩) n' c) (ms.eraseIdx k) from HN1.out) (by decide) (by have := HN.out; omega) (by decide) Try.underlying90 zero75 (by rfl) one75 (c - n')
  have HN2 := Aside0.mk hN2
  have HG2 := Aside0.mk hG2
  clear hN2 hG2
  replace hrun : (Builtin.clear_ #[90] 0 #[.slice (some ⟨g2, n' * 6, none⟩) 1 (c - n')]).run Try.prog w1 = .ok (.tuple #[]) w2 := hrun
  go_wp2_with fail
  all_goals (
    try (subst h)
    go_ret
    exact ⟨by rfl, HN2.out, grown2 (drew_grown HG1.out) HG2.out⟩)
set_option maxHeartbeats 4000000 in
set_option maxRecDepth 100000 in
theorem Remove_at {w0 w : World} {l : List Asn} {z m k : Nat} {v : Value} {zs : List S82} {y : S82} {F : List (Int × Value)} (h : Sat w0 w (ABlk z (.cells #[v, .map (some m)] 133 (0, 0)) :: ARowN k82 75 w0.heap.size (v) (zs) :: AMapF m F :: l)) (hfew : zs.length ≤ 900) (hn4 : y.f4.length ≤ 100) (hn5 : y.f5.length ≤ 100)
    (hk : zs[k]? = some y) (hidx : idxP (fun x : S82 => x.f0 == y.f0) zs = k) :
    Calls Try.prog 37 #[.pointer (some ⟨z, 0, none⟩), .int .i64 y.f0] w fun e w' => e = .returned (.bool true) ∧ ∃ v', Sat w0 w' (ABlk z (.cells #[v', .map (some m)] 133 (0, 0)) :: ARowN k82 75 w0.heap.size (v') (zs.eraseIdx k) :: AMapF m (delAll F (y.f4 ++ y.f5)) :: l) := by
  obtain ⟨L, hL⟩ : ∃ L, y.f4 ++ y.f5 = L := ⟨_, rfl⟩
  rw [hL]
  have HF := Aside0.mk hfew
  have HN4 := Aside0.mk hn4
  have HN5 := Aside0.mk hn5
  have HK := Aside0.mk hk
  have hkl := (List.getElem?_eq_some_iff.1 hk).1
  have HKL := Aside0.mk hkl
  obtain ⟨W, hWe⟩ : ∃ W, w.alloc (.cells #[.int .i64 y.f0] 3) = W := ⟨_, rfl⟩
  have hW := Aside0.mk (show Sat w0 W (ABlk w.heap.size (.cells #[.int .i64 y.f0] 3 (0, 0)) :: ABlk z (.cells #[v, .map (some m)] 133 (0, 0)) :: ARowN k82 75 w0.heap.size (v) (zs) :: AMapF m F :: l) from by rw [← hWe]; exact blk_new h _)
  obtain ⟨b, hb⟩ : ∃ b, w.heap.size = b := ⟨_, rfl⟩
  rw [hb] at hW
  obtain ⟨_, hN1, _⟩ := hW.out.drop.drop.head
  obtain ⟨A, c, rfl, _, hC⟩ := Kd.N_reads hN1
  have x0 : W.cell? ⟨z, 0, none⟩ = some (.slice A zs.length c) := get_cell (blk_at hW.out.drop) 0
  have x1 : W.cell? ⟨b, 0, none⟩ = some (.int .i64 y.f0) := get_cell (blk_at hW.out) 0
  have hq := Index1_calls 73 _ _ A c zs W hC (by omega) (tells_base x1)
  rw [hidx] at hq
  have HQ := Aside0.mk hq
  have k0 : ((k : Int) < 0) = False := eq_false (by omega)
  have k1 : (k : Int) ≤ 1000 := by omega
  have k2 : 0 ≤ (k : Int) := by omega
  have k3 : (k : Int) < (zs.length : Int) := by omega
  have k4 : k < zs.length := hkl
  have k5 : ((k : Int) < 0) → False := by omega
  clear hq hC hN1 h hidx hfew hn4 hn5 hk hkl
  go_enter Try.func37, Try.ntmps37
  go_upto_region 1 with fail
  try rw [hWe]
  clear hWe
  try rw [hb]
  clear hb
  go_wp2_with fail
  (with_reducible refine HQ.out.mono ?_)
  rintro e2 w2 ⟨rfl, hb2⟩
  have HB2 := Aside0.mk (hW.out.below hb2)
  clear hb2 HQ hW x0 x1
  go_wp2_with fail
  obtain ⟨_, hN1, _⟩ := HB2.out.drop.drop.head
  obtain ⟨A', c', hv, _, hC⟩ := Kd.N_reads hN1
  injection hv with hv1 _ hv2
  subst hv1 hv2
  have x0 : w2.cell? ⟨z, 0, none⟩ = some (.slice A zs.length c) := get_cell (blk_at HB2.out.drop) 0
  obtain ⟨ad, A4, c4, A5, c5, eA, y0, y1, y2, y3, y4, y5, hl4, hC4, hl5, hC5⟩ := at_T82 hC (k : Int) (by omega) (by omega)
  have ev : rd_T82 zs (k : Int) = y := by
    have := (List.getElem?_eq_some_iff.1 HK.out).2
    simp [rd_T82, HKL.out, this]
  rw [ev] at y0 y1 y2 y3 y4 y5 hl4 hC4 hl5 hC5
  simp only [Int.toNat_natCast] at y0 y1 y2 y3 y4 y5
  subst eA
  clear ev hN1 hC y0 y1 y2 y3
  have HS3 := Aside0.mk (fun (w3 : World) (hb : Below w2.heap.size w2 w3) => (⟨pw_cell_below hb x0, pw_cell_below hb y4, pw_cell_below hb y5⟩ : w3.cell? ⟨z, 0, none⟩ = some (.slice (some ad) zs.length c) ∧ w3.cell? ⟨(ad.add (k * 6)).block, (ad.add (k * 6)).off + 4, none⟩ = some (.slice A4 y.f4.length c4) ∧ w3.cell? ⟨(ad.add (k * 6)).block, (ad.add (k * 6)).off + 5, none⟩ = some (.slice A5 y.f5.length c5)))
  have HPW := Aside0.mk (fun (W : World) (g : Nat) (hg : W.heap[g]? = some (.cells #[.slice A4 y.f4.length c4, .slice A5 y.f5.length c5] 67 (0, 0))) (hb : Below w2.heap.size w2 W) => by
    have hq := Concat_calls g A4 c4 y.f4 A5 c5 y.f5 W hg (Kd.C_below hC4 hb) (Kd.C_below hC5 hb) (by have := HN4.out; omega) (by have := HN5.out; omega)
    rw [hL] at hq
    exact hq)
  have HLn := Aside0.mk (show L.length ≤ 200 by have := HN4.out; have := HN5.out; rw [← hL, List.length_append]; omega)
  clear hC4 hC5 hl4 hl5 x0 y4 y5
  go_region_held3 (fun w' => w'.cell? ⟨z, 0, none⟩ = some (.slice (some ad) zs.length c) ∧ w'.cell? ⟨(ad.add (k * 6)).block, (ad.add (k * 6)).off + 4, none⟩ = some (.slice A4 y.f4.length c4) ∧ w'.cell? ⟨(ad.add (k * 6)).block, (ad.add (k * 6)).off + 5, none⟩ = some (.slice A5 y.f5.length c5)) ((refine HS3.out _ ?_; repeat (first | exact Below.refl _ _ | exact HB6.out | apply below_drew | apply below_alloc | apply pw_below_drewN))) (first
    | ((with_reducible refine (HPW.out (World.drew _) _ (MapKept.heap_alloc _ _).1 (by repeat (first | exact Below.refl _ _ | apply below_drew | apply below_alloc))).mono ?_); rintro e4 w4 ⟨v1, rfl, hR, hB⟩; have HB6 := Aside0.mk (show Below w2.heap.size w2 w4 from below_step (by repeat (first | exact Below.refl _ _ | apply below_drew | apply below_alloc)) hB); obtain ⟨base, hS5⟩ : ∃ base, Sat w0 w4 (ARow (Kd.int .i64) 3 base v1 L :: ABlk b (.cells #[.int .i64 y.f0] 3 (0, 0)) :: ABlk z (.cells #[.slice (some ad) zs.length c, .map (some m)] 133 (0, 0)) :: ARowN k82 75 w0.heap.size (.slice (some ad) zs.length c) zs :: AMapF m F :: l) := ⟨_, ((blk_new HB2.out _).drew.newRow hB hR (Nat.le_refl _)).swap.drop⟩; have HS5 := Aside0.mk hS5; obtain ⟨Av, cv, rfl, hcv, _⟩ := HS5.out.rowReads; clear hR hB hS5))
  have HS6 := Aside0.mk (show Sat w0 w4 (AMapF m F :: ARow (Kd.int .i64) 3 base (.slice Av L.length cv) L :: ABlk b (.cells #[.int .i64 y.f0] 3 (0, 0)) :: ABlk z (.cells #[.slice (some ad) zs.length c, .map (some m)] 133 (0, 0)) :: ARowN k82 75 w0.heap.size (.slice (some ad) zs.length c) zs :: l) from Sat.pull (l1 := [_, _, _, _]) HS5.out)
  have HL := Aside0.mk hL
  clear HS5 HS3 HPW HB6 HB2 hL
  go_wp2_with fail
  go_loopg [35] (L.length + 1) (fun kq v35 w' => ∃ (i : Nat) (G : List (Int × Value)), v35 = .int .i64 i ∧ Aside0 (i ≤ L.length ∧ L.length - i < kq) ∧ Aside0 (delAll G (L.drop i) = delAll F L) ∧ Aside0 (Sat w0 w' (AMapF m G :: ARow (Kd.int .i64) 3 base (.slice Av L.length cv) L :: ABlk b (.cells #[.int .i64 y.f0] 3 (0, 0)) :: ABlk z (.cells #[.slice (some ad) zs.length c, .map (some m)] 133 (0, 0)) :: ARowN k82 75 w0.heap.size (.slice (some ad) zs.length c) zs :: l)))
  case atStart => exact ⟨0, F, rfl, ⟨by omega⟩, ⟨by rw [List.drop_zero]⟩, HS6⟩
  case round =>
    clear HS6
    obtain ⟨i, G, rfl, Hi, HE, HS⟩ := hrel
    obtain ⟨wo, rfl⟩ : ∃ y, y = wr := ⟨wr, rfl⟩
    by_cases hlt : i < L.length
    · obtain ⟨n, hn⟩ : ∃ n, L[i]? = some n := ⟨_, List.getElem?_eq_getElem hlt⟩
      obtain ⟨A', c', e', _, hC⟩ := HS.out.drop.rowReads
      injection e' with e1 e2 e3
      subst e1
      obtain ⟨ad2, eA, y0⟩ := Kd.at_int hC (i : Int) (by omega) (by omega)
      have ev : rd L (i : Int) = n := by
        have := (List.getElem?_eq_some_iff.1 hn).2
        simp [rd, hlt, this]
      rw [ev] at y0
      simp only [Int.toNat_natCast] at y0
      subst eA
      have HN := Aside0.mk hn
      have p1 : (i < L.length) = True := eq_true hlt
      have d0 : decide ((i : Int) < (L.length : Int)) = true := decide_eq_true (by omega)
      have p9 : (i : Int) ≤ 1000 := by have := HLn.out; omega
      have p8 : 0 ≤ (i : Int) := by omega
      have z1 : wo.cell? ⟨z, 1, none⟩ = some (.map (some m)) := get_cell (blk_at HS.out.drop.drop.drop) 1
      obtain ⟨w9, hrun, hS9⟩ := mapF_del HS.out n 0
      have HS9 := Aside0.mk hS9
      clear hS9 hlt hn hC ev e2 e3
      go_wp2_with fail
      go_roundg (gk - 1)
      case measure => have := Hi.out; have := of_eq_true p1; omega
      case rel => exact ⟨i + 1, _, by go_num, ⟨by have := Hi.out; have := of_eq_true p1; omega⟩, ⟨by
        rw [← HE.out, List.drop_eq_getElem_cons (of_eq_true p1), (List.getElem?_eq_some_iff.1 HN.out).2, delAll]⟩, HS9⟩
    · have p1 : (i < L.length) = False := eq_false hlt
      have d0 : decide ((i : Int) < (L.length : Int)) = false := decide_eq_false (by omega)
      have eG : G = delAll F L := by
        have h := HE.out
        rw [List.drop_eq_nil_of_le (by omega), delAll] at h
        exact h
      subst eG
      have hS7 : Sat w0 wo (ARowN k82 75 w0.heap.size (.slice (some ad) zs.length c) zs :: AMapF m (delAll F L) :: ARow (Kd.int .i64) 3 base (.slice Av L.length cv) L :: ABlk b (.cells #[.int .i64 y.f0] 3 (0, 0)) :: ABlk z (.cells #[.slice (some ad) zs.length c, .map (some m)] 133 (0, 0)) :: l) := Sat.pull (l1 := [_, _, _, _]) HS.out
      obtain ⟨D, hN, hD, hcl⟩ := row_open hS7
      obtain ⟨g3, cap, e1, hbg, hlt3, cells, hgc⟩ := Kd.N_form hN (by have := HKL.out; omega)
      injection e1 with e1 _ e2
      injection e1 with e1
      subst e1 e2
      have x0 : wo.cell? ⟨z, 0, none⟩ = some (.slice (some ⟨g3, 0, none⟩) zs.length c) := get_cell (blk_at HS.out.drop.drop.drop) 0
      have HQ := Aside0.mk (Delete_calls hN HKL.out (by have := HF.out; omega) hS7.size)
      have HCL := Aside0.mk hcl
      clear hlt HE hS7 hN hcl hbg hlt3 hgc
      go_wp2_with fail
      (with_reducible refine HQ.out.mono ?_)
      rintro e8 w8 ⟨rfl, hN8, hG8⟩
      have HS8 := Aside0.mk (show Sat w0 w8 (ABlk z (.cells #[.slice (some ⟨g3, 0, none⟩) zs.length c, .map (some m)] 133 (0, 0)) :: ARowN k82 75 w0.heap.size (.slice (some ⟨g3, 0, none⟩) (zs.length - 1 : Nat) c) (zs.eraseIdx k) :: AMapF m (delAll F L) :: ARow (Kd.int .i64) 3 base (.slice Av L.length cv) L :: ABlk b (.cells #[.int .i64 y.f0] 3 (0, 0)) :: l) from Sat.pull (l1 := [_, _, _, _]) (HCL.out w8 _ _ hG8 (Kd.N_mono hN8 (fun _ h => .inl h))))
      clear hN8 hG8 x0 HQ HCL
      have x0 : w8.cell? ⟨z, 0, none⟩ = some (.slice (some ⟨g3, 0, none⟩) zs.length c) := get_cell (blk_at HS8.out) 0
      have f0 : w8.frozen? ⟨z, 0, none⟩ = false := get_frozen (blk_at HS8.out) 0
      go_wp2_with fail
      go_ret
      exact ⟨by rfl, _, (Sat.pull (l1 := [_, _, _]) (Sat.pull (l1 := [_, _, _]) (blk_put HS8.out 0 (.slice (some ⟨g3, 0, none⟩) (zs.length - 1 : Nat) c))).drop).drop⟩
theorem blk_row {w0 W : World} {l : List Asn} {b : Nat} {old cs : Array Value} {t : TypeId} (h : Sat w0 W (ABlk b (.cells old t (0, 0)) :: l)) : Sat w0 (W.setRow b cs) (ABlk b (.cells cs t (0, 0)) :: l) := by
  obtain ⟨D, h1, hD, _, hcl⟩ := h.open_
  have hf : ∀ i, i ≠ b → (W.setRow b cs).heap[i]? = W.heap[i]? := fun i hi => by
    simp only [World.setRow, Array.getElem?_modify]
    rw [if_neg (fun e => hi e.symm)]
  have hs : (W.setRow b cs).heap.size = W.heap.size := by simp [World.setRow]
  have hbb := (hD b h1.2)
  refine hcl _ (ABlk b _) D ?_ ⟨by omega, fun i hi hn => hf i (fun e => hn (by rw [e]; exact h1.2))⟩ ⟨?_, h1.2⟩ (fun k hk => .inl hk)
  · exact h.toBelow.grown (show W.grownBy (W.setRow b cs) (some b) from ⟨rfl, rfl, rfl, by simp, fun i _ hi => setRow_other W b i cs (fun e => hi (by rw [e]))⟩) h.size (fun k hk => by injection hk with hk; subst hk; exact hbb.1)
  · exact setRow_heap W b old cs t _ h1.1
set_option maxHeartbeats 4000000 in
set_option maxRecDepth 100000 in
theorem All_calls {z m : Nat} {zs : List S82} {w : World} (h : ZR z m zs w) (hfew : ∀ y ∈ zs, y.f4.length ≤ 100 ∧ y.f5.length ≤ 100) :
    Calls Try.prog 51 #[.pointer (some ⟨z, 0, none⟩)] w fun e w' => ∃ v, e = .returned v ∧ Sat w w' [ARowN k82 75 w.heap.size v zs] := by
  have H := Aside0.mk h
  have HF := Aside0.mk hfew
  obtain ⟨A, c, hz, hC⟩ := h.row
  have HC := Aside0.mk hC
  have x0 : w.cell? ⟨z, 0, none⟩ = some (.slice A zs.length c) := get_cell hz 0
  have hs : zs.length ≤ 1000 := h.few
  have HS := Aside0.mk hs
  have hN0 : Sat w w [ARowN k82 75 w.heap.size (.slice none 0 0) []] := (Sat.start w).new (A := ARowN k82 75 w.heap.size (.slice none 0 0) []) (Below.refl _ _) (D := fun k => w.heap.size ≤ k) (Kd.N_nil _ _ _ _ _) (fun _ hk => hk)
  have HN0 := Aside0.mk hN0
  have hu75 := Try.underlying75
  clear h hfew hz hC hN0
  go_enter Try.func51, Try.ntmps51
  go_wp2_with fail
  go_loopg [3, 11] (zs.length + 1) (fun kq v3 v11 w' => ∃ i : Nat, v11 = .int .i64 i ∧ Aside0 (i ≤ zs.length ∧ zs.length - i < kq) ∧ Aside0 (Sat w w' [ARowN k82 75 w.heap.size v3 (zs.take i)]))
  case atStart => exact ⟨0, rfl, ⟨by omega⟩, ⟨by rw [List.take_zero]; exact HN0.out⟩⟩
  case round =>
    clear HN0
    obtain ⟨i, rfl, Hi, HW⟩ := hrel
    obtain ⟨wo, rfl⟩ : ∃ y, y = wr := ⟨wr, rfl⟩
    by_cases hlt : i < zs.length
    · obtain ⟨x, hx⟩ : ∃ x, zs[i]? = some x := ⟨_, List.getElem?_eq_getElem hlt⟩
      obtain ⟨ad, A4, c4, A5, c5, eA, y0, y1, y2, y3, y4, y5, hl4, hC4, hl5, hC5⟩ := at_T82 HC.out (i : Int) (by omega) (by omega)
      have ev : rd_T82 zs (i : Int) = x := by
        have := (List.getElem?_eq_some_iff.1 hx).2
        simp [rd_T82, hlt, this]
      rw [ev] at y0 y1 y2 y3 y4 y5 hl4 hC4 hl5 hC5
      simp only [Int.toNat_natCast] at y0 y1 y2 y3 y4 y5
      subst eA
      replace y0 := pw_cell_below HW.out.toBelow y0
      replace y1 := pw_cell_below HW.out.toBelow y1
      replace y2 := pw_cell_below HW.out.toBelow y2
      replace y3 := pw_cell_below HW.out.toBelow y3
      replace y4 := pw_cell_below HW.out.toBelow y4
      replace y5 := pw_cell_below HW.out.toBelow y5
      have hm := HF.out x (List.mem_iff_getElem?.2 ⟨i, hx⟩)
      have HM := Aside0.mk hm
      have HX := Aside0.mk hx
      have p1 : (i < zs.length) = True := eq_true hlt
      have d0 : decide ((i : Int) < (zs.length : Int)) = true := decide_eq_true (by omega)
      have p9 : (i : Int) ≤ 1000 := by omega
      have p8 : 0 ≤ (i : Int) := by omega
      have HX1 := Aside0.mk (blk_new HW.out (.cells #[(.int .i64 0), (.int .i64 0), (.int .i64 0), (.int .i64 0), (.slice none 0 0), (.slice none 0 0)] 75))
      have HC4 := Aside0.mk hC4
      have HC5 := Aside0.mk hC5
      have HL4 := Aside0.mk hl4
      have HL5 := Aside0.mk hl5
      have hsz := HW.out.toBelow
      clear hx hm hlt ev hC4 hC5 hl4 hl5
      go_upto_region 5 with (refine wpList_store_row rfl 75 (.tmp 5) (.tmp 14) rfl wo.heap.size #[.int .i64 x.f0, .int .i64 x.f1, .int .i64 x.f2, .int .i64 x.f3, .slice A4 x.f4.length c4, .slice A5 x.f5.length c5] rfl rfl 75 _ (blk_at HX1.out) (by kernel_rfl) rfl (by simp [Value.oneCell']) ?_; have HX7 := Aside0.mk (blk_row (cs := #[.int .i64 x.f0, .int .i64 x.f1, .int .i64 x.f2, .int .i64 x.f3, .slice A4 x.f4.length c4, .slice A5 x.f5.length c5]) HX1.out))
      refine wp_abs (fun W => Sat w W [ABlk wo.heap.size (.cells #[.int .i64 x.f0, .int .i64 x.f1, .int .i64 x.f2, .int .i64 x.f3, .slice A4 x.f4.length c4, .slice A5 x.f5.length c5] 75 (0, 0)), ARowN k82 75 w.heap.size u3 (zs.take i)]) HX7.out (fun W7 hW7 => ?_)
      replace hW7 := Aside0.mk hW7
      obtain ⟨g, hg⟩ : ∃ g, wo.heap.size = g := ⟨_, rfl⟩
      rw [hg] at hW7 ⊢
      clear HX1 HX7 y0 y1 y2 y3 y4 y5 hsz hg
      have y0 : W7.cell? ⟨g, 0, none⟩ = some (.int .i64 x.f0) := get_cell (blk_at hW7.out) 0
      have y1 : W7.cell? ⟨g, 1, none⟩ = some (.int .i64 x.f1) := get_cell (blk_at hW7.out) 1
      have y2 : W7.cell? ⟨g, 2, none⟩ = some (.int .i64 x.f2) := get_cell (blk_at hW7.out) 2
      have y3 : W7.cell? ⟨g, 3, none⟩ = some (.int .i64 x.f3) := get_cell (blk_at hW7.out) 3
      have y4 : W7.cell? ⟨g, 4, none⟩ = some (.slice A4 x.f4.length c4) := get_cell (blk_at hW7.out) 4
      have y5 : W7.cell? ⟨g, 5, none⟩ = some (.slice A5 x.f5.length c5) := get_cell (blk_at hW7.out) 5
      obtain ⟨D, hN0, hD0, hcl0⟩ := row_open hW7.out.swap
      have HN0 := Aside0.mk hN0
      have HD0 := Aside0.mk hD0
      have HCL0 := Aside0.mk hcl0
      clear hN0 hD0 hcl0
      have ew : QZonePlays.zone_own.f x.f0 x.f1 x.f2 x.f3 x.f4 x.f5 = some (x.f0, x.f1, x.f2, x.f3, x.f4, x.f5) := own_f x (by have := HM.out.1; omega) (by have := HM.out.2; omega)
      have HOWN := Aside0.mk (QZonePlays.zone_own.calls x.f0 x.f1 x.f2 x.f3 A4 c4 x.f4 A5 c5 x.f5 _ _ _ _ _ _ W7 (Kd.C_below HC4.out hW7.out.toBelow) HL4.out (Kd.C_below HC5.out hW7.out.toBelow) HL5.out ew)
      go_wp2_with fail
      (with_reducible refine HOWN.out.mono ?_)
      rintro e3 w3 ⟨v4, v5, rfl, hR4, hR5, hb3⟩
      have HBB := Aside0.mk hb3
      have HB3 := Aside0.mk (hW7.out.below hb3)
      have HR4 := Aside0.mk hR4
      have HR5 := Aside0.mk hR5
      have q1 : (zs.take i).length ≤ 1000 := by rw [List.length_take]; omega
      clear hR4 hR5 hb3 HOWN y0 y1 y2 y3 y4 y5
      go_wp2_with (at_builtin; refine Kd.N_append k82 (w0 := w) (W := w3) w.heap.size rfl (.tmp 15) (.tmp 18) 90 75 _ 80 rfl Try.underlying90 info75 rfl (by decide) (by decide) u3 (zs.take i) x [.int .i64 x.f0, .int .i64 x.f1, .int .i64 x.f2, .int .i64 x.f3, v4, v5] (fun k => D k ∨ W7.heap.size ≤ k) (fun k => W7.heap.size ≤ k) rfl rfl (Kd.FK_of_M (k82_mkM _ _ _ x (fresh_R HR4.out) (fresh_R HR5.out))) (fun k hk => ⟨.inr hk, fun e => by have h1 := (HD0.out k (HN0.out.1 k e.symm)).2; omega⟩) (fun k hk => .inr (Nat.le_trans HBB.out.size hk)) (Kd.N_mono (Kd.N_below HN0.out HBB.out) (fun _ h => .inl h)) HB3.out.toBelow HB3.out.size (by omega) ?_; intro v1 w4 hN1 hB1 hg1 _; have HS4 := Aside0.mk (HCL0.out w4 v1 (zs.take i ++ [x]) (grown_then (grown_of_below HBB.out _) hg1) hN1); clear hN1 hB1 hg1)
      go_roundg (gk - 1)
      case measure => have := Hi.out; have := of_eq_true p1; omega
      case rel => exact ⟨i + 1, by go_num, ⟨by have := Hi.out; have := of_eq_true p1; omega⟩, ⟨by rw [List.take_add_one, HX.out]; exact HS4.out.swap.drop⟩⟩
    · have p1 : (i < zs.length) = False := eq_false hlt
      have d0 : decide ((i : Int) < (zs.length : Int)) = false := decide_eq_false (by omega)
      have HE := Aside0.mk (show zs.take i = zs from List.take_of_length_le (by omega))
      clear hlt
      go_wp2_with fail
      go_ret
      exact ⟨_, rfl, by have := HW.out; rw [HE.out] at this; exact this⟩
end Go.Proofs.Ytkeijpngfnmjoaa.MineZone
end
section
namespace Go.Proofs.Ytkeijpngfnmjoaa.MineZone
open Go.RowKit Go.MapKept Go.Proofs.YtkeijpngfnmjoaaW.PrintWords Go.Proofs.YtkeijpngfnmjoaaW.PrintLast Go.Proofs.YtkeijpngfnmjoaaW.PrintMore Go.Proofs.Ytkeijpngfnmjoaa.MineBase Go.Proofs.Ytkeijpngfnmjoaa.MineSep Go.Proofs.Ytkeijpngfnmjoaa.MineRows Go.Proofs.Ytkeijpngfnmjoaa.MineGen Go.Proofs.Ytkeijpngfnmjoaa.QZonePlays Go.Proofs.Ytkeijpngfnmjoaa.MineMap
set_option linter.unusedVariables false
set_option linter.unusedSimpArgs false
theorem inR_iff (a n f t : Int) : inR a n f t = true ↔ 1 ≤ n ∧ f ≤ a ∧ a ≤ t - n := by
  unfold inR
  simp only [Bool.and_eq_true, decide_eq_true_eq]
  exact ⟨fun ⟨⟨h1, h2⟩, h3⟩ => ⟨h1, h2, h3⟩, fun ⟨h1, h2, h3⟩ => ⟨⟨h1, h2⟩, h3⟩⟩
theorem store_load {zs : List S82} (h : Inv zs) (a n : Int) (hs : storeZ zs a n = true) : loadZ zs a n = true := by
  unfold storeZ at hs
  unfold loadZ
  rw [Bool.or_eq_true] at hs ⊢
  rcases hs with hs | hs
  · exact .inl hs
  · obtain ⟨y, hy, hr⟩ := List.any_eq_true.1 hs
    refine .inr (List.any_eq_true.2 ⟨y, hy, ?_⟩)
    rw [inR_iff] at hr ⊢
    obtain ⟨⟨h1, h2, h3, h4, h5, h6, _⟩, _⟩ := h.1 y hy
    omega
theorem run_load {zs : List S82} (h : Inv zs) (a : Int) (hr : runZ zs a = true) (hl : loadZ zs a 1 = true) : False := by
  unfold runZ at hr
  unfold loadZ at hl
  rw [Bool.and_eq_true] at hr
  rw [Bool.or_eq_true] at hl
  obtain ⟨y, hy, hd⟩ := List.any_eq_true.1 hr.2
  simp only [Bool.and_eq_true, decide_eq_true_eq] at hd
  obtain ⟨⟨h1, h2, h3, h4, h5, h6, _⟩, _⟩ := h.1 y hy
  rcases hl with hl | hl
  · rw [inR_iff] at hl
    omega
  · obtain ⟨x, hx, hi⟩ := List.any_eq_true.1 hl
    rw [inR_iff] at hi
    obtain ⟨⟨g1, g2, g3, g4, g5, g6, _⟩, _⟩ := h.1 x hx
    have e := inv_one h hx hy (n := a) ⟨by omega, by omega⟩ ⟨by omega, by omega⟩
    subst e
    omega
theorem cell_store {zs : List S82} (h : Inv zs) (a : Int) (hc : cellZ zs a ≠ 0) : storeZ zs a 1 = true := by
  unfold cellZ at hc
  by_cases ha : a < 0
  · rw [if_pos ha] at hc
    exact absurd rfl hc
  · rw [if_neg ha] at hc
    obtain ⟨x, hx, hn⟩ := cellK_ne0 hc
    have hk := (h.1 x hx).cell hn
    obtain ⟨⟨g1, g2, g3, g4, g5, g6, g7, g8, g9, g10⟩, _⟩ := h.1 x hx
    unfold storeZ
    rw [Bool.or_eq_true]
    refine .inr (List.any_eq_true.2 ⟨x, hx, ?_⟩)
    rw [inR_iff]
    omega
theorem fits_run {zs : List S82} (a : Int) : (!fitsZ zs 2 a || decide (a = 0) || runZ zs a) = true := by
  unfold fitsZ
  by_cases h : a = 0
  · simp [h]
  · simp [h]
theorem fits_load {zs : List S82} (a : Int) : (!fitsZ zs 1 a || decide (a = 0) || loadZ zs a 1) = true := by
  unfold fitsZ
  by_cases h : a = 0
  · simp [h]
  · simp only [h, if_false, decide_false, Bool.false_or, Bool.or_false]
    simp only [show ((1 : Int) = 0) = False from by decide, if_false, if_true]
    cases hq : zs.any (fun z => decide (z.f0 ≤ a) && decide (a < z.f2)) with
    | false => rfl
    | true =>
      obtain ⟨x, hx, hd⟩ := List.any_eq_true.1 hq
      simp only [Bool.and_eq_true, decide_eq_true_eq] at hd
      have : loadZ zs a 1 = true := by
        unfold loadZ
        rw [Bool.or_eq_true]
        exact .inr (List.any_eq_true.2 ⟨x, hx, (inR_iff _ _ _ _).2 ⟨by omega, by omega, by omega⟩⟩)
      rw [this]; rfl
end Go.Proofs.Ytkeijpngfnmjoaa.MineZone
end
section
namespace Go.Proofs.Ytkeijpngfnmjoaa.MineZone
open Go.Lib Go.Shelf Go.RowKit Go.MapKept Go.Proofs.YtkeijpngfnmjoaaW.PrintWords Go.Proofs.YtkeijpngfnmjoaaW.PrintLast Go.Proofs.YtkeijpngfnmjoaaW.PrintMore Go.Proofs.Ytkeijpngfnmjoaa.MineBase Go.Proofs.Ytkeijpngfnmjoaa.MineSep Go.Proofs.Ytkeijpngfnmjoaa.MineRows Go.Proofs.Ytkeijpngfnmjoaa.MineGen Go.Proofs.Ytkeijpngfnmjoaa.QZonePlays Go.Proofs.Ytkeijpngfnmjoaa.MineMap
attribute [local go_sem ↓] Go.wp_at_zero Go.wp_at_succ
set_option linter.unusedVariables false
set_option linter.unusedSimpArgs false
/-- The program's zones. -/
structure ZS (w0 w : World) (z m n : Nat) (zs : List S82) (l : List Asn) : Prop where
  sat : ∃ v F, Sat w0 w (ABlk z (.cells #[v, .map (some m)] 133 (0, 0)) :: ARowN k82 75 w0.heap.size v zs :: AMapF m F :: l) ∧ CellsOf zs F
  inv : Inv zs
  few : zs.length ≤ n
  rows : ∀ y ∈ zs, y.f4.length ≤ 100 ∧ y.f5.length ≤ 100
section
variable {w0 w w1 : World} {z m n : Nat} {zs : List S82} {l : List Asn}
theorem ZS.below (h : ZS w0 w z m n zs l) (hb : Below w.heap.size w w1) : ZS w0 w1 z m n zs l := by
  obtain ⟨⟨v, F, h1, h2⟩, h3, h4, h5⟩ := h
  exact ⟨⟨v, F, h1.below hb, h2⟩, h3, h4, h5⟩
theorem ZS.more (h : ZS w0 w z m n zs l) {n1 : Nat} (hn : n ≤ n1) : ZS w0 w z m n1 zs l := ⟨h.sat, h.inv, Nat.le_trans h.few hn, h.rows⟩
theorem ZS.toBelow (h : ZS w0 w z m n zs l) : Below w0.heap.size w0 w := by
  obtain ⟨⟨v, F, h1, h2⟩, h3, h4, h5⟩ := h
  exact h1.toBelow
theorem ZS.zr (h : ZS w0 w z m n zs l) (hn : n ≤ 900) : ZR z m zs w := by
  obtain ⟨⟨v, F, h1, h2⟩, h3, h4, h5⟩ := h
  obtain ⟨_, hN, _⟩ := h1.drop.head
  obtain ⟨A, c, rfl, _, hC⟩ := Kd.N_reads hN
  exact ⟨⟨A, c, blk_at h1, hC⟩, by omega, h3.1⟩
/-- What lies behind. -/
theorem ZS.tail (h : ZS w0 w z m n zs l) : Sat w0 w l := by
  obtain ⟨⟨v, F, h1, h2⟩, h3, h4, h5⟩ := h
  exact h1.drop.drop.drop
theorem ZS.swap3 {A : Asn} (h : ZS w0 w z m n zs (A :: l)) : ∃ v F, Sat w0 w (A :: ABlk z (.cells #[v, .map (some m)] 133 (0, 0)) :: ARowN k82 75 w0.heap.size v zs :: AMapF m F :: l) ∧ CellsOf zs F := by
  obtain ⟨⟨v, F, h1, h2⟩, h3, h4, h5⟩ := h
  exact ⟨v, F, Sat.pull (l1 := [_, _, _]) h1, h2⟩
theorem New_zs (w : World) : Calls Try.prog 34 #[] w fun e w' => ∃ z m, e = .returned (.pointer (some ⟨z, 0, none⟩)) ∧ ZS w w' z m 0 [] [] := by
  refine (New_calls w).mono ?_
  rintro e w' ⟨z, m, rfl, _, _, hS⟩
  refine ⟨z, m, rfl, ⟨.slice none 0 0, [], ?_, cells_nil⟩, ⟨by simp, List.Pairwise.nil⟩, Nat.le_refl _, by simp⟩
  have h2 := mapF_new hS.swap
  have h3 : Sat w w' (ARowN k82 75 w.heap.size (.slice none 0 0) [] :: AMapF m [] :: ABlk z (.cells #[.slice none 0 0, .map (some m)] 133 (0, 0)) :: []) :=
    h2.new (A := ARowN k82 75 w.heap.size (.slice none 0 0) []) (Below.refl _ _) (D := fun k => w'.heap.size ≤ k) (Kd.N_nil _ _ _ _ _) (fun _ hk => hk)
  exact h3.third
/-- Is it taken? -/
def Takes (zs : List S82) (x : S82) : Prop := Ok x ∧ ∀ y ∈ zs, clash x y = false
theorem takes_any {x : S82} (h : ∀ y ∈ zs, clash x y = false) : zs.any (clash x) = false := List.any_eq_false.2 (fun y hy => by rw [h y hy]; decide)
theorem ZS.add_yes (h : ZS w0 w z m n zs l) (hn : n ≤ 899) (x : S82) (A4 : Option Addr) (c4 : Nat) (A5 : Option Addr) (c5 : Nat)
    (h4 : ∀ W L, Sat w0 W (L ++ l) → (Kd.int .i64).C W A4 x.f4.length x.f4) (h5 : ∀ W L, Sat w0 W (L ++ l) → (Kd.int .i64).C W A5 x.f5.length x.f5) (hc4 : x.f4.length ≤ c4) (hc5 : x.f5.length ≤ c5) (hn4 : x.f4.length ≤ 100) (hn5 : x.f5.length ≤ 100) (ht : Takes zs x) :
    Calls Try.prog 40 #[.pointer (some ⟨z, 0, none⟩), .agg #[.int .i64 x.f0, .int .i64 x.f1, .int .i64 x.f2, .int .i64 x.f3, .slice A4 x.f4.length c4, .slice A5 x.f5.length c5]] w fun e w' => e = .returned .nilIface ∧ ZS w0 w' z m (n + 1) (addZ zs x) l := by
  obtain ⟨⟨v, F, h1, h2⟩, hI, hf, hr⟩ := h
  refine (Add_yes h1 (by omega) x A4 c4 A5 c5 h4 h5 hc4 hc5 hn4 hn5 ht.1 (takes_any ht.2) hI).mono ?_
  rintro e w' ⟨rfl, v', hS⟩
  have hI' := inv_add hI ht.1 ht.2
  refine ⟨rfl, ⟨v', _, hS, cells_add h2 hI'⟩, hI', ?_, fun y hy => ?_⟩
  · rw [(addZ_perm zs x).length_eq, List.length_append, List.length_singleton]; omega
  · rcases mem_addZ.1 hy with rfl | hy
    · exact ⟨hn4, hn5⟩
    · exact hr y hy
theorem ZS.add_no (h : ZS w0 w z m n zs l) (hn : n ≤ 899) (x : S82) (A4 : Option Addr) (c4 : Nat) (A5 : Option Addr) (c5 : Nat)
    (h4 : (Kd.int .i64).C w A4 x.f4.length x.f4) (h5 : (Kd.int .i64).C w A5 x.f5.length x.f5) (hn4 : x.f4.length ≤ 100) (hn5 : x.f5.length ≤ 100) (ht : ¬ Takes zs x) :
    Calls Try.prog 40 #[.pointer (some ⟨z, 0, none⟩), .agg #[.int .i64 x.f0, .int .i64 x.f1, .int .i64 x.f2, .int .i64 x.f3, .slice A4 x.f4.length c4, .slice A5 x.f5.length c5]] w fun e w' => e = .returned (.iface 39 (.int .i64 1)) ∧ ZS w0 w' z m n zs l := by
  refine (Add_no (h.zr (by omega)) x A4 c4 A5 c5 h4 h5 hn4 hn5 ?_).mono ?_
  · by_cases ho : Ok x
    · refine .inr ?_
      cases hq : zs.any (clash x) with
      | true => rfl
      | false =>
        refine absurd ⟨ho, fun y hy => ?_⟩ ht
        have := List.any_eq_false.1 hq y hy
        simpa using this
    · exact .inl ho
  · rintro e w' ⟨rfl, hb⟩
    exact ⟨rfl, h.below hb⟩
theorem ZS.rem (h : ZS w0 w z m n zs l) (hn : n ≤ 900) (b : Int) :
    Calls Try.prog 37 #[.pointer (some ⟨z, 0, none⟩), .int .i64 b] w fun e w' => e = .returned (.bool (zs.any (fun y => y.f0 == b))) ∧ ZS w0 w' z m n (remZ zs b) l := by
  rcases idxP_spec (fun x : S82 => x.f0 == b) zs with ⟨h1, h2⟩ | ⟨l1, y, l2, e, h1, h2, h3⟩
  · have hno : ∀ y ∈ zs, y.f0 ≠ b := fun y hy => by simpa using h2 y hy
    refine (Remove_no (h.zr (by omega)) b hno).mono ?_
    rintro e w' ⟨rfl, hb⟩
    rw [rem_miss hno, show zs.any (fun y => y.f0 == b) = false from List.any_eq_false.2 (fun y hy => by rw [h2 y hy]; decide)]
    exact ⟨rfl, h.below hb⟩
  · have e0 : y.f0 = b := by simpa using h2
    subst e0
    have hy : y ∈ zs := by rw [e]; simp
    have hk : zs[l1.length]? = some y := by rw [e]; simp
    obtain ⟨⟨v, F, hs, hc⟩, hI, hf, hr⟩ := h
    have hb := hr y hy
    refine (Remove_at hs (by omega) hb.1 hb.2 hk h1).mono ?_
    rintro e1 w' ⟨rfl, v', hS⟩
    have ee : zs.eraseIdx l1.length = l1 ++ l2 := by rw [e, List.eraseIdx_append_of_length_le (Nat.le_refl _)]; simp
    have er : remZ zs y.f0 = l1 ++ l2 := by rw [e] at hI ⊢; exact rem_hit hI
    rw [ee] at hS
    rw [show zs.any (fun x => x.f0 == y.f0) = true from List.any_eq_true.2 ⟨y, hy, by simp⟩]
    refine ⟨rfl, ⟨v', _, by rw [er]; exact hS, ?_⟩, inv_rem _ hI, ?_, fun x hx => hr x (List.mem_filter.1 hx).1⟩
    · rw [er]; rw [e] at hc hI; exact cells_rem hc hI
    · exact Nat.le_trans (List.length_filter_le _ _) hf
theorem ZS.cell (h : ZS w0 w z m n zs l) (hn : n ≤ 900) (a : Int) (ha : a ≤ 9223372036854775807) :
    Calls Try.prog 47 #[.pointer (some ⟨z, 0, none⟩), .int .i64 a] w fun e w' => e = .returned (.int .i64 (cellZ zs a)) ∧ Below w.heap.size w w' := by
  have hz := h.zr hn
  obtain ⟨⟨v, F, hs, hc⟩, hI, hf, hr⟩ := h
  obtain ⟨es, clock, hm, he⟩ := mapF_at hs.drop.drop
  exact Cell_calls hz hm he hc a ha
end
def fewB (x : S82) : Bool := decide (x.f4.length ≤ 40) && decide (x.f5.length ≤ 40)
set_option maxHeartbeats 1000000 in
set_option maxRecDepth 100000 in
theorem few_calls (x : S82) (A4 : Option Addr) (c4 : Nat) (A5 : Option Addr) (c5 : Nat) (w : World) :
    Calls Try.prog 35 #[.agg #[.int .i64 x.f0, .int .i64 x.f1, .int .i64 x.f2, .int .i64 x.f3, .slice A4 x.f4.length c4, .slice A5 x.f5.length c5]] w fun e w' => e = .returned (.bool (fewB x)) ∧ Below w.heap.size w w' := by
  have hu75 := Try.underlying75
  unfold fewB
  by_cases c1 : x.f4.length ≤ 40
  · have d1 : ((x.f4.length : Int) ≤ 40) = True := eq_true (by omega)
    have d2 : decide ((x.f4.length : Int) ≤ 40) = true := decide_eq_true (by omega)
    have e1 : decide (x.f4.length ≤ 40) = true := decide_eq_true c1
    rw [e1]
    by_cases c2 : x.f5.length ≤ 40
    · have d3 : ((x.f5.length : Int) ≤ 40) = True := eq_true (by omega)
      have d4 : decide ((x.f5.length : Int) ≤ 40) = true := decide_eq_true (by omega)
      have e2 : decide (x.f5.length ≤ 40) = true := decide_eq_true c2
      rw [e2]
      clear c1 c2 e1 e2
      go_enter Try.func35, Try.ntmps35
      go_wp2
      go_ret
      exact ⟨by first | rfl | simp | (congr 2), (blk_new (Sat.start w) _).toBelow⟩
    · have d3 : ((x.f5.length : Int) ≤ 40) = False := eq_false (by omega)
      have d4 : decide ((x.f5.length : Int) ≤ 40) = false := decide_eq_false (by omega)
      have e2 : decide (x.f5.length ≤ 40) = false := decide_eq_false c2
      rw [e2]
      clear c1 c2 e1 e2
      go_enter Try.func35, Try.ntmps35
      go_wp2
      go_ret
      exact ⟨by first | rfl | simp | (congr 2), (blk_new (Sat.start w) _).toBelow⟩
  · have d1 : ((x.f4.length : Int) ≤ 40) = False := eq_false (by omega)
    have d2 : decide ((x.f4.length : Int) ≤ 40) = false := decide_eq_false (by omega)
    have e1 : decide (x.f4.length ≤ 40) = false := decide_eq_false c1
    rw [e1]
    clear c1 e1
    go_enter Try.func35, Try.ntmps35
    go_wp2
    go_ret
    exact ⟨by first | rfl | simp | (congr 2), (blk_new (Sat.start w) _).toBelow⟩
/-- A deed: removed, or added. -/
def kD : Kd (Bool × S82) := Kd.pair Kd.bool k82
theorem kD_at {w : World} {A : Option Addr} {n : Nat} {ds : List (Bool × S82)} (h : kD.C w A n ds) {i : Nat} {d : Bool × S82} (hi : ds[i]? = some d) :
    ∃ ad A4 c4 A5 c5, A = some ad ∧ w.cell? (ad.add (i * 7)) = some (.bool d.1) ∧ w.cell? ⟨(ad.add (i * 7)).block, (ad.add (i * 7)).off + 1, none⟩ = some (.int .i64 d.2.f0) ∧ w.cell? ⟨(ad.add (i * 7)).block, (ad.add (i * 7)).off + 2, none⟩ = some (.int .i64 d.2.f1) ∧ w.cell? ⟨(ad.add (i * 7)).block, (ad.add (i * 7)).off + 3, none⟩ = some (.int .i64 d.2.f2) ∧ w.cell? ⟨(ad.add (i * 7)).block, (ad.add (i * 7)).off + 4, none⟩ = some (.int .i64 d.2.f3) ∧ w.cell? ⟨(ad.add (i * 7)).block, (ad.add (i * 7)).off + 5, none⟩ = some (.slice A4 d.2.f4.length c4) ∧ w.cell? ⟨(ad.add (i * 7)).block, (ad.add (i * 7)).off + 6, none⟩ = some (.slice A5 d.2.f5.length c5) ∧ d.2.f4.length ≤ c4 ∧ (Kd.int .i64).C w A4 d.2.f4.length d.2.f4 ∧ d.2.f5.length ≤ c5 ∧ (Kd.int .i64).C w A5 d.2.f5.length d.2.f5 := by
  have hl := (List.getElem?_eq_some_iff.1 hi).1
  obtain ⟨ad, e, hc⟩ := h.2.2 (by have := h.1; omega)
  obtain ⟨cs, hs, ⟨c0, c1, rfl, hb, hz⟩, hcell⟩ := hc i d hi
  obtain rfl := hb
  obtain ⟨A4, c4, A5, c5, rfl, l4, g4, l5, g5⟩ := k82_open hz
  refine ⟨ad, A4, c4, A5, c5, e, hcell 0 _ rfl, ?_, ?_, ?_, ?_, ?_, ?_, l4, g4, l5, g5⟩
  · rw [← add_field _ _ 1 (by omega)]; exact hcell 1 _ rfl
  · rw [← add_field _ _ 2 (by omega)]; exact hcell 2 _ rfl
  · rw [← add_field _ _ 3 (by omega)]; exact hcell 3 _ rfl
  · rw [← add_field _ _ 4 (by omega)]; exact hcell 4 _ rfl
  · rw [← add_field _ _ 5 (by omega)]; exact hcell 5 _ rfl
  · rw [← add_field _ _ 6 (by omega)]; exact hcell 6 _ rfl
end Go.Proofs.Ytkeijpngfnmjoaa.MineZone
end
section
namespace Go.Proofs.Ytkeijpngfnmjoaa.MineZone
open Go.Lib Go.Shelf Go.RowKit Go.MapKept Go.Proofs.YtkeijpngfnmjoaaW.PrintWords Go.Proofs.YtkeijpngfnmjoaaW.PrintLast Go.Proofs.YtkeijpngfnmjoaaW.PrintMore Go.Proofs.Ytkeijpngfnmjoaa.MineBase Go.Proofs.Ytkeijpngfnmjoaa.MineSep Go.Proofs.Ytkeijpngfnmjoaa.MineRows Go.Proofs.Ytkeijpngfnmjoaa.MineGen Go.Proofs.Ytkeijpngfnmjoaa.QZonePlays Go.Proofs.Ytkeijpngfnmjoaa.MineMap
attribute [local go_sem ↓] Go.wp_at_zero Go.wp_at_succ
set_option linter.unusedVariables false
set_option linter.unusedSimpArgs false
/-- What a zone of the document's list leads to lies there. -/
def Lie (w : World) (d : SZ) : Prop := ((Kd.int .i64).C w d.2.1.1 d.1.f4.length d.1.f4 ∧ d.1.f4.length ≤ d.2.1.2) ∧ (Kd.int .i64).C w d.2.2.1 d.1.f5.length d.1.f5 ∧ d.1.f5.length ≤ d.2.2.2
theorem Lie.below {w w1 : World} {d : SZ} (h : Lie w d) (hb : Below w.heap.size w w1) : Lie w1 d := ⟨⟨Kd.C_below h.1.1 hb, h.1.2⟩, Kd.C_below h.2.1 hb, h.2.2⟩
/-- The document's list. -/
def ADoc (base : Nat) (v : Value) (ds : List SZ) : Asn := ARow (Kd.raw 6) 82 base v (ds.map encZ)
theorem info82r : (Try.prog.info? 82).map (fun i => (i.zero, i.size, i.bytes)) = some (some (.agg #[(.int .i64 0), (.int .i64 0), (.int .i64 0), (.int .i64 0), (.slice none 0 0), (.slice none 0 0)]), (Kd.raw 6).sz, 80) := info82
theorem raw_enc {W : World} {A : Option Addr} {n : Nat} {ds : List SZ} (h : (Kd.raw 6).C W A n (ds.map encZ)) {i : Nat} {d : SZ} (hi : ds[i]? = some d) : ∃ ad, A = some ad ∧ W.cell? (ad.add (i * 6)) = some (.int .i64 d.1.f0) ∧ W.cell? ⟨(ad.add (i * 6)).block, (ad.add (i * 6)).off + 1, none⟩ = some (.int .i64 d.1.f1) ∧ W.cell? ⟨(ad.add (i * 6)).block, (ad.add (i * 6)).off + 2, none⟩ = some (.int .i64 d.1.f2) ∧ W.cell? ⟨(ad.add (i * 6)).block, (ad.add (i * 6)).off + 3, none⟩ = some (.int .i64 d.1.f3) ∧ W.cell? ⟨(ad.add (i * 6)).block, (ad.add (i * 6)).off + 4, none⟩ = some (.slice d.2.1.1 d.1.f4.length d.2.1.2) ∧ W.cell? ⟨(ad.add (i * 6)).block, (ad.add (i * 6)).off + 5, none⟩ = some (.slice d.2.2.1 d.1.f5.length d.2.2.2) := by
  have hl := (List.getElem?_eq_some_iff.1 hi).1
  have h1 := h.1
  rw [List.length_map] at h1
  obtain ⟨ad, e, hc⟩ := h.2.2 (by omega)
  obtain ⟨cs, hs, ⟨rfl, _, _⟩, hcell⟩ := hc i (encZ d) (by rw [List.getElem?_map, hi]; rfl)
  refine ⟨ad, e, hcell 0 _ rfl, ?_, ?_, ?_, ?_, ?_⟩
  · rw [← add_field _ _ 1 (by omega)]; exact hcell 1 _ rfl
  · rw [← add_field _ _ 2 (by omega)]; exact hcell 2 _ rfl
  · rw [← add_field _ _ 3 (by omega)]; exact hcell 3 _ rfl
  · rw [← add_field _ _ 4 (by omega)]; exact hcell 4 _ rfl
  · rw [← add_field _ _ 5 (by omega)]; exact hcell 5 _ rfl
/-- The document's list, read. -/
theorem doc_C {W : World} {A : Option Addr} {n : Nat} {ds : List SZ} (h : (Kd.raw 6).C W A n (ds.map encZ)) (hl : ∀ d ∈ ds, Lie W d) : k82.C W A n (ds.map (·.1)) := by
  refine ⟨by have := h.1; rw [List.length_map] at this ⊢; exact this, h.2.1, fun hp => ?_⟩
  obtain ⟨ad, e, hc⟩ := h.2.2 hp
  refine ⟨ad, e, fun j p hj => ?_⟩
  rw [List.getElem?_map] at hj
  obtain ⟨d, hd, rfl⟩ := Option.map_eq_some_iff.1 hj
  obtain ⟨cs, hs, ⟨rfl, _, _⟩, hcell⟩ := hc j (encZ d) (by rw [List.getElem?_map, hd]; rfl)
  have hL := hl d (List.mem_iff_getElem?.2 ⟨j, hd⟩)
  exact ⟨encZ d, rfl, k82_mk W d.1 hL.1.2 hL.1.1 hL.2.2 hL.2.1, hcell⟩
theorem doc_reads {w0 w : World} {base : Nat} {l : List Asn} {v : Value} {ds : List SZ} (h : Sat w0 w (ADoc base v ds :: l)) : ∃ A c, v = .slice A ds.length c ∧ ds.length ≤ c ∧ (Kd.raw 6).C w A ds.length (ds.map encZ) := by
  obtain ⟨A, c, e, hc, hC⟩ := Sat.rowReads h
  rw [List.length_map] at e hc hC
  exact ⟨A, c, e, hc, hC⟩
theorem doc_open {w0 w : World} {l : List Asn} {base : Nat} {v : Value} {ds : List SZ} (h : Sat w0 w (ADoc base v ds :: l)) : ∃ D : Nat → Prop, (Kd.raw 6).R 82 w base D v (ds.map encZ) ∧ (∀ k, D k → w0.heap.size ≤ k ∧ k < w.heap.size) ∧
    (∀ (w1 : World) (v1 : Value) (ds1 : List SZ), w.grownBy w1 v.ownBlock → (Kd.raw 6).R 82 w1 base (fun k => D k ∨ w.heap.size ≤ k) v1 (ds1.map encZ) → Sat w0 w1 (ADoc base v1 ds1 :: l)) := by
  have hb0 := h.toBelow
  have hsz := h.size
  obtain ⟨D, hP, hD, _, hcl⟩ := h.open_
  refine ⟨D, hP, hD, fun w1 v1 zs1 hg hN => hcl w1 (ADoc base v1 zs1) (fun k => D k ∨ w.heap.size ≤ k) (hb0.grown hg hsz (fun j hj => (hD _ (hP.1 j hj)).1)) (Kept.of_grown hg (Kept.refl w D) (fun j hj => .inl (hP.1 j hj))) hN (fun _ hj => hj)⟩
theorem doc_nil {w0 w : World} {l : List Asn} {base : Nat} (h : Sat w0 w l) : Sat w0 w (ADoc base (.slice none 0 0) [] :: l) :=
  h.new (A := ADoc base (.slice none 0 0) []) (Below.refl _ _) (D := fun k => w.heap.size ≤ k) (Kd.R_nil _ _ _ _ _) (fun _ hk => hk)
def keepD (ds : List SZ) (b : Int) : List SZ := ds.filter (fun d => decide (d.1.f0 ≠ b))
set_option maxHeartbeats 4000000 in
set_option maxRecDepth 100000 in
theorem DRemove_calls {w0 w : World} {l : List Asn} {v : Value} {ds : List SZ} (h : Sat w0 w (ADoc w0.heap.size v ds :: l)) (hn : ds.length ≤ 900) (b : Int) :
    Calls Try.prog 36 #[v, .int .i64 b] w fun e w' => ∃ v', e = .returned (.tuple #[v', .bool (ds.any (fun d => d.1.f0 == b))]) ∧ Sat w0 w' (ADoc w0.heap.size v' (keepD ds b) :: l) := by
  obtain ⟨A, c, rfl, hc, _⟩ := doc_reads h
  have HN := Aside0.mk hn
  have HS0 := Aside0.mk (doc_nil (base := w0.heap.size) h)
  have hu82 := Try.underlying82
  clear h hn hc
  go_enter Try.func36, Try.ntmps36
  go_wp2_with fail
  go_loopg [6, 7, 8] (ds.length + 1) (fun kq v6 v7 v8 w' => ∃ i : Nat, v8 = .int .i64 i ∧ v7 = .bool ((ds.take i).any (fun d => d.1.f0 == b)) ∧ Aside0 (i ≤ ds.length ∧ ds.length - i < kq) ∧ Aside0 (Sat w0 w' (ADoc w0.heap.size v6 (keepD (ds.take i) b) :: ADoc w0.heap.size (.slice A ds.length c) ds :: l)))
  case atStart => exact ⟨0, rfl, rfl, ⟨by omega⟩, HS0⟩
  case round =>
    clear HS0
    obtain ⟨i, rfl, rfl, Hi, HS⟩ := hrel
    obtain ⟨wo, rfl⟩ : ∃ y, y = wr := ⟨wr, rfl⟩
    by_cases hlt : i < ds.length
    · obtain ⟨d, hd⟩ : ∃ d, ds[i]? = some d := ⟨_, List.getElem?_eq_getElem hlt⟩
      obtain ⟨A', c', ev, _, hC⟩ := doc_reads HS.out.swap
      injection ev with ev1 _ ev2
      subst ev1 ev2
      obtain ⟨ad, eA, y0, y1, y2, y3, y4, y5⟩ := raw_enc hC hd
      subst eA
      have HD := Aside0.mk hd
      have p1 : (i < ds.length) = True := eq_true hlt
      have d0 : decide ((i : Int) < (ds.length : Int)) = true := decide_eq_true (by omega)
      have p9 : (i : Int) ≤ 1000 := by have := HN.out; omega
      have p8 : 0 ≤ (i : Int) := by omega
      have ha : (ds.take (i + 1)).any (fun d => d.1.f0 == b) = ((ds.take i).any (fun d => d.1.f0 == b) || (d.1.f0 == b)) := by
        rw [List.take_add_one, hd]; simp
      have hk : keepD (ds.take (i + 1)) b = keepD (ds.take i) b ++ if d.1.f0 = b then [] else [d] := by
        unfold keepD
        rw [List.take_add_one, hd, List.filter_append]
        by_cases hq : d.1.f0 = b <;> simp [hq]
      have HA := Aside0.mk ha
      have HK := Aside0.mk hk
      clear hC hlt ha hk hd
      by_cases hq : d.1.f0 = b
      · have q1 : (d.1.f0 == b) = true := by simpa using hq
        have HQ := Aside0.mk hq
        clear hq
        go_wp2_with fail
        go_roundg (gk - 1)
        case measure => have := Hi.out; have := of_eq_true p1; omega
        case rel => exact ⟨i + 1, by go_num, by rw [HA.out, q1, Bool.or_true], ⟨by have := Hi.out; have := of_eq_true p1; omega⟩, ⟨by rw [HK.out, if_pos HQ.out, List.append_nil]; exact HS.out⟩⟩
      · have q1 : (d.1.f0 == b) = false := by simpa using hq
        have HQ := Aside0.mk hq
        clear hq
        obtain ⟨D, hR, hDb, hcl⟩ := doc_open HS.out
        have HR := Aside0.mk hR
        have HCL := Aside0.mk hcl
        have HSZ := Aside0.mk HS.out.toBelow
        have hkl : (keepD (ds.take i) b).length ≤ 1000 := Nat.le_trans (List.length_filter_le _ _) (by rw [List.length_take]; have := HN.out; omega)
        have HKL := Aside0.mk hkl
        clear hR hcl hkl
        go_wp2_with (at_builtin; refine Kd.R_append (Kd.raw 6) (w0 := w0) (W := wo) w0.heap.size rfl (.tmp 22) (.tmp 27) 72 82 _ 80 rfl Try.underlying72 info82r rfl (by decide) (by decide) _ ((keepD (ds.take i) b).map encZ) (encZ d) (encZ d) (fun k => D k ∨ wo.heap.size ≤ k) (fun _ => False) rfl rfl ⟨rfl, rfl, encZ_one d⟩ (fun _ h => h.elim) (fun _ h => .inr h) (Kd.R_mono HR.out (fun _ h => .inl h)) HSZ.out HSZ.out.size (by rw [List.length_map]; have := HKL.out; omega) ?_; intro v1 w4 hN1 hB1 hg1 _; have HS4 := Aside0.mk (HCL.out w4 v1 (keepD (ds.take i) b ++ [d]) hg1 (by rw [List.map_append]; exact hN1)); clear hN1 hB1 hg1)
        go_roundg (gk - 1)
        case measure => have := Hi.out; have := of_eq_true p1; omega
        case rel => exact ⟨i + 1, by go_num, by rw [HA.out, q1, Bool.or_false], ⟨by have := Hi.out; have := of_eq_true p1; omega⟩, ⟨by rw [HK.out, if_neg HQ.out]; exact HS4.out⟩⟩
    · have p1 : (i < ds.length) = False := eq_false hlt
      have d0 : decide ((i : Int) < (ds.length : Int)) = false := decide_eq_false (by omega)
      have HE := Aside0.mk (show ds.take i = ds from List.take_of_length_le (by omega))
      clear hlt
      go_wp2_with fail
      go_ret2
      exact ⟨_, by rw [HE.out]; rfl, by have := HS.out; rw [HE.out] at this; exact this.swap.drop⟩
theorem reads_take {α : Type} {K : α → List Value → Prop} {sz : Nat} {W : World} {A : Option Addr} {n k : Nat} {ys : List α} (h : ReadsRow K sz W A n ys) (hk : k ≤ n) : ReadsRow K sz W A k (ys.take k) := by
  refine ⟨by rw [List.length_take, h.1]; omega, Nat.le_trans hk h.2.1, fun hp => ?_⟩
  obtain ⟨ad, e, hc⟩ := h.2.2 (by omega)
  refine ⟨ad, e, fun j p hj => ?_⟩
  rw [List.getElem?_take] at hj
  split at hj
  · exact hc j p hj
  · cases hj
theorem reads_drop {α : Type} {K : α → List Value → Prop} {sz : Nat} {W : World} {A A2 : Option Addr} {n k m : Nat} {ys : List α} (h : ReadsRow K sz W A n ys) (hm : m = n - k) (hA : 0 < m → A2 = A.map (·.add (k * sz))) : ReadsRow K sz W A2 m (ys.drop k) := by
  refine ⟨by rw [List.length_drop, h.1, hm], by have := h.2.1; omega, fun hp => ?_⟩
  obtain ⟨ad, e, hc⟩ := h.2.2 (by omega)
  subst e
  refine ⟨ad.add (k * sz), hA hp, fun j p hj => ?_⟩
  rw [List.getElem?_drop] at hj
  obtain ⟨cs, h1, h2, h3⟩ := hc (k + j) p hj
  refine ⟨cs, h1, h2, fun i u hu => ?_⟩
  have := h3 i u hu
  rw [Go.Deep.add_add]
  rw [show k * sz + (j * sz + i) = (k + j) * sz + i from by rw [Nat.add_mul, Nat.add_assoc]]
  exact this
/-- Where a zone comes in. -/
def posZ (ds : List SZ) (x : S82) : Nat := ((ds.map (·.1)).takeWhile (low x)).length
def insD (ds : List SZ) (d : SZ) : List SZ := ds.take (posZ ds d.1) ++ d :: ds.drop (posZ ds d.1)
theorem pos_le (ds : List SZ) (x : S82) : posZ ds x ≤ ds.length := by
  have := List.takeWhile_append_dropWhile (p := low x) (l := ds.map (·.1))
  have := congrArg List.length this
  rw [List.length_append, List.length_map] at this
  unfold posZ
  omega
theorem ins_map (ds : List SZ) (d : SZ) : (insD ds d).map (·.1) = addZ (ds.map (·.1)) d.1 := by
  unfold insD addZ
  have e := List.takeWhile_append_dropWhile (p := low d.1) (l := ds.map (·.1))
  rw [List.map_append, List.map_cons, List.map_take, List.map_drop]
  have h1 : (ds.map (·.1)).take (posZ ds d.1) = (ds.map (·.1)).takeWhile (low d.1) := by
    conv => lhs; rw [← e]
    exact List.take_left' rfl
  have h2 : (ds.map (·.1)).drop (posZ ds d.1) = (ds.map (·.1)).dropWhile (low d.1) := by
    conv => lhs; rw [← e]
    exact List.drop_left' rfl
  rw [h1, h2]
theorem pos_iff {ds : List SZ} {x : S82} (hI : Inv (ds.map (·.1))) {i : Nat} {d : SZ} (hd : ds[i]? = some d) : d.1.f0 < x.f0 ↔ i < posZ ds x := by
  have hl := (List.getElem?_eq_some_iff.1 hd).1
  have e := List.takeWhile_append_dropWhile (p := low x) (l := ds.map (·.1))
  have hm : (ds.map (·.1))[i]? = some d.1 := by rw [List.getElem?_map, hd]; rfl
  rw [← e] at hm
  unfold posZ
  by_cases hi : i < ((ds.map (·.1)).takeWhile (low x)).length
  · rw [List.getElem?_append_left hi] at hm
    exact ⟨fun _ => hi, fun _ => take_low x _ _ (List.mem_iff_getElem?.2 ⟨i, hm⟩)⟩
  · rw [List.getElem?_append_right (by omega)] at hm
    have := drop_high x _ hI.rise _ (List.mem_iff_getElem?.2 ⟨_, hm⟩)
    exact ⟨fun h => by omega, fun h => absurd h hi⟩
theorem fine_dec (a b : Int) (l o : List Int) : ∃ r : Bool, r = true ↔ Fine a b l o := by
  by_cases h : Fine a b l o
  · exact ⟨true, by simp [h]⟩
  · exact ⟨false, by simp [h]⟩
theorem May_calls (x : S82) (A4 : Option Addr) (c4 : Nat) (A5 : Option Addr) (c5 : Nat) (w : World) (hL : Lie w (x, (A4, c4), (A5, c5))) (hn4 : x.f4.length ≤ 100) (hn5 : x.f5.length ≤ 100) (r : Bool) (hr : r = true ↔ Ok x) :
    Calls Try.prog 76 #[.agg #[.int .i64 x.f0, .int .i64 x.f1, .int .i64 x.f2, .int .i64 x.f3, .slice A4 x.f4.length c4, .slice A5 x.f5.length c5]] w fun e w' => e = .returned (.bool r) ∧ Below w.heap.size w w' := by
  by_cases hP : Places x.f0 x.f1 x.f2 x.f3
  · obtain ⟨r1, h1⟩ := fine_dec x.f0 x.f1 x.f4 x.f5
    obtain ⟨r2, h2⟩ := fine_dec x.f0 x.f1 x.f5 x.f4
    have e : r = (r1 && r2) := by
      rw [Bool.eq_iff_iff, hr, Bool.and_eq_true, h1, h2]
      exact ⟨fun h => h.2, fun h => ⟨hP, h⟩⟩
    rw [e]
    exact May_yes x.f0 x.f1 x.f2 x.f3 A4 c4 x.f4 A5 c5 x.f5 w hL.1.1 hL.1.2 hL.2.1 hL.2.2 hn4 hn5 hP r1 r2 h1 h2
  · have e : r = false := by
      cases r with
      | false => rfl
      | true => exact absurd (hr.1 rfl).1 hP
    rw [e]
    exact May_no x.f0 x.f1 x.f2 x.f3 (.bool true) (.bool true) A4 x.f4.length c4 A5 x.f5.length c5 w hP
def TakesD (ds : List SZ) (x : S82) : Prop := Ok x ∧ ∀ d ∈ ds, clash x d.1 = false
set_option maxHeartbeats 8000000 in
set_option maxRecDepth 100000 in
theorem DAdd_calls {w0 w : World} {l : List Asn} {v : Value} {ds : List SZ} (h : Sat w0 w (ADoc w0.heap.size v ds :: l)) (hn : ds.length ≤ 900) (hI : Inv (ds.map (·.1))) (x : S82) (A4 : Option Addr) (c4 : Nat) (A5 : Option Addr) (c5 : Nat) (hL : Lie w (x, (A4, c4), (A5, c5))) (hn4 : x.f4.length ≤ 100) (hn5 : x.f5.length ≤ 100) (r : Bool) (hr : r = true ↔ TakesD ds x) :
    Calls Try.prog 38 #[v, .agg #[.int .i64 x.f0, .int .i64 x.f1, .int .i64 x.f2, .int .i64 x.f3, .slice A4 x.f4.length c4, .slice A5 x.f5.length c5]] w fun e w' => ∃ v', e = .returned (.tuple #[v', .bool r]) ∧ Sat w0 w' (ADoc w0.heap.size v' (if r = true then insD ds (x, (A4, c4), (A5, c5)) else ds) :: l) := by
  obtain ⟨A, c, rfl, hc, _⟩ := doc_reads h
  have HN := Aside0.mk hn
  have HI := Aside0.mk hI
  have HR := Aside0.mk hr
  have hu82 := Try.underlying82
  obtain ⟨W, hWe⟩ : ∃ W, w.alloc (.cells #[.int .i64 x.f0, .int .i64 x.f1, .int .i64 x.f2, .int .i64 x.f3, .slice A4 x.f4.length c4, .slice A5 x.f5.length c5] 82) = W := ⟨_, rfl⟩
  obtain ⟨b, hb⟩ : ∃ b, w.heap.size = b := ⟨_, rfl⟩
  have hW := Aside0.mk (show Sat w0 W (ABlk b (.cells #[.int .i64 x.f0, .int .i64 x.f1, .int .i64 x.f2, .int .i64 x.f3, .slice A4 x.f4.length c4, .slice A5 x.f5.length c5] 82 (0, 0)) :: ADoc w0.heap.size (.slice A ds.length c) ds :: l) from by rw [← hWe, ← hb]; exact blk_new h _)
  have hLW : Lie W (x, (A4, c4), (A5, c5)) := hL.below (by rw [← hWe]; exact below_alloc (Below.refl _ _) _)
  obtain ⟨r0, hr0⟩ : ∃ r : Bool, r = true ↔ Ok x := by
    by_cases ho : Ok x
    · exact ⟨true, by simp [ho]⟩
    · exact ⟨false, by simp [ho]⟩
  have HM := Aside0.mk (May_calls x A4 c4 A5 c5 W hLW hn4 hn5 r0 hr0)
  have HR0 := Aside0.mk hr0
  have y0 : W.cell? ⟨b, 0, none⟩ = some (.int .i64 x.f0) := get_cell (blk_at hW.out) 0
  have y1 : W.cell? ⟨b, 1, none⟩ = some (.int .i64 x.f1) := get_cell (blk_at hW.out) 1
  have y2 : W.cell? ⟨b, 2, none⟩ = some (.int .i64 x.f2) := get_cell (blk_at hW.out) 2
  have y3 : W.cell? ⟨b, 3, none⟩ = some (.int .i64 x.f3) := get_cell (blk_at hW.out) 3
  have y4 : W.cell? ⟨b, 4, none⟩ = some (.slice A4 x.f4.length c4) := get_cell (blk_at hW.out) 4
  have y5 : W.cell? ⟨b, 5, none⟩ = some (.slice A5 x.f5.length c5) := get_cell (blk_at hW.out) 5
  clear h hn hI hr hc hL hLW hr0
  go_enter Try.func38, Try.ntmps38
  go_upto_region 1 with fail
  try rw [hWe]
  clear hWe
  try rw [hb]
  clear hb
  go_wp2_with fail
  (with_reducible refine HM.out.mono ?_)
  rintro e1 w1 ⟨rfl, hb1⟩
  have HB1 := Aside0.mk (hW.out.below hb1)
  clear hb1 y0 y1 y2 y3 y4 y5 HM hW
  cases r0 with
  | false =>
    have hno : ¬ Ok x := fun h => by have := HR0.out.2 h; cases this
    have er : r = false := by
      cases r with
      | false => rfl
      | true => exact absurd (HR.out.1 rfl).1 hno
    subst er
    clear hno
    go_wp2_with fail
    go_ret2
    exact ⟨_, by rfl, HB1.out.drop⟩
  | true =>
    have HO := Aside0.mk (HR0.out.1 rfl)
    clear HR0
    go_wp2_with fail
    go_loopg [7, 8] (ds.length + 1) (fun kq v7 v8 w' => ∃ i : Nat, v8 = .int .i64 i ∧ v7 = .int .i64 (min i (posZ ds x) : Nat) ∧ Aside0 (i ≤ ds.length ∧ ds.length - i < kq) ∧ Aside0 (∀ d ∈ ds.take i, clash x d.1 = false) ∧ Aside0 (Sat w0 w' (ABlk b (.cells #[.int .i64 x.f0, .int .i64 x.f1, .int .i64 x.f2, .int .i64 x.f3, .slice A4 x.f4.length c4, .slice A5 x.f5.length c5] 82 (0, 0)) :: ADoc w0.heap.size (.slice A ds.length c) ds :: l)))
    case atStart => exact ⟨0, rfl, by simp, ⟨by omega⟩, ⟨by simp⟩, HB1⟩
    case round =>
      clear HB1
      obtain ⟨i, rfl, rfl, Hi, HCL, HS⟩ := hrel
      obtain ⟨wo, rfl⟩ : ∃ y, y = wr := ⟨wr, rfl⟩
      have HP := Aside0.mk (pos_le ds x)
      by_cases hlt : i < ds.length
      · obtain ⟨d, hd⟩ : ∃ d, ds[i]? = some d := ⟨_, List.getElem?_eq_getElem hlt⟩
        obtain ⟨A', c', ev, _, hC⟩ := doc_reads HS.out.drop
        injection ev with ev1 _ ev2
        subst ev1 ev2
        obtain ⟨ad, eA, y0, y1, y2, y3, y4, y5⟩ := raw_enc hC hd
        subst eA
        have HD := Aside0.mk hd
        have HPI := Aside0.mk (pos_iff (x := x) HI.out hd)
        have p1 : (i < ds.length) = True := eq_true hlt
        have d0 : decide ((i : Int) < (ds.length : Int)) = true := decide_eq_true (by omega)
        have p9 : (i : Int) ≤ 1000 := by have := HN.out; omega
        have p8 : 0 ≤ (i : Int) := by omega
        have p7 : (i : Int) < (ds.length : Int) := by omega
        have z0 : wo.cell? ⟨b, 0, none⟩ = some (.int .i64 x.f0) := get_cell (blk_at HS.out) 0
        have z3 : wo.cell? ⟨b, 3, none⟩ = some (.int .i64 x.f3) := get_cell (blk_at HS.out) 3
        have HNX := Aside0.mk (show clash x d.1 = false → ∀ d ∈ ds.take (i + 1), clash x d.1 = false from fun hq d' hd' => by
          rw [List.take_add_one, HD.out] at hd'
          rcases List.mem_append.1 hd' with h | h
          · exact HCL.out d' h
          · simp at h; rw [h]; exact hq)
        clear hC hlt hd y1 y2 y4 y5
        by_cases c1 : d.1.f0 < x.f3
        · have e1 : (d.1.f0 < x.f3) = True := eq_true c1
          have e2 : decide (d.1.f0 < x.f3) = true := decide_eq_true c1
          by_cases c2 : x.f0 < d.1.f3
          · have e3 : (x.f0 < d.1.f3) = True := eq_true c2
            have e4 : decide (x.f0 < d.1.f3) = true := decide_eq_true c2
            have er : r = false := by
              cases r with
              | false => rfl
              | true =>
                have := (HR.out.1 rfl).2 d (List.mem_iff_getElem?.2 ⟨i, HD.out⟩)
                simp [clash, c1, c2] at this
            subst er
            clear c1 c2
            go_wp2_with fail
            go_quiet (fail)
            go_wp2_with fail
            go_ret2
            exact ⟨_, by rfl, (HS.out.drewN _).drop⟩
          · have e3 : (x.f0 < d.1.f3) = False := eq_false c2
            have e4 : decide (x.f0 < d.1.f3) = false := decide_eq_false c2
            have HNY := Aside0.mk (HNX.out (by simp [clash, c2]))
            clear c1 c2
            go_wp2_with fail
            go_quiet (fail)
            go_wp2_with fail
            by_cases c3 : d.1.f0 < x.f0
            · have u1 : (d.1.f0 < x.f0) = True := eq_true c3
              have u2 : decide (d.1.f0 < x.f0) = true := decide_eq_true c3
              have hm : (min (i + 1) (posZ ds x) : Nat) = i + 1 := by have := HPI.out.1 c3; omega
              have HMN := Aside0.mk hm
              clear c3 hm
              go_quiet (fail)
              go_wp2_with fail
              go_roundg (gk - 1)
              case measure => have := Hi.out; have := of_eq_true p1; omega
              case rel => exact ⟨i + 1, by go_num, by rw [HMN.out]; go_num, ⟨by have := Hi.out; have := of_eq_true p1; omega⟩, HNY, ⟨HS.out.drewN _⟩⟩
            · have u1 : (d.1.f0 < x.f0) = False := eq_false c3
              have u2 : decide (d.1.f0 < x.f0) = false := decide_eq_false c3
              have hm : (min (i + 1) (posZ ds x) : Nat) = min i (posZ ds x) := by have hni : ¬ i < posZ ds x := fun h => c3 (HPI.out.2 h); omega
              have HMN := Aside0.mk hm
              clear c3 hm
              go_quiet (fail)
              go_wp2_with fail
              go_roundg (gk - 1)
              case measure => have := Hi.out; have := of_eq_true p1; omega
              case rel => exact ⟨i + 1, by go_num, by rw [HMN.out], ⟨by have := Hi.out; have := of_eq_true p1; omega⟩, HNY, ⟨HS.out.drewN _⟩⟩
        · have e1 : (d.1.f0 < x.f3) = False := eq_false c1
          have e2 : decide (d.1.f0 < x.f3) = false := decide_eq_false c1
          have HNY := Aside0.mk (HNX.out (by simp [clash, c1]))
          clear c1
          go_wp2_with fail
          go_quiet (fail)
          go_wp2_with fail
          by_cases c3 : d.1.f0 < x.f0
          · have u1 : (d.1.f0 < x.f0) = True := eq_true c3
            have u2 : decide (d.1.f0 < x.f0) = true := decide_eq_true c3
            have hm : (min (i + 1) (posZ ds x) : Nat) = i + 1 := by have := HPI.out.1 c3; omega
            have HMN := Aside0.mk hm
            clear c3 hm
            go_quiet (fail)
            go_wp2_with fail
            go_roundg (gk - 1)
            case measure => have := Hi.out; have := of_eq_true p1; omega
            case rel => exact ⟨i + 1, by go_num, by rw [HMN.out]; go_num, ⟨by have := Hi.out; have := of_eq_true p1; omega⟩, HNY, ⟨HS.out.drewN _⟩⟩
          · have u1 : (d.1.f0 < x.f0) = False := eq_false c3
            have u2 : decide (d.1.f0 < x.f0) = false := decide_eq_false c3
            have hm : (min (i + 1) (posZ ds x) : Nat) = min i (posZ ds x) := by have hni : ¬ i < posZ ds x := fun h => c3 (HPI.out.2 h); omega
            have HMN := Aside0.mk hm
            clear c3 hm
            go_quiet (fail)
            go_wp2_with fail
            go_roundg (gk - 1)
            case measure => have := Hi.out; have := of_eq_true p1; omega
            case rel => exact ⟨i + 1, by go_num, by rw [HMN.out], ⟨by have := Hi.out; have := of_eq_true p1; omega⟩, HNY, ⟨HS.out.drewN _⟩⟩
      · have p1 : (i < ds.length) = False := eq_false hlt
        have d0 : decide ((i : Int) < (ds.length : Int)) = false := decide_eq_false (by omega)
        have hi : i = ds.length := by have := Hi.out; omega
        have er : r = true := HR.out.2 ⟨HO.out, fun d hd => HCL.out d (by rw [hi, List.take_length]; exact hd)⟩
        subst er
        have hm : min i (posZ ds x) = posZ ds x := by have := HP.out; omega
        rw [hm]
        have HMP := Aside0.mk (show (insD ds (x, (A4, c4), (A5, c5))).map encZ = (ds.map encZ).take (posZ ds x) ++ [encZ (x, (A4, c4), (A5, c5))] ++ (ds.map encZ).drop (posZ ds x) from by
          unfold insD
          rw [List.map_append, List.map_cons, List.map_take, List.map_drop, List.append_assoc]
          rfl)
        obtain ⟨A', c', ev, hcc, hC⟩ := doc_reads HS.out.drop
        injection ev with ev1 evl ev2
        clear evl
        subst ev1 ev2
        obtain ⟨_, hP, _⟩ := HS.out.drop.head
        obtain ⟨hok, inner, hown, hrep⟩ := hP
        have hkl : posZ ds x ≤ ds.length := HP.out
        generalize posZ ds x = k at hm hkl HMP ⊢
        have HKL := Aside0.mk hkl
        have hlm : (ds.map encZ).length = ds.length := List.length_map _
        have HT := Aside0.mk (show ((ds.map encZ).take k).length = k from by rw [List.length_take, hlm]; omega)
        have HHR := Aside0.mk HS.out.toBelow.size
        have HN2 := Aside0.mk (show ds.length ≤ 900 from HN.out)
        clear hm hlt HP HI HCL
        have hu72 := Try.underlying72
        go_upto_region 12 with (fail)
        rcases hown.2 with ⟨hv, h0⟩ | ⟨g3, cap, cur, hv, hbase, hg, _, hcap, hcs, htk⟩
        · injection hv with hv1 hv2 hv3
          have hds : ds = [] := List.eq_nil_of_length_eq_zero hv2
          subst hv1
          subst hv3
          subst hds
          have hk0 : k = 0 := by simpa using hkl
          subst hk0
          clear hC hok hown hrep hlm hkl hi HMP HT HKL h0 hv2 hcc
          have z0 : wo.cell? ⟨b, 0, none⟩ = some (.int .i64 x.f0) := get_cell (blk_at HS.out) 0
          go_upto_region 13 with (at_builtin; refine Kd.R_append_rows (Kd.raw 6) (Rr := fun x cs => cs = x ∧ cs.length = 6 ∧ ∀ u ∈ cs, u.oneCell' = true) (w0 := wo) (W := wo.alloc (.cells #[] 82)) wo.heap.size rfl (.tmp 50) (.tmp 53) 72 82 _ 80 rfl Try.underlying72 info82r rfl (by decide) (by decide) _ [] [] none 0 0 (fun _ => True) (fun _ => False) rfl rfl (empty_R (Kd.raw 6) 82 wo) ⟨rfl, Nat.zero_le _, fun h => absurd h (Nat.lt_irrefl _)⟩ (fun _ _ h => h) (fun _ h => h.elim) (fun _ _ => trivial) (below_alloc (Below.refl _ _) _) (below_alloc (Below.refl wo.heap.size wo) _).size (by decide) ?_; intro v6 w6 hR6 hB6 _ _; have HR6 := Aside0.mk hR6; have HB6 := Aside0.mk hB6; clear hR6 hB6; have z0 : w6.cell? ⟨b, 0, none⟩ = some (.int .i64 x.f0) := get_cell (blk_at (HS.out.below HB6.out)) 0; have z1 : w6.cell? ⟨b, 1, none⟩ = some (.int .i64 x.f1) := get_cell (blk_at (HS.out.below HB6.out)) 1; have z2 : w6.cell? ⟨b, 2, none⟩ = some (.int .i64 x.f2) := get_cell (blk_at (HS.out.below HB6.out)) 2; have z3 : w6.cell? ⟨b, 3, none⟩ = some (.int .i64 x.f3) := get_cell (blk_at (HS.out.below HB6.out)) 3; have z4 : w6.cell? ⟨b, 4, none⟩ = some (.slice A4 x.f4.length c4) := get_cell (blk_at (HS.out.below HB6.out)) 4; have z5 : w6.cell? ⟨b, 5, none⟩ = some (.slice A5 x.f5.length c5) := get_cell (blk_at (HS.out.below HB6.out)) 5)
          go_upto_region 14 with (at_builtin; refine Kd.R_append (Kd.raw 6) (w0 := wo) (W := w6) wo.heap.size rfl (.tmp 55) (.tmp 57) 72 82 _ 80 rfl Try.underlying72 info82r rfl (by decide) (by decide) _ [] (encZ (x, (A4, c4), (A5, c5))) (encZ (x, (A4, c4), (A5, c5))) (fun _ => True) (fun _ => False) rfl rfl ⟨rfl, rfl, encZ_one _⟩ (fun _ h => h.elim) (fun _ _ => trivial) HR6.out HB6.out HB6.out.size (by decide) ?_; intro v7 w7 hR7 hB7 _ _; have HR7 := Aside0.mk hR7; have HB7 := Aside0.mk hB7; clear hR7 hB7)
          clear z0 z1 z2 z3 z4 z5
          go_wp2_with (at_builtin; refine Kd.R_append_rows (Kd.raw 6) (Rr := fun x cs => cs = x ∧ cs.length = 6 ∧ ∀ u ∈ cs, u.oneCell' = true) (w0 := wo) (W := w7) wo.heap.size rfl (.tmp 59) (.tmp 62) 72 82 _ 80 rfl Try.underlying72 info82r rfl (by decide) (by decide) _ [encZ (x, (A4, c4), (A5, c5))] [] none 0 0 (fun _ => True) (fun _ => False) rfl rfl HR7.out ⟨rfl, Nat.zero_le _, fun h => absurd h (Nat.lt_irrefl _)⟩ (fun _ _ h => h) (fun _ h => h.elim) (fun _ _ => trivial) HB7.out HB7.out.size (by simp) ?_; intro v8 w8 hR8 hB8 _ _; have HR8 := Aside0.mk hR8; have HB8 := Aside0.mk hB8; clear hR8 hB8)
          all_goals (
            go_ret2
            exact ⟨_, by rfl, ((show Sat w0 w8 (ADoc w0.heap.size v8 (insD [] (x, (A4, c4), (A5, c5))) :: _ :: _ :: l) from HS.out.newRow HB8.out (by rw [show (insD [] (x, (A4, c4), (A5, c5))).map encZ = [encZ (x, (A4, c4), (A5, c5))] from by simp [insD]]; exact HR8.out) HHR.out).swap.drop).swap.drop⟩)
        · injection hv with hv1 hvl hv2
          clear hvl
          subst hv1 hv2
          have HRT := Aside0.mk (show (Kd.raw 6).C (wo.alloc (.cells #[] 82)) (some ⟨g3, 0, none⟩) k ((ds.map encZ).take k) from reads_take (Kd.C_below hC (below_alloc (Below.refl _ _) _)) (by omega))
          have HRD := Aside0.mk (show (Kd.raw 6).C wo (if c = k then some ⟨g3, 0, none⟩ else some ⟨g3, k * 6, none⟩) (ds.length - k) ((ds.map encZ).drop k) from by
            refine reads_drop hC rfl (fun hp => ?_)
            rw [if_neg (by omega)]
            show _ = some ((⟨g3, 0, none⟩ : Addr).add _)
            rw [add_plain]; rfl)
          have p6 : (k ≤ c) = True := eq_true (by omega)
          have p5 : 0 ≤ (k : Int) := by omega
          have p8 : (k : Int) ≤ 1000 := by have := HN2.out; omega
          have p10 : (k : Int) ≤ ds.length := by omega
          have p11 : ds.length ≤ c := hcc
          clear hC hok hown hrep hbase hg hcap hcs htk hlm hkl hi
          go_upto_region 13 with (at_builtin; refine Kd.R_append_rows (Kd.raw 6) (Rr := fun x cs => cs = x ∧ cs.length = 6 ∧ ∀ u ∈ cs, u.oneCell' = true) (w0 := wo) (W := wo.alloc (.cells #[] 82)) wo.heap.size rfl (.tmp 50) (.tmp 53) 72 82 _ 80 rfl Try.underlying72 info82r rfl (by decide) (by decide) _ [] ((ds.map encZ).take k) (some ⟨g3, 0, none⟩) k c (fun _ => True) (fun _ => False) rfl rfl (empty_R (Kd.raw 6) 82 wo) HRT.out (fun _ _ h => h) (fun _ h => h.elim) (fun _ _ => trivial) (below_alloc (Below.refl _ _) _) (below_alloc (Below.refl wo.heap.size wo) _).size (by show (0 + k) * 80 ≤ _; omega) ?_; intro v6 w6 hR6 hB6 _ _; rw [List.nil_append] at hR6; have HR6 := Aside0.mk hR6; have HB6 := Aside0.mk hB6; clear hR6 hB6; have z0 : w6.cell? ⟨b, 0, none⟩ = some (.int .i64 x.f0) := get_cell (blk_at (HS.out.below HB6.out)) 0; have z1 : w6.cell? ⟨b, 1, none⟩ = some (.int .i64 x.f1) := get_cell (blk_at (HS.out.below HB6.out)) 1; have z2 : w6.cell? ⟨b, 2, none⟩ = some (.int .i64 x.f2) := get_cell (blk_at (HS.out.below HB6.out)) 2; have z3 : w6.cell? ⟨b, 3, none⟩ = some (.int .i64 x.f3) := get_cell (blk_at (HS.out.below HB6.out)) 3; have z4 : w6.cell? ⟨b, 4, none⟩ = some (.slice A4 x.f4.length c4) := get_cell (blk_at (HS.out.below HB6.out)) 4; have z5 : w6.cell? ⟨b, 5, none⟩ = some (.slice A5 x.f5.length c5) := get_cell (blk_at (HS.out.below HB6.out)) 5)
          go_upto_region 14 with (at_builtin; refine Kd.R_append (Kd.raw 6) (w0 := wo) (W := w6) wo.heap.size rfl (.tmp 55) (.tmp 57) 72 82 _ 80 rfl Try.underlying72 info82r rfl (by decide) (by decide) _ ((ds.map encZ).take k) (encZ (x, (A4, c4), (A5, c5))) (encZ (x, (A4, c4), (A5, c5))) (fun _ => True) (fun _ => False) rfl rfl ⟨rfl, rfl, encZ_one _⟩ (fun _ h => h.elim) (fun _ _ => trivial) HR6.out HB6.out HB6.out.size (by rw [HT.out]; have := HKL.out; have := HN2.out; omega) ?_; intro v7 w7 hR7 hB7 _ _; have HR7 := Aside0.mk hR7; have HB7 := Aside0.mk hB7; clear hR7 hB7)
          clear z0 z1 z2 z3 z4 z5
          go_wp2_with (at_builtin; refine Kd.R_append_rows (Kd.raw 6) (Rr := fun x cs => cs = x ∧ cs.length = 6 ∧ ∀ u ∈ cs, u.oneCell' = true) (w0 := wo) (W := w7) wo.heap.size rfl (.tmp 59) (.tmp 62) 72 82 _ 80 rfl Try.underlying72 info82r rfl (by decide) (by decide) _ ((ds.map encZ).take k ++ [encZ (x, (A4, c4), (A5, c5))]) ((ds.map encZ).drop k) (if c = k then some ⟨g3, 0, none⟩ else some ⟨g3, k * 6, none⟩) (ds.length - k) (c - k) (fun _ => True) (fun _ => False) rfl rfl HR7.out (Kd.C_below HRD.out HB7.out) (fun _ _ h => h) (fun _ h => h.elim) (fun _ _ => trivial) HB7.out HB7.out.size (by rw [List.length_append, HT.out, List.length_singleton]; have := HKL.out; have := HN2.out; omega) ?_; intro v8 w8 hR8 hB8 _ _; have HR8 := Aside0.mk hR8; have HB8 := Aside0.mk hB8; clear hR8 hB8)
          all_goals (
            go_ret2
            exact ⟨_, by rfl, ((show Sat w0 w8 (ADoc w0.heap.size v8 (insD ds (x, (A4, c4), (A5, c5))) :: _ :: _ :: l) from HS.out.newRow HB8.out (by rw [HMP.out]; exact HR8.out) HHR.out).swap.drop).swap.drop⟩)
end Go.Proofs.Ytkeijpngfnmjoaa.MineZone
end
section
namespace Go.Proofs.Ytkeijpngfnmjoaa.MineZone
open Go.Lib Go.Shelf Go.RowKit Go.MapKept Go.Proofs.YtkeijpngfnmjoaaW.PrintWords Go.Proofs.YtkeijpngfnmjoaaW.PrintLast Go.Proofs.YtkeijpngfnmjoaaW.PrintMore Go.Proofs.Ytkeijpngfnmjoaa.MineBase Go.Proofs.Ytkeijpngfnmjoaa.MineSep Go.Proofs.Ytkeijpngfnmjoaa.MineRows Go.Proofs.Ytkeijpngfnmjoaa.MineGen Go.Proofs.Ytkeijpngfnmjoaa.QZonePlays Go.Proofs.Ytkeijpngfnmjoaa.MineMap
attribute [local go_sem ↓] Go.wp_at_zero Go.wp_at_succ
set_option linter.unusedVariables false
set_option linter.unusedSimpArgs false
attribute [local go_sem] Go.Proofs.Ytkeijpngfnmjoaa.MineErr.eql_err Go.Proofs.Ytkeijpngfnmjoaa.MineErr.neq_err Go.Proofs.Ytkeijpngfnmjoaa.MineErr.eql_nil_err Go.Proofs.Ytkeijpngfnmjoaa.MineErr.neq_nil_err
theorem takes_map {ds : List SZ} {x : S82} : TakesD ds x ↔ Takes (ds.map (·.1)) x := by
  unfold TakesD Takes
  constructor
  · rintro ⟨h1, h2⟩
    refine ⟨h1, fun y hy => ?_⟩
    obtain ⟨d, hd, rfl⟩ := List.mem_map.1 hy
    exact h2 d hd
  · rintro ⟨h1, h2⟩
    exact ⟨h1, fun d hd => h2 _ (List.mem_map.2 ⟨d, hd, rfl⟩)⟩
set_option maxHeartbeats 2000000 in
set_option maxRecDepth 100000 in
theorem As_calls (x : S82) (A4 : Option Addr) (c4 : Nat) (A5 : Option Addr) (c5 : Nat) (w : World) :
    Calls Try.prog 39 #[.agg #[.int .i64 x.f0, .int .i64 x.f1, .int .i64 x.f2, .int .i64 x.f3, .slice A4 x.f4.length c4, .slice A5 x.f5.length c5]] w fun e w' => e = .returned (.agg #[.int .i64 x.f0, .int .i64 x.f1, .int .i64 x.f2, .int .i64 x.f3, .slice A4 x.f4.length c4, .slice A5 x.f5.length c5]) ∧ Below w.heap.size w w' := by
  have hu75 := Try.underlying75
  have hu82 := Try.underlying82
  have HX := Aside0.mk (blk_new2 (Sat.start w) (.cells #[.int .i64 x.f0, .int .i64 x.f1, .int .i64 x.f2, .int .i64 x.f3, .slice A4 x.f4.length c4, .slice A5 x.f5.length c5] 75) (.cells #[.int .i64 0, .int .i64 0, .int .i64 0, .int .i64 0, .slice none 0 0, .slice none 0 0] 82))
  go_enter Try.func39, Try.ntmps39
  go_wp2_with (refine wpList_store_row rfl 82 (.tmp 2) (.tmp 15) rfl (w.heap.size + 1) #[.int .i64 x.f0, .int .i64 x.f1, .int .i64 x.f2, .int .i64 x.f3, .slice A4 x.f4.length c4, .slice A5 x.f5.length c5] rfl rfl 82 _ (blk_at HX.out) (by kernel_rfl) rfl (by simp [Value.oneCell']) ?_; have HX7 := Aside0.mk (blk_row (cs := #[.int .i64 x.f0, .int .i64 x.f1, .int .i64 x.f2, .int .i64 x.f3, .slice A4 x.f4.length c4, .slice A5 x.f5.length c5]) HX.out))
  exact bodyPost_ret (v := .agg _) (results_cell_row rfl _ _ (w.heap.size + 1) 82 _ (0, 0) _ rfl (blk_at HX7.out) Try.underlying82 rfl (by kernel_rfl)) rfl ⟨by rfl, HX7.out.toBelow⟩
end Go.Proofs.Ytkeijpngfnmjoaa.MineZone
end
