/- Objects of modules: what one is made of in memory; which may be a module, in plain words. No condition. -/
import Derived.Test.YtnflalbiffamdaaMineGen
import Derived.Test.YtnflalbiffamdaaQCheckTellsx0
namespace Go.Proofs.Ytnflalbiffamdaa.MineObj
open Go.RowKit Go.MapKept Go.Proofs.YtnflalbiffamdaaW.PrintWords Go.Proofs.YtnflalbiffamdaaW.PrintLast Go.Proofs.Ytnflalbiffamdaa.MineBase Go.Proofs.Ytnflalbiffamdaa.MineSep Go.Proofs.Ytnflalbiffamdaa.MineRows Go.Proofs.Ytnflalbiffamdaa.MineGen Go.Proofs.Ytnflalbiffamdaa.QCheckTells
set_option linter.unusedVariables false
structure Ob where
  nm : ByteArray
  key : Int
  imps : List S92
  typs : List S130
  data : Int
  text : ByteArray
  code : List Int
  cmds : List S95
  exps : List S43
  ptrs : List Int
  procs : List Int
  x0 : Int
  x1 : Int
  x2 : Int
  body : Int
structure Oa where
  A2 : Option Addr
  A3 : Option Addr
  A6 : Option Addr
  A7 : Option Addr
  A8 : Option Addr
  A9 : Option Addr
  A10 : Option Addr
  c2 : Nat
  c3 : Nat
  c6 : Nat
  c7 : Nat
  c8 : Nat
  c9 : Nat
  c10 : Nat
def cellsO (o : Ob) (a : Oa) : Array Value := #[.string o.nm, .int .u32 o.key, .slice a.A2 o.imps.length a.c2, .slice a.A3 o.typs.length a.c3, .int .i64 o.data, .string o.text, .slice a.A6 o.code.length a.c6, .slice a.A7 o.cmds.length a.c7, .slice a.A8 o.exps.length a.c8, .slice a.A9 o.ptrs.length a.c9, .slice a.A10 o.procs.length a.c10, .int .i64 o.x0, .int .i64 o.x1, .int .i64 o.x2, .int .i64 o.body]
/-- All rows of an object lie there. -/
structure ObR (o : Ob) (a : Oa) (w : World) : Prop where
  r2 : Kd.C k92 w a.A2 o.imps.length o.imps
  r3 : Kd.C k130 w a.A3 o.typs.length o.typs
  r6 : Kd.C (Kd.int .u32) w a.A6 o.code.length o.code
  r7 : Kd.C k95 w a.A7 o.cmds.length o.cmds
  r8 : Kd.C k43 w a.A8 o.exps.length o.exps
  r9 : Kd.C (Kd.int .i64) w a.A9 o.ptrs.length o.ptrs
  r10 : Kd.C (Kd.int .i64) w a.A10 o.procs.length o.procs
  l2 : o.imps.length ≤ a.c2
  l3 : o.typs.length ≤ a.c3
  l6 : o.code.length ≤ a.c6
  l7 : o.cmds.length ≤ a.c7
  l8 : o.exps.length ≤ a.c8
  l9 : o.ptrs.length ≤ a.c9
  l10 : o.procs.length ≤ a.c10
theorem ObR.below {o : Ob} {a : Oa} {w w' : World} (h : ObR o a w) (hb : Below w.heap.size w w') : ObR o a w' :=
  ⟨Kd.C_below h.r2 hb, Kd.C_below h.r3 hb, Kd.C_below h.r6 hb, Kd.C_below h.r7 hb, Kd.C_below h.r8 hb, Kd.C_below h.r9 hb, Kd.C_below h.r10 hb, h.l2, h.l3, h.l6, h.l7, h.l8, h.l9, h.l10⟩
theorem ObR.sat {o : Ob} {a : Oa} {w w' : World} {l : List Asn} (h : ObR o a w) (hs : Sat w w' l) : ObR o a w' := h.below hs.toBelow
/-! ### which may be a module -/
def TypeOk (imps i : Nat) (x : S130) : Prop := 0 ≤ x.f0 ∧ x.f0 ≤ 256 ∧ x.f0 % 4 = 0 ∧ 0 ≤ x.f1 ∧ x.f1 ≤ imps ∧ x.f2 ≤ 63 ∧ (x.f1 = 0 → -1 ≤ x.f2 ∧ x.f2 < i) ∧ (0 < x.f1 → 0 ≤ x.f2)
def ExpOk (o : Ob) (x : S43) : Prop := 0 ≤ x.f1 ∧ (x.f0 = 0 ∧ x.f1 < o.code.length ∨ x.f0 = 1 ∧ x.f1 < o.data ∨ x.f0 = 2 ∧ x.f1 < o.typs.length)
def SizesOk (o : Ob) : Prop := 0 ≤ o.data ∧ o.data ≤ 64 ∧ o.text.size ≤ 60 ∧ 1 ≤ o.code.length ∧ o.code.length ≤ 256 ∧ 0 ≤ o.body ∧ o.body ≤ o.code.length ∧ o.typs.length ≤ 8 ∧ o.exps.length ≤ 64 ∧ o.ptrs.length ≤ 16 ∧ o.procs.length ≤ 16
def TypesOk (o : Ob) : Prop := ∀ (i : Nat) (x : S130), o.typs[i]? = some x → TypeOk o.imps.length i x
def ExpsOk (o : Ob) : Prop := ∀ (i : Nat) (x : S43), o.exps[i]? = some x → ExpOk o x
def CellsOk (o : Ob) : Prop := (∀ n ∈ o.ptrs ++ o.procs, 0 ≤ n ∧ n < o.data) ∧ o.ptrs.Pairwise (· < ·) ∧ o.procs.Pairwise (· < ·) ∧ ∀ n ∈ o.ptrs, n ∉ o.procs
def PartsOk (o : Ob) : Prop := SizesOk o ∧ TypesOk o ∧ ExpsOk o ∧ CellsOk o
theorem blk_row {w0 W : World} {l : List Asn} {b : Nat} {old cs : Array Value} {t : TypeId} (h : Sat w0 W (ABlk b (.cells old t (0, 0)) :: l)) : Sat w0 (W.setRow b cs) (ABlk b (.cells cs t (0, 0)) :: l) := by
  obtain ⟨D, h1, hD, _, hcl⟩ := h.open_
  have hf : ∀ i, i ≠ b → (W.setRow b cs).heap[i]? = W.heap[i]? := fun i hi => by
    simp only [World.setRow, Array.getElem?_modify]
    rw [if_neg (fun e => hi e.symm)]
  have hs : (W.setRow b cs).heap.size = W.heap.size := by simp [World.setRow]
  have hbb := (hD b h1.2)
  refine hcl _ (ABlk b _) D ?_ ⟨by omega, fun i hi hn => hf i (fun e => hn (by rw [e]; exact h1.2))⟩ ⟨?_, h1.2⟩ (fun k hk => .inl hk)
  · exact h.toBelow.grown (show W.grownBy (W.setRow b cs) (some b) from ⟨rfl, rfl, rfl, by simp, fun i _ hi => setRow_other W b i cs (fun e => hi (by rw [e]))⟩) h.size (fun k hk => by injection hk with hk; subst hk; exact hbb.1)
  · simp [World.setRow, Array.getElem?_modify, h1.1]
/-! ### a row of marks -/
def MB (L : List Int) (m : Nat) : List Bool := (List.range m).map fun (j : Nat) => decide ((j : Int) ∈ L)
def mbA (l : List Bool) : Array Value := (l.map Value.bool).toArray
theorem mb_make (m : Nat) : madeCells #[.bool false] m = mbA (MB [] m) := by
  have e : MB [] m = List.replicate m false := by
    unfold MB
    apply List.ext_getElem
    · simp
    · intro i h1 h2; simp
  rw [e]
  unfold mbA
  apply Array.ext
  · simp [size_madeCells]
  · intro i h1 h2
    simp [madeCells, Nat.mod_one]
theorem mb_get {L : List Int} {m k : Nat} (hk : k < m) : (mbA (MB L m))[k]? = some (.bool (decide ((k : Int) ∈ L))) := by
  simp [mbA, MB, hk]
theorem mb_put {L : List Int} {m k : Nat} (hk : k < m) : (mbA (MB L m)).setIfInBounds k (.bool true) = mbA (MB (L ++ [(k : Int)]) m) := by
  apply Array.ext
  · simp [mbA, MB]
  · intro i h1 h2
    have hm : i < m := by simpa [mbA, MB] using h2
    by_cases h : k = i
    · subst h
      simp [mbA, MB]
    · have h' : ¬ (i : Int) = (k : Int) := by omega
      simp [mbA, MB, h, h']
/-! ### cells in order -/
theorem rise_of : ∀ (l : List Int) (b : Int), (∀ (i : Nat) (n : Int), l[i]? = some n → (if i = 0 then b else l.getD (i - 1) 0) < n) → l.Pairwise (· < ·) ∧ ∀ n ∈ l, b < n
  | [], b, _ => ⟨List.Pairwise.nil, by simp⟩
  | x :: l, b, H => by
    have h0 : b < x := by simpa using H 0 x rfl
    have ih := rise_of l x (fun i n hi => by
      have h := H (i + 1) n (by simpa using hi)
      rw [if_neg (by omega)] at h
      by_cases hz : i = 0
      · subst hz
        simpa using h
      · obtain ⟨k, rfl⟩ : ∃ k, i = k + 1 := ⟨i - 1, by omega⟩
        rw [if_neg hz]
        simpa using h)
    refine ⟨List.pairwise_cons.2 ⟨ih.2, ih.1⟩, fun n hn => ?_⟩
    rcases List.mem_cons.1 hn with rfl | hn
    · exact h0
    · have := ih.2 n hn; omega
def cellsL (o : Ob) : List Int := o.ptrs ++ o.procs
def lastOf (o : Ob) (i : Nat) : Int := if i = o.ptrs.length ∨ i = 0 then -1 else (cellsL o).getD (i - 1) 0
def GoodCell (o : Ob) (i : Nat) (n : Int) : Prop := lastOf o i < n ∧ n < o.data ∧ n ∉ (cellsL o).take i
theorem cells_iff (o : Ob) : CellsOk o ↔ ∀ (i : Nat) (n : Int), (cellsL o)[i]? = some n → GoodCell o i n := by
  constructor
  · rintro ⟨h1, h2, h3, h4⟩ i n hi
    have hm : n ∈ o.ptrs ++ o.procs := List.mem_iff_getElem?.2 ⟨i, hi⟩
    have hr := h1 n hm
    rw [List.pairwise_iff_getElem] at h2 h3
    obtain ⟨hil, hie⟩ : ∃ h : i < (o.ptrs ++ o.procs).length, (o.ptrs ++ o.procs)[i] = n := List.getElem?_eq_some_iff.1 hi
    have hil' : i < o.ptrs.length + o.procs.length := by simpa using hil
    refine ⟨?_, hr.2, fun hx => ?_⟩
    · unfold lastOf
      split
      · omega
      · rename_i hne
        have e : (cellsL o).getD (i - 1) 0 = (o.ptrs ++ o.procs)[i - 1]'(by omega) := by
          unfold cellsL
          rw [List.getD_eq_getElem?_getD, List.getElem?_eq_getElem (by omega)]; rfl
        rw [e, ← hie]
        rcases Nat.lt_or_ge i o.ptrs.length with hlt | hge
        · rw [List.getElem_append_left (by omega), List.getElem_append_left hlt]
          exact h2 _ _ _ _ (by omega)
        · rw [List.getElem_append_right (by omega), List.getElem_append_right hge]
          exact h3 _ _ _ _ (by omega)
    · obtain ⟨j, hj⟩ := List.mem_iff_getElem?.1 hx
      obtain ⟨hjl, hje⟩ : ∃ h : j < ((o.ptrs ++ o.procs).take i).length, ((o.ptrs ++ o.procs).take i)[j] = n := List.getElem?_eq_some_iff.1 hj
      have hji : j < i := by rw [List.length_take] at hjl; omega
      rw [List.getElem_take] at hje
      rcases Nat.lt_or_ge i o.ptrs.length with hlt | hge
      · rw [List.getElem_append_left (by omega)] at hje
        rw [List.getElem_append_left hlt] at hie
        have := h2 j i (by omega) hlt hji
        omega
      · rw [List.getElem_append_right hge] at hie
        rcases Nat.lt_or_ge j o.ptrs.length with hjt | hjg
        · rw [List.getElem_append_left hjt] at hje
          exact h4 n (hje ▸ List.getElem_mem _) (hie ▸ List.getElem_mem _)
        · rw [List.getElem_append_right hjg] at hje
          have := h3 (j - o.ptrs.length) (i - o.ptrs.length) (by omega) (by omega) (by omega)
          omega
  · intro H
    have hp := rise_of o.ptrs (-1) (fun i n hi => by
      have hl := (List.getElem?_eq_some_iff.1 hi).1
      have h := (H i n (by unfold cellsL; rw [List.getElem?_append_left hl]; exact hi)).1
      unfold lastOf at h
      by_cases hz : i = 0
      · rw [if_pos (.inr hz)] at h
        rw [if_pos hz]; exact h
      · rw [if_neg (by omega)] at h
        rw [if_neg hz]
        have e : (cellsL o).getD (i - 1) 0 = o.ptrs.getD (i - 1) 0 := by
          rw [List.getD_eq_getElem?_getD, List.getD_eq_getElem?_getD]; unfold cellsL; rw [List.getElem?_append_left (by omega)]
        rw [← e]; exact h)
    have hq := rise_of o.procs (-1) (fun i n hi => by
      have hl := (List.getElem?_eq_some_iff.1 hi).1
      have h := (H (o.ptrs.length + i) n (by unfold cellsL; rw [List.getElem?_append_right (by omega), Nat.add_sub_cancel_left]; exact hi)).1
      unfold lastOf at h
      by_cases hz : i = 0
      · rw [if_pos (.inl (by omega))] at h
        rw [if_pos hz]; exact h
      · rw [if_neg (by omega)] at h
        rw [if_neg hz]
        have e : (cellsL o).getD (o.ptrs.length + i - 1) 0 = o.procs.getD (i - 1) 0 := by
          rw [List.getD_eq_getElem?_getD, List.getD_eq_getElem?_getD]; unfold cellsL; rw [List.getElem?_append_right (by omega)]
          rw [show o.ptrs.length + i - 1 - o.ptrs.length = i - 1 by omega]
        rw [← e]; exact h)
    refine ⟨fun n hn => ?_, hp.1, hq.1, fun n hn hm => ?_⟩
    · obtain ⟨i, hi⟩ := List.mem_iff_getElem?.1 hn
      have h2 := (H i n hi).2.1
      rcases List.mem_append.1 hn with hn | hn
      · have := hp.2 n hn; omega
      · have := hq.2 n hn; omega
    · obtain ⟨j, hj⟩ := List.mem_iff_getElem?.1 hm
      have h := (H (o.ptrs.length + j) n (by unfold cellsL; rw [List.getElem?_append_right (by omega), Nat.add_sub_cancel_left]; exact hj)).2.2
      refine h ?_
      unfold cellsL
      rw [List.take_append]
      exact List.mem_append_left _ (by rw [List.take_of_length_le (by omega)]; exact hn)
end Go.Proofs.Ytnflalbiffamdaa.MineObj
