/- Files: what they are made of in memory, and what putting, getting and deleting one comes to. Conditions: texts and bytes are not too long. -/
import Derived.Test.YtlgfdokdckaejaaQFilesKeepx1
import Derived.Test.YtlgfdokdckaejaaMineMap
import Derived.Deep.RegionLaw
namespace Go.Proofs.Ytlgfdokdckaejaa.MineFiles
open Go.RowKit Go.MapKept Go.Proofs.YtlgfdokdckaejaaW.PrintWords Go.Proofs.YtlgfdokdckaejaaW.PrintLast Go.Proofs.Ytlgfdokdckaejaa.MineBase Go.Proofs.Ytlgfdokdckaejaa.MineSep Go.Proofs.Ytlgfdokdckaejaa.MineMap Go.Proofs.Ytlgfdokdckaejaa.QFilesKeep
set_option linter.unusedVariables false
set_option linter.unusedSimpArgs false
/-! ### names -/
def isL (c : Int) : Bool := decide (97 ≤ c ∧ c ≤ 122 ∨ 65 ≤ c ∧ c ≤ 90)
def isLD (c : Int) : Bool := isL c || decide (48 ≤ c ∧ c ≤ 57)
/-- All signs from place i on, d of them, are letters or digits. -/
def allD (s : ByteArray) : Nat → Int → Bool
  | 0, _ => true
  | d + 1, i => isLD (bt s i) && allD s d (i + 1)
theorem letter_eq (c : Int) : name_letter.f c = some (isL c) := by
  unfold name_letter.f isL
  split
  · split
    · congr 1; symm; rw [decide_eq_true_iff]; omega
    · split
      · congr 1; rw [decide_eq_decide]; omega
      · congr 1; symm; rw [decide_eq_false_iff_not]; omega
  · split
    · congr 1; rw [decide_eq_decide]; omega
    · congr 1; symm; rw [decide_eq_false_iff_not]; omega
theorem wrap_up {i : Int} {n : Nat} (h0 : 0 ≤ i) (h : i < (n : Int)) (hn : n ≤ 140737488351232) : wrap64 (i + 1) = i + 1 := by
  unfold wrap64; omega
theorem may_loop (s : ByteArray) (hn : s.size ≤ 140737488351232) (d : Nat) : ∀ (k : Nat) (i : Int), 0 ≤ i → i + d = s.size → d < k →
    name_May.l0 k s (s.size : Int) i = some (allD s d i) := by
  induction d with
  | zero =>
    intro k i h0 hd hk
    obtain ⟨k, rfl⟩ : ∃ m, k = m + 1 := ⟨k - 1, by omega⟩
    simp only [name_May.l0, allD]; rw [if_neg (by omega)]
  | succ d ih =>
    intro k i h0 hd hk
    obtain ⟨k, rfl⟩ : ∃ m, k = m + 1 := ⟨k - 1, by omega⟩
    have hlt : i < (s.size : Int) := by omega
    simp only [name_May.l0, allD]
    rw [if_pos hlt, if_pos h0, if_pos hlt, letter_eq, Option.bind_some, wrap_up h0 hlt hn, ih k (i + 1) (by omega) (by omega) (by omega)]
    have hb := bt_range s i
    unfold isLD
    cases hl : isL (bt s i)
    · simp only [Bool.false_eq_true, if_false, Bool.false_or]
      by_cases h1 : bt s i < 48
      · rw [if_pos h1]; simp; omega
      · rw [if_neg h1]
        by_cases h2 : bt s i > 57
        · rw [if_pos h2]; simp; omega
        · rw [if_neg h2, decide_eq_true (by omega)]; rfl
    · simp
/-- What May tells. -/
def mayB (s : ByteArray) : Bool := decide (1 ≤ s.size ∧ s.size ≤ 16) && isL (bt s 0) && allD s s.size 0
theorem toList_nil (s : ByteArray) : s.toList = ([] : List UInt8) ↔ s.size = 0 := by
  have e : s.toList.length = s.size := by rw [ByteArray.toList_eq]; exact data_length s
  rw [← List.length_eq_zero_iff, e]
theorem may_eq (s : ByteArray) (hn : s.size ≤ 140737488351232) (k : Nat) (hk : s.size + 1 < k) : name_May.f k s = some (mayB s) := by
  obtain ⟨k, rfl⟩ : ∃ m, k = m + 1 := ⟨k - 1, by omega⟩
  unfold name_May.f mayB
  by_cases h0 : s.toList = ([] : List UInt8)
  · rw [if_pos h0]
    have := (toList_nil s).1 h0
    simp only [name_May.j0, if_true]; simp [this]
  · rw [if_neg h0]
    have h1 : s.size ≠ 0 := fun h => h0 ((toList_nil s).2 h)
    by_cases h2 : (s.size : Int) > 16
    · rw [if_pos h2]; simp only [name_May.j0, if_true]
      rw [decide_eq_false (by omega)]; rfl
    · rw [if_neg h2, if_pos (by omega), letter_eq, Option.bind_some, decide_eq_true (by omega)]
      simp only [name_May.j0]
      cases hl : isL (bt s 0)
      · simp
      · simp only [Bool.not_true, Bool.false_eq_true, if_false, Bool.true_and]
        exact may_loop s hn s.size k 0 (by omega) (by omega) (by omega)
theorem May_calls (s : ByteArray) (hn : s.size ≤ 140737488351232) (w : World) : Calls Try.prog 29 #[.string s] w fun e w' => e = .returned (.bool (mayB s)) ∧ Drawn0 w w' :=
  name_May.calls (s.size + 2) s (mayB s) w (may_eq s hn _ (by omega))
theorem Clone_calls (A0 : Option Addr) (c0 : Nat) (l : List Int) (w : World) (hr : Kd.C (Kd.int .u8) w A0 l.length l) (hc : l.length ≤ c0) (hl : l.length < 140737488355328) :
    Calls Try.prog 30 #[.slice A0 l.length c0] w fun e w' => ∃ v, e = .returned v ∧ Kd.R (Kd.int .u8) 5 w' w.heap.size (fun _ => True) v l ∧ Below w.heap.size w w' :=
  slices_Clone_byte_byte.calls A0 c0 l l w hr hc (by unfold slices_Clone_byte_byte.f; simp [hl])
/-! ### what files are made of -/
/-- A file's bytes. -/
def Val (w : World) (D : Nat → Prop) (v : Value) (bs : List Int) : Prop := ∃ A c, v = .slice A bs.length c ∧ bs.length ≤ c ∧ Kd.F (Kd.int .u8) w D A bs.length bs
def Ents (w : World) (D : Nat → Prop) : List (ByteArray × Value) → List (ByteArray × List Int) → Prop
  | [], [] => True
  | p :: G, q :: F => p.1 = q.1 ∧ Val w D p.2 q.2 ∧ Ents w D G F
  | _, _ => False
theorem Ents.imp {w w1 : World} {D D1 : Nat → Prop} (hv : ∀ v bs, Val w D v bs → Val w1 D1 v bs) : ∀ {G F}, Ents w D G F → Ents w1 D1 G F
  | [], [], _ => trivial
  | _ :: _, _ :: _, ⟨h1, h2, h3⟩ => ⟨h1, hv _ _ h2, Ents.imp hv h3⟩
  | [], _ :: _, h => h.elim
  | _ :: _, [], h => h.elim
theorem Val.mono {w : World} {D D' : Nat → Prop} (hd : ∀ k, D k → D' k) {v bs} : Val w D v bs → Val w D' v bs := fun ⟨A, c, e, hl, h⟩ => ⟨A, c, e, hl, Kd.F_mono h hd⟩
theorem Val.step {w w1 : World} {D : Nat → Prop} (hm : ∀ k, D k → k < w.heap.size → w1.heap[k]? = w.heap[k]?) {v bs} : Val w D v bs → Val w1 D v bs := fun ⟨A, c, e, hl, h⟩ => ⟨A, c, e, hl, Kd.F_step h hm⟩
theorem Ents.look {w : World} {D : Nat → Prop} (s : ByteArray) : ∀ {G F}, Ents w D G F → (lookM G s = none ∧ lookM F s = none) ∨ ∃ v bs, lookM G s = some v ∧ lookM F s = some bs ∧ Val w D v bs
  | [], [], _ => .inl ⟨rfl, rfl⟩
  | p :: G, q :: F, ⟨h1, h2, h3⟩ => by
    by_cases h : q.1 = s
    · exact .inr ⟨p.2, q.2, by simp [MineMap.lookM, h1, h], by simp [MineMap.lookM, h], h2⟩
    · simpa [MineMap.lookM, h1, h] using Ents.look s h3
  | [], _ :: _, h => h.elim
  | _ :: _, [], h => h.elim
theorem Ents.put {w : World} {D : Nat → Prop} (s : ByteArray) {v : Value} {bs : List Int} (hv : Val w D v bs) : ∀ {G F}, Ents w D G F → Ents w D (put G s v) (put F s bs)
  | [], [], _ => ⟨rfl, hv, trivial⟩
  | p :: G, q :: F, ⟨h1, h2, h3⟩ => by
    by_cases h : q.1 = s
    · simp only [MineMap.put, h1, h, if_true]; exact ⟨rfl, hv, h3⟩
    · simp only [MineMap.put, h1, h, if_false]; exact ⟨h1, h2, Ents.put s hv h3⟩
  | [], _ :: _, h => h.elim
  | _ :: _, [], h => h.elim
theorem Ents.del {w : World} {D : Nat → Prop} (s : ByteArray) : ∀ {G F}, Ents w D G F → Ents w D (del G s) (del F s)
  | [], [], _ => trivial
  | p :: G, q :: F, ⟨h1, h2, h3⟩ => by
    by_cases h : q.1 = s
    · simp only [MineMap.del, h1, h, if_true]; exact h3
    · simp only [MineMap.del, h1, h, if_false]; exact ⟨h1, h2, Ents.del s h3⟩
  | [], _ :: _, h => h.elim
  | _ :: _, [], h => h.elim
theorem Ents.len {w : World} {D : Nat → Prop} : ∀ {G F}, Ents w D G F → G.length = F.length
  | [], [], _ => rfl
  | _ :: _, _ :: _, ⟨_, _, h3⟩ => by simp [Ents.len h3]
  | [], _ :: _, h => h.elim
  | _ :: _, [], h => h.elim
/-- Files: a struct's block g, a map's block, and their bytes. -/
def FilesP (g : Nat) (F : List (ByteArray × List Int)) (w : World) (D : Nat → Prop) : Prop :=
  ∃ m G es clock, w.heap[g]? = some (.cells #[.map (some m)] 77 (0, 0)) ∧ w.heap[m]? = some (.map es clock) ∧ D g ∧ D m ∧ g ≠ m ∧ EsOf Value.string es.toList G ∧ Ents w (fun k => D k ∧ k ≠ g ∧ k ≠ m) G F ∧ Stamped es clock
def AFiles (g : Nat) (F : List (ByteArray × List Int)) : Asn where
  P := FilesP g F
  mono := fun hd ⟨m, G, es, clock, h1, h2, h3, h4, h5, h6, h7, h8⟩ => ⟨m, G, es, clock, h1, h2, hd _ h3, hd _ h4, h5, h6, Ents.imp (fun _ _ h => h.mono (fun k hk => ⟨hd k hk.1, hk.2⟩)) h7, h8⟩
  bound := fun ⟨m, G, es, clock, h1, h2, h3, h4, h5, h6, h7, h8⟩ => ⟨m, G, es, clock, h1, h2, ⟨h3, blk_lt h1⟩, ⟨h4, blk_lt h2⟩, h5, h6, Ents.imp (fun _ _ ⟨A, c, e, hl, h⟩ => ⟨A, c, e, hl, Kd.F_mono (Kd.F_bound h) (fun k hk => ⟨⟨hk.1.1, hk.2⟩, hk.1.2⟩)⟩) h7, h8⟩
  move := fun hm ⟨m, G, es, clock, h1, h2, h3, h4, h5, h6, h7, h8⟩ => ⟨m, G, es, clock, (hm _ h3).trans h1, (hm _ h4).trans h2, h3, h4, h5, h6, Ents.imp (fun _ _ h => h.step (fun k hk _ => hm k hk.1)) h7, h8⟩
theorem strKeys : KeysOf (κ := ByteArray) .string Value.string (fun _ => True) := ⟨fun _ _ => trivial, fun _ _ h => by injection h⟩
theorem zero23 (w : World) : (zeroValue 23).run Try.prog w = .ok (.slice none 0 0) w := by kernel_rfl
/-- The error's number, or none. -/
def errV : Option Int → Value
  | none => .nilIface
  | some c => .iface 30 (.int .i64 c)
theorem New_calls {w0 w : World} {l : List Asn} (HS : Sat w0 w l) : Calls Try.prog 8 #[] w fun e w' => ∃ g, e = .returned (.pointer (some ⟨g, 0, none⟩)) ∧ Sat w0 w' (AFiles g [] :: l) := by
  replace HS := Aside0.mk HS
  have hmm := @run_makeMap Try.prog
  go_enter Try.func8, Try.ntmps8
  go_wp2
  go_ret
  refine ⟨w.heap.size + 1, rfl, HS.out.new (A := AFiles (w.heap.size + 1) []) (below_alloc (below_alloc (Below.refl _ _) _) _) (D := fun k => w.heap.size ≤ k) ⟨w.heap.size, [], #[], 0, ?_, ?_, Nat.le_succ _, Nat.le_refl _, by omega, rfl, trivial, stamped_empty 0⟩ (fun _ h => h)⟩
  · refine (get_alloc _ _ _).trans ?_
    rw [if_pos (by simp)]
  · refine (get_alloc _ _ _).trans ?_
    rw [if_neg (by simp)]
    refine (get_alloc _ _ _).trans ?_
    rw [if_pos rfl]
/-- The files, laid open: what is looked up. -/
theorem files_open {g : Nat} {F : List (ByteArray × List Int)} {w : World} {D : Nat → Prop} (h : FilesP g F w D) (s : ByteArray) :
    ∃ m v, w.cell? ⟨g, 0, none⟩ = some (.map (some m)) ∧ (Builtin.len_ #[75] 3 #[.map (some m)]).run Try.prog w = .ok (.int .i64 F.length) w ∧
      ((lookM F s = none ∧ v = .slice none 0 0) ∨ ∃ bs, lookM F s = some bs ∧ Val w (fun k => D k ∧ k ≠ g) v bs) ∧
      (Instr.lookup 75 (.map (some m)) (.string s) true).run Try.prog w = .ok (.tuple #[v, .bool (lookM F s).isSome]) w ∧
      (Instr.lookup 75 (.map (some m)) (.string s) false).run Try.prog w = .ok v w := by
  obtain ⟨m, G, es, clock, h1, h2, h3, h4, h5, h6, h7, _⟩ := h
  have hl := fun c => lookup_run strKeys Try.underlying75 Try.underlying9 (zero23 _) h2 G (fun _ _ => trivial) h6 s trivial c
  refine ⟨m, (lookM G s).getD (.slice none 0 0), by have := get_cell h1 0; simpa using this, ?_, ?_, ?_, hl false⟩
  · have := len_run (kv := Value.string) Try.underlying75 h2 G h6 3
    rw [h7.len] at this
    exact this
  · rcases h7.look s with ⟨a1, a2⟩ | ⟨v, bs, a1, a2, a3⟩
    · exact .inl ⟨a2, by rw [a1]; rfl⟩
    · exact .inr ⟨bs, a2, by rw [a1]; exact a3.mono (fun k hk => ⟨hk.1, hk.2.1⟩)⟩
  · have e : (lookM G s).isSome = (lookM F s).isSome := by
      rcases h7.look s with ⟨a1, a2⟩ | ⟨v, bs, a1, a2, a3⟩
      · rw [a1, a2]; rfl
      · rw [a1, a2]; rfl
    rw [← e]
    exact hl true
/-- Why a file isn't there. -/
def thereE (F : List (ByteArray × List Int)) (s : ByteArray) : Option Int := if mayB s then (if (lookM F s).isSome then none else some 3) else some 2
theorem ret_eq {a b : Value} (h : a = b) : Ending.returned a = .returned b := by rw [h]
set_option maxRecDepth 100000 in
theorem there_calls {w0 w : World} {l : List Asn} {g : Nat} {F : List (ByteArray × List Int)} (HS : Sat w0 w (AFiles g F :: l)) (s : ByteArray) (hn : s.size ≤ 140737488351232) :
    Calls Try.prog 31 #[.pointer (some ⟨g, 0, none⟩), .string s] w fun e w' => e = .returned (errV (thereE F s)) ∧ Drawn0 w w' := by
  replace HS := Aside0.mk HS
  go_enter Try.func31, Try.ntmps31
  go_wp2_with fail
  refine (May_calls s hn w).mono ?_
  rintro e1 w1 ⟨rfl, hd1⟩
  have HD1 := Aside0.mk hd1
  obtain ⟨D, hA, _⟩ := (HS.out.drawn hd1).head
  clear hd1
  cases hm : mayB s with
  | false =>
    go_wp2
    go_ret
    exact ⟨ret_eq (by simp [thereE, hm]; rfl), HD1.out⟩
  | true =>
    obtain ⟨m, v, hc, _, _, hl0, _⟩ := files_open hA s
    cases hk : (lookM F s).isSome with
    | true =>
      rw [hk] at hl0
      go_wp2
      go_ret
      exact ⟨ret_eq (by simp [thereE, hm, hk]; rfl), HD1.out⟩
    | false =>
      rw [hk] at hl0
      go_wp2
      go_ret
      exact ⟨ret_eq (by simp [thereE, hm, hk]; rfl), HD1.out⟩
/-- A later world in which nothing elder has turned. -/
theorem keep_below {w0 w w1 : World} {l : List Asn} (h : Sat w0 w l) (hb : Below w.heap.size w w1) : Below w0.heap.size w0 w1 := below_then h.1 h.1.size hb
set_option maxRecDepth 100000 in
theorem Get_calls {w0 w : World} {l : List Asn} {g : Nat} {F : List (ByteArray × List Int)} (HS : Sat w0 w (AFiles g F :: l)) (s : ByteArray) (hn : s.size ≤ 140737488351232) (hF : ∀ bs, lookM F s = some bs → bs.length ≤ 5000) :
    Calls Try.prog 10 #[.pointer (some ⟨g, 0, none⟩), .string s] w fun e w' =>
      (∀ c, thereE F s = some c → e = .returned (.tuple #[.slice none 0 0, errV (some c)]) ∧ Sat w0 w' (AFiles g F :: l)) ∧
      (thereE F s = none → ∃ bs v, lookM F s = some bs ∧ e = .returned (.tuple #[v, errV none]) ∧ Sat w0 w' (ARow (Kd.int .u8) 5 w0.heap.size v bs :: AFiles g F :: l)) := by
  replace HS := Aside0.mk HS
  go_enter Try.func10, Try.ntmps10
  go_wp2_with fail
  refine (there_calls HS.out s hn).mono ?_
  rintro e1 w1 ⟨rfl, hd1⟩
  have HS1 := Aside0.mk (HS.out.drawn hd1)
  clear hd1 HS
  cases ht : thereE F s with
  | some c =>
    have e1 : errV (some c) = .iface 30 (.int .i64 c) := rfl
    rw [e1]
    have HF := Aside0.mk ht
    clear ht e1
    go_wp2
    go_ret2
    exact ⟨fun c' hc' => by rw [HF.out] at hc'; injection hc' with hc'; subst hc'; exact ⟨rfl, HS1.out⟩, fun h => by rw [HF.out] at h; cases h⟩
  | none =>
    have e1 : errV none = .nilIface := rfl
    rw [e1]
    have HF := Aside0.mk ht
    obtain ⟨bs, hbs⟩ : ∃ bs, lookM F s = some bs := by
      unfold thereE at ht
      cases hm : mayB s with
      | false => rw [hm] at ht; simp at ht
      | true =>
        cases hk : lookM F s with
        | none => rw [hm, hk] at ht; simp at ht
        | some bs => exact ⟨bs, rfl⟩
    clear ht e1
    obtain ⟨D, hA, hD, _⟩ := HS1.out.open_
    obtain ⟨m, v, hc, _, hv, _, hl⟩ := files_open hA s
    rcases hv with ⟨hv, _⟩ | ⟨bs', hv, A, c, rfl, hle, hF'⟩
    · rw [hbs] at hv; cases hv
    rw [hbs] at hv
    injection hv with hv
    subst hv
    have HB := Aside0.mk hbs
    have HC := Aside0.mk (And.intro (Kd.F_now hF') (And.intro hle (hF bs hbs)))
    clear hbs hF' hle hA hD hF
    go_wp2_with fail
    refine (Clone_calls A c bs w1 HC.out.1 HC.out.2.1 (by have := HC.out.2.2; omega)).mono ?_
    rintro e2 w2 ⟨v2, rfl, hR, hb⟩
    have HS2 := Aside0.mk (HS1.out.newRow hb hR HS1.out.size)
    clear hR hb
    go_wp2
    go_ret2
    exact ⟨fun c' hc' => (by rw [HF.out] at hc'; cases hc'), fun _ => ⟨bs, v2, HB.out, rfl, HS2.out⟩⟩
/-- Why a file isn't put. -/
def putE (F : List (ByteArray × List Int)) (s : ByteArray) (bs : List Int) : Option Int :=
  if mayB s then (if bs.length ≤ 4000 then (if (lookM F s).isSome = false ∧ 32 ≤ F.length then some 8 else none) else some 13) else some 2
def putF (F : List (ByteArray × List Int)) (s : ByteArray) (bs : List Int) : List (ByteArray × List Int) := if putE F s bs = none then put F s bs else F
/-- A file's bytes are put into the map. -/
theorem files_update {w0 w1 w2 : World} {l : List Asn} {g m : Nat} {F : List (ByteArray × List Int)} {v2 : Value} {bs : List Int} (HS : Sat w0 w1 (AFiles g F :: l)) (s : ByteArray) (hb : Below w1.heap.size w1 w2)
    (hR : Kd.R (Kd.int .u8) 5 w2 w1.heap.size (fun _ => True) v2 bs) (hc : w1.cell? ⟨g, 0, none⟩ = some (.map (some m))) :
    ∃ w3, w2.cell? ⟨g, 0, none⟩ = some (.map (some m)) ∧ (Instr.mapUpdate 75 (.map (some m)) (.string s) v2).run Try.prog w2 = .ok () w3 ∧ Sat w0 w3 (AFiles g (put F s bs) :: l) := by
  obtain ⟨D, hA, hD, _, hclose⟩ := HS.open_
  have hA2 : FilesP g F w2 D := (AFiles g F).step (fun k _ hk => hb.block k hk) hA
  obtain ⟨m', G, es, clock, h1, h2, h3, h4, h5, h6, h7, h8⟩ := hA
  obtain rfl : m' = m := by
    have := get_cell h1 0
    rw [hc] at this
    simpa using this.symm
  have g1 : w2.heap[g]? = some (.cells #[.map (some m')] 77 (0, 0)) := (hb.block g (blk_lt h1)).trans h1
  have g2 : w2.heap[m']? = some (.map es clock) := (hb.block m' (blk_lt h2)).trans h2
  obtain ⟨w3, es', clock', hrun, hm3, he3, hg3, hst3⟩ := update_run strKeys Try.underlying75 Try.underlying9 g2 G (fun _ _ => trivial) h6 s trivial v2
  refine ⟨w3, by have := get_cell g1 0; simpa using this, hrun, ?_⟩
  have hB3 : Below w0.heap.size w0 w3 := (keep_below HS hb).grown hg3 (Nat.le_trans HS.size hb.size) (fun k hk => by injection hk with hk; subst hk; exact (hD _ h4).1)
  refine hclose w3 (AFiles g (put F s bs)) (fun k => D k ∨ w1.heap.size ≤ k) hB3 ?_ ?_ (fun k hk => hk)
  · exact Kept.of_grown hg3 (Kept.of_below hb D) (fun k hk => by injection hk with hk; subst hk; exact .inl h4)
  · refine ⟨m', put G s v2, es', clock', ?_, hm3, .inl h3, .inl h4, h5, he3, ?_, hst3 h8⟩
    · refine (hg3.block g (blk_lt g1) (fun e => h5 (by injection e))).trans g1
    · refine Ents.put s ?_ (Ents.imp (fun v bs h => ?_) h7)
      · obtain ⟨A, c, rfl, hle, _⟩ := Kd.R_reads hR
        have hF := Kd.R_F (Kd.R_bound hR)
        refine ⟨A, c, rfl, hle, Kd.F_mono (Kd.F_step hF (fun k hk hlt => hg3.block k hlt (fun e => ?_))) (fun k hk => ⟨.inr hk.2.1, fun e => ?_, fun e => ?_⟩)⟩
        · injection e with e
          have := hk.2.1; have := blk_lt h2; omega
        · have := hk.2.1; have := blk_lt h1; omega
        · have := hk.2.1; have := blk_lt h2; omega
      · refine Val.mono (D := fun k => D k ∧ k ≠ g ∧ k ≠ m') (fun k hk => ⟨.inl hk.1, hk.2⟩) ((h.step (fun k _ hlt => hb.block k hlt)).step (fun k hk hlt => hg3.block k hlt (fun e => hk.2.2 (by injection e))))
set_option maxRecDepth 100000 in
set_option maxHeartbeats 1000000 in
theorem Put_calls {w0 w : World} {l : List Asn} {g : Nat} {F : List (ByteArray × List Int)} (HS : Sat w0 w (AFiles g F :: l)) (s : ByteArray) (hn : s.size ≤ 140737488351232)
    (A0 : Option Addr) (c0 : Nat) (bs : List Int) (hr : Kd.C (Kd.int .u8) w A0 bs.length bs) (hc0 : bs.length ≤ c0) (hl0 : bs.length < 140737488355328) :
    Calls Try.prog 9 #[.pointer (some ⟨g, 0, none⟩), .string s, .slice A0 bs.length c0] w fun e w' => e = .returned (errV (putE F s bs)) ∧ Sat w0 w' (AFiles g (putF F s bs) :: l) := by
  replace HS := Aside0.mk HS
  replace hr := Aside0.mk hr
  replace hc0 := Aside0.mk hc0
  replace hl0 := Aside0.mk hl0
  obtain ⟨D, hA, hD, _, hclose⟩ := HS.out.open_
  obtain ⟨m, v, hc, hln, _, hl, _⟩ := files_open hA s
  clear hD hln hclose hA
  go_enter Try.func9, Try.ntmps9
  go_wp2_with fail
  refine (May_calls s hn w).mono ?_
  rintro e1 w1 ⟨rfl, hd1⟩
  have HS1 := Aside0.mk (HS.out.drawn hd1)
  have HC1 := Aside0.mk (Kd.C_below hr.out hd1.below)
  clear hd1 HS hr hc hl
  obtain ⟨D1, hA, hD, _, hclose⟩ := HS1.out.open_
  obtain ⟨m1, v1, hc, hln, _, _, _⟩ := files_open hA s
  clear hA hD hclose
  cases hm : mayB s with
  | false =>
    go_wp2
    go_ret
    have e : putE F s bs = some 2 := by simp [putE, hm]
    exact ⟨ret_eq (by rw [e]; rfl), by unfold putF; rw [e]; simpa using HS1.out⟩
  | true =>
    have HM := Aside0.mk hm
    by_cases h1 : bs.length ≤ 4000
    · have h1b : decide ((4000 : Int) < (bs.length : Int)) = false := decide_eq_false (by omega)
      have H1 := Aside0.mk h1
      clear h1
      cases hk : (lookM F s).isSome with
      | true =>
        have e : putE F s bs = none := by simp [putE, HM.out, H1.out, hk]
        have HE := Aside0.mk e
        clear e hk hm
        go_wp2_with fail
        go_region_law (go_simp; go_at_call 30; refine (Clone_calls A0 c0 bs _ (show Kd.C (Kd.int .u8) w1.drew A0 bs.length bs from HC1.out) hc0.out hl0.out).mono ?_; rintro e2 w2 ⟨v2, rfl, hR, hb⟩; obtain ⟨w3, hc2, hu2, hS3⟩ := files_update HS1.out s (show Below w1.heap.size w1 w2 from (below_drew1 (Below.refl _ w1)).trans hb) (show Kd.R (Kd.int .u8) 5 w2 w1.heap.size (fun _ => True) v2 bs from hR) hc; have HS3 := Aside0.mk hS3; clear hR hb hS3)
        all_goals (go_wp2; go_ret; exact ⟨ret_eq (by rw [HE.out]; rfl), by unfold putF; rw [HE.out]; simpa using HS3.out⟩)
      | false =>
        by_cases h2 : 32 ≤ F.length
        · have h2b : decide ((32 : Int) ≤ (F.length : Int)) = true := decide_eq_true (by omega)
          have e : putE F s bs = some 8 := by
            unfold putE; rw [HM.out, hk]; simp [H1.out, h2]
          have HE := Aside0.mk e
          clear e hk hm h2
          go_wp2
          go_ret
          exact ⟨ret_eq (by rw [HE.out]; rfl), by unfold putF; rw [HE.out]; simpa using HS1.out⟩
        · have h2b : decide ((32 : Int) ≤ (F.length : Int)) = false := decide_eq_false (by omega)
          have e : putE F s bs = none := by
            unfold putE; rw [HM.out, hk]; simp [H1.out]; omega
          have HE := Aside0.mk e
          clear e hk hm h2
          go_wp2_with fail
          go_region_law (go_simp; go_at_call 30; refine (Clone_calls A0 c0 bs _ (show Kd.C (Kd.int .u8) w1.drew A0 bs.length bs from HC1.out) hc0.out hl0.out).mono ?_; rintro e2 w2 ⟨v2, rfl, hR, hb⟩; obtain ⟨w3, hc2, hu2, hS3⟩ := files_update HS1.out s (show Below w1.heap.size w1 w2 from (below_drew1 (Below.refl _ w1)).trans hb) (show Kd.R (Kd.int .u8) 5 w2 w1.heap.size (fun _ => True) v2 bs from hR) hc; have HS3 := Aside0.mk hS3; clear hR hb hS3)
          all_goals (go_wp2; go_ret; exact ⟨ret_eq (by rw [HE.out]; rfl), by unfold putF; rw [HE.out]; simpa using HS3.out⟩)
    · have h1b : decide ((4000 : Int) < (bs.length : Int)) = true := decide_eq_true (by omega)
      have e : putE F s bs = some 13 := by simp [putE, HM.out, h1]
      have HE := Aside0.mk e
      clear e hm h1
      cases hk : (lookM F s).isSome with
      | true =>
        go_wp2
        go_ret
        exact ⟨ret_eq (by rw [HE.out]; rfl), by unfold putF; rw [HE.out]; simpa using HS1.out⟩
      | false =>
        go_wp2
        go_ret
        exact ⟨ret_eq (by rw [HE.out]; rfl), by unfold putF; rw [HE.out]; simpa using HS1.out⟩
/-- A file is deleted. -/
def delF (F : List (ByteArray × List Int)) (s : ByteArray) : List (ByteArray × List Int) := if thereE F s = none then del F s else F
set_option maxRecDepth 100000 in
theorem Delete_calls {w0 w : World} {l : List Asn} {g : Nat} {F : List (ByteArray × List Int)} (HS : Sat w0 w (AFiles g F :: l)) (s : ByteArray) (hn : s.size ≤ 140737488351232) :
    Calls Try.prog 11 #[.pointer (some ⟨g, 0, none⟩), .string s] w fun e w' => e = .returned (errV (thereE F s)) ∧ Sat w0 w' (AFiles g (delF F s) :: l) := by
  replace HS := Aside0.mk HS
  go_enter Try.func11, Try.ntmps11
  go_wp2_with fail
  refine (there_calls HS.out s hn).mono ?_
  rintro e1 w1 ⟨rfl, hd1⟩
  have HS1 := Aside0.mk (HS.out.drawn hd1)
  clear hd1 HS
  cases ht : thereE F s with
  | some c =>
    have e1 : errV (some c) = .iface 30 (.int .i64 c) := rfl
    rw [e1]
    have HF := Aside0.mk ht
    clear ht e1
    go_wp2
    go_ret
    exact ⟨ret_eq (by rw [HF.out]; rfl), by unfold delF; rw [HF.out]; simpa using HS1.out⟩
  | none =>
    have e1 : errV none = .nilIface := rfl
    rw [e1]
    have HF := Aside0.mk ht
    obtain ⟨D, ⟨m, G, es, clock, h1, h2, h3, h4, h5, h6, h7, h8⟩, hD, _, hclose⟩ := HS1.out.open_
    obtain ⟨w3, es', clock', hrun, hm3, he3, hg3, hst3⟩ := delete_run strKeys Try.underlying75 Try.underlying9 h2 G (fun _ _ => trivial) h6 s trivial 0
    have HS3 : Sat w0 w3 (AFiles g (del F s) :: l) := by
      refine hclose w3 (AFiles g (del F s)) D (HS1.out.toBelow.grown hg3 HS1.out.size (fun k hk => by injection hk with hk; subst hk; exact (hD _ h4).1)) (Kept.of_grown hg3 (Kept.refl _ _) (fun k hk => by injection hk with hk; subst hk; exact .inl h4)) ?_ (fun k hk => .inl hk)
      refine ⟨m, del G s, es', clock', (hg3.block g (blk_lt h1) (fun e => h5 (by injection e))).trans h1, hm3, h3, h4, h5, he3, Ents.del s (Ents.imp (fun v bs h => h.step (fun k hk hlt => hg3.block k hlt (fun e => hk.2.2 (by injection e)))) h7), hst3 h8⟩
    have HS3' := Aside0.mk HS3
    have hc : w1.cell? ⟨g, 0, none⟩ = some (.map (some m)) := by have := get_cell h1 0; simpa using this
    clear ht e1 h1 h2 h3 h4 h5 h6 h7 h8 hst3 hD hclose hm3 he3 hg3 HS3
    go_wp2
    go_ret
    exact ⟨ret_eq (by rw [HF.out]; rfl), by unfold delF; rw [HF.out]; simpa using HS3'.out⟩
end Go.Proofs.Ytlgfdokdckaejaa.MineFiles
