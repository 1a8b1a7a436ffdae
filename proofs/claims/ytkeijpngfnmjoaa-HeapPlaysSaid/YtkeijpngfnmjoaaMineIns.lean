/- Rows of elements of two numbers: a copy between rows, zeros behind a row that has no room, a row's cells told and met; plain facts, used by this seat's walks. Conditions: the lengths are small. -/
import Derived.Test.YtkeijpngfnmjoaaMineHeapB
import Derived.Shelf.Spec.SlicesInsert
namespace Go.Proofs.Ytkeijpngfnmjoaa.MineHeap
open Go.RowKit Go.MapKept Go.Proofs.YtkeijpngfnmjoaaW.PrintWords Go.Proofs.YtkeijpngfnmjoaaW.PrintLast Go.Proofs.Ytkeijpngfnmjoaa.MineBase Go.Proofs.Ytkeijpngfnmjoaa.MineSep Go.Proofs.Ytkeijpngfnmjoaa.MineRows Go.Proofs.Ytkeijpngfnmjoaa.MineGen
set_option linter.unusedVariables false
set_option linter.unusedSimpArgs false
/-- copy(d, s), elements of any size. -/
theorem run_copy_wide {P : Program} (w : World) (dT sT ty elem : TypeId) (i : TypeInfo) (size : Nat) (b o dLen dCap : Nat) (a : Addr) (sLen sCap n : Nat) (cs : List Value)
    (hu : P.underlying dT = some (.slice elem)) (hi : P.info? elem = some i) (hs : i.size = size) (hn : n = Nat.min sLen dLen) (hc : cs.length = n * size)
    (hsrc : ∀ j v, cs[j]? = some v → w.cell? (a.add j) = some v) (hd : ∀ j, j < cs.length → (w.cell? ⟨b, o + j, none⟩).isSome = true) (hf : ∀ j, j < cs.length → w.frozen? ⟨b, o + j, none⟩ = false) (h1 : ∀ v ∈ cs, v.oneCell' = true) :
    (Builtin.copy_ #[dT, sT] ty #[.slice (some ⟨b, o, none⟩) dLen dCap, .slice (some a) sLen sCap]).run P w = .ok (goInt n) (w.setCells b o cs) := by
  have hst := run_storeCells_cells (P := P) b o cs 0 w (by simpa using hd) (by simpa using hf) h1
  have hfc := run_firstCells_some (P := P) w size n a sLen sCap cs hc hsrc
  simp [Builtin.copy_, run_underlying hu, Builtin.lenOf, sizeOf, typeInfo, hi, hs, ← hn, hfc, hst]
/-- The cells of pairs. -/
def cells2 (xs : List (Int × Int)) : List Value := xs.flatMap (fun p => [.int .i64 p.1, .int .i64 p.2])
theorem cells2_length : ∀ xs : List (Int × Int), (cells2 xs).length = xs.length * 2
  | [] => rfl
  | x :: xs => by
    have := cells2_length xs
    simp only [cells2, List.flatMap_cons, List.length_append, List.length_cons, List.length_nil] at this ⊢
    omega
theorem cells2_append (xs ys : List (Int × Int)) : cells2 (xs ++ ys) = cells2 xs ++ cells2 ys := by simp [cells2]
theorem cells2_one : ∀ (xs : List (Int × Int)), ∀ v ∈ cells2 xs, v.oneCell' = true := by
  intro xs v hv
  obtain ⟨p, _, hp⟩ := List.mem_flatMap.1 hv
  rcases List.mem_cons.1 hp with rfl | hp
  · rfl
  · rcases List.mem_cons.1 hp with rfl | hp
    · rfl
    · cases hp
theorem reps_cells2 {W : World} {base : Nat} {ok : Nat → Prop} (xs : List (Int × Int)) : Reps (k2.M W base ok) 2 xs (cells2 xs) := by
  refine ⟨cells2_length xs, fun j p hj => ?_⟩
  have e : ((cells2 xs).drop (j * 2)).take 2 = [.int .i64 p.1, .int .i64 p.2] := by
    have hx : xs = xs.take j ++ p :: xs.drop (j + 1) := by
      have hl := (List.getElem?_eq_some_iff.1 hj).1
      rw [← (List.getElem?_eq_some_iff.1 hj).2, ← List.drop_eq_getElem_cons hl, List.take_append_drop]
    have hl := (List.getElem?_eq_some_iff.1 hj).1
    rw [hx, cells2_append, List.drop_left' (by rw [cells2_length, List.length_take]; omega)]
    rfl
  rw [e]
  exact ⟨[.int .i64 p.1], [.int .i64 p.2], rfl, rfl, rfl⟩
theorem cells2_of_reps {R : Int × Int → List Value → Prop} (hR : ∀ p c, R p c → c = [.int .i64 p.1, .int .i64 p.2]) : ∀ {xs : List (Int × Int)} {cs : List Value}, Reps R 2 xs cs → cs = cells2 xs
  | [], cs, h => by have := h.1; simp at this; simp [cells2, this]
  | x :: xs, cs, h => by
    have h0 := hR _ _ (h.2 0 x rfl)
    simp only [Nat.zero_mul, List.drop_zero] at h0
    have ht : Reps R 2 xs (cs.drop 2) := by
      refine ⟨by rw [List.length_drop, h.1]; simp only [List.length_cons]; omega, fun j p hj => ?_⟩
      have := h.2 (j + 1) p (by simpa using hj)
      rw [List.drop_drop, show 2 + j * 2 = (j + 1) * 2 by omega]
      exact this
    have := cells2_of_reps hR ht
    rw [← List.take_append_drop 2 cs, h0, this]
    rfl
/-- A row of pairs, as a block's cells. -/
theorem pairs_open {w : World} {base e : Nat} {ok : Nat → Prop} {g n c : Nat} {xs : List (Int × Int)} (h : Kd.N k2 e w base ok (.slice (some ⟨g, 0, none⟩) n c) xs) :
    ∃ cur, w.heap[g]? = some (.cells cur e (0, 0)) ∧ base ≤ g ∧ n = xs.length ∧ n ≤ c ∧ c ≤ maxLen ∧ cur.size = c * 2 ∧ cur.toList.take (n * 2) = cells2 xs := by
  obtain ⟨h0, rows, hl, ⟨_, inner, ho, hr⟩, hf⟩ := h
  rcases ho.2 with ⟨e1, _⟩ | ⟨g', cap', cur, e1, hb, hg, hnc, hcm, hcs, htk⟩
  · cases e1
  · injection e1 with e1 e3 e2
    injection e1 with e1
    injection e1 with e1
    subst e1 e2
    rw [hl] at e3
    refine ⟨cur, hg, hb, e3, by rw [hl] at hnc; omega, hcm, hcs, ?_⟩
    rw [e3, ← hl]
    have htk' : cur.toList.take (rows.length * 2) = inner := htk
    rw [htk']
    have hr' : Reps (fun (x : Int × Int) c => c = [.int .i64 x.1, .int .i64 x.2]) 2 xs inner := by
      refine ⟨by rw [hr.1, hl]; rfl, fun j p hj => ?_⟩
      have hj2 : j < rows.length := by rw [hl]; exact (List.getElem?_eq_some_iff.1 hj).1
      obtain ⟨e5, _⟩ := hr.2 j _ (List.getElem?_eq_getElem hj2)
      have hk := k2_open (Kd.FK_now (hf j p _ hj (List.getElem?_eq_getElem hj2)))
      exact e5.trans hk
    exact cells2_of_reps (fun _ _ h => h) hr'
theorem pairs_close {w : World} {base e g m c : Nat} {cur : Array Value} {ys : List (Int × Int)} (hg : w.heap[g]? = some (.cells cur e (0, 0))) (hb : base ≤ g) (hm : m = ys.length) (hmc : m ≤ c) (hc : c ≤ maxLen) (hs : cur.size = c * 2) (ht : cur.toList.take (m * 2) = cells2 ys) :
    Kd.N k2 e w base (fun k => k = g) (.slice (some ⟨g, 0, none⟩) m c) ys := by
  subst hm
  refine Kd.R_N ⟨fun k hk => by simpa [Value.ownBlock] using hk.symm, cells2 ys, ⟨cells2_length ys, .inr ⟨g, c, cur, rfl, hb, hg, hmc, hc, hs, ht⟩⟩, reps_cells2 ys⟩
/-- append(v, make([]T, m)...), where v has no room. -/
theorem append_zeros_grow {P : Program} (w : World) (base : Nat) (t ti ty e : TypeId) (i : TypeInfo) (z : Value) (size bytes : Nat) (ht : P.underlying t = some (.slice e)) {k : IntKind} (hti : P.underlying ti = some (.int k)) (hi : P.info? e = some i) (hz : i.zero = some z)
    (hsize : i.size = size) (hby : i.bytes = bytes) (hzs : z.cells.size = size) (hsz : 0 < size) (hb0 : 0 < bytes)
    (A : Addr) (n cap m : Nat) (xs : List Value) (hx : xs.length = n * size) (hcells : ∀ j u, xs[j]? = some u → w.cell? (A.add j) = some u) (kx : IntKind)
    (hbytes : (n + m) * bytes ≤ 140737488355328) (hbase : base ≤ w.heap.size) (hcap : cap < n + m) (hm : 0 < m) :
    ∃ c2 w', (Builtin.append_ #[t, ti] ty #[.slice (some A) n cap, .int kx m]).run P w = .ok (.slice (some ⟨w.heap.size, 0, none⟩) (n + m) c2) w' ∧ w'.ownsRow base e size (.slice (some ⟨w.heap.size, 0, none⟩) (n + m) c2) (n + m) (xs ++ (Builtin.zeroCells z.cells m).toList) ∧ Below w.heap.size w w' := by
  subst hsize
  subst hby
  have hle : n + m ≤ 140737488355328 := Nat.le_trans (Nat.le_mul_of_pos_right _ hb0) hbytes
  have h63 : n + m ≤ maxLen := by simp only [maxLen]; omega
  have hw : IntKind.i64.wrap (m : Int) = m := by rw [IntKind.wrap_i64]; omega
  have hneg : ¬ ((m : Int) < 0) := by omega
  have hmb : m * i.bytes ≤ 140737488355328 := Nat.le_trans (Nat.mul_le_mul_right _ (Nat.le_add_left m n)) hbytes
  have hbig : ¬ (281474976710656 < (m : Int) * (i.bytes : Int)) := by
    rw [← Int.natCast_mul]
    omega
  have hsn : i.size ≠ 0 := by omega
  have hm0 : m ≠ 0 := by omega
  obtain ⟨news, hnews⟩ : ∃ news, news = (Builtin.zeroCells z.cells m).toList := ⟨_, rfl⟩
  rw [← hnews]
  have hl : news.length = m * i.size := by rw [hnews, Array.length_toList, size_zeroCells, hzs]
  have hna : Builtin.zeroCells z.cells m = news.toArray := by rw [hnews]
  have hlen : (xs ++ news).length = (n + m) * i.size := by rw [List.length_append, hx, hl, Nat.add_mul]
  have hge := grownCap_ge w (n + m) cap e
  have hcm : grownCap w (n + m) cap e ≤ maxLen := grownCap_le_maxLen w (n + m) cap e h63
  have hfo : (Builtin.firstCells i.size n (.slice (some A) n cap)).run P w.drew = .ok xs.toArray w.drew := run_firstCells_some (P := P) w.drew i.size n A n cap xs hx (by simpa using hcells)
  have hn : ¬ (n + m ≤ cap) := by omega
  have h63' : ¬ (9223372036854775807 < ((n : Int) + (m : Int))) := by omega
  have hfit := growslice_fits hcap hbytes
  have h48' : ¬ (281474976710656 < Builtin.nextslicecap (n + m) cap * i.bytes) := by omega
  have hmz : ¬ (m * i.size = 0) := Nat.mul_ne_zero hm0 hsn
  refine ⟨grownCap w (n + m) cap e, w.drew.alloc (.cells (xs.toArray ++ news.toArray ++ Builtin.zeroCells z.cells (grownCap w (n + m) cap e - (n + m))) e), ?_, ⟨hlen, .inr ⟨w.heap.size, _, _, rfl, hbase, heap_alloc_new w.drew _, hge, hcm, ?_, ?_⟩⟩, below_alloc (below_drew (Below.refl _ _)) _⟩
  · simp [Builtin.append_, run_underlying ht, run_underlying hti, sizeOf, typeInfo, zeroValue, hi, hz, asInt, asIntOf, hw, hneg, hbig, hn, h63', h48', Question.forced, hfo, newRow, grownCap, hmz, hna]
    congr 2
    apply Array.ext'
    simp [List.append_assoc]
  · simp only [Array.size_append, List.size_toArray, size_zeroCells, hzs, hx, hl, ← Nat.add_mul]
    congr 1
    omega
  · simp only [Array.toList_append, List.append_assoc]
    rw [← List.append_assoc, ← hlen]
    exact List.take_left
/-! ### two splices -/
theorem splice_a {Z X P D : List Value} {i n : Nat} (hX : Z.take (i * 2) = X) (hXl : X.length = i * 2) (hP : P.length = 2) (hD : D.length = (n - i) * 2) (hi : i ≤ n) (hZ : (n + 1) * 2 ≤ Z.length) :
    ((((Z.take (i * 2) ++ P ++ Z.drop (i * 2 + P.length)).take ((i + 1) * 2)) ++ D ++ (Z.take (i * 2) ++ P ++ Z.drop (i * 2 + P.length)).drop ((i + 1) * 2 + D.length))).take ((n + 1) * 2) = X ++ P ++ D := by
  have e1 : (Z.take (i * 2) ++ P ++ Z.drop (i * 2 + P.length)).take ((i + 1) * 2) = X ++ P := by
    rw [hX]
    exact List.take_left' (by rw [List.length_append, hXl, hP]; omega)
  rw [e1]
  exact List.take_left' (by rw [List.length_append, List.length_append, hXl, hP, hD]; omega)
theorem splice_b {Z X P D : List Value} {i n : Nat} (hX : Z.take (i * 2) = X) (hXl : X.length = i * 2) (hP : P.length = 2) (hD : D.length = (n - i) * 2) (hi : i ≤ n) (hZ : (n + 1) * 2 ≤ Z.length) :
    ((((Z.take ((i + 1) * 2) ++ D ++ Z.drop ((i + 1) * 2 + D.length)).take (i * 2)) ++ P ++ (Z.take ((i + 1) * 2) ++ D ++ Z.drop ((i + 1) * 2 + D.length)).drop (i * 2 + P.length))).take ((n + 1) * 2) = X ++ P ++ D := by
  have e0 : (Z.take ((i + 1) * 2)).length = (i + 1) * 2 := by rw [List.length_take]; omega
  have e1 : (Z.take ((i + 1) * 2) ++ D ++ Z.drop ((i + 1) * 2 + D.length)).take (i * 2) = X := by
    rw [List.append_assoc, List.take_append_of_le_length (by omega), List.take_take, Nat.min_eq_left (by omega), hX]
  have e2 : (Z.take ((i + 1) * 2) ++ D ++ Z.drop ((i + 1) * 2 + D.length)).drop (i * 2 + P.length) = D ++ Z.drop ((i + 1) * 2 + D.length) := by
    rw [List.append_assoc, show i * 2 + P.length = (i + 1) * 2 by omega]
    exact List.drop_left' e0
  rw [e1, e2, ← List.append_assoc]
  exact List.take_left' (by rw [List.length_append, List.length_append, hXl, hP, hD]; omega)
end Go.Proofs.Ytkeijpngfnmjoaa.MineHeap
