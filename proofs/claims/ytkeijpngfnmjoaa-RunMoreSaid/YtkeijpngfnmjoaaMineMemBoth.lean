/- MemPlays, the walk: for any size, deeds and range the statement returns true. No condition but the numbers' ranges. -/
import Derived.Test.YtkeijpngfnmjoaaMineMemKeeps
namespace Go.Proofs.Ytkeijpngfnmjoaa.MineMem
open Go.RowKit Go.Proofs.YtkeijpngfnmjoaaW.PrintWords Go.Proofs.YtkeijpngfnmjoaaW.PrintLast Go.Proofs.YtkeijpngfnmjoaaW.PrintMore Go.Proofs.Ytkeijpngfnmjoaa.MineBase Go.Proofs.Ytkeijpngfnmjoaa.QMemPlays
set_option linter.unusedVariables false
set_option linter.unusedSimpArgs false
attribute [local go_sem] Go.Proofs.Ytkeijpngfnmjoaa.MineErr.eql_err Go.Proofs.Ytkeijpngfnmjoaa.MineErr.neq_err Go.Proofs.Ytkeijpngfnmjoaa.MineErr.eql_nil_err Go.Proofs.Ytkeijpngfnmjoaa.MineErr.neq_nil_err
theorem deed3 {w : World} {A : Option Addr} {n : Nat} {xs : List (Int × (Int × Int))} (h : Kd.C kD w A n xs) (i : Int) (h0 : 0 ≤ i) (h1 : i < n) :
    ∃ ad p, A = some ad ∧ p ∈ xs ∧ w.cell? (ad.add (i.toNat * 3)) = some (.int .i64 p.1) ∧ w.cell? ⟨(ad.add (i.toNat * 3)).block, (ad.add (i.toNat * 3)).off + 1, none⟩ = some (.int .i64 p.2.1) ∧ w.cell? ⟨(ad.add (i.toNat * 3)).block, (ad.add (i.toNat * 3)).off + 2, none⟩ = some (.int .u32 p.2.2) := by
  obtain ⟨hl, _, hr⟩ := h
  obtain ⟨ad, e, hc⟩ := hr (by omega)
  have hlt : i.toNat < xs.length := by omega
  obtain ⟨c, hs, hK, hcell⟩ := hc i.toNat _ (List.getElem?_eq_getElem hlt)
  obtain ⟨c0, c1, rfl, hk0, d0, d1, rfl, hk1, hk2⟩ := hK
  obtain rfl := hk0
  obtain rfl := hk1
  obtain rfl := hk2
  exact ⟨ad, _, e, List.getElem_mem hlt, hcell 0 _ rfl, by rw [← add_field _ _ 1 (by omega)]; exact hcell 1 _ rfl, by rw [← add_field _ _ 2 (by omega)]; exact hcell 2 _ rfl⟩
theorem pick4 (c : Int) (hc : -9223372036854775808 ≤ c ∧ c ≤ 9223372036854775807) : ∃ q : Int, dowellaw04_Pick.f c 4 = some q ∧ (q = 0 ∨ q = 1 ∨ q = 2 ∨ q = 3) := by
  unfold dowellaw04_Pick.f
  by_cases h : c < 0
  · have e : wrap64 (-(wrap64 (c + 1))) = -(c + 1) := by unfold wrap64; omega
    rw [if_pos h, if_neg (by decide), e]
    refine ⟨_, rfl, ?_⟩
    rw [Int.tmod_eq_emod_of_nonneg (by omega)]; omega
  · rw [if_neg h, if_neg (by decide)]
    refine ⟨_, rfl, ?_⟩
    rw [Int.tmod_eq_emod_of_nonneg (by omega)]; omega
/-- A row of bytes at a block. -/
def Row (w : World) (r : Nat) (bs : List Int) : Prop := w.heap[r]? = some (.cells (bytesC bs) 5 (0, 0))
/-- A deed's own block. -/
def BoxD (w : World) (b : Nat) (p : Int × (Int × Int)) : Prop := w.heap[b]? = some (.cells #[.int .i64 p.1, .int .i64 p.2.1, .int .u32 p.2.2] 33 (0, 0))
theorem Row.cut {W : World} {r : Nat} {bs : List Int} (h2 : Row W r bs) (h5 : bs.length ≤ 1000000) (i n : Nat) : Kd.C (Kd.int .u8) W (some ⟨r, i, none⟩) ((bs.drop i).take n).length ((bs.drop i).take n) := by
  refine ⟨rfl, by simp; omega, fun _ => ⟨_, rfl, fun j p hj => ⟨[.int .u8 p], rfl, rfl, fun q u hu => ?_⟩⟩⟩
  cases q with
  | zero =>
    obtain rfl := Option.some.inj hu
    have e : ((⟨r, i, none⟩ : Addr).add (j * (Kd.int .u8).sz + 0)) = ⟨r, i + j, none⟩ := by
      show ((⟨r, i, none⟩ : Addr).add (j * 1 + 0)) = _
      rw [Nat.mul_one, Nat.add_zero, add_i]
    have hb : bs[i + j]? = some p := by
      have hlt : j < n := by have := (List.getElem?_eq_some_iff.1 hj).1; simp at this; omega
      rw [List.getElem?_take_of_lt hlt, List.getElem?_drop] at hj
      exact hj
    rw [e, blk_cell h2 (i + j), bytesC_get, hb]; rfl
  | succ q => simp at hu
theorem Row.keep {w w1 : World} {r : Nat} {bs : List Int} {g : Nat} {row : Option Nat} (h : Row w r bs) (hk : KeepBut w w1 g row) (hg : r ≠ g) (hr : some r ≠ row) : Row w1 r bs := hk.blk h hg hr
theorem BoxD.keep {w w1 : World} {r : Nat} {p : Int × (Int × Int)} {g : Nat} {row : Option Nat} (h : BoxD w r p) (hk : KeepBut w w1 g row) (hg : r ≠ g) (hr : some r ≠ row) : BoxD w1 r p := hk.blk h hg hr
theorem Row.below {w w1 : World} {r : Nat} {bs : List Int} (h : Row w r bs) (hb : Below w.heap.size w w1) : Row w1 r bs := blk_below h hb
theorem BoxD.below {w w1 : World} {r : Nat} {p : Int × (Int × Int)} (h : BoxD w r p) (hb : Below w.heap.size w w1) : BoxD w1 r p := blk_below h hb
theorem BoxD.c1 {w : World} {r : Nat} {p : Int × (Int × Int)} (h : BoxD w r p) : w.cell? ⟨r, 1, none⟩ = some (.int .i64 p.2.1) := (blk_cell h 1).trans rfl
theorem BoxD.c2 {w : World} {r : Nat} {p : Int × (Int × Int)} (h : BoxD w r p) : w.cell? ⟨r, 2, none⟩ = some (.int .u32 p.2.2) := (blk_cell h 2).trans rfl
theorem BoxD.c0 {w : World} {r : Nat} {p : Int × (Int × Int)} (h : BoxD w r p) : w.cell? ⟨r, 0, none⟩ = some (.int .i64 p.1) := (blk_cell h 0).trans rfl
theorem Row.cell {w : World} {r : Nat} {bs : List Int} (h : Row w r bs) (i : Nat) (hi : i < bs.length) : w.cell? ⟨r, i, none⟩ = some (.int .u8 (rd bs (i : Int))) := by
  rw [blk_cell h i, bytesC_get, List.getElem?_eq_getElem hi]
  unfold rd
  rw [Int.toNat_natCast, List.getD_eq_getElem?_getD, List.getElem?_eq_getElem hi]
  rfl
theorem Row.set_ {W : World} {r : Nat} {bs : List Int} (h2 : Row W r bs) (i : Nat) (b : Int) : Row (W.setCell ⟨r, i, none⟩ (.int .u8 b)) r (bs.set i b) := by
  have e := get_setCell W r i (.int .u8 b) r
  rw [if_pos rfl] at e
  have h2' : blk W r = some (.cells (bytesC bs) 5 (0, 0)) := h2
  rw [h2'] at e
  refine Eq.trans e ?_
  refine congrArg some ?_
  unfold objPut bytesC
  refine congrArg (fun c => Obj.cells c 5 (0, 0)) ?_
  refine Array.ext' ?_
  simp [List.map_set]
/-- What a round's head knows: the memory, the document's row, and that all is a byte. -/
structure Both (w W : World) (g r o : Nat) (bs : List Int) (n : Nat) : Prop where
  mem : IsMem w W g r bs
  row : Row W o bs
  len : bs.length = n
  byt : ∀ x ∈ bs, 0 ≤ x ∧ x ≤ 255
  og : o ≠ g
  or_ : o ≠ r
  below : Below w.heap.size w W
  old : w.heap.size ≤ o
theorem Both.step {w W W' : World} {g r o : Nat} {bs : List Int} {n : Nat} (h : Both w W g r o bs n) (hb : Below W.heap.size W W') : Both w W' g r o bs n :=
  ⟨h.mem.below hb, h.row.below hb, h.len, h.byt, h.og, h.or_, below_step h.below hb, h.old⟩
theorem Both.call {w W W' : World} {g r o g' : Nat} {row : Option Nat} {bs : List Int} {n : Nat} (h : Both w W g r o bs n) (hI : IsMem w W' g r bs) (hB : Below w.heap.size w W') (hk : KeepBut W W' g' row) (hg : g' = g ∨ g' = r) (hr : row = none ∨ row = some r) : Both w W' g r o bs n := by
  refine ⟨hI, h.row.keep hk ?_ ?_, h.len, h.byt, h.og, h.or_, hB, h.old⟩
  · rcases hg with rfl | rfl
    · exact h.og
    · exact h.or_
  · rcases hr with rfl | rfl
    · simp
    · intro e; injection e with e; exact h.or_ e
theorem box_call {w W W' : World} {g r o b g' : Nat} {row : Option Nat} {bs : List Int} {n : Nat} {p : Int × (Int × Int)} (h : Both w W g r o bs n) (hb : BoxD W b p) (hk : KeepBut W W' g' row) (hg : g' = g ∨ g' = r) (hr : row = none ∨ row = some r) : BoxD W' b p := by
  have n1 : b ≠ g := blk_ne hb h.mem.1 (by decide)
  have n2 : b ≠ r := blk_ne hb h.mem.2.1 (by decide)
  refine hb.keep hk ?_ ?_
  · rcases hg with rfl | rfl
    · exact n1
    · exact n2
  · rcases hr with rfl | rfl
    · simp
    · intro e; injection e with e; exact n2 e
theorem len4 (n : Nat) (a : Int) (h0 : 0 ≤ a) (h1 : a < n) (h4 : Int.tmod a 4 = 0) (hn : Int.tmod (n : Int) 4 = 0) : a + 4 ≤ n := by
  rw [Int.tmod_eq_emod_of_nonneg h0] at h4
  rw [Int.tmod_eq_emod_of_nonneg (by omega)] at hn
  omega
theorem mem_cut {bs : List Int} (h : ∀ x ∈ bs, 0 ≤ x ∧ x ≤ 255) (i n : Nat) : ∀ x ∈ (bs.drop i).take n, 0 ≤ x ∧ x ≤ 255 := fun x hx => h x (List.mem_of_mem_drop (List.mem_of_mem_take hx))
theorem IsMem.far {w W : World} {g r o : Nat} {bs : List Int} (h : IsMem w W g r bs) (h1 : o ≠ g) (h2 : o ≠ r) (i : Nat) (u : Value) : IsMem w (W.setCell ⟨o, i, none⟩ u) g r bs :=
  ⟨(Below.heap_setCell W ⟨o, i, none⟩ u g (Ne.symm h1)).trans h.1, (Below.heap_setCell W ⟨o, i, none⟩ u r (Ne.symm h2)).trans h.2.1, h.2.2⟩
theorem mem_set {bs : List Int} (h : ∀ x ∈ bs, 0 ≤ x ∧ x ≤ 255) (i : Nat) (y : Int) (hy : 0 ≤ y ∧ y ≤ 255) : ∀ x ∈ bs.set i y, 0 ≤ x ∧ x ≤ 255 := fun x hx => by
  rcases List.mem_or_eq_of_mem_set hx with hx | rfl
  · exact h x hx
  · exact hy
theorem Both.put {w W0 W : World} {g r o : Nat} {bs : List Int} {n : Nat} (h : Both w W0 g r o bs n) {y : Int} {i : Nat} (hI : IsMem w W g r (bs.set i y)) (hB : Below w.heap.size w W) (hR : Row W o bs) (i' : Nat) (y' : Int) (hy : 0 ≤ y ∧ y ≤ 255) (e1 : i' = i := by rfl) (e2 : y' = y := by rfl) :
    Both w (W.setCell ⟨o, i', none⟩ (.int .u8 y')) g r o (bs.set i y) n := by
  subst e1 e2
  exact ⟨hI.far h.og h.or_ _ _, hR.set_ _ _, by rw [List.length_set]; exact h.len, mem_set h.byt _ _ hy, h.og, h.or_, below_set hB h.old, h.old⟩
/-- The first bytes of a word, laid into a row. -/
def lay (bs : List Int) (i : Nat) (x : Int) (k : Nat) : List Int := bs.take i ++ ((wb x).take k ++ bs.drop (i + k))
theorem lay0 (bs : List Int) (i : Nat) (x : Int) : lay bs i x 0 = bs := by unfold lay; simp
theorem lay4 (bs : List Int) (i : Nat) (x : Int) : lay bs i x 4 = setW bs i x := by unfold lay setW; rfl
theorem lay_len (bs : List Int) (i : Nat) (x : Int) (k : Nat) (hk : k ≤ 4) (h : i + 4 ≤ bs.length) : (lay bs i x k).length = bs.length := by
  unfold lay wb; simp; omega
theorem lay_set (bs : List Int) (i : Nat) (x : Int) (k : Nat) (hk : k < 4) (h : i + 4 ≤ bs.length) : (lay bs i x k).set (i + k) (rd (wb x) (k : Int)) = lay bs i x (k + 1) := by
  have hw : (wb x).length = 4 := rfl
  have e1 : bs.drop (i + k) = bs[i + k]'(by omega) :: bs.drop (i + (k + 1)) := List.drop_eq_getElem_cons (by omega)
  have e2 : (wb x).take (k + 1) = (wb x).take k ++ [rd (wb x) (k : Int)] := by
    rw [List.take_succ_eq_append_getElem (by omega)]
    unfold rd
    rw [Int.toNat_natCast, List.getD_eq_getElem?_getD, List.getElem?_eq_getElem (by omega)]; rfl
  unfold lay
  rw [e1, e2, ← List.append_assoc, ← List.append_assoc, ← List.append_assoc, List.set_append_right _ _ (by simp; omega)]
  have e3 : i + k - (List.take i bs ++ List.take k (wb x)).length = 0 := by simp; omega
  rw [e3]; simp
theorem rbytes (x : Int) (h : 0 ≤ x) : dowelref01_Bytes.f x = some (wb x) := by
  unfold dowelref01_Bytes.f wb
  rw [Int.tmod_eq_emod_of_nonneg h, Int.tdiv_eq_ediv_of_nonneg h, Int.tdiv_eq_ediv_of_nonneg h, Int.tdiv_eq_ediv_of_nonneg h]
  congr 1
  simp
/-- While a word's bytes are laid into the document's row. -/
def Laid (w W : World) (g r o b : Nat) (bs cs : List Int) (p : Int × (Int × Int)) (k n : Nat) (ad : Addr) (c : Nat) : Prop :=
  IsMem w W g r cs ∧ Below w.heap.size w W ∧ Row W o (lay bs p.2.1.toNat p.2.2 k) ∧ BoxD W b p ∧ ∃ base, Kd.R (Kd.int .u8) 5 W base (fun _ => True) (.slice (some ad) 4 c) (wb p.2.2) ∧ o < base ∧ 0 ≤ n ∧ o ≠ g ∧ o ≠ r ∧ w.heap.size ≤ o
theorem cell_wb {W : World} {base : Nat} {ad : Addr} {c : Nat} {x : Int} (h : Kd.R (Kd.int .u8) 5 W base (fun _ => True) (.slice (some ad) 4 c) (wb x)) (k : Nat) (hk : k < 4) : W.cell? (ad.add k) = some (.int .u8 (rd (wb x) (k : Int))) := by
  obtain ⟨ad', c', e, hc⟩ := wb_cells h
  injection e with e1 _ _
  injection e1 with e1
  subst e1
  refine hc k _ ?_
  rw [List.getElem?_map, List.getElem?_eq_getElem (show k < (wb x).length from hk)]
  unfold rd
  rw [Int.toNat_natCast, List.getD_eq_getElem?_getD, List.getElem?_eq_getElem (show k < (wb x).length from hk)]
  rfl
theorem Laid.step {w W : World} {g r o b : Nat} {bs cs : List Int} {p : Int × (Int × Int)} {k n : Nat} {ad : Addr} {c : Nat} (h : Laid w W g r o b bs cs p k n ad c) (hk : k < 4) (h0 : 0 ≤ p.2.1) (hl : p.2.1.toNat + 4 ≤ bs.length) :
    Laid w (W.setCell ⟨o, (p.2.1 + (k : Int)).toNat, none⟩ (.int .u8 (rd (wb p.2.2) (k : Int)))) g r o b bs cs p (k + 1) n ad c := by
  obtain ⟨h1, h2, h3, h4, base, h5, h6, h7, h8, h9, h10⟩ := h
  have e : (p.2.1 + (k : Int)).toNat = p.2.1.toNat + k := by omega
  refine ⟨h1.far h8 h9 _ _, below_set h2 h10, ?_, ?_, base, ?_, h6, h7, h8, h9, h10⟩
  · rw [← lay_set bs p.2.1.toNat p.2.2 k hk hl, e]
    exact h3.set_ _ _
  · have n1 : b ≠ o := blk_ne h4 h3 (by decide)
    exact (Below.heap_setCell W ⟨o, _, none⟩ _ b n1).trans h4
  · exact Kd.R_mono (Kd.R_far (p := ⟨o, _, none⟩) (Kd.R_mono (Kd.R_bound h5) (fun q hq => hq)) (fun q hq => by have := hq.2.1; show q ≠ o; omega) _) (fun _ _ => trivial)
theorem Laid.drew {w W : World} {g r o b : Nat} {bs cs : List Int} {p : Int × (Int × Int)} {k n : Nat} {ad : Addr} {c : Nat} (h : Laid w W g r o b bs cs p k n ad c) : Laid w W.drew g r o b bs cs p k n ad c := ⟨h.1, below_drew1 h.2.1, h.2.2⟩
theorem setW_mem {bs : List Int} (h : ∀ x ∈ bs, 0 ≤ x ∧ x ≤ 255) (i : Nat) (x : Int) (hx : 0 ≤ x) : ∀ y ∈ setW bs i x, 0 ≤ y ∧ y ≤ 255 := fun y hy => by
  unfold setW at hy
  rcases List.mem_append.1 hy with hy | hy
  · exact h y (List.mem_of_mem_take hy)
  · rcases List.mem_append.1 hy with hy | hy
    · exact MineWord.bytes_mem x hx y hy
    · exact h y (List.mem_of_mem_drop hy)
theorem Laid.done {w W : World} {g r o b : Nat} {bs : List Int} {p : Int × (Int × Int)} {n n' : Nat} {ad : Addr} {c : Nat} (h : Laid w W g r o b bs (setW bs p.2.1.toNat p.2.2) p 4 n' ad c) (hb : ∀ x ∈ bs, 0 ≤ x ∧ x ≤ 255) (hn : bs.length = n) (hl : p.2.1.toNat + 4 ≤ bs.length) (hx : 0 ≤ p.2.2 ∧ p.2.2 < 4294967296) :
    Both w W g r o (setW bs p.2.1.toNat p.2.2) n := by
  obtain ⟨h1, h2, h3, h4, base, h5, h6, h7, h8, h9, h10⟩ := h
  rw [lay4] at h3
  exact ⟨h1, h3, by rw [setW_len _ _ _ hl]; exact hn, setW_mem hb _ _ hx.1, h8, h9, h2, h10⟩
theorem Both.drew {w W : World} {g r o : Nat} {bs : List Int} {n : Nat} (h : Both w W g r o bs n) : Both w W.drew g r o bs n := ⟨h.mem.drew, h.row, h.len, h.byt, h.og, h.or_, below_drew1 h.below, h.old⟩
theorem Both.str {w W : World} {g r o : Nat} {bs : List Int} {n : Nat} (h : Both w W g r o bs n) (hn : n ≤ 4096) : (convert 34 9 (.slice (some ⟨o, 0, none⟩) n n)).run Try.prog W = .ok (.string (strOfNums bs)) W := by
  have hc := h.row.cut (by have := h.len; omega) 0 n
  rw [List.drop_zero, List.take_of_length_le (by have := h.len; omega), h.len] at hc
  exact Kd.C_string Try.underlying34 Try.underlying5 Try.underlying9 hc
theorem Both.cut_str {w W : World} {g r o : Nat} {bs : List Int} {n : Nat} (h : Both w W g r o bs n) (hn : n ≤ 4096) (X T : Int) (h0 : 0 ≤ X) (h1 : X < T) (h2 : T ≤ n) : (convert 34 9 (.slice (some ⟨o, X.toNat, none⟩) (T.toNat - X.toNat) (n - X.toNat))).run Try.prog W = .ok (.string (strOfNums ((bs.drop X.toNat).take (T.toNat - X.toNat)))) W := by
  have hl := h.len
  have hc := h.row.cut (by omega) X.toNat (T.toNat - X.toNat)
  have e : ((bs.drop X.toNat).take (T.toNat - X.toNat)).length = T.toNat - X.toNat := by simp; omega
  rw [e] at hc
  exact Kd.C_string Try.underlying34 Try.underlying5 Try.underlying9 hc
theorem got_str {W : World} {base : Nat} {v : Value} {xs : List Int} (h : Kd.R (Kd.int .u8) 5 W base (fun _ => True) v xs) : ∃ A c, v = .slice A xs.length c ∧ (convert 34 9 (.slice A xs.length c)).run Try.prog W = .ok (.string (strOfNums xs)) W := by
  obtain ⟨A, c, e, _, hC⟩ := Kd.R_reads h
  exact ⟨A, c, e, Kd.C_string Try.underlying34 Try.underlying5 Try.underlying9 hC⟩
theorem all_cut {bs : List Int} {n : Nat} (h : bs.length = n) : (bs.drop (0 : Int).toNat).take ((n : Int).toNat - (0 : Int).toNat) = bs := by
  show (bs.drop 0).take _ = bs
  rw [List.drop_zero, List.take_of_length_le (by rw [h]; simp)]
theorem conv_nil (W : World) : (convert 34 9 (.slice none 0 0)).run Try.prog W = .ok (.string (strOfNums [])) W :=
  Kd.C_string Try.underlying34 Try.underlying5 Try.underlying9 ⟨rfl, by decide, fun h => absurd h (Nat.lt_irrefl 0)⟩
end Go.Proofs.Ytkeijpngfnmjoaa.MineMem
