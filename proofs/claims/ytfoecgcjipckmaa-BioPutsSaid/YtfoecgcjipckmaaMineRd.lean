/- bio's reader: what New, Left, Short, Number and Text tell, of any bytes. No condition but that the bytes are there and the numbers are as told. -/
import Derived.Test.YtfoecgcjipckmaaQBioReadsx1
import Derived.Deep.RegionLaw
namespace Go.Proofs.Ytfoecgcjipckmaa.MineRd
open Go.RowKit Go.Proofs.YtfoecgcjipckmaaW.PrintWords Go.Proofs.YtfoecgcjipckmaaW.PrintLast Go.Proofs.YtfoecgcjipckmaaW.PrintMore Go.Proofs.Ytfoecgcjipckmaa.MineBase
attribute [local go_sem] max2_int min2_int max_two min_two max_three min_three max_four min_four   -- for this text's walks alone
set_option linter.unusedVariables false
set_option linter.unusedSimpArgs false
/-- A reader at block g; what is left came in by w0. -/
def IsRd (w0 W : World) (g : Nat) (l : List Int) (sh : Bool) : Prop := ∃ A c, W.heap[g]? = some (.cells #[.slice A l.length c, .bool sh] 78 (0, 0)) ∧ w0.heap.size ≤ g ∧ Kd.C (Kd.int .u8) w0 A l.length l ∧ l.length ≤ c ∧ l.length ≤ 1000000
theorem IsRd.below {w0 W W1 : World} {g : Nat} {l : List Int} {sh : Bool} (h : IsRd w0 W g l sh) (hw : Below W.heap.size W W1) : IsRd w0 W1 g l sh := by
  obtain ⟨A, c, h1, h2⟩ := h
  exact ⟨A, c, blk_below h1 hw, h2⟩
theorem IsRd.ge {w0 W : World} {g : Nat} {l : List Int} {sh : Bool} (h : IsRd w0 W g l sh) : w0.heap.size ≤ g := by
  obtain ⟨A, c, h1, h2, _⟩ := h; exact h2
theorem IsRd.keep {w0 W W1 : World} {g g' : Nat} {row : Option Nat} {l : List Int} {sh : Bool} (h : IsRd w0 W g l sh) (hk : KeepBut W W1 g' row) (hg : g ≠ g') (hr : some g ≠ row) : IsRd w0 W1 g l sh := by
  obtain ⟨A, c, h1, h2⟩ := h
  exact ⟨A, c, hk.blk h1 hg hr, h2⟩
theorem info5 : (Try.prog.info? 5).map (fun i => (i.zero, i.size, i.bytes)) = some (some (.int .u8 0), 1, 1) := by kernel_rfl
theorem New_calls (A : Option Addr) (c : Nat) (l : List Int) (w0 w : World) (hB : Below w0.heap.size w0 w) (hr : Kd.C (Kd.int .u8) w0 A l.length l) (hc : l.length ≤ c) (hl : l.length ≤ 1000000) :
    Calls Try.prog 30 #[.slice A l.length c] w fun e w' => e = .returned (.pointer (some ⟨w.heap.size, 0, none⟩)) ∧ IsRd w0 w' w.heap.size l false ∧ Below w.heap.size w w' := by
  have H := Aside0.mk (show IsRd w0 (w.alloc (.cells #[.slice A l.length c, .bool false] 78)) w.heap.size l false from ⟨A, c, by simpa using heap_alloc_new w _, hB.size, hr, hc, hl⟩)
  have hu78 := Try.underlying78
  clear hr hc hl hB
  go_enter Try.func30, Try.ntmps30
  go_wp2
  go_ret
  exact ⟨by rfl, H.out, below_alloc (Below.refl _ _) _⟩
theorem Short_calls (g : Nat) (l : List Int) (sh : Bool) (w0 w : World) (hI : IsRd w0 w g l sh) :
    Calls Try.prog 37 #[.pointer (some ⟨g, 0, none⟩)] w fun e w' => e = .returned (.bool sh) ∧ w = w' := by
  obtain ⟨A, c, h1, h2, h3⟩ := hI
  have c1 : w.cell? ⟨g, 1, none⟩ = some (.bool sh) := (blk_cell h1 1).trans rfl
  clear h1 h2 h3
  go_enter Try.func37, Try.ntmps37
  go_wp2
  go_ret
  exact ⟨by rfl, rfl⟩
theorem Left_calls (g : Nat) (l : List Int) (sh : Bool) (w0 w : World) (hI : IsRd w0 w g l sh) :
    Calls Try.prog 35 #[.pointer (some ⟨g, 0, none⟩)] w fun e w' => e = .returned (.int .i64 (l.length : Int)) ∧ w = w' := by
  obtain ⟨A, c, h1, h2, h3⟩ := hI
  have c1 : w.cell? ⟨g, 0, none⟩ = some (.slice A l.length c) := (blk_cell h1 0).trans rfl
  clear h1 h2 h3
  go_enter Try.func35, Try.ntmps35
  go_wp2
  go_ret
  exact ⟨by rfl, rfl⟩
theorem next_out (g : Nat) (l : List Int) (sh : Bool) (n : Int) (w0 w : World) (hI : IsRd w0 w g l sh) (hB : Below w0.heap.size w0 w) (h : (l.length : Int) < n) :
    Calls Try.prog 61 #[.pointer (some ⟨g, 0, none⟩), .int .i64 n] w fun e w' => e = .returned (.slice none 0 0) ∧ IsRd w0 w' g [] true ∧ Below w0.heap.size w0 w' ∧ KeepBut w w' g none := by
  have HK := Aside0.mk (KeepBut.refl w g none)
  have HB := Aside0.mk hB
  obtain ⟨A, c, h1, h2, h3⟩ := hI
  have c0 : w.cell? ⟨g, 0, none⟩ = some (.slice A l.length c) := (blk_cell h1 0).trans rfl
  have c1 : w.cell? ⟨g, 1, none⟩ = some (.bool sh) := (blk_cell h1 1).trans rfl
  have f0 := blk_frozen h1 0
  have f1 := blk_frozen h1 1
  have d : decide ((l.length : Int) < n) = true := decide_eq_true h
  have HI := Aside0.mk (show IsRd w0 ((w.setCell ⟨g, 1, none⟩ (.bool true)).setCell ⟨g, 0, none⟩ (.slice none 0 0)) g [] true from
    ⟨none, 0, by simpa using blk_set (blk_set h1 1 (.bool true)) 0 (.slice none 0 0), h2, ⟨rfl, by simp, fun h => absurd h (Nat.lt_irrefl 0)⟩, by simp, by simp⟩)
  have HG := Aside0.mk h2
  clear h1 h2 h3 hB h
  go_enter Try.func61, Try.ntmps61
  go_wp2
  go_ret
  exact ⟨by rfl, HI.out, below_set (below_set HB.out HG.out) HG.out, KeepBut.set_ (KeepBut.set_ HK.out _ _) _ _⟩
theorem next_short (g : Nat) (l : List Int) (n : Int) (w0 w : World) (hI : IsRd w0 w g l true) (h : n ≤ l.length) :
    Calls Try.prog 61 #[.pointer (some ⟨g, 0, none⟩), .int .i64 n] w fun e w' => e = .returned (.slice none 0 0) ∧ w = w' := by
  obtain ⟨A, c, h1, h2, h3⟩ := hI
  have c0 : w.cell? ⟨g, 0, none⟩ = some (.slice A l.length c) := (blk_cell h1 0).trans rfl
  have c1 : w.cell? ⟨g, 1, none⟩ = some (.bool true) := (blk_cell h1 1).trans rfl
  have d : decide ((l.length : Int) < n) = false := decide_eq_false (by omega)
  clear h1 h2 h3 h
  go_enter Try.func61, Try.ntmps61
  go_wp2
  go_ret
  exact ⟨by rfl, rfl⟩
theorem next_in (g : Nat) (l : List Int) (n : Int) (w0 w : World) (hI : IsRd w0 w g l false) (hB : Below w0.heap.size w0 w) (h0 : 0 ≤ n) (h : n ≤ l.length) :
    Calls Try.prog 61 #[.pointer (some ⟨g, 0, none⟩), .int .i64 n] w fun e w' => (∃ A c, e = .returned (.slice A (l.take n.toNat).length c) ∧ Kd.C (Kd.int .u8) w0 A (l.take n.toNat).length (l.take n.toNat) ∧ (l.take n.toNat).length ≤ c) ∧ IsRd w0 w' g (l.drop n.toNat) false ∧ Below w0.heap.size w0 w' ∧ KeepBut w w' g none := by
  have HK := Aside0.mk (KeepBut.refl w g none)
  have HB := Aside0.mk hB
  obtain ⟨A, c, h1, h2, h3, h4, h5⟩ := hI
  obtain ⟨i0, hi, hzz⟩ := Option.map_eq_some_iff.1 info5
  simp only [Prod.mk.injEq] at hzz
  have c0 : w.cell? ⟨g, 0, none⟩ = some (.slice A l.length c) := (blk_cell h1 0).trans rfl
  have c1 : w.cell? ⟨g, 1, none⟩ = some (.bool false) := (blk_cell h1 1).trans rfl
  have f0 := blk_frozen h1 0
  have d : decide ((l.length : Int) < n) = false := decide_eq_false (by omega)
  have hT := Kd.C_take h3 (m := n.toNat) (by omega)
  have hD := Kd.C_drop h3 (m := n.toNat) (by omega) h4
  have lT : (l.take n.toNat).length = n.toNat := by rw [List.length_take]; omega
  have lD : (l.drop n.toNat).length = l.length - n.toNat := List.length_drop
  have e1 := cut_to (P := Try.prog) 30 5 .i64 Try.underlying30 hi A l.length c n h0 (by omega) h4
  have e2 := cut_from (P := Try.prog) 30 5 .i64 Try.underlying30 hi 1 hzz.2.1 A l.length c n h0 (by omega)
  generalize hA' : (if c = n.toNat then A else A.map (·.add (n.toNat * 1))) = A' at e2
  have hD' : Kd.C (Kd.int .u8) w0 A' (l.drop n.toNat).length (l.drop n.toNat) := hA' ▸ hD
  have HI := Aside0.mk (show IsRd w0 (w.setCell ⟨g, 0, none⟩ (.slice A' (l.length - n.toNat) (c - n.toNat))) g (l.drop n.toNat) false from
    ⟨A', c - n.toNat, by rw [lD]; simpa using blk_set h1 0 (.slice A' (l.length - n.toNat) (c - n.toNat)), h2, hD', by omega, by omega⟩)
  have HG := Aside0.mk h2
  have HT := Aside0.mk (And.intro hT (And.intro lT (show n.toNat ≤ c by omega)))
  clear h1 h2 h3 h4 h5 hB h h0 hT hD hD' lT lD hA' hzz hi
  go_enter Try.func61, Try.ntmps61
  go_wp2
  go_ret
  exact ⟨⟨A, c, by rw [HT.out.2.1]; rfl, HT.out.1, by rw [HT.out.2.1]; exact HT.out.2.2⟩, HI.out, below_set HB.out HG.out, KeepBut.set_ HK.out _ _⟩
end Go.Proofs.Ytfoecgcjipckmaa.MineRd
