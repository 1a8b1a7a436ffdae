/- HeapPlays: the document's heap in memory; making one; errors' numbers. Conditions: the numbers are as told. -/
import Derived.Test.YtkeijpngfnmjoaaMineHeapK
import Derived.Test.YtkeijpngfnmjoaaMineDocPure
namespace Go.Proofs.Ytkeijpngfnmjoaa.MineHeap
open Go.RowKit Go.MapKept Go.Proofs.YtkeijpngfnmjoaaW.PrintWords Go.Proofs.YtkeijpngfnmjoaaW.PrintLast Go.Proofs.YtkeijpngfnmjoaaW.PrintMore Go.Proofs.Ytkeijpngfnmjoaa.MineBase Go.Proofs.Ytkeijpngfnmjoaa.MineSep Go.Proofs.Ytkeijpngfnmjoaa.MineRows Go.Proofs.Ytkeijpngfnmjoaa.MineGen Go.Proofs.Ytkeijpngfnmjoaa.QHeapPlays
attribute [local go_sem] Go.Proofs.Ytkeijpngfnmjoaa.MineErr.eql_err Go.Proofs.Ytkeijpngfnmjoaa.MineErr.neq_err Go.Proofs.Ytkeijpngfnmjoaa.MineErr.eql_nil_err Go.Proofs.Ytkeijpngfnmjoaa.MineErr.neq_nil_err
attribute [local go_sem ↓] Go.wp_at_zero Go.wp_at_succ
set_option linter.unusedVariables false
set_option linter.unusedSimpArgs false
/-- The document's heap. -/
def ADocH (lo hi : Int) (base g : Nat) (F : List Bool) : Asn := ABox 121 4 Kd.bool [.int .i64 lo, .int .i64 hi] base g F
theorem bool_at {W : World} {A : Option Addr} {n : Nat} {xs : List Bool} (h : Kd.bool.C W A n xs) {i : Nat} {p : Bool} (hi : xs[i]? = some p) :
    ∃ ad, A = some ad ∧ W.cell? (ad.add i) = some (.bool p) := by
  have hl := (List.getElem?_eq_some_iff.1 hi).1
  obtain ⟨ad, e, hc⟩ := h.2.2 (by have := h.1; omega)
  obtain ⟨cs, hs, hK, hcell⟩ := hc i p hi
  obtain rfl := hK
  have := hcell 0 _ rfl
  exact ⟨ad, e, by simpa [show Kd.bool.sz = 1 from rfl] using this⟩
theorem doc_bool {w0 w : World} {l : List Asn} {t e : TypeId} {pre : List Value} {g : Nat} {xs : List Bool} {k : Nat} {p : Bool} (h : Sat w0 w (ABox t e Kd.bool pre w0.heap.size g xs :: l)) (hk : xs[k]? = some p) :
    ∃ g3 c, w.heap[g]? = some (.cells (rowC pre (.slice (some ⟨g3, 0, none⟩) xs.length c)) t (0, 0)) ∧ xs.length ≤ c ∧ g3 ≠ g ∧ w.cell? ⟨g3, k, none⟩ = some (.bool p) ∧ w.frozen? ⟨g3, k, none⟩ = false ∧
      (∀ b, Sat w0 (w.setCell ⟨g3, k, none⟩ (.bool b)) (ABox t e Kd.bool pre w0.heap.size g (xs.set k b) :: l)) := by
  have hkl : k < xs.length := (List.getElem?_eq_some_iff.1 hk).1
  obtain ⟨A, c, D, hg, hN, hD, hlc, hC, hbp, hclose⟩ := box_parts h
  obtain ⟨g3, cap, e1, hbg, hlt, cells, hgc⟩ := Kd.N_form hN (by omega)
  injection e1 with e1 _ e2
  subst e1 e2
  obtain ⟨ad, e, x0⟩ := bool_at hC hk
  injection e with e
  subst e
  rw [add_plain] at x0
  have hDg : D g3 := hN.1 g3 rfl
  refine ⟨g3, c, hg, hlc, (hD g3 hDg).2.2, x0, get_frozen hgc _, fun b => ?_⟩
  have hs := Kd.N_seg (d := Kd.bool) hN (k : Int) (by omega) (by omega) (c := [.bool p]) (seg := [.bool b]) (j := 0) (x' := b) (okp := fun _ => False) rfl (by
      rw [Int.toNat_natCast]
      intro i u hi
      rcases i with _ | i
      · simp only [List.getElem?_cons_zero, Option.some.injEq] at hi
        subst hi
        have h2 := x0
        simpa [Addr.add, show Kd.bool.sz = 1 from rfl] using h2
      · simp at hi) (by show 0 + 1 ≤ 1; omega) (flat_FK flat_bool (W := w) rfl) (fun _ hj => hj.elim)
  obtain ⟨h1, h2⟩ := hs
  rw [Int.toNat_natCast] at h1
  rw [show k * Kd.bool.sz + 0 = k from Nat.mul_one k] at h1
  exact hclose _ _ _ _ (h.toBelow.setCell (show w0.heap.size ≤ g3 from (hD g3 hDg).1) _) ((Kept.refl w _).setCell (.inl (.inl hDg)) _) (blk_far hg (Ne.symm (hD g3 hDg).2.2) _) (Kd.N_mono (show Kd.bool.N e (w.setCell ⟨g3, k, none⟩ (.bool b)) w0.heap.size D _ _ from h1) (fun j hj => .inl hj))
/-- append(g.row, x), and its store. -/
theorem box_append {P : Program} {ops : Array Oper} {rest : List Oper} {o : Oper} {a : Act} {Q : Exit → Act → World → Prop} {α : Type} (d : Kd α) (hf : Flat d) {w0 W : World} {l : List Asn} {ty : TypeId} {pre : List Value} {g : Nat} (hgd : o.guard = none) (s x : Operand) (t e : TypeId) (z : Value) (bytes : Nat)
    (ho : o.op = .call { callee := .builtin .append, args := #[s, x], argTypes := #[t, t] })
    (ht : P.underlying t = some (.slice e)) (hinfo : (P.info? e).map (fun i => (i.zero, i.size, i.bytes)) = some (some z, d.sz, bytes)) (hz : z.cells.size = d.sz) (hs0 : 0 < d.sz) (hb0 : 0 < bytes)
    (v : Value) (xs : List α) (p : α) (cs : List Value) (hs : a.eval s = v) (hx : a.eval x = .slice (some ⟨W.heap.size, 0, none⟩) 1 1) (hp : ∀ W, d.K W p cs) (HS : Sat w0 W (ABox ty e d pre w0.heap.size g xs :: l)) (hv : W.cell? ⟨g, pre.length, none⟩ = some v) (hl : (xs.length + 1) * bytes ≤ 140737488355328)
    (h : ∀ A1 n1 c1 w1, n1 = xs.length + 1 → w1.frozen? ⟨g, pre.length, none⟩ = false → w1.cell? ⟨g, pre.length, none⟩ = some v → Sat w0 (w1.setCell ⟨g, pre.length, none⟩ (.slice A1 n1 c1)) (ABox ty e d pre w0.heap.size g (xs ++ [p]) :: l) → wpList P ops Q rest (a.put o.dst (.slice A1 n1 c1)) w1) :
    wpList P ops Q (o :: rest) a (W.alloc (.cells cs.toArray e)) := by
  obtain ⟨A, c, D, hg, hN, hD, hlc, hC, hbp, hclose⟩ := box_parts HS
  rw [get_cell hg] at hv
  have hv2 : v = .slice A xs.length c := by
    have h3 : (rowC pre (.slice A xs.length c))[pre.length]? = some (.slice A xs.length c) := by simp [rowC]
    rw [h3] at hv
    injection hv with hv
    exact hv.symm
  subst hv2
  refine Kd.N_append d (w0 := w0) w0.heap.size hgd s x t e z bytes ho ht hinfo hz hs0 hb0 _ xs p cs (fun k => D k ∨ W.heap.size ≤ k) (fun _ => False) hs hx (flat_FK hf (hp W)) (fun _ h => h.elim) (fun _ h => .inr h) (Kd.N_mono hN (fun _ h => .inl h)) HS.toBelow HS.size hl ?_
  intro v1 w1 hN1 hB1 hG1 hat1
  have hne : some g ≠ (Value.slice A xs.length c).ownBlock := fun he => (hD g (hN.1 g he.symm)).2.2 rfl
  have hg1 : w1.heap[g]? = some (.cells (rowC pre (.slice A xs.length c)) ty (0, 0)) := blk_grown hg hG1 hne
  obtain ⟨A1, c1, rfl⟩ := Kd.N_slice hN1
  refine h A1 (xs ++ [p]).length c1 w1 (by rw [List.length_append]; rfl) (get_frozen hg1 _) (by rw [get_cell hg1]; simp [rowC]) (hclose _ (.slice A1 (xs ++ [p]).length c1) pre (xs ++ [p]) (hB1.setCell hbp _) ((Kept.of_grown hG1 (Kept.refl W _) (fun k hk => .inl (.inl (hN.1 k hk)))).setCell (.inl (.inr rfl)) _) ?_ ?_)
  · rw [blk_set hg1]
    simp [rowC]
  · refine Kd.N_step hN1 (fun k hk hlt => Below.heap_setCell _ _ _ k ?_)
    rcases hk with hk | hk
    · exact (hD k hk).2.2
    · have := blk_lt hg; show k ≠ g; omega
theorem info4 : (Try.prog.info? 4).map (fun i => (i.zero, i.size, i.bytes)) = some (some (.bool false), 1, 1) := by kernel_rfl
set_option maxRecDepth 100000 in
set_option maxHeartbeats 2000000 in
theorem NewHeap_calls {w0 w : World} {l : List Asn} (HS : Sat w0 w l) (lo hi : Int) (h : heapOk lo hi) (h4096 : hi - lo ≤ 4096) : Calls Try.prog 23 #[.int .i64 lo, .int .i64 hi] w fun e w' => ∃ g, e = .returned (.pointer (some ⟨g, 0, none⟩)) ∧ Sat w0 w' (ADocH lo hi w0.heap.size g (List.replicate ((hi - lo) / 4).toNat true) :: l) := by
  obtain ⟨h1, h2, h3, h4, h5⟩ := h
  have HB := Aside0.mk (And.intro (And.intro h1 h2) (And.intro (And.intro h3 h4096) (And.intro h4 h5)))
  replace HS := Aside0.mk HS
  clear h1 h2 h3 h4 h5 h4096
  go_enter Try.func23, Try.ntmps23
  go_wp2_with fail
  refine wp_abs (fun W => Sat w0 W (ADocH lo hi w0.heap.size w.heap.size [] :: l)) ?_ (fun W hW => ?_)
  · exact box_new HS.out (below_alloc (Below.refl _ _) _) (heap_alloc_new w _) (Nat.le_refl _) (Kd.N_nil _ _ _ _ (fun k => False)) (fun _ h => h.elim)
  replace hW := Aside0.mk hW
  go_loopg [6] (((hi - lo) / 4).toNat + 1) (fun kq v6 w' => ∃ i : Nat, v6 = .int .i64 (lo + 4 * i) ∧ Aside0 (lo + 4 * i ≤ hi ∧ (hi - lo) / 4 - i < kq) ∧ Aside0 (Sat w0 w' (ADocH lo hi w0.heap.size w.heap.size (List.replicate i true) :: l)))
  case atStart => exact ⟨0, by simp, ⟨by have := HB.out; omega⟩, hW⟩
  case round =>
    clear hW
    obtain ⟨i, rfl, Hi, HW⟩ := hrel
    obtain ⟨A, c, hg, hlc, hC⟩ := box_read HW.out
    have x0 : wr.cell? ⟨w.heap.size, 2, none⟩ = some (.slice A (List.replicate i true).length c) := get_cell hg 2
    have x1 : wr.cell? ⟨w.heap.size, 1, none⟩ = some (.int .i64 hi) := get_cell hg 1
    clear hg hlc hC
    rw [List.length_replicate] at x0
    by_cases hlt : lo + 4 * (i : Int) < hi
    · have q1 : (lo + 4 * (i : Int) < hi) = True := eq_true hlt
      have q2 : 0 ≤ lo + 4 * (i : Int) := by have := HB.out; omega
      have q3 : lo + 4 * (i : Int) ≤ 65536 := by have := HB.out; omega
      have HI := Aside0.mk (show i ≤ 1024 from by have := HB.out; omega)
      clear hlt
      go_wp2_with (at_builtin; refine box_append Kd.bool flat_bool rfl (.tmp 21) (.tmp 22) 119 4 _ 1 rfl Try.underlying119 info4 rfl (by decide) (by decide) (.slice A i c) (List.replicate i true) true [.bool true] rfl rfl (fun _ => rfl) HW.out x0 (by rw [List.length_replicate]; have := HI.out; omega) ?_; intro A1 n1 c1 w1 hn1 hf1 hc1 hS1; rw [List.length_replicate] at hn1; subst hn1; have f1 : w1.frozen? ⟨w.heap.size, 2, none⟩ = false := hf1; have y1 : w1.cell? ⟨w.heap.size, 2, none⟩ = some (.slice A i c) := hc1; have HS1 := Aside0.mk (show Sat w0 (w1.setCell ⟨w.heap.size, 2, none⟩ (.slice A1 (i + 1) c1)) _ from hS1); clear hf1 hc1 hS1)
      go_roundg (gk - 1)
      case measure => have := Hi.out; have := HB.out; have := of_eq_true q1; omega
      case rel => exact ⟨i + 1, by go_num, ⟨by have := Hi.out; have := HB.out; have := of_eq_true q1; omega⟩, ⟨by rw [List.replicate_succ']; exact HS1.out⟩⟩
    · have q1 : (lo + 4 * (i : Int) < hi) = False := eq_false hlt
      have HI := Aside0.mk (show ((hi - lo) / 4).toNat = i from by have := HB.out; have := Hi.out; omega)
      clear hlt
      go_wp2_with fail
      go_ret
      exact ⟨_, rfl, by rw [HI.out]; exact HW.out⟩
theorem ret_same {a b : Value} (h : a = b) : Ending.returned a = .returned b := by rw [h]
set_option maxRecDepth 100000 in
set_option maxHeartbeats 2000000 in
theorem Code_calls (o : Option Int) (ho : ∀ c, o = some c → 1 ≤ c ∧ c ≤ 13) (w : World) : Calls Try.prog 24 #[errV o] w fun e w' => e = .returned (.int .i64 (o.getD 0)) ∧ Below w.heap.size w w' := by
  cases o with
  | none =>
    rw [show errV none = .nilIface from rfl]
    go_enter Try.func24, Try.ntmps24
    go_wp2
    go_ret
    exact ⟨by rfl, Below.refl _ _⟩
  | some c =>
    rw [show errV (some c) = .iface 39 (.int .i64 c) from rfl]
    have h0 := ho c rfl
    have HC := Aside0.mk h0
    clear h0 ho
    go_enter Try.func24, Try.ntmps24
    go_wp2
    go_loopg [3] 20 (fun kq v3 w' => ∃ i : Int, v3 = .int .i64 i ∧ Aside0 (1 ≤ i ∧ i ≤ c ∧ (20 : Int) - i < kq + 1) ∧ Aside0 (Below w.heap.size w w'))
    case atStart => exact ⟨1, rfl, ⟨by have := HC.out; omega⟩, ⟨Below.refl _ _⟩⟩
    case round =>
      obtain ⟨i, rfl, Hi, HB⟩ := hrel
      have p1 : i ≤ 13 := by have := Hi.out; have := HC.out; omega
      have p2 : 0 ≤ i := by have := Hi.out; omega
      by_cases hq : c = i
      · have hq' : (c == i) = true := by simpa using hq
        have HQ := Aside0.mk hq
        clear hq
        go_wp2
        go_ret
        exact ⟨ret_same (by rw [HQ.out]; rfl), HB.out⟩
      · have hq' : (c == i) = false := by simpa using hq
        have HQ := Aside0.mk hq
        clear hq
        go_wp2
        go_roundg (gk - 1)
        case measure => have := Hi.out; have := HQ.out; have := HC.out; omega
        case rel => exact ⟨i + 1, by go_num, ⟨by have := Hi.out; have := HQ.out; have := HC.out; omega⟩, HB⟩
end Go.Proofs.Ytkeijpngfnmjoaa.MineHeap
