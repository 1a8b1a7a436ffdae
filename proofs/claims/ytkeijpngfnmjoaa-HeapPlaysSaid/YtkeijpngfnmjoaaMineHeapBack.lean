/- HeapBack, the walk: for any sizes the statement returns true. Condition: the turn is a whole number of 64 bits. -/
import Derived.Test.YtkeijpngfnmjoaaMineHeapK
import Derived.Test.YtkeijpngfnmjoaaMineHeapBackPure
import Derived.Deep.Slices
namespace Go.Proofs.Ytkeijpngfnmjoaa.MineHeap
open Go.RowKit Go.MapKept Go.Proofs.YtkeijpngfnmjoaaW.PrintWords Go.Proofs.YtkeijpngfnmjoaaW.PrintLast Go.Proofs.YtkeijpngfnmjoaaW.PrintMore Go.Proofs.Ytkeijpngfnmjoaa.MineBase Go.Proofs.Ytkeijpngfnmjoaa.MineSep Go.Proofs.Ytkeijpngfnmjoaa.MineRows Go.Proofs.Ytkeijpngfnmjoaa.MineGen Go.Proofs.Ytkeijpngfnmjoaa.QHeapPlays
attribute [local go_sem] Go.Proofs.Ytkeijpngfnmjoaa.MineErr.eql_err Go.Proofs.Ytkeijpngfnmjoaa.MineErr.neq_err Go.Proofs.Ytkeijpngfnmjoaa.MineErr.eql_nil_err Go.Proofs.Ytkeijpngfnmjoaa.MineErr.neq_nil_err
attribute [local go_sem ↓] Go.wp_at_zero Go.wp_at_succ
set_option linter.unusedVariables false
set_option linter.unusedSimpArgs false
/-- A block that was taken, as the law's deed. -/
def kB : Kd (Int × Int) := Kd.iso (Kd.pair Kd.bool (Kd.pair Kd.bool (Kd.pair (Kd.int .i64) (Kd.int .i64)))) (fun b : Int × Int => (false, false, b.1, b.2))
theorem kB_open {W : World} {x : Int × Int} {cs : List Value} (h : kB.K W x cs) : cs = [.bool false, .bool false, .int .i64 x.1, .int .i64 x.2] := by
  obtain ⟨c0, c1, rfl, h0, d0, d1, rfl, h1, e0, e1, rfl, h2, h3⟩ := h
  obtain rfl := h0
  obtain rfl := h1
  obtain rfl := h2
  obtain rfl := h3
  rfl
theorem kB_mk (W : World) (x : Int × Int) : kB.K W x [.bool false, .bool false, .int .i64 x.1, .int .i64 x.2] := ⟨[.bool false], _, rfl, rfl, [.bool false], _, rfl, rfl, [.int .i64 x.1], [.int .i64 x.2], rfl, rfl, rfl⟩
theorem kB_M (W : World) (base : Nat) (ok : Nat → Prop) (x : Int × Int) : kB.M W base ok x [.bool false, .bool false, .int .i64 x.1, .int .i64 x.2] := ⟨[.bool false], _, rfl, rfl, [.bool false], _, rfl, rfl, [.int .i64 x.1], [.int .i64 x.2], rfl, rfl, rfl⟩
theorem kB_at {W : World} {A : Option Addr} {n : Nat} {xs : List (Int × Int)} (h : kB.C W A n xs) {i : Nat} {p : Int × Int} (hi : xs[i]? = some p) :
    ∃ ad, A = some ad ∧ W.cell? ⟨(ad.add (i * 4)).block, (ad.add (i * 4)).off + 2, none⟩ = some (.int .i64 p.1) ∧ W.cell? ⟨(ad.add (i * 4)).block, (ad.add (i * 4)).off + 3, none⟩ = some (.int .i64 p.2) := by
  have hl := (List.getElem?_eq_some_iff.1 hi).1
  obtain ⟨ad, e, hc⟩ := h.2.2 (by have := h.1; omega)
  obtain ⟨cs, hs, hK, hcell⟩ := hc i p hi
  obtain rfl := kB_open hK
  exact ⟨ad, e, by rw [← add_field _ _ 2 (by omega)]; exact hcell 2 _ rfl, by rw [← add_field _ _ 3 (by omega)]; exact hcell 3 _ rfl⟩
theorem info53 : (Try.prog.info? 53).map (fun i => (i.zero, i.size, i.bytes)) = some (some (.agg #[.bool false, .bool false, .int .i64 0, .int .i64 0]), 4, 24) := by kernel_rfl
/-- append(v, x) to a row of the list. -/
theorem sat_append {P : Program} {ops : Array Oper} {rest : List Oper} {o : Oper} {a : Act} {Q : Exit → Act → World → Prop} {α : Type} (d : Kd α) {w0 W : World} {l : List Asn} (hgd : o.guard = none) (s x : Operand) (t e : TypeId) (z : Value) (bytes : Nat)
    (ho : o.op = .call { callee := .builtin .append, args := #[s, x], argTypes := #[t, t] })
    (ht : P.underlying t = some (.slice e)) (hinfo : (P.info? e).map (fun i => (i.zero, i.size, i.bytes)) = some (some z, d.sz, bytes)) (hz : z.cells.size = d.sz) (hs0 : 0 < d.sz) (hb0 : 0 < bytes)
    (v : Value) (xs : List α) (p : α) (cs : List Value) (hs : a.eval s = v) (hx : a.eval x = .slice (some ⟨W.heap.size, 0, none⟩) 1 1) (hp : ∀ W base, d.M W base (fun _ => False) p cs) (HS : Sat w0 W (ARow d e w0.heap.size v xs :: l)) (hl : (xs.length + 1) * bytes ≤ 140737488355328)
    (h : ∀ v1 w1, Sat w0 w1 (ARow d e w0.heap.size v1 (xs ++ [p]) :: l) → wpList P ops Q rest (a.put o.dst v1) w1) :
    wpList P ops Q (o :: rest) a (W.alloc (.cells cs.toArray e)) := by
  obtain ⟨D, hR, hD, _, hcl⟩ := HS.open_
  have hR2 : d.R e W w0.heap.size D v xs := hR
  refine Kd.R_append d (w0 := w0) w0.heap.size hgd s x t e z bytes ho ht hinfo hz hs0 hb0 v xs p cs (fun k => D k ∨ W.heap.size ≤ k) (fun _ => False) hs hx (hp _ _) (fun _ h => h.elim) (fun _ h => .inr h) (Kd.R_mono hR2 (fun _ h => .inl h)) HS.toBelow HS.size hl ?_
  intro v1 w1 hR1 hB1 hG1 hat1
  have hob : ∀ k, v.ownBlock = some k → D k := hR2.1
  exact h v1 w1 (hcl w1 (ARow d e w0.heap.size v1 (xs ++ [p])) _ hB1 (Kept.of_grown hG1 (Kept.refl W D) (fun k hk => .inl (hob k hk))) hR1 (fun _ h => h))
theorem pick_range (a : Int) (h1 : -9223372036854775808 ≤ a) (h2 : a ≤ 9223372036854775807) (n : Nat) (hn : 0 < n) : ∃ r : Nat, dowellaw04_Pick.f a n = some (r : Int) ∧ r < n := by
  have key : ∀ b : Int, 0 ≤ b → ∃ r : Nat, Int.tmod b n = (r : Int) ∧ r < n := fun b hb => by
    refine ⟨(b % n).toNat, ?_, ?_⟩
    · rw [Int.tmod_eq_emod_of_nonneg hb, Int.toNat_of_nonneg (Int.emod_nonneg _ (by omega))]
    · have := Int.emod_lt_of_pos b (show (0 : Int) < n by omega)
      have := Int.emod_nonneg b (show (n : Int) ≠ 0 by omega)
      omega
  unfold dowellaw04_Pick.f
  by_cases h : a < 0
  · rw [if_pos h, if_neg (by omega)]
    obtain ⟨r, e, hr⟩ := key (wrap64 (-(wrap64 (a + 1)))) (by unfold wrap64; omega)
    exact ⟨r, by rw [e], hr⟩
  · rw [if_neg h, if_neg (by omega)]
    obtain ⟨r, e, hr⟩ := key a (by omega)
    exact ⟨r, by rw [e], hr⟩
theorem cut_len (L1 L2 : Hs) (p : Int × Int) (n : Int) : (L1 ++ (cutP p n ++ L2)).length ≤ (L1 ++ p :: L2).length := by
  unfold cutP
  split <;> simp
theorem row_at {w0 W : World} {l : List Asn} {α : Type} {d : Kd α} {e base n c : Nat} {A : Option Addr} {xs : List α} (HS : Sat w0 W (ARow d e base (.slice A n c) xs :: l)) : d.C W A xs.length xs := by
  obtain ⟨A1, c1, e1, _, h⟩ := HS.rowReads
  injection e1 with e1
  rw [e1]
  exact h
theorem rrow_take {α : Type} {K : α → List Value → Prop} {sz : Nat} {W : World} {A : Option Addr} {n k : Nat} {ys : List α} (h : ReadsRow K sz W A n ys) (hk : k ≤ n) : ReadsRow K sz W A k (ys.take k) := by
  refine ⟨by rw [List.length_take, h.1]; omega, Nat.le_trans hk h.2.1, fun hp => ?_⟩
  obtain ⟨ad, e, hc⟩ := h.2.2 (by omega)
  refine ⟨ad, e, fun j p hj => ?_⟩
  rw [List.getElem?_take] at hj
  split at hj
  · exact hc j p hj
  · cases hj
/-- What is read of a row's end. -/
theorem rrow_drop {α : Type} {K : α → List Value → Prop} {sz : Nat} {W : World} {A A2 : Option Addr} {n k m : Nat} {ys : List α} (h : ReadsRow K sz W A n ys) (hm : m = n - k) (hA : 0 < m → A2 = A.map (·.add (k * sz))) : ReadsRow K sz W A2 m (ys.drop k) := by
  refine ⟨by rw [List.length_drop, h.1, hm], by have := h.2.1; omega, fun hp => ?_⟩
  obtain ⟨ad, e, hc⟩ := h.2.2 (by omega)
  subst e
  refine ⟨ad.add (k * sz), hA hp, fun j p hj => ?_⟩
  rw [List.getElem?_drop] at hj
  obtain ⟨cs, h1, h2, h3⟩ := hc (k + j) p hj
  refine ⟨cs, h1, h2, fun i u hu => ?_⟩
  have := h3 i u hu
  rw [Go.Deep.add_add]
  rw [show k * sz + (j * sz + i) = (k + j) * sz + i from by rw [Nat.add_mul, Nat.add_assoc]]
  exact this
theorem emptyB_at {W : World} {b base : Nat} (hg : W.heap[b]? = some (.cells #[] 53 (0, 0))) (hb : base ≤ b) : kB.R 53 W base (fun _ => True) (.slice (some ⟨b, 0, none⟩) 0 0) [] := by
  refine ⟨fun _ _ => trivial, [], ⟨by simp, .inr ⟨b, 0, #[], rfl, hb, hg, Nat.le_refl _, Nat.zero_le _, by simp, by simp⟩⟩, ⟨by simp, fun j p h => by simp at h⟩⟩
theorem below_db (W : World) (o : Obj) : Below W.heap.size W (W.drew.alloc o) := below_alloc (below_drew (Below.refl _ _)) o
set_option maxHeartbeats 8000000 in
set_option maxRecDepth 100000 in
theorem HeapBack_calls (top turn : Int) (ht1 : -9223372036854775808 ≤ turn) (ht2 : turn ≤ 9223372036854775807) (A0 : Option Addr) (c0 : Nat) (sizes : List Int) (w : World) (hC0 : Kd.C (Kd.int .i64) w A0 sizes.length sizes) :
    Calls Try.prog 6 #[.int .i64 top, .slice A0 sizes.length c0, .int .i64 turn] w fun e w' => e = .returned (.bool true) ∧ Below w.heap.size w w' := by
  have HC0 := Aside0.mk hC0
  have HT := Aside0.mk (And.intro ht1 ht2)
  clear hC0 ht1 ht2
  go_enter Try.func6, Try.ntmps6
  go_wp2_with fail
  have hq := up_calls w
  (with_reducible refine hq.mono ?_)
  clear hq
  rintro e1 w1 ⟨rfl, hb1⟩
  have HS1 := Aside0.mk ((Sat.start w).below hb1)
  clear hb1
  by_cases hok : ¬ heapOk 0 top
  · go_wp2_with fail
    have hq := New_bad 0 top hok w1
    (with_reducible refine hq.mono ?_)
    clear hq
    rintro e2 w2 ⟨rfl, hd2⟩
    rw [show errV (some 1) = .iface 39 (.int .i64 1) from rfl]
    have HB := Aside0.mk (HS1.out.drawn hd2).toBelow
    clear hd2
    go_wp2_with fail
    go_ret
    exact ⟨by rfl, HB.out⟩
  replace hok : heapOk 0 top := Decidable.not_not.1 hok
  have HOK := Aside0.mk hok
  clear hok
  go_wp2_with fail
  have hq := New_good HS1.out 0 top HOK.out
  (with_reducible refine hq.mono ?_)
  clear hq
  rintro e2 w2 ⟨g, rfl, hS2⟩
  rw [show errV none = .nilIface from rfl]
  have HS2 := Aside0.mk hS2
  clear hS2 HS1
  rcases Nat.lt_or_ge 60 sizes.length with h60 | h60
  · have p1 : (60 < (sizes.length : Int)) = True := eq_true (by omega)
    have p2 : decide (60 < (sizes.length : Int)) = true := decide_eq_true (by omega)
    clear h60
    go_wp2_with fail
    go_ret
    exact ⟨by rfl, HS2.out.toBelow⟩
  have p1 : (60 < (sizes.length : Int)) = False := eq_false (by omega)
  have p2 : decide (60 < (sizes.length : Int)) = false := decide_eq_false (by omega)
  have HN := Aside0.mk h60
  have HF0 := Aside0.mk (show (firstL 0 top).length ≤ 1 from by unfold firstL; split <;> simp)
  have HN0 := Aside0.mk (first_norm HOK.out)
  clear h60
  go_wp2_with fail
  have hq := Holes_calls HS2.out (by have := HF0.out; omega)
  (with_reducible refine hq.mono ?_)
  clear hq
  rintro e3 w3 ⟨vh, rfl, hR3, hb3⟩
  generalize firstL 0 top = L0 at *
  have HS3 := Aside0.mk (show Sat w w3 [AHeap 0 top w.heap.size g L0, ARow kB 53 w.heap.size (.slice none 0 0) [], ARow k2 118 w.heap.size vh L0] from ((HS2.out.newRow hb3 hR3 HS2.out.size).newRow (Below.refl _ _) (Kd.R_nil kB 53 w3 w3.heap.size (fun _ => True)) (HS2.out.below hb3).size).third)
  clear HS2 hR3 hb3 p1 p2
  go_wp2_with fail
  go_loopg [11, 12] (sizes.length + 1) (fun kq v11 v12 w' => ∃ (i : Nat) (L : Hs) (B : List (Int × Int)) (A : Option Addr) (c : Nat), v11 = .slice A B.length c ∧ v12 = .int .i64 i ∧ Aside0 (i ≤ sizes.length ∧ sizes.length - i < kq) ∧ Aside0 (Back top L0 L B ∧ L.length ≤ 1 ∧ B.length ≤ i) ∧ Aside0 (Sat w w' [AHeap 0 top w.heap.size g L, ARow kB 53 w.heap.size (.slice A B.length c) B, ARow k2 118 w.heap.size vh L0]))
  case atStart => exact ⟨0, L0, [], none, 0, rfl, rfl, ⟨by omega⟩, ⟨Back.start HN0.out, HF0.out, by simp⟩, HS3⟩
  case round =>
    clear HS3
    obtain ⟨gk1, rfl⟩ : ∃ x, x = gk := ⟨gk, rfl⟩
    obtain ⟨i, L, B, A, c, rfl, rfl, Hi, HI, HS4⟩ := hrel
    by_cases hlt : i < sizes.length
    · obtain ⟨ad, rfl, y0⟩ := Kd.at_int HC0.out (i : Int) (by omega) (by omega)
      simp only [Int.toNat_natCast] at y0
      have HY := Aside0.mk y0
      have x0 := pw_cell_below HS4.out.toBelow y0
      clear y0
      generalize rd sizes (i : Int) = sz at *
      have q1 : (i < sizes.length) = True := eq_true hlt
      have q8 : 0 ≤ (i : Int) := by omega
      have q9 : (i : Int) ≤ 100 := by have := HN.out; omega
      clear hlt
      go_wp2_with fail
      have hq := Take_calls HS4.out HI.out.1.norm (by decide) HOK.out.2.1 (by have := HI.out.2.1; omega) sz
      (with_reducible refine hq.mono ?_)
      clear hq
      by_cases hs : sizeOk sz
      · rcases take_cases L sz hs with ⟨_, b, _⟩ | ⟨L1, p, L2, rfl, hfi, hp, hall, d⟩
        · rw [b]
          rintro e5 w5 ⟨rfl, hS5⟩
          rw [show errV (some 9) = .iface 39 (.int .i64 9) from rfl]
          have HS5 := Aside0.mk hS5
          clear hS5 b HS4 x0
          go_wp2_with fail
          go_roundg (gk1 - 1)
          case measure => have := Hi.out; have := of_eq_true q1; omega
          case rel => exact ⟨i + 1, L, B, A, c, by rfl, by go_num, ⟨by have := Hi.out; have := of_eq_true q1; omega⟩, ⟨HI.out.1, HI.out.2.1, by have := HI.out.2.2; omega⟩, HS5⟩
        · rw [d]
          rintro e5 w5 ⟨rfl, hS5⟩
          rw [show errV none = .nilIface from rfl]
          have HS5 := Aside0.mk hS5
          have x5 := pw_cell_below HS5.out.toBelow HY.out
          clear hS5 d HS4 x0 hfi hall
          have hpm := HI.out.1.norm.mem p (by simp)
          have HP := Aside0.mk hpm
          have HSZ := Aside0.mk hs
          have HHP := Aside0.mk hp
          have m1 : 1 ≤ sz := hs.1
          have m2 : sz ≤ 65536 := hs.2
          have hww := wh_spec hs.1
          have r1 : 0 ≤ p.1 := hpm.1
          have r2 : p.1 % 4 = 0 := hpm.2.1
          have r3 : p.1 ≤ wrap64 (top - (sz + 3) / 4 * 4) := by have := HOK.out.2.1; have := HOK.out.2.2.1; unfold wh at hp hww; unfold wrap64; omega
          clear hpm hs hp hww
          go_wp2_with fail
          obtain ⟨n, hn⟩ : ∃ n, n = wh sz := ⟨_, rfl⟩
          rw [show (sz + 3) / 4 * 4 = n from by rw [hn]; rfl]
          have HW := Aside0.mk (show 0 < n ∧ n % 4 = 0 ∧ n ≤ 65536 ∧ n ≤ p.2 from by
            have := wh_spec HSZ.out.1
            have := HHP.out
            have := HP.out
            have := HOK.out.2.1
            rw [hn]; omega)
          rw [← hn] at HS5
          have HH5 := HS5
          clear r3 m1 m2 HHP HSZ hn x5
          go_loopg [16] (B.length + 1) (fun kq v16 w' => ∃ k : Nat, v16 = .int .i64 k ∧ Aside0 (k ≤ B.length ∧ B.length - k < kq) ∧ Aside0 (Sat w w' [AHeap 0 top w.heap.size g (L1 ++ (cutP p n ++ L2)), ARow kB 53 w.heap.size (.slice A B.length c) B, ARow k2 118 w.heap.size vh L0]))
          case atStart => exact ⟨0, rfl, ⟨by omega⟩, HS5⟩
          case round =>
            clear HS5
            obtain ⟨gk2, rfl⟩ : ∃ x, x = gk := ⟨gk, rfl⟩
            obtain ⟨k, rfl, Hk, HS6⟩ := hrel
            have hBl : B.length ≤ 100 := by have := HI.out.2.2; have := HN.out; have := Hi.out; omega
            by_cases hlk : k < B.length
            · obtain ⟨q, hq⟩ : ∃ q, B[k]? = some q := ⟨_, List.getElem?_eq_getElem hlk⟩
              have HAP := Aside0.mk (HI.out.1.apart (p := p) (by simp) HW.out.1 HW.out.2.2.2 q (List.mem_of_getElem? hq))
              have hbq := HI.out.1.blk q (List.mem_of_getElem? hq)
              obtain ⟨ak, e, z2, z3⟩ := kB_at (row_at HS6.out.swap) hq
              subst e
              have u1 : (k < B.length) = True := eq_true hlk
              have u3 : 0 ≤ (k : Int) := by omega
              have u4 : (k : Int) ≤ 100 := by omega
              have t1 : 0 ≤ q.1 := hbq.1
              have t2 : 0 < q.2 := hbq.2.2.1
              have t3 : q.2 ≤ 65536 := hbq.2.2.2.1
              have t4 : q.1 ≤ 65536 := by have := HOK.out.2.1; omega
              have t5 : 0 < n := HW.out.1
              have t6 : n ≤ 65536 := HW.out.2.2.1
              have t7 : p.1 ≤ 65536 := by have := HOK.out.2.1; have := HP.out; omega
              clear hq hbq hlk hBl
              by_cases hc : p.1 < q.1 + q.2
              · have d1 : decide (p.1 < q.1 + q.2) = true := decide_eq_true hc
                have d2 : decide (q.1 < p.1 + n) = false := decide_eq_false (fun h => HAP.out ⟨hc, h⟩)
                clear hc
                go_wp2_with fail
                go_quiet (fail)
                go_wp2_with fail
                go_roundg (gk2 - 1)
                case measure => have := Hk.out; have := of_eq_true u1; omega
                case rel => exact ⟨k + 1, by go_num, ⟨by have := Hk.out; have := of_eq_true u1; omega⟩, ⟨HS6.out.drewN _⟩⟩
              · have d1 : decide (p.1 < q.1 + q.2) = false := decide_eq_false hc
                clear hc
                go_wp2_with fail
                go_quiet (fail)
                go_wp2_with fail
                go_roundg (gk2 - 1)
                case measure => have := Hk.out; have := of_eq_true u1; omega
                case rel => exact ⟨k + 1, by go_num, ⟨by have := Hk.out; have := of_eq_true u1; omega⟩, ⟨HS6.out.drewN _⟩⟩
            · have u1 : (k < B.length) = False := eq_false hlk
              have HBL := Aside0.mk hBl
              clear hlk hBl
              go_wp2_with (at_builtin; refine sat_append kB (w0 := w) (W := wr) rfl (.tmp 113) (.tmp 117) 46 53 _ 24 rfl Try.underlying46 info53 rfl (by decide) (by decide) (.slice A B.length c) B (p.1, n) [.bool false, .bool false, .int .i64 p.1, .int .i64 n] rfl rfl (fun W base => kB_M W base _ _) HS6.out.swap (by have := HBL.out; omega) ?_; intro v1 w7 hS7; obtain ⟨A7, c7, rfl⟩ := hS7.rowSlice; have HS7 := Aside0.mk hS7.swap; clear hS7)
              go_roundg (gk1 - 1)
              case measure => have := Hi.out; have := of_eq_true q1; omega
              case rel => exact ⟨i + 1, L1 ++ (cutP p n ++ L2), B ++ [(p.1, n)], A7, c7, by simp, by go_num, ⟨by have := Hi.out; have := of_eq_true q1; omega⟩, ⟨HI.out.1.take HW.out.1 HW.out.2.1 HW.out.2.2.1 HW.out.2.2.2, Nat.le_trans (cut_len L1 L2 p n) HI.out.2.1, by have := HI.out.2.2; rw [List.length_append]; exact Nat.add_le_add_right this 1⟩, HS7⟩
      · have b : takeR L sz = (0, some 1, L) := by unfold takeR; rw [if_neg hs]
        rw [b]
        rintro e5 w5 ⟨rfl, hS5⟩
        rw [show errV (some 1) = .iface 39 (.int .i64 1) from rfl]
        have HS5 := Aside0.mk hS5
        clear hS5 b HS4 x0 hs
        go_wp2_with fail
        go_roundg (gk1 - 1)
        case measure => have := Hi.out; have := of_eq_true q1; omega
        case rel => exact ⟨i + 1, L, B, A, c, by rfl, by go_num, ⟨by have := Hi.out; have := of_eq_true q1; omega⟩, ⟨HI.out.1, HI.out.2.1, by have := HI.out.2.2; omega⟩, HS5⟩
    · have q1 : (i < sizes.length) = False := eq_false hlt
      have HBL := Aside0.mk (show B.length ≤ 60 ∧ L.length ≤ 1 from ⟨by have := HI.out.2.2; have := Hi.out; have := HN.out; omega, HI.out.2.1⟩)
      have HBK := Aside0.mk HI.out.1
      clear hlt HI Hi
      go_wp2_with fail
      go_loopg [11] (B.length + 1) (fun kq v11 w' => ∃ (L : Hs) (B : List (Int × Int)) (A : Option Addr) (c : Nat), v11 = .slice A B.length c ∧ Aside0 (B.length < kq) ∧ Aside0 (B.length ≤ 60 ∧ L.length + B.length ≤ 61) ∧ Aside0 (Back top L0 L B) ∧ Aside0 (Sat w w' [AHeap 0 top w.heap.size g L, ARow kB 53 w.heap.size (.slice A B.length c) B, ARow k2 118 w.heap.size vh L0]))
      case atStart => exact ⟨L, B, A, c, rfl, ⟨by omega⟩, ⟨HBL.out.1, by have := HBL.out; omega⟩, HBK, HS4⟩
      case round =>
        clear HS4 HBK HBL q1
        clear L B A c
        obtain ⟨gk1, rfl⟩ : ∃ x, x = gk := ⟨gk, rfl⟩
        obtain ⟨L, B, A, c, rfl, Hk, HBL, HBK, HS5⟩ := hrel
        rcases Nat.eq_zero_or_pos B.length with hz | hz
        · have u1 : (0 < B.length) = False := eq_false (by omega)
          have HZ := Aside0.mk hz
          clear hz
          have e : L = L0 := by
            have h := HBK.out
            rw [List.eq_nil_of_length_eq_zero HZ.out] at h
            exact h.fin HN0.out
          subst e
          have HLL := Aside0.mk (show L.length ≤ 900 from by have := HF0.out; omega)
          clear HBK
          go_wp2_with fail
          have hq := Holes_calls HS5.out (by have := HLL.out; omega)
          (with_reducible refine hq.mono ?_)
          clear hq
          rintro e6 w6 ⟨v6, rfl, hR6, hb6⟩
          have HS6 := Aside0.mk (HS5.out.newRow hb6 hR6 HS5.out.size)
          clear hR6 hb6 HS5
          obtain ⟨A6, c6, rfl, hc6, hC6⟩ := HS6.out.rowReads
          obtain ⟨A7, c7, rfl, hc7, hC7⟩ := (Sat.pull (l1 := [_, _, _]) HS6.out).rowReads
          have HC6 := Aside0.mk (And.intro hc6 hC6)
          have HC7 := Aside0.mk (And.intro hc7 hC7)
          clear hc6 hC6 hc7 hC7
          go_wp2_with fail
          have hq := as_calls A6 c6 L w6 HC6.out.2 HC6.out.1 (by have := HLL.out; omega)
          (with_reducible refine hq.mono ?_)
          clear hq
          rintro e8 w8 ⟨v8, rfl, hR8, hb8⟩
          have HS8 := Aside0.mk (HS6.out.newRow hb8 hR8 HS6.out.size)
          clear hR8 hb8
          obtain ⟨A8, c8, e8, hc8, hC8⟩ := HS8.out.rowReads
          rw [List.length_map] at e8 hc8
          subst e8
          clear hc8 hC8
          go_wp2_with fail
          have hq := as_calls A7 c7 L w8 (row_at (Sat.pull (l1 := [_, _, _, _]) HS8.out)) HC7.out.1 (by have := HLL.out; omega)
          (with_reducible refine hq.mono ?_)
          clear hq
          rintro e9 w9 ⟨v9, rfl, hR9, hb9⟩
          have HS9 := Aside0.mk (HS8.out.newRow hb9 hR9 HS8.out.size)
          clear hR9 hb9
          obtain ⟨A9, c9, e9, hc9, hC9⟩ := HS9.out.rowReads
          obtain ⟨A10, c10, e10, hc10, hC10⟩ := HS9.out.swap.rowReads
          injection e10 with e10 e11 e12
          subst e10
          subst e12
          rw [List.length_map] at e9
          subst e9
          have HC9 := Aside0.mk (And.intro hc9 hC9)
          have HC10 := Aside0.mk (And.intro hc10 hC10)
          clear hc9 hC9 hc10 hC10 e11
          go_wp2_with fail
          have hq := same_calls A8 A9 c8 c9 (L.map toT) w9 (by have h := HC10.out.2; rw [List.length_map] at *; exact h) HC10.out.1 HC9.out.2 HC9.out.1 (by rw [List.length_map]; have := HLL.out; omega)
          rw [List.length_map] at hq
          (with_reducible refine hq.mono ?_)
          clear hq
          rintro e11 w11 ⟨rfl, hd11⟩
          have HB := Aside0.mk (HS9.out.drawn hd11).toBelow
          clear hd11
          go_wp2_with fail
          go_ret
          exact ⟨by rfl, HB.out⟩
        · have u1 : (0 < B.length) = True := eq_true hz
          obtain ⟨r, hr, hrl⟩ := pick_range turn HT.out.1 HT.out.2 B.length hz
          have HR := Aside0.mk hr
          obtain ⟨b, hb⟩ : ∃ b, B[r]? = some b := ⟨_, List.getElem?_eq_getElem hrl⟩
          have HGB := Aside0.mk hb
          have u2 : (r < B.length) = True := eq_true hrl
          have u3 : 0 ≤ (r : Int) := by omega
          have u4 : (r : Int) ≤ 100 := by have := HBL.out; omega
          have HU := Aside0.mk (show r < B.length ∧ B.length ≤ 100 from by have := HBL.out; omega)
          clear hr hb hz hrl
          go_wp2_with (go_at_call 14; refine (dowellaw04_Pick.calls turn B.length r _ HR.out).mono ?_; rintro e6 w6 ⟨rfl, hd6⟩; have HS6 := Aside0.mk (HS5.out.drawn hd6); clear hd6)
          obtain ⟨ad, e, z2, z3⟩ := kB_at (row_at HS6.out.swap) HGB.out
          subst e
          have hbl := HBK.out.blk b (List.mem_of_getElem? HGB.out)
          have hwb : wh b.2 = b.2 := by unfold wh; omega
          have HG1 := Aside0.mk (show giveOk 0 top b.1 b.2 ∧ ¬ Free L b.1 (wh b.2) from by
            refine ⟨⟨hbl.1, hbl.2.1, ⟨by omega, hbl.2.2.2.1⟩, by rw [hwb]; omega⟩, fun ⟨x, x1, x2, hx⟩ => ?_⟩
            rw [hwb] at x2
            exact HBK.out.out b (List.mem_of_getElem? HGB.out) x x1 x2 hx)
          have HWB := Aside0.mk hwb
          have HPB := Aside0.mk hbl
          clear hbl hwb HS5
          have HX := HS6
          replace HX := Aside0.mk HX.out.drew
          clear HS6
          have cz2 : w6.drew.cell? ⟨(ad.add (r * 4)).block, (ad.add (r * 4)).off + 2, none⟩ = some (.int .i64 b.1) := pw_cell_below (below_drew (Below.refl _ _)) z2
          have cz3 : w6.drew.cell? ⟨(ad.add (r * 4)).block, (ad.add (r * 4)).off + 3, none⟩ = some (.int .i64 b.2) := pw_cell_below (below_drew (Below.refl _ _)) z3
          go_region_held3 (fun w' => w'.cell? ⟨(ad.add (r * 4)).block, (ad.add (r * 4)).off + 2, none⟩ = some (.int .i64 b.1) ∧ w'.cell? ⟨(ad.add (r * 4)).block, (ad.add (r * 4)).off + 3, none⟩ = some (.int .i64 b.2)) (first | exact ⟨z2, z3⟩ | exact ⟨cz2, cz3⟩ | exact ⟨y2, y3⟩ | exact ⟨x2, x3⟩) (first
            | ((have hq := Give_yes HX.out HBK.out.norm (by decide) HOK.out.2.1 HOK.out.2.2.1 (by have := HBL.out; omega) b.1 b.2 HG1.out.1 HG1.out.2); (with_reducible refine hq.mono ?_); clear hq; rintro e7 w7 ⟨L', rfl, hN', hL', hll', hS7⟩; replace HX := Aside0.mk hS7; have HN' := Aside0.mk (And.intro hN' (And.intro hL' hll')); clear hS7 hN' hL' hll'; obtain ⟨ad7, e7, y2, y3⟩ := kB_at (row_at HX.out.swap) HGB.out; injection e7 with e7; subst e7)
            | ((have hq := Give_no HX.out HN'.out.1 (by decide) HOK.out.2.1 HOK.out.2.2.1 (by have := HBL.out; have := HN'.out.2.2; omega) b.1 b.2 (fun h => h.2 ⟨b.1, Int.le_refl _, by have := HWB.out; have := HPB.out; omega, (HN'.out.2.1 b.1).2 (.inr ⟨Int.le_refl _, by have := HWB.out; have := HPB.out; omega⟩)⟩)); (with_reducible refine hq.mono ?_); clear hq; rintro e8 w8 ⟨rfl, hS8⟩; replace HX := Aside0.mk hS8; clear hS8; obtain ⟨ad8, e8, x2, x3⟩ := kB_at (row_at HX.out.swap) HGB.out; injection e8 with e8; subst e8))
          all_goals go_wp2
          have HL' := Aside0.mk (HBK.out.give_at HGB.out HWB.out HN'.out.1 HN'.out.2.1)
          obtain ⟨g3, hA⟩ : ∃ g3, ad = ⟨g3, 0, none⟩ := by
            obtain ⟨_, hR, _⟩ := HX.out.swap.head
            obtain ⟨g3, cap, e1, _⟩ := Kd.R_form hR (by have := HU.out; omega)
            injection e1 with e1
            injection e1 with e1
            exact ⟨g3, e1⟩
          clear y2 y3 x2 x3
          subst hA
          obtain ⟨A8, c8, e8, hcl, hCr⟩ := HX.out.swap.rowReads
          injection e8 with e8 _ e9
          subst e8 e9
          obtain ⟨T, hT⟩ : ∃ T, T = B.take r := ⟨_, rfl⟩
          obtain ⟨D, hD⟩ : ∃ D, D = B.drop (r + 1) := ⟨_, rfl⟩
          have hTl : T.length = r := by rw [hT, List.length_take]; have := HU.out; omega
          have HRT := Aside0.mk (show kB.C (w8.drew.alloc (.cells #[] 53)) (some ⟨g3, 0, none⟩) r T from by rw [hT]; exact rrow_take (Kd.C_below hCr (below_db _ _)) (by have := HU.out; omega))
          have HRD := Aside0.mk (show kB.C w8 (if c = r + 1 then some ⟨g3, 0, none⟩ else some ⟨g3, (r + 1) * 4, none⟩) (B.length - (r + 1)) D from by
            rw [hD]
            refine rrow_drop hCr rfl (fun hp => ?_)
            rw [if_neg (by have := HU.out; omega)]
            show _ = some ((⟨g3, 0, none⟩ : Addr).add _)
            rw [add_plain]; rfl)
          have HTL := Aside0.mk hTl
          have HTD := Aside0.mk (show (T ++ D).length = B.length - 1 from by rw [hT, hD, List.length_append, List.length_take, List.length_drop]; have := HU.out; omega)
          have HDT := Aside0.mk (show T ++ D = B.take r ++ B.drop (r + 1) from by rw [hT, hD])
          have p6 : (r ≤ c) = True := eq_true (by have := HU.out; omega)
          have p7 : 0 ≤ (r : Int) + 1 := by omega
          have p9 : (r : Int) + 1 ≤ B.length := by have := HU.out; omega
          have w1k : IntKind.i64.wrap ((r : Int) + 1) = r + 1 := wrap_ok (by omega) (by omega)
          have p10 : (r : Int) < B.length := by omega
          have p11 : B.length ≤ c := hcl
          clear hcl hCr hT hD hTl
          go_region_held3 (fun w' => True) (exact trivial) (first
            | (((refine Kd.R_append_rows_step kB (Rr := kB.K w8) (w0 := w8.drew.alloc (.cells #[] 53)) (W := w8.drew.alloc (.cells #[] 53)) w8.heap.size (by rfl) (.tmp 154) (.tmp 157) 46 53 _ 24 rfl Try.underlying46 info53 rfl (by decide) (by decide) (.slice (some ⟨w8.heap.size, 0, none⟩) 0 0) [] T (some ⟨g3, 0, none⟩) r c (fun _ => True) (fun _ => False) rfl rfl (emptyB_at (heap_alloc_new _ _) (Nat.le_refl _)) HRT.out (fun _ _ h => by rw [kB_open h]; exact kB_M _ _ _ _) (fun _ h => h.elim) (fun _ _ => trivial) (Below.refl _ _) (below_db w8 _).size (by show (0 + r) * 24 ≤ _; have := HU.out; omega) ?_)); intro v9 w9 hR9 hB9 _ _; rw [List.nil_append] at hR9; obtain ⟨A9, c9, rfl⟩ := Kd.R_slice hR9; rw [HTL.out] at hR9 ⊢; have HR9 := Aside0.mk hR9; have HB9 := Aside0.mk ((below_db w8 (.cells #[] 53)).trans hB9); clear hR9 hB9)
            | (((refine Kd.R_append_rows_step kB (Rr := kB.K w8) (w0 := w9) (W := w9) w8.heap.size (by rfl) (.tmp 158) (.tmp 162) 46 53 _ 24 rfl Try.underlying46 info53 rfl (by decide) (by decide) (.slice A9 r c9) T D (if c = r + 1 then some ⟨g3, 0, none⟩ else some ⟨g3, (r + 1) * 4, none⟩) (B.length - (r + 1)) (c - (r + 1)) (fun _ => True) (fun _ => False) rfl rfl HR9.out (Kd.C_below HRD.out HB9.out) (fun _ _ h => by rw [kB_open h]; exact kB_M _ _ _ _) (fun _ h => h.elim) (fun _ _ => trivial) (Below.refl _ _) HB9.out.size (by have := HTL.out; have := HU.out; omega) ?_)); intro v10 w10 hR10 hB10 hg10 ha10; clear hg10 ha10; obtain ⟨A10, c10, rfl⟩ := Kd.R_slice hR10; rw [HTD.out] at hR10 ⊢; have HR10 := Aside0.mk hR10; have HB10 := Aside0.mk (HB9.out.trans hB10); clear hR10 hB10))
          all_goals go_wp2
          all_goals (
            go_roundg (gk1 - 1)
            case measure => have := Hk.out; have := HU.out; omega
            case rel => exact ⟨L', T ++ D, A10, c10, by rw [HTD.out], ⟨by have := Hk.out; have := HU.out; rw [HTD.out]; omega⟩, ⟨by have := HBL.out; have := HU.out; have := HN'.out.2.2; rw [HTD.out]; omega⟩, ⟨by rw [HDT.out]; exact HL'.out⟩, ⟨by
              have h := (HX.out.newRow HB10.out HR10.out HX.out.size)
              rw [HTD.out]
              exact Sat.drop h.back2.swap⟩⟩)
end Go.Proofs.Ytkeijpngfnmjoaa.MineHeap
