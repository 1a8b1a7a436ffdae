/- Numbers and texts behind bytes: what bio's and the document's Put and PutText make, on a row of the call's own. No condition but that the lengths are small. -/
import Derived.Test.YtfoecgcjipckmaaMineBio
namespace Go.Proofs.Ytfoecgcjipckmaa.MinePut
open Go.RowKit Go.Proofs.YtfoecgcjipckmaaW.PrintWords Go.Proofs.YtfoecgcjipckmaaW.PrintLast Go.Proofs.YtfoecgcjipckmaaW.PrintMore Go.Proofs.Ytfoecgcjipckmaa.MineBase Go.Proofs.Ytfoecgcjipckmaa.QBioReads
attribute [local go_sem] max2_int min2_int max_two min_two max_three min_three max_four min_four   -- for this text's walks alone
set_option linter.unusedVariables false
set_option linter.unusedSimpArgs false
/-! ### dowelref09_Put: function 40 -/
def dowelref09_Put.l0 : Nat → List Int → Int → Int → Int → Option (List Int)
  | 0, _, _, _, _ => none
  | k + 1, x0, x1, x2, x7 => if x7 < x2 then (if x2 ≤ 4 then (if x0.length < 140737488355328 then (dowelref09_Put.l0 k (x0 ++ [(Int.tmod x1 256) % 256]) ((Int.tdiv x1 256) % 4294967296) x2 (wrap64 (x7 + 1))) else (none)) else (some x0)) else (some x0)
def dowelref09_Put.f (k : Nat) (l0 : List Int) (a1 : Int) (a2 : Int) : Option (List Int) := dowelref09_Put.l0 k l0 a1 a2 0
theorem dowelref09_Put.mono_l : ∀ k, (∀ y0 y1 y2 y3, LeO (dowelref09_Put.l0 k y0 y1 y2 y3) (dowelref09_Put.l0 (k + 1) y0 y1 y2 y3))
  | 0 => fun _ _ _ _ r h => by simp [dowelref09_Put.l0] at h
  | k + 1 => by
    have ih0 := dowelref09_Put.mono_l k
    · intro y0 y1 y2 y3
      unfold dowelref09_Put.l0
      repeat' first
      | (with_reducible exact ih0 _ _ _ _)
      | (with_reducible exact LeO.refl _)
      | (with_reducible exact LeO.none _)
      | (with_reducible refine LeO.ite ?_ ?_)
      | (with_reducible refine LeO.bind ?_ (fun _ => ?_))
      | exact ih0 _ _ _ _
      | exact LeO.none _
      | refine LeO.ite ?_ ?_
      | refine LeO.bind ?_ (fun _ => ?_)
theorem dowelref09_Put.mono : ∀ a0 a1 a2 k, LeO (dowelref09_Put.f k a0 a1 a2) (dowelref09_Put.f (k + 1) a0 a1 a2) := by
  intro a0 a1 a2 k
  have ih0 := dowelref09_Put.mono_l k
  unfold dowelref09_Put.f
  repeat' first
      | (with_reducible exact ih0 _ _ _ _)
      | (with_reducible exact LeO.refl _)
      | (with_reducible exact LeO.none _)
      | (with_reducible refine LeO.ite ?_ ?_)
      | (with_reducible refine LeO.bind ?_ (fun _ => ?_))
      | exact ih0 _ _ _ _
      | exact LeO.none _
      | refine LeO.ite ?_ ?_
      | refine LeO.bind ?_ (fun _ => ?_)
set_option maxHeartbeats 8000000 in
set_option maxRecDepth 100000 in
theorem dowelref09_Put.calls (k : Nat) (P0_ : Nat → Prop) (u9000_ : Value) (l0 : List Int) (a1 : Int) (a2 : Int) (r : List Int) (w0 w : World) (hB : Below w0.heap.size w0 w) (ho0 : Kd.R (Kd.int .u8) 5 w w0.heap.size P0_ u9000_ l0) (h : dowelref09_Put.f k l0 a1 a2 = some r) :
    Calls Try.prog 40 #[u9000_, .int .u32 a1, .int .i64 a2] w fun e w' => ∃ v0_ : Value, e = .returned (v0_) ∧ Kd.R (Kd.int .u8) 5 w' w0.heap.size (fun k_ => (P0_ k_ ∨ w.heap.size ≤ k_)) v0_ r ∧ Below w0.heap.size w0 w' ∧ Kept w w' (fun k_ => P0_ k_) := by
  have HO0 := Aside0.mk (show Kd.R (Kd.int .u8) 5 w w0.heap.size (fun k_ => (P0_ k_ ∨ w.heap.size ≤ k_)) u9000_ l0 from Kd.R_mono ho0 (fun k_ hk => (.inl hk)))
  have HK := Aside0.mk (Kept.refl w (fun k_ => P0_ k_))
  have HW0 := Aside0.mk hB.size
  have HB := Aside0.mk hB
  clear hB
  have H : (dowelref09_Put.l0 k l0 a1 a2 0) = some r := h
  clear h
  have H' := Aside0.mk H
  clear H
  go_enter Try.func40, Try.ntmps40
  go_wp2
  go_loopg [0, 1, 7] k (fun kq v0 v1 v7 w' => ∃ (x0_1 : List Int) (x1_1 : Int) (x7_1 : Int), v1 = .int .u32 x1_1 ∧ v7 = .int .i64 x7_1 ∧ Aside0 (dowelref09_Put.l0 kq x0_1 x1_1 a2 x7_1 = some r) ∧ Aside0 (kq ≤ k) ∧ Aside0 (Kd.R (Kd.int .u8) 5 w' w0.heap.size (fun k_ => (P0_ k_ ∨ w.heap.size ≤ k_)) v0 x0_1) ∧ Aside0 (Kept w w' (fun k_ => P0_ k_)) ∧ Aside0 (Below w0.heap.size w0 w'))
  case atStart => exact ⟨(l0), (a1), (0), (by first | rfl | (simp; done) | (simp [*]; done)), (by first | rfl | (simp; done) | (simp [*]; done)), H', ⟨Nat.le_refl _⟩, ⟨by (with_reducible repeat (first | apply Kd.R_alloc | apply Kd.R_drewN | apply Kd.R_drew)); exact HO0.out⟩, ⟨by repeat (first | (with_reducible first | exact HK.out | apply Kept.alloc | apply Kept.drewN | apply Kept.drew) | exact HK.out)⟩, ⟨by repeat (first | (with_reducible first | exact HB.out | apply below_alloc | apply pw_below_drewN | apply below_drew1) | exact HB.out)⟩⟩
  case round =>
    clear H'
    try clear p2
    obtain ⟨x0_1, x1_1, x7_1, rfl, rfl, HA, HK1, HO_0, HK, HB⟩ := hrel
    cases gk with
    | zero => exact absurd HA.out (by simp [dowelref09_Put.l0])
    | succ k1 =>
      have H := HA.out
      clear HA
      simp only [dowelref09_Put.l0] at H
      by_cases c4 : x7_1 < a2
      · rw [if_pos c4] at H
        have c4b0 : decide (x7_1 < a2) = true := decide_eq_true c4
        clear c4
        by_cases c5 : a2 ≤ 4
        · rw [if_pos c5] at H
          have c5b0 : decide (a2 ≤ 4) = true := decide_eq_true c5
          clear c5
          by_cases c6 : x0_1.length < 140737488355328
          · rw [if_pos c6] at H
            have LMc6 := Aside0.mk c6
            clear c6
            obtain ⟨y117, hy117⟩ : ∃ y_ : List Int, y_ = (x0_1 ++ [(Int.tmod x1_1 256) % 256]) := ⟨_, rfl⟩
            replace H : (dowelref09_Put.l0 k1 y117 ((Int.tdiv x1_1 256) % 4294967296) a2 (wrap64 (x7_1 + 1))) = some r := by first | (rw [hy117]; with_reducible exact H) | (have H2_ := (Option.bind_some _ _).symm.trans H; rw [hy117]; with_reducible exact H2_) | (have H2_ := (Option.bind_some _ _).symm.trans H; with_reducible exact H2_) | with_reducible exact H | (rw [hy117]; exact H) | exact H
            have Ny117 := Aside0.mk hy117
            clear hy117
            have H' := Aside0.mk H
            clear H
            go_wp2_with (first | ((with_reducible refine gate_builtin (b := .append) (xs := #[.tmp 17, .tmp 21]) rfl ?_); at_builtin; refine Kd.R_append (Kd.int .u8) (w0 := w0) w0.heap.size rfl (.tmp 17) (.tmp 21) 30 5 (.int .u8 0) 1 rfl Try.underlying30 info5 rfl (by decide) (by omega) u0 x0_1 ((Int.tmod x1_1 256) % 256) [.int .u8 ((Int.tmod x1_1 256) % 256)] (fun k_ => (P0_ k_ ∨ w.heap.size ≤ k_)) (fun _ => False) rfl rfl ?aP (fun _ hk => hk.elim) ?aF ?aO ?aB ?aS ?aL ?_; (case aP => exact rfl); (case aB => exact (by repeat (first | (with_reducible first | exact HB.out | apply below_alloc | apply pw_below_drewN | apply below_drew1) | exact HB.out))); (case aF => exact (fun k_ hk => (.inr (Nat.le_trans (by first | exact HK.out.1 | exact (show Kept w _ (fun k_ => P0_ k_) from by repeat (first | (with_reducible first | exact HK.out | apply Kept.alloc | apply Kept.drewN | apply Kept.drew) | exact HK.out)).1) hk)))); (case aO => exact (by (with_reducible repeat (first | apply Kd.R_alloc | apply Kd.R_drewN | apply Kd.R_drew)); exact HO_0.out)); (case aS => exact (below_size (by repeat (first | (with_reducible first | exact HB.out | apply below_alloc | apply pw_below_drewN | apply below_drew1) | exact HB.out)))); (case aL => have := LMc6.out; omega); intro v118 w7 ho hb hg hat; rw [← Ny117.out] at ho; have n0_ := Aside0.mk (hb); have n1_ := Aside0.mk (Kept.of_grown (S := (fun k_ => P0_ k_)) hg (by repeat (first | (with_reducible first | exact HK.out | apply Kept.alloc | apply Kept.drewN | apply Kept.drew) | exact HK.out)) (fun k_ e_ => (HO_0.out.1 k_ e_))); have n2_ := Aside0.mk (ho); clear HB; clear HK; clear HO_0; have HB := n0_; have HK := n1_; have HO119 := n2_; clear n0_ n1_ n2_; clear ho hb hg hat))
            go_roundg k1
            case measure => have := HK1.out; omega
            case rel => exact ⟨(y117), ((Int.tdiv x1_1 256) % 4294967296), (wrap64 (x7_1 + 1)), (by first | rfl | (simp; done) | (simp [*]; done)), (by first | rfl | (simp; done) | (simp [*]; done)), H', ⟨by have := HK1.out; omega⟩, ⟨by (with_reducible repeat (first | apply Kd.R_alloc | apply Kd.R_drewN | apply Kd.R_drew)); exact HO119.out⟩, ⟨by repeat (first | (with_reducible first | exact HK.out | apply Kept.alloc | apply Kept.drewN | apply Kept.drew) | exact HK.out)⟩, ⟨by repeat (first | (with_reducible first | exact HB.out | apply below_alloc | apply pw_below_drewN | apply below_drew1) | exact HB.out)⟩⟩
          · rw [if_neg c6] at H
            exact absurd H (by simp)
        · rw [if_neg c5] at H
          have c5b0 : decide (a2 ≤ 4) = false := decide_eq_false c5
          clear c5
          obtain rfl := Option.some.inj H
          go_wp2
          go_ret
          exact ⟨_, by first | rfl | (simp [errW_none, errW_some] <;> rfl) | (simp [*, errW_none, errW_some] <;> rfl), by (with_reducible repeat (first | apply Kd.R_alloc | apply Kd.R_drewN | apply Kd.R_drew)); exact HO_0.out, by repeat (first | (with_reducible first | exact HB.out | apply below_alloc | apply pw_below_drewN | apply below_drew1) | exact HB.out), by repeat (first | (with_reducible first | exact HK.out | apply Kept.alloc | apply Kept.drewN | apply Kept.drew) | exact HK.out)⟩
      · rw [if_neg c4] at H
        have c4b0 : decide (x7_1 < a2) = false := decide_eq_false c4
        clear c4
        obtain rfl := Option.some.inj H
        go_wp2
        go_ret
        exact ⟨_, by first | rfl | (simp [errW_none, errW_some] <;> rfl) | (simp [*, errW_none, errW_some] <;> rfl), by (with_reducible repeat (first | apply Kd.R_alloc | apply Kd.R_drewN | apply Kd.R_drew)); exact HO_0.out, by repeat (first | (with_reducible first | exact HB.out | apply below_alloc | apply pw_below_drewN | apply below_drew1) | exact HB.out), by repeat (first | (with_reducible first | exact HK.out | apply Kept.alloc | apply Kept.drewN | apply Kept.drew) | exact HK.out)⟩

/-- A number's lowest bytes. -/
def le : Int → Nat → List Int
  | _, 0 => []
  | x, k + 1 => x % 256 :: le (x / 256) k
theorem le_snoc : ∀ (k : Nat) (x : Int), le x (k + 1) = le x k ++ [x / 256 ^ k % 256]
  | 0, x => by simp [le]
  | k + 1, x => by
    have ih := le_snoc k (x / 256)
    rw [show le x (k + 1 + 1) = x % 256 :: le (x / 256) (k + 1) from rfl, ih, show le x (k + 1) = x % 256 :: le (x / 256) k from rfl, List.cons_append]
    have e : x / 256 / 256 ^ k = x / 256 ^ (k + 1) := by rw [Int.pow_succ, Int.mul_comm, ← Int.ediv_ediv_of_nonneg (by decide)]
    rw [e]
theorem le_len : ∀ (k : Nat) (x : Int), (le x k).length = k
  | 0, _ => rfl
  | k + 1, x => by rw [show le x (k + 1) = x % 256 :: le (x / 256) k from rfl, List.length_cons, le_len k]
theorem bio_loop (l : List Int) (x : Int) (m : Nat) (hm : m ≤ 4) (hl : l.length ≤ 1000000) : ∀ (d i k : Nat), i + d = m → d < k → bio_Put.l0 k (l ++ le x i) x (m : Int) (i : Int) = some (l ++ le x m)
  | 0, i, k, hi, hk => by
    obtain ⟨k, rfl⟩ : ∃ q, k = q + 1 := ⟨k - 1, by omega⟩
    obtain rfl : i = m := by omega
    simp only [bio_Put.l0]
    rw [if_neg (by omega)]
  | d + 1, i, k, hi, hk => by
    obtain ⟨k, rfl⟩ : ∃ q, k = q + 1 := ⟨k - 1, by omega⟩
    have ih := bio_loop l x m hm hl d (i + 1) k (by omega) (by omega)
    have w8 : wrap64 (8 * (i : Int)) = ((8 * i : Nat) : Int) := by unfold wrap64; omega
    have w1 : wrap64 ((i : Int) + 1) = ((i + 1 : Nat) : Int) := by unfold wrap64; omega
    have hs : shr .u32 x ((8 * i : Nat) : Int) % 256 = x / 256 ^ i % 256 := by
      unfold shr
      rw [Int.toNat_natCast, Nat.min_eq_left (show 8 * i ≤ IntKind.u32.bits by show 8 * i ≤ 32; omega)]
      have e : (2 : Int) ^ (8 * i) = 256 ^ i := by rw [Int.pow_mul]; rfl
      rw [e]
    simp only [bio_Put.l0]
    rw [if_pos (by omega), w8, if_pos (by omega), if_pos (by rw [List.length_append, le_len]; omega), w1, hs, List.append_assoc, ← le_snoc]
    exact ih
theorem bio_val (l : List Int) (x : Int) (m : Nat) (hm : m ≤ 4) (hl : l.length ≤ 1000000) : bio_Put.f 9 l x (m : Int) = some (l ++ le x m) := by
  unfold bio_Put.f
  rw [if_neg (by omega)]
  have h := bio_loop l x m hm hl m 0 9 (by omega) (by omega)
  rw [show le x 0 = [] from rfl, List.append_nil] at h
  exact h
theorem bio_off (l : List Int) (x m : Int) (hm : m < 0 ∨ 4 < m) : bio_Put.f 9 l x m = some l := by
  unfold bio_Put.f
  by_cases h : m > 4
  · rw [if_pos h]
  · rw [if_neg h]
    simp only [bio_Put.l0]
    rw [if_neg (by omega)]
theorem ref_loop (m : Nat) (hm : m ≤ 4) : ∀ (d i k : Nat) (l : List Int) (x : Int), 0 ≤ x → x < 4294967296 → l.length + d ≤ 1000010 → i + d = m → d < k → dowelref09_Put.l0 k l x (m : Int) (i : Int) = some (l ++ le x d)
  | 0, i, k, l, x, h0, h1, hl, hi, hk => by
    obtain ⟨k, rfl⟩ : ∃ q, k = q + 1 := ⟨k - 1, by omega⟩
    simp only [dowelref09_Put.l0]
    rw [if_neg (by omega), show le x 0 = [] from rfl, List.append_nil]
  | d + 1, i, k, l, x, h0, h1, hl, hi, hk => by
    obtain ⟨k, rfl⟩ : ∃ q, k = q + 1 := ⟨k - 1, by omega⟩
    have w1 : wrap64 ((i : Int) + 1) = ((i + 1 : Nat) : Int) := by unfold wrap64; omega
    have e1 : Int.tmod x 256 % 256 = x % 256 := by rw [Int.tmod_eq_emod_of_nonneg h0]; omega
    have e2 : Int.tdiv x 256 % 4294967296 = x / 256 := by rw [Int.tdiv_eq_ediv_of_nonneg h0]; omega
    have ih := ref_loop m hm d (i + 1) k (l ++ [x % 256]) (x / 256) (by omega) (by omega) (by simp; omega) (by omega) (by omega)
    simp only [dowelref09_Put.l0]
    rw [if_pos (by omega), if_pos (by omega), if_pos (by omega), w1, e1, e2, ih, List.append_assoc]
    rfl
theorem ref_val (l : List Int) (x : Int) (m : Nat) (hm : m ≤ 4) (h0 : 0 ≤ x) (h1 : x < 4294967296) (hl : l.length ≤ 1000000) : dowelref09_Put.f 9 l x (m : Int) = some (l ++ le x m) := by
  unfold dowelref09_Put.f
  exact ref_loop m hm m 0 9 l x h0 h1 (by omega) (by omega) (by omega)
/-- A row of the call's own. -/
abbrev Own (w0 w : World) (v : Value) (l : List Int) : Prop := Kd.R (Kd.int .u8) 5 w w0.heap.size (fun _ => True) v l
theorem Put_calls (v : Value) (l : List Int) (x : Int) (m : Nat) (w0 w : World) (hB : Below w0.heap.size w0 w) (ho : Own w0 w v l) (hm : m ≤ 4) (hl : l.length ≤ 1000000) :
    Calls Try.prog 38 #[v, .int .u32 x, .int .i64 (m : Int)] w fun e w' => ∃ v', e = .returned v' ∧ Own w0 w' v' (l ++ le x m) ∧ Below w0.heap.size w0 w' :=
  (bio_Put.calls 9 (fun _ => True) v l x m _ w0 w hB ho (bio_val l x m hm hl)).mono (by rintro e w' ⟨v', he, hR, hB', _⟩; exact ⟨v', he, Kd.R_mono hR (fun _ _ => trivial), hB'⟩)
theorem Put_off (v : Value) (l : List Int) (x m : Int) (w0 w : World) (hB : Below w0.heap.size w0 w) (ho : Own w0 w v l) (hm : m < 0 ∨ 4 < m) :
    Calls Try.prog 38 #[v, .int .u32 x, .int .i64 m] w fun e w' => ∃ v', e = .returned v' ∧ Own w0 w' v' l ∧ Below w0.heap.size w0 w' :=
  (bio_Put.calls 9 (fun _ => True) v l x m _ w0 w hB ho (bio_off l x m hm)).mono (by rintro e w' ⟨v', he, hR, hB', _⟩; exact ⟨v', he, Kd.R_mono hR (fun _ _ => trivial), hB'⟩)
theorem ref_Put (v : Value) (l : List Int) (x : Int) (m : Nat) (w0 w : World) (hB : Below w0.heap.size w0 w) (ho : Own w0 w v l) (hm : m ≤ 4) (h0 : 0 ≤ x) (h1 : x < 4294967296) (hl : l.length ≤ 1000000) :
    Calls Try.prog 40 #[v, .int .u32 x, .int .i64 (m : Int)] w fun e w' => ∃ v', e = .returned v' ∧ Own w0 w' v' (l ++ le x m) ∧ Below w0.heap.size w0 w' :=
  (dowelref09_Put.calls 9 (fun _ => True) v l x m _ w0 w hB ho (ref_val l x m hm h0 h1 hl)).mono (by rintro e w' ⟨v', he, hR, hB', _⟩; exact ⟨v', he, Kd.R_mono hR (fun _ _ => trivial), hB'⟩)
theorem info5p : (Try.prog.info? 5).map (fun i => (i.zero, i.size, i.bytes)) = some (some (.int .u8 0), 1, 1) := by kernel_rfl
theorem PutText_long (v : Value) (l : List Int) (s : ByteArray) (w0 w : World) (hB : Below w0.heap.size w0 w) (ho : Own w0 w v l) (hl : l.length ≤ 1000) (hs : 255 < s.size) (hs2 : s.size ≤ 1000) :
    Calls Try.prog 39 #[v, .string s] w fun e w' => ∃ v', e = .returned v' ∧ Own w0 w' v' (l ++ [255] ++ bytesOf (s.extract 0 255)) ∧ Below w0.heap.size w0 w' := by
  have HB := Aside0.mk hB
  have HO := Aside0.mk ho
  have HL := Aside0.mk (And.intro hl hs2)
  have d1 : (if 255 < (s.size : Int) then 255 else (s.size : Int)) = 255 := if_pos (by omega)
  have p1 : ((255 : Int) ≤ (s.size : Int)) = True := eq_true (by omega)
  have hz : (s.extract 0 255).size = 255 := by simp; omega
  have HZ := Aside0.mk hz
  clear hB ho hl hs hs2
  go_enter Try.func39, Try.ntmps39
  go_wp2_with fail
  refine (Put_calls v l 255 1 w0 w HB.out HO.out (by decide) (by have := HL.out; omega)).mono ?_
  rintro e1 w1 ⟨v1, rfl, hR1, hB1⟩
  have HO1 := Aside0.mk (show Own w0 w1 v1 (l ++ [255]) from hR1)
  have HB1 := Aside0.mk hB1
  clear hR1 hB1 hz
  go_wp2_with (at_builtin; refine print_append_str (w0 := w0) w0.heap.size rfl (.tmp 14) _ 30 9 5 rfl Try.underlying30 Try.underlying9 info5p v1 (l ++ [255]) (s.extract 0 255) rfl rfl ?aO ?aB ?aS ?aL ?_; (case aB => exact HB1.out); (case aO => exact Kd.own_of_R HO1.out); (case aS => exact below_size HB1.out); (case aL => have := HL.out; simp; omega); intro v2 w2 ho2 hb2 hg2; have HO2 := Aside0.mk (Kd.R_of_own (h1 := fun _ => rfl) (ok := fun _ => True) ho2 (fun _ _ => trivial)); have HB2 := Aside0.mk hb2; clear ho2 hb2 hg2)
  go_ret
  exact ⟨_, by rfl, HO2.out, HB2.out⟩
theorem PutText_short (v : Value) (l : List Int) (s : ByteArray) (w0 w : World) (hB : Below w0.heap.size w0 w) (ho : Own w0 w v l) (hl : l.length ≤ 1000) (hs : s.size ≤ 255) :
    Calls Try.prog 39 #[v, .string s] w fun e w' => ∃ v', e = .returned v' ∧ Own w0 w' v' (l ++ [(s.size : Int)] ++ bytesOf s) ∧ Below w0.heap.size w0 w' := by
  have HB := Aside0.mk hB
  have HO := Aside0.mk ho
  have HL := Aside0.mk (And.intro hl hs)
  have d1 : (if 255 < (s.size : Int) then 255 else (s.size : Int)) = (s.size : Int) := if_neg (by omega)
  clear hB ho hl hs
  go_enter Try.func39, Try.ntmps39
  go_wp2_with fail
  refine (Put_calls v l (s.size : Int) 1 w0 w HB.out HO.out (by decide) (by have := HL.out; omega)).mono ?_
  rintro e1 w1 ⟨v1, rfl, hR1, hB1⟩
  have HO1 := Aside0.mk (show Own w0 w1 v1 (l ++ [(s.size : Int)]) from by
    have e : le (s.size : Int) 1 = [(s.size : Int)] := by have := HL.out; simp [le]; omega
    rw [e] at hR1; exact hR1)
  have HB1 := Aside0.mk hB1
  clear hR1 hB1
  go_wp2_with (at_builtin; refine print_append_str (w0 := w0) w0.heap.size rfl (.tmp 14) _ 30 9 5 rfl Try.underlying30 Try.underlying9 info5p v1 (l ++ [(s.size : Int)]) s rfl rfl ?aO ?aB ?aS ?aL ?_; (case aB => exact HB1.out); (case aO => exact Kd.own_of_R HO1.out); (case aS => exact below_size HB1.out); (case aL => have := HL.out; simp; omega); intro v2 w2 ho2 hb2 hg2; have HO2 := Aside0.mk (Kd.R_of_own (h1 := fun _ => rfl) (ok := fun _ => True) ho2 (fun _ _ => trivial)); have HB2 := Aside0.mk hb2; clear ho2 hb2 hg2)
  go_ret
  exact ⟨_, by rfl, HO2.out, HB2.out⟩
theorem ref_PutText_long (v : Value) (l : List Int) (s : ByteArray) (w0 w : World) (hB : Below w0.heap.size w0 w) (ho : Own w0 w v l) (hl : l.length ≤ 1000) (hs : 255 < s.size) (hs2 : s.size ≤ 1000) :
    Calls Try.prog 41 #[v, .string s] w fun e w' => ∃ v', e = .returned v' ∧ Own w0 w' v' (l ++ [255] ++ bytesOf (s.extract 0 255)) ∧ Below w0.heap.size w0 w' := by
  obtain ⟨A, c, rfl⟩ := Kd.R_slice ho
  have HB := Aside0.mk hB
  have HO := Aside0.mk ho
  have HL := Aside0.mk (And.intro hl hs2)
  have d1 : decide (255 < (s.size : Int)) = true := decide_eq_true (by omega)
  have d2 : decide (255 < s.size) = true := decide_eq_true hs
  have p1 : ((255 : Int) ≤ (s.size : Int)) = True := eq_true (by omega)
  have hz : (s.extract 0 255).size = 255 := by simp; omega
  clear hB ho hl hs hs2
  go_enter Try.func41, Try.ntmps41
  go_wp2_with (first | ((with_reducible refine gate_builtin (b := .append) (xs := #[.tmp 10, .tmp 14]) rfl ?_); at_builtin; refine Kd.R_append (Kd.int .u8) (w0 := w0) w0.heap.size rfl (.tmp 10) (.tmp 14) 30 5 (.int .u8 0) 1 rfl Try.underlying30 info5p rfl (by decide) (by omega) (.slice A l.length c) l 255 [.int .u8 255] (fun _ => True) (fun _ => False) rfl rfl ?aP (fun _ hk => hk.elim) ?aF ?aO ?aB ?aS ?aL ?_; (case aP => exact rfl); (case aB => exact HB.out); (case aF => exact fun _ _ => trivial); (case aO => exact HO.out); (case aS => exact below_size HB.out); (case aL => have := HL.out; simp; omega); intro v1 w1 ho1 hb1 hg1 hat1; have HO1 := Aside0.mk (show Own w0 w1 v1 (l ++ [255]) from ho1); have HB1 := Aside0.mk hb1; clear ho1 hb1 hg1 hat1) | (at_builtin; refine print_append_str (w0 := w0) w0.heap.size rfl (.tmp 15) _ 30 9 5 rfl Try.underlying30 Try.underlying9 info5p v1 (l ++ [255]) (s.extract 0 255) rfl rfl ?aO ?aB ?aS ?aL ?_; (case aB => exact HB1.out); (case aO => exact Kd.own_of_R HO1.out); (case aS => exact below_size HB1.out); (case aL => have := HL.out; simp; omega); intro v2 w2 ho2 hb2 hg2; have HO2 := Aside0.mk (Kd.R_of_own (h1 := fun _ => rfl) (ok := fun _ => True) ho2 (fun _ _ => trivial)); have HB2 := Aside0.mk hb2; clear ho2 hb2 hg2))
  go_ret
  exact ⟨_, by rfl, HO2.out, HB2.out⟩
theorem ref_PutText_short (v : Value) (l : List Int) (s : ByteArray) (w0 w : World) (hB : Below w0.heap.size w0 w) (ho : Own w0 w v l) (hl : l.length ≤ 1000) (hs : s.size ≤ 255) :
    Calls Try.prog 41 #[v, .string s] w fun e w' => ∃ v', e = .returned v' ∧ Own w0 w' v' (l ++ [(s.size : Int)] ++ bytesOf s) ∧ Below w0.heap.size w0 w' := by
  obtain ⟨A, c, rfl⟩ := Kd.R_slice ho
  have HB := Aside0.mk hB
  have HO := Aside0.mk ho
  have HL := Aside0.mk (And.intro hl hs)
  have d1 : decide (255 < (s.size : Int)) = false := decide_eq_false (by omega)
  have d2 : decide (255 < s.size) = false := decide_eq_false (by omega)
  have d3 : (s.size : Int) % 256 = (s.size : Int) := by omega
  have d4 : s.size % 256 = s.size := by omega
  clear hB ho hl hs
  go_enter Try.func41, Try.ntmps41
  go_wp2_with (first | ((with_reducible refine gate_builtin (b := .append) (xs := #[.tmp 10, .tmp 14]) rfl ?_); at_builtin; refine Kd.R_append (Kd.int .u8) (w0 := w0) w0.heap.size rfl (.tmp 10) (.tmp 14) 30 5 (.int .u8 0) 1 rfl Try.underlying30 info5p rfl (by decide) (by omega) (.slice A l.length c) l (s.size : Int) [.int .u8 (s.size : Int)] (fun _ => True) (fun _ => False) rfl rfl ?aP (fun _ hk => hk.elim) ?aF ?aO ?aB ?aS ?aL ?_; (case aP => exact rfl); (case aB => exact HB.out); (case aF => exact fun _ _ => trivial); (case aO => exact HO.out); (case aS => exact below_size HB.out); (case aL => have := HL.out; simp; omega); intro v1 w1 ho1 hb1 hg1 hat1; have HO1 := Aside0.mk (show Own w0 w1 v1 (l ++ [(s.size : Int)]) from ho1); have HB1 := Aside0.mk hb1; clear ho1 hb1 hg1 hat1) | (at_builtin; refine print_append_str (w0 := w0) w0.heap.size rfl (.tmp 15) _ 30 9 5 rfl Try.underlying30 Try.underlying9 info5p v1 (l ++ [(s.size : Int)]) s rfl rfl ?aO ?aB ?aS ?aL ?_; (case aB => exact HB1.out); (case aO => exact Kd.own_of_R HO1.out); (case aS => exact below_size HB1.out); (case aL => have := HL.out; simp; omega); intro v2 w2 ho2 hb2 hg2; have HO2 := Aside0.mk (Kd.R_of_own (h1 := fun _ => rfl) (ok := fun _ => True) ho2 (fun _ _ => trivial)); have HB2 := Aside0.mk hb2; clear ho2 hb2 hg2))
  go_ret
  exact ⟨_, by rfl, HO2.out, HB2.out⟩
end Go.Proofs.Ytfoecgcjipckmaa.MinePut
