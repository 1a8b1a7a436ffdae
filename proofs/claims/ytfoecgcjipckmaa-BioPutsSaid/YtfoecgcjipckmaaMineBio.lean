/- BioReads, the walk: for any bytes and numbers the statement returns true. No condition but the numbers' ranges. -/
import Derived.Test.YtfoecgcjipckmaaMineRr
namespace Go.Proofs.Ytfoecgcjipckmaa.MineBio
open Go.RowKit Go.Proofs.YtfoecgcjipckmaaW.PrintWords Go.Proofs.YtfoecgcjipckmaaW.PrintLast Go.Proofs.YtfoecgcjipckmaaW.PrintMore Go.Proofs.Ytfoecgcjipckmaa.MineBase Go.Proofs.Ytfoecgcjipckmaa.MineRd Go.Proofs.Ytfoecgcjipckmaa.MineRr Go.Proofs.Ytfoecgcjipckmaa.QBioReads
attribute [local go_sem] max2_int min2_int max_two min_two max_three min_three max_four min_four   -- for this text's walks alone
set_option linter.unusedVariables false
set_option linter.unusedSimpArgs false
theorem lit_C (w : World) : Kd.C (Kd.int .u8) (w.alloc (.cells #[.int .u8 2, .int .u8 1] 5)) (some ⟨w.heap.size, 0, none⟩) ([2, 1] : List Int).length [2, 1] := by
  have hb : (w.alloc (.cells #[.int .u8 2, .int .u8 1] 5)).heap[w.heap.size]? = some (.cells #[.int .u8 2, .int .u8 1] 5 (0, 0)) := heap_alloc_new w _
  refine ⟨rfl, by decide, fun _ => ⟨_, rfl, fun j p hj => ⟨[.int .u8 p], rfl, rfl, fun q u hu => ?_⟩⟩⟩
  cases q with
  | zero =>
    obtain rfl := Option.some.inj hu
    rw [show j * (Kd.int .u8).sz + 0 = j from Nat.mul_one j, add_plain, blk_cell hb j]
    match j, hj with
    | 0, hj => obtain rfl := Option.some.inj hj; rfl
    | 1, hj => obtain rfl := Option.some.inj hj; rfl
    | j + 2, hj => simp at hj
  | succ q => simp at hu
theorem put_val : bio_Put.f 5 [] 258 2 = some [2, 1] := by decide +kernel
theorem put_str : (strOfNums [2, 1]).toList = [2, 1] := by decide +kernel
theorem num_val : MineNum.wsum [2, 1] 2 = 258 := by decide +kernel
theorem up_calls (w : World) : Calls Try.prog 29 #[] w fun e w' => e = .returned (.bool true) ∧ Below w.heap.size w w' := by
  have hL := Aside0.mk (lit_C w)
  have hB0 := Aside0.mk (below_alloc (Below.refl w.heap.size w) (.cells #[.int .u8 2, .int .u8 1] 5))
  have hsz := Aside0.mk (show (w.alloc (.cells #[.int .u8 2, .int .u8 1] 5)).heap.size = w.heap.size + 1 from Array.size_push _)
  go_enter Try.func29, Try.ntmps29
  go_wp2_with fail
  generalize hW : w.alloc _ = W at *
  have HW := Aside0.mk hW
  clear hW
  refine (New_calls (some ⟨w.heap.size, 0, none⟩) 2 [2, 1] W W (Below.refl _ _) hL.out (by decide) (by decide)).mono ?_
  rintro e1 w1 ⟨rfl, hI1, hb1⟩
  have HI1 := Aside0.mk hI1
  have HB1 := Aside0.mk hb1
  generalize hg : W.heap.size = g at hI1 HI1 ⊢
  clear hI1 hb1 hg hL
  go_wp2_with fail
  refine (bio_Put.calls 5 (fun _ => False) (.slice none 0 0) [] 258 2 _ W w1 HB1.out (Kd.R_nil _ _ _ _ _) put_val).mono ?_
  rintro e2 w2 ⟨v2, rfl, hR2, hB2, hk2⟩
  have HI2 := Aside0.mk (show IsRd W w2 g [2, 1] false from by
    obtain ⟨A, c, h1, h2⟩ := HI1.out
    exact ⟨A, c, (hk2.2 g (blk_lt h1) (fun h => h)).trans h1, h2⟩)
  obtain ⟨A2, c2, e2, _, hC2⟩ := Kd.R_reads hR2
  have hs := Kd.C_string Try.underlying30 Try.underlying5 Try.underlying9 (c := c2) hC2
  have hps := put_str
  replace e2 : v2 = .slice A2 2 c2 := e2
  replace hs : (convert 30 9 (.slice A2 2 c2)).run Try.prog w2 = .ok (.string (strOfNums [2, 1])) w2 := hs
  subst e2
  have HB2 := Aside0.mk hB2
  generalize strOfNums [2, 1] = S at *
  clear hR2 hB2 hk2 hC2 HI1 HB1
  go_wp2_with fail
  refine (MineNum.Number_in g [2, 1] 2 W w2 HI2.out HB2.out (by decide) (by decide) (by decide) (by decide)).mono ?_
  rw [num_val]
  rintro e3 w3 ⟨rfl, hI3, hB3, _⟩
  have HI3 := Aside0.mk (show IsRd W w3 g [] false from hI3)
  have HB3 := Aside0.mk hB3
  clear hI3 hB3 HI2 HB2 hs
  go_wp2_with fail
  refine (Short_calls g [] false W w3 HI3.out).mono ?_
  rintro e4 w4 ⟨rfl, rfl⟩
  go_wp2_with fail
  refine (MineNum.Number_out g [] false 1 W w3 HI3.out HB3.out (by decide) (by decide) (by decide)).mono ?_
  rintro e5 w5 ⟨rfl, hI5, hB5, _⟩
  have HI5 := Aside0.mk hI5
  have HB5 := Aside0.mk hB5
  clear hI5 hB5 HI3 HB3
  go_wp2_with fail
  refine (Short_calls g [] true W w5 HI5.out).mono ?_
  rintro e6 w6 ⟨rfl, rfl⟩
  go_wp2
  go_ret
  exact ⟨by rfl, below_weaken hB0.out (by have := hsz.out; omega) HB5.out⟩
/-- What both readers are at. -/
structure At (w W : World) (g h : Nat) (b rl : List Int) (i : Nat) (sh : Bool) : Prop where
  rd : IsRd w W g rl sh
  rr : IsRr w W h b i sh
  ne : g ≠ h
  below : Below w.heap.size w W
  here : sh = false → rl = b.drop i
  gone : sh = true → rl = []
theorem At.one {w W W' : World} {g h : Nat} {b rl : List Int} {i : Nat} {sh : Bool} (H : At w W g h b rl i sh) (hb : Below W.heap.size W W') : At w W' g h b rl i sh :=
  ⟨H.rd.below hb, H.rr.below hb, H.ne, below_step H.below hb, H.here, H.gone⟩
/-- What a call of each comes to. -/
def Both (f1 f2 : Nat) (a1 a2 : List Value) (r : Value) (w : World) (g h : Nat) (b rl rl' : List Int) (i i' : Nat) (sh sh' : Bool) : Prop :=
  (∀ W, IsRd w W g rl sh → Below w.heap.size w W → Calls Try.prog f1 (#[.pointer (some ⟨g, 0, none⟩)] ++ a1.toArray) W fun e w' => e = .returned r ∧ IsRd w w' g rl' sh' ∧ Below w.heap.size w w' ∧ KeepBut W w' g none) ∧
  (∀ W, IsRr w W h b i sh → Below w.heap.size w W → Calls Try.prog f2 (#[.pointer (some ⟨h, 0, none⟩)] ++ a2.toArray) W fun e w' => e = .returned r ∧ IsRr w w' h b i' sh' ∧ Below w.heap.size w w' ∧ KeepBut W w' h none) ∧
  (sh' = false → rl' = b.drop i') ∧ (sh' = true → rl' = [])
theorem byt_cons (b rest : List Int) (i : Nat) (y : Int) (hb : ∀ x ∈ b, 0 ≤ x ∧ x ≤ 255) (h : b.drop i = y :: rest) : i < b.length ∧ (MineNum.byt b i : Int) = y ∧ rest = b.drop (i + 1) := by
  have hl : i < b.length := by
    rcases Nat.lt_or_ge i b.length with h' | h'
    · exact h'
    · rw [List.drop_of_length_le h'] at h; cases h
  rw [List.drop_eq_getElem_cons hl] at h
  injection h with h1 h2
  refine ⟨hl, ?_, h2.symm⟩
  unfold MineNum.byt
  rw [List.getD_eq_getElem?_getD, List.getElem?_eq_getElem hl]
  have := hb _ (List.getElem_mem hl)
  simp; omega
theorem text_pair {w : World} {g h : Nat} {b rl : List Int} {i : Nat} {sh : Bool} (hb : ∀ x ∈ b, 0 ≤ x ∧ x ≤ 255) (hi : i ≤ b.length) (h1 : sh = false → rl = b.drop i) (h2 : sh = true → rl = []) :
    ∃ s rl' i' sh', Both 31 32 [] [] (.string s) w g h b rl rl' i i' sh sh' := by
  cases sh with
  | true =>
    obtain rfl := h2 rfl
    exact ⟨_, [], i, true, fun W hI hB => MineTxt.Text_none g true w W hI hB, fun W hI hB => (MineRr.Text_short h b i w W hI).mono (by rintro e w' ⟨he, rfl⟩; exact ⟨he, hI, hB, KeepBut.refl _ _ _⟩), (fun h => by cases h), fun _ => rfl⟩
  | false =>
    obtain rfl := h1 rfl
    cases hd : b.drop i with
    | nil =>
      have hl : b.length ≤ i := List.drop_eq_nil_iff.1 hd
      exact ⟨_, [], i, true, fun W hI hB => MineTxt.Text_none g false w W hI hB, fun W hI hB => MineRr.Text_none h b i w W hI hB (by omega), (fun h => by cases h), fun _ => rfl⟩
    | cons y rest =>
      obtain ⟨hl, hy, rfl⟩ := byt_cons b rest i y hb hd
      have hby : ∀ x ∈ y :: b.drop (i + 1), 0 ≤ x ∧ x ≤ 255 := fun x hx => hb x (List.mem_of_mem_drop (by rw [hd]; exact hx))
      have hlen : (b.drop (i + 1)).length = b.length - (i + 1) := List.length_drop
      have hyt : y.toNat = MineNum.byt b i := by omega
      by_cases hle : y ≤ ((b.drop (i + 1)).length : Int)
      · refine ⟨_, _, i + 1 + MineNum.byt b i, false, fun W hI hB => MineTxt.Text_in g y (b.drop (i + 1)) w W hI hB hby hle, fun W hI hB => ?_, fun _ => ?_, (fun h => by cases h)⟩
        · rw [hyt]; exact MineRr.Text_in h b i w W hI hB hb (by omega)
        · rw [hyt, List.drop_drop]
      · exact ⟨_, [], i + 1, true, fun W hI hB => MineTxt.Text_out g y (b.drop (i + 1)) w W hI hB hby (by omega), fun W hI hB => MineRr.Text_out h b i w W hI hB hb (by omega) (by omega), (fun h => by cases h), fun _ => rfl⟩
theorem num_pair {w : World} {g h : Nat} {b rl : List Int} {i : Nat} {sh : Bool} (x : Int) (hb : ∀ x ∈ b, 0 ≤ x ∧ x ≤ 255) (hi : i ≤ b.length) (h1 : sh = false → rl = b.drop i) (h2 : sh = true → rl = []) :
    ∃ s rl' i' sh', Both 33 34 [.int .i64 x] [.int .i64 x] (.int .u32 s) w g h b rl rl' i i' sh sh' := by
  by_cases hx : x < 1 ∨ 4 < x
  · exact ⟨0, rl, i, sh, fun W hI hB => (MineNum.Number_bad g x W hx).mono (by rintro e w' ⟨he, rfl⟩; exact ⟨he, hI, hB, KeepBut.refl _ _ _⟩), fun W hI hB => (MineRr.Number_bad h b i sh x w W hI (by rcases hx with hx | hx; exact .inl hx; exact .inr (.inl hx))).mono (by rintro e w' ⟨he, rfl⟩; exact ⟨he, hI, hB, KeepBut.refl _ _ _⟩), h1, h2⟩
  · obtain ⟨n, rfl⟩ : ∃ n : Nat, x = (n : Int) := ⟨x.toNat, by omega⟩
    cases sh with
    | true =>
      obtain rfl := h2 rfl
      exact ⟨0, [], i, true, fun W hI hB => MineNum.Number_out g [] true n w W hI hB (by omega) (by omega) (by simp; omega), fun W hI hB => (MineRr.Number_bad h b i true n w W hI (.inr (.inr rfl))).mono (by rintro e w' ⟨he, rfl⟩; exact ⟨he, hI, hB, KeepBut.refl _ _ _⟩), (fun h => by cases h), fun _ => rfl⟩
    | false =>
      obtain rfl := h1 rfl
      have hlen : (b.drop i).length = b.length - i := List.length_drop
      by_cases hle : n ≤ b.length - i
      · exact ⟨_, _, i + n, false, fun W hI hB => MineNum.Number_in g (b.drop i) n w W hI hB (by omega) (by omega) (by omega) (fun x hx => hb x (List.mem_of_mem_drop hx)), fun W hI hB => MineRr.Number_in h b i n w W hI hB (by omega) (by omega) (by omega) hb, fun _ => by rw [List.drop_drop], (fun h => by cases h)⟩
      · exact ⟨0, [], i, true, fun W hI hB => MineNum.Number_out g (b.drop i) false n w W hI hB (by omega) (by omega) (by omega), fun W hI hB => MineRr.Number_out h b i n w W hI hB (by omega) (by omega) (by omega), (fun h => by cases h), fun _ => rfl⟩
theorem IsRd_drewN {w0 W : World} {g : Nat} {l : List Int} {sh : Bool} (h : IsRd w0 W g l sh) (m : Nat) : IsRd w0 (W.drewN m) g l sh := h
theorem At.drew {w W : World} {g h : Nat} {b rl : List Int} {i : Nat} {sh : Bool} (H : At w W g h b rl i sh) : At w W.drew g h b rl i sh := ⟨H.rd, H.rr, H.ne, below_drew1 H.below, H.here, H.gone⟩
theorem At.drewN {w W : World} {g h : Nat} {b rl : List Int} {i : Nat} {sh : Bool} (H : At w W g h b rl i sh) (m : Nat) : At w (W.drewN m) g h b rl i sh := ⟨H.rd, H.rr, H.ne, pw_below_drewN H.below m, H.here, H.gone⟩
theorem At.place {w W : World} {g h : Nat} {b rl : List Int} {i : Nat} {sh : Bool} (H : At w W g h b rl i sh) : i ≤ b.length := by
  obtain ⟨A, c, h1, h2, h3, h4, h5, h6⟩ := H.rr; exact h6
theorem At.short {w W : World} {g h : Nat} {b rl : List Int} {i : Nat} {sh : Bool} (H : At w W g h b rl i sh) : True := trivial
theorem At.left {w W : World} {g h : Nat} {b rl : List Int} {i : Nat} {sh : Bool} (H : At w W g h b rl i sh) : (if sh then (0 : Int) else ((b.length - i : Nat) : Int)) = ((rl.length : Nat) : Int) := by
  cases sh with
  | true => rw [H.gone rfl]; rfl
  | false => rw [H.here rfl, List.length_drop]; rfl
theorem _root_.Go.Proofs.Ytfoecgcjipckmaa.MineRr.IsRr.cell2 {w0 W : World} {h : Nat} {b : List Int} {i : Nat} {sh : Bool} (hI : IsRr w0 W h b i sh) : W.cell? ⟨h, 2, none⟩ = some (.bool sh) := by
  obtain ⟨A, c, h1, _⟩ := hI
  exact (blk_cell h1 2).trans rfl
theorem left_len {w W : World} {g h : Nat} {b rl : List Int} {i : Nat} {sh : Bool} (H : At w W g h b rl i sh) (m : Nat) : Calls Try.prog 36 #[.pointer (some ⟨h, 0, none⟩)] (W.drewN m) fun e w' => e = .returned (.int .i64 ((rl.length : Nat) : Int)) ∧ ∃ n, w' = (W.drewN m).drewN n := by
  have h := MineRr.Left_calls h b i sh w (W.drewN m) H.rr
  rw [H.left] at h
  exact h
theorem bool_ne (b : Bool) : (b != b) = false := by cases b <;> rfl
set_option maxHeartbeats 2000000 in
set_option maxRecDepth 100000 in
theorem BioReads_calls (A0 : Option Addr) (c0 : Nat) (b : List Int) (A1 : Option Addr) (c1 : Nat) (l : List Int) (w : World) (hr0 : Kd.C (Kd.int .u8) w A0 b.length b) (hc0 : b.length ≤ c0) (hr1 : Kd.C (Kd.int .i64) w A1 l.length l) (hc1 : l.length ≤ c1) (hb : ∀ x ∈ b, 0 ≤ x ∧ x ≤ 255) :
    Calls Try.prog 8 #[.slice A0 b.length c0, .slice A1 l.length c1] w fun e w' => e = .returned (.bool true) ∧ Below w.heap.size w w' := by
  have HR0 := Aside0.mk (And.intro hr0 hc0)
  have HR1 := Aside0.mk hr1
  have Hb := Aside0.mk hb
  clear hr0 hc0 hr1 hb
  go_enter Try.func8, Try.ntmps8
  go_wp2_with fail
  refine (up_calls w).mono ?_
  rintro e1 w1 ⟨rfl, hb1⟩
  have HB1 := Aside0.mk hb1
  clear hb1
  by_cases d1 : (2000 : Int) < (b.length : Int)
  · have d1b : decide ((2000 : Int) < (b.length : Int)) = true := decide_eq_true d1
    clear d1
    go_wp2
    go_ret
    exact ⟨by rfl, HB1.out⟩
  · have d1b : decide ((2000 : Int) < (b.length : Int)) = false := decide_eq_false d1
    by_cases d2 : (100 : Int) < (l.length : Int)
    · have d2b : decide ((100 : Int) < (l.length : Int)) = true := decide_eq_true d2
      clear d1 d2
      go_wp2
      go_ret
      exact ⟨by rfl, HB1.out⟩
    · have d2b : decide ((100 : Int) < (l.length : Int)) = false := decide_eq_false d2
      have HL := Aside0.mk (show b.length ≤ 2000 ∧ l.length ≤ 100 by omega)
      clear d1 d2
      go_wp2_with fail
      refine (New_calls A0 c0 b w w1 HB1.out HR0.out.1 HR0.out.2 (by have := HL.out; omega)).mono ?_
      rintro e2 w2 ⟨rfl, hI2, hb2⟩
      have HI2 := Aside0.mk hI2
      have HB2 := Aside0.mk (below_step HB1.out hb2)
      have HG := Aside0.mk (show w1.heap.size < w2.heap.size by obtain ⟨A, c, h1, _⟩ := hI2; exact blk_lt h1)
      generalize w1.heap.size = g at *
      clear hI2 hb2
      have hu40 := Try.underlying40
      go_wp2_with fail
      have HA := Aside0.mk (show At w (w2.alloc (.cells #[.slice A0 b.length c0, .int .i64 0, .bool false] 40)) g w2.heap.size b b 0 false from
        ⟨HI2.out.below (below_alloc (Below.refl _ _) _), ⟨A0, c0, by simpa using heap_alloc_new w2 _, HB2.out.size, HR0.out.1, HR0.out.2, by have := HL.out; omega, Nat.zero_le _⟩, by have := HG.out; omega, below_step HB2.out (below_alloc (Below.refl _ _) _), fun _ => rfl, fun h => by cases h⟩)
      generalize hh : w2.heap.size = h at *
      generalize hW3 : World.alloc w2 _ = w3 at *
      clear hW3 hh HI2 HB2 HG
      go_loopg [8] (l.length + 1) (fun kq v8 w' => ∃ (i : Int) (rl : List Int) (q : Nat) (sh : Bool), v8 = .int .i64 i ∧ Aside0 (0 ≤ i ∧ i ≤ l.length) ∧ Aside0 ((l.length : Int) - i < kq) ∧ Aside0 (q ≤ b.length) ∧ Aside0 (At w w' g h b rl q sh))
      case atStart => exact ⟨0, _, _, _, rfl, ⟨by omega⟩, ⟨by omega⟩, ⟨Nat.zero_le _⟩, HA⟩
      case round =>
        obtain ⟨i, rl, q, sh, rfl, Hi, Hk, Hq, HA⟩ := hrel
        by_cases c : i < (l.length : Int)
        · have cb : decide (i < (l.length : Int)) = true := decide_eq_true c
          obtain ⟨ad, rfl, hx⟩ := Kd.at_int HR1.out i Hi.out.1 c
          have hx0 := pw_cell_below HA.out.below hx
          have HX := Aside0.mk hx
          have p1 : (0 ≤ i) = True := eq_true Hi.out.1
          have p2 : (i < (l.length : Int)) = True := eq_true c
          have hiw : IntKind.i64.wrap (i + 1) = i + 1 := (i64_w _).trans (show wrap64 (i + 1) = i + 1 by have := Hi.out; have := HL.out; unfold wrap64; omega)
          clear c hx
          generalize rd l i = x at *
          by_cases cx : x = 0
          · have cxb : (x == 0) = true := beq_iff_eq.2 cx
            obtain ⟨s, rl', q', sh', hP1, hP2, hP3, hP4⟩ := text_pair (w := w) (g := g) (h := h) Hb.out Hq.out HA.out.here HA.out.gone
            have HP1 := Aside0.mk hP1
            have HP2 := Aside0.mk hP2
            have HP3 := Aside0.mk (And.intro hP3 hP4)
            clear cx hP1 hP2 hP3 hP4
            go_wp2_with fail
            refine (HP1.out _ HA.out.rd HA.out.below).mono ?_
            rintro e4 w4 ⟨rfl, hI4, hB4, hK4⟩
            have HI4 := Aside0.mk hI4
            have HB4 := Aside0.mk hB4
            have HR4 := Aside0.mk (HA.out.rr.keep hK4 (Ne.symm HA.out.ne) (by simp))
            clear hI4 hB4 hK4
            go_wp2_with fail
            refine (HP2.out _ HR4.out HB4.out).mono ?_
            rintro e5 w5 ⟨rfl, hI5, hB5, hK5⟩
            have HA5 := Aside0.mk (show At w w5 g h b rl' q' sh' from ⟨HI4.out.keep hK5 HA.out.ne (by simp), hI5, HA.out.ne, hB5, HP3.out.1, HP3.out.2⟩)
            clear hI5 hB5 hK5 HI4 HB4 HR4 HA HP1 HP2 HP3 hx0
            have hL1 := Aside0.mk (fun m => (MineRd.Left_calls g rl' sh' w (w5.drewN m) HA5.out.rd).mono (fun e w' (h : _ ∧ _) => And.intro h.1 h.2.symm))
            have hL2 := Aside0.mk (fun m => left_len HA5.out m)
            have hS1 := Aside0.mk (fun m => (MineRd.Short_calls g rl' sh' w (w5.drewN m) HA5.out.rd).mono (fun e w' (h : _ ∧ _) => And.intro h.1 h.2.symm))
            have hm := Aside0.mk HA5.out.short
            have hc2 := HA5.out.rr.cell2
            have hbn := bool_ne sh'
            generalize hz : ((rl'.length : Nat) : Int) = z at *
            have hzn : (z != z) = false := bne_self_eq_false z
            clear hz
            go_wp2_with fail
            go_quiet (first | (go_at_call 35; exact Calls.quiet_of_same (hL1.out _)) | (go_at_call 36; exact Calls.quiet_of (hL2.out _)) | (go_at_call 37; exact Calls.quiet_of_same (hS1.out _)))
            go_wp2
            go_roundg (gk - 1)
            case measure => have := Hk.out; have := Hi.out; omega
            case rel => exact ⟨i + 1, rl', q', sh', rfl, ⟨by have := Hi.out; have := of_eq_true p2; omega⟩, ⟨by have := Hk.out; have := Hi.out; omega⟩, ⟨HA5.out.place⟩, ⟨HA5.out.drewN _⟩⟩
          · have cxb : (x == 0) = false := beq_eq_false_iff_ne.2 cx
            obtain ⟨s, rl', q', sh', hP1, hP2, hP3, hP4⟩ := num_pair (w := w) (g := g) (h := h) x Hb.out Hq.out HA.out.here HA.out.gone
            have HP1 := Aside0.mk (show ∀ W, IsRd w W g rl sh → Below w.heap.size w W → Calls Try.prog 33 #[.pointer (some ⟨g, 0, none⟩), .int .i64 x] W (fun e w' => e = .returned (.int .u32 s) ∧ IsRd w w' g rl' sh' ∧ Below w.heap.size w w' ∧ KeepBut W w' g none) from hP1)
            have HP2 := Aside0.mk (show ∀ W, IsRr w W h b q sh → Below w.heap.size w W → Calls Try.prog 34 #[.pointer (some ⟨h, 0, none⟩), .int .i64 x] W (fun e w' => e = .returned (.int .u32 s) ∧ IsRr w w' h b q' sh' ∧ Below w.heap.size w w' ∧ KeepBut W w' h none) from hP2)
            have HP3 := Aside0.mk (And.intro hP3 hP4)
            have hss : (s != s) = false := bne_self_eq_false s
            clear cx hP1 hP2 hP3 hP4
            go_wp2_with fail
            go_region_law (first
              | (go_simp; go_at_call 33; (with_reducible refine (HP1.out _ HA.out.drew.rd HA.out.drew.below).mono ?_); rintro e4 w4 ⟨rfl, hI4, hB4, hK4⟩; have HI4 := Aside0.mk hI4; have HB4 := Aside0.mk hB4; have HR4 := Aside0.mk (HA.out.drew.rr.keep hK4 (Ne.symm HA.out.ne) (by simp)); have hx4 := pw_cell_below hB4 HX.out; clear hI4 hB4 hK4)
              | (go_simp; go_at_call 34; (with_reducible refine (HP2.out _ HR4.out HB4.out).mono ?_); rintro e5 w5 ⟨rfl, hI5, hB5, hK5⟩; have HA5 := Aside0.mk (show At w w5 g h b rl' q' sh' from ⟨HI4.out.keep hK5 HA.out.ne (by simp), hI5, HA.out.ne, hB5, HP3.out.1, HP3.out.2⟩); have hx5 := pw_cell_below hB5 HX.out; clear hI5 hB5 hK5))
            all_goals
              have hL1 := Aside0.mk (fun m => (MineRd.Left_calls g rl' sh' w (w5.drewN m) HA5.out.rd).mono (fun e w' (h : _ ∧ _) => And.intro h.1 h.2.symm))
              have hL2 := Aside0.mk (fun m => left_len HA5.out m)
              have hS1 := Aside0.mk (fun m => (MineRd.Short_calls g rl' sh' w (w5.drewN m) HA5.out.rd).mono (fun e w' (h : _ ∧ _) => And.intro h.1 h.2.symm))
              have hm := Aside0.mk HA5.out.short
              have hc2 := HA5.out.rr.cell2
              have hbn := bool_ne sh'
              generalize hz : ((rl'.length : Nat) : Int) = z at *
              have hzn : (z != z) = false := bne_self_eq_false z
              clear hz
              go_wp2_with fail
              go_quiet (first | (go_at_call 35; exact Calls.quiet_of_same (hL1.out _)) | (go_at_call 36; exact Calls.quiet_of (hL2.out _)) | (go_at_call 37; exact Calls.quiet_of_same (hS1.out _)))
              go_wp2
              go_roundg (gk - 1)
              case measure => have := Hk.out; have := Hi.out; omega
              case rel => exact ⟨i + 1, rl', q', sh', rfl, ⟨by have := Hi.out; have := of_eq_true p2; omega⟩, ⟨by have := Hk.out; have := Hi.out; omega⟩, ⟨HA5.out.place⟩, ⟨HA5.out.drewN _⟩⟩
        · have cb : decide (i < (l.length : Int)) = false := decide_eq_false c
          clear c
          go_wp2
          go_ret
          exact ⟨by rfl, HA.out.below⟩
end Go.Proofs.Ytfoecgcjipckmaa.MineBio
