/- Heap: all holes; the example at the head of the statements; taking and giving in short. Conditions: the holes rise. -/
import Derived.Test.YtkeijpngfnmjoaaMineHeapH
import Derived.Test.YtkeijpngfnmjoaaMineHeapI
namespace Go.Proofs.Ytkeijpngfnmjoaa.MineHeap
open Go.RowKit Go.MapKept Go.Proofs.YtkeijpngfnmjoaaW.PrintWords Go.Proofs.YtkeijpngfnmjoaaW.PrintLast Go.Proofs.YtkeijpngfnmjoaaW.PrintMore Go.Proofs.Ytkeijpngfnmjoaa.MineBase Go.Proofs.Ytkeijpngfnmjoaa.MineSep Go.Proofs.Ytkeijpngfnmjoaa.MineRows Go.Proofs.Ytkeijpngfnmjoaa.MineGen
attribute [local go_sem] Go.Proofs.Ytkeijpngfnmjoaa.MineErr.eql_err Go.Proofs.Ytkeijpngfnmjoaa.MineErr.neq_err Go.Proofs.Ytkeijpngfnmjoaa.MineErr.eql_nil_err Go.Proofs.Ytkeijpngfnmjoaa.MineErr.neq_nil_err
attribute [local go_sem ↓] Go.wp_at_zero Go.wp_at_succ
set_option linter.unusedVariables false
set_option linter.unusedSimpArgs false
theorem nil_of {α : Type} {d : Kd α} {w : World} {l : List α} (h : d.C w none l.length l) : l = [] := by
  rcases Nat.eq_zero_or_pos l.length with hz | hz
  · exact List.length_eq_zero_iff.1 hz
  · obtain ⟨ad, e1, _⟩ := h.2.2 hz
    cases e1
theorem flatM_k2 : ∀ (W : World) (base : Nat) (ok : Nat → Prop) (x : Int × Int) (cs : List Value), k2.K W x cs → k2.M W base ok x cs := fun _ _ _ _ _ h => h
set_option maxHeartbeats 1000000 in
set_option maxRecDepth 100000 in
theorem CloneH_calls (A : Option Addr) (c : Nat) (l : Hs) (w : World) (hr : k2.C w A l.length l) (hl : l.length ≤ 1000) :
    Calls Try.prog 71 #[.slice A l.length c] w fun e w' => ∃ v, e = .returned v ∧ k2.R 118 w' w.heap.size (fun _ => True) v l ∧ Below w.heap.size w w' := by
  have hnl : ∀ w : World, (binOp .eql 63 (.slice A l.length c) (.slice none 0 0)).run Try.prog w = .ok (.bool A.isNone) w := fun w => Lib.run_eql_slice_nil (P := Try.prog) w 63 118 A l.length c 0 0 Try.underlying63
  cases A with
  | none =>
    obtain rfl := nil_of hr
    replace hnl : ∀ w : World, (binOp .eql 63 (.slice none 0 c) (.slice none 0 0)).run Try.prog w = .ok (.bool true) w := hnl
    go_enter Try.func71, Try.ntmps71
    go_wp2
    go_ret
    exact ⟨_, rfl, Kd.R_nil _ _ _ _ _, Below.refl _ _⟩
  | some A =>
    replace hnl : ∀ w : World, (binOp .eql 63 (.slice (some A) l.length c) (.slice none 0 0)).run Try.prog w = .ok (.bool false) w := hnl
    have HR := Aside0.mk hr
    clear hr
    go_enter Try.func71, Try.ntmps71
    go_wp2_with (at_builtin; refine copy_flat k2 rfl (.tmp 5) (.tmp 6) 63 118 _ 16 rfl Try.underlying63 info118 rfl (by decide) (by decide) flatM_k2 w (some A) c l rfl rfl HR.out (by omega) ?_; intro v1 w1 hR1 hb1; have HR1 := Aside0.mk hR1; have HB1 := Aside0.mk hb1; clear hR1 hb1)
    go_ret
    exact ⟨_, rfl, HR1.out, HB1.out⟩
set_option maxHeartbeats 1000000 in
set_option maxRecDepth 100000 in
theorem Holes_calls {w0 w : World} {l : List Asn} {lo hi : Int} {g : Nat} {L : Hs} (HS : Sat w0 w (AHeap lo hi w0.heap.size g L :: l)) (hL : L.length ≤ 1000) :
    Calls Try.prog 31 #[.pointer (some ⟨g, 0, none⟩)] w fun e w' => ∃ v, e = .returned v ∧ k2.R 118 w' w.heap.size (fun _ => True) v L ∧ Below w.heap.size w w' := by
  obtain ⟨A, c, hg, hlc, hC⟩ := heap_open HS
  have x0 : w.cell? ⟨g, 2, none⟩ = some (.slice A L.length c) := get_cell hg 2
  have HC := Aside0.mk hC
  clear hg hlc hC HS
  go_enter Try.func31, Try.ntmps31
  go_wp2_with fail
  have hq := CloneH_calls A c L w HC.out hL
  (with_reducible refine hq.mono ?_)
  clear hq
  rintro e1 w1 ⟨v, rfl, hR, hb⟩
  have HB := Aside0.mk (And.intro hR hb)
  clear hR hb
  go_wp2
  go_ret
  exact ⟨v, rfl, HB.out⟩
/-! ### taking and giving, each in one law -/
/-- What taking comes to. -/
def takeR (L : Hs) (n : Int) : Int × Option Int × Hs :=
  if sizeOk n then
    if fitI L (wh n) < 0 then (0, some 9, L)
    else
      let i := (fitI L (wh n)).toNat
      let p := L.getD i (0, 0)
      (p.1, none, L.take i ++ (cutP p (wh n) ++ L.drop (i + 1)))
  else (0, some 1, L)
theorem take_cases (L : Hs) (n : Int) (h : sizeOk n) :
    (fitI L (wh n) < 0 ∧ takeR L n = (0, some 9, L) ∧ ∀ p ∈ L, p.2 < wh n) ∨ ∃ L1 p L2, L = L1 ++ p :: L2 ∧ fitI L (wh n) = L1.length ∧ wh n ≤ p.2 ∧ (∀ q ∈ L1, q.2 < wh n) ∧ takeR L n = (p.1, none, L1 ++ (cutP p (wh n) ++ L2)) := by
  rcases idxP_spec (fun p : Int × Int => decide (wh n ≤ p.2)) L with ⟨a, b⟩ | ⟨L1, p, L2, a, b, c, d⟩
  · refine .inl ⟨by unfold fitI; rw [a]; decide, ?_, fun p hp => Int.not_le.1 (of_decide_eq_false (b p hp))⟩
    unfold takeR
    rw [if_pos h, if_pos (by unfold fitI; rw [a]; decide)]
  · refine .inr ⟨L1, p, L2, a, b, of_decide_eq_true c, fun q hq => Int.not_le.1 (of_decide_eq_false (d q hq)), ?_⟩
    unfold takeR
    have hf : fitI L (wh n) = L1.length := b
    rw [if_pos h, hf, if_neg (by omega), a]
    simp only [Int.toNat_natCast]
    have e1 : (L1 ++ p :: L2).getD L1.length (0, 0) = p := by rw [List.getD_eq_getElem?_getD]; simp
    have e2 : (L1 ++ p :: L2).take L1.length = L1 := by simp
    have e3 : (L1 ++ p :: L2).drop (L1.length + 1) = L2 := by rw [← List.drop_drop]; simp
    rw [e1, e2, e3]
theorem Take_calls {w0 w : World} {l : List Asn} {lo hi : Int} {g : Nat} {L : Hs} (HS : Sat w0 w (AHeap lo hi w0.heap.size g L :: l)) (hN : Norm lo hi L) (hlo : 0 ≤ lo) (hhi : hi ≤ 65536) (hL : L.length ≤ 1000) (n : Int) :
    Calls Try.prog 27 #[.pointer (some ⟨g, 0, none⟩), .int .i64 n] w fun e w' => e = .returned (.tuple #[.int .i64 (takeR L n).1, errV (takeR L n).2.1]) ∧ Sat w0 w' (AHeap lo hi w0.heap.size g (takeR L n).2.2 :: l) := by
  by_cases h : sizeOk n
  · rcases take_cases L n h with ⟨a, b, _⟩ | ⟨L1, p, L2, rfl, b, c, _, d⟩
    · rw [b]
      exact (Take_none HS n h hL a).mono fun e w' ⟨h1, h2⟩ => ⟨h1, HS.below h2⟩
    · rw [d]
      have hp := hN.mem p (by simp)
      exact Take_some HS n h hL b c (by omega) (by omega)
  · have e : takeR L n = (0, some 1, L) := by unfold takeR; rw [if_neg h]
    rw [e]
    exact (Take_bad g n h w).mono fun e w' ⟨h1, h2⟩ => ⟨h1, HS.drawn h2⟩
/-- Where a place parts the holes. -/
theorem around_of {lo hi : Int} {L : Hs} (hN : Norm lo hi L) (hlo : 0 ≤ lo) (hhi : hi ≤ 65536) (at_ : Int) : ∃ L1 L2, L = L1 ++ L2 ∧ Around L1 L2 at_ := by
  induction L generalizing lo with
  | nil => exact ⟨[], [], rfl, by simp [Around], by simp, by simp⟩
  | cons p L ih =>
    by_cases h : p.1 < at_
    · obtain ⟨L1, L2, e, h1, h2, h3⟩ := ih (lo := p.1 + p.2 + 1) hN.2.2.2.2.2 (by have := hN.1; have := hN.2.2.1; omega)
      refine ⟨p :: L1, L2, by rw [e]; rfl, fun q hq => ?_, h2, fun q hq => ?_⟩
      · rcases List.mem_cons.1 hq with rfl | hq
        · exact h
        · exact h1 q hq
      · rcases List.mem_cons.1 hq with rfl | hq
        · have := hN.1; have := hN.2.2.1; have := hN.2.2.2.2.1; omega
        · exact h3 q hq
    · refine ⟨[], p :: L, rfl, by simp, fun q hq => ?_, fun q hq => ?_⟩
      · rcases List.mem_cons.1 hq with rfl | hq
        · omega
        · have := hN.2.2.2.2.2.mem q hq; have := hN.2.2.1; omega
      · have := hN.mem q hq; omega
/-- Are bytes of a block free? -/
def Free (L : Hs) (at_ m : Int) : Prop := ∃ x, at_ ≤ x ∧ x < at_ + m ∧ Has L x
theorem fits_iff {lo hi : Int} {L1 L2 : Hs} {at_ m : Int} (hN : Norm lo hi (L1 ++ L2)) (hA : Around L1 L2 at_) (hm : 0 < m) : Fits L1 L2 at_ m ↔ ¬ Free (L1 ++ L2) at_ m := by
  have h12 := norm_app.1 hN
  constructor
  · rintro ⟨f1, f2⟩ ⟨x, x1, x2, hx⟩
    rcases Has.append.1 hx with ⟨p, hp, p1, p2⟩ | ⟨p, hp, p1, p2⟩
    · rcases List.eq_nil_or_concat L1 with rfl | ⟨L0, r, rfl⟩
      · cases hp
      · rw [List.concat_eq_append] at *
        have hr := f2 L0 r rfl
        rcases List.mem_append.1 hp with hp | hp
        · have h3 := (norm_app.1 h12.1)
          have := (endL_ge h3.1).2 x ⟨p, hp, p1, p2⟩
          have h4 := h3.2.1
          have h5 := h3.2.2.2.1
          omega
        · rw [List.mem_singleton.1 hp] at p1 p2
          omega
    · cases L2 with
      | nil => cases hp
      | cons q L2 =>
        have hq := f1 q L2 rfl
        rcases List.mem_cons.1 hp with rfl | hp
        · omega
        · have := h12.2.2.2.2.2.2.mem p hp
          have := h12.2.2.2.1
          omega
  · intro hf
    refine ⟨fun q L' e => Int.not_lt.1 fun h => hf ⟨q.1, ?_⟩, fun L0 r e => Int.not_lt.1 fun h => hf ⟨at_, Int.le_refl _, by omega, ?_⟩⟩
    · subst e
      have := hA.2.1 q List.mem_cons_self
      have h3 := h12.2.2.2.1
      exact ⟨this, h, Has.append.2 (.inr (Has.cons.2 (.inl ⟨Int.le_refl _, by omega⟩)))⟩
    · subst e
      have := hA.1 r (by simp)
      exact Has.append.2 (.inl (Has.append.2 (.inr (Has.cons.2 (.inl ⟨by omega, h⟩)))))
theorem join_len (L1 L2 : Hs) (p : Int × Int) : (joinL L1 (joinR p L2)).length ≤ (L1 ++ L2).length + 1 := by
  obtain ⟨n, M', e, hm⟩ := joinR_form p L2
  cases L1 with
  | nil =>
    have : joinL [] (joinR p L2) = joinR p L2 := rfl
    rw [this, e]
    simp
    exact hm
  | cons a L1 => exact (phase_len (p := p) (k := ((a :: L1).length : Int) - 2) (.inr (.inr ⟨rfl, by simp, rfl⟩))).1
/-- What giving comes to, told by what is free. -/
theorem Give_calls {w0 w : World} {l : List Asn} {lo hi : Int} {g : Nat} {L : Hs} (HS : Sat w0 w (AHeap lo hi w0.heap.size g L :: l)) (hN : Norm lo hi L) (hlo : 0 ≤ lo) (hhi : hi ≤ 65536) (hlh : lo ≤ hi) (hL : L.length ≤ 900) (at_ n : Int) :
    Calls Try.prog 25 #[.pointer (some ⟨g, 0, none⟩), .int .i64 at_, .int .i64 n] w fun e w' =>
      (¬ (giveOk lo hi at_ n ∧ ¬ Free L at_ (wh n)) ∧ e = .returned (errV (some 1)) ∧ Sat w0 w' (AHeap lo hi w0.heap.size g L :: l)) ∨
      (giveOk lo hi at_ n ∧ ¬ Free L at_ (wh n) ∧ ∃ L', e = .returned (errV none) ∧ Norm lo hi L' ∧ (∀ x, Has L' x ↔ Has L x ∨ (at_ ≤ x ∧ x < at_ + wh n)) ∧ L'.length ≤ L.length + 1 ∧ Sat w0 w' (AHeap lo hi w0.heap.size g L' :: l)) := by
  by_cases hg : giveOk lo hi at_ n
  · obtain ⟨L1, L2, rfl, hA⟩ := around_of hN hlo hhi at_
    have hsz : ∀ p ∈ L1 ++ L2, 0 < p.2 ∧ p.1 + p.2 ≤ 65536 := fun p hp => by have := hN.mem p hp; omega
    have hw := wh_spec hg.2.2.1.1
    by_cases hF : Fits L1 L2 at_ (wh n)
    · have hL1 : ∀ p ∈ L1, p.1 + p.2 ≤ at_ := fun p hp => Int.not_lt.1 fun h => (fits_iff hN hA hw.1).1 hF ⟨at_, Int.le_refl _, by omega, Has.append.2 (.inl ⟨p, hp, by have := hA.1 p hp; omega, h⟩)⟩
      have hL2 : ∀ p ∈ L2, at_ + wh n ≤ p.1 := fun p hp => Int.not_lt.1 fun h => (fits_iff hN hA hw.1).1 hF ⟨p.1, hA.2.1 p hp, h, Has.append.2 (.inr ⟨p, hp, Int.le_refl _, by have := hsz p (List.mem_append_right _ hp); omega⟩)⟩
      obtain ⟨a, b⟩ := give_norm hN hg.1 hg.2.1 hw.1 hw.2.1 (by have := hg.2.2.2; omega) hL1 hL2
      exact (Give_ok HS hlo hhi hlh at_ n hg hL hsz hA hF).mono fun e w' ⟨h1, h2⟩ => .inr ⟨hg, (fits_iff hN hA hw.1).1 hF, _, h1, a, b, join_len L1 L2 (at_, wh n), h2⟩
    · exact (Give_clash HS hlo hhi hlh at_ n hg hL hsz hA hF).mono fun e w' ⟨h1, h2⟩ => .inl ⟨fun h => hF ((fits_iff hN hA hw.1).2 h.2), h1, HS.below h2⟩
  · exact (Give_bad HS hlo hhi hlh at_ n hg).mono fun e w' ⟨h1, h2⟩ => .inl ⟨fun h => hg h.1, h1, HS.below h2⟩
section
variable {w0 w : World} {l : List Asn} {lo hi : Int} {g : Nat} {L : Hs}
theorem Give_yes (HS : Sat w0 w (AHeap lo hi w0.heap.size g L :: l)) (hN : Norm lo hi L) (hlo : 0 ≤ lo) (hhi : hi ≤ 65536) (hlh : lo ≤ hi) (hL : L.length ≤ 900) (at_ n : Int) (h1 : giveOk lo hi at_ n) (h2 : ¬ Free L at_ (wh n)) :
    Calls Try.prog 25 #[.pointer (some ⟨g, 0, none⟩), .int .i64 at_, .int .i64 n] w fun e w' => ∃ L', e = .returned .nilIface ∧ Norm lo hi L' ∧ (∀ x, Has L' x ↔ Has L x ∨ (at_ ≤ x ∧ x < at_ + wh n)) ∧ L'.length ≤ L.length + 1 ∧ Sat w0 w' (AHeap lo hi w0.heap.size g L' :: l) :=
  (Give_calls HS hN hlo hhi hlh hL at_ n).mono fun e w' h => by
    rcases h with ⟨h, _⟩ | ⟨_, _, L', a, b⟩
    · exact absurd ⟨h1, h2⟩ h
    · exact ⟨L', a, b⟩
theorem Give_no (HS : Sat w0 w (AHeap lo hi w0.heap.size g L :: l)) (hN : Norm lo hi L) (hlo : 0 ≤ lo) (hhi : hi ≤ 65536) (hlh : lo ≤ hi) (hL : L.length ≤ 900) (at_ n : Int) (h1 : ¬ (giveOk lo hi at_ n ∧ ¬ Free L at_ (wh n))) :
    Calls Try.prog 25 #[.pointer (some ⟨g, 0, none⟩), .int .i64 at_, .int .i64 n] w fun e w' => e = .returned (.iface 39 (.int .i64 1)) ∧ Sat w0 w' (AHeap lo hi w0.heap.size g L :: l) :=
  (Give_calls HS hN hlo hhi hlh hL at_ n).mono fun e w' h => by
    rcases h with ⟨_, a, b⟩ | ⟨a, b, _⟩
    · exact ⟨a, b⟩
    · exact absurd ⟨a, b⟩ h1
end
end Go.Proofs.Ytkeijpngfnmjoaa.MineHeap
