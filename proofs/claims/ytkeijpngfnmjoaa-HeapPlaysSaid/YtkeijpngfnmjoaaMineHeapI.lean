/- Heap: giving a block back, the walk, where a hole is there. Conditions: the holes rise, the numbers are small. -/
import Derived.Test.YtkeijpngfnmjoaaMineHeapG
namespace Go.Proofs.Ytkeijpngfnmjoaa.MineHeap
open Go.RowKit Go.MapKept Go.Proofs.YtkeijpngfnmjoaaW.PrintWords Go.Proofs.YtkeijpngfnmjoaaW.PrintLast Go.Proofs.YtkeijpngfnmjoaaW.PrintMore Go.Proofs.Ytkeijpngfnmjoaa.MineBase Go.Proofs.Ytkeijpngfnmjoaa.MineSep Go.Proofs.Ytkeijpngfnmjoaa.MineRows Go.Proofs.Ytkeijpngfnmjoaa.MineGen
attribute [local go_sem] max2_int min2_int max_two min_two
attribute [local go_sem ↓] Go.wp_at_zero Go.wp_at_succ
set_option linter.unusedVariables false
set_option linter.unusedSimpArgs false
set_option maxHeartbeats 4000000 in
set_option maxRecDepth 100000 in
theorem Give_clash {w0 w : World} {l : List Asn} {lo hi : Int} {g : Nat} {L1 L2 : Hs} (HS : Sat w0 w (AHeap lo hi w0.heap.size g (L1 ++ L2) :: l)) (hlo : 0 ≤ lo) (hhi : hi ≤ 65536) (hlh : lo ≤ hi) (at_ n : Int) (hgo : giveOk lo hi at_ n) (hn : (L1 ++ L2).length ≤ 900) (hsz : ∀ p ∈ L1 ++ L2, 0 < p.2 ∧ p.1 + p.2 ≤ 65536) (hA : Around L1 L2 at_) (hF : ¬ Fits L1 L2 at_ (wh n)) :
    Calls Try.prog 25 #[.pointer (some ⟨g, 0, none⟩), .int .i64 at_, .int .i64 n] w fun e w' => e = .returned (errV (some 1)) ∧ Below w.heap.size w w' := by
  obtain ⟨hg1, hg2, hg3, hg4⟩ := hgo
  have hw := wh_spec hg3.1
  have d1 : decide (at_ < lo) = false := decide_eq_false (by omega)
  have d3 : decide (n < 1) = false := decide_eq_false (by unfold sizeOk at hg3; omega)
  have d4 : decide (65536 < n) = false := decide_eq_false (by unfold sizeOk at hg3; omega)
  have d5 : decide (hi - wh n < at_) = false := decide_eq_false (by omega)
  have e2 : (at_ % 4 != 0) = false := by simpa using hg2
  have p1 : 0 ≤ at_ := by omega
  have p2 : at_ ≤ 65536 := by omega
  have p3 : 0 ≤ wh n := by omega
  have p4 : wh n ≤ 65536 := by omega
  have t1 : IntKind.i64.wrap (hi - wh n) = hi - wh n := wrap_ok (by omega) (by omega)
  have t2 : IntKind.i64.wrap (at_ + wh n) = at_ + wh n := wrap_ok (by omega) (by omega)
  have HNN := Aside0.mk hg3
  have HM := Aside0.mk (And.intro hn (And.intro hsz hA))
  obtain ⟨L, hL⟩ : ∃ L, L = L1 ++ L2 := ⟨_, rfl⟩
  have HL := Aside0.mk hL
  have hHS := HS
  rw [← hL] at hHS
  replace HS := Aside0.mk HS
  obtain ⟨A, c, hg, hlc, hC⟩ := heap_open HS.out
  rw [← hL] at hg hC
  have HG := Aside0.mk hg
  have HC := Aside0.mk hC
  have x0 : w.cell? ⟨g, 0, none⟩ = some (.int .i64 lo) := get_cell hg 0
  have x1 : w.cell? ⟨g, 1, none⟩ = some (.int .i64 hi) := get_cell hg 1
  have HH := Aside0.mk (And.intro hlo (And.intro hhi (And.intro hlh (And.intro hg1 (And.intro hg2 (And.intro hg4 hw))))))
  clear hg1 hg2 hg3 hg4 hw hlo hhi hlh hg hC hlc hn hsz hA hL hHS
  go_enter Try.func25, Try.ntmps25
  go_wp2
  go_quiet ((go_at_call 64; exact whole_quiet n HNN.out.1 HNN.out.2 _ _))
  have HS1 := Aside0.mk (HS.out.drewN nq)
  have HB1 := Aside0.mk (pw_below_drewN (Below.refl w.heap.size w) nq)
  clear x0 x1
  generalize w.drewN nq = w1 at *
  go_wp2_with fail
  have hq := whole_calls n HNN.out.1 HNN.out.2 w1
  (with_reducible refine hq.mono ?_)
  clear hq
  rintro e2_ w2 ⟨rfl, hd2⟩
  have HS2 := Aside0.mk (HS1.out.drawn hd2)
  have HB2 := Aside0.mk (below_step HB1.out hd2.below)
  clear hd2
  have y0 : w2.cell? ⟨g, 2, none⟩ = some (.slice A L.length c) := get_cell (blk_below HG.out HB2.out) 2
  go_wp2_with fail
  have hq := Search_calls A c L1 L2 at_ w2 (by rw [← HL.out]; exact Kd.C_below HC.out HB2.out) (by have := HM.out.1; omega) HM.out.2.2 p1 p2
  rw [← HL.out] at hq
  (with_reducible refine hq.mono ?_)
  clear hq
  rintro e3 w3 ⟨b3, rfl, hb3⟩
  have HS3 := Aside0.mk (HS2.out.below hb3)
  have HB3 := Aside0.mk (below_step HB2.out hb3)
  clear hb3 y0
  have y0 : w3.cell? ⟨g, 2, none⟩ = some (.slice A L.length c) := get_cell (blk_below HG.out HB3.out) 2
  by_cases ha : ∃ q L', L2 = q :: L' ∧ q.1 < at_ + wh n
  · obtain ⟨q, L2', rfl, ha⟩ := ha
    clear hF
    have hq0 : L[L1.length]? = some q := by rw [HL.out]; simp
    obtain ⟨ad, rfl, z0, z1⟩ := k2_at (Kd.C_below HC.out HB3.out) hq0
    have HQ0 := Aside0.mk (HM.out.2.1 q (by simp))
    have HQ1 := Aside0.mk (HM.out.2.2.2.2 q (by simp))
    have u1 : (L1.length < L.length) = True := eq_true (by rw [HL.out]; simp)
    have u2 : (L1.length : Int) ≤ 1000 := by have h1 := HM.out.1; simp only [List.length_append] at h1; omega
    have u3 : 0 ≤ (L1.length : Int) := by omega
    have u5 : (L1.length : Int) < L.length := by have := of_eq_true u1; omega
    have u4 : decide (q.1 < at_ + wh n) = true := decide_eq_true (by omega)
    clear hq0
    go_wp2_with fail
    go_quiet (fail)
    go_wp2_with fail
    go_ret
    exact ⟨by rfl, pw_below_drewN HB3.out _⟩
  · have hb : ∃ L0 r, L1 = L0 ++ [r] ∧ at_ < r.1 + r.2 := by
      refine Classical.byContradiction fun hb => hF ⟨fun q L' e => Int.not_lt.1 fun h => ha ⟨q, L', e, h⟩, fun L0 r e => Int.not_lt.1 fun h => hb ⟨L0, r, e, h⟩⟩
    obtain ⟨L0, r, rfl, hb⟩ := hb
    clear hF
    cases L2 with
    | nil =>
      clear ha
      have hr0 : L[L0.length]? = some r := by rw [HL.out]; simp
      obtain ⟨ad, rfl, v0, v1⟩ := k2_at (Kd.C_below HC.out HB3.out) hr0
      have HR0 := Aside0.mk (HM.out.2.1 r (by simp))
      have HR1 := Aside0.mk (HM.out.2.2.2.2 r (by simp))
      have k5 : (L0.length : Int) ≤ 1000 := by have h1 := HM.out.1; simp only [List.length_append, List.length_cons] at h1; omega
      have k1 : (L0.length < L.length) = True := eq_true (by rw [HL.out]; simp)
      have k2_ : 0 ≤ (L0.length : Int) := by omega
      have k3 : ((L0 ++ [r]).length : Int) = (L0.length : Int) + 1 := by simp
      have k4 : decide ((0 : Int) < (L0.length : Int) + 1) = true := decide_eq_true (by omega)
      have k6 : IntKind.i64.wrap ((L0.length : Int) + 1 - 1) = L0.length := by rw [show (L0.length : Int) + 1 - 1 = L0.length by omega]; first | done | exact wrap_ok (by omega) (by omega)
      have k7 : IntKind.i64.wrap (r.1 + r.2) = r.1 + r.2 := wrap_ok (by have := HR0.out; have := HR1.out; omega) (by have := HR0.out; have := HR1.out; omega)
      have k8 : decide (at_ < r.1 + r.2) = true := decide_eq_true (by omega)
      have k9 : (L0.length : Int) < L.length := by have := of_eq_true k1; omega
      rw [k3]
      clear hr0
      have u1 : ¬ ((L0.length : Int) + 1 < L.length) := by rw [HL.out]; simp
      have u7 : decide ((L0.length : Int) + 1 < L.length) = false := decide_eq_false u1
      have u8 : (L0.length + 1 < L.length) = False := eq_false (by omega)
      go_wp2_with fail
      go_quiet (fail)
      go_wp2_with fail
      go_ret
      exact ⟨by rfl, pw_below_drewN HB3.out _⟩
    | cons q L2 =>
      have ha2 : ¬ q.1 < at_ + wh n := fun h => ha ⟨q, L2, rfl, h⟩
      clear ha
      have hq0 : L[L0.length + 1]? = some q := by rw [HL.out]; simp
      obtain ⟨ad, rfl, z0, z1⟩ := k2_at (Kd.C_below HC.out HB3.out) hq0
      have z2 : w3.cell? ⟨ad.block, ad.off + (L0.length + 1) * 2, none⟩ = some (.int .i64 q.1) := by rw [← z0]; simp [Addr.add]
      have u4 : decide (q.1 < at_ + wh n) = false := decide_eq_false ha2
      have u1 : (L0.length + 1 < L.length) = True := eq_true (by rw [HL.out]; simp)
      have u5 : (L0.length : Int) + 1 < L.length := by have := of_eq_true u1; omega
      have u6 : 0 ≤ (L0.length : Int) + 1 := by omega
      have u7 : ((L0.length : Int) + 1).toNat = L0.length + 1 := by omega
      clear hq0 ha2
      have hr0 : L[L0.length]? = some r := by rw [HL.out]; simp
      obtain ⟨ad2, e9, v0, v1⟩ := k2_at (Kd.C_below HC.out HB3.out) hr0
      injection e9 with e9
      subst e9
      have HR0 := Aside0.mk (HM.out.2.1 r (by simp))
      have HR1 := Aside0.mk (HM.out.2.2.2.2 r (by simp))
      have k5 : (L0.length : Int) ≤ 1000 := by have h1 := HM.out.1; simp only [List.length_append, List.length_cons] at h1; omega
      have k1 : (L0.length < L.length) = True := eq_true (by rw [HL.out]; simp)
      have k2_ : 0 ≤ (L0.length : Int) := by omega
      have k3 : ((L0 ++ [r]).length : Int) = (L0.length : Int) + 1 := by simp
      have k4 : decide ((0 : Int) < (L0.length : Int) + 1) = true := decide_eq_true (by omega)
      have k6 : IntKind.i64.wrap ((L0.length : Int) + 1 - 1) = L0.length := by rw [show (L0.length : Int) + 1 - 1 = L0.length by omega]; first | done | exact wrap_ok (by omega) (by omega)
      have k7 : IntKind.i64.wrap (r.1 + r.2) = r.1 + r.2 := wrap_ok (by have := HR0.out; have := HR1.out; omega) (by have := HR0.out; have := HR1.out; omega)
      have k8 : decide (at_ < r.1 + r.2) = true := decide_eq_true (by omega)
      have k9 : (L0.length : Int) < L.length := by have := of_eq_true k1; omega
      rw [k3]
      clear hr0
      go_wp2_with fail
      go_quiet (fail)
      go_wp2_with fail
      go_ret
      exact ⟨by rfl, pw_below_drewN HB3.out _⟩
end Go.Proofs.Ytkeijpngfnmjoaa.MineHeap
