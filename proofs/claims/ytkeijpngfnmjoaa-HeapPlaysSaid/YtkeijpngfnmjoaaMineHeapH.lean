/- Heap: giving a block back, the walk. Conditions: the holes rise, the numbers are small. -/
import Derived.Test.YtkeijpngfnmjoaaMineHeapG
namespace Go.Proofs.Ytkeijpngfnmjoaa.MineHeap
open Go.RowKit Go.MapKept Go.Proofs.YtkeijpngfnmjoaaW.PrintWords Go.Proofs.YtkeijpngfnmjoaaW.PrintLast Go.Proofs.YtkeijpngfnmjoaaW.PrintMore Go.Proofs.Ytkeijpngfnmjoaa.MineBase Go.Proofs.Ytkeijpngfnmjoaa.MineSep Go.Proofs.Ytkeijpngfnmjoaa.MineRows Go.Proofs.Ytkeijpngfnmjoaa.MineGen
attribute [local go_sem] max2_int min2_int max_two min_two
attribute [local go_sem ↓] Go.wp_at_zero Go.wp_at_succ
set_option linter.unusedVariables false
set_option linter.unusedSimpArgs false
theorem of_beq_true2 {a b : Int} (h : (a == b) = true) : a = b := by simpa using h
theorem snoc_get (L0 : Hs) (r : Int × Int) (L2 : Hs) : (L0 ++ [r] ++ L2)[L0.length]? = some r := by simp
theorem mid_get (L1 : Hs) (q : Int × Int) (L2 : Hs) : (L1 ++ q :: L2)[L1.length]? = some q := by simp
set_option maxHeartbeats 4000000 in
set_option maxRecDepth 100000 in
theorem Give_ok {w0 w : World} {l : List Asn} {lo hi : Int} {g : Nat} {L1 L2 : Hs} (HS : Sat w0 w (AHeap lo hi w0.heap.size g (L1 ++ L2) :: l)) (hlo : 0 ≤ lo) (hhi : hi ≤ 65536) (hlh : lo ≤ hi) (at_ n : Int) (hgo : giveOk lo hi at_ n) (hn : (L1 ++ L2).length ≤ 900) (hsz : ∀ p ∈ L1 ++ L2, 0 < p.2 ∧ p.1 + p.2 ≤ 65536) (hA : Around L1 L2 at_) (hF : Fits L1 L2 at_ (wh n)) :
    Calls Try.prog 25 #[.pointer (some ⟨g, 0, none⟩), .int .i64 at_, .int .i64 n] w fun e w' => e = .returned (errV none) ∧ Sat w0 w' (AHeap lo hi w0.heap.size g (joinL L1 (joinR (at_, wh n) L2)) :: l) := by
  have HF := Aside0.mk hF
  clear hF
  obtain ⟨hg1, hg2, hg3, hg4⟩ := hgo
  have hw := wh_spec hg3.1
  have d1 : decide (at_ < lo) = false := decide_eq_false (by omega)
  have d3 : decide (n < 1) = false := decide_eq_false (by unfold sizeOk at hg3; omega)
  have d4 : decide (65536 < n) = false := decide_eq_false (by unfold sizeOk at hg3; omega)
  have d5 : decide (hi - wh n < at_) = false := decide_eq_false (by omega)
  have e2 : (at_ % 4 != 0) = false := by simpa using hg2
  have p1 : 0 ≤ at_ := by omega
  have p2 : at_ ≤ 65536 := by omega
  have p3 : 0 ≤ wh n := by omega
  have p4 : wh n ≤ 65536 := by omega
  have t1 : IntKind.i64.wrap (hi - wh n) = hi - wh n := wrap_ok (by omega) (by omega)
  have t2 : IntKind.i64.wrap (at_ + wh n) = at_ + wh n := wrap_ok (by omega) (by omega)
  have HNN := Aside0.mk hg3
  have HM := Aside0.mk (And.intro hn (And.intro hsz hA))
  obtain ⟨L, hL⟩ : ∃ L, L = L1 ++ L2 := ⟨_, rfl⟩
  have HL := Aside0.mk hL
  have hHS := HS
  rw [← hL] at hHS
  replace HS := Aside0.mk HS
  obtain ⟨A, c, hg, hlc, hC⟩ := heap_open HS.out
  rw [← hL] at hg hC
  have HG := Aside0.mk hg
  have HC := Aside0.mk hC
  have x0 : w.cell? ⟨g, 0, none⟩ = some (.int .i64 lo) := get_cell hg 0
  have x1 : w.cell? ⟨g, 1, none⟩ = some (.int .i64 hi) := get_cell hg 1
  have HH := Aside0.mk (And.intro hlo (And.intro hhi (And.intro hlh (And.intro hg1 (And.intro hg2 (And.intro hg4 hw))))))
  clear hg1 hg2 hg3 hg4 hw hlo hhi hlh hg hC hlc hn hsz hA hL hHS
  go_enter Try.func25, Try.ntmps25
  go_wp2
  go_quiet ((go_at_call 64; exact whole_quiet n HNN.out.1 HNN.out.2 _ _))
  have HS1 := Aside0.mk (HS.out.drewN nq)
  have HB1 := Aside0.mk (pw_below_drewN (Below.refl w.heap.size w) nq)
  clear x0 x1
  generalize w.drewN nq = w1 at *
  go_wp2_with fail
  have hq := whole_calls n HNN.out.1 HNN.out.2 w1
  (with_reducible refine hq.mono ?_)
  clear hq
  rintro e2_ w2 ⟨rfl, hd2⟩
  have HS2 := Aside0.mk (HS1.out.drawn hd2)
  have HB2 := Aside0.mk (below_step HB1.out hd2.below)
  clear hd2
  have y0 : w2.cell? ⟨g, 2, none⟩ = some (.slice A L.length c) := get_cell (blk_below HG.out HB2.out) 2
  go_wp2_with fail
  have hq := Search_calls A c L1 L2 at_ w2 (by rw [← HL.out]; exact Kd.C_below HC.out HB2.out) (by have := HM.out.1; omega) HM.out.2.2 p1 p2
  rw [← HL.out] at hq
  (with_reducible refine hq.mono ?_)
  clear hq
  rintro e3 w3 ⟨b3, rfl, hb3⟩
  have HS3 := Aside0.mk (HS2.out.below hb3)
  have HB3 := Aside0.mk (below_step HB2.out hb3)
  clear hb3 y0
  have y0 : w3.cell? ⟨g, 2, none⟩ = some (.slice A L.length c) := get_cell (blk_below HG.out HB3.out) 2
  go_upto_region 5 with (fail)
  go_cut [8, 100] (fun v8 v100 wx => v8 = .int .i64 L1.length ∧ v100 = .bool false ∧ Aside0 (Drawn0 w3 wx))
  case first =>
    rcases List.eq_nil_or_concat L1 with rfl | ⟨L0, r, rfl⟩
    · cases L2 with
      | nil =>
        have l0 : L = [] := HL.out
        subst l0
        go_wp2_with fail
        go_quiet (fail)
        go_wp2_with fail
        go_meet
        case rel => exact ⟨by first | rfl | rw [k3], rfl, ⟨(Drawn0.refl _).step _⟩⟩
      | cons q L2 =>
        simp only [List.nil_append] at HL HM
        have u0 : (0 < L.length) = True := eq_true (by rw [HL.out]; simp)
        have hq0 : L[0]? = some q := by rw [HL.out]; rfl
        obtain ⟨ad, rfl, z0, z1⟩ := k2_at (Kd.C_below HC.out HB3.out) hq0
        simp only [Nat.zero_mul] at z0 z1
        have z2 : w3.cell? ad = some (.int .i64 q.1) := by simpa [Addr.add] using z0
        have u4 : decide (q.1 < at_ + wh n) = false := decide_eq_false (by have := HF.out.1 q L2 rfl; omega)
        have u5 : (0 : Int) < L.length := by have := of_eq_true u0; omega
        clear hq0
        go_wp2_with fail
        go_quiet (fail)
        go_wp2_with fail
        go_meet
        case rel => exact ⟨by first | rfl | rw [k3], rfl, ⟨(Drawn0.refl _).step _⟩⟩
    · rw [List.concat_eq_append] at *
      cases L2 with
      | nil =>
        have hr0 : L[L0.length]? = some r := by rw [HL.out]; simp
        obtain ⟨ad, rfl, v0, v1⟩ := k2_at (Kd.C_below HC.out HB3.out) hr0
        have HR0 := Aside0.mk (HM.out.2.1 r (by simp))
        have HR1 := Aside0.mk (HM.out.2.2.2.2 r (by simp))
        have k5 : (L0.length : Int) ≤ 1000 := by have h1 := HM.out.1; simp only [List.length_append, List.length_cons] at h1; omega
        have k1 : (L0.length < L.length) = True := eq_true (by rw [HL.out]; simp)
        have k2_ : 0 ≤ (L0.length : Int) := by omega
        have k3 : ((L0 ++ [r]).length : Int) = (L0.length : Int) + 1 := by simp
        have k4 : decide ((0 : Int) < (L0.length : Int) + 1) = true := decide_eq_true (by omega)
        have k6 : IntKind.i64.wrap ((L0.length : Int) + 1 - 1) = L0.length := by rw [show (L0.length : Int) + 1 - 1 = L0.length by omega]; first | done | exact wrap_ok (by omega) (by omega)
        have k7 : IntKind.i64.wrap (r.1 + r.2) = r.1 + r.2 := wrap_ok (by have := HR0.out; have := HR1.out; omega) (by have := HR0.out; have := HR1.out; omega)
        have k8 : decide (at_ < r.1 + r.2) = false := decide_eq_false (by have := HF.out.2 L0 r rfl; omega)
        have k9 : (L0.length : Int) < L.length := by have := of_eq_true k1; omega
        rw [k3]
        clear hr0
        have u1 : ¬ ((L0.length : Int) + 1 < L.length) := by rw [HL.out]; simp
        have u7 : decide ((L0.length : Int) + 1 < L.length) = false := decide_eq_false u1
        have u8 : (L0.length + 1 < L.length) = False := eq_false (by omega)
        go_wp2_with fail
        go_quiet (fail)
        go_wp2_with fail
        go_meet
        case rel => exact ⟨by first | rfl | rw [k3], rfl, ⟨(Drawn0.refl _).step _⟩⟩
      | cons q L2 =>
        have hq0 : L[L0.length + 1]? = some q := by rw [HL.out]; simp
        obtain ⟨ad, rfl, z0, z1⟩ := k2_at (Kd.C_below HC.out HB3.out) hq0
        have z2 : w3.cell? ⟨ad.block, ad.off + (L0.length + 1) * 2, none⟩ = some (.int .i64 q.1) := by rw [← z0]; simp [Addr.add]
        have u4 : decide (q.1 < at_ + wh n) = false := decide_eq_false (by have := HF.out.1 q L2 rfl; omega)
        have u1 : (L0.length + 1 < L.length) = True := eq_true (by rw [HL.out]; simp)
        have u5 : (L0.length : Int) + 1 < L.length := by have := of_eq_true u1; omega
        have u6 : 0 ≤ (L0.length : Int) + 1 := by omega
        have u7 : ((L0.length : Int) + 1).toNat = L0.length + 1 := by omega
        clear hq0
        have hr0 : L[L0.length]? = some r := by rw [HL.out]; simp
        obtain ⟨ad2, e9, v0, v1⟩ := k2_at (Kd.C_below HC.out HB3.out) hr0
        injection e9 with e9
        subst e9
        have HR0 := Aside0.mk (HM.out.2.1 r (by simp))
        have HR1 := Aside0.mk (HM.out.2.2.2.2 r (by simp))
        have k5 : (L0.length : Int) ≤ 1000 := by have h1 := HM.out.1; simp only [List.length_append, List.length_cons] at h1; omega
        have k1 : (L0.length < L.length) = True := eq_true (by rw [HL.out]; simp)
        have k2_ : 0 ≤ (L0.length : Int) := by omega
        have k3 : ((L0 ++ [r]).length : Int) = (L0.length : Int) + 1 := by simp
        have k4 : decide ((0 : Int) < (L0.length : Int) + 1) = true := decide_eq_true (by omega)
        have k6 : IntKind.i64.wrap ((L0.length : Int) + 1 - 1) = L0.length := by rw [show (L0.length : Int) + 1 - 1 = L0.length by omega]; first | done | exact wrap_ok (by omega) (by omega)
        have k7 : IntKind.i64.wrap (r.1 + r.2) = r.1 + r.2 := wrap_ok (by have := HR0.out; have := HR1.out; omega) (by have := HR0.out; have := HR1.out; omega)
        have k8 : decide (at_ < r.1 + r.2) = false := decide_eq_false (by have := HF.out.2 L0 r rfl; omega)
        have k9 : (L0.length : Int) < L.length := by have := of_eq_true k1; omega
        rw [k3]
        clear hr0
        go_wp2_with fail
        go_quiet (fail)
        go_wp2_with fail
        go_meet
        case rel => exact ⟨by first | rfl | rw [k3], rfl, ⟨(Drawn0.refl _).step _⟩⟩
  case rest =>
    obtain ⟨rfl, rfl, HD3⟩ := hcut
    have HS4 := Aside0.mk (HS3.out.drawn HD3.out)
    have HB4 := Aside0.mk (below_step HB3.out HD3.out.below)
    have y1 : wc.cell? ⟨g, 2, none⟩ = some (.slice A L.length c) := get_cell (blk_below HG.out HB4.out) 2
    have HQI := Aside0.mk (insert_any HS4.out (by have := HM.out.1; omega) (at_, wh n) A c (by rw [← HL.out]; exact blk_below HG.out HB4.out))
    have hqi := HQI.out
    rw [← HL.out] at hqi
    replace HQI := Aside0.mk (show Calls Try.prog 67 #[.slice A L.length c, .int .i64 L1.length, .slice (some ⟨wc.heap.size, 0, none⟩) 1 1] (wc.alloc (.cells #[.int .i64 at_, .int .i64 (wh n)] 118)) (Ins w0 l lo hi g A c L (L1 ++ (at_, wh n) :: L2)) from hqi)
    clear hqi y0 HS3 HB3 HD3 HS2 HB2 HS1 HB1
    go_wp2_with fail
    (with_reducible refine HQI.out.mono ?_)
    rintro e5 w5 ⟨A5, c5, he5, hg5, hS5⟩
    obtain ⟨M, hM⟩ : ∃ M, M = (L1 ++ (at_, wh n) :: L2).length := ⟨_, rfl⟩
    rw [← hM] at he5 hS5
    subst he5
    have HML := Aside0.mk (show (L1.length : Int) ≤ M ∧ M ≤ 1001 from by rw [hM]; have := HM.out.1; simp only [List.length_append, List.length_cons] at this ⊢; omega)
    have z0 : w5.cell? ⟨g, 2, none⟩ = some (.slice A L.length c) := get_cell hg5 2
    have z1 : w5.frozen? ⟨g, 2, none⟩ = false := get_frozen hg5 2
    have HS5 := Aside0.mk hS5
    have HM2 := Aside0.mk hM
    clear HQI hg5 hS5 y1 hM
    go_upto_region 8 with (fail)
    refine wp_abs (fun W => Sat w0 W (AHeap lo hi w0.heap.size g (L1 ++ (at_, wh n) :: L2) :: l)) HS5.out (fun W5 hW5 => ?_)
    have HW5 := Aside0.mk hW5
    obtain ⟨A6, c6, hg6, _, _⟩ := heap_open hW5
    have hM := HM2.out
    rw [← hM] at hg6
    have y1 : W5.cell? ⟨g, 2, none⟩ = some (.slice A6 M c6) := get_cell hg6 2
    have HPH := Aside0.mk (phase_start L1 L2 (at_, wh n))
    rw [← hM] at HPH
    have HSZ5 := Aside0.mk (show ∀ p ∈ L1 ++ (at_, wh n) :: L2, 0 < p.2 ∧ 0 ≤ p.1 ∧ p.1 + p.2 ≤ 65536 from fun p hp => by
      rcases List.mem_append.1 hp with hp | hp
      · have := HM.out.2.1 p (List.mem_append_left _ hp); have := HM.out.2.2.2.2 p (List.mem_append_left _ hp); omega
      · rcases List.mem_cons.1 hp with rfl | hp
        · have := HH.out; simp only; omega
        · have := HM.out.2.1 p (List.mem_append_right _ hp); have := HM.out.2.2.2.2 p (List.mem_append_right _ hp); omega)
    obtain ⟨k0, hk0⟩ : ∃ k0, k0 = (if (M : Int) - 2 < (L1.length : Int) then (M : Int) - 2 else (L1.length : Int)) := ⟨_, rfl⟩
    rw [← hk0] at HPH
    have t8 : IntKind.i64.wrap ((M : Int) - 2) = (M : Int) - 2 := wrap_ok (by omega) (by have := HML.out; omega)
    clear z0 z1 HS5 hM hg6 hW5
    go_cut [10] (fun v10 wx => v10 = .int .i64 k0 ∧ wx = W5)
    case first =>
      by_cases hlt : (M : Int) - 2 < (L1.length : Int)
      · have e8 : ((M : Int) - 2 < (L1.length : Int)) = True := eq_true hlt
        rw [if_pos hlt] at hk0
        have HK0 := Aside0.mk hk0
        clear hk0 hlt
        go_wp2_with fail
        go_meet
        case rel => exact ⟨by rw [HK0.out], rfl⟩
      · have e8 : ((M : Int) - 2 < (L1.length : Int)) = False := eq_false hlt
        rw [if_neg hlt] at hk0
        have HK0 := Aside0.mk hk0
        clear hk0 hlt
        go_wp2_with fail
        go_meet
        case rel => exact ⟨by rw [HK0.out], rfl⟩
    case rest =>
      obtain ⟨rfl, rfl⟩ := hcut
      clear hk0 t8 y1
      have t9 : IntKind.i64.wrap ((L1.length : Int) - 1) = (L1.length : Int) - 1 := wrap_ok (by omega) (by have := HML.out; omega)
      rcases Nat.eq_zero_or_pos L1.length with hz | hz
      · have e9 : ((L1.length : Int) - 1 < 0) = True := eq_true (by omega)
        have e10 : decide ((L1.length : Int) - 1 < 0) = true := decide_eq_true (by omega)
        have HZ := Aside0.mk hz
        clear hz
        go_wp2_with fail
        go_loopg [10] (M + 10) (fun kq v10 w' => ∃ (k : Int) (C : Hs), v10 = .int .i64 k ∧ Aside0 (Phase L1 L2 (at_, wh n) k C ∧ k + 3 < kq) ∧ Aside0 (Sat w0 w' (AHeap lo hi w0.heap.size g C :: l)) ∧ Aside0 (∀ p ∈ C, 0 < p.2 ∧ 0 ≤ p.1 ∧ p.1 + p.2 ≤ 65536))
        case atStart => exact ⟨_, _, rfl, ⟨HPH.out, by have := phase_len HPH.out; have := HML.out; omega⟩, HW5, HSZ5⟩
        case round =>
          obtain ⟨k, C, rfl, HP, HS6, HSZ⟩ := hrel
          have hpl := phase_len HP.out.1
          have r1 : -2 ≤ k := hpl.2.1
          have r2 : k ≤ 1000 := by have := hpl.2.2; have := HM.out.1; simp only [List.length_append] at this; omega
          have r3 : C.length ≤ 1000 := by have := hpl.1; have := HM.out.1; omega
          by_cases hge : 0 ≤ k
          · have HGE := Aside0.mk hge
            obtain ⟨kk, rfl, hkl, hph⟩ := phase_round HP.out.1 (show (if (L1.length : Int) - 1 < 0 then 0 else (L1.length : Int) - 1) ≤ k by rw [if_pos (by have := HZ.out; omega)]; exact hge)
            have HPH2 := Aside0.mk hph
            obtain ⟨pa, hpa⟩ : ∃ p, C[kk]? = some p := ⟨_, List.getElem?_eq_getElem (by omega)⟩
            obtain ⟨pb, hpb⟩ : ∃ p, C[kk + 1]? = some p := ⟨_, List.getElem?_eq_getElem hkl⟩
            have HMG := Aside0.mk (mergeAt_get hpa hpb)
            have HPA := Aside0.mk (HSZ.out pa (List.mem_of_getElem? hpa))
            have HPB := Aside0.mk (HSZ.out pb (List.mem_of_getElem? hpb))
            obtain ⟨g3, c6, hg6, hlc6, hgg, hgl, x0, x1, f0, f1, hs0, hs1⟩ := box_k2 HS6.out hpa
            obtain ⟨g3', c6', hg6', _, _, _, x2, x3, _, _, _, _⟩ := box_k2 HS6.out hpb
            have y0 : wr.cell? ⟨g, 2, none⟩ = some (.slice (some ⟨g3, 0, none⟩) C.length c6) := get_cell hg6 2
            have y0' : wr.cell? ⟨g, 2, none⟩ = some (.slice (some ⟨g3', 0, none⟩) C.length c6') := get_cell hg6' 2
            rw [y0] at y0'
            injection y0' with y0'
            injection y0' with y0'
            injection y0' with y0'
            injection y0' with y0'
            subst y0'
            have HS1' := Aside0.mk (show ∀ y, Sat w0 (wr.setCell ⟨g3, kk * 2 + 1, none⟩ (.int .i64 y)) (AHeap lo hi w0.heap.size g (C.set kk (pa.1, y)) :: l) from hs1)
            have u1 : (kk < C.length) = True := eq_true (by omega)
            have u2 : (kk + 1 < C.length) = True := eq_true hkl
            have u3 : 0 ≤ (kk : Int) := by omega
            have u4 : 0 ≤ (kk : Int) + 1 := by omega
            have u5 : ((kk : Int) + 1).toNat = kk + 1 := by omega
            have u6 : IntKind.i64.wrap ((kk : Int) + 1) = (kk : Int) + 1 := wrap_ok (by omega) (by omega)
            have u7 : IntKind.i64.wrap ((kk : Int) + 2) = (kk : Int) + 2 := wrap_ok (by omega) (by omega)
            have u8 : IntKind.i64.wrap (pa.1 + pa.2) = pa.1 + pa.2 := wrap_ok (by have := HPA.out; omega) (by have := HPA.out; omega)
            have u9 : IntKind.i64.wrap (pa.2 + pb.2) = pa.2 + pb.2 := wrap_ok (by have := HPA.out; have := HPB.out; omega) (by have := HPA.out; have := HPB.out; omega)
            have v1 : (kk : Int) < C.length := by omega
            have v2 : (kk : Int) + 1 < C.length := by omega
            have v3 : ¬ (kk * 2 = kk * 2 + 2) := by omega
            have x2' : wr.cell? ⟨g3, (kk + 1) * 2, none⟩ = some (.int .i64 pb.1) := x2
            have x3' : wr.cell? ⟨g3, (kk + 1) * 2 + 1, none⟩ = some (.int .i64 pb.2) := x3
            have HC6 := Aside0.mk (And.intro hpa (And.intro hpb hkl))
            have hge1 : 0 ≤ (kk : Int) := u3
            clear hg6 hlc6 hgl hs0 hs1 hg6' x2 x3 hpa hpb hph hkl hge hpl
            by_cases hcc : pa.1 + pa.2 = pb.1
            · have ec : (pa.1 + pa.2 == pb.1) = true := by simpa using hcc
              have HMG2 := Aside0.mk (show mergeAt kk C = (C.set kk (pa.1, pa.2 + pb.2)).eraseIdx (kk + 1) by rw [HMG.out, if_pos hcc])
              clear hcc
              go_wp2_with fail
              go_quiet (fail)
              go_wp2_with fail
              go_cut [] (fun wx => Aside0 (Sat w0 wx (AHeap lo hi w0.heap.size g (C.set kk (pa.1, pa.2 + pb.2)) :: l)))
              case first =>
                go_region_law (fail)
                all_goals (
                  go_wp2
                  go_meet
                  case rel => exact ⟨((HS1'.out _).drewN _).drew⟩)
              case rest =>
                have HS7 := hcut
                clear HS6 HS1' x0 x1 x2' x3' f0 f1 y0 hgg
                obtain ⟨g4, c4, hg4, hq⟩ := heap_delete HS7.out (k := kk + 1) (by rw [List.length_set]; exact HC6.out.2.2) (by rw [List.length_set]; exact r3)
                rw [List.length_set] at hg4 hq
                have y4 : wc.cell? ⟨g, 2, none⟩ = some (.slice (some ⟨g4, 0, none⟩) C.length c4) := get_cell hg4 2
                have ck1 : (((kk + 1 : Nat) : Int)) = (kk : Int) + 1 := by omega
                have ck2 : ((kk : Int) + 1 + 1) = (kk : Int) + 2 := by omega
                rw [ck1, ck2] at hq
                have HQ := Aside0.mk hq
                clear hg4 hq ck1 ck2
                go_wp2_with fail
                (with_reducible refine HQ.out.mono ?_)
                rintro e9 w9 ⟨rfl, hg9, hS9⟩
                rw [← HMG2.out] at hS9
                have HS8 := Aside0.mk hS9
                have z0 : w9.cell? ⟨g, 2, none⟩ = some (.slice (some ⟨g4, 0, none⟩) C.length c4) := get_cell hg9 2
                have z1 : w9.frozen? ⟨g, 2, none⟩ = false := get_frozen hg9 2
                clear hS9 hg9 HQ y4
                go_wp2_with fail
                go_roundg (gk - 1)
                case measure => have := HP.out.2; have := hge1; omega
                case rel => exact ⟨(kk : Int) - 1, mergeAt kk C, rfl, ⟨HPH2.out, by have := HP.out.2; have := hge1; omega⟩, HS8, ⟨fun p hp => by
                  rw [HMG2.out] at hp
                  have hp := List.mem_of_mem_eraseIdx hp
                  rcases List.mem_or_eq_of_mem_set hp with hp | hp
                  · exact HSZ.out p hp
                  · rw [hp]; have := HPA.out; have := HPB.out; have := of_beq_true2 ec; simp only; omega⟩⟩
            · have ec : (pa.1 + pa.2 == pb.1) = false := by simpa using hcc
              have HMG2 := Aside0.mk (show mergeAt kk C = C by rw [HMG.out, if_neg hcc])
              clear hcc
              go_wp2_with fail
              go_quiet (fail)
              go_wp2_with fail
              go_roundg (gk - 1)
              case measure => have := HP.out.2; have := hge1; omega
              case rel => exact ⟨(kk : Int) - 1, C, rfl, ⟨by have h := HPH2.out; rw [HMG2.out] at h; exact h, by have := HP.out.2; have := hge1; omega⟩, ⟨HS6.out.drewN _⟩, HSZ⟩
          · have HE := Aside0.mk (phase_end HP.out.1 (show k < (if (L1.length : Int) - 1 < 0 then 0 else (L1.length : Int) - 1) by rw [if_pos (by have := HZ.out; omega)]; omega))
            have ng : ¬ (0 ≤ k) := by omega
            clear hge hpl
            go_wp2_with fail
            go_ret
            exact ⟨by rfl, by rw [← HE.out]; exact HS6.out⟩
      · have e9 : ((L1.length : Int) - 1 < 0) = False := eq_false (by omega)
        have e10 : decide ((L1.length : Int) - 1 < 0) = false := decide_eq_false (by omega)
        go_wp2_with fail
        go_loopg [10] (M + 10) (fun kq v10 w' => ∃ (k : Int) (C : Hs), v10 = .int .i64 k ∧ Aside0 (Phase L1 L2 (at_, wh n) k C ∧ k + 3 < kq) ∧ Aside0 (Sat w0 w' (AHeap lo hi w0.heap.size g C :: l)) ∧ Aside0 (∀ p ∈ C, 0 < p.2 ∧ 0 ≤ p.1 ∧ p.1 + p.2 ≤ 65536))
        case atStart => exact ⟨_, _, rfl, ⟨HPH.out, by have := phase_len HPH.out; have := HML.out; omega⟩, HW5, HSZ5⟩
        case round =>
          obtain ⟨k, C, rfl, HP, HS6, HSZ⟩ := hrel
          have hpl := phase_len HP.out.1
          have r1 : -2 ≤ k := hpl.2.1
          have r2 : k ≤ 1000 := by have := hpl.2.2; have := HM.out.1; simp only [List.length_append] at this; omega
          have r3 : C.length ≤ 1000 := by have := hpl.1; have := HM.out.1; omega
          by_cases hge : (L1.length : Int) - 1 ≤ k
          · have HGE := Aside0.mk hge
            obtain ⟨kk, rfl, hkl, hph⟩ := phase_round HP.out.1 (show (if (L1.length : Int) - 1 < 0 then 0 else (L1.length : Int) - 1) ≤ k by rw [if_neg (by omega)]; exact hge)
            have HPH2 := Aside0.mk hph
            obtain ⟨pa, hpa⟩ : ∃ p, C[kk]? = some p := ⟨_, List.getElem?_eq_getElem (by omega)⟩
            obtain ⟨pb, hpb⟩ : ∃ p, C[kk + 1]? = some p := ⟨_, List.getElem?_eq_getElem hkl⟩
            have HMG := Aside0.mk (mergeAt_get hpa hpb)
            have HPA := Aside0.mk (HSZ.out pa (List.mem_of_getElem? hpa))
            have HPB := Aside0.mk (HSZ.out pb (List.mem_of_getElem? hpb))
            obtain ⟨g3, c6, hg6, hlc6, hgg, hgl, x0, x1, f0, f1, hs0, hs1⟩ := box_k2 HS6.out hpa
            obtain ⟨g3', c6', hg6', _, _, _, x2, x3, _, _, _, _⟩ := box_k2 HS6.out hpb
            have y0 : wr.cell? ⟨g, 2, none⟩ = some (.slice (some ⟨g3, 0, none⟩) C.length c6) := get_cell hg6 2
            have y0' : wr.cell? ⟨g, 2, none⟩ = some (.slice (some ⟨g3', 0, none⟩) C.length c6') := get_cell hg6' 2
            rw [y0] at y0'
            injection y0' with y0'
            injection y0' with y0'
            injection y0' with y0'
            injection y0' with y0'
            subst y0'
            have HS1' := Aside0.mk (show ∀ y, Sat w0 (wr.setCell ⟨g3, kk * 2 + 1, none⟩ (.int .i64 y)) (AHeap lo hi w0.heap.size g (C.set kk (pa.1, y)) :: l) from hs1)
            have u1 : (kk < C.length) = True := eq_true (by omega)
            have u2 : (kk + 1 < C.length) = True := eq_true hkl
            have u3 : 0 ≤ (kk : Int) := by omega
            have u4 : 0 ≤ (kk : Int) + 1 := by omega
            have u5 : ((kk : Int) + 1).toNat = kk + 1 := by omega
            have u6 : IntKind.i64.wrap ((kk : Int) + 1) = (kk : Int) + 1 := wrap_ok (by omega) (by omega)
            have u7 : IntKind.i64.wrap ((kk : Int) + 2) = (kk : Int) + 2 := wrap_ok (by omega) (by omega)
            have u8 : IntKind.i64.wrap (pa.1 + pa.2) = pa.1 + pa.2 := wrap_ok (by have := HPA.out; omega) (by have := HPA.out; omega)
            have u9 : IntKind.i64.wrap (pa.2 + pb.2) = pa.2 + pb.2 := wrap_ok (by have := HPA.out; have := HPB.out; omega) (by have := HPA.out; have := HPB.out; omega)
            have v1 : (kk : Int) < C.length := by omega
            have v2 : (kk : Int) + 1 < C.length := by omega
            have v3 : ¬ (kk * 2 = kk * 2 + 2) := by omega
            have x2' : wr.cell? ⟨g3, (kk + 1) * 2, none⟩ = some (.int .i64 pb.1) := x2
            have x3' : wr.cell? ⟨g3, (kk + 1) * 2 + 1, none⟩ = some (.int .i64 pb.2) := x3
            have HC6 := Aside0.mk (And.intro hpa (And.intro hpb hkl))
            have hge1 : (L1.length : Int) ≤ (kk : Int) + 1 := by omega
            clear hg6 hlc6 hgl hs0 hs1 hg6' x2 x3 hpa hpb hph hkl hge hpl
            by_cases hcc : pa.1 + pa.2 = pb.1
            · have ec : (pa.1 + pa.2 == pb.1) = true := by simpa using hcc
              have HMG2 := Aside0.mk (show mergeAt kk C = (C.set kk (pa.1, pa.2 + pb.2)).eraseIdx (kk + 1) by rw [HMG.out, if_pos hcc])
              clear hcc
              go_wp2_with fail
              go_quiet (fail)
              go_wp2_with fail
              go_cut [] (fun wx => Aside0 (Sat w0 wx (AHeap lo hi w0.heap.size g (C.set kk (pa.1, pa.2 + pb.2)) :: l)))
              case first =>
                go_region_law (fail)
                all_goals (
                  go_wp2
                  go_meet
                  case rel => exact ⟨((HS1'.out _).drewN _).drew⟩)
              case rest =>
                have HS7 := hcut
                clear HS6 HS1' x0 x1 x2' x3' f0 f1 y0 hgg
                obtain ⟨g4, c4, hg4, hq⟩ := heap_delete HS7.out (k := kk + 1) (by rw [List.length_set]; exact HC6.out.2.2) (by rw [List.length_set]; exact r3)
                rw [List.length_set] at hg4 hq
                have y4 : wc.cell? ⟨g, 2, none⟩ = some (.slice (some ⟨g4, 0, none⟩) C.length c4) := get_cell hg4 2
                have ck1 : (((kk + 1 : Nat) : Int)) = (kk : Int) + 1 := by omega
                have ck2 : ((kk : Int) + 1 + 1) = (kk : Int) + 2 := by omega
                rw [ck1, ck2] at hq
                have HQ := Aside0.mk hq
                clear hg4 hq ck1 ck2
                go_wp2_with fail
                (with_reducible refine HQ.out.mono ?_)
                rintro e9 w9 ⟨rfl, hg9, hS9⟩
                rw [← HMG2.out] at hS9
                have HS8 := Aside0.mk hS9
                have z0 : w9.cell? ⟨g, 2, none⟩ = some (.slice (some ⟨g4, 0, none⟩) C.length c4) := get_cell hg9 2
                have z1 : w9.frozen? ⟨g, 2, none⟩ = false := get_frozen hg9 2
                clear hS9 hg9 HQ y4
                go_wp2_with fail
                go_roundg (gk - 1)
                case measure => have := HP.out.2; have := hge1; omega
                case rel => exact ⟨(kk : Int) - 1, mergeAt kk C, rfl, ⟨HPH2.out, by have := HP.out.2; have := hge1; omega⟩, HS8, ⟨fun p hp => by
                  rw [HMG2.out] at hp
                  have hp := List.mem_of_mem_eraseIdx hp
                  rcases List.mem_or_eq_of_mem_set hp with hp | hp
                  · exact HSZ.out p hp
                  · rw [hp]; have := HPA.out; have := HPB.out; have := of_beq_true2 ec; simp only; omega⟩⟩
            · have ec : (pa.1 + pa.2 == pb.1) = false := by simpa using hcc
              have HMG2 := Aside0.mk (show mergeAt kk C = C by rw [HMG.out, if_neg hcc])
              clear hcc
              go_wp2_with fail
              go_quiet (fail)
              go_wp2_with fail
              go_roundg (gk - 1)
              case measure => have := HP.out.2; have := hge1; omega
              case rel => exact ⟨(kk : Int) - 1, C, rfl, ⟨by have h := HPH2.out; rw [HMG2.out] at h; exact h, by have := HP.out.2; have := hge1; omega⟩, ⟨HS6.out.drewN _⟩, HSZ⟩
          · have HE := Aside0.mk (phase_end HP.out.1 (show k < (if (L1.length : Int) - 1 < 0 then 0 else (L1.length : Int) - 1) by rw [if_neg (by omega)]; omega))
            have ng : ¬ ((L1.length : Int) - 1 ≤ k) := by omega
            have ng1 : ¬ ((L1.length : Int) ≤ k + 1) := by omega
            clear hge hpl
            go_wp2_with fail
            go_ret
            exact ⟨by rfl, by rw [← HE.out]; exact HS6.out⟩
end Go.Proofs.Ytkeijpngfnmjoaa.MineHeap
