/- ZoneApart: what can be stored can be loaded; where an instruction can be nothing can be loaded; a declared cell can be stored. Conditions: the numbers are of their kind. -/
import Derived.Test.YtkeijpngfnmjoaaMineZoneP
namespace Go.Proofs.Ytkeijpngfnmjoaa.MineZone
open Go.Lib Go.Shelf Go.RowKit Go.MapKept Go.Proofs.YtkeijpngfnmjoaaW.PrintWords Go.Proofs.YtkeijpngfnmjoaaW.PrintLast Go.Proofs.YtkeijpngfnmjoaaW.PrintMore Go.Proofs.Ytkeijpngfnmjoaa.MineBase Go.Proofs.Ytkeijpngfnmjoaa.MineSep Go.Proofs.Ytkeijpngfnmjoaa.MineRows Go.Proofs.Ytkeijpngfnmjoaa.MineGen Go.Proofs.Ytkeijpngfnmjoaa.QZonePlays Go.Proofs.Ytkeijpngfnmjoaa.MineMap
attribute [local go_sem ↓] Go.wp_at_zero Go.wp_at_succ
set_option linter.unusedVariables false
set_option linter.unusedSimpArgs false
attribute [local go_sem] Go.Proofs.Ytkeijpngfnmjoaa.MineErr.eql_err Go.Proofs.Ytkeijpngfnmjoaa.MineErr.neq_err Go.Proofs.Ytkeijpngfnmjoaa.MineErr.eql_nil_err Go.Proofs.Ytkeijpngfnmjoaa.MineErr.neq_nil_err
theorem few_true {x : S82} (h : fewB x = true) : x.f4.length ≤ 100 ∧ x.f5.length ≤ 100 := by
  unfold fewB at h
  simp only [Bool.and_eq_true, decide_eq_true_eq] at h
  omega
set_option maxHeartbeats 8000000 in
set_option maxRecDepth 100000 in
theorem ZoneApart_calls (A : Option Addr) (c : Nat) (ds : List (Bool × S82)) (a n : Int) (ha : a ≤ 9223372036854775807) (hn : n ≤ 9223372036854775807) (w : World) (hC : kD.C w A ds.length ds) (hle : ds.length ≤ c) :
    Calls Try.prog 8 #[.slice A ds.length c, .int .i64 a, .int .i64 n] w fun e w' => e = .returned (.bool true) ∧ Below w.heap.size w w' := by
  have HC0 := Aside0.mk hC
  have HA := Aside0.mk (And.intro ha hn)
  have hq := up_calls w
  have hu75 := Try.underlying75
  clear hC ha hn
  go_enter Try.func8, Try.ntmps8
  go_wp2_with fail
  (with_reducible refine hq.mono ?_)
  rintro e1 w1 ⟨rfl, hb1⟩
  clear hq
  have HB1 := Aside0.mk hb1
  have HC := Aside0.mk (Kd.C_below HC0.out hb1)
  have hq := New_zs w1
  clear hb1 HC0
  go_wp2_with fail
  (with_reducible refine hq.mono ?_)
  rintro e2 w2 ⟨z, m, rfl, hZ⟩
  have HZ0 := Aside0.mk hZ
  clear hq hZ
  by_cases hlen : ds.length ≤ 40
  case neg =>
    have d1 : ((ds.length : Int) ≤ 40) = False := eq_false (by omega)
    have d2 : decide ((40 : Int) < (ds.length : Int)) = true := decide_eq_true (by omega)
    have d3 : ((40 : Int) < (ds.length : Int)) = True := eq_true (by omega)
    have d4 : (40 < ds.length) = True := eq_true (by omega)
    clear hlen
    go_wp2_with fail
    go_ret
    exact ⟨by rfl, below_then HB1.out HB1.out.size HZ0.out.toBelow⟩
  have d1 : ((ds.length : Int) ≤ 40) = True := eq_true (by omega)
  have d2 : decide ((40 : Int) < (ds.length : Int)) = false := decide_eq_false (by omega)
  have d3 : ((40 : Int) < (ds.length : Int)) = False := eq_false (by omega)
  have d4 : (40 < ds.length) = False := eq_false (by omega)
  have HLN := Aside0.mk hlen
  clear hlen
  go_wp2_with fail
  go_loopg [9] (ds.length + 1) (fun kq v9 w' => ∃ (i : Nat) (zs : List S82), v9 = .int .i64 i ∧ Aside0 (i ≤ ds.length ∧ ds.length - i < kq) ∧ Aside0 (ZS w1 w' z m i zs []))
  case atStart => exact ⟨0, [], rfl, ⟨by omega⟩, HZ0⟩
  case round =>
    clear HZ0
    obtain ⟨i, zs, rfl, Hi, HZ⟩ := hrel
    obtain ⟨wo, rfl⟩ : ∃ y, y = wr := ⟨wr, rfl⟩
    by_cases hlt : i < ds.length
    · obtain ⟨⟨gone, x⟩, hx⟩ : ∃ d, ds[i]? = some d := ⟨_, List.getElem?_eq_getElem hlt⟩
      obtain ⟨ad, A4, c4, A5, c5, eA, y0, y1, y2, y3, y4, y5, y6, hl4, hC4, hl5, hC5⟩ := kD_at HC.out hx
      simp only at y0 y1 y2 y3 y4 y5 y6 hl4 hC4 hl5 hC5
      subst eA
      have HC4 := Aside0.mk hC4
      have HC5 := Aside0.mk hC5
      have HL4 := Aside0.mk hl4
      have HL5 := Aside0.mk hl5
      have p1 : (i < ds.length) = True := eq_true hlt
      have d0 : decide ((i : Int) < (ds.length : Int)) = true := decide_eq_true (by omega)
      have p9 : (i : Int) ≤ 40 := by have := HLN.out; omega
      have p8 : 0 ≤ (i : Int) := by omega
      have k0 := pw_cell_below HZ.out.toBelow y0
      have k1 := pw_cell_below HZ.out.toBelow y1
      have k2 := pw_cell_below HZ.out.toBelow y2
      have k3 := pw_cell_below HZ.out.toBelow y3
      have k4 := pw_cell_below HZ.out.toBelow y4
      have k5 := pw_cell_below HZ.out.toBelow y5
      have k6 := pw_cell_below HZ.out.toBelow y6
      have HQ := Aside0.mk (few_calls x A4 c4 A5 c5 wo)
      clear hlt hx hC4 hC5 hl4 hl5
      go_wp2_with fail
      (with_reducible refine HQ.out.mono ?_)
      rintro e3 w3 ⟨rfl, hb3⟩
      have HZ3 := Aside0.mk (HZ.out.below hb3)
      clear HQ hb3 k0 k1 k2 k3 k4 k5 k6 HZ
      cases hfew : fewB x with
      | false =>
        clear hfew
        go_wp2_with fail
        go_ret
        exact ⟨by rfl, below_then HB1.out HB1.out.size HZ3.out.toBelow⟩
      | true =>
        have HF := Aside0.mk (few_true hfew)
        clear hfew
        have k0 := pw_cell_below HZ3.out.toBelow y0
        have k1 := pw_cell_below HZ3.out.toBelow y1
        have k2 := pw_cell_below HZ3.out.toBelow y2
        have k3 := pw_cell_below HZ3.out.toBelow y3
        have k4 := pw_cell_below HZ3.out.toBelow y4
        have k5 := pw_cell_below HZ3.out.toBelow y5
        have k6 := pw_cell_below HZ3.out.toBelow y6
        clear y0 y1 y2 y3 y4 y5 y6
        cases gone with
        | true =>
          have HQ := Aside0.mk (HZ3.out.rem (by have := Hi.out; have := HLN.out; omega) x.f0)
          go_wp2_with fail
          (with_reducible refine HQ.out.mono ?_)
          rintro e4 w4 ⟨rfl, hZ4⟩
          have HZ4 := Aside0.mk hZ4
          clear HQ hZ4
          go_wp2_with fail
          go_roundg (gk - 1)
          case measure => have := Hi.out; have := of_eq_true p1; omega
          case rel => exact ⟨i + 1, _, by go_num, ⟨by have := Hi.out; have := of_eq_true p1; omega⟩, ⟨HZ4.out.more (by omega)⟩⟩
        | false =>
          by_cases ht : Takes zs x
          · have HQ := Aside0.mk (HZ3.out.add_yes (by have := Hi.out; have := HLN.out; omega) x A4 c4 A5 c5 (fun W L h => Kd.C_below HC4.out h.toBelow) (fun W L h => Kd.C_below HC5.out h.toBelow) HL4.out HL5.out HF.out.1 HF.out.2 ht)
            clear ht
            go_wp2_with fail
            (with_reducible refine HQ.out.mono ?_)
            rintro e4 w4 ⟨rfl, hZ4⟩
            have HZ4 := Aside0.mk hZ4
            clear HQ hZ4
            go_wp2_with fail
            go_roundg (gk - 1)
            case measure => have := Hi.out; have := of_eq_true p1; omega
            case rel => exact ⟨i + 1, _, by go_num, ⟨by have := Hi.out; have := of_eq_true p1; omega⟩, HZ4⟩
          · have HQ := Aside0.mk (HZ3.out.add_no (by have := Hi.out; have := HLN.out; omega) x A4 c4 A5 c5 (Kd.C_below HC4.out HZ3.out.toBelow) (Kd.C_below HC5.out HZ3.out.toBelow) HF.out.1 HF.out.2 ht)
            clear ht
            go_wp2_with fail
            (with_reducible refine HQ.out.mono ?_)
            rintro e4 w4 ⟨rfl, hZ4⟩
            have HZ4 := Aside0.mk hZ4
            clear HQ hZ4
            go_wp2_with fail
            go_roundg (gk - 1)
            case measure => have := Hi.out; have := of_eq_true p1; omega
            case rel => exact ⟨i + 1, _, by go_num, ⟨by have := Hi.out; have := of_eq_true p1; omega⟩, ⟨HZ4.out.more (by omega)⟩⟩
    · have p1 : (i < ds.length) = False := eq_false hlt
      have d0 : decide ((i : Int) < (ds.length : Int)) = false := decide_eq_false (by omega)
      replace HZ := Aside0.mk (HZ.out.more (show i ≤ 40 by have := Hi.out; have := HLN.out; omega))
      have HI := Aside0.mk HZ.out.inv
      have HCS := Aside0.mk (fun w' (h : ZS w1 w' z m 40 zs []) (n : Int) (hn : n ≤ 9223372036854775807) => CanStore_calls (h.zr (by omega)) a n hn)
      have HCL := Aside0.mk (fun w' (h : ZS w1 w' z m 40 zs []) (n : Int) (hn : n ≤ 9223372036854775807) => CanLoad_calls (h.zr (by omega)) a n hn)
      have HCR := Aside0.mk (fun w' (h : ZS w1 w' z m 40 zs []) => CanRun_calls (h.zr (by omega)) a)
      have HCC := Aside0.mk (fun w' (h : ZS w1 w' z m 40 zs []) => h.cell (by omega) a HA.out.1)
      have HCF := Aside0.mk (fun w' (h : ZS w1 w' z m 40 zs []) (k : Int) => Fits_calls (h.zr (by omega)) k a)
      clear hlt Hi HC HLN
      go_upto_region 13 with (fail)
      go_cut [90] (fun v90 wc => v90 = .bool false ∧ Aside0 (ZS w1 wc z m 40 zs []))
      case first =>
        cases hs : storeZ zs a n with
        | true =>
          have hld := store_load HI.out a n hs
          have HQ := Aside0.mk (HCS.out _ HZ.out n HA.out.2)
          rw [hs] at HQ
          go_wp2_with fail
          (with_reducible refine HQ.out.mono ?_)
          rintro e10 w10 ⟨rfl, hb10⟩
          have HZ10 := Aside0.mk (HZ.out.below hb10)
          clear HQ hb10
          clear hs
          have HQ := Aside0.mk (HCL.out _ HZ10.out n HA.out.2)
          rw [hld] at HQ
          go_wp2_with fail
          (with_reducible refine HQ.out.mono ?_)
          rintro e11 w11 ⟨rfl, hb11⟩
          have HZ11 := Aside0.mk (HZ10.out.below hb11)
          clear HQ hb11
          clear hld
          cases hr : runZ zs a with
          | true =>
            have hld : loadZ zs a 1 = false := by
              cases hq : loadZ zs a 1 with
              | false => rfl
              | true => exact (run_load HI.out a hr hq).elim
            have HQ := Aside0.mk (HCR.out _ HZ11.out)
            rw [hr] at HQ
            go_wp2_with fail
            (with_reducible refine HQ.out.mono ?_)
            rintro e12 w12 ⟨rfl, hb12⟩
            have HZ12 := Aside0.mk (HZ11.out.below hb12)
            clear HQ hb12
            clear hr
            have HQ := Aside0.mk (HCL.out _ HZ12.out 1 (by decide))
            rw [hld] at HQ
            go_wp2_with fail
            (with_reducible refine HQ.out.mono ?_)
            rintro e13 w13 ⟨rfl, hb13⟩
            have HZ13 := Aside0.mk (HZ12.out.below hb13)
            clear HQ hb13
            clear hld
            have HQ := Aside0.mk (HCC.out _ HZ13.out)
            by_cases hce : cellZ zs a = 0
            · rw [hce] at HQ
              clear hce
              go_wp2_with fail
              (with_reducible refine HQ.out.mono ?_)
              rintro e14 w14 ⟨rfl, hb14⟩
              have HZ14 := Aside0.mk (HZ13.out.below hb14)
              clear HQ hb14
              go_wp2_with fail
              go_meet
              case rel => exact ⟨by rfl, HZ14⟩
            · have hst := cell_store HI.out a hce
              have u1 : (cellZ zs a = 0) = False := eq_false hce
              have u2 : (cellZ zs a == 0) = false := by simpa using hce
              have u3 : (cellZ zs a != 0) = true := by simpa using hce
              clear hce
              go_wp2_with fail
              (with_reducible refine HQ.out.mono ?_)
              rintro e14 w14 ⟨rfl, hb14⟩
              have HZ14 := Aside0.mk (HZ13.out.below hb14)
              clear HQ hb14
              have HQ := Aside0.mk (HCS.out _ HZ14.out 1 (by decide))
              rw [hst] at HQ
              go_wp2_with fail
              (with_reducible refine HQ.out.mono ?_)
              rintro e15 w15 ⟨rfl, hb15⟩
              have HZ15 := Aside0.mk (HZ14.out.below hb15)
              clear HQ hb15
              clear hst
              go_wp2_with fail
              go_meet
              case rel => exact ⟨by rfl, HZ15⟩
          | false =>
            have HQ := Aside0.mk (HCR.out _ HZ11.out)
            rw [hr] at HQ
            go_wp2_with fail
            (with_reducible refine HQ.out.mono ?_)
            rintro e16 w16 ⟨rfl, hb16⟩
            have HZ16 := Aside0.mk (HZ11.out.below hb16)
            clear HQ hb16
            clear hr
            have HQ := Aside0.mk (HCC.out _ HZ16.out)
            by_cases hce : cellZ zs a = 0
            · rw [hce] at HQ
              clear hce
              go_wp2_with fail
              (with_reducible refine HQ.out.mono ?_)
              rintro e17 w17 ⟨rfl, hb17⟩
              have HZ17 := Aside0.mk (HZ16.out.below hb17)
              clear HQ hb17
              go_wp2_with fail
              go_meet
              case rel => exact ⟨by rfl, HZ17⟩
            · have hst := cell_store HI.out a hce
              have u1 : (cellZ zs a = 0) = False := eq_false hce
              have u2 : (cellZ zs a == 0) = false := by simpa using hce
              have u3 : (cellZ zs a != 0) = true := by simpa using hce
              clear hce
              go_wp2_with fail
              (with_reducible refine HQ.out.mono ?_)
              rintro e17 w17 ⟨rfl, hb17⟩
              have HZ17 := Aside0.mk (HZ16.out.below hb17)
              clear HQ hb17
              have HQ := Aside0.mk (HCS.out _ HZ17.out 1 (by decide))
              rw [hst] at HQ
              go_wp2_with fail
              (with_reducible refine HQ.out.mono ?_)
              rintro e18 w18 ⟨rfl, hb18⟩
              have HZ18 := Aside0.mk (HZ17.out.below hb18)
              clear HQ hb18
              clear hst
              go_wp2_with fail
              go_meet
              case rel => exact ⟨by rfl, HZ18⟩
        | false =>
          have HQ := Aside0.mk (HCS.out _ HZ.out n HA.out.2)
          rw [hs] at HQ
          go_wp2_with fail
          (with_reducible refine HQ.out.mono ?_)
          rintro e19 w19 ⟨rfl, hb19⟩
          have HZ19 := Aside0.mk (HZ.out.below hb19)
          clear HQ hb19
          clear hs
          cases hr : runZ zs a with
          | true =>
            have hld : loadZ zs a 1 = false := by
              cases hq : loadZ zs a 1 with
              | false => rfl
              | true => exact (run_load HI.out a hr hq).elim
            have HQ := Aside0.mk (HCR.out _ HZ19.out)
            rw [hr] at HQ
            go_wp2_with fail
            (with_reducible refine HQ.out.mono ?_)
            rintro e20 w20 ⟨rfl, hb20⟩
            have HZ20 := Aside0.mk (HZ19.out.below hb20)
            clear HQ hb20
            clear hr
            have HQ := Aside0.mk (HCL.out _ HZ20.out 1 (by decide))
            rw [hld] at HQ
            go_wp2_with fail
            (with_reducible refine HQ.out.mono ?_)
            rintro e21 w21 ⟨rfl, hb21⟩
            have HZ21 := Aside0.mk (HZ20.out.below hb21)
            clear HQ hb21
            clear hld
            have HQ := Aside0.mk (HCC.out _ HZ21.out)
            by_cases hce : cellZ zs a = 0
            · rw [hce] at HQ
              clear hce
              go_wp2_with fail
              (with_reducible refine HQ.out.mono ?_)
              rintro e22 w22 ⟨rfl, hb22⟩
              have HZ22 := Aside0.mk (HZ21.out.below hb22)
              clear HQ hb22
              go_wp2_with fail
              go_meet
              case rel => exact ⟨by rfl, HZ22⟩
            · have hst := cell_store HI.out a hce
              have u1 : (cellZ zs a = 0) = False := eq_false hce
              have u2 : (cellZ zs a == 0) = false := by simpa using hce
              have u3 : (cellZ zs a != 0) = true := by simpa using hce
              clear hce
              go_wp2_with fail
              (with_reducible refine HQ.out.mono ?_)
              rintro e22 w22 ⟨rfl, hb22⟩
              have HZ22 := Aside0.mk (HZ21.out.below hb22)
              clear HQ hb22
              have HQ := Aside0.mk (HCS.out _ HZ22.out 1 (by decide))
              rw [hst] at HQ
              go_wp2_with fail
              (with_reducible refine HQ.out.mono ?_)
              rintro e23 w23 ⟨rfl, hb23⟩
              have HZ23 := Aside0.mk (HZ22.out.below hb23)
              clear HQ hb23
              clear hst
              go_wp2_with fail
              go_meet
              case rel => exact ⟨by rfl, HZ23⟩
          | false =>
            have HQ := Aside0.mk (HCR.out _ HZ19.out)
            rw [hr] at HQ
            go_wp2_with fail
            (with_reducible refine HQ.out.mono ?_)
            rintro e24 w24 ⟨rfl, hb24⟩
            have HZ24 := Aside0.mk (HZ19.out.below hb24)
            clear HQ hb24
            clear hr
            have HQ := Aside0.mk (HCC.out _ HZ24.out)
            by_cases hce : cellZ zs a = 0
            · rw [hce] at HQ
              clear hce
              go_wp2_with fail
              (with_reducible refine HQ.out.mono ?_)
              rintro e25 w25 ⟨rfl, hb25⟩
              have HZ25 := Aside0.mk (HZ24.out.below hb25)
              clear HQ hb25
              go_wp2_with fail
              go_meet
              case rel => exact ⟨by rfl, HZ25⟩
            · have hst := cell_store HI.out a hce
              have u1 : (cellZ zs a = 0) = False := eq_false hce
              have u2 : (cellZ zs a == 0) = false := by simpa using hce
              have u3 : (cellZ zs a != 0) = true := by simpa using hce
              clear hce
              go_wp2_with fail
              (with_reducible refine HQ.out.mono ?_)
              rintro e25 w25 ⟨rfl, hb25⟩
              have HZ25 := Aside0.mk (HZ24.out.below hb25)
              clear HQ hb25
              have HQ := Aside0.mk (HCS.out _ HZ25.out 1 (by decide))
              rw [hst] at HQ
              go_wp2_with fail
              (with_reducible refine HQ.out.mono ?_)
              rintro e26 w26 ⟨rfl, hb26⟩
              have HZ26 := Aside0.mk (HZ25.out.below hb26)
              clear HQ hb26
              clear hst
              go_wp2_with fail
              go_meet
              case rel => exact ⟨by rfl, HZ26⟩
      case rest =>
        obtain ⟨rfl, HZ9⟩ := hcut
        clear HZ
        have hx2 := fits_run (zs := zs) a
        cases hf2 : fitsZ zs 2 a with
        | false =>
          have HQ := Aside0.mk (HCF.out _ HZ9.out 2)
          rw [hf2] at HQ
          go_wp2_with fail
          (with_reducible refine HQ.out.mono ?_)
          rintro e27 w27 ⟨rfl, hb27⟩
          have HZ27 := Aside0.mk (HZ9.out.below hb27)
          clear HQ hb27
          clear hf2 hx2
          have hx1 := fits_load (zs := zs) a
          cases hf1 : fitsZ zs 1 a with
          | false =>
            have HQ := Aside0.mk (HCF.out _ HZ27.out 1)
            rw [hf1] at HQ
            go_wp2_with fail
            (with_reducible refine HQ.out.mono ?_)
            rintro e28 w28 ⟨rfl, hb28⟩
            have HZ28 := Aside0.mk (HZ27.out.below hb28)
            clear HQ hb28
            clear hf1 hx1
            go_wp2_with fail
            go_ret
            exact ⟨by rfl, below_then HB1.out HB1.out.size HZ28.out.toBelow⟩
          | true =>
            have HQ := Aside0.mk (HCF.out _ HZ27.out 1)
            rw [hf1] at HQ
            go_wp2_with fail
            (with_reducible refine HQ.out.mono ?_)
            rintro e29 w29 ⟨rfl, hb29⟩
            have HZ29 := Aside0.mk (HZ27.out.below hb29)
            clear HQ hb29
            rw [hf1] at hx1
            clear hf1
            by_cases h0 : a = 0
            · subst h0
              clear hx1
              go_wp2_with fail
              go_ret
              exact ⟨by rfl, below_then HB1.out HB1.out.size HZ29.out.toBelow⟩
            · have u1 : (a = 0) = False := eq_false h0
              have u2 : (a == 0) = false := by simpa using h0
              have hld : loadZ zs a 1 = true := by simpa [h0] using hx1
              clear hx1
              have HQ := Aside0.mk (HCL.out _ HZ29.out 1 (by decide))
              rw [hld] at HQ
              go_wp2_with fail
              (with_reducible refine HQ.out.mono ?_)
              rintro e30 w30 ⟨rfl, hb30⟩
              have HZ30 := Aside0.mk (HZ29.out.below hb30)
              clear HQ hb30
              go_wp2_with fail
              go_ret
              exact ⟨by rfl, below_then HB1.out HB1.out.size HZ30.out.toBelow⟩
        | true =>
          have HQ := Aside0.mk (HCF.out _ HZ9.out 2)
          rw [hf2] at HQ
          go_wp2_with fail
          (with_reducible refine HQ.out.mono ?_)
          rintro e31 w31 ⟨rfl, hb31⟩
          have HZ31 := Aside0.mk (HZ9.out.below hb31)
          clear HQ hb31
          rw [hf2] at hx2
          clear hf2
          by_cases h0 : a = 0
          · clear hx2
            subst h0
            have HQ := Aside0.mk (HCF.out _ HZ31.out 1)
            rw [show fitsZ zs 1 0 = true from by simp [fitsZ]] at HQ
            go_wp2_with fail
            (with_reducible refine HQ.out.mono ?_)
            rintro e32 w32 ⟨rfl, hb32⟩
            have HZ32 := Aside0.mk (HZ31.out.below hb32)
            clear HQ hb32
            go_wp2_with fail
            go_ret
            exact ⟨by rfl, below_then HB1.out HB1.out.size HZ32.out.toBelow⟩
          · have hru : runZ zs a = true := by simpa [h0] using hx2
            have u1 : (a = 0) = False := eq_false h0
            have u2 : (a == 0) = false := by simpa using h0
            clear hx2
            have HQ := Aside0.mk (HCR.out _ HZ31.out)
            rw [hru] at HQ
            go_wp2_with fail
            (with_reducible refine HQ.out.mono ?_)
            rintro e33 w33 ⟨rfl, hb33⟩
            have HZ33 := Aside0.mk (HZ31.out.below hb33)
            clear HQ hb33
            clear hru
            have hx1 := fits_load (zs := zs) a
            cases hf1 : fitsZ zs 1 a with
            | false =>
              have HQ := Aside0.mk (HCF.out _ HZ33.out 1)
              rw [hf1] at HQ
              go_wp2_with fail
              (with_reducible refine HQ.out.mono ?_)
              rintro e34 w34 ⟨rfl, hb34⟩
              have HZ34 := Aside0.mk (HZ33.out.below hb34)
              clear HQ hb34
              clear hf1 hx1
              go_wp2_with fail
              go_ret
              exact ⟨by rfl, below_then HB1.out HB1.out.size HZ34.out.toBelow⟩
            | true =>
              have HQ := Aside0.mk (HCF.out _ HZ33.out 1)
              rw [hf1] at HQ
              go_wp2_with fail
              (with_reducible refine HQ.out.mono ?_)
              rintro e35 w35 ⟨rfl, hb35⟩
              have HZ35 := Aside0.mk (HZ33.out.below hb35)
              clear HQ hb35
              rw [hf1] at hx1
              clear hf1
              have hld : loadZ zs a 1 = true := by simpa [h0] using hx1
              clear hx1
              have HQ := Aside0.mk (HCL.out _ HZ35.out 1 (by decide))
              rw [hld] at HQ
              go_wp2_with fail
              (with_reducible refine HQ.out.mono ?_)
              rintro e36 w36 ⟨rfl, hb36⟩
              have HZ36 := Aside0.mk (HZ35.out.below hb36)
              clear HQ hb36
              go_wp2_with fail
              go_ret
              exact ⟨by rfl, below_then HB1.out HB1.out.size HZ36.out.toBelow⟩
end Go.Proofs.Ytkeijpngfnmjoaa.MineZone
