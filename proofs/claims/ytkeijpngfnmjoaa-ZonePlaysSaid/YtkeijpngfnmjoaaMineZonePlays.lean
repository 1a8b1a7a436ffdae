/- ZonePlays: what any zones come to that are added, and removed: each answer, all zones; and what can be done at any place. Conditions: the numbers are of their kind. -/
import Derived.Test.YtkeijpngfnmjoaaMineZoneP
import Derived.Test.YtkeijpngfnmjoaaMineZoneDocA
import Derived.Test.YtkeijpngfnmjoaaMineZoneDocPure
namespace Go.Proofs.Ytkeijpngfnmjoaa.MineZone
open Go.Lib Go.Shelf Go.RowKit Go.MapKept Go.Proofs.YtkeijpngfnmjoaaW.PrintWords Go.Proofs.YtkeijpngfnmjoaaW.PrintLast Go.Proofs.YtkeijpngfnmjoaaW.PrintMore Go.Proofs.Ytkeijpngfnmjoaa.MineBase Go.Proofs.Ytkeijpngfnmjoaa.MineSep Go.Proofs.Ytkeijpngfnmjoaa.MineRows Go.Proofs.Ytkeijpngfnmjoaa.MineGen Go.Proofs.Ytkeijpngfnmjoaa.QZonePlays Go.Proofs.Ytkeijpngfnmjoaa.MineMap
attribute [local go_sem ↓] Go.wp_at_zero Go.wp_at_succ
set_option linter.unusedVariables false
set_option linter.unusedSimpArgs false
attribute [local go_sem] Go.Proofs.Ytkeijpngfnmjoaa.MineErr.eql_err Go.Proofs.Ytkeijpngfnmjoaa.MineErr.neq_err Go.Proofs.Ytkeijpngfnmjoaa.MineErr.eql_nil_err Go.Proofs.Ytkeijpngfnmjoaa.MineErr.neq_nil_err
theorem few_true' {x : S82} (h : fewB x = true) : x.f4.length ≤ 100 ∧ x.f5.length ≤ 100 := by
  unfold fewB at h
  simp only [Bool.and_eq_true, decide_eq_true_eq] at h
  omega
/-- The program's zones, and the document's list. -/
def ZD (w0 w : World) (z m n : Nat) (ds : List SZ) (v : Value) : Prop := ZS w0 w z m n (ds.map (·.1)) [ADoc w0.heap.size v ds] ∧ ∀ d ∈ ds, Lie w0 d
section
variable {w0 w w1 : World} {z m n : Nat} {ds : List SZ} {v : Value}
theorem ZD.below (h : ZD w0 w z m n ds v) (hb : Below w.heap.size w w1) : ZD w0 w1 z m n ds v := ⟨h.1.below hb, h.2⟩
theorem ZD.reads (h : ZD w0 w z m n ds v) : ∃ A c, v = .slice A ds.length c ∧ ds.length ≤ c ∧ k82.C w A ds.length (ds.map (·.1)) ∧ ∀ d ∈ ds, Lie w d := by
  have hL : ∀ d ∈ ds, Lie w d := fun d hd => (h.2 d hd).below h.1.toBelow
  obtain ⟨A, c, e, hle, hC⟩ := doc_reads h.1.tail
  exact ⟨A, c, e, hle, doc_C hC hL, hL⟩
theorem ZS.flip {zs : List S82} {A : Asn} (h : ZS w0 w z m n zs [A]) : ∃ l, Sat w0 w (A :: l) ∧ ∀ w1 (B : Asn), Sat w0 w1 (B :: l) → ZS w0 w1 z m n zs [B] := by
  obtain ⟨⟨v, F, h1, h2⟩, h3, h4, h5⟩ := h
  exact ⟨_, Sat.pull (l1 := [_, _, _]) h1, fun w1 B hB => ⟨⟨v, F, Sat.push (l1 := [_, _, _]) (l2 := []) hB, h2⟩, h3, h4, h5⟩⟩
theorem ZD.load (h : ZD w0 w z m n ds v) (hn : n ≤ 900) (a b : Int) (hb : b ≤ 9223372036854775807) :
    Calls Try.prog 42 #[v, .int .i64 a, .int .i64 b] w fun e w' => e = .returned (.bool (loadZ (ds.map (·.1)) a b)) ∧ Below w.heap.size w w' := by
  obtain ⟨A, c, rfl, hle, hC, hl⟩ := h.reads
  have hz : (ds.map (·.1)).length ≤ 1000 := by have := h.1.few; omega
  have hlen : (ds.map (·.1)).length = ds.length := List.length_map _
  have hq := dowelref05_CanLoad.calls 2000 A c (ds.map (·.1)) a b _ w (by rw [hlen]; exact hC) (by rw [hlen]; exact hle) (CanLoad_f a b hb hz h.1.inv.1)
  rw [hlen] at hq
  exact hq.mono fun e w' ⟨h1, h2⟩ => ⟨h1, h2.below⟩
theorem ZD.store (h : ZD w0 w z m n ds v) (hn : n ≤ 900) (a b : Int) (hb : b ≤ 9223372036854775807) :
    Calls Try.prog 44 #[v, .int .i64 a, .int .i64 b] w fun e w' => e = .returned (.bool (storeZ (ds.map (·.1)) a b)) ∧ Below w.heap.size w w' := by
  obtain ⟨A, c, rfl, hle, hC, hl⟩ := h.reads
  have hz : (ds.map (·.1)).length ≤ 1000 := by have := h.1.few; omega
  have hlen : (ds.map (·.1)).length = ds.length := List.length_map _
  have hq := dowelref05_CanStore.calls 2000 A c (ds.map (·.1)) a b _ w (by rw [hlen]; exact hC) (by rw [hlen]; exact hle) (CanStore_f a b hb hz h.1.inv.1)
  rw [hlen] at hq
  exact hq.mono fun e w' ⟨h1, h2⟩ => ⟨h1, h2.below⟩
theorem ZD.run (h : ZD w0 w z m n ds v) (hn : n ≤ 900) (a : Int) :
    Calls Try.prog 46 #[v, .int .i64 a] w fun e w' => e = .returned (.bool (runZ (ds.map (·.1)) a)) ∧ Below w.heap.size w w' := by
  obtain ⟨A, c, rfl, hle, hC, hl⟩ := h.reads
  have hz : (ds.map (·.1)).length ≤ 1000 := by have := h.1.few; omega
  have hlen : (ds.map (·.1)).length = ds.length := List.length_map _
  have hq := dowelref05_CanRun.calls 2000 A c (ds.map (·.1)) a _ w (by rw [hlen]; exact hC) (by rw [hlen]; exact hle) (CanRun_f a hz)
  rw [hlen] at hq
  exact hq.mono fun e w' ⟨h1, h2⟩ => ⟨h1, h2.below⟩
theorem ZD.cell (h : ZD w0 w z m n ds v) (hn : n ≤ 900) (a : Int) :
    Calls Try.prog 48 #[v, .int .i64 a] w fun e w' => e = .returned (.int .i64 (cellZ (ds.map (·.1)) a)) ∧ Below w.heap.size w w' := by
  obtain ⟨A, c, rfl, hle, hC, hl⟩ := h.reads
  have hz : (ds.map (·.1)).length ≤ 1000 := by have := h.1.few; omega
  have hlen : (ds.map (·.1)).length = ds.length := List.length_map _
  obtain ⟨k, hk⟩ := Cell_f a hz (fun y hy => ⟨h.1.inv.1 y hy, h.1.rows y hy⟩) h.1.inv
  have hq := dowelref05_Cell.calls k A c (ds.map (·.1)) a _ w (by rw [hlen]; exact hC) (by rw [hlen]; exact hle) hk
  rw [hlen] at hq
  exact hq.mono fun e w' ⟨h1, h2⟩ => ⟨h1, h2.below⟩
theorem ZD.fits (h : ZD w0 w z m n ds v) (hn : n ≤ 900) (a b : Int) :
    Calls Try.prog 50 #[v, .int .i64 a, .int .i64 b] w fun e w' => e = .returned (.bool (fitsZ (ds.map (·.1)) a b)) ∧ Below w.heap.size w w' := by
  obtain ⟨A, c, rfl, hle, hC, hl⟩ := h.reads
  have hz : (ds.map (·.1)).length ≤ 1000 := by have := h.1.few; omega
  have hlen : (ds.map (·.1)).length = ds.length := List.length_map _
  have hq := dowelref05_Fits.calls 2001 A c (ds.map (·.1)) a b _ w (by rw [hlen]; exact hC) (by rw [hlen]; exact hle) (Fits_f a b hz)
  rw [hlen] at hq
  exact hq.mono fun e w' ⟨h1, h2⟩ => ⟨h1, h2.below⟩
theorem keep_map (b : Int) : ∀ ds : List SZ, (keepD ds b).map (·.1) = remZ (ds.map (·.1)) b
  | [] => rfl
  | d :: ds => by
    unfold keepD remZ
    rw [List.map_cons]
    by_cases hq : d.1.f0 = b
    · rw [List.filter_cons_of_neg (by simp [hq]), List.filter_cons_of_neg (by simp [hq])]
      exact keep_map b ds
    · rw [List.filter_cons_of_pos (by simp [hq]), List.filter_cons_of_pos (by simp [hq]), List.map_cons]
      exact congrArg (d.1 :: ·) (keep_map b ds)
theorem any_map (b : Int) : ∀ ds : List SZ, ds.any (fun d => d.1.f0 == b) = (ds.map (·.1)).any (fun y => y.f0 == b)
  | [] => rfl
  | d :: ds => by rw [List.map_cons, List.any_cons, List.any_cons, any_map b ds]
theorem takes_map {x : S82} : TakesD ds x ↔ Takes (ds.map (·.1)) x := by
  unfold TakesD Takes
  constructor
  · rintro ⟨h1, h2⟩
    refine ⟨h1, fun y hy => ?_⟩
    obtain ⟨d, hd, rfl⟩ := List.mem_map.1 hy
    exact h2 d hd
  · rintro ⟨h1, h2⟩
    exact ⟨h1, fun d hd => h2 _ (List.mem_map.2 ⟨d, hd, rfl⟩)⟩
/-- The document's Remove; the program's is still to come. -/
theorem ZD.drem (h : ZD w0 w z m n ds v) (hn : n ≤ 900) (b : Int) :
    Calls Try.prog 36 #[v, .int .i64 b] w fun e w' => ∃ v', e = .returned (.tuple #[v', .bool ((ds.map (·.1)).any (fun y => y.f0 == b))]) ∧ ZS w0 w' z m n (ds.map (·.1)) [ADoc w0.heap.size v' (keepD ds b)] := by
  obtain ⟨l, hs, hb⟩ := h.1.flip
  refine (DRemove_calls hs (by have := h.1.few; rw [List.length_map] at this; omega) b).mono ?_
  rintro e w' ⟨v', rfl, hS⟩
  rw [any_map]
  exact ⟨v', rfl, hb w' _ hS⟩
theorem ZD.dadd (h : ZD w0 w z m n ds v) (hn : n ≤ 900) (x : S82) (A4 : Option Addr) (c4 : Nat) (A5 : Option Addr) (c5 : Nat) (hL : Lie w (x, (A4, c4), (A5, c5))) (hn4 : x.f4.length ≤ 100) (hn5 : x.f5.length ≤ 100) (r : Bool) (hr : r = true ↔ Takes (ds.map (·.1)) x) :
    Calls Try.prog 38 #[v, .agg #[.int .i64 x.f0, .int .i64 x.f1, .int .i64 x.f2, .int .i64 x.f3, .slice A4 x.f4.length c4, .slice A5 x.f5.length c5]] w fun e w' => ∃ v', e = .returned (.tuple #[v', .bool r]) ∧ ZS w0 w' z m n (ds.map (·.1)) [ADoc w0.heap.size v' (if r = true then insD ds (x, (A4, c4), (A5, c5)) else ds)] := by
  obtain ⟨l, hs, hb⟩ := h.1.flip
  refine (DAdd_calls hs (by have := h.1.few; rw [List.length_map] at this; omega) h.1.inv x A4 c4 A5 c5 hL hn4 hn5 r (hr.trans takes_map.symm)).mono ?_
  rintro e w' ⟨v', rfl, hS⟩
  exact ⟨v', rfl, hb w' _ hS⟩
end
set_option maxHeartbeats 2000000 in
set_option maxRecDepth 100000 in
theorem As_calls (x : S82) (A4 : Option Addr) (c4 : Nat) (A5 : Option Addr) (c5 : Nat) (w : World) :
    Calls Try.prog 39 #[.agg #[.int .i64 x.f0, .int .i64 x.f1, .int .i64 x.f2, .int .i64 x.f3, .slice A4 x.f4.length c4, .slice A5 x.f5.length c5]] w fun e w' => e = .returned (.agg #[.int .i64 x.f0, .int .i64 x.f1, .int .i64 x.f2, .int .i64 x.f3, .slice A4 x.f4.length c4, .slice A5 x.f5.length c5]) ∧ Below w.heap.size w w' := by
  have hu75 := Try.underlying75
  have hu82 := Try.underlying82
  have HX := Aside0.mk (blk_new2 (Sat.start w) (.cells #[.int .i64 x.f0, .int .i64 x.f1, .int .i64 x.f2, .int .i64 x.f3, .slice A4 x.f4.length c4, .slice A5 x.f5.length c5] 75) (.cells #[.int .i64 0, .int .i64 0, .int .i64 0, .int .i64 0, .slice none 0 0, .slice none 0 0] 82))
  go_enter Try.func39, Try.ntmps39
  go_wp2_with (refine wpList_store_row rfl 82 (.tmp 2) (.tmp 15) rfl (w.heap.size + 1) #[.int .i64 x.f0, .int .i64 x.f1, .int .i64 x.f2, .int .i64 x.f3, .slice A4 x.f4.length c4, .slice A5 x.f5.length c5] rfl rfl 82 _ (blk_at HX.out) (by kernel_rfl) rfl (by simp [Value.oneCell']) ?_; have HX7 := Aside0.mk (blk_row (cs := #[.int .i64 x.f0, .int .i64 x.f1, .int .i64 x.f2, .int .i64 x.f3, .slice A4 x.f4.length c4, .slice A5 x.f5.length c5]) HX.out))
  exact bodyPost_ret (v := .agg _) (results_cell_row rfl _ _ (w.heap.size + 1) 82 _ (0, 0) _ rfl (blk_at HX7.out) Try.underlying82 rfl (by kernel_rfl)) rfl ⟨by rfl, HX7.out.toBelow⟩
theorem Ints_quiet (l : List Int) (A0 : Option Addr) (c0 : Nat) (A1 : Option Addr) (c1 : Nat) (w : World) (h0 : (Kd.int .i64).C w A0 l.length l) (h1 : (Kd.int .i64).C w A1 l.length l) (hc0 : l.length ≤ c0) (hc1 : l.length ≤ c1) (hl : l.length ≤ 100) (m : Nat) :
    Calls Try.prog 52 #[.slice A0 l.length c0, .slice A1 l.length c1] (w.drewN m) fun e w'' => e = .returned (.bool true) ∧ ∃ m, w'' = w.drewN m :=
  Calls.quiet_of ((dowelref05_Ints.calls 2000 A0 c0 l A1 c1 l true (w.drewN m) (Kd.C_below h0 (pw_below_drewN (Below.refl _ _) _)) hc0 (Kd.C_below h1 (pw_below_drewN (Below.refl _ _) _)) hc1 (Ints_f (by omega))).mono fun _ _ h => ⟨h.1, h.2.out⟩)
set_option maxHeartbeats 8000000 in
set_option maxRecDepth 100000 in
theorem ZonePlays_calls (A : Option Addr) (c : Nat) (ds0 : List (Bool × S82)) (a n kd vl : Int) (ha : a ≤ 9223372036854775807) (hn : n ≤ 9223372036854775807) (w : World) (hC : kD.C w A ds0.length ds0) (hle : ds0.length ≤ c) :
    Calls Try.prog 7 #[.slice A ds0.length c, .int .i64 a, .int .i64 n, .int .i64 kd, .int .i64 vl] w fun e w' => e = .returned (.bool true) ∧ Below w.heap.size w w' := by
  have HC0 := Aside0.mk hC
  have HA := Aside0.mk (And.intro ha hn)
  have hq := up_calls w
  have hu75 := Try.underlying75
  clear hC ha hn
  go_enter Try.func7, Try.ntmps7
  go_wp2_with fail
  (with_reducible refine hq.mono ?_)
  rintro e1 w1 ⟨rfl, hb1⟩
  clear hq
  have HB1 := Aside0.mk hb1
  have HC := Aside0.mk (Kd.C_below HC0.out hb1)
  have hq := New_zs w1
  clear hb1 HC0
  go_wp2_with fail
  (with_reducible refine hq.mono ?_)
  rintro e2 w2 ⟨z, m, rfl, hZ⟩
  have HZ0 := Aside0.mk hZ
  clear hq hZ
  by_cases hlen : ds0.length ≤ 40
  case neg =>
    have d1 : ((ds0.length : Int) ≤ 40) = False := eq_false (by omega)
    have d2 : decide ((40 : Int) < (ds0.length : Int)) = true := decide_eq_true (by omega)
    have d3 : ((40 : Int) < (ds0.length : Int)) = True := eq_true (by omega)
    have d4 : (40 < ds0.length) = True := eq_true (by omega)
    clear hlen
    go_wp2_with fail
    go_ret
    exact ⟨by rfl, below_then HB1.out HB1.out.size HZ0.out.toBelow⟩
  have d1 : ((ds0.length : Int) ≤ 40) = True := eq_true (by omega)
  have d2 : decide ((40 : Int) < (ds0.length : Int)) = false := decide_eq_false (by omega)
  have d3 : ((40 : Int) < (ds0.length : Int)) = False := eq_false (by omega)
  have d4 : (40 < ds0.length) = False := eq_false (by omega)
  have HLN := Aside0.mk hlen
  clear hlen
  have HD0 := Aside0.mk (show ZD w1 w2 z m 0 [] (.slice none 0 0) from by
    obtain ⟨⟨v, F, h1, h2⟩, h3, h4, h5⟩ := HZ0.out
    exact ⟨⟨⟨v, F, Sat.push (l1 := [_, _, _]) (l2 := []) (doc_nil h1), h2⟩, h3, h4, h5⟩, by simp⟩)
  clear HZ0
  go_wp2_with fail
  go_loopg [13, 14] (ds0.length + 1) (fun kq v13 v14 w' => ∃ (i : Nat) (ds : List SZ), v14 = .int .i64 i ∧ Aside0 (i ≤ ds0.length ∧ ds0.length - i < kq) ∧ Aside0 (ZD w1 w' z m i ds v13))
  case atStart => exact ⟨0, [], rfl, ⟨by omega⟩, HD0⟩
  case round =>
    clear HD0
    obtain ⟨i, ds, rfl, Hi, HZ⟩ := hrel
    obtain ⟨wo, rfl⟩ : ∃ y, y = wr := ⟨wr, rfl⟩
    by_cases hlt : i < ds0.length
    · obtain ⟨⟨gone, x⟩, hx⟩ : ∃ d, ds0[i]? = some d := ⟨_, List.getElem?_eq_getElem hlt⟩
      obtain ⟨ad, A4, c4, A5, c5, eA, y0, y1, y2, y3, y4, y5, y6, hl4, hC4, hl5, hC5⟩ := kD_at HC.out hx
      simp only at y0 y1 y2 y3 y4 y5 y6 hl4 hC4 hl5 hC5
      subst eA
      have HL := Aside0.mk (show Lie w1 (x, (A4, c4), (A5, c5)) from ⟨⟨hC4, hl4⟩, hC5, hl5⟩)
      have p1 : (i < ds0.length) = True := eq_true hlt
      have d0 : decide ((i : Int) < (ds0.length : Int)) = true := decide_eq_true (by omega)
      have p9 : (i : Int) ≤ 40 := by have := HLN.out; omega
      have p8 : 0 ≤ (i : Int) := by omega
      have HR := Aside0.mk (fun w' (hb : Below w1.heap.size w1 w') => (⟨pw_cell_below hb y0, pw_cell_below hb y1, pw_cell_below hb y2, pw_cell_below hb y3, pw_cell_below hb y4, pw_cell_below hb y5, pw_cell_below hb y6⟩ : w'.cell? (ad.add (i * 7)) = some (.bool gone) ∧ w'.cell? ⟨(ad.add (i * 7)).block, (ad.add (i * 7)).off + 1, none⟩ = some (.int .i64 x.f0) ∧ w'.cell? ⟨(ad.add (i * 7)).block, (ad.add (i * 7)).off + 2, none⟩ = some (.int .i64 x.f1) ∧ w'.cell? ⟨(ad.add (i * 7)).block, (ad.add (i * 7)).off + 3, none⟩ = some (.int .i64 x.f2) ∧ w'.cell? ⟨(ad.add (i * 7)).block, (ad.add (i * 7)).off + 4, none⟩ = some (.int .i64 x.f3) ∧ w'.cell? ⟨(ad.add (i * 7)).block, (ad.add (i * 7)).off + 5, none⟩ = some (.slice A4 x.f4.length c4) ∧ w'.cell? ⟨(ad.add (i * 7)).block, (ad.add (i * 7)).off + 6, none⟩ = some (.slice A5 x.f5.length c5)))
      obtain ⟨k0, k1, k2, k3, k4, k5, k6⟩ := HR.out wo HZ.out.1.toBelow
      have HQ := Aside0.mk (few_calls x A4 c4 A5 c5 wo)
      have HIX := Aside0.mk (show i ≤ 39 by have := HLN.out; omega)
      clear hlt hx hC4 hC5 hl4 hl5 y0 y1 y2 y3 y4 y5 y6
      go_wp2_with fail
      (with_reducible refine HQ.out.mono ?_)
      rintro e3 w3 ⟨rfl, hb3⟩
      have HZ3 := Aside0.mk (HZ.out.below hb3)
      clear HQ hb3 k0 k1 k2 k3 k4 k5 k6 HZ
      cases hfew : fewB x with
      | false =>
        clear hfew
        go_wp2_with fail
        go_ret
        exact ⟨by rfl, below_then HB1.out HB1.out.size HZ3.out.1.toBelow⟩
      | true =>
        have HF := Aside0.mk (few_true' hfew)
        clear hfew
        obtain ⟨k0, k1, k2, k3, k4, k5, k6⟩ := HR.out w3 HZ3.out.1.toBelow
        go_upto_if 52 with (fail)
        go_cut [13] (fun v13 wx => ∃ ds' : List SZ, Aside0 (ZD w1 wx z m (i + 1) ds' v13))
        case first =>
          cases gone with
          | true =>
            have HQ := Aside0.mk (HZ3.out.drem (by have := HIX.out; omega) x.f0)
            obtain ⟨B, hB⟩ : ∃ B, (ds.map (·.1)).any (fun y => y.f0 == x.f0) = B := ⟨_, rfl⟩
            rw [hB] at HQ
            go_wp2_with fail
            (with_reducible refine HQ.out.mono ?_)
            rintro e4 w4 ⟨v', rfl, hZ4⟩
            have HZ4 := Aside0.mk hZ4
            clear HQ hZ4 k0 k1 k2 k3 k4 k5 k6
            obtain ⟨k0, k1, k2, k3, k4, k5, k6⟩ := HR.out w4 HZ4.out.toBelow
            have HQ := Aside0.mk (HZ4.out.rem (by have := HIX.out; omega) x.f0)
            rw [hB] at HQ
            clear hB
            go_wp2_with fail
            (with_reducible refine HQ.out.mono ?_)
            rintro e5 w5 ⟨rfl, hZ5⟩
            have HZ5 := Aside0.mk (show ZD w1 w5 z m (i + 1) (keepD ds x.f0) v' from ⟨by rw [keep_map]; exact hZ5.more (by omega), fun d hd => HZ3.out.2 d (List.mem_filter.1 hd).1⟩)
            clear HQ hZ5
            cases B with
            | true =>
              go_wp2_with fail
              go_meet
              case rel => exact ⟨_, HZ5⟩
            | false =>
              go_wp2_with fail
              go_meet
              case rel => exact ⟨_, HZ5⟩
          | false =>
            have HQ := Aside0.mk (As_calls x A4 c4 A5 c5 w3)
            go_wp2_with fail
            (with_reducible refine HQ.out.mono ?_)
            rintro e4 w4 ⟨rfl, hb4⟩
            replace HZ3 := Aside0.mk (HZ3.out.below hb4)
            clear HQ hb4 k0 k1 k2 k3 k4 k5 k6
            by_cases ht : Takes (ds.map (·.1)) x
            · have HQ := Aside0.mk (HZ3.out.dadd (by have := HIX.out; omega) x A4 c4 A5 c5 (HL.out.below HZ3.out.1.toBelow) HF.out.1 HF.out.2 true (by simp [ht]))
              go_wp2_with fail
              (with_reducible refine HQ.out.mono ?_)
              rintro e5 w5 ⟨v', rfl, hZ5⟩
              simp only [if_true] at hZ5
              have HZ5 := Aside0.mk hZ5
              clear HQ hZ5
              obtain ⟨k0, k1, k2, k3, k4, k5, k6⟩ := HR.out w5 HZ5.out.toBelow
              have HQ := Aside0.mk (HZ5.out.add_yes (by have := HIX.out; omega) x A4 c4 A5 c5 (fun W L h => Kd.C_below HL.out.1.1 h.toBelow) (fun W L h => Kd.C_below HL.out.2.1 h.toBelow) HL.out.1.2 HL.out.2.2 HF.out.1 HF.out.2 ht)
              clear ht
              go_wp2_with fail
              (with_reducible refine HQ.out.mono ?_)
              rintro e6 w6 ⟨rfl, hZ6⟩
              have HZ6 := Aside0.mk (show ZD w1 w6 z m (i + 1) (insD ds (x, (A4, c4), (A5, c5))) v' from ⟨by rw [ins_map]; exact hZ6, fun d hd => by
                rcases List.mem_append.1 hd with h | h
                · exact HZ3.out.2 d (List.mem_of_mem_take h)
                · rcases List.mem_cons.1 h with rfl | h
                  · exact HL.out
                  · exact HZ3.out.2 d (List.mem_of_mem_drop h)⟩)
              clear HQ hZ6
              go_wp2_with fail
              go_meet
              case rel => exact ⟨_, HZ6⟩
            · have HQ := Aside0.mk (HZ3.out.dadd (by have := HIX.out; omega) x A4 c4 A5 c5 (HL.out.below HZ3.out.1.toBelow) HF.out.1 HF.out.2 false (by simp [ht]))
              go_wp2_with fail
              (with_reducible refine HQ.out.mono ?_)
              rintro e5 w5 ⟨v', rfl, hZ5⟩
              simp only [Bool.false_eq_true, if_false] at hZ5
              have HZ5 := Aside0.mk hZ5
              clear HQ hZ5
              obtain ⟨k0, k1, k2, k3, k4, k5, k6⟩ := HR.out w5 HZ5.out.toBelow
              have HQ := Aside0.mk (HZ5.out.add_no (by have := HIX.out; omega) x A4 c4 A5 c5 (Kd.C_below HL.out.1.1 HZ5.out.toBelow) (Kd.C_below HL.out.2.1 HZ5.out.toBelow) HF.out.1 HF.out.2 ht)
              clear ht
              go_wp2_with fail
              (with_reducible refine HQ.out.mono ?_)
              rintro e6 w6 ⟨rfl, hZ6⟩
              have HZ6 := Aside0.mk (show ZD w1 w6 z m (i + 1) ds v' from ⟨hZ6.more (by omega), HZ3.out.2⟩)
              clear HQ hZ6
              go_wp2_with fail
              go_meet
              case rel => exact ⟨_, HZ6⟩
        case rest =>
          obtain ⟨ds', HD9⟩ := hcut
          clear HZ3 HR HL HF
          obtain ⟨ds, rfl⟩ : ∃ y, y = ds' := ⟨ds', rfl⟩
          obtain ⟨B, hB⟩ : ∃ B, loadZ (ds.map (·.1)) a n = B := ⟨_, rfl⟩
          have HQ := Aside0.mk (CanLoad_calls (HD9.out.1.zr (by have := HIX.out; omega)) a n HA.out.2)
          rw [hB] at HQ
          go_wp2_with fail
          (with_reducible refine HQ.out.mono ?_)
          rintro e30 w30 ⟨rfl, hb30⟩
          have HZ30 := Aside0.mk (HD9.out.below hb30)
          clear HQ hb30
          have HQ := Aside0.mk (HZ30.out.load (by have := HIX.out; omega) a n HA.out.2)
          rw [hB] at HQ
          go_wp2_with fail
          (with_reducible refine HQ.out.mono ?_)
          rintro e31 w31 ⟨rfl, hb31⟩
          have HZ31 := Aside0.mk (HZ30.out.below hb31)
          clear HQ hb31
          clear hB HD9 HZ30
          obtain ⟨B, hB⟩ : ∃ B, storeZ (ds.map (·.1)) a n = B := ⟨_, rfl⟩
          have HQ := Aside0.mk (CanStore_calls (HZ31.out.1.zr (by have := HIX.out; omega)) a n HA.out.2)
          rw [hB] at HQ
          go_wp2_with fail
          (with_reducible refine HQ.out.mono ?_)
          rintro e32 w32 ⟨rfl, hb32⟩
          have HZ32 := Aside0.mk (HZ31.out.below hb32)
          clear HQ hb32
          have HQ := Aside0.mk (HZ32.out.store (by have := HIX.out; omega) a n HA.out.2)
          rw [hB] at HQ
          go_wp2_with fail
          (with_reducible refine HQ.out.mono ?_)
          rintro e33 w33 ⟨rfl, hb33⟩
          have HZ33 := Aside0.mk (HZ32.out.below hb33)
          clear HQ hb33
          clear hB HZ31 HZ32
          obtain ⟨B, hB⟩ : ∃ B, runZ (ds.map (·.1)) a = B := ⟨_, rfl⟩
          have HQ := Aside0.mk (CanRun_calls (HZ33.out.1.zr (by have := HIX.out; omega)) a)
          rw [hB] at HQ
          go_wp2_with fail
          (with_reducible refine HQ.out.mono ?_)
          rintro e34 w34 ⟨rfl, hb34⟩
          have HZ34 := Aside0.mk (HZ33.out.below hb34)
          clear HQ hb34
          have HQ := Aside0.mk (HZ34.out.run (by have := HIX.out; omega) a)
          rw [hB] at HQ
          go_wp2_with fail
          (with_reducible refine HQ.out.mono ?_)
          rintro e35 w35 ⟨rfl, hb35⟩
          have HZ35 := Aside0.mk (HZ34.out.below hb35)
          clear HQ hb35
          clear hB HZ33 HZ34
          obtain ⟨B, hB⟩ : ∃ B, cellZ (ds.map (·.1)) a = B := ⟨_, rfl⟩
          have HQ := Aside0.mk (HZ35.out.1.cell (by have := HIX.out; omega) a HA.out.1)
          rw [hB] at HQ
          go_wp2_with fail
          (with_reducible refine HQ.out.mono ?_)
          rintro e36 w36 ⟨rfl, hb36⟩
          have HZ36 := Aside0.mk (HZ35.out.below hb36)
          clear HQ hb36
          have HQ := Aside0.mk (HZ36.out.cell (by have := HIX.out; omega) a)
          rw [hB] at HQ
          go_wp2_with fail
          (with_reducible refine HQ.out.mono ?_)
          rintro e37 w37 ⟨rfl, hb37⟩
          have HZ37 := Aside0.mk (HZ36.out.below hb37)
          clear HQ hb37
          clear hB HZ35 HZ36
          obtain ⟨B, hB⟩ : ∃ B, fitsZ (ds.map (·.1)) kd vl = B := ⟨_, rfl⟩
          have HQ := Aside0.mk (Fits_calls (HZ37.out.1.zr (by have := HIX.out; omega)) kd vl)
          rw [hB] at HQ
          go_wp2_with fail
          (with_reducible refine HQ.out.mono ?_)
          rintro e38 w38 ⟨rfl, hb38⟩
          have HZ38 := Aside0.mk (HZ37.out.below hb38)
          clear HQ hb38
          have HQ := Aside0.mk (HZ38.out.fits (by have := HIX.out; omega) kd vl)
          rw [hB] at HQ
          go_wp2_with fail
          (with_reducible refine HQ.out.mono ?_)
          rintro e39 w39 ⟨rfl, hb39⟩
          have HZ39 := Aside0.mk (HZ38.out.below hb39)
          clear HQ hb39
          clear hB HZ37 HZ38
          go_wp2_with fail
          go_roundg (gk - 1)
          case measure => have := Hi.out; have := of_eq_true p1; omega
          case rel => exact ⟨i + 1, ds, by go_num, ⟨by have := Hi.out; have := of_eq_true p1; omega⟩, HZ39⟩
    · have p1 : (i < ds0.length) = False := eq_false hlt
      have d0 : decide ((i : Int) < (ds0.length : Int)) = false := decide_eq_false (by omega)
      have HIX := Aside0.mk (show i ≤ 40 by have := Hi.out; have := HLN.out; omega)
      clear hlt Hi HC
      have HQ := Aside0.mk (All_calls (HZ.out.1.zr (by have := HIX.out; omega)) HZ.out.1.rows)
      go_wp2_with fail
      (with_reducible refine HQ.out.mono ?_)
      rintro e3 w3 ⟨va, rfl, hS⟩
      obtain ⟨D3, hN3, hD3⟩ := hS.head
      have hSS : Sat w1 w3 (ARowN k82 75 wo.heap.size va (ds.map (·.1)) :: ADoc w1.heap.size _ ds :: []) := HZ.out.1.tail.new (A := ARowN k82 75 wo.heap.size va (ds.map (·.1))) hS.toBelow hN3 (fun k hk => (hD3 k hk).1)
      obtain ⟨Aa, ca, rfl⟩ := Kd.N_slice hN3
      obtain ⟨Ad, cd, rfl, hle2, hC2⟩ := doc_reads hSS.drop
      have hlm : (ds.map (·.1)).length = ds.length := List.length_map _
      rw [hlm] at hSS ⊢
      have HSS := Aside0.mk hSS
      have HFW := Aside0.mk (show ∀ d ∈ ds, (d.1.f4.length ≤ 100 ∧ d.1.f5.length ≤ 100) ∧ Lie w1 d from fun d hd => ⟨HZ.out.1.rows _ (List.mem_map.2 ⟨d, hd, rfl⟩), HZ.out.2 d hd⟩)
      have HDL := Aside0.mk (show ds.length ≤ 40 from by have := HZ.out.1.few; have := HIX.out; omega)
      have hu82 := Try.underlying82
      clear HQ hS hN3 hD3 hSS hle2 hC2 hlm HZ HIX
      go_wp2_with fail
      go_loopg [18] (ds.length + 1) (fun kq v18 w' => ∃ (j : Nat), v18 = .int .i64 j ∧ Aside0 (j ≤ ds.length ∧ ds.length - j < kq) ∧ Aside0 (Sat w1 w' (ARowN k82 75 wo.heap.size (.slice Aa ds.length ca) (ds.map (·.1)) :: ADoc w1.heap.size (.slice Ad ds.length cd) ds :: [])))
      case atStart => exact ⟨0, rfl, ⟨by omega⟩, HSS⟩
      case round =>
        clear HSS
        obtain ⟨j, rfl, Hj, HS⟩ := hrel
        obtain ⟨wq, rfl⟩ : ∃ y, y = wr := ⟨wr, rfl⟩
        by_cases hlt : j < ds.length
        · obtain ⟨d, hd⟩ : ∃ d, ds[j]? = some d := ⟨_, List.getElem?_eq_getElem hlt⟩
          obtain ⟨_, hN4, _⟩ := HS.out.head
          obtain ⟨A', c', ev, hlc, hCa⟩ := Kd.N_reads hN4
          rw [List.length_map] at ev hlc hCa
          injection ev with ev1 evl ev2
          clear evl
          subst ev1 ev2
          obtain ⟨ad, A4, c4, A5, c5, eA, y0, y1, y2, y3, y4, y5, hl4, hC4, hl5, hC5⟩ := at_T82 hCa (j : Int) (by omega) (by omega)
          have ev : rd_T82 (ds.map (·.1)) (j : Int) = d.1 := by
            have hm : (ds.map (·.1))[j]? = some d.1 := by rw [List.getElem?_map, hd]; rfl
            have hl := (List.getElem?_eq_some_iff.1 hm).1
            have := (List.getElem?_eq_some_iff.1 hm).2
            simp only [rd_T82, Int.toNat_natCast]
            rw [List.getD_eq_getElem?_getD, hm]
            rfl
          rw [ev] at y0 y1 y2 y3 y4 y5 hl4 hC4 hl5 hC5
          simp only [Int.toNat_natCast] at y0 y1 y2 y3 y4 y5
          subst eA
          obtain ⟨A', c', ev', hlc2, hCd⟩ := doc_reads HS.out.drop
          injection ev' with ev1 evl ev2
          clear evl
          subst ev1 ev2
          obtain ⟨ae, eA, x0, x1, x2, x3, x4, x5⟩ := raw_enc hCd hd
          subst eA
          have HW := Aside0.mk (HFW.out d (List.mem_iff_getElem?.2 ⟨j, hd⟩))
          have HLa := Aside0.mk (show Lie wq (d.1, (A4, c4), (A5, c5)) from ⟨⟨hC4, hl4⟩, hC5, hl5⟩)
          have HLd := Aside0.mk (show Lie wq (d.1, d.2) from HW.out.2.below HS.out.toBelow)
          have q1 : (j < ds.length) = True := eq_true hlt
          have q0 : decide ((j : Int) < (ds.length : Int)) = true := decide_eq_true (by omega)
          have q9 : (j : Int) ≤ 40 := by have := HDL.out; omega
          have q8 : 0 ≤ (j : Int) := by omega
          have q7 : (j : Int) < (ds.length : Int) := by omega
          have HXD := Aside0.mk (fun w' (hb : Below wq.heap.size wq w') => (⟨pw_cell_below hb x0, pw_cell_below hb x1, pw_cell_below hb x2, pw_cell_below hb x3, pw_cell_below hb x4, pw_cell_below hb x5⟩ : w'.cell? (ae.add (j * 6)) = some (.int .i64 d.1.f0) ∧ w'.cell? ⟨(ae.add (j * 6)).block, (ae.add (j * 6)).off + 1, none⟩ = some (.int .i64 d.1.f1) ∧ w'.cell? ⟨(ae.add (j * 6)).block, (ae.add (j * 6)).off + 2, none⟩ = some (.int .i64 d.1.f2) ∧ w'.cell? ⟨(ae.add (j * 6)).block, (ae.add (j * 6)).off + 3, none⟩ = some (.int .i64 d.1.f3) ∧ w'.cell? ⟨(ae.add (j * 6)).block, (ae.add (j * 6)).off + 4, none⟩ = some (.slice d.2.1.1 d.1.f4.length d.2.1.2) ∧ w'.cell? ⟨(ae.add (j * 6)).block, (ae.add (j * 6)).off + 5, none⟩ = some (.slice d.2.2.1 d.1.f5.length d.2.2.2)))
          have HQ := Aside0.mk (As_calls d.1 A4 c4 A5 c5 wq)
          clear hlt hd hN4 hCa hCd hl4 hC4 hl5 hC5 ev hlc hlc2 x0 x1 x2 x3 x4 x5
          generalize d.1 = x at HW HLa HXD HQ HLd y0 y1 y2 y3 y4 y5
          go_wp2_with fail
          (with_reducible refine HQ.out.mono ?_)
          rintro e7 w7 ⟨rfl, hb7⟩
          have HS7 := Aside0.mk (HS.out.below hb7)
          have HX1 := Aside0.mk (blk_new HS7.out (.cells #[.int .i64 0, .int .i64 0, .int .i64 0, .int .i64 0, .slice none 0 0, .slice none 0 0] 82))
          have HX2 := Aside0.mk (blk_new ((Sat.start wq).below hb7) (.cells #[.int .i64 0, .int .i64 0, .int .i64 0, .int .i64 0, .slice none 0 0, .slice none 0 0] 82))
          clear HQ hb7 y0 y1 y2 y3 y4 y5
          go_upto_region 29 with (refine wpList_store_row rfl 82 (.tmp 19) (.tmp 171) rfl w7.heap.size #[.int .i64 x.f0, .int .i64 x.f1, .int .i64 x.f2, .int .i64 x.f3, .slice A4 x.f4.length c4, .slice A5 x.f5.length c5] rfl rfl 82 _ (blk_at HX1.out) (by kernel_rfl) rfl (by simp [Value.oneCell']) ?_; have HX7 := Aside0.mk (And.intro (blk_row (cs := #[.int .i64 x.f0, .int .i64 x.f1, .int .i64 x.f2, .int .i64 x.f3, .slice A4 x.f4.length c4, .slice A5 x.f5.length c5]) HX1.out) (blk_row (cs := #[.int .i64 x.f0, .int .i64 x.f1, .int .i64 x.f2, .int .i64 x.f3, .slice A4 x.f4.length c4, .slice A5 x.f5.length c5]) HX2.out)))
          refine wp_abs (fun W => Sat w1 W (ABlk w7.heap.size (.cells #[.int .i64 x.f0, .int .i64 x.f1, .int .i64 x.f2, .int .i64 x.f3, .slice A4 x.f4.length c4, .slice A5 x.f5.length c5] 82 (0, 0)) :: ARowN k82 75 wo.heap.size (.slice (some ad) ds.length ca) (ds.map (·.1)) :: ADoc w1.heap.size (.slice (some ae) ds.length cd) ds :: []) ∧ Sat wq W [ABlk w7.heap.size (.cells #[.int .i64 x.f0, .int .i64 x.f1, .int .i64 x.f2, .int .i64 x.f3, .slice A4 x.f4.length c4, .slice A5 x.f5.length c5] 82 (0, 0))]) HX7.out (fun W8 hW8 => ?_)
          have HX8 := Aside0.mk hW8.1
          have HB8 := Aside0.mk hW8.2.toBelow
          have z0 : W8.cell? ⟨w7.heap.size, 0, none⟩ = some (.int .i64 x.f0) := get_cell (blk_at hW8.1) 0
          have z1 : W8.cell? ⟨w7.heap.size, 1, none⟩ = some (.int .i64 x.f1) := get_cell (blk_at hW8.1) 1
          have z2 : W8.cell? ⟨w7.heap.size, 2, none⟩ = some (.int .i64 x.f2) := get_cell (blk_at hW8.1) 2
          have z3 : W8.cell? ⟨w7.heap.size, 3, none⟩ = some (.int .i64 x.f3) := get_cell (blk_at hW8.1) 3
          have z4 : W8.cell? ⟨w7.heap.size, 4, none⟩ = some (.slice A4 x.f4.length c4) := get_cell (blk_at hW8.1) 4
          have z5 : W8.cell? ⟨w7.heap.size, 5, none⟩ = some (.slice A5 x.f5.length c5) := get_cell (blk_at hW8.1) 5
          obtain ⟨x0, x1, x2, x3, x4, x5⟩ := HXD.out W8 HB8.out
          clear hW8 HX1 HX2 HX7 HXD
          have HI4 := Aside0.mk (fun m => Ints_quiet x.f4 A4 c4 d.2.1.1 d.2.1.2 W8 (Kd.C_below HLa.out.1.1 HB8.out) (Kd.C_below HLd.out.1.1 HB8.out) HLa.out.1.2 HLd.out.1.2 HW.out.1.1 m)
          have HI5 := Aside0.mk (fun m => Ints_quiet x.f5 A5 c5 d.2.2.1 d.2.2.2 W8 (Kd.C_below HLa.out.2.1 HB8.out) (Kd.C_below HLd.out.2.1 HB8.out) HLa.out.2.2 HLd.out.2.2 HW.out.1.2 m)
          go_quiet ((first | (go_at_call 52; with_reducible exact HI4.out _) | (go_at_call 52; with_reducible exact HI5.out _)))
          go_wp2_with fail
          go_roundg (gk - 1)
          case measure => have := Hj.out; have := of_eq_true q1; omega
          case rel => exact ⟨j + 1, by go_num, ⟨by have := Hj.out; have := of_eq_true q1; omega⟩, ⟨(HX8.out.drewN _).drop⟩⟩
        · have q1 : (j < ds.length) = False := eq_false hlt
          have q0 : decide ((j : Int) < (ds.length : Int)) = false := decide_eq_false (by omega)
          clear hlt
          go_wp2_with fail
          go_ret
          exact ⟨by rfl, below_then HB1.out HB1.out.size HS.out.toBelow⟩
end Go.Proofs.Ytkeijpngfnmjoaa.MineZone
