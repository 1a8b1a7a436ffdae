/- Zones: the document's small questions: is a number in a list; may these be places of data. Conditions: short lists; a base that is not below nought. -/
import Derived.Test.YtkeijpngfnmjoaaMineGen
import Derived.Test.YtkeijpngfnmjoaaQZoneIs
namespace Go.Proofs.Ytkeijpngfnmjoaa.MineZone
open Go.RowKit Go.MapKept Go.Proofs.YtkeijpngfnmjoaaW.PrintWords Go.Proofs.YtkeijpngfnmjoaaW.PrintLast Go.Proofs.YtkeijpngfnmjoaaW.PrintMore Go.Proofs.Ytkeijpngfnmjoaa.MineBase Go.Proofs.Ytkeijpngfnmjoaa.MineSep Go.Proofs.Ytkeijpngfnmjoaa.MineRows Go.Proofs.Ytkeijpngfnmjoaa.MineGen Go.Proofs.Ytkeijpngfnmjoaa.QZonePlays
attribute [local go_sem ↓] Go.wp_at_zero Go.wp_at_succ
set_option linter.unusedVariables false
set_option linter.unusedSimpArgs false
theorem is_loop (xs : List Int) (n : Int) (hx : xs.length ≤ 1000) (d : Nat) : ∀ (k i : Nat), i + d = xs.length → d < k → dowelref05_is.l0 k xs n i = some (decide (n ∈ xs.drop i)) := by
  induction d with
  | zero =>
    intro k i hi hk
    obtain ⟨k, rfl⟩ : ∃ m, k = m + 1 := ⟨k - 1, by omega⟩
    simp only [dowelref05_is.l0]
    rw [if_neg (by omega), List.drop_eq_nil_of_le (by omega)]
    simp
  | succ d ih =>
    intro k i hi hk
    obtain ⟨k, rfl⟩ : ∃ m, k = m + 1 := ⟨k - 1, by omega⟩
    have hl : i < xs.length := by omega
    have e : rd xs (i : Int) = xs[i] := by
      simp [rd, hl]
    simp only [dowelref05_is.l0]
    rw [if_pos (by omega), if_pos (by omega), e, List.drop_eq_getElem_cons hl]
    by_cases h : xs[i] = n
    · rw [if_pos h]
      simp [h]
    · rw [if_neg h, show wrap64 ((i : Int) + 1) = ((i + 1 : Nat) : Int) by unfold wrap64; omega, ih k (i + 1) (by omega) (by omega)]
      refine congrArg some (decide_eq_decide.2 ?_)
      rw [List.mem_cons]
      exact ⟨.inr, fun hh => hh.elim (fun e => absurd e.symm h) id⟩
theorem is_calls (A : Option Addr) (c : Nat) (xs : List Int) (n : Int) (w : World) (hC : Kd.C (Kd.int .i64) w A xs.length xs) (hc : xs.length ≤ c) (hx : xs.length ≤ 1000) :
    Calls Try.prog 117 #[.slice A xs.length c, .int .i64 n] w fun e w' => e = .returned (.bool (decide (n ∈ xs))) ∧ Drawn0 w w' := by
  refine dowelref05_is.calls (xs.length + 1) A c xs n _ w hC hc ?_
  unfold dowelref05_is.f
  have h := is_loop xs n hx xs.length (xs.length + 1) 0 (by omega) (by omega)
  rw [List.drop_zero] at h
  exact h
theorem is_quiet (A : Option Addr) (n c : Nat) (xs : List Int) (v : Int) (hn : n = xs.length) (w : World) (hC : Kd.C (Kd.int .i64) w A xs.length xs) (hc : n ≤ c) (hx : xs.length ≤ 1000) (b : Bool) (hb : decide (v ∈ xs) = b) (m : Nat) :
    Calls Try.prog 117 #[.slice A n c, .int .i64 v] (w.drewN m) fun e w'' => e = .returned (.bool b) ∧ ∃ m, w'' = w.drewN m := by
  subst hn
  subst hb
  exact Calls.quiet_of ((is_calls A c xs v (w.drewN m) (Kd.C_below hC (pw_below_drewN (Below.refl _ _) m)) hc hx).mono fun _ _ h => ⟨h.1, h.2.out⟩)
theorem is_below (A : Option Addr) (n c : Nat) (xs : List Int) (v : Int) (hn : n = xs.length) (w0 : World) (hC : Kd.C (Kd.int .i64) w0 A xs.length xs) (hc : n ≤ c) (hx : xs.length ≤ 1000) (b : Bool) (hb : decide (v ∈ xs) = b) (w : World) (hB : Below w0.heap.size w0 w) :
    Calls Try.prog 117 #[.slice A n c, .int .i64 v] w fun e w' => e = .returned (.bool b) ∧ Drawn0 w w' := by
  subst hn
  subst hb
  exact is_calls A c xs v w (Kd.C_below hC hB) hc hx
/-- May these be places of data, each once? -/
def goodAt (base data : Int) (l others : List Int) (i : Nat) (v : Int) : Prop := base ≤ v ∧ v < data ∧ v % 4 = 0 ∧ v ∉ l.take i ∧ v ∉ others
instance (base data : Int) (l others : List Int) (i : Nat) (v : Int) : Decidable (goodAt base data l others i v) := by unfold goodAt; infer_instance
def Fine (base data : Int) (l others : List Int) : Prop := ∀ (i : Nat) (v : Int), l[i]? = some v → goodAt base data l others i v
set_option maxRecDepth 100000 in
set_option maxHeartbeats 4000000 in
theorem fine_calls (b0 b1 b2 b3 : Int) (A4 : Option Addr) (n4 c4 : Nat) (A5 : Option Addr) (n5 c5 : Nat) (A1 : Option Addr) (c1 : Nat) (l : List Int) (A2 : Option Addr) (c2 : Nat) (others : List Int) (w : World)
    (h1 : Kd.C (Kd.int .i64) w A1 l.length l) (hc1 : l.length ≤ c1) (h2 : Kd.C (Kd.int .i64) w A2 others.length others) (hc2 : others.length ≤ c2) (hl : l.length ≤ 100) (ho : others.length ≤ 100) (hb : 0 ≤ b0) (r : Bool) (hr : r = true ↔ Fine b0 b1 l others) :
    Calls Try.prog 100 #[.agg #[.int .i64 b0, .int .i64 b1, .int .i64 b2, .int .i64 b3, .slice A4 n4 c4, .slice A5 n5 c5], .slice A1 l.length c1, .slice A2 others.length c2] w fun e w' => e = .returned (.bool r) ∧ Below w.heap.size w w' := by
  have H1 := Aside0.mk (And.intro h1 hc1)
  have H2 := Aside0.mk (And.intro h2 hc2)
  have HL := Aside0.mk (And.intro hl ho)
  have HR := Aside0.mk hr
  clear h1 hc1 h2 hc2 hl ho hr
  have hu82 := Try.underlying82
  go_enter Try.func100, Try.ntmps100
  go_wp2_with fail
  refine wp_abs (fun W => Sat w W [ABlk w.heap.size (.cells #[.int .i64 b0, .int .i64 b1, .int .i64 b2, .int .i64 b3, .slice A4 n4 c4, .slice A5 n5 c5] 82 (0, 0))]) (blk_new (Sat.start w) _) (fun W hW => ?_)
  replace hW := Aside0.mk hW
  go_loopg [7] (l.length + 1) (fun kq v7 w' => ∃ i : Nat, v7 = .int .i64 i ∧ Aside0 (i ≤ l.length ∧ l.length - i < kq) ∧ Aside0 (∀ (j : Nat) (v : Int), j < i → l[j]? = some v → goodAt b0 b1 l others j v) ∧ Aside0 (Sat w w' [ABlk w.heap.size (.cells #[.int .i64 b0, .int .i64 b1, .int .i64 b2, .int .i64 b3, .slice A4 n4 c4, .slice A5 n5 c5] 82 (0, 0))]))
  case atStart => exact ⟨0, rfl, ⟨by omega⟩, ⟨fun j v h => absurd h (by omega)⟩, hW⟩
  case round =>
    clear hW
    obtain ⟨i, rfl, Hi, HG, HW⟩ := hrel
    have x0 : wr.cell? ⟨w.heap.size, 0, none⟩ = some (.int .i64 b0) := get_cell (blk_at HW.out) 0
    have x1 : wr.cell? ⟨w.heap.size, 1, none⟩ = some (.int .i64 b1) := get_cell (blk_at HW.out) 1
    by_cases hlt : i < l.length
    · obtain ⟨v, hv⟩ : ∃ v, l[i]? = some v := ⟨_, List.getElem?_eq_getElem hlt⟩
      obtain ⟨ad, eA, y0⟩ := Kd.at_int (Kd.C_below H1.out.1 HW.out.toBelow) (i : Int) (by omega) (by omega)
      have ev : rd l (i : Int) = v := by
        have := (List.getElem?_eq_some_iff.1 hv).2
        simp [rd, hlt, this]
      rw [ev] at y0
      simp only [Int.toNat_natCast] at y0
      subst eA
      have HV := Aside0.mk hv
      have q1 : (i < l.length) = True := eq_true hlt
      have q2 : 0 ≤ (i : Int) := by omega
      have q3 : (i : Int) ≤ 100 := by have := HL.out.1; omega
      clear hlt hv ev
      have HBAD := Aside0.mk (show ¬ goodAt b0 b1 l others i v → r = false from fun hn => by
        cases r with
        | false => rfl
        | true => exact absurd (HR.out.1 rfl i v HV.out) hn)
      by_cases g1 : v < b0
      · have e : r = false := HBAD.out (fun h => by have := h.1; omega)
        have d1 : (v < b0) = True := eq_true g1
        have d1' : decide (v < b0) = true := decide_eq_true g1
        subst e
        clear g1
        go_wp2_with fail
        go_quiet (fail)
        go_wp2_with fail
        go_ret
        exact ⟨by rfl, (HW.out.drewN _).toBelow⟩
      have d1 : (v < b0) = False := eq_false g1
      have d1' : decide (v < b0) = false := decide_eq_false g1
      have p1 : 0 ≤ v := by omega
      by_cases g2 : b1 ≤ v
      · have e : r = false := HBAD.out (fun h => by have := h.2.1; omega)
        have d2 : (b1 ≤ v) = True := eq_true g2
        have d2' : decide (b1 ≤ v) = true := decide_eq_true g2
        subst e
        clear g1 g2
        go_wp2_with fail
        go_quiet (fail)
        go_wp2_with fail
        go_ret
        exact ⟨by rfl, (HW.out.drewN _).toBelow⟩
      have d2 : (b1 ≤ v) = False := eq_false g2
      have d2' : decide (b1 ≤ v) = false := decide_eq_false g2
      by_cases g3 : v % 4 = 0
      · have d3' : (v % 4 != 0) = false := by simpa using g3
        have HGD := Aside0.mk (show b0 ≤ v ∧ v < b1 ∧ v % 4 = 0 from ⟨by omega, by omega, g3⟩)
        clear g1 g2 g3
        have HT := Aside0.mk (show Kd.C (Kd.int .i64) wr (some ad) (l.take i).length (l.take i) ∧ i = (l.take i).length ∧ i ≤ c1 ∧ (l.take i).length ≤ 1000 from by
          have hi := of_eq_true q1
          have e : (l.take i).length = i := by rw [List.length_take]; omega
          have hc := Kd.C_below H1.out.1 HW.out.toBelow
          refine ⟨⟨rfl, by rw [e]; have := HL.out.1; omega, fun hp => ?_⟩, e.symm, by have := H1.out.2; omega, by have := HL.out.1; omega⟩
          obtain ⟨ad', ea, hcc⟩ := hc.2.2 (by omega)
          refine ⟨ad', ea, fun j p hj => ?_⟩
          rw [List.getElem?_take] at hj
          split at hj
          · exact hcc j p hj
          · cases hj)
        have HO := Aside0.mk (Kd.C_below H2.out.1 HW.out.toBelow)
        have q4 : (i ≤ c1) = True := eq_true HT.out.2.2.1
        go_wp2_with fail
        go_quiet (fail)
        go_wp2_with fail
        have y0n : ∀ m, (wr.drewN m).cell? (ad.add i) = some (.int .i64 v) := fun m => pw_cell_below (pw_below_drewN (Below.refl _ _) m) y0
        have y0d : ∀ m, (wr.drewN m).drew.cell? (ad.add i) = some (.int .i64 v) := fun m => pw_cell_below (below_drew (pw_below_drewN (Below.refl _ _) m)) y0
        obtain ⟨t1, ht1⟩ : ∃ t1, decide (v ∈ l.take i) = t1 := ⟨_, rfl⟩
        have HT1 := Aside0.mk ht1
        clear ht1
        go_region_held3 (fun w' => w'.cell? (ad.add i) = some (.int .i64 v)) (first | exact y0 | exact y0n _ | exact y0d _ | exact y6) (
          ((with_reducible refine (is_below (some ad) i c1 (l.take i) v HT.out.2.1 wr HT.out.1 HT.out.2.2.1 HT.out.2.2.2 t1 HT1.out _ ?hB).mono ?_); (case hB => first | exact pw_below_drewN (Below.refl _ _) _ | exact below_drew (pw_below_drewN (Below.refl _ _) _)); rintro e6 w6 ⟨rfl, hd6⟩; have y6 : w6.cell? (ad.add i) = some (.int .i64 v) := pw_cell_below hd6.below (by first | exact y0n _ | exact y0d _); have HW6 := Aside0.mk (show Sat w w6 _ from (by first | exact (HW.out.drewN _).drawn hd6 | exact (HW.out.drewN _).drew.drawn hd6)); clear hd6))
        all_goals go_wp2_with fail
        obtain ⟨t2, ht2⟩ : ∃ t2, decide (v ∈ others) = t2 := ⟨_, rfl⟩
        have hq := is_calls A2 c2 others v w6 (Kd.C_below H2.out.1 HW6.out.toBelow) H2.out.2 (by have := HL.out.2; omega)
        rw [ht2] at hq
        have HT2 := Aside0.mk ht2
        clear ht2
        (with_reducible refine hq.mono ?_)
        clear hq
        rintro e7 w7 ⟨rfl, hd7⟩
        have HW7 := Aside0.mk (HW6.out.drawn hd7)
        clear hd7
        cases t1 with
        | true =>
          have e : r = false := HBAD.out (fun h => h.2.2.2.1 (of_decide_eq_true HT1.out))
          subst e
          go_wp2_with fail
          go_ret
          exact ⟨by rfl, HW7.out.toBelow⟩
        | false =>
          cases t2 with
          | true =>
            have e : r = false := HBAD.out (fun h => h.2.2.2.2 (of_decide_eq_true HT2.out))
            subst e
            go_wp2_with fail
            go_ret
            exact ⟨by rfl, HW7.out.toBelow⟩
          | false =>
            go_wp2_with fail
            go_roundg (gk - 1)
            case measure => have := Hi.out; have := of_eq_true q1; omega
            case rel => exact ⟨i + 1, by go_num, ⟨by have := Hi.out; have := of_eq_true q1; omega⟩, ⟨fun j u hj hu => by
              by_cases hji : j = i
              · subst hji
                have := HV.out
                rw [hu] at this
                injection this with this
                subst this
                exact ⟨HGD.out.1, HGD.out.2.1, HGD.out.2.2, of_decide_eq_false HT1.out, of_decide_eq_false HT2.out⟩
              · exact HG.out j u (by omega) hu⟩, HW7⟩
      · have e : r = false := HBAD.out (fun h => g3 h.2.2.1)
        have d3 : (v % 4 = 0) = False := eq_false g3
        have d3' : (v % 4 != 0) = true := by simpa using g3
        subst e
        clear g1 g2 g3
        go_wp2_with fail
        go_quiet (fail)
        go_wp2_with fail
        go_ret
        exact ⟨by rfl, (HW.out.drewN _).toBelow⟩
    · have e : r = true := HR.out.2 (fun j v hj => HG.out j v (by have := (List.getElem?_eq_some_iff.1 hj).1; omega) hj)
      have q1 : (i < l.length) = False := eq_false hlt
      subst e
      clear hlt
      go_wp2_with fail
      go_ret
      exact ⟨by rfl, HW.out.toBelow⟩
end Go.Proofs.Ytkeijpngfnmjoaa.MineZone
