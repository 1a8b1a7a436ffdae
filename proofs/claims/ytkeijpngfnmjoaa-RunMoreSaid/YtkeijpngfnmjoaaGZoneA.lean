/- Zones: the document's small questions: is a number in a list; may these be places of data. Conditions: short lists; a base that is not below nought. Zones: the document's MayZone. Conditions: short lists of cells. Zones, in plain words: a list that rises, a zone that comes in, a zone that goes, which cell has a byte. No condition but those told. Zones: the first zone that a closure tells of; whether there is one. Conditions: the list is short; the closure tells what p tells, whatever lies behind. Zones: what can be done at any place, by the program. Conditions: the list is short; the map tells the cells. Zones: what can be done at any place, by the program: its methods. Conditions: the list is short and orderly; the map tells the cells. DERIVED: THE SHELF's CONTRACTS AT THIS DUMP, IN PLAIN WORDS (tools/lay-plain.mjs out of 'YtkeijpngfnmjoaaLayT.lean', which tools/lay-shelf.mjs wrote): THE SAME DECLARATIONS UNDER THE SAME NAMES: 'import', 'namespace', 'open', 'def', 'theorem' AND NOTHING ELSE: no command of the shelf's: FOR A HAND-IN. Each laying: the table of numbers ('.._ren') and one theorem, a field a fact of the dump's own or the kernel's comparison; each contract: ONE APPLICATION. Zones sorted by their base: what the library's sort leaves. Conditions: the row is of the call's own. Zones sorted by their base: the row after it. Condition: the row is of the call's own. ZonePlays: the machine's side, written by a program of this workplace: for each Go function the answers that its Lean function tells. No condition but that the Lean function tells. -/
import Derived.Test.YtkeijpngfnmjoaaMineGen
import Derived.Test.YtkeijpngfnmjoaaQZoneIs
import Derived.Shelf.Abstract
import Derived.Shelf.SlSortCmp.QuietGrown
import Derived.Shelf.SlLaysF0
import Derived.Shelf.SlicesG.Cmp
import Derived.Ground.SlsfProg
import Derived.Ground.SlgcProg
import Derived.Test.YtkeijpngfnmjoaaProg
import Derived.Shelf.SlSortCmp.WholeK
import Derived.Test.YtkeijpngfnmjoaaQZonePlaysx0
section
namespace Go.Proofs.Ytkeijpngfnmjoaa.MineZone
open Go.RowKit Go.MapKept Go.Proofs.YtkeijpngfnmjoaaW.PrintWords Go.Proofs.YtkeijpngfnmjoaaW.PrintLast Go.Proofs.YtkeijpngfnmjoaaW.PrintMore Go.Proofs.Ytkeijpngfnmjoaa.MineBase Go.Proofs.Ytkeijpngfnmjoaa.MineSep Go.Proofs.Ytkeijpngfnmjoaa.MineRows Go.Proofs.Ytkeijpngfnmjoaa.MineGen Go.Proofs.Ytkeijpngfnmjoaa.QZonePlays
attribute [local go_sem ↓] Go.wp_at_zero Go.wp_at_succ
set_option linter.unusedVariables false
set_option linter.unusedSimpArgs false
theorem is_loop (xs : List Int) (n : Int) (hx : xs.length ≤ 1000) (d : Nat) : ∀ (k i : Nat), i + d = xs.length → d < k → dowelref05_is.l0 k xs n i = some (decide (n ∈ xs.drop i)) := by
  induction d with
  | zero =>
    intro k i hi hk
    obtain ⟨k, rfl⟩ : ∃ m, k = m + 1 := ⟨k - 1, by omega⟩
    simp only [dowelref05_is.l0]
    rw [if_neg (by omega), List.drop_eq_nil_of_le (by omega)]
    simp
  | succ d ih =>
    intro k i hi hk
    obtain ⟨k, rfl⟩ : ∃ m, k = m + 1 := ⟨k - 1, by omega⟩
    have hl : i < xs.length := by omega
    have e : rd xs (i : Int) = xs[i] := by
      simp [rd, hl]
    simp only [dowelref05_is.l0]
    rw [if_pos (by omega), if_pos (by omega), e, List.drop_eq_getElem_cons hl]
    by_cases h : xs[i] = n
    · rw [if_pos h]
      simp [h]
    · rw [if_neg h, show wrap64 ((i : Int) + 1) = ((i + 1 : Nat) : Int) by unfold wrap64; omega, ih k (i + 1) (by omega) (by omega)]
      refine congrArg some (decide_eq_decide.2 ?_)
      rw [List.mem_cons]
      exact ⟨.inr, fun hh => hh.elim (fun e => absurd e.symm h) id⟩
theorem is_calls (A : Option Addr) (c : Nat) (xs : List Int) (n : Int) (w : World) (hC : Kd.C (Kd.int .i64) w A xs.length xs) (hc : xs.length ≤ c) (hx : xs.length ≤ 1000) :
    Calls Try.prog 117 #[.slice A xs.length c, .int .i64 n] w fun e w' => e = .returned (.bool (decide (n ∈ xs))) ∧ Drawn0 w w' := by
  refine dowelref05_is.calls (xs.length + 1) A c xs n _ w hC hc ?_
  unfold dowelref05_is.f
  have h := is_loop xs n hx xs.length (xs.length + 1) 0 (by omega) (by omega)
  rw [List.drop_zero] at h
  exact h
theorem is_quiet (A : Option Addr) (n c : Nat) (xs : List Int) (v : Int) (hn : n = xs.length) (w : World) (hC : Kd.C (Kd.int .i64) w A xs.length xs) (hc : n ≤ c) (hx : xs.length ≤ 1000) (b : Bool) (hb : decide (v ∈ xs) = b) (m : Nat) :
    Calls Try.prog 117 #[.slice A n c, .int .i64 v] (w.drewN m) fun e w'' => e = .returned (.bool b) ∧ ∃ m, w'' = w.drewN m := by
  subst hn
  subst hb
  exact Calls.quiet_of ((is_calls A c xs v (w.drewN m) (Kd.C_below hC (pw_below_drewN (Below.refl _ _) m)) hc hx).mono fun _ _ h => ⟨h.1, h.2.out⟩)
theorem is_below (A : Option Addr) (n c : Nat) (xs : List Int) (v : Int) (hn : n = xs.length) (w0 : World) (hC : Kd.C (Kd.int .i64) w0 A xs.length xs) (hc : n ≤ c) (hx : xs.length ≤ 1000) (b : Bool) (hb : decide (v ∈ xs) = b) (w : World) (hB : Below w0.heap.size w0 w) :
    Calls Try.prog 117 #[.slice A n c, .int .i64 v] w fun e w' => e = .returned (.bool b) ∧ Drawn0 w w' := by
  subst hn
  subst hb
  exact is_calls A c xs v w (Kd.C_below hC hB) hc hx
/-- May these be places of data, each once? -/
def goodAt (base data : Int) (l others : List Int) (i : Nat) (v : Int) : Prop := base ≤ v ∧ v < data ∧ v % 4 = 0 ∧ v ∉ l.take i ∧ v ∉ others
instance (base data : Int) (l others : List Int) (i : Nat) (v : Int) : Decidable (goodAt base data l others i v) := by unfold goodAt; infer_instance
def Fine (base data : Int) (l others : List Int) : Prop := ∀ (i : Nat) (v : Int), l[i]? = some v → goodAt base data l others i v
set_option maxRecDepth 100000 in
set_option maxHeartbeats 4000000 in
theorem fine_calls (b0 b1 b2 b3 : Int) (A4 : Option Addr) (n4 c4 : Nat) (A5 : Option Addr) (n5 c5 : Nat) (A1 : Option Addr) (c1 : Nat) (l : List Int) (A2 : Option Addr) (c2 : Nat) (others : List Int) (w : World)
    (h1 : Kd.C (Kd.int .i64) w A1 l.length l) (hc1 : l.length ≤ c1) (h2 : Kd.C (Kd.int .i64) w A2 others.length others) (hc2 : others.length ≤ c2) (hl : l.length ≤ 100) (ho : others.length ≤ 100) (hb : 0 ≤ b0) (r : Bool) (hr : r = true ↔ Fine b0 b1 l others) :
    Calls Try.prog 100 #[.agg #[.int .i64 b0, .int .i64 b1, .int .i64 b2, .int .i64 b3, .slice A4 n4 c4, .slice A5 n5 c5], .slice A1 l.length c1, .slice A2 others.length c2] w fun e w' => e = .returned (.bool r) ∧ Below w.heap.size w w' := by
  have H1 := Aside0.mk (And.intro h1 hc1)
  have H2 := Aside0.mk (And.intro h2 hc2)
  have HL := Aside0.mk (And.intro hl ho)
  have HR := Aside0.mk hr
  clear h1 hc1 h2 hc2 hl ho hr
  have hu82 := Try.underlying82
  go_enter Try.func100, Try.ntmps100
  go_wp2_with fail
  refine wp_abs (fun W => Sat w W [ABlk w.heap.size (.cells #[.int .i64 b0, .int .i64 b1, .int .i64 b2, .int .i64 b3, .slice A4 n4 c4, .slice A5 n5 c5] 82 (0, 0))]) (blk_new (Sat.start w) _) (fun W hW => ?_)
  replace hW := Aside0.mk hW
  go_loopg [7] (l.length + 1) (fun kq v7 w' => ∃ i : Nat, v7 = .int .i64 i ∧ Aside0 (i ≤ l.length ∧ l.length - i < kq) ∧ Aside0 (∀ (j : Nat) (v : Int), j < i → l[j]? = some v → goodAt b0 b1 l others j v) ∧ Aside0 (Sat w w' [ABlk w.heap.size (.cells #[.int .i64 b0, .int .i64 b1, .int .i64 b2, .int .i64 b3, .slice A4 n4 c4, .slice A5 n5 c5] 82 (0, 0))]))
  case atStart => exact ⟨0, rfl, ⟨by omega⟩, ⟨fun j v h => absurd h (by omega)⟩, hW⟩
  case round =>
    clear hW
    obtain ⟨i, rfl, Hi, HG, HW⟩ := hrel
    have x0 : wr.cell? ⟨w.heap.size, 0, none⟩ = some (.int .i64 b0) := get_cell (blk_at HW.out) 0
    have x1 : wr.cell? ⟨w.heap.size, 1, none⟩ = some (.int .i64 b1) := get_cell (blk_at HW.out) 1
    by_cases hlt : i < l.length
    · obtain ⟨v, hv⟩ : ∃ v, l[i]? = some v := ⟨_, List.getElem?_eq_getElem hlt⟩
      obtain ⟨ad, eA, y0⟩ := Kd.at_int (Kd.C_below H1.out.1 HW.out.toBelow) (i : Int) (by omega) (by omega)
      have ev : rd l (i : Int) = v := by
        have := (List.getElem?_eq_some_iff.1 hv).2
        simp [rd, hlt, this]
      rw [ev] at y0
      simp only [Int.toNat_natCast] at y0
      subst eA
      have HV := Aside0.mk hv
      have q1 : (i < l.length) = True := eq_true hlt
      have q2 : 0 ≤ (i : Int) := by omega
      have q3 : (i : Int) ≤ 100 := by have := HL.out.1; omega
      clear hlt hv ev
      have HBAD := Aside0.mk (show ¬ goodAt b0 b1 l others i v → r = false from fun hn => by
        cases r with
        | false => rfl
        | true => exact absurd (HR.out.1 rfl i v HV.out) hn)
      by_cases g1 : v < b0
      · have e : r = false := HBAD.out (fun h => by have := h.1; omega)
        have d1 : (v < b0) = True := eq_true g1
        have d1' : decide (v < b0) = true := decide_eq_true g1
        subst e
        clear g1
        go_wp2_with fail
        go_quiet (fail)
        go_wp2_with fail
        go_ret
        exact ⟨by rfl, (HW.out.drewN _).toBelow⟩
      have d1 : (v < b0) = False := eq_false g1
      have d1' : decide (v < b0) = false := decide_eq_false g1
      have p1 : 0 ≤ v := by omega
      by_cases g2 : b1 ≤ v
      · have e : r = false := HBAD.out (fun h => by have := h.2.1; omega)
        have d2 : (b1 ≤ v) = True := eq_true g2
        have d2' : decide (b1 ≤ v) = true := decide_eq_true g2
        subst e
        clear g1 g2
        go_wp2_with fail
        go_quiet (fail)
        go_wp2_with fail
        go_ret
        exact ⟨by rfl, (HW.out.drewN _).toBelow⟩
      have d2 : (b1 ≤ v) = False := eq_false g2
      have d2' : decide (b1 ≤ v) = false := decide_eq_false g2
      by_cases g3 : v % 4 = 0
      · have d3' : (v % 4 != 0) = false := by simpa using g3
        have HGD := Aside0.mk (show b0 ≤ v ∧ v < b1 ∧ v % 4 = 0 from ⟨by omega, by omega, g3⟩)
        clear g1 g2 g3
        have HT := Aside0.mk (show Kd.C (Kd.int .i64) wr (some ad) (l.take i).length (l.take i) ∧ i = (l.take i).length ∧ i ≤ c1 ∧ (l.take i).length ≤ 1000 from by
          have hi := of_eq_true q1
          have e : (l.take i).length = i := by rw [List.length_take]; omega
          have hc := Kd.C_below H1.out.1 HW.out.toBelow
          refine ⟨⟨rfl, by rw [e]; have := HL.out.1; omega, fun hp => ?_⟩, e.symm, by have := H1.out.2; omega, by have := HL.out.1; omega⟩
          obtain ⟨ad', ea, hcc⟩ := hc.2.2 (by omega)
          refine ⟨ad', ea, fun j p hj => ?_⟩
          rw [List.getElem?_take] at hj
          split at hj
          · exact hcc j p hj
          · cases hj)
        have HO := Aside0.mk (Kd.C_below H2.out.1 HW.out.toBelow)
        have q4 : (i ≤ c1) = True := eq_true HT.out.2.2.1
        go_wp2_with fail
        go_quiet (fail)
        go_wp2_with fail
        have y0n : ∀ m, (wr.drewN m).cell? (ad.add i) = some (.int .i64 v) := fun m => pw_cell_below (pw_below_drewN (Below.refl _ _) m) y0
        have y0d : ∀ m, (wr.drewN m).drew.cell? (ad.add i) = some (.int .i64 v) := fun m => pw_cell_below (below_drew (pw_below_drewN (Below.refl _ _) m)) y0
        obtain ⟨t1, ht1⟩ : ∃ t1, decide (v ∈ l.take i) = t1 := ⟨_, rfl⟩
        have HT1 := Aside0.mk ht1
        clear ht1
        go_region_held3 (fun w' => w'.cell? (ad.add i) = some (.int .i64 v)) (first | exact y0 | exact y0n _ | exact y0d _ | exact y6) (
          ((with_reducible refine (is_below (some ad) i c1 (l.take i) v HT.out.2.1 wr HT.out.1 HT.out.2.2.1 HT.out.2.2.2 t1 HT1.out _ ?hB).mono ?_); (case hB => first | exact pw_below_drewN (Below.refl _ _) _ | exact below_drew (pw_below_drewN (Below.refl _ _) _)); rintro e6 w6 ⟨rfl, hd6⟩; have y6 : w6.cell? (ad.add i) = some (.int .i64 v) := pw_cell_below hd6.below (by first | exact y0n _ | exact y0d _); have HW6 := Aside0.mk (show Sat w w6 _ from (by first | exact (HW.out.drewN _).drawn hd6 | exact (HW.out.drewN _).drew.drawn hd6)); clear hd6))
        all_goals go_wp2_with fail
        obtain ⟨t2, ht2⟩ : ∃ t2, decide (v ∈ others) = t2 := ⟨_, rfl⟩
        have hq := is_calls A2 c2 others v w6 (Kd.C_below H2.out.1 HW6.out.toBelow) H2.out.2 (by have := HL.out.2; omega)
        rw [ht2] at hq
        have HT2 := Aside0.mk ht2
        clear ht2
        (with_reducible refine hq.mono ?_)
        clear hq
        rintro e7 w7 ⟨rfl, hd7⟩
        have HW7 := Aside0.mk (HW6.out.drawn hd7)
        clear hd7
        cases t1 with
        | true =>
          have e : r = false := HBAD.out (fun h => h.2.2.2.1 (of_decide_eq_true HT1.out))
          subst e
          go_wp2_with fail
          go_ret
          exact ⟨by rfl, HW7.out.toBelow⟩
        | false =>
          cases t2 with
          | true =>
            have e : r = false := HBAD.out (fun h => h.2.2.2.2 (of_decide_eq_true HT2.out))
            subst e
            go_wp2_with fail
            go_ret
            exact ⟨by rfl, HW7.out.toBelow⟩
          | false =>
            go_wp2_with fail
            go_roundg (gk - 1)
            case measure => have := Hi.out; have := of_eq_true q1; omega
            case rel => exact ⟨i + 1, by go_num, ⟨by have := Hi.out; have := of_eq_true q1; omega⟩, ⟨fun j u hj hu => by
              by_cases hji : j = i
              · subst hji
                have := HV.out
                rw [hu] at this
                injection this with this
                subst this
                exact ⟨HGD.out.1, HGD.out.2.1, HGD.out.2.2, of_decide_eq_false HT1.out, of_decide_eq_false HT2.out⟩
              · exact HG.out j u (by omega) hu⟩, HW7⟩
      · have e : r = false := HBAD.out (fun h => g3 h.2.2.1)
        have d3 : (v % 4 = 0) = False := eq_false g3
        have d3' : (v % 4 != 0) = true := by simpa using g3
        subst e
        clear g1 g2 g3
        go_wp2_with fail
        go_quiet (fail)
        go_wp2_with fail
        go_ret
        exact ⟨by rfl, (HW.out.drewN _).toBelow⟩
    · have e : r = true := HR.out.2 (fun j v hj => HG.out j v (by have := (List.getElem?_eq_some_iff.1 hj).1; omega) hj)
      have q1 : (i < l.length) = False := eq_false hlt
      subst e
      clear hlt
      go_wp2_with fail
      go_ret
      exact ⟨by rfl, HW.out.toBelow⟩
end Go.Proofs.Ytkeijpngfnmjoaa.MineZone
end
section
namespace Go.Proofs.Ytkeijpngfnmjoaa.MineZone
open Go.RowKit Go.MapKept Go.Proofs.YtkeijpngfnmjoaaW.PrintWords Go.Proofs.YtkeijpngfnmjoaaW.PrintLast Go.Proofs.YtkeijpngfnmjoaaW.PrintMore Go.Proofs.Ytkeijpngfnmjoaa.MineBase Go.Proofs.Ytkeijpngfnmjoaa.MineSep Go.Proofs.Ytkeijpngfnmjoaa.MineRows Go.Proofs.Ytkeijpngfnmjoaa.MineGen Go.Proofs.Ytkeijpngfnmjoaa.QZonePlays
attribute [local go_sem ↓] Go.wp_at_zero Go.wp_at_succ
set_option linter.unusedVariables false
set_option linter.unusedSimpArgs false
/-- May a zone's places be? -/
def Places (b0 b1 b2 b3 : Int) : Prop := 272 ≤ b0 ∧ b0 ≤ b1 ∧ b1 ≤ b2 ∧ b2 ≤ b3 ∧ b3 ≤ 65536 ∧ b0 ≠ b3 ∧ b0 % 4 = 0 ∧ b1 % 4 = 0 ∧ b2 % 4 = 0 ∧ b3 % 4 = 0
set_option maxRecDepth 100000 in
set_option maxHeartbeats 4000000 in
theorem May_yes (b0 b1 b2 b3 : Int) (A4 : Option Addr) (c4 : Nat) (ps : List Int) (A5 : Option Addr) (c5 : Nat) (qs : List Int) (w : World)
    (h1 : Kd.C (Kd.int .i64) w A4 ps.length ps) (hc1 : ps.length ≤ c4) (h2 : Kd.C (Kd.int .i64) w A5 qs.length qs) (hc2 : qs.length ≤ c5) (hl : ps.length ≤ 100) (ho : qs.length ≤ 100) (hP : Places b0 b1 b2 b3) (r1 r2 : Bool) (hr1 : r1 = true ↔ Fine b0 b1 ps qs) (hr2 : r2 = true ↔ Fine b0 b1 qs ps) :
    Calls Try.prog 76 #[.agg #[.int .i64 b0, .int .i64 b1, .int .i64 b2, .int .i64 b3, .slice A4 ps.length c4, .slice A5 qs.length c5]] w fun e w' => e = .returned (.bool (r1 && r2)) ∧ Below w.heap.size w w' := by
  have H1 := Aside0.mk (And.intro h1 hc1)
  have H2 := Aside0.mk (And.intro h2 hc2)
  have HL := Aside0.mk (And.intro hl ho)
  have HR := Aside0.mk (And.intro hr1 hr2)
  obtain ⟨p1, p2, p3, p4, p5, p6, p7, p8, p9, p10⟩ := hP
  have e1 : (b0 < 272) = False := eq_false (by omega)
  have e2 : (b1 < b0) = False := eq_false (by omega)
  have e3 : (b2 < b1) = False := eq_false (by omega)
  have e4 : (b3 < b2) = False := eq_false (by omega)
  have e5 : (65536 < b3) = False := eq_false (by omega)
  have e6 : (b0 = b3) = False := eq_false p6
  have e6' : (b0 == b3) = false := by simpa using p6
  have d1 : 0 ≤ b0 := by omega
  have d2 : 0 ≤ b1 := by omega
  have d3 : 0 ≤ b2 := by omega
  have d4 : 0 ≤ b3 := by omega
  have f1 : (b0 % 4 != 0) = false := by simpa using p7
  have f2 : (b1 % 4 != 0) = false := by simpa using p8
  have f3 : (b2 % 4 != 0) = false := by simpa using p9
  have f4 : (b3 % 4 != 0) = false := by simpa using p10
  clear h1 hc1 h2 hc2 hl ho hr1 hr2 p1 p2 p3 p4 p5 p6
  have hu82 := Try.underlying82
  go_enter Try.func76, Try.ntmps76
  go_wp2_with fail
  have HW := Aside0.mk (blk_new (Sat.start w) (.cells #[.int .i64 b0, .int .i64 b1, .int .i64 b2, .int .i64 b3, .slice A4 ps.length c4, .slice A5 qs.length c5] 82))
  generalize w.alloc (.cells #[.int .i64 b0, .int .i64 b1, .int .i64 b2, .int .i64 b3, .slice A4 ps.length c4, .slice A5 qs.length c5] 82) = W at *
  have hq := fine_calls b0 b1 b2 b3 A4 ps.length c4 A5 qs.length c5 A4 c4 ps A5 c5 qs W (Kd.C_below H1.out.1 HW.out.toBelow) H1.out.2 (Kd.C_below H2.out.1 HW.out.toBelow) H2.out.2 HL.out.1 HL.out.2 d1 r1 HR.out.1
  (with_reducible refine hq.mono ?_)
  clear hq
  rintro e7 w7 ⟨rfl, hb7⟩
  have HW7 := Aside0.mk (HW.out.below hb7)
  clear hb7
  have y0 : w7.cell? ⟨w.heap.size, 0, none⟩ = some (.int .i64 b0) := get_cell (blk_at HW7.out) 0
  have y1 : w7.cell? ⟨w.heap.size, 1, none⟩ = some (.int .i64 b1) := get_cell (blk_at HW7.out) 1
  have y2 : w7.cell? ⟨w.heap.size, 2, none⟩ = some (.int .i64 b2) := get_cell (blk_at HW7.out) 2
  have y3 : w7.cell? ⟨w.heap.size, 3, none⟩ = some (.int .i64 b3) := get_cell (blk_at HW7.out) 3
  have y4 : w7.cell? ⟨w.heap.size, 4, none⟩ = some (.slice A4 ps.length c4) := get_cell (blk_at HW7.out) 4
  have y5 : w7.cell? ⟨w.heap.size, 5, none⟩ = some (.slice A5 qs.length c5) := get_cell (blk_at HW7.out) 5
  go_wp2_with fail
  have hq := fine_calls b0 b1 b2 b3 A4 ps.length c4 A5 qs.length c5 A5 c5 qs A4 c4 ps w7 (Kd.C_below H2.out.1 HW7.out.toBelow) H2.out.2 (Kd.C_below H1.out.1 HW7.out.toBelow) H1.out.2 HL.out.2 HL.out.1 d1 r2 HR.out.2
  (with_reducible refine hq.mono ?_)
  clear hq
  rintro e8 w8 ⟨rfl, hb8⟩
  have HW8 := Aside0.mk (HW7.out.below hb8)
  clear hb8
  cases r1 with
  | true =>
    go_wp2_with fail
    go_ret
    exact ⟨by rfl, HW8.out.toBelow⟩
  | false =>
    go_wp2_with fail
    go_ret
    exact ⟨by rfl, HW8.out.toBelow⟩
set_option maxRecDepth 100000 in
set_option maxHeartbeats 4000000 in
theorem May_no (b0 b1 b2 b3 : Int) (v4 v5 : Value) (A4 : Option Addr) (n4 c4 : Nat) (A5 : Option Addr) (n5 c5 : Nat) (w : World) (hP : ¬ Places b0 b1 b2 b3) :
    Calls Try.prog 76 #[.agg #[.int .i64 b0, .int .i64 b1, .int .i64 b2, .int .i64 b3, .slice A4 n4 c4, .slice A5 n5 c5]] w fun e w' => e = .returned (.bool false) ∧ Below w.heap.size w w' := by
  have hu82 := Try.underlying82
  by_cases g0 : b0 < 272
  · have e1 : (b0 < 272) = True := eq_true g0
    clear hP g0
    go_enter Try.func76, Try.ntmps76
    go_wp2_with fail
    go_ret
    exact ⟨by rfl, (blk_new (Sat.start w) _).toBelow⟩
  have e1 : (b0 < 272) = False := eq_false g0
  have d1 : 0 ≤ b0 := by omega
  by_cases g1 : b1 < b0
  · have e2 : (b1 < b0) = True := eq_true g1
    clear hP g0 g1
    go_enter Try.func76, Try.ntmps76
    go_wp2_with fail
    go_ret
    exact ⟨by rfl, (blk_new (Sat.start w) _).toBelow⟩
  have e2 : (b1 < b0) = False := eq_false g1
  by_cases g2 : b2 < b1
  · have e3 : (b2 < b1) = True := eq_true g2
    clear hP g0 g1 g2
    go_enter Try.func76, Try.ntmps76
    go_wp2_with fail
    go_ret
    exact ⟨by rfl, (blk_new (Sat.start w) _).toBelow⟩
  have e3 : (b2 < b1) = False := eq_false g2
  by_cases g3 : b3 < b2
  · have e4 : (b3 < b2) = True := eq_true g3
    clear hP g0 g1 g2 g3
    go_enter Try.func76, Try.ntmps76
    go_wp2_with fail
    go_ret
    exact ⟨by rfl, (blk_new (Sat.start w) _).toBelow⟩
  have e4 : (b3 < b2) = False := eq_false g3
  by_cases g4 : 65536 < b3
  · have e5 : (65536 < b3) = True := eq_true g4
    clear hP g0 g1 g2 g3 g4
    go_enter Try.func76, Try.ntmps76
    go_wp2_with fail
    go_ret
    exact ⟨by rfl, (blk_new (Sat.start w) _).toBelow⟩
  have e5 : (65536 < b3) = False := eq_false g4
  by_cases g5 : b0 = b3
  · have e6 : (b0 = b3) = True := eq_true g5
    have e6' : (b0 == b3) = true := by simpa using g5
    clear hP g0 g1 g2 g3 g4 g5
    go_enter Try.func76, Try.ntmps76
    go_wp2_with fail
    go_ret
    exact ⟨by rfl, (blk_new (Sat.start w) _).toBelow⟩
  have e6 : (b0 = b3) = False := eq_false g5
  have e6' : (b0 == b3) = false := by simpa using g5
  have d2 : 0 ≤ b1 := by omega
  have d3 : 0 ≤ b2 := by omega
  have d4 : 0 ≤ b3 := by omega
  by_cases g6 : ¬ b0 % 4 = 0
  · have f0 : (b0 % 4 != 0) = true := by simpa using g6
    have h0 : (b0 % 4 = 0) = False := eq_false g6
    clear hP g0 g1 g2 g3 g4 g5 g6
    go_enter Try.func76, Try.ntmps76
    go_wp2_with fail
    go_ret
    exact ⟨by rfl, (blk_new (Sat.start w) _).toBelow⟩
  replace g6 : b0 % 4 = 0 := Decidable.not_not.1 g6
  have f0 : (b0 % 4 != 0) = false := by simpa using g6
  by_cases g7 : ¬ b1 % 4 = 0
  · have f1 : (b1 % 4 != 0) = true := by simpa using g7
    have h1 : (b1 % 4 = 0) = False := eq_false g7
    clear hP g0 g1 g2 g3 g4 g5 g6 g7
    go_enter Try.func76, Try.ntmps76
    go_wp2_with fail
    go_ret
    exact ⟨by rfl, (blk_new (Sat.start w) _).toBelow⟩
  replace g7 : b1 % 4 = 0 := Decidable.not_not.1 g7
  have f1 : (b1 % 4 != 0) = false := by simpa using g7
  by_cases g8 : ¬ b2 % 4 = 0
  · have f2 : (b2 % 4 != 0) = true := by simpa using g8
    have h2 : (b2 % 4 = 0) = False := eq_false g8
    clear hP g0 g1 g2 g3 g4 g5 g6 g7 g8
    go_enter Try.func76, Try.ntmps76
    go_wp2_with fail
    go_ret
    exact ⟨by rfl, (blk_new (Sat.start w) _).toBelow⟩
  replace g8 : b2 % 4 = 0 := Decidable.not_not.1 g8
  have f2 : (b2 % 4 != 0) = false := by simpa using g8
  have g9 : ¬ b3 % 4 = 0 := fun h => hP ⟨by omega, by omega, by omega, by omega, by omega, g5, g6, g7, g8, h⟩
  have f3 : (b3 % 4 != 0) = true := by simpa using g9
  have h3 : (b3 % 4 = 0) = False := eq_false g9
  clear hP g0 g1 g2 g3 g4 g5 g9
  go_enter Try.func76, Try.ntmps76
  go_wp2_with fail
  go_ret
  exact ⟨by rfl, (blk_new (Sat.start w) _).toBelow⟩
end Go.Proofs.Ytkeijpngfnmjoaa.MineZone
end
section
namespace Go.Proofs.Ytkeijpngfnmjoaa.MineZone
open Go.RowKit Go.MapKept Go.Proofs.YtkeijpngfnmjoaaW.PrintWords Go.Proofs.YtkeijpngfnmjoaaW.PrintLast Go.Proofs.YtkeijpngfnmjoaaW.PrintMore Go.Proofs.Ytkeijpngfnmjoaa.MineBase Go.Proofs.Ytkeijpngfnmjoaa.MineSep Go.Proofs.Ytkeijpngfnmjoaa.MineRows Go.Proofs.Ytkeijpngfnmjoaa.MineGen Go.Proofs.Ytkeijpngfnmjoaa.QZonePlays Go.Proofs.Ytkeijpngfnmjoaa.MineMap
set_option linter.unusedVariables false
set_option linter.unusedSimpArgs false
instance (a b c d : Int) : Decidable (Places a b c d) := by unfold Places; infer_instance
/-- May a zone be? -/
def Ok (x : S82) : Prop := Places x.f0 x.f1 x.f2 x.f3 ∧ Fine x.f0 x.f1 x.f4 x.f5 ∧ Fine x.f0 x.f1 x.f5 x.f4
/-- Do two zones lie in each other? -/
def clash (x y : S82) : Bool := decide (y.f0 < x.f3) && decide (x.f0 < y.f3)
def Inv (zs : List S82) : Prop := (∀ x ∈ zs, Ok x) ∧ zs.Pairwise (fun a b => a.f3 ≤ b.f0)
def low (x y : S82) : Bool := decide (y.f0 < x.f0)
def addZ (zs : List S82) (x : S82) : List S82 := zs.takeWhile (low x) ++ x :: zs.dropWhile (low x)
def remZ (zs : List S82) (b : Int) : List S82 := zs.filter (fun y => decide (y.f0 ≠ b))
theorem Ok.lt {x : S82} (h : Ok x) : x.f0 < x.f3 := by
  obtain ⟨⟨h1, h2, h3, h4, h5, h6, _⟩, _⟩ := h
  omega
theorem Inv.rise {zs : List S82} (h : Inv zs) : zs.Pairwise (fun a b => a.f0 < b.f0) := by
  obtain ⟨h1, h2⟩ := h
  refine List.Pairwise.imp_of_mem (fun {a b} ha hb hab => ?_) h2
  have := (h1 a ha).lt
  omega
theorem drop_high (x : S82) : ∀ (zs : List S82), zs.Pairwise (fun a b => a.f0 < b.f0) → ∀ y ∈ zs.dropWhile (low x), x.f0 ≤ y.f0
  | [], _, y, hy => by simp at hy
  | z :: zs, hp, y, hy => by
    have hp' := List.pairwise_cons.1 hp
    by_cases hz : low x z = true
    · rw [List.dropWhile_cons_of_pos hz] at hy
      exact drop_high x zs hp'.2 y hy
    · rw [List.dropWhile_cons_of_neg hz] at hy
      have hz' : x.f0 ≤ z.f0 := by simpa [low] using hz
      rcases List.mem_cons.1 hy with rfl | hy
      · exact hz'
      · have := hp'.1 y hy; omega
theorem take_low (x : S82) : ∀ (zs : List S82), ∀ y ∈ zs.takeWhile (low x), y.f0 < x.f0
  | [], y, hy => by simp at hy
  | z :: zs, y, hy => by
    by_cases hz : low x z = true
    · rw [List.takeWhile_cons_of_pos hz] at hy
      rcases List.mem_cons.1 hy with rfl | hy
      · simpa [low] using hz
      · exact take_low x zs y hy
    · rw [List.takeWhile_cons_of_neg hz] at hy
      simp at hy
theorem mem_addZ {zs : List S82} {x y : S82} : y ∈ addZ zs x ↔ y = x ∨ y ∈ zs := by
  unfold addZ
  have := List.takeWhile_append_dropWhile (p := low x) (l := zs)
  rw [List.mem_append, List.mem_cons]
  constructor
  · rintro (h | h | h)
    · exact .inr (this ▸ List.mem_append_left _ h)
    · exact .inl h
    · exact .inr (this ▸ List.mem_append_right _ h)
  · rintro (h | h)
    · exact .inr (.inl h)
    · rw [← this, List.mem_append] at h
      exact h.elim .inl (fun h => .inr (.inr h))
theorem inv_add {zs : List S82} {x : S82} (h : Inv zs) (hx : Ok x) (hc : ∀ y ∈ zs, clash x y = false) : Inv (addZ zs x) := by
  refine ⟨fun y hy => ?_, ?_⟩
  · rcases mem_addZ.1 hy with rfl | hy
    · exact hx
    · exact h.1 y hy
  · have e := List.takeWhile_append_dropWhile (p := low x) (l := zs)
    have hp := h.2
    have hr := h.rise
    rw [← e, List.pairwise_append] at hp
    refine List.pairwise_append.2 ⟨hp.1, List.pairwise_cons.2 ⟨fun y hy => ?_, hp.2.1⟩, fun a ha b hb => ?_⟩
    · have hm : y ∈ zs := e ▸ List.mem_append_right _ hy
      have h1 := drop_high x zs hr y hy
      have h2 := hc y hm
      have h3 := (h.1 y hm).lt
      simp [clash] at h2
      by_cases h4 : y.f0 < x.f3
      · have := h2 h4; omega
      · omega
    · rcases List.mem_cons.1 hb with rfl | hb
      · have hm : a ∈ zs := e ▸ List.mem_append_left _ ha
        have h1 := take_low _ zs a ha
        have h2 := hc a hm
        have h3 := hx.lt
        simp [clash] at h2
        exact h2 (by omega)
      · exact hp.2.2 a ha b hb
theorem addZ_perm (zs : List S82) (x : S82) : (addZ zs x).Perm (zs ++ [x]) := by
  unfold addZ
  have e := List.takeWhile_append_dropWhile (p := low x) (l := zs)
  calc (zs.takeWhile (low x) ++ x :: zs.dropWhile (low x)).Perm (x :: (zs.takeWhile (low x) ++ zs.dropWhile (low x))) := List.perm_middle
    _ = x :: zs := by rw [e]
    List.Perm _ (zs ++ [x]) := (List.perm_append_singleton x zs).symm
theorem rise_unique : ∀ {a b : List S82}, a.Perm b → a.Pairwise (fun x y => x.f0 < y.f0) → b.Pairwise (fun x y => x.f0 < y.f0) → a = b
  | [], b, hp, _, _ => (List.nil_perm.1 hp).symm ▸ rfl
  | x :: a, [], hp, _, _ => absurd hp.length_eq (by simp)
  | x :: a, y :: b, hp, ha, hb => by
    have ha' := List.pairwise_cons.1 ha
    have hb' := List.pairwise_cons.1 hb
    have hxy : x = y := by
      have h1 : x ∈ y :: b := hp.mem_iff.1 List.mem_cons_self
      have h2 : y ∈ x :: a := hp.mem_iff.2 List.mem_cons_self
      rcases List.mem_cons.1 h1 with h1 | h1
      · exact h1
      · rcases List.mem_cons.1 h2 with h2 | h2
        · exact h2.symm
        · have := hb'.1 x h1; have := ha'.1 y h2; omega
    subst hxy
    rw [rise_unique ((List.perm_cons x).1 hp) ha'.2 hb'.2]
theorem addZ_unique {zs l : List S82} {x : S82} (h : Inv (addZ zs x)) (hp : l.Perm (zs ++ [x])) (hs : l.Pairwise (fun a b => a.f0 ≤ b.f0)) : l = addZ zs x := by
  have hq : l.Perm (addZ zs x) := hp.trans (addZ_perm zs x).symm
  refine rise_unique hq ?_ h.rise
  have hne : l.Pairwise (fun a b => a.f0 ≠ b.f0) := (hq.pairwise_iff (fun h => Ne.symm h)).2 (h.rise.imp (fun h => by omega))
  exact (hs.and hne).imp (fun h => by omega)
theorem inv_rem {zs : List S82} (b : Int) (h : Inv zs) : Inv (remZ zs b) := ⟨fun y hy => h.1 y (List.mem_filter.1 hy).1, h.2.filter _⟩
theorem rem_hit {l1 l2 : List S82} {y : S82} (h : Inv (l1 ++ y :: l2)) : remZ (l1 ++ y :: l2) y.f0 = l1 ++ l2 := by
  have hr := List.pairwise_append.1 h.rise
  have h2 := List.pairwise_cons.1 hr.2.1
  have e1 : l1.filter (fun z => decide (z.f0 ≠ y.f0)) = l1 := List.filter_eq_self.2 (fun z hz => by
    have := hr.2.2 z hz y List.mem_cons_self
    exact decide_eq_true (by omega))
  have e2 : l2.filter (fun z => decide (z.f0 ≠ y.f0)) = l2 := List.filter_eq_self.2 (fun z hz => by
    have := h2.1 z hz
    exact decide_eq_true (by omega))
  unfold remZ
  rw [List.filter_append, e1, List.filter_cons_of_neg (by simp), e2]
theorem rem_miss {zs : List S82} {b : Int} (h : ∀ y ∈ zs, y.f0 ≠ b) : remZ zs b = zs := List.filter_eq_self.2 (fun z hz => decide_eq_true (h z hz))
/-! ### cells -/
def cellK (zs : List S82) (n : Int) : Int := if zs.any (fun z => decide (n ∈ z.f4)) then 1 else if zs.any (fun z => decide (n ∈ z.f5)) then 2 else 0
/-- The map of cells. -/
def CellsOf (zs : List S82) (F : List (Int × Value)) : Prop := (keys F).Nodup ∧ ∀ n, lookM F n = if cellK zs n = 0 then none else some (.int .i64 (cellK zs n))
theorem fine_mem {b d : Int} {l o : List Int} (h : Fine b d l o) {n : Int} (hn : n ∈ l) : b ≤ n ∧ n < d ∧ n % 4 = 0 ∧ n ∉ o := by
  obtain ⟨i, hi⟩ := List.mem_iff_getElem?.1 hn
  have := h i n hi
  exact ⟨this.1, this.2.1, this.2.2.1, this.2.2.2.2⟩
theorem Ok.cell {x : S82} (h : Ok x) {n : Int} (hn : n ∈ x.f4 ∨ n ∈ x.f5) : x.f0 ≤ n ∧ n < x.f1 ∧ n % 4 = 0 ∧ n < x.f3 ∧ 272 ≤ n := by
  obtain ⟨⟨h1, h2, h3, h4, h5, h6, _⟩, hp, hq⟩ := h
  rcases hn with hn | hn
  · have := fine_mem hp hn; omega
  · have := fine_mem hq hn; omega
theorem Ok.apart {x : S82} (h : Ok x) {n : Int} (h4 : n ∈ x.f4) (h5 : n ∈ x.f5) : False := (fine_mem h.2.1 h4).2.2.2 h5
theorem cellK_range (zs : List S82) (n : Int) : cellK zs n = 0 ∨ cellK zs n = 1 ∨ cellK zs n = 2 := by
  unfold cellK
  split
  · exact .inr (.inl rfl)
  · split
    · exact .inr (.inr rfl)
    · exact .inl rfl
/-- In an orderly list a cell is of one zone alone. -/
theorem inv_one {zs : List S82} (h : Inv zs) {x y : S82} (hx : x ∈ zs) (hy : y ∈ zs) {n : Int} (h1 : x.f0 ≤ n ∧ n < x.f3) (h2 : y.f0 ≤ n ∧ n < y.f3) : x = y := by
  have hp := h.2
  obtain ⟨i, hi⟩ := List.mem_iff_getElem?.1 hx
  obtain ⟨j, hj⟩ := List.mem_iff_getElem?.1 hy
  obtain ⟨hil, hi⟩ := List.getElem?_eq_some_iff.1 hi
  obtain ⟨hjl, hj⟩ := List.getElem?_eq_some_iff.1 hj
  rw [List.pairwise_iff_getElem] at hp
  rcases Nat.lt_trichotomy i j with hij | hij | hij
  · have := hp i j hil hjl hij
    rw [hi, hj] at this; omega
  · subst hij
    rw [← hi, ← hj]
  · have := hp j i hjl hil hij
    rw [hi, hj] at this; omega
theorem cellK_of4 {zs : List S82} {x : S82} {n : Int} (hx : x ∈ zs) (hn : n ∈ x.f4) : cellK zs n = 1 := by
  unfold cellK
  rw [if_pos (List.any_eq_true.2 ⟨x, hx, decide_eq_true hn⟩)]
theorem cellK_of5 {zs : List S82} (h : Inv zs) {x : S82} {n : Int} (hx : x ∈ zs) (hn : n ∈ x.f5) : cellK zs n = 2 := by
  unfold cellK
  rw [if_neg, if_pos (List.any_eq_true.2 ⟨x, hx, decide_eq_true hn⟩)]
  intro ha
  obtain ⟨y, hy, hy4⟩ := List.any_eq_true.1 ha
  have hy4 := of_decide_eq_true hy4
  have hc := (h.1 x hx).cell (.inr hn)
  have hd := (h.1 y hy).cell (.inl hy4)
  obtain rfl := inv_one h hx hy (n := n) ⟨hc.1, hc.2.2.2.1⟩ ⟨hd.1, hd.2.2.2.1⟩
  exact (h.1 x hx).apart hy4 hn
theorem cellK_of0 {zs : List S82} {n : Int} (h : ∀ x ∈ zs, n ∉ x.f4 ∧ n ∉ x.f5) : cellK zs n = 0 := by
  unfold cellK
  rw [if_neg, if_neg]
  · intro ha
    obtain ⟨y, hy, hy4⟩ := List.any_eq_true.1 ha
    exact (h y hy).2 (of_decide_eq_true hy4)
  · intro ha
    obtain ⟨y, hy, hy4⟩ := List.any_eq_true.1 ha
    exact (h y hy).1 (of_decide_eq_true hy4)
theorem cellK_ne0 {zs : List S82} {n : Int} (h : cellK zs n ≠ 0) : ∃ x ∈ zs, n ∈ x.f4 ∨ n ∈ x.f5 := by
  unfold cellK at h
  split at h
  · rename_i ha
    obtain ⟨y, hy, hy4⟩ := List.any_eq_true.1 ha
    exact ⟨y, hy, .inl (of_decide_eq_true hy4)⟩
  · split at h
    · rename_i _ ha
      obtain ⟨y, hy, hy4⟩ := List.any_eq_true.1 ha
      exact ⟨y, hy, .inr (of_decide_eq_true hy4)⟩
    · exact absurd rfl h
/-- Cells of a zone come to the map. -/
def putAll (F : List (Int × Value)) (v : Value) : List Int → List (Int × Value)
  | [] => F
  | n :: l => putAll (put F n v) v l
theorem look_putAll (v : Value) : ∀ (l : List Int) (F : List (Int × Value)) (n : Int), lookM (putAll F v l) n = if n ∈ l then some v else lookM F n
  | [], F, n => by simp [putAll]
  | m :: l, F, n => by
    rw [putAll, look_putAll v l]
    by_cases h : n ∈ l
    · simp [h]
    · rw [if_neg h]
      by_cases hm : n = m
      · subst hm
        rw [look_put_same]; simp
      · rw [look_put_other _ _ _ _ hm, if_neg (by simp [hm, h])]
theorem nodup_putAll (v : Value) : ∀ (l : List Int) (F : List (Int × Value)), (keys F).Nodup → (keys (putAll F v l)).Nodup
  | [], F, h => h
  | m :: l, F, h => nodup_putAll v l _ (nodup_put F m v h)
def delAll (F : List (Int × Value)) : List Int → List (Int × Value)
  | [] => F
  | n :: l => delAll (del F n) l
theorem look_delAll : ∀ (l : List Int) (F : List (Int × Value)) (n : Int), (keys F).Nodup → lookM (delAll F l) n = if n ∈ l then none else lookM F n
  | [], F, n, _ => by simp [delAll]
  | m :: l, F, n, h => by
    rw [delAll, look_delAll l _ _ (nodup_del F m h)]
    by_cases hl : n ∈ l
    · simp [hl]
    · rw [if_neg hl]
      by_cases hm : n = m
      · subst hm
        rw [look_del_same _ _ h]; simp
      · rw [look_del_other _ _ _ hm, if_neg (by simp [hm, hl])]
theorem nodup_delAll : ∀ (l : List Int) (F : List (Int × Value)), (keys F).Nodup → (keys (delAll F l)).Nodup
  | [], F, h => h
  | m :: l, F, h => nodup_delAll l _ (nodup_del F m h)
theorem cells_nil : CellsOf [] [] := ⟨List.nodup_nil, fun n => rfl⟩
theorem cells_add {zs : List S82} {x : S82} {F : List (Int × Value)} (h : CellsOf zs F) (hi : Inv (addZ zs x)) : CellsOf (addZ zs x) (putAll (putAll F (.int .i64 1) x.f4) (.int .i64 2) x.f5) := by
  refine ⟨nodup_putAll _ _ _ (nodup_putAll _ _ _ h.1), fun n => ?_⟩
  rw [look_putAll, look_putAll, h.2]
  have hx : x ∈ addZ zs x := mem_addZ.2 (.inl rfl)
  by_cases h5 : n ∈ x.f5
  · rw [if_pos h5, cellK_of5 hi hx h5]; rfl
  rw [if_neg h5]
  by_cases h4 : n ∈ x.f4
  · rw [if_pos h4, cellK_of4 hx h4]; rfl
  rw [if_neg h4]
  have e : cellK (addZ zs x) n = cellK zs n := by
    have e4 : (addZ zs x).any (fun z => decide (n ∈ z.f4)) = zs.any (fun z => decide (n ∈ z.f4)) := by
      rw [Bool.eq_iff_iff, List.any_eq_true, List.any_eq_true]
      constructor
      · rintro ⟨y, hy, hd⟩
        rcases mem_addZ.1 hy with rfl | hy
        · exact absurd (of_decide_eq_true hd) h4
        · exact ⟨y, hy, hd⟩
      · rintro ⟨y, hy, hd⟩
        exact ⟨y, mem_addZ.2 (.inr hy), hd⟩
    have e5 : (addZ zs x).any (fun z => decide (n ∈ z.f5)) = zs.any (fun z => decide (n ∈ z.f5)) := by
      rw [Bool.eq_iff_iff, List.any_eq_true, List.any_eq_true]
      constructor
      · rintro ⟨y, hy, hd⟩
        rcases mem_addZ.1 hy with rfl | hy
        · exact absurd (of_decide_eq_true hd) h5
        · exact ⟨y, hy, hd⟩
      · rintro ⟨y, hy, hd⟩
        exact ⟨y, mem_addZ.2 (.inr hy), hd⟩
    unfold cellK
    rw [e4, e5]
  rw [e]
theorem cells_rem {l1 l2 : List S82} {y : S82} {F : List (Int × Value)} (h : CellsOf (l1 ++ y :: l2) F) (hi : Inv (l1 ++ y :: l2)) : CellsOf (l1 ++ l2) (delAll F (y.f4 ++ y.f5)) := by
  refine ⟨nodup_delAll _ _ h.1, fun n => ?_⟩
  rw [look_delAll _ _ _ h.1, h.2]
  have hy : y ∈ l1 ++ y :: l2 := by simp
  have hr := List.pairwise_append.1 hi.rise
  have hr2 := List.pairwise_cons.1 hr.2.1
  by_cases hn : n ∈ y.f4 ++ y.f5
  · rw [if_pos hn, if_pos]
    refine cellK_of0 (fun x hx => ?_)
    have hx' : x ∈ l1 ++ y :: l2 := by
      rcases List.mem_append.1 hx with hx | hx <;> simp [hx]
    have hne : x.f0 ≠ y.f0 := by
      rcases List.mem_append.1 hx with hx | hx
      · have := hr.2.2 x hx y List.mem_cons_self; omega
      · have := hr2.1 x hx; omega
    have hc := (hi.1 y hy).cell (List.mem_append.1 hn)
    have : ∀ (hd : n ∈ x.f4 ∨ n ∈ x.f5), False := fun hd => by
      have hd := (hi.1 x hx').cell hd
      exact hne (by rw [inv_one hi hx' hy (n := n) ⟨hd.1, hd.2.2.2.1⟩ ⟨hc.1, hc.2.2.2.1⟩])
    exact ⟨fun h => this (.inl h), fun h => this (.inr h)⟩
  · rw [if_neg hn]
    have hn' : n ∉ y.f4 ∧ n ∉ y.f5 := by simpa [List.mem_append, not_or] using hn
    have e : cellK (l1 ++ y :: l2) n = cellK (l1 ++ l2) n := by
      unfold cellK
      simp [List.any_append, List.any_cons, hn'.1, hn'.2]
    rw [e]
/-! ### what the document's answers are -/
def inR (a n f t : Int) : Bool := decide (1 ≤ n) && decide (f ≤ a) && decide (a ≤ t - n)
def loadZ (zs : List S82) (a n : Int) : Bool := inR a n 16 272 || zs.any (fun z => inR a n z.f0 z.f2)
def storeZ (zs : List S82) (a n : Int) : Bool := inR a n 16 272 || zs.any (fun z => inR a n z.f0 z.f1)
def runZ (zs : List S82) (a : Int) : Bool := decide (a % 4 = 0) && zs.any (fun z => decide (z.f2 ≤ a) && decide (a < z.f3))
def cellZ (zs : List S82) (a : Int) : Int := if a < 0 then 0 else cellK zs (a / 4 * 4)
def fitsZ (zs : List S82) (k v : Int) : Bool := if k = 0 then true else if k = 1 then decide (v = 0) || zs.any (fun z => decide (z.f0 ≤ v) && decide (v < z.f2)) else decide (k = 2) && (decide (v = 0) || runZ zs v)
end Go.Proofs.Ytkeijpngfnmjoaa.MineZone
end
section
namespace Go.Proofs.Ytkeijpngfnmjoaa.MineZone
open Go.Shelf Go.RowKit Go.MapKept Go.Proofs.YtkeijpngfnmjoaaW.PrintWords Go.Proofs.YtkeijpngfnmjoaaW.PrintLast Go.Proofs.YtkeijpngfnmjoaaW.PrintMore Go.Proofs.Ytkeijpngfnmjoaa.MineBase Go.Proofs.Ytkeijpngfnmjoaa.MineSep Go.Proofs.Ytkeijpngfnmjoaa.MineRows Go.Proofs.Ytkeijpngfnmjoaa.MineGen Go.Proofs.Ytkeijpngfnmjoaa.QZonePlays Go.Proofs.Ytkeijpngfnmjoaa.MineMap
attribute [local go_sem ↓] Go.wp_at_zero Go.wp_at_succ
set_option linter.unusedVariables false
set_option linter.unusedSimpArgs false
/-- What a closure with one thing caught tells of a zone. -/
def Tells1 (g : Nat) (v1 : Value) (p : S82 → Bool) (zs : List S82) (w : World) : Prop :=
  (∀ args W, (callFunc g args).run Try.prog W = .ok (.enter g args) W) ∧ ∀ (x : S82) (A4 : Option Addr) (c4 : Nat) (A5 : Option Addr) (c5 : Nat) (W : World), x ∈ zs → Below w.heap.size w W →
    Calls Try.prog g #[.agg #[.int .i64 x.f0, .int .i64 x.f1, .int .i64 x.f2, .int .i64 x.f3, .slice A4 x.f4.length c4, .slice A5 x.f5.length c5], v1] W fun e w' => e = .returned (.bool (p x)) ∧ Below W.heap.size W w'
set_option maxHeartbeats 2000000 in
set_option maxRecDepth 100000 in
theorem Index1_calls (g : Nat) (v1 : Value) (p : S82 → Bool) (A : Option Addr) (c : Nat) (zs : List S82) (w : World) (hC : k82.C w A zs.length zs) (hn : zs.length ≤ 1000) (ht : Tells1 g v1 p zs w) :
    Calls Try.prog 72 #[.slice A zs.length c, .func (.func g) #[] #[v1]] w fun e w' => e = .returned (.int .i64 (idxP p zs)) ∧ Below w.heap.size w w' := by
  have HC := Aside0.mk hC
  have HT := Aside0.mk ht.2
  have eg := ht.1
  clear hC ht
  go_enter Try.func72, Try.ntmps72
  go_wp2
  go_loopg [8] (zs.length + 1) (fun kq v8 w' => ∃ i : Nat, v8 = .int .i64 i ∧ Aside0 (i ≤ zs.length ∧ zs.length - i < kq) ∧ Aside0 (idxP p zs = shiftI i (idxP p (zs.drop i))) ∧ Aside0 (Below w.heap.size w w'))
  case atStart => exact ⟨0, rfl, ⟨by omega⟩, ⟨by rw [List.drop_zero, shift_zero]⟩, ⟨Below.refl _ _⟩⟩
  case round =>
    obtain ⟨i, rfl, Hi, HR, HB⟩ := hrel
    by_cases hlt : i < zs.length
    · obtain ⟨x, hx⟩ : ∃ x, zs[i]? = some x := ⟨_, List.getElem?_eq_getElem hlt⟩
      obtain ⟨ad, A4, c4, A5, c5, eA, y0, y1, y2, y3, y4, y5, _⟩ := at_T82 (Kd.C_below HC.out HB.out) (i : Int) (by omega) (by omega)
      have ev : rd_T82 zs (i : Int) = x := by
        have := (List.getElem?_eq_some_iff.1 hx).2
        simp [rd_T82, hlt, this]
      rw [ev] at y0 y1 y2 y3 y4 y5
      simp only [Int.toNat_natCast] at y0 y1 y2 y3 y4 y5
      subst eA
      have HG := Aside0.mk hx
      have d1 : decide ((i : Int) < (zs.length : Int)) = true := decide_eq_true (by omega)
      have p1 : (i < zs.length) = True := eq_true hlt
      have p9 : (i : Int) ≤ 1000 := by omega
      have p8 : 0 ≤ (i : Int) := by omega
      clear hlt hx ev
      go_wp2_with fail
      have hq := HT.out x A4 c4 A5 c5 wr (List.mem_iff_getElem?.2 ⟨i, HG.out⟩) HB.out
      (with_reducible refine hq.mono ?_)
      clear hq
      rintro e2 w2 ⟨rfl, hb2⟩
      have HB2 := Aside0.mk (below_step HB.out hb2)
      clear hb2 y0 y1 y2 y3 y4 y5
      cases hq : p x with
      | true =>
        have HQ := Aside0.mk (shift_hit (p := p) HG.out hq)
        clear hq
        go_wp2
        go_ret
        exact ⟨ret_eq (by rw [HR.out, HQ.out]; rfl), HB2.out⟩
      | false =>
        have HQ := Aside0.mk (shift_miss (p := p) HG.out hq)
        clear hq
        go_wp2
        go_roundg (gk - 1)
        case measure => have := Hi.out; omega
        case rel => exact ⟨i + 1, by go_num, ⟨by have := Hi.out; have := of_eq_true p1; omega⟩, ⟨by rw [HR.out, HQ.out]⟩, HB2⟩
    · have hi : i = zs.length := by have := Hi.out; omega
      have d1 : (i < zs.length) = False := eq_false hlt
      have HE := Aside0.mk (show idxP p zs = -1 by rw [HR.out, hi, shift_end])
      clear hi hlt
      go_wp2
      go_ret
      exact ⟨ret_eq (by rw [HE.out]; rfl), HB.out⟩
/-- What a closure with three things caught tells of a zone. -/
def Tells3 (g : Nat) (v1 v2 v3 : Value) (p : S82 → Bool) (zs : List S82) (w : World) : Prop :=
  (∀ args W, (callFunc g args).run Try.prog W = .ok (.enter g args) W) ∧ ∀ (x : S82) (A4 : Option Addr) (c4 : Nat) (A5 : Option Addr) (c5 : Nat) (W : World), x ∈ zs → Below w.heap.size w W →
    Calls Try.prog g #[.agg #[.int .i64 x.f0, .int .i64 x.f1, .int .i64 x.f2, .int .i64 x.f3, .slice A4 x.f4.length c4, .slice A5 x.f5.length c5], v1, v2, v3] W fun e w' => e = .returned (.bool (p x)) ∧ Below W.heap.size W w'
set_option maxHeartbeats 2000000 in
set_option maxRecDepth 100000 in
theorem Index3_calls (g : Nat) (v1 v2 v3 : Value) (p : S82 → Bool) (A : Option Addr) (c : Nat) (zs : List S82) (w : World) (hC : k82.C w A zs.length zs) (hn : zs.length ≤ 1000) (ht : Tells3 g v1 v2 v3 p zs w) :
    Calls Try.prog 72 #[.slice A zs.length c, .func (.func g) #[] #[v1, v2, v3]] w fun e w' => e = .returned (.int .i64 (idxP p zs)) ∧ Below w.heap.size w w' := by
  have HC := Aside0.mk hC
  have HT := Aside0.mk ht.2
  have eg := ht.1
  clear hC ht
  go_enter Try.func72, Try.ntmps72
  go_wp2
  go_loopg [8] (zs.length + 1) (fun kq v8 w' => ∃ i : Nat, v8 = .int .i64 i ∧ Aside0 (i ≤ zs.length ∧ zs.length - i < kq) ∧ Aside0 (idxP p zs = shiftI i (idxP p (zs.drop i))) ∧ Aside0 (Below w.heap.size w w'))
  case atStart => exact ⟨0, rfl, ⟨by omega⟩, ⟨by rw [List.drop_zero, shift_zero]⟩, ⟨Below.refl _ _⟩⟩
  case round =>
    obtain ⟨i, rfl, Hi, HR, HB⟩ := hrel
    by_cases hlt : i < zs.length
    · obtain ⟨x, hx⟩ : ∃ x, zs[i]? = some x := ⟨_, List.getElem?_eq_getElem hlt⟩
      obtain ⟨ad, A4, c4, A5, c5, eA, y0, y1, y2, y3, y4, y5, _⟩ := at_T82 (Kd.C_below HC.out HB.out) (i : Int) (by omega) (by omega)
      have ev : rd_T82 zs (i : Int) = x := by
        have := (List.getElem?_eq_some_iff.1 hx).2
        simp [rd_T82, hlt, this]
      rw [ev] at y0 y1 y2 y3 y4 y5
      simp only [Int.toNat_natCast] at y0 y1 y2 y3 y4 y5
      subst eA
      have HG := Aside0.mk hx
      have d1 : decide ((i : Int) < (zs.length : Int)) = true := decide_eq_true (by omega)
      have p1 : (i < zs.length) = True := eq_true hlt
      have p9 : (i : Int) ≤ 1000 := by omega
      have p8 : 0 ≤ (i : Int) := by omega
      clear hlt hx ev
      go_wp2_with fail
      have hq := HT.out x A4 c4 A5 c5 wr (List.mem_iff_getElem?.2 ⟨i, HG.out⟩) HB.out
      (with_reducible refine hq.mono ?_)
      clear hq
      rintro e2 w2 ⟨rfl, hb2⟩
      have HB2 := Aside0.mk (below_step HB.out hb2)
      clear hb2 y0 y1 y2 y3 y4 y5
      cases hq : p x with
      | true =>
        have HQ := Aside0.mk (shift_hit (p := p) HG.out hq)
        clear hq
        go_wp2
        go_ret
        exact ⟨ret_eq (by rw [HR.out, HQ.out]; rfl), HB2.out⟩
      | false =>
        have HQ := Aside0.mk (shift_miss (p := p) HG.out hq)
        clear hq
        go_wp2
        go_roundg (gk - 1)
        case measure => have := Hi.out; omega
        case rel => exact ⟨i + 1, by go_num, ⟨by have := Hi.out; have := of_eq_true p1; omega⟩, ⟨by rw [HR.out, HQ.out]⟩, HB2⟩
    · have hi : i = zs.length := by have := Hi.out; omega
      have d1 : (i < zs.length) = False := eq_false hlt
      have HE := Aside0.mk (show idxP p zs = -1 by rw [HR.out, hi, shift_end])
      clear hi hlt
      go_wp2
      go_ret
      exact ⟨ret_eq (by rw [HE.out]; rfl), HB.out⟩
theorem idx_any {α : Type} (p : α → Bool) (l : List α) : decide (0 ≤ idxP p l) = l.any p := by
  rcases idxP_spec p l with ⟨h1, h2⟩ | ⟨l1, x, l2, e, h1, h2, h3⟩
  · rw [h1]
    have : l.any p = false := List.any_eq_false.2 (fun x hx => by rw [h2 x hx]; decide)
    rw [this]; rfl
  · have : l.any p = true := List.any_eq_true.2 ⟨x, by rw [e]; simp, h2⟩
    rw [this, h1]
    exact decide_eq_true (by omega)
theorem Contains1_calls (g : Nat) (v1 : Value) (p : S82 → Bool) (A : Option Addr) (c : Nat) (zs : List S82) (w : World) (hC : k82.C w A zs.length zs) (hn : zs.length ≤ 1000) (ht : Tells1 g v1 p zs w) :
    Calls Try.prog 78 #[.slice A zs.length c, .func (.func g) #[] #[v1]] w fun e w' => e = .returned (.bool (zs.any p)) ∧ Below w.heap.size w w' := by
  have hq := Index1_calls g v1 p A c zs w hC hn ht
  obtain ⟨x, hx⟩ : ∃ x, idxP p zs = x := ⟨_, rfl⟩
  have ha := idx_any p zs
  rw [hx] at hq ha
  rw [← ha]
  clear hC ht ha
  go_enter Try.func78, Try.ntmps78
  go_wp2_with fail
  (with_reducible refine hq.mono ?_)
  clear hq
  rintro e1 w1 ⟨rfl, hb1⟩
  have HB := Aside0.mk hb1
  clear hb1
  go_wp2_with fail
  go_ret
  exact ⟨by rfl, HB.out⟩
theorem Contains3_calls (g : Nat) (v1 v2 v3 : Value) (p : S82 → Bool) (A : Option Addr) (c : Nat) (zs : List S82) (w : World) (hC : k82.C w A zs.length zs) (hn : zs.length ≤ 1000) (ht : Tells3 g v1 v2 v3 p zs w) :
    Calls Try.prog 78 #[.slice A zs.length c, .func (.func g) #[] #[v1, v2, v3]] w fun e w' => e = .returned (.bool (zs.any p)) ∧ Below w.heap.size w w' := by
  have hq := Index3_calls g v1 v2 v3 p A c zs w hC hn ht
  obtain ⟨x, hx⟩ : ∃ x, idxP p zs = x := ⟨_, rfl⟩
  have ha := idx_any p zs
  rw [hx] at hq ha
  rw [← ha]
  clear hC ht ha
  go_enter Try.func78, Try.ntmps78
  go_wp2_with fail
  (with_reducible refine hq.mono ?_)
  clear hq
  rintro e1 w1 ⟨rfl, hb1⟩
  have HB := Aside0.mk hb1
  clear hb1
  go_wp2_with fail
  go_ret
  exact ⟨by rfl, HB.out⟩
/-! ### the closures -/
theorem tells_clash {x : S82} {b : Nat} {w : World} {zs : List S82} (h0 : w.cell? ⟨b, 0, none⟩ = some (.int .i64 x.f0)) (h3 : w.cell? ⟨b, 3, none⟩ = some (.int .i64 x.f3)) : Tells1 79 (.pointer (some ⟨b, 0, none⟩)) (clash x) zs w := by
  refine ⟨enters_of Try.func79 (by kernel_rfl) rfl, fun y A4 c4 A5 c5 W _ hb => ?_⟩
  have k0 := pw_cell_below (below_alloc hb (.cells #[.int .i64 y.f0, .int .i64 y.f1, .int .i64 y.f2, .int .i64 y.f3, .slice A4 y.f4.length c4, .slice A5 y.f5.length c5] 75)) h0
  have k3 := pw_cell_below (below_alloc hb (.cells #[.int .i64 y.f0, .int .i64 y.f1, .int .i64 y.f2, .int .i64 y.f3, .slice A4 y.f4.length c4, .slice A5 y.f5.length c5] 75)) h3
  unfold clash
  have hu75 := Try.underlying75
  by_cases g1 : y.f0 < x.f3
  · have d1 : (y.f0 < x.f3) = True := eq_true g1
    have d2 : decide (y.f0 < x.f3) = true := decide_eq_true g1
    clear g1
    go_enter Try.func79, Try.ntmps79
    go_wp2
    go_ret
    exact ⟨by simp [d2], below_alloc (Below.refl _ _) _⟩
  · have d1 : (y.f0 < x.f3) = False := eq_false g1
    have d2 : decide (y.f0 < x.f3) = false := decide_eq_false g1
    clear g1
    go_enter Try.func79, Try.ntmps79
    go_wp2
    go_ret
    exact ⟨by simp [d2], below_alloc (Below.refl _ _) _⟩
theorem tells_run {v : Int} {b : Nat} {w : World} {zs : List S82} (h0 : w.cell? ⟨b, 0, none⟩ = some (.int .i64 v)) : Tells1 88 (.pointer (some ⟨b, 0, none⟩)) (fun z => decide (z.f2 ≤ v) && decide (v < z.f3)) zs w := by
  refine ⟨enters_of Try.func88 (by kernel_rfl) rfl, fun y A4 c4 A5 c5 W _ hb => ?_⟩
  have k0 := pw_cell_below (below_alloc hb (.cells #[.int .i64 y.f0, .int .i64 y.f1, .int .i64 y.f2, .int .i64 y.f3, .slice A4 y.f4.length c4, .slice A5 y.f5.length c5] 75)) h0
  have hu75 := Try.underlying75
  by_cases g1 : y.f2 ≤ v
  · have d1 : (y.f2 ≤ v) = True := eq_true g1
    have d2 : decide (y.f2 ≤ v) = true := decide_eq_true g1
    clear g1
    go_enter Try.func88, Try.ntmps88
    go_wp2
    go_ret
    exact ⟨by simp [d2], below_alloc (Below.refl _ _) _⟩
  · have d1 : (y.f2 ≤ v) = False := eq_false g1
    have d2 : decide (y.f2 ≤ v) = false := decide_eq_false g1
    clear g1
    go_enter Try.func88, Try.ntmps88
    go_wp2
    go_ret
    exact ⟨by simp [d2], below_alloc (Below.refl _ _) _⟩
theorem tells_fit {v : Int} {b : Nat} {w : World} {zs : List S82} (h0 : w.cell? ⟨b, 0, none⟩ = some (.int .i64 v)) : Tells1 89 (.pointer (some ⟨b, 0, none⟩)) (fun z => decide (z.f0 ≤ v) && decide (v < z.f2)) zs w := by
  refine ⟨enters_of Try.func89 (by kernel_rfl) rfl, fun y A4 c4 A5 c5 W _ hb => ?_⟩
  have k0 := pw_cell_below (below_alloc hb (.cells #[.int .i64 y.f0, .int .i64 y.f1, .int .i64 y.f2, .int .i64 y.f3, .slice A4 y.f4.length c4, .slice A5 y.f5.length c5] 75)) h0
  have hu75 := Try.underlying75
  by_cases g1 : y.f0 ≤ v
  · have d1 : (y.f0 ≤ v) = True := eq_true g1
    have d2 : decide (y.f0 ≤ v) = true := decide_eq_true g1
    clear g1
    go_enter Try.func89, Try.ntmps89
    go_wp2
    go_ret
    exact ⟨by simp [d2], below_alloc (Below.refl _ _) _⟩
  · have d1 : (y.f0 ≤ v) = False := eq_false g1
    have d2 : decide (y.f0 ≤ v) = false := decide_eq_false g1
    clear g1
    go_enter Try.func89, Try.ntmps89
    go_wp2
    go_ret
    exact ⟨by simp [d2], below_alloc (Below.refl _ _) _⟩
end Go.Proofs.Ytkeijpngfnmjoaa.MineZone
end
section
namespace Go.Proofs.Ytkeijpngfnmjoaa.MineZone
open Go.Shelf Go.RowKit Go.MapKept Go.Proofs.YtkeijpngfnmjoaaW.PrintWords Go.Proofs.YtkeijpngfnmjoaaW.PrintLast Go.Proofs.YtkeijpngfnmjoaaW.PrintMore Go.Proofs.Ytkeijpngfnmjoaa.MineBase Go.Proofs.Ytkeijpngfnmjoaa.MineSep Go.Proofs.Ytkeijpngfnmjoaa.MineRows Go.Proofs.Ytkeijpngfnmjoaa.MineGen Go.Proofs.Ytkeijpngfnmjoaa.QZonePlays Go.Proofs.Ytkeijpngfnmjoaa.MineMap
attribute [local go_sem ↓] Go.wp_at_zero Go.wp_at_succ
set_option linter.unusedVariables false
set_option linter.unusedSimpArgs false
set_option maxRecDepth 100000 in
set_option maxHeartbeats 2000000 in
theorem within_calls (a n f t : Int) (hn : n ≤ 9223372036854775807) (ht : 0 ≤ t) (ht2 : t ≤ 100000) (w : World) : Calls Try.prog 105 #[.int .i64 a, .int .i64 n, .int .i64 f, .int .i64 t] w fun e w' => e = .returned (.bool (inR a n f t)) ∧ w' = w := by
  unfold inR
  by_cases g1 : 1 ≤ n
  · have d1 : decide (1 ≤ n) = true := decide_eq_true g1
    have p1 : (1 ≤ n) = True := eq_true g1
    by_cases g2 : f ≤ a
    · have d2 : decide (f ≤ a) = true := decide_eq_true g2
      have p2 : (f ≤ a) = True := eq_true g2
      have w1 : wrap64 (t - n) = t - n := by unfold wrap64; omega
      obtain ⟨b, hb⟩ : ∃ b, decide (a ≤ t - n) = b := ⟨_, rfl⟩
      rw [d1, d2, hb]
      clear g2
      go_enter Try.func105, Try.ntmps105
      go_wp2
      go_ret
      exact ⟨by first | rfl | simp, rfl⟩
    · have d2 : decide (f ≤ a) = false := decide_eq_false g2
      have p2 : (f ≤ a) = False := eq_false g2
      clear g1 g2
      go_enter Try.func105, Try.ntmps105
      go_wp2
      go_ret
      exact ⟨by simp [d2], rfl⟩
  · have d1 : decide (1 ≤ n) = false := decide_eq_false g1
    have p1 : (1 ≤ n) = False := eq_false g1
    clear g1
    go_enter Try.func105, Try.ntmps105
    go_wp2
    go_ret
    exact ⟨by simp [d1], rfl⟩
theorem to85_calls (y : S82) (A4 : Option Addr) (c4 : Nat) (A5 : Option Addr) (c5 : Nat) (w : World) : Calls Try.prog 85 #[.agg #[.int .i64 y.f0, .int .i64 y.f1, .int .i64 y.f2, .int .i64 y.f3, .slice A4 y.f4.length c4, .slice A5 y.f5.length c5]] w fun e w' => e = .returned (.int .i64 y.f2) ∧ Below w.heap.size w w' := by
  have hu75 := Try.underlying75
  go_enter Try.func85, Try.ntmps85
  go_wp2
  go_ret
  exact ⟨by rfl, below_alloc (Below.refl _ _) _⟩
theorem to87_calls (y : S82) (A4 : Option Addr) (c4 : Nat) (A5 : Option Addr) (c5 : Nat) (w : World) : Calls Try.prog 87 #[.agg #[.int .i64 y.f0, .int .i64 y.f1, .int .i64 y.f2, .int .i64 y.f3, .slice A4 y.f4.length c4, .slice A5 y.f5.length c5]] w fun e w' => e = .returned (.int .i64 y.f1) ∧ Below w.heap.size w w' := by
  have hu75 := Try.underlying75
  go_enter Try.func87, Try.ntmps87
  go_wp2
  go_ret
  exact ⟨by rfl, below_alloc (Below.refl _ _) _⟩
set_option maxRecDepth 100000 in
set_option maxHeartbeats 4000000 in
theorem tells_can85 {a n : Int} {b1 b2 b3 : Nat} {w : World} {zs : List S82} (hn : n ≤ 9223372036854775807) (hz : ∀ y ∈ zs, 0 ≤ y.f2 ∧ y.f2 ≤ 100000) (h1 : w.cell? ⟨b1, 0, none⟩ = some (.int .i64 a)) (h2 : w.cell? ⟨b2, 0, none⟩ = some (.int .i64 n)) (h3 : w.cell? ⟨b3, 0, none⟩ = some (.func (.func 85) #[] #[])) :
    Tells3 106 (.pointer (some ⟨b1, 0, none⟩)) (.pointer (some ⟨b2, 0, none⟩)) (.pointer (some ⟨b3, 0, none⟩)) (fun z => inR a n z.f0 z.f2) zs w := by
  refine ⟨enters_of Try.func106 (by kernel_rfl) rfl, fun y A4 c4 A5 c5 W hy hb => ?_⟩
  have HZ := Aside0.mk (hz y hy)
  have HN := Aside0.mk hn
  have k1 := pw_cell_below hb h1
  have k2 := pw_cell_below hb h2
  have k3 := pw_cell_below hb h3
  clear h1 h2 h3 hz hn hy hb
  have hu75 := Try.underlying75
  go_enter Try.func106, Try.ntmps106
  go_upto_region 1 with fail
  have HB := Aside0.mk (blk_new (Sat.start W) (.cells #[.int .i64 y.f0, .int .i64 y.f1, .int .i64 y.f2, .int .i64 y.f3, .slice A4 y.f4.length c4, .slice A5 y.f5.length c5] 75))
  obtain ⟨g, hg⟩ : ∃ g, W.heap.size = g := ⟨_, rfl⟩
  have hba := below_alloc (Below.refl W.heap.size W) (.cells #[.int .i64 y.f0, .int .i64 y.f1, .int .i64 y.f2, .int .i64 y.f3, .slice A4 y.f4.length c4, .slice A5 y.f5.length c5] 75)
  rw [hg] at HB ⊢
  replace k1 := pw_cell_below hba k1
  replace k2 := pw_cell_below hba k2
  replace k3 := pw_cell_below hba k3
  have HB0 := Aside0.mk hba
  clear hba
  generalize W.alloc (.cells #[.int .i64 y.f0, .int .i64 y.f1, .int .i64 y.f2, .int .i64 y.f3, .slice A4 y.f4.length c4, .slice A5 y.f5.length c5] 75) = W1 at *
  have HS := Aside0.mk (fun (w2 : World) (hb : Below W1.heap.size W1 w2) => (⟨pw_cell_below hb k1, pw_cell_below hb k2, pw_cell_below hb k3, pw_cell_below hb (get_cell (blk_at HB.out) 0), pw_cell_below hb (get_cell (blk_at HB.out) 1), pw_cell_below hb (get_cell (blk_at HB.out) 2), pw_cell_below hb (get_cell (blk_at HB.out) 3), pw_cell_below hb (get_cell (blk_at HB.out) 4), pw_cell_below hb (get_cell (blk_at HB.out) 5)⟩ : w2.cell? ⟨b1, 0, none⟩ = some (.int .i64 a) ∧ w2.cell? ⟨b2, 0, none⟩ = some (.int .i64 n) ∧ w2.cell? ⟨b3, 0, none⟩ = some (.func (.func 85) #[] #[]) ∧ w2.cell? ⟨g, 0, none⟩ = some (.int .i64 y.f0) ∧ w2.cell? ⟨g, 1, none⟩ = some (.int .i64 y.f1) ∧ w2.cell? ⟨g, 2, none⟩ = some (.int .i64 y.f2) ∧ w2.cell? ⟨g, 3, none⟩ = some (.int .i64 y.f3) ∧ w2.cell? ⟨g, 4, none⟩ = some (.slice A4 y.f4.length c4) ∧ w2.cell? ⟨g, 5, none⟩ = some (.slice A5 y.f5.length c5)))
  clear k1 k2 k3
  go_region_held3 (fun w2 => w2.cell? ⟨b1, 0, none⟩ = some (.int .i64 a) ∧ w2.cell? ⟨b2, 0, none⟩ = some (.int .i64 n) ∧ w2.cell? ⟨b3, 0, none⟩ = some (.func (.func 85) #[] #[]) ∧ w2.cell? ⟨g, 0, none⟩ = some (.int .i64 y.f0) ∧ w2.cell? ⟨g, 1, none⟩ = some (.int .i64 y.f1) ∧ w2.cell? ⟨g, 2, none⟩ = some (.int .i64 y.f2) ∧ w2.cell? ⟨g, 3, none⟩ = some (.int .i64 y.f3) ∧ w2.cell? ⟨g, 4, none⟩ = some (.slice A4 y.f4.length c4) ∧ w2.cell? ⟨g, 5, none⟩ = some (.slice A5 y.f5.length c5)) ((refine HS.out _ ?_; repeat (with_reducible first | exact Below.refl _ _ | exact HB6.out | apply below_drew | apply pw_below_drewN))) (first | ((with_reducible refine (to85_calls y A4 c4 A5 c5 _).mono ?_); rintro e6 w6 ⟨rfl, hb6⟩; have HB6 := Aside0.mk (show Below W1.heap.size W1 w6 from below_step (by repeat (with_reducible first | exact Below.refl _ _ | apply below_drew | apply pw_below_drewN)) hb6); clear hb6) | ((with_reducible refine (within_calls a n y.f0 y.f2 HN.out HZ.out.1 HZ.out.2 _).mono ?_); rintro e7 w7 ⟨rfl, h7⟩; replace h7 := h7.symm; subst h7))
  all_goals go_wp2_with fail
  all_goals (go_ret; exact ⟨by rfl, by first | exact below_step HB0.out HB6.out | (refine below_step HB0.out ?_; repeat (with_reducible first | exact Below.refl _ _ | exact HB6.out | apply below_drew | apply pw_below_drewN))⟩)
set_option maxRecDepth 100000 in
set_option maxHeartbeats 4000000 in
theorem tells_can87 {a n : Int} {b1 b2 b3 : Nat} {w : World} {zs : List S82} (hn : n ≤ 9223372036854775807) (hz : ∀ y ∈ zs, 0 ≤ y.f1 ∧ y.f1 ≤ 100000) (h1 : w.cell? ⟨b1, 0, none⟩ = some (.int .i64 a)) (h2 : w.cell? ⟨b2, 0, none⟩ = some (.int .i64 n)) (h3 : w.cell? ⟨b3, 0, none⟩ = some (.func (.func 87) #[] #[])) :
    Tells3 106 (.pointer (some ⟨b1, 0, none⟩)) (.pointer (some ⟨b2, 0, none⟩)) (.pointer (some ⟨b3, 0, none⟩)) (fun z => inR a n z.f0 z.f1) zs w := by
  refine ⟨enters_of Try.func106 (by kernel_rfl) rfl, fun y A4 c4 A5 c5 W hy hb => ?_⟩
  have HZ := Aside0.mk (hz y hy)
  have HN := Aside0.mk hn
  have k1 := pw_cell_below hb h1
  have k2 := pw_cell_below hb h2
  have k3 := pw_cell_below hb h3
  clear h1 h2 h3 hz hn hy hb
  have hu75 := Try.underlying75
  go_enter Try.func106, Try.ntmps106
  go_upto_region 1 with fail
  have HB := Aside0.mk (blk_new (Sat.start W) (.cells #[.int .i64 y.f0, .int .i64 y.f1, .int .i64 y.f2, .int .i64 y.f3, .slice A4 y.f4.length c4, .slice A5 y.f5.length c5] 75))
  obtain ⟨g, hg⟩ : ∃ g, W.heap.size = g := ⟨_, rfl⟩
  have hba := below_alloc (Below.refl W.heap.size W) (.cells #[.int .i64 y.f0, .int .i64 y.f1, .int .i64 y.f2, .int .i64 y.f3, .slice A4 y.f4.length c4, .slice A5 y.f5.length c5] 75)
  rw [hg] at HB ⊢
  replace k1 := pw_cell_below hba k1
  replace k2 := pw_cell_below hba k2
  replace k3 := pw_cell_below hba k3
  have HB0 := Aside0.mk hba
  clear hba
  generalize W.alloc (.cells #[.int .i64 y.f0, .int .i64 y.f1, .int .i64 y.f2, .int .i64 y.f3, .slice A4 y.f4.length c4, .slice A5 y.f5.length c5] 75) = W1 at *
  have HS := Aside0.mk (fun (w2 : World) (hb : Below W1.heap.size W1 w2) => (⟨pw_cell_below hb k1, pw_cell_below hb k2, pw_cell_below hb k3, pw_cell_below hb (get_cell (blk_at HB.out) 0), pw_cell_below hb (get_cell (blk_at HB.out) 1), pw_cell_below hb (get_cell (blk_at HB.out) 2), pw_cell_below hb (get_cell (blk_at HB.out) 3), pw_cell_below hb (get_cell (blk_at HB.out) 4), pw_cell_below hb (get_cell (blk_at HB.out) 5)⟩ : w2.cell? ⟨b1, 0, none⟩ = some (.int .i64 a) ∧ w2.cell? ⟨b2, 0, none⟩ = some (.int .i64 n) ∧ w2.cell? ⟨b3, 0, none⟩ = some (.func (.func 87) #[] #[]) ∧ w2.cell? ⟨g, 0, none⟩ = some (.int .i64 y.f0) ∧ w2.cell? ⟨g, 1, none⟩ = some (.int .i64 y.f1) ∧ w2.cell? ⟨g, 2, none⟩ = some (.int .i64 y.f2) ∧ w2.cell? ⟨g, 3, none⟩ = some (.int .i64 y.f3) ∧ w2.cell? ⟨g, 4, none⟩ = some (.slice A4 y.f4.length c4) ∧ w2.cell? ⟨g, 5, none⟩ = some (.slice A5 y.f5.length c5)))
  clear k1 k2 k3
  go_region_held3 (fun w2 => w2.cell? ⟨b1, 0, none⟩ = some (.int .i64 a) ∧ w2.cell? ⟨b2, 0, none⟩ = some (.int .i64 n) ∧ w2.cell? ⟨b3, 0, none⟩ = some (.func (.func 87) #[] #[]) ∧ w2.cell? ⟨g, 0, none⟩ = some (.int .i64 y.f0) ∧ w2.cell? ⟨g, 1, none⟩ = some (.int .i64 y.f1) ∧ w2.cell? ⟨g, 2, none⟩ = some (.int .i64 y.f2) ∧ w2.cell? ⟨g, 3, none⟩ = some (.int .i64 y.f3) ∧ w2.cell? ⟨g, 4, none⟩ = some (.slice A4 y.f4.length c4) ∧ w2.cell? ⟨g, 5, none⟩ = some (.slice A5 y.f5.length c5)) ((refine HS.out _ ?_; repeat (with_reducible first | exact Below.refl _ _ | exact HB6.out | apply below_drew | apply pw_below_drewN))) (first | ((with_reducible refine (to87_calls y A4 c4 A5 c5 _).mono ?_); rintro e6 w6 ⟨rfl, hb6⟩; have HB6 := Aside0.mk (show Below W1.heap.size W1 w6 from below_step (by repeat (with_reducible first | exact Below.refl _ _ | apply below_drew | apply pw_below_drewN)) hb6); clear hb6) | ((with_reducible refine (within_calls a n y.f0 y.f1 HN.out HZ.out.1 HZ.out.2 _).mono ?_); rintro e7 w7 ⟨rfl, h7⟩; replace h7 := h7.symm; subst h7))
  all_goals go_wp2_with fail
  all_goals (go_ret; exact ⟨by rfl, by first | exact below_step HB0.out HB6.out | (refine below_step HB0.out ?_; repeat (with_reducible first | exact Below.refl _ _ | exact HB6.out | apply below_drew | apply pw_below_drewN))⟩)
end Go.Proofs.Ytkeijpngfnmjoaa.MineZone
end
section
namespace Go.Proofs.Ytkeijpngfnmjoaa.MineZone
open Go.Shelf Go.RowKit Go.MapKept Go.Proofs.YtkeijpngfnmjoaaW.PrintWords Go.Proofs.YtkeijpngfnmjoaaW.PrintLast Go.Proofs.YtkeijpngfnmjoaaW.PrintMore Go.Proofs.Ytkeijpngfnmjoaa.MineBase Go.Proofs.Ytkeijpngfnmjoaa.MineSep Go.Proofs.Ytkeijpngfnmjoaa.MineRows Go.Proofs.Ytkeijpngfnmjoaa.MineGen Go.Proofs.Ytkeijpngfnmjoaa.QZonePlays Go.Proofs.Ytkeijpngfnmjoaa.MineMap
attribute [local go_sem ↓] Go.wp_at_zero Go.wp_at_succ
set_option linter.unusedVariables false
set_option linter.unusedSimpArgs false
theorem size_alloc (W : World) (o : Obj) : (W.alloc o).heap.size = W.heap.size + 1 := by simp only [World.alloc, Array.size_push]
theorem blk_new3 {w0 W : World} {l : List Asn} (h : Sat w0 W l) (o1 o2 o3 : Obj) : Sat w0 (((W.alloc o1).alloc o2).alloc o3) (ABlk (W.heap.size + 1 + 1) o3 :: ABlk (W.heap.size + 1) o2 :: ABlk W.heap.size o1 :: l) := by
  have h := blk_new (blk_new (blk_new h o1) o2) o3
  rw [size_alloc, size_alloc] at h
  exact h
/-- The program's zones, for reading. -/
structure ZR (z m : Nat) (zs : List S82) (w : World) : Prop where
  row : ∃ A c, blk w z = some (.cells #[.slice A zs.length c, .map (some m)] 133 (0, 0)) ∧ k82.C w A zs.length zs
  few : zs.length ≤ 1000
  ok : ∀ y ∈ zs, Ok y
theorem ZR.below {z m : Nat} {zs : List S82} {w w' : World} (h : ZR z m zs w) (hb : Below w.heap.size w w') : ZR z m zs w' := by
  obtain ⟨⟨A, c, h1, h2⟩, h3, h4⟩ := h
  exact ⟨⟨A, c, get_below h1 hb, Kd.C_below h2 hb⟩, h3, h4⟩
theorem Ok.read {y : S82} (h : Ok y) : 0 ≤ y.f2 ∧ y.f2 ≤ 100000 := by
  obtain ⟨⟨h1, h2, h3, h4, h5, h6, _⟩, _⟩ := h
  omega
theorem Ok.data {y : S82} (h : Ok y) : 0 ≤ y.f1 ∧ y.f1 ≤ 100000 := by
  obtain ⟨⟨h1, h2, h3, h4, h5, h6, _⟩, _⟩ := h
  omega
set_option maxRecDepth 100000 in
set_option maxHeartbeats 2000000 in
theorem can85_calls {z m : Nat} {zs : List S82} {w : World} (h : ZR z m zs w) (a n : Int) (hn : n ≤ 9223372036854775807) :
    Calls Try.prog 84 #[.pointer (some ⟨z, 0, none⟩), .int .i64 a, .int .i64 n, .func (.func 85) #[] #[]] w fun e w' => e = .returned (.bool (inR a n 16 272 || zs.any (fun y => inR a n y.f0 y.f2))) ∧ Below w.heap.size w w' := by
  have H := Aside0.mk h
  have HN := Aside0.mk hn
  clear h hn
  obtain ⟨b0, hb0⟩ : ∃ b0, inR a n 16 272 = b0 := ⟨_, rfl⟩
  have HW := Aside0.mk (fun W => by have h := within_calls a n 16 272 HN.out (by decide) (by decide) W; rw [hb0] at h; exact h)
  rw [hb0]
  clear hb0
  go_enter Try.func84, Try.ntmps84
  go_upto_region 1 with fail
  refine wp_abs (fun W => Sat w W [ABlk (w.heap.size + 1 + 1) (.cells #[.func (.func 85) #[] #[]] 143 (0, 0)), ABlk (w.heap.size + 1) (.cells #[.int .i64 n] 3 (0, 0)), ABlk w.heap.size (.cells #[.int .i64 a] 3 (0, 0))]) (blk_new3 (Sat.start w) _ _ _) (fun W hW => ?_)
  generalize w.heap.size + 1 + 1 = b3 at hW ⊢
  generalize w.heap.size + 1 = b2 at hW ⊢
  obtain ⟨b1, hb1⟩ : ∃ b1, w.heap.size = b1 := ⟨_, rfl⟩
  have HSZ := Aside0.mk hb1
  rw [hb1] at hW ⊢
  clear hb1
  replace hW := Aside0.mk hW
  obtain ⟨A, c, hz, hC⟩ := (H.out.below hW.out.toBelow).row
  have HC := Aside0.mk hC
  have x1 : W.cell? ⟨b1, 0, none⟩ = some (.int .i64 a) := get_cell (blk_at hW.out.drop.drop) 0
  have x2 : W.cell? ⟨b2, 0, none⟩ = some (.int .i64 n) := get_cell (blk_at hW.out.drop) 0
  have x3 : W.cell? ⟨b3, 0, none⟩ = some (.func (.func 85) #[] #[]) := get_cell (blk_at hW.out) 0
  have x0 : W.cell? ⟨z, 0, none⟩ = some (.slice A zs.length c) := get_cell hz 0
  have HT := Aside0.mk (Contains3_calls 106 _ _ _ _ A c zs W hC H.out.few (tells_can85 HN.out (fun y hy => (H.out.ok y hy).read) x1 x2 x3))
  clear hz hC
  cases b0 with
  | true =>
    go_wp2_with (go_at_call 105; (with_reducible refine (HW.out _).mono ?_); rintro e5 w5 ⟨rfl, h5⟩; replace h5 := h5.symm; subst h5)
    go_ret
    exact ⟨by rfl, by first | exact hW.out.toBelow | (rw [hWe]; exact hW.out.toBelow) | (rw [← hWe]; exact hWe ▸ hW.out.toBelow)⟩
  | false =>
    go_wp2_with (go_at_call 105; (with_reducible refine (HW.out _).mono ?_); rintro e5 w5 ⟨rfl, h5⟩; replace h5 := h5.symm; subst h5)
    (with_reducible refine HT.out.mono ?_)
    rintro e6 w6 ⟨rfl, hb6⟩
    have HB6 := Aside0.mk (hW.out.below hb6)
    clear hb6
    go_wp2_with fail
    go_ret
    exact ⟨by rfl, HB6.out.toBelow⟩
theorem CanLoad_calls {z m : Nat} {zs : List S82} {w : World} (h : ZR z m zs w) (a n : Int) (hn : n ≤ 9223372036854775807) :
    Calls Try.prog 41 #[.pointer (some ⟨z, 0, none⟩), .int .i64 a, .int .i64 n] w fun e w' => e = .returned (.bool (loadZ zs a n)) ∧ Below w.heap.size w w' := by
  have hq := can85_calls h a n hn
  have e0 : (inR a n 16 272 || zs.any (fun y => inR a n y.f0 y.f2)) = loadZ zs a n := rfl
  rw [e0] at hq
  generalize loadZ zs a n = b at hq ⊢
  clear h hn e0
  go_enter Try.func41, Try.ntmps41
  go_wp2_with fail
  (with_reducible refine hq.mono ?_)
  clear hq
  rintro e1 w1 ⟨rfl, hb1⟩
  have HB := Aside0.mk hb1
  clear hb1
  go_wp2_with fail
  go_ret
  exact ⟨by rfl, HB.out⟩
set_option maxRecDepth 100000 in
set_option maxHeartbeats 2000000 in
theorem can87_calls {z m : Nat} {zs : List S82} {w : World} (h : ZR z m zs w) (a n : Int) (hn : n ≤ 9223372036854775807) :
    Calls Try.prog 84 #[.pointer (some ⟨z, 0, none⟩), .int .i64 a, .int .i64 n, .func (.func 87) #[] #[]] w fun e w' => e = .returned (.bool (inR a n 16 272 || zs.any (fun y => inR a n y.f0 y.f1))) ∧ Below w.heap.size w w' := by
  have H := Aside0.mk h
  have HN := Aside0.mk hn
  clear h hn
  obtain ⟨b0, hb0⟩ : ∃ b0, inR a n 16 272 = b0 := ⟨_, rfl⟩
  have HW := Aside0.mk (fun W => by have h := within_calls a n 16 272 HN.out (by decide) (by decide) W; rw [hb0] at h; exact h)
  rw [hb0]
  clear hb0
  go_enter Try.func84, Try.ntmps84
  go_upto_region 1 with fail
  refine wp_abs (fun W => Sat w W [ABlk (w.heap.size + 1 + 1) (.cells #[.func (.func 87) #[] #[]] 143 (0, 0)), ABlk (w.heap.size + 1) (.cells #[.int .i64 n] 3 (0, 0)), ABlk w.heap.size (.cells #[.int .i64 a] 3 (0, 0))]) (blk_new3 (Sat.start w) _ _ _) (fun W hW => ?_)
  generalize w.heap.size + 1 + 1 = b3 at hW ⊢
  generalize w.heap.size + 1 = b2 at hW ⊢
  obtain ⟨b1, hb1⟩ : ∃ b1, w.heap.size = b1 := ⟨_, rfl⟩
  have HSZ := Aside0.mk hb1
  rw [hb1] at hW ⊢
  clear hb1
  replace hW := Aside0.mk hW
  obtain ⟨A, c, hz, hC⟩ := (H.out.below hW.out.toBelow).row
  have HC := Aside0.mk hC
  have x1 : W.cell? ⟨b1, 0, none⟩ = some (.int .i64 a) := get_cell (blk_at hW.out.drop.drop) 0
  have x2 : W.cell? ⟨b2, 0, none⟩ = some (.int .i64 n) := get_cell (blk_at hW.out.drop) 0
  have x3 : W.cell? ⟨b3, 0, none⟩ = some (.func (.func 87) #[] #[]) := get_cell (blk_at hW.out) 0
  have x0 : W.cell? ⟨z, 0, none⟩ = some (.slice A zs.length c) := get_cell hz 0
  have HT := Aside0.mk (Contains3_calls 106 _ _ _ _ A c zs W hC H.out.few (tells_can87 HN.out (fun y hy => (H.out.ok y hy).data) x1 x2 x3))
  clear hz hC
  cases b0 with
  | true =>
    go_wp2_with (go_at_call 105; (with_reducible refine (HW.out _).mono ?_); rintro e5 w5 ⟨rfl, h5⟩; replace h5 := h5.symm; subst h5)
    go_ret
    exact ⟨by rfl, by first | exact hW.out.toBelow | (rw [hWe]; exact hW.out.toBelow) | (rw [← hWe]; exact hWe ▸ hW.out.toBelow)⟩
  | false =>
    go_wp2_with (go_at_call 105; (with_reducible refine (HW.out _).mono ?_); rintro e5 w5 ⟨rfl, h5⟩; replace h5 := h5.symm; subst h5)
    (with_reducible refine HT.out.mono ?_)
    rintro e6 w6 ⟨rfl, hb6⟩
    have HB6 := Aside0.mk (hW.out.below hb6)
    clear hb6
    go_wp2_with fail
    go_ret
    exact ⟨by rfl, HB6.out.toBelow⟩
theorem CanStore_calls {z m : Nat} {zs : List S82} {w : World} (h : ZR z m zs w) (a n : Int) (hn : n ≤ 9223372036854775807) :
    Calls Try.prog 43 #[.pointer (some ⟨z, 0, none⟩), .int .i64 a, .int .i64 n] w fun e w' => e = .returned (.bool (storeZ zs a n)) ∧ Below w.heap.size w w' := by
  have hq := can87_calls h a n hn
  have e0 : (inR a n 16 272 || zs.any (fun y => inR a n y.f0 y.f1)) = storeZ zs a n := rfl
  rw [e0] at hq
  generalize storeZ zs a n = b at hq ⊢
  clear h hn e0
  go_enter Try.func43, Try.ntmps43
  go_wp2_with fail
  (with_reducible refine hq.mono ?_)
  clear hq
  rintro e1 w1 ⟨rfl, hb1⟩
  have HB := Aside0.mk hb1
  clear hb1
  go_wp2_with fail
  go_ret
  exact ⟨by rfl, HB.out⟩
set_option maxRecDepth 100000 in
set_option maxHeartbeats 2000000 in
theorem CanRun_calls {z m : Nat} {zs : List S82} {w : World} (h : ZR z m zs w) (a : Int) :
    Calls Try.prog 45 #[.pointer (some ⟨z, 0, none⟩), .int .i64 a] w fun e w' => e = .returned (.bool (runZ zs a)) ∧ Below w.heap.size w w' := by
  have H := Aside0.mk h
  clear h
  have hta : Int.tmod a 4 = 0 ↔ a % 4 = 0 := ⟨fun h => Int.emod_eq_zero_of_dvd (Int.dvd_of_tmod_eq_zero h), fun h => Int.tmod_eq_zero_of_dvd (Int.dvd_of_emod_eq_zero h)⟩
  obtain ⟨W, hWe⟩ : ∃ W, w.alloc (.cells #[.int .i64 a] 3) = W := ⟨_, rfl⟩
  have hW := Aside0.mk (show Sat w W [ABlk w.heap.size (.cells #[.int .i64 a] 3 (0, 0))] from by rw [← hWe]; exact blk_new (Sat.start w) _)
  obtain ⟨A, c, hz, hC⟩ := (H.out.below hW.out.toBelow).row
  have x0 : W.cell? ⟨z, 0, none⟩ = some (.slice A zs.length c) := get_cell hz 0
  have x1 : W.cell? ⟨w.heap.size, 0, none⟩ = some (.int .i64 a) := get_cell (blk_at hW.out) 0
  have HT := Aside0.mk (Contains1_calls 88 _ _ A c zs W hC H.out.few (tells_run x1))
  clear hz hC
  unfold runZ
  by_cases g1 : a % 4 = 0
  · have d1 : decide (a % 4 = 0) = true := decide_eq_true g1
    have m1 : Int.tmod a 4 = 0 := hta.2 g1
    rw [d1]
    clear hta
    go_enter Try.func45, Try.ntmps45
    go_upto_region 1 with fail
    try rw [hWe]
    clear hWe
    go_wp2_with fail
    (with_reducible refine HT.out.mono ?_)
    rintro e6 w6 ⟨rfl, hb6⟩
    have HB6 := Aside0.mk (hW.out.below hb6)
    clear hb6
    go_wp2_with fail
    go_ret
    exact ⟨by rfl, HB6.out.toBelow⟩
  · have d1 : decide (a % 4 = 0) = false := decide_eq_false g1
    have m1 : (Int.tmod a 4 = 0) = False := eq_false (fun h => g1 (hta.1 h))
    have m2 : (Int.tmod a 4 == 0) = false := by simpa using (fun h => g1 (hta.1 h))
    have m3 : (a % 4 = 0) = False := eq_false g1
    rw [d1]
    clear hta g1
    go_enter Try.func45, Try.ntmps45
    go_upto_region 1 with fail
    try rw [hWe]
    clear hWe
    go_wp2_with fail
    go_ret
    exact ⟨by simp, hW.out.toBelow⟩
theorem intKeys : KeysOf (κ := Int) (.int .i64) (Value.int .i64) (fun _ => True) := ⟨fun _ _ => rfl, fun _ _ h => by injection h⟩
theorem zero3 (w : World) : (zeroValue 3).run Try.prog w = .ok (.int .i64 0) w := by kernel_rfl
set_option maxRecDepth 100000 in
theorem Cell_calls {z m : Nat} {zs : List S82} {w : World} (h : ZR z m zs w) {es : Array MapEntry} {clock : Nat} {F : List (Int × Value)} (hm : w.heap[m]? = some (.map es clock)) (he : EsOf (Value.int .i64) es.toList F) (hF : CellsOf zs F) (a : Int) (ha : a ≤ 9223372036854775807) :
    Calls Try.prog 47 #[.pointer (some ⟨z, 0, none⟩), .int .i64 a] w fun e w' => e = .returned (.int .i64 (cellZ zs a)) ∧ Below w.heap.size w w' := by
  obtain ⟨A, c, hz, hC⟩ := h.row
  have x1 : w.cell? ⟨z, 1, none⟩ = some (.map (some m)) := get_cell hz 1
  have hl := lookup_run (P := Try.prog) intKeys Try.underlying131 Try.underlying3 (zero3 w) hm F (fun _ _ => trivial) he (a / 4 * 4) trivial false
  rw [hF.2] at hl
  have hv : ((if cellK zs (a / 4 * 4) = 0 then none else some (.int .i64 (cellK zs (a / 4 * 4)))) : Option Value).getD (.int .i64 0) = .int .i64 (cellK zs (a / 4 * 4)) := by
    split
    · rename_i e; rw [e]; rfl
    · rfl
  unfold cellZ
  by_cases g1 : a < 0
  · have d1 : (a < 0) = True := eq_true g1
    have d2 : decide (a < 0) = true := decide_eq_true g1
    rw [if_pos g1]
    clear hl hv hz hC hm he hF h ha g1
    go_enter Try.func47, Try.ntmps47
    go_wp2_with fail
    go_ret
    exact ⟨by rfl, Below.refl _ _⟩
  · have d1 : (a < 0) = False := eq_false g1
    have d2 : decide (a < 0) = false := decide_eq_false g1
    have d3 : 0 ≤ a := by omega
    have w1 : wrap64 (a / 4 * 4) = a / 4 * 4 := by unfold wrap64; omega
    have t1 : Int.tdiv a 4 = a / 4 := Int.tdiv_eq_ediv_of_nonneg d3
    rw [if_neg g1]
    simp only [Bool.false_eq_true, if_false] at hl
    rw [hv] at hl
    generalize cellK zs (a / 4 * 4) = r at hl ⊢
    clear hv hz hC hm he hF h g1
    go_enter Try.func47, Try.ntmps47
    go_wp2_with fail
    go_ret
    exact ⟨by rfl, Below.refl _ _⟩
set_option maxRecDepth 100000 in
set_option maxHeartbeats 2000000 in
theorem Fits_calls {z m : Nat} {zs : List S82} {w : World} (h : ZR z m zs w) (k v : Int) :
    Calls Try.prog 49 #[.pointer (some ⟨z, 0, none⟩), .int .i64 k, .int .i64 v] w fun e w' => e = .returned (.bool (fitsZ zs k v)) ∧ Below w.heap.size w w' := by
  have H := Aside0.mk h
  clear h
  obtain ⟨W, hWe⟩ : ∃ W, w.alloc (.cells #[.int .i64 v] 3) = W := ⟨_, rfl⟩
  have hW := Aside0.mk (show Sat w W [ABlk w.heap.size (.cells #[.int .i64 v] 3 (0, 0))] from by rw [← hWe]; exact blk_new (Sat.start w) _)
  obtain ⟨A, c, hz, hC⟩ := (H.out.below hW.out.toBelow).row
  have x0 : W.cell? ⟨z, 0, none⟩ = some (.slice A zs.length c) := get_cell hz 0
  have x1 : W.cell? ⟨w.heap.size, 0, none⟩ = some (.int .i64 v) := get_cell (blk_at hW.out) 0
  have HT := Aside0.mk (Contains1_calls 89 _ _ A c zs W hC H.out.few (tells_fit x1))
  have HR := Aside0.mk (CanRun_calls (H.out.below hW.out.toBelow) v)
  clear hz hC
  unfold fitsZ
  by_cases k0 : k = 0
  · subst k0
    rw [if_pos rfl]
    go_enter Try.func49, Try.ntmps49
    go_wp2_with fail
    go_ret
    exact ⟨by rfl, by first | exact hW.out.toBelow | (rw [hWe]; exact hW.out.toBelow) | (rw [← hWe]; exact hWe ▸ hW.out.toBelow)⟩
  have e0 : (k == 0) = false := by simpa using k0
  have f0 : (k = 0) = False := eq_false k0
  rw [if_neg k0]
  by_cases k1 : k = 1
  · subst k1
    rw [if_pos rfl]
    clear k0
    by_cases v0 : v = 0
    · subst v0
      rw [show decide ((0 : Int) = 0) = true from rfl]
      clear HT HR
      go_enter Try.func49, Try.ntmps49
      go_upto_region 4 with fail
      try rw [hWe]
      clear hWe
      go_wp2_with fail
      go_ret
      exact ⟨by simp, hW.out.toBelow⟩
    · have d1 : decide (v = 0) = false := decide_eq_false v0
      have d2 : (v == 0) = false := by simpa using v0
      have d3 : (v = 0) = False := eq_false v0
      rw [d1, Bool.false_or]
      clear HR v0
      go_enter Try.func49, Try.ntmps49
      go_upto_region 4 with fail
      try rw [hWe]
      clear hWe
      go_wp2_with fail
      (with_reducible refine HT.out.mono ?_)
      rintro e6 w6 ⟨rfl, hb6⟩
      have HB6 := Aside0.mk (hW.out.below hb6)
      clear hb6
      go_wp2_with fail
      go_ret
      exact ⟨by rfl, HB6.out.toBelow⟩
  have e1 : (k == 1) = false := by simpa using k1
  have f1 : (k = 1) = False := eq_false k1
  rw [if_neg k1]
  by_cases k2 : k = 2
  · subst k2
    have d0 : decide ((2 : Int) = 2) = true := rfl
    rw [d0, Bool.true_and]
    clear k0 k1 d0
    by_cases v0 : v = 0
    · subst v0
      rw [show decide ((0 : Int) = 0) = true from rfl]
      clear HT HR
      go_enter Try.func49, Try.ntmps49
      go_upto_region 5 with fail
      try rw [hWe]
      clear hWe
      go_wp2_with fail
      go_ret
      exact ⟨by simp, hW.out.toBelow⟩
    · have d1 : decide (v = 0) = false := decide_eq_false v0
      have d2 : (v == 0) = false := by simpa using v0
      have d3 : (v = 0) = False := eq_false v0
      rw [d1, Bool.false_or]
      clear HT v0
      go_enter Try.func49, Try.ntmps49
      go_upto_region 5 with fail
      try rw [hWe]
      clear hWe
      go_wp2_with fail
      (with_reducible refine HR.out.mono ?_)
      rintro e6 w6 ⟨rfl, hb6⟩
      have HB6 := Aside0.mk (hW.out.below hb6)
      clear hb6
      go_wp2_with fail
      go_ret
      exact ⟨by rfl, HB6.out.toBelow⟩
  · have e2 : (k == 2) = false := by simpa using k2
    have f2 : (k = 2) = False := eq_false k2
    have d0 : decide (k = 2) = false := decide_eq_false k2
    rw [d0, Bool.false_and]
    clear HT HR k0 k1 k2 d0
    go_enter Try.func49, Try.ntmps49
    go_upto_region 5 with fail
    try rw [hWe]
    clear hWe
    go_wp2_with fail
    go_ret
    exact ⟨by rfl, by first | exact hW.out.toBelow | (rw [hWe]; exact hW.out.toBelow) | (rw [← hWe]; exact hWe ▸ hW.out.toBelow)⟩
end Go.Proofs.Ytkeijpngfnmjoaa.MineZone
end
section
namespace Go.Proofs
open Go.Shelf
def Try.sortZ_ren : Go.Shelf.Ren := ⟨fun | 6 => 81 | 15 => 103 | 14 => 102 | 28 => 126 | 29 => 127 | 20 => 118 | 21 => 119 | 22 => 120 | 23 => 121 | 24 => 122 | 25 => 123 | 26 => 124 | 27 => 125 | 46 => 132 | 47 => 133 | 48 => 134 | 49 => 135 | 50 => 136 | 57 => 137 | n => n, fun | 22 => 90 | 24 => 75 | 25 => 141 | 3 => 3 | 39 => 160 | 0 => 0 | 53 => 23 | 55 => 187 | 4 => 4 | 46 => 180 | 45 => 179 | 50 => 122 | 5 => 5 | 9 => 9 | 66 => 190 | 70 => 194 | 76 => 196 | 77 => 58 | n => n, fun | n => n⟩
theorem Try.sortZ : Go.Proofs.SlLaysF0.n6 Try.prog Try.sortZ_ren := {
  mixed := by kernel_rfl
  f6 := ⟨Try.f81.name, by decide, Try.func81.trans (congrArg some (by kernel_rfl))⟩
  f14 := ⟨Try.f102.name, by decide, Try.func102.trans (congrArg some (by kernel_rfl))⟩
  f15 := Try.func103.trans (congrArg some (by kernel_rfl))
  f20 := ⟨Try.f118.name, by decide, Try.func118.trans (congrArg some (by kernel_rfl))⟩
  f21 := ⟨Try.f119.name, by decide, Try.func119.trans (congrArg some (by kernel_rfl))⟩
  f22 := ⟨Try.f120.name, by decide, Try.func120.trans (congrArg some (by kernel_rfl))⟩
  f23 := ⟨Try.f121.name, by decide, Try.func121.trans (congrArg some (by kernel_rfl))⟩
  f24 := ⟨Try.f122.name, by decide, Try.func122.trans (congrArg some (by kernel_rfl))⟩
  f25 := ⟨Try.f123.name, by decide, Try.func123.trans (congrArg some (by kernel_rfl))⟩
  f26 := ⟨Try.f124.name, by decide, Try.func124.trans (congrArg some (by kernel_rfl))⟩
  f27 := ⟨Try.f125.name, by decide, Try.func125.trans (congrArg some (by kernel_rfl))⟩
  f28 := Try.func126.trans (congrArg some (by kernel_rfl))
  f29 := Try.func127.trans (congrArg some (by kernel_rfl))
  f46 := ⟨Try.f132.name, by decide, Try.func132.trans (congrArg some (by kernel_rfl))⟩
  f47 := Try.func133.trans (congrArg some (by kernel_rfl))
  f48 := Try.func134.trans (congrArg some (by kernel_rfl))
  f49 := ⟨Try.f135.name, by decide, Try.func135.trans (congrArg some (by kernel_rfl))⟩
  f50 := ⟨Try.f136.name, by decide, Try.func136.trans (congrArg some (by kernel_rfl))⟩
  f57 := ⟨Try.f137.name, by decide, Try.func137.trans (congrArg some (by kernel_rfl))⟩
  t0 := Try.underlying0
  a0 := Try.isAgg0
  z0 := Try.sizeOf0
  v0 := Try.zeroValue0
  t3 := Try.underlying3
  a3 := Try.isAgg3
  z3 := Try.sizeOf3
  v3 := Try.zeroValue3
  t4 := Try.underlying4
  a4 := Try.isAgg4
  z4 := Try.sizeOf4
  v4 := Try.zeroValue4
  t5 := Try.underlying5
  a5 := Try.isAgg5
  z5 := Try.sizeOf5
  v5 := Try.zeroValue5
  t9 := Try.underlying9
  a9 := Try.isAgg9
  z9 := Try.sizeOf9
  v9 := Try.zeroValue9
  t22 := Try.underlying90
  a22 := Try.isAgg90
  z22 := Try.sizeOf90
  v22 := Try.zeroValue90
  t25 := Try.underlying141
  a25 := Try.isAgg141
  z25 := Try.sizeOf141
  v25 := Try.zeroValue141
  t39 := Try.underlying160
  a39 := Try.isAgg160
  z39 := Try.sizeOf160
  v39 := Try.zeroValue160
  t45 := Try.underlying179
  a45 := Try.isAgg179
  z45 := Try.sizeOf179
  v45 := Try.zeroValue179
  t46 := Try.underlying180
  a46 := Try.isAgg180
  z46 := Try.sizeOf180
  v46 := Try.zeroValue180
  t50 := Try.underlying122
  a50 := Try.isAgg122
  z50 := Try.sizeOf122
  v50 := Try.zeroValue122
  t53 := Try.underlying23
  a53 := Try.isAgg23
  z53 := Try.sizeOf23
  v53 := Try.zeroValue23
  t55 := Try.underlying187
  a55 := Try.isAgg187
  z55 := Try.sizeOf187
  v55 := Try.zeroValue187
  t66 := Try.underlying190
  a66 := Try.isAgg190
  z66 := Try.sizeOf190
  v66 := Try.zeroValue190
  t70 := Try.underlying194
  a70 := Try.isAgg194
  z70 := Try.sizeOf194
  v70 := Try.zeroValue194
  t76 := Try.underlying196
  a76 := Try.isAgg196
  z76 := Try.sizeOf196
  v76 := Try.zeroValue196
  t77 := Try.underlying58
  a77 := Try.isAgg58
  z77 := Try.sizeOf58
  v77 := Try.zeroValue58 }
def Try.cmpZ_ren : Go.Shelf.Ren := ⟨fun | 5 => 83 | 7 => 104 | n => n, fun | 22 => 3 | 3 => 3 | 4 => 4 | n => n, fun | n => n⟩
theorem Try.cmpZ : Go.Proofs.SlLaysC2.n5 Try.prog Try.cmpZ_ren := {
  mixed := by kernel_rfl
  f5 := ⟨Try.f83.name, by decide, Try.func83.trans (congrArg some (by kernel_rfl))⟩
  f7 := ⟨Try.f104.name, by decide, Try.func104.trans (congrArg some (by kernel_rfl))⟩
  t3 := Try.underlying3
  a3 := Try.isAgg3
  z3 := Try.sizeOf3
  v3 := Try.zeroValue3
  t4 := Try.underlying4
  a4 := Try.isAgg4
  z4 := Try.sizeOf4
  v4 := Try.zeroValue4
  t22 := Try.underlying3
  a22 := Try.isAgg3
  z22 := Try.sizeOf3
  v22 := Try.zeroValue3 }
end Go.Proofs
end
section
namespace Go.Proofs.Ytkeijpngfnmjoaa.MineZone
open Go.Lib Go.Sort Go.Shelf Go.RowKit Go.MapKept Go.Proofs.YtkeijpngfnmjoaaW.PrintWords Go.Proofs.YtkeijpngfnmjoaaW.PrintLast Go.Proofs.YtkeijpngfnmjoaaW.PrintMore Go.Proofs.Ytkeijpngfnmjoaa.MineBase Go.Proofs.Ytkeijpngfnmjoaa.MineSep Go.Proofs.Ytkeijpngfnmjoaa.MineRows Go.Proofs.Ytkeijpngfnmjoaa.MineGen Go.Proofs.Ytkeijpngfnmjoaa.QZonePlays Go.Proofs.Ytkeijpngfnmjoaa.MineMap
attribute [local go_sem ↓] Go.wp_at_zero Go.wp_at_succ
set_option linter.unusedVariables false
set_option linter.unusedSimpArgs false
instance : Inhabited S82 := ⟨z82⟩
/-- A zone and where its rows lie. -/
abbrev SZ := S82 × (Option Addr × Nat) × (Option Addr × Nat)
def encZ (x : SZ) : List Value := [.int .i64 x.1.f0, .int .i64 x.1.f1, .int .i64 x.1.f2, .int .i64 x.1.f3, .slice x.2.1.1 x.1.f4.length x.2.1.2, .slice x.2.2.1 x.1.f5.length x.2.2.2]
theorem encZ_len (x : SZ) : (encZ x).length = 6 := rfl
theorem encZ_one (x : SZ) : ∀ v ∈ encZ x, v.oneCell' = true := by
  intro v hv
  simp only [encZ, List.mem_cons, List.not_mem_nil, or_false] at hv
  rcases hv with rfl | rfl | rfl | rfl | rfl | rfl <;> rfl
def cfZ (x y : SZ) : Int := Lib.compareInt x.1.f0 y.1.f0
theorem ltZ (x y : SZ) : ltOf cfZ x y = decide (x.1.f0 < y.1.f0) := by
  unfold ltOf cfZ Lib.compareInt
  by_cases h1 : x.1.f0 < y.1.f0
  · simp [h1]
  · by_cases h2 : y.1.f0 < x.1.f0 <;> simp [h1, h2]
theorem swoZ : SWO (ltOf cfZ) where
  irrefl x := by rw [ltZ]; simp
  trans x y z h1 h2 := by rw [ltZ] at *; simp at *; omega
  ntrans x y z h1 h2 := by rw [ltZ] at *; simp at *; omega
set_option maxHeartbeats 1000000 in
set_option maxRecDepth 100000 in
theorem cmp82_calls (x y : SZ) (W : World) : Calls Try.prog 82 #[.agg (encZ x).toArray, .agg (encZ y).toArray] W fun e w' => e = .returned (.int .i64 (cfZ x y)) ∧ ∃ q os', w' = grow (W.drewN q) os' := by
  have hcon := fun W' => AnyG.cmp_Compare_int Try.cmpZ x.1.f0 y.1.f0 W'
  change ∀ W', Calls Try.prog 83 _ _ _ at hcon
  unfold cfZ
  unfold encZ
  generalize Lib.compareInt x.1.f0 y.1.f0 = r at hcon ⊢
  go_enter Try.func82, Try.ntmps82
  go_wp2_with (go_at_call 83; refine (hcon _).mono ?_; rintro e w' ⟨rfl, rfl⟩)
  go_ret
  exact ⟨rfl, 0, _, by rw [alloc_eq_grow, alloc_eq_grow, grow_grow]; rfl⟩
theorem cmpLaysZ (blk off size : Nat) (w : World) : CmpLays Try.prog 82 #[] encZ 6 cfZ blk off size w :=
  fun _ _ _ _ x y => cmp82_calls x y _
set_option maxHeartbeats 1000000 in
theorem Sort_calls (blk off cap : Nat) (d : Array SZ) (w : World) (hH : HoldsK encZ 6 w blk off d) (hblk : blk < w.heap.size) (hsz : d.size < 4611686018427387904) :
    Calls Try.prog 81 #[.slice (some ⟨blk, off, none⟩) d.size cap, .func (.func 82) #[] #[]] w fun e w' => e = .returned (.tuple #[]) ∧ ∃ d' n os, PermIn 0 d.size d d' ∧ SortedIn (ltOf cfZ) 0 d.size d' ∧ w' = sortWorldK encZ 6 w blk off n d' os := by
  have eg : ∀ args w, (callFunc 82 args).run Try.prog w = .ok (.enter 82 args) w := enters_of Try.func82 (by kernel_rfl) rfl
  have hcon := AnyQ.slices_SortFunc Try.sortZ 6 Try.isAgg75 Try.sizeOf75 encZ encZ_len encZ_one cfZ swoZ 82 #[] blk off cap d w eg (cmpLaysZ blk off d.size w) hH hblk hsz
  exact hcon
end Go.Proofs.Ytkeijpngfnmjoaa.MineZone
end
section
namespace Go.Proofs.Ytkeijpngfnmjoaa.MineZone
open Go.Lib Go.Sort Go.Shelf Go.RowKit Go.MapKept Go.Proofs.YtkeijpngfnmjoaaW.PrintWords Go.Proofs.YtkeijpngfnmjoaaW.PrintLast Go.Proofs.YtkeijpngfnmjoaaW.PrintMore Go.Proofs.Ytkeijpngfnmjoaa.MineBase Go.Proofs.Ytkeijpngfnmjoaa.MineSep Go.Proofs.Ytkeijpngfnmjoaa.MineRows Go.Proofs.Ytkeijpngfnmjoaa.MineGen Go.Proofs.Ytkeijpngfnmjoaa.QZonePlays Go.Proofs.Ytkeijpngfnmjoaa.MineMap
attribute [local go_sem ↓] Go.wp_at_zero Go.wp_at_succ
set_option linter.unusedVariables false
set_option linter.unusedSimpArgs false
theorem sort_block (w : World) (g n e : Nat) (cur : Array Value) (d : Array SZ) (os : Array Obj) (hg : w.heap[g]? = some (.cells cur e (0, 0))) : (sortWorldK encZ 6 w g 0 n d os).heap[g]? = some (.cells (putCells id 0 (flatK encZ 6 d) cur) e (0, 0)) := by
  have hlt := (Array.getElem?_eq_some_iff.1 hg).1
  show ((w.heap.modify g (onCells (putCells id 0 (flatK encZ 6 d)))) ++ os)[g]? = _
  rw [Array.getElem?_append_left (by rw [Array.size_modify]; exact hlt), Array.getElem?_modify, if_pos rfl, hg]
  rfl
theorem sort_grown (w : World) (g n : Nat) (d : Array SZ) (os : Array Obj) : w.grownBy (sortWorldK encZ 6 w g 0 n d os) (some g) where
  os := rfl
  tape := rfl
  output := rfl
  size := by
    show w.heap.size ≤ ((w.heap.modify g (onCells (putCells id 0 (flatK encZ 6 d)))) ++ os).size
    rw [Array.size_append, Array.size_modify]; omega
  block := fun k hk hne => by
    show ((w.heap.modify g (onCells (putCells id 0 (flatK encZ 6 d)))) ++ os)[k]? = _
    rw [Array.getElem?_append_left (by rw [Array.size_modify]; exact hk), Array.getElem?_modify, if_neg (fun e => hne (by rw [e]))]
theorem flat_get : ∀ (L : List (List Value)), (∀ c ∈ L, c.length = 6) → ∀ t, L.flatten[t]? = (L[t / 6]?.getD [])[t % 6]?
  | [], _, t => by simp
  | c :: L, h, t => by
    have hc := h c List.mem_cons_self
    rw [List.flatten_cons]
    by_cases ht : t < 6
    · rw [List.getElem?_append_left (by omega), show t / 6 = 0 by omega, show t % 6 = t by omega]
      rfl
    · rw [List.getElem?_append_right (by omega), hc, flat_get L (fun c hc => h c (List.mem_cons_of_mem _ hc)) (t - 6), show t / 6 = (t - 6) / 6 + 1 by omega, show (t - 6) % 6 = t % 6 by omega, List.getElem?_cons_succ]
theorem flat_toList (d : List SZ) : (flatK encZ 6 d.toArray).toList = (d.map encZ).flatten := by
  apply List.ext_getElem?
  intro t
  rw [flat_get _ (fun c hc => by obtain ⟨x, _, rfl⟩ := List.mem_map.1 hc; exact encZ_len x)]
  by_cases ht : t < d.length * 6
  · have h6 : t / 6 < d.length := by omega
    have hm : t % 6 < 6 := Nat.mod_lt _ (by omega)
    simp only [flatK, Array.getElem?_toList, Array.getElem?_map, List.size_toArray, Array.getElem?_range, if_pos ht, Option.map_some, List.getElem?_map, List.getElem?_eq_getElem h6, Option.getD_some]
    rw [List.getElem?_eq_getElem (by rw [encZ_len]; exact hm), getElem!_pos (encZ _) _ (by rw [encZ_len]; exact hm)]
    congr 2
    congr 1
    rw [getElem!_pos d.toArray _ (by simpa using h6)]
    simp
  · have h6 : ¬ t / 6 < d.length := by omega
    have h7 : d[t / 6]? = none := List.getElem?_eq_none (by omega)
    simp only [List.getElem?_map, h7, Option.map_none, Option.getD_none, List.getElem?_nil]
    rw [List.getElem?_eq_none]
    simp
    omega
theorem pick_zones {W : World} {ok : Nat → Prop} : ∀ (zs : List S82) (rows : List (List Value)), rows.length = zs.length → (∀ (j : Nat) (x : S82) (c : List Value), zs[j]? = some x → rows[j]? = some c → Kd.FK k82 W ok x c) → ∃ ds : List SZ, ds.map (·.1) = zs ∧ ds.map encZ = rows
  | [], rows, hl, _ => ⟨[], rfl, by cases rows with | nil => rfl | cons => simp at hl⟩
  | z :: zs, [], hl, _ => by simp at hl
  | z :: zs, c :: rows, hl, hf => by
    obtain ⟨ds, h1, h2⟩ := pick_zones zs rows (by simpa using hl) (fun j x c hx hc => hf (j + 1) x c (by simpa using hx) (by simpa using hc))
    obtain ⟨A4, c4, A5, c5, e, _⟩ := k82_open (Kd.FK_now (hf 0 z c rfl rfl))
    exact ⟨(z, (A4, c4), (A5, c5)) :: ds, by rw [List.map_cons, h1], by rw [List.map_cons, h2, e]; rfl⟩
theorem sort_row {w0 w : World} {l : List Asn} {base : Nat} {v : Value} {zs : List S82} (h : Sat w0 w (ARowN k82 75 base v zs :: l)) (hne : zs ≠ []) : ∃ (g cap : Nat) (ds : List SZ), v = .slice (some ⟨g, 0, none⟩) zs.length cap ∧ g < w.heap.size ∧ ds.map (·.1) = zs ∧ HoldsK encZ 6 w g 0 ds.toArray ∧
    ∀ (d' : List SZ) (n : Nat) (os : Array Obj), d'.Perm ds → Sat w0 (sortWorldK encZ 6 w g 0 n d'.toArray os) (ARowN k82 75 base v (d'.map (·.1)) :: l) := by
  have hb0 := h.toBelow
  have hsz := h.size
  obtain ⟨D, hP, hD, _, hcl⟩ := h.open_
  obtain ⟨hok, rows, hl, hR, hf⟩ := hP
  obtain ⟨ds, hd1, hd2⟩ := pick_zones zs rows hl hf
  obtain ⟨_, inner, hown, hrep⟩ := hR
  have hdl : ds.length = rows.length := by rw [← hd2, List.length_map]
  rcases hown.2 with ⟨_, h0⟩ | ⟨g, cap, cur, hv, hbase, hg, hn, hcap, hcs, htk⟩
  · exact absurd (List.eq_nil_of_length_eq_zero (by omega)) hne
  have hin : inner = (ds.map encZ).flatten := by
    apply List.ext_getElem?
    intro t
    rw [flat_get _ (fun c hc => by obtain ⟨x, _, rfl⟩ := List.mem_map.1 hc; exact encZ_len x), hd2]
    have hil : inner.length = rows.length * 6 := hrep.1
    by_cases ht : t / 6 < rows.length
    · obtain ⟨p, hp⟩ : ∃ p, rows[t / 6]? = some p := ⟨_, List.getElem?_eq_getElem ht⟩
      have e : (inner.drop (t / 6 * 6)).take 6 = p := (hrep.2 (t / 6) p hp).1
      rw [hp, Option.getD_some, ← e]
      show inner[t]? = ((inner.drop (t / 6 * 6)).take 6)[t % 6]?
      rw [List.getElem?_take_of_lt (Nat.mod_lt _ (by omega)), List.getElem?_drop]
      congr 1
      omega
    · rw [List.getElem?_eq_none (l := rows) (by omega), List.getElem?_eq_none (by omega)]
      rfl
  have hDg : D g := hok g (by rw [hv]; rfl)
  have hcur : ∀ t, t < rows.length * 6 → cur[t]? = inner[t]? := fun t ht => by
    rw [← htk]
    show _ = (cur.toList.take (rows.length * 6))[t]?
    rw [List.getElem?_take_of_lt ht, Array.getElem?_toList]
  refine ⟨g, cap, ds, by rw [hv, hl], (Array.getElem?_eq_some_iff.1 hg).1, hd1, fun t ht => ⟨?_, ?_⟩, fun d' n os hp => ?_⟩
  · have ht' : t < rows.length * 6 := by rw [size_flatK, List.size_toArray] at ht; omega
    have e := flat_toList ds
    rw [Nat.zero_add]
    refine (get_cell (show blk w g = _ from hg) t).trans ?_
    rw [hcur t ht', hin, ← e, Array.getElem?_toList, Array.getElem?_eq_getElem ht, getElem!_pos (flatK encZ 6 ds.toArray) t ht]
    rfl
  · simp [World.frozen?, hg]
  · have hpl : d'.length = ds.length := hp.length_eq
    refine hcl _ (ARowN k82 75 base v (d'.map (·.1))) D (hb0.grown (sort_grown w g n d'.toArray os) hsz (fun j hj => by injection hj with hj; subst hj; exact (hD _ hDg).1)) (Kept.of_grown (sort_grown w g n d'.toArray os) (Kept.refl w D) (fun j hj => by injection hj with hj; subst hj; exact .inl hDg)) ?_ (fun _ hj => .inl hj)
    refine ⟨hok, d'.map encZ, by simp, Kd.raw_tight (ok := fun _ => True) ⟨fun _ _ => trivial, (d'.map encZ).flatten, ⟨?_, .inr ⟨g, cap, _, by rw [hv, List.length_map, hpl, hdl], hbase, sort_block w g n 75 cur d'.toArray os hg, by rw [List.length_map]; omega, hcap, ?_, ?_⟩⟩, ?_⟩, fun j x c hx hc => ?_⟩
    · rw [← flat_toList]; simp; rfl
    · simp [putCells]; exact hcs
    · rw [← flat_toList]
      apply List.ext_getElem?
      intro t
      have hF : (flatK encZ 6 d'.toArray).size = d'.length * 6 := by rw [size_flatK, List.size_toArray]
      rw [List.length_map]
      by_cases ht : t < d'.length * 6
      · have h2 : t < (flatK encZ 6 d'.toArray).size := by omega
        show ((putCells id 0 (flatK encZ 6 d'.toArray) cur).toList.take (d'.length * 6))[t]? = _
        rw [List.getElem?_take_of_lt ht, Array.getElem?_toList, Array.getElem?_toList, putCells, Array.getElem?_mapIdx, Array.getElem?_eq_getElem (xs := cur) (by rw [hcs]; show t < cap * 6; omega), Option.map_some, if_pos ⟨Nat.zero_le _, by omega⟩, Array.getElem?_eq_getElem h2, Nat.sub_zero, getElem!_pos (flatK encZ 6 d'.toArray) t h2]
        rfl
      · show ((putCells id 0 (flatK encZ 6 d'.toArray) cur).toList.take (d'.length * 6))[t]? = _
        rw [List.getElem?_eq_none (by rw [List.length_take]; omega), List.getElem?_eq_none (by rw [Array.length_toList]; omega)]
    · refine ⟨by rw [← flat_toList]; simp; rfl, fun j p hj => ?_⟩
      have hj0 := (List.getElem?_eq_some_iff.1 hj).1
      have e : (((d'.map encZ).flatten.drop (j * 6)).take 6) = p := by
        apply List.ext_getElem?
        intro t
        by_cases ht : t < 6
        · rw [List.getElem?_take_of_lt ht, List.getElem?_drop, flat_get _ (fun c hc => by obtain ⟨x, _, rfl⟩ := List.mem_map.1 hc; exact encZ_len x), show (j * 6 + t) / 6 = j by omega, show (j * 6 + t) % 6 = t by omega, hj]
          rfl
        · obtain ⟨x, _, rfl⟩ := List.mem_map.1 (List.mem_iff_getElem?.2 ⟨j, hj⟩)
          rw [List.getElem?_eq_none (by rw [List.length_take]; omega), List.getElem?_eq_none (by rw [encZ_len]; omega)]
      obtain ⟨x, _, rfl⟩ := List.mem_map.1 (List.mem_iff_getElem?.2 ⟨j, hj⟩)
      exact ⟨e, by show (((d'.map encZ).flatten.drop (j * 6)).take 6).length = 6; rw [e]; rfl, by
        show ∀ u ∈ (((d'.map encZ).flatten.drop (j * 6)).take 6), u.oneCell' = true
        rw [e]; exact encZ_one x⟩
    · rw [List.getElem?_map] at hx hc
      obtain ⟨y, hy, rfl⟩ := Option.map_eq_some_iff.1 hx
      rw [hy] at hc
      injection hc with hc
      obtain ⟨k, hk⟩ := List.mem_iff_getElem?.1 (hp.mem_iff.1 (List.mem_iff_getElem?.2 ⟨j, hy⟩))
      have hfk := hf k y.1 c (by rw [← hd1, List.getElem?_map, hk]; rfl) (by rw [← hd2, List.getElem?_map, hk, ← hc]; rfl)
      exact Kd.FK_step hfk (fun b hb hlt => (sort_grown w g n d'.toArray os).block b hlt (by have := hb.2; rw [hv] at this; exact this))
theorem SortZ_calls {w0 w : World} {l : List Asn} {base : Nat} {v : Value} {zs : List S82} (h : Sat w0 w (ARowN k82 75 base v zs :: l)) (hne : zs ≠ []) (hn : zs.length ≤ 2000) :
    Calls Try.prog 81 #[v, .func (.func 82) #[] #[]] w fun e w' => e = .returned (.tuple #[]) ∧ ∃ zs' : List S82, zs'.Perm zs ∧ zs'.Pairwise (fun a b => a.f0 ≤ b.f0) ∧ Sat w0 w' (ARowN k82 75 base v zs' :: l) := by
  obtain ⟨g, cap, ds, rfl, hlt, hd, hH, hs⟩ := sort_row h hne
  have hl : ds.toArray.size = zs.length := by rw [List.size_toArray, ← hd, List.length_map]
  have hq := Sort_calls g 0 cap ds.toArray w hH hlt (by rw [hl]; omega)
  rw [hl] at hq
  refine hq.mono ?_
  rintro e w' ⟨rfl, d', n, os, hp, hso, rfl⟩
  obtain ⟨hp1, _, hp2⟩ := hp
  have hpl : d'.toList.Perm ds := by
    have e1 : d'.extract 0 zs.length = d' := by rw [← hl, ← hp1, Array.extract_size]
    have e2 : ds.toArray.extract 0 zs.length = ds.toArray := by rw [← hl, Array.extract_size]
    rw [e1, e2] at hp2
    exact hp2
  refine ⟨rfl, d'.toList.map (·.1), by rw [← hd]; exact hpl.map _, ?_, ?_⟩
  · rw [List.pairwise_map, List.pairwise_iff_getElem]
    intro i j hi hj hij
    rw [Array.length_toList] at hi hj
    have h1 := hso i j (Nat.zero_le _) hij (by rw [← hl, ← hp1]; exact hj)
    rw [ltZ, getElem!_pos d' i hi, getElem!_pos d' j hj, decide_eq_false_iff_not] at h1
    rw [Array.getElem_toList, Array.getElem_toList]
    omega
  · have := hs d'.toList n os hpl
    rw [Array.toArray_toList] at this
    exact this
end Go.Proofs.Ytkeijpngfnmjoaa.MineZone
end
section
namespace Go.Proofs.Ytkeijpngfnmjoaa.QZonePlays
open Go.RowKit Go.Proofs.YtkeijpngfnmjoaaW.PrintWords Go.Proofs.YtkeijpngfnmjoaaW.PrintLast Go.Proofs.YtkeijpngfnmjoaaW.PrintMore Go.Proofs.Ytkeijpngfnmjoaa.MineBase
attribute [local go_sem] max2_int min2_int max_two min_two max_three min_three max_four min_four   -- for this text's walks alone
attribute [local go_sem] Go.Proofs.Ytkeijpngfnmjoaa.MineErr.eql_err Go.Proofs.Ytkeijpngfnmjoaa.MineErr.neq_err Go.Proofs.Ytkeijpngfnmjoaa.MineErr.eql_nil_err Go.Proofs.Ytkeijpngfnmjoaa.MineErr.neq_nil_err
set_option linter.unusedVariables false
set_option linter.unusedSimpArgs false







/-! ### slices_Clone_int_int: function 101 -/
def slices_Clone_int_int.f (l0 : List Int) : Option (List Int) := (some (([] : List Int) : List Int)).bind fun y107 => (if y107.length + l0.length < 17592186044416 then (some (y107 ++ l0)) else (none))
set_option maxHeartbeats 8000000 in
set_option maxRecDepth 100000 in
theorem slices_Clone_int_int.calls (A0 : Option Addr) (c0 : Nat) (l0 : List Int) (r : List Int) (w : World) (hr0 : Kd.C (Kd.int .i64) w A0 l0.length l0) (hc0 : l0.length ≤ c0) (h : slices_Clone_int_int.f l0 = some r) :
    Calls Try.prog 101 #[.slice A0 l0.length c0] w fun e w' => ∃ v0_ : Value, e = .returned (v0_) ∧ Kd.R (Kd.int .i64) 3 w' w.heap.size (fun _ => True) v0_ r ∧ Below w.heap.size w w' := by
  have hnl : ∀ w : World, (binOp .eql 67 (.slice A0 l0.length c0) (.slice none 0 0)).run Try.prog w = .ok (.bool A0.isNone) w := fun w => Lib.run_eql_slice_nil (P := Try.prog) w 67 3 A0 l0.length c0 0 0 Try.underlying67
  by_cases hA : A0 = none
  · subst hA
    have e0 : l0 = [] := by
      rcases Nat.eq_zero_or_pos l0.length with hz | hz
      · exact List.length_eq_zero_iff.1 hz
      · obtain ⟨ad, e1, _⟩ := (show ReadsRow _ _ _ _ _ _ from hr0).2.2 hz
        cases e1
    subst e0
    have er : r = [] := by
      unfold slices_Clone_int_int.f at h; simp at h; exact h
    subst er
    clear h hr0
    have hnl2 : ∀ w : World, (binOp .eql 67 (.slice none 0 c0) (.slice none 0 0)).run Try.prog w = .ok (.bool true) w := hnl
    clear hnl
    go_enter Try.func101, Try.ntmps101
    go_wp2
    go_ret
    exact ⟨_, rfl, Kd.R_nil _ _ _ _ _, Below.refl _ _⟩
  have hS : A0.isNone = false := by cases A0 with | none => exact absurd rfl hA | some a => rfl
  rw [hS] at hnl
  clear hS hA
  have HR0 := Aside0.mk hr0
  have HC0 := Aside0.mk hc0
  clear hr0 hc0
  have HB := Aside0.mk (Below.refl w.heap.size w)
  have H : ((some (([] : List Int) : List Int)).bind fun y107 => (if y107.length + l0.length < 17592186044416 then (some (y107 ++ l0)) else (none))) = some r := h
  clear h
  obtain ⟨y107, hy107⟩ : ∃ y_ : List Int, y_ = (([] : List Int)) := ⟨_, rfl⟩
  replace H : (if y107.length + l0.length < 17592186044416 then (some (y107 ++ l0)) else (none)) = some r := by first | (rw [hy107]; with_reducible exact H) | (have H2_ := (Option.bind_some _ _).symm.trans H; rw [hy107]; with_reducible exact H2_) | (have H2_ := (Option.bind_some _ _).symm.trans H; with_reducible exact H2_) | with_reducible exact H | (rw [hy107]; exact H) | exact H
  have Ny107 := Aside0.mk hy107
  clear hy107
  by_cases c2 : y107.length + l0.length < 17592186044416
  · rw [if_pos c2] at H
    have LMc2 := Aside0.mk c2
    clear c2
    obtain ⟨y110, hy110⟩ : ∃ y_ : List Int, y_ = (y107 ++ l0) := ⟨_, rfl⟩
    replace H : (some y110) = some r := by first | (rw [hy110]; with_reducible exact H) | (have H2_ := (Option.bind_some _ _).symm.trans H; rw [hy110]; with_reducible exact H2_) | (have H2_ := (Option.bind_some _ _).symm.trans H; with_reducible exact H2_) | with_reducible exact H | (rw [hy110]; exact H) | exact H
    have Ny110 := Aside0.mk hy110
    clear hy110
    obtain rfl := Option.some.inj H
    go_enter Try.func101, Try.ntmps101
    go_wp2_with (first | ((with_reducible refine gate_dst (N := 5) rfl ?_); refine Kd.R_lit (Kd.int .i64) _ 3 ?hg (N := 5) ?hd (xs := ([] : List Int)) (inner := []) (ok := fun _ => True) (okp := fun _ => True) ?hr ?hp (fun _ hk => hk) trivial (Below.refl _ _) (Nat.le_refl _) (by simp) ?_; (case hd => rfl); (case hg => rfl); (case hr => first | (go_simp; done) | (go_simp; rfl)); (case hp => exact (Reps.none _ _)); intro v108 w3 ho4 hb hg_ hnew_; clear hg_ hnew_; (first | rw [← Ny107.out] at ho4 | (simp only [Int.reduceToNat] at ho4; rw [← Ny107.out] at ho4)); have n0_ := Aside0.mk (Kd.R_lower ho4 (below_size (by repeat (first | (with_reducible first | exact HB.out | apply below_alloc | apply pw_below_drewN | apply below_drew1) | exact HB.out)))); have n1_ := Aside0.mk (below_step (by repeat (first | (with_reducible first | exact HB.out | apply below_alloc | apply pw_below_drewN | apply below_drew1) | exact HB.out)) hb); clear HB; have HO109 := n0_; have HB := n1_; clear n0_ n1_; clear hb ho4) | ((with_reducible refine gate_builtin (b := .append) (xs := #[.tmp 5, .tmp 6]) rfl ?_); at_builtin; refine Kd.R_append_rows (Kd.int .i64) (w0 := w) w.heap.size rfl (.tmp 5) (.tmp 6) 67 3 (.int .i64 0) 8 rfl Try.underlying67 info3 rfl (by decide) (by omega) v108 y107 l0 _ _ _ (fun _ => True) (fun _ => False) rfl rfl ?aO ?aR (fun _ _ h => h) (fun _ h => h.elim) ?aF ?aB ?aS ?aL ?_; (case aR => repeat (first | exact (Kd.C_below HR0.out HB.out) | (with_reducible refine Kd.C_alloc ?_ _) | (with_reducible refine Kd.C_drewN ?_ _) | (with_reducible refine Kd.C_drew ?_))); (case aB => exact (by repeat (first | (with_reducible first | exact HB.out | apply below_alloc | apply pw_below_drewN | apply below_drew1) | exact HB.out))); (case aF => exact (fun _ _ => trivial)); (case aO => exact (by (with_reducible repeat (first | apply Kd.R_alloc | apply Kd.R_drewN | apply Kd.R_drew)); exact HO109.out)); (case aS => exact (below_size (by repeat (first | (with_reducible first | exact HB.out | apply below_alloc | apply pw_below_drewN | apply below_drew1) | exact HB.out)))); (case aL => have := LMc2.out; omega); intro v111 w5 ho hb hg hat; rw [← Ny110.out] at ho; have n0_ := Aside0.mk (hb); have n1_ := Aside0.mk (ho); clear HB; clear HO109; have HB := n0_; have HO112 := n1_; clear n0_ n1_; clear ho hb hg hat))
    go_ret
    exact ⟨_, by first | rfl | (simp [errW_none, errW_some] <;> rfl) | (simp [*, errW_none, errW_some] <;> rfl), by (with_reducible repeat (first | apply Kd.R_alloc | apply Kd.R_drewN | apply Kd.R_drew)); exact HO112.out, by repeat (first | (with_reducible first | exact HB.out | apply below_alloc | apply pw_below_drewN | apply below_drew1) | exact HB.out)⟩
  · rw [if_neg c2] at H
    exact absurd H (by simp)

/-! ### zone_own: function 80 -/
def zone_own.f (a0_0 : Int) (a0_1 : Int) (a0_2 : Int) (a0_3 : Int) (l0_4 : List Int) (l0_5 : List Int) : Option (Int × Int × Int × Int × List Int × List Int) := (slices_Clone_int_int.f l0_4).bind fun t115 => ((slices_Clone_int_int.f l0_5).bind fun t118 => (some (a0_0, a0_1, a0_2, a0_3, t115, t118)))
def zone_own.T1 : Bool × List (List Nat × List Nat) := (true, [([], []), ([0], [0]), ([1], [1]), ([], []), ([3], [3]), ([4, 2], [4]), ([0, 1, 2, 3, 4], []), ([6, 2, 5, 0, 1, 2, 3, 4], [2, 6]), ([0, 1, 2, 3, 4, 5, 6, 7], []), ([8, 5, 7, 0, 1, 2, 3, 4, 5, 6, 7], [5, 8])])
def zone_own.B1 : List Nat := [0, 1, 3, 0, 8, 31, 31, 127, 255, 511]
theorem zone_own.tab1 : rtab .any (opsOf Try.f80 1) = zone_own.T1 := by kernel_rfl
theorem zone_own.bits1 : waitsOk zone_own.T1.2 zone_own.B1 = true := by kernel_rfl
set_option maxHeartbeats 8000000 in
set_option maxRecDepth 100000 in
theorem zone_own.calls (a0_0 : Int) (a0_1 : Int) (a0_2 : Int) (a0_3 : Int) (A0_4 : Option Addr) (c0_4 : Nat) (l0_4 : List Int) (A0_5 : Option Addr) (c0_5 : Nat) (l0_5 : List Int) (r1 : Int) (r2 : Int) (r3 : Int) (r4 : Int) (r5 : List Int) (r6 : List Int) (w : World) (hr0_4 : Kd.C (Kd.int .i64) w A0_4 l0_4.length l0_4) (hc0_4 : l0_4.length ≤ c0_4) (hr0_5 : Kd.C (Kd.int .i64) w A0_5 l0_5.length l0_5) (hc0_5 : l0_5.length ≤ c0_5) (h : zone_own.f a0_0 a0_1 a0_2 a0_3 l0_4 l0_5 = some (r1, r2, r3, r4, r5, r6)) :
    Calls Try.prog 80 #[.agg #[.int .i64 a0_0, .int .i64 a0_1, .int .i64 a0_2, .int .i64 a0_3, .slice A0_4 l0_4.length c0_4, .slice A0_5 l0_5.length c0_5]] w fun e w' => ∃ v4_ v5_ : Value, e = .returned (.agg #[.int .i64 r1, .int .i64 r2, .int .i64 r3, .int .i64 r4, v4_, v5_]) ∧ Kd.R (Kd.int .i64) 3 w' w.heap.size (fun k_ => some k_ ≠ (v5_ : Value).ownBlock) v4_ r5 ∧ Kd.R (Kd.int .i64) 3 w' w.heap.size (fun k_ => some k_ ≠ (v4_ : Value).ownBlock) v5_ r6 ∧ Below w.heap.size w w' := by
  have hu75 := Try.underlying75
  have HR0_4 := Aside0.mk hr0_4
  have HC0_4 := Aside0.mk hc0_4
  clear hr0_4 hc0_4
  have HR0_5 := Aside0.mk hr0_5
  have HC0_5 := Aside0.mk hc0_5
  clear hr0_5 hc0_5
  have HB := Aside0.mk (Below.refl w.heap.size w)
  have H : ((slices_Clone_int_int.f l0_4).bind fun t115 => ((slices_Clone_int_int.f l0_5).bind fun t118 => (some (a0_0, a0_1, a0_2, a0_3, t115, t118)))) = some (r1, r2, r3, r4, r5, r6) := h
  clear h
  replace H := Option.bind_eq_some_iff.mp H
  obtain ⟨t115, A20, H⟩ := H
  replace H : ((slices_Clone_int_int.f l0_5).bind fun t118 => (some (a0_0, a0_1, a0_2, a0_3, t115, t118))) = some (r1, r2, r3, r4, r5, r6) := H
  have A2 := Aside0.mk A20
  clear A20
  replace H := Option.bind_eq_some_iff.mp H
  obtain ⟨t118, A30, H⟩ := H
  replace H : (some (a0_0, a0_1, a0_2, a0_3, t115, t118)) = some (r1, r2, r3, r4, r5, r6) := H
  have A3 := Aside0.mk A30
  clear A30
  simp only [Option.some.injEq, Prod.mk.injEq] at H
  obtain ⟨rfl, rfl, rfl, rfl, rfl, rfl⟩ := H
  go_enter Try.func80, Try.ntmps80
  try go_wp2_with (first | ((with_reducible refine gate_dst (N := 1) rfl ?_); refine box_event ?hg (N := 1) ?hd (cs := #[.int .i64 a0_0, .int .i64 a0_1, .int .i64 a0_2, .int .i64 a0_3, .slice A0_4 l0_4.length c0_4, .slice A0_5 l0_5.length c0_5]) (t := 75) ?hr ?_; (case hd => rfl); (case hg => rfl); (case hr => first | (go_simp; done) | (go_simp; rfl)); intro gb113 hg w4 hbox hb; have n0_ := Aside0.mk (below_step (by repeat (first | (with_reducible first | exact HB.out | apply below_alloc | apply pw_below_drewN | apply below_drew1) | exact HB.out)) hb); have n1_ := Aside0.mk (hbox); have n2_ := Aside0.mk ((by rw [hg]; exact (below_size (by repeat (first | (with_reducible first | exact HB.out | apply below_alloc | apply pw_below_drewN | apply below_drew1) | exact HB.out))) : w.heap.size ≤ gb113)); have n3_ := Aside0.mk ((by rw [hg]; exact (below_size (by repeat (first | (with_reducible first | exact HB.out | apply below_alloc | apply pw_below_drewN | apply below_drew1) | exact HB.out))) : w.heap.size ≤ gb113)); clear HB; have HB := n0_; have BK113 := n1_; have GW113 := n2_; have GE113 := n3_; clear n0_ n1_ n2_ n3_; clear hb hbox hg) | ((with_reducible refine gate_dst (N := 2) rfl ?_); refine box_event ?hg (N := 2) ?hd (cs := #[.int .i64 0, .int .i64 0, .int .i64 0, .int .i64 0, .slice none 0 0, .slice none 0 0]) (t := 75) ?hr ?_; (case hd => rfl); (case hg => rfl); (case hr => first | (go_simp; done) | (go_simp; rfl)); intro gb114 hg w5 hbox hb; have n0_ := Aside0.mk (blk_below (g := gb113) (o := .cells #[.int .i64 a0_0, .int .i64 a0_1, .int .i64 a0_2, .int .i64 a0_3, .slice A0_4 l0_4.length c0_4, .slice A0_5 l0_5.length c0_5] 75 (0, 0)) (by (with_reducible repeat (first | refine blk_drewN ?_ _ | refine blk_drew ?_ | refine blk_alloc ?_ _)); exact BK113.out) hb); have n1_ := Aside0.mk (below_step (by repeat (first | (with_reducible first | exact HB.out | apply below_alloc | apply pw_below_drewN | apply below_drew1 | refine below_set ?_ GE113.out) | exact HB.out)) hb); have n2_ := Aside0.mk (hbox); have n3_ := Aside0.mk ((by rw [hg]; exact (below_size (by repeat (first | (with_reducible first | exact HB.out | apply below_alloc | apply pw_below_drewN | apply below_drew1 | refine below_set ?_ GE113.out) | exact HB.out))) : w.heap.size ≤ gb114)); have n4_ := Aside0.mk ((by rw [hg]; exact (below_size (by repeat (first | (with_reducible first | exact HB.out | apply below_alloc | apply pw_below_drewN | apply below_drew1 | refine below_set ?_ GE113.out) | exact HB.out))) : w.heap.size ≤ gb114)); have n5_ := Aside0.mk ((by rw [hg]; exact Nat.ne_of_lt (blk_lt (g := gb113) (o := .cells #[.int .i64 a0_0, .int .i64 a0_1, .int .i64 a0_2, .int .i64 a0_3, .slice A0_4 l0_4.length c0_4, .slice A0_5 l0_5.length c0_5] 75 (0, 0)) (by (with_reducible repeat (first | refine blk_drewN ?_ _ | refine blk_drew ?_ | refine blk_alloc ?_ _)); exact BK113.out)) : gb113 ≠ gb114)); have n6_ := Aside0.mk ((by rw [hg]; exact Nat.ne_of_gt (blk_lt (g := gb113) (o := .cells #[.int .i64 a0_0, .int .i64 a0_1, .int .i64 a0_2, .int .i64 a0_3, .slice A0_4 l0_4.length c0_4, .slice A0_5 l0_5.length c0_5] 75 (0, 0)) (by (with_reducible repeat (first | refine blk_drewN ?_ _ | refine blk_drew ?_ | refine blk_alloc ?_ _)); exact BK113.out)) : gb114 ≠ gb113)); clear BK113; clear HB; have BK113 := n0_; have HB := n1_; have BK114 := n2_; have GW114 := n3_; have GE114 := n4_; have NB113_114 := n5_; have NB114_113 := n6_; clear n0_ n1_ n2_ n3_ n4_ n5_ n6_; clear hb hbox hg))
  have n0_ := Aside0.mk (blk_drew BK113.out)
  have n1_ := Aside0.mk (blk_drew BK114.out)
  have n2_ := Aside0.mk (below_drew1 HB.out)
  clear BK113
  clear BK114
  clear HB
  have BK113 := n0_
  have BK114 := n1_
  have HB := n2_
  clear n0_ n1_ n2_
  refine start_ (n := 10) (S := fun w' => w'.cell? ⟨gb113, 0, none⟩ = some (.int .i64 a0_0) ∧ w'.cell? ⟨gb113, 1, none⟩ = some (.int .i64 a0_1) ∧ w'.cell? ⟨gb113, 2, none⟩ = some (.int .i64 a0_2) ∧ w'.cell? ⟨gb113, 3, none⟩ = some (.int .i64 a0_3) ∧ w'.cell? ⟨gb113, 4, none⟩ = some (.slice A0_4 l0_4.length c0_4) ∧ w'.cell? ⟨gb113, 5, none⟩ = some (.slice A0_5 l0_5.length c0_5)) (ds := [7, 9]) #[false, false, false, false, false, false, false, false, false, false] (by kernel_rfl) rfl rfl ⟨(blk_cell BK113.out 0).trans rfl, (blk_cell BK113.out 1).trans rfl, (blk_cell BK113.out 2).trans rfl, (blk_cell BK113.out 3).trans rfl, (blk_cell BK113.out 4).trans rfl, (blk_cell BK113.out 5).trans rfl⟩ (fun hHeld => ?_); refine with_tabW zone_own.tab1 zone_own.bits1 (fun HT_ HW_ => ?_)
  generalize w5.drew = w6 at BK113 BK114 HB hHeld ⊢
  refine pure_ (i := 0) (N := some 3) (v := ?_) (a' := ?_) #[true, false, false, false, false, false, false, false, false, false] rfl rfl (any_of HT_.out (by kernel_rfl)) (fun _ _ _ h => h) (Or.inl ⟨by rfl, ?_⟩) ?_ ?_
  rotate_left
  · intro w'
    go_simp
    with_reducible rfl
  rotate_left
  · simp only [Act.put, List.setIfInBounds_toArray, List.set_cons_zero, List.set_cons_succ, i64_w, i32_w]
    rfl
  refine pure_ (i := 3) (N := some 6) (v := ?_) (a' := ?_) #[true, false, false, true, false, false, false, false, false, false] rfl rfl (any_of HT_.out (by kernel_rfl)) (fun _ _ _ h => h) (Or.inl ⟨by rfl, ?_⟩) ?_ ?_
  rotate_left
  · intro w'
    go_simp
    with_reducible rfl
  rotate_left
  · simp only [Act.put, List.setIfInBounds_toArray, List.set_cons_zero, List.set_cons_succ, i64_w, i32_w]
    rfl
  refine take_ (i := 1) (N := some 4) (v := ?_) (a' := ?_) #[true, true, false, true, false, false, false, false, false, false] rfl rfl (take_ofW HT_.out HW_.out (by kernel_rfl)) (fun _ _ _ h => h) (Or.inl ⟨by rfl, ?_⟩) hHeld ?_ ?_
  rotate_left
  · rintro w' ⟨s0, s1, s2, s3, s4, s5⟩
    go_simp
    with_reducible rfl
  rotate_left
  · simp only [Act.put, List.setIfInBounds_toArray, List.set_cons_zero, List.set_cons_succ, i64_w, i32_w]
    rfl
  refine take_ (i := 4) (N := some 7) (v := ?_) (a' := ?_) #[true, true, false, true, true, false, false, false, false, false] rfl rfl (take_ofW HT_.out HW_.out (by kernel_rfl)) (fun _ _ _ h => h) (Or.inl ⟨by rfl, ?_⟩) hHeld ?_ ?_
  rotate_left
  · rintro w' ⟨s0, s1, s2, s3, s4, s5⟩
    go_simp
    with_reducible rfl
  rotate_left
  · simp only [Act.put, List.setIfInBounds_toArray, List.set_cons_zero, List.set_cons_succ, i64_w, i32_w]
    rfl
  refine one_ (i := 2) (N := some 5) #[true, true, true, true, true, false, false, false, false, false] rfl rfl (one_of HT_.out (by kernel_rfl)) (by decide) (fun K hK => ?_)
  refine goes_ Try.func101 (by kernel_rfl) rfl #[.slice A0_4 l0_4.length c0_4] (by rfl) rfl rfl (by (try simp only [List.map_toArray, List.map_cons, List.map_nil]); first | done | rfl | (simp only [List.length_drop, List.length_take]; rfl)) ?_
  with_reducible refine (slices_Clone_int_int.calls _ _ l0_4 t115 _ ?side1 ?side2 A2.out).mono ?_
  (case side1 => repeat (first | exact (Kd.C_below HR0_4.out HB.out) | (with_reducible refine Kd.C_alloc ?_ _) | (with_reducible refine Kd.C_drewN ?_ _) | (with_reducible refine Kd.C_drew ?_)))
  (case side2 => exact HC0_4.out)
  rintro e w7 ⟨v116, rfl, ho0, hb⟩
  refine ⟨_, rfl, ?_⟩
  have n0_ := Aside0.mk (Kd.R_lower ho0 (below_size (by repeat (first | (with_reducible first | exact HB.out | apply below_alloc | apply pw_below_drewN | apply below_drew1 | refine below_set ?_ GE113.out | refine below_set ?_ GE114.out) | exact HB.out))))
  have n1_ := Aside0.mk (blk_below (g := gb113) (o := .cells #[.int .i64 a0_0, .int .i64 a0_1, .int .i64 a0_2, .int .i64 a0_3, .slice A0_4 l0_4.length c0_4, .slice A0_5 l0_5.length c0_5] 75 (0, 0)) (by (with_reducible repeat (first | refine blk_drewN ?_ _ | refine blk_drew ?_ | refine blk_alloc ?_ _)); exact BK113.out) hb)
  have n2_ := Aside0.mk (blk_below (g := gb114) (o := .cells #[.int .i64 0, .int .i64 0, .int .i64 0, .int .i64 0, .slice none 0 0, .slice none 0 0] 75 (0, 0)) (by (with_reducible repeat (first | refine blk_drewN ?_ _ | refine blk_drew ?_ | refine blk_alloc ?_ _)); exact BK114.out) hb)
  have n3_ := Aside0.mk (below_step (by repeat (first | (with_reducible first | exact HB.out | apply below_alloc | apply pw_below_drewN | apply below_drew1 | refine below_set ?_ GE113.out | refine below_set ?_ GE114.out) | exact HB.out)) hb)
  clear BK113
  clear BK114
  clear HB
  have HO117 := n0_
  have BK113 := n1_
  have BK114 := n2_
  have HB := n3_
  clear n0_ n1_ n2_ n3_
  (try clear hb)
  (try clear hb2)
  (try clear hk)
  (try clear hi)
  (try clear ho0)
  refine hK.out _ _ ⟨(blk_cell BK113.out 0).trans rfl, (blk_cell BK113.out 1).trans rfl, (blk_cell BK113.out 2).trans rfl, (blk_cell BK113.out 3).trans rfl, (blk_cell BK113.out 4).trans rfl, (blk_cell BK113.out 5).trans rfl⟩ (fun hHeld => ?_)
  clear hK K
  refine norm_ (a' := ?_) ?_ ?_
  rotate_left
  · show Act.put _ (some 5) _ = _
    simp only [Act.put, List.setIfInBounds_toArray, List.set_cons_zero, List.set_cons_succ, i64_w, i32_w]
    rfl
  refine pure_ (i := 6) (N := some 9) (v := ?_) (a' := ?_) #[true, true, true, true, true, false, true, false, false, false] rfl rfl (any_of HT_.out (by kernel_rfl)) (fun _ _ _ h => h) (Or.inl ⟨by rfl, ?_⟩) ?_ ?_
  rotate_left
  · intro w'
    go_simp
    with_reducible rfl
  rotate_left
  · simp only [Act.put, List.setIfInBounds_toArray, List.set_cons_zero, List.set_cons_succ, i64_w, i32_w]
    rfl
  refine one_ (i := 5) (N := some 8) #[true, true, true, true, true, true, true, false, false, false] rfl rfl (one_of HT_.out (by kernel_rfl)) (by decide) (fun K hK => ?_)
  refine goes_ Try.func101 (by kernel_rfl) rfl #[.slice A0_5 l0_5.length c0_5] (by rfl) rfl rfl (by (try simp only [List.map_toArray, List.map_cons, List.map_nil]); first | done | rfl | (simp only [List.length_drop, List.length_take]; rfl)) ?_
  with_reducible refine (slices_Clone_int_int.calls _ _ l0_5 t118 _ ?side1 ?side2 A3.out).mono ?_
  (case side1 => repeat (first | exact (Kd.C_below HR0_5.out HB.out) | (with_reducible refine Kd.C_alloc ?_ _) | (with_reducible refine Kd.C_drewN ?_ _) | (with_reducible refine Kd.C_drew ?_)))
  (case side2 => exact HC0_5.out)
  rintro e w8 ⟨v119, rfl, ho0, hb⟩
  refine ⟨_, rfl, ?_⟩
  have n0_ := Aside0.mk (Kd.R_elder' (by (with_reducible repeat (first | apply Kd.R_alloc | apply Kd.R_drewN | apply Kd.R_drew)); exact HO117.out) (Kd.R_base ho0) hb)
  have n1_ := Aside0.mk (Kd.R_lower (Kd.R_new' ho0 (Kd.R_lt (by (with_reducible repeat (first | apply Kd.R_alloc | apply Kd.R_drewN | apply Kd.R_drew)); exact HO117.out))) (below_size (by repeat (first | (with_reducible first | exact HB.out | apply below_alloc | apply pw_below_drewN | apply below_drew1 | refine below_set ?_ GE113.out | refine below_set ?_ GE114.out) | exact HB.out))))
  have n2_ := Aside0.mk (blk_below (g := gb113) (o := .cells #[.int .i64 a0_0, .int .i64 a0_1, .int .i64 a0_2, .int .i64 a0_3, .slice A0_4 l0_4.length c0_4, .slice A0_5 l0_5.length c0_5] 75 (0, 0)) (by (with_reducible repeat (first | refine blk_drewN ?_ _ | refine blk_drew ?_ | refine blk_alloc ?_ _)); exact BK113.out) hb)
  have n3_ := Aside0.mk (blk_below (g := gb114) (o := .cells #[.int .i64 0, .int .i64 0, .int .i64 0, .int .i64 0, .slice none 0 0, .slice none 0 0] 75 (0, 0)) (by (with_reducible repeat (first | refine blk_drewN ?_ _ | refine blk_drew ?_ | refine blk_alloc ?_ _)); exact BK114.out) hb)
  have n4_ := Aside0.mk (below_step (by repeat (first | (with_reducible first | exact HB.out | apply below_alloc | apply pw_below_drewN | apply below_drew1 | refine below_set ?_ GE113.out | refine below_set ?_ GE114.out) | exact HB.out)) hb)
  clear HO117
  clear BK113
  clear BK114
  clear HB
  have HO117 := n0_
  have HO120 := n1_
  have BK113 := n2_
  have BK114 := n3_
  have HB := n4_
  clear n0_ n1_ n2_ n3_ n4_
  (try clear hb)
  (try clear hb2)
  (try clear hk)
  (try clear hi)
  (try clear ho0)
  obtain ⟨Ao9, co9, eo9⟩ := Kd.R_slice HO117.out
  (first | subst eo9 | (injection eo9 with f1_ f2_ f3_; have f4_ := f1_.symm; have f5_ := f3_.symm; clear f1_ f2_ f3_; subst f4_; subst f5_))
  obtain ⟨Ao11, co11, eo11⟩ := Kd.R_slice HO120.out
  (first | subst eo11 | (injection eo11 with f1_ f2_ f3_; have f4_ := f1_.symm; have f5_ := f3_.symm; clear f1_ f2_ f3_; subst f4_; subst f5_))
  refine hK.out _ _ ⟨(blk_cell BK113.out 0).trans rfl, (blk_cell BK113.out 1).trans rfl, (blk_cell BK113.out 2).trans rfl, (blk_cell BK113.out 3).trans rfl, (blk_cell BK113.out 4).trans rfl, (blk_cell BK113.out 5).trans rfl⟩ (fun hHeld => ?_)
  clear hK K
  refine norm_ (a' := ?_) ?_ ?_
  rotate_left
  · show Act.put _ (some 8) _ = _
    simp only [Act.put, List.setIfInBounds_toArray, List.set_cons_zero, List.set_cons_succ, i64_w, i32_w]
    rfl
  refine last_ (i := 7) (N := none) #[true, true, true, true, true, true, true, true, false, false] rfl rfl (one_of HT_.out (by kernel_rfl)) (by decide) (fun K hK => ?_)
  have hs10 : w8.cell? ⟨gb113, 4, none⟩ = some (.slice A0_4 l0_4.length c0_4) := (blk_cell BK113.out 4).trans rfl
  have hfs10 := blk_frozen BK113.out 4
  have hns10_1 := NB114_113.out
  have hms10_1 := NB113_114.out
  refine skip_ (w1 := ?_) (by rfl) rfl ?_ ?_
  rotate_left
  · go_simp
    rfl
  refine hK.out _ _ ?_
  clear hK K
  refine pure_ (i := 8) (N := some 10) (v := ?_) (a' := ?_) #[true, true, true, true, true, true, true, true, true, false] rfl rfl (any_of HT_.out (by kernel_rfl)) (fun _ _ _ h => h) (Or.inl ⟨by rfl, ?_⟩) ?_ ?_
  rotate_left
  · intro w'
    go_simp
    with_reducible rfl
  rotate_left
  · simp only [Act.put, List.setIfInBounds_toArray, List.set_cons_zero, List.set_cons_succ, i64_w, i32_w]
    rfl
  refine last_ (i := 9) (N := none) #[true, true, true, true, true, true, true, true, true, true] rfl rfl (one_of HT_.out (by kernel_rfl)) (by decide) (fun K hK => ?_)
  have hs12 : w8.cell? ⟨gb113, 5, none⟩ = some (.slice A0_5 l0_5.length c0_5) := (blk_cell BK113.out 5).trans rfl
  have hfs12 := blk_frozen BK113.out 5
  have hns12_1 := NB114_113.out
  have hms12_1 := NB113_114.out
  refine skip_ (w1 := ?_) (by rfl) rfl ?_ ?_
  rotate_left
  · go_simp
    rfl
  refine hK.out _ _ ?_
  clear hK K
  refine done_ (done_of HT_.out (by kernel_rfl)) ?_
  have hnb13 := NB113_114.out
  have hnc13 := NB114_113.out
  have hcz14_0 : w8.cell? ⟨gb113, 0, none⟩ = some (.int .i64 a0_0) := (blk_cell BK113.out 0).trans rfl
  have hcz14_1 : w8.cell? ⟨gb113, 1, none⟩ = some (.int .i64 a0_1) := (blk_cell BK113.out 1).trans rfl
  have hcz14_2 : w8.cell? ⟨gb113, 2, none⟩ = some (.int .i64 a0_2) := (blk_cell BK113.out 2).trans rfl
  have hcz14_3 : w8.cell? ⟨gb113, 3, none⟩ = some (.int .i64 a0_3) := (blk_cell BK113.out 3).trans rfl
  have hcz14_4 : w8.cell? ⟨gb113, 4, none⟩ = some (.slice A0_4 l0_4.length c0_4) := (blk_cell BK113.out 4).trans rfl
  have hcz14_5 : w8.cell? ⟨gb113, 5, none⟩ = some (.slice A0_5 l0_5.length c0_5) := (blk_cell BK113.out 5).trans rfl
  have hfz14_0 := blk_frozen BK113.out 0
  have hfz14_1 := blk_frozen BK113.out 1
  have hfz14_2 := blk_frozen BK113.out 2
  have hfz14_3 := blk_frozen BK113.out 3
  have hfz14_4 := blk_frozen BK113.out 4
  have hfz14_5 := blk_frozen BK113.out 5
  have hcz15_0 : w8.cell? ⟨gb114, 0, none⟩ = some (.int .i64 0) := (blk_cell BK114.out 0).trans rfl
  have hcz15_1 : w8.cell? ⟨gb114, 1, none⟩ = some (.int .i64 0) := (blk_cell BK114.out 1).trans rfl
  have hcz15_2 : w8.cell? ⟨gb114, 2, none⟩ = some (.int .i64 0) := (blk_cell BK114.out 2).trans rfl
  have hcz15_3 : w8.cell? ⟨gb114, 3, none⟩ = some (.int .i64 0) := (blk_cell BK114.out 3).trans rfl
  have hcz15_4 : w8.cell? ⟨gb114, 4, none⟩ = some (.slice none 0 0) := (blk_cell BK114.out 4).trans rfl
  have hcz15_5 : w8.cell? ⟨gb114, 5, none⟩ = some (.slice none 0 0) := (blk_cell BK114.out 5).trans rfl
  have hfz15_0 := blk_frozen BK114.out 0
  have hfz15_1 := blk_frozen BK114.out 1
  have hfz15_2 := blk_frozen BK114.out 2
  have hfz15_3 := blk_frozen BK114.out 3
  have hfz15_4 := blk_frozen BK114.out 4
  have hfz15_5 := blk_frozen BK114.out 5
  try go_wp2
  refine bodyPost_ret (results_cell_row rfl _ _ gb114 75 #[.int .i64 a0_0, .int .i64 a0_1, .int .i64 a0_2, .int .i64 a0_3, .slice Ao9 t115.length co9, .slice Ao11 t118.length co11] (0, 0) _ rfl (by (with_reducible repeat (first | refine blk_drewN ?_ _ | refine blk_drew ?_ | refine blk_alloc ?_ _)); refine blk_put (cs := #[.int .i64 a0_0, .int .i64 a0_1, .int .i64 a0_2, .int .i64 a0_3, .slice Ao9 t115.length co9, .slice none 0 0]) ?_ 5 _ rfl; (with_reducible repeat (first | refine blk_drewN ?_ _ | refine blk_drew ?_ | refine blk_alloc ?_ _)); refine blk_put (cs := #[.int .i64 a0_0, .int .i64 a0_1, .int .i64 a0_2, .int .i64 a0_3, .slice none 0 0, .slice none 0 0]) ?_ 4 _ rfl; (with_reducible repeat (first | refine blk_drewN ?_ _ | refine blk_drew ?_ | refine blk_alloc ?_ _)); refine blk_put (cs := #[.int .i64 a0_0, .int .i64 a0_1, .int .i64 a0_2, .int .i64 0, .slice none 0 0, .slice none 0 0]) ?_ 3 _ rfl; (with_reducible repeat (first | refine blk_drewN ?_ _ | refine blk_drew ?_ | refine blk_alloc ?_ _)); refine blk_put (cs := #[.int .i64 a0_0, .int .i64 a0_1, .int .i64 0, .int .i64 0, .slice none 0 0, .slice none 0 0]) ?_ 2 _ rfl; (with_reducible repeat (first | refine blk_drewN ?_ _ | refine blk_drew ?_ | refine blk_alloc ?_ _)); refine blk_put (cs := #[.int .i64 a0_0, .int .i64 0, .int .i64 0, .int .i64 0, .slice none 0 0, .slice none 0 0]) ?_ 1 _ rfl; (with_reducible repeat (first | refine blk_drewN ?_ _ | refine blk_drew ?_ | refine blk_alloc ?_ _)); refine blk_put (cs := #[.int .i64 0, .int .i64 0, .int .i64 0, .int .i64 0, .slice none 0 0, .slice none 0 0]) ?_ 0 _ rfl; (with_reducible repeat (first | refine blk_drewN ?_ _ | refine blk_drew ?_ | refine blk_alloc ?_ _)); refine blk_far ?_ NB114_113.out _; (with_reducible repeat (first | refine blk_drewN ?_ _ | refine blk_drew ?_ | refine blk_alloc ?_ _)); refine blk_far ?_ NB114_113.out _; (with_reducible repeat (first | refine blk_drewN ?_ _ | refine blk_drew ?_ | refine blk_alloc ?_ _)); exact BK114.out) Try.underlying75 rfl (by kernel_rfl)) rfl ?_
  exact ⟨_, _, by first | rfl | (simp [errW_none, errW_some] <;> rfl) | (simp [*, errW_none, errW_some] <;> rfl), by (with_reducible repeat (first | apply Kd.R_alloc | apply Kd.R_drewN | apply Kd.R_drew)); exact Kd.R_mono (Kd.R_far (p := ⟨gb114, 5, none⟩) (Kd.R_far (p := ⟨gb114, 4, none⟩) (Kd.R_far (p := ⟨gb114, 3, none⟩) (Kd.R_far (p := ⟨gb114, 2, none⟩) (Kd.R_far (p := ⟨gb114, 1, none⟩) (Kd.R_far (p := ⟨gb114, 0, none⟩) (Kd.R_far (p := ⟨gb113, 5, none⟩) (Kd.R_far (p := ⟨gb113, 4, none⟩) (Kd.R_types (Kd.R_types HO117.out BK113.out (by decide)) BK114.out (by decide)) (fun _ hk => hk.1.2) (.slice Ao9 t115.length co9)) (fun _ hk => hk.1.2) (.slice Ao11 t118.length co11)) (fun _ hk => hk.2) (.int .i64 a0_0)) (fun _ hk => hk.2) (.int .i64 a0_1)) (fun _ hk => hk.2) (.int .i64 a0_2)) (fun _ hk => hk.2) (.int .i64 a0_3)) (fun _ hk => hk.2) (.slice Ao9 t115.length co9)) (fun _ hk => hk.2) (.slice Ao11 t118.length co11)) (fun _ hk => hk.1.1.2), by (with_reducible repeat (first | apply Kd.R_alloc | apply Kd.R_drewN | apply Kd.R_drew)); exact Kd.R_mono (Kd.R_far (p := ⟨gb114, 5, none⟩) (Kd.R_far (p := ⟨gb114, 4, none⟩) (Kd.R_far (p := ⟨gb114, 3, none⟩) (Kd.R_far (p := ⟨gb114, 2, none⟩) (Kd.R_far (p := ⟨gb114, 1, none⟩) (Kd.R_far (p := ⟨gb114, 0, none⟩) (Kd.R_far (p := ⟨gb113, 5, none⟩) (Kd.R_far (p := ⟨gb113, 4, none⟩) (Kd.R_types (Kd.R_types HO120.out BK113.out (by decide)) BK114.out (by decide)) (fun _ hk => hk.1.2) (.slice Ao9 t115.length co9)) (fun _ hk => hk.1.2) (.slice Ao11 t118.length co11)) (fun _ hk => hk.2) (.int .i64 a0_0)) (fun _ hk => hk.2) (.int .i64 a0_1)) (fun _ hk => hk.2) (.int .i64 a0_2)) (fun _ hk => hk.2) (.int .i64 a0_3)) (fun _ hk => hk.2) (.slice Ao9 t115.length co9)) (fun _ hk => hk.2) (.slice Ao11 t118.length co11)) (fun _ hk => hk.1.1.2), by repeat (first | (with_reducible first | exact HB.out | apply below_alloc | apply pw_below_drewN | apply below_drew1 | refine below_set ?_ GE113.out | refine below_set ?_ GE114.out) | exact HB.out)⟩

end Go.Proofs.Ytkeijpngfnmjoaa.QZonePlays
end
