/- Zones: the program's zones, as one thing; what each method does to them. Conditions: they are few. -/
import Derived.Test.YtkeijpngfnmjoaaMineZoneL
import Derived.Test.YtkeijpngfnmjoaaMineZoneM
import Derived.Test.YtkeijpngfnmjoaaMineZonePureB
namespace Go.Proofs.Ytkeijpngfnmjoaa.MineZone
open Go.Lib Go.Shelf Go.RowKit Go.MapKept Go.Proofs.YtkeijpngfnmjoaaW.PrintWords Go.Proofs.YtkeijpngfnmjoaaW.PrintLast Go.Proofs.YtkeijpngfnmjoaaW.PrintMore Go.Proofs.Ytkeijpngfnmjoaa.MineBase Go.Proofs.Ytkeijpngfnmjoaa.MineSep Go.Proofs.Ytkeijpngfnmjoaa.MineRows Go.Proofs.Ytkeijpngfnmjoaa.MineGen Go.Proofs.Ytkeijpngfnmjoaa.QZonePlays Go.Proofs.Ytkeijpngfnmjoaa.MineMap
attribute [local go_sem ↓] Go.wp_at_zero Go.wp_at_succ
set_option linter.unusedVariables false
set_option linter.unusedSimpArgs false
/-- The program's zones. -/
structure ZS (w0 w : World) (z m n : Nat) (zs : List S82) (l : List Asn) : Prop where
  sat : ∃ v F, Sat w0 w (ABlk z (.cells #[v, .map (some m)] 133 (0, 0)) :: ARowN k82 75 w0.heap.size v zs :: AMapF m F :: l) ∧ CellsOf zs F
  inv : Inv zs
  few : zs.length ≤ n
  rows : ∀ y ∈ zs, y.f4.length ≤ 100 ∧ y.f5.length ≤ 100
section
variable {w0 w w1 : World} {z m n : Nat} {zs : List S82} {l : List Asn}
theorem ZS.below (h : ZS w0 w z m n zs l) (hb : Below w.heap.size w w1) : ZS w0 w1 z m n zs l := by
  obtain ⟨⟨v, F, h1, h2⟩, h3, h4, h5⟩ := h
  exact ⟨⟨v, F, h1.below hb, h2⟩, h3, h4, h5⟩
theorem ZS.more (h : ZS w0 w z m n zs l) {n1 : Nat} (hn : n ≤ n1) : ZS w0 w z m n1 zs l := ⟨h.sat, h.inv, Nat.le_trans h.few hn, h.rows⟩
theorem ZS.toBelow (h : ZS w0 w z m n zs l) : Below w0.heap.size w0 w := by
  obtain ⟨⟨v, F, h1, h2⟩, h3, h4, h5⟩ := h
  exact h1.toBelow
theorem ZS.zr (h : ZS w0 w z m n zs l) (hn : n ≤ 900) : ZR z m zs w := by
  obtain ⟨⟨v, F, h1, h2⟩, h3, h4, h5⟩ := h
  obtain ⟨_, hN, _⟩ := h1.drop.head
  obtain ⟨A, c, rfl, _, hC⟩ := Kd.N_reads hN
  exact ⟨⟨A, c, blk_at h1, hC⟩, by omega, h3.1⟩
/-- What lies behind. -/
theorem ZS.tail (h : ZS w0 w z m n zs l) : Sat w0 w l := by
  obtain ⟨⟨v, F, h1, h2⟩, h3, h4, h5⟩ := h
  exact h1.drop.drop.drop
theorem ZS.swap3 {A : Asn} (h : ZS w0 w z m n zs (A :: l)) : ∃ v F, Sat w0 w (A :: ABlk z (.cells #[v, .map (some m)] 133 (0, 0)) :: ARowN k82 75 w0.heap.size v zs :: AMapF m F :: l) ∧ CellsOf zs F := by
  obtain ⟨⟨v, F, h1, h2⟩, h3, h4, h5⟩ := h
  exact ⟨v, F, Sat.pull (l1 := [_, _, _]) h1, h2⟩
theorem New_zs (w : World) : Calls Try.prog 34 #[] w fun e w' => ∃ z m, e = .returned (.pointer (some ⟨z, 0, none⟩)) ∧ ZS w w' z m 0 [] [] := by
  refine (New_calls w).mono ?_
  rintro e w' ⟨z, m, rfl, _, _, hS⟩
  refine ⟨z, m, rfl, ⟨.slice none 0 0, [], ?_, cells_nil⟩, ⟨by simp, List.Pairwise.nil⟩, Nat.le_refl _, by simp⟩
  have h2 := mapF_new hS.swap
  have h3 : Sat w w' (ARowN k82 75 w.heap.size (.slice none 0 0) [] :: AMapF m [] :: ABlk z (.cells #[.slice none 0 0, .map (some m)] 133 (0, 0)) :: []) :=
    h2.new (A := ARowN k82 75 w.heap.size (.slice none 0 0) []) (Below.refl _ _) (D := fun k => w'.heap.size ≤ k) (Kd.N_nil _ _ _ _ _) (fun _ hk => hk)
  exact h3.third
/-- Is it taken? -/
def Takes (zs : List S82) (x : S82) : Prop := Ok x ∧ ∀ y ∈ zs, clash x y = false
theorem takes_any {x : S82} (h : ∀ y ∈ zs, clash x y = false) : zs.any (clash x) = false := List.any_eq_false.2 (fun y hy => by rw [h y hy]; decide)
theorem ZS.add_yes (h : ZS w0 w z m n zs l) (hn : n ≤ 899) (x : S82) (A4 : Option Addr) (c4 : Nat) (A5 : Option Addr) (c5 : Nat)
    (h4 : ∀ W L, Sat w0 W (L ++ l) → (Kd.int .i64).C W A4 x.f4.length x.f4) (h5 : ∀ W L, Sat w0 W (L ++ l) → (Kd.int .i64).C W A5 x.f5.length x.f5) (hc4 : x.f4.length ≤ c4) (hc5 : x.f5.length ≤ c5) (hn4 : x.f4.length ≤ 100) (hn5 : x.f5.length ≤ 100) (ht : Takes zs x) :
    Calls Try.prog 40 #[.pointer (some ⟨z, 0, none⟩), .agg #[.int .i64 x.f0, .int .i64 x.f1, .int .i64 x.f2, .int .i64 x.f3, .slice A4 x.f4.length c4, .slice A5 x.f5.length c5]] w fun e w' => e = .returned .nilIface ∧ ZS w0 w' z m (n + 1) (addZ zs x) l := by
  obtain ⟨⟨v, F, h1, h2⟩, hI, hf, hr⟩ := h
  refine (Add_yes h1 (by omega) x A4 c4 A5 c5 h4 h5 hc4 hc5 hn4 hn5 ht.1 (takes_any ht.2) hI).mono ?_
  rintro e w' ⟨rfl, v', hS⟩
  have hI' := inv_add hI ht.1 ht.2
  refine ⟨rfl, ⟨v', _, hS, cells_add h2 hI'⟩, hI', ?_, fun y hy => ?_⟩
  · rw [(addZ_perm zs x).length_eq, List.length_append, List.length_singleton]; omega
  · rcases mem_addZ.1 hy with rfl | hy
    · exact ⟨hn4, hn5⟩
    · exact hr y hy
theorem ZS.add_no (h : ZS w0 w z m n zs l) (hn : n ≤ 899) (x : S82) (A4 : Option Addr) (c4 : Nat) (A5 : Option Addr) (c5 : Nat)
    (h4 : (Kd.int .i64).C w A4 x.f4.length x.f4) (h5 : (Kd.int .i64).C w A5 x.f5.length x.f5) (hn4 : x.f4.length ≤ 100) (hn5 : x.f5.length ≤ 100) (ht : ¬ Takes zs x) :
    Calls Try.prog 40 #[.pointer (some ⟨z, 0, none⟩), .agg #[.int .i64 x.f0, .int .i64 x.f1, .int .i64 x.f2, .int .i64 x.f3, .slice A4 x.f4.length c4, .slice A5 x.f5.length c5]] w fun e w' => e = .returned (.iface 39 (.int .i64 1)) ∧ ZS w0 w' z m n zs l := by
  refine (Add_no (h.zr (by omega)) x A4 c4 A5 c5 h4 h5 hn4 hn5 ?_).mono ?_
  · by_cases ho : Ok x
    · refine .inr ?_
      cases hq : zs.any (clash x) with
      | true => rfl
      | false =>
        refine absurd ⟨ho, fun y hy => ?_⟩ ht
        have := List.any_eq_false.1 hq y hy
        simpa using this
    · exact .inl ho
  · rintro e w' ⟨rfl, hb⟩
    exact ⟨rfl, h.below hb⟩
theorem ZS.rem (h : ZS w0 w z m n zs l) (hn : n ≤ 900) (b : Int) :
    Calls Try.prog 37 #[.pointer (some ⟨z, 0, none⟩), .int .i64 b] w fun e w' => e = .returned (.bool (zs.any (fun y => y.f0 == b))) ∧ ZS w0 w' z m n (remZ zs b) l := by
  rcases idxP_spec (fun x : S82 => x.f0 == b) zs with ⟨h1, h2⟩ | ⟨l1, y, l2, e, h1, h2, h3⟩
  · have hno : ∀ y ∈ zs, y.f0 ≠ b := fun y hy => by simpa using h2 y hy
    refine (Remove_no (h.zr (by omega)) b hno).mono ?_
    rintro e w' ⟨rfl, hb⟩
    rw [rem_miss hno, show zs.any (fun y => y.f0 == b) = false from List.any_eq_false.2 (fun y hy => by rw [h2 y hy]; decide)]
    exact ⟨rfl, h.below hb⟩
  · have e0 : y.f0 = b := by simpa using h2
    subst e0
    have hy : y ∈ zs := by rw [e]; simp
    have hk : zs[l1.length]? = some y := by rw [e]; simp
    obtain ⟨⟨v, F, hs, hc⟩, hI, hf, hr⟩ := h
    have hb := hr y hy
    refine (Remove_at hs (by omega) hb.1 hb.2 hk h1).mono ?_
    rintro e1 w' ⟨rfl, v', hS⟩
    have ee : zs.eraseIdx l1.length = l1 ++ l2 := by rw [e, List.eraseIdx_append_of_length_le (Nat.le_refl _)]; simp
    have er : remZ zs y.f0 = l1 ++ l2 := by rw [e] at hI ⊢; exact rem_hit hI
    rw [ee] at hS
    rw [show zs.any (fun x => x.f0 == y.f0) = true from List.any_eq_true.2 ⟨y, hy, by simp⟩]
    refine ⟨rfl, ⟨v', _, by rw [er]; exact hS, ?_⟩, inv_rem _ hI, ?_, fun x hx => hr x (List.mem_filter.1 hx).1⟩
    · rw [er]; rw [e] at hc hI; exact cells_rem hc hI
    · exact Nat.le_trans (List.length_filter_le _ _) hf
theorem ZS.cell (h : ZS w0 w z m n zs l) (hn : n ≤ 900) (a : Int) (ha : a ≤ 9223372036854775807) :
    Calls Try.prog 47 #[.pointer (some ⟨z, 0, none⟩), .int .i64 a] w fun e w' => e = .returned (.int .i64 (cellZ zs a)) ∧ Below w.heap.size w w' := by
  have hz := h.zr hn
  obtain ⟨⟨v, F, hs, hc⟩, hI, hf, hr⟩ := h
  obtain ⟨es, clock, hm, he⟩ := mapF_at hs.drop.drop
  exact Cell_calls hz hm he hc a ha
end
def fewB (x : S82) : Bool := decide (x.f4.length ≤ 40) && decide (x.f5.length ≤ 40)
set_option maxHeartbeats 1000000 in
set_option maxRecDepth 100000 in
theorem few_calls (x : S82) (A4 : Option Addr) (c4 : Nat) (A5 : Option Addr) (c5 : Nat) (w : World) :
    Calls Try.prog 35 #[.agg #[.int .i64 x.f0, .int .i64 x.f1, .int .i64 x.f2, .int .i64 x.f3, .slice A4 x.f4.length c4, .slice A5 x.f5.length c5]] w fun e w' => e = .returned (.bool (fewB x)) ∧ Below w.heap.size w w' := by
  have hu75 := Try.underlying75
  unfold fewB
  by_cases c1 : x.f4.length ≤ 40
  · have d1 : ((x.f4.length : Int) ≤ 40) = True := eq_true (by omega)
    have d2 : decide ((x.f4.length : Int) ≤ 40) = true := decide_eq_true (by omega)
    have e1 : decide (x.f4.length ≤ 40) = true := decide_eq_true c1
    rw [e1]
    by_cases c2 : x.f5.length ≤ 40
    · have d3 : ((x.f5.length : Int) ≤ 40) = True := eq_true (by omega)
      have d4 : decide ((x.f5.length : Int) ≤ 40) = true := decide_eq_true (by omega)
      have e2 : decide (x.f5.length ≤ 40) = true := decide_eq_true c2
      rw [e2]
      clear c1 c2 e1 e2
      go_enter Try.func35, Try.ntmps35
      go_wp2
      go_ret
      exact ⟨by first | rfl | simp | (congr 2), (blk_new (Sat.start w) _).toBelow⟩
    · have d3 : ((x.f5.length : Int) ≤ 40) = False := eq_false (by omega)
      have d4 : decide ((x.f5.length : Int) ≤ 40) = false := decide_eq_false (by omega)
      have e2 : decide (x.f5.length ≤ 40) = false := decide_eq_false c2
      rw [e2]
      clear c1 c2 e1 e2
      go_enter Try.func35, Try.ntmps35
      go_wp2
      go_ret
      exact ⟨by first | rfl | simp | (congr 2), (blk_new (Sat.start w) _).toBelow⟩
  · have d1 : ((x.f4.length : Int) ≤ 40) = False := eq_false (by omega)
    have d2 : decide ((x.f4.length : Int) ≤ 40) = false := decide_eq_false (by omega)
    have e1 : decide (x.f4.length ≤ 40) = false := decide_eq_false c1
    rw [e1]
    clear c1 e1
    go_enter Try.func35, Try.ntmps35
    go_wp2
    go_ret
    exact ⟨by first | rfl | simp | (congr 2), (blk_new (Sat.start w) _).toBelow⟩
/-- A deed: removed, or added. -/
def kD : Kd (Bool × S82) := Kd.pair Kd.bool k82
theorem kD_at {w : World} {A : Option Addr} {n : Nat} {ds : List (Bool × S82)} (h : kD.C w A n ds) {i : Nat} {d : Bool × S82} (hi : ds[i]? = some d) :
    ∃ ad A4 c4 A5 c5, A = some ad ∧ w.cell? (ad.add (i * 7)) = some (.bool d.1) ∧ w.cell? ⟨(ad.add (i * 7)).block, (ad.add (i * 7)).off + 1, none⟩ = some (.int .i64 d.2.f0) ∧ w.cell? ⟨(ad.add (i * 7)).block, (ad.add (i * 7)).off + 2, none⟩ = some (.int .i64 d.2.f1) ∧ w.cell? ⟨(ad.add (i * 7)).block, (ad.add (i * 7)).off + 3, none⟩ = some (.int .i64 d.2.f2) ∧ w.cell? ⟨(ad.add (i * 7)).block, (ad.add (i * 7)).off + 4, none⟩ = some (.int .i64 d.2.f3) ∧ w.cell? ⟨(ad.add (i * 7)).block, (ad.add (i * 7)).off + 5, none⟩ = some (.slice A4 d.2.f4.length c4) ∧ w.cell? ⟨(ad.add (i * 7)).block, (ad.add (i * 7)).off + 6, none⟩ = some (.slice A5 d.2.f5.length c5) ∧ d.2.f4.length ≤ c4 ∧ (Kd.int .i64).C w A4 d.2.f4.length d.2.f4 ∧ d.2.f5.length ≤ c5 ∧ (Kd.int .i64).C w A5 d.2.f5.length d.2.f5 := by
  have hl := (List.getElem?_eq_some_iff.1 hi).1
  obtain ⟨ad, e, hc⟩ := h.2.2 (by have := h.1; omega)
  obtain ⟨cs, hs, ⟨c0, c1, rfl, hb, hz⟩, hcell⟩ := hc i d hi
  obtain rfl := hb
  obtain ⟨A4, c4, A5, c5, rfl, l4, g4, l5, g5⟩ := k82_open hz
  refine ⟨ad, A4, c4, A5, c5, e, hcell 0 _ rfl, ?_, ?_, ?_, ?_, ?_, ?_, l4, g4, l5, g5⟩
  · rw [← add_field _ _ 1 (by omega)]; exact hcell 1 _ rfl
  · rw [← add_field _ _ 2 (by omega)]; exact hcell 2 _ rfl
  · rw [← add_field _ _ 3 (by omega)]; exact hcell 3 _ rfl
  · rw [← add_field _ _ 4 (by omega)]; exact hcell 4 _ rfl
  · rw [← add_field _ _ 5 (by omega)]; exact hcell 5 _ rfl
  · rw [← add_field _ _ 6 (by omega)]; exact hcell 6 _ rfl
end Go.Proofs.Ytkeijpngfnmjoaa.MineZone
