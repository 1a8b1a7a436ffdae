/- Zones: the document's list in memory; a zone that is removed from it, or added. Conditions: the list is short and orderly. -/
import Derived.Deep.Slices
import Derived.Test.YtkeijpngfnmjoaaMineZoneKB
import Derived.Test.YtkeijpngfnmjoaaMineZoneH
import Derived.Test.YtkeijpngfnmjoaaMineZonePureB
namespace Go.Proofs.Ytkeijpngfnmjoaa.MineZone
open Go.Lib Go.Shelf Go.RowKit Go.MapKept Go.Proofs.YtkeijpngfnmjoaaW.PrintWords Go.Proofs.YtkeijpngfnmjoaaW.PrintLast Go.Proofs.YtkeijpngfnmjoaaW.PrintMore Go.Proofs.Ytkeijpngfnmjoaa.MineBase Go.Proofs.Ytkeijpngfnmjoaa.MineSep Go.Proofs.Ytkeijpngfnmjoaa.MineRows Go.Proofs.Ytkeijpngfnmjoaa.MineGen Go.Proofs.Ytkeijpngfnmjoaa.QZonePlays Go.Proofs.Ytkeijpngfnmjoaa.MineMap
attribute [local go_sem ↓] Go.wp_at_zero Go.wp_at_succ
set_option linter.unusedVariables false
set_option linter.unusedSimpArgs false
/-- What a zone of the document's list leads to lies there. -/
def Lie (w : World) (d : SZ) : Prop := ((Kd.int .i64).C w d.2.1.1 d.1.f4.length d.1.f4 ∧ d.1.f4.length ≤ d.2.1.2) ∧ (Kd.int .i64).C w d.2.2.1 d.1.f5.length d.1.f5 ∧ d.1.f5.length ≤ d.2.2.2
theorem Lie.below {w w1 : World} {d : SZ} (h : Lie w d) (hb : Below w.heap.size w w1) : Lie w1 d := ⟨⟨Kd.C_below h.1.1 hb, h.1.2⟩, Kd.C_below h.2.1 hb, h.2.2⟩
/-- The document's list. -/
def ADoc (base : Nat) (v : Value) (ds : List SZ) : Asn := ARow (Kd.raw 6) 82 base v (ds.map encZ)
theorem info82r : (Try.prog.info? 82).map (fun i => (i.zero, i.size, i.bytes)) = some (some (.agg #[(.int .i64 0), (.int .i64 0), (.int .i64 0), (.int .i64 0), (.slice none 0 0), (.slice none 0 0)]), (Kd.raw 6).sz, 80) := info82
theorem raw_enc {W : World} {A : Option Addr} {n : Nat} {ds : List SZ} (h : (Kd.raw 6).C W A n (ds.map encZ)) {i : Nat} {d : SZ} (hi : ds[i]? = some d) : ∃ ad, A = some ad ∧ W.cell? (ad.add (i * 6)) = some (.int .i64 d.1.f0) ∧ W.cell? ⟨(ad.add (i * 6)).block, (ad.add (i * 6)).off + 1, none⟩ = some (.int .i64 d.1.f1) ∧ W.cell? ⟨(ad.add (i * 6)).block, (ad.add (i * 6)).off + 2, none⟩ = some (.int .i64 d.1.f2) ∧ W.cell? ⟨(ad.add (i * 6)).block, (ad.add (i * 6)).off + 3, none⟩ = some (.int .i64 d.1.f3) ∧ W.cell? ⟨(ad.add (i * 6)).block, (ad.add (i * 6)).off + 4, none⟩ = some (.slice d.2.1.1 d.1.f4.length d.2.1.2) ∧ W.cell? ⟨(ad.add (i * 6)).block, (ad.add (i * 6)).off + 5, none⟩ = some (.slice d.2.2.1 d.1.f5.length d.2.2.2) := by
  have hl := (List.getElem?_eq_some_iff.1 hi).1
  have h1 := h.1
  rw [List.length_map] at h1
  obtain ⟨ad, e, hc⟩ := h.2.2 (by omega)
  obtain ⟨cs, hs, ⟨rfl, _, _⟩, hcell⟩ := hc i (encZ d) (by rw [List.getElem?_map, hi]; rfl)
  refine ⟨ad, e, hcell 0 _ rfl, ?_, ?_, ?_, ?_, ?_⟩
  · rw [← add_field _ _ 1 (by omega)]; exact hcell 1 _ rfl
  · rw [← add_field _ _ 2 (by omega)]; exact hcell 2 _ rfl
  · rw [← add_field _ _ 3 (by omega)]; exact hcell 3 _ rfl
  · rw [← add_field _ _ 4 (by omega)]; exact hcell 4 _ rfl
  · rw [← add_field _ _ 5 (by omega)]; exact hcell 5 _ rfl
/-- The document's list, read. -/
theorem doc_C {W : World} {A : Option Addr} {n : Nat} {ds : List SZ} (h : (Kd.raw 6).C W A n (ds.map encZ)) (hl : ∀ d ∈ ds, Lie W d) : k82.C W A n (ds.map (·.1)) := by
  refine ⟨by have := h.1; rw [List.length_map] at this ⊢; exact this, h.2.1, fun hp => ?_⟩
  obtain ⟨ad, e, hc⟩ := h.2.2 hp
  refine ⟨ad, e, fun j p hj => ?_⟩
  rw [List.getElem?_map] at hj
  obtain ⟨d, hd, rfl⟩ := Option.map_eq_some_iff.1 hj
  obtain ⟨cs, hs, ⟨rfl, _, _⟩, hcell⟩ := hc j (encZ d) (by rw [List.getElem?_map, hd]; rfl)
  have hL := hl d (List.mem_iff_getElem?.2 ⟨j, hd⟩)
  exact ⟨encZ d, rfl, k82_mk W d.1 hL.1.2 hL.1.1 hL.2.2 hL.2.1, hcell⟩
theorem doc_reads {w0 w : World} {base : Nat} {l : List Asn} {v : Value} {ds : List SZ} (h : Sat w0 w (ADoc base v ds :: l)) : ∃ A c, v = .slice A ds.length c ∧ ds.length ≤ c ∧ (Kd.raw 6).C w A ds.length (ds.map encZ) := by
  obtain ⟨A, c, e, hc, hC⟩ := Sat.rowReads h
  rw [List.length_map] at e hc hC
  exact ⟨A, c, e, hc, hC⟩
theorem doc_open {w0 w : World} {l : List Asn} {base : Nat} {v : Value} {ds : List SZ} (h : Sat w0 w (ADoc base v ds :: l)) : ∃ D : Nat → Prop, (Kd.raw 6).R 82 w base D v (ds.map encZ) ∧ (∀ k, D k → w0.heap.size ≤ k ∧ k < w.heap.size) ∧
    (∀ (w1 : World) (v1 : Value) (ds1 : List SZ), w.grownBy w1 v.ownBlock → (Kd.raw 6).R 82 w1 base (fun k => D k ∨ w.heap.size ≤ k) v1 (ds1.map encZ) → Sat w0 w1 (ADoc base v1 ds1 :: l)) := by
  have hb0 := h.toBelow
  have hsz := h.size
  obtain ⟨D, hP, hD, _, hcl⟩ := h.open_
  refine ⟨D, hP, hD, fun w1 v1 zs1 hg hN => hcl w1 (ADoc base v1 zs1) (fun k => D k ∨ w.heap.size ≤ k) (hb0.grown hg hsz (fun j hj => (hD _ (hP.1 j hj)).1)) (Kept.of_grown hg (Kept.refl w D) (fun j hj => .inl (hP.1 j hj))) hN (fun _ hj => hj)⟩
theorem doc_nil {w0 w : World} {l : List Asn} {base : Nat} (h : Sat w0 w l) : Sat w0 w (ADoc base (.slice none 0 0) [] :: l) :=
  h.new (A := ADoc base (.slice none 0 0) []) (Below.refl _ _) (D := fun k => w.heap.size ≤ k) (Kd.R_nil _ _ _ _ _) (fun _ hk => hk)
def keepD (ds : List SZ) (b : Int) : List SZ := ds.filter (fun d => decide (d.1.f0 ≠ b))
set_option maxHeartbeats 4000000 in
set_option maxRecDepth 100000 in
theorem DRemove_calls {w0 w : World} {l : List Asn} {v : Value} {ds : List SZ} (h : Sat w0 w (ADoc w0.heap.size v ds :: l)) (hn : ds.length ≤ 900) (b : Int) :
    Calls Try.prog 36 #[v, .int .i64 b] w fun e w' => ∃ v', e = .returned (.tuple #[v', .bool (ds.any (fun d => d.1.f0 == b))]) ∧ Sat w0 w' (ADoc w0.heap.size v' (keepD ds b) :: l) := by
  obtain ⟨A, c, rfl, hc, _⟩ := doc_reads h
  have HN := Aside0.mk hn
  have HS0 := Aside0.mk (doc_nil (base := w0.heap.size) h)
  have hu82 := Try.underlying82
  clear h hn hc
  go_enter Try.func36, Try.ntmps36
  go_wp2_with fail
  go_loopg [6, 7, 8] (ds.length + 1) (fun kq v6 v7 v8 w' => ∃ i : Nat, v8 = .int .i64 i ∧ v7 = .bool ((ds.take i).any (fun d => d.1.f0 == b)) ∧ Aside0 (i ≤ ds.length ∧ ds.length - i < kq) ∧ Aside0 (Sat w0 w' (ADoc w0.heap.size v6 (keepD (ds.take i) b) :: ADoc w0.heap.size (.slice A ds.length c) ds :: l)))
  case atStart => exact ⟨0, rfl, rfl, ⟨by omega⟩, HS0⟩
  case round =>
    clear HS0
    obtain ⟨i, rfl, rfl, Hi, HS⟩ := hrel
    obtain ⟨wo, rfl⟩ : ∃ y, y = wr := ⟨wr, rfl⟩
    by_cases hlt : i < ds.length
    · obtain ⟨d, hd⟩ : ∃ d, ds[i]? = some d := ⟨_, List.getElem?_eq_getElem hlt⟩
      obtain ⟨A', c', ev, _, hC⟩ := doc_reads HS.out.swap
      injection ev with ev1 _ ev2
      subst ev1 ev2
      obtain ⟨ad, eA, y0, y1, y2, y3, y4, y5⟩ := raw_enc hC hd
      subst eA
      have HD := Aside0.mk hd
      have p1 : (i < ds.length) = True := eq_true hlt
      have d0 : decide ((i : Int) < (ds.length : Int)) = true := decide_eq_true (by omega)
      have p9 : (i : Int) ≤ 1000 := by have := HN.out; omega
      have p8 : 0 ≤ (i : Int) := by omega
      have ha : (ds.take (i + 1)).any (fun d => d.1.f0 == b) = ((ds.take i).any (fun d => d.1.f0 == b) || (d.1.f0 == b)) := by
        rw [List.take_add_one, hd]; simp
      have hk : keepD (ds.take (i + 1)) b = keepD (ds.take i) b ++ if d.1.f0 = b then [] else [d] := by
        unfold keepD
        rw [List.take_add_one, hd, List.filter_append]
        by_cases hq : d.1.f0 = b <;> simp [hq]
      have HA := Aside0.mk ha
      have HK := Aside0.mk hk
      clear hC hlt ha hk hd
      by_cases hq : d.1.f0 = b
      · have q1 : (d.1.f0 == b) = true := by simpa using hq
        have HQ := Aside0.mk hq
        clear hq
        go_wp2_with fail
        go_roundg (gk - 1)
        case measure => have := Hi.out; have := of_eq_true p1; omega
        case rel => exact ⟨i + 1, by go_num, by rw [HA.out, q1, Bool.or_true], ⟨by have := Hi.out; have := of_eq_true p1; omega⟩, ⟨by rw [HK.out, if_pos HQ.out, List.append_nil]; exact HS.out⟩⟩
      · have q1 : (d.1.f0 == b) = false := by simpa using hq
        have HQ := Aside0.mk hq
        clear hq
        obtain ⟨D, hR, hDb, hcl⟩ := doc_open HS.out
        have HR := Aside0.mk hR
        have HCL := Aside0.mk hcl
        have HSZ := Aside0.mk HS.out.toBelow
        have hkl : (keepD (ds.take i) b).length ≤ 1000 := Nat.le_trans (List.length_filter_le _ _) (by rw [List.length_take]; have := HN.out; omega)
        have HKL := Aside0.mk hkl
        clear hR hcl hkl
        go_wp2_with (at_builtin; refine Kd.R_append (Kd.raw 6) (w0 := w0) (W := wo) w0.heap.size rfl (.tmp 22) (.tmp 27) 72 82 _ 80 rfl Try.underlying72 info82r rfl (by decide) (by decide) _ ((keepD (ds.take i) b).map encZ) (encZ d) (encZ d) (fun k => D k ∨ wo.heap.size ≤ k) (fun _ => False) rfl rfl ⟨rfl, rfl, encZ_one d⟩ (fun _ h => h.elim) (fun _ h => .inr h) (Kd.R_mono HR.out (fun _ h => .inl h)) HSZ.out HSZ.out.size (by rw [List.length_map]; have := HKL.out; omega) ?_; intro v1 w4 hN1 hB1 hg1 _; have HS4 := Aside0.mk (HCL.out w4 v1 (keepD (ds.take i) b ++ [d]) hg1 (by rw [List.map_append]; exact hN1)); clear hN1 hB1 hg1)
        go_roundg (gk - 1)
        case measure => have := Hi.out; have := of_eq_true p1; omega
        case rel => exact ⟨i + 1, by go_num, by rw [HA.out, q1, Bool.or_false], ⟨by have := Hi.out; have := of_eq_true p1; omega⟩, ⟨by rw [HK.out, if_neg HQ.out]; exact HS4.out⟩⟩
    · have p1 : (i < ds.length) = False := eq_false hlt
      have d0 : decide ((i : Int) < (ds.length : Int)) = false := decide_eq_false (by omega)
      have HE := Aside0.mk (show ds.take i = ds from List.take_of_length_le (by omega))
      clear hlt
      go_wp2_with fail
      go_ret2
      exact ⟨_, by rw [HE.out]; rfl, by have := HS.out; rw [HE.out] at this; exact this.swap.drop⟩
theorem reads_take {α : Type} {K : α → List Value → Prop} {sz : Nat} {W : World} {A : Option Addr} {n k : Nat} {ys : List α} (h : ReadsRow K sz W A n ys) (hk : k ≤ n) : ReadsRow K sz W A k (ys.take k) := by
  refine ⟨by rw [List.length_take, h.1]; omega, Nat.le_trans hk h.2.1, fun hp => ?_⟩
  obtain ⟨ad, e, hc⟩ := h.2.2 (by omega)
  refine ⟨ad, e, fun j p hj => ?_⟩
  rw [List.getElem?_take] at hj
  split at hj
  · exact hc j p hj
  · cases hj
theorem reads_drop {α : Type} {K : α → List Value → Prop} {sz : Nat} {W : World} {A A2 : Option Addr} {n k m : Nat} {ys : List α} (h : ReadsRow K sz W A n ys) (hm : m = n - k) (hA : 0 < m → A2 = A.map (·.add (k * sz))) : ReadsRow K sz W A2 m (ys.drop k) := by
  refine ⟨by rw [List.length_drop, h.1, hm], by have := h.2.1; omega, fun hp => ?_⟩
  obtain ⟨ad, e, hc⟩ := h.2.2 (by omega)
  subst e
  refine ⟨ad.add (k * sz), hA hp, fun j p hj => ?_⟩
  rw [List.getElem?_drop] at hj
  obtain ⟨cs, h1, h2, h3⟩ := hc (k + j) p hj
  refine ⟨cs, h1, h2, fun i u hu => ?_⟩
  have := h3 i u hu
  rw [Go.Deep.add_add]
  rw [show k * sz + (j * sz + i) = (k + j) * sz + i from by rw [Nat.add_mul, Nat.add_assoc]]
  exact this
/-- Where a zone comes in. -/
def posZ (ds : List SZ) (x : S82) : Nat := ((ds.map (·.1)).takeWhile (low x)).length
def insD (ds : List SZ) (d : SZ) : List SZ := ds.take (posZ ds d.1) ++ d :: ds.drop (posZ ds d.1)
theorem pos_le (ds : List SZ) (x : S82) : posZ ds x ≤ ds.length := by
  have := List.takeWhile_append_dropWhile (p := low x) (l := ds.map (·.1))
  have := congrArg List.length this
  rw [List.length_append, List.length_map] at this
  unfold posZ
  omega
theorem ins_map (ds : List SZ) (d : SZ) : (insD ds d).map (·.1) = addZ (ds.map (·.1)) d.1 := by
  unfold insD addZ
  have e := List.takeWhile_append_dropWhile (p := low d.1) (l := ds.map (·.1))
  rw [List.map_append, List.map_cons, List.map_take, List.map_drop]
  have h1 : (ds.map (·.1)).take (posZ ds d.1) = (ds.map (·.1)).takeWhile (low d.1) := by
    conv => lhs; rw [← e]
    exact List.take_left' rfl
  have h2 : (ds.map (·.1)).drop (posZ ds d.1) = (ds.map (·.1)).dropWhile (low d.1) := by
    conv => lhs; rw [← e]
    exact List.drop_left' rfl
  rw [h1, h2]
theorem pos_iff {ds : List SZ} {x : S82} (hI : Inv (ds.map (·.1))) {i : Nat} {d : SZ} (hd : ds[i]? = some d) : d.1.f0 < x.f0 ↔ i < posZ ds x := by
  have hl := (List.getElem?_eq_some_iff.1 hd).1
  have e := List.takeWhile_append_dropWhile (p := low x) (l := ds.map (·.1))
  have hm : (ds.map (·.1))[i]? = some d.1 := by rw [List.getElem?_map, hd]; rfl
  rw [← e] at hm
  unfold posZ
  by_cases hi : i < ((ds.map (·.1)).takeWhile (low x)).length
  · rw [List.getElem?_append_left hi] at hm
    exact ⟨fun _ => hi, fun _ => take_low x _ _ (List.mem_iff_getElem?.2 ⟨i, hm⟩)⟩
  · rw [List.getElem?_append_right (by omega)] at hm
    have := drop_high x _ hI.rise _ (List.mem_iff_getElem?.2 ⟨_, hm⟩)
    exact ⟨fun h => by omega, fun h => absurd h hi⟩
theorem fine_dec (a b : Int) (l o : List Int) : ∃ r : Bool, r = true ↔ Fine a b l o := by
  by_cases h : Fine a b l o
  · exact ⟨true, by simp [h]⟩
  · exact ⟨false, by simp [h]⟩
theorem May_calls (x : S82) (A4 : Option Addr) (c4 : Nat) (A5 : Option Addr) (c5 : Nat) (w : World) (hL : Lie w (x, (A4, c4), (A5, c5))) (hn4 : x.f4.length ≤ 100) (hn5 : x.f5.length ≤ 100) (r : Bool) (hr : r = true ↔ Ok x) :
    Calls Try.prog 76 #[.agg #[.int .i64 x.f0, .int .i64 x.f1, .int .i64 x.f2, .int .i64 x.f3, .slice A4 x.f4.length c4, .slice A5 x.f5.length c5]] w fun e w' => e = .returned (.bool r) ∧ Below w.heap.size w w' := by
  by_cases hP : Places x.f0 x.f1 x.f2 x.f3
  · obtain ⟨r1, h1⟩ := fine_dec x.f0 x.f1 x.f4 x.f5
    obtain ⟨r2, h2⟩ := fine_dec x.f0 x.f1 x.f5 x.f4
    have e : r = (r1 && r2) := by
      rw [Bool.eq_iff_iff, hr, Bool.and_eq_true, h1, h2]
      exact ⟨fun h => h.2, fun h => ⟨hP, h⟩⟩
    rw [e]
    exact May_yes x.f0 x.f1 x.f2 x.f3 A4 c4 x.f4 A5 c5 x.f5 w hL.1.1 hL.1.2 hL.2.1 hL.2.2 hn4 hn5 hP r1 r2 h1 h2
  · have e : r = false := by
      cases r with
      | false => rfl
      | true => exact absurd (hr.1 rfl).1 hP
    rw [e]
    exact May_no x.f0 x.f1 x.f2 x.f3 (.bool true) (.bool true) A4 x.f4.length c4 A5 x.f5.length c5 w hP
def TakesD (ds : List SZ) (x : S82) : Prop := Ok x ∧ ∀ d ∈ ds, clash x d.1 = false
set_option maxHeartbeats 8000000 in
set_option maxRecDepth 100000 in
theorem DAdd_calls {w0 w : World} {l : List Asn} {v : Value} {ds : List SZ} (h : Sat w0 w (ADoc w0.heap.size v ds :: l)) (hn : ds.length ≤ 900) (hI : Inv (ds.map (·.1))) (x : S82) (A4 : Option Addr) (c4 : Nat) (A5 : Option Addr) (c5 : Nat) (hL : Lie w (x, (A4, c4), (A5, c5))) (hn4 : x.f4.length ≤ 100) (hn5 : x.f5.length ≤ 100) (r : Bool) (hr : r = true ↔ TakesD ds x) :
    Calls Try.prog 38 #[v, .agg #[.int .i64 x.f0, .int .i64 x.f1, .int .i64 x.f2, .int .i64 x.f3, .slice A4 x.f4.length c4, .slice A5 x.f5.length c5]] w fun e w' => ∃ v', e = .returned (.tuple #[v', .bool r]) ∧ Sat w0 w' (ADoc w0.heap.size v' (if r = true then insD ds (x, (A4, c4), (A5, c5)) else ds) :: l) := by
  obtain ⟨A, c, rfl, hc, _⟩ := doc_reads h
  have HN := Aside0.mk hn
  have HI := Aside0.mk hI
  have HR := Aside0.mk hr
  have hu82 := Try.underlying82
  obtain ⟨W, hWe⟩ : ∃ W, w.alloc (.cells #[.int .i64 x.f0, .int .i64 x.f1, .int .i64 x.f2, .int .i64 x.f3, .slice A4 x.f4.length c4, .slice A5 x.f5.length c5] 82) = W := ⟨_, rfl⟩
  obtain ⟨b, hb⟩ : ∃ b, w.heap.size = b := ⟨_, rfl⟩
  have hW := Aside0.mk (show Sat w0 W (ABlk b (.cells #[.int .i64 x.f0, .int .i64 x.f1, .int .i64 x.f2, .int .i64 x.f3, .slice A4 x.f4.length c4, .slice A5 x.f5.length c5] 82 (0, 0)) :: ADoc w0.heap.size (.slice A ds.length c) ds :: l) from by rw [← hWe, ← hb]; exact blk_new h _)
  have hLW : Lie W (x, (A4, c4), (A5, c5)) := hL.below (by rw [← hWe]; exact below_alloc (Below.refl _ _) _)
  obtain ⟨r0, hr0⟩ : ∃ r : Bool, r = true ↔ Ok x := by
    by_cases ho : Ok x
    · exact ⟨true, by simp [ho]⟩
    · exact ⟨false, by simp [ho]⟩
  have HM := Aside0.mk (May_calls x A4 c4 A5 c5 W hLW hn4 hn5 r0 hr0)
  have HR0 := Aside0.mk hr0
  have y0 : W.cell? ⟨b, 0, none⟩ = some (.int .i64 x.f0) := get_cell (blk_at hW.out) 0
  have y1 : W.cell? ⟨b, 1, none⟩ = some (.int .i64 x.f1) := get_cell (blk_at hW.out) 1
  have y2 : W.cell? ⟨b, 2, none⟩ = some (.int .i64 x.f2) := get_cell (blk_at hW.out) 2
  have y3 : W.cell? ⟨b, 3, none⟩ = some (.int .i64 x.f3) := get_cell (blk_at hW.out) 3
  have y4 : W.cell? ⟨b, 4, none⟩ = some (.slice A4 x.f4.length c4) := get_cell (blk_at hW.out) 4
  have y5 : W.cell? ⟨b, 5, none⟩ = some (.slice A5 x.f5.length c5) := get_cell (blk_at hW.out) 5
  clear h hn hI hr hc hL hLW hr0
  go_enter Try.func38, Try.ntmps38
  go_upto_region 1 with fail
  try rw [hWe]
  clear hWe
  try rw [hb]
  clear hb
  go_wp2_with fail
  (with_reducible refine HM.out.mono ?_)
  rintro e1 w1 ⟨rfl, hb1⟩
  have HB1 := Aside0.mk (hW.out.below hb1)
  clear hb1 y0 y1 y2 y3 y4 y5 HM hW
  cases r0 with
  | false =>
    have hno : ¬ Ok x := fun h => by have := HR0.out.2 h; cases this
    have er : r = false := by
      cases r with
      | false => rfl
      | true => exact absurd (HR.out.1 rfl).1 hno
    subst er
    clear hno
    go_wp2_with fail
    go_ret2
    exact ⟨_, by rfl, HB1.out.drop⟩
  | true =>
    have HO := Aside0.mk (HR0.out.1 rfl)
    clear HR0
    go_wp2_with fail
    go_loopg [7, 8] (ds.length + 1) (fun kq v7 v8 w' => ∃ i : Nat, v8 = .int .i64 i ∧ v7 = .int .i64 (min i (posZ ds x) : Nat) ∧ Aside0 (i ≤ ds.length ∧ ds.length - i < kq) ∧ Aside0 (∀ d ∈ ds.take i, clash x d.1 = false) ∧ Aside0 (Sat w0 w' (ABlk b (.cells #[.int .i64 x.f0, .int .i64 x.f1, .int .i64 x.f2, .int .i64 x.f3, .slice A4 x.f4.length c4, .slice A5 x.f5.length c5] 82 (0, 0)) :: ADoc w0.heap.size (.slice A ds.length c) ds :: l)))
    case atStart => exact ⟨0, rfl, by simp, ⟨by omega⟩, ⟨by simp⟩, HB1⟩
    case round =>
      clear HB1
      obtain ⟨i, rfl, rfl, Hi, HCL, HS⟩ := hrel
      obtain ⟨wo, rfl⟩ : ∃ y, y = wr := ⟨wr, rfl⟩
      have HP := Aside0.mk (pos_le ds x)
      by_cases hlt : i < ds.length
      · obtain ⟨d, hd⟩ : ∃ d, ds[i]? = some d := ⟨_, List.getElem?_eq_getElem hlt⟩
        obtain ⟨A', c', ev, _, hC⟩ := doc_reads HS.out.drop
        injection ev with ev1 _ ev2
        subst ev1 ev2
        obtain ⟨ad, eA, y0, y1, y2, y3, y4, y5⟩ := raw_enc hC hd
        subst eA
        have HD := Aside0.mk hd
        have HPI := Aside0.mk (pos_iff (x := x) HI.out hd)
        have p1 : (i < ds.length) = True := eq_true hlt
        have d0 : decide ((i : Int) < (ds.length : Int)) = true := decide_eq_true (by omega)
        have p9 : (i : Int) ≤ 1000 := by have := HN.out; omega
        have p8 : 0 ≤ (i : Int) := by omega
        have p7 : (i : Int) < (ds.length : Int) := by omega
        have z0 : wo.cell? ⟨b, 0, none⟩ = some (.int .i64 x.f0) := get_cell (blk_at HS.out) 0
        have z3 : wo.cell? ⟨b, 3, none⟩ = some (.int .i64 x.f3) := get_cell (blk_at HS.out) 3
        have HNX := Aside0.mk (show clash x d.1 = false → ∀ d ∈ ds.take (i + 1), clash x d.1 = false from fun hq d' hd' => by
          rw [List.take_add_one, HD.out] at hd'
          rcases List.mem_append.1 hd' with h | h
          · exact HCL.out d' h
          · simp at h; rw [h]; exact hq)
        clear hC hlt hd y1 y2 y4 y5
        by_cases c1 : d.1.f0 < x.f3
        · have e1 : (d.1.f0 < x.f3) = True := eq_true c1
          have e2 : decide (d.1.f0 < x.f3) = true := decide_eq_true c1
          by_cases c2 : x.f0 < d.1.f3
          · have e3 : (x.f0 < d.1.f3) = True := eq_true c2
            have e4 : decide (x.f0 < d.1.f3) = true := decide_eq_true c2
            have er : r = false := by
              cases r with
              | false => rfl
              | true =>
                have := (HR.out.1 rfl).2 d (List.mem_iff_getElem?.2 ⟨i, HD.out⟩)
                simp [clash, c1, c2] at this
            subst er
            clear c1 c2
            go_wp2_with fail
            go_quiet (fail)
            go_wp2_with fail
            go_ret2
            exact ⟨_, by rfl, (HS.out.drewN _).drop⟩
          · have e3 : (x.f0 < d.1.f3) = False := eq_false c2
            have e4 : decide (x.f0 < d.1.f3) = false := decide_eq_false c2
            have HNY := Aside0.mk (HNX.out (by simp [clash, c2]))
            clear c1 c2
            go_wp2_with fail
            go_quiet (fail)
            go_wp2_with fail
            by_cases c3 : d.1.f0 < x.f0
            · have u1 : (d.1.f0 < x.f0) = True := eq_true c3
              have u2 : decide (d.1.f0 < x.f0) = true := decide_eq_true c3
              have hm : (min (i + 1) (posZ ds x) : Nat) = i + 1 := by have := HPI.out.1 c3; omega
              have HMN := Aside0.mk hm
              clear c3 hm
              go_quiet (fail)
              go_wp2_with fail
              go_roundg (gk - 1)
              case measure => have := Hi.out; have := of_eq_true p1; omega
              case rel => exact ⟨i + 1, by go_num, by rw [HMN.out]; go_num, ⟨by have := Hi.out; have := of_eq_true p1; omega⟩, HNY, ⟨HS.out.drewN _⟩⟩
            · have u1 : (d.1.f0 < x.f0) = False := eq_false c3
              have u2 : decide (d.1.f0 < x.f0) = false := decide_eq_false c3
              have hm : (min (i + 1) (posZ ds x) : Nat) = min i (posZ ds x) := by have hni : ¬ i < posZ ds x := fun h => c3 (HPI.out.2 h); omega
              have HMN := Aside0.mk hm
              clear c3 hm
              go_quiet (fail)
              go_wp2_with fail
              go_roundg (gk - 1)
              case measure => have := Hi.out; have := of_eq_true p1; omega
              case rel => exact ⟨i + 1, by go_num, by rw [HMN.out], ⟨by have := Hi.out; have := of_eq_true p1; omega⟩, HNY, ⟨HS.out.drewN _⟩⟩
        · have e1 : (d.1.f0 < x.f3) = False := eq_false c1
          have e2 : decide (d.1.f0 < x.f3) = false := decide_eq_false c1
          have HNY := Aside0.mk (HNX.out (by simp [clash, c1]))
          clear c1
          go_wp2_with fail
          go_quiet (fail)
          go_wp2_with fail
          by_cases c3 : d.1.f0 < x.f0
          · have u1 : (d.1.f0 < x.f0) = True := eq_true c3
            have u2 : decide (d.1.f0 < x.f0) = true := decide_eq_true c3
            have hm : (min (i + 1) (posZ ds x) : Nat) = i + 1 := by have := HPI.out.1 c3; omega
            have HMN := Aside0.mk hm
            clear c3 hm
            go_quiet (fail)
            go_wp2_with fail
            go_roundg (gk - 1)
            case measure => have := Hi.out; have := of_eq_true p1; omega
            case rel => exact ⟨i + 1, by go_num, by rw [HMN.out]; go_num, ⟨by have := Hi.out; have := of_eq_true p1; omega⟩, HNY, ⟨HS.out.drewN _⟩⟩
          · have u1 : (d.1.f0 < x.f0) = False := eq_false c3
            have u2 : decide (d.1.f0 < x.f0) = false := decide_eq_false c3
            have hm : (min (i + 1) (posZ ds x) : Nat) = min i (posZ ds x) := by have hni : ¬ i < posZ ds x := fun h => c3 (HPI.out.2 h); omega
            have HMN := Aside0.mk hm
            clear c3 hm
            go_quiet (fail)
            go_wp2_with fail
            go_roundg (gk - 1)
            case measure => have := Hi.out; have := of_eq_true p1; omega
            case rel => exact ⟨i + 1, by go_num, by rw [HMN.out], ⟨by have := Hi.out; have := of_eq_true p1; omega⟩, HNY, ⟨HS.out.drewN _⟩⟩
      · have p1 : (i < ds.length) = False := eq_false hlt
        have d0 : decide ((i : Int) < (ds.length : Int)) = false := decide_eq_false (by omega)
        have hi : i = ds.length := by have := Hi.out; omega
        have er : r = true := HR.out.2 ⟨HO.out, fun d hd => HCL.out d (by rw [hi, List.take_length]; exact hd)⟩
        subst er
        have hm : min i (posZ ds x) = posZ ds x := by have := HP.out; omega
        rw [hm]
        have HMP := Aside0.mk (show (insD ds (x, (A4, c4), (A5, c5))).map encZ = (ds.map encZ).take (posZ ds x) ++ [encZ (x, (A4, c4), (A5, c5))] ++ (ds.map encZ).drop (posZ ds x) from by
          unfold insD
          rw [List.map_append, List.map_cons, List.map_take, List.map_drop, List.append_assoc]
          rfl)
        obtain ⟨A', c', ev, hcc, hC⟩ := doc_reads HS.out.drop
        injection ev with ev1 evl ev2
        clear evl
        subst ev1 ev2
        obtain ⟨_, hP, _⟩ := HS.out.drop.head
        obtain ⟨hok, inner, hown, hrep⟩ := hP
        have hkl : posZ ds x ≤ ds.length := HP.out
        generalize posZ ds x = k at hm hkl HMP ⊢
        have HKL := Aside0.mk hkl
        have hlm : (ds.map encZ).length = ds.length := List.length_map _
        have HT := Aside0.mk (show ((ds.map encZ).take k).length = k from by rw [List.length_take, hlm]; omega)
        have HHR := Aside0.mk HS.out.toBelow.size
        have HN2 := Aside0.mk (show ds.length ≤ 900 from HN.out)
        clear hm hlt HP HI HCL
        have hu72 := Try.underlying72
        go_upto_region 12 with (fail)
        rcases hown.2 with ⟨hv, h0⟩ | ⟨g3, cap, cur, hv, hbase, hg, _, hcap, hcs, htk⟩
        · injection hv with hv1 hv2 hv3
          have hds : ds = [] := List.eq_nil_of_length_eq_zero hv2
          subst hv1
          subst hv3
          subst hds
          have hk0 : k = 0 := by simpa using hkl
          subst hk0
          clear hC hok hown hrep hlm hkl hi HMP HT HKL h0 hv2 hcc
          have z0 : wo.cell? ⟨b, 0, none⟩ = some (.int .i64 x.f0) := get_cell (blk_at HS.out) 0
          go_upto_region 13 with (at_builtin; refine Kd.R_append_rows (Kd.raw 6) (Rr := fun x cs => cs = x ∧ cs.length = 6 ∧ ∀ u ∈ cs, u.oneCell' = true) (w0 := wo) (W := wo.alloc (.cells #[] 82)) wo.heap.size rfl (.tmp 50) (.tmp 53) 72 82 _ 80 rfl Try.underlying72 info82r rfl (by decide) (by decide) _ [] [] none 0 0 (fun _ => True) (fun _ => False) rfl rfl (empty_R (Kd.raw 6) 82 wo) ⟨rfl, Nat.zero_le _, fun h => absurd h (Nat.lt_irrefl _)⟩ (fun _ _ h => h) (fun _ h => h.elim) (fun _ _ => trivial) (below_alloc (Below.refl _ _) _) (below_alloc (Below.refl wo.heap.size wo) _).size (by decide) ?_; intro v6 w6 hR6 hB6 _ _; have HR6 := Aside0.mk hR6; have HB6 := Aside0.mk hB6; clear hR6 hB6; have z0 : w6.cell? ⟨b, 0, none⟩ = some (.int .i64 x.f0) := get_cell (blk_at (HS.out.below HB6.out)) 0; have z1 : w6.cell? ⟨b, 1, none⟩ = some (.int .i64 x.f1) := get_cell (blk_at (HS.out.below HB6.out)) 1; have z2 : w6.cell? ⟨b, 2, none⟩ = some (.int .i64 x.f2) := get_cell (blk_at (HS.out.below HB6.out)) 2; have z3 : w6.cell? ⟨b, 3, none⟩ = some (.int .i64 x.f3) := get_cell (blk_at (HS.out.below HB6.out)) 3; have z4 : w6.cell? ⟨b, 4, none⟩ = some (.slice A4 x.f4.length c4) := get_cell (blk_at (HS.out.below HB6.out)) 4; have z5 : w6.cell? ⟨b, 5, none⟩ = some (.slice A5 x.f5.length c5) := get_cell (blk_at (HS.out.below HB6.out)) 5)
          go_upto_region 14 with (at_builtin; refine Kd.R_append (Kd.raw 6) (w0 := wo) (W := w6) wo.heap.size rfl (.tmp 55) (.tmp 57) 72 82 _ 80 rfl Try.underlying72 info82r rfl (by decide) (by decide) _ [] (encZ (x, (A4, c4), (A5, c5))) (encZ (x, (A4, c4), (A5, c5))) (fun _ => True) (fun _ => False) rfl rfl ⟨rfl, rfl, encZ_one _⟩ (fun _ h => h.elim) (fun _ _ => trivial) HR6.out HB6.out HB6.out.size (by decide) ?_; intro v7 w7 hR7 hB7 _ _; have HR7 := Aside0.mk hR7; have HB7 := Aside0.mk hB7; clear hR7 hB7)
          clear z0 z1 z2 z3 z4 z5
          go_wp2_with (at_builtin; refine Kd.R_append_rows (Kd.raw 6) (Rr := fun x cs => cs = x ∧ cs.length = 6 ∧ ∀ u ∈ cs, u.oneCell' = true) (w0 := wo) (W := w7) wo.heap.size rfl (.tmp 59) (.tmp 62) 72 82 _ 80 rfl Try.underlying72 info82r rfl (by decide) (by decide) _ [encZ (x, (A4, c4), (A5, c5))] [] none 0 0 (fun _ => True) (fun _ => False) rfl rfl HR7.out ⟨rfl, Nat.zero_le _, fun h => absurd h (Nat.lt_irrefl _)⟩ (fun _ _ h => h) (fun _ h => h.elim) (fun _ _ => trivial) HB7.out HB7.out.size (by simp) ?_; intro v8 w8 hR8 hB8 _ _; have HR8 := Aside0.mk hR8; have HB8 := Aside0.mk hB8; clear hR8 hB8)
          all_goals (
            go_ret2
            exact ⟨_, by rfl, ((show Sat w0 w8 (ADoc w0.heap.size v8 (insD [] (x, (A4, c4), (A5, c5))) :: _ :: _ :: l) from HS.out.newRow HB8.out (by rw [show (insD [] (x, (A4, c4), (A5, c5))).map encZ = [encZ (x, (A4, c4), (A5, c5))] from by simp [insD]]; exact HR8.out) HHR.out).swap.drop).swap.drop⟩)
        · injection hv with hv1 hvl hv2
          clear hvl
          subst hv1 hv2
          have HRT := Aside0.mk (show (Kd.raw 6).C (wo.alloc (.cells #[] 82)) (some ⟨g3, 0, none⟩) k ((ds.map encZ).take k) from reads_take (Kd.C_below hC (below_alloc (Below.refl _ _) _)) (by omega))
          have HRD := Aside0.mk (show (Kd.raw 6).C wo (if c = k then some ⟨g3, 0, none⟩ else some ⟨g3, k * 6, none⟩) (ds.length - k) ((ds.map encZ).drop k) from by
            refine reads_drop hC rfl (fun hp => ?_)
            rw [if_neg (by omega)]
            show _ = some ((⟨g3, 0, none⟩ : Addr).add _)
            rw [add_plain]; rfl)
          have p6 : (k ≤ c) = True := eq_true (by omega)
          have p5 : 0 ≤ (k : Int) := by omega
          have p8 : (k : Int) ≤ 1000 := by have := HN2.out; omega
          have p10 : (k : Int) ≤ ds.length := by omega
          have p11 : ds.length ≤ c := hcc
          clear hC hok hown hrep hbase hg hcap hcs htk hlm hkl hi
          go_upto_region 13 with (at_builtin; refine Kd.R_append_rows (Kd.raw 6) (Rr := fun x cs => cs = x ∧ cs.length = 6 ∧ ∀ u ∈ cs, u.oneCell' = true) (w0 := wo) (W := wo.alloc (.cells #[] 82)) wo.heap.size rfl (.tmp 50) (.tmp 53) 72 82 _ 80 rfl Try.underlying72 info82r rfl (by decide) (by decide) _ [] ((ds.map encZ).take k) (some ⟨g3, 0, none⟩) k c (fun _ => True) (fun _ => False) rfl rfl (empty_R (Kd.raw 6) 82 wo) HRT.out (fun _ _ h => h) (fun _ h => h.elim) (fun _ _ => trivial) (below_alloc (Below.refl _ _) _) (below_alloc (Below.refl wo.heap.size wo) _).size (by show (0 + k) * 80 ≤ _; omega) ?_; intro v6 w6 hR6 hB6 _ _; rw [List.nil_append] at hR6; have HR6 := Aside0.mk hR6; have HB6 := Aside0.mk hB6; clear hR6 hB6; have z0 : w6.cell? ⟨b, 0, none⟩ = some (.int .i64 x.f0) := get_cell (blk_at (HS.out.below HB6.out)) 0; have z1 : w6.cell? ⟨b, 1, none⟩ = some (.int .i64 x.f1) := get_cell (blk_at (HS.out.below HB6.out)) 1; have z2 : w6.cell? ⟨b, 2, none⟩ = some (.int .i64 x.f2) := get_cell (blk_at (HS.out.below HB6.out)) 2; have z3 : w6.cell? ⟨b, 3, none⟩ = some (.int .i64 x.f3) := get_cell (blk_at (HS.out.below HB6.out)) 3; have z4 : w6.cell? ⟨b, 4, none⟩ = some (.slice A4 x.f4.length c4) := get_cell (blk_at (HS.out.below HB6.out)) 4; have z5 : w6.cell? ⟨b, 5, none⟩ = some (.slice A5 x.f5.length c5) := get_cell (blk_at (HS.out.below HB6.out)) 5)
          go_upto_region 14 with (at_builtin; refine Kd.R_append (Kd.raw 6) (w0 := wo) (W := w6) wo.heap.size rfl (.tmp 55) (.tmp 57) 72 82 _ 80 rfl Try.underlying72 info82r rfl (by decide) (by decide) _ ((ds.map encZ).take k) (encZ (x, (A4, c4), (A5, c5))) (encZ (x, (A4, c4), (A5, c5))) (fun _ => True) (fun _ => False) rfl rfl ⟨rfl, rfl, encZ_one _⟩ (fun _ h => h.elim) (fun _ _ => trivial) HR6.out HB6.out HB6.out.size (by rw [HT.out]; have := HKL.out; have := HN2.out; omega) ?_; intro v7 w7 hR7 hB7 _ _; have HR7 := Aside0.mk hR7; have HB7 := Aside0.mk hB7; clear hR7 hB7)
          clear z0 z1 z2 z3 z4 z5
          go_wp2_with (at_builtin; refine Kd.R_append_rows (Kd.raw 6) (Rr := fun x cs => cs = x ∧ cs.length = 6 ∧ ∀ u ∈ cs, u.oneCell' = true) (w0 := wo) (W := w7) wo.heap.size rfl (.tmp 59) (.tmp 62) 72 82 _ 80 rfl Try.underlying72 info82r rfl (by decide) (by decide) _ ((ds.map encZ).take k ++ [encZ (x, (A4, c4), (A5, c5))]) ((ds.map encZ).drop k) (if c = k then some ⟨g3, 0, none⟩ else some ⟨g3, k * 6, none⟩) (ds.length - k) (c - k) (fun _ => True) (fun _ => False) rfl rfl HR7.out (Kd.C_below HRD.out HB7.out) (fun _ _ h => h) (fun _ h => h.elim) (fun _ _ => trivial) HB7.out HB7.out.size (by rw [List.length_append, HT.out, List.length_singleton]; have := HKL.out; have := HN2.out; omega) ?_; intro v8 w8 hR8 hB8 _ _; have HR8 := Aside0.mk hR8; have HB8 := Aside0.mk hB8; clear hR8 hB8)
          all_goals (
            go_ret2
            exact ⟨_, by rfl, ((show Sat w0 w8 (ADoc w0.heap.size v8 (insD ds (x, (A4, c4), (A5, c5))) :: _ :: _ :: l) from HS.out.newRow HB8.out (by rw [HMP.out]; exact HR8.out) HHR.out).swap.drop).swap.drop⟩)
end Go.Proofs.Ytkeijpngfnmjoaa.MineZone
