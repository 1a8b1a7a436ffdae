/- Zones sorted by their base: the row after it. Condition: the row is of the call's own. -/
import Derived.Test.YtkeijpngfnmjoaaMineZoneH
namespace Go.Proofs.Ytkeijpngfnmjoaa.MineZone
open Go.Lib Go.Sort Go.Shelf Go.RowKit Go.MapKept Go.Proofs.YtkeijpngfnmjoaaW.PrintWords Go.Proofs.YtkeijpngfnmjoaaW.PrintLast Go.Proofs.YtkeijpngfnmjoaaW.PrintMore Go.Proofs.Ytkeijpngfnmjoaa.MineBase Go.Proofs.Ytkeijpngfnmjoaa.MineSep Go.Proofs.Ytkeijpngfnmjoaa.MineRows Go.Proofs.Ytkeijpngfnmjoaa.MineGen Go.Proofs.Ytkeijpngfnmjoaa.QZonePlays Go.Proofs.Ytkeijpngfnmjoaa.MineMap
attribute [local go_sem ↓] Go.wp_at_zero Go.wp_at_succ
set_option linter.unusedVariables false
set_option linter.unusedSimpArgs false
theorem sort_block (w : World) (g n e : Nat) (cur : Array Value) (d : Array SZ) (os : Array Obj) (hg : w.heap[g]? = some (.cells cur e (0, 0))) : (sortWorldK encZ 6 w g 0 n d os).heap[g]? = some (.cells (putCells id 0 (flatK encZ 6 d) cur) e (0, 0)) := by
  have hlt := (Array.getElem?_eq_some_iff.1 hg).1
  show ((w.heap.modify g (onCells (putCells id 0 (flatK encZ 6 d)))) ++ os)[g]? = _
  rw [Array.getElem?_append_left (by rw [Array.size_modify]; exact hlt), Array.getElem?_modify, if_pos rfl, hg]
  rfl
theorem sort_grown (w : World) (g n : Nat) (d : Array SZ) (os : Array Obj) : w.grownBy (sortWorldK encZ 6 w g 0 n d os) (some g) where
  os := rfl
  tape := rfl
  output := rfl
  size := by
    show w.heap.size ≤ ((w.heap.modify g (onCells (putCells id 0 (flatK encZ 6 d)))) ++ os).size
    rw [Array.size_append, Array.size_modify]; omega
  block := fun k hk hne => by
    show ((w.heap.modify g (onCells (putCells id 0 (flatK encZ 6 d)))) ++ os)[k]? = _
    rw [Array.getElem?_append_left (by rw [Array.size_modify]; exact hk), Array.getElem?_modify, if_neg (fun e => hne (by rw [e]))]
theorem flat_get : ∀ (L : List (List Value)), (∀ c ∈ L, c.length = 6) → ∀ t, L.flatten[t]? = (L[t / 6]?.getD [])[t % 6]?
  | [], _, t => by simp
  | c :: L, h, t => by
    have hc := h c List.mem_cons_self
    rw [List.flatten_cons]
    by_cases ht : t < 6
    · rw [List.getElem?_append_left (by omega), show t / 6 = 0 by omega, show t % 6 = t by omega]
      rfl
    · rw [List.getElem?_append_right (by omega), hc, flat_get L (fun c hc => h c (List.mem_cons_of_mem _ hc)) (t - 6), show t / 6 = (t - 6) / 6 + 1 by omega, show (t - 6) % 6 = t % 6 by omega, List.getElem?_cons_succ]
theorem flat_toList (d : List SZ) : (flatK encZ 6 d.toArray).toList = (d.map encZ).flatten := by
  apply List.ext_getElem?
  intro t
  rw [flat_get _ (fun c hc => by obtain ⟨x, _, rfl⟩ := List.mem_map.1 hc; exact encZ_len x)]
  by_cases ht : t < d.length * 6
  · have h6 : t / 6 < d.length := by omega
    have hm : t % 6 < 6 := Nat.mod_lt _ (by omega)
    simp only [flatK, Array.getElem?_toList, Array.getElem?_map, List.size_toArray, Array.getElem?_range, if_pos ht, Option.map_some, List.getElem?_map, List.getElem?_eq_getElem h6, Option.getD_some]
    rw [List.getElem?_eq_getElem (by rw [encZ_len]; exact hm), getElem!_pos (encZ _) _ (by rw [encZ_len]; exact hm)]
    congr 2
    congr 1
    rw [getElem!_pos d.toArray _ (by simpa using h6)]
    simp
  · have h6 : ¬ t / 6 < d.length := by omega
    have h7 : d[t / 6]? = none := List.getElem?_eq_none (by omega)
    simp only [List.getElem?_map, h7, Option.map_none, Option.getD_none, List.getElem?_nil]
    rw [List.getElem?_eq_none]
    simp
    omega
theorem pick_zones {W : World} {ok : Nat → Prop} : ∀ (zs : List S82) (rows : List (List Value)), rows.length = zs.length → (∀ (j : Nat) (x : S82) (c : List Value), zs[j]? = some x → rows[j]? = some c → Kd.FK k82 W ok x c) → ∃ ds : List SZ, ds.map (·.1) = zs ∧ ds.map encZ = rows
  | [], rows, hl, _ => ⟨[], rfl, by cases rows with | nil => rfl | cons => simp at hl⟩
  | z :: zs, [], hl, _ => by simp at hl
  | z :: zs, c :: rows, hl, hf => by
    obtain ⟨ds, h1, h2⟩ := pick_zones zs rows (by simpa using hl) (fun j x c hx hc => hf (j + 1) x c (by simpa using hx) (by simpa using hc))
    obtain ⟨A4, c4, A5, c5, e, _⟩ := k82_open (Kd.FK_now (hf 0 z c rfl rfl))
    exact ⟨(z, (A4, c4), (A5, c5)) :: ds, by rw [List.map_cons, h1], by rw [List.map_cons, h2, e]; rfl⟩
theorem sort_row {w0 w : World} {l : List Asn} {base : Nat} {v : Value} {zs : List S82} (h : Sat w0 w (ARowN k82 75 base v zs :: l)) (hne : zs ≠ []) : ∃ (g cap : Nat) (ds : List SZ), v = .slice (some ⟨g, 0, none⟩) zs.length cap ∧ g < w.heap.size ∧ ds.map (·.1) = zs ∧ HoldsK encZ 6 w g 0 ds.toArray ∧
    ∀ (d' : List SZ) (n : Nat) (os : Array Obj), d'.Perm ds → Sat w0 (sortWorldK encZ 6 w g 0 n d'.toArray os) (ARowN k82 75 base v (d'.map (·.1)) :: l) := by
  have hb0 := h.toBelow
  have hsz := h.size
  obtain ⟨D, hP, hD, _, hcl⟩ := h.open_
  obtain ⟨hok, rows, hl, hR, hf⟩ := hP
  obtain ⟨ds, hd1, hd2⟩ := pick_zones zs rows hl hf
  obtain ⟨_, inner, hown, hrep⟩ := hR
  have hdl : ds.length = rows.length := by rw [← hd2, List.length_map]
  rcases hown.2 with ⟨_, h0⟩ | ⟨g, cap, cur, hv, hbase, hg, hn, hcap, hcs, htk⟩
  · exact absurd (List.eq_nil_of_length_eq_zero (by omega)) hne
  have hin : inner = (ds.map encZ).flatten := by
    apply List.ext_getElem?
    intro t
    rw [flat_get _ (fun c hc => by obtain ⟨x, _, rfl⟩ := List.mem_map.1 hc; exact encZ_len x), hd2]
    have hil : inner.length = rows.length * 6 := hrep.1
    by_cases ht : t / 6 < rows.length
    · obtain ⟨p, hp⟩ : ∃ p, rows[t / 6]? = some p := ⟨_, List.getElem?_eq_getElem ht⟩
      have e : (inner.drop (t / 6 * 6)).take 6 = p := (hrep.2 (t / 6) p hp).1
      rw [hp, Option.getD_some, ← e]
      show inner[t]? = ((inner.drop (t / 6 * 6)).take 6)[t % 6]?
      rw [List.getElem?_take_of_lt (Nat.mod_lt _ (by omega)), List.getElem?_drop]
      congr 1
      omega
    · rw [List.getElem?_eq_none (l := rows) (by omega), List.getElem?_eq_none (by omega)]
      rfl
  have hDg : D g := hok g (by rw [hv]; rfl)
  have hcur : ∀ t, t < rows.length * 6 → cur[t]? = inner[t]? := fun t ht => by
    rw [← htk]
    show _ = (cur.toList.take (rows.length * 6))[t]?
    rw [List.getElem?_take_of_lt ht, Array.getElem?_toList]
  refine ⟨g, cap, ds, by rw [hv, hl], (Array.getElem?_eq_some_iff.1 hg).1, hd1, fun t ht => ⟨?_, ?_⟩, fun d' n os hp => ?_⟩
  · have ht' : t < rows.length * 6 := by rw [size_flatK, List.size_toArray] at ht; omega
    have e := flat_toList ds
    rw [Nat.zero_add]
    refine (get_cell (show blk w g = _ from hg) t).trans ?_
    rw [hcur t ht', hin, ← e, Array.getElem?_toList, Array.getElem?_eq_getElem ht, getElem!_pos (flatK encZ 6 ds.toArray) t ht]
    rfl
  · simp [World.frozen?, hg]
  · have hpl : d'.length = ds.length := hp.length_eq
    refine hcl _ (ARowN k82 75 base v (d'.map (·.1))) D (hb0.grown (sort_grown w g n d'.toArray os) hsz (fun j hj => by injection hj with hj; subst hj; exact (hD _ hDg).1)) (Kept.of_grown (sort_grown w g n d'.toArray os) (Kept.refl w D) (fun j hj => by injection hj with hj; subst hj; exact .inl hDg)) ?_ (fun _ hj => .inl hj)
    refine ⟨hok, d'.map encZ, by simp, Kd.raw_tight (ok := fun _ => True) ⟨fun _ _ => trivial, (d'.map encZ).flatten, ⟨?_, .inr ⟨g, cap, _, by rw [hv, List.length_map, hpl, hdl], hbase, sort_block w g n 75 cur d'.toArray os hg, by rw [List.length_map]; omega, hcap, ?_, ?_⟩⟩, ?_⟩, fun j x c hx hc => ?_⟩
    · rw [← flat_toList]; simp; rfl
    · simp [putCells]; exact hcs
    · rw [← flat_toList]
      apply List.ext_getElem?
      intro t
      have hF : (flatK encZ 6 d'.toArray).size = d'.length * 6 := by rw [size_flatK, List.size_toArray]
      rw [List.length_map]
      by_cases ht : t < d'.length * 6
      · have h2 : t < (flatK encZ 6 d'.toArray).size := by omega
        show ((putCells id 0 (flatK encZ 6 d'.toArray) cur).toList.take (d'.length * 6))[t]? = _
        rw [List.getElem?_take_of_lt ht, Array.getElem?_toList, Array.getElem?_toList, putCells, Array.getElem?_mapIdx, Array.getElem?_eq_getElem (xs := cur) (by rw [hcs]; show t < cap * 6; omega), Option.map_some, if_pos ⟨Nat.zero_le _, by omega⟩, Array.getElem?_eq_getElem h2, Nat.sub_zero, getElem!_pos (flatK encZ 6 d'.toArray) t h2]
        rfl
      · show ((putCells id 0 (flatK encZ 6 d'.toArray) cur).toList.take (d'.length * 6))[t]? = _
        rw [List.getElem?_eq_none (by rw [List.length_take]; omega), List.getElem?_eq_none (by rw [Array.length_toList]; omega)]
    · refine ⟨by rw [← flat_toList]; simp; rfl, fun j p hj => ?_⟩
      have hj0 := (List.getElem?_eq_some_iff.1 hj).1
      have e : (((d'.map encZ).flatten.drop (j * 6)).take 6) = p := by
        apply List.ext_getElem?
        intro t
        by_cases ht : t < 6
        · rw [List.getElem?_take_of_lt ht, List.getElem?_drop, flat_get _ (fun c hc => by obtain ⟨x, _, rfl⟩ := List.mem_map.1 hc; exact encZ_len x), show (j * 6 + t) / 6 = j by omega, show (j * 6 + t) % 6 = t by omega, hj]
          rfl
        · obtain ⟨x, _, rfl⟩ := List.mem_map.1 (List.mem_iff_getElem?.2 ⟨j, hj⟩)
          rw [List.getElem?_eq_none (by rw [List.length_take]; omega), List.getElem?_eq_none (by rw [encZ_len]; omega)]
      obtain ⟨x, _, rfl⟩ := List.mem_map.1 (List.mem_iff_getElem?.2 ⟨j, hj⟩)
      exact ⟨e, by show (((d'.map encZ).flatten.drop (j * 6)).take 6).length = 6; rw [e]; rfl, by
        show ∀ u ∈ (((d'.map encZ).flatten.drop (j * 6)).take 6), u.oneCell' = true
        rw [e]; exact encZ_one x⟩
    · rw [List.getElem?_map] at hx hc
      obtain ⟨y, hy, rfl⟩ := Option.map_eq_some_iff.1 hx
      rw [hy] at hc
      injection hc with hc
      obtain ⟨k, hk⟩ := List.mem_iff_getElem?.1 (hp.mem_iff.1 (List.mem_iff_getElem?.2 ⟨j, hy⟩))
      have hfk := hf k y.1 c (by rw [← hd1, List.getElem?_map, hk]; rfl) (by rw [← hd2, List.getElem?_map, hk, ← hc]; rfl)
      exact Kd.FK_step hfk (fun b hb hlt => (sort_grown w g n d'.toArray os).block b hlt (by have := hb.2; rw [hv] at this; exact this))
theorem SortZ_calls {w0 w : World} {l : List Asn} {base : Nat} {v : Value} {zs : List S82} (h : Sat w0 w (ARowN k82 75 base v zs :: l)) (hne : zs ≠ []) (hn : zs.length ≤ 2000) :
    Calls Try.prog 81 #[v, .func (.func 82) #[] #[]] w fun e w' => e = .returned (.tuple #[]) ∧ ∃ zs' : List S82, zs'.Perm zs ∧ zs'.Pairwise (fun a b => a.f0 ≤ b.f0) ∧ Sat w0 w' (ARowN k82 75 base v zs' :: l) := by
  obtain ⟨g, cap, ds, rfl, hlt, hd, hH, hs⟩ := sort_row h hne
  have hl : ds.toArray.size = zs.length := by rw [List.size_toArray, ← hd, List.length_map]
  have hq := Sort_calls g 0 cap ds.toArray w hH hlt (by rw [hl]; omega)
  rw [hl] at hq
  refine hq.mono ?_
  rintro e w' ⟨rfl, d', n, os, hp, hso, rfl⟩
  obtain ⟨hp1, _, hp2⟩ := hp
  have hpl : d'.toList.Perm ds := by
    have e1 : d'.extract 0 zs.length = d' := by rw [← hl, ← hp1, Array.extract_size]
    have e2 : ds.toArray.extract 0 zs.length = ds.toArray := by rw [← hl, Array.extract_size]
    rw [e1, e2] at hp2
    exact hp2
  refine ⟨rfl, d'.toList.map (·.1), by rw [← hd]; exact hpl.map _, ?_, ?_⟩
  · rw [List.pairwise_map, List.pairwise_iff_getElem]
    intro i j hi hj hij
    rw [Array.length_toList] at hi hj
    have h1 := hso i j (Nat.zero_le _) hij (by rw [← hl, ← hp1]; exact hj)
    rw [ltZ, getElem!_pos d' i hi, getElem!_pos d' j hj, decide_eq_false_iff_not] at h1
    rw [Array.getElem_toList, Array.getElem_toList]
    omega
  · have := hs d'.toList n os hpl
    rw [Array.toArray_toList] at this
    exact this
end Go.Proofs.Ytkeijpngfnmjoaa.MineZone
