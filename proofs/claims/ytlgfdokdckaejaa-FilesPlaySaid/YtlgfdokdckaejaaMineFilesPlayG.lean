/- FilesPlay, the walk: for any deeds the statement returns true. No condition. -/
import Derived.Test.YtlgfdokdckaejaaMineFilesPlayF
import Derived.Test.YtlgfdokdckaejaaMineFilesPick
import Derived.Deep.DeepCutAuto
import Derived.Deep.QuietTactic
import Derived.BigQuiet
import Derived.Deep.DrawnRows
import Derived.WalkLawsBesides
namespace Go.Proofs.Ytlgfdokdckaejaa.MineFilesPlay
open Go.RowKit Go.MapKept Go.Proofs.YtlgfdokdckaejaaW.PrintWords Go.Proofs.YtlgfdokdckaejaaW.PrintLast Go.Proofs.Ytlgfdokdckaejaa.MineBase Go.Proofs.Ytlgfdokdckaejaa.MineSep Go.Proofs.Ytlgfdokdckaejaa.MineRows Go.Proofs.Ytlgfdokdckaejaa.QFilesPlay
open Go.Proofs.Ytlgfdokdckaejaa.MineMap (lookM put del keys look_mem nodup_put nodup_del mem_keys_put del_sub put_length)
open Go.Proofs.Ytlgfdokdckaejaa.MineFiles (mayB putE putF thereE delF AFiles up_calls New_calls Put_calls Get_calls Delete_calls Code_calls putE_range thereE_range kD errV row_string nodup_putF)
open Go.Proofs.Ytlgfdokdckaejaa.MineFilesPick (Pick3_calls)
open Go.Proofs.Ytlgfdokdckaejaa.MineTab (ret_eq)
set_option linter.unusedVariables false
set_option linter.unusedSimpArgs false
attribute [local go_sem ↓] Go.wp_at_zero Go.wp_at_succ
attribute [local go_sem] Go.Proofs.Ytlgfdokdckaejaa.MineErr.eql_err Go.Proofs.Ytlgfdokdckaejaa.MineErr.neq_err Go.Proofs.Ytlgfdokdckaejaa.MineErr.eql_nil_err Go.Proofs.Ytlgfdokdckaejaa.MineErr.neq_nil_err
/-- What stays true of the files. -/
def Inv (F : List (ByteArray × List Int)) : Prop := (keys F).Nodup ∧ F.length ≤ 32 ∧ ∀ q ∈ F, mayB q.1 = true ∧ q.2.length ≤ 4000
theorem inv_nil : Inv [] := ⟨by simp [keys], by simp, by simp⟩
theorem mem_put {F : List (ByteArray × List Int)} {s : ByteArray} {b : List Int} : ∀ q ∈ put F s b, q = (s, b) ∨ q ∈ F := by
  induction F with
  | nil => intro q hq; simp [put] at hq; exact .inl hq
  | cons p F ih =>
    intro q hq
    by_cases h : p.1 = s
    · simp only [put, h, if_true] at hq
      rcases List.mem_cons.1 hq with hq | hq
      · exact .inl hq
      · exact .inr (List.mem_cons_of_mem _ hq)
    · simp only [put, h, if_false] at hq
      rcases List.mem_cons.1 hq with hq | hq
      · exact .inr (hq ▸ List.mem_cons_self)
      · rcases ih q hq with h | h
        · exact .inl h
        · exact .inr (List.mem_cons_of_mem _ h)
theorem may_size {s : ByteArray} (hm : mayB s = true) : s.size ≤ 16 := by
  unfold mayB at hm
  simp only [Bool.and_eq_true, decide_eq_true_eq] at hm
  exact hm.1.1.2
theorem inv_put {F : List (ByteArray × List Int)} (h : Inv F) (s : ByteArray) (b : List Int) : Inv (putF F s b) := by
  unfold putF
  split
  · rename_i he
    unfold putE at he
    split at he
    · rename_i hm
      split at he
      · rename_i hb
        split at he
        · cases he
        · rename_i hl
          refine ⟨nodup_put _ _ _ h.1, ?_, fun q hq => ?_⟩
          · rw [put_length]
            have := h.2.1
            split
            · omega
            · rename_i hn
              have h9 : ¬ 32 ≤ F.length := fun h9 => hl ⟨by simpa using hn, h9⟩
              omega
          · rcases mem_put q hq with rfl | hq
            · exact ⟨hm, hb⟩
            · exact h.2.2 q hq
      · cases he
    · cases he
  · exact h
theorem inv_del {F : List (ByteArray × List Int)} (h : Inv F) (s : ByteArray) : Inv (delF F s) := by
  unfold delF
  split
  · exact ⟨nodup_del _ _ h.1, Nat.le_trans (del_sub F s).length_le h.2.1, fun q hq => h.2.2 q ((del_sub F s).subset hq)⟩
  · exact h
theorem deed_at3 {w : World} {A : Option Addr} {n : Nat} {xs : List (Int × (ByteArray × List Int))} (h : Kd.C kD w A n xs) (i : Int) (h0 : 0 ≤ i) (h1 : i < n) :
    ∃ ad p AB cB, A = some ad ∧ p ∈ xs ∧ w.cell? (ad.add (i.toNat * 3)) = some (.int .i64 p.1) ∧ w.cell? ⟨(ad.add (i.toNat * 3)).block, (ad.add (i.toNat * 3)).off + 1, none⟩ = some (.string p.2.1) ∧
      w.cell? ⟨(ad.add (i.toNat * 3)).block, (ad.add (i.toNat * 3)).off + 2, none⟩ = some (.slice AB p.2.2.length cB) ∧ p.2.2.length ≤ cB ∧ Kd.C (Kd.int .u8) w AB p.2.2.length p.2.2 := by
  obtain ⟨hl, _, hr⟩ := h
  obtain ⟨ad, e, hc⟩ := hr (by omega)
  have hlt : i.toNat < xs.length := by omega
  obtain ⟨c, hs, hK, hcell⟩ := hc i.toNat _ (List.getElem?_eq_getElem hlt)
  obtain ⟨c0, c1, rfl, hk0, d0, d1, rfl, hk1, AB, cB, rfl, hle, hC⟩ := hK
  obtain rfl := hk0
  obtain rfl := hk1
  exact ⟨ad, _, AB, cB, e, List.getElem_mem hlt, by exact hcell 0 _ rfl, by rw [← add_field _ _ 1 (by omega)]; exact hcell 1 _ rfl, by rw [← add_field _ _ 2 (by omega)]; exact hcell 2 _ rfl, hle, hC⟩
theorem wp_abs {P : Program} {c : Code} {Q : Exit → Act → World → Prop} {a : Act} {w : World} (F : World → Prop) (hF : F w) (h : ∀ W, F W → c.wp P Q a W) : c.wp P Q a w := h w hF
/-- A block of the call's own. -/
def ABlk (b : Nat) (o : Obj) : Asn where
  P := fun w D => w.heap[b]? = some o ∧ D b
  mono := fun hd h => ⟨h.1, hd _ h.2⟩
  bound := fun h => ⟨h.1, h.2, (Array.getElem?_eq_some_iff.1 h.1).1⟩
  move := fun hm h => ⟨(hm _ h.2).trans h.1, h.2⟩
theorem blk_new {w0 W : World} {l : List Asn} (h : Sat w0 W l) (o : Obj) : Sat w0 (W.alloc o) (ABlk W.heap.size o :: l) :=
  h.new (A := ABlk W.heap.size o) (below_alloc (Below.refl _ _) o) (D := fun k => W.heap.size ≤ k) ⟨(MapKept.heap_alloc W o).1, Nat.le_refl _⟩ (fun _ hk => hk)
theorem blk_at {w0 W : World} {l : List Asn} {b : Nat} {o : Obj} (h : Sat w0 W (ABlk b o :: l)) : W.heap[b]? = some o := by
  obtain ⟨D, h1, _⟩ := h.head
  exact h1.1
/-- Names that rise, as the walk compares them. -/
def RisB (xs : List ByteArray) : Prop := ∀ j : Nat, j + 1 < xs.length → Op.bytesLess (rdOf ByteArray.empty xs ((j : Int) + 1)).toList (rdOf ByteArray.empty xs (j : Int)).toList = false ∧ ((rdOf ByteArray.empty xs ((j : Int) + 1)).toList == (rdOf ByteArray.empty xs (j : Int)).toList) = false
theorem risB_of {ns : List (List UInt8)} (h : Rising ns) : RisB (ns.map (fun b : List UInt8 => (⟨b.toArray⟩ : ByteArray))) := by
  intro j hj
  have hj' : j + 1 < ns.length := by simpa using hj
  have hlt : ns[j] < ns[j + 1] := List.pairwise_iff_getElem.1 h j (j + 1) (by omega) hj' (by omega)
  have e1 : (rdOf ByteArray.empty (ns.map (fun b : List UInt8 => (⟨b.toArray⟩ : ByteArray))) ((j : Int) + 1)).toList = ns[j + 1] := by
    unfold rdOf
    rw [show ((j : Int) + 1).toNat = j + 1 by omega, List.getD_eq_getElem?_getD, List.getElem?_map, List.getElem?_eq_getElem hj', ByteArray.toList_eq]
    rfl
  have e2 : (rdOf ByteArray.empty (ns.map (fun b : List UInt8 => (⟨b.toArray⟩ : ByteArray))) (j : Int)).toList = ns[j] := by
    unfold rdOf
    rw [Int.toNat_natCast, List.getD_eq_getElem?_getD, List.getElem?_map, List.getElem?_eq_getElem (show j < ns.length by omega), ByteArray.toList_eq]
    rfl
  rw [e1, e2, bytesLess_eq]
  exact ⟨decide_eq_false (List.lt_asymm hlt), by simpa using fun e => by rw [e] at hlt; exact List.lt_irrefl _ hlt⟩
theorem look_at : ∀ {F : List (ByteArray × List Int)} {j : Nat} {s : ByteArray} {b : List Int}, (keys F).Nodup → F[j]? = some (s, b) → lookM F s = some b
  | [], _, _, _, _, h => by simp at h
  | p :: F, 0, s, b, _, h => by
    simp only [List.getElem?_cons_zero, Option.some.injEq] at h
    subst h
    simp [lookM]
  | p :: F, j + 1, s, b, hn, h => by
    simp only [List.getElem?_cons_succ] at h
    have hn' := List.nodup_cons.1 (show (p.1 :: keys F).Nodup from hn)
    have hne : p.1 ≠ s := fun e => hn'.1 (e ▸ List.mem_map.2 ⟨(s, b), List.mem_of_getElem? h, rfl⟩)
    simp only [lookM, hne, if_false]
    exact look_at hn'.2 h
theorem doc_new {w0 W : World} {l : List Asn} (h : Sat w0 W l) : Sat w0 (W.alloc (.cells #[.slice none 0 0] 40)) (ADoc w0.heap.size W.heap.size [] :: l) :=
  h.new (A := ADoc w0.heap.size W.heap.size []) (below_alloc (Below.refl _ _) _) (D := fun k => W.heap.size ≤ k) ⟨.slice none 0 0, (heap_alloc W _).1, Nat.le_refl _, Kd.N_nil _ _ _ _ _, by decide⟩ (fun _ hk => hk)
set_option maxRecDepth 100000 in
set_option maxHeartbeats 8000000 in
theorem FilesPlay_calls (A0 : Option Addr) (c0 : Nat) (l : List (Int × (ByteArray × List Int))) (w : World) (hr0 : Kd.C kD w A0 l.length l) :
    Calls Try.prog 4 #[.slice A0 l.length c0] w fun e w' => e = .returned (.bool true) ∧ Below w.heap.size w w' := by
  have HR := Aside0.mk hr0
  clear hr0
  go_enter Try.func4, Try.ntmps4
  go_wp2_with fail
  refine (up_calls w).mono ?_
  rintro e1 w1 ⟨rfl, hb1⟩
  go_wp2_with fail
  refine (New_calls ((Sat.start w).below hb1)).mono ?_
  rintro e2 w2 ⟨g, rfl, hS2⟩
  have HS2 := Aside0.mk hS2
  clear hS2 hb1
  rcases Nat.lt_or_ge 120 l.length with h120 | h120
  · have p1 : (120 < (l.length : Int)) = True := eq_true (by omega)
    have p2 : decide (120 < (l.length : Int)) = true := decide_eq_true (by omega)
    clear h120
    go_wp2_with fail
    go_ret
    exact ⟨rfl, HS2.out.toBelow⟩
  have p1 : (120 < (l.length : Int)) = False := eq_false (by omega)
  have p2 : decide (120 < (l.length : Int)) = false := decide_eq_false (by omega)
  have HN := Aside0.mk h120
  clear h120
  go_wp2_with fail
  have HS3 := Aside0.mk (doc_new HS2.out).swap
  clear HS2 p1 p2
  obtain ⟨p, hp⟩ : ∃ p, p = w2.heap.size := ⟨_, rfl⟩
  rw [← hp] at HS3
  rw [← hp]
  clear hp
  go_loopg [6] (l.length + 1) (fun kq v6 w' => ∃ (i : Nat) (F : List (ByteArray × List Int)), v6 = .int .i64 i ∧ Aside0 (i ≤ l.length ∧ l.length - i < kq) ∧ Aside0 (Inv F) ∧ Aside0 (Sat w w' [AFiles g F, ADoc w.heap.size p (F.map toF)]))
  case atStart => exact ⟨0, [], rfl, ⟨by omega⟩, ⟨inv_nil⟩, HS3⟩
  case round =>
    clear HS3
    obtain ⟨gk1, rfl⟩ : ∃ x, x = gk := ⟨gk, rfl⟩
    obtain ⟨i, F, rfl, Hi, HI, HS4⟩ := hrel
    by_cases hlt : i < l.length
    · obtain ⟨ad, x, AB, cB, rfl, hx, x0, x1, x2, hcB, hB⟩ := deed_at3 HR.out (i : Int) (by omega) (by omega)
      replace x0 := pw_cell_below HS4.out.toBelow x0
      replace x1 := pw_cell_below HS4.out.toBelow x1
      replace x2 := pw_cell_below HS4.out.toBelow x2
      simp only [Int.toNat_natCast] at x0 x1 x2
      have HB := Aside0.mk (And.intro hB hcB)
      have q1 : (i < l.length) = True := eq_true hlt
      have q8 : 0 ≤ (i : Int) := by omega
      have q9 : (i : Int) ≤ 1000 := by have := HN.out; omega
      clear hlt hB hcB
      go_upto_region 10 with (fail)
      refine wp_abs (fun W => Sat w W [AFiles g F, ADoc w.heap.size p (F.map toF), ABlk wr.heap.size (.cells #[.int .i64 x.1, .string x.2.1, .slice AB x.2.2.length cB] 32)]) (Sat.push (l1 := [_, _]) (blk_new HS4.out _)) (fun W hW => ?_)
      have hb := blk_at (Sat.pull (l1 := [_, _]) hW)
      have y0 : W.cell? ⟨wr.heap.size, 0, none⟩ = some (.int .i64 x.1) := get_cell hb 0
      have y1 : W.cell? ⟨wr.heap.size, 1, none⟩ = some (.string x.2.1) := get_cell hb 1
      have y2 : W.cell? ⟨wr.heap.size, 2, none⟩ = some (.slice AB x.2.2.length cB) := get_cell hb 2
      have HW := Aside0.mk hW
      clear hW hb x0 x1 x2 HS4
      by_cases h100 : 100 < (x.2.1.size : Int)
      · have d1 : decide (100 < (x.2.1.size : Int)) = true := decide_eq_true h100
        clear h100
        go_wp2_with fail
        go_ret
        exact ⟨rfl, HW.out.toBelow⟩
      by_cases h5000 : 5000 < (x.2.2.length : Int)
      · have d1 : decide (100 < (x.2.1.size : Int)) = false := decide_eq_false h100
        have d2 : decide (5000 < (x.2.2.length : Int)) = true := decide_eq_true h5000
        clear h100 h5000
        go_wp2_with fail
        go_ret
        exact ⟨rfl, HW.out.toBelow⟩
      have d1 : decide (100 < (x.2.1.size : Int)) = false := decide_eq_false h100
      have d2 : decide (5000 < (x.2.2.length : Int)) = false := decide_eq_false h5000
      have HXL := Aside0.mk (show x.2.1.size ≤ 100 ∧ x.2.2.length ≤ 5000 by omega)
      clear h100 h5000
      obtain ⟨r, hr⟩ := Pick3_calls x.1 W
      go_wp2_with fail
      (with_reducible refine hr.mono ?_)
      clear hr
      rintro e3 w3 ⟨rfl, hd3⟩
      have HX := Aside0.mk (HW.out.drawn hd3)
      clear hd3 HW y0 y1 y2
      have hb := blk_at (Sat.pull (l1 := [_, _]) HX.out)
      have y1 : w3.cell? ⟨wr.heap.size, 1, none⟩ = some (.string x.2.1) := get_cell hb 1
      have y2 : w3.cell? ⟨wr.heap.size, 2, none⟩ = some (.slice AB x.2.2.length cB) := get_cell hb 2
      clear hb d1 d2
      by_cases hr2 : r = 2
      · have e2 : (r == 2) = true := by simpa using hr2
        clear hr2
        go_wp2_with fail
        replace HX := Aside0.mk HX.out.drew
        go_region_law (first
          | (go_simp; go_at_call 11; have hq := Delete_calls HX.out x.2.1 (by have := HXL.out; omega); (with_reducible refine hq.mono ?_); clear hq; rintro e5 w5 ⟨rfl, hS5⟩; replace HX := Aside0.mk hS5; clear hS5; have y5 : w5.cell? ⟨wr.heap.size, 1, none⟩ = some (.string x.2.1) := get_cell (blk_at (Sat.pull (l1 := [_, _]) HX.out)) 1)
          | (go_simp; go_at_call 13; (with_reducible refine (Code_calls (thereE F x.2.1) (thereE_range F x.2.1) _).mono ?_); rintro e6 w6 ⟨rfl, hb6⟩; replace HX := Aside0.mk (HX.out.below hb6); clear hb6; have y6 : w6.cell? ⟨wr.heap.size, 1, none⟩ = some (.string x.2.1) := get_cell (blk_at (Sat.pull (l1 := [_, _]) HX.out)) 1)
          | (go_simp; go_at_call 14; have hq := DocDelete_calls HX.out.swap x.2.1 (by have := HXL.out; omega); (with_reducible refine hq.mono ?_); clear hq; rintro e7 w7 ⟨rfl, hS7⟩; replace HX := Aside0.mk hS7.swap; clear hS7; have y7 : w7.cell? ⟨wr.heap.size, 1, none⟩ = some (.string x.2.1) := get_cell (blk_at (Sat.pull (l1 := [_, _]) HX.out)) 1))
        all_goals go_wp2
        all_goals (
          go_roundg (gk1 - 1)
          case measure => have := Hi.out; have := of_eq_true q1; omega
          case rel => exact ⟨i + 1, _, by go_num, ⟨by have := Hi.out; have := of_eq_true q1; omega⟩, ⟨inv_del HI.out x.2.1⟩, ⟨(Sat.pull (l1 := [_, _]) HX.out).drop⟩⟩)
      · have e2 : (r == 2) = false := by simpa using hr2
        clear hr2
        go_wp2_with fail
        replace HX := Aside0.mk HX.out.drew
        go_region_law (first
          | (go_simp; go_at_call 9; have hq := Put_calls HX.out x.2.1 (by have := HXL.out; omega) AB cB x.2.2 (Kd.C_below HB.out.1 HX.out.toBelow) HB.out.2 (by have := HXL.out; omega); (with_reducible refine hq.mono ?_); clear hq; rintro e5 w5 ⟨rfl, hS5⟩; replace HX := Aside0.mk hS5; clear hS5; have y5 : w5.cell? ⟨wr.heap.size, 1, none⟩ = some (.string x.2.1) := get_cell (blk_at (Sat.pull (l1 := [_, _]) HX.out)) 1; have z5 : w5.cell? ⟨wr.heap.size, 2, none⟩ = some (.slice AB x.2.2.length cB) := get_cell (blk_at (Sat.pull (l1 := [_, _]) HX.out)) 2)
          | (go_simp; go_at_call 13; (with_reducible refine (Code_calls (putE F x.2.1 x.2.2) (putE_range F x.2.1 x.2.2) _).mono ?_); rintro e6 w6 ⟨rfl, hb6⟩; replace HX := Aside0.mk (HX.out.below hb6); clear hb6; have y6 : w6.cell? ⟨wr.heap.size, 1, none⟩ = some (.string x.2.1) := get_cell (blk_at (Sat.pull (l1 := [_, _]) HX.out)) 1; have z6 : w6.cell? ⟨wr.heap.size, 2, none⟩ = some (.slice AB x.2.2.length cB) := get_cell (blk_at (Sat.pull (l1 := [_, _]) HX.out)) 2)
          | (go_simp; go_at_call 15; have hq := DocPut_calls HX.out.swap x.2.1 (by have := HXL.out; omega) AB cB x.2.2 (Kd.C_below HB.out.1 HX.out.toBelow) HB.out.2 (by have := HXL.out; omega); (with_reducible refine hq.mono ?_); clear hq; rintro e7 w7 ⟨rfl, hS7⟩; replace HX := Aside0.mk hS7.swap; clear hS7; have y7 : w7.cell? ⟨wr.heap.size, 1, none⟩ = some (.string x.2.1) := get_cell (blk_at (Sat.pull (l1 := [_, _]) HX.out)) 1; have z7 : w7.cell? ⟨wr.heap.size, 2, none⟩ = some (.slice AB x.2.2.length cB) := get_cell (blk_at (Sat.pull (l1 := [_, _]) HX.out)) 2))
        all_goals go_wp2
        all_goals (
          go_roundg (gk1 - 1)
          case measure => have := Hi.out; have := of_eq_true q1; omega
          case rel => exact ⟨i + 1, _, by go_num, ⟨by have := Hi.out; have := of_eq_true q1; omega⟩, ⟨inv_put HI.out x.2.1 x.2.2⟩, ⟨(Sat.pull (l1 := [_, _]) HX.out).drop⟩⟩)
    · have d1 : (i < l.length) = False := eq_false hlt
      have HF := Aside0.mk (show ∀ q ∈ F, q.1.size ≤ 1000 from fun q hq => by have := may_size (HI.out.2.2 q hq).1; omega)
      clear hlt
      go_wp2_with fail
      have hq := Names_calls HS4.out HF.out (by have := HI.out.2.1; omega) HI.out.1
      (with_reducible refine hq.mono ?_)
      clear hq
      rintro e3 w3 ⟨v, ns, rfl, hris, hnl, hown, hb3⟩
      obtain ⟨xs, hxs⟩ : ∃ xs, xs = ns.map (fun b : List UInt8 => (⟨b.toArray⟩ : ByteArray)) := ⟨_, rfl⟩
      have hxl : xs.length = F.length := by rw [hxs, List.length_map, hnl]
      have hR : Kd.string.R 9 w3 wr.heap.size (fun _ => True) v xs := by
        refine Kd.R_of_own (h1 := fun _ => rfl) ?_ (fun _ _ => trivial)
        have e : encs Value.string xs = ns.map encStr := by rw [hxs]; simp [encs, encStr]
        rw [e, hxs, List.length_map]
        exact hown
      have HRI := Aside0.mk (show RisB xs from by rw [hxs]; exact risB_of hris)
      have HS5 := Aside0.mk (HS4.out.newRow hb3 hR HS4.out.size)
      obtain ⟨A8, c8, e8, hl8, hC8⟩ := Kd.R_reads hR
      subst e8
      obtain ⟨A9, c9, hg9, hC9, hl9, h329⟩ := doc_open (Sat.pull (l1 := [_, _]) HS5.out)
      rw [List.length_map] at hg9 hC9 hl9 h329
      have s0 : w3.cell? ⟨p, 0, none⟩ = some (.slice A9 F.length c9) := get_cell hg9 0
      have HC8 := Aside0.mk hC8
      have HXL := Aside0.mk hxl
      rw [hxl]
      rw [hxl] at HS5
      clear hris hnl hown hb3 hR hxs HS4 HF Hi d1 hl8 hC8 hg9 hC9 hl9 hxl
      go_wp2_with fail
      clear s0
      go_loopg [9] (F.length + 1) (fun kq v9 w' => ∃ j : Nat, v9 = .int .i64 j ∧ Aside0 (j ≤ F.length ∧ F.length - j < kq) ∧ Aside0 (Drawn0 w3 w'))
      case atStart => exact ⟨0, rfl, ⟨by omega⟩, ⟨Drawn0.refl _⟩⟩
      case round =>
        obtain ⟨gk2, rfl⟩ : ∃ x, x = gk := ⟨gk, rfl⟩
        obtain ⟨j, rfl, Hj, HD⟩ := hrel
        by_cases hlt : j < F.length
        · have q1 : (j < F.length) = True := eq_true hlt
          have q9 : (j : Int) ≤ 1000 := by omega
          have q8 : 0 ≤ (j : Int) := by omega
          by_cases hj0 : j = 0
          · subst hj0
            have HQ := Aside0.mk hlt
            clear hlt
            go_wp2_with fail
            go_quiet (fail)
            go_wp2_with fail
            go_roundg (gk2 - 1)
            case measure => have := Hj.out; have := HQ.out; omega
            case rel => exact ⟨1, by go_num, ⟨by have := Hj.out; have := HQ.out; omega⟩, ⟨HD.out.step _⟩⟩
          · obtain ⟨k, rfl⟩ : ∃ k, j = k + 1 := ⟨j - 1, by omega⟩
            obtain ⟨ad, rfl, x1⟩ := Kd.at_string (Kd.C_below HC8.out HD.out.below) ((k : Int) + 1) (by omega) (by have := HXL.out; omega)
            obtain ⟨ad', e', x2⟩ := Kd.at_string (Kd.C_below HC8.out HD.out.below) (k : Int) (by omega) (by have := HXL.out; omega)
            injection e' with e'
            subst e'
            rw [show ((k : Int) + 1).toNat = k + 1 by omega, show ad.add (k + 1) = ⟨ad.block, ad.off + (k + 1), none⟩ from by simp [Addr.add]] at x1
            rw [Int.toNat_natCast] at x2
            obtain ⟨r1, r2⟩ := HRI.out k (by have := HXL.out; omega)
            have HQ := Aside0.mk hlt
            have t1 : 0 ≤ (k : Int) + 1 := by omega
            have t2 : (k : Int) + 1 < F.length := by omega
            have t3 : ((k : Int) + 1).toNat = k + 1 := by omega
            have t4 : (0 : Int) < (k : Int) + 1 := by omega
            have t5 : (k : Int) < F.length := by omega
            have t6 : 0 ≤ (k : Int) := by omega
            have t7 : decide ((0 : Int) < (k : Int) + 1) = true := decide_eq_true (by omega)
            have t8 : IntKind.i64.wrap ((k : Int) + 1 - 1) = k := by rw [show (k : Int) + 1 - 1 = k by omega]; exact wrap_ok (by omega) (by omega)
            clear hlt hj0
            go_wp2_with fail
            go_quiet (fail)
            go_wp2_with fail
            go_roundg (gk2 - 1)
            case measure => have := Hj.out; have := HQ.out; omega
            case rel => exact ⟨k + 1 + 1, by go_num, ⟨by have := Hj.out; have := HQ.out; omega⟩, ⟨HD.out.step _⟩⟩
        · have d1 : (j < F.length) = False := eq_false hlt
          have HS6 := Aside0.mk ((HS5.out.drawn HD.out).drop)
          clear hlt HS5 HRI HC8 Hj HD
          go_wp2_with fail
          go_loopg [10] (F.length + 1) (fun kq v10 w' => ∃ j : Nat, v10 = .int .i64 j ∧ Aside0 (j ≤ F.length ∧ F.length - j < kq) ∧ Aside0 (Sat w w' [AFiles g F, ADoc w.heap.size p (F.map toF)]))
          case atStart => exact ⟨0, rfl, ⟨by omega⟩, HS6⟩
          case round =>
            clear HS6
            obtain ⟨gk3, rfl⟩ : ∃ x, x = gk := ⟨gk, rfl⟩
            obtain ⟨j, rfl, Hj, HS7⟩ := hrel
            obtain ⟨A9, c9, hg9, hC9, hl9, h329⟩ := doc_open HS7.out.swap
            rw [List.length_map] at hg9 hC9 hl9 h329
            have s0 : wr.cell? ⟨p, 0, none⟩ = some (.slice A9 F.length c9) := get_cell hg9 0
            by_cases hlt : j < F.length
            · obtain ⟨ad, A1, c1, rfl, x0, x1, hlb, hCb⟩ := at_T48 hC9 (j : Int) (by omega) (by omega)
              simp only [Int.toNat_natCast] at x0 x1 hlb hCb
              have hget : F[j]? = some ((rd_T48 (F.map toF) (j : Int)).f0, (rd_T48 (F.map toF) (j : Int)).f1) := by
                have h1 : (F.map toF)[j]? = some (rd_T48 (F.map toF) (j : Int)) := by
                  unfold rd_T48
                  rw [Int.toNat_natCast, List.getD_eq_getElem?_getD, List.getElem?_eq_getElem (by rw [List.length_map]; exact hlt)]; rfl
                rw [List.getElem?_map, List.getElem?_eq_getElem hlt] at h1
                injection h1 with h1
                rw [List.getElem?_eq_getElem hlt, ← h1]; rfl
              generalize hf : rd_T48 (F.map toF) (j : Int) = f at *
              have HFE := Aside0.mk hf
              have HX := Aside0.mk (HI.out.2.2 _ (List.mem_of_getElem? hget))
              have HLK := Aside0.mk (look_at HI.out.1 hget)
              have HB := Aside0.mk (And.intro hCb hlb)
              have q1 : (j < F.length) = True := eq_true hlt
              have q9 : (j : Int) ≤ 1000 := by omega
              have q8 : 0 ≤ (j : Int) := by omega
              have HQ := Aside0.mk hlt
              clear hlt hg9 hC9 hl9 h329 hlb hCb hget hf
              go_wp2_with fail
              have hq := Get_calls HS7.out f.f0 (by have := may_size HX.out.1; omega) (fun bs h => by rw [HLK.out] at h; injection h with h; subst h; have := HX.out.2; omega)
              (with_reducible refine hq.mono ?_)
              clear hq
              rintro e4 w4 ⟨_, h4⟩
              obtain ⟨bs, v4, hbs, rfl, hS8⟩ := h4 (show thereE F f.f0 = none by unfold thereE; rw [HX.out.1, HLK.out]; rfl)
              rw [HLK.out] at hbs
              injection hbs with hbs
              subst hbs
              clear h4
              obtain ⟨A4, c4, rfl, hl4, hC4, _⟩ := row_string hS8
              obtain ⟨A9, c9, hg9, hC9, _, _⟩ := doc_open (hS8.drop).swap
              rw [List.length_map] at hg9 hC9
              have s0 : w4.cell? ⟨p, 0, none⟩ = some (.slice A9 F.length c9) := get_cell hg9 0
              obtain ⟨ad, A1, c1, rfl, x0, x1, hlb, hCb⟩ := at_T48 hC9 (j : Int) (by omega) (by have := HQ.out; omega)
              simp only [Int.toNat_natCast] at x0 x1 hlb hCb
              rw [HFE.out] at x0 x1 hlb hCb
              have hcv1 : ∀ n, (convert 23 9 (.slice A4 f.f1.length c4)).run Try.prog (w4.drewN n) = .ok (.string (strOfNums f.f1)) (w4.drewN n) := fun n => Kd.C_string Try.underlying23 Try.underlying5 Try.underlying9 (Kd.C_drewN hC4 n)
              have hcv2 : ∀ n, (convert 23 9 (.slice A1 f.f1.length c1)).run Try.prog (w4.drewN n) = .ok (.string (strOfNums f.f1)) (w4.drewN n) := fun n => Kd.C_string Try.underlying23 Try.underlying5 Try.underlying9 (Kd.C_drewN hCb n)
              have HS9 := Aside0.mk hS8.drop
              rw [show errV none = .nilIface from rfl]
              clear hl4 hC4 hS8 hlb hCb hg9 hC9
              go_wp2_with fail
              go_quiet (fail)
              go_wp2_with fail
              go_roundg (gk3 - 1)
              case measure => have := Hj.out; have := HQ.out; omega
              case rel => exact ⟨j + 1, by go_num, ⟨by have := Hj.out; have := HQ.out; omega⟩, ⟨HS9.out.drewN _⟩⟩
            · have d1 : (j < F.length) = False := eq_false hlt
              clear hlt hg9 hC9 hl9 h329
              go_wp2_with fail
              go_ret
              exact ⟨rfl, HS7.out.toBelow⟩
end Go.Proofs.Ytlgfdokdckaejaa.MineFilesPlay
