/- Files: all names, in rising order. Conditions: the names are short, no name comes twice. -/
import Derived.Test.YtlgfdokdckaejaaMineIter
import Derived.Test.YtlgfdokdckaejaaMineFilesPlayE
namespace Go.Proofs.Ytlgfdokdckaejaa.MineFilesPlay
open Go.RowKit Go.MapKept Go.Maps Go.Proofs.YtlgfdokdckaejaaW.PrintWords Go.Proofs.YtlgfdokdckaejaaW.PrintLast Go.Proofs.Ytlgfdokdckaejaa.MineBase Go.Proofs.Ytlgfdokdckaejaa.MineSep Go.Proofs.Ytlgfdokdckaejaa.MineRows Go.Proofs.Ytlgfdokdckaejaa.QFilesPlay
open Go.Proofs.Ytlgfdokdckaejaa.MineMap (lookM put del keys EsOf)
open Go.Proofs.Ytlgfdokdckaejaa.MineFiles (mayB putE putF thereE delF AFiles FilesP Ents)
open Go.Proofs.Ytlgfdokdckaejaa.MineTab (ret_eq)
set_option linter.unusedVariables false
set_option linter.unusedSimpArgs false
def anyR : Value → Option (DataW Unit × List MemPlace) := fun _ => some (.nil, [])
theorem read_str {x : MapEntry} {s : ByteArray} (h : x.key = .string s) (hs : s.size ≤ maxLen) : WideElems.rd Try.prog 9 anyR x = some (.string s.data.toList, .nil) := by
  unfold WideElems.rd
  rw [h]
  have : keyOf Try.prog 9 (.string s) = some (.string s.data.toList) := by simp [keyOf, Try.underlying9, mapKey, hs]
  rw [this]
  rfl
theorem ents_keys {w : World} {D : Nat → Prop} : ∀ {G : List (ByteArray × Value)} {F : List (ByteArray × List Int)}, Ents w D G F → keys G = keys F
  | [], [], _ => rfl
  | p :: G, q :: F, ⟨h1, _, h3⟩ => by show p.1 :: keys G = q.1 :: keys F; rw [h1, ents_keys h3]
  | [], _ :: _, h => h.elim
  | _ :: _, [], h => h.elim
/-- The map of the files, as the library's contract wants it. -/
theorem files_map {g : Nat} {F : List (ByteArray × List Int)} {w : World} {D : Nat → Prop} (h : FilesP g F w D) (hs : ∀ q ∈ F, q.1.size ≤ 1000) (hl : F.length ≤ 1000) (hnd : (keys F).Nodup) :
    ∃ m D0, w.cell? ⟨g, 0, none⟩ = some (.map (some m)) ∧ w.ownsMap (H := Unit) Try.prog 9 anyR m F.length D0 ∧ Maps.size D0 = F.length ∧ (strKeys D0).Nodup ∧ (strKeys D0).length = F.length := by
  obtain ⟨m, G, es, clock, h1, h2, h3, h4, h5, h6, h7, h8⟩ := h
  have h6' : es.toList.map (fun e => (e.key, e.val)) = G.map (fun p => (Value.string p.1, p.2)) := h6
  have hlen : es.size = F.length := by
    have := congrArg List.length h6'
    rw [List.length_map, List.length_map, h7.len, Array.length_toList] at this
    exact this
  have hkey : ∀ x ∈ es.toList, ∃ s : ByteArray, x.key = .string s ∧ s.size ≤ maxLen := fun x hx => by
    have h9 : (x.key, x.val) ∈ es.toList.map (fun e => (e.key, e.val)) := List.mem_map.2 ⟨x, hx, rfl⟩
    rw [h6'] at h9
    obtain ⟨p, hp, hpe⟩ := List.mem_map.1 h9
    injection hpe with hpe _
    refine ⟨p.1, hpe.symm, ?_⟩
    have : p.1 ∈ keys F := by rw [← ents_keys h7]; exact List.mem_map.2 ⟨p, hp, rfl⟩
    obtain ⟨q, hq, hqe⟩ := List.mem_map.1 this
    have := hs q hq
    have e : q.1 = p.1 := hqe
    rw [e] at this
    unfold maxLen; omega
  have hfit : WideElems.Fit Try.prog 9 anyR es clock := ⟨by unfold maxLen; omega, h8, fun x hx => by
    obtain ⟨s, hs1, hs2⟩ := hkey x hx
    exact ⟨_, read_str hs1 hs2⟩⟩
  have hstr : es.toList.map (fun x => strOf (WideElems.rg Try.prog 9 anyR x).1) = (keys F).map (fun s : ByteArray => s.data.toList) := by
    have e1 : es.toList.map (fun x => strOf (WideElems.rg Try.prog 9 anyR x).1) = (es.toList.map (fun e => (e.key, e.val))).map (fun p => match p.1 with | .string s => s.data.toList | _ => []) := by
      rw [List.map_map]
      refine List.map_congr_left fun x hx => ?_
      obtain ⟨s, hs1, hs2⟩ := hkey x hx
      simp [WideElems.rg, read_str hs1 hs2, hs1, strOf]
    rw [e1, h6', ← ents_keys h7]
    simp [keys]
  have hp : (strKeys (.map ((es.toList.map (WideElems.rg Try.prog 9 anyR)).foldr DataW.insert []))).Perm ((keys F).map (fun s : ByteArray => s.data.toList)) := by
    show (((es.toList.map (WideElems.rg Try.prog 9 anyR)).foldr DataW.insert []).map fun p => strOf p.1).Perm _
    have := (Go.WideShapes.sorted_perm (es.toList.map (WideElems.rg Try.prog 9 anyR))).map (fun p : Lit × DataW Unit => strOf p.1)
    have h9 : (es.toList.map (WideElems.rg Try.prog 9 anyR)).map (fun p : Lit × DataW Unit => strOf p.1) = es.toList.map (fun x => strOf (WideElems.rg Try.prog 9 anyR x).1) := by simp only [List.map_map, Function.comp_def]
    rw [h9, hstr] at this
    exact this
  refine ⟨m, _, by have := get_cell h1 0; simpa using this, ⟨es, clock, h2, hfit, Nat.le_of_eq hlen, rfl⟩, ?_, ?_, ?_⟩
  · show ((es.toList.map (WideElems.rg Try.prog 9 anyR)).foldr DataW.insert []).length = _
    rw [length_sorted, List.length_map, Array.length_toList, hlen]
  · refine hp.nodup_iff.2 ?_
    refine List.Pairwise.map _ (fun a b hne e => hne ?_) hnd
    cases a; cases b
    simp only [ByteArray.mk.injEq]
    exact Array.toList_inj.1 e
  · rw [hp.length_eq, List.length_map]; exact List.length_map _
/-- Names that rise. -/
def Rising (l : List (List UInt8)) : Prop := l.Pairwise (fun x y => x < y)
theorem rising_sort {ss : List (List UInt8)} (h : ss.Nodup) : Rising (ss.mergeSort (fun x y => decide (x ≤ y))) := by
  have tr : ∀ a b c : List UInt8, decide (a ≤ b) = true → decide (b ≤ c) = true → decide (a ≤ c) = true := fun a b c h1 h2 => by simp only [decide_eq_true_eq] at *; exact List.le_trans h1 h2
  have tot : ∀ a b : List UInt8, (decide (a ≤ b) || decide (b ≤ a)) = true := fun a b => by simp only [Bool.or_eq_true, decide_eq_true_eq]; exact List.le_total a b
  have h1 := List.pairwise_mergeSort tr tot ss
  have h2 : (ss.mergeSort (fun x y => decide (x ≤ y))).Nodup := (List.mergeSort_perm ss _).nodup_iff.2 h
  refine (h1.and h2).imp fun {a b} hab => ?_
  have h3 : a ≤ b := by simpa using hab.1
  exact (List.le_iff_lt_or_eq.1 h3).resolve_right hab.2
set_option maxHeartbeats 1000000 in
set_option maxRecDepth 100000 in
theorem Names_calls {w0 w : World} {l : List Asn} {g : Nat} {F : List (ByteArray × List Int)} (HS : Sat w0 w (AFiles g F :: l)) (hs : ∀ q ∈ F, q.1.size ≤ 1000) (hl : F.length ≤ 1000) (hnd : (keys F).Nodup) :
    Calls Try.prog 16 #[.pointer (some ⟨g, 0, none⟩)] w fun e w' => ∃ v ns, e = .returned v ∧ Rising ns ∧ ns.length = F.length ∧ w'.ownsRow w.heap.size 9 1 v ns.length (ns.map encStr) ∧ Below w.heap.size w w' := by
  obtain ⟨D, hA, _⟩ := HS.head
  obtain ⟨m, D0, hc, hown, hsz, hnk, hlk⟩ := files_map hA hs hl hnd
  have HO := Aside0.mk (And.intro hown (And.intro hsz (And.intro hnk (And.intro hlk hl))))
  clear hA hown hsz hnk hlk hl HS
  refine (callsIn_wide (n := 6)).1 ?_
  have hfK : Fence.wide.fn 35 := trivial
  have hfS : Fence.wide.fn 34 := trivial
  refine callsIn_of_wp Try.func16 rfl trivial ?_ rfl
  simp only [Try.ntmps16, List.size_toArray, List.length_cons, List.length_nil, Nat.reduceAdd, Nat.reduceSub, Array.replicate_succ, Array.replicate_zero, List.push_toArray, List.append_toArray, List.nil_append, List.cons_append]
  gi_wp2_with (first
    | (gi_at_call 35; refine (Try.maps_Keys_35 _ _).mono ?_; rintro e w' ⟨rfl, rfl⟩)
    | (gi_at_call 34; refine (Try.slices_Sorted_keys_34_35 m F.length D0 anyR w HO.out.1 (by have h1 := HO.out.2.1; have h2 := HO.out.2.2.2.2; unfold maxLen; omega) (by have h1 := HO.out.2.1; have h2 := HO.out.2.2.2.2; omega)).mono ?_; rintro e w' ⟨v, ss, rfl, hS, hrow, hnil, hb⟩))
  go_ret
  refine ⟨v, _, rfl, rising_sort (hS.nodup_iff.2 HO.out.2.2.1), ?_, ?_, ((Below.refl _ w).alloc (Nat.le_refl _) _).trans (hb.mono (by simp))⟩
  · rw [(List.mergeSort_perm ss _).length_eq, hS.length_eq, HO.out.2.2.2.1]
  · rw [(List.mergeSort_perm ss _).length_eq]
    exact ownsRow_base_a hrow (by simp)
end Go.Proofs.Ytlgfdokdckaejaa.MineFilesPlay
