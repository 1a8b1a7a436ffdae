/- A map whose entries are known, in order: what looking up, putting, deleting and counting do to it; plain facts, used by this seat's walks. Conditions: the keys are texts, or whole numbers of one kind. -/
import Derived.Test.YtkeijpngfnmjoaaMineSep
import Derived.Maps.Own
namespace Go.Proofs.Ytkeijpngfnmjoaa.MineMap
open Go.RowKit Go.MapKept Go.Proofs.YtkeijpngfnmjoaaW.PrintWords Go.Proofs.Ytkeijpngfnmjoaa.MineBase Go.Proofs.Ytkeijpngfnmjoaa.MineSep
set_option linter.unusedVariables false
set_option linter.unusedSectionVars false
section
variable {κ β : Type} [DecidableEq κ]
/-- The first entry of a key. -/
def lookM : List (κ × β) → κ → Option β
  | [], _ => none
  | p :: l, k => if p.1 = k then some p.2 else lookM l k
def put : List (κ × β) → κ → β → List (κ × β)
  | [], k, v => [(k, v)]
  | p :: l, k, v => if p.1 = k then (k, v) :: l else p :: put l k v
def del : List (κ × β) → κ → List (κ × β)
  | [], _ => []
  | p :: l, k => if p.1 = k then l else p :: del l k
def keys (l : List (κ × β)) : List κ := l.map (·.1)
theorem look_put_same : ∀ (l : List (κ × β)) (k : κ) (v : β), lookM (put l k v) k = some v
  | [], k, v => by simp [put, lookM]
  | p :: l, k, v => by
    by_cases h : p.1 = k
    · simp [put, lookM, h]
    · simp [put, lookM, h, look_put_same l k v]
theorem look_put_other : ∀ (l : List (κ × β)) (k k' : κ) (v : β), k' ≠ k → lookM (put l k v) k' = lookM l k'
  | [], k, k', v, h => by simp [put, lookM, Ne.symm h]
  | p :: l, k, k', v, h => by
    by_cases h1 : p.1 = k
    · simp [put, lookM, h1, Ne.symm h]
    · simp [put, lookM, h1, look_put_other l k k' v h]
theorem mem_keys_put : ∀ (l : List (κ × β)) (k x : κ) (v : β), x ∈ keys (put l k v) → x = k ∨ x ∈ keys l
  | [], k, x, v, h => by simpa [put, keys] using h
  | p :: l, k, x, v, h => by
    by_cases h1 : p.1 = k
    · rw [show put (p :: l) k v = (k, v) :: l from by simp [put, h1]] at h
      rcases List.mem_cons.1 (show x ∈ k :: keys l from h) with h | h
      · exact .inl h
      · exact .inr (List.mem_cons_of_mem _ h)
    · rw [show put (p :: l) k v = p :: put l k v from by simp [put, h1]] at h
      rcases List.mem_cons.1 (show x ∈ p.1 :: keys (put l k v) from h) with h | h
      · exact .inr (h ▸ List.mem_cons_self)
      · rcases mem_keys_put l k x v h with h | h
        · exact .inl h
        · exact .inr (List.mem_cons_of_mem _ h)
theorem nodup_put : ∀ (l : List (κ × β)) (k : κ) (v : β), (keys l).Nodup → (keys (put l k v)).Nodup
  | [], k, v, _ => by simp [put, keys]
  | p :: l, k, v, h => by
    have h' := List.nodup_cons.1 (show (p.1 :: keys l).Nodup from h)
    by_cases h1 : p.1 = k
    · rw [show put (p :: l) k v = (k, v) :: l from by simp [put, h1]]
      exact List.nodup_cons.2 ⟨h1 ▸ h'.1, h'.2⟩
    · rw [show put (p :: l) k v = p :: put l k v from by simp [put, h1]]
      refine List.nodup_cons.2 ⟨fun hm => ?_, nodup_put l k v h'.2⟩
      rcases mem_keys_put l k p.1 v hm with hm | hm
      · exact h1 hm
      · exact h'.1 hm
theorem look_none : ∀ (l : List (κ × β)) (k : κ), k ∉ keys l → lookM l k = none
  | [], _, _ => rfl
  | p :: l, k, h => by
    have h' : k ≠ p.1 ∧ k ∉ keys l := by simpa [keys] using h
    simp [lookM, Ne.symm h'.1, look_none l k h'.2]
theorem look_mem : ∀ (l : List (κ × β)) (k : κ) (v : β), lookM l k = some v → (k, v) ∈ l
  | p :: l, k, v, h => by
    by_cases h1 : p.1 = k
    · simp [lookM, h1] at h
      subst h1 h
      exact List.mem_cons_self
    · simp [lookM, h1] at h
      exact List.mem_cons_of_mem _ (look_mem l k v h)
theorem del_sub : ∀ (l : List (κ × β)) (k : κ), (del l k).Sublist l
  | [], _ => List.Sublist.refl _
  | p :: l, k => by
    by_cases h1 : p.1 = k
    · simp [del, h1]
    · simp [del, h1, del_sub l k]
theorem nodup_del (l : List (κ × β)) (k : κ) (h : (keys l).Nodup) : (keys (del l k)).Nodup := ((del_sub l k).map _).nodup h
theorem look_del_same : ∀ (l : List (κ × β)) (k : κ), (keys l).Nodup → lookM (del l k) k = none
  | [], _, _ => rfl
  | p :: l, k, h => by
    have h' := List.nodup_cons.1 (show (p.1 :: keys l).Nodup from h)
    by_cases h1 : p.1 = k
    · simp only [del, h1, if_true]
      exact look_none l k (h1 ▸ h'.1)
    · simp only [del, h1, if_false, lookM]
      exact look_del_same l k h'.2
theorem look_del_other : ∀ (l : List (κ × β)) (k k' : κ), k' ≠ k → lookM (del l k) k' = lookM l k'
  | [], _, _, _ => rfl
  | p :: l, k, k', h => by
    by_cases h1 : p.1 = k
    · simp [del, lookM, h1, Ne.symm h]
    · simp [del, lookM, h1, look_del_other l k k' h]
theorem put_length (l : List (κ × β)) (k : κ) (v : β) : (put l k v).length = l.length + if (lookM l k).isSome then 0 else 1 := by
  induction l with
  | nil => simp [put, lookM]
  | cons p l ih =>
    by_cases h1 : p.1 = k
    · simp [put, lookM, h1]
    · simp [put, lookM, h1, ih]; omega
end
section
variable {κ : Type} [DecidableEq κ]
/-- The entries are these. -/
def EsOf (kv : κ → Value) (es : List MapEntry) (F : List (κ × Value)) : Prop := es.map (fun e => (e.key, e.val)) = F.map (fun p => (kv p.1, p.2))
/-- Keys that can be told apart. -/
structure KeysOf (d : TypeDesc) (kv : κ → Value) (ok : κ → Prop) : Prop where
  is : ∀ k, ok k → IsKey d (kv k)
  inj : ∀ k k', kv k = kv k' → k = k'
theorem find_spec {d : TypeDesc} {kv : κ → Value} {ok : κ → Prop} (K : KeysOf d kv ok) (k : κ) (v : Value) (hk : ok k) : ∀ (F : List (κ × Value)) (es : List MapEntry) (i : Nat), (∀ p ∈ F, ok p.1) → EsOf kv es F →
    (Instr.findNow d (kv k) es i = some none ∧ lookM F k = none ∧ put F k v = F ++ [(k, v)] ∧ del F k = F) ∨
    ∃ j e, Instr.findNow d (kv k) es i = some (some (i + j, e.val)) ∧ es[j]? = some e ∧ e.key = kv k ∧ lookM F k = some e.val ∧ put F k v = F.set j (k, v) ∧ del F k = F.eraseIdx j ∧ j < F.length
  | [], es, i, _, h => by
    have : es = [] := by simpa [EsOf] using h
    subst this
    exact .inl ⟨rfl, rfl, rfl, rfl⟩
  | p :: F, [], i, _, h => by simp [EsOf] at h
  | p :: F, e :: es, i, ho, h => by
    have h1 : (e.key = kv p.1 ∧ e.val = p.2) ∧ EsOf kv es F := by simpa [EsOf] using h
    obtain ⟨⟨hk1, hv1⟩, h2⟩ := h1
    have hik : IsKey d (kv p.1) := K.is _ (ho p List.mem_cons_self)
    obtain ⟨r, hr, hiff⟩ := sameNow_of_keys (K.is k hk) (hk1 ▸ hik : IsKey d e.key)
    cases r with
    | true =>
      have e1 : p.1 = k := (K.inj _ _ ((hiff.1 rfl).trans hk1)).symm
      exact .inr ⟨0, e, by simp [Instr.findNow, hr], rfl, (hiff.1 rfl).symm, by simp [lookM, e1, hv1], by simp [put, e1], by simp [del, e1], by simp⟩
    | false =>
      have hne : p.1 ≠ k := fun q => by
        have := hiff.2 (by rw [hk1, q])
        cases this
      rcases find_spec K k v hk F es (i + 1) (fun q hq => ho q (List.mem_cons_of_mem _ hq)) h2 with ⟨a1, a2, a3, a4⟩ | ⟨j, e', a1, a2, a3, a4, a5, a6, a7⟩
      · exact .inl ⟨by simp [Instr.findNow, hr, a1], by simp [lookM, hne, a2], by simp [put, hne, a3], by simp [del, hne, a4]⟩
      · exact .inr ⟨j + 1, e', by simp [Instr.findNow, hr, a1]; omega, by simpa using a2, a3, by simp [lookM, hne, a4], by simp [put, hne, a5], by simp [del, hne, a6], by simpa using a7⟩
variable {P : Program} {t kt et : TypeId} {d : TypeDesc} {kv : κ → Value} {ok : κ → Prop}
theorem find_run (K : KeysOf d kv ok) (hd : P.underlying kt = some d) (k : κ) (v : Value) (hk : ok k) (F : List (κ × Value)) (es : List MapEntry) (ho : ∀ p ∈ F, ok p.1) (h : EsOf kv es F) (w : World) :
    ((Instr.findKey kt (kv k) es).run P w = .ok none w ∧ lookM F k = none ∧ put F k v = F ++ [(k, v)] ∧ del F k = F) ∨
    ∃ j e, (Instr.findKey kt (kv k) es).run P w = .ok (some (j, e.val)) w ∧ es[j]? = some e ∧ e.key = kv k ∧ lookM F k = some e.val ∧ put F k v = F.set j (k, v) ∧ del F k = F.eraseIdx j ∧ j < F.length := by
  rcases find_spec K k v hk F es 0 ho h with ⟨a1, a2⟩ | ⟨j, e, a1, a2⟩
  · exact .inl ⟨by simp [Instr.findKey, run_underlying hd, a1], a2⟩
  · exact .inr ⟨j, e, by simp [Instr.findKey, run_underlying hd, a1], a2⟩
theorem check_run (K : KeysOf d kv ok) (hd : P.underlying kt = some d) (k : κ) (hk : ok k) (b : Bool) (w : World) : (Instr.checkKey b 10000 kt (kv k)).run P w = .ok () w :=
  MapKept.run_checkKey hd (K.is k hk) b 9999
/-- 'm[k]', and 'v, ok := m[k]'. -/
theorem lookup_run (K : KeysOf d kv ok) (ht : P.underlying t = some (.map kt et)) (hd : P.underlying kt = some d) {z : Value} {w : World} (hz : (zeroValue et).run P w = .ok z w) {m : Nat} {es : Array MapEntry} {clock : Nat}
    (hm : w.heap[m]? = some (.map es clock)) (F : List (κ × Value)) (ho : ∀ p ∈ F, ok p.1) (h : EsOf kv es.toList F) (k : κ) (hk : ok k) (c : Bool) :
    (Instr.lookup t (.map (some m)) (kv k) c).run P w = .ok (if c then .tuple #[(lookM F k).getD z, .bool (lookM F k).isSome] else (lookM F k).getD z) w := by
  rcases find_run K hd k z hk F es.toList ho h w with ⟨a1, a2, _⟩ | ⟨j, e, a1, a2, a3, a4, _⟩
  · simp [Instr.lookup, run_underlying ht, MapKept.run_getObj_map hm, check_run K hd k hk, a1, a2, hz, Result.andThen]
  · simp [Instr.lookup, run_underlying ht, MapKept.run_getObj_map hm, check_run K hd k hk, a1, a4, Result.andThen]
theorem lookM_none_ne {β : Type} : ∀ {F : List (κ × β)} {k : κ}, lookM F k = none → ∀ p ∈ F, p.1 ≠ k
  | [], _, _, p, hp => by cases hp
  | q :: F, k, h, p, hp => by
    by_cases h1 : q.1 = k
    · simp [lookM, h1] at h
    · simp only [lookM, h1, if_false] at h
      rcases List.mem_cons.1 hp with rfl | hp
      · exact h1
      · exact lookM_none_ne h p hp
theorem es_key {es : Array MapEntry} {F : List (κ × Value)} {k : κ} (h : EsOf kv es.toList F) {x : MapEntry} (hx : x ∈ es.toList) (e : x.key = kv k) (hn : lookM F k = none) (K : KeysOf d kv ok) : False := by
  have h1 : (x.key, x.val) ∈ es.toList.map (fun e => (e.key, e.val)) := List.mem_map.2 ⟨x, hx, rfl⟩
  have h' : es.toList.map (fun e => (e.key, e.val)) = F.map (fun p => (kv p.1, p.2)) := h
  rw [h'] at h1
  obtain ⟨p, hp, hpe⟩ := List.mem_map.1 h1
  injection hpe with h2 _
  exact lookM_none_ne hn p hp (K.inj _ _ (h2.trans e))
/-- A block is put. -/
def setB (w : World) (m : Nat) (o : Obj) : World := { w with heap := w.heap.setIfInBounds m o }
theorem setB_grown {w : World} {m : Nat} {o o' : Obj} (hm : w.heap[m]? = some o) : w.grownBy (setB w m o') (some m) :=
  ⟨rfl, rfl, rfl, by simp [setB], fun i _ hi => (heap_set hm).2 i (fun e => hi (by rw [e]))⟩
/-- 'm[k] = v'. -/
theorem update_run (K : KeysOf d kv ok) (ht : P.underlying t = some (.map kt et)) (hd : P.underlying kt = some d) {w : World} {m : Nat} {es : Array MapEntry} {clock : Nat}
    (hm : w.heap[m]? = some (.map es clock)) (F : List (κ × Value)) (ho : ∀ p ∈ F, ok p.1) (h : EsOf kv es.toList F) (k : κ) (hk : ok k) (v : Value) :
    ∃ w' es' clock', (Instr.mapUpdate t (.map (some m)) (kv k) v).run P w = .ok () w' ∧ w'.heap[m]? = some (.map es' clock') ∧ EsOf kv es'.toList (put F k v) ∧ w.grownBy w' (some m) ∧ (Stamped es clock → Stamped es' clock') := by
  rcases find_run K hd k v hk F es.toList ho h w with ⟨a1, a2, a3, _⟩ | ⟨j, e, a1, a2, a3, a4, a5, _, a7⟩
  · refine ⟨setB w m (.map (es.push { key := kv k, val := v, born := clock }) (clock + 1)), _, _, by simp [Instr.mapUpdate, run_underlying ht, MapKept.run_getObj_map hm, check_run K hd k hk, a1, MapKept.run_setObj_map _ hm, Result.andThen, setB], (heap_set hm).1, ?_, setB_grown hm, fun hst => stamped_push hst (fun x hx e => es_key h hx e a2 K)⟩
    rw [a3]
    have h' : es.toList.map (fun e => (e.key, e.val)) = F.map (fun p => (kv p.1, p.2)) := h
    simp [EsOf, h']
  · have hj : es[j]? = some e := by simpa using a2
    have hkt : (Instr.keyThatStays e.key (kv k)).run P w = .ok (kv k) w := by rw [a3]; exact MapKept.run_keyThatStays (K.is k hk)
    refine ⟨setB w m (.map (es.modify j fun e => { e with key := kv k, val := v }) clock), _, _, by simp [Instr.mapUpdate, run_underlying ht, MapKept.run_getObj_map hm, check_run K hd k hk, a1, hj, hkt, MapKept.run_setObj_map _ hm, Result.andThen, setB], (heap_set hm).1, ?_, setB_grown hm, fun hst => stamped_modify hst j _ (fun _ _ => rfl) (fun e' _ he' => by rw [hj] at he'; injection he' with he'; rw [← he']; exact a3.symm)⟩
    rw [a5]
    have h' : es.toList.map (fun e => (e.key, e.val)) = F.map (fun p => (kv p.1, p.2)) := h
    unfold EsOf
    rw [List.map_set, ← h']
    apply List.ext_getElem?
    intro i
    rw [List.getElem?_map, Array.getElem?_toList, Array.getElem?_modify, List.getElem?_set, List.getElem?_map, Array.getElem?_toList]
    by_cases hij : j = i
    · subst hij
      have hl : j < es.size := (Array.getElem?_eq_some_iff.1 hj).1
      simp [hl]
    · simp [hij]
/-- 'delete(m, k)'. -/
theorem delete_run (K : KeysOf d kv ok) (ht : P.underlying t = some (.map kt et)) (hd : P.underlying kt = some d) {w : World} {m : Nat} {es : Array MapEntry} {clock : Nat}
    (hm : w.heap[m]? = some (.map es clock)) (F : List (κ × Value)) (ho : ∀ p ∈ F, ok p.1) (h : EsOf kv es.toList F) (k : κ) (hk : ok k) (ty : TypeId) :
    ∃ w' es' clock', (Builtin.delete_ #[t, kt] ty #[.map (some m), kv k]).run P w = .ok (.tuple #[]) w' ∧ w'.heap[m]? = some (.map es' clock') ∧ EsOf kv es'.toList (del F k) ∧ w.grownBy w' (some m) ∧ (Stamped es clock → Stamped es' clock') := by
  have h' : es.toList.map (fun e => (e.key, e.val)) = F.map (fun p => (kv p.1, p.2)) := h
  rcases find_run K hd k (.bool true) hk F es.toList ho h w with ⟨a1, a2, _, a4⟩ | ⟨j, e, a1, a2, a3, a4, _, a6, a7⟩
  · refine ⟨setB w m (.map es clock), _, _, by simp [Builtin.delete_, run_underlying ht, MapKept.run_getObj_map hm, check_run K hd k hk, a1, MapKept.run_setObj_map _ hm, Result.andThen, setB], (heap_set hm).1, ?_, setB_grown hm, fun hst => hst⟩
    rw [a4]; exact h
  · refine ⟨setB w m (.map (es.eraseIdxIfInBounds j) clock), _, _, by simp [Builtin.delete_, run_underlying ht, MapKept.run_getObj_map hm, check_run K hd k hk, a1, MapKept.run_setObj_map _ hm, Result.andThen, setB], (heap_set hm).1, ?_, setB_grown hm, fun hst => stamped_erase hst j⟩
    have hl : j < es.size := (Array.getElem?_eq_some_iff.1 (show es[j]? = some e by simpa using a2)).1
    have e2 : (es.eraseIdxIfInBounds j).toList = es.toList.eraseIdx j := by
      unfold Array.eraseIdxIfInBounds
      rw [dif_pos hl]
      simp
    unfold EsOf
    rw [a6, e2, Go.ChangeMaps.map_eraseIdx, Go.ChangeMaps.map_eraseIdx, h']
/-- 'len(m)'. -/
theorem len_run (ht : P.underlying t = some (.map kt et)) {w : World} {m : Nat} {es : Array MapEntry} {clock : Nat} (hm : w.heap[m]? = some (.map es clock)) (F : List (κ × Value)) (h : EsOf kv es.toList F) (ty : TypeId) :
    (Builtin.len_ #[t] ty #[.map (some m)]).run P w = .ok (.int .i64 F.length) w := by
  have hl : es.size = F.length := by
    have := congrArg List.length h
    simpa using this
  simp [Builtin.len_, run_underlying ht, MapKept.run_getObj_map hm, Result.andThen, goInt, hl]
end
end Go.Proofs.Ytkeijpngfnmjoaa.MineMap
