/- Tables of modules: what the law's own list tells of a name. Conditions: the lengths are small. -/
import Derived.Test.YtlgfdokdckaejaaMineTabN
namespace Go.Proofs.Ytlgfdokdckaejaa.MineTab
open Go.RowKit Go.MapKept Go.Proofs.YtlgfdokdckaejaaW.PrintWords Go.Proofs.YtlgfdokdckaejaaW.PrintLast Go.Proofs.YtlgfdokdckaejaaW.PrintMore Go.Proofs.Ytlgfdokdckaejaa.MineBase Go.Proofs.Ytlgfdokdckaejaa.MineSep Go.Proofs.Ytlgfdokdckaejaa.MineRows Go.Proofs.Ytlgfdokdckaejaa.QTableKeeps
open Go.Proofs.Ytlgfdokdckaejaa.QTablePlays (S54 k54 rd_T54 at_T54 dowellaw18_at.f dowellaw18_at.l0 dowellaw18_at.calls dowellaw18_has.f dowellaw18_has.l0 dowellaw18_refs.f dowellaw18_refs.l0 dowellaw18_refs.calls)
set_option linter.unusedVariables false
set_option linter.unusedSimpArgs false
attribute [local go_sem] Go.Proofs.Ytlgfdokdckaejaa.MineErr.eql_err Go.Proofs.Ytlgfdokdckaejaa.MineErr.neq_err Go.Proofs.Ytlgfdokdckaejaa.MineErr.eql_nil_err Go.Proofs.Ytlgfdokdckaejaa.MineErr.neq_nil_err
/-- The module of a deed. -/
def toM (d : S54) : S65 := modM d.f1 d.f2 d.f3
theorem eqS_toList {a b : ByteArray} : a.toList = b.toList ↔ eqS a b = true := by
  unfold eqS
  rw [beq_iff_eq]
theorem rd54_get {l : List S54} {i : Nat} (h : i < l.length) : l[i]? = some (rd_T54 l (i : Int)) := by
  unfold rd_T54
  rw [Int.toNat_natCast, List.getD_eq_getElem?_getD, List.getElem?_eq_getElem h]; rfl
theorem rdB_get {l : List ByteArray} {i : Nat} (h : i < l.length) : l[i]? = some (rdOf ByteArray.empty l (i : Int)) := by
  unfold rdOf
  rw [Int.toNat_natCast, List.getD_eq_getElem?_getD, List.getElem?_eq_getElem h]; rfl
theorem idxP_map {α β : Type} (f : α → β) (p : β → Bool) : ∀ l : List α, idxP p (l.map f) = idxP (fun x => p (f x)) l
  | [] => rfl
  | x :: l => by simp only [List.map_cons, idxP, idxP_map f p l]
theorem at_law (l : List S54) (s : ByteArray) (hn : l.length ≤ 1000000) : ∃ k, dowellaw18_at.f k l s = some (atI (l.map toM) s) := by
  refine ⟨l.length + 1, ?_⟩
  unfold dowellaw18_at.f
  suffices h : ∀ (k i : Nat), i ≤ l.length → l.length - i < k → dowellaw18_at.l0 k l s i = some (shiftI i (idxP (fun d : S54 => eqS d.f1 s) (l.drop i))) from by
    have h0 := h (l.length + 1) 0 (Nat.zero_le _) (by omega)
    rw [List.drop_zero, shift_zero] at h0
    rw [show ((0 : Nat) : Int) = 0 from rfl] at h0
    rw [h0]
    unfold atI
    rw [idxP_map]
    rfl
  intro k
  induction k with
  | zero => intro i _ h; omega
  | succ k ih =>
    intro i h1 h2
    unfold dowellaw18_at.l0
    by_cases hi : i < l.length
    · rw [if_pos (by omega), if_pos (by omega)]
      by_cases hq : (rd_T54 l (i : Int)).f1.toList = s.toList
      · rw [if_pos hq, shift_hit (p := fun d : S54 => eqS d.f1 s) (rd54_get hi) (eqS_toList.1 hq)]
      · rw [if_neg hq, show wrap64 ((i : Int) + 1) = ((i + 1 : Nat) : Int) from by unfold wrap64; omega, ih (i + 1) (by omega) (by omega)]
        rw [shift_miss (p := fun d : S54 => eqS d.f1 s) (rd54_get hi) (by cases h : eqS (rd_T54 l (i : Int)).f1 s with
          | true => exact absurd (eqS_toList.2 h) hq
          | false => rfl)]
    · rw [if_neg (by omega), show i = l.length by omega, shift_end]
theorem has_law (l : List ByteArray) (s : ByteArray) (hn : l.length ≤ 1000000) (k : Nat) (hk : l.length < k) : dowellaw18_has.f k l s = some (inL s l) := by
  unfold dowellaw18_has.f
  suffices h : ∀ (k i : Nat), i ≤ l.length → l.length - i < k → dowellaw18_has.l0 k l s i = some (inL s (l.drop i)) from by
    have h0 := h k 0 (Nat.zero_le _) (by omega)
    rw [List.drop_zero] at h0
    exact h0
  intro k
  induction k with
  | zero => intro i _ h; omega
  | succ k ih =>
    intro i h1 h2
    unfold dowellaw18_has.l0
    by_cases hi : i < l.length
    · rw [if_pos (by omega), if_pos (by omega)]
      by_cases hq : (rdOf ByteArray.empty l (i : Int)).toList = s.toList
      · rw [if_pos hq, inL_hit (rdB_get hi) (by rw [eqS_comm]; exact eqS_toList.1 hq)]
      · rw [if_neg hq, show wrap64 ((i : Int) + 1) = ((i + 1 : Nat) : Int) from by unfold wrap64; omega, ih (i + 1) (by omega) (by omega)]
        rw [inL_miss (rdB_get hi) (by
          rw [eqS_comm]
          cases h : eqS (rdOf ByteArray.empty l (i : Int)) s with
          | true => exact absurd (eqS_toList.2 h) hq
          | false => rfl)]
    · rw [if_neg (by omega), show i = l.length by omega, List.drop_length]; rfl
theorem refs_law (l : List S54) (s : ByteArray) (hn : l.length ≤ 1000) (hm : ∀ d ∈ l, d.f2.length ≤ 1000) : ∃ k, dowellaw18_refs.f k l s = some (refsI (l.map toM) s) := by
  refine ⟨l.length + 1002, ?_⟩
  unfold dowellaw18_refs.f
  suffices h : ∀ (k i : Nat) (n : Int), i ≤ l.length → l.length - i + 1001 < k → 0 ≤ n → n ≤ i → dowellaw18_refs.l0 k l s n i = some (n + refsI ((l.drop i).map toM) s) from by
    have h0 := h (l.length + 1002) 0 0 (Nat.zero_le _) (by omega) (by decide) (by decide)
    rw [List.drop_zero, Int.zero_add] at h0
    exact h0
  intro k
  induction k with
  | zero => intro i n _ h; omega
  | succ k ih =>
    intro i n h1 h2 h3 h4
    unfold dowellaw18_refs.l0
    by_cases hi : i < l.length
    · rw [if_pos (by omega), if_pos (by omega)]
      have hg := rd54_get hi
      have hmem : rd_T54 l (i : Int) ∈ l := List.mem_of_getElem? hg
      have h20 := hm _ hmem
      rw [has_law _ s (by omega) k (by omega), Option.bind_some]
      have hdr : l.drop i = rd_T54 l (i : Int) :: l.drop (i + 1) := by
        rw [List.drop_eq_getElem_cons hi]
        rw [List.getElem?_eq_getElem hi] at hg
        injection hg with hg
        rw [hg]
      have e1 : wrap64 ((i : Int) + 1) = ((i + 1 : Nat) : Int) := by unfold wrap64; omega
      rw [hdr, List.map_cons]
      simp only [refsI]
      rw [e1]
      by_cases hb : inL s (rd_T54 l (i : Int)).f2 = true
      · rw [if_pos hb, show wrap64 (n + 1) = n + 1 from by unfold wrap64; omega, ih (i + 1) (n + 1) (by omega) (by omega) (by omega) (by omega)]
        rw [if_pos (show inL s (toM (rd_T54 l (i : Int))).f5 = true from hb), Int.add_assoc]
      · rw [if_neg hb, ih (i + 1) n (by omega) (by omega) (by omega) (by omega)]
        rw [if_neg (show ¬ inL s (toM (rd_T54 l (i : Int))).f5 = true from hb), Int.zero_add]
    · rw [if_neg (by omega), show i = l.length by omega, List.drop_length]
      simp [refsI]
set_option maxRecDepth 100000 in
set_option maxHeartbeats 2000000 in
theorem Code_calls (o : Option Int) (ho : ∀ c, o = some c → c = 1 ∨ c = 3 ∨ c = 8) (w : World) : Calls Try.prog 13 #[errV o] w fun e w' => e = .returned (.int .i64 (o.getD 0)) ∧ Below w.heap.size w w' := by
  cases o with
  | none =>
    rw [show errV none = .nilIface from rfl]
    go_enter Try.func13, Try.ntmps13
    go_wp2
    go_ret
    exact ⟨by rfl, Below.refl _ _⟩
  | some c =>
    rw [show errV (some c) = .iface 30 (.int .i64 c) from rfl]
    have hc := ho c rfl
    have h0 : 1 ≤ c ∧ c ≤ 8 := by omega
    have HC := Aside0.mk h0
    clear hc h0 ho
    go_enter Try.func13, Try.ntmps13
    go_wp2
    go_loopg [3] 20 (fun kq v3 w' => ∃ i : Int, v3 = .int .i64 i ∧ Aside0 (1 ≤ i ∧ i ≤ c ∧ (20 : Int) - i < kq + 1) ∧ Aside0 (Below w.heap.size w w'))
    case atStart => exact ⟨1, rfl, ⟨by have := HC.out; omega⟩, ⟨Below.refl _ _⟩⟩
    case round =>
      obtain ⟨i, rfl, Hi, HB⟩ := hrel
      have p1 : i ≤ 13 := by have := Hi.out; have := HC.out; omega
      have p2 : 0 ≤ i := by have := Hi.out; omega
      by_cases hq : c = i
      · have hq' : (c == i) = true := by simpa using hq
        have HQ := Aside0.mk hq
        clear hq
        go_wp2
        go_ret
        exact ⟨ret_eq (by rw [HQ.out]; rfl), HB.out⟩
      · have hq' : (c == i) = false := by simpa using hq
        have HQ := Aside0.mk hq
        clear hq
        go_wp2
        go_roundg (gk - 1)
        case measure => have := Hi.out; have := HQ.out; have := HC.out; omega
        case rel => exact ⟨i + 1, by go_num, ⟨by have := Hi.out; have := HQ.out; have := HC.out; omega⟩, HB⟩
end Go.Proofs.Ytlgfdokdckaejaa.MineTab
