/- Tables of modules: is a name in a list; a row is itself. Conditions: the lengths are small. -/
import Derived.Test.YtlgfdokdckaejaaMineTabI
import Derived.Test.YtlgfdokdckaejaaQTablePlaysx2
namespace Go.Proofs.Ytlgfdokdckaejaa.MineTab
open Go.RowKit Go.MapKept Go.Proofs.YtlgfdokdckaejaaW.PrintWords Go.Proofs.YtlgfdokdckaejaaW.PrintLast Go.Proofs.YtlgfdokdckaejaaW.PrintMore Go.Proofs.Ytlgfdokdckaejaa.MineBase Go.Proofs.Ytlgfdokdckaejaa.MineSep Go.Proofs.Ytlgfdokdckaejaa.MineRows Go.Proofs.Ytlgfdokdckaejaa.QTableKeeps
set_option linter.unusedVariables false
set_option linter.unusedSimpArgs false
theorem inL_nil (s : ByteArray) : inL s [] = false := rfl
theorem inL_hit {s : ByteArray} {xs : List ByteArray} {i : Nat} {x : ByteArray} (h : xs[i]? = some x) (hp : eqS s x = true) : inL s (xs.drop i) = true := by
  have hl := (List.getElem?_eq_some_iff.1 h).1
  rw [List.drop_eq_getElem_cons hl, (List.getElem?_eq_some_iff.1 h).2]
  simp [inL, idxP, hp]
theorem inL_miss {s : ByteArray} {xs : List ByteArray} {i : Nat} {x : ByteArray} (h : xs[i]? = some x) (hp : eqS s x = false) : inL s (xs.drop i) = inL s (xs.drop (i + 1)) := by
  have hl := (List.getElem?_eq_some_iff.1 h).1
  have := idxP_range (fun y => eqS s y) (xs.drop (i + 1))
  rw [List.drop_eq_getElem_cons hl, (List.getElem?_eq_some_iff.1 h).2]
  simp only [inL, idxP, hp, Bool.false_eq_true, if_false]
  by_cases h1 : idxP (fun x => eqS s x) (xs.drop (i + 1)) < 0
  · rw [if_pos h1, decide_eq_false (by decide), decide_eq_false (by omega)]
  · rw [if_neg h1, decide_eq_true (by omega), decide_eq_true (by omega)]
theorem eqS_comm (a b : ByteArray) : eqS a b = eqS b a := by
  cases h : eqS b a with
  | true => exact (eqS_iff a b).2 ((eqS_iff b a).1 h).symm
  | false =>
    cases h2 : eqS a b with
    | true => rw [(eqS_iff b a).2 ((eqS_iff a b).1 h2).symm] at h; cases h
    | false => rfl
set_option maxHeartbeats 1000000 in
set_option maxRecDepth 100000 in
theorem has_calls (A : Option Addr) (c : Nat) (xs : List ByteArray) (s : ByteArray) (w : World) (hC : Kd.C Kd.string w A xs.length xs) (hn : xs.length ≤ 1000000) :
    Calls Try.prog 27 #[.slice A xs.length c, .string s] w fun e w' => e = .returned (.bool (inL s xs)) ∧ w' = w := by
  have HC := Aside0.mk hC
  clear hC
  go_enter Try.func27, Try.ntmps27
  go_wp2
  go_loopg [5] (xs.length + 1) (fun kq v5 w' => ∃ i : Nat, v5 = .int .i64 i ∧ Aside0 (i ≤ xs.length ∧ xs.length - i < kq) ∧ Aside0 (inL s xs = inL s (xs.drop i)) ∧ Aside0 (w' = w))
  case atStart => exact ⟨0, rfl, ⟨by omega⟩, ⟨rfl⟩, ⟨rfl⟩⟩
  case round =>
    obtain ⟨i, rfl, Hi, HR, HW⟩ := hrel
    obtain rfl := HW.out
    by_cases hlt : i < xs.length
    · obtain ⟨ad, x, rfl, hx, hc⟩ := str_at HC.out hlt
      have HG := Aside0.mk hx
      have p1 : (i < xs.length) = True := eq_true hlt
      have p9 : (i : Int) ≤ 1000000 := by omega
      have p8 : 0 ≤ (i : Int) := by omega
      clear hlt hx
      cases hq : eqS x s with
      | true =>
        have HQ := Aside0.mk (inL_hit (s := s) HG.out (by rw [eqS_comm]; exact hq))
        have hq' : (x.toList == s.toList) = true := hq
        clear hq
        go_wp2
        go_ret
        exact ⟨ret_eq (by rw [HR.out, HQ.out]; rfl), rfl⟩
      | false =>
        have HQ := Aside0.mk (inL_miss (s := s) HG.out (by rw [eqS_comm]; exact hq))
        have hq' : (x.toList == s.toList) = false := hq
        clear hq
        go_wp2
        go_roundg (gk - 1)
        case measure => have := Hi.out; omega
        case rel => exact ⟨i + 1, by go_num, ⟨by have := Hi.out; have := of_eq_true p1; omega⟩, ⟨by rw [HR.out, HQ.out]⟩, ⟨rfl⟩⟩
    · have d1 : (i < xs.length) = False := eq_false hlt
      have HE := Aside0.mk (show inL s xs = false by rw [HR.out, show i = xs.length by have := Hi.out; omega, List.drop_length]; rfl)
      clear hlt
      go_wp2
      go_ret
      exact ⟨ret_eq (by rw [HE.out]; rfl), rfl⟩
theorem ints_self (xs : List Int) (hn : xs.length ≤ 1000000) : ∃ k, dowelref09_Ints.f k xs xs = some true := by
  refine ⟨xs.length + 1, ?_⟩
  unfold dowelref09_Ints.f
  rw [if_pos rfl]
  suffices h : ∀ (k i : Nat), i ≤ xs.length → xs.length - i < k → dowelref09_Ints.l0 k xs xs i = some true from h _ 0 (Nat.zero_le _) (by omega)
  intro k
  induction k with
  | zero => intro i _ h; omega
  | succ k ih =>
    intro i h1 h2
    unfold dowelref09_Ints.l0
    by_cases hi : i < xs.length
    · rw [if_pos (by omega), if_pos (by omega), if_pos (by omega), if_pos rfl]
      rw [show wrap64 ((i : Int) + 1) = ((i + 1 : Nat) : Int) from by unfold wrap64; omega]
      exact ih (i + 1) (by omega) (by omega)
    · rw [if_neg (by omega)]
end Go.Proofs.Ytlgfdokdckaejaa.MineTab
