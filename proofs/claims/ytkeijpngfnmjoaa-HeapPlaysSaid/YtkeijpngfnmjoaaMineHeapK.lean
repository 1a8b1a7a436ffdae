/- Heap: holes as the document's, two lists of holes that are the same; the example at the head of the statements. Conditions: the lists are short. -/
import Derived.Test.YtkeijpngfnmjoaaMineHeapJ
import Derived.Test.YtkeijpngfnmjoaaQHeapPlaysx3
namespace Go.Proofs.Ytkeijpngfnmjoaa.MineHeap
open Go.RowKit Go.MapKept Go.Proofs.YtkeijpngfnmjoaaW.PrintWords Go.Proofs.YtkeijpngfnmjoaaW.PrintLast Go.Proofs.YtkeijpngfnmjoaaW.PrintMore Go.Proofs.Ytkeijpngfnmjoaa.MineBase Go.Proofs.Ytkeijpngfnmjoaa.MineSep Go.Proofs.Ytkeijpngfnmjoaa.MineRows Go.Proofs.Ytkeijpngfnmjoaa.MineGen Go.Proofs.Ytkeijpngfnmjoaa.QHeapPlays
attribute [local go_sem] Go.Proofs.Ytkeijpngfnmjoaa.MineErr.eql_err Go.Proofs.Ytkeijpngfnmjoaa.MineErr.neq_err Go.Proofs.Ytkeijpngfnmjoaa.MineErr.eql_nil_err Go.Proofs.Ytkeijpngfnmjoaa.MineErr.neq_nil_err
set_option linter.unusedVariables false
set_option linter.unusedSimpArgs false
def toS (p : Int × Int) : S118 := ⟨p.1, p.2⟩
def toT (p : Int × Int) : S129 := ⟨p.1, p.2⟩
theorem C_toS {w : World} {A : Option Addr} {n : Nat} {L : Hs} (h : k2.C w A n L) : Kd.C k118 w A n (L.map toS) := by
  refine ⟨by rw [List.length_map]; exact h.1, h.2.1, fun hn => ?_⟩
  obtain ⟨ad, e, hc⟩ := h.2.2 hn
  refine ⟨ad, e, fun j p hj => ?_⟩
  rw [List.getElem?_map] at hj
  obtain ⟨q, hq, rfl⟩ := Option.map_eq_some_iff.1 hj
  exact hc j q hq
theorem as_loop (xs : List S118) (hx : xs.length ≤ 1000) (d : Nat) : ∀ (k : Nat) (acc : List S129) (i : Nat), i + d = xs.length → d < k → acc.length + d ≤ 5000 →
    dowellaw05_as.l0 k xs acc i = some (acc ++ (xs.drop i).map (fun x => (⟨x.f0, x.f1⟩ : S129))) := by
  induction d with
  | zero =>
    intro k acc i hi hk _
    obtain ⟨k, rfl⟩ : ∃ m, k = m + 1 := ⟨k - 1, by omega⟩
    simp only [dowellaw05_as.l0]
    rw [if_neg (by omega), List.drop_eq_nil_of_le (by omega)]
    simp
  | succ d ih =>
    intro k acc i hi hk ha
    obtain ⟨k, rfl⟩ : ∃ m, k = m + 1 := ⟨k - 1, by omega⟩
    have hlt : i < xs.length := by omega
    simp only [dowellaw05_as.l0]
    rw [if_pos (by omega), if_pos (by omega), if_pos (by omega), show wrap64 ((i : Int) + 1) = ((i + 1 : Nat) : Int) by unfold wrap64; omega, ih k _ (i + 1) (by omega) (by omega) (by simp; omega)]
    have e : rd_T118 xs (i : Int) = xs[i] := by unfold rd_T118; rw [Int.toNat_natCast, List.getD_eq_getElem?_getD, List.getElem?_eq_getElem hlt]; rfl
    rw [e, List.drop_eq_getElem_cons hlt, List.map_cons]
    simp
theorem as_eq (L : Hs) (hL : L.length ≤ 1000) (k : Nat) (hk : L.length < k) : dowellaw05_as.f k (L.map toS) = some (L.map toT) := by
  have := as_loop (L.map toS) (by rw [List.length_map]; exact hL) L.length k [] 0 (by rw [List.length_map]; omega) hk (by simp; omega)
  unfold dowellaw05_as.f
  rw [show ((0 : Nat) : Int) = 0 from rfl] at this
  rw [this]
  simp [toS, toT]
theorem as_calls (A : Option Addr) (c : Nat) (L : Hs) (w : World) (hC : k2.C w A L.length L) (hc : L.length ≤ c) (hL : L.length ≤ 1000) :
    Calls Try.prog 30 #[.slice A L.length c] w fun e w' => ∃ v, e = .returned v ∧ Kd.R k129 129 w' w.heap.size (fun _ => True) v (L.map toT) ∧ Below w.heap.size w w' := by
  have h := dowellaw05_as.calls (L.length + 1) A c (L.map toS) (L.map toT) w (by rw [List.length_map]; exact C_toS hC) (by rw [List.length_map]; exact hc) (as_eq L hL _ (by omega))
  rw [List.length_map] at h
  exact h
theorem same_loop (xs : List S129) (hx : xs.length ≤ 1000) (d : Nat) : ∀ (k : Nat) (i : Nat), i + d = xs.length → d < k → dowelref05_Same.l0 k xs xs i = some true := by
  induction d with
  | zero =>
    intro k i hi hk
    obtain ⟨k, rfl⟩ : ∃ m, k = m + 1 := ⟨k - 1, by omega⟩
    simp only [dowelref05_Same.l0]
    rw [if_neg (by omega)]
  | succ d ih =>
    intro k i hi hk
    obtain ⟨k, rfl⟩ : ∃ m, k = m + 1 := ⟨k - 1, by omega⟩
    simp only [dowelref05_Same.l0]
    rw [if_pos (by omega), if_pos (by omega), if_pos (by omega), if_neg (by simp), show wrap64 ((i : Int) + 1) = ((i + 1 : Nat) : Int) by unfold wrap64; omega]
    exact ih k (i + 1) (by omega) (by omega)
theorem same_calls (A0 A1 : Option Addr) (c0 c1 : Nat) (xs : List S129) (w : World) (h0 : Kd.C k129 w A0 xs.length xs) (hc0 : xs.length ≤ c0) (h1 : Kd.C k129 w A1 xs.length xs) (hc1 : xs.length ≤ c1) (hx : xs.length ≤ 1000) :
    Calls Try.prog 29 #[.slice A0 xs.length c0, .slice A1 xs.length c1] w fun e w' => e = .returned (.bool true) ∧ Drawn0 w w' := by
  refine dowelref05_Same.calls (xs.length + 1) A0 c0 xs A1 c1 xs true w h0 hc0 h1 hc1 ?_
  unfold dowelref05_Same.f
  rw [if_pos rfl]
  exact same_loop xs hx xs.length _ 0 (by omega) (by omega)
set_option maxHeartbeats 2000000 in
set_option maxRecDepth 100000 in
theorem up_calls (w : World) : Calls Try.prog 21 #[] w fun e w' => e = .returned (.bool true) ∧ Below w.heap.size w w' := by
  go_enter Try.func21, Try.ntmps21
  go_wp2_with fail
  have hq := New_good (Sat.start w) 0 40 (by decide)
  (with_reducible refine hq.mono ?_)
  clear hq
  rintro e1 w1 ⟨g, rfl, hS1⟩
  rw [show firstL 0 40 = [(0, 40)] from by decide, show errV none = .nilIface from rfl] at *
  have HS1 := Aside0.mk hS1
  clear hS1
  go_wp2_with fail
  have hq := New_bad 1 40 (by decide) w1
  (with_reducible refine hq.mono ?_)
  clear hq
  rintro e2 w2 ⟨rfl, hd2⟩
  rw [show errV (some 1) = .iface 39 (.int .i64 1) from rfl]
  have HS2 := Aside0.mk (HS1.out.drawn hd2)
  clear hd2 HS1
  go_wp2_with fail
  have hq := Take_calls HS2.out (by simp [Norm]) (by decide) (by decide) (by decide) 8
  rw [show takeR [(0, 40)] 8 = (0, none, [(8, 32)]) from by decide] at hq
  (with_reducible refine hq.mono ?_)
  clear hq
  rintro e3 w3 ⟨rfl, hS3⟩
  have HS3 := Aside0.mk hS3
  rw [show errV none = .nilIface from rfl]
  clear hS3 HS2
  go_wp2_with fail
  have hq := Take_calls HS3.out (by simp [Norm]) (by decide) (by decide) (by decide) 5
  rw [show takeR [(8, 32)] 5 = (8, none, [(16, 24)]) from by decide] at hq
  (with_reducible refine hq.mono ?_)
  clear hq
  rintro e4 w4 ⟨rfl, hS4⟩
  have HS4 := Aside0.mk hS4
  rw [show errV none = .nilIface from rfl]
  clear hS4 HS3
  go_wp2_with fail
  have hq := Give_ok (L1 := []) (L2 := [(16, 24)]) HS4.out (by decide) (by decide) (by decide) 0 8 (by decide) (by decide) (by simp) ⟨by simp, by simp, by simp⟩ ⟨fun q L' e => by injection e with e _; rw [← e]; decide, fun L0 r e => by simp at e⟩
  rw [show joinL [] (joinR (0, wh 8) [(16, 24)]) = [(0, 8), (16, 24)] from by decide] at hq
  (with_reducible refine hq.mono ?_)
  clear hq
  rintro e5 w5 ⟨rfl, hS5⟩
  have HS5 := Aside0.mk hS5
  rw [show errV none = .nilIface from rfl]
  clear hS5 HS4
  go_wp2_with fail
  have hq := Take_calls HS5.out (by simp [Norm]) (by decide) (by decide) (by decide) 9
  rw [show takeR [(0, 8), (16, 24)] 9 = (16, none, [(0, 8), (28, 12)]) from by decide] at hq
  (with_reducible refine hq.mono ?_)
  clear hq
  rintro e6 w6 ⟨rfl, hS6⟩
  have HS6 := Aside0.mk hS6
  rw [show errV none = .nilIface from rfl]
  clear hS6 HS5
  go_wp2_with fail
  have hq := Holes_calls HS6.out (by decide)
  (with_reducible refine hq.mono ?_)
  clear hq
  rintro e7 w7 ⟨v, rfl, hR, hb⟩
  obtain ⟨A, c, rfl⟩ := Kd.R_slice hR
  have HB := Aside0.mk (HS6.out.below hb).toBelow
  clear hR hb
  go_wp2_with fail
  go_ret
  exact ⟨by rfl, HB.out⟩
end Go.Proofs.Ytkeijpngfnmjoaa.MineHeap
