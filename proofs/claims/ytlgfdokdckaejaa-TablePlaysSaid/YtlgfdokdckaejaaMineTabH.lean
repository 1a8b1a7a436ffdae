/- Tables of modules: taking one out. Conditions: the lengths are small. -/
import Derived.Test.YtlgfdokdckaejaaMineTabG
namespace Go.Proofs.Ytlgfdokdckaejaa.MineTab
open Go.RowKit Go.MapKept Go.Proofs.YtlgfdokdckaejaaW.PrintWords Go.Proofs.YtlgfdokdckaejaaW.PrintLast Go.Proofs.YtlgfdokdckaejaaW.PrintMore Go.Proofs.Ytlgfdokdckaejaa.MineBase Go.Proofs.Ytlgfdokdckaejaa.MineSep Go.Proofs.Ytlgfdokdckaejaa.MineRows Go.Proofs.Ytlgfdokdckaejaa.QTableKeeps
set_option linter.unusedVariables false
set_option linter.unusedSimpArgs false
/-- Does a module go? -/
def dropE (ms : List S65) (s : ByteArray) : Bool := decide (0 ≤ atI ms s) && decide (refsI ms s ≤ 0)
/-- The modules, behind. -/
def dropT (ms : List S65) (s : ByteArray) : List S65 := if dropE ms s then ms.eraseIdx (atI ms s).toNat else ms
theorem wrap_small {x : Int} (h0 : 0 ≤ x) (h1 : x ≤ 1000) : IntKind.i64.wrap x = x := (i64_w _).trans (show wrap64 x = x by unfold wrap64; omega)
theorem tab_cut {w0 W : World} {g : Nat} {most : Int} {ms : List S65} {l : List Asn} {k c : Nat} {A : Option Addr} (HS : Sat w0 W (ATab w0.heap.size g most ms :: l)) (hg : W.heap[g]? = some (.cells #[.int .i64 most, .slice A ms.length c] 86 (0, 0))) (hk : k < ms.length) :
    ∃ g2 ok, A = some ⟨g2, 0, none⟩ ∧ Kd.N k65 65 W w0.heap.size ok (.slice (some ⟨g2, 0, none⟩) ms.length c) ms ∧
      ∀ W1, Kd.N k65 65 W1 w0.heap.size ok (.slice (some ⟨g2, 0, none⟩) (ms.length - 1 : Nat) c) (ms.eraseIdx k) → W.grownBy W1 (some g2) → W1.heap[g]? = some (.cells #[.int .i64 most, .slice A ms.length c] 86 (0, 0)) ∧
        Sat w0 (W1.setCell ⟨g, 1, none⟩ (.slice (some ⟨g2, 0, none⟩) (ms.length - 1 : Nat) c)) (ATab w0.heap.size g most (ms.eraseIdx k) :: l) := by
  have hS0 := HS.toBelow
  have hSz := HS.size
  obtain ⟨D, ⟨v, h1, h2, h3, h4, h5⟩, hD, _, hcl⟩ := HS.open_
  rw [h1] at hg
  injection hg with hg
  injection hg with hg
  obtain rfl : v = .slice A ms.length c := by simpa using hg
  obtain ⟨g2, c2, e1, hb, hlt, _⟩ := Kd.N_form h3 (by omega)
  injection e1 with e1 _ e2
  subst e1 e2
  refine ⟨g2, _, rfl, h3, fun W1 hN hG => ?_⟩
  have hne : g ≠ g2 := fun e => by
    have := h3.1 g2 rfl
    exact this.2 e.symm
  have hg1 : W1.heap[g]? = some (.cells #[.int .i64 most, .slice (some ⟨g2, 0, none⟩) ms.length c] 86 (0, 0)) := (hG.block g (blk_lt h1) (by intro e; injection e with e; exact hne e)).trans h1
  refine ⟨hg1, hcl _ (ATab w0.heap.size g most (ms.eraseIdx k)) D ?_ ?_ ⟨.slice (some ⟨g2, 0, none⟩) (ms.length - 1 : Nat) c, ?_, h2, ?_, ⟨h4.1, h4.2.1, ?_⟩, fun m hm => h5 m (List.mem_of_mem_eraseIdx hm)⟩ (fun k hk => .inl hk)⟩
  · exact Below.setCell (hS0.grown hG hSz (fun k hk => by injection hk with hk; subst hk; exact hb)) (hD _ h2).1 _
  · refine Kept.setCell ?_ (p := ⟨g, 1, none⟩) (.inl h2) _
    exact Kept.of_grown hG (Kept.refl W D) (fun k hk => by injection hk with hk; subst hk; exact .inl (h3.1 _ rfl).1)
  · rw [setCell_eq_setRow W1 g 1 _ _ _ _ hg1]
    exact setRow_heap W1 g _ _ 86 _ hg1
  · exact Kd.N_far hN (fun k hk => hk.2) _
  · rw [List.length_eraseIdx]; split <;> omega
set_option maxHeartbeats 1000000 in
set_option maxRecDepth 100000 in
theorem Remove_calls {w0 w : World} {l : List Asn} {g : Nat} {most : Int} {ms : List S65} (HS : Sat w0 w (ATab w0.heap.size g most ms :: l)) (s : ByteArray) :
    Calls Try.prog 21 #[.pointer (some ⟨g, 0, none⟩), .string s] w fun e w' => e = .returned (.bool (dropE ms s)) ∧ Sat w0 w' (ATab w0.heap.size g most (dropT ms s) :: l) := by
  replace HS := Aside0.mk HS
  go_enter Try.func21, Try.ntmps21
  go_wp2_with fail
  refine (at_calls HS.out s).mono ?_
  rintro e1 w1 ⟨rfl, hb1⟩
  have HS1 := Aside0.mk (HS.out.below hb1)
  clear hb1 HS
  by_cases hq : atI ms s < 0
  · have HQ := Aside0.mk hq
    have hq' : decide (atI ms s < 0) = true := decide_eq_true hq
    have q2 : (0 ≤ atI ms s) = False := eq_false (by omega)
    clear hq q2
    go_wp2_with fail
    have HE := Aside0.mk (show dropE ms s = false by
      unfold dropE
      rw [decide_eq_false (show ¬ 0 ≤ atI ms s by have := HQ.out; omega)]; rfl)
    have HT := Aside0.mk (show dropT ms s = ms by unfold dropT; rw [HE.out]; rfl)
    go_ret
    exact ⟨ret_eq (by rw [HE.out]; rfl), by rw [HT.out]; exact HS1.out⟩
  · have hq' : decide (atI ms s < 0) = false := decide_eq_false hq
    have HQ := Aside0.mk hq
    clear hq
    go_wp2_with fail
    refine (Refs_calls HS1.out s).mono ?_
    rintro e2 w2 ⟨rfl, hb2⟩
    have HS2 := Aside0.mk (HS1.out.below hb2)
    clear hb2 HS1
    by_cases hr : 0 < refsI ms s
    · have hr' : decide (0 < refsI ms s) = true := decide_eq_true hr
      have HR := Aside0.mk hr
      clear hr
      go_wp2_with fail
      have HE := Aside0.mk (show dropE ms s = false by
        unfold dropE
        rw [decide_eq_false (show ¬ refsI ms s ≤ 0 by have := HR.out; omega), Bool.and_false])
      have HT := Aside0.mk (show dropT ms s = ms by unfold dropT; rw [HE.out]; rfl)
      go_ret
      exact ⟨ret_eq (by rw [HE.out]; rfl), by rw [HT.out]; exact HS2.out⟩
    · have hr' : decide (0 < refsI ms s) = false := decide_eq_false hr
      have HE := Aside0.mk (show dropE ms s = true by
        unfold dropE
        rw [decide_eq_true (show 0 ≤ atI ms s by have := HQ.out; omega), decide_eq_true (show refsI ms s ≤ 0 by omega)]; rfl)
      have HT := Aside0.mk (show dropT ms s = ms.eraseIdx (atI ms s).toNat by unfold dropT; rw [HE.out]; rfl)
      clear hr
      obtain ⟨A, c, hg, hC, hcl, hm, hsm, hgw⟩ := tab_open HS2.out
      have h1 : w2.cell? ⟨g, 1, none⟩ = some (.slice A ms.length c) := get_cell hg 1
      have hat := idxP_range (fun m : S65 => eqS m.f0 s) ms
      obtain ⟨k, hk⟩ : ∃ k : Nat, atI ms s = k := ⟨(atI ms s).toNat, by have := HQ.out; omega⟩
      have hkl : k < ms.length := by
        have : atI ms s < ms.length := hat.2
        omega
      obtain ⟨g2, ok, rfl, hN, hcut⟩ := tab_cut (k := k) HS2.out hg hkl
      have HN := Aside0.mk hN
      have HCUT := Aside0.mk hcut
      have HKL := Aside0.mk (show k < ms.length ∧ ms.length ≤ 16 by omega)
      have HW := Aside0.mk HS2.out.size
      rw [hk] at hq' ⊢
      rw [hk, Int.toNat_natCast] at HT
      have w1k : IntKind.i64.wrap ((k : Int) + 1) = k + 1 := wrap_small (by omega) (by omega)
      clear hk hat hkl hN hcut hC hcl hm hsm hgw hg
      go_wp2_with fail
      refine (Delete_calls HN.out HKL.out.1 HKL.out.2 HW.out).mono ?_
      rintro e3 w3 ⟨rfl, hN3, hG3⟩
      obtain ⟨h3, hS3⟩ := HCUT.out w3 hN3 hG3
      have HS3 := Aside0.mk hS3
      have f3 : w3.frozen? ⟨g, 1, none⟩ = false := get_frozen h3 1
      have c3 : w3.cell? ⟨g, 1, none⟩ = some (.slice (some ⟨g2, 0, none⟩) ms.length c) := get_cell h3 1
      clear hN3 hG3 hS3 h3 HCUT
      go_wp2_with fail
      go_ret
      exact ⟨ret_eq (by rw [HE.out]; rfl), by rw [HT.out]; exact HS3.out⟩
end Go.Proofs.Ytlgfdokdckaejaa.MineTab
