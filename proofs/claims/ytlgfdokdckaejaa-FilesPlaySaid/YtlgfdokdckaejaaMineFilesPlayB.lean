/- Files: the document's list of files in memory; where a name is in it. Conditions: the lengths are small. -/
import Derived.Test.YtlgfdokdckaejaaMineFilesPlayA
import Derived.Test.YtlgfdokdckaejaaQFilesPlayx2
import Derived.Test.YtlgfdokdckaejaaMineTabD
namespace Go.Proofs.Ytlgfdokdckaejaa.MineFilesPlay
open Go.RowKit Go.MapKept Go.Proofs.YtlgfdokdckaejaaW.PrintWords Go.Proofs.YtlgfdokdckaejaaW.PrintLast Go.Proofs.Ytlgfdokdckaejaa.MineBase Go.Proofs.Ytlgfdokdckaejaa.MineSep Go.Proofs.Ytlgfdokdckaejaa.MineRows Go.Proofs.Ytlgfdokdckaejaa.QFilesPlay
open Go.Proofs.Ytlgfdokdckaejaa.MineTab (idxP shiftI shift_zero shift_hit shift_miss shift_end ret_eq eqS)
set_option linter.unusedVariables false
set_option linter.unusedSimpArgs false
/-- A file, as the document's struct. -/
def toF (p : ByteArray × List Int) : S48 := ⟨p.1, p.2⟩
/-- The document's files: a struct's block p, and a row of files. -/
def ADoc (base p : Nat) (F : List S48) : Asn where
  P := fun W D => ∃ v, W.heap[p]? = some (.cells #[v] 40 (0, 0)) ∧ D p ∧ Kd.N k48 48 W base (fun k => D k ∧ k ≠ p) v F ∧ F.length ≤ 32
  mono := fun hd ⟨v, h1, h2, h3, h4⟩ => ⟨v, h1, hd _ h2, Kd.N_mono h3 (fun k hk => ⟨hd k hk.1, hk.2⟩), h4⟩
  bound := fun ⟨v, h1, h2, h3, h4⟩ => ⟨v, h1, ⟨h2, blk_lt h1⟩, Kd.N_mono (Kd.N_bound h3) (fun k hk => ⟨⟨hk.1.1, hk.2⟩, hk.1.2⟩), h4⟩
  move := fun hm ⟨v, h1, h2, h3, h4⟩ => ⟨v, (hm _ h2).trans h1, h2, Kd.N_step h3 (fun k hk _ => hm k hk.1), h4⟩
theorem doc_open {w0 W : World} {base p : Nat} {F : List S48} {l : List Asn} (h : Sat w0 W (ADoc base p F :: l)) :
    ∃ A c, W.heap[p]? = some (.cells #[.slice A F.length c] 40 (0, 0)) ∧ Kd.C k48 W A F.length F ∧ F.length ≤ c ∧ F.length ≤ 32 := by
  obtain ⟨D, ⟨v, h1, h2, h3, h4⟩, hD⟩ := h.head
  obtain ⟨A, c, rfl, hl, hC⟩ := Kd.N_reads h3
  exact ⟨A, c, h1, hC, hl, h4⟩
/-- Where a file of a name is; -1: nowhere. -/
def atF (F : List S48) (s : ByteArray) : Int := idxP (fun f : S48 => eqS f.f0 s) F
set_option maxHeartbeats 1000000 in
set_option maxRecDepth 100000 in
theorem At_calls {w0 w : World} {l : List Asn} {p : Nat} {F : List S48} (HS : Sat w0 w (ADoc w0.heap.size p F :: l)) (s : ByteArray) :
    Calls Try.prog 33 #[.pointer (some ⟨p, 0, none⟩), .string s] w fun e w' => e = .returned (.int .i64 (atF F s)) ∧ w' = w := by
  obtain ⟨A, c, hg, hC, hl, h32⟩ := doc_open HS
  have c0 : w.cell? ⟨p, 0, none⟩ = some (.slice A F.length c) := get_cell hg 0
  have HC := Aside0.mk hC
  have HL := Aside0.mk h32
  clear hg hC hl h32
  go_enter Try.func33, Try.ntmps33
  go_wp2
  go_loopg [5] (F.length + 1) (fun kq v5 w' => ∃ i : Nat, v5 = .int .i64 i ∧ Aside0 (i ≤ F.length ∧ F.length - i < kq) ∧ Aside0 (atF F s = shiftI i (idxP (fun f : S48 => eqS f.f0 s) (F.drop i))) ∧ Aside0 (w' = w))
  case atStart => exact ⟨0, rfl, ⟨by omega⟩, ⟨by rw [List.drop_zero, shift_zero]; rfl⟩, ⟨rfl⟩⟩
  case round =>
    obtain ⟨i, rfl, Hi, HR, HW⟩ := hrel
    obtain rfl := HW.out
    by_cases hlt : i < F.length
    · obtain ⟨ad, A1, c1, rfl, x0, _⟩ := at_T48 HC.out (i : Int) (by omega) (by omega)
      simp only [Int.toNat_natCast] at x0
      have hget : F[i]? = some (rd_T48 F (i : Int)) := by
        unfold rd_T48
        rw [Int.toNat_natCast, List.getD_eq_getElem?_getD, List.getElem?_eq_getElem hlt]; rfl
      have HG := Aside0.mk hget
      have p1 : (i < F.length) = True := eq_true hlt
      have p9 : (i : Int) ≤ 1000 := by have := HL.out; omega
      have p8 : 0 ≤ (i : Int) := by omega
      clear hlt hget
      cases hq : eqS (rd_T48 F (i : Int)).f0 s with
      | true =>
        have HQ := Aside0.mk (shift_hit (p := fun f : S48 => eqS f.f0 s) HG.out hq)
        have hq' : ((rd_T48 F (i : Int)).f0.toList == s.toList) = true := hq
        clear hq
        go_wp2
        go_ret
        exact ⟨ret_eq (by rw [HR.out, HQ.out]; rfl), rfl⟩
      | false =>
        have HQ := Aside0.mk (shift_miss (p := fun f : S48 => eqS f.f0 s) HG.out hq)
        have hq' : ((rd_T48 F (i : Int)).f0.toList == s.toList) = false := hq
        clear hq
        go_wp2
        go_roundg (gk - 1)
        case measure => have := Hi.out; omega
        case rel => exact ⟨i + 1, by go_num, ⟨by have := Hi.out; have := of_eq_true p1; omega⟩, ⟨by rw [HR.out, HQ.out]⟩, ⟨rfl⟩⟩
    · have d1 : (i < F.length) = False := eq_false hlt
      have HE := Aside0.mk (show atF F s = -1 by rw [HR.out, show i = F.length by have := Hi.out; omega, shift_end])
      clear hlt
      go_wp2
      go_ret
      exact ⟨ret_eq (by rw [HE.out]; rfl), rfl⟩
end Go.Proofs.Ytlgfdokdckaejaa.MineFilesPlay
