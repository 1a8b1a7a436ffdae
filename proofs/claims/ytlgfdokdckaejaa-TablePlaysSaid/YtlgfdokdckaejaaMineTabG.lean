/- Tables of modules: taking one out of a row. Conditions: the lengths are small. -/
import Derived.Test.YtlgfdokdckaejaaMineTabF
namespace Go.Proofs.Ytlgfdokdckaejaa.MineTab
open Go.RowKit Go.MapKept Go.Proofs.YtlgfdokdckaejaaW.PrintWords Go.Proofs.YtlgfdokdckaejaaW.PrintLast Go.Proofs.YtlgfdokdckaejaaW.PrintMore Go.Proofs.Ytlgfdokdckaejaa.MineBase Go.Proofs.Ytlgfdokdckaejaa.MineSep Go.Proofs.Ytlgfdokdckaejaa.MineRows Go.Proofs.Ytlgfdokdckaejaa.QTableKeeps
set_option linter.unusedVariables false
set_option linter.unusedSimpArgs false
theorem grown2 {w w1 w2 : World} {row : Option Nat} (h1 : w.grownBy w1 row) (h2 : w1.grownBy w2 row) : w.grownBy w2 row := by
  obtain ⟨a1, a2, a3, a4, a5⟩ := h1
  obtain ⟨b1, b2, b3, b4, b5⟩ := h2
  exact ⟨b1.trans a1, b2.trans a2, b3.trans a3, Nat.le_trans a4 b4, fun i hi hne => (b5 i (Nat.lt_of_lt_of_le hi a4) hne).trans (a5 i hi hne)⟩
theorem drew_grown {w w1 : World} {row : Option Nat} (h : w.drew.grownBy w1 row) : w.grownBy w1 row := by
  obtain ⟨a1, a2, a3, a4, a5⟩ := h
  exact ⟨a1, a2, a3, a4, a5⟩
theorem infoM : (Try.prog.info? 65).map (·.size) = some k65.sz := by kernel_rfl
theorem zeroMrun (w : World) : (zeroValue 65).run Try.prog w = .ok (.agg zeroM) w := by kernel_rfl
set_option maxHeartbeats 1000000 in
set_option maxRecDepth 100000 in
theorem Delete_calls {base g2 n c k : Nat} {ok : Nat → Prop} {ms : List S65} {w : World} (HO : Kd.N k65 65 w base ok (.slice (some ⟨g2, 0, none⟩) n c) ms) (hk : k < n) (hn : n ≤ 16) (hb : base ≤ w.heap.size) :
    Calls Try.prog 37 #[.slice (some ⟨g2, 0, none⟩) n c, .int .i64 k, .int .i64 (k + 1)] w fun e w' => e = .returned (.slice (some ⟨g2, 0, none⟩) (n - 1 : Nat) c) ∧ Kd.N k65 65 w' base ok (.slice (some ⟨g2, 0, none⟩) (n - 1) c) (ms.eraseIdx k) ∧ w.grownBy w' (some g2) := by
  obtain ⟨n', rfl⟩ : ∃ n', n = n' + 1 := ⟨n - 1, by omega⟩
  obtain ⟨hl, hc, hC⟩ := Kd.N_reads' HO
  clear hC
  replace HO := Aside0.mk HO
  have HL := Aside0.mk hl
  have HB := Aside0.mk hb
  have HK := Aside0.mk hk
  have HN := Aside0.mk hc
  have p1 : (k : Int) < (n' + 1 : Nat) := by omega
  have p2 : (k : Int) + 1 ≤ (n' + 1 : Nat) := by omega
  have p3 : n' + 1 ≤ c := hc
  have p4 : ((n' + 1 : Nat) : Int) ≤ 16 := by omega
  have p5 : 0 ≤ (k : Int) := by omega
  have p6 : (k ≤ c) = True := eq_true (by omega)
  have p7 : 0 ≤ (k : Int) + 1 := by omega
  have q1 : (k : Int) < n' + 1 := by omega
  have q2 : (k : Int) ≤ n' := by omega
  have q3 : (n' : Int) + 1 ≤ 16 := by omega
  have q4 : ¬ (c = n') := by omega
  have q5 : (n' : Int) + 1 ≤ c := by omega
  clear hl hb hk hc hn
  go_enter Try.func37, Try.ntmps37
  go_wp2_with fail
  go_region_law ((refine Kd.N_delete_step k65 (w0 := w.drew) base (by rfl) (.tmp 22) (.tmp 25) 84 65 rfl Try.underlying84 infoM (g := g2) (n := n' + 1) (c := c) (k := k) (xs := ms) (ok := ok) rfl rfl (by simp [show k65.sz = 13 from rfl, Addr.add]) (by omega) (Kd.N_drew HO.out) HK.out (Below.refl _ _) HB.out (fun w1 hN hB hG => ?_)); have HN1 := Aside0.mk hN; have HG1 := Aside0.mk hG; clear hN hB hG)
  obtain ⟨w2, hrun, hN2, hG2⟩ := clear_tail (P := Try.prog) (m := 1) (t := 84) (ty := 0) (show Kd.N k65 65 w1 base ok (.slice (some ⟨g2, 0, none⟩) n' c) (ms.eraseIdx k) from HN1.out) (by decide) (by have := HN.out; omega) (by decide) Try.underlying84 zeroMrun (by rfl) (fun v hv => Array.all_eq_true_iff_forall_mem.1 zero_one v (Array.mem_toList_iff.1 hv)) (c - n')
  have HN2 := Aside0.mk hN2
  have HG2 := Aside0.mk hG2
  clear hN2 hG2
  replace hrun : (Builtin.clear_ #[84] 0 #[.slice (some ⟨g2, n' * 13, none⟩) 1 (c - n')]).run Try.prog w1 = .ok (.tuple #[]) w2 := hrun
  go_wp2_with fail
  all_goals (
    try (subst h)
    go_ret
    exact ⟨by rfl, HN2.out, grown2 (drew_grown HG1.out) HG2.out⟩)
end Go.Proofs.Ytlgfdokdckaejaa.MineTab
