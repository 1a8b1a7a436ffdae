/- Tables of modules: the example at the head of the statements. No condition. -/
import Derived.Test.YtlgfdokdckaejaaMineTabJ
namespace Go.Proofs.Ytlgfdokdckaejaa.MineTab
open Go.RowKit Go.MapKept Go.Proofs.YtlgfdokdckaejaaW.PrintWords Go.Proofs.YtlgfdokdckaejaaW.PrintLast Go.Proofs.YtlgfdokdckaejaaW.PrintMore Go.Proofs.Ytlgfdokdckaejaa.MineBase Go.Proofs.Ytlgfdokdckaejaa.MineSep Go.Proofs.Ytlgfdokdckaejaa.MineRows Go.Proofs.Ytlgfdokdckaejaa.QTableKeeps
set_option linter.unusedVariables false
set_option linter.unusedSimpArgs false
attribute [local go_sem] Go.Proofs.Ytlgfdokdckaejaa.MineErr.eql_err Go.Proofs.Ytlgfdokdckaejaa.MineErr.neq_err Go.Proofs.Ytlgfdokdckaejaa.MineErr.eql_nil_err Go.Proofs.Ytlgfdokdckaejaa.MineErr.neq_nil_err
/-- A module of a name, with imports, and where it begins. -/
def modM (s : ByteArray) (xs : List ByteArray) (b : Int) : S65 := ⟨s, 0, b, 0, ⟨0, 0, 0, 0, [], []⟩, xs, [], []⟩
theorem nil_C {α : Type} (d : Kd α) (w : World) : d.C w none ([] : List α).length [] := ⟨rfl, Nat.zero_le _, fun h => absurd h (Nat.lt_irrefl _)⟩
theorem Add_mod {w0 w : World} {l : List Asn} {g : Nat} {most : Int} {ms : List S65} (HS : Sat w0 w (ATab w0.heap.size g most ms :: l)) (s : ByteArray) (xs : List ByteArray) (b : Int) (A : Option Addr) (c : Nat) (hx : Kd.string.C w A xs.length xs) (hl : xs.length ≤ 1000) :
    Calls Try.prog 22 #[.pointer (some ⟨g, 0, none⟩), .agg #[.string s, .int .u32 0, .int .i64 b, .int .i64 0, .int .i64 0, .int .i64 0, .int .i64 0, .int .i64 0, .slice none 0 0, .slice none 0 0, .slice A xs.length c, .slice none 0 0, .slice none 0 0]] w
      fun e w' => e = .returned (errV (addE most ms (modM s xs b))) ∧ Sat w0 w' (ATab w0.heap.size g most (addT most ms (modM s xs b)) :: l) :=
  Add_calls HS (modM s xs b) none none A none none 0 0 c 0 0 (nil_C _ _) (nil_C _ _) hx (nil_C _ _) (nil_C _ _) ⟨Nat.zero_le _, Nat.zero_le _, Nat.le_trans hl (by decide), Nat.zero_le _, Nat.zero_le _, fun x hx => by cases hx⟩
def sA : ByteArray := { data := #[65] }
def sB : ByteArray := { data := #[66] }
def sC : ByteArray := { data := #[67] }
theorem lit_C (W : World) (s : ByteArray) : Kd.string.C (W.alloc (.cells #[.string s] 9)) (some ⟨W.heap.size, 0, none⟩) [s].length [s] := by
  refine ⟨rfl, show 1 ≤ 9223372036854775807 by decide, fun _ => ⟨_, rfl, fun j p hj => ⟨[.string p], rfl, rfl, fun i u hu => ?_⟩⟩⟩
  cases i with
  | zero =>
    obtain rfl := Option.some.inj hu
    obtain ⟨rfl, rfl⟩ : j = 0 ∧ s = p := by
      cases j with
      | zero => exact ⟨rfl, by simpa using hj⟩
      | succ j => simp at hj
    rw [World.cell?, show ((⟨W.heap.size, 0, none⟩ : Addr).add (0 * Kd.string.sz + 0)) = ⟨W.heap.size, 0, none⟩ from rfl, heap_alloc_new]; rfl
  | succ i => simp at hu
set_option maxRecDepth 100000 in
set_option maxHeartbeats 2000000 in
theorem up_calls (w : World) : Calls Try.prog 17 #[] w fun e w' => e = .returned (.bool true) ∧ Below w.heap.size w w' := by
  go_enter Try.func17, Try.ntmps17
  go_wp2_with fail
  refine (New_calls (Sat.start w) 2).mono ?_
  rintro e1 w1 ⟨g, rfl, hS1⟩
  have HA := Aside0.mk (show Calls Try.prog 22 #[.pointer (some ⟨g, 0, none⟩), .agg #[.string sA, .int .u32 0, .int .i64 0, .int .i64 0, .int .i64 0, .int .i64 0, .int .i64 0, .int .i64 0, .slice none 0 0, .slice none 0 0, .slice none 0 0, .slice none 0 0, .slice none 0 0]] w1 (fun e w' => e = .returned (errV none) ∧ Sat w w' [ATab w.heap.size g 2 [modM sA [] 0]]) from by
    have h := Add_mod hS1 sA [] 0 none 0 (nil_C _ _) (by decide)
    rw [show addE (mn (mx 2 0) 16) [] (modM sA [] 0) = none by decide +kernel, show addT (mn (mx 2 0) 16) [] (modM sA [] 0) = [modM sA [] 0] from rfl, show mn (mx 2 0) 16 = 2 by decide] at h
    exact h)
  clear hS1
  go_wp2_with fail
  refine HA.out.mono ?_
  clear HA
  rintro e2 w2 ⟨rfl, hS2⟩
  have HB := Aside0.mk (show Calls Try.prog 22 #[.pointer (some ⟨g, 0, none⟩), .agg #[.string sB, .int .u32 0, .int .i64 0, .int .i64 0, .int .i64 0, .int .i64 0, .int .i64 0, .int .i64 0, .slice none 0 0, .slice none 0 0, .slice (some ⟨w2.heap.size, 0, none⟩) 1 1, .slice none 0 0, .slice none 0 0]] (w2.alloc (.cells #[.string sA] 9)) (fun e w' => e = .returned (errV none) ∧ Sat w w' [ATab w.heap.size g 2 [modM sA [] 0, modM sB [sA] 0]]) from by
    have h := Add_mod (hS2.alloc (.cells #[.string sA] 9)) sB [sA] 0 (some ⟨w2.heap.size, 0, none⟩) 1 (lit_C w2 sA) (by decide)
    rw [show addE 2 [modM sA [] 0] (modM sB [sA] 0) = none by decide +kernel, show addT 2 [modM sA [] 0] (modM sB [sA] 0) = [modM sA [] 0, modM sB [sA] 0] from by unfold addT; rw [show addE 2 [modM sA [] 0] (modM sB [sA] 0) = none by decide +kernel]; rfl] at h
    exact h)
  clear hS2
  go_wp2_with fail
  refine HB.out.mono ?_
  clear HB
  rintro e3 w3 ⟨rfl, hS3⟩
  have HC := Aside0.mk (show Calls Try.prog 22 #[.pointer (some ⟨g, 0, none⟩), .agg #[.string sC, .int .u32 0, .int .i64 0, .int .i64 0, .int .i64 0, .int .i64 0, .int .i64 0, .int .i64 0, .slice none 0 0, .slice none 0 0, .slice none 0 0, .slice none 0 0, .slice none 0 0]] w3 (fun e w' => e = .returned (errV (some 8)) ∧ Sat w w' [ATab w.heap.size g 2 [modM sA [] 0, modM sB [sA] 0]]) from by
    have h := Add_mod hS3 sC [] 0 none 0 (nil_C _ _) (by decide)
    rw [show addE 2 [modM sA [] 0, modM sB [sA] 0] (modM sC [] 0) = some 8 by decide +kernel, show addT 2 [modM sA [] 0, modM sB [sA] 0] (modM sC [] 0) = [modM sA [] 0, modM sB [sA] 0] from by unfold addT; rw [show addE 2 [modM sA [] 0, modM sB [sA] 0] (modM sC [] 0) = some 8 by decide +kernel]; rfl] at h
    exact h)
  clear hS3
  go_wp2_with fail
  refine HC.out.mono ?_
  clear HC
  rintro e4 w4 ⟨rfl, hS4⟩
  have HD := Aside0.mk (show Calls Try.prog 21 #[.pointer (some ⟨g, 0, none⟩), .string sA] w4 (fun e w' => e = .returned (.bool false) ∧ Sat w w' [ATab w.heap.size g 2 [modM sA [] 0, modM sB [sA] 0]]) from by
    have h := Remove_calls hS4 sA
    rw [show dropT [modM sA [] 0, modM sB [sA] 0] sA = [modM sA [] 0, modM sB [sA] 0] from by unfold dropT; rw [show dropE [modM sA [] 0, modM sB [sA] 0] sA = false by decide +kernel]; rfl, show dropE [modM sA [] 0, modM sB [sA] 0] sA = false by decide +kernel] at h
    exact h)
  clear hS4
  go_wp2_with fail
  refine HD.out.mono ?_
  clear HD
  rintro e5 w5 ⟨rfl, hS5⟩
  have HE := Aside0.mk (show Calls Try.prog 21 #[.pointer (some ⟨g, 0, none⟩), .string sB] w5 (fun e w' => e = .returned (.bool true) ∧ Sat w w' [ATab w.heap.size g 2 [modM sA [] 0]]) from by
    have h := Remove_calls hS5 sB
    rw [show dropT [modM sA [] 0, modM sB [sA] 0] sB = [modM sA [] 0] from by unfold dropT; rw [show dropE [modM sA [] 0, modM sB [sA] 0] sB = true by decide +kernel, show atI [modM sA [] 0, modM sB [sA] 0] sB = 1 by decide +kernel]; rfl, show dropE [modM sA [] 0, modM sB [sA] 0] sB = true by decide +kernel] at h
    exact h)
  clear hS5
  go_wp2_with fail
  refine HE.out.mono ?_
  clear HE
  rintro e6 w6 ⟨rfl, hS6⟩
  have HS6 := Aside0.mk hS6
  have k1 : errV none = .nilIface := rfl
  have k2 : errV (some 8) = .iface 30 (.int .i64 8) := rfl
  rw [k1, k2]
  clear hS6 k1 k2
  go_wp2_with fail
  have hq := Refs_calls HS6.out { data := #[65] }
  (with_reducible refine hq.mono ?_)
  clear hq
  rintro e7 w7 ⟨rfl, hb7⟩
  rw [show refsI [modM sA [] 0] { data := #[65] } = 0 by decide +kernel]
  have HS7 := Aside0.mk (HS6.out.below hb7)
  clear hb7 HS6
  go_wp2_with fail
  have hq := Room_calls HS7.out
  (with_reducible refine hq.mono ?_)
  clear hq
  rintro e8 w8 ⟨rfl, hb8⟩
  rw [show (2 : Int) - ([modM sA [] 0] : List S65).length = 1 from rfl]
  have HS8 := Aside0.mk (HS7.out.below hb8)
  clear hb8 HS7
  go_wp2_with fail
  have hq := Names_calls HS8.out
  (with_reducible refine hq.mono ?_)
  clear hq
  rintro e9 w9 ⟨v, rfl, hR, hb9⟩
  obtain ⟨A9, c9, rfl⟩ := Kd.R_slice hR
  have HS9 := Aside0.mk (HS8.out.below hb9)
  clear hb9 HS8 hR
  go_wp2_with fail

  go_ret
  exact ⟨by rfl, HS9.out.toBelow⟩
end Go.Proofs.Ytlgfdokdckaejaa.MineTab
