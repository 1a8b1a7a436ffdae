/- Files: the example at the head of the statements holds. No condition. -/
import Derived.Test.YtlgfdokdckaejaaMineFiles
import Derived.Lib.SlBytesConst
namespace Go.Proofs.Ytlgfdokdckaejaa.MineFiles
open Go.RowKit Go.MapKept Go.Proofs.YtlgfdokdckaejaaW.PrintWords Go.Proofs.YtlgfdokdckaejaaW.PrintLast Go.Proofs.Ytlgfdokdckaejaa.MineBase Go.Proofs.Ytlgfdokdckaejaa.MineSep Go.Proofs.Ytlgfdokdckaejaa.MineMap Go.Proofs.Ytlgfdokdckaejaa.QFilesKeep
set_option linter.unusedVariables false
set_option linter.unusedSimpArgs false
attribute [local go_sem] Go.Proofs.Ytlgfdokdckaejaa.MineErr.eql_err Go.Proofs.Ytlgfdokdckaejaa.MineErr.neq_err Go.Proofs.Ytlgfdokdckaejaa.MineErr.eql_nil_err Go.Proofs.Ytlgfdokdckaejaa.MineErr.neq_nil_err
theorem lit_reads (W : World) (xs : List Int) (hm : xs.length ≤ 1000) (fr : Nat × Nat) : Kd.C (Kd.int .u8) (W.alloc (.cells (nums .u8 xs).toArray 5 fr)) (some ⟨W.heap.size, 0, none⟩) xs.length xs := by
  refine ⟨rfl, by omega, fun _ => ⟨_, rfl, fun j p hj => ⟨[.int .u8 p], rfl, rfl, fun i u hu => ?_⟩⟩⟩
  cases i with
  | zero =>
    obtain rfl := Option.some.inj hu
    have e : ((⟨W.heap.size, 0, none⟩ : Addr).add (j * (Kd.int .u8).sz + 0)) = ⟨W.heap.size, j, none⟩ := by
      show ((⟨W.heap.size, 0, none⟩ : Addr).add (j * 1 + 0)) = _
      rw [Nat.mul_one, Nat.add_zero]
      exact add_plain _ _
    rw [e]
    have hb : (W.alloc (.cells (nums .u8 xs).toArray 5 fr)).heap[W.heap.size]? = some (.cells (nums .u8 xs).toArray 5 fr) := (heap_alloc W _).1
    unfold World.cell?
    rw [hb]
    simp [nums, hj]
  | succ i => simp at hu
theorem row_string {w0 w : World} {v : Value} {bs : List Int} {l : List Asn} {base : Nat} (h : Sat w0 w (ARow (Kd.int .u8) 5 base v bs :: l)) :
    ∃ A c, v = .slice A bs.length c ∧ bs.length ≤ c ∧ Kd.C (Kd.int .u8) w A bs.length bs ∧ (convert 23 9 (.slice A bs.length c)).run Try.prog w = .ok (.string (strOfNums bs)) w := by
  obtain ⟨A, c, e, hl, hC⟩ := h.rowReads
  exact ⟨A, c, e, hl, hC, Kd.C_string Try.underlying23 Try.underlying5 Try.underlying9 hC⟩
def sA : ByteArray := { data := #[97] }
def sE : ByteArray := { data := #[] }
set_option maxRecDepth 100000 in
set_option maxHeartbeats 1000000 in
theorem up_calls (w : World) : Calls Try.prog 7 #[] w fun e w' => e = .returned (.bool true) ∧ Below w.heap.size w w' := by
  have hcv := fun (w : World) (C : Array Value) (n c : Nat) => Lib.run_convert_bytes_const (P := Try.prog) w 23 5 C n c Try.underlying23 Try.underlying5
  go_enter Try.func7, Try.ntmps7
  go_wp2_with fail
  refine (New_calls (Sat.start w)).mono ?_
  rintro e1 w1 ⟨g, rfl, hS1⟩
  have HP := Aside0.mk (show Calls Try.prog 9 #[.pointer (some ⟨g, 0, none⟩), .string { data := #[97] }, .slice (some ⟨w1.heap.size, 0, none⟩) 1 1] (w1.alloc (.cells #[.int .u8 120] 5 (1, 2))) (fun e w' => e = .returned (errV none) ∧ Sat w w' [AFiles g [(sA, [120])]]) from by
    have h := Put_calls (hS1.alloc (.cells (nums .u8 [120]).toArray 5 (1, 2))) sA (by decide) (some ⟨w1.heap.size, 0, none⟩) 1 [120] (lit_reads w1 [120] (by decide) (1, 2)) (by decide) (by decide)
    rw [show putE [] sA [120] = none by decide +kernel, show putF [] sA [120] = [(sA, [120])] by decide +kernel] at h
    exact h)
  clear hS1
  go_wp2_with fail
  refine HP.out.mono ?_
  clear HP
  rintro e2 w2 ⟨rfl, hS2⟩
  have HS2 := Aside0.mk hS2
  clear hS2
  go_wp2_with fail
  refine (Get_calls HS2.out sA (by decide) (by intro bs h; have : lookM [(sA, [(120 : Int)])] sA = some [120] := (by decide +kernel); rw [this] at h; cases h; decide)).mono ?_
  rintro e3 w3 ⟨_, h3⟩
  obtain ⟨bs, v, hbs, rfl, hS3⟩ := h3 (by decide +kernel)
  clear h3
  have e3 : lookM [(sA, [(120 : Int)])] sA = some [120] := by decide +kernel
  rw [e3] at hbs
  injection hbs with hbs
  subst hbs
  obtain ⟨A3, c3, rfl, hl3, hC3, hs3⟩ := row_string hS3
  have HS3 := Aside0.mk hS3.swap
  clear e3 HS2 hS3 hs3 hl3
  go_wp2_with fail
  refine (Delete_calls HS3.out sA (by decide)).mono ?_
  have e4 : thereE [(sA, [(120 : Int)])] sA = none := by decide +kernel
  rw [show delF [(sA, [(120 : Int)])] sA = [] by decide +kernel, e4]
  clear e4 HS3
  rintro e4 w4 ⟨rfl, hS4⟩
  have HS4 := Aside0.mk hS4
  clear hS4 hC3
  go_wp2_with fail
  refine (Get_calls HS4.out sA (by decide) (by intro bs h; have : lookM ([] : List (ByteArray × List Int)) sA = none := (rfl); rw [this] at h; cases h)).mono ?_
  rintro e5 w5 ⟨h5, _⟩
  obtain ⟨rfl, hS5⟩ := h5 3 (by decide +kernel)
  have HS5 := Aside0.mk hS5
  obtain ⟨A5, c5, e5, hl5, hC5, hs5⟩ := row_string hS5.swap
  clear h5 hS5 HS4 hl5 hC5
  injection e5 with e5 _ e6
  subst e5 e6
  have e6 : putE ([] : List (ByteArray × List Int)) sE [] = some 2 := by decide +kernel
  have e7 : putF ([] : List (ByteArray × List Int)) sE [] = [] := by decide +kernel
  have z0 : errV none = .nilIface := rfl
  have z3 : errV (some 3) = .iface 30 (.int .i64 3) := rfl
  rw [z0, z3]
  have hq : ∀ W : World, Sat w W [AFiles g [], ARow (Kd.int .u8) 5 w.heap.size (Value.slice A3 [(120 : Int)].length c3) [120]] → Calls Try.prog 9 #[.pointer (some ⟨g, 0, none⟩), .string sE, .slice none 0 0] W fun e w' => e = .returned (.iface 30 (.int .i64 2)) ∧ Below w.heap.size w w' := fun W h => by
    have h2 := Put_calls h sE (by decide) none 0 [] (Kd.C_nil _ _) (by decide) (by decide)
    rw [e6, e7] at h2
    exact h2.mono (fun e w' ⟨he, hs⟩ => ⟨he, hs.toBelow⟩)
  have HQ := Aside0.mk hq
  clear e6 e7 z0 z3 hq
  have hs6 : strOfNums [120] = { data := #[120] } := by decide +kernel
  rw [hs6] at hs5
  clear hs6
  have hs7 : (convert 23 9 (Value.slice A3 1 c3)).run Try.prog w5 = .ok (.string { data := #[120] }) w5 := hs5
  clear hs5
  go_wp2_with fail
  refine (HQ.out w5 HS5.out).mono ?_
  rintro e6 w6 ⟨rfl, hb6⟩
  have HB6 := Aside0.mk hb6
  clear hb6
  go_wp2
  go_ret
  exact ⟨by rfl, HB6.out⟩
end Go.Proofs.Ytlgfdokdckaejaa.MineFiles
