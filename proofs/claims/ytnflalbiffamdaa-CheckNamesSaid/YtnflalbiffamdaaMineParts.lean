/- Objects of modules: the document's parts, where a size is wrong. No condition. -/
import Derived.Test.YtnflalbiffamdaaMineObj
namespace Go.Proofs.Ytnflalbiffamdaa.MineObj
open Go.RowKit Go.MapKept Go.Proofs.YtnflalbiffamdaaW.PrintWords Go.Proofs.YtnflalbiffamdaaW.PrintLast Go.Proofs.YtnflalbiffamdaaW.PrintMore Go.Proofs.Ytnflalbiffamdaa.MineBase Go.Proofs.Ytnflalbiffamdaa.MineSep Go.Proofs.Ytnflalbiffamdaa.MineRows Go.Proofs.Ytnflalbiffamdaa.MineGen Go.Proofs.Ytnflalbiffamdaa.QCheckTells
attribute [local go_sem ↓] Go.wp_at_zero Go.wp_at_succ
set_option linter.unusedVariables false
set_option linter.unusedSimpArgs false

set_option maxRecDepth 100000 in
set_option maxHeartbeats 4000000 in
theorem parts_bad (o : Ob) (a : Oa) (w : World) (h : ¬ SizesOk o) : Calls Try.prog 53 #[.agg (cellsO o a)] w fun e w' => e = .returned (.bool false) ∧ Below w.heap.size w w' := by
  unfold SizesOk at h
  unfold cellsO
  generalize o.code.length = n6 at h ⊢
  generalize o.typs.length = n3 at h ⊢
  generalize o.exps.length = n8 at h ⊢
  generalize o.ptrs.length = n9 at h ⊢
  generalize o.procs.length = n10 at h ⊢
  generalize o.imps.length = n2
  generalize o.cmds.length = n7
  have hu31 := Try.underlying31
  by_cases gt1 : (o.data : Int) < (0 : Int)
  · have t1a : ((o.data : Int) < (0 : Int)) = True := eq_true gt1
    have t1b : decide ((o.data : Int) < (0 : Int)) = true := decide_eq_true gt1
    clear h gt1
    go_enter Try.func53, Try.ntmps53
    go_wp2_with fail
    go_ret
    exact ⟨by rfl, (blk_new (Sat.start w) _).toBelow⟩
  have t1a : ((o.data : Int) < (0 : Int)) = False := eq_false gt1
  have t1b : decide ((o.data : Int) < (0 : Int)) = false := decide_eq_false gt1
  by_cases gt2 : (64 : Int) < (o.data : Int)
  · have t2a : ((64 : Int) < (o.data : Int)) = True := eq_true gt2
    have t2b : decide ((64 : Int) < (o.data : Int)) = true := decide_eq_true gt2
    clear h gt1 gt2
    go_enter Try.func53, Try.ntmps53
    go_wp2_with fail
    go_ret
    exact ⟨by rfl, (blk_new (Sat.start w) _).toBelow⟩
  have t2a : ((64 : Int) < (o.data : Int)) = False := eq_false gt2
  have t2b : decide ((64 : Int) < (o.data : Int)) = false := decide_eq_false gt2
  by_cases gt3 : (60 : Int) < ((o.text.size : Nat) : Int)
  · have t3a : ((60 : Int) < ((o.text.size : Nat) : Int)) = True := eq_true gt3
    have t3b : decide ((60 : Int) < ((o.text.size : Nat) : Int)) = true := decide_eq_true gt3
    have t3c : (60 < o.text.size) = True := eq_true (by omega)
    clear h gt1 gt2 gt3
    go_enter Try.func53, Try.ntmps53
    go_wp2_with fail
    go_ret
    exact ⟨by rfl, (blk_new (Sat.start w) _).toBelow⟩
  have t3a : ((60 : Int) < ((o.text.size : Nat) : Int)) = False := eq_false gt3
  have t3b : decide ((60 : Int) < ((o.text.size : Nat) : Int)) = false := decide_eq_false gt3
  have t3c : (60 < o.text.size) = False := eq_false (by omega)
  by_cases gt4 : ((n6 : Nat) : Int) < (1 : Int)
  · have t4a : (((n6 : Nat) : Int) < (1 : Int)) = True := eq_true gt4
    have t4b : decide (((n6 : Nat) : Int) < (1 : Int)) = true := decide_eq_true gt4
    have t4c : (n6 < 1) = True := eq_true (by omega)
    have t4d : (n6 = 0) = True := eq_true (by omega)
    clear h gt1 gt2 gt3 gt4
    go_enter Try.func53, Try.ntmps53
    go_wp2_with fail
    go_ret
    exact ⟨by rfl, (blk_new (Sat.start w) _).toBelow⟩
  have t4a : (((n6 : Nat) : Int) < (1 : Int)) = False := eq_false gt4
  have t4b : decide (((n6 : Nat) : Int) < (1 : Int)) = false := decide_eq_false gt4
  have t4c : (n6 < 1) = False := eq_false (by omega)
  have t4d : (n6 = 0) = False := eq_false (by omega)
  by_cases gt5 : (256 : Int) < ((n6 : Nat) : Int)
  · have t5a : ((256 : Int) < ((n6 : Nat) : Int)) = True := eq_true gt5
    have t5b : decide ((256 : Int) < ((n6 : Nat) : Int)) = true := decide_eq_true gt5
    have t5c : (256 < n6) = True := eq_true (by omega)
    clear h gt1 gt2 gt3 gt4 gt5
    go_enter Try.func53, Try.ntmps53
    go_wp2_with fail
    go_ret
    exact ⟨by rfl, (blk_new (Sat.start w) _).toBelow⟩
  have t5a : ((256 : Int) < ((n6 : Nat) : Int)) = False := eq_false gt5
  have t5b : decide ((256 : Int) < ((n6 : Nat) : Int)) = false := decide_eq_false gt5
  have t5c : (256 < n6) = False := eq_false (by omega)
  by_cases gt6 : (o.body : Int) < (0 : Int)
  · have t6a : ((o.body : Int) < (0 : Int)) = True := eq_true gt6
    have t6b : decide ((o.body : Int) < (0 : Int)) = true := decide_eq_true gt6
    clear h gt1 gt2 gt3 gt4 gt5 gt6
    go_enter Try.func53, Try.ntmps53
    go_wp2_with fail
    go_ret
    exact ⟨by rfl, (blk_new (Sat.start w) _).toBelow⟩
  have t6a : ((o.body : Int) < (0 : Int)) = False := eq_false gt6
  have t6b : decide ((o.body : Int) < (0 : Int)) = false := decide_eq_false gt6
  by_cases gt7 : ((n6 : Nat) : Int) < (o.body : Int)
  · have t7a : (((n6 : Nat) : Int) < (o.body : Int)) = True := eq_true gt7
    have t7b : decide (((n6 : Nat) : Int) < (o.body : Int)) = true := decide_eq_true gt7
    clear h gt1 gt2 gt3 gt4 gt5 gt6 gt7
    go_enter Try.func53, Try.ntmps53
    go_wp2_with fail
    go_ret
    exact ⟨by rfl, (blk_new (Sat.start w) _).toBelow⟩
  have t7a : (((n6 : Nat) : Int) < (o.body : Int)) = False := eq_false gt7
  have t7b : decide (((n6 : Nat) : Int) < (o.body : Int)) = false := decide_eq_false gt7
  by_cases gt8 : (8 : Int) < ((n3 : Nat) : Int)
  · have t8a : ((8 : Int) < ((n3 : Nat) : Int)) = True := eq_true gt8
    have t8b : decide ((8 : Int) < ((n3 : Nat) : Int)) = true := decide_eq_true gt8
    have t8c : (8 < n3) = True := eq_true (by omega)
    clear h gt1 gt2 gt3 gt4 gt5 gt6 gt7 gt8
    go_enter Try.func53, Try.ntmps53
    go_wp2_with fail
    go_ret
    exact ⟨by rfl, (blk_new (Sat.start w) _).toBelow⟩
  have t8a : ((8 : Int) < ((n3 : Nat) : Int)) = False := eq_false gt8
  have t8b : decide ((8 : Int) < ((n3 : Nat) : Int)) = false := decide_eq_false gt8
  have t8c : (8 < n3) = False := eq_false (by omega)
  by_cases gt9 : (64 : Int) < ((n8 : Nat) : Int)
  · have t9a : ((64 : Int) < ((n8 : Nat) : Int)) = True := eq_true gt9
    have t9b : decide ((64 : Int) < ((n8 : Nat) : Int)) = true := decide_eq_true gt9
    have t9c : (64 < n8) = True := eq_true (by omega)
    clear h gt1 gt2 gt3 gt4 gt5 gt6 gt7 gt8 gt9
    go_enter Try.func53, Try.ntmps53
    go_wp2_with fail
    go_ret
    exact ⟨by rfl, (blk_new (Sat.start w) _).toBelow⟩
  have t9a : ((64 : Int) < ((n8 : Nat) : Int)) = False := eq_false gt9
  have t9b : decide ((64 : Int) < ((n8 : Nat) : Int)) = false := decide_eq_false gt9
  have t9c : (64 < n8) = False := eq_false (by omega)
  by_cases gt10 : (16 : Int) < ((n9 : Nat) : Int)
  · have t10a : ((16 : Int) < ((n9 : Nat) : Int)) = True := eq_true gt10
    have t10b : decide ((16 : Int) < ((n9 : Nat) : Int)) = true := decide_eq_true gt10
    have t10c : (16 < n9) = True := eq_true (by omega)
    clear h gt1 gt2 gt3 gt4 gt5 gt6 gt7 gt8 gt9 gt10
    go_enter Try.func53, Try.ntmps53
    go_wp2_with fail
    go_ret
    exact ⟨by rfl, (blk_new (Sat.start w) _).toBelow⟩
  have t10a : ((16 : Int) < ((n9 : Nat) : Int)) = False := eq_false gt10
  have t10b : decide ((16 : Int) < ((n9 : Nat) : Int)) = false := decide_eq_false gt10
  have t10c : (16 < n9) = False := eq_false (by omega)
  by_cases gt11 : (16 : Int) < ((n10 : Nat) : Int)
  · have t11a : ((16 : Int) < ((n10 : Nat) : Int)) = True := eq_true gt11
    have t11b : decide ((16 : Int) < ((n10 : Nat) : Int)) = true := decide_eq_true gt11
    have t11c : (16 < n10) = True := eq_true (by omega)
    clear h gt1 gt2 gt3 gt4 gt5 gt6 gt7 gt8 gt9 gt10 gt11
    go_enter Try.func53, Try.ntmps53
    go_wp2_with fail
    go_ret
    exact ⟨by rfl, (blk_new (Sat.start w) _).toBelow⟩
  have t11a : ((16 : Int) < ((n10 : Nat) : Int)) = False := eq_false gt11
  have t11b : decide ((16 : Int) < ((n10 : Nat) : Int)) = false := decide_eq_false gt11
  have t11c : (16 < n10) = False := eq_false (by omega)
  exact absurd ⟨by omega, by omega, by omega, by omega, by omega, by omega, by omega, by omega, by omega, by omega, by omega⟩ h
end Go.Proofs.Ytnflalbiffamdaa.MineObj
