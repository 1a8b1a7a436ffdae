/- Files: an error's number; the two lists keep one order. No condition. -/
import Derived.Test.YtlgfdokdckaejaaMineFiles
import Derived.Deep.LoopGhost
namespace Go.Proofs.Ytlgfdokdckaejaa.MineFiles
open Go.RowKit Go.MapKept Go.Proofs.YtlgfdokdckaejaaW.PrintWords Go.Proofs.YtlgfdokdckaejaaW.PrintLast Go.Proofs.Ytlgfdokdckaejaa.MineBase Go.Proofs.Ytlgfdokdckaejaa.MineSep Go.Proofs.Ytlgfdokdckaejaa.MineMap
set_option linter.unusedVariables false
set_option linter.unusedSimpArgs false
attribute [local go_sem] Go.Proofs.Ytlgfdokdckaejaa.MineErr.eql_err Go.Proofs.Ytlgfdokdckaejaa.MineErr.neq_err Go.Proofs.Ytlgfdokdckaejaa.MineErr.eql_nil_err Go.Proofs.Ytlgfdokdckaejaa.MineErr.neq_nil_err
theorem ret_same {a b : Value} (h : a = b) : Ending.returned a = .returned b := by rw [h]
set_option maxRecDepth 100000 in
set_option maxHeartbeats 2000000 in
theorem Code_calls (o : Option Int) (ho : ∀ c, o = some c → 1 ≤ c ∧ c ≤ 13) (w : World) : Calls Try.prog 13 #[errV o] w fun e w' => e = .returned (.int .i64 (o.getD 0)) ∧ Below w.heap.size w w' := by
  cases o with
  | none =>
    rw [show errV none = .nilIface from rfl]
    go_enter Try.func13, Try.ntmps13
    go_wp2
    go_ret
    exact ⟨by rfl, Below.refl _ _⟩
  | some c =>
    rw [show errV (some c) = .iface 30 (.int .i64 c) from rfl]
    have h0 := ho c rfl
    have HC := Aside0.mk h0
    clear h0 ho
    go_enter Try.func13, Try.ntmps13
    go_wp2
    go_loopg [3] 20 (fun kq v3 w' => ∃ i : Int, v3 = .int .i64 i ∧ Aside0 (1 ≤ i ∧ i ≤ c ∧ (20 : Int) - i < kq + 1) ∧ Aside0 (Below w.heap.size w w'))
    case atStart => exact ⟨1, rfl, ⟨by have := HC.out; omega⟩, ⟨Below.refl _ _⟩⟩
    case round =>
      obtain ⟨i, rfl, Hi, HB⟩ := hrel
      have p1 : i ≤ 13 := by have := Hi.out; have := HC.out; omega
      have p2 : 0 ≤ i := by have := Hi.out; omega
      by_cases hq : c = i
      · have hq' : (c == i) = true := by simpa using hq
        have HQ := Aside0.mk hq
        clear hq
        go_wp2
        go_ret
        exact ⟨ret_same (by rw [HQ.out]; rfl), HB.out⟩
      · have hq' : (c == i) = false := by simpa using hq
        have HQ := Aside0.mk hq
        clear hq
        go_wp2
        go_roundg (gk - 1)
        case measure => have := Hi.out; have := HQ.out; have := HC.out; omega
        case rel => exact ⟨i + 1, by go_num, ⟨by have := Hi.out; have := HQ.out; have := HC.out; omega⟩, HB⟩
theorem putE_range (F : List (ByteArray × List Int)) (s : ByteArray) (bs : List Int) : ∀ c, putE F s bs = some c → 1 ≤ c ∧ c ≤ 13 := by
  intro c h
  unfold putE at h
  repeat' split at h
  all_goals first
    | (injection h with h; omega)
    | cases h
theorem thereE_range (F : List (ByteArray × List Int)) (s : ByteArray) : ∀ c, thereE F s = some c → 1 ≤ c ∧ c ≤ 13 := by
  intro c h
  unfold thereE at h
  repeat' split at h
  all_goals first
    | (injection h with h; omega)
    | cases h
end Go.Proofs.Ytlgfdokdckaejaa.MineFiles
