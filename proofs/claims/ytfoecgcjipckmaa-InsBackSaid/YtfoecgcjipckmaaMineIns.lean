/- Ins: GetIns of the reference, the head of the statements, and the law InsTells walked. No condition but the words' range and the answers that the pure functions tell. -/
import Derived.Test.YtfoecgcjipckmaaPInsTellsx1
import Derived.Test.YtfoecgcjipckmaaMineBase
import Derived.Test.YtfoecgcjipckmaaPureFieldBits
namespace Go.Proofs.Ytfoecgcjipckmaa.MineIns
open Go.RowKit Go.Proofs.YtfoecgcjipckmaaW.PrintWords Go.Proofs.Ytfoecgcjipckmaa.PInsTells Go.Proofs.Ytfoecgcjipckmaa.MineBase Go.Proofs.Ytfoecgcjipckmaa.MineErr
set_option linter.unusedVariables false
set_option linter.unusedSimpArgs false
def insA (x n : Int) (b : Bool) : Array Value := if b then #[.int .i64 (x / 67108864), .int .i64 (x / 4194304 % 16), .int .i64 (x / 262144 % 16), .int .i64 n] else #[.int .i64 0, .int .i64 0, .int .i64 0, .int .i64 0]
/-- What GetIns tells. -/
def insV (x n : Int) (b : Bool) : Value := .tuple #[.agg (insA x n b), .bool b]
set_option maxHeartbeats 400000 in
theorem getIns (x n : Int) (b : Bool) (k : Nat) (w : World) (h0 : 0 ≤ x) (h1 : x < 4294967296) (hn : -9223372036854775808 ≤ n ∧ n ≤ 9223372036854775807)
   (hs : Aside0 (PFieldBits.dowelref01_Sign.f k (x % 262144) 18 = some n)) (hm : Aside0 (dowelref01_May.f (x / 67108864) (x / 4194304 % 16) (x / 262144 % 16) n = some b)) :
    Calls Try.prog 56 #[.int .u32 x] w fun e w' => e = .returned (insV x n b) ∧ Below w.heap.size w w' := by
  obtain ⟨hn0, hn1⟩ := hn
  go_enter Try.func56, Try.ntmps56
  go_wp2_with fail
  refine (PFieldBits.dowelref01_Sign.calls k _ _ n _ hs.out).mono ?_
  rintro e w1 ⟨rfl, nd, rfl⟩
  go_wp2_with fail
  refine calls_abs (fun W => Below w.heap.size w W ∧ blk W (w.heap.size) = some (.cells #[.int .i64 0, .int .i64 0, .int .i64 0, .int .i64 0] 65 (0, 0)) ∧ blk W (w.heap.size + 1) = some (.cells #[.int .i64 (x / 67108864), .int .i64 (x / 4194304 % 16), .int .i64 (x / 262144 % 16), .int .i64 n] 65 (0, 0))) ⟨?_, ?_, ?_⟩ ?_
  · repeat (first | exact Below.refl _ _ | apply below_alloc | apply pw_below_drewN | apply below_drew | (refine below_set ?_ ?_; rotate_left; (first | exact Nat.le_refl _ | (simp; done) | omega)))
  · simp [get_alloc, get_setCell, get_drewN, get_drew, objPut]
  · simp [get_alloc, get_setCell, get_drewN, get_drew, objPut]
  rintro W ⟨hB, k0, k1⟩
  refine (dowelref01_May.calls _ _ _ _ b _ hm.out).mono ?_
  rintro e W2 ⟨rfl, hb⟩
  have hB2 := below_step hB hb
  have k02 := get_below k0 hb
  have k12 := get_below k1 hb
  clear k0 k1 hB hb
  have c0 := get_cell k02
  have c1 := get_cell k12
  have f0 := get_frozen k02
  have f1 := get_frozen k12
  clear k12
  cases b
  · go_wp2_with fail
    refine bodyPost_ret (results_ct rfl _ _ w.heap.size 65 (insA x n false) (0, 0) _ rfl (show blk _ _ = _ by simp [get_alloc, get_setCell, get_drewN, get_drew, objPut, k02, insA]) Try.underlying65 rfl (by kernel_rfl)) rfl ⟨rfl, by repeat (first | exact Below.refl _ _ | exact hB2 | apply below_alloc | apply pw_below_drewN | apply below_drew | (refine below_set ?_ ?_; rotate_left; (first | exact Nat.le_refl _ | (simp; done) | omega)))⟩
  · go_wp2_with fail
    refine bodyPost_ret (results_ct rfl _ _ w.heap.size 65 (insA x n true) (0, 0) _ rfl (show blk _ _ = _ by simp [get_alloc, get_setCell, get_drewN, get_drew, objPut, k02, insA]) Try.underlying65 rfl (by kernel_rfl)) rfl ⟨rfl, by repeat (first | exact Below.refl _ _ | exact hB2 | apply below_alloc | apply pw_below_drewN | apply below_drew | (refine below_set ?_ ?_; rotate_left; (first | exact Nat.le_refl _ | (simp; done) | omega)))⟩
set_option maxHeartbeats 400000 in
theorem up (w : World) : Calls Try.prog 50 #[] w fun e w' => e = .returned (.bool true) ∧ Below w.heap.size w w' := by
  have p1 := Aside0.mk (show ins_Put.f 1 1 0 (-1) = some (71565311, none) by decide +kernel)
  have p2 := Aside0.mk (show ins_Get.f 0 = some (0, 0, 0, 0, false) by decide +kernel)
  have p3 := Aside0.mk (show ins_Put.f 0 0 0 0 = some (0, some 1) by decide +kernel)
  have p4 := Aside0.mk (show ins_May.f 21 0 0 0 = some true by decide +kernel)
  have he := eql_err
  go_enter Try.func50, Try.ntmps50
  go_wp2_with fail
  refine (ins_Put.calls _ _ _ _ _ _ _ p1.out).mono ?_
  rintro e w1 ⟨rfl, hb1⟩
  go_wp2_with fail
  refine (ins_Get.calls _ _ _ _ _ _ _ p2.out).mono ?_
  rintro e w2 ⟨rfl, hb2⟩
  go_wp2_with fail
  refine (ins_Put.calls _ _ _ _ _ _ _ p3.out).mono ?_
  rintro e w3 ⟨rfl, hb3⟩
  have e1 := errW_none
  have e2 := errW_some 1
  go_wp2_with fail
  refine (ins_May.calls _ _ _ _ _ _ p4.out).mono ?_
  rintro e w4 ⟨rfl, hb4⟩
  have hB := below_step (below_step (below_alloc (below_step hb1 hb2) _) hb3) hb4
  clear hb1 hb2 hb3 hb4
  go_wp2_with fail
  go_ret
  exact ⟨rfl, hB⟩
set_option maxHeartbeats 1600000 in
theorem tells (o a b n x s : Int) (m b2 : Bool) (q : Int) (e : Option Int) (k : Nat) (w : World) (h0 : 0 ≤ x) (h1 : x < 4294967296) (hs1 : Aside0 (-9223372036854775808 ≤ s ∧ s ≤ 9223372036854775807))
    (hm : Aside0 (dowelref01_May.f o a b n = some m)) (hi : Aside0 (ins_May.f o a b n = some m)) (hp : Aside0 (ins_Put.f o a b n = some (q, e)))
    (hno : Aside0 (m = false → e = some 1 ∧ q = 0)) (hyes : Aside0 (m = true → e = none ∧ dowelref01_PutIns.f o a b n = some q))
    (hg : Aside0 (ins_Get.f x = some (if b2 then (x / 67108864, x / 4194304 % 16, x / 262144 % 16, s, true) else (0, 0, 0, 0, false))))
    (hs : Aside0 (PFieldBits.dowelref01_Sign.f k (x % 262144) 18 = some s)) (hr : Aside0 (dowelref01_May.f (x / 67108864) (x / 4194304 % 16) (x / 262144 % 16) s = some b2)) :
    Calls Try.prog 13 #[.agg #[.int .i64 o, .int .i64 a, .int .i64 b, .int .i64 n], .int .u32 x] w fun e w' => e = .returned (.bool true) ∧ Below w.heap.size w w' := by
  have he3 := neq_err
  go_enter Try.func13, Try.ntmps13
  go_wp2_with fail
  refine (up _).mono ?_
  rintro e_ W0 ⟨rfl, hb⟩
  have hB0 : Below w.heap.size w W0 := below_step (by repeat (first | exact Below.refl _ _ | apply below_alloc | apply pw_below_drewN | apply below_drew | (refine below_set ?_ ?_; rotate_left; (first | exact Nat.le_refl _ | (simp; done) | omega)))) hb
  have k00 : blk W0 (w.heap.size) = some (.cells #[.int .i64 o, .int .i64 a, .int .i64 b, .int .i64 n] 65 (0, 0)) := get_below (by simp [get_alloc, get_setCell, get_drewN, get_drew, objPut]) hb
  have c00 := get_cell k00
  have f00 := get_frozen k00
  have l00 := get_lt k00
  clear hb
  go_wp2_with fail
  refine (dowelref01_May.calls _ _ _ _ _ _ hm.out).mono ?_
  rintro e_ W1 ⟨rfl, hb⟩
  have hB1 : Below w.heap.size w W1 := below_step (by repeat (first | exact Below.refl _ _ | exact hB0 | apply below_alloc | apply pw_below_drewN | apply below_drew | (refine below_set ?_ ?_; rotate_left; (first | exact Nat.le_refl _ | (simp; done) | omega)))) hb
  have k01 : blk W1 (w.heap.size) = some (.cells #[.int .i64 o, .int .i64 a, .int .i64 b, .int .i64 n] 65 (0, 0)) := get_below (by simp [get_alloc, get_setCell, get_drewN, get_drew, objPut, k00, Nat.ne_of_lt (get_lt k00)]) hb
  clear hB0 k00 c00 f00 l00
  have c01 := get_cell k01
  have f01 := get_frozen k01
  have l01 := get_lt k01
  clear hb
  go_wp2_with fail
  refine (ins_Put.calls _ _ _ _ _ _ _ hp.out).mono ?_
  rintro e_ W2 ⟨rfl, hb⟩
  have hB2 : Below w.heap.size w W2 := below_step (by repeat (first | exact Below.refl _ _ | exact hB1 | apply below_alloc | apply pw_below_drewN | apply below_drew | (refine below_set ?_ ?_; rotate_left; (first | exact Nat.le_refl _ | (simp; done) | omega)))) hb
  have k02 : blk W2 (w.heap.size) = some (.cells #[.int .i64 o, .int .i64 a, .int .i64 b, .int .i64 n] 65 (0, 0)) := get_below (by simp [get_alloc, get_setCell, get_drewN, get_drew, objPut, k01, Nat.ne_of_lt (get_lt k01)]) hb
  clear hB1 k01 c01 f01 l01
  have c02 := get_cell k02
  have f02 := get_frozen k02
  have l02 := get_lt k02
  clear hb
  cases m
  · obtain ⟨rfl, rfl⟩ := hno.out rfl
    have e1 := errW_none
    have e2 := errW_some 1
    clear hno hyes
    go_wp2_with fail
    refine (ins_May.calls _ _ _ _ _ _ hi.out).mono ?_
    rintro e_ W3 ⟨rfl, hb⟩
    have hB3 : Below w.heap.size w W3 := below_step (by repeat (first | exact Below.refl _ _ | exact hB2 | apply below_alloc | apply pw_below_drewN | apply below_drew | (refine below_set ?_ ?_; rotate_left; (first | exact Nat.le_refl _ | (simp; done) | omega)))) hb
    have k03 : blk W3 (w.heap.size) = some (.cells #[.int .i64 o, .int .i64 a, .int .i64 b, .int .i64 n] 65 (0, 0)) := get_below (by simp [get_alloc, get_setCell, get_drewN, get_drew, objPut, k02, Nat.ne_of_lt (get_lt k02)]) hb
    clear hB2 k02 c02 f02 l02
    have c03 := get_cell k03
    have f03 := get_frozen k03
    have l03 := get_lt k03
    clear hb
    cases b2
    · go_wp2_with fail
      refine (ins_Get.calls _ _ _ _ _ _ _ hg.out).mono ?_
      rintro e_ W4 ⟨rfl, hb⟩
      have hB4 : Below w.heap.size w W4 := below_step (by repeat (first | exact Below.refl _ _ | exact hB3 | apply below_alloc | apply pw_below_drewN | apply below_drew | (refine below_set ?_ ?_; rotate_left; (first | exact Nat.le_refl _ | (simp; done) | omega)))) hb
      have k04 : blk W4 (w.heap.size) = some (.cells #[.int .i64 o, .int .i64 a, .int .i64 b, .int .i64 n] 65 (0, 0)) := get_below (by simp [get_alloc, get_setCell, get_drewN, get_drew, objPut, k03, Nat.ne_of_lt (get_lt k03)]) hb
      clear hB3 k03 c03 f03 l03
      have c04 := get_cell k04
      have f04 := get_frozen k04
      have l04 := get_lt k04
      clear hb
      have ev : insV x s false = .tuple #[.agg #[.int .i64 0, .int .i64 0, .int .i64 0, .int .i64 0], .bool false] := rfl
      go_wp2_with fail
      refine (getIns x s _ k _ h0 h1 hs1.out hs hr).mono ?_
      rintro e_ W5 ⟨rfl, hb⟩
      have hB5 : Below w.heap.size w W5 := below_step (by repeat (first | exact Below.refl _ _ | exact hB4 | apply below_alloc | apply pw_below_drewN | apply below_drew | (refine below_set ?_ ?_; rotate_left; (first | exact Nat.le_refl _ | (simp; done) | omega)))) hb
      have k05 : blk W5 (w.heap.size) = some (.cells #[.int .i64 o, .int .i64 a, .int .i64 b, .int .i64 n] 65 (0, 0)) := get_below (by simp [get_alloc, get_setCell, get_drewN, get_drew, objPut, k04, Nat.ne_of_lt (get_lt k04)]) hb
      have k15 : blk W5 (W4.heap.size) = some (.cells #[.int .i64 0, .int .i64 0, .int .i64 0, .int .i64 0] 65 (0, 0)) := get_below (by simp [get_alloc, get_setCell, get_drewN, get_drew, objPut]) hb
      clear hB4 k04 c04 f04 l04
      have c05 := get_cell k05
      have f05 := get_frozen k05
      have l05 := get_lt k05
      have c15 := get_cell k15
      have f15 := get_frozen k15
      have l15 := get_lt k15
      clear hb
      go_wp2_with fail
      go_ret
      exact ⟨rfl, by repeat (first | exact Below.refl _ _ | exact hB5 | apply below_alloc | apply pw_below_drewN | apply below_drew | (refine below_set ?_ ?_; rotate_left; (first | exact Nat.le_refl _ | (simp; done) | omega)))⟩
    · go_wp2_with fail
      refine (ins_Get.calls _ _ _ _ _ _ _ hg.out).mono ?_
      rintro e_ W4 ⟨rfl, hb⟩
      have hB4 : Below w.heap.size w W4 := below_step (by repeat (first | exact Below.refl _ _ | exact hB3 | apply below_alloc | apply pw_below_drewN | apply below_drew | (refine below_set ?_ ?_; rotate_left; (first | exact Nat.le_refl _ | (simp; done) | omega)))) hb
      have k04 : blk W4 (w.heap.size) = some (.cells #[.int .i64 o, .int .i64 a, .int .i64 b, .int .i64 n] 65 (0, 0)) := get_below (by simp [get_alloc, get_setCell, get_drewN, get_drew, objPut, k03, Nat.ne_of_lt (get_lt k03)]) hb
      clear hB3 k03 c03 f03 l03
      have c04 := get_cell k04
      have f04 := get_frozen k04
      have l04 := get_lt k04
      clear hb
      have ev : insV x s true = .tuple #[.agg #[.int .i64 (x / 67108864), .int .i64 (x / 4194304 % 16), .int .i64 (x / 262144 % 16), .int .i64 s], .bool true] := rfl
      go_wp2_with fail
      refine (getIns x s _ k _ h0 h1 hs1.out hs hr).mono ?_
      rintro e_ W5 ⟨rfl, hb⟩
      have hB5 : Below w.heap.size w W5 := below_step (by repeat (first | exact Below.refl _ _ | exact hB4 | apply below_alloc | apply pw_below_drewN | apply below_drew | (refine below_set ?_ ?_; rotate_left; (first | exact Nat.le_refl _ | (simp; done) | omega)))) hb
      have k05 : blk W5 (w.heap.size) = some (.cells #[.int .i64 o, .int .i64 a, .int .i64 b, .int .i64 n] 65 (0, 0)) := get_below (by simp [get_alloc, get_setCell, get_drewN, get_drew, objPut, k04, Nat.ne_of_lt (get_lt k04)]) hb
      have k15 : blk W5 (W4.heap.size) = some (.cells #[.int .i64 (x / 67108864), .int .i64 (x / 4194304 % 16), .int .i64 (x / 262144 % 16), .int .i64 s] 65 (0, 0)) := get_below (by simp [get_alloc, get_setCell, get_drewN, get_drew, objPut]) hb
      clear hB4 k04 c04 f04 l04
      have c05 := get_cell k05
      have f05 := get_frozen k05
      have l05 := get_lt k05
      have c15 := get_cell k15
      have f15 := get_frozen k15
      have l15 := get_lt k15
      clear hb
      go_wp2_with fail
      go_ret
      exact ⟨rfl, by repeat (first | exact Below.refl _ _ | exact hB5 | apply below_alloc | apply pw_below_drewN | apply below_drew | (refine below_set ?_ ?_; rotate_left; (first | exact Nat.le_refl _ | (simp; done) | omega)))⟩
  · obtain ⟨rfl, hpi0⟩ := hyes.out rfl
    have hpi := Aside0.mk hpi0
    clear hpi0
    have e1 := errW_none
    have e2 := errW_some 1
    clear hno hyes
    go_wp2_with fail
    refine (ins_May.calls _ _ _ _ _ _ hi.out).mono ?_
    rintro e_ W3 ⟨rfl, hb⟩
    have hB3 : Below w.heap.size w W3 := below_step (by repeat (first | exact Below.refl _ _ | exact hB2 | apply below_alloc | apply pw_below_drewN | apply below_drew | (refine below_set ?_ ?_; rotate_left; (first | exact Nat.le_refl _ | (simp; done) | omega)))) hb
    have k03 : blk W3 (w.heap.size) = some (.cells #[.int .i64 o, .int .i64 a, .int .i64 b, .int .i64 n] 65 (0, 0)) := get_below (by simp [get_alloc, get_setCell, get_drewN, get_drew, objPut, k02, Nat.ne_of_lt (get_lt k02)]) hb
    clear hB2 k02 c02 f02 l02
    have c03 := get_cell k03
    have f03 := get_frozen k03
    have l03 := get_lt k03
    clear hb
    go_wp2_with fail
    refine (dowelref01_PutIns.calls _ _ _ _ _ _ hpi.out).mono ?_
    rintro e_ W4 ⟨rfl, hb⟩
    have hB4 : Below w.heap.size w W4 := below_step (by repeat (first | exact Below.refl _ _ | exact hB3 | apply below_alloc | apply pw_below_drewN | apply below_drew | (refine below_set ?_ ?_; rotate_left; (first | exact Nat.le_refl _ | (simp; done) | omega)))) hb
    have k04 : blk W4 (w.heap.size) = some (.cells #[.int .i64 o, .int .i64 a, .int .i64 b, .int .i64 n] 65 (0, 0)) := get_below (by simp [get_alloc, get_setCell, get_drewN, get_drew, objPut, k03, Nat.ne_of_lt (get_lt k03)]) hb
    clear hB3 k03 c03 f03 l03
    have c04 := get_cell k04
    have f04 := get_frozen k04
    have l04 := get_lt k04
    clear hb
    cases b2
    · go_wp2_with fail
      refine (ins_Get.calls _ _ _ _ _ _ _ hg.out).mono ?_
      rintro e_ W5 ⟨rfl, hb⟩
      have hB5 : Below w.heap.size w W5 := below_step (by repeat (first | exact Below.refl _ _ | exact hB4 | apply below_alloc | apply pw_below_drewN | apply below_drew | (refine below_set ?_ ?_; rotate_left; (first | exact Nat.le_refl _ | (simp; done) | omega)))) hb
      have k05 : blk W5 (w.heap.size) = some (.cells #[.int .i64 o, .int .i64 a, .int .i64 b, .int .i64 n] 65 (0, 0)) := get_below (by simp [get_alloc, get_setCell, get_drewN, get_drew, objPut, k04, Nat.ne_of_lt (get_lt k04)]) hb
      clear hB4 k04 c04 f04 l04
      have c05 := get_cell k05
      have f05 := get_frozen k05
      have l05 := get_lt k05
      clear hb
      have ev : insV x s false = .tuple #[.agg #[.int .i64 0, .int .i64 0, .int .i64 0, .int .i64 0], .bool false] := rfl
      go_wp2_with fail
      refine (getIns x s _ k _ h0 h1 hs1.out hs hr).mono ?_
      rintro e_ W6 ⟨rfl, hb⟩
      have hB6 : Below w.heap.size w W6 := below_step (by repeat (first | exact Below.refl _ _ | exact hB5 | apply below_alloc | apply pw_below_drewN | apply below_drew | (refine below_set ?_ ?_; rotate_left; (first | exact Nat.le_refl _ | (simp; done) | omega)))) hb
      have k06 : blk W6 (w.heap.size) = some (.cells #[.int .i64 o, .int .i64 a, .int .i64 b, .int .i64 n] 65 (0, 0)) := get_below (by simp [get_alloc, get_setCell, get_drewN, get_drew, objPut, k05, Nat.ne_of_lt (get_lt k05)]) hb
      have k16 : blk W6 (W5.heap.size) = some (.cells #[.int .i64 0, .int .i64 0, .int .i64 0, .int .i64 0] 65 (0, 0)) := get_below (by simp [get_alloc, get_setCell, get_drewN, get_drew, objPut]) hb
      clear hB5 k05 c05 f05 l05
      have c06 := get_cell k06
      have f06 := get_frozen k06
      have l06 := get_lt k06
      have c16 := get_cell k16
      have f16 := get_frozen k16
      have l16 := get_lt k16
      clear hb
      go_wp2_with fail
      go_ret
      exact ⟨rfl, by repeat (first | exact Below.refl _ _ | exact hB6 | apply below_alloc | apply pw_below_drewN | apply below_drew | (refine below_set ?_ ?_; rotate_left; (first | exact Nat.le_refl _ | (simp; done) | omega)))⟩
    · go_wp2_with fail
      refine (ins_Get.calls _ _ _ _ _ _ _ hg.out).mono ?_
      rintro e_ W5 ⟨rfl, hb⟩
      have hB5 : Below w.heap.size w W5 := below_step (by repeat (first | exact Below.refl _ _ | exact hB4 | apply below_alloc | apply pw_below_drewN | apply below_drew | (refine below_set ?_ ?_; rotate_left; (first | exact Nat.le_refl _ | (simp; done) | omega)))) hb
      have k05 : blk W5 (w.heap.size) = some (.cells #[.int .i64 o, .int .i64 a, .int .i64 b, .int .i64 n] 65 (0, 0)) := get_below (by simp [get_alloc, get_setCell, get_drewN, get_drew, objPut, k04, Nat.ne_of_lt (get_lt k04)]) hb
      clear hB4 k04 c04 f04 l04
      have c05 := get_cell k05
      have f05 := get_frozen k05
      have l05 := get_lt k05
      clear hb
      have ev : insV x s true = .tuple #[.agg #[.int .i64 (x / 67108864), .int .i64 (x / 4194304 % 16), .int .i64 (x / 262144 % 16), .int .i64 s], .bool true] := rfl
      go_wp2_with fail
      refine (getIns x s _ k _ h0 h1 hs1.out hs hr).mono ?_
      rintro e_ W6 ⟨rfl, hb⟩
      have hB6 : Below w.heap.size w W6 := below_step (by repeat (first | exact Below.refl _ _ | exact hB5 | apply below_alloc | apply pw_below_drewN | apply below_drew | (refine below_set ?_ ?_; rotate_left; (first | exact Nat.le_refl _ | (simp; done) | omega)))) hb
      have k06 : blk W6 (w.heap.size) = some (.cells #[.int .i64 o, .int .i64 a, .int .i64 b, .int .i64 n] 65 (0, 0)) := get_below (by simp [get_alloc, get_setCell, get_drewN, get_drew, objPut, k05, Nat.ne_of_lt (get_lt k05)]) hb
      have k16 : blk W6 (W5.heap.size) = some (.cells #[.int .i64 (x / 67108864), .int .i64 (x / 4194304 % 16), .int .i64 (x / 262144 % 16), .int .i64 s] 65 (0, 0)) := get_below (by simp [get_alloc, get_setCell, get_drewN, get_drew, objPut]) hb
      clear hB5 k05 c05 f05 l05
      have c06 := get_cell k06
      have f06 := get_frozen k06
      have l06 := get_lt k06
      have c16 := get_cell k16
      have f16 := get_frozen k16
      have l16 := get_lt k16
      clear hb
      go_wp2_with fail
      go_ret
      exact ⟨rfl, by repeat (first | exact Below.refl _ _ | exact hB6 | apply below_alloc | apply pw_below_drewN | apply below_drew | (refine below_set ?_ ?_; rotate_left; (first | exact Nat.le_refl _ | (simp; done) | omega)))⟩
set_option maxHeartbeats 1600000 in
theorem back (o a b n x s : Int) (m b2 : Bool) (q : Int) (e : Option Int) (w : World)
    (hp : Aside0 (ins_Put.f o a b n = some (q, e))) (he0 : Aside0 (m = true → e = none ∧ ins_Get.f q = some (o, a, b, n, true))) (he1 : Aside0 (m = false → e = some 1))
    (hg : Aside0 (ins_Get.f x = some (if b2 then (x / 67108864, x / 4194304 % 16, x / 262144 % 16, s, true) else (0, 0, 0, 0, false))))
    (hx : Aside0 (b2 = true → ins_Put.f (x / 67108864) (x / 4194304 % 16) (x / 262144 % 16) s = some (x, none) ∧ ins_May.f (x / 67108864) (x / 4194304 % 16) (x / 262144 % 16) s = some true)) :
    Calls Try.prog 14 #[.agg #[.int .i64 o, .int .i64 a, .int .i64 b, .int .i64 n], .int .u32 x] w fun e w' => e = .returned (.bool true) ∧ Below w.heap.size w w' := by
  go_enter Try.func14, Try.ntmps14
  go_wp2_with fail
  refine (up _).mono ?_
  rintro e_ W0 ⟨rfl, hb⟩
  have hB0 : Below w.heap.size w W0 := below_step (by repeat (first | exact Below.refl _ _ | apply below_alloc | apply pw_below_drewN | apply below_drew | (refine below_set ?_ ?_; rotate_left; (first | exact Nat.le_refl _ | (simp; done) | omega)))) hb
  have k00 : blk W0 (w.heap.size) = some (.cells #[.int .i64 o, .int .i64 a, .int .i64 b, .int .i64 n] 65 (0, 0)) := get_below (by simp [get_alloc, get_setCell, get_drewN, get_drew, objPut]) hb
  have c00 := get_cell k00
  have f00 := get_frozen k00
  have l00 := get_lt k00
  clear hb
  go_wp2_with fail
  refine (ins_Put.calls _ _ _ _ _ _ _ hp.out).mono ?_
  rintro e_ W1 ⟨rfl, hb⟩
  have hB1 : Below w.heap.size w W1 := below_step (by repeat (first | exact Below.refl _ _ | exact hB0 | apply below_alloc | apply pw_below_drewN | apply below_drew | (refine below_set ?_ ?_; rotate_left; (first | exact Nat.le_refl _ | (simp; done) | omega)))) hb
  have k01 : blk W1 (w.heap.size) = some (.cells #[.int .i64 o, .int .i64 a, .int .i64 b, .int .i64 n] 65 (0, 0)) := get_below (by simp [get_alloc, get_setCell, get_drewN, get_drew, objPut, k00, Nat.ne_of_lt (get_lt k00)]) hb
  clear hB0 k00 c00 f00 l00
  have c01 := get_cell k01
  have f01 := get_frozen k01
  have l01 := get_lt k01
  clear hb
  cases m
  · obtain rfl := he1.out rfl
    have e1 := errW_none
    have e2 := errW_some 1
    clear he0 he1
    cases b2
    · go_wp2_with fail
      refine (ins_Get.calls _ _ _ _ _ _ _ hg.out).mono ?_
      rintro e_ W2 ⟨rfl, hb⟩
      have hB2 : Below w.heap.size w W2 := below_step (by repeat (first | exact Below.refl _ _ | exact hB1 | apply below_alloc | apply pw_below_drewN | apply below_drew | (refine below_set ?_ ?_; rotate_left; (first | exact Nat.le_refl _ | (simp; done) | omega)))) hb
      have k02 : blk W2 (w.heap.size) = some (.cells #[.int .i64 o, .int .i64 a, .int .i64 b, .int .i64 n] 65 (0, 0)) := get_below (by simp [get_alloc, get_setCell, get_drewN, get_drew, objPut, k01, Nat.ne_of_lt (get_lt k01)]) hb
      clear hB1 k01 c01 f01 l01
      have c02 := get_cell k02
      have f02 := get_frozen k02
      have l02 := get_lt k02
      clear hb
      go_wp2_with fail
      go_ret
      exact ⟨rfl, by repeat (first | exact Below.refl _ _ | exact hB2 | apply below_alloc | apply pw_below_drewN | apply below_drew | (refine below_set ?_ ?_; rotate_left; (first | exact Nat.le_refl _ | (simp; done) | omega)))⟩
    · obtain ⟨hx10, hx20⟩ := hx.out rfl
      have hx1 := Aside0.mk hx10
      have hx2 := Aside0.mk hx20
      clear hx10 hx20 hx
      go_wp2_with fail
      refine (ins_Get.calls _ _ _ _ _ _ _ hg.out).mono ?_
      rintro e_ W2 ⟨rfl, hb⟩
      have hB2 : Below w.heap.size w W2 := below_step (by repeat (first | exact Below.refl _ _ | exact hB1 | apply below_alloc | apply pw_below_drewN | apply below_drew | (refine below_set ?_ ?_; rotate_left; (first | exact Nat.le_refl _ | (simp; done) | omega)))) hb
      have k02 : blk W2 (w.heap.size) = some (.cells #[.int .i64 o, .int .i64 a, .int .i64 b, .int .i64 n] 65 (0, 0)) := get_below (by simp [get_alloc, get_setCell, get_drewN, get_drew, objPut, k01, Nat.ne_of_lt (get_lt k01)]) hb
      clear hB1 k01 c01 f01 l01
      have c02 := get_cell k02
      have f02 := get_frozen k02
      have l02 := get_lt k02
      clear hb
      go_wp2_with fail
      refine (ins_Put.calls _ _ _ _ _ _ _ hx1.out).mono ?_
      rintro e_ W3 ⟨rfl, hb⟩
      have hB3 : Below w.heap.size w W3 := below_step (by repeat (first | exact Below.refl _ _ | exact hB2 | apply below_alloc | apply pw_below_drewN | apply below_drew | (refine below_set ?_ ?_; rotate_left; (first | exact Nat.le_refl _ | (simp; done) | omega)))) hb
      have k03 : blk W3 (w.heap.size) = some (.cells #[.int .i64 o, .int .i64 a, .int .i64 b, .int .i64 n] 65 (0, 0)) := get_below (by simp [get_alloc, get_setCell, get_drewN, get_drew, objPut, k02, Nat.ne_of_lt (get_lt k02)]) hb
      have k13 : blk W3 (W2.heap.size) = some (.cells #[.int .i64 (x / 67108864), .int .i64 (x / 4194304 % 16), .int .i64 (x / 262144 % 16), .int .i64 s] 65 (0, 0)) := get_below (by simp [get_alloc, get_setCell, get_drewN, get_drew, objPut]) hb
      clear hB2 k02 c02 f02 l02
      have c03 := get_cell k03
      have f03 := get_frozen k03
      have l03 := get_lt k03
      have c13 := get_cell k13
      have f13 := get_frozen k13
      have l13 := get_lt k13
      clear hb
      go_wp2_with fail
      refine (ins_May.calls _ _ _ _ _ _ hx2.out).mono ?_
      rintro e_ W4 ⟨rfl, hb⟩
      have hB4 : Below w.heap.size w W4 := below_step (by repeat (first | exact Below.refl _ _ | exact hB3 | apply below_alloc | apply pw_below_drewN | apply below_drew | (refine below_set ?_ ?_; rotate_left; (first | exact Nat.le_refl _ | (simp; done) | omega)))) hb
      have k04 : blk W4 (w.heap.size) = some (.cells #[.int .i64 o, .int .i64 a, .int .i64 b, .int .i64 n] 65 (0, 0)) := get_below (by simp [get_alloc, get_setCell, get_drewN, get_drew, objPut, k03, Nat.ne_of_lt (get_lt k03)]) hb
      have k14 : blk W4 (W2.heap.size) = some (.cells #[.int .i64 (x / 67108864), .int .i64 (x / 4194304 % 16), .int .i64 (x / 262144 % 16), .int .i64 s] 65 (0, 0)) := get_below (by simp [get_alloc, get_setCell, get_drewN, get_drew, objPut, k13, Nat.ne_of_lt (get_lt k13)]) hb
      clear hB3 k13 c13 f13 l13 k03 c03 f03 l03
      have c04 := get_cell k04
      have f04 := get_frozen k04
      have l04 := get_lt k04
      have c14 := get_cell k14
      have f14 := get_frozen k14
      have l14 := get_lt k14
      clear hb
      go_wp2_with fail
      go_ret
      exact ⟨rfl, by repeat (first | exact Below.refl _ _ | exact hB4 | apply below_alloc | apply pw_below_drewN | apply below_drew | (refine below_set ?_ ?_; rotate_left; (first | exact Nat.le_refl _ | (simp; done) | omega)))⟩
  · obtain ⟨rfl, hgq0⟩ := he0.out rfl
    have hgq := Aside0.mk hgq0
    clear hgq0
    have e1 := errW_none
    have e2 := errW_some 1
    clear he0 he1
    go_wp2_with fail
    refine (ins_Get.calls _ _ _ _ _ _ _ hgq.out).mono ?_
    rintro e_ W2 ⟨rfl, hb⟩
    have hB2 : Below w.heap.size w W2 := below_step (by repeat (first | exact Below.refl _ _ | exact hB1 | apply below_alloc | apply pw_below_drewN | apply below_drew | (refine below_set ?_ ?_; rotate_left; (first | exact Nat.le_refl _ | (simp; done) | omega)))) hb
    have k02 : blk W2 (w.heap.size) = some (.cells #[.int .i64 o, .int .i64 a, .int .i64 b, .int .i64 n] 65 (0, 0)) := get_below (by simp [get_alloc, get_setCell, get_drewN, get_drew, objPut, k01, Nat.ne_of_lt (get_lt k01)]) hb
    clear hB1 k01 c01 f01 l01
    have c02 := get_cell k02
    have f02 := get_frozen k02
    have l02 := get_lt k02
    clear hb
    cases b2
    · have hz0 : w.heap.size < W2.heap.size := l02
      go_wp2_with fail
      refine (ins_Get.calls _ _ _ _ _ _ _ hg.out).mono ?_
      rintro e_ W3 ⟨rfl, hb⟩
      have hB3 : Below w.heap.size w W3 := below_step (by repeat (first | exact Below.refl _ _ | exact hB2 | apply below_alloc | apply pw_below_drewN | apply below_drew | (refine below_set ?_ ?_; rotate_left; (first | exact Nat.le_refl _ | (simp; done) | omega)))) hb
      have k03 : blk W3 (w.heap.size) = some (.cells #[.int .i64 o, .int .i64 a, .int .i64 b, .int .i64 n] 65 (0, 0)) := get_below (by simp [get_alloc, get_setCell, get_drewN, get_drew, objPut, k02, Nat.ne_of_lt (get_lt k02)]) hb
      clear hB2 k02 c02 f02 l02
      have c03 := get_cell k03
      have f03 := get_frozen k03
      have l03 := get_lt k03
      clear hb
      go_wp2_with fail
      go_ret
      exact ⟨rfl, by repeat (first | exact Below.refl _ _ | exact hB3 | apply below_alloc | apply pw_below_drewN | apply below_drew | (refine below_set ?_ ?_; rotate_left; (first | exact Nat.le_refl _ | (simp; done) | omega)))⟩
    · obtain ⟨hx10, hx20⟩ := hx.out rfl
      have hx1 := Aside0.mk hx10
      have hx2 := Aside0.mk hx20
      clear hx10 hx20 hx
      have hz0 : w.heap.size < W2.heap.size := l02
      go_wp2_with fail
      refine (ins_Get.calls _ _ _ _ _ _ _ hg.out).mono ?_
      rintro e_ W3 ⟨rfl, hb⟩
      have hB3 : Below w.heap.size w W3 := below_step (by repeat (first | exact Below.refl _ _ | exact hB2 | apply below_alloc | apply pw_below_drewN | apply below_drew | (refine below_set ?_ ?_; rotate_left; (first | exact Nat.le_refl _ | (simp; done) | omega)))) hb
      have k03 : blk W3 (w.heap.size) = some (.cells #[.int .i64 o, .int .i64 a, .int .i64 b, .int .i64 n] 65 (0, 0)) := get_below (by simp [get_alloc, get_setCell, get_drewN, get_drew, objPut, k02, Nat.ne_of_lt (get_lt k02)]) hb
      clear hB2 k02 c02 f02 l02
      have c03 := get_cell k03
      have f03 := get_frozen k03
      have l03 := get_lt k03
      clear hb
      go_wp2_with fail
      refine (ins_Put.calls _ _ _ _ _ _ _ hx1.out).mono ?_
      rintro e_ W4 ⟨rfl, hb⟩
      have hB4 : Below w.heap.size w W4 := below_step (by repeat (first | exact Below.refl _ _ | exact hB3 | apply below_alloc | apply pw_below_drewN | apply below_drew | (refine below_set ?_ ?_; rotate_left; (first | exact Nat.le_refl _ | (simp; done) | omega)))) hb
      have k04 : blk W4 (w.heap.size) = some (.cells #[.int .i64 o, .int .i64 a, .int .i64 b, .int .i64 n] 65 (0, 0)) := get_below (by simp [get_alloc, get_setCell, get_drewN, get_drew, objPut, k03, Nat.ne_of_lt (get_lt k03)]) hb
      have k14 : blk W4 (W3.heap.size) = some (.cells #[.int .i64 (x / 67108864), .int .i64 (x / 4194304 % 16), .int .i64 (x / 262144 % 16), .int .i64 s] 65 (0, 0)) := get_below (by simp [get_alloc, get_setCell, get_drewN, get_drew, objPut]) hb
      clear hB3 k03 c03 f03 l03
      have c04 := get_cell k04
      have f04 := get_frozen k04
      have l04 := get_lt k04
      have c14 := get_cell k14
      have f14 := get_frozen k14
      have l14 := get_lt k14
      clear hb
      go_wp2_with fail
      refine (ins_May.calls _ _ _ _ _ _ hx2.out).mono ?_
      rintro e_ W5 ⟨rfl, hb⟩
      have hB5 : Below w.heap.size w W5 := below_step (by repeat (first | exact Below.refl _ _ | exact hB4 | apply below_alloc | apply pw_below_drewN | apply below_drew | (refine below_set ?_ ?_; rotate_left; (first | exact Nat.le_refl _ | (simp; done) | omega)))) hb
      have k05 : blk W5 (w.heap.size) = some (.cells #[.int .i64 o, .int .i64 a, .int .i64 b, .int .i64 n] 65 (0, 0)) := get_below (by simp [get_alloc, get_setCell, get_drewN, get_drew, objPut, k04, Nat.ne_of_lt (get_lt k04)]) hb
      have k15 : blk W5 (W3.heap.size) = some (.cells #[.int .i64 (x / 67108864), .int .i64 (x / 4194304 % 16), .int .i64 (x / 262144 % 16), .int .i64 s] 65 (0, 0)) := get_below (by simp [get_alloc, get_setCell, get_drewN, get_drew, objPut, k14, Nat.ne_of_lt (get_lt k14)]) hb
      clear hB4 k14 c14 f14 l14 k04 c04 f04 l04
      have c05 := get_cell k05
      have f05 := get_frozen k05
      have l05 := get_lt k05
      have c15 := get_cell k15
      have f15 := get_frozen k15
      have l15 := get_lt k15
      clear hb
      go_wp2_with fail
      go_ret
      exact ⟨rfl, by repeat (first | exact Below.refl _ _ | exact hB5 | apply below_alloc | apply pw_below_drewN | apply below_drew | (refine below_set ?_ ?_; rotate_left; (first | exact Nat.le_refl _ | (simp; done) | omega)))⟩
end Go.Proofs.Ytfoecgcjipckmaa.MineIns
