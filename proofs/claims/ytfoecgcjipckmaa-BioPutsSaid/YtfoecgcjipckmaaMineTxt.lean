/- bio's reader: what Text tells, and the statements' head. No condition but that the bytes are there. -/
import Derived.Test.YtfoecgcjipckmaaMineNum
namespace Go.Proofs.Ytfoecgcjipckmaa.MineTxt
open Go.RowKit Go.Proofs.YtfoecgcjipckmaaW.PrintWords Go.Proofs.YtfoecgcjipckmaaW.PrintLast Go.Proofs.YtfoecgcjipckmaaW.PrintMore Go.Proofs.Ytfoecgcjipckmaa.MineBase Go.Proofs.Ytfoecgcjipckmaa.MineRd Go.Proofs.Ytfoecgcjipckmaa.MineNum Go.Proofs.Ytfoecgcjipckmaa.QBioReads
attribute [local go_sem] max2_int min2_int max_two min_two max_three min_three max_four min_four   -- for this text's walks alone
set_option linter.unusedVariables false
set_option linter.unusedSimpArgs false
theorem conv_nil (W : World) : (convert 30 9 (.slice none 0 0)).run Try.prog W = .ok (.string (strOfNums [])) W :=
  Kd.C_string Try.underlying30 Try.underlying5 Try.underlying9 ⟨rfl, by decide, fun h => absurd h (Nat.lt_irrefl 0)⟩
/-- Nothing is left. -/
theorem Text_none (g : Nat) (sh : Bool) (w0 w : World) (hI : IsRd w0 w g [] sh) (hB : Below w0.heap.size w0 w) :
    Calls Try.prog 31 #[.pointer (some ⟨g, 0, none⟩)] w fun e w' => e = .returned (.string (strOfNums [])) ∧ IsRd w0 w' g [] true ∧ Below w0.heap.size w0 w' ∧ KeepBut w w' g none := by
  have HC := Aside0.mk (Number_out g [] sh 1 w0 w hI hB (by decide) (by decide) (by decide))
  clear hI hB
  go_enter Try.func31, Try.ntmps31
  go_wp2_with fail
  refine HC.out.mono ?_
  rintro e1 w1 ⟨rfl, hI1, hB1, hK1⟩
  have HI1 := Aside0.mk hI1
  have HB1 := Aside0.mk hB1
  have HK1 := Aside0.mk hK1
  clear hI1 hB1 hK1 HC
  go_wp2_with fail
  refine (next_short g [] 0 w0 w1 HI1.out (by decide)).mono ?_
  rintro e2 w2 ⟨rfl, rfl⟩
  have hc := conv_nil w1
  go_wp2
  go_ret
  exact ⟨by rfl, HI1.out, HB1.out, HK1.out⟩
theorem one_byte (b : Int) (l : List Int) (hb : 0 ≤ b ∧ b ≤ 255) : ((wsum (b :: l) 1 : Nat) : Int) = b := by
  unfold wsum wsum byt
  simp
  omega
/-- The text is there. -/
theorem Text_in (g : Nat) (b : Int) (l : List Int) (w0 w : World) (hI : IsRd w0 w g (b :: l) false) (hB : Below w0.heap.size w0 w) (hb : ∀ x ∈ b :: l, 0 ≤ x ∧ x ≤ 255) (h : b ≤ l.length) :
    Calls Try.prog 31 #[.pointer (some ⟨g, 0, none⟩)] w fun e w' => e = .returned (.string (strOfNums (l.take b.toNat))) ∧ IsRd w0 w' g (l.drop b.toNat) false ∧ Below w0.heap.size w0 w' ∧ KeepBut w w' g none := by
  have hb0 := hb b List.mem_cons_self
  have hC := Number_in g (b :: l) 1 w0 w hI hB (by decide) (by decide) (by simp) hb
  rw [one_byte b l hb0] at hC
  have HC := Aside0.mk hC
  have Hb := Aside0.mk (And.intro hb0 h)
  have hw : IntKind.i64.wrap b = b := (i64_w _).trans (show wrap64 _ = _ by unfold wrap64; omega)
  clear hI hB hb0 hC hb h
  go_enter Try.func31, Try.ntmps31
  go_wp2_with fail
  refine HC.out.mono ?_
  rintro e1 w1 ⟨rfl, hI1, hB1, hK1⟩
  have HI1 := Aside0.mk (show IsRd w0 w1 g l false from hI1)
  have HB1 := Aside0.mk hB1
  have HK1 := Aside0.mk hK1
  clear hI1 hB1 hK1 HC
  go_wp2_with fail
  refine (next_in g l b w0 w1 HI1.out HB1.out Hb.out.1.1 Hb.out.2).mono ?_
  rintro e2 w2 ⟨⟨A, c, rfl, hC, hc⟩, hI2, hB2, hK2⟩
  have HI2 := Aside0.mk hI2
  have HB2 := Aside0.mk hB2
  have HK2 := Aside0.mk (HK1.out.trans hK2 (.inl rfl))
  have hs := Kd.C_string Try.underlying30 Try.underlying5 Try.underlying9 (c := c) (Kd.C_below hC hB2)
  generalize hL : (l.take b.toNat).length = n at *
  have hs' := hs
  clear hI2 hB2 hK2 hC hc hL hs'
  go_wp2
  go_ret
  exact ⟨by rfl, HI2.out, HB2.out, HK2.out⟩
/-- More than is left. -/
theorem Text_out (g : Nat) (b : Int) (l : List Int) (w0 w : World) (hI : IsRd w0 w g (b :: l) false) (hB : Below w0.heap.size w0 w) (hb : ∀ x ∈ b :: l, 0 ≤ x ∧ x ≤ 255) (h : (l.length : Int) < b) :
    Calls Try.prog 31 #[.pointer (some ⟨g, 0, none⟩)] w fun e w' => e = .returned (.string (strOfNums [])) ∧ IsRd w0 w' g [] true ∧ Below w0.heap.size w0 w' ∧ KeepBut w w' g none := by
  have hb0 := hb b List.mem_cons_self
  have hC := Number_in g (b :: l) 1 w0 w hI hB (by decide) (by decide) (by simp) hb
  rw [one_byte b l hb0] at hC
  have HC := Aside0.mk hC
  have Hb := Aside0.mk h
  have hw : IntKind.i64.wrap b = b := (i64_w _).trans (show wrap64 _ = _ by unfold wrap64; omega)
  clear hI hB hb0 hC hb h
  go_enter Try.func31, Try.ntmps31
  go_wp2_with fail
  refine HC.out.mono ?_
  rintro e1 w1 ⟨rfl, hI1, hB1, hK1⟩
  have HI1 := Aside0.mk (show IsRd w0 w1 g l false from hI1)
  have HB1 := Aside0.mk hB1
  have HK1 := Aside0.mk hK1
  clear hI1 hB1 hK1 HC
  go_wp2_with fail
  refine (next_out g l false b w0 w1 HI1.out HB1.out Hb.out).mono ?_
  rintro e2 w2 ⟨rfl, hI2, hB2, hK2⟩
  have HI2 := Aside0.mk hI2
  have HB2 := Aside0.mk hB2
  have HK2 := Aside0.mk (HK1.out.trans hK2 (.inl rfl))
  have hc := conv_nil w2
  clear hI2 hB2 hK2
  go_wp2
  go_ret
  exact ⟨by rfl, HI2.out, HB2.out, HK2.out⟩
end Go.Proofs.Ytfoecgcjipckmaa.MineTxt
