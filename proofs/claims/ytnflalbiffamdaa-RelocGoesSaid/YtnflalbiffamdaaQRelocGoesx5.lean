/- RelocGoes: the machine's side, written by a program of this workplace: for each Go function the answers that its Lean function tells. No condition but that the Lean function tells. -/
import Derived.Test.YtnflalbiffamdaaQRelocGoesx0
import Derived.Test.YtnflalbiffamdaaQRelocGoesx2
import Derived.Test.YtnflalbiffamdaaQRelocGoesx3
import Derived.Test.YtnflalbiffamdaaQRelocGoesx4
namespace Go.Proofs.Ytnflalbiffamdaa.QRelocGoes
open Go.RowKit Go.Proofs.YtnflalbiffamdaaW.PrintWords Go.Proofs.YtnflalbiffamdaaW.PrintLast Go.Proofs.YtnflalbiffamdaaW.PrintMore Go.Proofs.Ytnflalbiffamdaa.MineBase
attribute [local go_sem] max2_int min2_int max_two min_two max_three min_three max_four min_four   -- for this text's walks alone
attribute [local go_sem] Go.Proofs.Ytnflalbiffamdaa.MineErr.eql_err Go.Proofs.Ytnflalbiffamdaa.MineErr.neq_err Go.Proofs.Ytnflalbiffamdaa.MineErr.eql_nil_err Go.Proofs.Ytnflalbiffamdaa.MineErr.neq_nil_err
set_option linter.unusedVariables false
set_option linter.unusedSimpArgs false

/-! ### dowellaw17_RelocGoes: function 6 -/
mutual
def dowellaw17_RelocGoes.j0 : Nat → Int → Int → Int → Int → Int → Bool → Bool → Bool → Option (Bool)
  | 0, _, _, _, _, _, _, _, _ => none
  | k + 1, x0, x1, x2, x3, x4, x5, x13, x62 => if x62 = true then (some x13) else (if x5 = true then (dowellaw17_RelocGoes.j1 k x0 x1 x2 x3 x4 x5 x13 1 x4 0 0) else (dowellaw17_RelocGoes.j1 k x0 x1 x2 x3 x4 x5 x13 20 x4 0 0))
def dowellaw17_RelocGoes.j1 : Nat → Int → Int → Int → Int → Int → Bool → Bool → Int → Int → Int → Int → Option (Bool)
  | 0, _, _, _, _, _, _, _, _, _, _, _ => none
  | k + 1, x0, x1, x2, x3, x4, x5, x13, x184000, x184001, x184002, x184003 => if 0 ≤ x0 then (if (x0 : Int).toNat ≤ 70368744177664 then (dowellaw17_RelocGoes.l0 k x0 x1 x2 x3 x4 x5 x13 (List.replicate (x0 : Int).toNat 0) 0 x184000 x184001 x184002 x184003) else (none)) else (none)
def dowellaw17_RelocGoes.l0 : Nat → Int → Int → Int → Int → Int → Bool → Bool → List Int → Int → Int → Int → Int → Int → Option (Bool)
  | 0, _, _, _, _, _, _, _, _, _, _, _, _, _ => none
  | k + 1, x0, x1, x2, x3, x4, x5, x13, x15, x16, x184000, x184001, x184002, x184003 => if x16 < x0 then (if 0 ≤ x16 then (if x16 < (x15.length : Int) then (dowellaw17_RelocGoes.l0 k x0 x1 x2 x3 x4 x5 x13 (x15.set (x16 : Int).toNat ((((x16) % 4294967296) * 77) % 4294967296)) (wrap64 (x16 + 1)) x184000 x184001 x184002 x184003) else (none)) else (none)) else ((dowelref01_PutIns.f x184000 x184001 x184002 x184003).bind fun t188 => (if 0 ≤ x1 then (if x1 < (x15.length : Int) then ((some (x15.set (x1 : Int).toNat t188 : List Int)).bind fun y189 => ((reloc_Link.f k y189 x2 (([(⟨x1, x3⟩ : S64)] : List (S64)))).bind fun bt193 => (if bt193.2.isNone = true then (dowellaw17_RelocGoes.j3 k x0 x1 x2 x3 x4 x5 x13 y189 bt193.1 ((bt193.1.length : Int) != x0) x184000 x184001 x184002 x184003) else (dowellaw17_RelocGoes.j3 k x0 x1 x2 x3 x4 x5 x13 y189 bt193.1 true x184000 x184001 x184002 x184003)))) else (none)) else (none)))
def dowellaw17_RelocGoes.j3 : Nat → Int → Int → Int → Int → Int → Bool → Bool → List Int → List Int → Bool → Int → Int → Int → Int → Option (Bool)
  | 0, _, _, _, _, _, _, _, _, _, _, _, _, _, _ => none
  | k + 1, x0, x1, x2, x3, x4, x5, x13, x15, x17, x103, x184000, x184001, x184002, x184003 => if x103 = true then (some false) else (dowellaw17_RelocGoes.l1 k x0 x1 x2 x3 x4 x5 x13 x15 x17 0 x184000 x184001 x184002 x184003)
def dowellaw17_RelocGoes.l1 : Nat → Int → Int → Int → Int → Int → Bool → Bool → List Int → List Int → Int → Int → Int → Int → Int → Option (Bool)
  | 0, _, _, _, _, _, _, _, _, _, _, _, _, _, _ => none
  | k + 1, x0, x1, x2, x3, x4, x5, x13, x15, x17, x19, x184000, x184001, x184002, x184003 => if x19 < x0 then (if x19 = x1 then (dowellaw17_RelocGoes.l1 k x0 x1 x2 x3 x4 x5 x13 x15 x17 (wrap64 (x19 + 1)) x184000 x184001 x184002 x184003) else (if 0 ≤ x19 then (if x19 < (x17.length : Int) then (if x19 < (x15.length : Int) then (if (rd x17 x19) = (rd x15 x19) then (dowellaw17_RelocGoes.l1 k x0 x1 x2 x3 x4 x5 x13 x15 x17 (wrap64 (x19 + 1)) x184000 x184001 x184002 x184003) else (some false)) else (none)) else (none)) else (none))) else (if 0 ≤ x1 then (if x1 < (x17.length : Int) then ((dowelref01_GetIns.f k (rd x17 x1)).bind fun bt201 => (if bt201.2.2.2.2 = true then (if bt201.1 = x184000 then (if bt201.2.1 = x4 then (dowellaw17_RelocGoes.j5 k x1 x2 x3 x5 x13 (bt201.2.2.1 != 0) bt201.1 bt201.2.1 bt201.2.2.1 bt201.2.2.2.1) else (dowellaw17_RelocGoes.j5 k x1 x2 x3 x5 x13 true bt201.1 bt201.2.1 bt201.2.2.1 bt201.2.2.2.1)) else (dowellaw17_RelocGoes.j5 k x1 x2 x3 x5 x13 true bt201.1 bt201.2.1 bt201.2.2.1 bt201.2.2.2.1)) else (dowellaw17_RelocGoes.j5 k x1 x2 x3 x5 x13 true bt201.1 bt201.2.1 bt201.2.2.1 bt201.2.2.2.1))) else (none)) else (none))
def dowellaw17_RelocGoes.j5 : Nat → Int → Int → Int → Bool → Bool → Bool → Int → Int → Int → Int → Option (Bool)
  | 0, _, _, _, _, _, _, _, _, _, _ => none
  | k + 1, x1, x2, x3, x5, x13, x150, x207000, x207001, x207002, x207003 => if x150 = true then (some false) else (if x5 = true then (if x13 = true then (some (x207003 == x3)) else (some false)) else (if x13 = true then (if (Int.tmod (wrap64 (x3 - (wrap64 ((wrap64 (x2 + (wrap64 (4 * x1)))) + 4)))) 4) = 0 then (some ((wrap64 ((wrap64 ((wrap64 (x2 + (wrap64 (4 * x1)))) + 4)) + (wrap64 (4 * x207003)))) == x3)) else (some true)) else (some false)))
end
def dowellaw17_RelocGoes.f (k : Nat) (a0 : Int) (a1 : Int) (a2 : Int) (a3 : Int) (a4 : Int) (a5 : Bool) : Option (Bool) := (dowellaw17_up.f k).bind fun t182 => (if a0 < 1 then (dowellaw17_RelocGoes.j0 k a0 a1 a2 a3 a4 a5 t182 true) else (if a0 > 100 then (dowellaw17_RelocGoes.j0 k a0 a1 a2 a3 a4 a5 t182 true) else (if a1 < 0 then (dowellaw17_RelocGoes.j0 k a0 a1 a2 a3 a4 a5 t182 true) else (if a1 ≥ a0 then (dowellaw17_RelocGoes.j0 k a0 a1 a2 a3 a4 a5 t182 true) else (if a2 < 0 then (dowellaw17_RelocGoes.j0 k a0 a1 a2 a3 a4 a5 t182 true) else (if a2 > 60000 then (dowellaw17_RelocGoes.j0 k a0 a1 a2 a3 a4 a5 t182 true) else (if a3 < 0 then (dowellaw17_RelocGoes.j0 k a0 a1 a2 a3 a4 a5 t182 true) else (if a3 > 65536 then (dowellaw17_RelocGoes.j0 k a0 a1 a2 a3 a4 a5 t182 true) else (if a4 < 0 then (dowellaw17_RelocGoes.j0 k a0 a1 a2 a3 a4 a5 t182 true) else (dowellaw17_RelocGoes.j0 k a0 a1 a2 a3 a4 a5 t182 (decide (a4 > 15))))))))))))
theorem dowellaw17_RelocGoes.mono_l : ∀ k, (∀ y0 y1 y2 y3 y4 y5 y6 y7, LeO (dowellaw17_RelocGoes.j0 k y0 y1 y2 y3 y4 y5 y6 y7) (dowellaw17_RelocGoes.j0 (k + 1) y0 y1 y2 y3 y4 y5 y6 y7)) ∧ (∀ y0 y1 y2 y3 y4 y5 y6 y7 y8 y9 y10, LeO (dowellaw17_RelocGoes.j1 k y0 y1 y2 y3 y4 y5 y6 y7 y8 y9 y10) (dowellaw17_RelocGoes.j1 (k + 1) y0 y1 y2 y3 y4 y5 y6 y7 y8 y9 y10)) ∧ (∀ y0 y1 y2 y3 y4 y5 y6 y7 y8 y9 y10 y11 y12, LeO (dowellaw17_RelocGoes.l0 k y0 y1 y2 y3 y4 y5 y6 y7 y8 y9 y10 y11 y12) (dowellaw17_RelocGoes.l0 (k + 1) y0 y1 y2 y3 y4 y5 y6 y7 y8 y9 y10 y11 y12)) ∧ (∀ y0 y1 y2 y3 y4 y5 y6 y7 y8 y9 y10 y11 y12 y13, LeO (dowellaw17_RelocGoes.j3 k y0 y1 y2 y3 y4 y5 y6 y7 y8 y9 y10 y11 y12 y13) (dowellaw17_RelocGoes.j3 (k + 1) y0 y1 y2 y3 y4 y5 y6 y7 y8 y9 y10 y11 y12 y13)) ∧ (∀ y0 y1 y2 y3 y4 y5 y6 y7 y8 y9 y10 y11 y12 y13, LeO (dowellaw17_RelocGoes.l1 k y0 y1 y2 y3 y4 y5 y6 y7 y8 y9 y10 y11 y12 y13) (dowellaw17_RelocGoes.l1 (k + 1) y0 y1 y2 y3 y4 y5 y6 y7 y8 y9 y10 y11 y12 y13)) ∧ (∀ y0 y1 y2 y3 y4 y5 y6 y7 y8 y9, LeO (dowellaw17_RelocGoes.j5 k y0 y1 y2 y3 y4 y5 y6 y7 y8 y9) (dowellaw17_RelocGoes.j5 (k + 1) y0 y1 y2 y3 y4 y5 y6 y7 y8 y9))
  | 0 => ⟨fun _ _ _ _ _ _ _ _ r h => by simp [dowellaw17_RelocGoes.j0] at h, fun _ _ _ _ _ _ _ _ _ _ _ r h => by simp [dowellaw17_RelocGoes.j1] at h, fun _ _ _ _ _ _ _ _ _ _ _ _ _ r h => by simp [dowellaw17_RelocGoes.l0] at h, fun _ _ _ _ _ _ _ _ _ _ _ _ _ _ r h => by simp [dowellaw17_RelocGoes.j3] at h, fun _ _ _ _ _ _ _ _ _ _ _ _ _ _ r h => by simp [dowellaw17_RelocGoes.l1] at h, fun _ _ _ _ _ _ _ _ _ _ r h => by simp [dowellaw17_RelocGoes.j5] at h⟩
  | k + 1 => by
    obtain ⟨ih0, ih1, ih2, ih3, ih4, ih5⟩ := dowellaw17_RelocGoes.mono_l k
    refine ⟨?_, ?_, ?_, ?_, ?_, ?_⟩
    · intro y0 y1 y2 y3 y4 y5 y6 y7
      unfold dowellaw17_RelocGoes.j0
      repeat' first
      | (with_reducible exact ih0 _ _ _ _ _ _ _ _)
      | (with_reducible exact ih1 _ _ _ _ _ _ _ _ _ _ _)
      | (with_reducible exact ih2 _ _ _ _ _ _ _ _ _ _ _ _ _)
      | (with_reducible exact ih3 _ _ _ _ _ _ _ _ _ _ _ _ _ _)
      | (with_reducible exact ih4 _ _ _ _ _ _ _ _ _ _ _ _ _ _)
      | (with_reducible exact ih5 _ _ _ _ _ _ _ _ _ _)
      | (with_reducible exact dowellaw17_up.mono _)
      | (with_reducible exact dowelref01_GetIns.mono _ _)
      | (with_reducible exact reloc_Link.mono _ _ _ _)
      | (with_reducible exact LeO.refl _)
      | (with_reducible exact LeO.none _)
      | (with_reducible refine LeO.ite ?_ ?_)
      | (with_reducible refine LeO.bind ?_ (fun _ => ?_))
      | exact ih0 _ _ _ _ _ _ _ _
      | exact ih1 _ _ _ _ _ _ _ _ _ _ _
      | exact ih2 _ _ _ _ _ _ _ _ _ _ _ _ _
      | exact ih3 _ _ _ _ _ _ _ _ _ _ _ _ _ _
      | exact ih4 _ _ _ _ _ _ _ _ _ _ _ _ _ _
      | exact ih5 _ _ _ _ _ _ _ _ _ _
      | exact dowellaw17_up.mono _
      | exact dowelref01_GetIns.mono _ _
      | exact reloc_Link.mono _ _ _ _
      | exact LeO.none _
      | refine LeO.ite ?_ ?_
      | refine LeO.bind ?_ (fun _ => ?_)
    · intro y0 y1 y2 y3 y4 y5 y6 y7 y8 y9 y10
      unfold dowellaw17_RelocGoes.j1
      repeat' first
      | (with_reducible exact ih0 _ _ _ _ _ _ _ _)
      | (with_reducible exact ih1 _ _ _ _ _ _ _ _ _ _ _)
      | (with_reducible exact ih2 _ _ _ _ _ _ _ _ _ _ _ _ _)
      | (with_reducible exact ih3 _ _ _ _ _ _ _ _ _ _ _ _ _ _)
      | (with_reducible exact ih4 _ _ _ _ _ _ _ _ _ _ _ _ _ _)
      | (with_reducible exact ih5 _ _ _ _ _ _ _ _ _ _)
      | (with_reducible exact dowellaw17_up.mono _)
      | (with_reducible exact dowelref01_GetIns.mono _ _)
      | (with_reducible exact reloc_Link.mono _ _ _ _)
      | (with_reducible exact LeO.refl _)
      | (with_reducible exact LeO.none _)
      | (with_reducible refine LeO.ite ?_ ?_)
      | (with_reducible refine LeO.bind ?_ (fun _ => ?_))
      | exact ih0 _ _ _ _ _ _ _ _
      | exact ih1 _ _ _ _ _ _ _ _ _ _ _
      | exact ih2 _ _ _ _ _ _ _ _ _ _ _ _ _
      | exact ih3 _ _ _ _ _ _ _ _ _ _ _ _ _ _
      | exact ih4 _ _ _ _ _ _ _ _ _ _ _ _ _ _
      | exact ih5 _ _ _ _ _ _ _ _ _ _
      | exact dowellaw17_up.mono _
      | exact dowelref01_GetIns.mono _ _
      | exact reloc_Link.mono _ _ _ _
      | exact LeO.none _
      | refine LeO.ite ?_ ?_
      | refine LeO.bind ?_ (fun _ => ?_)
    · intro y0 y1 y2 y3 y4 y5 y6 y7 y8 y9 y10 y11 y12
      unfold dowellaw17_RelocGoes.l0
      repeat' first
      | (with_reducible exact ih0 _ _ _ _ _ _ _ _)
      | (with_reducible exact ih1 _ _ _ _ _ _ _ _ _ _ _)
      | (with_reducible exact ih2 _ _ _ _ _ _ _ _ _ _ _ _ _)
      | (with_reducible exact ih3 _ _ _ _ _ _ _ _ _ _ _ _ _ _)
      | (with_reducible exact ih4 _ _ _ _ _ _ _ _ _ _ _ _ _ _)
      | (with_reducible exact ih5 _ _ _ _ _ _ _ _ _ _)
      | (with_reducible exact dowellaw17_up.mono _)
      | (with_reducible exact dowelref01_GetIns.mono _ _)
      | (with_reducible exact reloc_Link.mono _ _ _ _)
      | (with_reducible exact LeO.refl _)
      | (with_reducible exact LeO.none _)
      | (with_reducible refine LeO.ite ?_ ?_)
      | (with_reducible refine LeO.bind ?_ (fun _ => ?_))
      | exact ih0 _ _ _ _ _ _ _ _
      | exact ih1 _ _ _ _ _ _ _ _ _ _ _
      | exact ih2 _ _ _ _ _ _ _ _ _ _ _ _ _
      | exact ih3 _ _ _ _ _ _ _ _ _ _ _ _ _ _
      | exact ih4 _ _ _ _ _ _ _ _ _ _ _ _ _ _
      | exact ih5 _ _ _ _ _ _ _ _ _ _
      | exact dowellaw17_up.mono _
      | exact dowelref01_GetIns.mono _ _
      | exact reloc_Link.mono _ _ _ _
      | exact LeO.none _
      | refine LeO.ite ?_ ?_
      | refine LeO.bind ?_ (fun _ => ?_)
    · intro y0 y1 y2 y3 y4 y5 y6 y7 y8 y9 y10 y11 y12 y13
      unfold dowellaw17_RelocGoes.j3
      repeat' first
      | (with_reducible exact ih0 _ _ _ _ _ _ _ _)
      | (with_reducible exact ih1 _ _ _ _ _ _ _ _ _ _ _)
      | (with_reducible exact ih2 _ _ _ _ _ _ _ _ _ _ _ _ _)
      | (with_reducible exact ih3 _ _ _ _ _ _ _ _ _ _ _ _ _ _)
      | (with_reducible exact ih4 _ _ _ _ _ _ _ _ _ _ _ _ _ _)
      | (with_reducible exact ih5 _ _ _ _ _ _ _ _ _ _)
      | (with_reducible exact dowellaw17_up.mono _)
      | (with_reducible exact dowelref01_GetIns.mono _ _)
      | (with_reducible exact reloc_Link.mono _ _ _ _)
      | (with_reducible exact LeO.refl _)
      | (with_reducible exact LeO.none _)
      | (with_reducible refine LeO.ite ?_ ?_)
      | (with_reducible refine LeO.bind ?_ (fun _ => ?_))
      | exact ih0 _ _ _ _ _ _ _ _
      | exact ih1 _ _ _ _ _ _ _ _ _ _ _
      | exact ih2 _ _ _ _ _ _ _ _ _ _ _ _ _
      | exact ih3 _ _ _ _ _ _ _ _ _ _ _ _ _ _
      | exact ih4 _ _ _ _ _ _ _ _ _ _ _ _ _ _
      | exact ih5 _ _ _ _ _ _ _ _ _ _
      | exact dowellaw17_up.mono _
      | exact dowelref01_GetIns.mono _ _
      | exact reloc_Link.mono _ _ _ _
      | exact LeO.none _
      | refine LeO.ite ?_ ?_
      | refine LeO.bind ?_ (fun _ => ?_)
    · intro y0 y1 y2 y3 y4 y5 y6 y7 y8 y9 y10 y11 y12 y13
      unfold dowellaw17_RelocGoes.l1
      repeat' first
      | (with_reducible exact ih0 _ _ _ _ _ _ _ _)
      | (with_reducible exact ih1 _ _ _ _ _ _ _ _ _ _ _)
      | (with_reducible exact ih2 _ _ _ _ _ _ _ _ _ _ _ _ _)
      | (with_reducible exact ih3 _ _ _ _ _ _ _ _ _ _ _ _ _ _)
      | (with_reducible exact ih4 _ _ _ _ _ _ _ _ _ _ _ _ _ _)
      | (with_reducible exact ih5 _ _ _ _ _ _ _ _ _ _)
      | (with_reducible exact dowellaw17_up.mono _)
      | (with_reducible exact dowelref01_GetIns.mono _ _)
      | (with_reducible exact reloc_Link.mono _ _ _ _)
      | (with_reducible exact LeO.refl _)
      | (with_reducible exact LeO.none _)
      | (with_reducible refine LeO.ite ?_ ?_)
      | (with_reducible refine LeO.bind ?_ (fun _ => ?_))
      | exact ih0 _ _ _ _ _ _ _ _
      | exact ih1 _ _ _ _ _ _ _ _ _ _ _
      | exact ih2 _ _ _ _ _ _ _ _ _ _ _ _ _
      | exact ih3 _ _ _ _ _ _ _ _ _ _ _ _ _ _
      | exact ih4 _ _ _ _ _ _ _ _ _ _ _ _ _ _
      | exact ih5 _ _ _ _ _ _ _ _ _ _
      | exact dowellaw17_up.mono _
      | exact dowelref01_GetIns.mono _ _
      | exact reloc_Link.mono _ _ _ _
      | exact LeO.none _
      | refine LeO.ite ?_ ?_
      | refine LeO.bind ?_ (fun _ => ?_)
    · intro y0 y1 y2 y3 y4 y5 y6 y7 y8 y9
      unfold dowellaw17_RelocGoes.j5
      repeat' first
      | (with_reducible exact ih0 _ _ _ _ _ _ _ _)
      | (with_reducible exact ih1 _ _ _ _ _ _ _ _ _ _ _)
      | (with_reducible exact ih2 _ _ _ _ _ _ _ _ _ _ _ _ _)
      | (with_reducible exact ih3 _ _ _ _ _ _ _ _ _ _ _ _ _ _)
      | (with_reducible exact ih4 _ _ _ _ _ _ _ _ _ _ _ _ _ _)
      | (with_reducible exact ih5 _ _ _ _ _ _ _ _ _ _)
      | (with_reducible exact dowellaw17_up.mono _)
      | (with_reducible exact dowelref01_GetIns.mono _ _)
      | (with_reducible exact reloc_Link.mono _ _ _ _)
      | (with_reducible exact LeO.refl _)
      | (with_reducible exact LeO.none _)
      | (with_reducible refine LeO.ite ?_ ?_)
      | (with_reducible refine LeO.bind ?_ (fun _ => ?_))
      | exact ih0 _ _ _ _ _ _ _ _
      | exact ih1 _ _ _ _ _ _ _ _ _ _ _
      | exact ih2 _ _ _ _ _ _ _ _ _ _ _ _ _
      | exact ih3 _ _ _ _ _ _ _ _ _ _ _ _ _ _
      | exact ih4 _ _ _ _ _ _ _ _ _ _ _ _ _ _
      | exact ih5 _ _ _ _ _ _ _ _ _ _
      | exact dowellaw17_up.mono _
      | exact dowelref01_GetIns.mono _ _
      | exact reloc_Link.mono _ _ _ _
      | exact LeO.none _
      | refine LeO.ite ?_ ?_
      | refine LeO.bind ?_ (fun _ => ?_)
theorem dowellaw17_RelocGoes.mono : ∀ a0 a1 a2 a3 a4 a5 k, LeO (dowellaw17_RelocGoes.f k a0 a1 a2 a3 a4 a5) (dowellaw17_RelocGoes.f (k + 1) a0 a1 a2 a3 a4 a5) := by
  intro a0 a1 a2 a3 a4 a5 k
  obtain ⟨ih0, ih1, ih2, ih3, ih4, ih5⟩ := dowellaw17_RelocGoes.mono_l k
  unfold dowellaw17_RelocGoes.f
  repeat' first
      | (with_reducible exact ih0 _ _ _ _ _ _ _ _)
      | (with_reducible exact ih1 _ _ _ _ _ _ _ _ _ _ _)
      | (with_reducible exact ih2 _ _ _ _ _ _ _ _ _ _ _ _ _)
      | (with_reducible exact ih3 _ _ _ _ _ _ _ _ _ _ _ _ _ _)
      | (with_reducible exact ih4 _ _ _ _ _ _ _ _ _ _ _ _ _ _)
      | (with_reducible exact ih5 _ _ _ _ _ _ _ _ _ _)
      | (with_reducible exact dowellaw17_up.mono _)
      | (with_reducible exact dowelref01_GetIns.mono _ _)
      | (with_reducible exact reloc_Link.mono _ _ _ _)
      | (with_reducible exact LeO.refl _)
      | (with_reducible exact LeO.none _)
      | (with_reducible refine LeO.ite ?_ ?_)
      | (with_reducible refine LeO.bind ?_ (fun _ => ?_))
      | exact ih0 _ _ _ _ _ _ _ _
      | exact ih1 _ _ _ _ _ _ _ _ _ _ _
      | exact ih2 _ _ _ _ _ _ _ _ _ _ _ _ _
      | exact ih3 _ _ _ _ _ _ _ _ _ _ _ _ _ _
      | exact ih4 _ _ _ _ _ _ _ _ _ _ _ _ _ _
      | exact ih5 _ _ _ _ _ _ _ _ _ _
      | exact dowellaw17_up.mono _
      | exact dowelref01_GetIns.mono _ _
      | exact reloc_Link.mono _ _ _ _
      | exact LeO.none _
      | refine LeO.ite ?_ ?_
      | refine LeO.bind ?_ (fun _ => ?_)
set_option maxHeartbeats 8000000 in
set_option maxRecDepth 100000 in
theorem dowellaw17_RelocGoes.calls (k : Nat) (a0 : Int) (a1 : Int) (a2 : Int) (a3 : Int) (a4 : Int) (a5 : Bool) (r : Bool) (w : World) (h : dowellaw17_RelocGoes.f k a0 a1 a2 a3 a4 a5 = some r) :
    Calls Try.prog 6 #[.int .i64 a0, .int .i64 a1, .int .i64 a2, .int .i64 a3, .int .i64 a4, .bool a5] w fun e w' => e = .returned (.bool r) ∧ Below w.heap.size w w' := by
  have hu46 := Try.underlying46
  have hu64 := Try.underlying64
  have hu49 := Try.underlying49
  have hu55 := Try.underlying55
  have HB := Aside0.mk (Below.refl w.heap.size w)
  have H : ((dowellaw17_up.f k).bind fun t182 => (if a0 < 1 then (dowellaw17_RelocGoes.j0 k a0 a1 a2 a3 a4 a5 t182 true) else (if a0 > 100 then (dowellaw17_RelocGoes.j0 k a0 a1 a2 a3 a4 a5 t182 true) else (if a1 < 0 then (dowellaw17_RelocGoes.j0 k a0 a1 a2 a3 a4 a5 t182 true) else (if a1 ≥ a0 then (dowellaw17_RelocGoes.j0 k a0 a1 a2 a3 a4 a5 t182 true) else (if a2 < 0 then (dowellaw17_RelocGoes.j0 k a0 a1 a2 a3 a4 a5 t182 true) else (if a2 > 60000 then (dowellaw17_RelocGoes.j0 k a0 a1 a2 a3 a4 a5 t182 true) else (if a3 < 0 then (dowellaw17_RelocGoes.j0 k a0 a1 a2 a3 a4 a5 t182 true) else (if a3 > 65536 then (dowellaw17_RelocGoes.j0 k a0 a1 a2 a3 a4 a5 t182 true) else (if a4 < 0 then (dowellaw17_RelocGoes.j0 k a0 a1 a2 a3 a4 a5 t182 true) else (dowellaw17_RelocGoes.j0 k a0 a1 a2 a3 a4 a5 t182 (decide (a4 > 15))))))))))))) = some r := h
  clear h
  replace H := Option.bind_eq_some_iff.mp H
  obtain ⟨t182, A70, H⟩ := H
  replace H : (if a0 < 1 then (dowellaw17_RelocGoes.j0 k a0 a1 a2 a3 a4 a5 t182 true) else (if a0 > 100 then (dowellaw17_RelocGoes.j0 k a0 a1 a2 a3 a4 a5 t182 true) else (if a1 < 0 then (dowellaw17_RelocGoes.j0 k a0 a1 a2 a3 a4 a5 t182 true) else (if a1 ≥ a0 then (dowellaw17_RelocGoes.j0 k a0 a1 a2 a3 a4 a5 t182 true) else (if a2 < 0 then (dowellaw17_RelocGoes.j0 k a0 a1 a2 a3 a4 a5 t182 true) else (if a2 > 60000 then (dowellaw17_RelocGoes.j0 k a0 a1 a2 a3 a4 a5 t182 true) else (if a3 < 0 then (dowellaw17_RelocGoes.j0 k a0 a1 a2 a3 a4 a5 t182 true) else (if a3 > 65536 then (dowellaw17_RelocGoes.j0 k a0 a1 a2 a3 a4 a5 t182 true) else (if a4 < 0 then (dowellaw17_RelocGoes.j0 k a0 a1 a2 a3 a4 a5 t182 true) else (dowellaw17_RelocGoes.j0 k a0 a1 a2 a3 a4 a5 t182 (decide (a4 > 15)))))))))))) = some r := H
  have A7 := Aside0.mk A70
  clear A70
  have HC8 := Aside0.mk H
  clear H
  go_enter Try.func6, Try.ntmps6
  go_upto_region 2 with (first | (go_at_call 25; (with_reducible refine (dowellaw17_up.calls k  t182 _ A7.out).mono ?_); rintro e w9 ⟨rfl, hb⟩; have n0_ := Aside0.mk (below_step (by repeat (first | (with_reducible first | exact HB.out | apply below_alloc | apply pw_below_drewN | apply below_drew1) | exact HB.out)) hb); clear HB; have HB := n0_; clear n0_; (try clear hb); (try clear hb2); (try clear hk); (try clear hi)))
  repeat (go_quiet (first | (go_at_call 25; (with_reducible refine (dowellaw17_up.calls k  t182 _ A7.out).mono ?_); rintro e w9 ⟨rfl, hb⟩; have n0_ := Aside0.mk (below_step (by repeat (first | (with_reducible first | exact HB.out | apply below_alloc | apply pw_below_drewN | apply below_drew1) | exact HB.out)) hb); clear HB; have HB := n0_; clear n0_; (try clear hb); (try clear hb2); (try clear hk); (try clear hi))); go_upto_region 2 with (first | (go_at_call 25; (with_reducible refine (dowellaw17_up.calls k  t182 _ A7.out).mono ?_); rintro e w9 ⟨rfl, hb⟩; have n0_ := Aside0.mk (below_step (by repeat (first | (with_reducible first | exact HB.out | apply below_alloc | apply pw_below_drewN | apply below_drew1) | exact HB.out)) hb); clear HB; have HB := n0_; clear n0_; (try clear hb); (try clear hb2); (try clear hk); (try clear hi))))
  (try simp only [Act.put, List.setIfInBounds_toArray, List.set_cons_zero, List.set_cons_succ])
  go_cut [62] (fun v62 wc => ∃ (kq : Nat) (x62_7 : Bool), v62 = .bool x62_7 ∧ Aside0 (dowellaw17_RelocGoes.j0 kq a0 a1 a2 a3 a4 a5 t182 x62_7 = some r) ∧ Aside0 (kq ≤ k) ∧ Aside0 (Below w.heap.size w wc))
  case first =>
    have H := HC8.out
    clear HC8
    by_cases c10 : a0 < 1
    · rw [if_pos c10] at H
      have c10b0 : decide (a0 < 1) = true := decide_eq_true c10
      clear c10
      (first | rw [c10b0] | (simp only [i64_w, i32_w]; rw [c10b0]) | skip)
      have H' := Aside0.mk H
      clear H
      go_wp2
      repeat (go_quiet (fail); try go_wp2)
      go_meet
      case rel => exact ⟨_, (true), (by first | rfl | (simp; done) | (simp [*]; done)), H', ⟨by first | omega | exact Nat.le_refl _⟩, ⟨by repeat (first | (with_reducible first | exact HB.out | apply below_alloc | apply pw_below_drewN | apply below_drew1) | exact HB.out)⟩⟩
    · rw [if_neg c10] at H
      have c10b0 : decide (a0 < 1) = false := decide_eq_false c10
      clear c10
      (first | rw [c10b0] | (simp only [i64_w, i32_w]; rw [c10b0]) | skip)
      by_cases c11 : a0 > 100
      · rw [if_pos c11] at H
        have c11b0 : decide (100 < a0) = true := decide_eq_true c11
        clear c11
        have H' := Aside0.mk H
        clear H
        go_wp2
        repeat (go_quiet (fail); try go_wp2)
        go_meet
        case rel => exact ⟨_, (true), (by first | rfl | (simp; done) | (simp [*]; done)), H', ⟨by first | omega | exact Nat.le_refl _⟩, ⟨by repeat (first | (with_reducible first | exact HB.out | apply below_alloc | apply pw_below_drewN | apply below_drew1) | exact HB.out)⟩⟩
      · rw [if_neg c11] at H
        have c11b0 : decide (100 < a0) = false := decide_eq_false c11
        clear c11
        by_cases c12 : a1 < 0
        · rw [if_pos c12] at H
          have c12b0 : decide (a1 < 0) = true := decide_eq_true c12
          clear c12
          have H' := Aside0.mk H
          clear H
          go_wp2
          repeat (go_quiet (fail); try go_wp2)
          go_meet
          case rel => exact ⟨_, (true), (by first | rfl | (simp; done) | (simp [*]; done)), H', ⟨by first | omega | exact Nat.le_refl _⟩, ⟨by repeat (first | (with_reducible first | exact HB.out | apply below_alloc | apply pw_below_drewN | apply below_drew1) | exact HB.out)⟩⟩
        · rw [if_neg c12] at H
          have c12b0 : decide (a1 < 0) = false := decide_eq_false c12
          clear c12
          by_cases c13 : a1 ≥ a0
          · rw [if_pos c13] at H
            have c13b0 : decide (a0 ≤ a1) = true := decide_eq_true c13
            clear c13
            have H' := Aside0.mk H
            clear H
            go_wp2
            repeat (go_quiet (fail); try go_wp2)
            go_meet
            case rel => exact ⟨_, (true), (by first | rfl | (simp; done) | (simp [*]; done)), H', ⟨by first | omega | exact Nat.le_refl _⟩, ⟨by repeat (first | (with_reducible first | exact HB.out | apply below_alloc | apply pw_below_drewN | apply below_drew1) | exact HB.out)⟩⟩
          · rw [if_neg c13] at H
            have c13b0 : decide (a0 ≤ a1) = false := decide_eq_false c13
            clear c13
            by_cases c14 : a2 < 0
            · rw [if_pos c14] at H
              have c14b0 : decide (a2 < 0) = true := decide_eq_true c14
              clear c14
              have H' := Aside0.mk H
              clear H
              go_wp2
              repeat (go_quiet (fail); try go_wp2)
              go_meet
              case rel => exact ⟨_, (true), (by first | rfl | (simp; done) | (simp [*]; done)), H', ⟨by first | omega | exact Nat.le_refl _⟩, ⟨by repeat (first | (with_reducible first | exact HB.out | apply below_alloc | apply pw_below_drewN | apply below_drew1) | exact HB.out)⟩⟩
            · rw [if_neg c14] at H
              have c14b0 : decide (a2 < 0) = false := decide_eq_false c14
              clear c14
              by_cases c15 : a2 > 60000
              · rw [if_pos c15] at H
                have c15b0 : decide (60000 < a2) = true := decide_eq_true c15
                clear c15
                have H' := Aside0.mk H
                clear H
                go_wp2
                repeat (go_quiet (fail); try go_wp2)
                go_meet
                case rel => exact ⟨_, (true), (by first | rfl | (simp; done) | (simp [*]; done)), H', ⟨by first | omega | exact Nat.le_refl _⟩, ⟨by repeat (first | (with_reducible first | exact HB.out | apply below_alloc | apply pw_below_drewN | apply below_drew1) | exact HB.out)⟩⟩
              · rw [if_neg c15] at H
                have c15b0 : decide (60000 < a2) = false := decide_eq_false c15
                clear c15
                by_cases c16 : a3 < 0
                · rw [if_pos c16] at H
                  have c16b0 : decide (a3 < 0) = true := decide_eq_true c16
                  clear c16
                  have H' := Aside0.mk H
                  clear H
                  go_wp2
                  repeat (go_quiet (fail); try go_wp2)
                  go_meet
                  case rel => exact ⟨_, (true), (by first | rfl | (simp; done) | (simp [*]; done)), H', ⟨by first | omega | exact Nat.le_refl _⟩, ⟨by repeat (first | (with_reducible first | exact HB.out | apply below_alloc | apply pw_below_drewN | apply below_drew1) | exact HB.out)⟩⟩
                · rw [if_neg c16] at H
                  have c16b0 : decide (a3 < 0) = false := decide_eq_false c16
                  clear c16
                  by_cases c17 : a3 > 65536
                  · rw [if_pos c17] at H
                    have c17b0 : decide (65536 < a3) = true := decide_eq_true c17
                    clear c17
                    have H' := Aside0.mk H
                    clear H
                    go_wp2
                    repeat (go_quiet (fail); try go_wp2)
                    go_meet
                    case rel => exact ⟨_, (true), (by first | rfl | (simp; done) | (simp [*]; done)), H', ⟨by first | omega | exact Nat.le_refl _⟩, ⟨by repeat (first | (with_reducible first | exact HB.out | apply below_alloc | apply pw_below_drewN | apply below_drew1) | exact HB.out)⟩⟩
                  · rw [if_neg c17] at H
                    have c17b0 : decide (65536 < a3) = false := decide_eq_false c17
                    clear c17
                    by_cases c18 : a4 < 0
                    · rw [if_pos c18] at H
                      have c18b0 : decide (a4 < 0) = true := decide_eq_true c18
                      clear c18
                      have H' := Aside0.mk H
                      clear H
                      go_wp2
                      repeat (go_quiet (fail); try go_wp2)
                      go_meet
                      case rel => exact ⟨_, (true), (by first | rfl | (simp; done) | (simp [*]; done)), H', ⟨by first | omega | exact Nat.le_refl _⟩, ⟨by repeat (first | (with_reducible first | exact HB.out | apply below_alloc | apply pw_below_drewN | apply below_drew1) | exact HB.out)⟩⟩
                    · rw [if_neg c18] at H
                      have c18b0 : decide (a4 < 0) = false := decide_eq_false c18
                      clear c18
                      have H' := Aside0.mk H
                      clear H
                      go_wp2
                      repeat (go_quiet (fail); try go_wp2)
                      go_meet
                      case rel => exact ⟨_, (decide (a4 > 15)), (by first | rfl | (simp; done) | (simp [*]; done)), H', ⟨by first | omega | exact Nat.le_refl _⟩, ⟨by repeat (first | (with_reducible first | exact HB.out | apply below_alloc | apply pw_below_drewN | apply below_drew1) | exact HB.out)⟩⟩
  case rest =>
    clear HC8
    try clear c1
    try clear p2
    try clear c6
    try clear c10
    try clear c10b0
    try clear c11
    try clear c11b0
    try clear c12
    try clear c12b0
    try clear c13
    try clear c13b0
    try clear c14
    try clear c14b0
    try clear c15
    try clear c15b0
    try clear c16
    try clear c16b0
    try clear c17
    try clear c17b0
    try clear c18
    try clear c18b0
    obtain ⟨kq, x62_7, rfl, HA, HJ7, HB⟩ := hcut
    cases kq with
    | zero => exact absurd HA.out (by simp [dowellaw17_RelocGoes.j0])
    | succ kj7 =>
      have H := HA.out
      clear HA
      simp only [dowellaw17_RelocGoes.j0] at H
      by_cases c19 : x62_7 = true
      · subst c19
        have H1 : (some t182) = some r := by rw [if_pos rfl] at H; exact H
        clear H
        have H := H1
        clear H1
        obtain rfl := Option.some.inj H
        go_wp2
        repeat (go_quiet (fail); try go_wp2)
        go_ret
        exact ⟨by first | rfl | (simp [errW_none, errW_some] <;> rfl) | (simp [*, errW_none, errW_some] <;> rfl), by repeat (first | (with_reducible first | exact HB.out | apply below_alloc | apply pw_below_drewN | apply below_drew1) | exact HB.out)⟩
      · replace c19 := Bool.eq_false_iff.mpr c19
        subst c19
        have H1 : (if a5 = true then (dowellaw17_RelocGoes.j1 kj7 a0 a1 a2 a3 a4 a5 t182 1 a4 0 0) else (dowellaw17_RelocGoes.j1 kj7 a0 a1 a2 a3 a4 a5 t182 20 a4 0 0)) = some r := by rw [if_neg (show ¬ (false = true) by decide)] at H; exact H
        clear H
        have H := H1
        clear H1
        have HC20 := Aside0.mk H
        clear H
        go_upto_if 66 with (first | ((with_reducible refine gate_dst (N := 14) rfl ?_); (try (refine gate_guard (by rfl) ?_; dsimp only)); refine box_event ?hg (N := 14) ?hd (cs := #[.int .i64 0, .int .i64 0, .int .i64 0, .int .i64 0]) (t := 46) ?hr ?_; (case hd => rfl); (case hg => rfl); (case hr => first | (go_simp; done) | (go_simp; rfl)); intro gb183 hg w21 hbox hb; have n0_ := Aside0.mk (below_step (by repeat (first | (with_reducible first | exact HB.out | apply below_alloc | apply pw_below_drewN | apply below_drew1) | exact HB.out)) hb); have n1_ := Aside0.mk (hbox); have n2_ := Aside0.mk ((by rw [hg]; exact (below_size (by repeat (first | (with_reducible first | exact HB.out | apply below_alloc | apply pw_below_drewN | apply below_drew1) | exact HB.out))) : w.heap.size ≤ gb183)); have n3_ := Aside0.mk ((by rw [hg]; exact (below_size (by repeat (first | (with_reducible first | exact HB.out | apply below_alloc | apply pw_below_drewN | apply below_drew1) | exact HB.out))) : w.heap.size ≤ gb183)); clear HB; have HB := n0_; have BK183 := n1_; have GW183 := n2_; have GE183 := n3_; clear n0_ n1_ n2_ n3_; clear hb hbox hg; have hcz22_0 : w21.cell? ⟨gb183, 0, none⟩ = some (.int .i64 0) := (blk_cell BK183.out 0).trans rfl; have hcz22_1 : w21.cell? ⟨gb183, 1, none⟩ = some (.int .i64 0) := (blk_cell BK183.out 1).trans rfl; have hcz22_2 : w21.cell? ⟨gb183, 2, none⟩ = some (.int .i64 0) := (blk_cell BK183.out 2).trans rfl; have hcz22_3 : w21.cell? ⟨gb183, 3, none⟩ = some (.int .i64 0) := (blk_cell BK183.out 3).trans rfl; have hfz22_0 := blk_frozen BK183.out 0; have hfz22_1 := blk_frozen BK183.out 1; have hfz22_2 := blk_frozen BK183.out 2; have hfz22_3 := blk_frozen BK183.out 3))
        repeat (go_quiet (first | ((with_reducible refine gate_dst (N := 14) rfl ?_); (try (refine gate_guard (by rfl) ?_; dsimp only)); refine box_event ?hg (N := 14) ?hd (cs := #[.int .i64 0, .int .i64 0, .int .i64 0, .int .i64 0]) (t := 46) ?hr ?_; (case hd => rfl); (case hg => rfl); (case hr => first | (go_simp; done) | (go_simp; rfl)); intro gb183 hg w21 hbox hb; have n0_ := Aside0.mk (below_step (by repeat (first | (with_reducible first | exact HB.out | apply below_alloc | apply pw_below_drewN | apply below_drew1) | exact HB.out)) hb); have n1_ := Aside0.mk (hbox); have n2_ := Aside0.mk ((by rw [hg]; exact (below_size (by repeat (first | (with_reducible first | exact HB.out | apply below_alloc | apply pw_below_drewN | apply below_drew1) | exact HB.out))) : w.heap.size ≤ gb183)); have n3_ := Aside0.mk ((by rw [hg]; exact (below_size (by repeat (first | (with_reducible first | exact HB.out | apply below_alloc | apply pw_below_drewN | apply below_drew1) | exact HB.out))) : w.heap.size ≤ gb183)); clear HB; have HB := n0_; have BK183 := n1_; have GW183 := n2_; have GE183 := n3_; clear n0_ n1_ n2_ n3_; clear hb hbox hg; have hcz22_0 : w21.cell? ⟨gb183, 0, none⟩ = some (.int .i64 0) := (blk_cell BK183.out 0).trans rfl; have hcz22_1 : w21.cell? ⟨gb183, 1, none⟩ = some (.int .i64 0) := (blk_cell BK183.out 1).trans rfl; have hcz22_2 : w21.cell? ⟨gb183, 2, none⟩ = some (.int .i64 0) := (blk_cell BK183.out 2).trans rfl; have hcz22_3 : w21.cell? ⟨gb183, 3, none⟩ = some (.int .i64 0) := (blk_cell BK183.out 3).trans rfl; have hfz22_0 := blk_frozen BK183.out 0; have hfz22_1 := blk_frozen BK183.out 1; have hfz22_2 := blk_frozen BK183.out 2; have hfz22_3 := blk_frozen BK183.out 3)); go_upto_if 66 with (first | ((with_reducible refine gate_dst (N := 14) rfl ?_); (try (refine gate_guard (by rfl) ?_; dsimp only)); refine box_event ?hg (N := 14) ?hd (cs := #[.int .i64 0, .int .i64 0, .int .i64 0, .int .i64 0]) (t := 46) ?hr ?_; (case hd => rfl); (case hg => rfl); (case hr => first | (go_simp; done) | (go_simp; rfl)); intro gb183 hg w21 hbox hb; have n0_ := Aside0.mk (below_step (by repeat (first | (with_reducible first | exact HB.out | apply below_alloc | apply pw_below_drewN | apply below_drew1) | exact HB.out)) hb); have n1_ := Aside0.mk (hbox); have n2_ := Aside0.mk ((by rw [hg]; exact (below_size (by repeat (first | (with_reducible first | exact HB.out | apply below_alloc | apply pw_below_drewN | apply below_drew1) | exact HB.out))) : w.heap.size ≤ gb183)); have n3_ := Aside0.mk ((by rw [hg]; exact (below_size (by repeat (first | (with_reducible first | exact HB.out | apply below_alloc | apply pw_below_drewN | apply below_drew1) | exact HB.out))) : w.heap.size ≤ gb183)); clear HB; have HB := n0_; have BK183 := n1_; have GW183 := n2_; have GE183 := n3_; clear n0_ n1_ n2_ n3_; clear hb hbox hg; have hcz22_0 : w21.cell? ⟨gb183, 0, none⟩ = some (.int .i64 0) := (blk_cell BK183.out 0).trans rfl; have hcz22_1 : w21.cell? ⟨gb183, 1, none⟩ = some (.int .i64 0) := (blk_cell BK183.out 1).trans rfl; have hcz22_2 : w21.cell? ⟨gb183, 2, none⟩ = some (.int .i64 0) := (blk_cell BK183.out 2).trans rfl; have hcz22_3 : w21.cell? ⟨gb183, 3, none⟩ = some (.int .i64 0) := (blk_cell BK183.out 3).trans rfl; have hfz22_0 := blk_frozen BK183.out 0; have hfz22_1 := blk_frozen BK183.out 1; have hfz22_2 := blk_frozen BK183.out 2; have hfz22_3 := blk_frozen BK183.out 3)))
        (try simp only [Act.put, List.setIfInBounds_toArray, List.set_cons_zero, List.set_cons_succ])
        go_cut [] (fun wc => ∃ (kq : Nat) (x184000_19 : Int), Aside0 (dowellaw17_RelocGoes.j1 kq a0 a1 a2 a3 a4 a5 t182 x184000_19 a4 0 0 = some r) ∧ Aside0 (kq ≤ kj7) ∧ Aside0 (wc.heap[gb183]? = some (.cells #[.int .i64 x184000_19, .int .i64 a4, .int .i64 0, .int .i64 0] 46 (0, 0))) ∧ Aside0 (Below w.heap.size w wc))
        case first =>
          have H := HC20.out
          clear HC20
          by_cases c23 : a5 = true
          · subst c23
            have H1 : (dowellaw17_RelocGoes.j1 kj7 a0 a1 a2 a3 a4 true t182 1 a4 0 0) = some r := by rw [if_pos rfl] at H; exact H
            clear H
            have H := H1
            clear H1
            have H' := Aside0.mk H
            clear H
            have hcz24_0 : w21.cell? ⟨gb183, 0, none⟩ = some (.int .i64 0) := (blk_cell BK183.out 0).trans rfl
            have hcz24_1 : w21.cell? ⟨gb183, 1, none⟩ = some (.int .i64 0) := (blk_cell BK183.out 1).trans rfl
            have hcz24_2 : w21.cell? ⟨gb183, 2, none⟩ = some (.int .i64 0) := (blk_cell BK183.out 2).trans rfl
            have hcz24_3 : w21.cell? ⟨gb183, 3, none⟩ = some (.int .i64 0) := (blk_cell BK183.out 3).trans rfl
            have hfz24_0 := blk_frozen BK183.out 0
            have hfz24_1 := blk_frozen BK183.out 1
            have hfz24_2 := blk_frozen BK183.out 2
            have hfz24_3 := blk_frozen BK183.out 3
            go_wp2
            repeat (go_quiet (fail); try go_wp2)
            go_meet
            case rel => exact ⟨_, (1), H', ⟨by have := HJ7.out; first | omega | exact Nat.le_refl _⟩, ⟨by (with_reducible repeat (first | refine blk_drewN ?_ _ | refine blk_drew ?_ | refine blk_alloc ?_ _)); refine blk_put (cs := #[.int .i64 20, .int .i64 a4, .int .i64 0, .int .i64 0]) ?_ 0 _ rfl; (with_reducible repeat (first | refine blk_drewN ?_ _ | refine blk_drew ?_ | refine blk_alloc ?_ _)); refine blk_put (cs := #[.int .i64 20, .int .i64 a4, .int .i64 0, .int .i64 0]) ?_ 3 _ rfl; (with_reducible repeat (first | refine blk_drewN ?_ _ | refine blk_drew ?_ | refine blk_alloc ?_ _)); refine blk_put (cs := #[.int .i64 20, .int .i64 a4, .int .i64 0, .int .i64 0]) ?_ 2 _ rfl; (with_reducible repeat (first | refine blk_drewN ?_ _ | refine blk_drew ?_ | refine blk_alloc ?_ _)); refine blk_put (cs := #[.int .i64 20, .int .i64 0, .int .i64 0, .int .i64 0]) ?_ 1 _ rfl; (with_reducible repeat (first | refine blk_drewN ?_ _ | refine blk_drew ?_ | refine blk_alloc ?_ _)); refine blk_put (cs := #[.int .i64 0, .int .i64 0, .int .i64 0, .int .i64 0]) ?_ 0 _ rfl; (with_reducible repeat (first | refine blk_drewN ?_ _ | refine blk_drew ?_ | refine blk_alloc ?_ _)); exact BK183.out⟩, ⟨by repeat (first | (with_reducible first | exact HB.out | apply below_alloc | apply pw_below_drewN | apply below_drew1 | refine below_set ?_ GE183.out) | exact HB.out)⟩⟩
          · replace c23 := Bool.eq_false_iff.mpr c23
            subst c23
            have H1 : (dowellaw17_RelocGoes.j1 kj7 a0 a1 a2 a3 a4 false t182 20 a4 0 0) = some r := by rw [if_neg (show ¬ (false = true) by decide)] at H; exact H
            clear H
            have H := H1
            clear H1
            have H' := Aside0.mk H
            clear H
            go_wp2
            repeat (go_quiet (fail); try go_wp2)
            go_meet
            case rel => exact ⟨_, (20), H', ⟨by have := HJ7.out; first | omega | exact Nat.le_refl _⟩, ⟨by (with_reducible repeat (first | refine blk_drewN ?_ _ | refine blk_drew ?_ | refine blk_alloc ?_ _)); refine blk_put (cs := #[.int .i64 20, .int .i64 a4, .int .i64 0, .int .i64 0]) ?_ 3 _ rfl; (with_reducible repeat (first | refine blk_drewN ?_ _ | refine blk_drew ?_ | refine blk_alloc ?_ _)); refine blk_put (cs := #[.int .i64 20, .int .i64 a4, .int .i64 0, .int .i64 0]) ?_ 2 _ rfl; (with_reducible repeat (first | refine blk_drewN ?_ _ | refine blk_drew ?_ | refine blk_alloc ?_ _)); refine blk_put (cs := #[.int .i64 20, .int .i64 0, .int .i64 0, .int .i64 0]) ?_ 1 _ rfl; (with_reducible repeat (first | refine blk_drewN ?_ _ | refine blk_drew ?_ | refine blk_alloc ?_ _)); refine blk_put (cs := #[.int .i64 0, .int .i64 0, .int .i64 0, .int .i64 0]) ?_ 0 _ rfl; (with_reducible repeat (first | refine blk_drewN ?_ _ | refine blk_drew ?_ | refine blk_alloc ?_ _)); exact BK183.out⟩, ⟨by repeat (first | (with_reducible first | exact HB.out | apply below_alloc | apply pw_below_drewN | apply below_drew1 | refine below_set ?_ GE183.out) | exact HB.out)⟩⟩
        case rest =>
          clear HC20
          try clear c1
          try clear c2
          try clear p2
          try clear c6
          try clear c10
          try clear c10b0
          try clear c11
          try clear c11b0
          try clear c12
          try clear c12b0
          try clear c13
          try clear c13b0
          try clear c14
          try clear c14b0
          try clear c15
          try clear c15b0
          try clear c16
          try clear c16b0
          try clear c17
          try clear c17b0
          try clear c18
          try clear c18b0
          try clear c19
          try clear c23
          try clear hcz22_0
          try clear hcz22_1
          try clear hcz22_2
          try clear hcz22_3
          try clear hcz24_0
          try clear hcz24_1
          try clear hcz24_2
          try clear hcz24_3
          try clear hfz22_0
          try clear hfz22_1
          try clear hfz22_2
          try clear hfz22_3
          try clear hfz24_0
          try clear hfz24_1
          try clear hfz24_2
          try clear hfz24_3
          try clear p2
          obtain ⟨kq, x184000_19, HA, HJ19, BK183, HB⟩ := hcut
          cases kq with
          | zero => exact absurd HA.out (by simp [dowellaw17_RelocGoes.j1])
          | succ kj19 =>
            have H := HA.out
            clear HA
            simp only [dowellaw17_RelocGoes.j1] at H
            by_cases c25 : 0 ≤ a0
            · rw [if_pos c25] at H
              have c25b0 := eq_true c25
              have c25b1 : decide (0 ≤ a0) = true := decide_eq_true c25
              clear c25
              by_cases c26 : (a0 : Int).toNat ≤ 70368744177664
              · rw [if_pos c26] at H
                have c26b0 := eq_true c26
                have c26b1 : decide ((a0 : Int).toNat ≤ 70368744177664) = true := decide_eq_true c26
                clear c26
                obtain ⟨y184, hy184⟩ : ∃ y_ : List Int, y_ = (List.replicate (a0 : Int).toNat 0) := ⟨_, rfl⟩
                replace H : (dowellaw17_RelocGoes.l0 kj19 a0 a1 a2 a3 a4 a5 t182 y184 0 x184000_19 a4 0 0) = some r := by first | (rw [hy184]; with_reducible exact H) | (have H2_ := (Option.bind_some _ _).symm.trans H; rw [hy184]; with_reducible exact H2_) | (have H2_ := (Option.bind_some _ _).symm.trans H; with_reducible exact H2_) | with_reducible exact H | (rw [hy184]; exact H) | exact H
                have Ny184 := Aside0.mk hy184
                clear hy184
                have H' := Aside0.mk H
                clear H
                go_wp2_with (first | ((with_reducible refine gate_dst (N := 69) rfl ?_); (try (refine gate_guard (by rfl) ?_; dsimp only)); refine Kd.R_make (Kd.int .u32) _ 22 rfl (N := 69) rfl 25 _ _ rfl a0 rfl rfl Try.underlying25 (.int .u32 0) 4 info22 rfl (by decide) (by omega) 0 (ok := fun _ => True) (okp := fun _ => True) rfl (fun _ hk => hk) trivial (of_decide_eq_true (by first | (with_reducible assumption) | assumption)) (Nat.le_trans (Nat.mul_le_mul_right _ (of_decide_eq_true (by first | (with_reducible assumption) | assumption) : a0.toNat ≤ 70368744177664)) (by omega)) (Below.refl _ _) (Nat.le_refl _) ?_; intro v185 w27 ho28 hb hg_ hnew_; clear hg_ hnew_; (first | rw [← Ny184.out] at ho28 | (simp only [Int.reduceToNat] at ho28; rw [← Ny184.out] at ho28)); have n0_ := Aside0.mk (Kd.R_lower ho28 (below_size (by repeat (first | (with_reducible first | exact HB.out | apply below_alloc | apply pw_below_drewN | apply below_drew1 | refine below_set ?_ GE183.out) | exact HB.out)))); have n1_ := Aside0.mk (blk_below (g := gb183) (o := .cells #[.int .i64 x184000_19, .int .i64 a4, .int .i64 0, .int .i64 0] 46 (0, 0)) (by (with_reducible repeat (first | refine blk_drewN ?_ _ | refine blk_drew ?_ | refine blk_alloc ?_ _)); exact BK183.out) hb); have n2_ := Aside0.mk (below_step (by repeat (first | (with_reducible first | exact HB.out | apply below_alloc | apply pw_below_drewN | apply below_drew1 | refine below_set ?_ GE183.out) | exact HB.out)) hb); clear BK183; clear HB; have HO186 := n0_; have BK183 := n1_; have HB := n2_; clear n0_ n1_ n2_; clear hb ho28))
                repeat (go_quiet (first | ((with_reducible refine gate_dst (N := 69) rfl ?_); (try (refine gate_guard (by rfl) ?_; dsimp only)); refine Kd.R_make (Kd.int .u32) _ 22 rfl (N := 69) rfl 25 _ _ rfl a0 rfl rfl Try.underlying25 (.int .u32 0) 4 info22 rfl (by decide) (by omega) 0 (ok := fun _ => True) (okp := fun _ => True) rfl (fun _ hk => hk) trivial (of_decide_eq_true (by first | (with_reducible assumption) | assumption)) (Nat.le_trans (Nat.mul_le_mul_right _ (of_decide_eq_true (by first | (with_reducible assumption) | assumption) : a0.toNat ≤ 70368744177664)) (by omega)) (Below.refl _ _) (Nat.le_refl _) ?_; intro v185 w27 ho28 hb hg_ hnew_; clear hg_ hnew_; (first | rw [← Ny184.out] at ho28 | (simp only [Int.reduceToNat] at ho28; rw [← Ny184.out] at ho28)); have n0_ := Aside0.mk (Kd.R_lower ho28 (below_size (by repeat (first | (with_reducible first | exact HB.out | apply below_alloc | apply pw_below_drewN | apply below_drew1 | refine below_set ?_ GE183.out) | exact HB.out)))); have n1_ := Aside0.mk (blk_below (g := gb183) (o := .cells #[.int .i64 x184000_19, .int .i64 a4, .int .i64 0, .int .i64 0] 46 (0, 0)) (by (with_reducible repeat (first | refine blk_drewN ?_ _ | refine blk_drew ?_ | refine blk_alloc ?_ _)); exact BK183.out) hb); have n2_ := Aside0.mk (below_step (by repeat (first | (with_reducible first | exact HB.out | apply below_alloc | apply pw_below_drewN | apply below_drew1 | refine below_set ?_ GE183.out) | exact HB.out)) hb); clear BK183; clear HB; have HO186 := n0_; have BK183 := n1_; have HB := n2_; clear n0_ n1_ n2_; clear hb ho28)); try go_wp2_with (first | ((with_reducible refine gate_dst (N := 69) rfl ?_); (try (refine gate_guard (by rfl) ?_; dsimp only)); refine Kd.R_make (Kd.int .u32) _ 22 rfl (N := 69) rfl 25 _ _ rfl a0 rfl rfl Try.underlying25 (.int .u32 0) 4 info22 rfl (by decide) (by omega) 0 (ok := fun _ => True) (okp := fun _ => True) rfl (fun _ hk => hk) trivial (of_decide_eq_true (by first | (with_reducible assumption) | assumption)) (Nat.le_trans (Nat.mul_le_mul_right _ (of_decide_eq_true (by first | (with_reducible assumption) | assumption) : a0.toNat ≤ 70368744177664)) (by omega)) (Below.refl _ _) (Nat.le_refl _) ?_; intro v185 w27 ho28 hb hg_ hnew_; clear hg_ hnew_; (first | rw [← Ny184.out] at ho28 | (simp only [Int.reduceToNat] at ho28; rw [← Ny184.out] at ho28)); have n0_ := Aside0.mk (Kd.R_lower ho28 (below_size (by repeat (first | (with_reducible first | exact HB.out | apply below_alloc | apply pw_below_drewN | apply below_drew1 | refine below_set ?_ GE183.out) | exact HB.out)))); have n1_ := Aside0.mk (blk_below (g := gb183) (o := .cells #[.int .i64 x184000_19, .int .i64 a4, .int .i64 0, .int .i64 0] 46 (0, 0)) (by (with_reducible repeat (first | refine blk_drewN ?_ _ | refine blk_drew ?_ | refine blk_alloc ?_ _)); exact BK183.out) hb); have n2_ := Aside0.mk (below_step (by repeat (first | (with_reducible first | exact HB.out | apply below_alloc | apply pw_below_drewN | apply below_drew1 | refine below_set ?_ GE183.out) | exact HB.out)) hb); clear BK183; clear HB; have HO186 := n0_; have BK183 := n1_; have HB := n2_; clear n0_ n1_ n2_; clear hb ho28)))
                go_loopg [16] kj19 (fun kq v16 w' => ∃ (x15_3 : List Int) (x16_3 : Int), v16 = .int .i64 x16_3 ∧ Aside0 (dowellaw17_RelocGoes.l0 kq a0 a1 a2 a3 a4 a5 t182 x15_3 x16_3 x184000_19 a4 0 0 = some r) ∧ Aside0 (kq ≤ kj19) ∧ Aside0 (Kd.R (Kd.int .u32) 22 w' w.heap.size (fun _ => True) v185 x15_3) ∧ Aside0 (w'.heap[gb183]? = some (.cells #[.int .i64 x184000_19, .int .i64 a4, .int .i64 0, .int .i64 0] 46 (0, 0))) ∧ Aside0 (Below w.heap.size w w'))
                case atStart => exact ⟨(y184), (0), (by first | rfl | (simp; done) | (simp [*]; done)), H', ⟨Nat.le_refl _⟩, ⟨by (with_reducible repeat (first | apply Kd.R_alloc | apply Kd.R_drewN | apply Kd.R_drew)); exact HO186.out⟩, ⟨by (with_reducible repeat (first | refine blk_drewN ?_ _ | refine blk_drew ?_ | refine blk_alloc ?_ _)); exact BK183.out⟩, ⟨by repeat (first | (with_reducible first | exact HB.out | apply below_alloc | apply pw_below_drewN | apply below_drew1 | refine below_set ?_ GE183.out) | exact HB.out)⟩⟩
                case round =>
                  clear H'
                  try clear c1
                  try clear c2
                  try clear p2
                  try clear c6
                  try clear c10
                  try clear c10b0
                  try clear c11
                  try clear c11b0
                  try clear c12
                  try clear c12b0
                  try clear c13
                  try clear c13b0
                  try clear c14
                  try clear c14b0
                  try clear c15
                  try clear c15b0
                  try clear c16
                  try clear c16b0
                  try clear c17
                  try clear c17b0
                  try clear c18
                  try clear c18b0
                  try clear c19
                  try clear c23
                  try clear c25
                  try clear c25b0
                  try clear c25b1
                  try clear c26
                  try clear c26b0
                  try clear c26b1
                  try clear hcz22_0
                  try clear hcz22_1
                  try clear hcz22_2
                  try clear hcz22_3
                  try clear hcz24_0
                  try clear hcz24_1
                  try clear hcz24_2
                  try clear hcz24_3
                  try clear hfz22_0
                  try clear hfz22_1
                  try clear hfz22_2
                  try clear hfz22_3
                  try clear hfz24_0
                  try clear hfz24_1
                  try clear hfz24_2
                  try clear hfz24_3
                  try clear p2
                  obtain ⟨x15_3, x16_3, rfl, HA, HK3, HO_15, BK183, HB⟩ := hrel
                  cases gk with
                  | zero => exact absurd HA.out (by simp [dowellaw17_RelocGoes.l0])
                  | succ k3 =>
                    have H := HA.out
                    clear HA
                    simp only [dowellaw17_RelocGoes.l0] at H
                    by_cases c29 : x16_3 < a0
                    · rw [if_pos c29] at H
                      have c29b0 : decide (x16_3 < a0) = true := decide_eq_true c29
                      clear c29
                      by_cases c30 : 0 ≤ x16_3
                      · rw [if_pos c30] at H
                        have c30b0 : decide (0 ≤ x16_3) = true := decide_eq_true c30
                        clear c30
                        by_cases c31 : x16_3 < (x15_3.length : Int)
                        · rw [if_pos c31] at H
                          have c31b0 : decide (x16_3 < (x15_3.length : Int)) = true := decide_eq_true c31
                          clear c31
                          obtain ⟨y187, hy187⟩ : ∃ y_ : List Int, y_ = (x15_3.set (x16_3 : Int).toNat ((((x16_3) % 4294967296) * 77) % 4294967296)) := ⟨_, rfl⟩
                          replace H : (dowellaw17_RelocGoes.l0 k3 a0 a1 a2 a3 a4 a5 t182 y187 (wrap64 (x16_3 + 1)) x184000_19 a4 0 0) = some r := by first | (rw [hy187]; with_reducible exact H) | (have H2_ := (Option.bind_some _ _).symm.trans H; rw [hy187]; with_reducible exact H2_) | (have H2_ := (Option.bind_some _ _).symm.trans H; with_reducible exact H2_) | with_reducible exact H | (rw [hy187]; exact H) | exact H
                          have Ny187 := Aside0.mk hy187
                          clear hy187
                          have H' := Aside0.mk H
                          clear H
                          have p32 : 0 ≤ (x16_3 : Int) := of_decide_eq_true (by first | (with_reducible assumption) | assumption)
                          have q32 : (x16_3 : Int) < ((x15_3.length : Int) : Int) := of_decide_eq_true (by first | (with_reducible assumption) | assumption)
                          obtain ⟨go32, co32, eo32, gb32, gl32, cl32, HG32⟩ := Kd.R_form HO_15.out (by omega)
                          (first | cases eo32 | (injection eo32 with ea_ en_ ec_; (first | subst ea_ | (injection ea_ with ea_; subst ea_)); subst ec_; clear en_))
                          have GB32 := Aside0.mk gb32
                          have GG32 := Aside0.mk HG32
                          clear gb32 gl32 HG32
                          obtain ⟨hx32_0, hf32_0⟩ := Kd.R_celln 0 HO_15.out (x16_3 : Int) p32 q32
                          replace p32 := eq_true p32
                          replace q32 := eq_true q32
                          have HP33 := Kd.R_putg HO_15.out (x16_3 : Int) ((((x16_3) % 4294967296) * 77) % 4294967296)
                          go_wp2_with (first | ((with_reducible refine gate_store (t := 22) (p := 80) rfl ?_); (try (rw [drewN_self wr]; generalize hq_ : World.drewN wr _ = wr; have n0_ := Aside0.mk (Kd.R_at hq_ HO_15.out); have n1_ := Aside0.mk (blk_at hq_ BK183.out); have n2_ := Aside0.mk (below_at hq_ HB.out); clear hq_ HO_15 BK183 HB; have HO_15 := n0_; have BK183 := n1_; have HB := n2_; clear n0_ n1_ n2_; (try (have HP33 := Kd.R_putg HO_15.out (x16_3 : Int) ((((x16_3) % 4294967296) * 77) % 4294967296))))); refine store_event (t := 22) (p := 80) (v := ?vo_w34) (w1 := (wr.setCell ⟨go32, (x16_3 : Int).toNat, none⟩ (.int .u32 ((((x16_3) % 4294967296) * 77) % 4294967296)))) ?hg ?ho ?hn ?hr ?_; (case ho => rfl); (case hg => rfl); (case hn => rfl); (case hr => first | (go_simp; done) | (go_simp; rfl)); intro w34 hw; have hg : wr.grownBy w34 (some go32) := (by rw [hw]; exact HP33.2); have hp_ : Kd.R (Kd.int .u32) 22 w34 w.heap.size (fun _ => True) (.slice (some ⟨go32, 0, none⟩) x15_3.length co32) y187 := (by rw [hw, Ny187.out]; exact HP33.1); clear HP33; have n0_ := Aside0.mk (hp_); have n1_ := Aside0.mk (blk_grown (g := gb183) (o := .cells #[.int .i64 x184000_19, .int .i64 a4, .int .i64 0, .int .i64 0] 46 (0, 0)) (by (with_reducible repeat (first | refine blk_drewN ?_ _ | refine blk_drew ?_ | refine blk_alloc ?_ _)); exact BK183.out) hg (Kd.R_ne HO_15.out BK183.out (by decide))); have n2_ := Aside0.mk ((by rw [hw]; exact below_set (HB.out) GB32.out : Below w.heap.size w w34)); clear HO_15; clear BK183; clear HB; have HO_15 := n0_; have BK183 := n1_; have HB := n2_; clear n0_ n1_ n2_; clear hg hw hp_))
                          repeat (go_quiet (first | ((with_reducible refine gate_store (t := 22) (p := 80) rfl ?_); (try (rw [drewN_self wr]; generalize hq_ : World.drewN wr _ = wr; have n0_ := Aside0.mk (Kd.R_at hq_ HO_15.out); have n1_ := Aside0.mk (blk_at hq_ BK183.out); have n2_ := Aside0.mk (below_at hq_ HB.out); clear hq_ HO_15 BK183 HB; have HO_15 := n0_; have BK183 := n1_; have HB := n2_; clear n0_ n1_ n2_; (try (have HP33 := Kd.R_putg HO_15.out (x16_3 : Int) ((((x16_3) % 4294967296) * 77) % 4294967296))))); refine store_event (t := 22) (p := 80) (v := ?vo_w34) (w1 := (wr.setCell ⟨go32, (x16_3 : Int).toNat, none⟩ (.int .u32 ((((x16_3) % 4294967296) * 77) % 4294967296)))) ?hg ?ho ?hn ?hr ?_; (case ho => rfl); (case hg => rfl); (case hn => rfl); (case hr => first | (go_simp; done) | (go_simp; rfl)); intro w34 hw; have hg : wr.grownBy w34 (some go32) := (by rw [hw]; exact HP33.2); have hp_ : Kd.R (Kd.int .u32) 22 w34 w.heap.size (fun _ => True) (.slice (some ⟨go32, 0, none⟩) x15_3.length co32) y187 := (by rw [hw, Ny187.out]; exact HP33.1); clear HP33; have n0_ := Aside0.mk (hp_); have n1_ := Aside0.mk (blk_grown (g := gb183) (o := .cells #[.int .i64 x184000_19, .int .i64 a4, .int .i64 0, .int .i64 0] 46 (0, 0)) (by (with_reducible repeat (first | refine blk_drewN ?_ _ | refine blk_drew ?_ | refine blk_alloc ?_ _)); exact BK183.out) hg (Kd.R_ne HO_15.out BK183.out (by decide))); have n2_ := Aside0.mk ((by rw [hw]; exact below_set (HB.out) GB32.out : Below w.heap.size w w34)); clear HO_15; clear BK183; clear HB; have HO_15 := n0_; have BK183 := n1_; have HB := n2_; clear n0_ n1_ n2_; clear hg hw hp_)); try go_wp2_with (first | ((with_reducible refine gate_store (t := 22) (p := 80) rfl ?_); (try (rw [drewN_self wr]; generalize hq_ : World.drewN wr _ = wr; have n0_ := Aside0.mk (Kd.R_at hq_ HO_15.out); have n1_ := Aside0.mk (blk_at hq_ BK183.out); have n2_ := Aside0.mk (below_at hq_ HB.out); clear hq_ HO_15 BK183 HB; have HO_15 := n0_; have BK183 := n1_; have HB := n2_; clear n0_ n1_ n2_; (try (have HP33 := Kd.R_putg HO_15.out (x16_3 : Int) ((((x16_3) % 4294967296) * 77) % 4294967296))))); refine store_event (t := 22) (p := 80) (v := ?vo_w34) (w1 := (wr.setCell ⟨go32, (x16_3 : Int).toNat, none⟩ (.int .u32 ((((x16_3) % 4294967296) * 77) % 4294967296)))) ?hg ?ho ?hn ?hr ?_; (case ho => rfl); (case hg => rfl); (case hn => rfl); (case hr => first | (go_simp; done) | (go_simp; rfl)); intro w34 hw; have hg : wr.grownBy w34 (some go32) := (by rw [hw]; exact HP33.2); have hp_ : Kd.R (Kd.int .u32) 22 w34 w.heap.size (fun _ => True) (.slice (some ⟨go32, 0, none⟩) x15_3.length co32) y187 := (by rw [hw, Ny187.out]; exact HP33.1); clear HP33; have n0_ := Aside0.mk (hp_); have n1_ := Aside0.mk (blk_grown (g := gb183) (o := .cells #[.int .i64 x184000_19, .int .i64 a4, .int .i64 0, .int .i64 0] 46 (0, 0)) (by (with_reducible repeat (first | refine blk_drewN ?_ _ | refine blk_drew ?_ | refine blk_alloc ?_ _)); exact BK183.out) hg (Kd.R_ne HO_15.out BK183.out (by decide))); have n2_ := Aside0.mk ((by rw [hw]; exact below_set (HB.out) GB32.out : Below w.heap.size w w34)); clear HO_15; clear BK183; clear HB; have HO_15 := n0_; have BK183 := n1_; have HB := n2_; clear n0_ n1_ n2_; clear hg hw hp_)))
                          go_roundg k3
                          case measure => have := HJ7.out; have := HJ19.out; have := HK3.out; omega
                          case rel => exact ⟨(y187), (wrap64 (x16_3 + 1)), (by first | rfl | (simp; done) | (simp [*]; done)), H', ⟨by have := HJ7.out; have := HJ19.out; have := HK3.out; omega⟩, ⟨by (with_reducible repeat (first | apply Kd.R_alloc | apply Kd.R_drewN | apply Kd.R_drew)); exact HO_15.out⟩, ⟨by (with_reducible repeat (first | refine blk_drewN ?_ _ | refine blk_drew ?_ | refine blk_alloc ?_ _)); exact BK183.out⟩, ⟨by repeat (first | (with_reducible first | exact HB.out | apply below_alloc | apply pw_below_drewN | apply below_drew1 | refine below_set ?_ GE183.out) | exact HB.out)⟩⟩
                        · rw [if_neg c31] at H
                          exact absurd H (by simp)
                      · rw [if_neg c30] at H
                        exact absurd H (by simp)
                    · rw [if_neg c29] at H
                      have c29b0 : decide (x16_3 < a0) = false := decide_eq_false c29
                      clear c29
                      replace H := Option.bind_eq_some_iff.mp H
                      obtain ⟨t188, A350, H⟩ := H
                      replace H : (if 0 ≤ a1 then (if a1 < (x15_3.length : Int) then ((some (x15_3.set (a1 : Int).toNat t188 : List Int)).bind fun y189 => ((reloc_Link.f k3 y189 a2 (([(⟨a1, a3⟩ : S64)] : List (S64)))).bind fun bt193 => (if bt193.2.isNone = true then (dowellaw17_RelocGoes.j3 k3 a0 a1 a2 a3 a4 a5 t182 y189 bt193.1 ((bt193.1.length : Int) != a0) x184000_19 a4 0 0) else (dowellaw17_RelocGoes.j3 k3 a0 a1 a2 a3 a4 a5 t182 y189 bt193.1 true x184000_19 a4 0 0)))) else (none)) else (none)) = some r := H
                      have A35 := Aside0.mk A350
                      clear A350
                      by_cases c36 : 0 ≤ a1
                      · rw [if_pos c36] at H
                        have c36b0 : decide (0 ≤ a1) = true := decide_eq_true c36
                        clear c36
                        by_cases c37 : a1 < (x15_3.length : Int)
                        · rw [if_pos c37] at H
                          have c37b0 : decide (a1 < (x15_3.length : Int)) = true := decide_eq_true c37
                          clear c37
                          obtain ⟨y189, hy189⟩ : ∃ y_ : List Int, y_ = (x15_3.set (a1 : Int).toNat t188) := ⟨_, rfl⟩
                          replace H : ((reloc_Link.f k3 y189 a2 (([(⟨a1, a3⟩ : S64)] : List (S64)))).bind fun bt193 => (if bt193.2.isNone = true then (dowellaw17_RelocGoes.j3 k3 a0 a1 a2 a3 a4 a5 t182 y189 bt193.1 ((bt193.1.length : Int) != a0) x184000_19 a4 0 0) else (dowellaw17_RelocGoes.j3 k3 a0 a1 a2 a3 a4 a5 t182 y189 bt193.1 true x184000_19 a4 0 0))) = some r := by first | (rw [hy189]; with_reducible exact H) | (have H2_ := (Option.bind_some _ _).symm.trans H; rw [hy189]; with_reducible exact H2_) | (have H2_ := (Option.bind_some _ _).symm.trans H; with_reducible exact H2_) | with_reducible exact H | (rw [hy189]; exact H) | exact H
                          have Ny189 := Aside0.mk hy189
                          clear hy189
                          obtain ⟨y190, hy190⟩ : ∃ y_ : List (S64), y_ = (([(⟨a1, a3⟩ : S64)] : List (S64))) := ⟨_, rfl⟩
                          replace H : ((reloc_Link.f k3 y189 a2 y190).bind fun bt193 => (if bt193.2.isNone = true then (dowellaw17_RelocGoes.j3 k3 a0 a1 a2 a3 a4 a5 t182 y189 bt193.1 ((bt193.1.length : Int) != a0) x184000_19 a4 0 0) else (dowellaw17_RelocGoes.j3 k3 a0 a1 a2 a3 a4 a5 t182 y189 bt193.1 true x184000_19 a4 0 0))) = some r := by first | (rw [hy190]; with_reducible exact H) | (have H2_ := (Option.bind_some _ _).symm.trans H; rw [hy190]; with_reducible exact H2_) | (have H2_ := (Option.bind_some _ _).symm.trans H; with_reducible exact H2_) | with_reducible exact H | (rw [hy190]; exact H) | exact H
                          have Ny190 := Aside0.mk hy190
                          clear hy190
                          replace H := Option.bind_eq_some_iff.mp H
                          obtain ⟨⟨t193, t194⟩, A390, H⟩ := H
                          replace H : (if t194.isNone = true then (dowellaw17_RelocGoes.j3 k3 a0 a1 a2 a3 a4 a5 t182 y189 t193 ((t193.length : Int) != a0) x184000_19 a4 0 0) else (dowellaw17_RelocGoes.j3 k3 a0 a1 a2 a3 a4 a5 t182 y189 t193 true x184000_19 a4 0 0)) = some r := H
                          have A39 := Aside0.mk A390
                          clear A390
                          have HC40 := Aside0.mk H
                          clear H
                          have hcz41_0 : wr.cell? ⟨gb183, 0, none⟩ = some (.int .i64 x184000_19) := (blk_cell BK183.out 0).trans rfl
                          have hcz41_1 : wr.cell? ⟨gb183, 1, none⟩ = some (.int .i64 a4) := (blk_cell BK183.out 1).trans rfl
                          have hcz41_2 : wr.cell? ⟨gb183, 2, none⟩ = some (.int .i64 0) := (blk_cell BK183.out 2).trans rfl
                          have hcz41_3 : wr.cell? ⟨gb183, 3, none⟩ = some (.int .i64 0) := (blk_cell BK183.out 3).trans rfl
                          have hfz41_0 := blk_frozen BK183.out 0
                          have hfz41_1 := blk_frozen BK183.out 1
                          have hfz41_2 := blk_frozen BK183.out 2
                          have hfz41_3 := blk_frozen BK183.out 3
                          go_upto_region 14 with (first | (go_at_call 28; (with_reducible refine (dowelref01_PutIns.calls x184000_19 a4 0 0 t188 _ A35.out).mono ?_); rintro e w42 ⟨rfl, hb⟩; have n0_ := Aside0.mk (Kd.R_below (by (with_reducible repeat (first | apply Kd.R_alloc | apply Kd.R_drewN | apply Kd.R_drew)); exact HO_15.out) hb); have n1_ := Aside0.mk (blk_below (g := gb183) (o := .cells #[.int .i64 x184000_19, .int .i64 a4, .int .i64 0, .int .i64 0] 46 (0, 0)) (by (with_reducible repeat (first | refine blk_drewN ?_ _ | refine blk_drew ?_ | refine blk_alloc ?_ _)); exact BK183.out) hb); have n2_ := Aside0.mk (below_step (by repeat (first | (with_reducible first | exact HB.out | apply below_alloc | apply pw_below_drewN | apply below_drew1 | refine below_set ?_ GE183.out) | exact HB.out)) hb); clear HO_15; clear BK183; clear HB; have HO_15 := n0_; have BK183 := n1_; have HB := n2_; clear n0_ n1_ n2_; (try clear hb); (try clear hb2); (try clear hk); (try clear hi); have p38 : 0 ≤ (a1 : Int) := of_decide_eq_true (by first | (with_reducible assumption) | assumption); have q38 : (a1 : Int) < ((x15_3.length : Int) : Int) := of_decide_eq_true (by first | (with_reducible assumption) | assumption); obtain ⟨go38, co38, eo38, gb38, gl38, cl38, HG38⟩ := Kd.R_form HO_15.out (by omega); (first | cases eo38 | (injection eo38 with ea_ en_ ec_; (first | subst ea_ | (injection ea_ with ea_; subst ea_)); subst ec_; clear en_)); have GB38 := Aside0.mk gb38; have GG38 := Aside0.mk HG38; clear gb38 gl38 HG38; obtain ⟨hx38_0, hf38_0⟩ := Kd.R_celln 0 HO_15.out (a1 : Int) p38 q38; replace p38 := eq_true p38; replace q38 := eq_true q38; obtain ⟨hy43_, hz43_⟩ := Kd.R_celln 0 HO_15.out (a1 : Int) (of_decide_eq_true (by first | (with_reducible assumption) | assumption)) (of_decide_eq_true (by first | (with_reducible assumption) | assumption)); have HP43 := Kd.R_putg HO_15.out (a1 : Int) t188) | ((with_reducible refine gate_store (t := 22) (p := 85) rfl ?_); (try (rw [drewN_self w42]; generalize hq_ : World.drewN w42 _ = w42; have n0_ := Aside0.mk (Kd.R_at hq_ HO_15.out); have n1_ := Aside0.mk (blk_at hq_ BK183.out); have n2_ := Aside0.mk (below_at hq_ HB.out); clear hq_ HO_15 BK183 HB; have HO_15 := n0_; have BK183 := n1_; have HB := n2_; clear n0_ n1_ n2_; (try (obtain ⟨hy43_, hz43_⟩ := Kd.R_celln 0 HO_15.out (a1 : Int) (of_decide_eq_true (by first | (with_reducible assumption) | assumption)) (of_decide_eq_true (by first | (with_reducible assumption) | assumption)))); (try (have HP43 := Kd.R_putg HO_15.out (a1 : Int) t188)))); refine store_event (t := 22) (p := 85) (v := ?vo_w44) (w1 := (w42.setCell ⟨go38, (a1 : Int).toNat, none⟩ (.int .u32 t188))) ?hg ?ho ?hn ?hr ?_; (case ho => rfl); (case hg => rfl); (case hn => rfl); (case hr => first | (go_simp; done) | (go_simp; rfl)); intro w44 hw; have hg : w42.grownBy w44 (some go38) := (by rw [hw]; exact HP43.2); have hp_ : Kd.R (Kd.int .u32) 22 w44 w.heap.size (fun _ => True) (.slice (some ⟨go38, 0, none⟩) x15_3.length co38) y189 := (by rw [hw, Ny189.out]; exact HP43.1); clear HP43; have n0_ := Aside0.mk (hp_); have n1_ := Aside0.mk (blk_grown (g := gb183) (o := .cells #[.int .i64 x184000_19, .int .i64 a4, .int .i64 0, .int .i64 0] 46 (0, 0)) (by (with_reducible repeat (first | refine blk_drewN ?_ _ | refine blk_drew ?_ | refine blk_alloc ?_ _)); exact BK183.out) hg (Kd.R_ne HO_15.out BK183.out (by decide))); have n2_ := Aside0.mk ((by rw [hw]; exact below_set (HB.out) GB38.out : Below w.heap.size w w44)); clear HO_15; clear BK183; clear HB; have HO_15 := n0_; have BK183 := n1_; have HB := n2_; clear n0_ n1_ n2_; clear hg hw hp_) | ((with_reducible refine gate_dst (N := 92) rfl ?_); (try (refine gate_guard (by rfl) ?_; dsimp only)); refine Kd.R_lit k64 _ 64 ?hg (N := 92) ?hd (xs := ([(⟨a1, a3⟩ : S64)] : List (S64))) (inner := [.int .i64 a1, .int .i64 a3]) (ok := fun _ => True) (okp := fun _ => True) ?hr ?hp (fun _ hk => hk) trivial (Below.refl _ _) (Nat.le_refl _) (by simp) ?_; (case hd => rfl); (case hg => rfl); (case hr => first | (go_simp; done) | (go_simp; rfl)); (case hp => exact (Reps.c2 (show Kd.M k64 _ _ _ (⟨a1, a3⟩ : S64) [.int .i64 a1, .int .i64 a3] from (k64_mkM _ _ _ (⟨a1, a3⟩ : S64) )) (Reps.none _ _))); intro v191 w45 ho46 hb hg_ hnew_; clear hg_ hnew_; (first | rw [← Ny190.out] at ho46 | (simp only [Int.reduceToNat] at ho46; rw [← Ny190.out] at ho46)); have n0_ := Aside0.mk (Kd.R_below (by (with_reducible repeat (first | apply Kd.R_alloc | apply Kd.R_drewN | apply Kd.R_drew)); exact HO_15.out) hb); have n1_ := Aside0.mk (Kd.R_lower ho46 (below_size (by repeat (first | (with_reducible first | exact HB.out | apply below_alloc | apply pw_below_drewN | apply below_drew1 | refine below_set ?_ GE183.out) | exact HB.out)))); have n2_ := Aside0.mk (blk_below (g := gb183) (o := .cells #[.int .i64 x184000_19, .int .i64 a4, .int .i64 0, .int .i64 0] 46 (0, 0)) (by (with_reducible repeat (first | refine blk_drewN ?_ _ | refine blk_drew ?_ | refine blk_alloc ?_ _)); exact BK183.out) hb); have n3_ := Aside0.mk (below_step (by repeat (first | (with_reducible first | exact HB.out | apply below_alloc | apply pw_below_drewN | apply below_drew1 | refine below_set ?_ GE183.out) | exact HB.out)) hb); clear HO_15; clear BK183; clear HB; have HO_15 := n0_; have HO192 := n1_; have BK183 := n2_; have HB := n3_; clear n0_ n1_ n2_ n3_; clear hb ho46; obtain ⟨Ao47, co47, eo47⟩ := Kd.R_slice HO192.out; subst eo47) | (go_at_call 26; refine calls_of_args (args' := #[.slice (some ⟨go38, 0, none⟩) y189.length co38, .int .i64 a2, .slice Ao47 y190.length co47]) (by first | (rw [show y189.length = x15_3.length from (Kd.R_reads' HO_15.out).1.symm] <;> rfl) | rfl) ?_; (with_reducible refine (reloc_Link.calls k3 _ _ y189 a2 _ _ y190 t193 t194 _ ?side1 ?side2 ?side3 ?side4 A39.out).mono ?_); (case side1 => repeat (first | exact (Kd.R_reads' HO_15.out).2.2 | (with_reducible refine Kd.C_alloc ?_ _) | (with_reducible refine Kd.C_drewN ?_ _) | (with_reducible refine Kd.C_drew ?_))); (case side2 => rw [show y189.length = x15_3.length from (Kd.R_reads' HO_15.out).1.symm]; exact (Kd.R_reads' HO_15.out).2.1); (case side3 => repeat (first | exact (Kd.R_reads' HO192.out).2.2 | (with_reducible refine Kd.C_alloc ?_ _) | (with_reducible refine Kd.C_drewN ?_ _) | (with_reducible refine Kd.C_drew ?_))); (case side4 => exact (Kd.R_reads' HO192.out).2.1); rintro e w48 ⟨v195, rfl, ho0, hb⟩; have n0_ := Aside0.mk (Kd.R_elder' (by (with_reducible repeat (first | apply Kd.R_alloc | apply Kd.R_drewN | apply Kd.R_drew)); exact HO_15.out) (Kd.R_base ho0) hb); have n1_ := Aside0.mk (Kd.R_below (by (with_reducible repeat (first | apply Kd.R_alloc | apply Kd.R_drewN | apply Kd.R_drew)); exact HO192.out) hb); have n2_ := Aside0.mk (Kd.R_lower (Kd.R_new' ho0 (Kd.R_lt (by (with_reducible repeat (first | apply Kd.R_alloc | apply Kd.R_drewN | apply Kd.R_drew)); exact HO_15.out))) (below_size (by repeat (first | (with_reducible first | exact HB.out | apply below_alloc | apply pw_below_drewN | apply below_drew1 | refine below_set ?_ GE183.out) | exact HB.out)))); have n3_ := Aside0.mk (blk_below (g := gb183) (o := .cells #[.int .i64 x184000_19, .int .i64 a4, .int .i64 0, .int .i64 0] 46 (0, 0)) (by (with_reducible repeat (first | refine blk_drewN ?_ _ | refine blk_drew ?_ | refine blk_alloc ?_ _)); exact BK183.out) hb); have n4_ := Aside0.mk (below_step (by repeat (first | (with_reducible first | exact HB.out | apply below_alloc | apply pw_below_drewN | apply below_drew1 | refine below_set ?_ GE183.out) | exact HB.out)) hb); clear HO_15; clear HO192; clear BK183; clear HB; have HO_15 := n0_; have HO192 := n1_; have HO196 := n2_; have BK183 := n3_; have HB := n4_; clear n0_ n1_ n2_ n3_ n4_; (try clear hb); (try clear hb2); (try clear hk); (try clear hi); (try clear ho0); (try simp only [errW_none, errW_some])))
                          repeat (go_quiet (first | (go_at_call 28; (with_reducible refine (dowelref01_PutIns.calls x184000_19 a4 0 0 t188 _ A35.out).mono ?_); rintro e w42 ⟨rfl, hb⟩; have n0_ := Aside0.mk (Kd.R_below (by (with_reducible repeat (first | apply Kd.R_alloc | apply Kd.R_drewN | apply Kd.R_drew)); exact HO_15.out) hb); have n1_ := Aside0.mk (blk_below (g := gb183) (o := .cells #[.int .i64 x184000_19, .int .i64 a4, .int .i64 0, .int .i64 0] 46 (0, 0)) (by (with_reducible repeat (first | refine blk_drewN ?_ _ | refine blk_drew ?_ | refine blk_alloc ?_ _)); exact BK183.out) hb); have n2_ := Aside0.mk (below_step (by repeat (first | (with_reducible first | exact HB.out | apply below_alloc | apply pw_below_drewN | apply below_drew1 | refine below_set ?_ GE183.out) | exact HB.out)) hb); clear HO_15; clear BK183; clear HB; have HO_15 := n0_; have BK183 := n1_; have HB := n2_; clear n0_ n1_ n2_; (try clear hb); (try clear hb2); (try clear hk); (try clear hi); have p38 : 0 ≤ (a1 : Int) := of_decide_eq_true (by first | (with_reducible assumption) | assumption); have q38 : (a1 : Int) < ((x15_3.length : Int) : Int) := of_decide_eq_true (by first | (with_reducible assumption) | assumption); obtain ⟨go38, co38, eo38, gb38, gl38, cl38, HG38⟩ := Kd.R_form HO_15.out (by omega); (first | cases eo38 | (injection eo38 with ea_ en_ ec_; (first | subst ea_ | (injection ea_ with ea_; subst ea_)); subst ec_; clear en_)); have GB38 := Aside0.mk gb38; have GG38 := Aside0.mk HG38; clear gb38 gl38 HG38; obtain ⟨hx38_0, hf38_0⟩ := Kd.R_celln 0 HO_15.out (a1 : Int) p38 q38; replace p38 := eq_true p38; replace q38 := eq_true q38; obtain ⟨hy43_, hz43_⟩ := Kd.R_celln 0 HO_15.out (a1 : Int) (of_decide_eq_true (by first | (with_reducible assumption) | assumption)) (of_decide_eq_true (by first | (with_reducible assumption) | assumption)); have HP43 := Kd.R_putg HO_15.out (a1 : Int) t188) | ((with_reducible refine gate_store (t := 22) (p := 85) rfl ?_); (try (rw [drewN_self w42]; generalize hq_ : World.drewN w42 _ = w42; have n0_ := Aside0.mk (Kd.R_at hq_ HO_15.out); have n1_ := Aside0.mk (blk_at hq_ BK183.out); have n2_ := Aside0.mk (below_at hq_ HB.out); clear hq_ HO_15 BK183 HB; have HO_15 := n0_; have BK183 := n1_; have HB := n2_; clear n0_ n1_ n2_; (try (obtain ⟨hy43_, hz43_⟩ := Kd.R_celln 0 HO_15.out (a1 : Int) (of_decide_eq_true (by first | (with_reducible assumption) | assumption)) (of_decide_eq_true (by first | (with_reducible assumption) | assumption)))); (try (have HP43 := Kd.R_putg HO_15.out (a1 : Int) t188)))); refine store_event (t := 22) (p := 85) (v := ?vo_w44) (w1 := (w42.setCell ⟨go38, (a1 : Int).toNat, none⟩ (.int .u32 t188))) ?hg ?ho ?hn ?hr ?_; (case ho => rfl); (case hg => rfl); (case hn => rfl); (case hr => first | (go_simp; done) | (go_simp; rfl)); intro w44 hw; have hg : w42.grownBy w44 (some go38) := (by rw [hw]; exact HP43.2); have hp_ : Kd.R (Kd.int .u32) 22 w44 w.heap.size (fun _ => True) (.slice (some ⟨go38, 0, none⟩) x15_3.length co38) y189 := (by rw [hw, Ny189.out]; exact HP43.1); clear HP43; have n0_ := Aside0.mk (hp_); have n1_ := Aside0.mk (blk_grown (g := gb183) (o := .cells #[.int .i64 x184000_19, .int .i64 a4, .int .i64 0, .int .i64 0] 46 (0, 0)) (by (with_reducible repeat (first | refine blk_drewN ?_ _ | refine blk_drew ?_ | refine blk_alloc ?_ _)); exact BK183.out) hg (Kd.R_ne HO_15.out BK183.out (by decide))); have n2_ := Aside0.mk ((by rw [hw]; exact below_set (HB.out) GB38.out : Below w.heap.size w w44)); clear HO_15; clear BK183; clear HB; have HO_15 := n0_; have BK183 := n1_; have HB := n2_; clear n0_ n1_ n2_; clear hg hw hp_) | ((with_reducible refine gate_dst (N := 92) rfl ?_); (try (refine gate_guard (by rfl) ?_; dsimp only)); refine Kd.R_lit k64 _ 64 ?hg (N := 92) ?hd (xs := ([(⟨a1, a3⟩ : S64)] : List (S64))) (inner := [.int .i64 a1, .int .i64 a3]) (ok := fun _ => True) (okp := fun _ => True) ?hr ?hp (fun _ hk => hk) trivial (Below.refl _ _) (Nat.le_refl _) (by simp) ?_; (case hd => rfl); (case hg => rfl); (case hr => first | (go_simp; done) | (go_simp; rfl)); (case hp => exact (Reps.c2 (show Kd.M k64 _ _ _ (⟨a1, a3⟩ : S64) [.int .i64 a1, .int .i64 a3] from (k64_mkM _ _ _ (⟨a1, a3⟩ : S64) )) (Reps.none _ _))); intro v191 w45 ho46 hb hg_ hnew_; clear hg_ hnew_; (first | rw [← Ny190.out] at ho46 | (simp only [Int.reduceToNat] at ho46; rw [← Ny190.out] at ho46)); have n0_ := Aside0.mk (Kd.R_below (by (with_reducible repeat (first | apply Kd.R_alloc | apply Kd.R_drewN | apply Kd.R_drew)); exact HO_15.out) hb); have n1_ := Aside0.mk (Kd.R_lower ho46 (below_size (by repeat (first | (with_reducible first | exact HB.out | apply below_alloc | apply pw_below_drewN | apply below_drew1 | refine below_set ?_ GE183.out) | exact HB.out)))); have n2_ := Aside0.mk (blk_below (g := gb183) (o := .cells #[.int .i64 x184000_19, .int .i64 a4, .int .i64 0, .int .i64 0] 46 (0, 0)) (by (with_reducible repeat (first | refine blk_drewN ?_ _ | refine blk_drew ?_ | refine blk_alloc ?_ _)); exact BK183.out) hb); have n3_ := Aside0.mk (below_step (by repeat (first | (with_reducible first | exact HB.out | apply below_alloc | apply pw_below_drewN | apply below_drew1 | refine below_set ?_ GE183.out) | exact HB.out)) hb); clear HO_15; clear BK183; clear HB; have HO_15 := n0_; have HO192 := n1_; have BK183 := n2_; have HB := n3_; clear n0_ n1_ n2_ n3_; clear hb ho46; obtain ⟨Ao47, co47, eo47⟩ := Kd.R_slice HO192.out; subst eo47) | (go_at_call 26; refine calls_of_args (args' := #[.slice (some ⟨go38, 0, none⟩) y189.length co38, .int .i64 a2, .slice Ao47 y190.length co47]) (by first | (rw [show y189.length = x15_3.length from (Kd.R_reads' HO_15.out).1.symm] <;> rfl) | rfl) ?_; (with_reducible refine (reloc_Link.calls k3 _ _ y189 a2 _ _ y190 t193 t194 _ ?side1 ?side2 ?side3 ?side4 A39.out).mono ?_); (case side1 => repeat (first | exact (Kd.R_reads' HO_15.out).2.2 | (with_reducible refine Kd.C_alloc ?_ _) | (with_reducible refine Kd.C_drewN ?_ _) | (with_reducible refine Kd.C_drew ?_))); (case side2 => rw [show y189.length = x15_3.length from (Kd.R_reads' HO_15.out).1.symm]; exact (Kd.R_reads' HO_15.out).2.1); (case side3 => repeat (first | exact (Kd.R_reads' HO192.out).2.2 | (with_reducible refine Kd.C_alloc ?_ _) | (with_reducible refine Kd.C_drewN ?_ _) | (with_reducible refine Kd.C_drew ?_))); (case side4 => exact (Kd.R_reads' HO192.out).2.1); rintro e w48 ⟨v195, rfl, ho0, hb⟩; have n0_ := Aside0.mk (Kd.R_elder' (by (with_reducible repeat (first | apply Kd.R_alloc | apply Kd.R_drewN | apply Kd.R_drew)); exact HO_15.out) (Kd.R_base ho0) hb); have n1_ := Aside0.mk (Kd.R_below (by (with_reducible repeat (first | apply Kd.R_alloc | apply Kd.R_drewN | apply Kd.R_drew)); exact HO192.out) hb); have n2_ := Aside0.mk (Kd.R_lower (Kd.R_new' ho0 (Kd.R_lt (by (with_reducible repeat (first | apply Kd.R_alloc | apply Kd.R_drewN | apply Kd.R_drew)); exact HO_15.out))) (below_size (by repeat (first | (with_reducible first | exact HB.out | apply below_alloc | apply pw_below_drewN | apply below_drew1 | refine below_set ?_ GE183.out) | exact HB.out)))); have n3_ := Aside0.mk (blk_below (g := gb183) (o := .cells #[.int .i64 x184000_19, .int .i64 a4, .int .i64 0, .int .i64 0] 46 (0, 0)) (by (with_reducible repeat (first | refine blk_drewN ?_ _ | refine blk_drew ?_ | refine blk_alloc ?_ _)); exact BK183.out) hb); have n4_ := Aside0.mk (below_step (by repeat (first | (with_reducible first | exact HB.out | apply below_alloc | apply pw_below_drewN | apply below_drew1 | refine below_set ?_ GE183.out) | exact HB.out)) hb); clear HO_15; clear HO192; clear BK183; clear HB; have HO_15 := n0_; have HO192 := n1_; have HO196 := n2_; have BK183 := n3_; have HB := n4_; clear n0_ n1_ n2_ n3_ n4_; (try clear hb); (try clear hb2); (try clear hk); (try clear hi); (try clear ho0); (try simp only [errW_none, errW_some]))); go_upto_region 14 with (first | (go_at_call 28; (with_reducible refine (dowelref01_PutIns.calls x184000_19 a4 0 0 t188 _ A35.out).mono ?_); rintro e w42 ⟨rfl, hb⟩; have n0_ := Aside0.mk (Kd.R_below (by (with_reducible repeat (first | apply Kd.R_alloc | apply Kd.R_drewN | apply Kd.R_drew)); exact HO_15.out) hb); have n1_ := Aside0.mk (blk_below (g := gb183) (o := .cells #[.int .i64 x184000_19, .int .i64 a4, .int .i64 0, .int .i64 0] 46 (0, 0)) (by (with_reducible repeat (first | refine blk_drewN ?_ _ | refine blk_drew ?_ | refine blk_alloc ?_ _)); exact BK183.out) hb); have n2_ := Aside0.mk (below_step (by repeat (first | (with_reducible first | exact HB.out | apply below_alloc | apply pw_below_drewN | apply below_drew1 | refine below_set ?_ GE183.out) | exact HB.out)) hb); clear HO_15; clear BK183; clear HB; have HO_15 := n0_; have BK183 := n1_; have HB := n2_; clear n0_ n1_ n2_; (try clear hb); (try clear hb2); (try clear hk); (try clear hi); have p38 : 0 ≤ (a1 : Int) := of_decide_eq_true (by first | (with_reducible assumption) | assumption); have q38 : (a1 : Int) < ((x15_3.length : Int) : Int) := of_decide_eq_true (by first | (with_reducible assumption) | assumption); obtain ⟨go38, co38, eo38, gb38, gl38, cl38, HG38⟩ := Kd.R_form HO_15.out (by omega); (first | cases eo38 | (injection eo38 with ea_ en_ ec_; (first | subst ea_ | (injection ea_ with ea_; subst ea_)); subst ec_; clear en_)); have GB38 := Aside0.mk gb38; have GG38 := Aside0.mk HG38; clear gb38 gl38 HG38; obtain ⟨hx38_0, hf38_0⟩ := Kd.R_celln 0 HO_15.out (a1 : Int) p38 q38; replace p38 := eq_true p38; replace q38 := eq_true q38; obtain ⟨hy43_, hz43_⟩ := Kd.R_celln 0 HO_15.out (a1 : Int) (of_decide_eq_true (by first | (with_reducible assumption) | assumption)) (of_decide_eq_true (by first | (with_reducible assumption) | assumption)); have HP43 := Kd.R_putg HO_15.out (a1 : Int) t188) | ((with_reducible refine gate_store (t := 22) (p := 85) rfl ?_); (try (rw [drewN_self w42]; generalize hq_ : World.drewN w42 _ = w42; have n0_ := Aside0.mk (Kd.R_at hq_ HO_15.out); have n1_ := Aside0.mk (blk_at hq_ BK183.out); have n2_ := Aside0.mk (below_at hq_ HB.out); clear hq_ HO_15 BK183 HB; have HO_15 := n0_; have BK183 := n1_; have HB := n2_; clear n0_ n1_ n2_; (try (obtain ⟨hy43_, hz43_⟩ := Kd.R_celln 0 HO_15.out (a1 : Int) (of_decide_eq_true (by first | (with_reducible assumption) | assumption)) (of_decide_eq_true (by first | (with_reducible assumption) | assumption)))); (try (have HP43 := Kd.R_putg HO_15.out (a1 : Int) t188)))); refine store_event (t := 22) (p := 85) (v := ?vo_w44) (w1 := (w42.setCell ⟨go38, (a1 : Int).toNat, none⟩ (.int .u32 t188))) ?hg ?ho ?hn ?hr ?_; (case ho => rfl); (case hg => rfl); (case hn => rfl); (case hr => first | (go_simp; done) | (go_simp; rfl)); intro w44 hw; have hg : w42.grownBy w44 (some go38) := (by rw [hw]; exact HP43.2); have hp_ : Kd.R (Kd.int .u32) 22 w44 w.heap.size (fun _ => True) (.slice (some ⟨go38, 0, none⟩) x15_3.length co38) y189 := (by rw [hw, Ny189.out]; exact HP43.1); clear HP43; have n0_ := Aside0.mk (hp_); have n1_ := Aside0.mk (blk_grown (g := gb183) (o := .cells #[.int .i64 x184000_19, .int .i64 a4, .int .i64 0, .int .i64 0] 46 (0, 0)) (by (with_reducible repeat (first | refine blk_drewN ?_ _ | refine blk_drew ?_ | refine blk_alloc ?_ _)); exact BK183.out) hg (Kd.R_ne HO_15.out BK183.out (by decide))); have n2_ := Aside0.mk ((by rw [hw]; exact below_set (HB.out) GB38.out : Below w.heap.size w w44)); clear HO_15; clear BK183; clear HB; have HO_15 := n0_; have BK183 := n1_; have HB := n2_; clear n0_ n1_ n2_; clear hg hw hp_) | ((with_reducible refine gate_dst (N := 92) rfl ?_); (try (refine gate_guard (by rfl) ?_; dsimp only)); refine Kd.R_lit k64 _ 64 ?hg (N := 92) ?hd (xs := ([(⟨a1, a3⟩ : S64)] : List (S64))) (inner := [.int .i64 a1, .int .i64 a3]) (ok := fun _ => True) (okp := fun _ => True) ?hr ?hp (fun _ hk => hk) trivial (Below.refl _ _) (Nat.le_refl _) (by simp) ?_; (case hd => rfl); (case hg => rfl); (case hr => first | (go_simp; done) | (go_simp; rfl)); (case hp => exact (Reps.c2 (show Kd.M k64 _ _ _ (⟨a1, a3⟩ : S64) [.int .i64 a1, .int .i64 a3] from (k64_mkM _ _ _ (⟨a1, a3⟩ : S64) )) (Reps.none _ _))); intro v191 w45 ho46 hb hg_ hnew_; clear hg_ hnew_; (first | rw [← Ny190.out] at ho46 | (simp only [Int.reduceToNat] at ho46; rw [← Ny190.out] at ho46)); have n0_ := Aside0.mk (Kd.R_below (by (with_reducible repeat (first | apply Kd.R_alloc | apply Kd.R_drewN | apply Kd.R_drew)); exact HO_15.out) hb); have n1_ := Aside0.mk (Kd.R_lower ho46 (below_size (by repeat (first | (with_reducible first | exact HB.out | apply below_alloc | apply pw_below_drewN | apply below_drew1 | refine below_set ?_ GE183.out) | exact HB.out)))); have n2_ := Aside0.mk (blk_below (g := gb183) (o := .cells #[.int .i64 x184000_19, .int .i64 a4, .int .i64 0, .int .i64 0] 46 (0, 0)) (by (with_reducible repeat (first | refine blk_drewN ?_ _ | refine blk_drew ?_ | refine blk_alloc ?_ _)); exact BK183.out) hb); have n3_ := Aside0.mk (below_step (by repeat (first | (with_reducible first | exact HB.out | apply below_alloc | apply pw_below_drewN | apply below_drew1 | refine below_set ?_ GE183.out) | exact HB.out)) hb); clear HO_15; clear BK183; clear HB; have HO_15 := n0_; have HO192 := n1_; have BK183 := n2_; have HB := n3_; clear n0_ n1_ n2_ n3_; clear hb ho46; obtain ⟨Ao47, co47, eo47⟩ := Kd.R_slice HO192.out; subst eo47) | (go_at_call 26; refine calls_of_args (args' := #[.slice (some ⟨go38, 0, none⟩) y189.length co38, .int .i64 a2, .slice Ao47 y190.length co47]) (by first | (rw [show y189.length = x15_3.length from (Kd.R_reads' HO_15.out).1.symm] <;> rfl) | rfl) ?_; (with_reducible refine (reloc_Link.calls k3 _ _ y189 a2 _ _ y190 t193 t194 _ ?side1 ?side2 ?side3 ?side4 A39.out).mono ?_); (case side1 => repeat (first | exact (Kd.R_reads' HO_15.out).2.2 | (with_reducible refine Kd.C_alloc ?_ _) | (with_reducible refine Kd.C_drewN ?_ _) | (with_reducible refine Kd.C_drew ?_))); (case side2 => rw [show y189.length = x15_3.length from (Kd.R_reads' HO_15.out).1.symm]; exact (Kd.R_reads' HO_15.out).2.1); (case side3 => repeat (first | exact (Kd.R_reads' HO192.out).2.2 | (with_reducible refine Kd.C_alloc ?_ _) | (with_reducible refine Kd.C_drewN ?_ _) | (with_reducible refine Kd.C_drew ?_))); (case side4 => exact (Kd.R_reads' HO192.out).2.1); rintro e w48 ⟨v195, rfl, ho0, hb⟩; have n0_ := Aside0.mk (Kd.R_elder' (by (with_reducible repeat (first | apply Kd.R_alloc | apply Kd.R_drewN | apply Kd.R_drew)); exact HO_15.out) (Kd.R_base ho0) hb); have n1_ := Aside0.mk (Kd.R_below (by (with_reducible repeat (first | apply Kd.R_alloc | apply Kd.R_drewN | apply Kd.R_drew)); exact HO192.out) hb); have n2_ := Aside0.mk (Kd.R_lower (Kd.R_new' ho0 (Kd.R_lt (by (with_reducible repeat (first | apply Kd.R_alloc | apply Kd.R_drewN | apply Kd.R_drew)); exact HO_15.out))) (below_size (by repeat (first | (with_reducible first | exact HB.out | apply below_alloc | apply pw_below_drewN | apply below_drew1 | refine below_set ?_ GE183.out) | exact HB.out)))); have n3_ := Aside0.mk (blk_below (g := gb183) (o := .cells #[.int .i64 x184000_19, .int .i64 a4, .int .i64 0, .int .i64 0] 46 (0, 0)) (by (with_reducible repeat (first | refine blk_drewN ?_ _ | refine blk_drew ?_ | refine blk_alloc ?_ _)); exact BK183.out) hb); have n4_ := Aside0.mk (below_step (by repeat (first | (with_reducible first | exact HB.out | apply below_alloc | apply pw_below_drewN | apply below_drew1 | refine below_set ?_ GE183.out) | exact HB.out)) hb); clear HO_15; clear HO192; clear BK183; clear HB; have HO_15 := n0_; have HO192 := n1_; have HO196 := n2_; have BK183 := n3_; have HB := n4_; clear n0_ n1_ n2_ n3_ n4_; (try clear hb); (try clear hb2); (try clear hk); (try clear hi); (try clear ho0); (try simp only [errW_none, errW_some]))))
                          (try simp only [Act.put, List.setIfInBounds_toArray, List.set_cons_zero, List.set_cons_succ])
                          go_cut [103] (fun v103 wc => ∃ (kq : Nat) (x103_39 : Bool), v103 = .bool x103_39 ∧ Aside0 (dowellaw17_RelocGoes.j3 kq a0 a1 a2 a3 a4 a5 t182 y189 t193 x103_39 x184000_19 a4 0 0 = some r) ∧ Aside0 (kq ≤ k3) ∧ Aside0 (Kd.R (Kd.int .u32) 22 wc w.heap.size (fun k_ => some k_ ≠ (v195 : Value).ownBlock) (.slice (some ⟨go38, 0, none⟩) x15_3.length co38) y189) ∧ Aside0 (Kd.R (Kd.int .u32) 22 wc w.heap.size (fun k_ => some k_ ≠ ((.slice (some ⟨go38, 0, none⟩) x15_3.length co38) : Value).ownBlock) v195 t193) ∧ Aside0 (wc.heap[gb183]? = some (.cells #[.int .i64 x184000_19, .int .i64 a4, .int .i64 0, .int .i64 0] 46 (0, 0))) ∧ Aside0 (Below w.heap.size w wc))
                          case first =>
                            have H := HC40.out
                            clear HC40
                            rcases t194 with _ | q197
                            · have H1 : (dowellaw17_RelocGoes.j3 k3 a0 a1 a2 a3 a4 a5 t182 y189 t193 ((t193.length : Int) != a0) x184000_19 a4 0 0) = some r := by rw [if_pos (show (none : Option Int).isNone = true by rfl)] at H; exact H
                              clear H
                              have H := H1
                              clear H1
                              try simp only [errW_none, errW_some]
                              have H' := Aside0.mk H
                              clear H
                              obtain ⟨Ao49, co49, eo49⟩ := Kd.R_slice HO196.out
                              subst eo49
                              go_wp2
                              repeat (go_quiet (fail); try go_wp2)
                              go_meet
                              case rel => exact ⟨_, (((t193.length : Int) != a0)), (by first | rfl | (simp; done) | (simp [*]; done)), H', ⟨by have := HJ7.out; have := HJ19.out; have := HK3.out; first | omega | exact Nat.le_refl _⟩, ⟨by (with_reducible repeat (first | apply Kd.R_alloc | apply Kd.R_drewN | apply Kd.R_drew)); exact Kd.R_mono HO_15.out (fun _ hk => hk.2)⟩, ⟨by (with_reducible repeat (first | apply Kd.R_alloc | apply Kd.R_drewN | apply Kd.R_drew)); exact Kd.R_mono HO196.out (fun _ hk => hk.2)⟩, ⟨by (with_reducible repeat (first | refine blk_drewN ?_ _ | refine blk_drew ?_ | refine blk_alloc ?_ _)); exact BK183.out⟩, ⟨by repeat (first | (with_reducible first | exact HB.out | apply below_alloc | apply pw_below_drewN | apply below_drew1 | refine below_set ?_ GE183.out) | exact HB.out)⟩⟩
                            · have H1 : (dowellaw17_RelocGoes.j3 k3 a0 a1 a2 a3 a4 a5 t182 y189 t193 true x184000_19 a4 0 0) = some r := by rw [if_neg (show ¬ (some q197).isNone = true by simp)] at H; exact H
                              clear H
                              have H := H1
                              clear H1
                              try simp only [errW_none, errW_some]
                              have H' := Aside0.mk H
                              clear H
                              go_wp2
                              repeat (go_quiet (fail); try go_wp2)
                              go_meet
                              case rel => exact ⟨_, (true), (by first | rfl | (simp; done) | (simp [*]; done)), H', ⟨by have := HJ7.out; have := HJ19.out; have := HK3.out; first | omega | exact Nat.le_refl _⟩, ⟨by (with_reducible repeat (first | apply Kd.R_alloc | apply Kd.R_drewN | apply Kd.R_drew)); exact Kd.R_mono HO_15.out (fun _ hk => hk.2)⟩, ⟨by (with_reducible repeat (first | apply Kd.R_alloc | apply Kd.R_drewN | apply Kd.R_drew)); exact Kd.R_mono HO196.out (fun _ hk => hk.2)⟩, ⟨by (with_reducible repeat (first | refine blk_drewN ?_ _ | refine blk_drew ?_ | refine blk_alloc ?_ _)); exact BK183.out⟩, ⟨by repeat (first | (with_reducible first | exact HB.out | apply below_alloc | apply pw_below_drewN | apply below_drew1 | refine below_set ?_ GE183.out) | exact HB.out)⟩⟩
                          case rest =>
                            clear HC40
                            try clear c1
                            try clear q1
                            try clear c2
                            try clear p2
                            try clear c3
                            try clear p3
                            try clear q3
                            try clear hx3
                            try clear c6
                            try clear p6
                            try clear c10
                            try clear c10b0
                            try clear c11
                            try clear c11b0
                            try clear c12
                            try clear c12b0
                            try clear c13
                            try clear c13b0
                            try clear c14
                            try clear c14b0
                            try clear c15
                            try clear c15b0
                            try clear c16
                            try clear c16b0
                            try clear c17
                            try clear c17b0
                            try clear c18
                            try clear c18b0
                            try clear c19
                            try clear q19
                            try clear c23
                            try clear c25
                            try clear c25b0
                            try clear c25b1
                            try clear c26
                            try clear c26b0
                            try clear c26b1
                            try clear c29
                            try clear c29b0
                            try clear c30
                            try clear c30b0
                            try clear c31
                            try clear c31b0
                            try clear p32
                            try clear q32
                            try clear hx32
                            try clear hf32
                            try clear c36
                            try clear c36b0
                            try clear c37
                            try clear c37b0
                            try clear p38
                            try clear q38
                            try clear hx38
                            try clear hf38
                            try clear hcz22_0
                            try clear hcz22_1
                            try clear hcz22_2
                            try clear hcz22_3
                            try clear hcz24_0
                            try clear hcz24_1
                            try clear hcz24_2
                            try clear hcz24_3
                            try clear hcz41_0
                            try clear hcz41_1
                            try clear hcz41_2
                            try clear hcz41_3
                            try clear hfz22_0
                            try clear hfz22_1
                            try clear hfz22_2
                            try clear hfz22_3
                            try clear hfz24_0
                            try clear hfz24_1
                            try clear hfz24_2
                            try clear hfz24_3
                            try clear hfz41_0
                            try clear hfz41_1
                            try clear hfz41_2
                            try clear hfz41_3
                            try clear hx32_0
                            try clear hx38_0
                            try clear p2
                            try clear p32
                            try clear p38
                            try clear q197
                            try clear q32
                            try clear q38
                            obtain ⟨kq, x103_39, rfl, HA, HJ39, HO_15, HO_17, BK183, HB⟩ := hcut
                            have hl15_39 := (Kd.R_reads' HO_15.out).1
                            rw [hl15_39] at HO_15
                            (try simp only [hl15_39])
                            (try simp only [hl15_39] at BK183)
                            (try simp only [hl15_39] at HO_17)
                            cases kq with
                            | zero => exact absurd HA.out (by simp [dowellaw17_RelocGoes.j3])
                            | succ kj39 =>
                              have H := HA.out
                              clear HA
                              simp only [dowellaw17_RelocGoes.j3] at H
                              by_cases c50 : x103_39 = true
                              · subst c50
                                have H1 : (some false) = some r := by rw [if_pos rfl] at H; exact H
                                clear H
                                have H := H1
                                clear H1
                                obtain rfl := Option.some.inj H
                                go_wp2
                                repeat (go_quiet (fail); try go_wp2)
                                go_ret
                                exact ⟨by first | rfl | (simp [errW_none, errW_some] <;> rfl) | (simp [*, errW_none, errW_some] <;> rfl), by repeat (first | (with_reducible first | exact HB.out | apply below_alloc | apply pw_below_drewN | apply below_drew1 | refine below_set ?_ GE183.out) | exact HB.out)⟩
                              · replace c50 := Bool.eq_false_iff.mpr c50
                                subst c50
                                have H1 : (dowellaw17_RelocGoes.l1 kj39 a0 a1 a2 a3 a4 a5 t182 y189 t193 0 x184000_19 a4 0 0) = some r := by rw [if_neg (show ¬ (false = true) by decide)] at H; exact H
                                clear H
                                have H := H1
                                clear H1
                                have H' := Aside0.mk H
                                clear H
                                go_wp2
                                repeat (go_quiet (fail); try go_wp2)
                                go_loopg [19] kj39 (fun kq v19 w' => ∃ (x19_5 : Int), v19 = .int .i64 x19_5 ∧ Aside0 (dowellaw17_RelocGoes.l1 kq a0 a1 a2 a3 a4 a5 t182 y189 t193 x19_5 x184000_19 a4 0 0 = some r) ∧ Aside0 (kq ≤ kj39) ∧ Aside0 (Kd.R (Kd.int .u32) 22 w' w.heap.size (fun k_ => some k_ ≠ (v195 : Value).ownBlock) (.slice (some ⟨go38, 0, none⟩) y189.length co38) y189) ∧ Aside0 (Kd.R (Kd.int .u32) 22 w' w.heap.size (fun k_ => some k_ ≠ ((.slice (some ⟨go38, 0, none⟩) y189.length co38) : Value).ownBlock) v195 t193) ∧ Aside0 (w'.heap[gb183]? = some (.cells #[.int .i64 x184000_19, .int .i64 a4, .int .i64 0, .int .i64 0] 46 (0, 0))) ∧ Aside0 (Below w.heap.size w w'))
                                case atStart => exact ⟨(0), (by first | rfl | (simp; done) | (simp [*]; done)), H', ⟨Nat.le_refl _⟩, ⟨by (try simp only [hl15_39]); (with_reducible repeat (first | apply Kd.R_alloc | apply Kd.R_drewN | apply Kd.R_drew)); exact HO_15.out⟩, ⟨by (try simp only [hl15_39]); (with_reducible repeat (first | apply Kd.R_alloc | apply Kd.R_drewN | apply Kd.R_drew)); exact HO_17.out⟩, ⟨by (try simp only [hl15_39]); (with_reducible repeat (first | refine blk_drewN ?_ _ | refine blk_drew ?_ | refine blk_alloc ?_ _)); exact BK183.out⟩, ⟨by repeat (first | (with_reducible first | exact HB.out | apply below_alloc | apply pw_below_drewN | apply below_drew1 | refine below_set ?_ GE183.out) | exact HB.out)⟩⟩
                                case round =>
                                  clear H'
                                  try clear c1
                                  try clear q1
                                  try clear c2
                                  try clear p2
                                  try clear c3
                                  try clear p3
                                  try clear q3
                                  try clear hx3
                                  try clear c5
                                  try clear c6
                                  try clear p6
                                  try clear c10
                                  try clear c10b0
                                  try clear c11
                                  try clear c11b0
                                  try clear c12
                                  try clear c12b0
                                  try clear c13
                                  try clear c13b0
                                  try clear c14
                                  try clear c14b0
                                  try clear c15
                                  try clear c15b0
                                  try clear c16
                                  try clear c16b0
                                  try clear c17
                                  try clear c17b0
                                  try clear c18
                                  try clear c18b0
                                  try clear c19
                                  try clear q19
                                  try clear c23
                                  try clear c25
                                  try clear c25b0
                                  try clear c25b1
                                  try clear c26
                                  try clear c26b0
                                  try clear c26b1
                                  try clear c29
                                  try clear c29b0
                                  try clear c30
                                  try clear c30b0
                                  try clear c31
                                  try clear c31b0
                                  try clear p32
                                  try clear q32
                                  try clear hx32
                                  try clear hf32
                                  try clear c36
                                  try clear c36b0
                                  try clear c37
                                  try clear c37b0
                                  try clear p38
                                  try clear q38
                                  try clear hx38
                                  try clear hf38
                                  try clear c50
                                  try clear hcz22_0
                                  try clear hcz22_1
                                  try clear hcz22_2
                                  try clear hcz22_3
                                  try clear hcz24_0
                                  try clear hcz24_1
                                  try clear hcz24_2
                                  try clear hcz24_3
                                  try clear hcz41_0
                                  try clear hcz41_1
                                  try clear hcz41_2
                                  try clear hcz41_3
                                  try clear hfz22_0
                                  try clear hfz22_1
                                  try clear hfz22_2
                                  try clear hfz22_3
                                  try clear hfz24_0
                                  try clear hfz24_1
                                  try clear hfz24_2
                                  try clear hfz24_3
                                  try clear hfz41_0
                                  try clear hfz41_1
                                  try clear hfz41_2
                                  try clear hfz41_3
                                  try clear hx32_0
                                  try clear hx38_0
                                  try clear p2
                                  try clear p3
                                  try clear p32
                                  try clear p38
                                  try clear p6
                                  try clear q1
                                  try clear q19
                                  try clear q197
                                  try clear q3
                                  try clear q32
                                  try clear q38
                                  obtain ⟨x19_5, rfl, HA, HK5, HO_15, HO_17, BK183, HB⟩ := hrel
                                  cases gk with
                                  | zero => exact absurd HA.out (by simp [dowellaw17_RelocGoes.l1])
                                  | succ k5 =>
                                    have H := HA.out
                                    clear HA
                                    simp only [dowellaw17_RelocGoes.l1] at H
                                    by_cases c51 : x19_5 < a0
                                    · rw [if_pos c51] at H
                                      have c51b0 : decide (x19_5 < a0) = true := decide_eq_true c51
                                      clear c51
                                      by_cases c52 : x19_5 = a1
                                      · rw [if_pos c52] at H
                                        have c52b0 : (x19_5 == a1) = true := beq_iff_eq.mpr c52
                                        have c52b1 : (x19_5 != a1) = false := bne_eq_false_iff_eq.mpr c52
                                        clear c52
                                        have H' := Aside0.mk H
                                        clear H
                                        go_wp2
                                        repeat (go_quiet (fail); try go_wp2)
                                        go_roundg k5
                                        case measure => have := HJ7.out; have := HJ19.out; have := HK3.out; have := HJ39.out; have := HK5.out; omega
                                        case rel => exact ⟨(wrap64 (x19_5 + 1)), (by first | rfl | (simp; done) | (simp [*]; done)), H', ⟨by have := HJ7.out; have := HJ19.out; have := HK3.out; have := HJ39.out; have := HK5.out; omega⟩, ⟨by (try simp only [hl15_39]); (with_reducible repeat (first | apply Kd.R_alloc | apply Kd.R_drewN | apply Kd.R_drew)); exact HO_15.out⟩, ⟨by (try simp only [hl15_39]); (with_reducible repeat (first | apply Kd.R_alloc | apply Kd.R_drewN | apply Kd.R_drew)); exact HO_17.out⟩, ⟨by (try simp only [hl15_39]); (with_reducible repeat (first | refine blk_drewN ?_ _ | refine blk_drew ?_ | refine blk_alloc ?_ _)); exact BK183.out⟩, ⟨by repeat (first | (with_reducible first | exact HB.out | apply below_alloc | apply pw_below_drewN | apply below_drew1 | refine below_set ?_ GE183.out) | exact HB.out)⟩⟩
                                      · rw [if_neg c52] at H
                                        have c52b0 : (x19_5 == a1) = false := beq_eq_false_iff_ne.mpr c52
                                        have c52b1 : (x19_5 != a1) = true := bne_iff_ne.mpr c52
                                        by_cases c53 : 0 ≤ x19_5
                                        · rw [if_pos c53] at H
                                          have c53b0 : decide (0 ≤ x19_5) = true := decide_eq_true c53
                                          clear c53
                                          by_cases c54 : x19_5 < (t193.length : Int)
                                          · rw [if_pos c54] at H
                                            have c54b0 : decide (x19_5 < (t193.length : Int)) = true := decide_eq_true c54
                                            clear c54
                                            by_cases c55 : x19_5 < (y189.length : Int)
                                            · rw [if_pos c55] at H
                                              have c55b0 : decide (x19_5 < (y189.length : Int)) = true := decide_eq_true c55
                                              clear c55
                                              by_cases c56 : (rd t193 x19_5) = (rd y189 x19_5)
                                              · rw [if_pos c56] at H
                                                have c56b0 : ((rd t193 x19_5) == (rd y189 x19_5)) = true := beq_iff_eq.mpr c56
                                                have c56b1 : ((rd t193 x19_5) != (rd y189 x19_5)) = false := bne_eq_false_iff_eq.mpr c56
                                                clear c56
                                                have H' := Aside0.mk H
                                                clear H
                                                obtain ⟨Ao57, co57, eo57⟩ := Kd.R_slice HO_17.out
                                                subst eo57
                                                have p198 : 0 ≤ (x19_5 : Int) := of_decide_eq_true (by first | (with_reducible assumption) | assumption)
                                                have q198 : x19_5 < (t193.length : Int) := of_decide_eq_true (by first | (with_reducible assumption) | assumption)
                                                obtain ⟨ad198, e198, hx198_0⟩ := Kd.at_int (Kd.R_reads' HO_17.out).2.2 x19_5 p198 q198
                                                cases e198
                                                replace p198 := eq_true p198
                                                replace q198 := eq_true q198
                                                have p199 : 0 ≤ (x19_5 : Int) := of_decide_eq_true (by first | (with_reducible assumption) | assumption)
                                                have q199 : x19_5 < (y189.length : Int) := of_decide_eq_true (by first | (with_reducible assumption) | assumption)
                                                obtain ⟨ad199, e199, hx199_0⟩ := Kd.at_int (Kd.R_reads' HO_15.out).2.2 x19_5 p199 q199
                                                obtain rfl : (⟨go38, 0, none⟩ : Addr) = ad199 := (by injection e199)
                                                (first | simp only [add_plain] at hx199_0 | simp only [add_at] at hx199_0 | simp only [Addr.add, Nat.zero_add] at hx199_0 | skip)
                                                replace p199 := eq_true p199
                                                replace q199 := eq_true q199
                                                go_wp2
                                                repeat (go_quiet (fail); try go_wp2)
                                                go_roundg k5
                                                case measure => have := HJ7.out; have := HJ19.out; have := HK3.out; have := HJ39.out; have := HK5.out; omega
                                                case rel => exact ⟨(wrap64 (x19_5 + 1)), (by first | rfl | (simp; done) | (simp [*]; done)), H', ⟨by have := HJ7.out; have := HJ19.out; have := HK3.out; have := HJ39.out; have := HK5.out; omega⟩, ⟨by (try simp only [hl15_39]); (with_reducible repeat (first | apply Kd.R_alloc | apply Kd.R_drewN | apply Kd.R_drew)); exact HO_15.out⟩, ⟨by (try simp only [hl15_39]); (with_reducible repeat (first | apply Kd.R_alloc | apply Kd.R_drewN | apply Kd.R_drew)); exact HO_17.out⟩, ⟨by (try simp only [hl15_39]); (with_reducible repeat (first | refine blk_drewN ?_ _ | refine blk_drew ?_ | refine blk_alloc ?_ _)); exact BK183.out⟩, ⟨by repeat (first | (with_reducible first | exact HB.out | apply below_alloc | apply pw_below_drewN | apply below_drew1 | refine below_set ?_ GE183.out) | exact HB.out)⟩⟩
                                              · rw [if_neg c56] at H
                                                have c56b0 : ((rd t193 x19_5) == (rd y189 x19_5)) = false := beq_eq_false_iff_ne.mpr c56
                                                have c56b1 : ((rd t193 x19_5) != (rd y189 x19_5)) = true := bne_iff_ne.mpr c56
                                                obtain rfl := Option.some.inj H
                                                obtain ⟨Ao58, co58, eo58⟩ := Kd.R_slice HO_17.out
                                                subst eo58
                                                have p198 : 0 ≤ (x19_5 : Int) := of_decide_eq_true (by first | (with_reducible assumption) | assumption)
                                                have q198 : x19_5 < (t193.length : Int) := of_decide_eq_true (by first | (with_reducible assumption) | assumption)
                                                obtain ⟨ad198, e198, hx198_0⟩ := Kd.at_int (Kd.R_reads' HO_17.out).2.2 x19_5 p198 q198
                                                cases e198
                                                replace p198 := eq_true p198
                                                replace q198 := eq_true q198
                                                have p199 : 0 ≤ (x19_5 : Int) := of_decide_eq_true (by first | (with_reducible assumption) | assumption)
                                                have q199 : x19_5 < (y189.length : Int) := of_decide_eq_true (by first | (with_reducible assumption) | assumption)
                                                obtain ⟨ad199, e199, hx199_0⟩ := Kd.at_int (Kd.R_reads' HO_15.out).2.2 x19_5 p199 q199
                                                obtain rfl : (⟨go38, 0, none⟩ : Addr) = ad199 := (by injection e199)
                                                (first | simp only [add_plain] at hx199_0 | simp only [add_at] at hx199_0 | simp only [Addr.add, Nat.zero_add] at hx199_0 | skip)
                                                replace p199 := eq_true p199
                                                replace q199 := eq_true q199
                                                go_wp2
                                                repeat (go_quiet (fail); try go_wp2)
                                                go_ret
                                                exact ⟨by first | rfl | (simp [errW_none, errW_some] <;> rfl) | (simp [*, errW_none, errW_some] <;> rfl), by repeat (first | (with_reducible first | exact HB.out | apply below_alloc | apply pw_below_drewN | apply below_drew1 | refine below_set ?_ GE183.out) | exact HB.out)⟩
                                            · rw [if_neg c55] at H
                                              exact absurd H (by simp)
                                          · rw [if_neg c54] at H
                                            exact absurd H (by simp)
                                        · rw [if_neg c53] at H
                                          exact absurd H (by simp)
                                    · rw [if_neg c51] at H
                                      have c51b0 : decide (x19_5 < a0) = false := decide_eq_false c51
                                      clear c51
                                      by_cases c59 : 0 ≤ a1
                                      · rw [if_pos c59] at H
                                        have c59b0 : decide (0 ≤ a1) = true := decide_eq_true c59
                                        clear c59
                                        by_cases c60 : a1 < (t193.length : Int)
                                        · rw [if_pos c60] at H
                                          have c60b0 : decide (a1 < (t193.length : Int)) = true := decide_eq_true c60
                                          clear c60
                                          replace H := Option.bind_eq_some_iff.mp H
                                          obtain ⟨⟨t201, t202, t203, t204, t205⟩, A610, H⟩ := H
                                          replace H : (if t205 = true then (if t201 = x184000_19 then (if t202 = a4 then (dowellaw17_RelocGoes.j5 k5 a1 a2 a3 a5 t182 (t203 != 0) t201 t202 t203 t204) else (dowellaw17_RelocGoes.j5 k5 a1 a2 a3 a5 t182 true t201 t202 t203 t204)) else (dowellaw17_RelocGoes.j5 k5 a1 a2 a3 a5 t182 true t201 t202 t203 t204)) else (dowellaw17_RelocGoes.j5 k5 a1 a2 a3 a5 t182 true t201 t202 t203 t204)) = some r := H
                                          have A61 := Aside0.mk A610
                                          clear A610
                                          have HC62 := Aside0.mk H
                                          clear H
                                          obtain ⟨Ao63, co63, eo63⟩ := Kd.R_slice HO_17.out
                                          subst eo63
                                          have p200 : 0 ≤ (a1 : Int) := of_decide_eq_true (by first | (with_reducible assumption) | assumption)
                                          have q200 : a1 < (t193.length : Int) := of_decide_eq_true (by first | (with_reducible assumption) | assumption)
                                          obtain ⟨ad200, e200, hx200_0⟩ := Kd.at_int (Kd.R_reads' HO_17.out).2.2 a1 p200 q200
                                          cases e200
                                          replace p200 := eq_true p200
                                          replace q200 := eq_true q200
                                          go_upto_region 22 with (first | (go_at_call 29; (with_reducible refine (dowelref01_GetIns.calls k5 (rd t193 a1) t201 t202 t203 t204 t205 _ A61.out).mono ?_); rintro e w64 ⟨rfl, hb⟩; have n0_ := Aside0.mk (Kd.R_below (by (with_reducible repeat (first | apply Kd.R_alloc | apply Kd.R_drewN | apply Kd.R_drew)); exact HO_15.out) hb); have n1_ := Aside0.mk (Kd.R_below (by (with_reducible repeat (first | apply Kd.R_alloc | apply Kd.R_drewN | apply Kd.R_drew)); exact HO_17.out) hb); have n2_ := Aside0.mk (blk_below (g := gb183) (o := .cells #[.int .i64 x184000_19, .int .i64 a4, .int .i64 0, .int .i64 0] 46 (0, 0)) (by (with_reducible repeat (first | refine blk_drewN ?_ _ | refine blk_drew ?_ | refine blk_alloc ?_ _)); exact BK183.out) hb); have n3_ := Aside0.mk (below_step (by repeat (first | (with_reducible first | exact HB.out | apply below_alloc | apply pw_below_drewN | apply below_drew1 | refine below_set ?_ GE183.out) | exact HB.out)) hb); clear HO_15; clear HO_17; clear BK183; clear HB; have HO_15 := n0_; have HO_17 := n1_; have BK183 := n2_; have HB := n3_; clear n0_ n1_ n2_ n3_; (try clear hb); (try clear hb2); (try clear hk); (try clear hi)) | ((with_reducible refine gate_dst (N := 20) rfl ?_); (try (refine gate_guard (by rfl) ?_; dsimp only)); refine box_event ?hg (N := 20) ?hd (cs := #[.int .i64 0, .int .i64 0, .int .i64 0, .int .i64 0]) (t := 46) ?hr ?_; (case hd => rfl); (case hg => rfl); (case hr => first | (go_simp; done) | (go_simp; rfl)); intro gb206 hg w65 hbox hb; have n0_ := Aside0.mk (Kd.R_below (by (with_reducible repeat (first | apply Kd.R_alloc | apply Kd.R_drewN | apply Kd.R_drew)); exact HO_15.out) hb); have n1_ := Aside0.mk (Kd.R_below (by (with_reducible repeat (first | apply Kd.R_alloc | apply Kd.R_drewN | apply Kd.R_drew)); exact HO_17.out) hb); have n2_ := Aside0.mk (blk_below (g := gb183) (o := .cells #[.int .i64 x184000_19, .int .i64 a4, .int .i64 0, .int .i64 0] 46 (0, 0)) (by (with_reducible repeat (first | refine blk_drewN ?_ _ | refine blk_drew ?_ | refine blk_alloc ?_ _)); exact BK183.out) hb); have n3_ := Aside0.mk (below_step (by repeat (first | (with_reducible first | exact HB.out | apply below_alloc | apply pw_below_drewN | apply below_drew1 | refine below_set ?_ GE183.out) | exact HB.out)) hb); have n4_ := Aside0.mk (hbox); have n5_ := Aside0.mk ((by rw [hg]; exact (below_size (by repeat (first | (with_reducible first | exact HB.out | apply below_alloc | apply pw_below_drewN | apply below_drew1 | refine below_set ?_ GE183.out) | exact HB.out))) : w.heap.size ≤ gb206)); have n6_ := Aside0.mk ((by rw [hg]; exact (below_size (by repeat (first | (with_reducible first | exact HB.out | apply below_alloc | apply pw_below_drewN | apply below_drew1 | refine below_set ?_ GE183.out) | exact HB.out))) : w.heap.size ≤ gb206)); have n7_ := Aside0.mk ((by rw [hg]; exact Nat.ne_of_lt (blk_lt (g := gb183) (o := .cells #[.int .i64 x184000_19, .int .i64 a4, .int .i64 0, .int .i64 0] 46 (0, 0)) (by (with_reducible repeat (first | refine blk_drewN ?_ _ | refine blk_drew ?_ | refine blk_alloc ?_ _)); exact BK183.out)) : gb183 ≠ gb206)); have n8_ := Aside0.mk ((by rw [hg]; exact Nat.ne_of_gt (blk_lt (g := gb183) (o := .cells #[.int .i64 x184000_19, .int .i64 a4, .int .i64 0, .int .i64 0] 46 (0, 0)) (by (with_reducible repeat (first | refine blk_drewN ?_ _ | refine blk_drew ?_ | refine blk_alloc ?_ _)); exact BK183.out)) : gb206 ≠ gb183)); clear HO_15; clear HO_17; clear BK183; clear HB; have HO_15 := n0_; have HO_17 := n1_; have BK183 := n2_; have HB := n3_; have BK206 := n4_; have GW206 := n5_; have GE206 := n6_; have NB183_206 := n7_; have NB206_183 := n8_; clear n0_ n1_ n2_ n3_ n4_ n5_ n6_ n7_ n8_; clear hb hbox hg; have hnb66 := NB206_183.out; have hnc66 := NB183_206.out; have hcz67_0 : w65.cell? ⟨gb206, 0, none⟩ = some (.int .i64 0) := (blk_cell BK206.out 0).trans rfl; have hcz67_1 : w65.cell? ⟨gb206, 1, none⟩ = some (.int .i64 0) := (blk_cell BK206.out 1).trans rfl; have hcz67_2 : w65.cell? ⟨gb206, 2, none⟩ = some (.int .i64 0) := (blk_cell BK206.out 2).trans rfl; have hcz67_3 : w65.cell? ⟨gb206, 3, none⟩ = some (.int .i64 0) := (blk_cell BK206.out 3).trans rfl; have hfz67_0 := blk_frozen BK206.out 0; have hfz67_1 := blk_frozen BK206.out 1; have hfz67_2 := blk_frozen BK206.out 2; have hfz67_3 := blk_frozen BK206.out 3))
                                          repeat (go_quiet (first | (go_at_call 29; (with_reducible refine (dowelref01_GetIns.calls k5 (rd t193 a1) t201 t202 t203 t204 t205 _ A61.out).mono ?_); rintro e w64 ⟨rfl, hb⟩; have n0_ := Aside0.mk (Kd.R_below (by (with_reducible repeat (first | apply Kd.R_alloc | apply Kd.R_drewN | apply Kd.R_drew)); exact HO_15.out) hb); have n1_ := Aside0.mk (Kd.R_below (by (with_reducible repeat (first | apply Kd.R_alloc | apply Kd.R_drewN | apply Kd.R_drew)); exact HO_17.out) hb); have n2_ := Aside0.mk (blk_below (g := gb183) (o := .cells #[.int .i64 x184000_19, .int .i64 a4, .int .i64 0, .int .i64 0] 46 (0, 0)) (by (with_reducible repeat (first | refine blk_drewN ?_ _ | refine blk_drew ?_ | refine blk_alloc ?_ _)); exact BK183.out) hb); have n3_ := Aside0.mk (below_step (by repeat (first | (with_reducible first | exact HB.out | apply below_alloc | apply pw_below_drewN | apply below_drew1 | refine below_set ?_ GE183.out) | exact HB.out)) hb); clear HO_15; clear HO_17; clear BK183; clear HB; have HO_15 := n0_; have HO_17 := n1_; have BK183 := n2_; have HB := n3_; clear n0_ n1_ n2_ n3_; (try clear hb); (try clear hb2); (try clear hk); (try clear hi)) | ((with_reducible refine gate_dst (N := 20) rfl ?_); (try (refine gate_guard (by rfl) ?_; dsimp only)); refine box_event ?hg (N := 20) ?hd (cs := #[.int .i64 0, .int .i64 0, .int .i64 0, .int .i64 0]) (t := 46) ?hr ?_; (case hd => rfl); (case hg => rfl); (case hr => first | (go_simp; done) | (go_simp; rfl)); intro gb206 hg w65 hbox hb; have n0_ := Aside0.mk (Kd.R_below (by (with_reducible repeat (first | apply Kd.R_alloc | apply Kd.R_drewN | apply Kd.R_drew)); exact HO_15.out) hb); have n1_ := Aside0.mk (Kd.R_below (by (with_reducible repeat (first | apply Kd.R_alloc | apply Kd.R_drewN | apply Kd.R_drew)); exact HO_17.out) hb); have n2_ := Aside0.mk (blk_below (g := gb183) (o := .cells #[.int .i64 x184000_19, .int .i64 a4, .int .i64 0, .int .i64 0] 46 (0, 0)) (by (with_reducible repeat (first | refine blk_drewN ?_ _ | refine blk_drew ?_ | refine blk_alloc ?_ _)); exact BK183.out) hb); have n3_ := Aside0.mk (below_step (by repeat (first | (with_reducible first | exact HB.out | apply below_alloc | apply pw_below_drewN | apply below_drew1 | refine below_set ?_ GE183.out) | exact HB.out)) hb); have n4_ := Aside0.mk (hbox); have n5_ := Aside0.mk ((by rw [hg]; exact (below_size (by repeat (first | (with_reducible first | exact HB.out | apply below_alloc | apply pw_below_drewN | apply below_drew1 | refine below_set ?_ GE183.out) | exact HB.out))) : w.heap.size ≤ gb206)); have n6_ := Aside0.mk ((by rw [hg]; exact (below_size (by repeat (first | (with_reducible first | exact HB.out | apply below_alloc | apply pw_below_drewN | apply below_drew1 | refine below_set ?_ GE183.out) | exact HB.out))) : w.heap.size ≤ gb206)); have n7_ := Aside0.mk ((by rw [hg]; exact Nat.ne_of_lt (blk_lt (g := gb183) (o := .cells #[.int .i64 x184000_19, .int .i64 a4, .int .i64 0, .int .i64 0] 46 (0, 0)) (by (with_reducible repeat (first | refine blk_drewN ?_ _ | refine blk_drew ?_ | refine blk_alloc ?_ _)); exact BK183.out)) : gb183 ≠ gb206)); have n8_ := Aside0.mk ((by rw [hg]; exact Nat.ne_of_gt (blk_lt (g := gb183) (o := .cells #[.int .i64 x184000_19, .int .i64 a4, .int .i64 0, .int .i64 0] 46 (0, 0)) (by (with_reducible repeat (first | refine blk_drewN ?_ _ | refine blk_drew ?_ | refine blk_alloc ?_ _)); exact BK183.out)) : gb206 ≠ gb183)); clear HO_15; clear HO_17; clear BK183; clear HB; have HO_15 := n0_; have HO_17 := n1_; have BK183 := n2_; have HB := n3_; have BK206 := n4_; have GW206 := n5_; have GE206 := n6_; have NB183_206 := n7_; have NB206_183 := n8_; clear n0_ n1_ n2_ n3_ n4_ n5_ n6_ n7_ n8_; clear hb hbox hg; have hnb66 := NB206_183.out; have hnc66 := NB183_206.out; have hcz67_0 : w65.cell? ⟨gb206, 0, none⟩ = some (.int .i64 0) := (blk_cell BK206.out 0).trans rfl; have hcz67_1 : w65.cell? ⟨gb206, 1, none⟩ = some (.int .i64 0) := (blk_cell BK206.out 1).trans rfl; have hcz67_2 : w65.cell? ⟨gb206, 2, none⟩ = some (.int .i64 0) := (blk_cell BK206.out 2).trans rfl; have hcz67_3 : w65.cell? ⟨gb206, 3, none⟩ = some (.int .i64 0) := (blk_cell BK206.out 3).trans rfl; have hfz67_0 := blk_frozen BK206.out 0; have hfz67_1 := blk_frozen BK206.out 1; have hfz67_2 := blk_frozen BK206.out 2; have hfz67_3 := blk_frozen BK206.out 3)); go_upto_region 22 with (first | (go_at_call 29; (with_reducible refine (dowelref01_GetIns.calls k5 (rd t193 a1) t201 t202 t203 t204 t205 _ A61.out).mono ?_); rintro e w64 ⟨rfl, hb⟩; have n0_ := Aside0.mk (Kd.R_below (by (with_reducible repeat (first | apply Kd.R_alloc | apply Kd.R_drewN | apply Kd.R_drew)); exact HO_15.out) hb); have n1_ := Aside0.mk (Kd.R_below (by (with_reducible repeat (first | apply Kd.R_alloc | apply Kd.R_drewN | apply Kd.R_drew)); exact HO_17.out) hb); have n2_ := Aside0.mk (blk_below (g := gb183) (o := .cells #[.int .i64 x184000_19, .int .i64 a4, .int .i64 0, .int .i64 0] 46 (0, 0)) (by (with_reducible repeat (first | refine blk_drewN ?_ _ | refine blk_drew ?_ | refine blk_alloc ?_ _)); exact BK183.out) hb); have n3_ := Aside0.mk (below_step (by repeat (first | (with_reducible first | exact HB.out | apply below_alloc | apply pw_below_drewN | apply below_drew1 | refine below_set ?_ GE183.out) | exact HB.out)) hb); clear HO_15; clear HO_17; clear BK183; clear HB; have HO_15 := n0_; have HO_17 := n1_; have BK183 := n2_; have HB := n3_; clear n0_ n1_ n2_ n3_; (try clear hb); (try clear hb2); (try clear hk); (try clear hi)) | ((with_reducible refine gate_dst (N := 20) rfl ?_); (try (refine gate_guard (by rfl) ?_; dsimp only)); refine box_event ?hg (N := 20) ?hd (cs := #[.int .i64 0, .int .i64 0, .int .i64 0, .int .i64 0]) (t := 46) ?hr ?_; (case hd => rfl); (case hg => rfl); (case hr => first | (go_simp; done) | (go_simp; rfl)); intro gb206 hg w65 hbox hb; have n0_ := Aside0.mk (Kd.R_below (by (with_reducible repeat (first | apply Kd.R_alloc | apply Kd.R_drewN | apply Kd.R_drew)); exact HO_15.out) hb); have n1_ := Aside0.mk (Kd.R_below (by (with_reducible repeat (first | apply Kd.R_alloc | apply Kd.R_drewN | apply Kd.R_drew)); exact HO_17.out) hb); have n2_ := Aside0.mk (blk_below (g := gb183) (o := .cells #[.int .i64 x184000_19, .int .i64 a4, .int .i64 0, .int .i64 0] 46 (0, 0)) (by (with_reducible repeat (first | refine blk_drewN ?_ _ | refine blk_drew ?_ | refine blk_alloc ?_ _)); exact BK183.out) hb); have n3_ := Aside0.mk (below_step (by repeat (first | (with_reducible first | exact HB.out | apply below_alloc | apply pw_below_drewN | apply below_drew1 | refine below_set ?_ GE183.out) | exact HB.out)) hb); have n4_ := Aside0.mk (hbox); have n5_ := Aside0.mk ((by rw [hg]; exact (below_size (by repeat (first | (with_reducible first | exact HB.out | apply below_alloc | apply pw_below_drewN | apply below_drew1 | refine below_set ?_ GE183.out) | exact HB.out))) : w.heap.size ≤ gb206)); have n6_ := Aside0.mk ((by rw [hg]; exact (below_size (by repeat (first | (with_reducible first | exact HB.out | apply below_alloc | apply pw_below_drewN | apply below_drew1 | refine below_set ?_ GE183.out) | exact HB.out))) : w.heap.size ≤ gb206)); have n7_ := Aside0.mk ((by rw [hg]; exact Nat.ne_of_lt (blk_lt (g := gb183) (o := .cells #[.int .i64 x184000_19, .int .i64 a4, .int .i64 0, .int .i64 0] 46 (0, 0)) (by (with_reducible repeat (first | refine blk_drewN ?_ _ | refine blk_drew ?_ | refine blk_alloc ?_ _)); exact BK183.out)) : gb183 ≠ gb206)); have n8_ := Aside0.mk ((by rw [hg]; exact Nat.ne_of_gt (blk_lt (g := gb183) (o := .cells #[.int .i64 x184000_19, .int .i64 a4, .int .i64 0, .int .i64 0] 46 (0, 0)) (by (with_reducible repeat (first | refine blk_drewN ?_ _ | refine blk_drew ?_ | refine blk_alloc ?_ _)); exact BK183.out)) : gb206 ≠ gb183)); clear HO_15; clear HO_17; clear BK183; clear HB; have HO_15 := n0_; have HO_17 := n1_; have BK183 := n2_; have HB := n3_; have BK206 := n4_; have GW206 := n5_; have GE206 := n6_; have NB183_206 := n7_; have NB206_183 := n8_; clear n0_ n1_ n2_ n3_ n4_ n5_ n6_ n7_ n8_; clear hb hbox hg; have hnb66 := NB206_183.out; have hnc66 := NB183_206.out; have hcz67_0 : w65.cell? ⟨gb206, 0, none⟩ = some (.int .i64 0) := (blk_cell BK206.out 0).trans rfl; have hcz67_1 : w65.cell? ⟨gb206, 1, none⟩ = some (.int .i64 0) := (blk_cell BK206.out 1).trans rfl; have hcz67_2 : w65.cell? ⟨gb206, 2, none⟩ = some (.int .i64 0) := (blk_cell BK206.out 2).trans rfl; have hcz67_3 : w65.cell? ⟨gb206, 3, none⟩ = some (.int .i64 0) := (blk_cell BK206.out 3).trans rfl; have hfz67_0 := blk_frozen BK206.out 0; have hfz67_1 := blk_frozen BK206.out 1; have hfz67_2 := blk_frozen BK206.out 2; have hfz67_3 := blk_frozen BK206.out 3)))
                                          (try simp only [Act.put, List.setIfInBounds_toArray, List.set_cons_zero, List.set_cons_succ])
                                          go_cut [150] (fun v150 wc => ∃ (kq : Nat) (x150_61 : Bool), v150 = .bool x150_61 ∧ Aside0 (dowellaw17_RelocGoes.j5 kq a1 a2 a3 a5 t182 x150_61 t201 t202 t203 t204 = some r) ∧ Aside0 (kq ≤ k5) ∧ Aside0 (wc.heap[gb183]? = some (.cells #[.int .i64 x184000_19, .int .i64 a4, .int .i64 0, .int .i64 0] 46 (0, 0))) ∧ Aside0 (wc.heap[gb206]? = some (.cells #[.int .i64 t201, .int .i64 t202, .int .i64 t203, .int .i64 t204] 46 (0, 0))) ∧ Aside0 (Below w.heap.size w wc))
                                          case first =>
                                            have H := HC62.out
                                            clear HC62
                                            by_cases c68 : t205 = true
                                            · subst c68
                                              have H1 : (if t201 = x184000_19 then (if t202 = a4 then (dowellaw17_RelocGoes.j5 k5 a1 a2 a3 a5 t182 (t203 != 0) t201 t202 t203 t204) else (dowellaw17_RelocGoes.j5 k5 a1 a2 a3 a5 t182 true t201 t202 t203 t204)) else (dowellaw17_RelocGoes.j5 k5 a1 a2 a3 a5 t182 true t201 t202 t203 t204)) = some r := by rw [if_pos rfl] at H; exact H
                                              clear H
                                              have H := H1
                                              clear H1
                                              by_cases c69 : t201 = x184000_19
                                              · rw [if_pos c69] at H
                                                have c69b0 : (t201 == x184000_19) = true := beq_iff_eq.mpr c69
                                                have c69b1 : (t201 != x184000_19) = false := bne_eq_false_iff_eq.mpr c69
                                                clear c69
                                                (first | rw [c69b0] | (simp only [i64_w, i32_w]; rw [c69b0]) | skip)
                                                by_cases c70 : t202 = a4
                                                · rw [if_pos c70] at H
                                                  have c70b0 : (t202 == a4) = true := beq_iff_eq.mpr c70
                                                  have c70b1 : (t202 != a4) = false := bne_eq_false_iff_eq.mpr c70
                                                  clear c70
                                                  have H' := Aside0.mk H
                                                  clear H
                                                  have hnb71 := NB206_183.out
                                                  have hnc71 := NB183_206.out
                                                  have hcz72_0 : w65.cell? ⟨gb206, 0, none⟩ = some (.int .i64 0) := (blk_cell BK206.out 0).trans rfl
                                                  have hcz72_1 : w65.cell? ⟨gb206, 1, none⟩ = some (.int .i64 0) := (blk_cell BK206.out 1).trans rfl
                                                  have hcz72_2 : w65.cell? ⟨gb206, 2, none⟩ = some (.int .i64 0) := (blk_cell BK206.out 2).trans rfl
                                                  have hcz72_3 : w65.cell? ⟨gb206, 3, none⟩ = some (.int .i64 0) := (blk_cell BK206.out 3).trans rfl
                                                  have hfz72_0 := blk_frozen BK206.out 0
                                                  have hfz72_1 := blk_frozen BK206.out 1
                                                  have hfz72_2 := blk_frozen BK206.out 2
                                                  have hfz72_3 := blk_frozen BK206.out 3
                                                  have hcz73_0 : w65.cell? ⟨gb183, 0, none⟩ = some (.int .i64 x184000_19) := (blk_cell BK183.out 0).trans rfl
                                                  have hcz73_1 : w65.cell? ⟨gb183, 1, none⟩ = some (.int .i64 a4) := (blk_cell BK183.out 1).trans rfl
                                                  have hcz73_2 : w65.cell? ⟨gb183, 2, none⟩ = some (.int .i64 0) := (blk_cell BK183.out 2).trans rfl
                                                  have hcz73_3 : w65.cell? ⟨gb183, 3, none⟩ = some (.int .i64 0) := (blk_cell BK183.out 3).trans rfl
                                                  have hfz73_0 := blk_frozen BK183.out 0
                                                  have hfz73_1 := blk_frozen BK183.out 1
                                                  have hfz73_2 := blk_frozen BK183.out 2
                                                  have hfz73_3 := blk_frozen BK183.out 3
                                                  go_wp2
                                                  repeat (go_quiet (fail); try go_wp2)
                                                  go_meet
                                                  case rel => exact ⟨_, ((t203 != 0)), (by first | rfl | (simp; done) | (simp [*]; done)), H', ⟨by have := HJ7.out; have := HJ19.out; have := HK3.out; have := HJ39.out; have := HK5.out; first | omega | exact Nat.le_refl _⟩, ⟨by (try simp only [hl15_39]); (with_reducible repeat (first | refine blk_drewN ?_ _ | refine blk_drew ?_ | refine blk_alloc ?_ _)); refine blk_far ?_ NB183_206.out _; (with_reducible repeat (first | refine blk_drewN ?_ _ | refine blk_drew ?_ | refine blk_alloc ?_ _)); refine blk_far ?_ NB183_206.out _; (with_reducible repeat (first | refine blk_drewN ?_ _ | refine blk_drew ?_ | refine blk_alloc ?_ _)); refine blk_far ?_ NB183_206.out _; (with_reducible repeat (first | refine blk_drewN ?_ _ | refine blk_drew ?_ | refine blk_alloc ?_ _)); refine blk_far ?_ NB183_206.out _; (with_reducible repeat (first | refine blk_drewN ?_ _ | refine blk_drew ?_ | refine blk_alloc ?_ _)); exact BK183.out⟩, ⟨by (try simp only [hl15_39]); (with_reducible repeat (first | refine blk_drewN ?_ _ | refine blk_drew ?_ | refine blk_alloc ?_ _)); refine blk_put (cs := #[.int .i64 t201, .int .i64 t202, .int .i64 t203, .int .i64 0]) ?_ 3 _ rfl; (with_reducible repeat (first | refine blk_drewN ?_ _ | refine blk_drew ?_ | refine blk_alloc ?_ _)); refine blk_put (cs := #[.int .i64 t201, .int .i64 t202, .int .i64 0, .int .i64 0]) ?_ 2 _ rfl; (with_reducible repeat (first | refine blk_drewN ?_ _ | refine blk_drew ?_ | refine blk_alloc ?_ _)); refine blk_put (cs := #[.int .i64 t201, .int .i64 0, .int .i64 0, .int .i64 0]) ?_ 1 _ rfl; (with_reducible repeat (first | refine blk_drewN ?_ _ | refine blk_drew ?_ | refine blk_alloc ?_ _)); refine blk_put (cs := #[.int .i64 0, .int .i64 0, .int .i64 0, .int .i64 0]) ?_ 0 _ rfl; (with_reducible repeat (first | refine blk_drewN ?_ _ | refine blk_drew ?_ | refine blk_alloc ?_ _)); exact BK206.out⟩, ⟨by repeat (first | (with_reducible first | exact HB.out | apply below_alloc | apply pw_below_drewN | apply below_drew1 | refine below_set ?_ GE183.out | refine below_set ?_ GE206.out) | exact HB.out)⟩⟩
                                                · rw [if_neg c70] at H
                                                  have c70b0 : (t202 == a4) = false := beq_eq_false_iff_ne.mpr c70
                                                  have c70b1 : (t202 != a4) = true := bne_iff_ne.mpr c70
                                                  have H' := Aside0.mk H
                                                  clear H
                                                  have hnb74 := NB206_183.out
                                                  have hnc74 := NB183_206.out
                                                  have hcz75_0 : w65.cell? ⟨gb206, 0, none⟩ = some (.int .i64 0) := (blk_cell BK206.out 0).trans rfl
                                                  have hcz75_1 : w65.cell? ⟨gb206, 1, none⟩ = some (.int .i64 0) := (blk_cell BK206.out 1).trans rfl
                                                  have hcz75_2 : w65.cell? ⟨gb206, 2, none⟩ = some (.int .i64 0) := (blk_cell BK206.out 2).trans rfl
                                                  have hcz75_3 : w65.cell? ⟨gb206, 3, none⟩ = some (.int .i64 0) := (blk_cell BK206.out 3).trans rfl
                                                  have hfz75_0 := blk_frozen BK206.out 0
                                                  have hfz75_1 := blk_frozen BK206.out 1
                                                  have hfz75_2 := blk_frozen BK206.out 2
                                                  have hfz75_3 := blk_frozen BK206.out 3
                                                  have hcz76_0 : w65.cell? ⟨gb183, 0, none⟩ = some (.int .i64 x184000_19) := (blk_cell BK183.out 0).trans rfl
                                                  have hcz76_1 : w65.cell? ⟨gb183, 1, none⟩ = some (.int .i64 a4) := (blk_cell BK183.out 1).trans rfl
                                                  have hcz76_2 : w65.cell? ⟨gb183, 2, none⟩ = some (.int .i64 0) := (blk_cell BK183.out 2).trans rfl
                                                  have hcz76_3 : w65.cell? ⟨gb183, 3, none⟩ = some (.int .i64 0) := (blk_cell BK183.out 3).trans rfl
                                                  have hfz76_0 := blk_frozen BK183.out 0
                                                  have hfz76_1 := blk_frozen BK183.out 1
                                                  have hfz76_2 := blk_frozen BK183.out 2
                                                  have hfz76_3 := blk_frozen BK183.out 3
                                                  go_wp2
                                                  repeat (go_quiet (fail); try go_wp2)
                                                  go_meet
                                                  case rel => exact ⟨_, (true), (by first | rfl | (simp; done) | (simp [*]; done)), H', ⟨by have := HJ7.out; have := HJ19.out; have := HK3.out; have := HJ39.out; have := HK5.out; first | omega | exact Nat.le_refl _⟩, ⟨by (try simp only [hl15_39]); (with_reducible repeat (first | refine blk_drewN ?_ _ | refine blk_drew ?_ | refine blk_alloc ?_ _)); refine blk_far ?_ NB183_206.out _; (with_reducible repeat (first | refine blk_drewN ?_ _ | refine blk_drew ?_ | refine blk_alloc ?_ _)); refine blk_far ?_ NB183_206.out _; (with_reducible repeat (first | refine blk_drewN ?_ _ | refine blk_drew ?_ | refine blk_alloc ?_ _)); refine blk_far ?_ NB183_206.out _; (with_reducible repeat (first | refine blk_drewN ?_ _ | refine blk_drew ?_ | refine blk_alloc ?_ _)); refine blk_far ?_ NB183_206.out _; (with_reducible repeat (first | refine blk_drewN ?_ _ | refine blk_drew ?_ | refine blk_alloc ?_ _)); exact BK183.out⟩, ⟨by (try simp only [hl15_39]); (with_reducible repeat (first | refine blk_drewN ?_ _ | refine blk_drew ?_ | refine blk_alloc ?_ _)); refine blk_put (cs := #[.int .i64 t201, .int .i64 t202, .int .i64 t203, .int .i64 0]) ?_ 3 _ rfl; (with_reducible repeat (first | refine blk_drewN ?_ _ | refine blk_drew ?_ | refine blk_alloc ?_ _)); refine blk_put (cs := #[.int .i64 t201, .int .i64 t202, .int .i64 0, .int .i64 0]) ?_ 2 _ rfl; (with_reducible repeat (first | refine blk_drewN ?_ _ | refine blk_drew ?_ | refine blk_alloc ?_ _)); refine blk_put (cs := #[.int .i64 t201, .int .i64 0, .int .i64 0, .int .i64 0]) ?_ 1 _ rfl; (with_reducible repeat (first | refine blk_drewN ?_ _ | refine blk_drew ?_ | refine blk_alloc ?_ _)); refine blk_put (cs := #[.int .i64 0, .int .i64 0, .int .i64 0, .int .i64 0]) ?_ 0 _ rfl; (with_reducible repeat (first | refine blk_drewN ?_ _ | refine blk_drew ?_ | refine blk_alloc ?_ _)); exact BK206.out⟩, ⟨by repeat (first | (with_reducible first | exact HB.out | apply below_alloc | apply pw_below_drewN | apply below_drew1 | refine below_set ?_ GE183.out | refine below_set ?_ GE206.out) | exact HB.out)⟩⟩
                                              · rw [if_neg c69] at H
                                                have c69b0 : (t201 == x184000_19) = false := beq_eq_false_iff_ne.mpr c69
                                                have c69b1 : (t201 != x184000_19) = true := bne_iff_ne.mpr c69
                                                (first | rw [c69b0] | (simp only [i64_w, i32_w]; rw [c69b0]) | skip)
                                                have H' := Aside0.mk H
                                                clear H
                                                have hnb77 := NB206_183.out
                                                have hnc77 := NB183_206.out
                                                have hcz78_0 : w65.cell? ⟨gb206, 0, none⟩ = some (.int .i64 0) := (blk_cell BK206.out 0).trans rfl
                                                have hcz78_1 : w65.cell? ⟨gb206, 1, none⟩ = some (.int .i64 0) := (blk_cell BK206.out 1).trans rfl
                                                have hcz78_2 : w65.cell? ⟨gb206, 2, none⟩ = some (.int .i64 0) := (blk_cell BK206.out 2).trans rfl
                                                have hcz78_3 : w65.cell? ⟨gb206, 3, none⟩ = some (.int .i64 0) := (blk_cell BK206.out 3).trans rfl
                                                have hfz78_0 := blk_frozen BK206.out 0
                                                have hfz78_1 := blk_frozen BK206.out 1
                                                have hfz78_2 := blk_frozen BK206.out 2
                                                have hfz78_3 := blk_frozen BK206.out 3
                                                have hcz79_0 : w65.cell? ⟨gb183, 0, none⟩ = some (.int .i64 x184000_19) := (blk_cell BK183.out 0).trans rfl
                                                have hcz79_1 : w65.cell? ⟨gb183, 1, none⟩ = some (.int .i64 a4) := (blk_cell BK183.out 1).trans rfl
                                                have hcz79_2 : w65.cell? ⟨gb183, 2, none⟩ = some (.int .i64 0) := (blk_cell BK183.out 2).trans rfl
                                                have hcz79_3 : w65.cell? ⟨gb183, 3, none⟩ = some (.int .i64 0) := (blk_cell BK183.out 3).trans rfl
                                                have hfz79_0 := blk_frozen BK183.out 0
                                                have hfz79_1 := blk_frozen BK183.out 1
                                                have hfz79_2 := blk_frozen BK183.out 2
                                                have hfz79_3 := blk_frozen BK183.out 3
                                                go_wp2
                                                repeat (go_quiet (fail); try go_wp2)
                                                go_meet
                                                case rel => exact ⟨_, (true), (by first | rfl | (simp; done) | (simp [*]; done)), H', ⟨by have := HJ7.out; have := HJ19.out; have := HK3.out; have := HJ39.out; have := HK5.out; first | omega | exact Nat.le_refl _⟩, ⟨by (try simp only [hl15_39]); (with_reducible repeat (first | refine blk_drewN ?_ _ | refine blk_drew ?_ | refine blk_alloc ?_ _)); refine blk_far ?_ NB183_206.out _; (with_reducible repeat (first | refine blk_drewN ?_ _ | refine blk_drew ?_ | refine blk_alloc ?_ _)); refine blk_far ?_ NB183_206.out _; (with_reducible repeat (first | refine blk_drewN ?_ _ | refine blk_drew ?_ | refine blk_alloc ?_ _)); refine blk_far ?_ NB183_206.out _; (with_reducible repeat (first | refine blk_drewN ?_ _ | refine blk_drew ?_ | refine blk_alloc ?_ _)); refine blk_far ?_ NB183_206.out _; (with_reducible repeat (first | refine blk_drewN ?_ _ | refine blk_drew ?_ | refine blk_alloc ?_ _)); exact BK183.out⟩, ⟨by (try simp only [hl15_39]); (with_reducible repeat (first | refine blk_drewN ?_ _ | refine blk_drew ?_ | refine blk_alloc ?_ _)); refine blk_put (cs := #[.int .i64 t201, .int .i64 t202, .int .i64 t203, .int .i64 0]) ?_ 3 _ rfl; (with_reducible repeat (first | refine blk_drewN ?_ _ | refine blk_drew ?_ | refine blk_alloc ?_ _)); refine blk_put (cs := #[.int .i64 t201, .int .i64 t202, .int .i64 0, .int .i64 0]) ?_ 2 _ rfl; (with_reducible repeat (first | refine blk_drewN ?_ _ | refine blk_drew ?_ | refine blk_alloc ?_ _)); refine blk_put (cs := #[.int .i64 t201, .int .i64 0, .int .i64 0, .int .i64 0]) ?_ 1 _ rfl; (with_reducible repeat (first | refine blk_drewN ?_ _ | refine blk_drew ?_ | refine blk_alloc ?_ _)); refine blk_put (cs := #[.int .i64 0, .int .i64 0, .int .i64 0, .int .i64 0]) ?_ 0 _ rfl; (with_reducible repeat (first | refine blk_drewN ?_ _ | refine blk_drew ?_ | refine blk_alloc ?_ _)); exact BK206.out⟩, ⟨by repeat (first | (with_reducible first | exact HB.out | apply below_alloc | apply pw_below_drewN | apply below_drew1 | refine below_set ?_ GE183.out | refine below_set ?_ GE206.out) | exact HB.out)⟩⟩
                                            · replace c68 := Bool.eq_false_iff.mpr c68
                                              subst c68
                                              have H1 : (dowellaw17_RelocGoes.j5 k5 a1 a2 a3 a5 t182 true t201 t202 t203 t204) = some r := by rw [if_neg (show ¬ (false = true) by decide)] at H; exact H
                                              clear H
                                              have H := H1
                                              clear H1
                                              have H' := Aside0.mk H
                                              clear H
                                              go_wp2
                                              repeat (go_quiet (fail); try go_wp2)
                                              go_meet
                                              case rel => exact ⟨_, (true), (by first | rfl | (simp; done) | (simp [*]; done)), H', ⟨by have := HJ7.out; have := HJ19.out; have := HK3.out; have := HJ39.out; have := HK5.out; first | omega | exact Nat.le_refl _⟩, ⟨by (try simp only [hl15_39]); (with_reducible repeat (first | refine blk_drewN ?_ _ | refine blk_drew ?_ | refine blk_alloc ?_ _)); refine blk_far ?_ NB183_206.out _; (with_reducible repeat (first | refine blk_drewN ?_ _ | refine blk_drew ?_ | refine blk_alloc ?_ _)); refine blk_far ?_ NB183_206.out _; (with_reducible repeat (first | refine blk_drewN ?_ _ | refine blk_drew ?_ | refine blk_alloc ?_ _)); refine blk_far ?_ NB183_206.out _; (with_reducible repeat (first | refine blk_drewN ?_ _ | refine blk_drew ?_ | refine blk_alloc ?_ _)); refine blk_far ?_ NB183_206.out _; (with_reducible repeat (first | refine blk_drewN ?_ _ | refine blk_drew ?_ | refine blk_alloc ?_ _)); exact BK183.out⟩, ⟨by (try simp only [hl15_39]); (with_reducible repeat (first | refine blk_drewN ?_ _ | refine blk_drew ?_ | refine blk_alloc ?_ _)); refine blk_put (cs := #[.int .i64 t201, .int .i64 t202, .int .i64 t203, .int .i64 0]) ?_ 3 _ rfl; (with_reducible repeat (first | refine blk_drewN ?_ _ | refine blk_drew ?_ | refine blk_alloc ?_ _)); refine blk_put (cs := #[.int .i64 t201, .int .i64 t202, .int .i64 0, .int .i64 0]) ?_ 2 _ rfl; (with_reducible repeat (first | refine blk_drewN ?_ _ | refine blk_drew ?_ | refine blk_alloc ?_ _)); refine blk_put (cs := #[.int .i64 t201, .int .i64 0, .int .i64 0, .int .i64 0]) ?_ 1 _ rfl; (with_reducible repeat (first | refine blk_drewN ?_ _ | refine blk_drew ?_ | refine blk_alloc ?_ _)); refine blk_put (cs := #[.int .i64 0, .int .i64 0, .int .i64 0, .int .i64 0]) ?_ 0 _ rfl; (with_reducible repeat (first | refine blk_drewN ?_ _ | refine blk_drew ?_ | refine blk_alloc ?_ _)); exact BK206.out⟩, ⟨by repeat (first | (with_reducible first | exact HB.out | apply below_alloc | apply pw_below_drewN | apply below_drew1 | refine below_set ?_ GE183.out | refine below_set ?_ GE206.out) | exact HB.out)⟩⟩
                                          case rest =>
                                            clear HC62
                                            try clear c1
                                            try clear p1
                                            try clear q1
                                            try clear hx1
                                            try clear c2
                                            try clear p2
                                            try clear q2
                                            try clear hx2
                                            try clear c3
                                            try clear p3
                                            try clear q3
                                            try clear hx3
                                            try clear c5
                                            try clear c6
                                            try clear p6
                                            try clear c7
                                            try clear c10
                                            try clear c10b0
                                            try clear c11
                                            try clear c11b0
                                            try clear c12
                                            try clear c12b0
                                            try clear c13
                                            try clear c13b0
                                            try clear c14
                                            try clear c14b0
                                            try clear c15
                                            try clear c15b0
                                            try clear c16
                                            try clear c16b0
                                            try clear c17
                                            try clear c17b0
                                            try clear c18
                                            try clear c18b0
                                            try clear c19
                                            try clear p19
                                            try clear q19
                                            try clear hx19
                                            try clear p20
                                            try clear q20
                                            try clear hx20
                                            try clear c23
                                            try clear c25
                                            try clear c25b0
                                            try clear c25b1
                                            try clear c26
                                            try clear c26b0
                                            try clear c26b1
                                            try clear c29
                                            try clear c29b0
                                            try clear c30
                                            try clear c30b0
                                            try clear c31
                                            try clear c31b0
                                            try clear p32
                                            try clear q32
                                            try clear hx32
                                            try clear hf32
                                            try clear c36
                                            try clear c36b0
                                            try clear c37
                                            try clear c37b0
                                            try clear p38
                                            try clear q38
                                            try clear hx38
                                            try clear hf38
                                            try clear c50
                                            try clear c51
                                            try clear c51b0
                                            try clear c52
                                            try clear c52b0
                                            try clear c52b1
                                            try clear c53
                                            try clear c53b0
                                            try clear c54
                                            try clear c54b0
                                            try clear c55
                                            try clear c55b0
                                            try clear c56
                                            try clear c56b0
                                            try clear c56b1
                                            try clear c59
                                            try clear c59b0
                                            try clear c60
                                            try clear c60b0
                                            try clear p64
                                            try clear c66
                                            try clear c68
                                            try clear c69
                                            try clear c69b0
                                            try clear c69b1
                                            try clear c70
                                            try clear c70b0
                                            try clear c70b1
                                            try clear c71
                                            try clear c74
                                            try clear c77
                                            try clear hcz22_0
                                            try clear hcz22_1
                                            try clear hcz22_2
                                            try clear hcz22_3
                                            try clear hcz24_0
                                            try clear hcz24_1
                                            try clear hcz24_2
                                            try clear hcz24_3
                                            try clear hcz41_0
                                            try clear hcz41_1
                                            try clear hcz41_2
                                            try clear hcz41_3
                                            try clear hcz67_0
                                            try clear hcz67_1
                                            try clear hcz67_2
                                            try clear hcz67_3
                                            try clear hcz72_0
                                            try clear hcz72_1
                                            try clear hcz72_2
                                            try clear hcz72_3
                                            try clear hcz73_0
                                            try clear hcz73_1
                                            try clear hcz73_2
                                            try clear hcz73_3
                                            try clear hcz75_0
                                            try clear hcz75_1
                                            try clear hcz75_2
                                            try clear hcz75_3
                                            try clear hcz76_0
                                            try clear hcz76_1
                                            try clear hcz76_2
                                            try clear hcz76_3
                                            try clear hcz78_0
                                            try clear hcz78_1
                                            try clear hcz78_2
                                            try clear hcz78_3
                                            try clear hcz79_0
                                            try clear hcz79_1
                                            try clear hcz79_2
                                            try clear hcz79_3
                                            try clear hfz22_0
                                            try clear hfz22_1
                                            try clear hfz22_2
                                            try clear hfz22_3
                                            try clear hfz24_0
                                            try clear hfz24_1
                                            try clear hfz24_2
                                            try clear hfz24_3
                                            try clear hfz41_0
                                            try clear hfz41_1
                                            try clear hfz41_2
                                            try clear hfz41_3
                                            try clear hfz67_0
                                            try clear hfz67_1
                                            try clear hfz67_2
                                            try clear hfz67_3
                                            try clear hfz72_0
                                            try clear hfz72_1
                                            try clear hfz72_2
                                            try clear hfz72_3
                                            try clear hfz73_0
                                            try clear hfz73_1
                                            try clear hfz73_2
                                            try clear hfz73_3
                                            try clear hfz75_0
                                            try clear hfz75_1
                                            try clear hfz75_2
                                            try clear hfz75_3
                                            try clear hfz76_0
                                            try clear hfz76_1
                                            try clear hfz76_2
                                            try clear hfz76_3
                                            try clear hfz78_0
                                            try clear hfz78_1
                                            try clear hfz78_2
                                            try clear hfz78_3
                                            try clear hfz79_0
                                            try clear hfz79_1
                                            try clear hfz79_2
                                            try clear hfz79_3
                                            try clear hx198_0
                                            try clear hx199_0
                                            try clear hx200_0
                                            try clear hx32_0
                                            try clear hx38_0
                                            try clear p198
                                            try clear p199
                                            try clear p2
                                            try clear p200
                                            try clear p3
                                            try clear p32
                                            try clear p38
                                            try clear p6
                                            try clear q1
                                            try clear q19
                                            try clear q197
                                            try clear q198
                                            try clear q199
                                            try clear q200
                                            try clear q3
                                            try clear q32
                                            try clear q38
                                            obtain ⟨kq, x150_61, rfl, HA, HJ61, BK183, BK206, HB⟩ := hcut
                                            cases kq with
                                            | zero => exact absurd HA.out (by simp [dowellaw17_RelocGoes.j5])
                                            | succ kj61 =>
                                              have H := HA.out
                                              clear HA
                                              simp only [dowellaw17_RelocGoes.j5] at H
                                              by_cases c80 : x150_61 = true
                                              · subst c80
                                                have H1 : (some false) = some r := by rw [if_pos rfl] at H; exact H
                                                clear H
                                                have H := H1
                                                clear H1
                                                obtain rfl := Option.some.inj H
                                                go_wp2
                                                repeat (go_quiet (fail); try go_wp2)
                                                go_ret
                                                exact ⟨by first | rfl | (simp [errW_none, errW_some] <;> rfl) | (simp [*, errW_none, errW_some] <;> rfl), by repeat (first | (with_reducible first | exact HB.out | apply below_alloc | apply pw_below_drewN | apply below_drew1 | refine below_set ?_ GE183.out | refine below_set ?_ GE206.out) | exact HB.out)⟩
                                              · replace c80 := Bool.eq_false_iff.mpr c80
                                                subst c80
                                                have H1 : (if a5 = true then (if t182 = true then (some (t204 == a3)) else (some false)) else (if t182 = true then (if (Int.tmod (wrap64 (a3 - (wrap64 ((wrap64 (a2 + (wrap64 (4 * a1)))) + 4)))) 4) = 0 then (some ((wrap64 ((wrap64 ((wrap64 (a2 + (wrap64 (4 * a1)))) + 4)) + (wrap64 (4 * t204)))) == a3)) else (some true)) else (some false))) = some r := by rw [if_neg (show ¬ (false = true) by decide)] at H; exact H
                                                clear H
                                                have H := H1
                                                clear H1
                                                by_cases c81 : a5 = true
                                                · subst c81
                                                  have H1 : (if t182 = true then (some (t204 == a3)) else (some false)) = some r := by rw [if_pos rfl] at H; exact H
                                                  clear H
                                                  have H := H1
                                                  clear H1
                                                  by_cases c82 : t182 = true
                                                  · subst c82
                                                    have H1 : (some (t204 == a3)) = some r := by rw [if_pos rfl] at H; exact H
                                                    clear H
                                                    have H := H1
                                                    clear H1
                                                    obtain rfl := Option.some.inj H
                                                    have hnb83 := NB206_183.out
                                                    have hnc83 := NB183_206.out
                                                    have hcz84_0 : wc.cell? ⟨gb206, 0, none⟩ = some (.int .i64 t201) := (blk_cell BK206.out 0).trans rfl
                                                    have hcz84_1 : wc.cell? ⟨gb206, 1, none⟩ = some (.int .i64 t202) := (blk_cell BK206.out 1).trans rfl
                                                    have hcz84_2 : wc.cell? ⟨gb206, 2, none⟩ = some (.int .i64 t203) := (blk_cell BK206.out 2).trans rfl
                                                    have hcz84_3 : wc.cell? ⟨gb206, 3, none⟩ = some (.int .i64 t204) := (blk_cell BK206.out 3).trans rfl
                                                    have hfz84_0 := blk_frozen BK206.out 0
                                                    have hfz84_1 := blk_frozen BK206.out 1
                                                    have hfz84_2 := blk_frozen BK206.out 2
                                                    have hfz84_3 := blk_frozen BK206.out 3
                                                    go_wp2
                                                    repeat (go_quiet (fail); try go_wp2)
                                                    go_ret
                                                    exact ⟨by first | rfl | (simp [errW_none, errW_some] <;> rfl) | (simp [*, errW_none, errW_some] <;> rfl), by repeat (first | (with_reducible first | exact HB.out | apply below_alloc | apply pw_below_drewN | apply below_drew1 | refine below_set ?_ GE183.out | refine below_set ?_ GE206.out) | exact HB.out)⟩
                                                  · replace c82 := Bool.eq_false_iff.mpr c82
                                                    subst c82
                                                    have H1 : (some false) = some r := by rw [if_neg (show ¬ (false = true) by decide)] at H; exact H
                                                    clear H
                                                    have H := H1
                                                    clear H1
                                                    obtain rfl := Option.some.inj H
                                                    go_wp2
                                                    repeat (go_quiet (fail); try go_wp2)
                                                    go_ret
                                                    exact ⟨by first | rfl | (simp [errW_none, errW_some] <;> rfl) | (simp [*, errW_none, errW_some] <;> rfl), by repeat (first | (with_reducible first | exact HB.out | apply below_alloc | apply pw_below_drewN | apply below_drew1 | refine below_set ?_ GE183.out | refine below_set ?_ GE206.out) | exact HB.out)⟩
                                                · replace c81 := Bool.eq_false_iff.mpr c81
                                                  subst c81
                                                  have H1 : (if t182 = true then (if (Int.tmod (wrap64 (a3 - (wrap64 ((wrap64 (a2 + (wrap64 (4 * a1)))) + 4)))) 4) = 0 then (some ((wrap64 ((wrap64 ((wrap64 (a2 + (wrap64 (4 * a1)))) + 4)) + (wrap64 (4 * t204)))) == a3)) else (some true)) else (some false)) = some r := by rw [if_neg (show ¬ (false = true) by decide)] at H; exact H
                                                  clear H
                                                  have H := H1
                                                  clear H1
                                                  by_cases c85 : t182 = true
                                                  · subst c85
                                                    have H1 : (if (Int.tmod (wrap64 (a3 - (wrap64 ((wrap64 (a2 + (wrap64 (4 * a1)))) + 4)))) 4) = 0 then (some ((wrap64 ((wrap64 ((wrap64 (a2 + (wrap64 (4 * a1)))) + 4)) + (wrap64 (4 * t204)))) == a3)) else (some true)) = some r := by rw [if_pos rfl] at H; exact H
                                                    clear H
                                                    have H := H1
                                                    clear H1
                                                    by_cases c86 : (Int.tmod (wrap64 (a3 - (wrap64 ((wrap64 (a2 + (wrap64 (4 * a1)))) + 4)))) 4) = 0
                                                    · rw [if_pos c86] at H
                                                      have c86b0 : ((Int.tmod (wrap64 (a3 - (wrap64 ((wrap64 (a2 + (wrap64 (4 * a1)))) + 4)))) 4) == 0) = true := beq_iff_eq.mpr c86
                                                      have c86b1 : ((Int.tmod (wrap64 (a3 - (wrap64 ((wrap64 (a2 + (wrap64 (4 * a1)))) + 4)))) 4) != 0) = false := bne_eq_false_iff_eq.mpr c86
                                                      clear c86
                                                      obtain rfl := Option.some.inj H
                                                      have hnb87 := NB206_183.out
                                                      have hnc87 := NB183_206.out
                                                      have hcz88_0 : wc.cell? ⟨gb206, 0, none⟩ = some (.int .i64 t201) := (blk_cell BK206.out 0).trans rfl
                                                      have hcz88_1 : wc.cell? ⟨gb206, 1, none⟩ = some (.int .i64 t202) := (blk_cell BK206.out 1).trans rfl
                                                      have hcz88_2 : wc.cell? ⟨gb206, 2, none⟩ = some (.int .i64 t203) := (blk_cell BK206.out 2).trans rfl
                                                      have hcz88_3 : wc.cell? ⟨gb206, 3, none⟩ = some (.int .i64 t204) := (blk_cell BK206.out 3).trans rfl
                                                      have hfz88_0 := blk_frozen BK206.out 0
                                                      have hfz88_1 := blk_frozen BK206.out 1
                                                      have hfz88_2 := blk_frozen BK206.out 2
                                                      have hfz88_3 := blk_frozen BK206.out 3
                                                      go_wp2
                                                      repeat (go_quiet (fail); try go_wp2)
                                                      go_ret
                                                      exact ⟨by first | rfl | (simp [errW_none, errW_some] <;> rfl) | (simp [*, errW_none, errW_some] <;> rfl), by repeat (first | (with_reducible first | exact HB.out | apply below_alloc | apply pw_below_drewN | apply below_drew1 | refine below_set ?_ GE183.out | refine below_set ?_ GE206.out) | exact HB.out)⟩
                                                    · rw [if_neg c86] at H
                                                      have c86b0 : ((Int.tmod (wrap64 (a3 - (wrap64 ((wrap64 (a2 + (wrap64 (4 * a1)))) + 4)))) 4) == 0) = false := beq_eq_false_iff_ne.mpr c86
                                                      have c86b1 : ((Int.tmod (wrap64 (a3 - (wrap64 ((wrap64 (a2 + (wrap64 (4 * a1)))) + 4)))) 4) != 0) = true := bne_iff_ne.mpr c86
                                                      obtain rfl := Option.some.inj H
                                                      go_wp2
                                                      repeat (go_quiet (fail); try go_wp2)
                                                      go_ret
                                                      exact ⟨by first | rfl | (simp [errW_none, errW_some] <;> rfl) | (simp [*, errW_none, errW_some] <;> rfl), by repeat (first | (with_reducible first | exact HB.out | apply below_alloc | apply pw_below_drewN | apply below_drew1 | refine below_set ?_ GE183.out | refine below_set ?_ GE206.out) | exact HB.out)⟩
                                                  · replace c85 := Bool.eq_false_iff.mpr c85
                                                    subst c85
                                                    have H1 : (some false) = some r := by rw [if_neg (show ¬ (false = true) by decide)] at H; exact H
                                                    clear H
                                                    have H := H1
                                                    clear H1
                                                    obtain rfl := Option.some.inj H
                                                    go_wp2
                                                    repeat (go_quiet (fail); try go_wp2)
                                                    go_ret
                                                    exact ⟨by first | rfl | (simp [errW_none, errW_some] <;> rfl) | (simp [*, errW_none, errW_some] <;> rfl), by repeat (first | (with_reducible first | exact HB.out | apply below_alloc | apply pw_below_drewN | apply below_drew1 | refine below_set ?_ GE183.out | refine below_set ?_ GE206.out) | exact HB.out)⟩
                                        · rw [if_neg c60] at H
                                          exact absurd H (by simp)
                                      · rw [if_neg c59] at H
                                        exact absurd H (by simp)
                        · rw [if_neg c37] at H
                          exact absurd H (by simp)
                      · rw [if_neg c36] at H
                        exact absurd H (by simp)
              · rw [if_neg c26] at H
                exact absurd H (by simp)
            · rw [if_neg c25] at H
              exact absurd H (by simp)

/-- THE ONE PURE STATEMENT of dowellaw17_RelocGoes: yours. -/
def dowellaw17_RelocGoes.Pure : Prop := ∀ (a0 : Int) (a1 : Int) (a2 : Int) (a3 : Int) (a4 : Int) (a5 : Bool), (Lit.int .i64 a0).wf = true → (Lit.int .i64 a1).wf = true → (Lit.int .i64 a2).wf = true → (Lit.int .i64 a3).wf = true → (Lit.int .i64 a4).wf = true → ∃ k, dowellaw17_RelocGoes.f k a0 a1 a2 a3 a4 a5 = some true
theorem dowellaw17_RelocGoes.walk (P : dowellaw17_RelocGoes.Pure) (a0 : Int) (a1 : Int) (a2 : Int) (a3 : Int) (a4 : Int) (a5 : Bool) (w : World) (w0 : (Lit.int .i64 a0).wf = true) (w1 : (Lit.int .i64 a1).wf = true) (w2 : (Lit.int .i64 a2).wf = true) (w3 : (Lit.int .i64 a3).wf = true) (w4 : (Lit.int .i64 a4).wf = true) :
    Calls Try.prog 6 #[.int .i64 a0, .int .i64 a1, .int .i64 a2, .int .i64 a3, .int .i64 a4, .bool a5] w fun e w' => e = .returned (.bool true) ∧ Below w.heap.size w w' := by
  obtain ⟨k, h⟩ := P a0 a1 a2 a3 a4 a5 w0 w1 w2 w3 w4
  refine (dowellaw17_RelocGoes.calls k a0 a1 a2 a3 a4 a5 true w h).mono ?_
  rintro e w' ⟨rfl, hd⟩
  exact ⟨rfl, hd⟩

end Go.Proofs.Ytnflalbiffamdaa.QRelocGoes
