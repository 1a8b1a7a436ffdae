/- Chains of an object: the document's example of what may be a module. No condition. -/
import Derived.Test.YtnflalbiffamdaaMineValid
namespace Go.Proofs.Ytnflalbiffamdaa.MineObj
open Go.RowKit Go.MapKept Go.Proofs.YtnflalbiffamdaaW.PrintWords Go.Proofs.YtnflalbiffamdaaW.PrintLast Go.Proofs.YtnflalbiffamdaaW.PrintMore Go.Proofs.Ytnflalbiffamdaa.MineBase Go.Proofs.Ytnflalbiffamdaa.MineSep Go.Proofs.Ytnflalbiffamdaa.MineRows Go.Proofs.Ytnflalbiffamdaa.MineGen Go.Proofs.Ytnflalbiffamdaa.MineName Go.Proofs.Ytnflalbiffamdaa.MineMap Go.Proofs.Ytnflalbiffamdaa.QCheckTells Go.Proofs.Ytnflalbiffamdaa.QCheckTellsPlain Go.Proofs.Ytnflalbiffamdaa.PureChain
attribute [local go_sem] Go.Proofs.Ytnflalbiffamdaa.MineErr.eql_err Go.Proofs.Ytnflalbiffamdaa.MineErr.neq_err Go.Proofs.Ytnflalbiffamdaa.MineErr.eql_nil_err Go.Proofs.Ytnflalbiffamdaa.MineErr.neq_nil_err
attribute [local go_sem ↓] Go.wp_at_zero Go.wp_at_succ
set_option linter.unusedVariables false
set_option linter.unusedSimpArgs false
def oA : Ob := ⟨⟨#[65]⟩, 0, [], [], 0, ⟨#[]⟩, [1472200704], [], [], [], [], 0, 0, 0, 1⟩
def aA (g : Nat) : Oa := ⟨none, none, some ⟨g, 0, none⟩, none, none, none, none, 0, 0, 1, 0, 0, 0, 0⟩
def oZ : Ob := ⟨⟨#[]⟩, 0, [], [], 0, ⟨#[]⟩, [], [], [], [], [], 0, 0, 0, 0⟩
def aZ : Oa := ⟨none, none, none, none, none, none, none, 0, 0, 0, 0, 0, 0, 0⟩
theorem none_row {α : Type} (d : Kd α) (W : World) : d.C W none ([] : List α).length [] := ⟨rfl, by simp, fun h => absurd h (by simp)⟩
theorem rZ (W : World) : ObR oZ aZ W := ⟨none_row _ W, none_row _ W, none_row _ W, none_row _ W, none_row _ W, none_row _ W, none_row _ W, Nat.le_refl _, Nat.le_refl _, Nat.le_refl _, Nat.le_refl _, Nat.le_refl _, Nat.le_refl _, Nat.le_refl _⟩
theorem rA {W : World} {g : Nat} (h : blk W g = some (.cells #[.int .u32 1472200704] 22 (0, 0))) : ObR oA (aA g) W := by
  refine ⟨none_row _ W, none_row _ W, ⟨rfl, by decide, fun _ => ⟨_, rfl, fun i x hx => ?_⟩⟩, none_row _ W, none_row _ W, none_row _ W, none_row _ W, Nat.le_refl _, Nat.le_refl _, Nat.le_refl _, Nat.le_refl _, Nat.le_refl _, Nat.le_refl _, Nat.le_refl _⟩
  rcases i with _ | i
  · have hx' : some (1472200704 : Int) = some x := hx
    injection hx' with hx'
    subst hx'
    refine ⟨[.int .u32 1472200704], rfl, rfl, fun j u hu => ?_⟩
    rcases j with _ | j
    · have hu' : some (Value.int .u32 1472200704) = some u := hu
      injection hu' with hu'
      subst hu'
      exact get_cell h 0
    · simp at hu
  · have hx' : ([] : List Int)[i]? = some x := hx
    simp at hx'
theorem fewA : FewOk oA := ⟨by decide, by decide, by decide, by decide, by decide, by decide, by decide, by decide, by decide, fun x h => absurd h (by simp [oA]), fun x h => absurd h (by simp [oA])⟩
theorem fewZ : FewOk oZ := ⟨by decide, by decide, by decide, by decide, by decide, by decide, by decide, by decide, by decide, fun x h => absurd h (by simp [oZ]), fun x h => absurd h (by simp [oZ])⟩
theorem saneA : Sane oA := ⟨fun x hx => by simp [oA] at hx; omega, fun k => by simp only [fixO, oA]; (repeat' split) <;> omega, by decide⟩
theorem saneZ : Sane oZ := ⟨fun x hx => by simp [oZ] at hx, fun k => by simp only [fixO, oZ]; (repeat' split) <;> omega, by decide⟩
theorem refsA : refsF oA = some [[], [], []] := by
  have h : NamesOk oA ∧ PartsOk oA := by
    refine ⟨⟨by decide +kernel, by decide, by decide, fun i x h => by simp [oA] at h, fun i x h => by simp [oA] at h⟩, by unfold SizesOk; decide, fun i x h => by simp [oA] at h, fun i x h => by simp [oA] at h, ?_, ?_, ?_, ?_⟩
    · intro n hn; simp [oA] at hn
    · exact List.Pairwise.nil
    · exact List.Pairwise.nil
    · intro n hn; simp [oA] at hn
  rw [refs_some h]
  rfl
theorem refsZ : refsF oZ = none := refs_none (fun h => by
  have h1 := h.1.1
  revert h1
  decide +kernel)
theorem upR (W : World) (g : Nat) (h : blk W g = some (.cells #[.int .u32 1472200704] 22 (0, 0))) : Calls Try.prog 38 #[.agg #[.string ⟨#[65]⟩, .int .u32 0, .slice none 0 0, .slice none 0 0, .int .i64 0, .string ⟨#[]⟩, .slice (some ⟨g, 0, none⟩) 1 1, .slice none 0 0, .slice none 0 0, .slice none 0 0, .slice none 0 0, .int .i64 0, .int .i64 0, .int .i64 0, .int .i64 1]] W fun e w' => ∃ va vb vc, e = .returned (.tuple #[.agg #[va, vb, vc], .bool true]) ∧ (#[va, vb, vc] : Array Value).all (·.oneCell') = true ∧ Below W.heap.size W w' := by
  refine (prefs_calls oA (aA g) W 0 0 1 0 0 0 0 rfl rfl rfl rfl rfl rfl rfl (rA h) fewA saneA _ refsA).mono ?_
  rintro e w' ⟨vs, rfl, hS⟩
  obtain ⟨a, b, c, rfl⟩ := three_of (vs := vs) (by rw [sees_len hS]; rfl)
  exact ⟨a, b, c, rfl, sees_ones hS, hS.toBelow⟩
theorem upV (W : World) (g : Nat) (h : blk W g = some (.cells #[.int .u32 1472200704] 22 (0, 0))) : Calls Try.prog 39 #[.agg #[.string ⟨#[65]⟩, .int .u32 0, .slice none 0 0, .slice none 0 0, .int .i64 0, .string ⟨#[]⟩, .slice (some ⟨g, 0, none⟩) 1 1, .slice none 0 0, .slice none 0 0, .slice none 0 0, .slice none 0 0, .int .i64 0, .int .i64 0, .int .i64 0, .int .i64 1]] W fun e w' => e = .returned (.bool true) ∧ Below W.heap.size W w' :=
  valid_calls oA (aA g) W 0 0 1 0 0 0 0 rfl rfl rfl rfl rfl rfl rfl (rA h) fewA saneA _ refsA
theorem upZ (W : World) : Calls Try.prog 39 #[.agg #[.string ⟨#[]⟩, .int .u32 0, .slice none 0 0, .slice none 0 0, .int .i64 0, .string ⟨#[]⟩, .slice none 0 0, .slice none 0 0, .slice none 0 0, .slice none 0 0, .slice none 0 0, .int .i64 0, .int .i64 0, .int .i64 0, .int .i64 0]] W fun e w' => e = .returned (.bool false) ∧ Below W.heap.size W w' :=
  valid_calls oZ aZ W 0 0 0 0 0 0 0 rfl rfl rfl rfl rfl rfl rfl (rZ W) fewZ saneZ _ refsZ
theorem upW (W : World) : Calls Try.prog 28 #[.agg #[.int .i64 21, .int .i64 15, .int .i64 0, .int .i64 0]] W fun e w' => e = .returned (.int .u32 1472200704) ∧ Below W.heap.size W w' :=
  dowelref01_PutIns.calls 21 15 0 0 1472200704 W (by decide +kernel)
theorem pfits_calls (w k : Int) (b : Bool) (hb : fitsB w k = b) (W : World) : Calls Try.prog 40 #[.int .i64 w, .int .i64 k] W fun e w' => e = .returned (.bool b) ∧ Drawn0 W w' :=
  check_Fits.calls w k b W (by rw [pfits_val, hb])
theorem rfits_calls (w k : Int) (b : Bool) (hb : fitsB w k = b) (W : World) : Calls Try.prog 41 #[.int .i64 w, .int .i64 k] W fun e w' => e = .returned (.bool b) ∧ Drawn0 W w' :=
  dowelref09_Fits.calls w k b W (by rw [rfits_val, hb])

set_option maxRecDepth 100000 in
set_option maxHeartbeats 8000000 in
theorem up_calls (w : World) : Calls Try.prog 37 #[] w fun e w' => e = .returned (.bool true) ∧ Below w.heap.size w w' := by
  have hu46 := Try.underlying46
  have hu31 := Try.underlying31
  have hu86 := Try.underlying86
  go_enter Try.func37, Try.ntmps37
  go_wp2_with fail
  (with_reducible refine (upW _).mono ?_)
  rintro e1 w1 ⟨rfl, hb1⟩
  go_upto_region 2 with fail
  refine wp_abs (fun W => Sat w W [ABlk (w1.heap.size + 1) (.cells #[.string ⟨#[65]⟩, .int .u32 0, .slice none 0 0, .slice none 0 0, .int .i64 0, .string ⟨#[]⟩, .slice (some ⟨w1.heap.size, 0, none⟩) 1 1, .slice none 0 0, .slice none 0 0, .slice none 0 0, .slice none 0 0, .int .i64 0, .int .i64 0, .int .i64 0, .int .i64 1] 31 (0, 0)), ABlk w1.heap.size (.cells #[.int .u32 1472200704] 22 (0, 0))]) ?_ (fun W hW => ?_)
  · have h := blk_new (blk_new ((Sat.start w).below hb1) (.cells #[.int .u32 1472200704] 22)) (.cells #[.string ⟨#[65]⟩, .int .u32 0, .slice none 0 0, .slice none 0 0, .int .i64 0, .string ⟨#[]⟩, .slice (some ⟨w1.heap.size, 0, none⟩) 1 1, .slice none 0 0, .slice none 0 0, .slice none 0 0, .slice none 0 0, .int .i64 0, .int .i64 0, .int .i64 0, .int .i64 1] 31)
    rw [size_alloc2] at h
    exact h
  clear hb1
  generalize w1.heap.size = g at hW ⊢
  have HW := Aside0.mk hW
  clear hW
  have x0 : W.cell? ⟨g + 1, 0, none⟩ = some (.string ⟨#[65]⟩) := get_cell (blk_at HW.out) 0
  have x1 : W.cell? ⟨g + 1, 1, none⟩ = some (.int .u32 0) := get_cell (blk_at HW.out) 1
  have x2 : W.cell? ⟨g + 1, 2, none⟩ = some (.slice none 0 0) := get_cell (blk_at HW.out) 2
  have x3 : W.cell? ⟨g + 1, 3, none⟩ = some (.slice none 0 0) := get_cell (blk_at HW.out) 3
  have x4 : W.cell? ⟨g + 1, 4, none⟩ = some (.int .i64 0) := get_cell (blk_at HW.out) 4
  have x5 : W.cell? ⟨g + 1, 5, none⟩ = some (.string ⟨#[]⟩) := get_cell (blk_at HW.out) 5
  have x6 : W.cell? ⟨g + 1, 6, none⟩ = some (.slice (some ⟨g, 0, none⟩) 1 1) := get_cell (blk_at HW.out) 6
  have x7 : W.cell? ⟨g + 1, 7, none⟩ = some (.slice none 0 0) := get_cell (blk_at HW.out) 7
  have x8 : W.cell? ⟨g + 1, 8, none⟩ = some (.slice none 0 0) := get_cell (blk_at HW.out) 8
  have x9 : W.cell? ⟨g + 1, 9, none⟩ = some (.slice none 0 0) := get_cell (blk_at HW.out) 9
  have x10 : W.cell? ⟨g + 1, 10, none⟩ = some (.slice none 0 0) := get_cell (blk_at HW.out) 10
  have x11 : W.cell? ⟨g + 1, 11, none⟩ = some (.int .i64 0) := get_cell (blk_at HW.out) 11
  have x12 : W.cell? ⟨g + 1, 12, none⟩ = some (.int .i64 0) := get_cell (blk_at HW.out) 12
  have x13 : W.cell? ⟨g + 1, 13, none⟩ = some (.int .i64 0) := get_cell (blk_at HW.out) 13
  have x14 : W.cell? ⟨g + 1, 14, none⟩ = some (.int .i64 1) := get_cell (blk_at HW.out) 14
  go_wp2_with fail
  have hq := upR W g (blk_at HW.out.drop)
  (with_reducible refine hq.mono ?_)
  clear hq
  rintro e2 w2 ⟨va, vb, vc, rfl, h1, hb2⟩
  have H1 := Aside0.mk h1
  replace HW := Aside0.mk (show Sat w w2 [ABlk (g + 1) (.cells #[.string ⟨#[65]⟩, .int .u32 0, .slice none 0 0, .slice none 0 0, .int .i64 0, .string ⟨#[]⟩, .slice (some ⟨g, 0, none⟩) 1 1, .slice none 0 0, .slice none 0 0, .slice none 0 0, .slice none 0 0, .int .i64 0, .int .i64 0, .int .i64 0, .int .i64 1] 31 (0, 0)), ABlk g (.cells #[.int .u32 1472200704] 22 (0, 0))] from HW.out.below hb2)
  clear x0 x1 x2 x3 x4 x5 x6 x7 x8 x9 x10 x11 x12 x13 x14
  have x0 : w2.cell? ⟨g + 1, 0, none⟩ = some (.string ⟨#[65]⟩) := get_cell (blk_at HW.out) 0
  have x1 : w2.cell? ⟨g + 1, 1, none⟩ = some (.int .u32 0) := get_cell (blk_at HW.out) 1
  have x2 : w2.cell? ⟨g + 1, 2, none⟩ = some (.slice none 0 0) := get_cell (blk_at HW.out) 2
  have x3 : w2.cell? ⟨g + 1, 3, none⟩ = some (.slice none 0 0) := get_cell (blk_at HW.out) 3
  have x4 : w2.cell? ⟨g + 1, 4, none⟩ = some (.int .i64 0) := get_cell (blk_at HW.out) 4
  have x5 : w2.cell? ⟨g + 1, 5, none⟩ = some (.string ⟨#[]⟩) := get_cell (blk_at HW.out) 5
  have x6 : w2.cell? ⟨g + 1, 6, none⟩ = some (.slice (some ⟨g, 0, none⟩) 1 1) := get_cell (blk_at HW.out) 6
  have x7 : w2.cell? ⟨g + 1, 7, none⟩ = some (.slice none 0 0) := get_cell (blk_at HW.out) 7
  have x8 : w2.cell? ⟨g + 1, 8, none⟩ = some (.slice none 0 0) := get_cell (blk_at HW.out) 8
  have x9 : w2.cell? ⟨g + 1, 9, none⟩ = some (.slice none 0 0) := get_cell (blk_at HW.out) 9
  have x10 : w2.cell? ⟨g + 1, 10, none⟩ = some (.slice none 0 0) := get_cell (blk_at HW.out) 10
  have x11 : w2.cell? ⟨g + 1, 11, none⟩ = some (.int .i64 0) := get_cell (blk_at HW.out) 11
  have x12 : w2.cell? ⟨g + 1, 12, none⟩ = some (.int .i64 0) := get_cell (blk_at HW.out) 12
  have x13 : w2.cell? ⟨g + 1, 13, none⟩ = some (.int .i64 0) := get_cell (blk_at HW.out) 13
  have x14 : w2.cell? ⟨g + 1, 14, none⟩ = some (.int .i64 1) := get_cell (blk_at HW.out) 14
  clear hb2 h1
  have HX := Aside0.mk (blk_new HW.out (.cells #[.slice none 0 0, .slice none 0 0, .slice none 0 0] 86))
  go_upto_region 3 with (refine wpList_store_row rfl 86 (.tmp 2) (.tmp 11) rfl w2.heap.size #[va, vb, vc] rfl rfl 86 _ (blk_at HX.out) (by kernel_rfl) rfl H1.out ?_; have HZ := Aside0.mk (blk_row (cs := #[va, vb, vc]) HX.out))
  refine wp_abs (fun W => Sat w W [ABlk (g + 1) (.cells #[.string ⟨#[65]⟩, .int .u32 0, .slice none 0 0, .slice none 0 0, .int .i64 0, .string ⟨#[]⟩, .slice (some ⟨g, 0, none⟩) 1 1, .slice none 0 0, .slice none 0 0, .slice none 0 0, .slice none 0 0, .int .i64 0, .int .i64 0, .int .i64 0, .int .i64 1] 31 (0, 0)), ABlk g (.cells #[.int .u32 1472200704] 22 (0, 0))]) HZ.out.drop (fun W3 hW3 => ?_)
  replace HW := Aside0.mk hW3
  clear hW3 HX HZ H1
  clear x0 x1 x2 x3 x4 x5 x6 x7 x8 x9 x10 x11 x12 x13 x14
  have x0 : W3.cell? ⟨g + 1, 0, none⟩ = some (.string ⟨#[65]⟩) := get_cell (blk_at HW.out) 0
  have x1 : W3.cell? ⟨g + 1, 1, none⟩ = some (.int .u32 0) := get_cell (blk_at HW.out) 1
  have x2 : W3.cell? ⟨g + 1, 2, none⟩ = some (.slice none 0 0) := get_cell (blk_at HW.out) 2
  have x3 : W3.cell? ⟨g + 1, 3, none⟩ = some (.slice none 0 0) := get_cell (blk_at HW.out) 3
  have x4 : W3.cell? ⟨g + 1, 4, none⟩ = some (.int .i64 0) := get_cell (blk_at HW.out) 4
  have x5 : W3.cell? ⟨g + 1, 5, none⟩ = some (.string ⟨#[]⟩) := get_cell (blk_at HW.out) 5
  have x6 : W3.cell? ⟨g + 1, 6, none⟩ = some (.slice (some ⟨g, 0, none⟩) 1 1) := get_cell (blk_at HW.out) 6
  have x7 : W3.cell? ⟨g + 1, 7, none⟩ = some (.slice none 0 0) := get_cell (blk_at HW.out) 7
  have x8 : W3.cell? ⟨g + 1, 8, none⟩ = some (.slice none 0 0) := get_cell (blk_at HW.out) 8
  have x9 : W3.cell? ⟨g + 1, 9, none⟩ = some (.slice none 0 0) := get_cell (blk_at HW.out) 9
  have x10 : W3.cell? ⟨g + 1, 10, none⟩ = some (.slice none 0 0) := get_cell (blk_at HW.out) 10
  have x11 : W3.cell? ⟨g + 1, 11, none⟩ = some (.int .i64 0) := get_cell (blk_at HW.out) 11
  have x12 : W3.cell? ⟨g + 1, 12, none⟩ = some (.int .i64 0) := get_cell (blk_at HW.out) 12
  have x13 : W3.cell? ⟨g + 1, 13, none⟩ = some (.int .i64 0) := get_cell (blk_at HW.out) 13
  have x14 : W3.cell? ⟨g + 1, 14, none⟩ = some (.int .i64 1) := get_cell (blk_at HW.out) 14
  go_wp2_with fail
  have hq := upV W3 g (blk_at HW.out.drop)
  (with_reducible refine hq.mono ?_)
  clear hq
  rintro e4 w4 ⟨rfl, hb4⟩
  replace HW := Aside0.mk (show Sat w w4 [ABlk (g + 1) (.cells #[.string ⟨#[65]⟩, .int .u32 0, .slice none 0 0, .slice none 0 0, .int .i64 0, .string ⟨#[]⟩, .slice (some ⟨g, 0, none⟩) 1 1, .slice none 0 0, .slice none 0 0, .slice none 0 0, .slice none 0 0, .int .i64 0, .int .i64 0, .int .i64 0, .int .i64 1] 31 (0, 0)), ABlk g (.cells #[.int .u32 1472200704] 22 (0, 0))] from HW.out.below hb4)
  clear x0 x1 x2 x3 x4 x5 x6 x7 x8 x9 x10 x11 x12 x13 x14
  have x0 : w4.cell? ⟨g + 1, 0, none⟩ = some (.string ⟨#[65]⟩) := get_cell (blk_at HW.out) 0
  have x1 : w4.cell? ⟨g + 1, 1, none⟩ = some (.int .u32 0) := get_cell (blk_at HW.out) 1
  have x2 : w4.cell? ⟨g + 1, 2, none⟩ = some (.slice none 0 0) := get_cell (blk_at HW.out) 2
  have x3 : w4.cell? ⟨g + 1, 3, none⟩ = some (.slice none 0 0) := get_cell (blk_at HW.out) 3
  have x4 : w4.cell? ⟨g + 1, 4, none⟩ = some (.int .i64 0) := get_cell (blk_at HW.out) 4
  have x5 : w4.cell? ⟨g + 1, 5, none⟩ = some (.string ⟨#[]⟩) := get_cell (blk_at HW.out) 5
  have x6 : w4.cell? ⟨g + 1, 6, none⟩ = some (.slice (some ⟨g, 0, none⟩) 1 1) := get_cell (blk_at HW.out) 6
  have x7 : w4.cell? ⟨g + 1, 7, none⟩ = some (.slice none 0 0) := get_cell (blk_at HW.out) 7
  have x8 : w4.cell? ⟨g + 1, 8, none⟩ = some (.slice none 0 0) := get_cell (blk_at HW.out) 8
  have x9 : w4.cell? ⟨g + 1, 9, none⟩ = some (.slice none 0 0) := get_cell (blk_at HW.out) 9
  have x10 : w4.cell? ⟨g + 1, 10, none⟩ = some (.slice none 0 0) := get_cell (blk_at HW.out) 10
  have x11 : w4.cell? ⟨g + 1, 11, none⟩ = some (.int .i64 0) := get_cell (blk_at HW.out) 11
  have x12 : w4.cell? ⟨g + 1, 12, none⟩ = some (.int .i64 0) := get_cell (blk_at HW.out) 12
  have x13 : w4.cell? ⟨g + 1, 13, none⟩ = some (.int .i64 0) := get_cell (blk_at HW.out) 13
  have x14 : w4.cell? ⟨g + 1, 14, none⟩ = some (.int .i64 1) := get_cell (blk_at HW.out) 14
  clear hb4
  go_wp2_with fail
  (with_reducible refine (upZ _).mono ?_)
  rintro e5 w5 ⟨rfl, hb5⟩
  replace HW := Aside0.mk (show Sat w w5 [ABlk (g + 1) (.cells #[.string ⟨#[65]⟩, .int .u32 0, .slice none 0 0, .slice none 0 0, .int .i64 0, .string ⟨#[]⟩, .slice (some ⟨g, 0, none⟩) 1 1, .slice none 0 0, .slice none 0 0, .slice none 0 0, .slice none 0 0, .int .i64 0, .int .i64 0, .int .i64 0, .int .i64 1] 31 (0, 0)), ABlk g (.cells #[.int .u32 1472200704] 22 (0, 0))] from HW.out.below hb5)
  clear hb5
  clear x0 x1 x2 x3 x4 x5 x6 x7 x8 x9 x10 x11 x12 x13 x14
  go_wp2_with fail
  (with_reducible refine (pfits_calls 0 0 true (by decide) _).mono ?_)
  rintro e6 w6 ⟨rfl, hd6⟩
  replace HW := Aside0.mk (show Sat w w6 [ABlk (g + 1) (.cells #[.string ⟨#[65]⟩, .int .u32 0, .slice none 0 0, .slice none 0 0, .int .i64 0, .string ⟨#[]⟩, .slice (some ⟨g, 0, none⟩) 1 1, .slice none 0 0, .slice none 0 0, .slice none 0 0, .slice none 0 0, .int .i64 0, .int .i64 0, .int .i64 0, .int .i64 1] 31 (0, 0)), ABlk g (.cells #[.int .u32 1472200704] 22 (0, 0))] from HW.out.drawn hd6)
  clear hd6
  go_wp2_with fail
  (with_reducible refine (pfits_calls 0 1 false (by decide) _).mono ?_)
  rintro e7 w7 ⟨rfl, hd7⟩
  replace HW := Aside0.mk (show Sat w w7 [ABlk (g + 1) (.cells #[.string ⟨#[65]⟩, .int .u32 0, .slice none 0 0, .slice none 0 0, .int .i64 0, .string ⟨#[]⟩, .slice (some ⟨g, 0, none⟩) 1 1, .slice none 0 0, .slice none 0 0, .slice none 0 0, .slice none 0 0, .int .i64 0, .int .i64 0, .int .i64 0, .int .i64 1] 31 (0, 0)), ABlk g (.cells #[.int .u32 1472200704] 22 (0, 0))] from HW.out.drawn hd7)
  clear hd7
  go_wp2_with fail
  (with_reducible refine (pfits_calls 1 1 true (by decide) _).mono ?_)
  rintro e8 w8 ⟨rfl, hd8⟩
  replace HW := Aside0.mk (show Sat w w8 [ABlk (g + 1) (.cells #[.string ⟨#[65]⟩, .int .u32 0, .slice none 0 0, .slice none 0 0, .int .i64 0, .string ⟨#[]⟩, .slice (some ⟨g, 0, none⟩) 1 1, .slice none 0 0, .slice none 0 0, .slice none 0 0, .slice none 0 0, .int .i64 0, .int .i64 0, .int .i64 0, .int .i64 1] 31 (0, 0)), ABlk g (.cells #[.int .u32 1472200704] 22 (0, 0))] from HW.out.drawn hd8)
  clear hd8
  go_wp2_with fail
  (with_reducible refine (pfits_calls 2 2 true (by decide) _).mono ?_)
  rintro e9 w9 ⟨rfl, hd9⟩
  replace HW := Aside0.mk (show Sat w w9 [ABlk (g + 1) (.cells #[.string ⟨#[65]⟩, .int .u32 0, .slice none 0 0, .slice none 0 0, .int .i64 0, .string ⟨#[]⟩, .slice (some ⟨g, 0, none⟩) 1 1, .slice none 0 0, .slice none 0 0, .slice none 0 0, .slice none 0 0, .int .i64 0, .int .i64 0, .int .i64 0, .int .i64 1] 31 (0, 0)), ABlk g (.cells #[.int .u32 1472200704] 22 (0, 0))] from HW.out.drawn hd9)
  clear hd9
  go_wp2_with fail
  go_ret
  exact ⟨by rfl, HW.out.toBelow⟩
end Go.Proofs.Ytnflalbiffamdaa.MineObj
