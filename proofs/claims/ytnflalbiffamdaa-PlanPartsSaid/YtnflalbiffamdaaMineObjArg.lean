/- An object as an argument: what the statement's reading tells is what the walk's state tells. No condition but the types' shapes. -/
import Derived.Test.YtnflalbiffamdaaMineOpens
import Derived.Test.YtnflalbiffamdaaMinePrefs
import Derived.OpenShut
namespace Go.Proofs.Ytnflalbiffamdaa.MineObj
open Go.RowKit Go.ChangeShapes Go.WideShapes Go.Deep Go.Proofs.YtnflalbiffamdaaW.PrintWords Go.Proofs.Ytnflalbiffamdaa.MineOpens Go.Proofs.Ytnflalbiffamdaa.QCheckTells Go.Proofs.Ytnflalbiffamdaa.PureChain
set_option linter.unusedVariables false
/-- An array of three. -/
theorem op_arr3 {P : Program} {t e : TypeId} {A : Type} {d : Kd A} {G : A → Prop} (ht : P.underlying t = some (.array 3 e)) (hc : P.cellsOf t = 3) (h : MineOpens.Op P e d G) (hd : d.sz = 1) :
    MineOpens.Op P t (Kd.pair d (Kd.pair d d)) (fun x => G x.1 ∧ G x.2.1 ∧ G x.2.2) := by
  refine ⟨by rw [hc]; show 3 = d.sz + (d.sz + d.sz); omega, fun H enc w base spare held fuel cs x hx => ?_⟩
  obtain ⟨xs, m, rfl, _, hl, hxs, hf⟩ := DataW.trod_array ht hx
  have h1 : P.cellsOf e = 1 := h.1.trans hd
  rw [hc] at hl
  match cs, hl with
  | [c0, c1, c2], _ =>
    have get : ∀ i c, i < 3 → ([c0, c1, c2].drop (i * P.cellsOf e)).take (P.cellsOf e) = [c] → ∃ a, d.K w a [c] ∧ G a := fun i c hi hd => by
      have h2 := hf i hi
      rw [hd, List.getElem?_eq_getElem (by omega)] at h2
      exact h.2 _ _ _ _ _ _ _ _ _ h2
    obtain ⟨a0, k0, g0⟩ := get 0 c0 (by omega) (by rw [h1]; rfl)
    obtain ⟨a1, k1, g1⟩ := get 1 c1 (by omega) (by rw [h1]; rfl)
    obtain ⟨a2, k2, g2⟩ := get 2 c2 (by omega) (by rw [h1]; rfl)
    exact ⟨(a0, a1, a2), ⟨[c0], [c1, c2], rfl, k0, [c1], [c2], rfl, k1, k2⟩, g0, g1, g2⟩
abbrev ObT := ByteArray × Int × List S92 × List S130 × Int × ByteArray × List Int × List S95 × List S43 × List Int × List Int × (Int × Int × Int) × Int
def obOf (x : ObT) : Ob := ⟨x.1, x.2.1, x.2.2.1, x.2.2.2.1, x.2.2.2.2.1, x.2.2.2.2.2.1, x.2.2.2.2.2.2.1, x.2.2.2.2.2.2.2.1, x.2.2.2.2.2.2.2.2.1, x.2.2.2.2.2.2.2.2.2.1, x.2.2.2.2.2.2.2.2.2.2.1, x.2.2.2.2.2.2.2.2.2.2.2.1.1, x.2.2.2.2.2.2.2.2.2.2.2.1.2.1, x.2.2.2.2.2.2.2.2.2.2.2.1.2.2, x.2.2.2.2.2.2.2.2.2.2.2.2⟩
def kObT : Kd ObT := Kd.pair Kd.string (Kd.pair (Kd.int .u32) (Kd.pair (Kd.slice 92 k92) (Kd.pair (Kd.slice 130 k130) (Kd.pair (Kd.int .i64) (Kd.pair Kd.string (Kd.pair (Kd.slice 22 (Kd.int .u32)) (Kd.pair (Kd.slice 95 k95) (Kd.pair (Kd.slice 43 k43) (Kd.pair (Kd.slice 3 (Kd.int .i64)) (Kd.pair (Kd.slice 3 (Kd.int .i64)) (Kd.pair (Kd.pair (Kd.int .i64) (Kd.pair (Kd.int .i64) (Kd.int .i64))) (Kd.int .i64))))))))))))
theorem obT_open {w : World} {x : ObT} {cs : List Value} (h : kObT.K w x cs) : ∃ a, cs = (cellsO (obOf x) a).toList ∧ ObR (obOf x) a w := by
  obtain ⟨x0, x1, x2, x3, x4, x5, x6, x7, x8, x9, x10, ⟨x11, x12, x13⟩, x14⟩ := x
  obtain ⟨_, _, rfl, rfl, _, _, rfl, rfl, _, _, rfl, ⟨A2, c2, rfl, l2, r2⟩, _, _, rfl, ⟨A3, c3, rfl, l3, r3⟩, _, _, rfl, rfl, _, _, rfl, rfl, _, _, rfl, ⟨A6, c6, rfl, l6, r6⟩, _, _, rfl, ⟨A7, c7, rfl, l7, r7⟩, _, _, rfl, ⟨A8, c8, rfl, l8, r8⟩, _, _, rfl, ⟨A9, c9, rfl, l9, r9⟩, _, _, rfl, ⟨A10, c10, rfl, l10, r10⟩, _, _, rfl, ⟨_, _, rfl, rfl, _, _, rfl, rfl, rfl⟩, rfl⟩ := h
  exact ⟨⟨A2, A3, A6, A7, A8, A9, A10, c2, c3, c6, c7, c8, c9, c10⟩, rfl, ⟨r2, r3, r6, r7, r8, r9, r10, l2, l3, l6, l7, l8, l9, l10⟩⟩
theorem o_str : MineOpens.Op Try.prog 9 Kd.string (fun s => s.size ≤ maxLen) := op_string Try.underlying9 (by kernel_rfl)
theorem o_int : MineOpens.Op Try.prog 3 (Kd.int .i64) (fun z => (Lit.int .i64 z).wf = true) := op_int Try.underlying3 (by kernel_rfl)
theorem o_u32 : MineOpens.Op Try.prog 22 (Kd.int .u32) (fun z => (Lit.int .u32 z).wf = true) := op_int Try.underlying22 (by kernel_rfl)
theorem o_imp : MineOpens.Op Try.prog 92 k92 (fun _ => True) := by
  obtain ⟨h1, h2⟩ := op_iso (op_struct [9, 22] Try.underlying92 (by kernel_rfl) (by kernel_rfl) (fo_cons o_str (fo_one o_u32))) (f := fun x : S92 => (x.f0, x.f1)) (fun p => ⟨p.1, p.2⟩) (fun a => rfl)
  refine ⟨h1, fun H enc w base spare held fuel cs x hx => ?_⟩
  obtain ⟨a, hk, _⟩ := h2 H enc w base spare held fuel cs x hx
  exact ⟨a, hk, trivial⟩
theorem o_typ : MineOpens.Op Try.prog 130 k130 (fun _ => True) := by
  obtain ⟨h1, h2⟩ := op_iso (op_struct [3, 3, 3] Try.underlying130 (by kernel_rfl) (by kernel_rfl) (fo_cons o_int (fo_cons o_int (fo_one o_int)))) (f := fun x : S130 => (x.f0, x.f1, x.f2)) (fun p => ⟨p.1, p.2.1, p.2.2⟩) (fun a => rfl)
  refine ⟨h1, fun H enc w base spare held fuel cs x hx => ?_⟩
  obtain ⟨a, hk, _⟩ := h2 H enc w base spare held fuel cs x hx
  exact ⟨a, hk, trivial⟩
theorem o_cmd : MineOpens.Op Try.prog 95 k95 (fun _ => True) := by
  obtain ⟨h1, h2⟩ := op_iso (op_struct [9, 3] Try.underlying95 (by kernel_rfl) (by kernel_rfl) (fo_cons o_str (fo_one o_int))) (f := fun x : S95 => (x.f0, x.f1)) (fun p => ⟨p.1, p.2⟩) (fun a => rfl)
  refine ⟨h1, fun H enc w base spare held fuel cs x hx => ?_⟩
  obtain ⟨a, hk, _⟩ := h2 H enc w base spare held fuel cs x hx
  exact ⟨a, hk, trivial⟩
theorem o_exp : MineOpens.Op Try.prog 43 k43 (fun x => (Lit.int .i64 x.f0).wf = true ∧ (Lit.int .i64 x.f1).wf = true) :=
  op_iso (op_struct [3, 3] Try.underlying43 (by kernel_rfl) (by kernel_rfl) (fo_cons o_int (fo_one o_int))) (f := fun x : S43 => (x.f0, x.f1)) (fun p => ⟨p.1, p.2⟩) (fun a => rfl)
theorem lit_i64 {x : Int} (h : (Lit.int .i64 x).wf = true) : -9223372036854775808 ≤ x ∧ x ≤ 9223372036854775807 := by
  simp [Lit.wf, IntKind.min, IntKind.max, IntKind.signed, IntKind.bits] at h; omega
theorem lit_u32 {x : Int} (h : (Lit.int .u32 x).wf = true) : 0 ≤ x ∧ x < 4294967296 := by
  simp [Lit.wf, IntKind.min, IntKind.max, IntKind.signed, IntKind.bits] at h; omega
/-- What an object of Go's is. -/
def Good31 (x : ObT) : Prop := Sane (obOf x) ∧ ∀ y ∈ (obOf x).exps, (-9223372036854775808 ≤ y.f1 ∧ y.f1 ≤ 9223372036854775807)
theorem o_obj : MineOpens.Op Try.prog 31 kObT Good31 := by
  have h := op_struct [9, 22, 23, 24, 3, 9, 25, 26, 27, 28, 28, 29, 3] Try.underlying31 (by kernel_rfl) (by kernel_rfl) (fo_cons o_str (fo_cons o_u32 (fo_cons (op_slice 92 Try.underlying23 (by kernel_rfl) o_imp) (fo_cons (op_slice 130 Try.underlying24 (by kernel_rfl) o_typ) (fo_cons o_int (fo_cons o_str (fo_cons (op_slice 22 Try.underlying25 (by kernel_rfl) o_u32) (fo_cons (op_slice 95 Try.underlying26 (by kernel_rfl) o_cmd) (fo_cons (op_slice 43 Try.underlying27 (by kernel_rfl) o_exp) (fo_cons (op_slice 3 Try.underlying28 (by kernel_rfl) o_int) (fo_cons (op_slice 3 Try.underlying28 (by kernel_rfl) o_int) (fo_cons (op_arr3 Try.underlying29 (by kernel_rfl) o_int rfl) (fo_one o_int)))))))))))))
  refine ⟨h.1, fun H enc w base spare held fuel cs x hx => ?_⟩
  obtain ⟨a, hk, g0, g1, g2, g3, g4, g5, g6, g7, g8, g9, g10, g11, g12⟩ := h.2 H enc w base spare held fuel cs x hx
  refine ⟨a, hk, ⟨fun z hz => lit_u32 (g6.1 z hz), fun k => ?_, lit_i64 g4⟩, fun y hy => lit_i64 (g8.1 y hy).2⟩
  unfold fixO obOf
  simp only
  split
  · exact lit_i64 g11.1
  · split
    · exact lit_i64 g11.2.1
    · exact lit_i64 g11.2.2
end Go.Proofs.Ytnflalbiffamdaa.MineObj
