/- Tables of modules: what a module's copy is made of, while it is made. No condition. -/
import Derived.Test.YtlgfdokdckaejaaMineTabA
import Derived.Deep.DeepCutAuto
namespace Go.Proofs.Ytlgfdokdckaejaa.MineTab
open Go.RowKit Go.MapKept Go.Proofs.YtlgfdokdckaejaaW.PrintWords Go.Proofs.YtlgfdokdckaejaaW.PrintLast Go.Proofs.YtlgfdokdckaejaaW.PrintMore Go.Proofs.Ytlgfdokdckaejaa.MineBase Go.Proofs.Ytlgfdokdckaejaa.MineSep Go.Proofs.Ytlgfdokdckaejaa.MineRows Go.Proofs.Ytlgfdokdckaejaa.QTableKeeps
set_option linter.unusedVariables false
set_option linter.unusedSimpArgs false
theorem wp_abs {P : Program} {c : Code} {Q : Exit → Act → World → Prop} {a : Act} {w : World} (F : World → Prop) (hF : F w) (h : ∀ W, F W → c.wp P Q a W) : c.wp P Q a w := h w hF
/-- A module's cells, its rows being these. -/
def cellsM (m : S65) (v8 v9 v10 v11 v12 : Value) : Array Value := #[.string m.f0, .int .u32 m.f1, .int .i64 m.f2, .int .i64 m.f3, .int .i64 m.f4.f0, .int .i64 m.f4.f1, .int .i64 m.f4.f2, .int .i64 m.f4.f3, v8, v9, v10, v11, v12]
def zeroM : Array Value := #[.string ⟨#[]⟩, .int .u32 0, .int .i64 0, .int .i64 0, .int .i64 0, .int .i64 0, .int .i64 0, .int .i64 0, .slice none 0 0, .slice none 0 0, .slice none 0 0, .slice none 0 0, .slice none 0 0]
/-- The two blocks of a copy under way: the module's, the result's. -/
def AOwn (b : Nat) (m : S65) (v8 v9 v10 v11 v12 : Value) : Asn where
  P := fun W D => W.heap[b]? = some (.cells (cellsM m v8 v9 v10 v11 v12) 65 (0, 0)) ∧ W.heap[b + 1]? = some (.cells zeroM 65 (0, 0)) ∧ D b ∧ D (b + 1)
  mono := fun hd ⟨h1, h2, h3, h4⟩ => ⟨h1, h2, hd _ h3, hd _ h4⟩
  bound := fun ⟨h1, h2, h3, h4⟩ => ⟨h1, h2, ⟨h3, blk_lt h1⟩, ⟨h4, blk_lt h2⟩⟩
  move := fun hm ⟨h1, h2, h3, h4⟩ => ⟨(hm _ h3).trans h1, (hm _ h4).trans h2, h3, h4⟩
section
variable {w W : World} {b : Nat} {m : S65} {v8 v9 v10 v11 v12 : Value} {l : List Asn}
theorem own_cell (h : Sat w W (AOwn b m v8 v9 v10 v11 v12 :: l)) (i : Nat) : W.cell? ⟨b, i, none⟩ = (cellsM m v8 v9 v10 v11 v12)[i]? := by
  obtain ⟨D, ⟨h1, _⟩, _⟩ := h.head
  exact get_cell h1 i
theorem own_frozen (h : Sat w W (AOwn b m v8 v9 v10 v11 v12 :: l)) (i : Nat) : W.frozen? ⟨b, i, none⟩ = false := by
  obtain ⟨D, ⟨h1, _⟩, _⟩ := h.head
  exact get_frozen h1 i
theorem own_put (h : Sat w W (AOwn b m v8 v9 v10 v11 v12 :: l)) {i : Nat} {u u8 u9 u10 u11 u12 : Value} (e : (cellsM m v8 v9 v10 v11 v12).setIfInBounds i u = cellsM m u8 u9 u10 u11 u12) : Sat w (W.setCell ⟨b, i, none⟩ u) (AOwn b m u8 u9 u10 u11 u12 :: l) := by
  obtain ⟨D, ⟨h1, h2, h3, h4⟩, hD, _, hcl⟩ := h.open_
  refine hcl _ (AOwn b m u8 u9 u10 u11 u12) D (h.toBelow.setCell (hD _ h3).1 u) ((Kept.refl W D).setCell (.inl h3) u) ⟨?_, blk_far h2 (by show b + 1 ≠ b; omega) u, h3, h4⟩ (fun k hk => .inl hk)
  have := blk_set h1 i u
  rw [e] at this
  exact this
theorem own_start (h : Sat w W l) (v8 v9 v10 v11 v12 : Value) (m : S65) : Sat w ((W.alloc (.cells (cellsM m v8 v9 v10 v11 v12) 65)).alloc (.cells zeroM 65)) (AOwn W.heap.size m v8 v9 v10 v11 v12 :: l) := by
  refine h.new (A := AOwn W.heap.size m v8 v9 v10 v11 v12) (D := fun k => W.heap.size ≤ k) (below_alloc (below_alloc (Below.refl _ _) _) _) ⟨?_, ?_, Nat.le_refl _, Nat.le_succ _⟩ (fun _ h => h)
  · exact heap_alloc2_old W _ _
  · exact heap_alloc2_new W _ _
end
/-- A row of exports; from place i on their lines may still be the elder ones. -/
def XP (we : World) (base i : Nat) (v : Value) (xs : List S71) (W : World) (D : Nat → Prop) : Prop :=
  (∀ k, v.ownBlock = some k → D k) ∧ ∃ rows : List (List Value), rows.length = xs.length ∧ (Kd.raw k71.sz).R 71 W base (fun k => some k = v.ownBlock) v rows ∧
    ∀ (j : Nat) (x : S71) (c : List Value), xs[j]? = some x → rows[j]? = some c → (j < i → Kd.FK k71 W (fun k => D k ∧ some k ≠ v.ownBlock) x c) ∧ (i ≤ j → k71.K we x c)
def AX (we : World) (base i : Nat) (v : Value) (xs : List S71) : Asn where
  P := XP we base i v xs
  mono := fun hd ⟨h0, rows, h1, h2, h3⟩ => ⟨fun k hk => hd k (h0 k hk), rows, h1, h2, fun j x c hx hc => ⟨fun hj => Kd.FK_mono ((h3 j x c hx hc).1 hj) (fun k hk => ⟨hd k hk.1, hk.2⟩), (h3 j x c hx hc).2⟩⟩
  bound := fun ⟨h0, rows, h1, h2, h3⟩ => ⟨fun k hk => ⟨h0 k hk, Kd.R_lt h2 k hk⟩, rows, h1, h2, fun j x c hx hc => ⟨fun hj => Kd.FK_mono (Kd.FK_bound ((h3 j x c hx hc).1 hj)) (fun k hk => ⟨⟨hk.1.1, hk.2⟩, hk.1.2⟩), (h3 j x c hx hc).2⟩⟩
  move := fun hm ⟨h0, rows, h1, h2, h3⟩ => ⟨h0, rows, h1, Kd.R_step h2 (fun k hk _ => hm k (h0 k hk.symm)), fun j x c hx hc => ⟨fun hj => Kd.FK_step ((h3 j x c hx hc).1 hj) (fun k hk _ => hm k hk.1), (h3 j x c hx hc).2⟩⟩
section
variable {we w W W1 : World} {base i : Nat} {v u : Value} {xs : List S71} {l : List Asn}
theorem AX_start (h : Sat w W l) (hb : Below W.heap.size W W1) {rows : List (List Value)} (hl : rows.length = xs.length) (hR : (Kd.raw k71.sz).R 71 W1 W.heap.size (fun _ => True) v rows) (hK : ∀ (j : Nat) (x : S71) (c : List Value), xs[j]? = some x → rows[j]? = some c → k71.K we x c) (hbase : base ≤ W.heap.size) :
    Sat w W1 (AX we base 0 v xs :: l) := by
  have hbs := Kd.R_base hR
  refine h.new (A := AX we base 0 v xs) (D := fun k => W.heap.size ≤ k) hb ⟨fun k hk => hbs k hk, rows, hl, Kd.raw_tight (Kd.R_lower hR hbase), fun j x c hx hc => ⟨fun hj => by omega, fun _ => hK j x c hx hc⟩⟩ (fun _ h => h)
theorem AX_done (h : Sat w W (AX we base xs.length v xs :: l)) : Sat w W (ARowN k71 71 base v xs :: l) :=
  h.imp (B := ARowN k71 71 base v xs) (fun D ⟨h0, rows, h1, h2, h3⟩ => ⟨h0, rows, h1, h2, fun j x c hx hc => (h3 j x c hx hc).1 (List.getElem?_eq_some_iff.1 hx).1⟩)
theorem AX_slice (h : Sat w W (AX we base i v xs :: l)) : ∃ A c, v = .slice A xs.length c := by
  obtain ⟨D, ⟨_, rows, h1, h2, _⟩, _⟩ := h.head
  rw [← h1]
  exact Kd.R_slice h2
/-- An export's line. -/
theorem AX_at (h : Sat w W (AX we base i v xs :: l)) (hi : i < xs.length) :
    ∃ g cap A c, v = .slice (some ⟨g, 0, none⟩) xs.length cap ∧ W.cell? ⟨g, i * 3 + 2, none⟩ = some (.slice A (xs.getD i z71).f2.length c) ∧ W.frozen? ⟨g, i * 3 + 2, none⟩ = false ∧
      (Kd.int .i64).C we A (xs.getD i z71).f2.length (xs.getD i z71).f2 := by
  obtain ⟨D, ⟨h0, rows, hl, hR, hf⟩, _⟩ := h.head
  obtain ⟨g, cap, e0, _⟩ := Kd.R_form hR (by omega)
  subst e0
  rw [hl] at hR ⊢
  have hx : xs[i]? = some (xs.getD i z71) := by rw [List.getD_eq_getElem?_getD, List.getElem?_eq_getElem hi]; rfl
  obtain ⟨c, hcl, hM, hcc, hfr⟩ := Kd.R_elem hR [] (i : Int) (by omega) (by omega)
  simp only [Int.toNat_natCast] at hM hcc hfr
  have hrow : rows[i]? = some c := by
    have h2 := hM.1
    rw [List.getD_eq_getElem?_getD, List.getElem?_eq_getElem (by omega)] at h2
    rw [List.getElem?_eq_getElem (by omega), h2]; rfl
  obtain ⟨A, c2, e2, hl2, hC2⟩ := k71_open ((hf i _ c hx hrow).2 (Nat.le_refl _))
  subst e2
  exact ⟨g, cap, A, c2, rfl, hcc 2 _ rfl, hfr 2, hC2⟩
/-- Another line is put. -/
theorem AX_put {g n cap b2 : Nat} {x : S71} (h : Sat w W (ARow (Kd.int .i64) 3 b2 u x.f2 :: AX we base i (.slice (some ⟨g, 0, none⟩) n cap) xs :: l)) (hi : i < xs.length) (hx : xs[i]? = some x) :
    Sat w (W.setCell ⟨g, i * 3 + 2, none⟩ u) (AX we base (i + 1) (.slice (some ⟨g, 0, none⟩) n cap) xs :: l) := by
  obtain ⟨D1, D2, hA, ⟨h0, rows, hl, hR, hf⟩, hD1, hD2, hdis, hcl⟩ := h.open2
  obtain ⟨B, c', e1, hle, _⟩ := Kd.R_reads hA
  subst e1
  have hF1 := Kd.R_F hA
  have hg : D2 g := h0 g rfl
  have hne : ∀ k, some k ≠ (Value.slice (some ⟨g, 0, none⟩) n cap).ownBlock → k ≠ g := fun k hk e => hk (by rw [e]; rfl)
  obtain ⟨hn, _⟩ := Kd.R_reads' hR
  obtain ⟨c, hcl2, hM, hcc, hfr⟩ := Kd.R_elem hR [] (i : Int) (by omega) (by omega)
  simp only [Int.toNat_natCast] at hM hcc hfr
  have hrow : rows[i]? = some c := by
    have h2 := hM.1
    rw [List.getD_eq_getElem?_getD, List.getElem?_eq_getElem (by omega)] at h2
    rw [List.getElem?_eq_getElem (by omega), h2]; rfl
  obtain ⟨A, c2, e2, hl2, hC2⟩ := k71_open ((hf i _ c hx hrow).2 (Nat.le_refl _))
  subst e2
  have hBs : Below w.heap.size w (W.setCell ⟨g, i * 3 + 2, none⟩ (.slice B x.f2.length c')) := h.toBelow.setCell (hD2 g hg).1 _
  refine hcl _ (AX we base (i + 1) (.slice (some ⟨g, 0, none⟩) n cap) xs) (fun k => D1 k ∨ D2 k) hBs ((Kept.refl W _).setCell (.inl (.inr hg)) _) ⟨fun k hk => .inr (h0 k hk), rows.set i [.int .i64 x.f0, .int .i64 x.f1, .slice B x.f2.length c'], by rw [List.length_set]; exact hl, ?_, fun j y c3 hyj hcj => ?_⟩ (fun k hk => .inl hk)
  · have hs := Kd.R_seg (Kd.raw_any hR) (i : Int) (by omega) (by omega) (c := [.int .i64 x.f0, .int .i64 x.f1, .slice A x.f2.length c2]) (seg := [.slice B x.f2.length c']) (j := 2) (x' := [.int .i64 x.f0, .int .i64 x.f1, .slice B x.f2.length c']) (okp := fun _ => False) rfl
      (fun j u hu => by simpa using hcc j u hu) (show 2 + 1 ≤ 3 by decide) ⟨rfl, rfl, by intro u hu; simp at hu; rcases hu with rfl | rfl | rfl <;> rfl⟩ (fun _ hk => hk.elim)
    have h4 := hs.1
    simp only [Int.toNat_natCast] at h4
    exact Kd.raw_tight h4
  · by_cases hji : j = i
    · subst hji
      rw [hx] at hyj
      injection hyj with hyj
      rw [List.getElem?_set_self (by omega)] at hcj
      injection hcj with hcj
      subst hyj hcj
      refine ⟨fun _ => k71_mkF _ _ _ hle (Kd.F_mono (Kd.F_step hF1 (fun k hk hlt => Below.heap_setCell W _ _ k (fun e => hdis k hk (by rw [e]; exact hg)))) (fun k hk => ⟨.inl hk, fun e => ?_⟩)), fun hj => by omega⟩
      have e2 : k = g := by simpa [Value.ownBlock] using e
      exact hdis k hk (by rw [e2]; exact hg)
    · rw [List.getElem?_set_ne (Ne.symm hji)] at hcj
      have h5 := hf j y c3 hyj hcj
      exact ⟨fun hj => Kd.FK_mono (Kd.FK_step (h5.1 (by omega)) (fun k hk hlt => Below.heap_setCell W _ _ k (hne k hk.2))) (fun k hk => ⟨.inr hk.1, hk.2⟩), fun hj => h5.2 (by omega)⟩
end
/-- All parts of a copy. -/
theorem own_all {w W : World} {b2 b3 b4 b5 b6 : Nat} {m : S65} {v8 v9 v10 v11 v12 : Value} {l : List Asn} (h : Sat w W (ARow (Kd.int .i64) 3 b2 v8 m.f4.f4 :: ARow (Kd.int .i64) 3 b3 v9 m.f4.f5 :: ARow Kd.string 9 b4 v10 m.f5 :: ARowN k71 71 b5 v11 m.f6 :: ARow k100 100 b6 v12 m.f7 :: l)) :
    Kd.FK k65 W (fun k => w.heap.size ≤ k) m (cellsM m v8 v9 v10 v11 v12).toList := by
  obtain ⟨D8, h8, e8⟩ := h.head
  obtain ⟨D9, h9, e9⟩ := h.drop.head
  obtain ⟨D10, h10, e10⟩ := h.drop.drop.head
  obtain ⟨D11, h11, e11⟩ := h.drop.drop.drop.head
  obtain ⟨D12, h12, e12⟩ := h.drop.drop.drop.drop.head
  obtain ⟨A8, c8, q8, l8, _⟩ := Kd.R_reads h8
  obtain ⟨A9, c9, q9, l9, _⟩ := Kd.R_reads h9
  obtain ⟨A10, c10, q10, l10, _⟩ := Kd.R_reads h10
  obtain ⟨A11, c11, q11, l11, _⟩ := Kd.N_reads h11
  obtain ⟨A12, c12, q12, l12, _⟩ := Kd.R_reads h12
  subst q8 q9 q10 q11 q12
  exact k65_mkF W _ m l8 (Kd.F_mono (Kd.R_F h8) (fun k hk => (e8 k hk).1)) l9 (Kd.F_mono (Kd.R_F h9) (fun k hk => (e9 k hk).1)) l10 (Kd.F_mono (Kd.R_F h10) (fun k hk => (e10 k hk).1)) l11 (Kd.F_mono (Kd.N_F h11) (fun k hk => (e11 k hk).1)) l12 (Kd.F_mono (Kd.R_F h12) (fun k hk => (e12 k hk).1))
end Go.Proofs.Ytlgfdokdckaejaa.MineTab
