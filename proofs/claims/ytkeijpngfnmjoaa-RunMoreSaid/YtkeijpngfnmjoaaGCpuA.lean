/- The cpu: the document's machine: a word is laid into its memory. Conditions: the place is there. The cpu: blocks, and what they make of zones and of a memory, in plain words; lists that are joined. No condition but those told. The cpu: are blocks few, and small? No condition. The cpu: blocks are laid: the program's memory and zones, and the document's, come to the same. Conditions: the blocks are few and small. -/
import Derived.Test.YtkeijpngfnmjoaaMineMemSat
import Derived.Test.YtkeijpngfnmjoaaMineMemBoth
import Derived.Test.YtkeijpngfnmjoaaGZoneB
import Derived.Deep.RegionHeld3
section
namespace Go.Proofs.Ytkeijpngfnmjoaa.MineMem
open Go.RowKit Go.Proofs.YtkeijpngfnmjoaaW.PrintWords Go.Proofs.YtkeijpngfnmjoaaW.PrintLast Go.Proofs.YtkeijpngfnmjoaaW.PrintMore Go.Proofs.Ytkeijpngfnmjoaa.MineBase Go.Proofs.Ytkeijpngfnmjoaa.QMemPlays Go.Proofs.Ytkeijpngfnmjoaa.MineSep Go.Proofs.Ytkeijpngfnmjoaa.MineGen
attribute [local go_sem ↓] Go.wp_at_zero Go.wp_at_succ
set_option linter.unusedVariables false
set_option linter.unusedSimpArgs false
theorem bytesC_set (bs : List Int) (i : Nat) (y : Int) : (bytesC bs).setIfInBounds i (.int .u8 y) = bytesC (bs.set i y) := by
  unfold bytesC
  apply Array.ext'
  simp [List.map_set]
/-- A row of bytes in a block of its own. -/
def ABytes (r : Nat) (bs : List Int) : Asn := ABlk r (.cells (bytesC bs) 5 (0, 0))
theorem bytes_put {w0 W : World} {l : List Asn} {r : Nat} {bs : List Int} (h : Sat w0 W (ABytes r bs :: l)) (i : Nat) (y : Int) : Sat w0 (W.setCell ⟨r, i, none⟩ (.int .u8 y)) (ABytes r (bs.set i y) :: l) := by
  have := blk_put (cs := bytesC bs) h i (.int .u8 y)
  rw [bytesC_set] at this
  exact this
theorem bytes_cell {w0 W : World} {l : List Asn} {r : Nat} {bs : List Int} (h : Sat w0 W (ABytes r bs :: l)) (i : Nat) (hi : i < bs.length) : W.cell? ⟨r, i, none⟩ = some (.int .u8 (rd bs (i : Int))) :=
  Row.cell (blk_at h) i hi
theorem C_cell {W : World} {ad : Addr} {n : Nat} {xs : List Int} {k : IntKind} (h : (Kd.int k).C W (some ad) n xs) (i : Nat) (p : Int) (hi : xs[i]? = some p) : W.cell? (ad.add i) = some (.int k p) := by
  have hl := (List.getElem?_eq_some_iff.1 hi).1
  obtain ⟨ad', e, hc⟩ := h.2.2 (by have := h.1; omega)
  injection e with e
  subst e
  obtain ⟨cs, _, rfl, hu⟩ := hc i p hi
  have := hu 0 _ rfl
  rw [show i * (Kd.int k).sz + 0 = i from Nat.mul_one i] at this
  exact this
/-- The document's machine: its memory's row, its zones' slice. -/
def AMach (xb br : Nat) (v : Value) : Asn := ABlk xb (.cells #[.slice (some ⟨br, 0, none⟩) 2048 2048, v] 153 (0, 0))
set_option maxHeartbeats 4000000 in
set_option maxRecDepth 100000 in
theorem MSet_calls {w0 w : World} {l : List Asn} {xb br : Nat} {v : Value} {bs : List Int} (h : Sat w0 w (AMach xb br v :: ABytes br bs :: l)) (hl : bs.length = 2048) (a x : Int) (h0 : 0 ≤ a) (h1 : a + 4 ≤ 2048) (hx : 0 ≤ x) :
    Calls Try.prog 92 #[.pointer (some ⟨xb, 0, none⟩), .int .i64 a, .int .u32 x] w fun e w' => e = .returned (.tuple #[]) ∧ Sat w0 w' (AMach xb br v :: ABytes br (setW bs a.toNat x) :: l) := by
  have HC := Aside0.mk h
  have HL := Aside0.mk hl
  have HA := Aside0.mk (And.intro h0 h1)
  have hq := dowelref01_Bytes.calls x (wb x) w (rbytes x hx)
  have hu153 := Try.underlying153
  clear h hl h0 h1
  go_enter Try.func92, Try.ntmps92
  go_wp2_with fail
  (with_reducible refine hq.mono ?_)
  rintro e1 w1 ⟨v1, rfl, hR, hb1⟩
  have HS := Aside0.mk (show Sat w0 w1 (ABytes br (lay bs a.toNat x 0) :: AMach xb br v :: ARow (Kd.int .u8) 5 w0.heap.size v1 (wb x) :: l) from by
    rw [lay0]; exact (HC.out.newRow hb1 hR HC.out.size).third.under (fun h => h.swap))
  obtain ⟨ad, c, rfl, _⟩ := wb_cells hR
  clear hq hR hb1 HC
  go_wp2_with fail
  go_loopg [7] 5 (fun kq v7 w' => ∃ k : Nat, v7 = .int .i64 (k : Int) ∧ Aside0 (k + kq = 5) ∧ Aside0 (k ≤ 4) ∧ Aside0 (Sat w0 w' (ABytes br (lay bs a.toNat x k) :: AMach xb br v :: ARow (Kd.int .u8) 5 w0.heap.size (.slice (some ad) 4 c) (wb x) :: l)))
  case atStart => exact ⟨0, rfl, ⟨rfl⟩, ⟨by omega⟩, HS⟩
  case round =>
    clear HS
    obtain ⟨k, rfl, Hkk, Hk4, HS⟩ := hrel
    by_cases ck : k < 4
    · have cbk : decide ((k : Int) < 4) = true := decide_eq_true (by omega)
      have hm : wr.heap[xb]? = some (.cells #[.slice (some ⟨br, 0, none⟩) 2048 2048, v] 153 (0, 0)) := blk_at HS.out.swap
      have y0 : wr.cell? ⟨xb, 0, none⟩ = some (.slice (some ⟨br, 0, none⟩) 2048 2048) := get_cell hm 0
      obtain ⟨A', c', ev, _, hCw⟩ := Sat.rowReads HS.out.third
      injection ev with e1 e2 e3
      subst e1
      clear e2 e3
      have y2 : wr.cell? (ad.add k) = some (.int .u8 (rd (wb x) (k : Int))) := C_cell hCw k _ (by
        unfold rd
        rw [Int.toNat_natCast, List.getD_eq_getElem?_getD, List.getElem?_eq_getElem (show k < (wb x).length from ck)]; rfl)
      have hcl := bytes_cell HS.out (a + (k : Int)).toNat (by rw [lay_len _ _ _ _ (by omega) (by rw [HL.out]; have := HA.out; omega), HL.out]; have := HA.out; omega)
      have hfl : wr.frozen? ⟨br, (a + (k : Int)).toNat, none⟩ = false := get_frozen (blk_at HS.out) _
      have ha := add0 br (a + (k : Int)).toNat
      have hs : IntKind.i64.wrap (a + (k : Int)) = a + (k : Int) := (i64_w _).trans (show wrap64 _ = _ by have := HA.out; unfold wrap64; omega)
      have k1 : (0 ≤ a + (k : Int)) = True := eq_true (by have := HA.out; omega)
      have k2 : (a + (k : Int) < 2048) = True := eq_true (by have := HA.out; omega)
      have k3 : ((k : Int) < 4) = True := eq_true (by omega)
      have k4 : (0 ≤ (k : Int)) = True := eq_true (by omega)
      have hk1 : IntKind.i64.wrap ((k : Int) + 1) = ((k + 1 : Nat) : Int) := (i64_w _).trans (show wrap64 _ = _ by unfold wrap64; omega)
      have HN := Aside0.mk (show Sat w0 (wr.setCell ⟨br, (a + (k : Int)).toNat, none⟩ (.int .u8 (rd (wb x) (k : Int)))) (ABytes br (lay bs a.toNat x (k + 1)) :: AMach xb br v :: ARow (Kd.int .u8) 5 w0.heap.size (.slice (some ad) 4 c) (wb x) :: l) from by
        rw [← lay_set bs a.toNat x k ck (by rw [HL.out]; have := HA.out; omega), show (a + (k : Int)).toNat = a.toNat + k by have := HA.out; omega]
        exact bytes_put HS.out _ _)
      have Hck := Aside0.mk ck
      clear hm hCw ck HS
      go_wp2_with fail
      go_region
      go_wp2
      go_roundg (gk - 1)
      case measure => have := Hkk.out; have := Hk4.out; omega
      case rel => exact ⟨k + 1, rfl, ⟨by have := Hkk.out; have := Hck.out; omega⟩, ⟨by have := Hck.out; omega⟩, ⟨HN.out.drew⟩⟩
    · have cbk : decide ((k : Int) < 4) = false := decide_eq_false (by omega)
      obtain rfl : k = 4 := by have := Hk4.out; omega
      clear ck
      go_wp2
      go_end0
      exact ⟨rfl, by have := HS.out.third.drop.swap; rw [lay4] at this; exact this⟩
end Go.Proofs.Ytkeijpngfnmjoaa.MineMem
end
section
namespace Go.Proofs.Ytkeijpngfnmjoaa.MineCpu
open Go.Lib Go.Shelf Go.RowKit Go.MapKept Go.Proofs.YtkeijpngfnmjoaaW.PrintWords Go.Proofs.YtkeijpngfnmjoaaW.PrintLast Go.Proofs.YtkeijpngfnmjoaaW.PrintMore Go.Proofs.Ytkeijpngfnmjoaa.MineBase Go.Proofs.Ytkeijpngfnmjoaa.MineSep Go.Proofs.Ytkeijpngfnmjoaa.MineRows Go.Proofs.Ytkeijpngfnmjoaa.MineGen Go.Proofs.Ytkeijpngfnmjoaa.QZonePlays Go.Proofs.Ytkeijpngfnmjoaa.MineMap Go.Proofs.Ytkeijpngfnmjoaa.MineZone Go.Proofs.Ytkeijpngfnmjoaa.MineMem Go.Proofs.Ytkeijpngfnmjoaa.MineWord Go.Proofs.Ytkeijpngfnmjoaa.QMemPlays
attribute [local go_sem ↓] Go.wp_at_zero Go.wp_at_succ
set_option linter.unusedVariables false
set_option linter.unusedSimpArgs false
attribute [local go_sem] Go.Proofs.Ytkeijpngfnmjoaa.MineErr.eql_err Go.Proofs.Ytkeijpngfnmjoaa.MineErr.neq_err Go.Proofs.Ytkeijpngfnmjoaa.MineErr.eql_nil_err Go.Proofs.Ytkeijpngfnmjoaa.MineErr.neq_nil_err
/-- A block: a zone, words. -/
def kBlk : Kd (S82 × List Int) := Kd.pair k82 (Kd.slice 23 (Kd.int .u32))
theorem kBlk_at {w : World} {A : Option Addr} {n : Nat} {ds : List (S82 × List Int)} (h : kBlk.C w A n ds) {i : Nat} {d : S82 × List Int} (hi : ds[i]? = some d) :
    ∃ ad A4 c4 A5 c5 A6 c6, A = some ad ∧ w.cell? (ad.add (i * 7)) = some (.int .i64 d.1.f0) ∧ w.cell? ⟨(ad.add (i * 7)).block, (ad.add (i * 7)).off + 1, none⟩ = some (.int .i64 d.1.f1) ∧ w.cell? ⟨(ad.add (i * 7)).block, (ad.add (i * 7)).off + 2, none⟩ = some (.int .i64 d.1.f2) ∧ w.cell? ⟨(ad.add (i * 7)).block, (ad.add (i * 7)).off + 3, none⟩ = some (.int .i64 d.1.f3) ∧ w.cell? ⟨(ad.add (i * 7)).block, (ad.add (i * 7)).off + 4, none⟩ = some (.slice A4 d.1.f4.length c4) ∧ w.cell? ⟨(ad.add (i * 7)).block, (ad.add (i * 7)).off + 5, none⟩ = some (.slice A5 d.1.f5.length c5) ∧ w.cell? ⟨(ad.add (i * 7)).block, (ad.add (i * 7)).off + 6, none⟩ = some (.slice A6 d.2.length c6) ∧ (d.1.f4.length ≤ c4 ∧ (Kd.int .i64).C w A4 d.1.f4.length d.1.f4) ∧ (d.1.f5.length ≤ c5 ∧ (Kd.int .i64).C w A5 d.1.f5.length d.1.f5) ∧ d.2.length ≤ c6 ∧ (Kd.int .u32).C w A6 d.2.length d.2 := by
  have hl := (List.getElem?_eq_some_iff.1 hi).1
  obtain ⟨ad, e, hc⟩ := h.2.2 (by have := h.1; omega)
  obtain ⟨cs, hs, ⟨c0, c1, rfl, hz, A6, c6, rfl, l6, g6⟩, hcell⟩ := hc i d hi
  obtain ⟨A4, c4, A5, c5, rfl, l4, g4, l5, g5⟩ := k82_open hz
  refine ⟨ad, A4, c4, A5, c5, A6, c6, e, hcell 0 _ rfl, ?_, ?_, ?_, ?_, ?_, ?_, ⟨l4, g4⟩, ⟨l5, g5⟩, l6, g6⟩
  · rw [← add_field _ _ 1 (by omega)]; exact hcell 1 _ rfl
  · rw [← add_field _ _ 2 (by omega)]; exact hcell 2 _ rfl
  · rw [← add_field _ _ 3 (by omega)]; exact hcell 3 _ rfl
  · rw [← add_field _ _ 4 (by omega)]; exact hcell 4 _ rfl
  · rw [← add_field _ _ 5 (by omega)]; exact hcell 5 _ rfl
  · rw [← add_field _ _ 6 (by omega)]; exact hcell 6 _ rfl
open Classical in
/-- A zone comes in, if it may. -/
noncomputable def putZ (zs : List S82) (x : S82) : List S82 := if Takes zs x then addZ zs x else zs
def okAt (a : Int) : Prop := 0 ≤ a ∧ a ≤ 2044 ∧ a % 4 = 0
instance (a : Int) : Decidable (okAt a) := by unfold okAt; infer_instance
/-- The first k words of a block are laid. -/
def layN (bs : List Int) (b : Int) (ws : List Int) : Nat → List Int
  | 0 => bs
  | k + 1 => if okAt (b + 4 * (k : Int)) then setW (layN bs b ws k) (b + 4 * (k : Int)).toNat (ws.getD k 0) else layN bs b ws k
noncomputable def zsN (l : List (S82 × List Int)) : Nat → List S82
  | 0 => []
  | i + 1 => putZ (zsN l i) (l.getD i (z82, [])).1
def bsN (l : List (S82 × List Int)) : Nat → List Int
  | 0 => List.replicate 2048 0
  | i + 1 => layN (bsN l i) (l.getD i (z82, [])).1.f0 (l.getD i (z82, [])).2 (l.getD i (z82, [])).2.length
theorem layN_len (bs : List Int) (h : bs.length = 2048) (b : Int) (ws : List Int) : ∀ k, (layN bs b ws k).length = 2048
  | 0 => h
  | k + 1 => by
    unfold layN
    split
    · rename_i hk
      rw [setW_len _ _ _ (by rw [layN_len bs h b ws k]; have := hk.1; have := hk.2.1; omega)]
      exact layN_len bs h b ws k
    · exact layN_len bs h b ws k
theorem layN_byt (bs : List Int) (h : ∀ x ∈ bs, 0 ≤ x ∧ x ≤ 255) (b : Int) (ws : List Int) (hw : ∀ x ∈ ws, 0 ≤ x ∧ x < 4294967296) : ∀ k, ∀ x ∈ layN bs b ws k, 0 ≤ x ∧ x ≤ 255
  | 0 => h
  | k + 1 => by
    unfold layN
    split
    · refine setW_mem (layN_byt bs h b ws hw k) _ _ ?_
      rw [List.getD_eq_getElem?_getD]
      cases hq : ws[k]? with
      | none => exact Int.le_refl _
      | some y => exact (hw y (List.mem_of_getElem? hq)).1
    · exact layN_byt bs h b ws hw k
theorem putZ_inv {zs : List S82} {x : S82} (h : Inv zs) : Inv (putZ zs x) := by
  unfold putZ
  split
  · rename_i ht; exact inv_add h ht.1 ht.2
  · exact h
theorem perm_pull2 (l1 : List Asn) (A B : Asn) (l2 : List Asn) : (l1 ++ A :: B :: l2).Perm (A :: B :: (l1 ++ l2)) := List.perm_middle.trans (.cons _ List.perm_middle)
/-- Two lists that are apart. -/
theorem hold_append : ∀ {l2 l1 : List Asn} {w : World} {D2 D1 : Nat → Prop}, Hold l2 w D2 → Hold l1 w D1 → (∀ k, D2 k → ¬ D1 k) → Hold (l2 ++ l1) w (fun k => D1 k ∨ D2 k)
  | [], l1, w, D2, D1, _, h1, _ => Hold.mono (fun _ hk => .inl hk) h1
  | A :: l2, l1, w, D2, D1, ⟨D, hA, hs, hr⟩, h1, hd => by
    refine ⟨D, hA, fun k hk => .inr (hs k hk), ?_⟩
    refine Hold.mono (fun k hk => ?_) (hold_append (l2 := l2) hr h1 (fun k hk => hd k hk.1))
    rcases hk with hk | hk
    · exact ⟨.inl hk, fun hq => hd k (hs k hq) hk⟩
    · exact ⟨.inr hk.1, hk.2⟩
theorem Sat.join {w0 w1 w2 : World} {l1 l2 : List Asn} (h1 : Sat w0 w1 l1) (h2 : Sat w1 w2 l2) : Sat w0 w2 (l2 ++ l1) := by
  refine ⟨below_then h1.1 h1.1.size h2.1, ?_⟩
  have hs := h2.1.size
  have hs0 := h1.1.size
  refine Hold.mono (fun k hk => ?_) (hold_append h2.2 (Hold.move (fun k hk => h2.1.block k hk.2) h1.2) (fun k hk hq => by omega))
  rcases hk with hk | hk <;> omega
section
variable {w0 w w1 : World} {z m n : Nat} {zs : List S82} {l : List Asn}
/-- Zones to a list. -/
theorem New_zs' {w0 w : World} {L : List Asn} (h : Sat w0 w L) : Calls Try.prog 34 #[] w fun e w' => ∃ z m, e = .returned (.pointer (some ⟨z, 0, none⟩)) ∧ ZS w0 w' z m 0 [] L := by
  refine (New_calls w).mono ?_
  rintro e w' ⟨z, m, rfl, _, _, hS⟩
  refine ⟨z, m, rfl, ⟨.slice none 0 0, [], ?_, cells_nil⟩, ⟨by simp, List.Pairwise.nil⟩, Nat.le_refl _, by simp⟩
  have hJ := Sat.join h hS
  have h2 := mapF_new hJ.swap
  have h3 := h2.new (A := ARowN k82 75 w0.heap.size (.slice none 0 0) []) (Below.refl _ _) (D := fun k => w'.heap.size ≤ k) (Kd.N_nil _ _ _ _ _) (fun _ hk => hk)
  exact h3.third
theorem ZS.flip' {A : Asn} (h : ZS w0 w z m n zs (A :: l)) : ∃ L, Sat w0 w (A :: L) ∧ ∀ w1 (B : Asn), Sat w0 w1 (B :: L) → ZS w0 w1 z m n zs (B :: l) := by
  obtain ⟨⟨v, F, h1, h2⟩, h3, h4, h5⟩ := h
  exact ⟨_, Sat.pull (l1 := [_, _, _]) h1, fun w1 B hB => ⟨⟨v, F, Sat.push (l1 := [_, _, _]) hB, h2⟩, h3, h4, h5⟩⟩
theorem ZS.flip2 {A A2 : Asn} (h : ZS w0 w z m n zs (A :: A2 :: l)) : ∃ L, Sat w0 w (A :: A2 :: L) ∧ ∀ w1 (B B2 : Asn), Sat w0 w1 (B :: B2 :: L) → ZS w0 w1 z m n zs (B :: B2 :: l) := by
  obtain ⟨⟨v, F, h1, h2⟩, h3, h4, h5⟩ := h
  exact ⟨_, h1.perm (perm_pull2 [_, _, _] _ _ _), fun w1 B B2 hB => ⟨⟨v, F, hB.perm (perm_pull2 [_, _, _] _ _ _).symm, h2⟩, h3, h4, h5⟩⟩
theorem ZS.perm {l' : List Asn} (h : ZS w0 w z m n zs l) (hp : l.Perm l') : ZS w0 w z m n zs l' := by
  obtain ⟨⟨v, F, h1, h2⟩, h3, h4, h5⟩ := h
  exact ⟨⟨v, F, h1.perm (.cons _ (.cons _ (.cons _ hp))), h2⟩, h3, h4, h5⟩
theorem ZS.alloc' (h : ZS w0 w z m n zs l) (o : Obj) : ZS w0 (w.alloc o) z m n zs (ABlk w.heap.size o :: l) := by
  obtain ⟨⟨v, F, h1, h2⟩, h3, h4, h5⟩ := h
  exact ⟨⟨v, F, Sat.push (l1 := [_, _, _]) (blk_new h1 o), h2⟩, h3, h4, h5⟩
theorem ZS.doc_nil (h : ZS w0 w z m n zs l) : ZS w0 w z m n zs (ADoc w0.heap.size (.slice none 0 0) [] :: l) := by
  obtain ⟨⟨v, F, h1, h2⟩, h3, h4, h5⟩ := h
  exact ⟨⟨v, F, Sat.push (l1 := [_, _, _]) (MineZone.doc_nil h1), h2⟩, h3, h4, h5⟩
end
/-- What has begun: the program's zones and memory, and the document's. -/
structure BS (w0 w : World) (z m n g r xb br : Nat) (zs zd : List S82) (bs cs : List Int) (l : List Asn) : Prop where
  sat : ∃ v ds, ZS w0 w z m n zs (ADoc w0.heap.size v ds :: AMach xb br v :: ABytes br cs :: AMem g r bs :: l) ∧ ds.map (·.1) = zd ∧ (∀ d ∈ ds, Lie w0 d)
  size : bs.length = 2048
  csize : cs.length = 2048
  byt : ∀ x ∈ bs, 0 ≤ x ∧ x ≤ 255
section
variable {w0 w w1 : World} {z m n g r xb br : Nat} {zs zd : List S82} {bs cs : List Int} {l : List Asn}
theorem BS.below (h : BS w0 w z m n g r xb br zs zd bs cs l) (hb : Below w.heap.size w w1) : BS w0 w1 z m n g r xb br zs zd bs cs l := by
  obtain ⟨⟨v, ds, h1, h2⟩, h3, h4, h5⟩ := h
  exact ⟨⟨v, ds, h1.below hb, h2⟩, h3, h4, h5⟩
theorem BS.toBelow (h : BS w0 w z m n g r xb br zs zd bs cs l) : Below w0.heap.size w0 w := by
  obtain ⟨⟨v, ds, h1, h2⟩, h3, h4, h5⟩ := h
  exact h1.toBelow
theorem BS.more (h : BS w0 w z m n g r xb br zs zd bs cs l) {n1 : Nat} (hn : n ≤ n1) : BS w0 w z m n1 g r xb br zs zd bs cs l := by
  obtain ⟨⟨v, ds, h1, h2⟩, h3, h4, h5⟩ := h
  exact ⟨⟨v, ds, h1.more hn, h2⟩, h3, h4, h5⟩
theorem BS.add (h : BS w0 w z m n g r xb br zs zd bs cs l) (hn : n ≤ 899) (x : S82) (A4 : Option Addr) (c4 : Nat) (A5 : Option Addr) (c5 : Nat) (hL : Lie w0 (x, (A4, c4), (A5, c5))) (hn4 : x.f4.length ≤ 100) (hn5 : x.f5.length ≤ 100) :
    Calls Try.prog 40 #[.pointer (some ⟨z, 0, none⟩), .agg #[.int .i64 x.f0, .int .i64 x.f1, .int .i64 x.f2, .int .i64 x.f3, .slice A4 x.f4.length c4, .slice A5 x.f5.length c5]] w fun e w' => ∃ u, e = .returned u ∧ BS w0 w' z m (n + 1) g r xb br (putZ zs x) zd bs cs l := by
  obtain ⟨⟨v, ds, h1, h2⟩, h3, h4, h5⟩ := h
  by_cases ht : Takes zs x
  · refine (h1.add_yes hn x A4 c4 A5 c5 (fun W L h => Kd.C_below hL.1.1 h.toBelow) (fun W L h => Kd.C_below hL.2.1 h.toBelow) hL.1.2 hL.2.2 hn4 hn5 ht).mono ?_
    rintro e w' ⟨rfl, hz⟩
    refine ⟨_, rfl, ⟨⟨v, ds, ?_, h2⟩, h3, h4, h5⟩⟩
    unfold putZ
    rw [if_pos ht]
    exact hz
  · refine (h1.add_no hn x A4 c4 A5 c5 (Kd.C_below hL.1.1 h1.toBelow) (Kd.C_below hL.2.1 h1.toBelow) hn4 hn5 ht).mono ?_
    rintro e w' ⟨rfl, hz⟩
    refine ⟨_, rfl, ⟨⟨v, ds, ?_, h2⟩, h3, h4, h5⟩⟩
    unfold putZ
    rw [if_neg ht]
    exact hz.more (by omega)
theorem put_map {ds : List SZ} {x : S82} {a b : Option Addr × Nat} {r : Bool} (hr : r = true ↔ TakesD ds x) : (if r = true then insD ds (x, a, b) else ds).map (·.1) = putZ (ds.map (·.1)) x := by
  unfold putZ
  by_cases h : r = true
  · rw [if_pos h, if_pos (takes_map.1 (hr.1 h)), ins_map]
  · rw [if_neg h, if_neg (fun hh => h (hr.2 (takes_map.2 hh)))]
theorem put_lie {w : World} {ds : List SZ} {d : SZ} {r : Bool} (h : ∀ y ∈ ds, Lie w y) (hd : Lie w d) : ∀ y ∈ (if r = true then insD ds d else ds), Lie w y := by
  intro y hy
  split at hy
  · rcases List.mem_append.1 hy with h1 | h1
    · exact h y (List.mem_of_mem_take h1)
    · rcases List.mem_cons.1 h1 with rfl | h1
      · exact hd
      · exact h y (List.mem_of_mem_drop h1)
  · exact h y hy
theorem BS.setWord (h : BS w0 w z m n g r xb br zs zd bs cs l) (a x : Int) (h0 : 0 ≤ a) (h4 : a % 4 = 0) (h1 : a ≤ 2044) (hx : 0 ≤ x ∧ x < 4294967296) :
    Calls Try.prog 13 #[.pointer (some ⟨g, 0, none⟩), .int .i64 a, .int .u32 x] w fun e w' => e = .returned (.int .i64 0) ∧ BS w0 w' z m n g r xb br zs zd (setW bs a.toNat x) cs l := by
  obtain ⟨⟨v, ds, ⟨⟨v', F, hS, hc⟩, i3, i4, i5⟩, hm, hl⟩, h3, h5, h6⟩ := h
  obtain ⟨hI, hB, hcl⟩ := mem_use (Sat.pull (l1 := [_, _, _, _, _, _]) hS)
  refine (SetWord_in g r bs a x w0 w hI hB h0 ((tmod4 a).2 h4) (by rw [h3]; omega)).mono ?_
  rintro e w' ⟨rfl, hI', hB', hk⟩
  exact ⟨rfl, ⟨⟨v, ds, ⟨⟨v', F, Sat.push (l1 := [_, _, _, _, _, _]) (hcl w' _ hI' hB' hk), hc⟩, i3, i4, i5⟩, hm, hl⟩, by rw [setW_len _ _ _ (by rw [h3]; omega)]; exact h3, h5, setW_mem h6 _ _ hx.1⟩⟩
theorem BS.dset (h : BS w0 w z m n g r xb br zs zd bs cs l) (a x : Int) (h0 : 0 ≤ a) (h1 : a ≤ 2044) (hx : 0 ≤ x ∧ x < 4294967296) :
    Calls Try.prog 92 #[.pointer (some ⟨xb, 0, none⟩), .int .i64 a, .int .u32 x] w fun e w' => e = .returned (.tuple #[]) ∧ BS w0 w' z m n g r xb br zs zd bs (setW cs a.toNat x) l := by
  obtain ⟨⟨v, ds, ⟨⟨v', F, hS, hc⟩, i3, i4, i5⟩, hm, hl⟩, h3, h5, h6⟩ := h
  have hS' : Sat w0 w (AMach xb br v :: ABytes br cs :: ([_, _, _, _] ++ _)) := hS.perm (perm_pull2 [_, _, _, _] _ _ _)
  refine (MSet_calls hS' h5 a x h0 (by omega) hx.1).mono ?_
  rintro e w' ⟨rfl, hS2⟩
  exact ⟨rfl, ⟨⟨v, ds, ⟨⟨v', F, hS2.perm (perm_pull2 [_, _, _, _] _ _ _).symm, hc⟩, i3, i4, i5⟩, hm, hl⟩, h3, by rw [setW_len _ _ _ (by rw [h5]; omega)]; exact h5, h6⟩⟩
end
end Go.Proofs.Ytkeijpngfnmjoaa.MineCpu
end
section
namespace Go.Proofs.Ytkeijpngfnmjoaa.MineCpu
open Go.Lib Go.Shelf Go.RowKit Go.MapKept Go.Proofs.YtkeijpngfnmjoaaW.PrintWords Go.Proofs.YtkeijpngfnmjoaaW.PrintLast Go.Proofs.YtkeijpngfnmjoaaW.PrintMore Go.Proofs.Ytkeijpngfnmjoaa.MineBase Go.Proofs.Ytkeijpngfnmjoaa.MineSep Go.Proofs.Ytkeijpngfnmjoaa.MineRows Go.Proofs.Ytkeijpngfnmjoaa.MineGen Go.Proofs.Ytkeijpngfnmjoaa.QZonePlays Go.Proofs.Ytkeijpngfnmjoaa.MineMap Go.Proofs.Ytkeijpngfnmjoaa.MineZone Go.Proofs.Ytkeijpngfnmjoaa.MineMem Go.Proofs.Ytkeijpngfnmjoaa.MineWord Go.Proofs.Ytkeijpngfnmjoaa.QMemPlays
attribute [local go_sem ↓] Go.wp_at_zero Go.wp_at_succ
set_option linter.unusedVariables false
set_option linter.unusedSimpArgs false
attribute [local go_sem] Go.Proofs.Ytkeijpngfnmjoaa.MineErr.eql_err Go.Proofs.Ytkeijpngfnmjoaa.MineErr.neq_err Go.Proofs.Ytkeijpngfnmjoaa.MineErr.eql_nil_err Go.Proofs.Ytkeijpngfnmjoaa.MineErr.neq_nil_err
/-- Is a block small? -/
def fewD (d : S82 × List Int) : Bool := decide (d.2.length ≤ 200) && (decide (d.1.f4.length ≤ 40) && (decide (d.1.f5.length ≤ 40) && (decide (-10000 ≤ d.1.f0) && decide (d.1.f0 ≤ 100000))))
def fewL (l : List (S82 × List Int)) : Bool := l.all fewD && decide (l.length ≤ 10)
theorem fewL_no {l : List (S82 × List Int)} {d : S82 × List Int} (hd : d ∈ l) (h : fewD d = false) : fewL l = false := by
  unfold fewL
  rw [show l.all fewD = false from by rw [List.all_eq_false]; exact ⟨d, hd, by rw [h]; decide⟩]
  rfl
theorem fewL_end {l : List (S82 × List Int)} (h : ∀ d ∈ l, fewD d = true) : fewL l = decide (l.length ≤ 10) := by
  unfold fewL
  rw [List.all_eq_true.2 h]
  rfl
set_option maxHeartbeats 4000000 in
set_option maxRecDepth 100000 in
theorem fewIs_calls (A : Option Addr) (c : Nat) (l : List (S82 × List Int)) (w : World) (hC : kBlk.C w A l.length l) (hle : l.length ≤ c) :
    Calls Try.prog 91 #[.slice A l.length c] w fun e w' => e = .returned (.bool (fewL l)) ∧ Below w.heap.size w w' := by
  have HC := Aside0.mk hC
  have HLN := Aside0.mk hC.2.1
  have HB := Aside0.mk (Below.refl w.heap.size w)
  clear hC
  go_enter Try.func91, Try.ntmps91
  go_wp2_with fail
  go_loopg [3] (l.length + 1) (fun kq v3 w' => ∃ i : Nat, v3 = .int .i64 i ∧ Aside0 (i ≤ l.length ∧ l.length - i < kq) ∧ Aside0 (∀ d ∈ l.take i, fewD d = true) ∧ Aside0 (Below w.heap.size w w'))
  case atStart => exact ⟨0, rfl, ⟨by omega⟩, ⟨by simp⟩, HB⟩
  case round =>
    clear HB
    obtain ⟨i, rfl, Hi, HF, HB⟩ := hrel
    by_cases hlt : i < l.length
    · obtain ⟨d, hx⟩ : ∃ d, l[i]? = some d := ⟨_, List.getElem?_eq_getElem hlt⟩
      obtain ⟨ad, A4, c4, A5, c5, A6, c6, eA, y0, y1, y2, y3, y4, y5, y6, _, _, _⟩ := kBlk_at (Kd.C_below HC.out HB.out) hx
      subst eA
      have HX := Aside0.mk hx
      have p1 : (i < l.length) = True := eq_true hlt
      have d0 : decide ((i : Int) < (l.length : Int)) = true := decide_eq_true (by omega)
      have p9 : (i : Int) ≤ 9223372036854775806 := by have := HLN.out; omega
      have p8 : 0 ≤ (i : Int) := by omega
      have HM := Aside0.mk (List.mem_of_getElem? hx)
      clear hlt hx
      by_cases g0 : d.2.length ≤ 200
      · have e0 : decide ((200 : Int) < (d.2.length : Int)) = false := decide_eq_false (by omega)
        have f0 : ((200 : Int) < (d.2.length : Int)) = False := eq_false (by omega)
        by_cases g1 : d.1.f4.length ≤ 40
        · have e1 : decide ((40 : Int) < (d.1.f4.length : Int)) = false := decide_eq_false (by omega)
          have f1 : ((40 : Int) < (d.1.f4.length : Int)) = False := eq_false (by omega)
          by_cases g2 : d.1.f5.length ≤ 40
          · have e2 : decide ((40 : Int) < (d.1.f5.length : Int)) = false := decide_eq_false (by omega)
            have f2 : ((40 : Int) < (d.1.f5.length : Int)) = False := eq_false (by omega)
            by_cases g3 : -10000 ≤ d.1.f0
            · have e3 : decide (d.1.f0 < -10000) = false := decide_eq_false (by omega)
              have f3 : (d.1.f0 < -10000) = False := eq_false (by omega)
              by_cases g4 : d.1.f0 ≤ 100000
              · have e4 : decide (100000 < d.1.f0) = false := decide_eq_false (by omega)
                have f4 : (100000 < d.1.f0) = False := eq_false (by omega)
                have hd : fewD d = true := by unfold fewD; simp [g0, g1, g2]; omega
                have HN := Aside0.mk (show ∀ y ∈ l.take (i + 1), fewD y = true from fun y hy => by
                  rw [List.take_add_one, HX.out] at hy
                  rcases List.mem_append.1 hy with hy | hy
                  · exact HF.out y hy
                  · simp at hy; subst hy; exact hd)
                clear hd g0 g1 g2 g3 g4
                go_wp2_with fail
                go_roundg (gk - 1)
                case measure => have := Hi.out; have := of_eq_true p1; omega
                case rel => exact ⟨i + 1, by go_num, ⟨by have := Hi.out; have := of_eq_true p1; omega⟩, HN, HB⟩
              · have e4 : decide (100000 < d.1.f0) = true := decide_eq_true (by omega)
                have f4 : (100000 < d.1.f0) = True := eq_true (by omega)
                have HN := Aside0.mk (show fewL l = false from fewL_no HM.out (by unfold fewD; simp; omega))
                clear g0 g1 g2 g3 g4
                go_wp2_with fail
                go_ret
                exact ⟨by rw [HN.out]; rfl, HB.out⟩
            · have e3 : decide (d.1.f0 < -10000) = true := decide_eq_true (by omega)
              have f3 : (d.1.f0 < -10000) = True := eq_true (by omega)
              have HN := Aside0.mk (show fewL l = false from fewL_no HM.out (by unfold fewD; simp; omega))
              clear g0 g1 g2 g3
              go_wp2_with fail
              go_ret
              exact ⟨by rw [HN.out]; rfl, HB.out⟩
          · have e2 : decide ((40 : Int) < (d.1.f5.length : Int)) = true := decide_eq_true (by omega)
            have f2 : ((40 : Int) < (d.1.f5.length : Int)) = True := eq_true (by omega)
            have HN := Aside0.mk (show fewL l = false from fewL_no HM.out (by unfold fewD; simp; omega))
            clear g0 g1 g2
            go_wp2_with fail
            go_ret
            exact ⟨by rw [HN.out]; rfl, HB.out⟩
        · have e1 : decide ((40 : Int) < (d.1.f4.length : Int)) = true := decide_eq_true (by omega)
          have f1 : ((40 : Int) < (d.1.f4.length : Int)) = True := eq_true (by omega)
          have HN := Aside0.mk (show fewL l = false from fewL_no HM.out (by unfold fewD; simp; omega))
          clear g0 g1
          go_wp2_with fail
          go_ret
          exact ⟨by rw [HN.out]; rfl, HB.out⟩
      · have e0 : decide ((200 : Int) < (d.2.length : Int)) = true := decide_eq_true (by omega)
        have f0 : ((200 : Int) < (d.2.length : Int)) = True := eq_true (by omega)
        have HN := Aside0.mk (show fewL l = false from fewL_no HM.out (by unfold fewD; simp; omega))
        clear g0
        go_wp2_with fail
        go_ret
        exact ⟨by rw [HN.out]; rfl, HB.out⟩
    · have p1 : (i < l.length) = False := eq_false hlt
      have d0 : decide ((i : Int) < (l.length : Int)) = false := decide_eq_false (by omega)
      have HE := Aside0.mk (show fewL l = decide (l.length ≤ 10) from fewL_end (by have := HF.out; rwa [List.take_of_length_le (by omega)] at this))
      clear hlt
      go_wp2_with fail
      go_ret
      exact ⟨by rw [HE.out]; exact ret_eq (congrArg Value.bool (decide_eq_decide.2 (by omega))), HB.out⟩
set_option maxRecDepth 100000 in
theorem Few_calls (A : Option Addr) (c : Nat) (l : List (S82 × List Int)) (w : World) (hC : kBlk.C w A l.length l) (hle : l.length ≤ c) :
    Calls Try.prog 54 #[.slice A l.length c] w fun e w' => e = .returned (.int .i64 (if fewL l = true then 1 else 0)) ∧ Below w.heap.size w w' := by
  have HQ := Aside0.mk (fewIs_calls A c l w hC hle)
  clear hC
  cases hf : fewL l with
  | true =>
    rw [hf] at HQ
    go_enter Try.func54, Try.ntmps54
    go_wp2_with fail
    (with_reducible refine HQ.out.mono ?_)
    rintro e1 w1 ⟨rfl, hb1⟩
    have HB := Aside0.mk hb1
    clear HQ hb1 hf
    go_wp2_with fail
    go_ret
    exact ⟨by rfl, HB.out⟩
  | false =>
    rw [hf] at HQ
    go_enter Try.func54, Try.ntmps54
    go_wp2_with fail
    (with_reducible refine HQ.out.mono ?_)
    rintro e1 w1 ⟨rfl, hb1⟩
    have HB := Aside0.mk hb1
    clear HQ hb1 hf
    go_wp2_with fail
    go_ret
    exact ⟨by rfl, HB.out⟩
end Go.Proofs.Ytkeijpngfnmjoaa.MineCpu
end
section
namespace Go.Proofs.Ytkeijpngfnmjoaa.MineCpu
open Go.Lib Go.Shelf Go.RowKit Go.MapKept Go.Proofs.YtkeijpngfnmjoaaW.PrintWords Go.Proofs.YtkeijpngfnmjoaaW.PrintLast Go.Proofs.YtkeijpngfnmjoaaW.PrintMore Go.Proofs.Ytkeijpngfnmjoaa.MineBase Go.Proofs.Ytkeijpngfnmjoaa.MineSep Go.Proofs.Ytkeijpngfnmjoaa.MineRows Go.Proofs.Ytkeijpngfnmjoaa.MineGen Go.Proofs.Ytkeijpngfnmjoaa.QZonePlays Go.Proofs.Ytkeijpngfnmjoaa.MineMap Go.Proofs.Ytkeijpngfnmjoaa.MineZone Go.Proofs.Ytkeijpngfnmjoaa.MineMem Go.Proofs.Ytkeijpngfnmjoaa.MineWord Go.Proofs.Ytkeijpngfnmjoaa.QMemPlays
attribute [local go_sem ↓] Go.wp_at_zero Go.wp_at_succ
set_option linter.unusedVariables false
set_option linter.unusedSimpArgs false
attribute [local go_sem] Go.Proofs.Ytkeijpngfnmjoaa.MineErr.eql_err Go.Proofs.Ytkeijpngfnmjoaa.MineErr.neq_err Go.Proofs.Ytkeijpngfnmjoaa.MineErr.eql_nil_err Go.Proofs.Ytkeijpngfnmjoaa.MineErr.neq_nil_err
/-- Few, and small. -/
def FewP (l : List (S82 × List Int)) : Prop := (∀ d ∈ l, d.2.length ≤ 200 ∧ d.1.f4.length ≤ 40 ∧ d.1.f5.length ≤ 40 ∧ -10000 ≤ d.1.f0 ∧ d.1.f0 ≤ 100000) ∧ l.length ≤ 10
theorem fewL_iff (l : List (S82 × List Int)) : fewL l = true ↔ FewP l := by
  unfold fewL FewP fewD
  simp [List.all_eq_true]
def WordsP (l : List (S82 × List Int)) : Prop := ∀ d ∈ l, ∀ x ∈ d.2, 0 ≤ x ∧ x < 4294967296
theorem zsN_inv (l : List (S82 × List Int)) : ∀ i, Inv (zsN l i)
  | 0 => ⟨by simp [zsN], List.Pairwise.nil⟩
  | i + 1 => putZ_inv (zsN_inv l i)
theorem getD_some {l : List (S82 × List Int)} {i : Nat} {d : S82 × List Int} (h : l[i]? = some d) : l.getD i (z82, []) = d := by
  rw [List.getD_eq_getElem?_getD, h]; rfl
theorem zsN_succ {l : List (S82 × List Int)} {i : Nat} {d : S82 × List Int} (h : l[i]? = some d) : zsN l (i + 1) = putZ (zsN l i) d.1 := by
  show putZ _ _ = _
  rw [getD_some h]
theorem bsN_succ {l : List (S82 × List Int)} {i : Nat} {d : S82 × List Int} (h : l[i]? = some d) : bsN l (i + 1) = layN (bsN l i) d.1.f0 d.2 d.2.length := by
  show layN _ _ _ _ = _
  rw [getD_some h]
theorem zsN_len (l : List (S82 × List Int)) : ∀ i, (zsN l i).length ≤ i
  | 0 => Nat.le_refl _
  | i + 1 => by
    show (putZ _ _).length ≤ _
    unfold putZ
    have := zsN_len l i
    split
    · rw [(addZ_perm _ _).length_eq, List.length_append, List.length_singleton]; omega
    · omega
theorem bytes_zero : bytesC (List.replicate 2048 0) = (Array.replicate 2048 (Value.int .u8 0)) := by
  unfold bytesC
  rw [List.map_replicate]
  rfl
theorem mach_put {w0 w : World} {xb br : Nat} {L : List Asn} {v v' : Value} (h : Sat w0 w (AMach xb br v :: L)) : Sat w0 (w.setCell ⟨xb, 1, none⟩ v') (AMach xb br v' :: L) := blk_put h 1 v'
theorem mach_at {w0 w : World} {xb br : Nat} {L : List Asn} {v : Value} (h : Sat w0 w (AMach xb br v :: L)) : w.cell? ⟨xb, 0, none⟩ = some (.slice (some ⟨br, 0, none⟩) 2048 2048) ∧ w.cell? ⟨xb, 1, none⟩ = some v ∧ w.frozen? ⟨xb, 1, none⟩ = false :=
  ⟨get_cell (blk_at h) 0, get_cell (blk_at h) 1, get_frozen (blk_at h) 1⟩
set_option maxHeartbeats 8000000 in
set_option maxRecDepth 100000 in
theorem Begun_calls {w0 w : World} {L : List Asn} (hS : Sat w0 w L) (A : Option Addr) (c : Nat) (l : List (S82 × List Int)) (hC : kBlk.C w0 A l.length l) (hle : l.length ≤ c) (hF : FewP l) (hW : WordsP l) :
    Calls Try.prog 55 #[.slice A l.length c] w fun e w' => ∃ z m g r xb br, e = .returned (.tuple #[.pointer (some ⟨g, 0, none⟩), .pointer (some ⟨z, 0, none⟩), .pointer (some ⟨xb, 0, none⟩)]) ∧ BS w0 w' z m l.length g r xb br (zsN l l.length) (zsN l l.length) (bsN l l.length) (bsN l l.length) L := by
  have HC := Aside0.mk hC
  have HF := Aside0.mk hF
  have HW := Aside0.mk hW
  have HS := Aside0.mk hS
  have hu75 := Try.underlying75
  have hu153 := Try.underlying153
  have hu150 := Try.underlying150
  have hq : Calls Try.prog 12 #[.int .i64 2048] w fun e w' => e = .returned (.tuple #[.pointer (some ⟨w.heap.size + 1, 0, none⟩), .nilIface]) ∧ IsMem w w' (w.heap.size + 1) w.heap.size (List.replicate 2048 0) ∧ Below w.heap.size w w' := New_ok 2048 w (by decide) (by decide) (by decide)
  clear hC hF hW hS
  go_enter Try.func55, Try.ntmps55
  go_wp2_with fail
  (with_reducible refine hq.mono ?_)
  rintro e1 w1 ⟨rfl, hI1, hB1⟩
  have HS1 := Aside0.mk (Sat.join HS.out (mem_new hI1 hB1))
  clear hq hI1 hB1 HS
  generalize w.heap.size + 1 = g at HS1 ⊢
  generalize w.heap.size = r at HS1 ⊢
  go_wp2_with fail
  have HQ := Aside0.mk (New_zs' HS1.out)
  (with_reducible refine HQ.out.mono ?_)
  rintro e2 w2 ⟨z, m, rfl, hZ2⟩
  have HZ2 := Aside0.mk hZ2
  clear HQ hZ2 HS1
  have HZ3 := Aside0.mk (show ZS w0 ((w2.alloc (.cells (bytesC (List.replicate 2048 0)) 5)).alloc (.cells #[.slice (some ⟨w2.heap.size, 0, none⟩) 2048 2048, .slice none 0 0] 153)) z m 0 [] (AMach (w2.heap.size + 1) w2.heap.size (.slice none 0 0) :: ABytes w2.heap.size (List.replicate 2048 0) :: AMem g r (List.replicate 2048 0) :: L) from by
    have h := ZS.alloc' (ZS.alloc' HZ2.out (.cells (bytesC (List.replicate 2048 0)) 5)) (.cells #[.slice (some ⟨w2.heap.size, 0, none⟩) 2048 2048, .slice none 0 0] 153)
    rw [size_alloc] at h
    exact h)
  go_upto_region 6 with (refine make_bytes rfl (.const (.int .i64 2048)) (.const (.int .i64 2048)) rfl 2048 rfl rfl (by omega) ?_)
  refine wp_abs (fun W => ZS w0 W z m 0 [] (AMach (w2.heap.size + 1) w2.heap.size (.slice none 0 0) :: ABytes w2.heap.size (List.replicate 2048 0) :: AMem g r (List.replicate 2048 0) :: L)) HZ3.out (fun W hW => ?_)
  have HB0 := Aside0.mk (show BS w0 W z m 0 g r (w2.heap.size + 1) w2.heap.size (zsN l 0) (zsN l 0) (bsN l 0) (bsN l 0) L from
    ⟨⟨_, [], ZS.doc_nil hW, rfl, by simp⟩, by simp [bsN], by simp [bsN], by simp [bsN]⟩)
  clear hW HZ3 HZ2
  generalize w2.heap.size + 1 = xb at HB0 ⊢
  generalize w2.heap.size = br at HB0 ⊢
  go_wp2_with fail
  go_loopg [9] (l.length + 1) (fun kq v9 w' => ∃ i : Nat, v9 = .int .i64 i ∧ Aside0 (i ≤ l.length ∧ l.length - i < kq) ∧ Aside0 (BS w0 w' z m i g r xb br (zsN l i) (zsN l i) (bsN l i) (bsN l i) L))
  case atStart => exact ⟨0, rfl, ⟨by omega⟩, HB0⟩
  case round =>
    clear HB0
    obtain ⟨i, rfl, Hi, HB⟩ := hrel
    obtain ⟨wo, rfl⟩ : ∃ y, y = wr := ⟨wr, rfl⟩
    obtain ⟨G, rfl⟩ : ∃ G : Nat, G = gk := ⟨_, rfl⟩
    by_cases hlt : i < l.length
    · obtain ⟨⟨x, ws⟩, hx⟩ : ∃ d, l[i]? = some d := ⟨_, List.getElem?_eq_getElem hlt⟩
      obtain ⟨ad, A4, c4, A5, c5, A6, c6, eA, y0, y1, y2, y3, y4, y5, y6, hl4, hl5, hl6⟩ := kBlk_at HC.out hx
      simp only at y0 y1 y2 y3 y4 y5 y6 hl4 hl5 hl6
      subst eA
      have HX := Aside0.mk hx
      have HLI := Aside0.mk (show Lie w0 (x, (A4, c4), (A5, c5)) from ⟨⟨hl4.2, hl4.1⟩, hl5.2, hl5.1⟩)
      have HW6 := Aside0.mk hl6
      have HFX := Aside0.mk (show ws.length ≤ 200 ∧ x.f4.length ≤ 40 ∧ x.f5.length ≤ 40 ∧ -10000 ≤ x.f0 ∧ x.f0 ≤ 100000 from HF.out.1 _ (List.mem_of_getElem? hx))
      have HWX := Aside0.mk (show ∀ y ∈ ws, 0 ≤ y ∧ y < 4294967296 from HW.out _ (List.mem_of_getElem? hx))
      have HK := Aside0.mk (fun w' (hb : Below w0.heap.size w0 w') => (⟨pw_cell_below hb y0, pw_cell_below hb y1, pw_cell_below hb y2, pw_cell_below hb y3, pw_cell_below hb y4, pw_cell_below hb y5⟩ : w'.cell? (ad.add (i * 7)) = some (.int .i64 x.f0) ∧ w'.cell? ⟨(ad.add (i * 7)).block, (ad.add (i * 7)).off + 1, none⟩ = some (.int .i64 x.f1) ∧ w'.cell? ⟨(ad.add (i * 7)).block, (ad.add (i * 7)).off + 2, none⟩ = some (.int .i64 x.f2) ∧ w'.cell? ⟨(ad.add (i * 7)).block, (ad.add (i * 7)).off + 3, none⟩ = some (.int .i64 x.f3) ∧ w'.cell? ⟨(ad.add (i * 7)).block, (ad.add (i * 7)).off + 4, none⟩ = some (.slice A4 x.f4.length c4) ∧ w'.cell? ⟨(ad.add (i * 7)).block, (ad.add (i * 7)).off + 5, none⟩ = some (.slice A5 x.f5.length c5)))
      have HK6 := Aside0.mk (fun w' (hb : Below w0.heap.size w0 w') => (pw_cell_below hb y6 : w'.cell? ⟨(ad.add (i * 7)).block, (ad.add (i * 7)).off + 6, none⟩ = some (.slice A6 ws.length c6)))
      have p1 : (i < l.length) = True := eq_true hlt
      have d0 : decide ((i : Int) < (l.length : Int)) = true := decide_eq_true (by omega)
      have p9 : (i : Int) ≤ 1000 := by have := HF.out.2; omega
      have p8 : 0 ≤ (i : Int) := by omega
      have HI := Aside0.mk (show i ≤ 10 by have := HF.out.2; omega)
      clear hlt hx hl4 hl5 hl6 y0 y1 y2 y3 y4 y5 y6
      obtain ⟨k0, k1, k2, k3, k4, k5⟩ := HK.out wo HB.out.toBelow
      have HQ := Aside0.mk (HB.out.add (by have := HI.out; omega) x A4 c4 A5 c5 HLI.out (by have := HFX.out; omega) (by have := HFX.out; omega))
      go_wp2_with fail
      (with_reducible refine HQ.out.mono ?_)
      rintro e3 w3 ⟨u3, rfl, hb3⟩
      obtain ⟨⟨v, ds, hz3, hm3, hl3⟩, s3, t3, b3⟩ := hb3
      have HM3 := Aside0.mk (And.intro hm3 (And.intro hl3 (And.intro s3 (And.intro t3 b3))))
      obtain ⟨L3, hS3, hback3⟩ := ZS.flip2 hz3
      have HBK := Aside0.mk hback3
      have HN3 := Aside0.mk (And.intro hz3.few hz3.inv)
      have HS3 := Aside0.mk hS3
      clear HQ k0 k1 k2 k3 k4 k5 hz3 hm3 hl3 s3 t3 b3 hS3 hback3 HB
      obtain ⟨rr, hrr⟩ : ∃ rr : Bool, rr = true ↔ TakesD ds x := by
        by_cases h : TakesD ds x
        · exact ⟨true, by simp [h]⟩
        · exact ⟨false, by simp [h]⟩
      have HRR := Aside0.mk hrr
      clear hrr
      have HIN := Aside0.mk (show Inv (ds.map (·.1)) ∧ ds.length ≤ 900 from by
        rw [HM3.out.1]
        exact ⟨zsN_inv l i, by have h := congrArg List.length HM3.out.1; rw [List.length_map] at h; have := zsN_len l i; have := HI.out; omega⟩)
      obtain ⟨ds5, hds5⟩ : ∃ ds5, (if rr = true then insD ds (x, (A4, c4), (A5, c5)) else ds) = ds5 := ⟨_, rfl⟩
      have HAD := Aside0.mk (fun w' (h : Sat w0 w' (ADoc w0.heap.size v ds :: AMach xb br v :: L3)) => (by
        have hq := DAdd_calls h HIN.out.2 HIN.out.1 x A4 c4 A5 c5 (HLI.out.below h.toBelow) (by have := HFX.out; omega) (by have := HFX.out; omega) rr HRR.out
        rw [hds5] at hq
        exact hq : Calls Try.prog 38 #[v, .agg #[.int .i64 x.f0, .int .i64 x.f1, .int .i64 x.f2, .int .i64 x.f3, .slice A4 x.f4.length c4, .slice A5 x.f5.length c5]] w' fun e w'' => ∃ v', e = .returned (.tuple #[v', .bool rr]) ∧ Sat w0 w'' (ADoc w0.heap.size v' ds5 :: AMach xb br v :: L3)))
      have HDS := Aside0.mk (show ds5.map (·.1) = putZ (zsN l i) x ∧ ∀ d ∈ ds5, Lie w0 d from by
        rw [← hds5]
        exact ⟨by rw [put_map HRR.out, HM3.out.1], put_lie HM3.out.2.1 HLI.out⟩)
      clear hds5
      have HKK := Aside0.mk (fun w' (v1 : Value) (ds1 : List SZ) (h : Sat w0 w' (ADoc w0.heap.size v1 ds1 :: AMach xb br v :: L3)) => (⟨(mach_at h.swap).2.1, HK.out w' h.toBelow⟩ : w'.cell? ⟨xb, 1, none⟩ = some v ∧ w'.cell? (ad.add (i * 7)) = some (.int .i64 x.f0) ∧ w'.cell? ⟨(ad.add (i * 7)).block, (ad.add (i * 7)).off + 1, none⟩ = some (.int .i64 x.f1) ∧ w'.cell? ⟨(ad.add (i * 7)).block, (ad.add (i * 7)).off + 2, none⟩ = some (.int .i64 x.f2) ∧ w'.cell? ⟨(ad.add (i * 7)).block, (ad.add (i * 7)).off + 3, none⟩ = some (.int .i64 x.f3) ∧ w'.cell? ⟨(ad.add (i * 7)).block, (ad.add (i * 7)).off + 4, none⟩ = some (.slice A4 x.f4.length c4) ∧ w'.cell? ⟨(ad.add (i * 7)).block, (ad.add (i * 7)).off + 5, none⟩ = some (.slice A5 x.f5.length c5)))
      have HD3 := Aside0.mk HS3.out.drew
      obtain ⟨m1, k0, k1, k2, k3, k4, k5⟩ := HKK.out _ _ _ HS3.out
      go_upto_region 10 with (fail)
      go_cut [] (fun wc => Aside0 (BS w0 wc z m (i + 1) g r xb br (putZ (zsN l i) x) (putZ (zsN l i) x) (bsN l i) (bsN l i) L))
      case first =>
        go_region_law (first
          | (go_simp; go_at_call 39; (with_reducible refine (As_calls x A4 c4 A5 c5 _).mono ?_); rintro e4 w4 ⟨rfl, hb4⟩; have HS4 := Aside0.mk (HD3.out.below hb4); clear hb4; obtain ⟨m4, _⟩ := HKK.out _ _ _ HS4.out)
          | (go_simp; go_at_call 38; (with_reducible refine (HAD.out _ HS4.out).mono ?_); rintro e5 w5 ⟨v5, rfl, hS5⟩; obtain ⟨A7, c7, rfl, _⟩ := doc_reads hS5; have HS5 := Aside0.mk hS5; clear hS5; obtain ⟨_, n1, n2⟩ := mach_at HS5.out.swap))
        all_goals (
          go_wp2
          go_meet
          case rel => exact ⟨⟨⟨_, ds5, HBK.out _ _ _ (mach_put (by first | exact HS5.out.swap | exact HS5.out.drew.swap | exact (HS5.out.drewN _).swap)).swap, HDS.out⟩, HM3.out.2.2.1, HM3.out.2.2.2.1, HM3.out.2.2.2.2⟩⟩)
      case rest =>
        have HB9 := Aside0.mk hcut.out
        clear hcut HS3 HBK HN3 HM3 HIN HAD HDS HKK HD3 m1 k0 k1 k2 k3 k4 k5 HRR
        obtain ⟨b0, hb0⟩ : ∃ b0, x.f0 = b0 := ⟨_, rfl⟩
        have HKB := Aside0.mk (fun w' (hb : Below w0.heap.size w0 w') => (by have := (HK.out w' hb).1; rw [hb0] at this; exact this : w'.cell? (ad.add (i * 7)) = some (.int .i64 b0)))
        have HFB := Aside0.mk (show -10000 ≤ b0 ∧ b0 ≤ 100000 ∧ ws.length ≤ 200 by rw [← hb0]; have := HFX.out; omega)
        go_wp2_with fail
        go_loopg [10] (ws.length + 1) (fun kq v10 w' => ∃ k : Nat, v10 = .int .i64 k ∧ Aside0 (k ≤ ws.length ∧ ws.length - k < kq) ∧ Aside0 (BS w0 w' z m (i + 1) g r xb br (putZ (zsN l i) x) (putZ (zsN l i) x) (layN (bsN l i) b0 ws k) (layN (bsN l i) b0 ws k) L))
        case atStart => exact ⟨0, rfl, ⟨by omega⟩, HB9⟩
        case round =>
          clear HB9
          obtain ⟨k, rfl, Hk, HB⟩ := hrel
          obtain ⟨wq, rfl⟩ : ∃ y, y = wr := ⟨wr, rfl⟩
          have k6 := HK6.out wq HB.out.toBelow
          by_cases hlt : k < ws.length
          · obtain ⟨y, hy⟩ : ∃ y, ws[k]? = some y := ⟨_, List.getElem?_eq_getElem hlt⟩
            obtain ⟨ad6, e6, _⟩ := HW6.out.2.2.2 (by omega)
            subst e6
            have HYC := Aside0.mk (fun w' (hb : Below w0.heap.size w0 w') => (pw_cell_below hb (C_cell HW6.out.2 k y hy) : w'.cell? (ad6.add k) = some (.int .u32 y)))
            have HY := Aside0.mk (show 0 ≤ y ∧ y < 4294967296 from HWX.out y (List.mem_of_getElem? hy))
            have k0 := HKB.out wq HB.out.toBelow
            have c6 := HYC.out wq HB.out.toBelow
            have q1 : (k < ws.length) = True := eq_true hlt
            have q0 : decide ((k : Int) < (ws.length : Int)) = true := decide_eq_true (by omega)
            have q9 : (k : Int) ≤ 1000 := by have := HFB.out; omega
            have q8 : 0 ≤ (k : Int) := by omega
            have q7 : (k : Int) < (ws.length : Int) := by omega
            obtain ⟨at_, hat⟩ : ∃ a, b0 + 4 * (k : Int) = a := ⟨_, rfl⟩
            have t1 : IntKind.i64.wrap (4 * (k : Int)) = 4 * (k : Int) := wrap_ok (by omega) (by omega)
            have t2 : IntKind.i64.wrap (b0 + 4 * (k : Int)) = at_ := by rw [← hat]; exact wrap_ok (by have := HFB.out; omega) (by have := HFB.out; omega)
            have HAT := Aside0.mk hat
            have HLY := Aside0.mk (show layN (bsN l i) b0 ws (k + 1) = if okAt at_ then setW (layN (bsN l i) b0 ws k) at_.toNat y else layN (bsN l i) b0 ws k from by
              rw [← hat]
              have hg : ws.getD k 0 = y := by rw [List.getD_eq_getElem?_getD, hy]; rfl
              show (if okAt _ then setW _ _ (ws.getD k 0) else _) = _
              rw [hg])
            clear hlt hy hat
            by_cases ho : okAt at_
            · rw [if_pos ho] at HLY
              have g1 : 0 ≤ at_ := ho.1
              have g2 : at_ ≤ 2044 := ho.2.1
              have b1 : decide (0 ≤ at_) = true := decide_eq_true g1
              have b2 : decide (at_ ≤ 2044) = true := decide_eq_true g2
              have m1 : at_ % 4 = 0 := ho.2.2
              have m2 : Int.tmod at_ 4 = 0 := (tmod4 at_).2 m1
              have HO := Aside0.mk ho
              clear ho
              have HQ := Aside0.mk (HB.out.setWord at_ y g1 m1 g2 HY.out)
              go_wp2_with fail
              (with_reducible refine HQ.out.mono ?_)
              rintro e5 w5 ⟨rfl, hb5⟩
              have HB5 := Aside0.mk hb5
              clear HQ hb5 c6 k6 k0
              have k6 := HK6.out w5 HB5.out.toBelow
              have c6 := HYC.out w5 HB5.out.toBelow
              have HQ := Aside0.mk (HB5.out.dset at_ y HO.out.1 HO.out.2.1 HY.out)
              go_wp2_with fail
              (with_reducible refine HQ.out.mono ?_)
              rintro e6 w6 ⟨rfl, hb6⟩
              have HB6 := Aside0.mk hb6
              clear HQ hb6 c6 k6
              go_wp2_with fail
              go_roundg (gk - 1)
              case measure => have := Hk.out; have := of_eq_true q1; omega
              case rel => exact ⟨k + 1, by go_num, ⟨by have := Hk.out; have := of_eq_true q1; omega⟩, ⟨by rw [HLY.out]; exact HB6.out⟩⟩
            · rw [if_neg ho] at HLY
              by_cases g1 : 0 ≤ at_
              · by_cases g2 : at_ ≤ 2044
                · have m1 : ¬ at_ % 4 = 0 := fun h => ho ⟨g1, g2, h⟩
                  have m2 : ¬ Int.tmod at_ 4 = 0 := fun h => m1 ((tmod4 at_).1 h)
                  have b1 : decide (0 ≤ at_) = true := decide_eq_true g1
                  have b2 : decide (at_ ≤ 2044) = true := decide_eq_true g2
                  have n1 : (at_ % 4 == 0) = false := by simpa using m1
                  have n2 : (Int.tmod at_ 4 == 0) = false := by simpa using m2
                  clear ho
                  go_wp2_with fail
                  go_roundg (gk - 1)
                  case measure => have := Hk.out; have := of_eq_true q1; omega
                  case rel => exact ⟨k + 1, by go_num, ⟨by have := Hk.out; have := of_eq_true q1; omega⟩, ⟨by rw [HLY.out]; exact HB.out⟩⟩
                · have b1 : decide (0 ≤ at_) = true := decide_eq_true g1
                  have b2 : decide (at_ ≤ 2044) = false := decide_eq_false g2
                  have b3 : (at_ ≤ 2044) = False := eq_false g2
                  clear ho g2
                  go_wp2_with fail
                  go_roundg (gk - 1)
                  case measure => have := Hk.out; have := of_eq_true q1; omega
                  case rel => exact ⟨k + 1, by go_num, ⟨by have := Hk.out; have := of_eq_true q1; omega⟩, ⟨by rw [HLY.out]; exact HB.out⟩⟩
              · have b1 : decide (0 ≤ at_) = false := decide_eq_false g1
                have b3 : (0 ≤ at_) = False := eq_false g1
                clear ho g1
                go_wp2_with fail
                go_roundg (gk - 1)
                case measure => have := Hk.out; have := of_eq_true q1; omega
                case rel => exact ⟨k + 1, by go_num, ⟨by have := Hk.out; have := of_eq_true q1; omega⟩, ⟨by rw [HLY.out]; exact HB.out⟩⟩
          · have q1 : (k < ws.length) = False := eq_false hlt
            have q0 : decide ((k : Int) < (ws.length : Int)) = false := decide_eq_false (by omega)
            have HE := Aside0.mk (show k = ws.length by have := Hk.out; omega)
            clear hlt
            go_wp2_with fail
            go_roundg (G - 1)
            case measure => have := Hi.out; have := of_eq_true p1; omega
            case rel => exact ⟨i + 1, by go_num, ⟨by have := Hi.out; have := of_eq_true p1; omega⟩, ⟨by
              rw [zsN_succ HX.out, bsN_succ HX.out]
              have := HB.out
              rw [HE.out] at this
              show BS _ _ _ _ _ _ _ _ _ _ _ (layN _ x.f0 ws ws.length) (layN _ x.f0 ws ws.length) _
              rw [hb0]
              exact this⟩⟩
    · have p1 : (i < l.length) = False := eq_false hlt
      have d0 : decide ((i : Int) < (l.length : Int)) = false := decide_eq_false (by omega)
      have HE := Aside0.mk (show i = l.length by have := Hi.out; omega)
      clear hlt
      go_wp2_with fail
      go_ret3
      exact ⟨_, _, _, _, _, _, rfl, by have := HB.out; rw [HE.out] at this; exact this⟩
end Go.Proofs.Ytkeijpngfnmjoaa.MineCpu
end
