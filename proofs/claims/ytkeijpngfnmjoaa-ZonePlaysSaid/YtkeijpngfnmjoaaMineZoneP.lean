/- Zones: the document's example, at the head of all statements. No condition. -/
import Derived.Test.YtkeijpngfnmjoaaMineZoneO
namespace Go.Proofs.Ytkeijpngfnmjoaa.MineZone
open Go.Lib Go.Shelf Go.RowKit Go.MapKept Go.Proofs.YtkeijpngfnmjoaaW.PrintWords Go.Proofs.YtkeijpngfnmjoaaW.PrintLast Go.Proofs.YtkeijpngfnmjoaaW.PrintMore Go.Proofs.Ytkeijpngfnmjoaa.MineBase Go.Proofs.Ytkeijpngfnmjoaa.MineSep Go.Proofs.Ytkeijpngfnmjoaa.MineRows Go.Proofs.Ytkeijpngfnmjoaa.MineGen Go.Proofs.Ytkeijpngfnmjoaa.QZonePlays Go.Proofs.Ytkeijpngfnmjoaa.MineMap
attribute [local go_sem ↓] Go.wp_at_zero Go.wp_at_succ
set_option linter.unusedVariables false
set_option linter.unusedSimpArgs false
attribute [local go_sem] Go.Proofs.Ytkeijpngfnmjoaa.MineErr.eql_err Go.Proofs.Ytkeijpngfnmjoaa.MineErr.neq_err Go.Proofs.Ytkeijpngfnmjoaa.MineErr.eql_nil_err Go.Proofs.Ytkeijpngfnmjoaa.MineErr.neq_nil_err
theorem ZS.alloc {w0 w : World} {z m n : Nat} {zs : List S82} (h : ZS w0 w z m n zs []) (o : Obj) : ZS w0 (w.alloc o) z m n zs [ABlk w.heap.size o] := by
  obtain ⟨⟨v, F, h1, h2⟩, h3, h4, h5⟩ := h
  exact ⟨⟨v, F, Sat.push (l1 := [_, _, _]) (l2 := []) (blk_new h1 o), h2⟩, h3, h4, h5⟩
theorem C_one {W : World} {g : Nat} {v : Int} {t : TypeId} (h : W.heap[g]? = some (.cells #[.int .i64 v] t (0, 0))) : (Kd.int .i64).C W (some ⟨g, 0, none⟩) 1 [v] := by
  refine ⟨rfl, by decide, fun _ => ⟨_, rfl, fun i x hi => ?_⟩⟩
  rcases i with _ | i
  · simp only [List.getElem?_cons_zero, Option.some.injEq] at hi
    subst hi
    refine ⟨[.int .i64 v], rfl, rfl, fun j u hj => ?_⟩
    rcases j with _ | j
    · simp only [List.getElem?_cons_zero, Option.some.injEq] at hj
      subst hj
      exact get_cell h 0
    · simp at hj
  · simp at hi
def x1Z : S82 := ⟨272, 276, 280, 284, [272], []⟩
theorem ok_x1 : Ok x1Z := by
  refine ⟨by unfold Places x1Z; decide, fun i v h => ?_, fun i v h => ?_⟩
  · rcases i with _ | i
    · simp only [x1Z, List.getElem?_cons_zero, Option.some.injEq] at h
      subst h
      simp [x1Z, goodAt]
    · simp [x1Z] at h
  · simp [x1Z] at h
theorem not_z82 : ¬ Takes [] z82 := by
  rintro ⟨⟨h, _⟩, _⟩
  exact absurd h.1 (by decide)
theorem C_nil (W : World) : (Kd.int .i64).C W none 0 [] := ⟨rfl, Nat.zero_le _, fun h => absurd h (Nat.lt_irrefl _)⟩
set_option maxHeartbeats 4000000 in
set_option maxRecDepth 100000 in
theorem up_calls (w : World) : Calls Try.prog 33 #[] w fun e w' => e = .returned (.bool true) ∧ Below w.heap.size w w' := by
  have hq := New_zs w
  go_enter Try.func33, Try.ntmps33
  go_wp2_with fail
  (with_reducible refine hq.mono ?_)
  rintro e1 w1 ⟨z, m, rfl, hZ⟩
  have HZ1 := Aside0.mk hZ
  clear hq hZ
  have hq : Calls Try.prog 40 #[.pointer (some ⟨z, 0, none⟩), .agg #[.int .i64 0, .int .i64 0, .int .i64 0, .int .i64 0, .slice none 0 0, .slice none 0 0]] w1 fun e w' => e = .returned (.iface 39 (.int .i64 1)) ∧ ZS w w' z m 0 [] [] :=
    HZ1.out.add_no (by omega) z82 none 0 none 0 (C_nil _) (C_nil _) (by decide) (by decide) not_z82
  have HQ := Aside0.mk hq
  clear hq
  go_wp2_with fail
  (with_reducible refine HQ.out.mono ?_)
  rintro e2 w2 ⟨rfl, hZ⟩
  have HZ2 := Aside0.mk hZ
  clear HQ hZ HZ1
  have HQ := Aside0.mk (CanStore_calls (HZ2.out.zr (by omega)) 16 4 (by decide))
  have e0 : storeZ [] 16 4 = true := by decide
  rw [e0] at HQ
  go_wp2_with fail
  (with_reducible refine HQ.out.mono ?_)
  rintro e3 w3 ⟨rfl, hb⟩
  have HZ3 := Aside0.mk (HZ2.out.below hb)
  clear HQ hb HZ2 e0
  have HQ := Aside0.mk (CanStore_calls (HZ3.out.zr (by omega)) 272 4 (by decide))
  have e0 : storeZ [] 272 4 = false := by decide
  rw [e0] at HQ
  go_wp2_with fail
  (with_reducible refine HQ.out.mono ?_)
  rintro e4 w4 ⟨rfl, hb⟩
  have HZ4 := Aside0.mk (HZ3.out.below hb)
  clear HQ hb HZ3 e0
  obtain ⟨W5, hW5⟩ : ∃ W5, w4.alloc (.cells #[.int .i64 272] 3) = W5 := ⟨_, rfl⟩
  have HZ5 := Aside0.mk (show ZS w W5 z m 0 [] [ABlk w4.heap.size (.cells #[.int .i64 272] 3 (0, 0))] from by rw [← hW5]; exact HZ4.out.alloc _)
  have hq : Calls Try.prog 40 #[.pointer (some ⟨z, 0, none⟩), .agg #[.int .i64 272, .int .i64 276, .int .i64 280, .int .i64 284, .slice (some ⟨w4.heap.size, 0, none⟩) 1 1, .slice none 0 0]] W5 fun e w' => e = .returned .nilIface ∧ ZS w w' z m 1 [x1Z] [ABlk w4.heap.size (.cells #[.int .i64 272] 3 (0, 0))] :=
    HZ5.out.add_yes (by omega) x1Z (some ⟨w4.heap.size, 0, none⟩) 1 none 0 (fun W L h => C_one (blk_at (Sat.pull h))) (fun W L h => C_nil _) (by decide) (by decide) (by decide) (by decide) ⟨ok_x1, by simp⟩
  have HQ := Aside0.mk hq
  clear hq HZ4
  go_wp2_with fail
  try rw [hW5]
  clear hW5
  (with_reducible refine HQ.out.mono ?_)
  rintro e6 w6 ⟨rfl, hZ⟩
  have HZ6 := Aside0.mk hZ
  clear HQ hZ HZ5
  have HQ := Aside0.mk (HZ6.out.cell (by omega) 273 (by decide))
  have e0 : cellZ [x1Z] 273 = 1 := by decide
  rw [e0] at HQ
  go_wp2_with fail
  (with_reducible refine HQ.out.mono ?_)
  rintro e7 w7 ⟨rfl, hb⟩
  have HZ7 := Aside0.mk (HZ6.out.below hb)
  clear HQ hb HZ6 e0
  have HQ := Aside0.mk (CanLoad_calls (HZ7.out.zr (by omega)) 276 4 (by decide))
  have e0 : loadZ [x1Z] 276 4 = true := by decide
  rw [e0] at HQ
  go_wp2_with fail
  (with_reducible refine HQ.out.mono ?_)
  rintro e8 w8 ⟨rfl, hb⟩
  have HZ8 := Aside0.mk (HZ7.out.below hb)
  clear HQ hb HZ7 e0
  have HQ := Aside0.mk (CanStore_calls (HZ8.out.zr (by omega)) 276 4 (by decide))
  have e0 : storeZ [x1Z] 276 4 = false := by decide
  rw [e0] at HQ
  go_wp2_with fail
  (with_reducible refine HQ.out.mono ?_)
  rintro e9 w9 ⟨rfl, hb⟩
  have HZ9 := Aside0.mk (HZ8.out.below hb)
  clear HQ hb HZ8 e0
  have HQ := Aside0.mk (CanRun_calls (HZ9.out.zr (by omega)) 280)
  have e0 : runZ [x1Z] 280 = true := by decide
  rw [e0] at HQ
  go_wp2_with fail
  (with_reducible refine HQ.out.mono ?_)
  rintro e10 w10 ⟨rfl, hb⟩
  have HZ10 := Aside0.mk (HZ9.out.below hb)
  clear HQ hb HZ9 e0
  have HQ := Aside0.mk (All_calls (HZ10.out.zr (by omega)) HZ10.out.rows)
  go_wp2_with fail
  (with_reducible refine HQ.out.mono ?_)
  rintro e11 w11 ⟨v, rfl, hS⟩
  obtain ⟨_, hN, _⟩ := hS.head
  obtain ⟨A1, c1, rfl⟩ := Kd.N_slice hN
  have HB := Aside0.mk (below_then HZ10.out.toBelow HZ10.out.toBelow.size hS.toBelow)
  clear HQ hN hS HZ10
  go_wp2_with fail
  go_ret
  exact ⟨by rfl, HB.out⟩
end Go.Proofs.Ytkeijpngfnmjoaa.MineZone
