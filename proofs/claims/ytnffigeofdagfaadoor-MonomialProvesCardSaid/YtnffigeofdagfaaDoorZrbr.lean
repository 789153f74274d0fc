/-
  Old-style walks: Or (cmp) of three numbers, compareEdges (nfa): the world grows and draws.
-/
import Derived.Test.YtnffigeofdagfaaDoorZraz
import Derived.StillTailTactics
import Derived.Test.YtnffigeofdagfaaDoorZrbq
namespace Go.Proofs.YtnffigeofdagfaaDoor.M
open Go.RowKit Go.Shelf Go.Lib Go.Sort
set_option linter.unusedVariables false

theorem compareC (x y : Int) (w : World) : Calls Tryd.prog 111 #[.int .i64 x, .int .i64 y] w fun e w' => e = .returned (.int .i64 (cmpI x y)) ∧ w' = w :=
 (show Calls Tryd.prog 111 #[.int .i64 x, .int .i64 y] w _ from AnyG.cmp_Compare_int cmpL x y w).mono fun e w' ⟨h1, h2⟩ => ⟨by rw [h1]; unfold Lib.compareInt cmpI; rfl, h2⟩
set_option maxHeartbeats 1000000 in
theorem orC (F : Nat → Int) (b : Nat) (w : World) (hc : ∀ j, j < 3 → w.cell? ⟨b, j, none⟩ = some (.int .i64 (F j))) :
  Calls Tryd.prog 110 #[.slice (some ⟨b, 0, none⟩) 3 3] w fun e w' => e = .returned (.int .i64 (orL [F 0, F 1, F 2])) ∧ w' = w := by
 have HC := Lib.hid hc
 clear hc
 go_enter Tryd.func110, Tryd.ntmps110
 go_wp2
 go_loop [8] (fun i => ∃ k : Nat, k ≤ 3 ∧ i = .int .i64 k ∧ (∀ r, r < k → F r = 0)) (fun i => 3 - (intOf i).toNat)
 case atStart => exact ⟨0, by omega, rfl, by omega⟩
 case round =>
  obtain ⟨k, hk, rfl, hr⟩ := hrel
  have HR := Lib.hid hr
  clear hr
  by_cases hlt : k < 3
  ·have hcj := HC.out k hlt
   by_cases hz : F k = 0
   ·have hb : (F k != 0) = false := by simp [hz]
    go_wp2
    go_round
    case rel => exact ⟨k + 1, by omega, by go_num, fun r hr => by
     by_cases e : r = k
     ·subst e; exact hz
     ·exact HR.out r (by omega)⟩
    case measure => simp [intOf]; omega
   ·have hb : (F k != 0) = true := by simp [hz]
    go_wp2
    go_ret
    refine ⟨?_, rfl⟩
    have hr := HR.out
    rcases (by omega : k = 0 ∨ k = 1 ∨ k = 2) with rfl | rfl | rfl
    ·simp [orL, hz]
    ·simp [orL, hr 0 (by omega), hz]
    ·simp [orL, hr 0 (by omega), hr 1 (by omega), hz]
  ·go_wp2
   go_ret
   refine ⟨?_, rfl⟩
   have hr := HR.out
   simp [orL, hr 0 (by omega), hr 1 (by omega), hr 2 (by omega)]
theorem two_cells (W : World) (t : TypeId) (x1 x2 x3 y1 y2 y3 : Value) : ∃ W2, W2 = (W.alloc (.cells #[x1, x2, x3] t)).alloc (.cells #[y1, y2, y3] t) ∧ W2 = grow W #[.cells #[x1, x2, x3] t, .cells #[y1, y2, y3] t] ∧
  W2.cell? ⟨W.heap.size, 0, none⟩ = some x1 ∧ W2.cell? ⟨W.heap.size, 1, none⟩ = some x2 ∧ W2.cell? ⟨W.heap.size, 2, none⟩ = some x3 ∧ W2.cell? ⟨W.heap.size + 1, 0, none⟩ = some y1 ∧ W2.cell? ⟨W.heap.size + 1, 1, none⟩ = some y2 ∧ W2.cell? ⟨W.heap.size + 1, 2, none⟩ = some y3 := by
 obtain ⟨W1, hW1⟩ : ∃ W1, W1 = W.alloc (.cells #[x1, x2, x3] t) := ⟨_, rfl⟩
 obtain ⟨W2, hW2⟩ : ∃ W2, W2 = W1.alloc (.cells #[y1, y2, y3] t) := ⟨_, rfl⟩
 have s1 : W1.heap.size = W.heap.size + 1 := by rw [hW1, World.size_alloc]
 have h0 : W1.heap[W.heap.size]? = some (.cells #[x1, x2, x3] t (0, 0)) := by rw [hW1]; exact heap_alloc_new W _
 have h1 : W2.heap[W.heap.size]? = some (.cells #[x1, x2, x3] t (0, 0)) := by
  rw [hW2, Below.heap_alloc W1 _ _ (by omega)]
  exact h0
 have h2 : W2.heap[W.heap.size + 1]? = some (.cells #[y1, y2, y3] t (0, 0)) := by
  rw [← s1, hW2]
  exact heap_alloc_new W1 _
 have key : ∀ (b : Nat) (cs : Array Value) (j : Nat) v, W2.heap[b]? = some (.cells cs t (0, 0)) → cs[j]? = some v → W2.cell? ⟨b, j, none⟩ = some v := fun b cs j v e1 e2 => by
  unfold World.cell?
  simp only [e1]
  exact e2
 refine ⟨W2, by rw [hW2, hW1], ?_, key _ _ _ _ h1 rfl, key _ _ _ _ h1 rfl, key _ _ _ _ h1 rfl, key _ _ _ _ h2 rfl, key _ _ _ _ h2 rfl, key _ _ _ _ h2 rfl⟩
 rw [hW2, hW1, alloc_eq_grow, alloc_eq_grow, grow_grow]
 rfl
set_option maxRecDepth 100000 in
set_option maxHeartbeats 4000000 in
theorem cmpEdgesC (a b : Int × Int × Int) (W : World) : Calls Tryd.prog 95 #[.agg #[.int .i64 a.1, .int .i64 a.2.1, .int .i64 a.2.2], .agg #[.int .i64 b.1, .int .i64 b.2.1, .int .i64 b.2.2]] W fun e w' => e = .returned (.int .i64 (cmpE a b)) ∧ ∃ q os', w' = grow (W.drewN q) os' := by
 have h1 := Lib.hid fun W' => compareC a.1 b.1 W'
 have h2 := Lib.hid fun W' => compareC a.2.1 b.2.1 W'
 have h3 := Lib.hid fun W' => compareC a.2.2 b.2.2 W'
 have he : cmpE a b = orL [cmpI a.1 b.1, cmpI a.2.1 b.2.1, cmpI a.2.2 b.2.2] := rfl
 rw [he]
 generalize cmpI a.1 b.1 = c1 at *
 generalize cmpI a.2.1 b.2.1 = c2 at *
 generalize cmpI a.2.2 b.2.2 = c3 at *
 go_enter Tryd.func95, Tryd.ntmps95
 go_upto_region 1 with (fail)
 obtain ⟨W2, hW, hg, k1, k2, k3, k4, k5, k6⟩ := two_cells W 143 (.int .i64 a.1) (.int .i64 a.2.1) (.int .i64 a.2.2) (.int .i64 b.1) (.int .i64 b.2.1) (.int .i64 b.2.2)
 rw [← hW]
 have HG := Lib.hid hg
 clear hW hg
 refine wp_region_still_tail 15 (by kernel_rfl) (by kernel_rfl) ?_
 simp only [List.take_succ_cons, List.take_zero, List.drop_succ_cons, List.drop_zero]
 repeat still_step
 still_call (h1.out _)
 repeat still_step
 still_call (h2.out _)
 repeat still_step
 still_call (h3.out _)
 try refine wpStill_nil ?_
 change wpList _ _ _ _ _ W2.drew
 have hor := fun (W' : World) (b : Nat) hc => orC (fun j => if j = 0 then c1 else if j = 1 then c2 else c3) b W' hc
 have HOR := Lib.hid hor
 clear hor
 go_wp2_with fail
 refine (HOR.out _ _ (fun j hj => ?_)).mono ?_
 ·have h9 : (W2.alloc (Obj.cells #[Value.int IntKind.i64 c1, Value.int IntKind.i64 c2, Value.int IntKind.i64 c3] 3)).heap[W2.heap.size]? = some (Obj.cells #[Value.int IntKind.i64 c1, Value.int IntKind.i64 c2, Value.int IntKind.i64 c3] 3 (0, 0)) := heap_alloc_new W2 _
  show (W2.alloc (Obj.cells #[Value.int IntKind.i64 c1, Value.int IntKind.i64 c2, Value.int IntKind.i64 c3] 3)).cell? ⟨W2.heap.size, j, none⟩ = _
  unfold World.cell?
  simp only [h9]
  rcases (by omega : j = 0 ∨ j = 1 ∨ j = 2) with rfl | rfl | rfl <;> rfl
 rintro e w' ⟨rfl, rfl⟩
 go_wp2
 go_ret
 refine ⟨rfl, 1, #[Obj.cells #[Value.int IntKind.i64 a.1, Value.int IntKind.i64 a.2.1, Value.int IntKind.i64 a.2.2] 143, Obj.cells #[Value.int IntKind.i64 b.1, Value.int IntKind.i64 b.2.1, Value.int IntKind.i64 b.2.2] 143] ++ #[Obj.cells #[Value.int IntKind.i64 c1, Value.int IntKind.i64 c2, Value.int IntKind.i64 c3] 3], ?_⟩
 rw [HG.out, alloc_eq_grow, grow_grow]
 rfl
end Go.Proofs.YtnffigeofdagfaaDoor.M
