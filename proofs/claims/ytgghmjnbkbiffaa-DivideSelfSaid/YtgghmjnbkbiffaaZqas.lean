/-
  The walk of morph's define.
-/
import Derived.Test.YtgghmjnbkbiffaaZqar
import Derived.Test.YtgghmjnbkbiffaaZqao
import Derived.Deep.LoopGhost
import Derived.Deep.DeepCutAuto
namespace Go.Proofs.Ytgghmjnbkbiffaa
open Go.RowKit
set_option linter.unusedVariables false

def nv (xs : List Nat) : List Value := xs.map fun z : Nat => Value.int .i64 (z : Int)
theorem nv_append (xs ys : List Nat) : nv (xs ++ ys) = nv xs ++ nv ys := by simp [nv]

/-- Memory at the heads of define's loops. -/
structure DSt (w wr : World) (F : Nat → Int) (v : Value) (work : List Nat) : Prop where
  f8 : Blk8 112 wr w.heap.size F
  r8 : Blk8 112 wr (w.heap.size + 1) (fun _ => 0)
  q : OwnQ wr (w.heap.size + 2) 3 v (nv work)
  below : Below w.heap.size w wr
  sz : w.heap.size + 2 ≤ wr.heap.size

theorem DSt.drewN {w wr : World} {F : Nat → Int} {v : Value} {work : List Nat} (h : DSt w wr F v work) (k : Nat) : DSt w (wr.drewN k) F v work := ⟨h.f8, h.r8, h.q, Below.drewN' h.below k, h.sz⟩
theorem DSt.alloc {w wr : World} {F : Nat → Int} {v : Value} {work : List Nat} (h : DSt w wr F v work) (o : Obj) : DSt w (wr.alloc o) F v work :=
  ⟨h.f8.alloc o, h.r8.alloc o, h.q.alloc o, h.below.alloc (by have := h.sz; omega) o, by have := h.sz; simp; omega⟩
theorem DSt.set_ {w wr : World} {F : Nat → Int} {v : Value} {work : List Nat} (h : DSt w wr F v work) (x : Nat) (y : Int) : DSt w (wr.setCell ⟨w.heap.size, x, none⟩ (.int .i64 y)) (upd F x y) v work :=
  ⟨h.f8.set_ x y, h.r8.far (by simp) _, h.q.setCell (by simp) _, h.below.setCell (p := ⟨w.heap.size, x, none⟩) (Nat.le_refl _) _, by have := h.sz; simp [World.setCell]; omega⟩
theorem DSt.push {w wr w' : World} {F : Nat → Int} {v v' : Value} {work : List Nat} {z : Nat} (h : DSt w wr F v work) (hq : OwnQ w' (w.heap.size + 2) 3 v' (nv work ++ [.int .i64 (z : Int)])) (ho : Only (fun k => w.heap.size + 2 ≤ k) wr w') : DSt w w' F v' (work ++ [z]) :=
  ⟨h.f8.only ho (by omega), h.r8.only ho (by omega), by rw [nv_append]; exact hq, h.below.trans (ho.below (fun k hk => by omega) (by have := h.sz; omega)), by have := h.sz; have := ho.size; omega⟩
theorem DSt.start (w : World) (F : Nat → Int) (x : Nat) : DSt w (((w.alloc (.cells (agg8 F) 112)).alloc (.cells (agg8 fun _ => 0) 112)).alloc (.cells #[.int .i64 x] 3)) F (.slice (some ⟨w.heap.size + 1 + 1, 0, none⟩) 1 1) [x] := by
  refine ⟨((Blk8.new _ w F).alloc _).alloc _, ?_, ?_, ?_, by simp⟩
  · have := (Blk8.new 112 (w.alloc (.cells (agg8 F) 112)) (fun _ => 0)).alloc (.cells #[.int .i64 x] 3)
    simpa using this
  · have := OwnQ.one ((w.alloc (.cells (agg8 F) 112)).alloc (.cells (agg8 fun _ => 0) 112)) (w.heap.size + 2) 3 (.int .i64 x) (by simp)
    simpa [nv] using this
  · exact ((((Below.refl _ _).alloc (Nat.le_refl _) _).alloc (by simp) _).alloc (by simp; omega) _)

end Go.Proofs.Ytgghmjnbkbiffaa
