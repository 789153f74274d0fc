/-
  The walk of ref20.Extend.
-/
import Derived.Test.YtgghmjnbkbiffaaZqaw
import Derived.BigRegion
namespace Go.Proofs.Ytgghmjnbkbiffaa
open Go.RowKit
set_option linter.unusedVariables false

/-- The cells of a map in the making, in block g. -/
structure MEx (w : World) (n g : Nat) (F : Nat → Int) (wr : World) : Prop where
  arr : Arr 3 wr g n (fun j => .int .i64 (F j))
  below : Below g w wr
theorem MEx.set_ {w wr : World} {n g : Nat} {F : Nat → Int} (h : MEx w n g F wr) (z : Nat) (y : Int) : MEx w n g (upd F z y) (wr.setCell ⟨g, z, none⟩ (.int .i64 y)) :=
  ⟨(h.arr.set_ _ _).congr (fun i hi => by unfold upd; by_cases e : i = z <;> simp [e]), h.below.setCell (p := ⟨g, z, none⟩) (Nat.le_refl _) _⟩
theorem MEx.drewN {w wr : World} {n g : Nat} {F : Nat → Int} (h : MEx w n g F wr) (q : Nat) : MEx w n g F (wr.drewN q) := ⟨h.arr.drewN q, Below.drewN' h.below q⟩
theorem MEx.drew {w wr : World} {n g : Nat} {F : Nat → Int} (h : MEx w n g F wr) : MEx w n g F wr.drew := ⟨h.arr.drew, ⟨h.below.os, h.below.tape, h.below.output, h.below.size, h.below.block⟩⟩
theorem MEx.congr {w wr : World} {n g : Nat} {F G : Nat → Int} (h : MEx w n g F wr) (he : ∀ i, i < n → F i = G i) : MEx w n g G wr := ⟨h.arr.congr (fun i hi => by rw [he i hi]), h.below⟩

def fillF (k : Nat) : Nat → Int := fun j => if j < k then -1 else 0
theorem fillF_step (k : Nat) : upd (fillF k) k (-1) = fillF (k + 1) := by
  funext i
  unfold upd fillF
  by_cases e : i = k
  · rw [if_pos e, if_pos (by omega)]
  · rw [if_neg e]
    by_cases e2 : i < k
    · rw [if_pos e2, if_pos (by omega)]
    · rw [if_neg e2, if_neg (by omega)]
end Go.Proofs.Ytgghmjnbkbiffaa
