/-
  My own library: a queue (a slice of numbers from whose front one is taken and to whose end one is appended), and arrays of numbers held whole.
-/
import Derived.Test.YtgghmjnbkbiffaaZqao
import Derived.Test.YtgghmjnbkbiffaaZqaq
import Derived.Deep.WholeRow
import Derived.Deep.MidRow
import Derived.Laws.ResultCell
namespace Go.Proofs.Ytgghmjnbkbiffaa
open Go.RowKit
set_option linter.unusedVariables false

/-- A slice of the call's own, at whatever place of its block, that reads as xs. -/
def OwnQ (w : World) (base : Nat) (E : TypeId) (v : Value) (xs : List Value) : Prop :=
  ∃ b off cap cur, v = .slice (some ⟨b, off, none⟩) (lnx xs) cap ∧ base ≤ b ∧ w.heap[b]? = some (.cells cur E (0, 0)) ∧ lnx xs ≤ cap ∧ cap ≤ 9223372036854775807 ∧ (0 < cap → off + cap ≤ cur.size) ∧ ∀ j u, xs[j]? = some u → cur[off + j]? = some u

section
variable {w w' : World} {base : Nat} {E : TypeId} {v : Value} {xs : List Value}
theorem OwnQ.only {S : Nat → Prop} (h : OwnQ w base E v xs) (ho : Only S w w') (hS : ∀ k, base ≤ k → ¬ S k) : OwnQ w' base E v xs := by
  obtain ⟨b, off, cap, cur, rfl, h1, h2, h3⟩ := h
  exact ⟨b, off, cap, cur, rfl, h1, (ho.block b (lt_of_block h2) (hS b h1)).trans h2, h3⟩
theorem OwnQ.alloc (h : OwnQ w base E v xs) (o : Obj) : OwnQ (w.alloc o) base E v xs := by
  obtain ⟨b, off, cap, cur, rfl, h1, h2, h3⟩ := h
  exact ⟨b, off, cap, cur, rfl, h1, (Below.heap_alloc w o b (lt_of_block h2)).trans h2, h3⟩
theorem OwnQ.setCell (h : OwnQ w base E v xs) {p : Addr} (hp : p.block < base) (u : Value) : OwnQ (w.setCell p u) base E v xs := by
  obtain ⟨b, off, cap, cur, rfl, h1, h2, h3⟩ := h
  exact ⟨b, off, cap, cur, rfl, h1, (Below.heap_setCell w p u b (by omega)).trans h2, h3⟩
theorem OwnQ.drewN (h : OwnQ w base E v xs) (k : Nat) : OwnQ (w.drewN k) base E v xs := h
theorem OwnQ.one (w : World) (base : Nat) (E : TypeId) (u : Value) (hb : base ≤ w.heap.size) : OwnQ (w.alloc (.cells #[u] E)) base E (.slice (some ⟨w.heap.size, 0, none⟩) 1 1) [u] :=
  ⟨w.heap.size, 0, 1, #[u], rfl, hb, heap_alloc_new w _, Nat.le_refl _, by omega, fun _ => by simp, fun j y hy => by cases j <;> simp_all⟩
/-- What the walk wants of it. -/
theorem OwnQ.shape (h : OwnQ w base E v xs) : ∃ b off cap, v = .slice (some ⟨b, off, none⟩) (lnx xs) cap ∧ base ≤ b ∧ lnx xs ≤ cap ∧ cap ≤ 9223372036854775807 ∧ ∀ j u, xs[j]? = some u → w.cell? ⟨b, off + j, none⟩ = some u := by
  obtain ⟨b, off, cap, cur, rfl, h1, h2, h3, h4, h5, h6⟩ := h
  exact ⟨b, off, cap, rfl, h1, h3, h4, fun j u hu => by simp [World.cell?, h2, h6 j u hu]⟩
/-- The front is taken. -/
theorem OwnQ.pop {b off cap : Nat} {x : Value} (h : OwnQ w base E (.slice (some ⟨b, off, none⟩) (lnx (x :: xs)) cap) (x :: xs)) : OwnQ w base E (.slice (some ⟨b, if cap = 1 then off else off + 1, none⟩) (lnx xs) (cap - 1)) xs := by
  obtain ⟨b', off', cap', cur, he, h1, h2, h3, h4, h5, h6⟩ := h
  simp only [Value.slice.injEq, Option.some.injEq, Addr.mk.injEq, true_and, and_true] at he
  obtain ⟨⟨rfl, rfl⟩, rfl⟩ := he
  have hl : lnx (x :: xs) = lnx xs + 1 := by simp [lnx]
  refine ⟨b, _, cap - 1, cur, rfl, h1, h2, by omega, by omega, fun hc => ?_, fun j u hu => ?_⟩
  · have := h5 (by omega)
    rw [if_neg (by omega)]
    omega
  · have hj : j < xs.length := (List.getElem?_eq_some_iff.1 hu).1
    have hl2 : xs.length = lnx xs := rfl
    rw [if_neg (by omega), Nat.add_assoc, Nat.add_comm 1 j]
    exact h6 (j + 1) u (by simpa using hu)
end

/-- Eight numbers. -/
def agg8 (F : Nat → Int) : Array Value := (Array.range 8).map fun i => Value.int .i64 (F i)
@[simp] theorem size_agg8 (F : Nat → Int) : (agg8 F).size = 8 := by simp [agg8]
theorem get_agg8 (F : Nat → Int) {i : Nat} (hi : i < 8) : (agg8 F)[i]? = some (.int .i64 (F i)) := by simp [agg8, hi]
theorem set_agg8 (F : Nat → Int) (x : Nat) (y : Int) : (agg8 F).setIfInBounds x (.int .i64 y) = agg8 (upd F x y) := by
  apply Array.ext_getElem?
  intro i
  rw [Array.getElem?_setIfInBounds]
  by_cases hi : i < 8
  · rw [get_agg8 (upd F x y) hi]
    by_cases hx : x = i
    · subst hx; simp [hi, upd]
    · rw [if_neg hx, get_agg8 F hi, upd_other F y (fun e => hx e.symm)]
  · have h1 : (agg8 (upd F x y))[i]? = none := Array.getElem?_eq_none (by simp; omega)
    have h2 : (agg8 F)[i]? = none := Array.getElem?_eq_none (by simp; omega)
    rw [h1, h2]
    split <;> simp_all
/-- Block g holds the eight numbers. -/
def Blk8 (E : TypeId) (w : World) (g : Nat) (F : Nat → Int) : Prop := w.heap[g]? = some (.cells (agg8 F) E (0, 0))
section
variable {E : TypeId} {w w' : World} {g : Nat} {F : Nat → Int}
theorem Blk8.lt (h : Blk8 E w g F) : g < w.heap.size := lt_of_block h
theorem Blk8.cell (h : Blk8 E w g F) {i : Nat} (hi : i < 8) : w.cell? ⟨g, i, none⟩ = some (.int .i64 (F i)) := by
  unfold Blk8 at h
  simp [World.cell?, h, get_agg8 F hi]
theorem Blk8.frozen (h : Blk8 E w g F) (i : Nat) : w.frozen? ⟨g, i, none⟩ = false := by
  unfold Blk8 at h
  simp [World.frozen?, h]
theorem Blk8.same (h : Blk8 E w g F) (hb : w'.heap[g]? = w.heap[g]?) : Blk8 E w' g F := hb.trans h
theorem Blk8.only {S : Nat → Prop} (h : Blk8 E w g F) (ho : Only S w w') (hn : ¬ S g) : Blk8 E w' g F := h.same (ho.block g h.lt hn)
theorem Blk8.alloc (h : Blk8 E w g F) (o : Obj) : Blk8 E (w.alloc o) g F := h.same (Below.heap_alloc w o g h.lt)
theorem Blk8.far (h : Blk8 E w g F) {p : Addr} (hp : g ≠ p.block) (u : Value) : Blk8 E (w.setCell p u) g F := h.same (Below.heap_setCell w p u g hp)
theorem Blk8.drewN (h : Blk8 E w g F) (k : Nat) : Blk8 E (w.drewN k) g F := h
theorem Blk8.set_ (h : Blk8 E w g F) (x : Nat) (y : Int) : Blk8 E (w.setCell ⟨g, x, none⟩ (.int .i64 y)) g (upd F x y) := by
  unfold Blk8 at h ⊢
  simp [World.setCell, Array.getElem?_modify, h, set_agg8]
theorem Blk8.new (E : TypeId) (w : World) (F : Nat → Int) : Blk8 E (w.alloc (.cells (agg8 F) E)) w.heap.size F := heap_alloc_new w _
end

end Go.Proofs.Ytgghmjnbkbiffaa
