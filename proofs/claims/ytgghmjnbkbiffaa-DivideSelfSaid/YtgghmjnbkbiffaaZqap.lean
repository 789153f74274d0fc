/-
  My own library: maps from int to int that a call makes, as lists of entries.
-/
import Derived.Test.YtgghmjnbkbiffaaZqao
import Derived.Maps.OwnOps
import Derived.Maps.OwnSet
namespace Go.Proofs.Ytgghmjnbkbiffaa
open Go.RowKit
set_option linter.unusedVariables false

/-- Block b is a map with these entries, in the order in which they came. -/
def MapI (w : World) (b : Nat) (es : List (Int × Int)) : Prop := ∃ ents clock, w.heap[b]? = some (.map ents clock) ∧ ents.toList.map (fun e => (e.key, e.val)) = es.map (fun p => (Value.int .i64 p.1, Value.int .i64 p.2))

def assocI : List (Int × Int) → Int → Option Int
  | [], _ => none
  | p :: es, k => if k = p.1 then some p.2 else assocI es k

theorem MapI.lt {w : World} {b : Nat} {es : List (Int × Int)} (h : MapI w b es) : b < w.heap.size := by
  obtain ⟨_, _, h, _⟩ := h
  exact lt_of_block h
theorem MapI.only {S : Nat → Prop} {w w' : World} {b : Nat} {es : List (Int × Int)} (h : MapI w b es) (ho : Only S w w') (hn : ¬ S b) : MapI w' b es := by
  have hl := h.lt
  obtain ⟨e, c, h1, h2⟩ := h
  exact ⟨e, c, (ho.block b hl hn).trans h1, h2⟩
theorem MapI.made (w : World) : MapI (w.alloc (.map #[] 0)) w.heap.size [] := ⟨#[], 0, heap_alloc_new w _, rfl⟩
theorem MapI.drewN {w : World} {b : Nat} {es : List (Int × Int)} (h : MapI w b es) (n : Nat) : MapI (w.drewN n) b es := h

/-- One step of the numbering. -/
def canStep (st : List (Int × Int) × List Int) (x : Int) : List (Int × Int) × List Int :=
  match assocI st.1 x with
  | some c => (st.1, st.2 ++ [c])
  | none => (st.1 ++ [(x, (lnx st.1 : Int))], st.2 ++ [(lnx st.1 : Int)])
def canAt (xs : List Int) (k : Nat) : List (Int × Int) × List Int := (xs.take k).foldl canStep ([], [])
theorem canAt_succ (xs : List Int) {k : Nat} (h : k < lnx xs) : canAt xs (k + 1) = canStep (canAt xs k) (nthx xs k) := by
  unfold canAt
  have h' : k < xs.length := h
  rw [List.take_succ_eq_append_getElem h', List.foldl_append]
  simp [nthx, h']
theorem canAt_len (xs : List Int) : ∀ k, k ≤ lnx xs → lnx (canAt xs k).2 = k ∧ lnx (canAt xs k).1 ≤ k
  | 0, _ => by simp [canAt, lnx]
  | k + 1, h => by
    obtain ⟨h1, h2⟩ := canAt_len xs k (by omega)
    rw [canAt_succ xs (by omega)]
    unfold canStep
    split
    · exact ⟨by rw [lnx_append, lnx_one, h1], by simp only; omega⟩
    · exact ⟨by rw [lnx_append, lnx_one, h1], by rw [lnx_append, lnx_one]; omega⟩
theorem nthx_push {α : Type} [Inhabited α] (l : List α) (c : α) (j : Nat) : nthx (l ++ [c]) j = if j = lnx l then c else nthx l j := by
  by_cases h : j = lnx l
  · rw [if_pos h, h]; exact nthx_append_new l c
  · rw [if_neg h]
    by_cases h2 : j < lnx l
    · exact nthx_append_lt l _ h2
    · have : l.length < j := by simp only [lnx] at h h2; omega
      simp [nthx]
      rw [List.getElem?_eq_none (by simp; omega), List.getElem?_eq_none (by omega)]
theorem canAt_hit (xs : List Int) {k : Nat} (h : k < lnx xs) {c : Int} (ha : assocI (canAt xs k).1 (nthx xs k) = some c) : (canAt xs (k + 1)).1 = (canAt xs k).1 ∧ (canAt xs (k + 1)).2 = (canAt xs k).2 ++ [c] := by
  rw [canAt_succ xs h]
  unfold canStep
  rw [ha]
  exact ⟨rfl, rfl⟩
theorem canAt_miss (xs : List Int) {k : Nat} (h : k < lnx xs) (ha : assocI (canAt xs k).1 (nthx xs k) = none) : (canAt xs (k + 1)).1 = (canAt xs k).1 ++ [(nthx xs k, (lnx (canAt xs k).1 : Int))] ∧ (canAt xs (k + 1)).2 = (canAt xs k).2 ++ [(lnx (canAt xs k).1 : Int)] := by
  rw [canAt_succ xs h]
  unfold canStep
  rw [ha]
  exact ⟨rfl, rfl⟩
/-- The rows and the map after k steps. -/
structure CanSt (w : World) (E : TypeId) (g : Nat) (xs : List Int) (k : Nat) (w' : World) : Prop where
  arr : Arr E w' g (lnx xs) (fun j => .int .i64 (nthx (canAt xs k).2 j))
  map : MapI w' (g + 1) (canAt xs k).1
  below : Below w.heap.size w w'
theorem CanSt.start (w : World) (E : TypeId) (xs : List Int) : CanSt w E w.heap.size xs 0 ((w.alloc (.cells (zeros (.int .i64 0) (lnx xs)) E)).alloc (.map #[] 0)) := by
  refine ⟨((Arr.zeros E w (.int .i64 0) (lnx xs)).alloc _).congr (fun i hi => rfl), ?_, ?_⟩
  · have := MapI.made (w.alloc (.cells (zeros (.int .i64 0) (lnx xs)) E))
    rw [World.size_alloc] at this
    exact this
  · exact ((Below.refl _ _).alloc (Nat.le_refl _) _).alloc (by simp) _
theorem CanSt.hit {w w' : World} {E : TypeId} {g : Nat} {xs : List Int} {k : Nat} (h : CanSt w E g xs k w') (hg : w.heap.size ≤ g) (hk : k < lnx xs) {c : Int} (ha : assocI (canAt xs k).1 (nthx xs k) = some c) :
    CanSt w E g xs (k + 1) (w'.setCell ⟨g, k, none⟩ (.int .i64 c)) := by
  obtain ⟨e1, e2⟩ := canAt_hit xs hk ha
  obtain ⟨l1, -⟩ := canAt_len xs k (by omega)
  refine ⟨(h.arr.set_ k _).congr (fun i hi => ?_), ?_, h.below.setCell (p := ⟨g, k, none⟩) hg _⟩
  · rw [e2, nthx_push, l1]
    by_cases e : i = k <;> simp [e]
  · rw [e1]
    exact h.map.only ((Only.refl (fun j => j = g) w').setCell (p := ⟨g, k, none⟩) (fun _ => rfl) _) (by omega)
theorem CanSt.miss {w w' w2 : World} {E : TypeId} {g : Nat} {xs : List Int} {k : Nat} (h : CanSt w E g xs k w') (hg : w.heap.size ≤ g) (hk : k < lnx xs) (ha : assocI (canAt xs k).1 (nthx xs k) = none)
    (hm : MapI w2 (g + 1) ((canAt xs k).1 ++ [(nthx xs k, (lnx (canAt xs k).1 : Int))])) (ho : Only (fun j => j = g + 1) w' w2) :
    CanSt w E g xs (k + 1) (w2.setCell ⟨g, k, none⟩ (.int .i64 (lnx (canAt xs k).1 : Int))) := by
  obtain ⟨e1, e2⟩ := canAt_miss xs hk ha
  obtain ⟨l1, -⟩ := canAt_len xs k (by omega)
  refine ⟨((h.arr.only ho (by omega)).set_ k _).congr (fun i hi => ?_), ?_, ?_⟩
  · rw [e2, nthx_push, l1]
    by_cases e : i = k <;> simp [e]
  · rw [e1]
    exact hm.only ((Only.refl (fun j => j = g) w2).setCell (p := ⟨g, k, none⟩) (fun _ => rfl) _) (by omega)
  · have := h.below.trans (ho.below (B := w.heap.size) (fun j hj => by omega) h.below.size)
    exact this.setCell (p := ⟨g, k, none⟩) hg _
theorem Arr.ints {E : TypeId} {w : World} {g : Nat} {ys : List Int} (n : Nat) (hn : n = lnx ys) (hm : n ≤ 9223372036854775807) (h : Arr E w g n (fun j => .int .i64 (nthx ys j))) : Ints w (.slice (some ⟨g, 0, none⟩) n n) ys := by
  subst hn
  exact ⟨_, _, rfl, Nat.le_refl _, hm, fun _ => ⟨g, 0, rfl, fun i hi => by simpa using h.cell hi⟩⟩
end Go.Proofs.Ytgghmjnbkbiffaa
