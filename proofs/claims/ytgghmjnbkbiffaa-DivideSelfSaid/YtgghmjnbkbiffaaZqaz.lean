/-
  Renumbered tables, and automorphisms under composition, in plain Lean.
  My own library: rows of numbers of the call's own that are written later ('RowAt'), and tables of such rows ('Grid'). Walks of ref3.Discrete and Copy.
-/
import Derived.Test.YtgghmjnbkbiffaaZqau
import Derived.Test.YtgghmjnbkbiffaaZqaw
namespace Go.Proofs.Ytgghmjnbkbiffaa
set_option linter.unusedVariables false

/-- P and Q are permutations of the first n numbers, each the inverse of the other. -/
structure PermPQ (n : Nat) (P Q : Nat → Nat) : Prop where
  pl : ∀ i, i < n → P i < n
  ql : ∀ i, i < n → Q i < n
  pq : ∀ i, i < n → P (Q i) = i
  qp : ∀ i, i < n → Q (P i) = i
theorem PermPQ.id (n : Nat) : PermPQ n (fun i => i) (fun i => i) := ⟨fun _ h => h, fun _ h => h, fun _ _ => rfl, fun _ _ => rfl⟩
/-- n rows of m numbers. -/
def rowsG (n m : Nat) (G : Nat → Nat → Int) : List (List Int) := (List.range n).map fun r => listF (G r) m
theorem lnx_rowsG (n m : Nat) (G : Nat → Nat → Int) : lnx (rowsG n m G) = n := by simp [rowsG, lnx]
theorem nthx_rowsG {n : Nat} (m : Nat) (G : Nat → Nat → Int) {r : Nat} (h : r < n) : nthx (rowsG n m G) r = listF (G r) m := by simp [rowsG, nthx, h]
section
variable {t : List (List Int)} {P Q : Nat → Nat} {G : Nat → Nat → Int}
end
end Go.Proofs.Ytgghmjnbkbiffaa

namespace Go.Proofs.Ytgghmjnbkbiffaa
open Go.RowKit
set_option linter.unusedVariables false

/-- Block g begins with m numbers. -/
def RowAt (w : World) (g m : Nat) (f : Nat → Int) : Prop := ∃ cs : Array Value, w.heap[g]? = some (.cells cs 3 (0, 0)) ∧ m ≤ cs.size ∧ ∀ c, c < m → cs[c]? = some (.int .i64 (f c))
section
variable {w w' : World} {g m : Nat} {f : Nat → Int}
theorem RowAt.lt (h : RowAt w g m f) : g < w.heap.size := by
  obtain ⟨cs, h1, _⟩ := h
  exact lt_of_block h1
theorem RowAt.cell (h : RowAt w g m f) {i : Nat} (hi : i < m) : w.cell? ⟨g, i, none⟩ = some (.int .i64 (f i)) := by
  obtain ⟨cs, h1, _, h3⟩ := h
  simp [World.cell?, h1, h3 i hi]
theorem RowAt.frozen (h : RowAt w g m f) (i : Nat) : w.frozen? ⟨g, i, none⟩ = false := by
  obtain ⟨cs, h1, _⟩ := h
  simp [World.frozen?, h1]
theorem RowAt.same (h : RowAt w g m f) (hb : w'.heap[g]? = w.heap[g]?) : RowAt w' g m f := by
  obtain ⟨cs, h1, h2⟩ := h
  exact ⟨cs, hb.trans h1, h2⟩
theorem RowAt.only {S : Nat → Prop} (h : RowAt w g m f) (ho : Only S w w') (hn : ¬ S g) : RowAt w' g m f := h.same (ho.block g h.lt hn)
theorem RowAt.far (h : RowAt w g m f) {p : Addr} (hp : g ≠ p.block) (u : Value) : RowAt (w.setCell p u) g m f := h.same (Below.heap_setCell w p u g hp)
theorem RowAt.set_ (h : RowAt w g m f) (i : Nat) (u : Int) : RowAt (w.setCell ⟨g, i, none⟩ (.int .i64 u)) g m (upd f i u) := by
  obtain ⟨cs, h1, h2, h3⟩ := h
  refine ⟨cs.setIfInBounds i (.int .i64 u), by simp [World.setCell, Array.getElem?_modify, h1], by simpa using h2, fun j hj => ?_⟩
  rw [Array.getElem?_setIfInBounds]
  by_cases hji : j = i
  · subst hji
    simp [upd, show j < cs.size by omega]
  · rw [if_neg (fun e => hji e.symm), h3 j hj, upd_other f u hji]
theorem RowAt.congr {f' : Nat → Int} (h : RowAt w g m f) (hf : ∀ i, i < m → f i = f' i) : RowAt w g m f' := by
  obtain ⟨cs, h1, h2, h3⟩ := h
  exact ⟨cs, h1, h2, fun i hi => by rw [h3 i hi, hf i hi]⟩
theorem RowAt.of_own {base c : Nat} {xs : List Value} (h : w.ownsRow base 3 1 (.slice (some ⟨g, 0, none⟩) m c) m xs) (hx : ∀ i, i < m → xs[i]? = some (.int .i64 (f i))) : RowAt w g m f ∧ base ≤ g ∧ m ≤ c ∧ c ≤ 9223372036854775807 := by
  rcases h.2 with ⟨e, _⟩ | ⟨g', cap, cur, e, h1, h2, h3, h4, h5, h6⟩
  · cases e
  · injection e with e1 e2 e3
    injection e1 with e1
    injection e1 with e1
    subst e1 e3
    refine ⟨⟨cur, h2, by omega, fun i hi => ?_⟩, h1, h3, by simpa [maxLen] using h4⟩
    have := hx i hi
    rw [← h6, List.getElem?_take] at this
    rw [if_pos (by omega)] at this
    simpa using this
theorem RowAt.of_arr (h : Arr 3 w g m (fun i => .int .i64 (f i))) : RowAt w g m f := by
  obtain ⟨cs, h1, h2, h3⟩ := h
  exact ⟨cs, h1, by omega, h3⟩
theorem RowAt.ints (h : RowAt w g m f) {c : Nat} (h1 : m ≤ c) (h2 : c ≤ 9223372036854775807) : Ints w (.slice (some ⟨g, 0, none⟩) m c) (listF f m) := by
  refine ⟨_, c, by rw [lnx_listF], by rw [lnx_listF]; exact h1, h2, fun _ => ⟨g, 0, rfl, fun i hi => ?_⟩⟩
  rw [lnx_listF] at hi
  rw [nthx_listF f hi, Nat.zero_add]
  exact h.cell hi
end

/-- n rows of m numbers, each in a block of its own. -/
structure Grid (w : World) (base n m g : Nat) (rb rc : Nat → Nat) (G : Nat → Nat → Int) : Prop where
  top : ∃ cs : Array Value, w.heap[g]? = some (.cells cs 31 (0, 0)) ∧ ∀ r, r < n → cs[r]? = some (.slice (some ⟨rb r, 0, none⟩) m (rc r))
  gb : base ≤ g
  row : ∀ r, r < n → RowAt w (rb r) m (G r) ∧ base ≤ rb r ∧ m ≤ rc r ∧ rc r ≤ 9223372036854775807
  inj : ∀ r s, r < n → s < n → rb r = rb s → r = s
section
variable {w w' : World} {base n m g : Nat} {rb rc : Nat → Nat} {G : Nat → Nat → Int}
theorem Grid.cell (h : Grid w base n m g rb rc G) {r : Nat} (hr : r < n) : w.cell? ⟨g, r, none⟩ = some (.slice (some ⟨rb r, 0, none⟩) m (rc r)) := by
  obtain ⟨cs, h1, h2⟩ := h.top
  simp [World.cell?, h1, h2 r hr]
theorem Grid.glt (h : Grid w base n m g rb rc G) : g < w.heap.size := by
  obtain ⟨cs, h1, _⟩ := h.top
  exact lt_of_block h1
theorem Grid.ne (h : Grid w base n m g rb rc G) {r : Nat} (hr : r < n) : g ≠ rb r := by
  intro e
  obtain ⟨cs, h1, _⟩ := h.top
  obtain ⟨cs', h2, _⟩ := (h.row r hr).1
  rw [e, h2] at h1
  injection h1 with h1
  injection h1 with _ h1
  exact absurd h1 (by decide)
theorem Grid.only {S : Nat → Prop} (h : Grid w base n m g rb rc G) (ho : Only S w w') (hS : ∀ k, base ≤ k → k < w.heap.size → ¬ S k) : Grid w' base n m g rb rc G := by
  obtain ⟨cs, h1, h2⟩ := h.top
  exact ⟨⟨cs, (ho.block g (lt_of_block h1) (hS g h.gb (lt_of_block h1))).trans h1, h2⟩, h.gb, fun r hr => ⟨(h.row r hr).1.only ho (hS _ (h.row r hr).2.1 (h.row r hr).1.lt), (h.row r hr).2⟩, h.inj⟩
theorem Grid.call (h : Grid w base n m g rb rc G) (hb : Below w.heap.size w w') : Grid w' base n m g rb rc G := h.only (Only.of_below hb) (fun k _ hk => by omega)
theorem Grid.drewN (h : Grid w base n m g rb rc G) (k : Nat) : Grid (w.drewN k) base n m g rb rc G := ⟨h.top, h.gb, h.row, h.inj⟩
theorem Grid.set_ (h : Grid w base n m g rb rc G) {r : Nat} (hr : r < n) (c : Nat) (u : Int) : Grid (w.setCell ⟨rb r, c, none⟩ (.int .i64 u)) base n m g rb rc (fun a b => if a = r ∧ b = c then u else G a b) := by
  obtain ⟨cs, h1, h2⟩ := h.top
  refine ⟨⟨cs, (Below.heap_setCell w _ _ g (h.ne hr)).trans h1, h2⟩, h.gb, fun s hs => ⟨?_, (h.row s hs).2⟩, h.inj⟩
  by_cases e : s = r
  · subst e
    refine ((h.row s hs).1.set_ c u).congr (fun i hi => ?_)
    unfold upd
    by_cases e2 : i = c <;> simp [e2]
  · refine ((h.row s hs).1.far (p := ⟨rb r, c, none⟩) (fun e2 => e (h.inj s r hs hr e2)) _).congr (fun i hi => ?_)
    simp [e]
theorem Grid.congr {G' : Nat → Nat → Int} (h : Grid w base n m g rb rc G) (hg : ∀ a b, a < n → b < m → G a b = G' a b) : Grid w base n m g rb rc G' :=
  ⟨h.top, h.gb, fun r hr => ⟨(h.row r hr).1.congr (fun i hi => hg r i hr hi), (h.row r hr).2⟩, h.inj⟩
theorem Grid.rows (h : Grid w base n m g rb rc G) {c : Nat} (h1 : n ≤ c) (h2 : c ≤ 9223372036854775807) : Rows2 w (.slice (some ⟨g, 0, none⟩) n c) (rowsG n m G) := by
  refine ⟨_, c, by rw [lnx_rowsG], by rw [lnx_rowsG]; exact h1, h2, fun _ => ⟨g, 0, rfl, fun i hi => ?_⟩⟩
  rw [lnx_rowsG] at hi
  rw [nthx_rowsG _ _ hi, Nat.zero_add]
  exact ⟨_, h.cell hi, (h.row i hi).1.ints (h.row i hi).2.2.1 (h.row i hi).2.2.2⟩
end

/-- The copy in the making. -/
structure CpSt (w wr : World) (n k : Nat) (t : List (List Int)) (v : Value) (rb rc : Nat → Nat) : Prop where
  own : ∃ vs : List Value, wr.ownsRow w.heap.size 31 1 v k vs ∧ ∀ r, r < k → vs[r]? = some (.slice (some ⟨rb r, 0, none⟩) n (rc r))
  row : ∀ r, r < k → RowAt wr (rb r) n (nthx (nthx t r)) ∧ w.heap.size ≤ rb r ∧ n ≤ rc r ∧ rc r ≤ 9223372036854775807
  inj : ∀ r s, r < k → s < k → rb r = rb s → r = s
  below : Below w.heap.size w wr

theorem CpSt.step {w wr w1 w2 : World} {n k : Nat} {t : List (List Int)} {v v2 : Value} {rb rc : Nat → Nat} {vs : List Value} {g1 c1 : Nat} (h : CpSt w wr n k t v rb rc) (hs : w.heap.size ≤ wr.heap.size) (hown : wr.ownsRow w.heap.size 31 1 v k vs) (hvs : ∀ r, r < k → vs[r]? = some (.slice (some ⟨rb r, 0, none⟩) n (rc r)))
    (hap1 : App w.heap.size 3 (wr.alloc (.cells #[] 3)) w1 (.slice (some ⟨wr.heap.size, 0, none⟩) 0 0) (.slice (some ⟨g1, 0, none⟩) n c1) 0 n [] ((nthx t k).map (Value.int .i64))) (hn : lnx (nthx t k) = n)
    (hap2 : App w.heap.size 31 (w1.alloc (.cells #[.slice (some ⟨g1, 0, none⟩) n c1] 31)) w2 v v2 k 1 vs [.slice (some ⟨g1, 0, none⟩) n c1]) :
    CpSt w w2 n (k + 1) t v2 (fun r => if r = k then g1 else rb r) (fun r => if r = k then c1 else rc r) := by
  have o1 : Only (fun _ => False) wr w1 := Only.grown ((Only.refl _ wr).alloc _) hap1.grown (fun k hk e => by simp [Value.ownBlock] at e; omega)
  have o2 := o1.alloc (.cells #[.slice (some ⟨g1, 0, none⟩) n c1] 31)
  have o3 : Only (fun k => v.ownBlock = some k) wr w2 := Only.grown (o2.mono (fun _ _ h => h.elim)) hap2.grown (fun k _ e => e)
  have hlen : vs.length = k := by simpa using hown.1
  have q := RowAt.of_own (f := nthx (nthx t k)) (by have := hap1.own; rw [Nat.zero_add, List.nil_append] at this; exact this) (fun i hi => by
    have hi2 : i < (nthx t k).length := by rw [← hn] at hi; exact hi
    rw [List.getElem?_map, List.getElem?_eq_getElem hi2]
    have : nthx (nthx t k) i = (nthx t k)[i] := by
      generalize nthx t k = l at hi2 ⊢
      simp [nthx, hi2]
    rw [this]
    rfl)
  have hg1 : wr.heap.size ≤ g1 := by
    rcases hap1.at_ (k := g1) rfl with e | e
    · simp [Value.ownBlock] at e; omega
    · simp at e; omega
  have hrow : ∀ r, r < k → ¬ v.ownBlock = some (rb r) := by
    intro r hr e
    obtain ⟨cs', h2, _⟩ := (h.row r hr).1
    rcases hown.2 with ⟨rfl, _⟩ | ⟨g, cap, cur, rfl, _, hg, _⟩
    · simp [Value.ownBlock] at e
    · obtain rfl : g = rb r := by simpa [Value.ownBlock] using e
      rw [hg] at h2
      injection h2 with h2
      injection h2 with _ h2
      exact absurd h2 (by decide)
  have q2 : RowAt w2 g1 n (nthx (nthx t k)) := by
    have h1 : RowAt (w1.alloc (.cells #[.slice (some ⟨g1, 0, none⟩) n c1] 31)) g1 n (nthx (nthx t k)) := q.1.same (Below.heap_alloc w1 _ g1 q.1.lt)
    refine h1.same (hap2.grown.block g1 (by have := q.1.lt; simp; omega) ?_)
    intro e
    rcases hown.2 with ⟨rfl, _⟩ | ⟨g, cap, cur, rfl, _, hg, _⟩
    · simp [Value.ownBlock] at e
    · have : g = g1 := by simpa [Value.ownBlock] using e.symm
      have := lt_of_block hg
      omega
  refine ⟨⟨vs ++ [.slice (some ⟨g1, 0, none⟩) n c1], hap2.own, fun r hr => ?_⟩, fun r hr => ?_, fun r s hr hs2 e => ?_, h.below.trans (o3.below (fun b hb e => ?_) hs)⟩
  · by_cases e : r = k
    · subst e
      rw [List.getElem?_append_right (by omega)]
      simp [hlen]
    · rw [List.getElem?_append_left (by omega), hvs r (by omega)]
      simp [e]
  · by_cases e : r = k
    · subst e
      simp only [if_pos]
      exact ⟨q2, q.2⟩
    · simp only [if_neg e]
      obtain ⟨a1, a2⟩ := h.row r (by omega)
      exact ⟨a1.only o3 (hrow r (by omega)), a2⟩
  · by_cases e1 : r = k
    · by_cases e2 : s = k
      · omega
      · simp only [if_pos e1, if_neg e2] at e
        have := (h.row s (by omega)).1.lt
        omega
    · by_cases e2 : s = k
      · simp only [if_neg e1, if_pos e2] at e
        have := (h.row r (by omega)).1.lt
        omega
      · simp only [if_neg e1, if_neg e2] at e
        exact h.inj r s (by omega) (by omega) e
  · have := (hown.lt b e).1
    omega

end Go.Proofs.Ytgghmjnbkbiffaa
