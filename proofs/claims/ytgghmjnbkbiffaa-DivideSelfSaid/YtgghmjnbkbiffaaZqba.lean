/-
  My own library: memory but for one block ('hideB'); the tape that deals numbers. Walks of semigroupmade.Mod, New, Tape.Next.
  My own library: automata in memory, their rows of the call's own. Walk of Tape.Dfa.
-/
import Derived.Test.YtgghmjnbkbiffaaZqaz
import Derived.StillTailTactics
import Derived.Deep.RegionLaw
namespace Go.Proofs.Ytgghmjnbkbiffaa
open Go.RowKit
set_option linter.unusedVariables false

/-- The blocks below g alone. -/
def cutB (w : World) (g : Nat) : World := { w with heap := w.heap.extract 0 g }
theorem cutB_heap (w : World) (g i : Nat) : (cutB w g).heap[i]? = if i < g then w.heap[i]? else none := by
  show (w.heap.extract 0 g)[i]? = _
  rw [Array.getElem?_extract, Nat.zero_add]
  by_cases e : i < g
  · rw [if_pos e]
    by_cases h : i < w.heap.size
    · rw [if_pos (by omega)]
    · rw [if_neg (by omega), Array.getElem?_eq_none (by omega)]
  · rw [if_neg e, if_neg (by omega)]
theorem cutB_cell (w : World) (g : Nat) (p : Addr) (u : Value) : (cutB w g).cell? p = some u ↔ p.block < g ∧ w.cell? p = some u := by
  unfold World.cell?
  rw [cutB_heap]
  by_cases e : p.block < g
  · simp [e]
  · simp [e]
theorem cutB_only {S : Nat → Prop} {w w' : World} {g : Nat} (h : Only S w w') (hS : ∀ k, k < g → ¬ S k) : Keeps (cutB w g) (cutB w' g) := fun p u hu => by
  obtain ⟨h1, h2⟩ := (cutB_cell w g p u).1 hu
  refine (cutB_cell w' g p u).2 ⟨h1, ?_⟩
  rw [World.cell?_of_block (h.block p.block (World.block_lt_of_cell? w p h2) (hS _ h1))]
  exact h2
/-- The tape at block g. -/
structure TapeIn (w : World) (g : Nat) (xs : List Int) (at_ : Nat) : Prop where
  blk : ∃ v, w.heap[g]? = some (.cells #[v, .int .i64 at_] 80 (0, 0)) ∧ Ints (cutB w g) v xs
  le : at_ ≤ lnx xs
  len : lnx xs ≤ 80
theorem TapeIn.lt {w : World} {g : Nat} {xs : List Int} {at_ : Nat} (h : TapeIn w g xs at_) : g < w.heap.size := by
  obtain ⟨v, h1, -⟩ := h.blk
  exact lt_of_block h1
theorem TapeIn.only {S : Nat → Prop} {w w' : World} {g : Nat} {xs : List Int} {at_ : Nat} (h : TapeIn w g xs at_) (ho : Only S w w') (hS : ∀ k, k ≤ g → ¬ S k) : TapeIn w' g xs at_ := by
  obtain ⟨v, h1, h2⟩ := h.blk
  exact ⟨⟨v, (ho.block g (lt_of_block h1) (hS g (Nat.le_refl _))).trans h1, h2.keep (cutB_only ho (fun k hk => hS k (by omega)))⟩, h.le, h.len⟩
theorem TapeIn.call {w w' : World} {g : Nat} {xs : List Int} {at_ : Nat} (h : TapeIn w g xs at_) (hb : Below w.heap.size w w') : TapeIn w' g xs at_ := h.only (Only.of_below hb) (fun k hk => by have := h.lt; omega)

end Go.Proofs.Ytgghmjnbkbiffaa

namespace Go.Proofs.Ytgghmjnbkbiffaa
open Go.RowKit
set_option linter.unusedVariables false

/-- Block k is not one of type E from base on. -/
def ForT (w : World) (base k : Nat) (E : TypeId) : Prop := k < base ∨ ∃ cs E', w.heap[k]? = some (.cells cs E' (0, 0)) ∧ E' ≠ E
theorem own_for {S : Nat → Prop} {w w' : World} {base : Nat} {e : TypeId} {v : Value} {n : Nat} {xs : List Value} (h : w.ownsRow base e 1 v n xs) (ho : Only S w w') (hn : ∀ k, k < w.heap.size → S k → ForT w base k e) : w'.ownsRow base e 1 v n xs := by
  refine own_only h ho (fun k hk hS => ?_)
  have hlt := h.lt k hk
  rcases hn k hlt.2 hS with h1 | ⟨cs, E', h1, h2⟩
  · omega
  · rcases h.2 with ⟨rfl, _⟩ | ⟨g, cap, cur, rfl, _, hg, _⟩
    · simp [Value.ownBlock] at hk
    · obtain rfl : g = k := by simpa [Value.ownBlock] using hk
      rw [hg] at h1
      injection h1 with h1
      injection h1 with _ h1
      exact h2 h1.symm
/-- The block of a row is of its type. -/
theorem own_forT {w : World} {base : Nat} {e : TypeId} {v : Value} {n : Nat} {xs : List Value} (h : w.ownsRow base e 1 v n xs) {k : Nat} (hk : v.ownBlock = some k) (b : Nat) {E : TypeId} (hE : e ≠ E) : ForT w b k E := by
  rcases h.2 with ⟨rfl, _⟩ | ⟨g, cap, cur, rfl, _, hg, _⟩
  · simp [Value.ownBlock] at hk
  · obtain rfl : g = k := by simpa [Value.ownBlock] using hk
    exact .inr ⟨cur, e, hg, hE⟩
theorem RowAt.for_ {S : Nat → Prop} {w w' : World} {base g m : Nat} {f : Nat → Int} (h : RowAt w g m f) (hb : base ≤ g) (ho : Only S w w') (hn : ∀ k, k < w.heap.size → S k → ForT w base k 3) : RowAt w' g m f := by
  refine h.only ho (fun hS => ?_)
  obtain ⟨cs, h1, -⟩ := h
  rcases hn g (lt_of_block h1) hS with h2 | ⟨cs', E', h2, h3⟩
  · omega
  · rw [h1] at h2
    injection h2 with h2
    injection h2 with _ h2
    exact h3 h2.symm

/-- k rows of m numbers in the making. -/
structure RowsIn (w : World) (base : Nat) (v : Value) (k m : Nat) (rb rc : Nat → Nat) (G : Nat → Nat → Int) : Prop where
  own : ∃ vs : List Value, w.ownsRow base 31 1 v k vs ∧ ∀ r, r < k → vs[r]? = some (.slice (some ⟨rb r, 0, none⟩) m (rc r))
  row : ∀ r, r < k → RowAt w (rb r) m (G r) ∧ base ≤ rb r ∧ m ≤ rc r ∧ rc r ≤ 9223372036854775807
  inj : ∀ r s, r < k → s < k → rb r = rb s → r = s
section
variable {w w' : World} {base k m : Nat} {v : Value} {rb rc : Nat → Nat} {G : Nat → Nat → Int}
theorem RowsIn.nil (w : World) (base m : Nat) (rb rc : Nat → Nat) (G : Nat → Nat → Int) : RowsIn w base (.slice none 0 0) 0 m rb rc G := ⟨⟨[], World.ownsRow_nil w _ _ _, fun r hr => by omega⟩, fun r hr => by omega, fun r s hr => by omega⟩
theorem RowsIn.for_ {S : Nat → Prop} (h : RowsIn w base v k m rb rc G) (ho : Only S w w') (hn : ∀ j, j < w.heap.size → S j → ForT w base j 3 ∧ ForT w base j 31) : RowsIn w' base v k m rb rc G := by
  obtain ⟨vs, h1, h2⟩ := h.own
  exact ⟨⟨vs, own_for h1 ho (fun j hj hS => (hn j hj hS).2), h2⟩, fun r hr => ⟨(h.row r hr).1.for_ (h.row r hr).2.1 ho (fun j hj hS => (hn j hj hS).1), (h.row r hr).2⟩, h.inj⟩
theorem RowsIn.call (h : RowsIn w base v k m rb rc G) (hb : Below w.heap.size w w') : RowsIn w' base v k m rb rc G := h.for_ (Only.of_below hb) (fun j hj hS => by omega)
theorem RowsIn.push {v' : Value} {g1 c1 : Nat} {f : Nat → Int} {vs : List Value} (h : RowsIn w base v k m rb rc G) (hown : w.ownsRow base 31 1 v k vs) (hvs : ∀ r, r < k → vs[r]? = some (.slice (some ⟨rb r, 0, none⟩) m (rc r)))
    (hr : RowAt w g1 m f) (hb : base ≤ g1) (hc1 : m ≤ c1) (hc2 : c1 ≤ 9223372036854775807) (hne : ∀ r, r < k → rb r ≠ g1) (hap : App base 31 w w' v v' k 1 vs [.slice (some ⟨g1, 0, none⟩) m c1]) :
    RowsIn w' base v' (k + 1) m (fun r => if r = k then g1 else rb r) (fun r => if r = k then c1 else rc r) (fun r => if r = k then f else G r) := by
  have o : Only (fun k => v.ownBlock = some k) w w' := Only.grown (Only.refl _ w) hap.grown (fun k _ e => e)
  have hlen : vs.length = k := by simpa using hown.1
  have hT : ∀ j, j < w.heap.size → v.ownBlock = some j → ForT w base j 3 := fun j _ hj => own_forT hown hj base (by decide)
  refine ⟨⟨vs ++ [.slice (some ⟨g1, 0, none⟩) m c1], hap.own, fun r hr => ?_⟩, fun r hr2 => ?_, fun r s hr2 hs2 e => ?_⟩
  · by_cases e : r = k
    · subst e
      rw [List.getElem?_append_right (by omega)]
      simp [hlen]
    · rw [List.getElem?_append_left (by omega), hvs r (by omega)]
      simp [e]
  · by_cases e : r = k
    · simp only [if_pos e]
      exact ⟨hr.for_ hb o hT, hb, hc1, hc2⟩
    · simp only [if_neg e]
      obtain ⟨a1, a2⟩ := h.row r (by omega)
      exact ⟨a1.for_ a2.1 o hT, a2⟩
  · by_cases e1 : r = k
    · by_cases e2 : s = k
      · omega
      · simp only [if_pos e1, if_neg e2] at e
        exact absurd e.symm (hne s (by omega))
    · by_cases e2 : s = k
      · simp only [if_neg e1, if_pos e2] at e
        exact absurd e (hne r (by omega))
      · simp only [if_neg e1, if_neg e2] at e
        exact h.inj r s (by omega) (by omega) e
theorem RowsIn.congr {G' : Nat → Nat → Int} (h : RowsIn w base v k m rb rc G) (hg : ∀ a b, a < k → b < m → G a b = G' a b) : RowsIn w base v k m rb rc G' :=
  ⟨h.own, fun r hr => ⟨(h.row r hr).1.congr (fun i hi => hg r i hr hi), (h.row r hr).2⟩, h.inj⟩
end

/-- A slice of truth values of the call's own. -/
def OwnB (w : World) (base : Nat) (v : Value) (bs : List Bool) : Prop := w.ownsRow base 4 1 v (lnx bs) (bs.map Value.bool)
theorem OwnB.nil (w : World) (base : Nat) : OwnB w base (.slice none 0 0) [] := World.ownsRow_nil w base _ _
theorem OwnB.push {w : World} {base : Nat} {v : Value} {bs : List Bool} {b : Bool} (h : w.ownsRow base 4 1 v (lnx bs + 1) (bs.map Value.bool ++ [.bool b])) : OwnB w base v (bs ++ [b]) := by
  unfold OwnB
  rw [lnx_append, lnx_one]
  simpa using h
theorem OwnB.for_ {S : Nat → Prop} {w w' : World} {base : Nat} {v : Value} {bs : List Bool} (h : OwnB w base v bs) (ho : Only S w w') (hn : ∀ k, k < w.heap.size → S k → ForT w base k 4) : OwnB w' base v bs := own_for h ho hn

/-- An automaton in the making, in block gd; the tape lies in block g. -/
structure DfSt (w0 wr : World) (g gd base : Nat) (xs : List Int) (L n s k : Nat) (vf vn : Value) (bs : List Bool) (rb rc : Nat → Nat) (D : Nat → Nat → Nat) : Prop where
  tape : ∃ at_, TapeIn wr g xs at_
  blk : wr.heap[gd]? = some (.cells #[.int .i64 L, .int .i64 s, vf, vn] 87 (0, 0))
  fin : OwnB wr base vf bs
  rows : RowsIn wr base vn k L rb rc (fun r c => (D r c : Int))
  only : Only (fun j => j = g) w0 wr
  lt : g < w0.heap.size
  gd1 : w0.heap.size ≤ gd
  gd2 : gd < base
  hb : base ≤ wr.heap.size
  rng : ∀ r c, r < k → c < L → D r c < n
section
variable {w0 wr wr' : World} {g gd base L n s k : Nat} {xs : List Int} {vf vn : Value} {bs : List Bool} {rb rc : Nat → Nat} {D : Nat → Nat → Nat}
theorem DfSt.frozen (h : DfSt w0 wr g gd base xs L n s k vf vn bs rb rc D) (i : Nat) : wr.frozen? ⟨gd, i, none⟩ = false := by simp [World.frozen?, h.blk]
/-- A number is dealt. -/
theorem DfSt.deal (h : DfSt w0 wr g gd base xs L n s k vf vn bs rb rc D) {at_ : Nat} (ht : TapeIn wr' g xs at_) (ho : Only (fun j => j = g) wr wr') : DfSt w0 wr' g gd base xs L n s k vf vn bs rb rc D := by
  have h1 := h.lt
  have h2 := h.gd1
  have h3 := h.gd2
  have h4 := h.hb
  exact ⟨⟨at_, ht⟩, (ho.block gd (by omega) (by omega)).trans h.blk, h.fin.for_ ho (fun j _ hj => .inl (by omega)), h.rows.for_ ho (fun j _ hj => ⟨.inl (by omega), .inl (by omega)⟩), h.only.trans ho, h1, h2, h3, Nat.le_trans h4 ho.size, h.rng⟩
theorem DfSt.drew (h : DfSt w0 wr g gd base xs L n s k vf vn bs rb rc D) : DfSt w0 wr.drew g gd base xs L n s k vf vn bs rb rc D := by
  obtain ⟨a, ht⟩ := h.tape
  exact h.deal (wr' := wr.drew) ⟨ht.blk, ht.le, ht.len⟩ ((Only.refl _ _).drew)
/-- A truth value is appended. -/
theorem DfSt.final {w2 : World} {b : Bool} {r c : Nat} (h : DfSt w0 wr g gd base xs L n s k vf vn bs rb rc D) (hap : App base 4 (wr.alloc (.cells #[.bool b] 4)) w2 vf (.slice (some ⟨r, 0, none⟩) (lnx bs + 1) c) (lnx bs) 1 (bs.map Value.bool) [.bool b]) :
    DfSt w0 (w2.setCell ⟨gd, 2, none⟩ (.slice (some ⟨r, 0, none⟩) (lnx bs + 1) c)) g gd base xs L n s k (.slice (some ⟨r, 0, none⟩) (lnx bs + 1) c) vn (bs ++ [b]) rb rc D ∧ w2.cell? ⟨gd, 2, none⟩ = some vf ∧ w2.frozen? ⟨gd, 2, none⟩ = false := by
  have h1 := h.lt
  have h2 := h.gd1
  have h3 := h.gd2
  have h4 := h.hb
  have o1 : Only (fun j => vf.ownBlock = some j) wr w2 := Only.grown ((Only.refl _ wr).alloc _) hap.grown (fun j _ e => e)
  have hlt : ∀ j, vf.ownBlock = some j → base ≤ j ∧ j < wr.heap.size := fun j hj => h.fin.lt j hj
  have hT : ∀ (E : TypeId) j, 4 ≠ E → vf.ownBlock = some j → ForT wr base j E := fun E j hE hj => own_forT h.fin hj base hE
  have f1 : w2.heap[gd]? = some (.cells #[.int .i64 L, .int .i64 s, vf, vn] 87 (0, 0)) := (o1.block gd (by omega) (fun e => by have := (hlt gd e).1; omega)).trans h.blk
  have o2 : Only (fun j => j = gd) w2 (w2.setCell ⟨gd, 2, none⟩ (.slice (some ⟨r, 0, none⟩) (lnx bs + 1) c)) := Only.setCell (S := fun j => j = gd) (Only.refl _ _) (p := ⟨gd, 2, none⟩) (fun _ => rfl) _
  obtain ⟨a, ht⟩ := h.tape
  have hs2 := o1.size
  refine ⟨⟨⟨a, (ht.only o1 (fun j hj e => by have := (hlt j e).1; omega)).only o2 (fun j hj e => by omega)⟩, ?_, ?_, ?_, ?_, h1, h2, h3, by simp [World.setCell]; omega, h.rng⟩, by simp [World.cell?, f1], by simp [World.frozen?, f1]⟩
  · simp [World.setCell, Array.getElem?_modify, f1]
  · exact OwnB.for_ (OwnB.push hap.own) o2 (fun j _ hj => .inl (by omega))
  · exact (h.rows.for_ o1 (fun j _ hj => ⟨hT _ j (by decide) hj, hT _ j (by decide) hj⟩)).for_ o2 (fun j _ hj => ⟨.inl (by omega), .inl (by omega)⟩)
  · refine ⟨o2.os.trans (o1.os.trans h.only.os), o2.tape.trans (o1.tape.trans h.only.tape), o2.output.trans (o1.output.trans h.only.output), Nat.le_trans h.only.size (Nat.le_trans o1.size o2.size), fun j hj hn => ?_⟩
    have hj2 := h.only.size
    rw [o2.block j (by omega) (by omega), o1.block j (by omega) (fun e => by have := (hlt j e).1; omega)]
    exact h.only.block j hj hn
/-- A row is appended. -/
theorem DfSt.row {w2 : World} {gr c r2 c2 : Nat} {f : Nat → Nat} {vs : List Value} (h : DfSt w0 wr g gd base xs L n s k vf vn bs rb rc D) (hown : wr.ownsRow base 31 1 vn k vs) (hvs : ∀ r, r < k → vs[r]? = some (.slice (some ⟨rb r, 0, none⟩) L (rc r)))
    (hr : RowAt wr gr L (fun j => (f j : Int))) (hgr : base ≤ gr) (hc1 : L ≤ c) (hc2 : c ≤ 9223372036854775807) (hne : ∀ r, r < k → rb r ≠ gr) (hf : ∀ j, j < L → f j < n)
    (hap : App base 31 (wr.alloc (.cells #[.slice (some ⟨gr, 0, none⟩) L c] 31)) w2 vn (.slice (some ⟨r2, 0, none⟩) (k + 1) c2) k 1 vs [.slice (some ⟨gr, 0, none⟩) L c]) :
    DfSt w0 (w2.setCell ⟨gd, 3, none⟩ (.slice (some ⟨r2, 0, none⟩) (k + 1) c2)) g gd base xs L n s (k + 1) vf (.slice (some ⟨r2, 0, none⟩) (k + 1) c2) bs (fun r => if r = k then gr else rb r) (fun r => if r = k then c else rc r) (fun r => if r = k then f else D r) ∧ w2.cell? ⟨gd, 3, none⟩ = some vn ∧ w2.frozen? ⟨gd, 3, none⟩ = false := by
  have h1 := h.lt
  have h2 := h.gd1
  have h3 := h.gd2
  have h4 := h.hb
  have o1 : Only (fun j => vn.ownBlock = some j) wr w2 := Only.grown ((Only.refl _ wr).alloc _) hap.grown (fun j _ e => e)
  have hlt : ∀ j, vn.ownBlock = some j → base ≤ j ∧ j < wr.heap.size := fun j hj => hown.lt j hj
  have f1 : w2.heap[gd]? = some (.cells #[.int .i64 L, .int .i64 s, vf, vn] 87 (0, 0)) := (o1.block gd (by omega) (fun e => by have := (hlt gd e).1; omega)).trans h.blk
  have o2 : Only (fun j => j = gd) w2 (w2.setCell ⟨gd, 3, none⟩ (.slice (some ⟨r2, 0, none⟩) (k + 1) c2)) := Only.setCell (S := fun j => j = gd) (Only.refl _ _) (p := ⟨gd, 3, none⟩) (fun _ => rfl) _
  obtain ⟨a, ht⟩ := h.tape
  have hs2 := o1.size
  have hal : Below wr.heap.size wr (wr.alloc (.cells #[.slice (some ⟨gr, 0, none⟩) L c] 31)) := (Below.refl _ _).alloc (Nat.le_refl _) _
  have hrows := RowsIn.push (h.rows.call hal) (own_for hown (Only.of_below hal) (fun j hj hS => by omega)) hvs (hr.same (Below.heap_alloc wr _ _ hr.lt)) hgr hc1 hc2 hne hap
  refine ⟨⟨⟨a, (ht.only o1 (fun j hj e => by have := (hlt j e).1; omega)).only o2 (fun j hj e => by omega)⟩, ?_, ?_, ?_, ?_, h1, h2, h3, by simp [World.setCell]; omega, fun r j hr2 hj => ?_⟩, by simp [World.cell?, f1], by simp [World.frozen?, f1]⟩
  · simp [World.setCell, Array.getElem?_modify, f1]
  · exact OwnB.for_ (OwnB.for_ h.fin o1 (fun j _ hj => own_forT hown hj base (by decide))) o2 (fun j _ hj => .inl (by omega))
  · refine (hrows.for_ o2 (fun j _ hj => ⟨.inl (by omega), .inl (by omega)⟩)).congr (fun a b _ _ => ?_)
    by_cases e : a = k <;> simp [e]
  · refine ⟨o2.os.trans (o1.os.trans h.only.os), o2.tape.trans (o1.tape.trans h.only.tape), o2.output.trans (o1.output.trans h.only.output), Nat.le_trans h.only.size (Nat.le_trans o1.size o2.size), fun j hj hn => ?_⟩
    have hj2 := h.only.size
    rw [o2.block j (by omega) (by omega), o1.block j (by omega) (fun e => by have := (hlt j e).1; omega)]
    exact h.only.block j hj hn
  · by_cases e : r = k
    · simp only [if_pos e]
      exact hf j hj
    · simp only [if_neg e]
      exact h.rng r j (by omega) hj
end

theorem own_base {w : World} {base b : Nat} {e : TypeId} {v : Value} {n : Nat} {xs : List Value} (h : w.ownsRow base e 1 v n xs) (hb : b ≤ base) : w.ownsRow b e 1 v n xs := by
  refine ⟨h.1, ?_⟩
  rcases h.2 with h2 | ⟨g, cap, cur, rfl, h1, rest⟩
  · exact .inl h2
  · exact .inr ⟨g, cap, cur, rfl, by omega, rest⟩
theorem RowsIn.base {w : World} {base b k m : Nat} {v : Value} {rb rc : Nat → Nat} {G : Nat → Nat → Int} (h : RowsIn w base v k m rb rc G) (hb : b ≤ base) : RowsIn w b v k m rb rc G := by
  obtain ⟨vs, h1, h2⟩ := h.own
  exact ⟨⟨vs, own_base h1 hb, h2⟩, fun r hr => ⟨(h.row r hr).1, by have := (h.row r hr).2.1; omega, (h.row r hr).2.2⟩, h.inj⟩
section
variable {w0 wr : World} {g gd base L n s k : Nat} {xs : List Int} {vf vn : Value} {bs : List Bool} {rb rc : Nat → Nat} {D : Nat → Nat → Nat}
theorem DfSt.cells (h : DfSt w0 wr g gd base xs L n s k vf vn bs rb rc D) : wr.cell? ⟨gd, 0, none⟩ = some (.int .i64 L) ∧ wr.cell? ⟨gd, 1, none⟩ = some (.int .i64 s) ∧ wr.cell? ⟨gd, 2, none⟩ = some vf ∧ wr.cell? ⟨gd, 3, none⟩ = some vn := by simp [World.cell?, h.blk]
theorem DfSt.first (w : World) (g L n : Nat) (xs : List Int) (at_ : Nat) (ht : TapeIn w g xs at_) (c : Array Value) :
    DfSt (w.alloc (.cells c 87)) ((w.alloc (.cells c 87)).alloc (.cells #[.int .i64 L, .int .i64 0, .slice none 0 0, .slice none 0 0] 87)) g (w.heap.size + 1) (w.heap.size + 2) xs L n 0 0 (.slice none 0 0) (.slice none 0 0) [] (fun _ => 0) (fun _ => 0) (fun _ _ => 0) := by
  have hb1 : Below w.heap.size w (w.alloc (.cells c 87)) := (Below.refl _ _).alloc (Nat.le_refl _) _
  have hb2 : Below w.heap.size w ((w.alloc (.cells c 87)).alloc (.cells #[.int .i64 L, .int .i64 0, .slice none 0 0, .slice none 0 0] 87)) := hb1.alloc (by simp) _
  have hlt := ht.lt
  refine ⟨⟨at_, ht.call hb2⟩, ?_, OwnB.nil _ _, RowsIn.nil _ _ _ _ _ _, (Only.refl _ _).alloc _, by simp; omega, by simp, by omega, by simp, fun r c hr => by omega⟩
  have := heap_alloc_new (w.alloc (.cells c 87)) (.cells #[.int .i64 L, .int .i64 0, .slice none 0 0, .slice none 0 0] 87)
  simpa using this
end

end Go.Proofs.Ytgghmjnbkbiffaa
