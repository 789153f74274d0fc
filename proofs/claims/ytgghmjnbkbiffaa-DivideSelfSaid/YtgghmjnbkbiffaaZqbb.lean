/-
  Walks: divide.newDivision, division.put. My own library: slices of pairs of numbers that grow.
  Divisions in plain Lean: the pairs that pairs of generators make.
  Walk: division.add.
  What divide.Map answers, in plain Lean.
  Walks: divide.validate, divide.Map.
  Walk: semigroupref23.Pairs.
  Walks: semigroupref23.MayGens, may, Map.
-/
import Derived.Test.YtgghmjnbkbiffaaZqay
import Derived.Test.YtgghmjnbkbiffaaZqba
import Derived.StillTailTactics
import Derived.Test.YtgghmjnbkbiffaaZqaw
namespace Go.Proofs.Ytgghmjnbkbiffaa
open Go.RowKit
set_option linter.unusedVariables false

/-- The cells of a list of pairs. -/
def flat2 (l : List (Nat × Nat)) : List Value := l.flatMap fun p => [Value.int .i64 (p.1 : Int), Value.int .i64 (p.2 : Int)]
theorem flat2_app (l : List (Nat × Nat)) (p : Nat × Nat) : flat2 (l ++ [p]) = flat2 l ++ [Value.int .i64 (p.1 : Int), Value.int .i64 (p.2 : Int)] := by simp [flat2]
theorem flat2_get (l : List (Nat × Nat)) {i : Nat} (h : i < lnx l) : (flat2 l)[2 * i]? = some (.int .i64 ((nthx l i).1 : Int)) ∧ (flat2 l)[2 * i + 1]? = some (.int .i64 ((nthx l i).2 : Int)) := by
  induction l generalizing i with
  | nil => simp [lnx] at h
  | cons a l ih =>
    cases i with
    | zero => simp [flat2, nthx]
    | succ i =>
      have := ih (i := i) (by simp only [lnx, List.length_cons] at h ⊢; omega)
      have e : nthx (a :: l) (i + 1) = nthx l i := by simp [nthx]
      rw [e]
      have e2 : flat2 (a :: l) = [Value.int .i64 (a.1 : Int), Value.int .i64 (a.2 : Int)] ++ flat2 l := rfl
      rw [e2, List.getElem?_append_right (by simp; omega), List.getElem?_append_right (by simp; omega)]
      simp only [List.length_cons, List.length_nil]
      rw [show 2 * (i + 1) - (0 + 1 + 1) = 2 * i by omega, show 2 * (i + 1) + 1 - (0 + 1 + 1) = 2 * i + 1 by omega]
      exact this

/-- A division in memory. -/
structure DvIn (w : World) (base m gd go : Nat) (vt vu : Value) (F : Nat → Int) (vp : Value) (pairs : List Nat) (vs : Value) (steps : List (Nat × Nat)) : Prop where
  blk : w.heap[gd]? = some (.cells #[vt, vu, .slice (some ⟨go, 0, none⟩) m m, vp, vs] 94 (0, 0))
  of : RowAt w go m F
  op : OwnN w base vp pairs
  os : w.ownsRow base 97 2 vs (lnx steps) (flat2 steps)
  b1 : gd < base
  b2 : go < base
  n1 : gd ≠ go
  hb : base ≤ w.heap.size
section
variable {w w' : World} {base m gd go : Nat} {vt vu vp vs : Value} {F : Nat → Int} {pairs : List Nat} {steps : List (Nat × Nat)}
theorem DvIn.cell (h : DvIn w base m gd go vt vu F vp pairs vs steps) : w.cell? ⟨gd, 0, none⟩ = some vt ∧ w.cell? ⟨gd, 1, none⟩ = some vu ∧ w.cell? ⟨gd, 2, none⟩ = some (.slice (some ⟨go, 0, none⟩) m m) ∧ w.cell? ⟨gd, 3, none⟩ = some vp ∧ w.cell? ⟨gd, 4, none⟩ = some vs := by simp [World.cell?, h.blk]
theorem DvIn.frozen (h : DvIn w base m gd go vt vu F vp pairs vs steps) (i : Nat) : w.frozen? ⟨gd, i, none⟩ = false := by simp [World.frozen?, h.blk]
theorem DvIn.drew (h : DvIn w base m gd go vt vu F vp pairs vs steps) : DvIn w.drew base m gd go vt vu F vp pairs vs steps := ⟨h.blk, h.of, h.op, h.os, h.b1, h.b2, h.n1, h.hb⟩
theorem own_only2 {S : Nat → Prop} {w w' : World} {base : Nat} {e : TypeId} {z : Nat} {v : Value} {n : Nat} {xs : List Value} (h : w.ownsRow base e z v n xs) (ho : Only S w w') (hn : ∀ k, v.ownBlock = some k → ¬ S k) : w'.ownsRow base e z v n xs := by
  refine ⟨h.1, ?_⟩
  rcases h.2 with h2 | ⟨g, cap, cur, rfl, hb, hg, rest⟩
  · exact .inl h2
  · exact .inr ⟨g, cap, cur, rfl, hb, (ho.block g (lt_of_block hg) (hn g rfl)).trans hg, rest⟩
theorem own_type {w : World} {base : Nat} {e : TypeId} {z : Nat} {v : Value} {n : Nat} {xs : List Value} (h : w.ownsRow base e z v n xs) {k : Nat} (hk : v.ownBlock = some k) : ∃ cs, w.heap[k]? = some (.cells cs e (0, 0)) := by
  rcases h.2 with ⟨rfl, _⟩ | ⟨g, cap, cur, rfl, _, hg, _⟩
  · simp [Value.ownBlock] at hk
  · obtain rfl : g = k := by simpa [Value.ownBlock] using hk
    exact ⟨cur, hg⟩
theorem types_ne {w : World} {k : Nat} {cs cs' : Array Value} {e e' : TypeId} (h : w.heap[k]? = some (.cells cs e (0, 0))) (h' : w.heap[k]? = some (.cells cs' e' (0, 0))) : e = e' := by
  rw [h] at h'
  injection h' with h'
  injection h' with _ h'
/-- The blocks of the pairs and of the steps are not one. -/
theorem DvIn.ne (h : DvIn w base m gd go vt vu F vp pairs vs steps) {k : Nat} (h1 : vp.ownBlock = some k) : vs.ownBlock ≠ some k := fun h2 => by
  obtain ⟨c1, e1⟩ := own_type h.op h1
  obtain ⟨c2, e2⟩ := own_type h.os h2
  exact absurd (types_ne e1 e2) (by decide)
end

/-- pairs with y, if it is not there. -/
def addP (F : Nat → Int) (pairs : List Nat) (y : Nat) : List Nat := if F y < 0 then pairs ++ [y] else pairs
def updP (F : Nat → Int) (y : Nat) (x : Int) : Nat → Int := if F y < 0 then upd F y x else F

def PutPost (w : World) (B base m gd go : Nat) (vt vu : Value) (F : Nat → Int) (pairs : List Nat) (vs : Value) (steps : List (Nat × Nat)) (x y : Nat) (e : Ending) (w' : World) : Prop :=
  e = .returned (.bool (updP F y x y == (x : Int))) ∧ ∃ vp', DvIn w' base m gd go vt vu (updP F y x) vp' (addP F pairs y) vs steps ∧ Below B w w'

set_option maxHeartbeats 1000000 in
theorem put_old (w : World) (B base m gd go : Nat) (vt vu vp vs : Value) (F : Nat → Int) (pairs : List Nat) (steps : List (Nat × Nat)) (h : DvIn w base m gd go vt vu F vp pairs vs steps) (x y : Nat) (hy : y < m) (hm : m ≤ 400) (hF : ¬ F y < 0) :
    Calls Try.prog 104 #[.pointer (some ⟨gd, 0, none⟩), .int .i64 x, .int .i64 y] w (PutPost w B base m gd go vt vu F pairs vs steps x y) := by
  have c1 := h.cell.2.2.1
  have c2 := h.of.cell hy
  have HP : Hid (PutPost w B base m gd go vt vu F pairs vs steps x y (.returned (.bool (F y == (x : Int)))) w) := by
    have e1 : updP F y x = F := by unfold updP; rw [if_neg hF]
    have e2 : addP F pairs y = pairs := by unfold addP; rw [if_neg hF]
    exact ⟨by rw [e1], vp, by rw [e1, e2]; exact h, Below.refl _ _⟩
  clear h
  go_enter Try.func104, Try.ntmps104
  go_wp2
  go_ret
  exact HP.out

set_option maxRecDepth 100000 in
set_option maxHeartbeats 1000000 in
theorem put_new (w : World) (B base m gd go : Nat) (vt vu vp vs : Value) (F : Nat → Int) (pairs : List Nat) (steps : List (Nat × Nat)) (h : DvIn w base m gd go vt vu F vp pairs vs steps) (x y : Nat) (hy : y < m) (hm : m ≤ 400) (hF : F y < 0) (hlen : lnx pairs < 400) (hB1 : B ≤ gd) (hB2 : B ≤ go) :
    Calls Try.prog 104 #[.pointer (some ⟨gd, 0, none⟩), .int .i64 x, .int .i64 y] w (PutPost w B base m gd go vt vu F pairs vs steps x y) := by
  have c0 := h.cell.2.2.1
  have c3 := h.cell.2.2.2.1
  have c2 := h.of.cell hy
  have f2 := h.of.frozen y
  have n1 := h.n1
  have b1 := h.b1
  have b2 := h.b2
  have hb := h.hb
  obtain ⟨W, hW⟩ : ∃ W, W = w.setCell ⟨go, y, none⟩ (.int .i64 x) := ⟨_, rfl⟩
  have o0 : Only (fun j => j = go) w W := by rw [hW]; exact Only.setCell (S := fun j => j = go) (Only.refl _ _) (p := ⟨go, y, none⟩) (fun _ => rfl) _
  have d1 : W.heap[gd]? = some (.cells #[vt, vu, .slice (some ⟨go, 0, none⟩) m m, vp, vs] 94 (0, 0)) := by rw [hW]; exact (Below.heap_setCell w _ _ gd n1).trans h.blk
  have d2 : RowAt W go m (upd F y x) := by rw [hW]; exact h.of.set_ y x
  have d3 : OwnN W base vp pairs := h.op.only o0 (fun k hk e => by have := (h.op.lt hk).1; omega)
  have d4 : W.ownsRow base 97 2 vs (lnx steps) (flat2 steps) := own_only2 h.os o0 (fun k hk e => by have := (h.os.lt k hk).1; omega)
  have d5 : Below B w W := by rw [hW]; exact (Below.refl _ _).setCell (p := ⟨go, y, none⟩) hB2 _
  have hsz : W.heap.size = w.heap.size := by rw [hW]; simp [World.setCell]
  have hbW : base ≤ W.heap.size := by omega
  have NE : Hid (∀ k, vp.ownBlock = some k → vs.ownBlock ≠ some k) := fun k hk => h.ne hk
  clear hsz h o0
  have hW' := hW.symm
  have c5 : W.cell? ⟨gd, 3, none⟩ = some vp := by simp [World.cell?, d1]
  clear hW
  have e2 := World.cell?_alloc_new W #[.int .i64 (y : Int)] 3 0
  have e4 := d3.alloc (.cells #[.int .i64 y] 3)
  have D1 := Lib.hid d1
  have D2 := Lib.hid d2
  have D3 := Lib.hid d3
  have D4 := Lib.hid d4
  have D5 := Lib.hid d5
  clear d1 d2 d3 d4 d5
  go_enter Try.func104, Try.ntmps104
  go_wp2_with (at_builtin; refine wpList_push _ rfl _ _ 31 rfl base 3 (.int .i64 0) 8 Try.underlying31 Try.infoInt rfl vp (lnx pairs) _ rfl W.heap.size (.int .i64 y) rfl e4 e2 rfl ?_ ?_ ?_ ?_)
  · simp only [maxLen]; omega
  · omega
  · simp; omega
  intro r cap' w2 hap
  have hgrow := hap.grown
  have hlt : ∀ k, vp.ownBlock = some k → base ≤ k ∧ k < W.heap.size := fun k hk => D3.out.lt hk
  have hsz2 := hgrow.size
  simp only [World.size_alloc] at hsz2
  have o1 : Only (fun k => vp.ownBlock = some k) W w2 := Only.grown ((Only.refl _ W).alloc _) hgrow (fun k _ e => e)
  have f1 : w2.heap[gd]? = some (.cells #[vt, vu, .slice (some ⟨go, 0, none⟩) m m, vp, vs] 94 (0, 0)) := (o1.block gd (by omega) (fun e => by have := (hlt gd e).1; omega)).trans D1.out
  have c6 : w2.cell? ⟨gd, 3, none⟩ = some vp := by simp [World.cell?, f1]
  have c7 : w2.frozen? ⟨gd, 3, none⟩ = false := by simp [World.frozen?, f1]
  have c8 : w2.cell? ⟨gd, 2, none⟩ = some (.slice (some ⟨go, 0, none⟩) m m) := by simp [World.cell?, f1]
  have g2 : RowAt w2 go m (upd F y x) := D2.out.only o1 (fun e => by have := (hlt go e).1; omega)
  have c9 := g2.cell hy
  rw [upd_same] at c9
  have P1 : PutPost w B base m gd go vt vu F pairs vs steps x y (.returned (.bool true)) (w2.setCell ⟨gd, 3, none⟩ (.slice (some ⟨r, 0, none⟩) (lnx pairs + 1) cap')) := by
    have e1 : updP F y x = upd F y x := by unfold updP; rw [if_pos hF]
    have e2 : addP F pairs y = pairs ++ [y] := by unfold addP; rw [if_pos hF]
    have o2 : Only (fun j => j = gd) w2 (w2.setCell ⟨gd, 3, none⟩ (.slice (some ⟨r, 0, none⟩) (lnx pairs + 1) cap')) := Only.setCell (S := fun j => j = gd) (Only.refl _ _) (p := ⟨gd, 3, none⟩) (fun _ => rfl) _
    have hbel : Below B w w2 := D5.out.trans (o1.below (fun k hk e => by have := (hlt k e).1; omega) (by omega))
    refine ⟨by rw [e1, upd_same]; simp, .slice (some ⟨r, 0, none⟩) (lnx pairs + 1) cap', ?_, hbel.setCell (p := ⟨gd, 3, none⟩) hB1 _⟩
    rw [e1, e2]
    refine ⟨by simp [World.setCell, Array.getElem?_modify, f1], g2.far (p := ⟨gd, 3, none⟩) (Ne.symm n1) _, ?_, ?_, b1, b2, n1, by simp [World.setCell]; omega⟩
    · exact (OwnN.push hap.own : OwnN w2 base _ _).only o2 (fun k hk e => by
        have := World.ownsRow.lt hap.own k hk
        omega)
    · refine own_only2 (own_only2 D4.out o1 (fun k hk e => NE.out k e hk)) o2 (fun k hk e => ?_)
      have := (D4.out.lt k hk).1
      omega
  have HP := Lib.hid P1
  clear P1 hap hgrow hlt f1 e4 g2 o1
  go_wp2
  go_ret
  simpa using HP.out

theorem put_any (w : World) (B base m gd go : Nat) (vt vu vp vs : Value) (F : Nat → Int) (pairs : List Nat) (steps : List (Nat × Nat)) (h : DvIn w base m gd go vt vu F vp pairs vs steps) (x y : Nat) (hy : y < m) (hm : m ≤ 400) (hlen : F y < 0 → lnx pairs < 400) (hB1 : B ≤ gd) (hB2 : B ≤ go) :
    Calls Try.prog 104 #[.pointer (some ⟨gd, 0, none⟩), .int .i64 x, .int .i64 y] w (PutPost w B base m gd go vt vu F pairs vs steps x y) := by
  by_cases hF : F y < 0
  · exact put_new w B base m gd go vt vu vp vs F pairs steps h x y hy hm hF (hlen hF) hB1 hB2
  · exact put_old w B base m gd go vt vu vp vs F pairs steps h x y hy hm hF

set_option maxRecDepth 100000 in
set_option maxHeartbeats 1000000 in
theorem newDivision_any (w : World) (vt vu : Value) (n m : Nat) (T U : Nat → Nat → Nat) (ht : Tab w vt n T) (hu : Tab w vu m U) :
    Calls Try.prog 75 #[vt, vu] w fun e w' => e = .returned (.pointer (some ⟨w.heap.size + 1, 0, none⟩)) ∧ DvIn w' (w.heap.size + 2) m (w.heap.size + 1) w.heap.size vt vu (fun _ => -1) (.slice none 0 0) [] (.slice none 0 0) [] ∧ Below w.heap.size w w' := by
  obtain ⟨b, o, cap, rb, ro, rc, rfl, -⟩ := ht
  obtain ⟨ub, uo, ucap, urb, uro, urc, rfl, uh0, uh4, -⟩ := hu
  have hmk := fun W => run_mk (P := Try.prog) Try.underlying31 Try.infoInt rfl m (by omega) (by omega) W
  have P0 : DvIn ((w.alloc (.cells (zeros (.int .i64 0) m) 3)).alloc (.cells #[.slice (some ⟨b, o, none⟩) n cap, .slice (some ⟨ub, uo, none⟩) m ucap, .slice (some ⟨w.heap.size, 0, none⟩) m m, .slice none 0 0, .slice none 0 0] 94)) (w.heap.size + 2) m (w.heap.size + 1) w.heap.size (.slice (some ⟨b, o, none⟩) n cap) (.slice (some ⟨ub, uo, none⟩) m ucap) (fun _ => 0) (.slice none 0 0) [] (.slice none 0 0) [] := by
    refine ⟨?_, RowAt.of_arr ((Arr.zeros _ w _ _).alloc _), OwnN.nil _ _, World.ownsRow_nil _ _ _ _, by omega, by omega, by omega, by simp⟩
    have := heap_alloc_new (w.alloc (.cells (zeros (.int .i64 0) m) 3)) (.cells #[.slice (some ⟨b, o, none⟩) n cap, .slice (some ⟨ub, uo, none⟩) m ucap, .slice (some ⟨w.heap.size, 0, none⟩) m m, .slice none 0 0, .slice none 0 0] 94)
    simpa using this
  have PB : Hid (Below w.heap.size w ((w.alloc (.cells (zeros (.int .i64 0) m) 3)).alloc (.cells #[.slice (some ⟨b, o, none⟩) n cap, .slice (some ⟨ub, uo, none⟩) m ucap, .slice (some ⟨w.heap.size, 0, none⟩) m m, .slice none 0 0, .slice none 0 0] 94))) := ((Below.refl _ _).alloc (Nat.le_refl _) _).alloc (by simp) _
  have P1 := Lib.hid P0
  have c2 := P0.cell.2.2.1
  clear P0
  go_enter Try.func75, Try.ntmps75
  go_wp2
  clear hmk c2
  go_loopw [19] (fun i wr => ∃ k : Nat, k ≤ m ∧ i = .int .i64 k ∧ DvIn wr (w.heap.size + 2) m (w.heap.size + 1) w.heap.size (.slice (some ⟨b, o, none⟩) n cap) (.slice (some ⟨ub, uo, none⟩) m ucap) (fillF k) (.slice none 0 0) [] (.slice none 0 0) [] ∧ Below w.heap.size w wr) (fun i _ => m - (intOf i).toNat)
  case atStart =>
    have q1 := P1.out
    have q2 := PB.out
    exact ⟨0, by omega, rfl, ⟨q1.blk, q1.of.congr (fun i hi => by simp [fillF]), q1.op, q1.os, q1.b1, q1.b2, q1.n1, q1.hb⟩, q2⟩
  case round =>
    clear P1 PB
    obtain ⟨k, hk, rfl, hst, hb⟩ := hrel
    by_cases hlt : k < m
    · have c2 := hst.cell.2.2.1
      have c3 := hst.of.cell hlt
      have f3 := hst.of.frozen k
      have P2 : Hid (DvIn (wr.setCell ⟨w.heap.size, k, none⟩ (.int .i64 (-1))) (w.heap.size + 2) m (w.heap.size + 1) w.heap.size (.slice (some ⟨b, o, none⟩) n cap) (.slice (some ⟨ub, uo, none⟩) m ucap) (fillF (k + 1)) (.slice none 0 0) [] (.slice none 0 0) [] ∧ Below w.heap.size w (wr.setCell ⟨w.heap.size, k, none⟩ (.int .i64 (-1)))) := by
        have q := hst.of.set_ k (-1)
        rw [fillF_step] at q
        exact ⟨⟨(Below.heap_setCell wr _ _ (w.heap.size + 1) (by simp)).trans hst.blk, q, OwnN.nil _ _, World.ownsRow_nil _ _ _ _, by omega, by omega, by omega, by simp [World.setCell]; exact hst.hb⟩, hb.setCell (p := ⟨w.heap.size, k, none⟩) (Nat.le_refl _) _⟩
      clear hst hb
      go_wp2
      go_roundw
      case rel => exact ⟨k + 1, by omega, by go_num, P2.out⟩
      case measure => simp [intOf]; omega
    · have P2 : Hid (DvIn wr (w.heap.size + 2) m (w.heap.size + 1) w.heap.size (.slice (some ⟨b, o, none⟩) n cap) (.slice (some ⟨ub, uo, none⟩) m ucap) (fun _ => -1) (.slice none 0 0) [] (.slice none 0 0) [] ∧ Below w.heap.size w wr) :=
        ⟨⟨hst.blk, hst.of.congr (fun i hi => by unfold fillF; rw [if_pos (by omega)]), hst.op, hst.os, hst.b1, hst.b2, hst.n1, hst.hb⟩, hb⟩
      clear hst hb
      go_wp2
      go_ret
      exact ⟨rfl, P2.out⟩
end Go.Proofs.Ytgghmjnbkbiffaa

namespace Go.Proofs.Ytgghmjnbkbiffaa
open Go.RowKit
set_option linter.unusedVariables false

/-- y of u occurs with x of t: products of the pairs of S. -/
inductive DvR (T U : Nat → Nat → Nat) (S : List (Nat × Nat)) : Nat → Nat → Prop
  | base {p : Nat × Nat} : p ∈ S → DvR T U S p.2 p.1
  | step {y x : Nat} {p : Nat × Nat} : DvR T U S y x → p ∈ S → DvR T U S (U y p.2) (T x p.1)
/-- No element of u occurs with two elements. -/
def DvFun (T U : Nat → Nat → Nat) (S : List (Nat × Nat)) : Prop := ∀ y x x', DvR T U S y x → DvR T U S y x' → x = x'

section
variable {T U : Nat → Nat → Nat} {n m : Nat} {S S' : List (Nat × Nat)} {F : Nat → Int} {pairs : List Nat}
theorem DvR.mono (h : ∀ p, p ∈ S → p ∈ S') {y x : Nat} (hr : DvR T U S y x) : DvR T U S' y x := by
  induction hr with
  | base hp => exact .base (h _ hp)
  | step _ hp ih => exact .step ih (h _ hp)
theorem DvR.rng (hS : ∀ p, p ∈ S → p.1 < n ∧ p.2 < m) (hT : ∀ r c, r < n → c < n → T r c < n) (hU : ∀ r c, r < m → c < m → U r c < m) {y x : Nat} (hr : DvR T U S y x) : y < m ∧ x < n := by
  induction hr with
  | base hp => exact ⟨(hS _ hp).2, (hS _ hp).1⟩
  | step _ hp ih => exact ⟨hU _ _ ih.1 (hS _ hp).2, hT _ _ ih.2 (hS _ hp).1⟩
theorem DvR.mul (hS : ∀ p, p ∈ S → p.1 < n ∧ p.2 < m) (hT : ∀ r c, r < n → c < n → T r c < n) (hU : ∀ r c, r < m → c < m → U r c < m) (aT : Assoc n T) (aU : Assoc m U) {y x b a : Nat} (hy : DvR T U S y x) (hb : DvR T U S b a) : DvR T U S (U y b) (T x a) := by
  have r1 := hy.rng hS hT hU
  induction hb with
  | base hp => exact .step hy hp
  | step hb' hp ih =>
    have r2 := hb'.rng hS hT hU
    have r3 := hS _ hp
    rw [← aU y _ _ r1.1 r2.1 r3.2, ← aT x _ _ r1.2 r2.2 r3.1]
    exact .step ih hp
/-- Further pairs that are products make nothing new. -/
theorem DvR.same (hS : ∀ p, p ∈ S → p.1 < n ∧ p.2 < m) (hT : ∀ r c, r < n → c < n → T r c < n) (hU : ∀ r c, r < m → c < m → U r c < m) (aT : Assoc n T) (aU : Assoc m U) (h : ∀ p, p ∈ S' → DvR T U S p.2 p.1) {y x : Nat} (hr : DvR T U S' y x) : DvR T U S y x := by
  induction hr with
  | base hp => exact h _ hp
  | step _ hp ih => exact ih.mul hS hT hU aT aU (h _ hp)

/-- The numbers of a division in the making. -/
structure DvNum (T U : Nat → Nat → Nat) (n m : Nat) (S : List (Nat × Nat)) (F : Nat → Int) (pairs : List Nat) : Prop where
  rng : ∀ p, p ∈ S → p.1 < n ∧ p.2 < m
  nd : pairs.Nodup
  lt : ∀ y, y ∈ pairs → y < m
  mem : ∀ y, y < m → (0 ≤ F y ↔ y ∈ pairs)
  snd : ∀ y, y < m → 0 ≤ F y → DvR T U S y (F y).toNat
/-- It is closed. -/
structure DvClosed (T U : Nat → Nat → Nat) (S : List (Nat × Nat)) (F : Nat → Int) (pairs : List Nat) : Prop where
  base : ∀ p, p ∈ S → F p.2 = (p.1 : Int)
  step : ∀ y, y ∈ pairs → ∀ p, p ∈ S → F (U y p.2) = (T (F y).toNat p.1 : Int)
theorem DvNum.len (h : DvNum T U n m S F pairs) : lnx pairs ≤ m := nodup_le h.nd h.lt
theorem DvNum.room (h : DvNum T U n m S F pairs) {y : Nat} (hy : y < m) (hF : F y < 0) : lnx pairs < m := by
  have hn : y ∉ pairs := fun hm => by have := (h.mem y hy).2 hm; omega
  have := nodup_le (n := m) (List.nodup_cons.2 ⟨hn, h.nd⟩) (fun z hz => by
    rcases List.mem_cons.1 hz with rfl | hz
    · exact hy
    · exact h.lt z hz)
  simp only [lnx, List.length_cons] at this ⊢
  omega
theorem DvNum.xlt (h : DvNum T U n m S F pairs) (hT : ∀ r c, r < n → c < n → T r c < n) (hU : ∀ r c, r < m → c < m → U r c < m) {y : Nat} (hy : y < m) (hF : 0 ≤ F y) : (F y).toNat < n := ((h.snd y hy hF).rng h.rng hT hU).2
theorem DvClosed.graph (hc : DvClosed T U S F pairs) (hn : DvNum T U n m S F pairs) (hT : ∀ r c, r < n → c < n → T r c < n) (hU : ∀ r c, r < m → c < m → U r c < m) {y x : Nat} (hr : DvR T U S y x) : F y = (x : Int) := by
  induction hr with
  | base hp => exact hc.base _ hp
  | step h1 hp ih =>
    have r := h1.rng hn.rng hT hU
    have hm := (hn.mem _ r.1).1 (by omega)
    rw [hc.step _ hm _ hp, ih]
    rfl
theorem addP_mem {y z : Nat} : z ∈ addP F pairs y ↔ z ∈ pairs ∨ (F y < 0 ∧ z = y) := by
  unfold addP
  by_cases h : F y < 0 <;> simp [h]
theorem addP_pre (F : Nat → Int) (pairs : List Nat) (y : Nat) : ∃ rest, addP F pairs y = pairs ++ rest := by
  unfold addP
  split
  · exact ⟨[y], rfl⟩
  · exact ⟨[], by simp⟩
theorem updP_old {F : Nat → Int} {y z : Nat} {x : Int} (hz : 0 ≤ F z) : updP F y x z = F z := by
  unfold updP
  split
  · rename_i h
    exact upd_other F _ (fun e => by subst e; omega)
  · rfl
/-- A pair is put. -/
theorem DvNum.put (h : DvNum T U n m S F pairs) {x y : Nat} (hy : y < m) (hr : DvR T U S y x) : DvNum T U n m S (updP F y x) (addP F pairs y) := by
  refine ⟨h.rng, ?_, fun z hz => ?_, fun z hz => ?_, fun z hz h0 => ?_⟩
  · unfold addP
    split
    · rename_i hn
      rw [List.nodup_append]
      refine ⟨h.nd, by simp, fun a ha b hb => ?_⟩
      simp at hb
      subst hb
      rintro rfl
      have := (h.mem a hy).2 ha
      omega
    · exact h.nd
  · rcases addP_mem.1 hz with hz | ⟨_, rfl⟩
    · exact h.lt z hz
    · exact hy
  · rw [addP_mem]
    unfold updP
    by_cases hn : F y < 0
    · rw [if_pos hn]
      by_cases e : z = y
      · subst e
        rw [upd_same]
        exact ⟨fun _ => .inr ⟨hn, rfl⟩, fun _ => by omega⟩
      · rw [upd_other F _ e, h.mem z hz]
        simp [e]
    · rw [if_neg hn, h.mem z hz]
      simp [hn]
  · unfold updP at h0 ⊢
    by_cases hn : F y < 0
    · rw [if_pos hn] at h0 ⊢
      by_cases e : z = y
      · subst e
        rw [upd_same]
        simpa using hr
      · rw [upd_other F _ e] at h0 ⊢
        exact h.snd z hz h0
    · rw [if_neg hn] at h0 ⊢
      exact h.snd z hz h0
/-- Another element occurs with y already. -/
theorem DvNum.clash (h : DvNum T U n m S F pairs) {x y : Nat} (hy : y < m) (hr : DvR T U S y x) (hne : ¬ updP F y x y = (x : Int)) : ¬ DvFun T U S := by
  unfold updP at hne
  by_cases hn : F y < 0
  · rw [if_pos hn, upd_same] at hne
    exact absurd rfl hne
  · rw [if_neg hn] at hne
    intro hf
    have := hf y _ _ (h.snd y hy (by omega)) hr
    omega
theorem DvNum.grow (h : DvNum T U n m S F pairs) {g im : Nat} (hg : g < n) (hi : im < m) : DvNum T U n m (S ++ [(g, im)]) F pairs := by
  refine ⟨fun p hp => ?_, h.nd, h.lt, h.mem, fun y hy h0 => (h.snd y hy h0).mono (fun p hp => by simp [hp])⟩
  rcases List.mem_append.1 hp with hp | hp
  · exact h.rng p hp
  · simp at hp
    subst hp
    exact ⟨hg, hi⟩
theorem DvNum.start (T U : Nat → Nat → Nat) (n m : Nat) : DvNum T U n m [] (fun _ => -1) [] := ⟨by simp, List.nodup_nil, by simp, fun y _ => by simp, fun y _ h => by omega⟩
theorem DvClosed.start (T U : Nat → Nat → Nat) : DvClosed T U [] (fun _ => -1) [] := ⟨by simp, by simp⟩
theorem DvFun.mono (h : ∀ p, p ∈ S → p ∈ S') (hf : DvFun T U S') : DvFun T U S := fun y x x' h1 h2 => hf y x x' (h1.mono h) (h2.mono h)
/-- One product, as it stands. -/
def DvAt (T U : Nat → Nat → Nat) (F : Nat → Int) (y : Nat) (p : Nat × Nat) : Prop := 0 ≤ F y ∧ 0 ≤ F (U y p.2) ∧ F (U y p.2) = (T (F y).toNat p.1 : Int)
theorem DvAt.put {y : Nat} {p : Nat × Nat} (h : DvAt T U F y p) (z x : Nat) : DvAt T U (updP F z x) y p := by
  obtain ⟨h1, h2, h3⟩ := h
  unfold DvAt
  rw [updP_old h1, updP_old h2]
  exact ⟨h1, h2, h3⟩
end
end Go.Proofs.Ytgghmjnbkbiffaa

namespace Go.Proofs.Ytgghmjnbkbiffaa
open Go.RowKit
set_option linter.unusedVariables false

theorem Try.infoPair : (Try.prog.info? 97).map (fun i => (i.zero, i.size, i.bytes)) = some (some (.agg #[.int .i64 0, .int .i64 0]), 2, 16) := by kernel_rfl

/-- append of one element of two cells. -/
theorem wpList_push2 {P : Program} (w : World) {ops : Array Oper} {rest : List Oper} {o : Oper} {a : Act} {Q : Exit → Act → World → Prop} (hgd : o.guard = none) (s x : Operand) (t : TypeId)
    (ho : o.op = .call { callee := .builtin .append, args := #[s, x], argTypes := #[t, t] })
    (base : Nat) (e : TypeId) (z : Value) (bytes : Nat) (ht : P.underlying t = some (.slice e)) (hinfo : (P.info? e).map (fun i => (i.zero, i.size, i.bytes)) = some (some z, 2, bytes)) (hzs : z.cells.size = 2)
    (v : Value) (n : Nat) (xs : List Value) (hs : a.eval s = v) (g : Nat) (u1 u2 : Value) (hx : a.eval x = .slice (some ⟨g, 0, none⟩) 1 1)
    (hown : w.ownsRow base e 2 v n xs) (hu1 : w.cell? ⟨g, 0, none⟩ = some u1) (hu2 : w.cell? ⟨g, 1, none⟩ = some u2) (h1 : u1.oneCell' = true) (h2 : u2.oneCell' = true)
    (h63 : n + 1 ≤ maxLen) (hbytes : (n + 1) * bytes ≤ 140737488355328) (hbase : base ≤ w.heap.size)
    (h : ∀ r cap w', w'.ownsRow base e 2 (.slice (some ⟨r, 0, none⟩) (n + 1) cap) (n + 1) (xs ++ [u1, u2]) → w.grownBy w' v.ownBlock → wpList P ops Q rest (a.put o.dst (.slice (some ⟨r, 0, none⟩) (n + 1) cap)) w') :
    wpList P ops Q (o :: rest) a w := by
  refine wpList_plain hgd fun K hK => ?_
  obtain ⟨i, hi, hz, hsz, hby⟩ := info_parts hinfo
  have hnews : ∀ j y, [u1, u2][j]? = some y → w.cell? ((⟨g, 0, none⟩ : Addr).add j) = some y := by
    intro j y hy
    match j with
    | 0 => simp at hy; subst hy; simpa [Addr.add] using hu1
    | 1 => simp at hy; subst hy; simpa [Addr.add] using hu2
    | j + 2 => simp at hy
  obtain ⟨v', w', hrun, r1, r2, -, -⟩ := run_append_own_at (P := P) w base t o.type e i z 2 bytes ht hi hz hsz hby hzs (by omega) v n xs hown ⟨g, 0, none⟩ 1 1 [u1, u2] rfl hnews (by simp [h1, h2]) h63 hbytes hbase
  unfold Oper.wp execOp
  simp only [ho, resolve, invoke, builtin, Sem.run_bind, Sem.run_pure, Result.andThen_ok, List.map_toArray, List.map_cons, List.map_nil, hs, hx, hrun]
  obtain ⟨r, cap, rfl, _, _⟩ := r1.form (by omega)
  exact hK _ _ (h r cap w' r1 r2)

/-- The last of the steps alone. -/
theorem sliceLast (W : World) (g L c : Nat) (h1 : L + 1 ≤ c) (h2 : c ≤ 9223372036854775807) :
    (Instr.slice 92 (.slice (some ⟨g, 0, none⟩) (L + 1) c) (some (.int .i64 L)) none none).run Try.prog W = .ok (.slice (some ⟨g, L * 2, none⟩) 1 (c - L)) W := by
  obtain ⟨i, hi, hz, hsz, hby⟩ := info_parts Try.infoPair
  have h5 : ¬ (((L + 1 : Nat) : Int) < (L : Int)) := by omega
  have h6 : ¬ ((L : Int) < 0) := by omega
  simp [Instr.slice, Instr.sliceBounds, Instr.sliceBound, asIntOf, run_underlying Try.underlying92, sizeOf, typeInfo, hi, hsz, Addr.add_lit]
  intro e
  omega

theorem DvIn.alloc {w : World} {base m gd go : Nat} {vt vu vp vs : Value} {F : Nat → Int} {pairs : List Nat} {S : List (Nat × Nat)} (h : DvIn w base m gd go vt vu F vp pairs vs S) (o : Obj) : DvIn (w.alloc o) base m gd go vt vu F vp pairs vs S := by
  have := h.hb
  exact ⟨(Below.heap_alloc w o gd (lt_of_block h.blk)).trans h.blk, h.of.same (Below.heap_alloc w o go h.of.lt), h.op.alloc o, World.ownsRow.alloc h.os o, h.b1, h.b2, h.n1, by simp; omega⟩
/-- The cells of a step. -/
theorem DvIn.stepCells {w : World} {base m gd go r q c : Nat} {vt vu vp : Value} {F : Nat → Int} {pairs : List Nat} {S : List (Nat × Nat)} (h : DvIn w base m gd go vt vu F vp pairs (.slice (some ⟨r, 0, none⟩) q c) S) {i : Nat} (hi : i < lnx S) :
    w.cell? ⟨r, i * 2, none⟩ = some (.int .i64 ((nthx S i).1 : Int)) ∧ w.cell? ⟨r, i * 2 + 1, none⟩ = some (.int .i64 ((nthx S i).2 : Int)) := by
  obtain ⟨f1, f2⟩ := flat2_get S hi
  have c1 := World.ownsRow.cells h.os (g := r) rfl _ _ f1
  have c2 := World.ownsRow.cells h.os (g := r) rfl _ _ f2
  rw [Addr.add_lit] at c1 c2
  rw [Nat.zero_add, Nat.mul_comm] at c1
  rw [Nat.zero_add, Nat.mul_comm] at c2
  exact ⟨c1, c2⟩

/-- A step is appended. -/
theorem DvIn.addStep {w w2 : World} {base m gd go : Nat} {vt vu vp vs : Value} {F : Nat → Int} {pairs : List Nat} {S : List (Nat × Nat)} {g im r cap' : Nat} (h : DvIn w base m gd go vt vu F vp pairs vs S)
    (hown : w2.ownsRow base 97 2 (.slice (some ⟨r, 0, none⟩) (lnx S + 1) cap') (lnx S + 1) (flat2 S ++ [.int .i64 g, .int .i64 im])) (hgrow : (w.alloc (.cells #[.int .i64 g, .int .i64 im] 97)).grownBy w2 vs.ownBlock) (B : Nat) (hB1 : B ≤ gd) (hB : B ≤ base) :
    DvIn (w2.setCell ⟨gd, 4, none⟩ (.slice (some ⟨r, 0, none⟩) (lnx S + 1) cap')) base m gd go vt vu F vp pairs (.slice (some ⟨r, 0, none⟩) (lnx S + 1) cap') (S ++ [(g, im)]) ∧ w2.cell? ⟨gd, 4, none⟩ = some vs ∧ w2.frozen? ⟨gd, 4, none⟩ = false ∧ Below B w (w2.setCell ⟨gd, 4, none⟩ (.slice (some ⟨r, 0, none⟩) (lnx S + 1) cap')) := by
  have b1 := h.b1
  have b2 := h.b2
  have hb := h.hb
  have o1 : Only (fun k => vs.ownBlock = some k) w w2 := Only.grown ((Only.refl _ w).alloc _) hgrow (fun k _ e => e)
  have hlt : ∀ k, vs.ownBlock = some k → base ≤ k ∧ k < w.heap.size := fun k hk => h.os.lt k hk
  have f1 : w2.heap[gd]? = some (.cells #[vt, vu, .slice (some ⟨go, 0, none⟩) m m, vp, vs] 94 (0, 0)) := (o1.block gd (by omega) (fun e => by have := (hlt gd e).1; omega)).trans h.blk
  have o2 : Only (fun j => j = gd) w2 (w2.setCell ⟨gd, 4, none⟩ (.slice (some ⟨r, 0, none⟩) (lnx S + 1) cap')) := Only.setCell (S := fun j => j = gd) (Only.refl _ _) (p := ⟨gd, 4, none⟩) (fun _ => rfl) _
  have hs := o1.size
  refine ⟨⟨by simp [World.setCell, Array.getElem?_modify, f1], (h.of.only o1 (fun e => by have := (hlt go e).1; omega)).far (p := ⟨gd, 4, none⟩) (Ne.symm h.n1) _, ?_, ?_, b1, b2, h.n1, by simp [World.setCell]; omega⟩, by simp [World.cell?, f1], by simp [World.frozen?, f1], Below.setCell (o1.below (fun k hk e => by have := (hlt k e).1; omega) (by omega)) (p := ⟨gd, 4, none⟩) hB1 _⟩
  · refine (h.op.only o1 (fun k hk e => h.ne hk e)).only o2 (fun k hk e => ?_)
    have := (h.op.lt hk).1
    omega
  · rw [lnx_append, lnx_one, flat2_app]
    refine own_only2 hown o2 (fun k hk e => ?_)
    have := (hown.lt k hk).1
    omega

/-- What add leaves. -/
def AddPost (w : World) (B base n m gd go : Nat) (T U : Nat → Nat → Nat) (vt vu : Value) (F : Nat → Int) (pairs : List Nat) (S : List (Nat × Nat)) (g im : Nat) (e : Ending) (w' : World) : Prop :=
  ∃ ok, e = .returned (.bool ok) ∧ ∃ F' vp' pairs' vs' S', DvIn w' base m gd go vt vu F' vp' pairs' vs' S' ∧ DvNum T U n m S' F' pairs' ∧ (∃ rest, pairs' = pairs ++ rest) ∧ (∃ rest, S' = S ++ rest) ∧ (∀ y, 0 ≤ F y → F' y = F y) ∧ (∀ p, p ∈ S' → p ∈ S ∨ p = (g, im)) ∧ lnx S' ≤ lnx S + 1 ∧ Below B w w' ∧
    (ok = true → DvClosed T U S' F' pairs' ∧ F' im = (g : Int)) ∧ (ok = false → ¬ DvFun T U S')

/-- The numbers at the heads of the loops of add. -/
structure AdNum (T U : Nat → Nat → Nat) (n m : Nat) (S : List (Nat × Nat)) (F0 F : Nat → Int) (pairs0 pairs : List Nat) (g im : Nat) : Prop where
  num : DvNum T U n m (S ++ [(g, im)]) F pairs
  pre : ∃ rest, pairs = pairs0 ++ rest
  agree : ∀ y, 0 ≤ F0 y → F y = F0 y
  at_ : F im = (g : Int)
section
variable {T U : Nat → Nat → Nat} {n m : Nat} {S : List (Nat × Nat)} {F0 F : Nat → Int} {pairs0 pairs : List Nat} {g im : Nat}
theorem AdNum.put (h : AdNum T U n m S F0 F pairs0 pairs g im) {x y : Nat} (hy : y < m) (hr : DvR T U (S ++ [(g, im)]) y x) : AdNum T U n m S F0 (updP F y x) pairs0 (addP F pairs y) g im := by
  obtain ⟨rest, hp⟩ := h.pre
  obtain ⟨r2, h2⟩ := addP_pre F pairs y
  refine ⟨h.num.put hy hr, ⟨rest ++ r2, by rw [h2, hp, List.append_assoc]⟩, fun z hz => ?_, ?_⟩
  · have := h.agree z hz
    rw [updP_old (by omega), this]
  · rw [updP_old (by rw [h.at_]; omega), h.at_]
theorem AdNum.nth (h : AdNum T U n m S F0 F pairs0 pairs g im) {j : Nat} (hj : j < lnx pairs0) : nthx pairs j = nthx pairs0 j := by
  obtain ⟨rest, hp⟩ := h.pre
  rw [hp]
  exact nthx_append_lt _ _ hj
theorem addP_nth {y j : Nat} (hj : j < lnx pairs) : nthx (addP F pairs y) j = nthx pairs j := by
  obtain ⟨r2, h2⟩ := addP_pre F pairs y
  rw [h2]
  exact nthx_append_lt _ _ hj
theorem addP_len (F : Nat → Int) (pairs : List Nat) (y : Nat) : lnx pairs ≤ lnx (addP F pairs y) := by
  obtain ⟨r2, h2⟩ := addP_pre F pairs y
  rw [h2, lnx_append]
  omega
theorem AdNum.closed (h : AdNum T U n m S F0 F pairs0 pairs g im) (hc : DvClosed T U S F0 pairs0) (hat : ∀ y, y ∈ pairs → ∀ p, p ∈ S ++ [(g, im)] → DvAt T U F y p) : DvClosed T U (S ++ [(g, im)]) F pairs := by
  refine ⟨fun p hp => ?_, fun y hy p hp => (hat y hy p hp).2.2⟩
  rcases List.mem_append.1 hp with hp | hp
  · have := hc.base p hp
    rw [h.agree _ (by omega), this]
  · simp at hp
    subst hp
    exact h.at_
/-- The pairs before are closed under the steps before. -/
theorem AdNum.old (h : AdNum T U n m S F0 F pairs0 pairs g im) (h0 : DvNum T U n m S F0 pairs0) (hc : DvClosed T U S F0 pairs0) (hU : ∀ r c, r < m → c < m → U r c < m) {y : Nat} (hy : y ∈ pairs0) {p : Nat × Nat} (hp : p ∈ S) : DvAt T U F y p := by
  have hy1 := (h0.mem y (h0.lt y hy)).2 hy
  have e1 := h.agree y hy1
  have e2 := hc.step y hy p hp
  have e3 := h.agree (U y p.2) (by omega)
  refine ⟨by omega, by omega, ?_⟩
  rw [e3, e2, e1]
end

set_option maxRecDepth 100000 in
set_option maxHeartbeats 2000000 in
theorem add_any (w0 w : World) (base n m gd go : Nat) (T U : Nat → Nat → Nat) (vt vu vp vs : Value) (F : Nat → Int) (pairs : List Nat) (S : List (Nat × Nat)) (ht : Tab w0 vt n T) (hu : Tab w0 vu m U) (hw0 : Below w0.heap.size w0 w) (h : DvIn w base m gd go vt vu F vp pairs vs S) (hn : DvNum T U n m S F pairs) (hc : DvClosed T U S F pairs) (g im : Nat) (hg : g < n) (hi : im < m) (hB1 : w0.heap.size ≤ gd) (hB2 : w0.heap.size ≤ go) (hS : lnx S ≤ 100000) :
    Calls Try.prog 76 #[.pointer (some ⟨gd, 0, none⟩), .int .i64 g, .int .i64 im] w (AddPost w w0.heap.size base n m gd go T U vt vu F pairs S g im) := by
  obtain ⟨b, o, cap, rb, ro, rc, rfl, h0, h4, hR, hC, hT⟩ := ht
  obtain ⟨ub, uo, ucap, urb, uro, urc, rfl, uh0, uh4, uR, uC, hU⟩ := hu
  have HR := Lib.hid hR
  have HC := Lib.hid hC
  have HT := Lib.hid hT
  have HUR := Lib.hid uR
  have HUC := Lib.hid uC
  have HU := Lib.hid hU
  have HW0 := Lib.hid hw0
  clear hR hC hT uR uC hU hw0
  obtain ⟨c0, c1, c2, c3, c4⟩ := h.cell
  have cf := h.of.cell hi
  by_cases heq : F im = (g : Int)
  · have g1 : (F im == (g : Int)) = true := beq_t heq
    have HP : Hid (AddPost w w0.heap.size base n m gd go T U (.slice (some ⟨b, o, none⟩) n cap) (.slice (some ⟨ub, uo, none⟩) m ucap) F pairs S g im (.returned (.bool true)) w) :=
      ⟨true, rfl, F, vp, pairs, vs, S, h, hn, ⟨[], by simp⟩, ⟨[], by simp⟩, fun y _ => rfl, fun p hp => .inl hp, by omega, Below.refl _ _, fun _ => ⟨hc, heq⟩, fun h => by cases h⟩
    clear h hn hc heq
    go_enter Try.func76, Try.ntmps76
    go_wp2
    go_ret
    exact HP.out
  · have g1 : (F im == (g : Int)) = false := beq_f heq
    have hb := h.hb
    have b1 := h.b1
    have b2 := h.b2
    have e4 := World.ownsRow.alloc h.os (.cells #[.int .i64 g, .int .i64 im] 97)
    have e2 := World.cell?_alloc_new w #[.int .i64 (g : Int), .int .i64 (im : Int)] 97 0
    have e3 := World.cell?_alloc_new w #[.int .i64 (g : Int), .int .i64 (im : Int)] 97 1
    obtain ⟨pa, pc, rfl, hpa1, hpa2, -⟩ := h.op.shape
    have hpl := hn.len
    have HH := Lib.hid h
    have HN := Lib.hid hn
    have HCL := Lib.hid hc
    have HEQ := Lib.hid heq
    clear h hn hc heq
    go_enter Try.func76, Try.ntmps76
    go_wp2_with (at_builtin; refine wpList_push2 _ rfl _ _ 92 rfl base 97 (.agg #[.int .i64 0, .int .i64 0]) 16 Try.underlying92 Try.infoPair rfl vs (lnx S) _ rfl w.heap.size (.int .i64 g) (.int .i64 im) rfl e4 e2 e3 rfl rfl ?_ ?_ ?_ ?_)
    · simp only [maxLen]; omega
    · omega
    · simp; omega
    intro r cap' w2 hown hgrow
    obtain ⟨hst2, k4, z4, hbl2⟩ := HH.out.addStep hown hgrow w0.heap.size hB1 (by omega)
    have hc4 : lnx S + 1 ≤ cap' ∧ cap' ≤ 9223372036854775807 ∧ r ≠ gd := by
      rcases hown.2 with ⟨e, _⟩ | ⟨g', cp, cur, e, q1, _, q3, q4, _⟩
      · cases e
      · injection e with e1 e2 e3
        injection e1 with e1
        injection e1 with e1
        subst e1 e3
        exact ⟨q3, by simpa [maxLen] using q4, by omega⟩
    obtain ⟨hc41, hc42, -⟩ := hc4
    have hn2 := HN.out.grow hg hi
    have hr2 : DvR T U (S ++ [(g, im)]) im g := .base (p := (g, im)) (by simp)
    obtain ⟨W, hW⟩ : ∃ W, W = w2.setCell ⟨gd, 4, none⟩ (.slice (some ⟨r, 0, none⟩) (lnx S + 1) cap') := ⟨_, rfl⟩
    rw [← hW] at hst2 hbl2
    have d3 := hst2.cell.2.2.2.1
    have HPUT := Lib.hid (put_any W w0.heap.size base m gd go _ _ _ _ F pairs _ hst2 g im hi uh4 (fun h => by have := hn2.room hi h; omega) hB1 hB2)
    have HST2 := Lib.hid hst2
    have HBL2 := Lib.hid hbl2
    have HN2 := Lib.hid hn2
    have HR2 := Lib.hid hr2
    have hW' := hW.symm
    clear hst2 hbl2 hn2 hr2 hW hown hgrow e4 HH c0 c1 c2 c3 c4
    go_wp2_with fail
    refine HPUT.out.mono ?_
    rintro e w3 ⟨rfl, vp3, hst3, hb3⟩
    have HST3 := Lib.hid hst3
    have HB3 := Lib.hid (HBL2.out.trans hb3)
    clear hst3 hb3 HPUT HST2 HBL2 d3 hW'
    by_cases hfit : updP F im g im = (g : Int)
    case neg =>
      rw [beq_f hfit]
      have HP : Hid (AddPost w w0.heap.size base n m gd go T U (.slice (some ⟨b, o, none⟩) n cap) (.slice (some ⟨ub, uo, none⟩) m ucap) F pairs S g im (.returned (.bool false)) w3) :=
        ⟨false, rfl, _, vp3, _, _, _, HST3.out, HN2.out.put hi HR2.out, addP_pre F pairs im, ⟨[(g, im)], rfl⟩, fun y hy => updP_old hy, fun p hp => by
          rcases List.mem_append.1 hp with hp | hp
          · exact .inl hp
          · simp at hp; exact .inr hp, (by rw [lnx_append, lnx_one]; omega), HB3.out, fun h => (by cases h), fun _ => HN2.out.clash hi HR2.out hfit⟩
      clear HST3 HN2 HN HCL hfit
      go_wp2
      go_ret
      exact HP.out
    case pos =>
    rw [beq_t hfit]
    have HAD : Hid (AdNum T U n m S F (updP F im g) pairs (addP F pairs im) g im) := ⟨HN2.out.put hi HR2.out, addP_pre F pairs im, fun y hy => updP_old hy, hfit⟩
    clear HN2 HR2 hfit
    go_wp2
    go_loopw [8] (fun i wr => ∃ (ii : Nat) (F2 : Nat → Int) (vp2 : Value) (pairs2 : List Nat), i = .int .i64 ii ∧ ii ≤ lnx pairs2 ∧ DvIn wr base m gd go (.slice (some ⟨b, o, none⟩) n cap) (.slice (some ⟨ub, uo, none⟩) m ucap) F2 vp2 pairs2 (.slice (some ⟨r, 0, none⟩) (lnx S + 1) cap') (S ++ [(g, im)]) ∧ AdNum T U n m S F F2 pairs pairs2 g im ∧ (∀ j, j < ii → ∀ d, d < lnx S + 1 → DvAt T U F2 (nthx pairs2 j) (nthx (S ++ [(g, im)]) d)) ∧ Below w0.heap.size w wr) (fun i _ => m - (intOf i).toNat)
    case atStart => exact ⟨0, _, vp3, _, rfl, by omega, HST3.out, HAD.out, fun j hj => by omega, HB3.out⟩
    case round =>
      clear HST3 HAD HB3
      obtain ⟨ii, F2, vp2, pairs2, rfl, hii, hst, had, hdone, hbe⟩ := hrel
      obtain ⟨c0, c1, c2, c3, c4⟩ := hst.cell
      have hml := had.num.len
      obtain ⟨qa, qc, rfl, hq1, hq2, hq3⟩ := hst.op.shape
      by_cases hlt : ii < lnx pairs2
      · obtain ⟨qb, rfl, hqb, hqc⟩ := hq3 (by omega)
        have e1 := hqc ii hlt
        obtain ⟨y, hy⟩ : ∃ y, y = nthx pairs2 ii := ⟨_, rfl⟩
        rw [← hy] at e1
        have hym : y ∈ pairs2 := by rw [hy]; exact nthx_mem hlt
        have hyl := had.num.lt y hym
        have HST := Lib.hid hst
        have HAD := Lib.hid had
        have HDO := Lib.hid hdone
        have HBE := Lib.hid hbe
        have HYE := Lib.hid hy
        have HYM := Lib.hid hym
        have hsl := fun W => sliceLast W r (lnx S) cap' hc41 hc42
        clear hst had hdone hbe hq3 hqc hy hym
        go_upto_if 66 with (fail)
        go_cut [10] (fun v wx => wx = wr ∧ ∃ o0 q c : Nat, v = .slice (some ⟨r, o0 * 2, none⟩) q c ∧ q ≤ c ∧ c ≤ 9223372036854775807 ∧ o0 + q = lnx S + 1 ∧ ∀ d, d < o0 → DvAt T U F2 y (nthx (S ++ [(g, im)]) d))
        case first =>
          by_cases hbef : ii < lnx pairs
          · have hs1 : (((lnx S + 1 : Nat) : Int) - 1) = (lnx S : Int) := by omega
            have hs2 : IntKind.i64.wrap (lnx S : Int) = (lnx S : Int) := by rw [IntKind.wrap_i64]; omega
            push_cast at hs1
            go_wp2
            go_meet
            refine ⟨rfl, lnx S, 1, _, rfl, by omega, by omega, by omega, fun d hd => ?_⟩
            rw [nthx_append_lt _ _ hd]
            refine HAD.out.old HN.out HCL.out HU.out ?_ (nthx_mem hd)
            rw [HYE.out, HAD.out.nth hbef]
            exact nthx_mem hbef
          · go_wp2
            go_meet
            exact ⟨rfl, 0, lnx S + 1, cap', rfl, hc41, hc42, by omega, fun d hd => by omega⟩
        case rest =>
          obtain ⟨rfl, o0, q, c, rfl, hqc, hc9, hoq, hold⟩ := hcut
          have P0 : Hid (∃ (F3 : Nat → Int) (vp3 : Value) (pairs3 : List Nat), DvIn wc base m gd go (.slice (some ⟨b, o, none⟩) n cap) (.slice (some ⟨ub, uo, none⟩) m ucap) F3 vp3 pairs3 (.slice (some ⟨r, 0, none⟩) (lnx S + 1) cap') (S ++ [(g, im)]) ∧ AdNum T U n m S F F3 pairs pairs3 g im ∧ (∀ j, j < ii → ∀ d, d < lnx S + 1 → DvAt T U F3 (nthx pairs3 j) (nthx (S ++ [(g, im)]) d)) ∧ ii < lnx pairs3 ∧ nthx pairs3 ii = y ∧ (∀ d, d < o0 → DvAt T U F3 y (nthx (S ++ [(g, im)]) d)) ∧ Below w0.heap.size w wc) :=
            ⟨F2, _, pairs2, HST.out, HAD.out, HDO.out, hlt, HYE.out.symm, hold, HBE.out⟩
          clear HST HAD HDO HBE HYE HYM hsl hold c0 c1 c2 c3 c4 e1 hqb hq1 hq2 hlt hml hii
          go_wp2
          go_loopw [74] (fun i wz => ∃ (dd : Nat) (F3 : Nat → Int) (vp3 : Value) (pairs3 : List Nat), i = .int .i64 dd ∧ dd ≤ q ∧ DvIn wz base m gd go (.slice (some ⟨b, o, none⟩) n cap) (.slice (some ⟨ub, uo, none⟩) m ucap) F3 vp3 pairs3 (.slice (some ⟨r, 0, none⟩) (lnx S + 1) cap') (S ++ [(g, im)]) ∧ AdNum T U n m S F F3 pairs pairs3 g im ∧ (∀ j, j < ii → ∀ d, d < lnx S + 1 → DvAt T U F3 (nthx pairs3 j) (nthx (S ++ [(g, im)]) d)) ∧ ii < lnx pairs3 ∧ nthx pairs3 ii = y ∧ (∀ d, d < o0 + dd → DvAt T U F3 y (nthx (S ++ [(g, im)]) d)) ∧ Below w0.heap.size w wz) (fun i _ => q - (intOf i).toNat)
          case atStart =>
            obtain ⟨F3, vp3, pairs3, p1, p2, p3, p4, p5, p6, p7⟩ := P0.out
            exact ⟨0, F3, vp3, pairs3, rfl, by omega, p1, p2, p3, p4, p5, p6, p7⟩
          case round =>
            clear P0
            obtain ⟨dd, F3, vp3, pairs3, rfl, hdd, hst, had, hdone, hil, hye, hnow, hbe⟩ := hrel
            have hml := had.num.len
            by_cases hdq : dd < q
            · have hpi : o0 + dd < lnx (S ++ [(g, im)]) := by rw [lnx_append, lnx_one]; omega
              obtain ⟨s1, s2⟩ := hst.stepCells hpi
              obtain ⟨p, hp⟩ : ∃ p, p = nthx (S ++ [(g, im)]) (o0 + dd) := ⟨_, rfl⟩
              have hpm : p ∈ S ++ [(g, im)] := by rw [hp]; exact nthx_mem hpi
              rw [← hp, Nat.add_mul] at s1 s2
              obtain ⟨hp1, hp2⟩ := had.num.rng p hpm
              have hym : y ∈ pairs3 := by rw [← hye]; exact nthx_mem hil
              have hF0 := (had.num.mem y hyl).2 hym
              obtain ⟨fx, hfx⟩ : ∃ fx : Nat, F3 y = (fx : Int) := ⟨(F3 y).toNat, by omega⟩
              have hfxn : fx < n := by have := had.num.xlt HT.out HU.out hyl hF0; omega
              have hTz := HT.out fx p.1 hfxn hp1
              have hUz := HU.out y p.2 hyl hp2
              have hrel2 : DvR T U (S ++ [(g, im)]) (U y p.2) (T fx p.1) := by
                have := had.num.snd y hyl hF0
                rw [show (F3 y).toNat = fx by omega] at this
                exact .step this hpm
              obtain ⟨p1, p2⟩ := p
              simp only at s1 s2 hp1 hp2 hTz hUz hrel2
              obtain ⟨c0, c1, c2, c3, c4⟩ := hst.cell
              have cy := hst.of.cell hyl
              rw [hfx] at cy
              have hkp := Keeps.below (HW0.out.trans hbe)
              have t1 := hkp _ _ (HR.out fx hfxn)
              have t2 := hkp _ _ (HC.out fx p1 hfxn hp1)
              have t3 := hkp _ _ (HUR.out y hyl)
              have t4 := hkp _ _ (HUC.out y p2 hyl hp2)
              have hst2 := hst.alloc (.cells #[.int .i64 p1, .int .i64 p2] 97)
              obtain ⟨W, hW⟩ : ∃ W, W = wr.alloc (.cells #[.int .i64 p1, .int .i64 p2] 97) := ⟨_, rfl⟩
              have hkW : Keeps wr W := by rw [hW]; exact Keeps.alloc wr _
              have n0 : W.cell? ⟨wr.heap.size, 0, none⟩ = some (.int .i64 p1) := by rw [hW]; exact World.cell?_alloc_new wr #[.int .i64 (p1 : Int), .int .i64 (p2 : Int)] 97 0
              have n1 : W.cell? ⟨wr.heap.size, 1, none⟩ = some (.int .i64 p2) := by rw [hW]; exact World.cell?_alloc_new wr #[.int .i64 (p1 : Int), .int .i64 (p2 : Int)] 97 1
              have HWB : Hid (Below w0.heap.size w W.drew) := by
                have : Below w0.heap.size w W := by rw [hW]; exact hbe.alloc (by have := hst.hb; omega) _
                exact this.drew
              rw [← hW] at hst2
              have HPUT := Lib.hid (put_any W.drew w0.heap.size base m gd go _ _ _ _ F3 pairs3 _ hst2.drew (T fx p1) (U y p2) hUz uh4 (fun h => by have := had.num.room hUz h; omega) hB1 hB2)
              have m0 := hkW _ _ c0
              have m1 := hkW _ _ c1
              have m2 := hkW _ _ c2
              have my := hkW _ _ cy
              have mt1 := hkW _ _ t1
              have mt2 := hkW _ _ t2
              have mt3 := hkW _ _ t3
              have mt4 := hkW _ _ t4
              have HAD := Lib.hid had
              have HDO := Lib.hid hdone
              have HNOW := Lib.hid hnow
              have HYE := Lib.hid hye
              have HPE := Lib.hid hp
              have HREL := Lib.hid hrel2
              have HFX := Lib.hid hfx
              have HOQ := Lib.hid hoq
              have hW' := hW.symm
              clear hst hst2 had hdone hnow hye hp hrel2 hfx hpm hym hF0 hbe hkp hkW hW hoq c0 c1 c2 c3 c4 cy t1 t2 t3 t4 hpi
              go_wp2
              go_still_tail 29, (by kernel_rfl)
              change wpList _ _ _ _ _ W.drew
              go_wp2_with fail
              refine HPUT.out.mono ?_
              rintro e w5 ⟨rfl, vp5, hst5, hb5⟩
              have HST5 := Lib.hid hst5
              have HB5 := Lib.hid (HWB.out.trans hb5)
              clear hst5 hb5 HPUT HWB hW' n0 n1 m0 m1 m2 my mt1 mt2 mt3 mt4
              by_cases hfit : updP F3 (U y p2) (T fx p1) (U y p2) = ((T fx p1 : Nat) : Int)
              · rw [beq_t hfit]
                have had2 := HAD.out.put hUz HREL.out
                have hl := addP_len F3 pairs3 (U y p2)
                have P1 : Hid ((∀ j, j < ii → ∀ d, d < lnx S + 1 → DvAt T U (updP F3 (U y p2) (T fx p1)) (nthx (addP F3 pairs3 (U y p2)) j) (nthx (S ++ [(g, im)]) d)) ∧ ii < lnx (addP F3 pairs3 (U y p2)) ∧ nthx (addP F3 pairs3 (U y p2)) ii = y ∧ (∀ d, d < o0 + (dd + 1) → DvAt T U (updP F3 (U y p2) (T fx p1)) y (nthx (S ++ [(g, im)]) d))) := by
                  refine ⟨fun j hj d hd => ?_, by omega, by rw [addP_nth hil]; exact HYE.out, fun d hd => ?_⟩
                  · rw [addP_nth (by omega)]
                    exact (HDO.out j hj d hd).put _ _
                  · by_cases e : d = o0 + dd
                    · rw [e, ← HPE.out]
                      have hy3 : updP F3 (U y p2) (T fx p1) y = (fx : Int) := by rw [updP_old (by rw [HFX.out]; omega), HFX.out]
                      refine ⟨by rw [hy3]; omega, by rw [hfit]; omega, ?_⟩
                      show updP F3 (U y p2) (T fx p1) (U y p2) = _
                      rw [hfit, hy3]
                      rfl
                    · exact (HNOW.out d (by omega)).put _ _
                have HAD2 := Lib.hid had2
                clear had2 hfit HAD HDO HNOW HYE HPE HREL HFX
                go_wp2
                go_roundw
                case rel => exact ⟨dd + 1, _, vp5, _, by go_num, by omega, HST5.out, HAD2.out, P1.out.1, P1.out.2.1, P1.out.2.2.1, P1.out.2.2.2, HB5.out⟩
                case measure => simp [intOf]; omega
              · rw [beq_f hfit]
                have HP : Hid (AddPost w w0.heap.size base n m gd go T U (.slice (some ⟨b, o, none⟩) n cap) (.slice (some ⟨ub, uo, none⟩) m ucap) F pairs S g im (.returned (.bool false)) w5) := by
                  have had2 := HAD.out.put hUz HREL.out
                  exact ⟨false, rfl, _, vp5, _, _, _, HST5.out, had2.num, had2.pre, ⟨[(g, im)], rfl⟩, had2.agree, fun p hp => by
                    rcases List.mem_append.1 hp with hp | hp
                    · exact .inl hp
                    · simp at hp; exact .inr hp, (by rw [lnx_append, lnx_one]; omega), HB5.out, fun h => (by cases h), fun _ => HAD.out.num.clash hUz HREL.out hfit⟩
                clear hfit HAD HDO HNOW HYE HPE HREL HFX HST5
                go_wp2
                go_ret
                exact HP.out
            · have P1 : Hid (ii + 1 ≤ lnx pairs3 ∧ DvIn wr base m gd go (.slice (some ⟨b, o, none⟩) n cap) (.slice (some ⟨ub, uo, none⟩) m ucap) F3 vp3 pairs3 (.slice (some ⟨r, 0, none⟩) (lnx S + 1) cap') (S ++ [(g, im)]) ∧ AdNum T U n m S F F3 pairs pairs3 g im ∧ (∀ j, j < ii + 1 → ∀ d, d < lnx S + 1 → DvAt T U F3 (nthx pairs3 j) (nthx (S ++ [(g, im)]) d)) ∧ Below w0.heap.size w wr) := by
                refine ⟨hil, hst, had, fun j hj d hd => ?_, hbe⟩
                by_cases e : j = ii
                · rw [e, hye]; exact hnow d (by omega)
                · exact hdone j (by omega) d hd
              have hil2 : ii < m := by omega
              clear hst had hdone hye hnow hbe hoq
              go_wp2
              go_roundw
              case rel => exact ⟨ii + 1, F3, vp3, pairs3, by go_num, P1.out⟩
              case measure => simp [intOf]; omega
      · have hcd : DvClosed T U (S ++ [(g, im)]) F2 pairs2 := had.closed HCL.out (fun y hy p hp => by
          obtain ⟨j, hj, rfl⟩ := mem_nthx hy
          obtain ⟨d, hd, rfl⟩ := mem_nthx hp
          rw [lnx_append, lnx_one] at hd
          exact hdone j (by omega) d hd)
        have HP : Hid (AddPost w w0.heap.size base n m gd go T U (.slice (some ⟨b, o, none⟩) n cap) (.slice (some ⟨ub, uo, none⟩) m ucap) F pairs S g im (.returned (.bool true)) wr) :=
          ⟨true, rfl, F2, _, pairs2, _, _, hst, had.num, had.pre, ⟨[(g, im)], rfl⟩, had.agree, fun p hp => by
            rcases List.mem_append.1 hp with hp | hp
            · exact .inl hp
            · simp at hp; exact .inr hp, (by rw [lnx_append, lnx_one]; omega), hbe, fun _ => ⟨hcd, had.at_⟩, fun h => (by cases h)⟩
        clear hst had hdone hbe hq3 hcd
        go_wp2
        go_ret
        exact HP.out
end Go.Proofs.Ytgghmjnbkbiffaa

namespace Go.Proofs.Ytgghmjnbkbiffaa
open Go.RowKit
set_option linter.unusedVariables false

/-- The pairs of the generators and their images. -/
def gpairs (gens images : List Int) (k : Nat) : List (Nat × Nat) := (List.range k).map fun i => (nat_ gens i, nat_ images i)
theorem gpairs_mem {gens images : List Int} {k : Nat} {p : Nat × Nat} : p ∈ gpairs gens images k ↔ ∃ i, i < k ∧ p = (nat_ gens i, nat_ images i) := by
  unfold gpairs
  rw [List.mem_map]
  constructor
  · rintro ⟨i, hi, rfl⟩; exact ⟨i, List.mem_range.1 hi, rfl⟩
  · rintro ⟨i, hi, rfl⟩; exact ⟨i, List.mem_range.2 hi, rfl⟩
open Classical in
/-- The element of t with which y occurs, or -1. -/
noncomputable def dvF (T U : Nat → Nat → Nat) (S : List (Nat × Nat)) (y : Nat) : Int := if h : ∃ x, DvR T U S y x then ((h.choose : Nat) : Int) else -1
theorem dvF_is {T U : Nat → Nat → Nat} {S : List (Nat × Nat)} (hf : DvFun T U S) {y x : Nat} (h : DvR T U S y x) : dvF T U S y = (x : Int) := by
  unfold dvF
  rw [dif_pos ⟨x, h⟩]
  have := Exists.choose_spec (⟨x, h⟩ : ∃ x, DvR T U S y x)
  rw [hf y _ _ this h]
theorem dvF_no {T U : Nat → Nat → Nat} {S : List (Nat × Nat)} {y : Nat} (h : ¬ ∃ x, DvR T U S y x) : dvF T U S y = -1 := by
  unfold dvF
  rw [dif_neg h]
noncomputable def dvHas (T U : Nat → Nat → Nat) (S : List (Nat × Nat)) (y : Nat) : Bool := decide (0 ≤ dvF T U S y)
noncomputable def dvEl (T U : Nat → Nat → Nat) (S : List (Nat × Nat)) (k : Nat) : List Nat := (List.range k).filter (dvHas T U S)
noncomputable def dvVal (T U : Nat → Nat → Nat) (S : List (Nat × Nat)) (k : Nat) : List Nat := (dvEl T U S k).map fun y => (dvF T U S y).toNat
theorem dvEl_succ (T U : Nat → Nat → Nat) (S : List (Nat × Nat)) (k : Nat) : dvEl T U S (k + 1) = if dvHas T U S k = true then dvEl T U S k ++ [k] else dvEl T U S k := filter_succ _ k
theorem dvVal_succ (T U : Nat → Nat → Nat) (S : List (Nat × Nat)) (k : Nat) : dvVal T U S (k + 1) = if dvHas T U S k = true then dvVal T U S k ++ [(dvF T U S k).toNat] else dvVal T U S k := by
  unfold dvVal
  rw [dvEl_succ]
  split <;> simp
theorem dvEl_len (T U : Nat → Nat → Nat) (S : List (Nat × Nat)) (k : Nat) : lnx (dvEl T U S k) ≤ k := filter_len _ k
theorem dvVal_len (T U : Nat → Nat → Nat) (S : List (Nat × Nat)) (k : Nat) : lnx (dvVal T U S k) ≤ k := by
  have := dvEl_len T U S k
  unfold dvVal
  simpa [lnx] using this

open Classical in
/-- The error of Map. -/
noncomputable def dvErr (t : List (List Int)) (gens : List Int) (s : List (List Int)) (images : List Int) : Int :=
  if vErr t ≠ 0 then vErr t else if gensB t gens = false then 1 else if vErr s ≠ 0 then vErr s else if lnx images ≠ lnx gens then 1 else if inB (lnx s) images = false then 1
  else if DvFun (tabOf t) (tabOf s) (gpairs gens images (lnx gens)) then 0 else 9
/-- The lists of Map. -/
noncomputable def dvA (t : List (List Int)) (gens : List Int) (s : List (List Int)) (images : List Int) : List Nat := if dvErr t gens s images = 0 then dvEl (tabOf t) (tabOf s) (gpairs gens images (lnx gens)) (lnx s) else []
noncomputable def dvB (t : List (List Int)) (gens : List Int) (s : List (List Int)) (images : List Int) : List Nat := if dvErr t gens s images = 0 then dvVal (tabOf t) (tabOf s) (gpairs gens images (lnx gens)) (lnx s) else []
/-- The row of a slice lies in block n or behind it. -/
def NewB (n : Nat) (v : Value) : Prop := v = .slice none 0 0 ∨ ∃ g l c, v = .slice (some ⟨g, 0, none⟩) l c ∧ n ≤ g
theorem NewB.of {w : World} {n base : Nat} {v : Value} {xs : List Nat} (h : OwnN w base v xs) (hb : n ≤ base) : NewB n v := by
  rcases h.2 with h4 | ⟨g, cap, cur, rfl, h5, h6, h7⟩
  · exact .inl h4.1
  · exact .inr ⟨g, _, _, rfl, by omega⟩
def MapPost (w : World) (t : List (List Int)) (gens : List Int) (s : List (List Int)) (images : List Int) (e : Ending) (w' : World) : Prop :=
  ∃ va vb, e = .returned (.tuple #[va, vb, .int .i64 (dvErr t gens s images)]) ∧ Ints w' va (natsOf (dvA t gens s images)) ∧ Ints w' vb (natsOf (dvB t gens s images)) ∧ Below w.heap.size w w' ∧ NewB w.heap.size va ∧ NewB w.heap.size vb
theorem map_bad {w w' : World} {t : List (List Int)} {gens : List Int} {s : List (List Int)} {images : List Int} {x : Int} (hb : Below w.heap.size w w') (hx : dvErr t gens s images = x) (h0 : x ≠ 0) : MapPost w t gens s images (.returned (.tuple #[.slice none 0 0, .slice none 0 0, .int .i64 x])) w' := by
  refine ⟨_, _, by rw [hx], ?_, ?_, hb, .inl rfl, .inl rfl⟩
  · unfold dvA; rw [hx, if_neg h0]; exact Sl.nil _
  · unfold dvB; rw [hx, if_neg h0]; exact Sl.nil _
section
variable {t : List (List Int)} {gens : List Int} {s : List (List Int)} {images : List Int}
theorem dvErr_1 (h : vErr t ≠ 0) : dvErr t gens s images = vErr t := by unfold dvErr; rw [if_pos h]
theorem dvErr_2 (h : vErr t = 0) (h2 : gensB t gens = false) : dvErr t gens s images = 1 := by unfold dvErr; rw [if_neg (by simpa using h), if_pos h2]
theorem dvErr_3 (h : vErr t = 0) (h2 : gensB t gens = true) (h3 : vErr s ≠ 0) : dvErr t gens s images = vErr s := by unfold dvErr; rw [if_neg (by simpa using h), if_neg (by simp [h2]), if_pos h3]
theorem dvErr_4 (h : vErr t = 0) (h2 : gensB t gens = true) (h3 : vErr s = 0) (h4 : lnx images ≠ lnx gens) : dvErr t gens s images = 1 := by unfold dvErr; rw [if_neg (by simpa using h), if_neg (by simp [h2]), if_neg (by simpa using h3), if_pos h4]
theorem dvErr_5 (h : vErr t = 0) (h2 : gensB t gens = true) (h3 : vErr s = 0) (h4 : lnx images = lnx gens) (h5 : inB (lnx s) images = false) : dvErr t gens s images = 1 := by unfold dvErr; rw [if_neg (by simpa using h), if_neg (by simp [h2]), if_neg (by simpa using h3), if_neg (by simpa using h4), if_pos h5]
theorem dvErr_6 (h : vErr t = 0) (h2 : gensB t gens = true) (h3 : vErr s = 0) (h4 : lnx images = lnx gens) (h5 : inB (lnx s) images = true) (h6 : ¬ DvFun (tabOf t) (tabOf s) (gpairs gens images (lnx gens))) : dvErr t gens s images = 9 := by unfold dvErr; rw [if_neg (by simpa using h), if_neg (by simp [h2]), if_neg (by simpa using h3), if_neg (by simpa using h4), if_neg (by simp [h5]), if_neg h6]
theorem dvErr_0 (h : vErr t = 0) (h2 : gensB t gens = true) (h3 : vErr s = 0) (h4 : lnx images = lnx gens) (h5 : inB (lnx s) images = true) (h6 : DvFun (tabOf t) (tabOf s) (gpairs gens images (lnx gens))) : dvErr t gens s images = 0 := by unfold dvErr; rw [if_neg (by simpa using h), if_neg (by simp [h2]), if_neg (by simpa using h3), if_neg (by simpa using h4), if_neg (by simp [h5]), if_pos h6]
end
/-- A list of numbers that is what occurs. -/
structure DvRes (T U : Nat → Nat → Nat) (m : Nat) (S : List (Nat × Nat)) (F : Nat → Int) : Prop where
  fn : DvFun T U S
  pos : ∀ y, y < m → 0 ≤ F y → F y = dvF T U S y
  neg : ∀ y, y < m → F y < 0 → dvF T U S y = -1
theorem DvRes.of {T U : Nat → Nat → Nat} {m : Nat} {S : List (Nat × Nat)} {F : Nat → Int} (h1 : ∀ y x, DvR T U S y x → F y = (x : Int)) (h2 : ∀ y, y < m → 0 ≤ F y → DvR T U S y (F y).toNat) : DvRes T U m S F := by
  have hf : DvFun T U S := fun y x x' a b => by
    have := h1 y x a
    have := h1 y x' b
    omega
  refine ⟨hf, fun y hy h0 => ?_, fun y hy hn => dvF_no (fun ⟨x, hx⟩ => ?_)⟩
  · rw [dvF_is hf (h2 y hy h0)]; omega
  · have := h1 y x hx
    omega
theorem DvRes.has {T U : Nat → Nat → Nat} {m : Nat} {S : List (Nat × Nat)} {F : Nat → Int} (h : DvRes T U m S F) {y : Nat} (hy : y < m) : dvHas T U S y = decide (0 ≤ F y) := by
  unfold dvHas
  by_cases h0 : 0 ≤ F y
  · rw [← h.pos y hy h0]
  · rw [h.neg y hy (by omega)]
    simp [h0]
end Go.Proofs.Ytgghmjnbkbiffaa

namespace Go.Proofs.Ytgghmjnbkbiffaa
open Go.RowKit
set_option linter.unusedVariables false

/-- The error of divide.validate. -/
noncomputable def dvVErr (t : List (List Int)) (gens : List Int) (s : List (List Int)) : Int := if vErr t ≠ 0 then vErr t else if gensB t gens = false then 1 else vErr s

set_option maxHeartbeats 1000000 in
theorem divValidate_any (w : World) (vt vg vu : Value) (t : List (List Int)) (gens : List Int) (s : List (List Int)) (ht : Rows2 w vt t) (hg : Ints w vg gens) (hs : Rows2 w vu s) :
    Calls Try.prog 74 #[vt, vg, vu] w fun e w' => e = .returned (.int .i64 (dvVErr t gens s)) ∧ Below w.heap.size w w' := by
  have H1 := validate_any w vt t ht
  have H2 := Lib.hid (fun W (hb : Below w.heap.size w W) => validate_any W vu s (hs.keep (Keeps.below hb)))
  by_cases v1 : vErr t = 0
  case neg =>
    have g1 : (vErr t != 0) = true := bne_t v1
    have HE : Hid (dvVErr t gens s = vErr t) := by show _ = _; unfold dvVErr; rw [if_pos v1]
    replace H1 := Lib.hid H1
    clear v1
    go_enter Try.func74, Try.ntmps74
    go_wp2_with fail
    refine H1.out.mono ?_
    rintro e w1 ⟨rfl, hb⟩
    have HB := Lib.hid hb
    clear hb
    go_wp2
    go_ret
    exact ⟨by rw [HE.out]; rfl, HB.out⟩
  have H3 := (fun W (hb : Below w.heap.size w W) => generates_any W vt vg t gens (ht.keep (Keeps.below hb)) (hg.keep (Keeps.below hb)) v1)
  rw [v1] at H1
  replace H1 := Lib.hid H1
  cases hgb : gensB t gens with
  | false =>
    rw [hgb] at H3
    replace H3 := Lib.hid H3
    have HE : Hid (dvVErr t gens s = 1) := by show _ = _; unfold dvVErr; rw [if_neg (by simpa using v1), if_pos hgb]
    clear v1 hgb
    go_enter Try.func74, Try.ntmps74
    go_wp2_with fail
    refine H1.out.mono ?_
    rintro e w1 ⟨rfl, hb⟩
    have HB := Lib.hid hb
    clear hb
    go_wp2_with fail
    refine (H3.out _ HB.out).mono ?_
    rintro e w2 ⟨rfl, hb⟩
    have HB2 := Lib.hid (belowThen HB.out hb)
    clear hb
    go_wp2
    go_ret
    exact ⟨by rw [HE.out]; rfl, HB2.out⟩
  | true =>
    rw [hgb] at H3
    replace H3 := Lib.hid H3
    have HE : Hid (dvVErr t gens s = vErr s) := by show _ = _; unfold dvVErr; rw [if_neg (by simpa using v1), if_neg (by simp [hgb])]
    clear v1 hgb
    go_enter Try.func74, Try.ntmps74
    go_wp2_with fail
    refine H1.out.mono ?_
    rintro e w1 ⟨rfl, hb⟩
    have HB := Lib.hid hb
    clear hb
    go_wp2_with fail
    refine (H3.out _ HB.out).mono ?_
    rintro e w2 ⟨rfl, hb⟩
    have HB2 := Lib.hid (belowThen HB.out hb)
    clear hb
    go_wp2_with fail
    refine (H2.out _ HB2.out).mono ?_
    rintro e w3 ⟨rfl, hb⟩
    have HB3 := Lib.hid (belowThen HB2.out hb)
    clear hb
    go_wp2
    go_ret
    exact ⟨by rw [HE.out]; rfl, HB3.out⟩

/-- The division after k generators. -/
structure MpSt (w0 wr : World) (n m : Nat) (T U : Nat → Nat → Nat) (vt vu : Value) (gens images : List Int) (k : Nat) (F : Nat → Int) (vp : Value) (pairs : List Nat) (vs : Value) (S : List (Nat × Nat)) : Prop where
  dv : DvIn wr (w0.heap.size + 2) m (w0.heap.size + 1) w0.heap.size vt vu F vp pairs vs S
  num : DvNum T U n m S F pairs
  cl : DvClosed T U S F pairs
  sub : ∀ p, p ∈ S → p ∈ gpairs gens images k
  on : ∀ i, i < k → DvR T U S (nat_ images i) (nat_ gens i)
  len : lnx S ≤ k
  below : Below w0.heap.size w0 wr
section
variable {w0 wr w' : World} {n m : Nat} {T U : Nat → Nat → Nat} {vt vu : Value} {gens images : List Int} {k : Nat} {F : Nat → Int} {vp : Value} {pairs : List Nat} {vs : Value} {S : List (Nat × Nat)}
theorem gpairs_mono {gens images : List Int} {k k' : Nat} (h : k ≤ k') {p : Nat × Nat} (hp : p ∈ gpairs gens images k) : p ∈ gpairs gens images k' := by
  obtain ⟨i, hi, e⟩ := gpairs_mem.1 hp
  exact gpairs_mem.2 ⟨i, by omega, e⟩
theorem MpSt.add (h : MpSt w0 wr n m T U vt vu gens images k F vp pairs vs S) (hi : nat_ images k < m) {e : Ending} (hp : AddPost wr w0.heap.size (w0.heap.size + 2) n m (w0.heap.size + 1) w0.heap.size T U vt vu F pairs S (nat_ gens k) (nat_ images k) e w') :
    ∃ ok, e = .returned (.bool ok) ∧ Below w0.heap.size w0 w' ∧ (ok = true → ∃ F' vp' pairs' vs' S', MpSt w0 w' n m T U vt vu gens images (k + 1) F' vp' pairs' vs' S') ∧ (ok = false → ¬ DvFun T U (gpairs gens images (k + 1))) := by
  obtain ⟨ok, rfl, F', vp', pairs', vs', S', q1, q2, q3, ⟨rest, q4⟩, q5, q6, q7, q8, q9, q10⟩ := hp
  have hsub : ∀ p, p ∈ S' → p ∈ gpairs gens images (k + 1) := fun p hp => by
    rcases q6 p hp with h1 | h1
    · exact gpairs_mono (by omega) (h.sub p h1)
    · exact gpairs_mem.2 ⟨k, by omega, h1⟩
  refine ⟨ok, rfl, h.below.trans q8, fun hok => ?_, fun hok => fun hf => q10 hok (hf.mono hsub)⟩
  obtain ⟨c1, c2⟩ := q9 hok
  refine ⟨F', vp', pairs', vs', S', q1, q2, c1, hsub, fun i hi2 => ?_, by have := h.len; omega, h.below.trans q8⟩
  by_cases e : i = k
  · rw [e]
    have := q2.snd _ hi (by omega)
    rw [c2] at this
    exact this
  · exact (h.on i (by omega)).mono (fun p hp => by rw [q4]; simp [hp])
theorem MpSt.res (h : MpSt w0 wr n m T U vt vu gens images (lnx gens) F vp pairs vs S) (hT : ∀ r c, r < n → c < n → T r c < n) (hU : ∀ r c, r < m → c < m → U r c < m) (aT : Assoc n T) (aU : Assoc m U) : DvRes T U m (gpairs gens images (lnx gens)) F := by
  refine DvRes.of (fun y x hr => ?_) (fun y hy h0 => (h.num.snd y hy h0).mono h.sub)
  refine h.cl.graph h.num hT hU (hr.same h.num.rng hT hU aT aU (fun p hp => ?_))
  obtain ⟨i, hi, rfl⟩ := gpairs_mem.1 hp
  exact h.on i hi
end

set_option maxRecDepth 100000 in
set_option maxHeartbeats 2000000 in
theorem map_good (w : World) (vt vg vu vi : Value) (t : List (List Int)) (gens : List Int) (s : List (List Int)) (images : List Int) (ht : Rows2 w vt t) (hg : Ints w vg gens) (hs : Rows2 w vu s) (hi : Ints w vi images) (v1 : vErr t = 0) (vg1 : gensB t gens = true) (v2 : vErr s = 0) (hl : lnx images = lnx gens) (hin : inB (lnx s) images = true) (hlg : lnx gens ≤ 100000) :
    Calls Try.prog 41 #[vt, vg, vu, vi] w (MapPost w t gens s images) := by
  have H1 := divValidate_any w vt vg vu t gens s ht hg hs
  rw [show dvVErr t gens s = 0 by unfold dvVErr; rw [if_neg (by simpa using v1), if_neg (by simp [vg1]), v2]] at H1
  replace H1 := Lib.hid H1
  have htab := Tab.of_rows ht (vErr_inv v1).1
  have hstab := Tab.of_rows hs (vErr_inv v2).1
  have HTT := Lib.hid htab
  have HST := Lib.hid hstab
  have HT := Lib.hid (tabT v1)
  have HU := Lib.hid (tabT v2)
  have HAT := Lib.hid (vErr_inv v1).2
  have HAU := Lib.hid (vErr_inv v2).2
  have HING := Lib.hid (gensB_inv vg1).1
  have HINI := Lib.hid hin
  have HERR0 : Hid (DvFun (tabOf t) (tabOf s) (gpairs gens images (lnx gens)) → dvErr t gens s images = 0) := fun h => dvErr_0 v1 vg1 v2 hl hin h
  have HERR9 : Hid (¬ DvFun (tabOf t) (tabOf s) (gpairs gens images (lnx gens)) → dvErr t gens s images = 9) := fun h => dvErr_6 v1 vg1 v2 hl hin h
  have H2 := Lib.hid (fun W (hb : Below w.heap.size w W) => newDivision_any W vt vu _ _ _ _ (htab.keep (Keeps.below hb)) (hstab.keep (Keeps.below hb)))
  obtain ⟨b, o, cap, rb, ro, rc, rfl, h0, h4, -, -, -⟩ := htab
  obtain ⟨ub, uo, ucap, urb, uro, urc, rfl, uh0, uh4, -, -, -⟩ := hstab
  obtain ⟨ga, gc, rfl, hg1, hg2, hg3⟩ := hg
  obtain ⟨ia, ic, rfl, hi1, hi2, hi3⟩ := hi
  rw [hl] at hi1 hi3 ⊢
  have HG3 := Lib.hid hg3
  have HI3 := Lib.hid hi3
  have HL := Lib.hid hl
  have g1 : ((lnx gens : Int) != (lnx gens : Int)) = false := bne_f rfl
  clear ht hs v1 vg1 v2 hl hin hg3 hi3
  go_enter Try.func41, Try.ntmps41
  go_wp2_with fail
  refine H1.out.mono ?_
  rintro e w1 ⟨rfl, hb⟩
  have HB1 := Lib.hid hb
  clear hb H1
  go_wp2
  go_loopw [35] (fun i wr => ∃ k : Nat, k ≤ lnx gens ∧ i = .int .i64 k ∧ w1 = wr) (fun i _ => lnx gens - (intOf i).toNat)
  case atStart => exact ⟨0, by omega, rfl, rfl⟩
  case round =>
    obtain ⟨k, hk, rfl, rfl⟩ := hrel
    by_cases hlt : k < lnx gens
    · obtain ⟨pb, po, rfl, hpc⟩ := HI3.out (by omega)
      have d1 := (Keeps.below HB1.out) _ _ (hpc k hlt)
      have hik := nat_cast HINI.out (i := k) (by rw [HL.out]; exact hlt)
      rw [← hik.1] at d1
      have hil := hik.2
      clear hpc hik
      go_wp2
      go_roundw
      case rel => exact ⟨k + 1, by omega, by go_num, by first | rfl | trivial⟩
      case measure => simp [intOf]; omega
    · go_wp2_with fail
      refine (H2.out _ HB1.out).mono ?_
      rintro e w2 ⟨rfl, hdv, hb⟩
      have HM0 : Hid (MpSt w1 w2 (lnx t) (lnx s) (tabOf t) (tabOf s) (.slice (some ⟨b, o, none⟩) (lnx t) cap) (.slice (some ⟨ub, uo, none⟩) (lnx s) ucap) gens images 0 (fun _ => -1) (.slice none 0 0) [] (.slice none 0 0) []) :=
        ⟨hdv, DvNum.start _ _ _ _, DvClosed.start _ _, by simp, fun i hi => by omega, by simp [lnx], hb⟩
      clear hdv hb H2 hlt hk
      go_wp2
      go_loopw [53] (fun i wr => ∃ (k : Nat) (F : Nat → Int) (vp : Value) (pairs : List Nat) (vs : Value) (S : List (Nat × Nat)), k ≤ lnx gens ∧ i = .int .i64 k ∧ MpSt w1 wr (lnx t) (lnx s) (tabOf t) (tabOf s) (.slice (some ⟨b, o, none⟩) (lnx t) cap) (.slice (some ⟨ub, uo, none⟩) (lnx s) ucap) gens images k F vp pairs vs S) (fun i _ => lnx gens - (intOf i).toNat)
      case atStart => exact ⟨0, _, _, _, _, _, by omega, rfl, HM0.out⟩
      case round =>
        clear HM0
        obtain ⟨k, F, vp, pairs, vs, S, hk, rfl, hst⟩ := hrel
        by_cases hlt : k < lnx gens
        · obtain ⟨pb, po, rfl, hpc⟩ := HI3.out (by omega)
          obtain ⟨qb, qo, rfl, hqc⟩ := HG3.out (by omega)
          have hkp := Keeps.below (belowThen HB1.out hst.below)
          have d1 := hkp _ _ (hpc k hlt)
          have d2 := hkp _ _ (hqc k hlt)
          have hik := nat_cast HINI.out (i := k) (by rw [HL.out]; exact hlt)
          have hgk := nat_cast HING.out hlt
          rw [← hik.1] at d1
          rw [← hgk.1] at d2
          have hil := hik.2
          have hgl := hgk.2
          have hSl := hst.len
          have HADD := Lib.hid (add_any w1 wr (w1.heap.size + 2) (lnx t) (lnx s) (w1.heap.size + 1) w1.heap.size (tabOf t) (tabOf s) _ _ vp vs F pairs S (HTT.out.keep (Keeps.below HB1.out)) (HST.out.keep (Keeps.below HB1.out)) hst.below hst.dv hst.num hst.cl (nat_ gens k) (nat_ images k) hgl hil (by omega) (Nat.le_refl _) (by omega))
          have HMP := Lib.hid hst
          clear hpc hqc hkp hik hgk hst
          go_wp2_with fail
          refine HADD.out.mono ?_
          intro e w3 hp
          obtain ⟨ok, rfl, hb3, hyes, hno⟩ := HMP.out.add hil hp
          have HB3 := Lib.hid (belowThen HB1.out hb3)
          clear hp HADD HMP hb3
          cases ok with
          | true =>
            have HY := Lib.hid (hyes rfl)
            clear hyes hno
            go_wp2
            go_roundw
            case rel =>
              obtain ⟨F', vp', pairs', vs', S', q⟩ := HY.out
              exact ⟨k + 1, F', vp', pairs', vs', S', by omega, by go_num, q⟩
            case measure => simp [intOf]; omega
          | false =>
            have HE := Lib.hid (HERR9.out (fun hf => hno rfl (hf.mono (fun p hp => gpairs_mono (by omega) hp))))
            clear hyes hno
            go_wp2
            refine bodyPost_ret (results_tmp3 rfl _ _ _) rfl ?_
            exact map_bad HB3.out HE.out (by decide)
        · obtain rfl : k = lnx gens := by omega
          obtain ⟨w9, rfl⟩ : ∃ w9, w9 = wr := ⟨_, rfl⟩
          have hres := hst.res HT.out HU.out HAT.out HAU.out
          have HE := Lib.hid (HERR0.out hres.fn)
          have c2 := hst.dv.cell.2.2.1
          have HOF := Lib.hid hst.dv.of
          have HRS := Lib.hid hres
          have HB2 := Lib.hid (belowThen HB1.out hst.below)
          clear hst hres hlt hk HERR0 HERR9
          go_wp2
          clear c2
          go_loopw [17, 18, 72] (fun va vb i wz => ∃ y : Nat, y ≤ lnx s ∧ i = .int .i64 y ∧ Below w9.heap.size w9 wz ∧ OwnN wz w9.heap.size va (dvEl (tabOf t) (tabOf s) (gpairs gens images (lnx gens)) y) ∧ OwnN wz w9.heap.size vb (dvVal (tabOf t) (tabOf s) (gpairs gens images (lnx gens)) y) ∧ (∀ k, va.ownBlock = some k → vb.ownBlock ≠ some k)) (fun _ _ i _ => lnx s - (intOf i).toNat)
          case atStart => exact ⟨0, by omega, rfl, Below.refl _ _, OwnN.nil _ _, OwnN.nil _ _, by simp [Value.ownBlock]⟩
          case round =>
            obtain ⟨y, hy, rfl, hb, hoa, hob, hne⟩ := hrel
            have hsz := hb.size
            have hl1 := dvEl_len (tabOf t) (tabOf s) (gpairs gens images (lnx gens)) y
            have hl2 := dvVal_len (tabOf t) (tabOf s) (gpairs gens images (lnx gens)) y
            by_cases hlt : y < lnx s
            · have c1 := (Keeps.below hb) _ _ (HOF.out.cell hlt)
              have hs1 := dvEl_succ (tabOf t) (tabOf s) (gpairs gens images (lnx gens)) y
              have hs2 := dvVal_succ (tabOf t) (tabOf s) (gpairs gens images (lnx gens)) y
              rw [HRS.out.has hlt] at hs1 hs2
              by_cases hpos : 0 ≤ F y
              · rw [if_pos (by simpa using hpos)] at hs1 hs2
                rw [← HRS.out.pos y hlt hpos] at hs2
                obtain ⟨x, hx⟩ : ∃ x : Nat, F y = (x : Int) := ⟨(F y).toNat, by omega⟩
                rw [hx, Int.toNat_natCast] at hs2
                rw [hx] at c1
                have e4 := hoa.alloc (.cells #[.int .i64 y] 3)
                have e2 := World.cell?_alloc_new wr #[.int .i64 (y : Int)] 3 0
                have HOA := Lib.hid hoa
                have HOB := Lib.hid hob
                have HNE := Lib.hid hne
                have HBB := Lib.hid hb
                have HS1 := Lib.hid hs1
                have HS2 := Lib.hid hs2
                clear hoa hob hne hb hs1 hs2 hpos hx
                obtain ⟨EL, hEL⟩ : ∃ EL, EL = dvEl (tabOf t) (tabOf s) (gpairs gens images (lnx gens)) y := ⟨_, rfl⟩
                obtain ⟨VL, hVL⟩ : ∃ VL, VL = dvVal (tabOf t) (tabOf s) (gpairs gens images (lnx gens)) y := ⟨_, rfl⟩
                rw [← hEL] at e4 HOA HS1 hl1
                rw [← hVL] at HOB HS2 hl2
                clear hEL hVL
                go_wp2_with (at_builtin; refine wpList_push _ rfl _ _ 31 rfl w9.heap.size 3 (.int .i64 0) 8 Try.underlying31 Try.infoInt rfl _ _ _ rfl wr.heap.size (.int .i64 y) rfl e4 e2 rfl ?_ ?_ ?_ ?_)
                · simp only [maxLen]; omega
                · omega
                · simp only [World.size_alloc]; omega
                intro r2 c2 w2 hap
                have o2 : Only (fun k => u17.ownBlock = some k) wr w2 := Only.grown ((Only.refl _ wr).alloc _) hap.grown (fun k hk e => e)
                have hob2 : OwnN w2 w9.heap.size u18 VL := HOB.out.only o2 (fun k hk e => HNE.out k e hk)
                have hoa2 : OwnN w2 w9.heap.size (.slice (some ⟨r2, 0, none⟩) (lnx EL + 1) c2) (EL ++ [y]) := OwnN.push hap.own
                have hne2 : ∀ k, u18.ownBlock = some k → k ≠ r2 := fun k hk e => by
                  rcases hap.at_ (k := r2) rfl with h1 | h1
                  · exact HNE.out k (by rw [e]; exact h1) hk
                  · have := (HOB.out.lt hk).2
                    simp at h1
                    omega
                have hs3 := o2.size
                have e5 := hob2.alloc (.cells #[.int .i64 x] 3)
                have e6 := World.cell?_alloc_new w2 #[.int .i64 (x : Int)] 3 0
                have hb2 : Below w9.heap.size w9 w2 := HBB.out.trans (o2.below (fun k hk e => by have := (HOA.out.lt e).1; omega) (by omega))
                have HOA2 := Lib.hid hoa2
                have HOB2 := Lib.hid hob2
                have HNE2 := Lib.hid hne2
                have HB2' := Lib.hid hb2
                clear hap o2 hob2 hoa2 hne2 e4 e2 HOA HOB HNE HBB hb2
                go_wp2_with (at_builtin; refine wpList_push _ rfl (.tmp 83) (.tmp 85) 31 rfl w9.heap.size 3 (.int .i64 0) 8 Try.underlying31 Try.infoInt rfl _ _ _ rfl w2.heap.size (.int .i64 x) rfl e5 e6 rfl ?_ ?_ ?_ ?_)
                · simp only [maxLen]; omega
                · omega
                · simp only [World.size_alloc]; omega
                intro r3 c3 w3 hap
                have o3 : Only (fun k => u18.ownBlock = some k) w2 w3 := Only.grown ((Only.refl _ w2).alloc _) hap.grown (fun k hk e => e)
                have P1 : Hid (Below w9.heap.size w9 w3 ∧ OwnN w3 w9.heap.size (.slice (some ⟨r2, 0, none⟩) (lnx EL + 1) c2) (EL ++ [y]) ∧ OwnN w3 w9.heap.size (.slice (some ⟨r3, 0, none⟩) (lnx VL + 1) c3) (VL ++ [x]) ∧ (∀ k, (Value.slice (some ⟨r2, 0, none⟩) (lnx EL + 1) c2).ownBlock = some k → (Value.slice (some ⟨r3, 0, none⟩) (lnx VL + 1) c3).ownBlock ≠ some k)) := by
                  refine ⟨HB2'.out.trans (o3.below (fun k hk e => by have := (HOB2.out.lt e).1; omega) (by omega)), HOA2.out.only o3 (fun k hk e => ?_), OwnN.push hap.own, fun k hk e => ?_⟩
                  · simp [Value.ownBlock] at hk
                    exact HNE2.out k e hk.symm
                  · simp [Value.ownBlock] at hk
                    subst hk
                    rcases hap.at_ e with h1 | h1
                    · exact HNE2.out r2 h1 rfl
                    · have := (HOA2.out.lt (k := r2) rfl).2
                      simp at h1
                      omega
                clear hap o3 HOA2 HOB2 HNE2 HB2' e5 e6
                go_wp2
                go_roundw
                case rel => exact ⟨y + 1, by omega, by go_num, P1.out.1, by rw [HS1.out]; exact P1.out.2.1, by rw [HS2.out]; exact P1.out.2.2.1, P1.out.2.2.2⟩
                case measure => simp [intOf]; omega
              · rw [if_neg (by simpa using hpos)] at hs1 hs2
                have P1 : Hid (Below w9.heap.size w9 wr ∧ OwnN wr w9.heap.size u17 (dvEl (tabOf t) (tabOf s) (gpairs gens images (lnx gens)) (y + 1)) ∧ OwnN wr w9.heap.size u18 (dvVal (tabOf t) (tabOf s) (gpairs gens images (lnx gens)) (y + 1)) ∧ (∀ k, u17.ownBlock = some k → u18.ownBlock ≠ some k)) := ⟨hb, by rw [hs1]; exact hoa, by rw [hs2]; exact hob, hne⟩
                clear hb hoa hob hne hs1 hs2
                go_wp2
                go_roundw
                case rel => exact ⟨y + 1, by omega, by go_num, P1.out⟩
                case measure => simp [intOf]; omega
            · obtain rfl : y = lnx s := by omega
              have P1 : Hid (MapPost w t gens s images (.returned (.tuple #[u17, u18, .int .i64 0])) wr) := by
                refine ⟨_, _, by rw [HE.out], ?_, ?_, belowThen HB2.out hb, .of hoa HB2.out.size, .of hob HB2.out.size⟩
                · unfold dvA; rw [HE.out, if_pos rfl]; exact hoa.ints
                · unfold dvB; rw [HE.out, if_pos rfl]; exact hob.ints
              clear hb hoa hob hne
              go_wp2
              refine bodyPost_ret (results_tmp3 rfl _ _ _) rfl ?_
              exact P1.out

set_option maxRecDepth 100000 in
set_option maxHeartbeats 2000000 in
theorem map_any (w : World) (vt vg vu vi : Value) (t : List (List Int)) (gens : List Int) (s : List (List Int)) (images : List Int) (ht : Rows2 w vt t) (hg : Ints w vg gens) (hs : Rows2 w vu s) (hi : Ints w vi images) (hlg : lnx gens ≤ 100000) :
    Calls Try.prog 41 #[vt, vg, vu, vi] w (MapPost w t gens s images) := by
  have H1 := divValidate_any w vt vg vu t gens s ht hg hs
  have HT := Lib.hid ht
  have HG := Lib.hid hg
  have HS := Lib.hid hs
  have HI := Lib.hid hi
  obtain ⟨a, cap, rfl, h1, h2, -⟩ := ht
  obtain ⟨a', cap', rfl, h1', h2', -⟩ := hs
  obtain ⟨ga, gc, rfl, hg1, hg2, -⟩ := hg
  obtain ⟨ia, ic, rfl, hi1, hi2, hi3⟩ := hi
  have HI3 := Lib.hid hi3
  clear hi3
  by_cases v0 : dvVErr t gens s = 0
  case neg =>
    have g1 : (dvVErr t gens s != 0) = true := bne_t v0
    have HE : Hid (dvErr t gens s images = dvVErr t gens s) := by
      show _ = _
      unfold dvVErr at v0 ⊢
      by_cases v1 : vErr t = 0
      · rw [if_neg (by simpa using v1)] at v0 ⊢
        cases hgb : gensB t gens with
        | false => rw [if_pos rfl]; exact dvErr_2 v1 hgb
        | true =>
          rw [hgb, if_neg (by simp)] at v0
          rw [if_neg (by simp)]
          exact dvErr_3 v1 hgb v0
      · rw [if_pos v1]; exact dvErr_1 v1
    have HN := Lib.hid v0
    replace H1 := Lib.hid H1
    clear v0
    go_enter Try.func41, Try.ntmps41
    go_wp2_with fail
    refine H1.out.mono ?_
    rintro e w1 ⟨rfl, hb⟩
    have HB := Lib.hid hb
    clear hb
    go_wp2
    refine bodyPost_ret (results_tmp3 rfl _ _ _) rfl ?_
    exact map_bad HB.out HE.out HN.out
  have hv : vErr t = 0 ∧ gensB t gens = true ∧ vErr s = 0 := by
    unfold dvVErr at v0
    by_cases v1 : vErr t = 0
    · rw [if_neg (by simpa using v1)] at v0
      cases hgb : gensB t gens with
      | false => rw [hgb, if_pos rfl] at v0; exact absurd v0 (by decide)
      | true => rw [hgb, if_neg (by simp)] at v0; exact ⟨v1, rfl, v0⟩
    · rw [if_pos v1] at v0; exact absurd v0 v1
  obtain ⟨v1, vg1, v2⟩ := hv
  rw [v0] at H1
  replace H1 := Lib.hid H1
  by_cases hl : lnx images = lnx gens
  case neg =>
    have g1 : ((lnx images : Int) != (lnx gens : Int)) = true := bne_t (by omega)
    have HE := Lib.hid (dvErr_4 v1 vg1 v2 hl)
    clear v0 v1 vg1 v2 hl
    go_enter Try.func41, Try.ntmps41
    go_wp2_with fail
    refine H1.out.mono ?_
    rintro e w1 ⟨rfl, hb⟩
    have HB := Lib.hid hb
    clear hb
    go_wp2
    refine bodyPost_ret (results_tmp3 rfl _ _ _) rfl ?_
    exact map_bad HB.out HE.out (by decide)
  cases hin : inB (lnx s) images with
  | true => exact map_good w _ _ _ _ t gens s images HT.out HG.out HS.out HI.out v1 vg1 v2 hl hin hlg
  | false =>
    have HE := Lib.hid (dvErr_5 v1 vg1 v2 hl hin)
    have HBAD : Hid (∃ k, k < lnx images ∧ ¬ (0 ≤ nthx images k ∧ nthx images k < (lnx s : Int))) := by
      refine Classical.byContradiction fun hn => ?_
      have : inB (lnx s) images = true := inB_t (fun i hi => Classical.byContradiction fun h => hn ⟨i, hi, h⟩)
      rw [hin] at this
      cases this
    have g1 : ((lnx images : Int) != (lnx gens : Int)) = false := bne_f (by omega)
    have hsl : lnx s ≤ 9223372036854775807 := by omega
    clear v0 v1 vg1 v2 hl hin
    go_enter Try.func41, Try.ntmps41
    go_wp2_with fail
    refine H1.out.mono ?_
    rintro e w1 ⟨rfl, hb⟩
    have HB := Lib.hid hb
    clear hb H1
    go_wp2
    go_loopw [35] (fun i wr => ∃ k : Nat, k ≤ lnx images ∧ i = .int .i64 k ∧ w1 = wr ∧ ∀ j, j < k → 0 ≤ nthx images j ∧ nthx images j < (lnx s : Int)) (fun i _ => lnx images - (intOf i).toNat)
    case atStart => exact ⟨0, by omega, rfl, rfl, fun j hj => by omega⟩
    case round =>
      obtain ⟨k, hk, rfl, rfl, hall⟩ := hrel
      by_cases hlt : k < lnx images
      · obtain ⟨pb, po, rfl, hpc⟩ := HI3.out (by omega)
        have d1 := (Keeps.below HB.out) _ _ (hpc k hlt)
        by_cases hok : 0 ≤ nthx images k ∧ nthx images k < (lnx s : Int)
        · have HALL : Hid (∀ j, j < k + 1 → 0 ≤ nthx images j ∧ nthx images j < (lnx s : Int)) := fun j hj => by
            by_cases e : j = k
            · rw [e]; exact hok
            · exact hall j (by omega)
          clear hpc hall
          go_wp2
          go_roundw
          case rel => exact ⟨k + 1, by omega, by go_num, (by first | rfl | trivial), HALL.out⟩
          case measure => simp [intOf]; omega
        · clear hpc hall
          go_wp2
          all_goals
            refine bodyPost_ret (results_tmp3 rfl _ _ _) rfl ?_
            exact map_bad HB.out HE.out (by decide)
      · exfalso
        obtain ⟨j, hj, h⟩ := HBAD.out
        exact h (hall j (by omega))
end Go.Proofs.Ytgghmjnbkbiffaa

namespace Go.Proofs.Ytgghmjnbkbiffaa
open Go.RowKit
set_option linter.unusedVariables false

/-- Memory of Pairs. -/
structure PrSt (w0 wr : World) (m : Nat) (F : Nat → Int) (vq : Value) (queue : List Nat) : Prop where
  row : RowAt wr w0.heap.size m F
  own : OwnN wr (w0.heap.size + 1) vq queue
  below : Below w0.heap.size w0 wr
  neg : ∀ y, y < m → F y = -1 ∨ 0 ≤ F y
  hb : w0.heap.size + 1 ≤ wr.heap.size
theorem PrSt.drewN {w0 wr : World} {m : Nat} {F : Nat → Int} {vq : Value} {queue : List Nat} (h : PrSt w0 wr m F vq queue) (k : Nat) : PrSt w0 (wr.drewN k) m F vq queue := ⟨h.row, h.own, Below.drewN' h.below k, h.neg, h.hb⟩
theorem PrSt.put {w0 wr w2 : World} {m : Nat} {F : Nat → Int} {vq : Value} {queue : List Nat} (h : PrSt w0 wr m F vq queue) {x y r c : Nat} (hF : F y < 0)
    (hap : App (w0.heap.size + 1) 3 ((wr.setCell ⟨w0.heap.size, y, none⟩ (.int .i64 x)).alloc (.cells #[.int .i64 y] 3)) w2 vq (.slice (some ⟨r, 0, none⟩) (lnx queue + 1) c) (lnx queue) 1 (queue.map fun x : Nat => Value.int .i64 (x : Int)) [.int .i64 y]) :
    PrSt w0 w2 m (updP F y x) (.slice (some ⟨r, 0, none⟩) (lnx queue + 1) c) (addP F queue y) := by
  have e1 : updP F y x = upd F y x := by unfold updP; rw [if_pos hF]
  have e2 : addP F queue y = queue ++ [y] := by unfold addP; rw [if_pos hF]
  have hb := h.hb
  have o1 : Only (fun k => vq.ownBlock = some k) (wr.setCell ⟨w0.heap.size, y, none⟩ (.int .i64 x)) w2 := Only.grown ((Only.refl _ _).alloc _) hap.grown (fun k _ e => e)
  have hlt : ∀ k, vq.ownBlock = some k → w0.heap.size + 1 ≤ k ∧ k < wr.heap.size := fun k hk => h.own.lt hk
  have hs : (wr.setCell ⟨w0.heap.size, y, none⟩ (.int .i64 x)).heap.size = wr.heap.size := by simp [World.setCell]
  have hs2 := o1.size
  rw [e1, e2]
  refine ⟨(h.row.set_ y x).only o1 (fun e => by have := (hlt _ e).1; omega), OwnN.push hap.own, (h.below.setCell (p := ⟨w0.heap.size, y, none⟩) (Nat.le_refl _) _).trans (o1.below (fun k hk e => by have := (hlt k e).1; omega) (by omega)), fun z hz => ?_, by omega⟩
  by_cases e : z = y
  · rw [e, upd_same]; right; omega
  · rw [upd_other F _ e]; exact h.neg z hz
theorem PrSt.keep {w0 wr : World} {m : Nat} {F : Nat → Int} {vq : Value} {queue : List Nat} (h : PrSt w0 wr m F vq queue) {x y : Nat} (hF : 0 ≤ F y) : PrSt w0 wr m (updP F y x) vq (addP F queue y) := by
  have e1 : updP F y x = F := by unfold updP; rw [if_neg (by omega)]
  have e2 : addP F queue y = queue := by unfold addP; rw [if_neg (by omega)]
  rw [e1, e2]
  exact h

def PairsPost (w : World) (m : Nat) (T U : Nat → Nat → Nat) (S : List (Nat × Nat)) (e : Ending) (w' : World) : Prop :=
  ∃ v ok, e = .returned (.tuple #[v, .bool ok]) ∧ Below w.heap.size w w' ∧ (ok = true → ∃ F, v = .slice (some ⟨w.heap.size, 0, none⟩) m m ∧ RowAt w' w.heap.size m F ∧ DvRes T U m S F ∧ ∀ y, y < m → F y = -1 ∨ 0 ≤ F y) ∧ (ok = false → ¬ DvFun T U S)

theorem DvNum.more {T U : Nat → Nat → Nat} {n m : Nat} {S S' : List (Nat × Nat)} {F : Nat → Int} {pairs : List Nat} (h : DvNum T U n m S F pairs) (hs : ∀ p, p ∈ S → p ∈ S') (hr : ∀ p, p ∈ S' → p.1 < n ∧ p.2 < m) : DvNum T U n m S' F pairs :=
  ⟨hr, h.nd, h.lt, h.mem, fun y hy h0 => (h.snd y hy h0).mono hs⟩

set_option maxRecDepth 100000 in
set_option maxHeartbeats 2000000 in
theorem pairs_any (w : World) (n m : Nat) (T U : Nat → Nat → Nat) (vt vg vu vi : Value) (gens images : List Int) (ht : Tab w vt n T) (hu : Tab w vu m U) (hg : Ints w vg gens) (hi : Ints w vi images) (hl : lnx images = lnx gens) (ing : inB n gens = true) (ini : inB m images = true) :
    Calls Try.prog 78 #[vt, vg, vu, vi] w (PairsPost w m T U (gpairs gens images (lnx gens))) := by
  obtain ⟨b, o, cap, rb, ro, rc, rfl, h0, h4, hR, hC, hT⟩ := ht
  obtain ⟨ub, uo, ucap, urb, uro, urc, rfl, uh0, uh4, uR, uC, hU⟩ := hu
  obtain ⟨ga, gc, rfl, hg1, hg2, hg3⟩ := hg
  obtain ⟨ia, ic, rfl, hi1, hi2, hi3⟩ := hi
  have HL := Lib.hid hl
  rw [hl] at hi1 hi3 ⊢
  have HR := Lib.hid hR
  have HC := Lib.hid hC
  have HT := Lib.hid hT
  have HUR := Lib.hid uR
  have HUC := Lib.hid uC
  have HU := Lib.hid hU
  have HG3 := Lib.hid hg3
  have HI3 := Lib.hid hi3
  have HGN : Hid (∀ i, i < lnx gens → nthx gens i = (nat_ gens i : Int) ∧ nat_ gens i < n ∧ nthx images i = (nat_ images i : Int) ∧ nat_ images i < m) := fun i hi => by
    have a1 := nat_cast ing hi
    have a2 := nat_cast ini (i := i) (by omega)
    exact ⟨a1.1.symm, a1.2, a2.1.symm, a2.2⟩
  have HRNG : Hid (∀ k, k ≤ lnx gens → ∀ p, p ∈ gpairs gens images k → p.1 < n ∧ p.2 < m) := fun k hk p hp => by
    obtain ⟨i, hi, rfl⟩ := gpairs_mem.1 hp
    exact ⟨(HGN.out i (by omega)).2.1, (HGN.out i (by omega)).2.2.2⟩
  have hmk := fun W => run_mk (P := Try.prog) Try.underlying31 Try.infoInt rfl m (by omega) (by omega) W
  clear hR hC hT uR uC hU hg3 hi3 hl ing ini
  go_enter Try.func78, Try.ntmps78
  go_wp2
  clear hmk
  go_loopw [25] (fun i wr => ∃ k : Nat, k ≤ m ∧ i = .int .i64 k ∧ RowAt wr w.heap.size m (fillF k) ∧ Below w.heap.size w wr ∧ w.heap.size + 1 ≤ wr.heap.size) (fun i _ => m - (intOf i).toNat)
  case atStart => exact ⟨0, by omega, rfl, (RowAt.of_arr (Arr.zeros _ _ _ _)).congr (fun i hi => by simp [fillF]), (Below.refl _ _).alloc (Nat.le_refl _) _, by simp⟩
  case round =>
    obtain ⟨k, hk, rfl, hrow, hb, hs⟩ := hrel
    by_cases hlt : k < m
    · have c1 := hrow.cell hlt
      have f1 := hrow.frozen k
      have P1 := hrow.set_ k (-1)
      rw [fillF_step] at P1
      have P2 : Hid (RowAt (wr.setCell ⟨w.heap.size, k, none⟩ (.int .i64 (-1))) w.heap.size m (fillF (k + 1)) ∧ Below w.heap.size w (wr.setCell ⟨w.heap.size, k, none⟩ (.int .i64 (-1))) ∧ w.heap.size + 1 ≤ (wr.setCell ⟨w.heap.size, k, none⟩ (.int .i64 (-1))).heap.size) := ⟨P1, hb.setCell (p := ⟨w.heap.size, k, none⟩) (Nat.le_refl _) _, by simp [World.setCell]; exact hs⟩
      clear hrow hb P1
      go_wp2
      go_roundw
      case rel => exact ⟨k + 1, by omega, by go_num, P2.out⟩
      case measure => simp [intOf]; omega
    · have P0 : Hid (PrSt w wr m (fun _ => -1) (.slice none 0 0) []) := ⟨hrow.congr (fun i hi => by unfold fillF; rw [if_pos (by omega)]), OwnN.nil _ _, hb, fun y _ => .inl rfl, hs⟩
      clear hrow hb hs
      go_wp2
      go_loopw [12, 34] (fun vq i wr => ∃ (k : Nat) (F : Nat → Int) (queue : List Nat), i = .int .i64 k ∧ k ≤ lnx gens ∧ PrSt w wr m F vq queue ∧ DvNum T U n m (gpairs gens images k) F queue ∧ ∀ i, i < k → F (nat_ images i) = (nat_ gens i : Int)) (fun _ i _ => lnx gens - (intOf i).toNat)
      case atStart => exact ⟨0, _, [], rfl, by omega, P0.out, ⟨by simp [gpairs], List.nodup_nil, by simp, fun y _ => by simp, fun y _ h => by omega⟩, fun i hi => by omega⟩
      case round =>
        clear P0 hlt hk
        obtain ⟨k, F, queue, rfl, hk, hst, hnum, hon⟩ := hrel
        by_cases hlt : k < lnx gens
        · obtain ⟨pb, po, rfl, hpc⟩ := HI3.out (by omega)
          obtain ⟨qb, qo, rfl, hqc⟩ := HG3.out (by omega)
          have hkp := Keeps.below hst.below
          obtain ⟨hx1, hx2, hy1, hy2⟩ := HGN.out k hlt
          have d1 := hkp _ _ (hpc k hlt)
          have d2 := hkp _ _ (hqc k hlt)
          rw [hy1] at d1
          rw [hx1] at d2
          obtain ⟨x, hx⟩ : ∃ x, x = nat_ gens k := ⟨_, rfl⟩
          obtain ⟨y, hy⟩ : ∃ y, y = nat_ images k := ⟨_, rfl⟩
          rw [← hx] at d2 hx2
          rw [← hy] at d1 hy2
          have hnum2 := hnum.more (fun p hp => gpairs_mono (Nat.le_succ k) hp) (HRNG.out (k + 1) (by omega))
          have hr : DvR T U (gpairs gens images (k + 1)) y x := .base (p := (x, y)) (gpairs_mem.2 ⟨k, by omega, by rw [hx, hy]⟩)
          have cy := hst.row.cell hy2
          have fy := hst.row.frozen y
          have hql := hnum.len
          have HON : Hid (updP F y x y = (x : Int) → ∀ i, i < k + 1 → updP F y x (nat_ images i) = (nat_ gens i : Int)) := fun hfit i hi => by
            by_cases e : i = k
            · rw [e, ← hy, hfit, hx]
            · have := hon i (by omega)
              rw [updP_old (by omega), this]
          have HNUM := Lib.hid (hnum2.put hy2 hr)
          have HST := Lib.hid hst
          have HKP := Lib.hid hkp
          rcases hst.neg y hy2 with hneg | hpos
          · have hF : F y < 0 := by omega
            have hroom := hnum.room hy2 hF
            have hfit : updP F y x y = (x : Int) := by unfold updP; rw [if_pos hF, upd_same]
            rw [hneg] at cy
            have HFI := Lib.hid hfit
            obtain ⟨va, vcp, rfl, -, -, -⟩ := hst.own.shape
            clear hpc hqc hkp hx hy hnum2 hr hon hst hnum hneg hfit hx1 hy1
            go_wp2
            go_quiet (fail)
            obtain ⟨w1, hw1⟩ : ∃ w1, w1 = wr.drewN nq := ⟨_, rfl⟩
            rw [← hw1]
            have hst1 : PrSt w w1 m F (.slice va (lnx queue) vcp) queue := by rw [hw1]; exact HST.out.drewN nq
            have d1' : w1.cell? ⟨pb, po + k, none⟩ = some (.int .i64 y) := by rw [hw1]; exact d1
            have d2' : w1.cell? ⟨qb, qo + k, none⟩ = some (.int .i64 x) := by rw [hw1]; exact d2
            have cy' : w1.cell? ⟨w.heap.size, y, none⟩ = some (.int .i64 (-1)) := by rw [hw1]; exact cy
            have fy' : w1.frozen? ⟨w.heap.size, y, none⟩ = false := by rw [hw1]; exact fy
            clear hw1 d1 d2 cy fy HST
            have hsz := hst1.hb
            obtain ⟨W, hW⟩ : ∃ W, W = w1.setCell ⟨w.heap.size, y, none⟩ (.int .i64 x) := ⟨_, rfl⟩
            have o0 : Only (fun j => j = w.heap.size) w1 W := by rw [hW]; exact Only.setCell (S := fun j => j = w.heap.size) (Only.refl _ _) (p := ⟨w.heap.size, y, none⟩) (fun _ => rfl) _
            have e4 := (hst1.own.only o0 (fun k hk e => by have := (hst1.own.lt hk).1; omega)).alloc (.cells #[.int .i64 y] 3)
            have e2 := World.cell?_alloc_new W #[.int .i64 (y : Int)] 3 0
            have hszW := o0.size
            have HST1 := Lib.hid hst1
            have HWE := Lib.hid hW
            have hW' := hW.symm
            clear hst1 o0 hW
            go_wp2_with (at_builtin; refine wpList_push _ rfl _ _ 31 rfl (w.heap.size + 1) 3 (.int .i64 0) 8 Try.underlying31 Try.infoInt rfl _ _ _ rfl W.heap.size (.int .i64 y) rfl e4 e2 rfl ?_ ?_ ?_ ?_)
            · simp only [maxLen]; omega
            · omega
            · simp only [World.size_alloc]; omega
            intro r2 c2 w2 hap
            rw [HWE.out] at hap
            have HST2 := Lib.hid (HST1.out.put hF hap)
            clear hap HST1 HWE hW' e4 e2
            go_wp2
            go_roundw
            case rel => exact ⟨k + 1, _, _, by go_num, by omega, HST2.out, HNUM.out, HON.out HFI.out⟩
            case measure => simp [intOf]; omega
          · obtain ⟨a, ha⟩ : ∃ a : Nat, F y = (a : Int) := ⟨(F y).toNat, by omega⟩
            have g1 : ((a : Int) != -1) = true := bne_t (by omega)
            have g2 : ((a : Int) == -1) = false := beq_f (by omega)
            rw [ha] at cy
            have hup : updP F y x y = F y := updP_old hpos
            by_cases hfit : a = x
            · have g3 : ((a : Int) != (x : Int)) = false := bne_f (by omega)
              have HFI : Hid (updP F y x y = (x : Int)) := by show _ = _; rw [hup, ha, hfit]
              have HST2 : Hid (∀ q, PrSt w (wr.drewN q) m (updP F y x) u12 (addP F queue y)) := fun q => (hst.drewN q).keep hpos
              clear hpc hqc hkp hx hy hnum2 hr hon hst hnum hfit hx1 hy1 hup ha hpos
              go_wp2
              go_quiet (fail)
              go_wp2
              go_roundw
              case rel => exact ⟨k + 1, _, _, by go_num, by omega, HST2.out _, HNUM.out, HON.out HFI.out⟩
              case measure => simp [intOf]; omega
            · have g3 : ((a : Int) != (x : Int)) = true := bne_t (by omega)
              have HNO : Hid (¬ DvFun T U (gpairs gens images (lnx gens))) := fun hf => hnum2.clash hy2 hr (by rw [hup, ha]; omega) (hf.mono (fun p hp => gpairs_mono (by omega) hp))
              have HB := Lib.hid hst.below
              clear hpc hqc hkp hx hy hnum2 hr hon hst hnum hfit hx1 hy1 hup ha hpos
              go_wp2
              go_quiet (fail)
              go_wp2
              refine bodyPost_ret (results_tmp2 rfl _ _ _) rfl ?_
              exact ⟨_, false, rfl, Below.drewN' HB.out _, fun h => (by cases h), fun _ => HNO.out⟩
        · obtain rfl : k = lnx gens := by omega
          have P0 : Hid (∃ (F : Nat → Int) (queue : List Nat), PrSt w wr m F u12 queue ∧ DvNum T U n m (gpairs gens images (lnx gens)) F queue ∧ ∀ i, i < lnx gens → F (nat_ images i) = (nat_ gens i : Int)) := ⟨F, queue, hst, hnum, hon⟩
          clear hst hnum hon
          go_wp2
          go_loopw [12, 15] (fun vq i wr => ∃ (ii : Nat) (F : Nat → Int) (queue : List Nat), i = .int .i64 ii ∧ ii ≤ lnx queue ∧ PrSt w wr m F vq queue ∧ DvNum T U n m (gpairs gens images (lnx gens)) F queue ∧ (∀ i, i < lnx gens → F (nat_ images i) = (nat_ gens i : Int)) ∧ ∀ j, j < ii → ∀ d, d < lnx gens → DvAt T U F (nthx queue j) (nat_ gens d, nat_ images d)) (fun _ i _ => m - (intOf i).toNat)
          case atStart =>
            obtain ⟨F, queue, q1, q2, q3⟩ := P0.out
            exact ⟨0, F, queue, rfl, by omega, q1, q2, q3, fun j hj => by omega⟩
          case round =>
            clear P0 hk hlt
            obtain ⟨ii, F, queue, rfl, hii, hst, hnum, hon, hdone⟩ := hrel
            have hql := hnum.len
            obtain ⟨va, vcp, rfl, hv1, hv2, hv3⟩ := hst.own.shape
            by_cases hlt : ii < lnx queue
            · obtain ⟨gq, rfl, hgq, hqc⟩ := hv3 (by omega)
              have e1 := hqc ii hlt
              obtain ⟨y, hy⟩ : ∃ y, y = nthx queue ii := ⟨_, rfl⟩
              rw [← hy] at e1
              have hym : y ∈ queue := by rw [hy]; exact nthx_mem hlt
              have hyl := hnum.lt y hym
              have P0 : Hid (ii < lnx queue ∧ nthx queue ii = y ∧ PrSt w wr m F (.slice (some ⟨gq, 0, none⟩) (lnx queue) vcp) queue ∧ DvNum T U n m (gpairs gens images (lnx gens)) F queue ∧ (∀ i, i < lnx gens → F (nat_ images i) = (nat_ gens i : Int)) ∧ ∀ j, j < ii → ∀ d, d < lnx gens → DvAt T U F (nthx queue j) (nat_ gens d, nat_ images d)) := ⟨hlt, hy.symm, hst, hnum, hon, hdone⟩
              clear hst hnum hon hdone hv3 hqc hy hym
              go_wp2
              go_loopw [12, 84] (fun vq i wr => ∃ (dd : Nat) (F : Nat → Int) (queue : List Nat), i = .int .i64 dd ∧ dd ≤ lnx gens ∧ ii < lnx queue ∧ nthx queue ii = y ∧ PrSt w wr m F vq queue ∧ DvNum T U n m (gpairs gens images (lnx gens)) F queue ∧ (∀ i, i < lnx gens → F (nat_ images i) = (nat_ gens i : Int)) ∧ (∀ j, j < ii → ∀ d, d < lnx gens → DvAt T U F (nthx queue j) (nat_ gens d, nat_ images d)) ∧ ∀ d, d < dd → DvAt T U F y (nat_ gens d, nat_ images d)) (fun _ i _ => lnx gens - (intOf i).toNat)
              case atStart =>
                obtain ⟨q1, q2, q3, q4, q5, q6⟩ := P0.out
                exact ⟨0, F, queue, rfl, by omega, q1, q2, q3, q4, q5, q6, fun d hd => by omega⟩
              case round =>
                clear P0
                obtain ⟨dd, F, queue, rfl, hdd, hil, hye, hst, hnum, hon, hdone, hnow⟩ := hrel
                have hql2 := hnum.len
                by_cases hdl : dd < lnx gens
                · obtain ⟨pb, po, rfl, hpc⟩ := HI3.out (by omega)
                  obtain ⟨qb, qo, rfl, hqc⟩ := HG3.out (by omega)
                  have hkp := Keeps.below hst.below
                  obtain ⟨hx1, hx2, hy1, hy2⟩ := HGN.out dd hdl
                  have d1 := hkp _ _ (hpc dd hdl)
                  have d2 := hkp _ _ (hqc dd hdl)
                  rw [hy1] at d1
                  rw [hx1] at d2
                  have hpm : (nat_ gens dd, nat_ images dd) ∈ gpairs gens images (lnx gens) := gpairs_mem.2 ⟨dd, hdl, rfl⟩
                  obtain ⟨g, hg⟩ : ∃ g, g = nat_ gens dd := ⟨_, rfl⟩
                  obtain ⟨im, him⟩ : ∃ im, im = nat_ images dd := ⟨_, rfl⟩
                  rw [← hg] at d2 hx2 hpm
                  rw [← him] at d1 hy2 hpm
                  have hym : y ∈ queue := by rw [← hye]; exact nthx_mem hil
                  have hF0 := (hnum.mem y hyl).2 hym
                  obtain ⟨fx, hfx⟩ : ∃ fx : Nat, F y = (fx : Int) := ⟨(F y).toNat, by omega⟩
                  have hfxn : fx < n := by have := hnum.xlt HT.out HU.out hyl hF0; omega
                  have hTz := HT.out fx g hfxn hx2
                  have hUz := HU.out y im hyl hy2
                  have hr : DvR T U (gpairs gens images (lnx gens)) (U y im) (T fx g) := by
                    have := hnum.snd y hyl hF0
                    rw [show (F y).toNat = fx by omega] at this
                    exact .step this hpm
                  have c0 := hst.row.cell hyl
                  rw [hfx] at c0
                  have t1 := hkp _ _ (HR.out fx hfxn)
                  have t2 := hkp _ _ (HC.out fx g hfxn hx2)
                  have t3 := hkp _ _ (HUR.out y hyl)
                  have t4 := hkp _ _ (HUC.out y im hyl hy2)
                  obtain ⟨x, hx⟩ : ∃ x, x = T fx g := ⟨_, rfl⟩
                  obtain ⟨z, hz⟩ : ∃ z, z = U y im := ⟨_, rfl⟩
                  rw [← hx] at t2 hTz hr
                  rw [← hz] at t4 hUz hr
                  have cz := hst.row.cell hUz
                  have fz := hst.row.frozen z
                  have hla := addP_len F queue z
                  have HNUM := Lib.hid (hnum.put hUz hr)
                  have HNEW : Hid (updP F z x z = (x : Int) → ii < lnx (addP F queue z) ∧ nthx (addP F queue z) ii = y ∧ (∀ i, i < lnx gens → updP F z x (nat_ images i) = (nat_ gens i : Int)) ∧ (∀ j, j < ii → ∀ d, d < lnx gens → DvAt T U (updP F z x) (nthx (addP F queue z) j) (nat_ gens d, nat_ images d)) ∧ ∀ d, d < dd + 1 → DvAt T U (updP F z x) y (nat_ gens d, nat_ images d)) := fun hfit => by
                    refine ⟨by omega, by rw [addP_nth hil]; exact hye, fun i hi => ?_, fun j hj d hd => ?_, fun d hd => ?_⟩
                    · have := hon i hi
                      rw [updP_old (by omega), this]
                    · rw [addP_nth (by omega)]
                      exact (hdone j hj d hd).put _ _
                    · by_cases e : d = dd
                      · have hy3 : updP F z x y = (fx : Int) := by rw [updP_old hF0, hfx]
                        rw [e, ← hg, ← him]
                        unfold DvAt
                        simp only
                        rw [← hz, hfit, hy3]
                        refine ⟨by omega, by omega, ?_⟩
                        rw [hx]
                        rfl
                      · exact (hnow d (by omega)).put _ _
                  have HST := Lib.hid hst
                  rcases hst.neg z hUz with hneg | hpos
                  · have hF : F z < 0 := by omega
                    have hroom := hnum.room hUz hF
                    have HFI : Hid (updP F z x z = (x : Int)) := by show _ = _; unfold updP; rw [if_pos hF, upd_same]
                    rw [hneg] at cz
                    obtain ⟨va, vcp, rfl, -, -, -⟩ := hst.own.shape
                    clear hpc hqc hkp hx hz hg him hr hon hdone hnow hst hnum hneg hye hym hF0 hfx hpm hx1 hy1
                    go_wp2
                    go_quiet (fail)
                    obtain ⟨w1, hw1⟩ : ∃ w1, w1 = wr.drewN nq := ⟨_, rfl⟩
                    rw [← hw1]
                    have hst1 : PrSt w w1 m F (.slice va (lnx queue) vcp) queue := by rw [hw1]; exact HST.out.drewN nq
                    have cz' : w1.cell? ⟨w.heap.size, z, none⟩ = some (.int .i64 (-1)) := by rw [hw1]; exact cz
                    have fz' : w1.frozen? ⟨w.heap.size, z, none⟩ = false := by rw [hw1]; exact fz
                    clear hw1 d1 d2 c0 cz fz t1 t2 t3 t4 HST
                    have hsz := hst1.hb
                    obtain ⟨W, hW⟩ : ∃ W, W = w1.setCell ⟨w.heap.size, z, none⟩ (.int .i64 x) := ⟨_, rfl⟩
                    have o0 : Only (fun j => j = w.heap.size) w1 W := by rw [hW]; exact Only.setCell (S := fun j => j = w.heap.size) (Only.refl _ _) (p := ⟨w.heap.size, z, none⟩) (fun _ => rfl) _
                    have e4 := (hst1.own.only o0 (fun k hk e => by have := (hst1.own.lt hk).1; omega)).alloc (.cells #[.int .i64 z] 3)
                    have e2 := World.cell?_alloc_new W #[.int .i64 (z : Int)] 3 0
                    have hszW := o0.size
                    have HST1 := Lib.hid hst1
                    have HWE := Lib.hid hW
                    have hW' := hW.symm
                    clear hst1 o0 hW
                    go_wp2_with (at_builtin; refine wpList_push _ rfl _ _ 31 rfl (w.heap.size + 1) 3 (.int .i64 0) 8 Try.underlying31 Try.infoInt rfl _ _ _ rfl W.heap.size (.int .i64 z) rfl e4 e2 rfl ?_ ?_ ?_ ?_)
                    · simp only [maxLen]; omega
                    · omega
                    · simp only [World.size_alloc]; omega
                    intro r2 c2 w2 hap
                    rw [HWE.out] at hap
                    have HST2 := Lib.hid (HST1.out.put hF hap)
                    clear hap HST1 HWE hW' e4 e2
                    go_wp2
                    go_roundw
                    case rel =>
                      obtain ⟨a1, a2, a3, a4, a5⟩ := HNEW.out HFI.out
                      exact ⟨dd + 1, _, _, by go_num, by omega, a1, a2, HST2.out, HNUM.out, a3, a4, a5⟩
                    case measure => simp [intOf]; omega
                  · obtain ⟨a, ha⟩ : ∃ a : Nat, F z = (a : Int) := ⟨(F z).toNat, by omega⟩
                    have g1 : ((a : Int) != -1) = true := bne_t (by omega)
                    have g2 : ((a : Int) == -1) = false := beq_f (by omega)
                    rw [ha] at cz
                    have hup : updP F z x z = F z := updP_old hpos
                    by_cases hfit : a = x
                    · have g3 : ((a : Int) != (x : Int)) = false := bne_f (by omega)
                      have HFI : Hid (updP F z x z = (x : Int)) := by show _ = _; rw [hup, ha, hfit]
                      have HST2 : Hid (∀ q, PrSt w (wr.drewN q) m (updP F z x) u12 (addP F queue z)) := fun q => (hst.drewN q).keep hpos
                      clear hpc hqc hkp hx hz hg him hr hon hdone hnow hst hnum hye hym hF0 hfx hpm hx1 hy1 hup ha hpos hfit HST
                      go_wp2
                      go_quiet (fail)
                      go_wp2
                      go_roundw
                      case rel =>
                        obtain ⟨a1, a2, a3, a4, a5⟩ := HNEW.out HFI.out
                        exact ⟨dd + 1, _, _, by go_num, by omega, a1, a2, HST2.out _, HNUM.out, a3, a4, a5⟩
                      case measure => simp [intOf]; omega
                    · have g3 : ((a : Int) != (x : Int)) = true := bne_t (by omega)
                      have HNO : Hid (¬ DvFun T U (gpairs gens images (lnx gens))) := hnum.clash hUz hr (by rw [hup, ha]; omega)
                      have HB := Lib.hid hst.below
                      clear hpc hqc hkp hx hz hg him hr hon hdone hnow hst hnum hye hym hF0 hfx hpm hx1 hy1 hup ha hpos hfit HST
                      go_wp2
                      go_quiet (fail)
                      go_wp2
                      refine bodyPost_ret (results_tmp2 rfl _ _ _) rfl ?_
                      exact ⟨_, false, rfl, Below.drewN' HB.out _, fun h => (by cases h), fun _ => HNO.out⟩
                · have P1 : Hid (ii + 1 ≤ lnx queue ∧ PrSt w wr m F u12 queue ∧ DvNum T U n m (gpairs gens images (lnx gens)) F queue ∧ (∀ i, i < lnx gens → F (nat_ images i) = (nat_ gens i : Int)) ∧ ∀ j, j < ii + 1 → ∀ d, d < lnx gens → DvAt T U F (nthx queue j) (nat_ gens d, nat_ images d)) := by
                    refine ⟨hil, hst, hnum, hon, fun j hj d hd => ?_⟩
                    by_cases e : j = ii
                    · rw [e, hye]; exact hnow d (by omega)
                    · exact hdone j (by omega) d hd
                  have hil2 : ii < m := by omega
                  clear hst hnum hon hdone hnow hye
                  go_wp2
                  go_roundw
                  case rel => exact ⟨ii + 1, F, queue, by go_num, P1.out⟩
                  case measure => simp [intOf]; omega
            · have hcl : DvClosed T U (gpairs gens images (lnx gens)) F queue := by
                refine ⟨fun p hp => ?_, fun y hy p hp => ?_⟩
                · obtain ⟨i, hi, rfl⟩ := gpairs_mem.1 hp
                  exact hon i hi
                · obtain ⟨j, hj, rfl⟩ := mem_nthx hy
                  obtain ⟨i, hi, rfl⟩ := gpairs_mem.1 hp
                  exact (hdone j (by omega) i hi).2.2
              have hres : DvRes T U m (gpairs gens images (lnx gens)) F := DvRes.of (fun y x hr => hcl.graph hnum HT.out HU.out hr) hnum.snd
              have P1 : Hid (PairsPost w m T U (gpairs gens images (lnx gens)) (.returned (.tuple #[.slice (some ⟨w.heap.size, 0, none⟩) m m, .bool true])) wr) := ⟨_, true, rfl, hst.below, fun _ => ⟨F, rfl, hst.row, hres, hst.neg⟩, fun h => (by cases h)⟩
              clear hst hnum hon hdone hcl hres hv3
              go_wp2
              refine bodyPost_ret (results_tmp2 rfl _ _ _) rfl ?_
              exact P1.out
end Go.Proofs.Ytgghmjnbkbiffaa

namespace Go.Proofs.Ytgghmjnbkbiffaa
open Go.RowKit
set_option linter.unusedVariables false

theorem Gen.some {n : Nat} {T : Nat → Nat → Nat} {gens : List Int} {x : Nat} (h : Gen n T gens x) : 0 < lnx gens := by
  induction h with
  | base i hi _ _ => omega
  | mul _ _ h1 _ => exact h1

set_option maxHeartbeats 1000000 in
theorem mayGens_any (w : World) (vt vg : Value) (t : List (List Int)) (gens : List Int) (ht : Rows2 w vt t) (hg : Ints w vg gens) (v1 : vErr t = 0) :
    Calls Try.prog 81 #[vt, vg] w fun e w' => e = .returned (.bool (gensB t gens)) ∧ Below w.heap.size w w' := by
  have htab := Tab.of_rows ht (vErr_inv v1).1
  have h0 := (shape_inv (vErr_inv v1).1).1
  have H2 := Lib.hid (generated_any w (lnx t) (tabOf t) vt vg gens htab hg)
  have HG := Lib.hid hg
  obtain ⟨b, o, cap, rb, ro, rc, rfl, -, h4, -, -, -⟩ := htab
  have H1 := inRef_any w (some ⟨b, o, none⟩) cap (lnx t) (by omega) vg gens hg
  obtain ⟨ga, gc, rfl, hg1, hg2, -⟩ := hg
  clear ht
  by_cases hz : 0 < lnx gens
  case neg =>
    have HE : Hid (gensB t gens = false) := gensB_f (fun hh => hz (Gen.some (hh.2 0 h0)))
    replace H1 := Lib.hid H1
    clear v1
    go_enter Try.func81, Try.ntmps81
    go_wp2
    go_ret
    exact ⟨by rw [HE.out]; rfl, Below.refl _ _⟩
  cases hin : inB (lnx t) gens with
  | false =>
    have HE : Hid (gensB t gens = false) := gensB_f (fun hh => by rw [hin] at hh; cases hh.1)
    rw [hin] at H1
    replace H1 := Lib.hid H1
    clear v1 hin
    go_enter Try.func81, Try.ntmps81
    go_wp2_with fail
    refine H1.out.mono ?_
    rintro e w1 ⟨rfl, rfl⟩
    go_wp2
    go_ret
    exact ⟨by rw [HE.out]; rfl, Below.refl _ _⟩
  | true =>
    have HE : Hid (gensB t gens = ((lnx (natsOf ((List.range (lnx t)).filter (genB (lnx t) (tabOf t) gens))) : Int) == (lnx t : Int))) := by
      show _ = _
      by_cases e : lnx (natsOf ((List.range (lnx t)).filter (genB (lnx t) (tabOf t) gens))) = lnx t
      · rw [beq_t (by omega)]
        exact gensB_t hin (all_gen.1 e)
      · rw [beq_f (by omega)]
        exact gensB_f (fun hh => e (all_gen.2 hh.2))
    rw [hin] at H1
    replace H1 := Lib.hid H1
    clear v1 hin
    go_enter Try.func81, Try.ntmps81
    go_wp2_with fail
    refine H1.out.mono ?_
    rintro e w1 ⟨rfl, rfl⟩
    go_wp2_with fail
    refine H2.out.mono ?_
    rintro e w2 ⟨v, rfl, hv, hb⟩
    obtain ⟨va, vc, rfl, -, -, -⟩ := hv
    have HB := Lib.hid hb
    clear hb
    go_wp2
    go_ret
    exact ⟨by rw [HE.out]; rfl, HB.out⟩

/-- The errors of Map but the last. -/
noncomputable def dvPre (t : List (List Int)) (gens : List Int) (s : List (List Int)) (images : List Int) : Int :=
  if vErr t ≠ 0 then vErr t else if gensB t gens = false then 1 else if vErr s ≠ 0 then vErr s else if lnx images ≠ lnx gens then 1 else if inB (lnx s) images = false then 1 else 0
theorem dvPre_err {t : List (List Int)} {gens : List Int} {s : List (List Int)} {images : List Int} (h : dvPre t gens s images ≠ 0) : dvErr t gens s images = dvPre t gens s images := by
  unfold dvErr dvPre at *
  split
  · rfl
  split
  · rfl
  split
  · rfl
  split
  · rfl
  split
  · rfl
  · exfalso
    simp_all
theorem dvPre_inv {t : List (List Int)} {gens : List Int} {s : List (List Int)} {images : List Int} (h : dvPre t gens s images = 0) : vErr t = 0 ∧ gensB t gens = true ∧ vErr s = 0 ∧ lnx images = lnx gens ∧ inB (lnx s) images = true := by
  unfold dvPre at h
  by_cases h1 : vErr t = 0
  · rw [if_neg (by simpa using h1)] at h
    cases h2 : gensB t gens with
    | false => rw [h2, if_pos rfl] at h; exact absurd h (by decide)
    | true =>
      rw [h2, if_neg (by simp)] at h
      by_cases h3 : vErr s = 0
      · rw [if_neg (by simpa using h3)] at h
        by_cases h4 : lnx images = lnx gens
        · rw [if_neg (by simpa using h4)] at h
          cases h5 : inB (lnx s) images with
          | false => rw [h5, if_pos rfl] at h; exact absurd h (by decide)
          | true => exact ⟨h1, rfl, h3, h4, rfl⟩
        · rw [if_pos h4] at h; exact absurd h (by decide)
      · rw [if_pos h3] at h; exact absurd h h3
  · rw [if_pos h1] at h; exact absurd h h1

set_option maxRecDepth 100000 in
set_option maxHeartbeats 2000000 in
theorem refMay_any (w : World) (vt vg vu vi : Value) (t : List (List Int)) (gens : List Int) (s : List (List Int)) (images : List Int) (ht : Rows2 w vt t) (hg : Ints w vg gens) (hs : Rows2 w vu s) (hi : Ints w vi images) :
    Calls Try.prog 77 #[vt, vg, vu, vi] w fun e w' => e = .returned (.int .i64 (dvPre t gens s images)) ∧ Below w.heap.size w w' := by
  have H1 := validateRef_any w vt t ht
  have H3 := (fun W (hb : Below w.heap.size w W) => validateRef_any W vu s (hs.keep (Keeps.below hb)))
  have HT := Lib.hid ht
  have HG := Lib.hid hg
  have HI := Lib.hid hi
  obtain ⟨sa, sc, rfl, hs1, hs2, -⟩ := hs
  have H4 := (fun W (hb : Below w.heap.size w W) => inRef_any W sa sc (lnx s) (by omega) vi images (hi.keep (Keeps.below hb)))
  obtain ⟨ga, gc, rfl, hg1, hg2, -⟩ := hg
  obtain ⟨ia, ic, rfl, hi1, hi2, -⟩ := hi
  clear ht
  by_cases v1 : vErr t = 0
  case neg =>
    have g1 : (vErr t != 0) = true := bne_t v1
    have HE : Hid (dvPre t gens s images = vErr t) := by show _ = _; unfold dvPre; rw [if_pos v1]
    replace H1 := Lib.hid H1
    replace H3 := Lib.hid H3
    replace H4 := Lib.hid H4
    clear v1
    go_enter Try.func77, Try.ntmps77
    go_wp2_with fail
    refine H1.out.mono ?_
    rintro e w1 ⟨rfl, hq⟩
    have HB := Lib.hid (Below.quiet hq)
    clear hq
    go_wp2
    go_ret
    exact ⟨by rw [HE.out]; rfl, HB.out⟩
  have H2 := (fun W (hb : Below w.heap.size w W) => mayGens_any W vt _ t gens (HT.out.keep (Keeps.below hb)) (HG.out.keep (Keeps.below hb)) v1)
  rw [v1] at H1
  replace H1 := Lib.hid H1
  cases hgb : gensB t gens with
  | false =>
    rw [hgb] at H2
    have HE : Hid (dvPre t gens s images = 1) := by show _ = _; unfold dvPre; rw [if_neg (by simpa using v1), if_pos hgb]
    replace H2 := Lib.hid H2
    replace H3 := Lib.hid H3
    replace H4 := Lib.hid H4
    clear v1 hgb
    go_enter Try.func77, Try.ntmps77
    go_wp2_with fail
    refine H1.out.mono ?_
    rintro e w1 ⟨rfl, hq⟩
    have HB := Lib.hid (Below.quiet hq)
    clear hq
    go_wp2_with fail
    refine (H2.out _ HB.out).mono ?_
    rintro e w2 ⟨rfl, hb⟩
    have HB2 := Lib.hid (belowThen HB.out hb)
    clear hb
    go_wp2
    go_ret
    exact ⟨by rw [HE.out]; rfl, HB2.out⟩
  | true =>
  rw [hgb] at H2
  replace H2 := Lib.hid H2
  by_cases v2 : vErr s = 0
  case neg =>
    have g1 : (vErr s != 0) = true := bne_t v2
    have HE : Hid (dvPre t gens s images = vErr s) := by show _ = _; unfold dvPre; rw [if_neg (by simpa using v1), if_neg (by simp [hgb]), if_pos v2]
    replace H3 := Lib.hid H3
    replace H4 := Lib.hid H4
    clear v1 hgb v2
    go_enter Try.func77, Try.ntmps77
    go_wp2_with fail
    refine H1.out.mono ?_
    rintro e w1 ⟨rfl, hq⟩
    have HB := Lib.hid (Below.quiet hq)
    clear hq
    go_wp2_with fail
    refine (H2.out _ HB.out).mono ?_
    rintro e w2 ⟨rfl, hb⟩
    have HB2 := Lib.hid (belowThen HB.out hb)
    clear hb
    go_wp2_with fail
    refine (H3.out _ HB2.out).mono ?_
    rintro e w3 ⟨rfl, hq⟩
    have HB3 := Lib.hid (belowThen HB2.out (Below.quiet hq))
    clear hq
    go_wp2
    go_ret
    exact ⟨by rw [HE.out]; rfl, HB3.out⟩
  rw [v2] at H3
  replace H3 := Lib.hid H3
  by_cases hl : lnx images = lnx gens
  case neg =>
    have g1 : ((lnx images : Int) != (lnx gens : Int)) = true := bne_t (by omega)
    have HE : Hid (dvPre t gens s images = 1) := by show _ = _; unfold dvPre; rw [if_neg (by simpa using v1), if_neg (by simp [hgb]), if_neg (by simpa using v2), if_pos hl]
    replace H4 := Lib.hid H4
    clear v1 hgb v2 hl
    go_enter Try.func77, Try.ntmps77
    go_wp2_with fail
    refine H1.out.mono ?_
    rintro e w1 ⟨rfl, hq⟩
    have HB := Lib.hid (Below.quiet hq)
    clear hq
    go_wp2_with fail
    refine (H2.out _ HB.out).mono ?_
    rintro e w2 ⟨rfl, hb⟩
    have HB2 := Lib.hid (belowThen HB.out hb)
    clear hb
    go_wp2_with fail
    refine (H3.out _ HB2.out).mono ?_
    rintro e w3 ⟨rfl, hq⟩
    have HB3 := Lib.hid (belowThen HB2.out (Below.quiet hq))
    clear hq
    go_wp2
    go_ret
    exact ⟨by rw [HE.out]; rfl, HB3.out⟩
  have g1 : ((lnx images : Int) != (lnx gens : Int)) = false := bne_f (by omega)
  have HE : Hid (dvPre t gens s images = if inB (lnx s) images = false then 1 else 0) := by show _ = _; unfold dvPre; rw [if_neg (by simpa using v1), if_neg (by simp [hgb]), if_neg (by simpa using v2), if_neg (by simpa using hl)]
  clear v1 hgb v2 hl
  cases hin : inB (lnx s) images with
  | false =>
    rw [hin] at H4 HE
    rw [if_pos rfl] at HE
    replace H4 := Lib.hid H4
    clear hin
    go_enter Try.func77, Try.ntmps77
    go_wp2_with fail
    refine H1.out.mono ?_
    rintro e w1 ⟨rfl, hq⟩
    have HB := Lib.hid (Below.quiet hq)
    clear hq
    go_wp2_with fail
    refine (H2.out _ HB.out).mono ?_
    rintro e w2 ⟨rfl, hb⟩
    have HB2 := Lib.hid (belowThen HB.out hb)
    clear hb
    go_wp2_with fail
    refine (H3.out _ HB2.out).mono ?_
    rintro e w3 ⟨rfl, hq⟩
    have HB3 := Lib.hid (belowThen HB2.out (Below.quiet hq))
    clear hq
    go_wp2_with fail
    refine (H4.out _ HB3.out).mono ?_
    rintro e w4 ⟨rfl, rfl⟩
    go_wp2
    go_ret
    exact ⟨by rw [HE.out]; rfl, HB3.out⟩
  | true =>
    rw [hin] at H4 HE
    rw [if_neg (by simp)] at HE
    replace H4 := Lib.hid H4
    clear hin
    go_enter Try.func77, Try.ntmps77
    go_wp2_with fail
    refine H1.out.mono ?_
    rintro e w1 ⟨rfl, hq⟩
    have HB := Lib.hid (Below.quiet hq)
    clear hq
    go_wp2_with fail
    refine (H2.out _ HB.out).mono ?_
    rintro e w2 ⟨rfl, hb⟩
    have HB2 := Lib.hid (belowThen HB.out hb)
    clear hb
    go_wp2_with fail
    refine (H3.out _ HB2.out).mono ?_
    rintro e w3 ⟨rfl, hq⟩
    have HB3 := Lib.hid (belowThen HB2.out (Below.quiet hq))
    clear hq
    go_wp2_with fail
    refine (H4.out _ HB3.out).mono ?_
    rintro e w4 ⟨rfl, rfl⟩
    go_wp2
    go_ret
    exact ⟨by rw [HE.out]; rfl, HB3.out⟩

set_option maxRecDepth 100000 in
set_option maxHeartbeats 2000000 in
theorem refMap_any (w : World) (vt vg vu vi : Value) (t : List (List Int)) (gens : List Int) (s : List (List Int)) (images : List Int) (ht : Rows2 w vt t) (hg : Ints w vg gens) (hs : Rows2 w vu s) (hi : Ints w vi images) :
    Calls Try.prog 42 #[vt, vg, vu, vi] w (MapPost w t gens s images) := by
  have H1 := refMay_any w vt vg vu vi t gens s images ht hg hs hi
  by_cases hpre : dvPre t gens s images = 0
  case neg =>
    have g1 : (dvPre t gens s images != 0) = true := bne_t hpre
    have HE := Lib.hid (dvPre_err hpre)
    have HN := Lib.hid hpre
    replace H1 := Lib.hid H1
    clear ht hg hs hi hpre
    go_enter Try.func42, Try.ntmps42
    go_wp2_with fail
    refine H1.out.mono ?_
    rintro e w1 ⟨rfl, hb⟩
    have HB := Lib.hid hb
    clear hb
    go_wp2
    refine bodyPost_ret (results_tmp3 rfl _ _ _) rfl ?_
    exact map_bad HB.out HE.out HN.out
  rw [hpre] at H1
  replace H1 := Lib.hid H1
  obtain ⟨v1, vg1, v2, hl, hin⟩ := dvPre_inv hpre
  have uh4 := (shape_inv (vErr_inv v2).1).2.1
  have HERR0 : Hid (DvFun (tabOf t) (tabOf s) (gpairs gens images (lnx gens)) → dvErr t gens s images = 0) := fun h => dvErr_0 v1 vg1 v2 hl hin h
  have HERR9 : Hid (¬ DvFun (tabOf t) (tabOf s) (gpairs gens images (lnx gens)) → dvErr t gens s images = 9) := fun h => dvErr_6 v1 vg1 v2 hl hin h
  have H2 := Lib.hid (fun W (hb : Below w.heap.size w W) => pairs_any W (lnx t) (lnx s) (tabOf t) (tabOf s) vt vg vu vi gens images ((Tab.of_rows ht (vErr_inv v1).1).keep (Keeps.below hb)) ((Tab.of_rows hs (vErr_inv v2).1).keep (Keeps.below hb)) (hg.keep (Keeps.below hb)) (hi.keep (Keeps.below hb)) hl (gensB_inv vg1).1 hin)
  clear ht hg hs hi hpre v1 vg1 v2 hl hin
  go_enter Try.func42, Try.ntmps42
  go_wp2_with fail
  refine H1.out.mono ?_
  rintro e w1 ⟨rfl, hb⟩
  have HB1 := Lib.hid hb
  clear hb H1
  go_wp2_with fail
  refine (H2.out _ HB1.out).mono ?_
  rintro e w9 ⟨v, ok, rfl, hb, hyes, hno⟩
  have HB2 := Lib.hid (belowThen HB1.out hb)
  cases ok with
  | false =>
    have HE := Lib.hid (HERR9.out (hno rfl))
    clear hb hyes hno H2
    go_wp2
    refine bodyPost_ret (results_tmp3 rfl _ _ _) rfl ?_
    exact map_bad HB2.out HE.out (by decide)
  | true =>
    obtain ⟨F, rfl, hrow, hres, hneg⟩ := hyes rfl
    have HE := Lib.hid (HERR0.out hres.fn)
    have HOF := Lib.hid hrow
    have HRS := Lib.hid hres
    have HNEG := Lib.hid hneg
    clear hb hyes hno hrow hres hneg H2 HERR0 HERR9
    go_wp2
    go_loopw [14, 15, 38] (fun va vb i wz => ∃ y : Nat, y ≤ lnx s ∧ i = .int .i64 y ∧ Below w9.heap.size w9 wz ∧ OwnN wz w9.heap.size va (dvEl (tabOf t) (tabOf s) (gpairs gens images (lnx gens)) y) ∧ OwnN wz w9.heap.size vb (dvVal (tabOf t) (tabOf s) (gpairs gens images (lnx gens)) y) ∧ (∀ k, va.ownBlock = some k → vb.ownBlock ≠ some k)) (fun _ _ i _ => lnx s - (intOf i).toNat)
    case atStart => exact ⟨0, by omega, rfl, Below.refl _ _, OwnN.nil _ _, OwnN.nil _ _, by simp [Value.ownBlock]⟩
    case round =>
      obtain ⟨y, hy, rfl, hb, hoa, hob, hne⟩ := hrel
      have hsz := hb.size
      have hl1 := dvEl_len (tabOf t) (tabOf s) (gpairs gens images (lnx gens)) y
      have hl2 := dvVal_len (tabOf t) (tabOf s) (gpairs gens images (lnx gens)) y
      by_cases hlt : y < lnx s
      · have c1 := (Keeps.below hb) _ _ (HOF.out.cell hlt)
        have hs1 := dvEl_succ (tabOf t) (tabOf s) (gpairs gens images (lnx gens)) y
        have hs2 := dvVal_succ (tabOf t) (tabOf s) (gpairs gens images (lnx gens)) y
        rw [HRS.out.has hlt] at hs1 hs2
        by_cases hpos : 0 ≤ F y
        · rw [if_pos (by simpa using hpos)] at hs1 hs2
          rw [← HRS.out.pos y hlt hpos] at hs2
          obtain ⟨x, hx⟩ : ∃ x : Nat, F y = (x : Int) := ⟨(F y).toNat, by omega⟩
          have g1 : ((x : Int) != -1) = true := bne_t (by omega)
          rw [hx, Int.toNat_natCast] at hs2
          rw [hx] at c1
          have e4 := hoa.alloc (.cells #[.int .i64 y] 3)
          have e2 := World.cell?_alloc_new wr #[.int .i64 (y : Int)] 3 0
          have HOA := Lib.hid hoa
          have HOB := Lib.hid hob
          have HNE := Lib.hid hne
          have HBB := Lib.hid hb
          have HS1 := Lib.hid hs1
          have HS2 := Lib.hid hs2
          clear hoa hob hne hb hs1 hs2 hpos hx
          obtain ⟨EL, hEL⟩ : ∃ EL, EL = dvEl (tabOf t) (tabOf s) (gpairs gens images (lnx gens)) y := ⟨_, rfl⟩
          obtain ⟨VL, hVL⟩ : ∃ VL, VL = dvVal (tabOf t) (tabOf s) (gpairs gens images (lnx gens)) y := ⟨_, rfl⟩
          rw [← hEL] at e4 HOA HS1 hl1
          rw [← hVL] at HOB HS2 hl2
          clear hEL hVL
          go_wp2_with (at_builtin; refine wpList_push _ rfl _ _ 31 rfl w9.heap.size 3 (.int .i64 0) 8 Try.underlying31 Try.infoInt rfl _ _ _ rfl wr.heap.size (.int .i64 y) rfl e4 e2 rfl ?_ ?_ ?_ ?_)
          · simp only [maxLen]; omega
          · omega
          · simp only [World.size_alloc]; omega
          intro r2 c2 w2 hap
          have o2 : Only (fun k => u14.ownBlock = some k) wr w2 := Only.grown ((Only.refl _ wr).alloc _) hap.grown (fun k hk e => e)
          have hob2 : OwnN w2 w9.heap.size u15 VL := HOB.out.only o2 (fun k hk e => HNE.out k e hk)
          have hoa2 : OwnN w2 w9.heap.size (.slice (some ⟨r2, 0, none⟩) (lnx EL + 1) c2) (EL ++ [y]) := OwnN.push hap.own
          have hne2 : ∀ k, u15.ownBlock = some k → k ≠ r2 := fun k hk e => by
            rcases hap.at_ (k := r2) rfl with h1 | h1
            · exact HNE.out k (by rw [e]; exact h1) hk
            · have := (HOB.out.lt hk).2
              simp at h1
              omega
          have hs3 := o2.size
          have e5 := hob2.alloc (.cells #[.int .i64 x] 3)
          have e6 := World.cell?_alloc_new w2 #[.int .i64 (x : Int)] 3 0
          have hb2 : Below w9.heap.size w9 w2 := HBB.out.trans (o2.below (fun k hk e => by have := (HOA.out.lt e).1; omega) (by omega))
          have HOA2 := Lib.hid hoa2
          have HOB2 := Lib.hid hob2
          have HNE2 := Lib.hid hne2
          have HB2' := Lib.hid hb2
          clear hap o2 hob2 hoa2 hne2 e4 e2 HOA HOB HNE HBB hb2
          go_wp2_with (at_builtin; refine wpList_push _ rfl (.tmp 49) (.tmp 51) 31 rfl w9.heap.size 3 (.int .i64 0) 8 Try.underlying31 Try.infoInt rfl _ _ _ rfl w2.heap.size (.int .i64 x) rfl e5 e6 rfl ?_ ?_ ?_ ?_)
          · simp only [maxLen]; omega
          · omega
          · simp only [World.size_alloc]; omega
          intro r3 c3 w3 hap
          have o3 : Only (fun k => u15.ownBlock = some k) w2 w3 := Only.grown ((Only.refl _ w2).alloc _) hap.grown (fun k hk e => e)
          have P1 : Hid (Below w9.heap.size w9 w3 ∧ OwnN w3 w9.heap.size (.slice (some ⟨r2, 0, none⟩) (lnx EL + 1) c2) (EL ++ [y]) ∧ OwnN w3 w9.heap.size (.slice (some ⟨r3, 0, none⟩) (lnx VL + 1) c3) (VL ++ [x]) ∧ (∀ k, (Value.slice (some ⟨r2, 0, none⟩) (lnx EL + 1) c2).ownBlock = some k → (Value.slice (some ⟨r3, 0, none⟩) (lnx VL + 1) c3).ownBlock ≠ some k)) := by
            refine ⟨HB2'.out.trans (o3.below (fun k hk e => by have := (HOB2.out.lt e).1; omega) (by omega)), HOA2.out.only o3 (fun k hk e => ?_), OwnN.push hap.own, fun k hk e => ?_⟩
            · simp [Value.ownBlock] at hk
              exact HNE2.out k e hk.symm
            · simp [Value.ownBlock] at hk
              subst hk
              rcases hap.at_ e with h1 | h1
              · exact HNE2.out r2 h1 rfl
              · have := (HOA2.out.lt (k := r2) rfl).2
                simp at h1
                omega
          clear hap o3 HOA2 HOB2 HNE2 HB2' e5 e6
          go_wp2
          go_roundw
          case rel => exact ⟨y + 1, by omega, by go_num, P1.out.1, by rw [HS1.out]; exact P1.out.2.1, by rw [HS2.out]; exact P1.out.2.2.1, P1.out.2.2.2⟩
          case measure => simp [intOf]; omega
        · rw [if_neg (by simpa using hpos)] at hs1 hs2
          have hm1 : F y = -1 := by rcases HNEG.out y hlt with h | h; exact h; exact absurd h hpos
          rw [hm1] at c1
          have P1 : Hid (Below w9.heap.size w9 wr ∧ OwnN wr w9.heap.size u14 (dvEl (tabOf t) (tabOf s) (gpairs gens images (lnx gens)) (y + 1)) ∧ OwnN wr w9.heap.size u15 (dvVal (tabOf t) (tabOf s) (gpairs gens images (lnx gens)) (y + 1)) ∧ (∀ k, u14.ownBlock = some k → u15.ownBlock ≠ some k)) := ⟨hb, by rw [hs1]; exact hoa, by rw [hs2]; exact hob, hne⟩
          clear hb hoa hob hne hs1 hs2 hm1
          go_wp2
          go_roundw
          case rel => exact ⟨y + 1, by omega, by go_num, P1.out⟩
          case measure => simp [intOf]; omega
      · obtain rfl : y = lnx s := by omega
        have P1 : Hid (MapPost w t gens s images (.returned (.tuple #[u14, u15, .int .i64 0])) wr) := by
          refine ⟨_, _, by rw [HE.out], ?_, ?_, belowThen HB2.out hb, .of hoa HB2.out.size, .of hob HB2.out.size⟩
          · unfold dvA; rw [HE.out, if_pos rfl]; exact hoa.ints
          · unfold dvB; rw [HE.out, if_pos rfl]; exact hob.ints
        clear hb hoa hob hne
        go_wp2
        refine bodyPost_ret (results_tmp3 rfl _ _ _) rfl ?_
        exact P1.out
end Go.Proofs.Ytgghmjnbkbiffaa
