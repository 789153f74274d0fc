/-
  An argument of a law that is an automaton (api.DFA), as a tree of the logic.
-/
import Derived.Test.YtnffigeofdagfaaDoorZoaz
import Derived.Test.YtnffigeofdagfaaDoorZoay
import Derived.Deep.Grids
namespace Go.Proofs.YtnffigeofdagfaaDoor
open Go.ChangeShapes Go.WideShapes Go.ChangeAt Go.RowKit
set_option linter.unusedVariables false
set_option linter.unusedSimpArgs false

theorem addrD_none {w : World} {a : Addr} {v : Value} (h : w.cell? (a.add 0) = some v) : ∃ b o, a = ⟨b, o, none⟩ := by
 obtain ⟨b, o, sp⟩ := a
 have h2 : (⟨b, o, sp⟩ : Addr).add 0 = ⟨b, o, sp⟩ := by simp [Addr.add]
 rw [h2] at h
 have := World.cell?_spot h
 simp at this
 subst this
 exact ⟨b, o, rfl⟩
section
variable {H : Type} {enc : TypeId × Value → H} {W : World} {held : Bool} {m : M.Mem}
set_option maxRecDepth 100000 in
theorem kintsD_rep0 (hm : ∀ b o u, W.cell? ⟨b, o, none⟩ = some u → m b o = some u) {t e : TypeId} {k : IntKind} {fuel : Nat} {cs : List Value} {x : DataW H × List MemPlace} (ht : Tryd.prog.underlying t = some (.slice e)) (he : Tryd.prog.underlying e = some (.int k)) (hc : Tryd.prog.cellsOf e = 1)
  (hf : DataW.trod enc Tryd.prog W 0 (fun _ => true) held fuel t cs = some x) : ∃ (v : Value) (xs : List Int), cs = [v] ∧ M.Rep m v (.sl 1 (xs.map (.int k))) := by
 rcases Go.ChangeShapes.open_ints ht he hc hf with ⟨hcs, _⟩ | ⟨ad, l, c, zs, hcs, _, hl, hmx, hz, _, hcell, hwf⟩
 ·exact ⟨_, [], hcs, .nil 1⟩
 ·simp only [if_true] at hz
  by_cases h0 : c = 0
  ·subst h0
   obtain rfl : l = 0 := by omega
   exact ⟨_, [], hcs, .emp ad 1 (by decide)⟩
  ·obtain ⟨b, o, rfl⟩ := addrD_none (hcell 0 (by omega))
   refine ⟨_, zs.take l, hcs, .sl b o l c 1 _ (fun i => .int k (zs.getD i 0)) (by omega) (by simp [hz]; omega) hl (by simpa [maxLen] using hmx) (fun i x hi => ?_) (fun i x hi => ?_)⟩
   all_goals
    have hi' : i < l := by have := (List.getElem?_eq_some_iff.1 hi).1; simp at this; omega
   ·have := hcell i (by omega)
    rw [Addr.add_lit] at this
    exact hm _ _ _ this
   ·have hz' : i < zs.length := by omega
    simp [hi', hz'] at hi
    subst hi
    rw [List.getD_eq_getElem?_getD, List.getElem?_eq_getElem hz', Option.getD_some]
    exact .int _ _
set_option maxRecDepth 100000 in
theorem rowsD_rep0 (hm : ∀ b o u, W.cell? ⟨b, o, none⟩ = some u → m b o = some u) {fuel : Nat} {cs : List Value} {x : DataW H × List MemPlace}
  (hf : DataW.trod enc Tryd.prog W 0 (fun _ => true) held fuel 30 cs = some x) : ∃ (v : Value) (xs : List (List Int)), cs = [v] ∧ M.Rep m v (M.rows xs) := by
 have hc1 : Tryd.prog.cellsOf 22 = 1 := by kernel_rfl
 rcases DataW.trod_slice Tryd.underlying30 hf with ⟨hcs, _⟩ | ⟨a, len, cap, elems, rest, n2, hfu, hcs, -, -, hle, hcap, hel, hel2, hsp, -⟩
 ·exact ⟨_, [], hcs, .nil 1⟩
 ·rw [hc1] at hel2 hsp
  obtain ⟨hrl, hr2⟩ := hsp rfl
  have hEach : ∀ i, i < len → ∃ cs', W.cells? 0 (a.add (i * 1)) 1 = some cs' ∧ ∃ y, DataW.trod enc Tryd.prog W 0 (fun _ => true) held n2 22 cs' = some y := fun i hi => by
   have h1 := hel2 i hi
   rw [List.getElem?_eq_getElem (by omega), Option.bind_eq_some_iff] at h1
   obtain ⟨cs', h2, h3⟩ := h1
   exact ⟨cs', h2, _, h3⟩
  have hT : ∀ i : Nat, ∃ r : List Int, i < len → ∃ u, W.cell? (a.add i) = some u ∧ M.Rep m u (M.ints r) := fun i => by
   by_cases hi : i < len
   ·obtain ⟨cs', h2, y, h3⟩ := hEach i hi
    obtain ⟨v, r, rfl, h4⟩ := kintsD_rep0 hm Tryd.underlying22 Tryd.underlying3 (by kernel_rfl) h3
    refine ⟨r, fun _ => ⟨v, ?_, h4⟩⟩
    rw [Nat.mul_one] at h2
    exact Go.ChangeShapes.cell_of_cells?_one h2
   ·exact ⟨[], fun h => absurd h hi⟩
  obtain ⟨F, hF⟩ := Classical.axiomOfChoice hT
  by_cases hcap0 : cap = 0
  ·subst hcap0
   obtain rfl : len = 0 := by omega
   exact ⟨_, [], hcs, .emp a 1 (by decide)⟩
  ·obtain ⟨b, off, rfl⟩ : ∃ b off, a = ⟨b, off, none⟩ := by
    have hcell : ∃ cs', W.cells? 0 (a.add 0) 1 = some cs' := by
     by_cases h0 : 0 < len
     ·obtain ⟨cs', h2, -⟩ := hEach 0 h0
      exact ⟨cs', h2⟩
     ·obtain rfl : len = 0 := by omega
      have h1 := hr2 0 (by omega)
      rw [List.getElem?_eq_getElem (by omega), Option.bind_eq_some_iff] at h1
      obtain ⟨cs', h2, -⟩ := h1
      exact ⟨cs', h2⟩
    obtain ⟨cs', h2⟩ := hcell
    obtain ⟨-, h3, h4⟩ := World.cells?_some h2
    have h5 := h4 0 (by omega)
    rw [List.getElem?_eq_getElem (by omega)] at h5
    have e : (a.add 0).add 0 = a.add 0 := by
     unfold Addr.add; simp
    rw [e] at h5
    exact addrD_none h5
   refine ⟨_, (List.range len).map F, hcs, .sl b off len cap 1 _ (fun k => (W.cell? ⟨b, off + k, none⟩).getD undef) (by decide) (by simp) hle (by simpa [maxLen] using hcap) (fun k c hk => ?_) (fun k c hk => ?_)⟩
   all_goals
    have hi' : k < len := by have := (List.getElem?_eq_some_iff.1 hk).1; simpa using this
    simp [hi'] at hk
    subst hk
    obtain ⟨u, hu, hr⟩ := hF k hi'
    rw [Addr.add_lit] at hu
    simp only [hu, Option.getD_some]
   ·exact hm _ _ _ hu
   ·exact hr
set_option maxRecDepth 100000 in
theorem boolsD_rep0 (hm : ∀ b o u, W.cell? ⟨b, o, none⟩ = some u → m b o = some u) {t e : TypeId} {fuel : Nat} {cs : List Value} {x : DataW H × List MemPlace} (ht : Tryd.prog.underlying t = some (.slice e)) (he : Tryd.prog.underlying e = some .bool) (hc : Tryd.prog.cellsOf e = 1)
  (hf : DataW.trod enc Tryd.prog W 0 (fun _ => true) held fuel t cs = some x) : ∃ (v : Value) (bs : List Bool), cs = [v] ∧ M.Rep m v (M.bools bs) := by
 rcases Go.Deep.open_bools ht he hc hf with ⟨hcs, _⟩ | ⟨ad, l, c, B, hcs, _, hl, hmx, _, hcell⟩
 ·exact ⟨_, [], hcs, .nil 1⟩
 ·by_cases h0 : c = 0
  ·subst h0
   obtain rfl : l = 0 := by omega
   exact ⟨_, [], hcs, .emp ad 1 (by decide)⟩
  ·obtain ⟨b, o, rfl⟩ := addrD_none (hcell 0 (by omega))
   refine ⟨_, (List.range l).map B, hcs, .sl b o l c 1 _ (fun i => .bool (B i)) (by omega) (by simp) hl (by simpa [maxLen] using hmx) (fun i x hi => ?_) (fun i x hi => ?_)⟩
   all_goals
    have hi' : i < l := by have := (List.getElem?_eq_some_iff.1 hi).1; simpa using this
   ·have := hcell i (by omega)
    rw [Addr.add_lit] at this
    exact hm _ _ _ this
   ·simp [hi'] at hi
    subst hi
    exact .bool _
set_option maxRecDepth 100000 in
set_option maxHeartbeats 2000000 in
theorem dfaD_rep (hm : ∀ b o u, W.cell? ⟨b, o, none⟩ = some u → m b o = some u) {fuel : Nat} {cs : List Value} {x : DataW H × List MemPlace} (h : DataW.trod enc Tryd.prog W 0 (fun _ => true) held fuel 32 cs = some x) :
  ∃ (Le St : Int) (bs : List Bool) (nx : List (List Int)) (c2 c3 : Value), cs = [.int .i64 Le, .int .i64 St, c2, c3] ∧ M.Rep m c2 (M.bools bs) ∧ M.Rep m c3 (M.rows nx) := by
 obtain ⟨xs, n, hn, -, hl, hlen, hf⟩ := DataW.trod_struct Tryd.underlying32 h
 have hc1 : Tryd.prog.cellsOf 3 = 1 := by kernel_rfl
 have hc2 : Tryd.prog.cellsOf 29 = 1 := by kernel_rfl
 have hc4 : Tryd.prog.cellsOf 30 = 1 := by kernel_rfl
 have hc3 : Tryd.prog.cellsOf 32 = 4 := by kernel_rfl
 rw [hc3] at hl
 obtain ⟨c0, c1, c2, c3, rfl⟩ : ∃ c0 c1 c2 c3, cs = [c0, c1, c2, c3] := by
  match cs, hl with
  | [c0, c1, c2, c3], _ => exact ⟨c0, c1, c2, c3, rfl⟩
 obtain ⟨y0, y1, y2, y3, rfl⟩ : ∃ y0 y1 y2 y3, xs = [y0, y1, y2, y3] := by
  match xs, hlen with
  | [y0, y1, y2, y3], _ => exact ⟨y0, y1, y2, y3, rfl⟩
 have g0 := hf 0 _ rfl
 have g1 := hf 1 _ rfl
 have g2 := hf 2 _ rfl
 have g3 := hf 3 _ rfl
 simp only [hc1, hc2, hc4, List.drop_zero, List.take_succ_cons, List.take_zero, List.drop_succ_cons, List.getElem?_cons_zero, List.getElem?_cons_succ] at g0 g1 g2 g3
 obtain ⟨o, e0, -, -⟩ := DataW.trod_int Tryd.underlying3 g0
 obtain ⟨nn, e1, -, -⟩ := DataW.trod_int Tryd.underlying3 g1
 injection e0 with e0 _
 injection e1 with e1 _
 subst e0 e1
 obtain ⟨v2, bs, e2, r2⟩ := boolsD_rep0 hm Tryd.underlying29 Tryd.underlying4 (by kernel_rfl) g2
 obtain ⟨v3, nx, e3, r3⟩ := rowsD_rep0 hm g3
 injection e2 with e2 _
 injection e3 with e3 _
 subst e2 e3
 exact ⟨o, nn, bs, nx, _, _, rfl, r2, r3⟩
set_option maxRecDepth 100000 in
theorem dfa_of_trod {base : Nat} {v : Value} {d : DataW H} {p : List MemPlace} (hval : Value.okWide Tryd.prog W .any base 32 v) (h : DataW.Trod enc Tryd.prog W 0 (fun _ => true) held 32 v d p) :
  ∃ t : Int × Int × List Bool × List (List Int), M.VR (M.evOf W.heap.size (fun _ => True) (fun _ => none) (fun k => k < 0) W) v (M.dfG 1 t.1 t.2.1 t.2.2.1 t.2.2.2) := by
 obtain ⟨fuel, hf⟩ := h
 have hm : ∀ b o u, W.cell? ⟨b, o, none⟩ = some u → (M.evOf W.heap.size (fun _ => True) (fun _ => none) (fun k => k < 0) W).mem 1 b o = some u := fun b o u hu => M.memL_some.2 ⟨fun ⟨id, u, n, h1, _⟩ => (by cases h1), .inr (.inr ⟨rfl, trivial⟩), hu⟩
 obtain ⟨Le, St, bs, nx, c2, c3, hcs, r2, r3⟩ := dfaD_rep hm hf
 simp only [Value.okWide, Tryd.underlying32] at hval
 obtain ⟨cs, rfl, hsz, -⟩ := hval
 simp only [Value.cells] at hcs
 obtain rfl : cs = #[.int .i64 Le, .int .i64 St, c2, c3] := by
  apply Array.ext'
  rw [hcs]
 refine ⟨(Le, St, bs, nx), .agg _ _ rfl (fun v hv => ?_) (fun i c hi => ?_)⟩
 ·simp only [List.mem_toArray, List.mem_cons, List.not_mem_nil, or_false] at hv
  rcases hv with rfl | rfl | rfl | rfl
  ·rfl
  ·rfl
  ·exact r2.one
  ·exact r3.one
 ·match i with
  | 0 => injection hi with hi; subst hi; exact .mkInt _ _ _ _
  | 1 => injection hi with hi; subst hi; exact .mkInt _ _ _ _
  | 2 => injection hi with hi; subst hi; exact .t _ _ _ r2
  | 3 => injection hi with hi; subst hi; exact .t _ _ _ r3
  | i + 4 => simp at hi
end
end Go.Proofs.YtnffigeofdagfaaDoor
