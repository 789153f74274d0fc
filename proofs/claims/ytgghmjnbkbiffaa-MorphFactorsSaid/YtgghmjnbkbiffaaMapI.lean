/-
  My own library: maps from int to int that a call makes, as lists of entries.
-/
import Derived.Test.YtgghmjnbkbiffaaOwn
import Derived.Maps.OwnOps
import Derived.Maps.OwnSet
namespace Go.Proofs.Ytgghmjnbkbiffaa
open Go.RowKit
set_option linter.unusedVariables false

/-- Block b is a map with these entries, in the order in which they came. -/
def MapI (w : World) (b : Nat) (es : List (Int × Int)) : Prop := ∃ ents clock, w.heap[b]? = some (.map ents clock) ∧ ents.toList.map (fun e => (e.key, e.val)) = es.map (fun p => (Value.int .i64 p.1, Value.int .i64 p.2))

def assocI : List (Int × Int) → Int → Option Int
  | [], _ => none
  | p :: es, k => if k = p.1 then some p.2 else assocI es k

theorem MapI.lt {w : World} {b : Nat} {es : List (Int × Int)} (h : MapI w b es) : b < w.heap.size := by
  obtain ⟨_, _, h, _⟩ := h
  exact lt_of_block h
theorem MapI.only {S : Nat → Prop} {w w' : World} {b : Nat} {es : List (Int × Int)} (h : MapI w b es) (ho : Only S w w') (hn : ¬ S b) : MapI w' b es := by
  have hl := h.lt
  obtain ⟨e, c, h1, h2⟩ := h
  exact ⟨e, c, (ho.block b hl hn).trans h1, h2⟩
theorem MapI.made (w : World) : MapI (w.alloc (.map #[] 0)) w.heap.size [] := ⟨#[], 0, heap_alloc_new w _, rfl⟩
theorem MapI.drewN {w : World} {b : Nat} {es : List (Int × Int)} (h : MapI w b es) (n : Nat) : MapI (w.drewN n) b es := h

theorem find_now (k : Int) : ∀ (l : List MapEntry) (es : List (Int × Int)) (i : Nat), l.map (fun e => (e.key, e.val)) = es.map (fun p => (Value.int .i64 p.1, Value.int .i64 p.2)) →
    ∃ r, Instr.findNow (.int .i64) (.int .i64 k) l i = some r ∧ r.map (·.2) = (assocI es k).map (Value.int .i64)
  | [], es, i, h => by
    cases es with
    | nil => exact ⟨none, rfl, rfl⟩
    | cons p es => simp at h
  | e :: l, [], i, h => by simp at h
  | e :: l, p :: es, i, h => by
    simp only [List.map_cons, List.cons.injEq, Prod.mk.injEq] at h
    obtain ⟨⟨h1, h2⟩, h3⟩ := h
    by_cases hk : k = p.1
    · refine ⟨some (i, e.val), ?_, ?_⟩
      · simp [Instr.findNow, Instr.sameNow, h1, hk]
      · simp [assocI, hk, h2]
    · obtain ⟨r, hr, hv⟩ := find_now k l es (i + 1) h3
      have hb : (k == p.1) = false := by simpa using hk
      refine ⟨r, ?_, ?_⟩
      · simp [Instr.findNow, Instr.sameNow, h1, hb, hr]
      · simp [assocI, hk, hv]

theorem run_getB (P : Program) {w : World} {b : Nat} {es : Array MapEntry} {c : Nat} (h : w.heap[b]? = some (.map es c)) : (getObj b).run P w = .ok (.map es c) w := by simp [getObj, Sem.run, h]
theorem run_setB (P : Program) {w : World} {b : Nat} (o : Obj) {es : Array MapEntry} {c : Nat} (h : w.heap[b]? = some (.map es c)) : (setObj b o).run P w = .ok () { w with heap := w.heap.setIfInBounds b o } := by simp [setObj, Sem.run, h]
theorem run_checkI {P : Program} {K : TypeId} (hK : P.underlying K = some (.int .i64)) (e k w) : (Instr.checkKey e 10000 K (.int .i64 k)).run P w = .ok () w := by
  show (Instr.checkKey e (9999 + 1) K (.int .i64 k)).run P w = .ok () w
  rw [Instr.checkKey]
  simp [Sem.run_bind, run_underlying hK]

theorem run_lookupI {P : Program} {t K E : TypeId} (ht : P.underlying t = some (.map K E)) (hK : P.underlying K = some (.int .i64)) {w : World} (hz : (zeroValue E).run P w = .ok (.int .i64 0) w) {b : Nat} {es : List (Int × Int)} (h : MapI w b es) (k : Int) :
    (Instr.lookup t (.map (some b)) (.int .i64 k) true).run P w = .ok (.tuple #[.int .i64 ((assocI es k).getD 0), .bool (assocI es k).isSome]) w := by
  obtain ⟨ents, clock, h1, h2⟩ := h
  obtain ⟨r, hr, hv⟩ := find_now k ents.toList es 0 h2
  cases ha : assocI es k with
  | none =>
    rw [ha] at hv
    cases r with
    | none => simp [Instr.lookup, run_underlying ht, run_getB P h1, run_checkI hK, run_underlying hK, Instr.findKey, hr, hz]
    | some p => simp at hv
  | some c =>
    rw [ha] at hv
    cases r with
    | none => simp at hv
    | some p =>
      obtain ⟨i, v⟩ := p
      simp at hv
      subst hv
      simp [Instr.lookup, run_underlying ht, run_getB P h1, run_checkI hK, run_underlying hK, Instr.findKey, hr]

theorem run_updateI {P : Program} {t K E : TypeId} (ht : P.underlying t = some (.map K E)) (hK : P.underlying K = some (.int .i64)) {w : World} {b : Nat} {es : List (Int × Int)} (h : MapI w b es) (k v : Int) (hn : assocI es k = none) :
    ∃ w', (Instr.mapUpdate t (.map (some b)) (.int .i64 k) (.int .i64 v)).run P w = .ok () w' ∧ MapI w' b (es ++ [(k, v)]) ∧ Only (fun j => j = b) w w' := by
  have hl := h.lt
  obtain ⟨ents, clock, h1, h2⟩ := h
  obtain ⟨r, hr, hv⟩ := find_now k ents.toList es 0 h2
  rw [hn] at hv
  cases r with
  | some p => simp at hv
  | none =>
    refine ⟨{ w with heap := w.heap.setIfInBounds b (.map (ents.push { key := .int .i64 k, val := .int .i64 v, born := clock }) (clock + 1)) }, ?_, ⟨ents.push { key := .int .i64 k, val := .int .i64 v, born := clock }, clock + 1, ?_, ?_⟩, ⟨rfl, rfl, rfl, by simp, fun j hj hne => ?_⟩⟩
    · simp [Instr.mapUpdate, run_underlying ht, run_getB P h1, run_setB P _ h1, run_checkI hK, run_underlying hK, Instr.findKey, hr]
    · simp [hl]
    · simp [h2]
    · simp only [Array.getElem?_setIfInBounds]
      rw [if_neg (fun e => hne e.symm)]

theorem wpList_lenI {P : Program} {w : World} {ops : Array Oper} {rest : List Oper} {o : Oper} {a : Act} {Q : Exit → Act → World → Prop} (hg : o.guard = none) (m : Operand) (t : TypeId) (hop : o.op = Op.call { callee := Callee.builtin Builtin.len, args := #[m], argTypes := #[t] })
    {K E : TypeId} (ht : P.underlying t = some (.map K E)) (b : Nat) (es : List (Int × Int)) (hm : a.eval m = .map (some b)) (h : MapI w b es) (hK : wpList P ops Q rest (a.put o.dst (.int .i64 (lnx es : Nat))) w) : wpList P ops Q (o :: rest) a w := by
  obtain ⟨ents, clock, h1, h2⟩ := h
  have hl : ents.size = lnx es := by
    have := congrArg List.length h2
    simpa [lnx] using this
  refine wpList_plain hg fun K' hK' => ?_
  unfold Oper.wp
  simp [execOp, hop, resolve, invoke, builtin, hm, Builtin.len_, run_underlying ht, getObj, Sem.run, h1, Result.andThen, hl, goInt]
  exact hK' _ _ hK

theorem run_zeroI {P : Program} {E : TypeId} {z : Value} {bytes : Nat} (h : (P.info? E).map (fun i => (i.zero, i.size, i.bytes)) = some (some z, 1, bytes)) (w : World) : (zeroValue E).run P w = .ok z w := by
  obtain ⟨i, hi, hz, -, -⟩ := info_parts h
  simp [zeroValue, typeInfo, hi, hz]

theorem wpList_lookupI {P : Program} {w : World} {ops : Array Oper} {rest : List Oper} {o : Oper} {a : Act} {Q : Exit → Act → World → Prop} (hg : o.guard = none) (m x : Operand) (t : TypeId) (hop : o.op = Op.lookup t m x true)
    {K E : TypeId} {bytes : Nat} (ht : P.underlying t = some (.map K E)) (hK : P.underlying K = some (.int .i64)) (hE : (P.info? E).map (fun i => (i.zero, i.size, i.bytes)) = some (some (.int .i64 0), 1, bytes)) (b : Nat) (es : List (Int × Int)) (k : Int) (hm : a.eval m = .map (some b)) (hx : a.eval x = .int .i64 k) (h : MapI w b es)
    (hK' : wpList P ops Q rest (a.put o.dst (.tuple #[.int .i64 ((assocI es k).getD 0), .bool (assocI es k).isSome])) w) : wpList P ops Q (o :: rest) a w := by
  have hrun := run_lookupI ht hK (run_zeroI hE w) h k
  refine wpList_plain hg fun K' hK'' => ?_
  unfold Oper.wp
  simp [execOp, hop, hm, hx, hrun, Result.andThen]
  exact hK'' _ _ hK'

theorem wpList_updateI {P : Program} {w : World} {ops : Array Oper} {rest : List Oper} {o : Oper} {a : Act} {Q : Exit → Act → World → Prop} (hg : o.guard = none) (m x v : Operand) (t : TypeId) (hop : o.op = Op.mapUpdate t m x v)
    {K E : TypeId} (ht : P.underlying t = some (.map K E)) (hK : P.underlying K = some (.int .i64)) (b : Nat) (es : List (Int × Int)) (k c : Int) (hm : a.eval m = .map (some b)) (hx : a.eval x = .int .i64 k) (hv : a.eval v = .int .i64 c) (h : MapI w b es) (hn : assocI es k = none)
    (hK' : ∀ w', MapI w' b (es ++ [(k, c)]) → Only (fun j => j = b) w w' → wpList P ops Q rest (a.put o.dst undef) w') : wpList P ops Q (o :: rest) a w := by
  obtain ⟨w', hrun, r1, r2⟩ := run_updateI ht hK h k c hn
  refine wpList_plain hg fun K' hK'' => ?_
  unfold Oper.wp
  simp [execOp, hop, hm, hx, hv, hrun, Result.andThen]
  exact hK'' _ _ (hK' w' r1 r2)

theorem wpList_hitI {P : Program} {w : World} {ops : Array Oper} {rest : List Oper} {o : Oper} {a : Act} {Q : Exit → Act → World → Prop} (hg : o.guard = none) (m x : Operand) (t : TypeId) (hop : o.op = Op.lookup t m x true)
    {K E : TypeId} {bytes : Nat} (ht : P.underlying t = some (.map K E)) (hK : P.underlying K = some (.int .i64)) (hE : (P.info? E).map (fun i => (i.zero, i.size, i.bytes)) = some (some (.int .i64 0), 1, bytes)) (b : Nat) (es : List (Int × Int)) (k c : Int) (hm : a.eval m = .map (some b)) (hx : a.eval x = .int .i64 k) (h : MapI w b es) (hc : assocI es k = some c)
    (hK' : wpList P ops Q rest (a.put o.dst (.tuple #[.int .i64 c, .bool true])) w) : wpList P ops Q (o :: rest) a w := by
  refine wpList_lookupI hg m x t hop ht hK hE b es k hm hx h ?_
  rw [hc]
  exact hK'
theorem wpList_missI {P : Program} {w : World} {ops : Array Oper} {rest : List Oper} {o : Oper} {a : Act} {Q : Exit → Act → World → Prop} (hg : o.guard = none) (m x : Operand) (t : TypeId) (hop : o.op = Op.lookup t m x true)
    {K E : TypeId} {bytes : Nat} (ht : P.underlying t = some (.map K E)) (hK : P.underlying K = some (.int .i64)) (hE : (P.info? E).map (fun i => (i.zero, i.size, i.bytes)) = some (some (.int .i64 0), 1, bytes)) (b : Nat) (es : List (Int × Int)) (k : Int) (hm : a.eval m = .map (some b)) (hx : a.eval x = .int .i64 k) (h : MapI w b es) (hc : assocI es k = none)
    (hK' : wpList P ops Q rest (a.put o.dst (.tuple #[.int .i64 0, .bool false])) w) : wpList P ops Q (o :: rest) a w := by
  refine wpList_lookupI hg m x t hop ht hK hE b es k hm hx h ?_
  rw [hc]
  exact hK'

/-- One step of the numbering. -/
def canStep (st : List (Int × Int) × List Int) (x : Int) : List (Int × Int) × List Int :=
  match assocI st.1 x with
  | some c => (st.1, st.2 ++ [c])
  | none => (st.1 ++ [(x, (lnx st.1 : Int))], st.2 ++ [(lnx st.1 : Int)])
def canAt (xs : List Int) (k : Nat) : List (Int × Int) × List Int := (xs.take k).foldl canStep ([], [])
def canonF (xs : List Int) : List Int := (canAt xs (lnx xs)).2
theorem canAt_succ (xs : List Int) {k : Nat} (h : k < lnx xs) : canAt xs (k + 1) = canStep (canAt xs k) (nthx xs k) := by
  unfold canAt
  have h' : k < xs.length := h
  rw [List.take_succ_eq_append_getElem h', List.foldl_append]
  simp [nthx, h']
theorem canAt_len (xs : List Int) : ∀ k, k ≤ lnx xs → lnx (canAt xs k).2 = k ∧ lnx (canAt xs k).1 ≤ k
  | 0, _ => by simp [canAt, lnx]
  | k + 1, h => by
    obtain ⟨h1, h2⟩ := canAt_len xs k (by omega)
    rw [canAt_succ xs (by omega)]
    unfold canStep
    split
    · exact ⟨by rw [lnx_append, lnx_one, h1], by simp only; omega⟩
    · exact ⟨by rw [lnx_append, lnx_one, h1], by rw [lnx_append, lnx_one]; omega⟩
theorem nthx_push {α : Type} [Inhabited α] (l : List α) (c : α) (j : Nat) : nthx (l ++ [c]) j = if j = lnx l then c else nthx l j := by
  by_cases h : j = lnx l
  · rw [if_pos h, h]; exact nthx_append_new l c
  · rw [if_neg h]
    by_cases h2 : j < lnx l
    · exact nthx_append_lt l _ h2
    · have : l.length < j := by simp only [lnx] at h h2; omega
      simp [nthx]
      rw [List.getElem?_eq_none (by simp; omega), List.getElem?_eq_none (by omega)]
theorem canAt_hit (xs : List Int) {k : Nat} (h : k < lnx xs) {c : Int} (ha : assocI (canAt xs k).1 (nthx xs k) = some c) : (canAt xs (k + 1)).1 = (canAt xs k).1 ∧ (canAt xs (k + 1)).2 = (canAt xs k).2 ++ [c] := by
  rw [canAt_succ xs h]
  unfold canStep
  rw [ha]
  exact ⟨rfl, rfl⟩
theorem canAt_miss (xs : List Int) {k : Nat} (h : k < lnx xs) (ha : assocI (canAt xs k).1 (nthx xs k) = none) : (canAt xs (k + 1)).1 = (canAt xs k).1 ++ [(nthx xs k, (lnx (canAt xs k).1 : Int))] ∧ (canAt xs (k + 1)).2 = (canAt xs k).2 ++ [(lnx (canAt xs k).1 : Int)] := by
  rw [canAt_succ xs h]
  unfold canStep
  rw [ha]
  exact ⟨rfl, rfl⟩
theorem canonF_len (xs : List Int) : lnx (canonF xs) = lnx xs := (canAt_len xs _ (Nat.le_refl _)).1

/-- The rows and the map after k steps. -/
structure CanSt (w : World) (E : TypeId) (g : Nat) (xs : List Int) (k : Nat) (w' : World) : Prop where
  arr : Arr E w' g (lnx xs) (fun j => .int .i64 (nthx (canAt xs k).2 j))
  map : MapI w' (g + 1) (canAt xs k).1
  below : Below w.heap.size w w'
theorem CanSt.start (w : World) (E : TypeId) (xs : List Int) : CanSt w E w.heap.size xs 0 ((w.alloc (.cells (zeros (.int .i64 0) (lnx xs)) E)).alloc (.map #[] 0)) := by
  refine ⟨((Arr.zeros E w (.int .i64 0) (lnx xs)).alloc _).congr (fun i hi => rfl), ?_, ?_⟩
  · have := MapI.made (w.alloc (.cells (zeros (.int .i64 0) (lnx xs)) E))
    rw [World.size_alloc] at this
    exact this
  · exact ((Below.refl _ _).alloc (Nat.le_refl _) _).alloc (by simp) _
theorem CanSt.hit {w w' : World} {E : TypeId} {g : Nat} {xs : List Int} {k : Nat} (h : CanSt w E g xs k w') (hg : w.heap.size ≤ g) (hk : k < lnx xs) {c : Int} (ha : assocI (canAt xs k).1 (nthx xs k) = some c) :
    CanSt w E g xs (k + 1) (w'.setCell ⟨g, k, none⟩ (.int .i64 c)) := by
  obtain ⟨e1, e2⟩ := canAt_hit xs hk ha
  obtain ⟨l1, -⟩ := canAt_len xs k (by omega)
  refine ⟨(h.arr.set_ k _).congr (fun i hi => ?_), ?_, h.below.setCell (p := ⟨g, k, none⟩) hg _⟩
  · rw [e2, nthx_push, l1]
    by_cases e : i = k <;> simp [e]
  · rw [e1]
    exact h.map.only ((Only.refl (fun j => j = g) w').setCell (p := ⟨g, k, none⟩) (fun _ => rfl) _) (by omega)
theorem CanSt.miss {w w' w2 : World} {E : TypeId} {g : Nat} {xs : List Int} {k : Nat} (h : CanSt w E g xs k w') (hg : w.heap.size ≤ g) (hk : k < lnx xs) (ha : assocI (canAt xs k).1 (nthx xs k) = none)
    (hm : MapI w2 (g + 1) ((canAt xs k).1 ++ [(nthx xs k, (lnx (canAt xs k).1 : Int))])) (ho : Only (fun j => j = g + 1) w' w2) :
    CanSt w E g xs (k + 1) (w2.setCell ⟨g, k, none⟩ (.int .i64 (lnx (canAt xs k).1 : Int))) := by
  obtain ⟨e1, e2⟩ := canAt_miss xs hk ha
  obtain ⟨l1, -⟩ := canAt_len xs k (by omega)
  refine ⟨((h.arr.only ho (by omega)).set_ k _).congr (fun i hi => ?_), ?_, ?_⟩
  · rw [e2, nthx_push, l1]
    by_cases e : i = k <;> simp [e]
  · rw [e1]
    exact hm.only ((Only.refl (fun j => j = g) w2).setCell (p := ⟨g, k, none⟩) (fun _ => rfl) _) (by omega)
  · have := h.below.trans (ho.below (B := w.heap.size) (fun j hj => by omega) h.below.size)
    exact this.setCell (p := ⟨g, k, none⟩) hg _
theorem Arr.ints {E : TypeId} {w : World} {g : Nat} {ys : List Int} (n : Nat) (hn : n = lnx ys) (hm : n ≤ 9223372036854775807) (h : Arr E w g n (fun j => .int .i64 (nthx ys j))) : Ints w (.slice (some ⟨g, 0, none⟩) n n) ys := by
  subst hn
  exact ⟨_, _, rfl, Nat.le_refl _, hm, fun _ => ⟨g, 0, rfl, fun i hi => by simpa using h.cell hi⟩⟩
end Go.Proofs.Ytgghmjnbkbiffaa
