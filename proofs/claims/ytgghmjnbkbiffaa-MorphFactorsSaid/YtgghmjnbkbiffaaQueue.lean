/-
  My own library: a queue (a slice of numbers from whose front one is taken and to whose end one is appended), and arrays of numbers held whole.
-/
import Derived.Test.YtgghmjnbkbiffaaOwn
import Derived.Test.YtgghmjnbkbiffaaM20
import Derived.Deep.WholeRow
import Derived.Deep.MidRow
import Derived.Laws.ResultCell
namespace Go.Proofs.Ytgghmjnbkbiffaa
open Go.RowKit
set_option linter.unusedVariables false

/-- A slice of the call's own, at whatever place of its block, that reads as xs. -/
def OwnQ (w : World) (base : Nat) (E : TypeId) (v : Value) (xs : List Value) : Prop :=
  ∃ b off cap cur, v = .slice (some ⟨b, off, none⟩) (lnx xs) cap ∧ base ≤ b ∧ w.heap[b]? = some (.cells cur E (0, 0)) ∧ lnx xs ≤ cap ∧ cap ≤ 9223372036854775807 ∧ (0 < cap → off + cap ≤ cur.size) ∧ ∀ j u, xs[j]? = some u → cur[off + j]? = some u

section
variable {w w' : World} {base : Nat} {E : TypeId} {v : Value} {xs : List Value}
theorem OwnQ.only {S : Nat → Prop} (h : OwnQ w base E v xs) (ho : Only S w w') (hS : ∀ k, base ≤ k → ¬ S k) : OwnQ w' base E v xs := by
  obtain ⟨b, off, cap, cur, rfl, h1, h2, h3⟩ := h
  exact ⟨b, off, cap, cur, rfl, h1, (ho.block b (lt_of_block h2) (hS b h1)).trans h2, h3⟩
theorem OwnQ.alloc (h : OwnQ w base E v xs) (o : Obj) : OwnQ (w.alloc o) base E v xs := by
  obtain ⟨b, off, cap, cur, rfl, h1, h2, h3⟩ := h
  exact ⟨b, off, cap, cur, rfl, h1, (Below.heap_alloc w o b (lt_of_block h2)).trans h2, h3⟩
theorem OwnQ.setCell (h : OwnQ w base E v xs) {p : Addr} (hp : p.block < base) (u : Value) : OwnQ (w.setCell p u) base E v xs := by
  obtain ⟨b, off, cap, cur, rfl, h1, h2, h3⟩ := h
  exact ⟨b, off, cap, cur, rfl, h1, (Below.heap_setCell w p u b (by omega)).trans h2, h3⟩
theorem OwnQ.drewN (h : OwnQ w base E v xs) (k : Nat) : OwnQ (w.drewN k) base E v xs := h
theorem OwnQ.one (w : World) (base : Nat) (E : TypeId) (u : Value) (hb : base ≤ w.heap.size) : OwnQ (w.alloc (.cells #[u] E)) base E (.slice (some ⟨w.heap.size, 0, none⟩) 1 1) [u] :=
  ⟨w.heap.size, 0, 1, #[u], rfl, hb, heap_alloc_new w _, Nat.le_refl _, by omega, fun _ => by simp, fun j y hy => by cases j <;> simp_all⟩
/-- What the walk wants of it. -/
theorem OwnQ.shape (h : OwnQ w base E v xs) : ∃ b off cap, v = .slice (some ⟨b, off, none⟩) (lnx xs) cap ∧ base ≤ b ∧ lnx xs ≤ cap ∧ cap ≤ 9223372036854775807 ∧ ∀ j u, xs[j]? = some u → w.cell? ⟨b, off + j, none⟩ = some u := by
  obtain ⟨b, off, cap, cur, rfl, h1, h2, h3, h4, h5, h6⟩ := h
  exact ⟨b, off, cap, rfl, h1, h3, h4, fun j u hu => by simp [World.cell?, h2, h6 j u hu]⟩
/-- The front is taken. -/
theorem OwnQ.pop {b off cap : Nat} {x : Value} (h : OwnQ w base E (.slice (some ⟨b, off, none⟩) (lnx (x :: xs)) cap) (x :: xs)) : OwnQ w base E (.slice (some ⟨b, if cap = 1 then off else off + 1, none⟩) (lnx xs) (cap - 1)) xs := by
  obtain ⟨b', off', cap', cur, he, h1, h2, h3, h4, h5, h6⟩ := h
  simp only [Value.slice.injEq, Option.some.injEq, Addr.mk.injEq, true_and, and_true] at he
  obtain ⟨⟨rfl, rfl⟩, rfl⟩ := he
  have hl : lnx (x :: xs) = lnx xs + 1 := by simp [lnx]
  refine ⟨b, _, cap - 1, cur, rfl, h1, h2, by omega, by omega, fun hc => ?_, fun j u hu => ?_⟩
  · have := h5 (by omega)
    rw [if_neg (by omega)]
    omega
  · have hj : j < xs.length := (List.getElem?_eq_some_iff.1 hu).1
    have hl2 : xs.length = lnx xs := rfl
    rw [if_neg (by omega), Nat.add_assoc, Nat.add_comm 1 j]
    exact h6 (j + 1) u (by simpa using hu)
end

/-- append of one element that lies alone in a block, onto a queue. -/
theorem wpList_pushQ {P : Program} (w : World) {ops : Array Oper} {rest : List Oper} {o : Oper} {a : Act} {Q : Exit → Act → World → Prop} (hgd : o.guard = none) (s x : Operand) (t : TypeId)
    (ho : o.op = .call { callee := .builtin .append, args := #[s, x], argTypes := #[t, t] })
    (base : Nat) (e : TypeId) (z : Value) (bytes : Nat) (ht : P.underlying t = some (.slice e)) (hinfo : (P.info? e).map (fun i => (i.zero, i.size, i.bytes)) = some (some z, 1, bytes)) (hzs : z.cells.size = 1)
    (v : Value) (xs : List Value) (hs : a.eval s = v) (g : Nat) (u : Value) (hx : a.eval x = .slice (some ⟨g, 0, none⟩) 1 1)
    (hown : OwnQ w base e v xs) (hu : w.cell? ⟨g, 0, none⟩ = some u) (h1 : u.oneCell' = true)
    (h63 : lnx xs + 1 ≤ maxLen) (hbytes : (lnx xs + 1) * bytes ≤ 140737488355328) (hbase : base ≤ w.heap.size)
    (h : ∀ b off cap w', OwnQ w' base e (.slice (some ⟨b, off, none⟩) (lnx xs + 1) cap) (xs ++ [u]) → Only (fun k => base ≤ k) w w' → wpList P ops Q rest (a.put o.dst (.slice (some ⟨b, off, none⟩) (lnx xs + 1) cap)) w') :
    wpList P ops Q (o :: rest) a w := by
  obtain ⟨i, hi, hz, hsz, hby⟩ := info_parts hinfo
  refine wpList_plain hgd fun K hK => ?_
  have hnews : ∀ j y, [u][j]? = some y → w.cell? ((⟨g, 0, none⟩ : Addr).add j) = some y := by
    intro j y hy
    cases j with
    | zero =>
      simp at hy
      subst hy
      simpa [Addr.add] using hu
    | succ j => simp at hy
  obtain ⟨b, off, cap, cur, rfl, q1, q2, q3, q4, q5, q6⟩ := hown
  have hl1 : lnx (xs ++ [u]) = lnx xs + 1 := by simp [lnx]
  have hl0 : xs.length = lnx xs := rfl
  by_cases hroom : lnx xs + 1 ≤ cap
  · have hcs := q5 (by omega)
    have hr := run_append_room_cells (P := P) w t o.type e i ht hi b off (lnx xs) cap ⟨g, 0, none⟩ 1 1 [u] (by rw [hsz]; rfl) hnews (by simpa using h1) hroom
      (by intro j hj; simp at hj; subst hj; simp [World.cell?, q2, hsz]; omega) (by intro j hj; simp [World.frozen?, q2])
    unfold Oper.wp execOp
    simp only [ho, resolve, invoke, builtin, Sem.run_bind, Sem.run_pure, Result.andThen_ok, List.map_toArray, List.map_cons, List.map_nil, hs, hx, hr]
    refine hK _ _ (h b off cap _ ⟨b, off, cap, cur.setIfInBounds (off + lnx xs) u, by rw [hl1], q1, ?_, by omega, q4, fun hc => by simp; omega, fun j y hy => ?_⟩ ?_)
    · simp [World.setCells, World.setCell, Array.getElem?_modify, q2, hsz]
    · rw [Array.getElem?_setIfInBounds]
      by_cases hj : j < xs.length
      · rw [if_neg (by omega)]
        rw [List.getElem?_append_left hj] at hy
        exact q6 j y hy
      · have hj2 : j < (xs ++ [u]).length := (List.getElem?_eq_some_iff.1 hy).1
        simp at hj2
        obtain rfl : j = xs.length := by omega
        rw [if_pos (by omega), if_pos (by omega)]
        simpa using hy
    · simp only [hsz, Nat.mul_one, World.setCells]
      exact (Only.refl _ _).setCell (fun _ => q1) _
  · have holds : ∀ j y, xs[j]? = some y → w.cell? ((⟨b, off, none⟩ : Addr).add j) = some y := by
      intro j y hy
      rw [Addr.add_lit]
      simp [World.cell?, q2, q6 j y hy]
    have hsmall : lnx xs + 1 ≤ 9223372036854775807 := by simp only [maxLen] at h63; omega
    obtain ⟨v', w', hr, r1, r2⟩ := run_append_arg_grows (P := P) w t o.type e i z 1 bytes ht hi hz hsz hby hzs (by omega) ⟨b, off, none⟩ (lnx xs) cap xs (by omega) holds ⟨g, 0, none⟩ 1 1 [u] rfl hnews (by omega) h63 hbytes
    unfold Oper.wp execOp
    simp only [ho, resolve, invoke, builtin, Sem.run_bind, Sem.run_pure, Result.andThen_ok, List.map_toArray, List.map_cons, List.map_nil, hs, hx, hr]
    rcases r1.2 with ⟨_, h0⟩ | ⟨g', cap', cur', rfl, g1, g2, g3, g4, g5, g6⟩
    · omega
    · refine hK _ _ (h g' 0 cap' w' ⟨g', 0, cap', cur', by rw [hl1], by omega, g2, by omega, by simpa [maxLen] using g4, fun hc => by omega, fun j y hy => ?_⟩ ?_)
      · rw [← g6, List.getElem?_take] at hy
        split at hy
        · simpa using hy
        · cases hy
      · exact Only.grown (Only.refl _ _) r2 (fun k _ e => by cases e)

/-- Eight numbers. -/
def agg8 (F : Nat → Int) : Array Value := (Array.range 8).map fun i => Value.int .i64 (F i)
@[simp] theorem size_agg8 (F : Nat → Int) : (agg8 F).size = 8 := by simp [agg8]
theorem get_agg8 (F : Nat → Int) {i : Nat} (hi : i < 8) : (agg8 F)[i]? = some (.int .i64 (F i)) := by simp [agg8, hi]
theorem set_agg8 (F : Nat → Int) (x : Nat) (y : Int) : (agg8 F).setIfInBounds x (.int .i64 y) = agg8 (upd F x y) := by
  apply Array.ext_getElem?
  intro i
  rw [Array.getElem?_setIfInBounds]
  by_cases hi : i < 8
  · rw [get_agg8 (upd F x y) hi]
    by_cases hx : x = i
    · subst hx; simp [hi, upd]
    · rw [if_neg hx, get_agg8 F hi, upd_other F y (fun e => hx e.symm)]
  · have h1 : (agg8 (upd F x y))[i]? = none := Array.getElem?_eq_none (by simp; omega)
    have h2 : (agg8 F)[i]? = none := Array.getElem?_eq_none (by simp; omega)
    rw [h1, h2]
    split <;> simp_all
theorem oneCell_agg8 (F : Nat → Int) : (agg8 F).all (·.oneCell') = true := by
  rw [Array.all_eq_true]
  intro i hi
  simp at hi
  simp [agg8, Value.oneCell']

/-- Block g holds the eight numbers. -/
def Blk8 (E : TypeId) (w : World) (g : Nat) (F : Nat → Int) : Prop := w.heap[g]? = some (.cells (agg8 F) E (0, 0))
section
variable {E : TypeId} {w w' : World} {g : Nat} {F : Nat → Int}
theorem Blk8.lt (h : Blk8 E w g F) : g < w.heap.size := lt_of_block h
theorem Blk8.cell (h : Blk8 E w g F) {i : Nat} (hi : i < 8) : w.cell? ⟨g, i, none⟩ = some (.int .i64 (F i)) := by
  unfold Blk8 at h
  simp [World.cell?, h, get_agg8 F hi]
theorem Blk8.frozen (h : Blk8 E w g F) (i : Nat) : w.frozen? ⟨g, i, none⟩ = false := by
  unfold Blk8 at h
  simp [World.frozen?, h]
theorem Blk8.same (h : Blk8 E w g F) (hb : w'.heap[g]? = w.heap[g]?) : Blk8 E w' g F := hb.trans h
theorem Blk8.only {S : Nat → Prop} (h : Blk8 E w g F) (ho : Only S w w') (hn : ¬ S g) : Blk8 E w' g F := h.same (ho.block g h.lt hn)
theorem Blk8.alloc (h : Blk8 E w g F) (o : Obj) : Blk8 E (w.alloc o) g F := h.same (Below.heap_alloc w o g h.lt)
theorem Blk8.far (h : Blk8 E w g F) {p : Addr} (hp : g ≠ p.block) (u : Value) : Blk8 E (w.setCell p u) g F := h.same (Below.heap_setCell w p u g hp)
theorem Blk8.drewN (h : Blk8 E w g F) (k : Nat) : Blk8 E (w.drewN k) g F := h
theorem Blk8.set_ (h : Blk8 E w g F) (x : Nat) (y : Int) : Blk8 E (w.setCell ⟨g, x, none⟩ (.int .i64 y)) g (upd F x y) := by
  unfold Blk8 at h ⊢
  simp [World.setCell, Array.getElem?_modify, h, set_agg8]
theorem Blk8.new (E : TypeId) (w : World) (F : Nat → Int) : Blk8 E (w.alloc (.cells (agg8 F) E)) w.heap.size F := heap_alloc_new w _
end

/-- The whole array is read. -/
theorem wpList_load8 {P : Program} {ops : Array Oper} {rest : List Oper} {o : Oper} {a : Act} {w : World} {Q : Exit → Act → World → Prop} (hgd : o.guard = none) (ty : TypeId) (x : Operand) (ho : o.op = .load ty x)
    (g : Nat) (hx : a.eval x = .pointer (some ⟨g, 0, none⟩)) (E e : TypeId) (F : Nat → Int) (hu : P.underlying ty = some (.array 8 e)) (hi : (P.info? ty).map (·.size) = some 8) (hg : Blk8 E w g F)
    (h : wpList P ops Q rest (a.put o.dst (.agg (agg8 F))) w) : wpList P ops Q (o :: rest) a w :=
  wpList_load_row hgd ty x ho g hx E (agg8 F) (0, 0) _ hg hu rfl (by rw [size_agg8]; exact hi) h

theorem setCells_block (g : Nat) (E : TypeId) : ∀ (vs : List Value) (o : Nat) (w : World) (cs : Array Value), w.heap[g]? = some (.cells cs E (0, 0)) →
    ∃ cs' : Array Value, (w.setCells g o vs).heap[g]? = some (.cells cs' E (0, 0)) ∧ cs'.size = cs.size ∧ (∀ j u, vs[j]? = some u → o + j < cs.size → cs'[o + j]? = some u) ∧ ∀ i, i < o → cs'[i]? = cs[i]?
  | [], o, w, cs, h => ⟨cs, h, rfl, fun j u hu => by simp at hu, fun _ _ => rfl⟩
  | v :: r, o, w, cs, h => by
    obtain ⟨cs', h1, h2, h3, h4⟩ := setCells_block g E r (o + 1) (w.setCell ⟨g, o, none⟩ v) (cs.setIfInBounds o v) (by simp [World.setCell, Array.getElem?_modify, h])
    refine ⟨cs', h1, by simpa using h2, fun j u hu hlt => ?_, fun i hi => ?_⟩
    · cases j with
      | zero =>
        simp at hu
        subst hu
        rw [Nat.add_zero, h4 o (by omega)]
        simp at hlt
        simp [hlt]
      | succ j =>
        have := h3 j u (by simpa using hu) (by simp; omega)
        rwa [show o + 1 + j = o + (j + 1) by omega] at this
    · rw [h4 i (by omega), Array.getElem?_setIfInBounds, if_neg (by omega)]
theorem setCells_only (g : Nat) : ∀ (vs : List Value) (o : Nat) (w : World), Only (fun k => k = g) w (w.setCells g o vs)
  | [], o, w => Only.refl _ _
  | v :: r, o, w => ((Only.refl (fun k => k = g) w).setCell (p := ⟨g, o, none⟩) (fun _ => rfl) v).trans (setCells_only g r (o + 1) _)

/-- The whole array is written. -/
theorem wpList_store8 {P : Program} {ops : Array Oper} {rest : List Oper} {o : Oper} {a : Act} {w : World} {Q : Exit → Act → World → Prop} (hgd : o.guard = none) (ty : TypeId) (x y : Operand) (ho : o.op = .store ty x y)
    (g : Nat) (hx : a.eval x = .pointer (some ⟨g, 0, none⟩)) (F : Nat → Int) (hy : a.eval y = .agg (agg8 F)) (E : TypeId) (F0 : Nat → Int) (hi : (P.info? ty).map (·.size) = some 8) (hg : Blk8 E w g F0)
    (h : ∀ w', Blk8 E w' g F → Only (fun k => k = g) w w' → wpList P ops Q rest (a.put o.dst undef) w') : wpList P ops Q (o :: rest) a w := by
  refine wpList_store_mid hgd ty x y ho g 0 (agg8 F) hx hy ?_ (by rw [size_agg8]; exact hi) (oneCell_agg8 F) ?_
  · intro j hj
    simp at hj
    rw [Nat.zero_add]
    exact ⟨by rw [hg.cell hj]; rfl, hg.frozen j⟩
  · refine h _ ?_ (setCells_only g _ 0 w)
    obtain ⟨cs', h1, h2, h3, _⟩ := setCells_block g E (agg8 F).toList 0 w (agg8 F0) hg
    have e : cs' = agg8 F := by
      apply Array.ext_getElem?
      intro i
      simp at h2
      by_cases hi8 : i < 8
      · have := h3 i (.int .i64 (F i)) (by simpa using get_agg8 F hi8) (by simpa using hi8)
        rw [Nat.zero_add] at this
        rw [this, get_agg8 F hi8]
      · rw [Array.getElem?_eq_none (by omega), Array.getElem?_eq_none (by simp; omega)]
    rw [e] at h1
    exact h1

theorem results8 {P : Program} {fn : Func} {p u : Tmp} {ty : TypeId} (h : fn.results = #[.cell p ty, .tmp u]) (tmps : Array Value) (w : World) (g : Nat) (E e : TypeId) (F : Nat → Int)
    (hu : P.underlying ty = some (.array 8 e)) (hi : (P.info? ty).map (·.size) = some 8) (hg : Blk8 E w g F) (hp : tmps.getD p undef = .pointer (some ⟨g, 0, none⟩)) :
    (results fn tmps).run P w = .ok (.tuple #[.agg (agg8 F), tmps.getD u undef]) w := by
  rw [results_cell_tmp h, hp]
  simp [asAddr, run_loadVar_row w g E ty (agg8 F) (0, 0) _ hg hu rfl (by rw [size_agg8]; exact hi)]
end Go.Proofs.Ytgghmjnbkbiffaa
