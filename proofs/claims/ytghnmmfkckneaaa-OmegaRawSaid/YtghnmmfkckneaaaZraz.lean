/-
  Arguments of a law that are terms (api.Term, of any depth) or slices of slices of integers, as trees of the logic.
-/
import Derived.Test.YtghnmmfkckneaaaZray
import Derived.Test.YtghnmmfkckneaaaZrag
namespace Go.Proofs.Ytghnmmfkckneaaa
open Go.RowKit
set_option linter.unusedVariables false
set_option linter.unusedSimpArgs false

theorem cellsL_at : ∀ (l : List M.Tm) (k : Nat) (c : M.T), (M.cellsL l)[k]? = some c → ∃ (i j : Nat) (h : i < l.length), k = i * 3 + j ∧ j < 3 ∧ l[i].cells[j]? = some c := by
  intro l k c hk
  have hlt : k < l.length * 3 := by have := (List.getElem?_eq_some_iff.1 hk).1; rwa [M.cellsL_len] at this
  have hi : k / 3 < l.length := by omega
  refine ⟨k / 3, k % 3, hi, by omega, by omega, ?_⟩
  rw [← M.cellsL_cut l (k / 3) hi, List.getElem?_take_of_lt (by omega), List.getElem?_drop]
  rw [show k / 3 * 3 + k % 3 = k by omega]
  exact hk
/-- A slice whose elements are read: its address has no spot, if there is room for one. -/
theorem plain_of {w : World} {a : Addr} {v : Value} (h : w.cell? (a.add 0) = some v) : ∃ b o, a = ⟨b, o, none⟩ := addr_none h
section
variable {H : Type} {enc : TypeId × Value → H} {W : World} {held : Bool} {m : M.Mem}
set_option maxRecDepth 100000 in
set_option maxHeartbeats 2000000 in
theorem term_rep (hm : ∀ b o u, W.cell? ⟨b, o, none⟩ = some u → m b o = some u) : ∀ (fuel : Nat) (cs : List Value) (x : DataW H × List MemPlace), DataW.trod enc Try.prog W 0 (fun _ => true) held fuel 26 cs = some x →
    ∃ t : M.Tm, cs.length = 3 ∧ ∀ (i : Nat) c, t.cells[i]? = some c → ∃ u, cs[i]? = some u ∧ M.Rep m u c := by
  intro fuel
  induction fuel using Nat.strongRecOn with
  | _ fuel ih =>
  intro cs x h
  obtain ⟨xs, n, hn, -, hl, hlen, hf⟩ := DataW.trod_struct Try.underlying26 h
  have hc1 : Try.prog.cellsOf 3 = 1 := by kernel_rfl
  have hc2 : Try.prog.cellsOf 24 = 1 := by kernel_rfl
  have hc3 : Try.prog.cellsOf 26 = 3 := by kernel_rfl
  rw [hc3] at hl
  obtain ⟨c0, c1, c2, rfl⟩ : ∃ c0 c1 c2, cs = [c0, c1, c2] := by
    match cs, hl with
    | [c0, c1, c2], _ => exact ⟨c0, c1, c2, rfl⟩
  obtain ⟨y0, y1, y2, rfl⟩ : ∃ y0 y1 y2, xs = [y0, y1, y2] := by
    match xs, hlen with
    | [y0, y1, y2], _ => exact ⟨y0, y1, y2, rfl⟩
  have g0 := hf 0 _ rfl
  have g1 := hf 1 _ rfl
  have g2 := hf 2 _ rfl
  simp only [hc1, hc2, List.drop_zero, List.take_succ_cons, List.take_zero, List.drop_succ_cons, List.getElem?_cons_zero, List.getElem?_cons_succ] at g0 g1 g2
  obtain ⟨o, e0, -, -⟩ := DataW.trod_int Try.underlying3 g0
  obtain ⟨nn, e1, -, -⟩ := DataW.trod_int Try.underlying3 g1
  injection e0 with e0 _
  injection e1 with e1 _
  subst e0 e1
  have fin : ∀ l : List M.Tm, M.Rep m c2 (.sl 3 (M.cellsL l)) → ∃ t : M.Tm, [Value.int .i64 o, Value.int .i64 nn, c2].length = 3 ∧ ∀ (i : Nat) c, t.cells[i]? = some c → ∃ u, [Value.int .i64 o, Value.int .i64 nn, c2][i]? = some u ∧ M.Rep m u c := fun l hr => by
    refine ⟨.mk o nn l, rfl, fun i c hi => ?_⟩
    rw [M.Tm.cells_eq] at hi
    match i with
    | 0 => injection hi with hi; subst hi; exact ⟨_, rfl, .int _ _⟩
    | 1 => injection hi with hi; subst hi; exact ⟨_, rfl, .int _ _⟩
    | 2 => injection hi with hi; subst hi; exact ⟨_, rfl, hr⟩
    | i + 3 => simp at hi
  rcases DataW.trod_slice Try.underlying24 g2 with ⟨hcs, _⟩ | ⟨a, len, cap, elems, rest, n2, hfu, hcs, -, -, hle, hcap, hel, hel2, hsp, -⟩
  · injection hcs with hcs _
    subst hcs
    exact fin [] (.nil 3)
  · injection hcs with hcs _
    subst hcs
    rw [hc3] at hel2 hsp
    obtain ⟨hrl, hr2⟩ := hsp rfl
    have hEach : ∀ i, i < len → ∃ cs', W.cells? 0 (a.add (i * 3)) 3 = some cs' ∧ ∃ y, DataW.trod enc Try.prog W 0 (fun _ => true) held n2 26 cs' = some y := fun i hi => by
      have h1 := hel2 i hi
      rw [List.getElem?_eq_getElem (by omega), Option.bind_eq_some_iff] at h1
      obtain ⟨cs', h2, h3⟩ := h1
      exact ⟨cs', h2, _, h3⟩
    have hT : ∀ i : Nat, ∃ t : M.Tm, i < len → ∀ (j : Nat) c, t.cells[j]? = some c → ∃ u, W.cell? ((a.add (i * 3)).add j) = some u ∧ M.Rep m u c := fun i => by
      by_cases hi : i < len
      · obtain ⟨cs', h2, y, h3⟩ := hEach i hi
        obtain ⟨t, h4, h5⟩ := ih n2 (by omega) cs' y h3
        refine ⟨t, fun _ j c hj => ?_⟩
        obtain ⟨u, h6, h7⟩ := h5 j c hj
        have hj3 : j < 3 := by have := (List.getElem?_eq_some_iff.1 hj).1; rwa [M.Tm.cells_len] at this
        exact ⟨u, by rw [(World.cells?_some h2).2.2 j hj3]; exact h6, h7⟩
      · exact ⟨.mk 0 0 [], fun h => absurd h hi⟩
    obtain ⟨F, hF⟩ := Classical.axiomOfChoice hT
    by_cases hcap0 : cap = 0
    · subst hcap0
      obtain rfl : len = 0 := by omega
      exact fin [] (.emp a 3 (by decide))
    · obtain ⟨b, off, rfl⟩ : ∃ b off, a = ⟨b, off, none⟩ := by
        have hcell : ∃ cs', W.cells? 0 (a.add (0 * 3)) 3 = some cs' := by
          by_cases h0 : 0 < len
          · obtain ⟨cs', h2, -⟩ := hEach 0 h0
            exact ⟨cs', h2⟩
          · obtain rfl : len = 0 := by omega
            have h1 := hr2 0 (by omega)
            rw [List.getElem?_eq_getElem (by omega), Option.bind_eq_some_iff] at h1
            obtain ⟨cs', h2, -⟩ := h1
            exact ⟨cs', h2⟩
        obtain ⟨cs', h2⟩ := hcell
        obtain ⟨-, h3, h4⟩ := World.cells?_some h2
        have h5 := h4 0 (by omega)
        rw [List.getElem?_eq_getElem (by omega)] at h5
        have e : (a.add (0 * 3)).add 0 = a.add 0 := by
          unfold Addr.add; simp
        rw [e] at h5
        exact plain_of h5
      refine fin ((List.range len).map F) (.sl b off len cap 3 _ (fun k => (W.cell? ⟨b, off + k, none⟩).getD undef) (by decide) (by simp) hle (by simpa [maxLen] using hcap) (fun k c hk => ?_) (fun k c hk => ?_))
      all_goals
        obtain ⟨i, j, hi, rfl, hj, hc⟩ := cellsL_at _ k c hk
        have hi' : i < len := by simpa using hi
        simp only [List.getElem_map, List.getElem_range] at hc
        obtain ⟨u, hu, hr⟩ := hF i hi' j c hc
        rw [Addr.add_lit, Addr.add_lit, Nat.add_assoc] at hu
        simp only [hu, Option.getD_some]
      · exact hm _ _ _ hu
      · exact hr
set_option maxRecDepth 100000 in
theorem term_of_trod {base : Nat} {v : Value} {d : DataW H} {p : List MemPlace} (hval : Value.okWide Try.prog W .any base 26 v) (h : DataW.Trod enc Try.prog W 0 (fun _ => true) held 26 v d p) :
    ∃ t : M.Tm, M.VR (M.evOf W.heap.size (fun _ => True) (fun _ => none) (fun k => k < 0) W) v (M.tmV 1 t) := by
  obtain ⟨fuel, hf⟩ := h
  have hm : ∀ b o u, W.cell? ⟨b, o, none⟩ = some u → (M.evOf W.heap.size (fun _ => True) (fun _ => none) (fun k => k < 0) W).mem 1 b o = some u := fun b o u hu => M.memL_some.2 ⟨fun ⟨id, u, n, h1, _⟩ => (by cases h1), .inr (.inr ⟨rfl, trivial⟩), hu⟩
  obtain ⟨t, hl, hr⟩ := term_rep hm fuel _ _ hf
  simp only [Value.okWide, Try.underlying26] at hval
  obtain ⟨cs, rfl, hsz, -⟩ := hval
  simp only [Value.cells] at hr hl
  obtain ⟨u0, e0, r0⟩ := hr 0 (.int .i64 t.op) (by rw [M.Tm.cells_eq]; rfl)
  obtain ⟨u1, e1, r1⟩ := hr 1 (.int .i64 t.n) (by rw [M.Tm.cells_eq]; rfl)
  obtain ⟨u2, e2, r2⟩ := hr 2 (.sl 3 (M.cellsL t.args)) (by rw [M.Tm.cells_eq]; rfl)
  obtain rfl : cs = #[u0, u1, u2] := by
    apply Array.ext'
    match hcs : cs.toList, hl with
    | [a, b, c], _ =>
      rw [hcs] at e0 e1 e2
      simp only [List.getElem?_cons_zero, List.getElem?_cons_succ, Option.some.injEq] at e0 e1 e2
      subst e0 e1 e2
      rfl
  refine ⟨t, .agg _ _ rfl (fun v hv => ?_) (fun i c hi => ?_)⟩
  · simp only [List.mem_toArray, List.mem_cons, List.not_mem_nil, or_false] at hv
    rcases hv with rfl | rfl | rfl
    · exact r0.one
    · exact r1.one
    · exact r2.one
  · cases r0
    cases r1
    match i with
    | 0 => injection hi with hi; subst hi; exact .mkInt _ _ _ _
    | 1 => injection hi with hi; subst hi; exact .mkInt _ _ _ _
    | 2 => injection hi with hi; subst hi; exact .t _ _ _ r2
    | i + 3 => simp at hi
set_option maxRecDepth 100000 in
/-- A slice of integers, by its reading alone. -/
theorem kints_rep0 (hm : ∀ b o u, W.cell? ⟨b, o, none⟩ = some u → m b o = some u) {t e : TypeId} {k : IntKind} {fuel : Nat} {cs : List Value} {x : DataW H × List MemPlace} (ht : Try.prog.underlying t = some (.slice e)) (he : Try.prog.underlying e = some (.int k)) (hc : Try.prog.cellsOf e = 1)
    (hf : DataW.trod enc Try.prog W 0 (fun _ => true) held fuel t cs = some x) : ∃ (v : Value) (xs : List Int), cs = [v] ∧ M.Rep m v (.sl 1 (xs.map (.int k))) := by
  rcases Go.ChangeShapes.open_ints ht he hc hf with ⟨hcs, _⟩ | ⟨ad, l, c, zs, hcs, _, hl, hmx, hz, _, hcell, hwf⟩
  · exact ⟨_, [], hcs, .nil 1⟩
  · simp only [if_true] at hz
    by_cases h0 : c = 0
    · subst h0
      obtain rfl : l = 0 := by omega
      exact ⟨_, [], hcs, .emp ad 1 (by decide)⟩
    · obtain ⟨b, o, rfl⟩ := plain_of (hcell 0 (by omega))
      refine ⟨_, zs.take l, hcs, .sl b o l c 1 _ (fun i => .int k (zs.getD i 0)) (by omega) (by simp [hz]; omega) hl (by simpa [maxLen] using hmx) (fun i x hi => ?_) (fun i x hi => ?_)⟩
      all_goals
        have hi' : i < l := by have := (List.getElem?_eq_some_iff.1 hi).1; simp at this; omega
      · have := hcell i (by omega)
        rw [Addr.add_lit] at this
        exact hm _ _ _ this
      · have hz' : i < zs.length := by omega
        simp [hi', hz'] at hi
        subst hi
        rw [List.getD_eq_getElem?_getD, List.getElem?_eq_getElem hz', Option.getD_some]
        exact .int _ _
set_option maxRecDepth 100000 in
/-- A slice of slices of integers. -/
theorem rows_rep0 (hm : ∀ b o u, W.cell? ⟨b, o, none⟩ = some u → m b o = some u) {fuel : Nat} {cs : List Value} {x : DataW H × List MemPlace}
    (hf : DataW.trod enc Try.prog W 0 (fun _ => true) held fuel 47 cs = some x) : ∃ (v : Value) (xs : List (List Int)), cs = [v] ∧ M.Rep m v (M.rows xs) := by
  have hc1 : Try.prog.cellsOf 37 = 1 := by kernel_rfl
  rcases DataW.trod_slice Try.underlying47 hf with ⟨hcs, _⟩ | ⟨a, len, cap, elems, rest, n2, hfu, hcs, -, -, hle, hcap, hel, hel2, hsp, -⟩
  · exact ⟨_, [], hcs, .nil 1⟩
  · rw [hc1] at hel2 hsp
    obtain ⟨hrl, hr2⟩ := hsp rfl
    have hEach : ∀ i, i < len → ∃ cs', W.cells? 0 (a.add (i * 1)) 1 = some cs' ∧ ∃ y, DataW.trod enc Try.prog W 0 (fun _ => true) held n2 37 cs' = some y := fun i hi => by
      have h1 := hel2 i hi
      rw [List.getElem?_eq_getElem (by omega), Option.bind_eq_some_iff] at h1
      obtain ⟨cs', h2, h3⟩ := h1
      exact ⟨cs', h2, _, h3⟩
    have hT : ∀ i : Nat, ∃ r : List Int, i < len → ∃ u, W.cell? (a.add i) = some u ∧ M.Rep m u (M.ints r) := fun i => by
      by_cases hi : i < len
      · obtain ⟨cs', h2, y, h3⟩ := hEach i hi
        obtain ⟨v, r, rfl, h4⟩ := kints_rep0 hm Try.underlying37 Try.underlying3 (by kernel_rfl) h3
        refine ⟨r, fun _ => ⟨v, ?_, h4⟩⟩
        rw [Nat.mul_one] at h2
        exact Go.ChangeShapes.cell_of_cells?_one h2
      · exact ⟨[], fun h => absurd h hi⟩
    obtain ⟨F, hF⟩ := Classical.axiomOfChoice hT
    by_cases hcap0 : cap = 0
    · subst hcap0
      obtain rfl : len = 0 := by omega
      exact ⟨_, [], hcs, .emp a 1 (by decide)⟩
    · obtain ⟨b, off, rfl⟩ : ∃ b off, a = ⟨b, off, none⟩ := by
        have hcell : ∃ cs', W.cells? 0 (a.add 0) 1 = some cs' := by
          by_cases h0 : 0 < len
          · obtain ⟨cs', h2, -⟩ := hEach 0 h0
            exact ⟨cs', h2⟩
          · obtain rfl : len = 0 := by omega
            have h1 := hr2 0 (by omega)
            rw [List.getElem?_eq_getElem (by omega), Option.bind_eq_some_iff] at h1
            obtain ⟨cs', h2, -⟩ := h1
            exact ⟨cs', h2⟩
        obtain ⟨cs', h2⟩ := hcell
        obtain ⟨-, h3, h4⟩ := World.cells?_some h2
        have h5 := h4 0 (by omega)
        rw [List.getElem?_eq_getElem (by omega)] at h5
        have e : (a.add 0).add 0 = a.add 0 := by
          unfold Addr.add; simp
        rw [e] at h5
        exact plain_of h5
      refine ⟨_, (List.range len).map F, hcs, .sl b off len cap 1 _ (fun k => (W.cell? ⟨b, off + k, none⟩).getD undef) (by decide) (by simp) hle (by simpa [maxLen] using hcap) (fun k c hk => ?_) (fun k c hk => ?_)⟩
      all_goals
        have hi' : k < len := by have := (List.getElem?_eq_some_iff.1 hk).1; simpa using this
        simp [hi'] at hk
        subst hk
        obtain ⟨u, hu, hr⟩ := hF k hi'
        rw [Addr.add_lit] at hu
        simp only [hu, Option.getD_some]
      · exact hm _ _ _ hu
      · exact hr
set_option maxRecDepth 100000 in
theorem rows_of_trod' {base : Nat} {v : Value} {d : DataW H} {p : List MemPlace} (hval : Value.okWide Try.prog W .any base 47 v) (h : DataW.Trod enc Try.prog W 0 (fun _ => true) held 47 v d p) :
    ∃ t : List (List Int), M.VR (M.evOf W.heap.size (fun _ => True) (fun _ => none) (fun k => k < 0) W) v (.t 1 (M.rows t)) := by
  obtain ⟨a, len, cap, rfl⟩ := Go.WideShapes.okWide_slice Try.underlying47 hval
  obtain ⟨fuel, hf⟩ := h
  have hm : ∀ b o u, W.cell? ⟨b, o, none⟩ = some u → (M.evOf W.heap.size (fun _ => True) (fun _ => none) (fun k => k < 0) W).mem 1 b o = some u := fun b o u hu => M.memL_some.2 ⟨fun ⟨id, u, n, h1, _⟩ => (by cases h1), .inr (.inr ⟨rfl, trivial⟩), hu⟩
  obtain ⟨v, xs, h1, h2⟩ := rows_rep0 hm hf
  injection h1 with h1 _
  exact ⟨xs, .t _ _ _ (h1 ▸ h2)⟩
end
end Go.Proofs.Ytghnmmfkckneaaa
