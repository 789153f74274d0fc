/-
  The walk of semigroupref20.search and Homs.
-/
import Derived.Test.YtgghmjnbkbiffaaFits
namespace Go.Proofs.Ytgghmjnbkbiffaa
open Go.RowKit
set_option linter.unusedVariables false

theorem run_append_nil_src {P : Program} (w : World) (base : Nat) (t ty e : TypeId) (i : TypeInfo) (ht : P.underlying t = some (.slice e)) (hi : P.info? e = some i)
    (v : Value) (n : Nat) (xs : List Value) (hown : w.ownsRow base e 1 v n xs) (c : Nat) : (Builtin.append_ #[t, t] ty #[v, .slice none 0 c]).run P w = .ok v w := by
  rcases hown.2 with ⟨rfl, rfl⟩ | ⟨g, cap, cur, rfl, _, _, hnc, _⟩
  · simp [Builtin.append_, run_underlying ht, sizeOf, typeInfo, hi, Builtin.lenOf, Builtin.firstCells]
  · simp [Builtin.append_, run_underlying ht, sizeOf, typeInfo, hi, Builtin.lenOf, Builtin.firstCells, hnc, storeCells]

/-- append(out, ys...): onto a row of the call's own, whatever the source. -/
theorem wpList_app {P : Program} (w : World) {ops : Array Oper} {rest : List Oper} {o : Oper} {a : Act} {Q : Exit → Act → World → Prop} (hgd : o.guard = none) (s x : Operand) (t : TypeId)
    (ho : o.op = .call { callee := .builtin .append, args := #[s, x], argTypes := #[t, t] })
    (base : Nat) (e : TypeId) (z : Value) (bytes : Nat) (ht : P.underlying t = some (.slice e)) (hinfo : (P.info? e).map (fun i => (i.zero, i.size, i.bytes)) = some (some z, 1, bytes)) (hzs : z.cells.size = 1)
    (v : Value) (n : Nat) (xs : List Value) (hs : a.eval s = v) {α : Type} [Inhabited α] (enc : α → Value) (src : Value) (ys : List α) (hx : a.eval x = src)
    (hown : w.ownsRow base e 1 v n xs) (hsrc : Sl enc w src ys) (h1 : ∀ y, (enc y).oneCell' = true)
    (h63 : n + lnx ys ≤ maxLen) (hbytes : (n + lnx ys) * bytes ≤ 140737488355328) (hbase : base ≤ w.heap.size)
    (h : ∀ v' w', App base e w w' v v' n (lnx ys) xs (ys.map enc) → wpList P ops Q rest (a.put o.dst v') w') :
    wpList P ops Q (o :: rest) a w := by
  obtain ⟨i, hi, hz, hsz, hby⟩ := info_parts hinfo
  refine wpList_plain hgd fun K hK => ?_
  obtain ⟨sa, sc, rfl, s1, s2, s3⟩ := hsrc
  cases sa with
  | none =>
    have h0 : lnx ys = 0 := by
      rcases Nat.eq_zero_or_pos (lnx ys) with h | h
      · exact h
      · obtain ⟨_, _, e, _⟩ := s3 h; cases e
    have hy : ys = [] := List.eq_nil_of_length_eq_zero h0
    subst hy
    have hrun := run_append_nil_src (P := P) w base t o.type e i ht hi v n xs hown sc
    unfold Oper.wp execOp
    simp only [lnx_nil] at hx
    simp only [ho, resolve, invoke, builtin, Sem.run_bind, Sem.run_pure, Result.andThen_ok, List.map_toArray, List.map_cons, List.map_nil, hs, hx, hrun]
    refine hK _ _ (h v w ⟨by simpa [lnx] using hown, World.grownBy.refl w _, .inl rfl, ?_⟩)
    intro g hg j u hu
    have := hown.cells hg j u hu
    rw [Addr.add_lit] at this
    simpa using this
  | some ad =>
    have hnews : ∀ j u, (ys.map enc)[j]? = some u → w.cell? (ad.add j) = some u := by
      intro j u hu
      have hj : j < lnx ys := by have := (List.getElem?_eq_some_iff.1 hu).1; simpa [lnx] using this
      obtain ⟨b, o', e2, hc⟩ := s3 (by omega)
      injection e2 with e2
      subst e2
      rw [Addr.add_lit, hc j hj]
      simp [lnx] at hj
      simp [nthx, hj] at hu ⊢
      exact hu
    obtain ⟨v', w', hrun, r1⟩ := run_append_kept (P := P) w base t o.type e z bytes ht hinfo hzs v n xs hown ad (lnx ys) sc (ys.map enc) (by simp [lnx]) hnews (by
      intro u hu
      obtain ⟨y, _, rfl⟩ := List.mem_map.1 hu
      exact h1 y) h63 hbytes hbase
    unfold Oper.wp execOp
    simp only [ho, resolve, invoke, builtin, Sem.run_bind, Sem.run_pure, Result.andThen_ok, List.map_toArray, List.map_cons, List.map_nil, hs, hx, hrun]
    exact hK _ _ (h v' w' r1)

/-- The same onto a slice that is not nil: the new value written out. -/
theorem wpList_app' {P : Program} (w : World) {ops : Array Oper} {rest : List Oper} {o : Oper} {a : Act} {Q : Exit → Act → World → Prop} (hgd : o.guard = none) (s x : Operand) (t : TypeId)
    (ho : o.op = .call { callee := .builtin .append, args := #[s, x], argTypes := #[t, t] })
    (base : Nat) (e : TypeId) (z : Value) (bytes : Nat) (ht : P.underlying t = some (.slice e)) (hinfo : (P.info? e).map (fun i => (i.zero, i.size, i.bytes)) = some (some z, 1, bytes)) (hzs : z.cells.size = 1)
    (g0 c0 : Nat) (n : Nat) (xs : List Value) (hs : a.eval s = .slice (some ⟨g0, 0, none⟩) n c0) {α : Type} [Inhabited α] (enc : α → Value) (src : Value) (ys : List α) (hx : a.eval x = src)
    (hown : w.ownsRow base e 1 (.slice (some ⟨g0, 0, none⟩) n c0) n xs) (hsrc : Sl enc w src ys) (h1 : ∀ y, (enc y).oneCell' = true)
    (h63 : n + lnx ys ≤ maxLen) (hbytes : (n + lnx ys) * bytes ≤ 140737488355328) (hbase : base ≤ w.heap.size)
    (h : ∀ r cap w', App base e w w' (.slice (some ⟨g0, 0, none⟩) n c0) (.slice (some ⟨r, 0, none⟩) (n + lnx ys) cap) n (lnx ys) xs (ys.map enc) → wpList P ops Q rest (a.put o.dst (.slice (some ⟨r, 0, none⟩) (n + lnx ys) cap)) w') :
    wpList P ops Q (o :: rest) a w := by
  refine wpList_app w hgd s x t ho base e z bytes ht hinfo hzs _ n xs hs enc src ys hx hown hsrc h1 h63 hbytes hbase ?_
  intro v' w' hap
  rcases hap.own.2 with ⟨rfl, _⟩ | ⟨g, cap, cur, rfl, _⟩
  · rcases hap.loc with e | e <;> simp [Value.ownBlock] at e
  · exact h g cap w' hap

theorem OwnN.app {base : Nat} {w w' : World} {v v' : Value} {xs ys : List Nat} (h : App base 3 w w' v v' (lnx xs) (lnx ys) (nv xs) (nv ys)) : OwnN w' base v' (xs ++ ys) := by
  have := h.own
  unfold OwnN
  rw [lnx_append]
  simpa [nv] using this

/-- The images of the first elements agree with all products among them. -/
structure ConsP (m : Nat) (T U : Nat → Nat → Nat) (inj : Bool) (p : List Nat) : Prop where
  mul : ∀ y z, y < lnx p → z < lnx p → T y z < lnx p → nthx p (T y z) = U (nthx p y) (nthx p z)
  inj : inj = true → ∀ y z, y < lnx p → z < lnx p → y ≠ z → nthx p y ≠ nthx p z
  lt : ∀ y, y < lnx p → nthx p y < m

theorem ConsP.nil (m : Nat) (T U : Nat → Nat → Nat) (inj : Bool) : ConsP m T U inj [] := ⟨fun y z h => by simp [lnx] at h, fun _ y z h => by simp [lnx] at h, fun y h => by simp [lnx] at h⟩

theorem ConsP.snoc {m : Nat} {T U : Nat → Nat → Nat} {inj : Bool} {p : List Nat} {v : Nat} (h : ConsP m T U inj p) (hv : v < m) (hf : FitP T U inj (lnx p) (p ++ [v])) : ConsP m T U inj (p ++ [v]) := by
  have hl : lnx (p ++ [v]) = lnx p + 1 := by rw [lnx_append, lnx_one]
  have hlt : ∀ y, y < lnx p → nthx (p ++ [v]) y = nthx p y := fun y hy => nthx_append_lt p [v] hy
  refine ⟨fun y z hy hz hT => ?_, fun hi y z hy hz hne => ?_, fun y hy => ?_⟩
  · rw [hl] at hy hz hT
    by_cases hx : y = lnx p ∨ z = lnx p ∨ T y z = lnx p
    · exact (hf y hy).2 z hz hx hT
    · have h1 : y < lnx p := by omega
      have h2 : z < lnx p := by omega
      have h3 : T y z < lnx p := by omega
      rw [hlt y h1, hlt z h2, hlt _ h3]
      exact h.mul y z h1 h2 h3
  · rw [hl] at hy hz
    by_cases e1 : y = lnx p
    · have := (hf z hz).1 hi (by omega)
      rw [e1]
      exact fun e => this e.symm
    · by_cases e2 : z = lnx p
      · have := (hf y hy).1 hi e1
        rw [e2]; exact this
      · rw [hlt y (by omega), hlt z (by omega)]
        exact h.inj hi y z (by omega) (by omega) hne
  · rw [hl] at hy
    by_cases e1 : y = lnx p
    · rw [e1, nthx_append_new]; exact hv
    · rw [hlt y (by omega)]; exact h.lt y (by omega)

theorem ConsP.hom {n m : Nat} {T U : Nat → Nat → Nat} {inj : Bool} {p : List Nat} (h : ConsP m T U inj p) (hl : lnx p = n) (hT : ∀ r c, r < n → c < n → T r c < n) : homB n m T U inj p = true := by
  subst hl
  rw [homB_iff]
  exact ⟨fun a b ha hb => h.mul a b ha hb (hT a b ha hb), h.lt, h.inj⟩

/-- Where fits says no, nothing begins so. -/
theorem fit_none {n m : Nat} {T U : Nat → Nat → Nat} {inj : Bool} {p : List Nat} {v : Nat} (hT : ∀ r c, r < n → c < n → T r c < n) (hp : lnx p < n) (hf : ¬ FitP T U inj (lnx p) (p ++ [v])) (k : Nat) : lexExt (homB n m T U inj) m k (p ++ [v]) = [] := by
  rw [List.eq_nil_iff_forall_not_mem]
  intro h hh
  obtain ⟨h1, h2, h3, _⟩ := lexExt_mem hh
  have hom := homB_iff.1 h1
  have hl : (p ++ [v]).length = lnx p + 1 := by simp [lnx]
  apply hf
  intro y hy
  refine ⟨fun hi hne => ?_, fun z hz _ hT' => ?_⟩
  · rw [← h3 y (by omega), ← h3 (lnx p) (by omega)]
    exact hom.inj hi y (lnx p) (by omega) hp hne
  · rw [← h3 y (by omega), ← h3 z (by omega), ← h3 _ (by omega)]
    exact hom.mul y z (by omega) (by omega)

/-- The branches below y. -/
noncomputable def lexY (n m : Nat) (T U : Nat → Nat → Nat) (inj : Bool) (p : List Nat) (y : Nat) : List (List Nat) := (List.range y).flatMap fun z => lexExt (homB n m T U inj) m (n - (lnx p + 1)) (p ++ [z])
theorem lexY_succ (n m : Nat) (T U : Nat → Nat → Nat) (inj : Bool) (p : List Nat) (y : Nat) : lexY n m T U inj p (y + 1) = lexY n m T U inj p y ++ lexExt (homB n m T U inj) m (n - (lnx p + 1)) (p ++ [y]) := by
  unfold lexY
  simp [List.range_succ, List.flatMap_append]
theorem lexY_all {n m : Nat} {T U : Nat → Nat → Nat} {inj : Bool} {p : List Nat} (h : lnx p < n) : lexY n m T U inj p m = lexExt (homB n m T U inj) m (n - lnx p) p := by
  unfold lexY
  rw [show n - lnx p = (n - (lnx p + 1)) + 1 by omega, lexExt]
theorem lexY_mono (n m : Nat) (T U : Nat → Nat → Nat) (inj : Bool) (p : List Nat) : ∀ y d, ∃ R, lexY n m T U inj p (y + d) = lexY n m T U inj p y ++ R
  | y, 0 => ⟨[], by simp⟩
  | y, d + 1 => by
    obtain ⟨R, hR⟩ := lexY_mono n m T U inj p y d
    exact ⟨R ++ _, by rw [show y + (d + 1) = (y + d) + 1 by omega, lexY_succ, hR, List.append_assoc]⟩
end Go.Proofs.Ytgghmjnbkbiffaa
