/-
  My own library: a slice of rows that grows, each row held in a block of its own; append as a step of a region that draws.
-/
import Derived.Test.YtgghmjnbkbiffaaDefine
import Derived.Test.YtgghmjnbkbiffaaM20b
import Derived.Deep.RegionLaw
namespace Go.Proofs.Ytgghmjnbkbiffaa
open Go.RowKit
set_option linter.unusedVariables false

theorem Try.infoRow : (Try.prog.info? 31).map (fun i => (i.zero, i.size, i.bytes)) = some (some (.slice none 0 0), 1, 24) := by kernel_rfl

/-- append onto a row of the call's own, as one step of a region that draws. -/
theorem step_app {P : Program} {w : World} {ops : Array Oper} {o : Oper} {a : Act} {K : Act → World → Prop} {Q : Exit → Act → World → Prop} {X : Prop} (hgd : o.guard = none) (s x : Operand) (t : TypeId)
    (ho : o.op = .call { callee := .builtin .append, args := #[s, x], argTypes := #[t, t] })
    (base : Nat) (e : TypeId) (z : Value) (bytes : Nat) (ht : P.underlying t = some (.slice e)) (hinfo : (P.info? e).map (fun i => (i.zero, i.size, i.bytes)) = some (some z, 1, bytes)) (hzs : z.cells.size = 1)
    (v : Value) (n : Nat) (xs : List Value) (hs : a.eval s = v) (ad : Addr) (m c : Nat) (news : List Value) (hx : a.eval x = .slice (some ad) m c)
    (hown : w.ownsRow base e 1 v n xs) (hl : news.length = m) (hnews : ∀ j u, news[j]? = some u → w.cell? (ad.add j) = some u) (h1 : ∀ u ∈ news, u.oneCell' = true)
    (hm : 0 < m) (h63 : n + m ≤ maxLen) (hbytes : (n + m) * bytes ≤ 140737488355328) (hbase : base ≤ w.heap.size)
    (h : ∀ r cap w', App base e w w' v (.slice (some ⟨r, 0, none⟩) (n + m) cap) n m xs news → K (a.put o.dst (.slice (some ⟨r, 0, none⟩) (n + m) cap)) w') :
    if Region.wanted o (yielded ops a.tmps) = true then Oper.wp P o a w K Q else X := by
  have hw : Region.wanted o (yielded ops a.tmps) = true := by simp [Region.wanted, hgd]
  rw [if_pos hw]
  obtain ⟨v', w', hrun, r1⟩ := run_append_kept (P := P) w base t o.type e z bytes ht hinfo hzs v n xs hown ad m c news hl hnews h1 h63 hbytes hbase
  unfold Oper.wp execOp
  simp only [ho, resolve, invoke, builtin, Sem.run_bind, Sem.run_pure, Result.andThen_ok, List.map_toArray, List.map_cons, List.map_nil, hs, hx, hrun]
  obtain ⟨r, cap, rfl, _, _⟩ := r1.own.form (by omega)
  exact h r cap w' r1

/-- The rows that have been found. -/
def FoundAt (w : World) (base : Nat) (vf : Value) (L : List (List Nat)) : Prop :=
  ∃ vs, w.ownsRow base 31 1 vf (lnx L) vs ∧ ∀ (i : Nat) (h : List Nat), L[i]? = some h → ∃ u, vs[i]? = some u ∧ OwnN w base u h

theorem FoundAt.nil (w : World) (base : Nat) : FoundAt w base (.slice none 0 0) [] := ⟨[], World.ownsRow_nil w base _ _, by simp⟩

/-- A block of another type is not one of the rows. -/
def Foreign (w : World) (base k : Nat) : Prop := k < base ∨ w.heap.size ≤ k ∨ ∃ cs E, w.heap[k]? = some (.cells cs E (0, 0)) ∧ E ≠ 3 ∧ E ≠ 31

theorem Foreign.not_own {w : World} {base k : Nat} (h : Foreign w base k) {e : TypeId} (he : e = 3 ∨ e = 31) {v : Value} {n : Nat} {xs : List Value} (hown : w.ownsRow base e 1 v n xs) : v.ownBlock ≠ some k := by
  intro hv
  have hlt := hown.lt k hv
  rcases h with h | h | ⟨cs, E, h1, h2, h3⟩
  · omega
  · omega
  · rcases hown.2 with ⟨rfl, _⟩ | ⟨g, cap, cur, rfl, _, hg, _⟩
    · simp [Value.ownBlock] at hv
    · obtain rfl : g = k := by simpa [Value.ownBlock] using hv
      rw [hg] at h1
      injection h1 with h1
      injection h1 with _ h1
      rcases he with rfl | rfl
      · exact h2 h1.symm
      · exact h3 h1.symm

theorem own_only {S : Nat → Prop} {w w' : World} {base : Nat} {e : TypeId} {v : Value} {n : Nat} {xs : List Value} (h : w.ownsRow base e 1 v n xs) (ho : Only S w w') (hn : ∀ k, v.ownBlock = some k → ¬ S k) : w'.ownsRow base e 1 v n xs := by
  refine ⟨h.1, ?_⟩
  rcases h.2 with h2 | ⟨g, cap, cur, rfl, hb, hg, rest⟩
  · exact .inl h2
  · exact .inr ⟨g, cap, cur, rfl, hb, (ho.block g (lt_of_block hg) (hn g rfl)).trans hg, rest⟩

theorem FoundAt.only {S : Nat → Prop} {w w' : World} {base : Nat} {vf : Value} {L : List (List Nat)} (h : FoundAt w base vf L) (ho : Only S w w') (hS : ∀ k, S k → Foreign w base k) : FoundAt w' base vf L := by
  obtain ⟨vs, h1, h2⟩ := h
  refine ⟨vs, own_only h1 ho (fun k hk hs => (hS k hs).not_own (.inr rfl) h1 hk), fun i h hi => ?_⟩
  obtain ⟨u, hu, hown⟩ := h2 i h hi
  exact ⟨u, hu, hown.only ho (fun k hk hs => (hS k hs).not_own (.inl rfl) hown hk)⟩
theorem FoundAt.call {w w' : World} {base : Nat} {vf : Value} {L : List (List Nat)} (h : FoundAt w base vf L) (hb : Below w.heap.size w w') : FoundAt w' base vf L := h.only (Only.of_below hb) (fun k hk => .inr (.inl hk))

theorem rows_ne {w : World} {base : Nat} {v u : Value} {n m : Nat} {xs ys : List Value} (h : w.ownsRow base 31 1 v n xs) (k : w.ownsRow base 3 1 u m ys) : ∀ b, u.ownBlock = some b → v.ownBlock ≠ some b := by
  intro b hb hv
  rcases h.2 with ⟨rfl, _⟩ | ⟨g, cap, cur, rfl, _, hg, _⟩
  · simp [Value.ownBlock] at hv
  · rcases k.2 with ⟨rfl, _⟩ | ⟨g', cap', cur', rfl, _, hg', _⟩
    · simp [Value.ownBlock] at hb
    · obtain rfl : g = b := by simpa [Value.ownBlock] using hv
      obtain rfl : g' = g := by simpa [Value.ownBlock] using hb
      rw [hg] at hg'
      injection hg' with hg'
      injection hg' with _ h2
      exact absurd h2 (by decide)

theorem FoundAt.push {w w' : World} {base : Nat} {vf v' u : Value} {L : List (List Nat)} {h : List Nat} {vs : List Value} (h1 : w.ownsRow base 31 1 vf (lnx L) vs) (h2 : ∀ (i : Nat) (h : List Nat), L[i]? = some h → ∃ u, vs[i]? = some u ∧ OwnN w base u h) (hu : OwnN w base u h)
    (hap : App base 31 w w' vf v' (lnx L) 1 vs [u]) : FoundAt w' base v' (L ++ [h]) := by
  have ho : Only (fun k => vf.ownBlock = some k) w w' := Only.grown (Only.refl _ w) hap.grown (fun k _ e => e)
  have hlen : vs.length = L.length := by have := h1.1; simpa [lnx] using this
  refine ⟨vs ++ [u], by rw [lnx_append, lnx_one]; exact hap.own, fun i g hi => ?_⟩
  by_cases e : i < L.length
  · rw [List.getElem?_append_left e] at hi
    obtain ⟨u', hu', hown⟩ := h2 i g hi
    exact ⟨u', by rw [List.getElem?_append_left (by omega)]; exact hu', hown.only ho (fun k hk => rows_ne h1 hown k hk)⟩
  · have hi2 : i < (L ++ [h]).length := (List.getElem?_eq_some_iff.1 hi).1
    simp at hi2
    obtain rfl : i = L.length := by omega
    simp at hi
    subst hi
    exact ⟨u, by rw [← hlen]; simp, hu.only ho (fun k hk => rows_ne h1 hu k hk)⟩

theorem FoundAt.rows {w : World} {base : Nat} {vf : Value} {L : List (List Nat)} (h : FoundAt w base vf L) : Rows2 w vf (L.map natsOf) := by
  obtain ⟨vs, h1, h2⟩ := h
  have hlen : vs.length = L.length := by have := h1.1; simpa [lnx] using this
  have hs : Sl id w vf vs := Sl.own (base := base) (e := 31) (by simpa [lnx, hlen] using h1)
  obtain ⟨a, cap, rfl, h3, h4, h5⟩ := hs
  have hl : lnx (L.map natsOf) = lnx vs := by simp [lnx, hlen]
  refine ⟨a, cap, by rw [hl], by omega, h4, fun h0 => ?_⟩
  obtain ⟨b, o, rfl, hc⟩ := h5 (by omega)
  refine ⟨b, o, rfl, fun i hi => ?_⟩
  rw [hl] at hi
  have hiL : i < L.length := by simp [lnx] at hi; omega
  obtain ⟨u, hu, hown⟩ := h2 i L[i] (by simp)
  have hvi : nthx vs i = u := by simp [nthx, hu]
  refine ⟨u, by rw [hc i hi, hvi]; rfl, ?_⟩
  have : nthx (L.map natsOf) i = natsOf L[i] := by simp [nthx, hiL]
  rw [this]
  exact hown.ints

/-- The search's own memory. -/
structure SearchSt (w : World) (sb base : Nat) (vt vu : Value) (inj : Bool) (lim : Nat) (vf : Value) (L : List (List Nat)) : Prop where
  blk : w.heap[sb]? = some (.cells #[vt, vu, .bool inj, .int .i64 lim, vf] 110 (0, 0))
  found : FoundAt w base vf L
  lt : sb < base
  hb : base ≤ w.heap.size

theorem SearchSt.call {w w' : World} {sb base : Nat} {vt vu : Value} {inj : Bool} {lim : Nat} {vf : Value} {L : List (List Nat)} (h : SearchSt w sb base vt vu inj lim vf L) (hb : Below w.heap.size w w') : SearchSt w' sb base vt vu inj lim vf L :=
  ⟨(hb.block sb (by have := h.lt; have := h.hb; omega)).trans h.blk, h.found.call hb, h.lt, Nat.le_trans h.hb hb.size⟩
end Go.Proofs.Ytgghmjnbkbiffaa
