/-
  My own library: a slice of rows that grows, each row held in a block of its own; append as a step of a region that draws.
  The walk of morph's extend and run.
  The walk of morph's extend where a value is open; extend as a whole; run.
  Walks: morph.list, Homs, Automorphisms; semigrouplaw20.two, awake.
  The walk of semigroupref20.search and Homs.
  The walk of semigroupref20.search and Homs.
  Walks: morph.Isomorphism; the law MorphIsomorphic. Counting injective maps.
  Walks: morph.isHom, IsHom; semigroupref20.IsHom.
  The walk of morph.Image.
  Plain mathematics: a list is among the homomorphisms exactly if it is one; injective maps and the size of the image.
-/
import Derived.Test.YtgghmjnbkbiffaaZqas
import Derived.Test.YtgghmjnbkbiffaaZqat
import Derived.Deep.RegionLaw
namespace Go.Proofs.Ytgghmjnbkbiffaa
open Go.RowKit
set_option linter.unusedVariables false

/-- The rows that have been found. -/
def FoundAt (w : World) (base : Nat) (vf : Value) (L : List (List Nat)) : Prop :=
  ∃ vs, w.ownsRow base 31 1 vf (lnx L) vs ∧ ∀ (i : Nat) (h : List Nat), L[i]? = some h → ∃ u, vs[i]? = some u ∧ OwnN w base u h

theorem FoundAt.nil (w : World) (base : Nat) : FoundAt w base (.slice none 0 0) [] := ⟨[], World.ownsRow_nil w base _ _, by simp⟩

/-- A block of another type is not one of the rows. -/
def Foreign (w : World) (base k : Nat) : Prop := k < base ∨ w.heap.size ≤ k ∨ ∃ cs E, w.heap[k]? = some (.cells cs E (0, 0)) ∧ E ≠ 3 ∧ E ≠ 31

theorem Foreign.not_own {w : World} {base k : Nat} (h : Foreign w base k) {e : TypeId} (he : e = 3 ∨ e = 31) {v : Value} {n : Nat} {xs : List Value} (hown : w.ownsRow base e 1 v n xs) : v.ownBlock ≠ some k := by
  intro hv
  have hlt := hown.lt k hv
  rcases h with h | h | ⟨cs, E, h1, h2, h3⟩
  · omega
  · omega
  · rcases hown.2 with ⟨rfl, _⟩ | ⟨g, cap, cur, rfl, _, hg, _⟩
    · simp [Value.ownBlock] at hv
    · obtain rfl : g = k := by simpa [Value.ownBlock] using hv
      rw [hg] at h1
      injection h1 with h1
      injection h1 with _ h1
      rcases he with rfl | rfl
      · exact h2 h1.symm
      · exact h3 h1.symm

theorem own_only {S : Nat → Prop} {w w' : World} {base : Nat} {e : TypeId} {v : Value} {n : Nat} {xs : List Value} (h : w.ownsRow base e 1 v n xs) (ho : Only S w w') (hn : ∀ k, v.ownBlock = some k → ¬ S k) : w'.ownsRow base e 1 v n xs := by
  refine ⟨h.1, ?_⟩
  rcases h.2 with h2 | ⟨g, cap, cur, rfl, hb, hg, rest⟩
  · exact .inl h2
  · exact .inr ⟨g, cap, cur, rfl, hb, (ho.block g (lt_of_block hg) (hn g rfl)).trans hg, rest⟩

theorem FoundAt.only {S : Nat → Prop} {w w' : World} {base : Nat} {vf : Value} {L : List (List Nat)} (h : FoundAt w base vf L) (ho : Only S w w') (hS : ∀ k, S k → Foreign w base k) : FoundAt w' base vf L := by
  obtain ⟨vs, h1, h2⟩ := h
  refine ⟨vs, own_only h1 ho (fun k hk hs => (hS k hs).not_own (.inr rfl) h1 hk), fun i h hi => ?_⟩
  obtain ⟨u, hu, hown⟩ := h2 i h hi
  exact ⟨u, hu, hown.only ho (fun k hk hs => (hS k hs).not_own (.inl rfl) hown hk)⟩
theorem FoundAt.call {w w' : World} {base : Nat} {vf : Value} {L : List (List Nat)} (h : FoundAt w base vf L) (hb : Below w.heap.size w w') : FoundAt w' base vf L := h.only (Only.of_below hb) (fun k hk => .inr (.inl hk))

theorem rows_ne {w : World} {base : Nat} {v u : Value} {n m : Nat} {xs ys : List Value} (h : w.ownsRow base 31 1 v n xs) (k : w.ownsRow base 3 1 u m ys) : ∀ b, u.ownBlock = some b → v.ownBlock ≠ some b := by
  intro b hb hv
  rcases h.2 with ⟨rfl, _⟩ | ⟨g, cap, cur, rfl, _, hg, _⟩
  · simp [Value.ownBlock] at hv
  · rcases k.2 with ⟨rfl, _⟩ | ⟨g', cap', cur', rfl, _, hg', _⟩
    · simp [Value.ownBlock] at hb
    · obtain rfl : g = b := by simpa [Value.ownBlock] using hv
      obtain rfl : g' = g := by simpa [Value.ownBlock] using hb
      rw [hg] at hg'
      injection hg' with hg'
      injection hg' with _ h2
      exact absurd h2 (by decide)

theorem FoundAt.push {w w' : World} {base : Nat} {vf v' u : Value} {L : List (List Nat)} {h : List Nat} {vs : List Value} (h1 : w.ownsRow base 31 1 vf (lnx L) vs) (h2 : ∀ (i : Nat) (h : List Nat), L[i]? = some h → ∃ u, vs[i]? = some u ∧ OwnN w base u h) (hu : OwnN w base u h)
    (hap : App base 31 w w' vf v' (lnx L) 1 vs [u]) : FoundAt w' base v' (L ++ [h]) := by
  have ho : Only (fun k => vf.ownBlock = some k) w w' := Only.grown (Only.refl _ w) hap.grown (fun k _ e => e)
  have hlen : vs.length = L.length := by have := h1.1; simpa [lnx] using this
  refine ⟨vs ++ [u], by rw [lnx_append, lnx_one]; exact hap.own, fun i g hi => ?_⟩
  by_cases e : i < L.length
  · rw [List.getElem?_append_left e] at hi
    obtain ⟨u', hu', hown⟩ := h2 i g hi
    exact ⟨u', by rw [List.getElem?_append_left (by omega)]; exact hu', hown.only ho (fun k hk => rows_ne h1 hown k hk)⟩
  · have hi2 : i < (L ++ [h]).length := (List.getElem?_eq_some_iff.1 hi).1
    simp at hi2
    obtain rfl : i = L.length := by omega
    simp at hi
    subst hi
    exact ⟨u, by rw [← hlen]; simp, hu.only ho (fun k hk => rows_ne h1 hu k hk)⟩

theorem FoundAt.rows {w : World} {base : Nat} {vf : Value} {L : List (List Nat)} (h : FoundAt w base vf L) : Rows2 w vf (L.map natsOf) := by
  obtain ⟨vs, h1, h2⟩ := h
  have hlen : vs.length = L.length := by have := h1.1; simpa [lnx] using this
  have hs : Sl id w vf vs := Sl.own (base := base) (e := 31) (by simpa [lnx, hlen] using h1)
  obtain ⟨a, cap, rfl, h3, h4, h5⟩ := hs
  have hl : lnx (L.map natsOf) = lnx vs := by simp [lnx, hlen]
  refine ⟨a, cap, by rw [hl], by omega, h4, fun h0 => ?_⟩
  obtain ⟨b, o, rfl, hc⟩ := h5 (by omega)
  refine ⟨b, o, rfl, fun i hi => ?_⟩
  rw [hl] at hi
  have hiL : i < L.length := by simp [lnx] at hi; omega
  obtain ⟨u, hu, hown⟩ := h2 i L[i] (by simp)
  have hvi : nthx vs i = u := by simp [nthx, hu]
  refine ⟨u, by rw [hc i hi, hvi]; rfl, ?_⟩
  have : nthx (L.map natsOf) i = natsOf L[i] := by simp [nthx, hiL]
  rw [this]
  exact hown.ints

/-- The search's own memory. -/
structure SearchSt (w : World) (sb base : Nat) (vt vu : Value) (inj : Bool) (lim : Nat) (vf : Value) (L : List (List Nat)) : Prop where
  blk : w.heap[sb]? = some (.cells #[vt, vu, .bool inj, .int .i64 lim, vf] 110 (0, 0))
  found : FoundAt w base vf L
  lt : sb < base
  hb : base ≤ w.heap.size

theorem SearchSt.call {w w' : World} {sb base : Nat} {vt vu : Value} {inj : Bool} {lim : Nat} {vf : Value} {L : List (List Nat)} (h : SearchSt w sb base vt vu inj lim vf L) (hb : Below w.heap.size w w') : SearchSt w' sb base vt vu inj lim vf L :=
  ⟨(hb.block sb (by have := h.lt; have := h.hb; omega)).trans h.blk, h.found.call hb, h.lt, Nat.le_trans h.hb hb.size⟩
end Go.Proofs.Ytgghmjnbkbiffaa

namespace Go.Proofs.Ytgghmjnbkbiffaa
open Go.RowKit
set_option linter.unusedVariables false

def ExtPost (w : World) (sb base : Nat) (vt vu : Value) (inj : Bool) (lim : Nat) (vf : Value) (L : List (List Nat)) (e : Ending) (w' : World) : Prop :=
  e = .returned (.tuple #[]) ∧ ∃ vf', SearchSt w' sb base vt vu inj lim vf' L ∧ Only (fun k => k = sb ∨ vf.ownBlock = some k) w w' ∧ ∀ k, vf'.ownBlock = some k → vf.ownBlock = some k ∨ w.heap.size ≤ k

end Go.Proofs.Ytgghmjnbkbiffaa

namespace Go.Proofs.Ytgghmjnbkbiffaa
open Go.RowKit
set_option linter.unusedVariables false

theorem FoundAt.shape {w : World} {base : Nat} {vf : Value} {L : List (List Nat)} (h : FoundAt w base vf L) : ∃ a c, vf = .slice a (lnx L) c ∧ lnx L ≤ c := by
  obtain ⟨vs, h1, _⟩ := h
  rcases h1.2 with ⟨rfl, h0⟩ | ⟨g, cap, cur, rfl, _, _, hnc, _⟩
  · exact ⟨none, 0, by rw [h0], by omega⟩
  · exact ⟨_, cap, rfl, hnc⟩

/-- Memory at the head of the loop over the values. -/
structure ESt (w wr : World) (sb base : Nat) (vt vu : Value) (inj : Bool) (lim : Nat) (vf vf' : Value) (L' : List (List Nat)) (F : Nat → Int) : Prop where
  ss : SearchSt wr sb base vt vu inj lim vf' L'
  f8 : Blk8 112 wr w.heap.size F
  only : Only (fun k => k = sb ∨ vf.ownBlock = some k) w wr
  loc : ∀ k, vf'.ownBlock = some k → vf.ownBlock = some k ∨ w.heap.size ≤ k

theorem ESt.call {w wr w' : World} {sb base : Nat} {vt vu : Value} {inj : Bool} {lim : Nat} {vf vf' : Value} {L' : List (List Nat)} {F : Nat → Int} (h : ESt w wr sb base vt vu inj lim vf vf' L' F) (hb : Below wr.heap.size wr w') : ESt w w' sb base vt vu inj lim vf vf' L' F :=
  ⟨h.ss.call hb, h.f8.same (hb.block _ h.f8.lt), h.only.call hb, h.loc⟩
theorem ESt.ext {w wr w' : World} {sb base : Nat} {vt vu : Value} {inj : Bool} {lim : Nat} {vf vf' : Value} {L' L2 : List (List Nat)} {F : Nat → Int} (h : ESt w wr sb base vt vu inj lim vf vf' L' F) (hsb : sb < w.heap.size) {e : Ending}
    (hp : ExtPost wr sb base vt vu inj lim vf' L2 e w') : e = .returned (.tuple #[]) ∧ ∃ vf2, ESt w w' sb base vt vu inj lim vf vf2 L2 F := by
  obtain ⟨rfl, vf2, h1, h2, h3⟩ := hp
  refine ⟨rfl, vf2, h1, ?_, ?_, ?_⟩
  · refine h.f8.only h2 ?_
    rintro (e | e)
    · omega
    · obtain ⟨vs, ho, _⟩ := h.ss.found
      have hf : Foreign wr base w.heap.size := .inr (.inr ⟨_, _, h.f8, by decide, by decide⟩)
      exact hf.not_own (.inr rfl) ho e
  · refine ⟨h2.os.trans h.only.os, h2.tape.trans h.only.tape, h2.output.trans h.only.output, Nat.le_trans h.only.size h2.size, fun k hk hn => ?_⟩
    refine (h2.block k (Nat.lt_of_lt_of_le hk h.only.size) ?_).trans (h.only.block k hk hn)
    rintro (e | e)
    · exact hn (.inl e)
    · rcases h.loc k e with e | e
      · exact hn (.inr e)
      · omega
  · intro k hk
    rcases h3 k hk with e | e
    · exact h.loc k e
    · right
      have := h.only.size
      omega

theorem ESt.below {w0 w wr : World} {sb base : Nat} {vt vu : Value} {inj : Bool} {lim : Nat} {vf vf' : Value} {L L' : List (List Nat)} {F : Nat → Int} (h : ESt w wr sb base vt vu inj lim vf vf' L' F) (hs : SearchSt w sb base vt vu inj lim vf L) (hb : Below w0.heap.size w0 w) (hsb : w0.heap.size ≤ sb) : Below w0.heap.size w0 wr := by
  refine hb.trans (h.only.below (fun k hk => ?_) hb.size)
  rintro (e | e)
  · omega
  · obtain ⟨vs, ho, _⟩ := hs.found
    have := (ho.lt k e).1
    have := hs.lt
    omega

end Go.Proofs.Ytgghmjnbkbiffaa

namespace Go.Proofs.Ytgghmjnbkbiffaa
open Go.RowKit
set_option linter.unusedVariables false

theorem Sl2.nil (w : World) : Rows2 w (.slice none 0 0) [] := ⟨none, 0, rfl, by simp [lnx], by omega, fun h => by simp [lnx] at h⟩

end Go.Proofs.Ytgghmjnbkbiffaa

namespace Go.Proofs.Ytgghmjnbkbiffaa
open Go.RowKit
set_option linter.unusedVariables false

theorem OwnN.app {base : Nat} {w w' : World} {v v' : Value} {xs ys : List Nat} (h : App base 3 w w' v v' (lnx xs) (lnx ys) (nv xs) (nv ys)) : OwnN w' base v' (xs ++ ys) := by
  have := h.own
  unfold OwnN
  rw [lnx_append]
  simpa [nv] using this

/-- The images of the first elements agree with all products among them. -/
structure ConsP (m : Nat) (T U : Nat → Nat → Nat) (inj : Bool) (p : List Nat) : Prop where
  mul : ∀ y z, y < lnx p → z < lnx p → T y z < lnx p → nthx p (T y z) = U (nthx p y) (nthx p z)
  inj : inj = true → ∀ y z, y < lnx p → z < lnx p → y ≠ z → nthx p y ≠ nthx p z
  lt : ∀ y, y < lnx p → nthx p y < m

theorem ConsP.nil (m : Nat) (T U : Nat → Nat → Nat) (inj : Bool) : ConsP m T U inj [] := ⟨fun y z h => by simp [lnx] at h, fun _ y z h => by simp [lnx] at h, fun y h => by simp [lnx] at h⟩

theorem ConsP.hom {n m : Nat} {T U : Nat → Nat → Nat} {inj : Bool} {p : List Nat} (h : ConsP m T U inj p) (hl : lnx p = n) (hT : ∀ r c, r < n → c < n → T r c < n) : homB n m T U inj p = true := by
  subst hl
  rw [homB_iff]
  exact ⟨fun a b ha hb => h.mul a b ha hb (hT a b ha hb), h.lt, h.inj⟩

end Go.Proofs.Ytgghmjnbkbiffaa

namespace Go.Proofs.Ytgghmjnbkbiffaa
open Go.RowKit
set_option linter.unusedVariables false

def SeaPost (w : World) (base : Nat) (vo : Value) (L : List (List Nat)) (e : Ending) (w' : World) : Prop :=
  ∃ v, e = .returned v ∧ FoundAt w' base v L ∧ Only (fun k => vo.ownBlock = some k) w w' ∧ ∀ k, v.ownBlock = some k → vo.ownBlock = some k ∨ w.heap.size ≤ k

/-- Memory at the head of the loop. -/
structure SeaSt (w wr : World) (base : Nat) (vf vo vo' : Value) (p : List Nat) (L' : List (List Nat)) : Prop where
  f : OwnN wr base vf p
  o : FoundAt wr base vo' L'
  only : Only (fun k => vo.ownBlock = some k) w wr
  loc : ∀ k, vo'.ownBlock = some k → vo.ownBlock = some k ∨ w.heap.size ≤ k
  hb : base ≤ wr.heap.size

theorem SeaSt.call {w wr w' : World} {base : Nat} {vf vo vo' : Value} {p : List Nat} {L' : List (List Nat)} (h : SeaSt w wr base vf vo vo' p L') (hb : Below wr.heap.size wr w') : SeaSt w w' base vf vo vo' p L' :=
  ⟨h.f.only (Only.of_below hb) (fun k hk => by have := (h.f.lt hk).2; omega), h.o.call hb, h.only.call hb, h.loc, Nat.le_trans h.hb hb.size⟩
theorem SeaSt.ext {w wr w' : World} {base : Nat} {vf vo vo' : Value} {p : List Nat} {L' L2 : List (List Nat)} (h : SeaSt w wr base vf vo vo' p L') {e : Ending} (hp : SeaPost wr base vo' L2 e w') : ∃ v, e = .returned v ∧ SeaSt w w' base vf vo v p L2 := by
  obtain ⟨v, rfl, h1, h2, h3⟩ := hp
  refine ⟨v, rfl, h.f.only h2 ?_, h1, ?_, ?_, Nat.le_trans h.hb h2.size⟩
  · obtain ⟨vs, ho, _⟩ := h.o
    exact fun k hk => rows_ne ho h.f k hk
  · refine ⟨h2.os.trans h.only.os, h2.tape.trans h.only.tape, h2.output.trans h.only.output, Nat.le_trans h.only.size h2.size, fun k hk hn => ?_⟩
    refine (h2.block k (Nat.lt_of_lt_of_le hk h.only.size) ?_).trans (h.only.block k hk hn)
    intro e
    rcases h.loc k e with e | e
    · exact hn e
    · omega
  · intro k hk
    rcases h3 k hk with e | e
    · exact h.loc k e
    · right
      have := h.only.size
      omega
theorem SeaSt.below {w0 w wr : World} {base : Nat} {vf vo vo' : Value} {p : List Nat} {L L' : List (List Nat)} (h : SeaSt w wr base vf vo vo' p L') (ho : FoundAt w base vo L) (hb : Below w0.heap.size w0 w) (hs : w0.heap.size ≤ base) : Below w0.heap.size w0 wr := by
  refine hb.trans (h.only.below (fun k hk e => ?_) hb.size)
  obtain ⟨vs, h1, _⟩ := ho
  have := (h1.lt k e).1
  omega

end Go.Proofs.Ytgghmjnbkbiffaa

namespace Go.Proofs.Ytgghmjnbkbiffaa
open Go.RowKit
set_option linter.unusedVariables false

theorem Sl.nil (w : World) : Ints w (.slice none 0 0) [] := ⟨none, 0, rfl, by simp [lnx], by omega, fun h => by simp [lnx] at h⟩

end Go.Proofs.Ytgghmjnbkbiffaa

namespace Go.Proofs.Ytgghmjnbkbiffaa
open Go.RowKit
set_option linter.unusedVariables false

/-- The list as numbers. -/
def nat_ (f : List Int) (i : Nat) : Nat := (nthx f i).toNat

open Classical in
/-- f is a homomorphism of tables of right shape. -/
noncomputable def homL (n m : Nat) (T U : Nat → Nat → Nat) (f : List Int) : Bool := decide (lnx f = n ∧ inB m f = true ∧ ∀ x y, x < n → y < n → nat_ f (T x y) = U (nat_ f x) (nat_ f y))
open Classical in
theorem homL_good {n m : Nat} {T U : Nat → Nat → Nat} {f : List Int} (h1 : lnx f = n) (h2 : inB m f = true) (h3 : ∀ x y, x < n → y < n → nat_ f (T x y) = U (nat_ f x) (nat_ f y)) : homL n m T U f = true := decide_eq_true ⟨h1, h2, h3⟩
open Classical in
theorem homL_inv {n m : Nat} {T U : Nat → Nat → Nat} {f : List Int} (h : homL n m T U f = true) : lnx f = n ∧ inB m f = true ∧ ∀ x y, x < n → y < n → nat_ f (T x y) = U (nat_ f x) (nat_ f y) := of_decide_eq_true h

theorem nat_cast {m : Nat} {f : List Int} (h : inB m f = true) {i : Nat} (hi : i < lnx f) : ((nat_ f i : Nat) : Int) = nthx f i ∧ nat_ f i < m := by
  have := inB_inv h i hi
  unfold nat_
  omega

end Go.Proofs.Ytgghmjnbkbiffaa

namespace Go.Proofs.Ytgghmjnbkbiffaa
open Go.RowKit
set_option linter.unusedVariables false

theorem filter_succ (p : Nat → Bool) (k : Nat) : (List.range (k + 1)).filter p = if p k = true then (List.range k).filter p ++ [k] else (List.range k).filter p := by
  rw [List.range_succ, List.filter_append]
  by_cases h : p k = true
  · simp [h]
  · simp [h]
theorem filter_len (p : Nat → Bool) (k : Nat) : lnx ((List.range k).filter p) ≤ k := by
  have := List.length_filter_le p (List.range k)
  simpa [lnx] using this

end Go.Proofs.Ytgghmjnbkbiffaa

namespace Go.Proofs.Ytgghmjnbkbiffaa
set_option linter.unusedVariables false

theorem nat_natsOf (h : List Nat) {i : Nat} (hi : i < lnx h) : nat_ (natsOf h) i = nthx h i := by
  unfold nat_
  rw [nthx_natsOf h hi]
  simp

theorem tabT {t : List (List Int)} (h : vErr t = 0) : ∀ r c, r < lnx t → c < lnx t → tabOf t r c < lnx t := fun r c hr hc => tab_lt (vErr_inv h).1 hr hc

end Go.Proofs.Ytgghmjnbkbiffaa
