/-
  My own logic, part 1: persistent trees, abstract values, and what they mean in a memory.
  My own logic, part 2: states, what an operation does to them; operations that turn no memory.
  My own logic, part 3: types; operations that read.
  My own logic, part 4: addresses, indices, slices, lengths, arithmetic.
-/
import Derived.WalkKit
import Derived.WalkSpells
import Derived.WalkLawsBesides
import Derived.Lib.Hide
import Derived.Maps.AppendAt
import Derived.OneCell
namespace Go.Proofs.YtnffigeofdagfaaDoor.M
open Go.RowKit
set_option linter.unusedVariables false

inductive T where
 | int (k : IntKind) (n : Int)
 | bool (b : Bool)
 | str (s : ByteArray)
 | sl (z : Nat) (cs : List T)
 | nilp
 | nilm
 | any
 | fn (f : FuncId)
instance : Inhabited T := ⟨.nilp⟩

abbrev Mem := Nat → Nat → Option Value
inductive Rep (m : Mem) : Value → T → Prop where
 | int (k : IntKind) (n : Int) : Rep m (.int k n) (.int k n)
 | bool (b : Bool) : Rep m (.bool b) (.bool b)
 | str (s : ByteArray) : Rep m (.string s) (.str s)
 | nilp : Rep m (.pointer none) .nilp
 | nilm : Rep m (.map none) .nilm
 | any (v : Value) (h : v.oneCell' = true) : Rep m v .any
 | fn (f : FuncId) : Rep m (.func (.func f) #[] #[]) (.fn f)
 | nil (z : Nat) : Rep m (.slice none 0 0) (.sl z [])
 | emp (a : Addr) (z : Nat) (hz : 0 < z) : Rep m (.slice (some a) 0 0) (.sl z [])
 | sl (b o n cap z : Nat) (cs : List T) (vs : Nat → Value) (hz : 0 < z) (hn : cs.length = n * z) (h1 : n ≤ cap) (h2 : cap ≤ 9223372036854775807)
   (hc : ∀ i c, cs[i]? = some c → m b (o + i) = some (vs i)) (hr : ∀ i c, cs[i]? = some c → Rep m (vs i) c) : Rep m (.slice (some ⟨b, o, none⟩) n cap) (.sl z cs)

theorem Rep.mono {m m' : Mem} {v : Value} {x : T} (h : Rep m v x) (hm : ∀ b o u, m b o = some u → m' b o = some u) : Rep m' v x := by
 induction h with
 | int k n => exact .int k n
 | bool b => exact .bool b
 | str s => exact .str s
 | nilp => exact .nilp
 | nilm => exact .nilm
 | any v h => exact .any v h
 | fn f => exact .fn f
 | nil z => exact .nil z
 | emp a z hz => exact .emp a z hz
 | sl b o n cap z cs vs hz hn h1 h2 hc hr ih => exact .sl b o n cap z cs vs hz hn h1 h2 (fun i c hi => hm _ _ _ (hc i c hi)) ih
theorem Rep.one {m : Mem} {v : Value} {x : T} (h : Rep m v x) : v.oneCell' = true := by cases h <;> first | rfl | assumption
inductive KR (m : Mem) : Value → T → Prop where
 | one (v : Value) (x : T) (h : Rep m v x) (hx : ∀ z cs, x ≠ .sl z cs) : KR m v x
 | agg (ns : List Int) : KR m (.agg (ns.map (Value.int .i64)).toArray) (.sl 99 (ns.map (T.int .i64)))
theorem KR.mono {m m' : Mem} {v : Value} {x : T} (h : KR m v x) (hm : ∀ b o u, m b o = some u → m' b o = some u) : KR m' v x := by
 cases h with
 | one v x h hx => exact .one v x (h.mono hm) hx
 | agg ns => exact .agg ns

inductive AV where
 | any
 | t (p : Nat) (x : T)
 | own (id c : Nat)
 | ptr (id off c : Nat)
 | sub (id off l c : Nat)
 | pt (p : Nat) (cs : List T)
 | agg (cs : List AV)
 | tup (cs : List AV)
 | fn (f : FuncId) (cs : List AV)
instance : Inhabited AV := ⟨.any⟩

def blk : Value → Option Nat
 | .slice (some a) _ _ => some a.block
 | .pointer (some a) => some a.block
 | .map (some r) => some r
 | _ => none

structure Ev where
 mem : Nat → Mem
 lv : Nat → Nat → Prop
 ob : Nat → Option (Value × Nat)
 U : Nat → Prop

inductive VR (E : Ev) : Value → AV → Prop where
 | any (v : Value) : VR E v .any
 | t (v : Value) (p : Nat) (x : T) (h : Rep (E.mem p) v x) : VR E v (.t p x)
 | own (v : Value) (id c : Nat) (h1 : v.oneCell' = true) (hU : E.U id) (h : ∀ u n, E.ob id = some (u, n) → c ≤ n ∧ (c = n → v = u)) : VR E v (.own id c)
 | ptr (v : Value) (id off c : Nat) (h1 : v.oneCell' = true) (hU : E.U id) (h : ∀ u n, E.ob id = some (u, n) → c ≤ n ∧ (c = n → ∃ b, blk u = some b ∧ v = .pointer (some ⟨b, off, none⟩))) : VR E v (.ptr id off c)
 | sub (v : Value) (id off l c : Nat) (h1 : v.oneCell' = true) (hU : E.U id) (h : ∀ u n, E.ob id = some (u, n) → c ≤ n ∧ (c = n → ∃ cap, l ≤ cap ∧ cap ≤ 9223372036854775807 ∧ ((v = .slice none 0 0 ∧ l = 0) ∨ ∃ b o, blk u = some b ∧ v = .slice (some ⟨b, o, none⟩) l cap ∧ (l = 0 ∨ o = off)))) : VR E v (.sub id off l c)
 | pt (p b o : Nat) (cs : List T) (vs : Nat → Value) (hc : ∀ i c, cs[i]? = some c → E.mem p b (o + i) = some (vs i)) (hr : ∀ i c, cs[i]? = some c → Rep (E.mem p) (vs i) c) : VR E (.pointer (some ⟨b, o, none⟩)) (.pt p cs)
 | agg (vs : Array Value) (cs : List AV) (hn : vs.size = cs.length) (h1 : ∀ v, v ∈ vs → v.oneCell' = true) (hr : ∀ i c, cs[i]? = some c → VR E (vs.getD i undef) c) : VR E (.agg vs) (.agg cs)
 | tup (vs : Array Value) (cs : List AV) (hn : vs.size = cs.length) (hr : ∀ i c, cs[i]? = some c → VR E (vs.getD i undef) c) : VR E (.tuple vs) (.tup cs)
 | fn (f : FuncId) (vs : Array Value) (cs : List AV) (hn : vs.size = cs.length) (hr : ∀ i c, cs[i]? = some c → VR E (vs.getD i undef) c) : VR E (.func (.func f) #[] vs) (.fn f cs)

structure Ext (E E' : Ev) : Prop where
 mem : ∀ p b o u, E.mem p b o = some u → E'.mem p b o = some u
 lv : E'.lv = E.lv
 U : ∀ id, E.U id → E'.U id
 ob : ∀ id u' n', E.U id → E'.ob id = some (u', n') → ∃ u n, E.ob id = some (u, n) ∧ n ≤ n' ∧ (n = n' → u = u')
theorem Ext.refl (E : Ev) : Ext E E := ⟨fun _ _ _ _ h => h, rfl, fun _ h => h, fun id u n _ h => ⟨u, n, h, Nat.le_refl _, fun _ => rfl⟩⟩
theorem Ext.trans {A B C : Ev} (h : Ext A B) (k : Ext B C) : Ext A C :=
 ⟨fun p b o u e => k.mem p b o u (h.mem p b o u e), k.lv.trans h.lv, fun id e => k.U id (h.U id e), fun id u' n' hU e => by
  obtain ⟨u1, n1, e1, l1, f1⟩ := k.ob id u' n' (h.U id hU) e
  obtain ⟨u2, n2, e2, l2, f2⟩ := h.ob id u1 n1 hU e1
  exact ⟨u2, n2, e2, by omega, fun he => (f2 (by omega)).trans (f1 (by omega))⟩⟩

theorem VR.ext {E E' : Ev} {v : Value} {a : AV} (h : VR E v a) (hx : Ext E E') : VR E' v a := by
 induction h with
 | any v => exact .any v
 | t v p x h => exact .t v p x (h.mono (hx.mem p))
 | own v id c h1 hU h => exact .own v id c h1 (hx.U id hU) (fun u' n' e => by
   obtain ⟨u, n, e1, l1, f1⟩ := hx.ob id u' n' hU e
   obtain ⟨l2, f2⟩ := h u n e1
   exact ⟨by omega, fun he => (f2 (by omega)).trans (f1 (by omega))⟩)
 | ptr v id off c h1 hU h => exact .ptr v id off c h1 (hx.U id hU) (fun u' n' e => by
   obtain ⟨u, n, e1, l1, f1⟩ := hx.ob id u' n' hU e
   obtain ⟨l2, f2⟩ := h u n e1
   exact ⟨by omega, fun he => by rw [← f1 (by omega)]; exact f2 (by omega)⟩)
 | sub v id off l c h1 hU h => exact .sub v id off l c h1 (hx.U id hU) (fun u' n' e => by
   obtain ⟨u, n, e1, l1, f1⟩ := hx.ob id u' n' hU e
   obtain ⟨l2, f2⟩ := h u n e1
   exact ⟨by omega, fun he => by rw [← f1 (by omega)]; exact f2 (by omega)⟩)
 | pt p b o cs vs hc hr => exact .pt p b o cs vs (fun i c hi => hx.mem _ _ _ _ (hc i c hi)) (fun i c hi => (hr i c hi).mono (hx.mem p))
 | agg vs cs hn h1 hr ih => exact .agg vs cs hn h1 ih
 | tup vs cs hn hr ih => exact .tup vs cs hn ih
 | fn f vs cs hn hr ih => exact .fn f vs cs hn ih
theorem VR.rep {E : Ev} {v : Value} {p : Nat} {x : T} (h : VR E v (.t p x)) : Rep (E.mem p) v x := by
 cases h
 assumption
theorem VR.one {E : Ev} {v : Value} {p : Nat} {x : T} (h : VR E v (.t p x)) : v.oneCell' = true := h.rep.one
theorem VR.int {E : Ev} {v : Value} {p : Nat} {k : IntKind} {n : Int} (h : VR E v (.t p (.int k n))) : v = .int k n := by have := h.rep; cases this; rfl
theorem VR.bool {E : Ev} {v : Value} {p : Nat} {b : Bool} (h : VR E v (.t p (.bool b))) : v = .bool b := by have := h.rep; cases this; rfl
theorem VR.str {E : Ev} {v : Value} {p : Nat} {s : ByteArray} (h : VR E v (.t p (.str s))) : v = .string s := by have := h.rep; cases this; rfl
theorem VR.nilm {E : Ev} {v : Value} {p : Nat} (h : VR E v (.t p .nilm)) : v = .map none := by have := h.rep; cases this; rfl
theorem VR.nilp {E : Ev} {v : Value} {p : Nat} (h : VR E v (.t p .nilp)) : v = .pointer none := by have := h.rep; cases this; rfl
theorem VR.mkInt (E : Ev) (p : Nat) (k : IntKind) (n : Int) : VR E (.int k n) (.t p (.int k n)) := .t _ p _ (.int k n)
theorem VR.mkBool (E : Ev) (p : Nat) (b : Bool) : VR E (.bool b) (.t p (.bool b)) := .t _ p _ (.bool b)
theorem VR.mkStr (E : Ev) (p : Nat) (s : ByteArray) : VR E (.string s) (.t p (.str s)) := .t _ p _ (.str s)
theorem VR.unpt {E : Ev} {v : Value} {p : Nat} {cs : List T} (h : VR E v (.pt p cs)) : ∃ b o, ∃ vs : Nat → Value, v = .pointer (some ⟨b, o, none⟩) ∧ (∀ i c, cs[i]? = some c → E.mem p b (o + i) = some (vs i)) ∧ ∀ i c, cs[i]? = some c → Rep (E.mem p) (vs i) c := by
 cases h with
 | pt p b o cs vs hc hr => exact ⟨b, o, vs, rfl, hc, hr⟩

inductive AObj where
 | row (e z p : Nat) (cs : List T)
 | box (ty : Nat) (cs : List AV)
 | map (K E : Nat) (es : List (T × T))
 | vec (e z p : Nat) (cs : List AV)
def AObj.cnt : AObj → Nat
 | .row _ _ _ cs => cs.length
 | .box _ cs => cs.length
 | .map _ _ _ => 0
 | .vec _ _ _ cs => cs.length

structure Onl (S : Nat → Prop) (w w' : World) : Prop where
 os : w'.os = w.os
 tape : w'.tape = w.tape
 output : w'.output = w.output
 size : w.heap.size ≤ w'.heap.size
 block : ∀ k, k < w.heap.size → ¬ S k → w'.heap[k]? = w.heap[k]?
theorem Onl.refl (S : Nat → Prop) (w : World) : Onl S w w := ⟨rfl, rfl, rfl, Nat.le_refl _, fun _ _ _ => rfl⟩
theorem Onl.trans {S : Nat → Prop} {a b c : World} (h : Onl S a b) (k : Onl S b c) : Onl S a c :=
 ⟨k.os.trans h.os, k.tape.trans h.tape, k.output.trans h.output, Nat.le_trans h.size k.size, fun i hi hn => (k.block i (Nat.lt_of_lt_of_le hi h.size) hn).trans (h.block i hi hn)⟩
theorem Onl.mono {S S' : Nat → Prop} {w w' : World} (h : Onl S w w') (hs : ∀ k, k < w.heap.size → S k → S' k) : Onl S' w w' :=
 ⟨h.os, h.tape, h.output, h.size, fun k hk hn => h.block k hk (fun hS => hn (hs k hk hS))⟩
theorem Onl.alloc (S : Nat → Prop) (w : World) (o : Obj) : Onl S w (w.alloc o) := ⟨rfl, rfl, rfl, by simp, fun k hk _ => Below.heap_alloc w o k hk⟩
theorem Onl.drew (S : Nat → Prop) (w : World) : Onl S w w.drew := ⟨rfl, rfl, rfl, Nat.le_refl _, fun _ _ _ => rfl⟩
theorem Onl.grown {S : Nat → Prop} {w w' : World} {row : Option Nat} (hg : w.grownBy w' row) (hr : ∀ k, row = some k → S k) : Onl S w w' :=
 ⟨hg.os, hg.tape, hg.output, hg.size, fun k hk hn => hg.block k hk (fun e => hn (hr k e.symm))⟩
theorem Onl.below {S : Nat → Prop} {w w' : World} (h : Onl S w w') (hS : ∀ k, k < w.heap.size → ¬ S k) : Below w.heap.size w w' := ⟨h.os, h.tape, h.output, h.size, fun k hk => h.block k hk (hS k hk)⟩
theorem Onl.of_below {S : Nat → Prop} {w w' : World} (h : Below w.heap.size w w') : Onl S w w' := ⟨h.os, h.tape, h.output, h.size, fun k hk _ => h.block k hk⟩

def OB (ob : Nat → Option (Value × Nat)) (k : Nat) : Prop := ∃ id u n, ob id = some (u, n) ∧ blk u = some k
def lvl (lo : Nat) (V : Nat → Prop) (p b : Nat) : Prop := lo ≤ b ∨ p = 0 ∨ (p = 1 ∧ V b)
open Classical in
noncomputable def memL (lo : Nat) (V : Nat → Prop) (ob : Nat → Option (Value × Nat)) (w : World) (p : Nat) : Mem := fun b o => if OB ob b ∨ ¬ lvl lo V p b then none else w.cell? ⟨b, o, none⟩
noncomputable def evOf (lo : Nat) (V : Nat → Prop) (ob : Nat → Option (Value × Nat)) (U : Nat → Prop) (w : World) : Ev := ⟨memL lo V ob w, lvl lo V, ob, U⟩
theorem memL_some {lo : Nat} {V : Nat → Prop} {ob : Nat → Option (Value × Nat)} {w : World} {p b o : Nat} {u : Value} : memL lo V ob w p b o = some u ↔ ¬ OB ob b ∧ lvl lo V p b ∧ w.cell? ⟨b, o, none⟩ = some u := by
 unfold memL
 by_cases h : OB ob b <;> by_cases h2 : lvl lo V p b <;> simp [h, h2]
theorem lvl_le {lo : Nat} {V : Nat → Prop} {p q b : Nat} (h : lvl lo V p b) (hq : q ≤ p) : lvl lo V q b := by
 rcases h with h | h | ⟨h, h'⟩
 ·exact .inl h
 ·exact .inr (.inl (by omega))
 ·by_cases e : q = 0
  ·exact .inr (.inl e)
  ·exact .inr (.inr ⟨by omega, h'⟩)
theorem memL_le {lo : Nat} {V : Nat → Prop} {ob : Nat → Option (Value × Nat)} {w : World} {p q : Nat} (hq : q ≤ p) (b o : Nat) (u : Value) (h : memL lo V ob w p b o = some u) : memL lo V ob w q b o = some u := by
 obtain ⟨h1, h2, h3⟩ := memL_some.1 h
 exact memL_some.2 ⟨h1, lvl_le h2 hq, h3⟩
theorem memL_cell {lo : Nat} {V : Nat → Prop} {ob : Nat → Option (Value × Nat)} {w : World} {p b o : Nat} {u : Value} (h : memL lo V ob w p b o = some u) : w.cell? ⟨b, o, none⟩ = some u := (memL_some.1 h).2.2

def noM : Mem := fun _ _ => none
theorem noM_le (m : Mem) : ∀ b o u, noM b o = some u → m b o = some u := fun _ _ _ h => by cases h
def OR (E : Ev) (w : World) (u : Value) : AObj → Prop
 | .row e z p cs => 0 < z ∧ (∀ k, blk u = some k → E.lv p k) ∧ ∃ (n : Nat) (vs : List Value), w.ownsRow 0 e z u n vs ∧ vs.length = cs.length ∧ ∀ (i : Nat) c x, cs[i]? = some c → vs[i]? = some x → Rep (E.mem p) x c
 | .box ty cs => ∃ (b : Nat) (vs : Array Value), u = .pointer (some ⟨b, 0, none⟩) ∧ w.heap[b]? = some (.cells vs ty (0, 0)) ∧ VR E (.agg vs) (.agg cs)
 | .map K Y es => ∃ (r clock : Nat) (xs : Array MapEntry), u = .map (some r) ∧ w.heap[r]? = some (.map xs clock) ∧ xs.size = es.length ∧ ∀ (i : Nat) k x e, es[i]? = some (k, x) → xs[i]? = some e → KR noM e.key k ∧ Rep noM e.val x
 | .vec e z p cs => 0 < z ∧ (∀ k, blk u = some k → E.lv p k) ∧ ∃ (n : Nat) (vs : List Value), w.ownsRow 0 e z u n vs ∧ vs.length = cs.length ∧ (∀ v ∈ vs, v.oneCell' = true) ∧ ∀ (j : Nat) c x, cs[j]? = some c → vs[j]? = some x → VR E x c

theorem OR.ext {E E' : Ev} {w w' : World} {u : Value} {o : AObj} (h : OR E w u o) (hx : Ext E E') (hb : ∀ k, blk u = some k → w'.heap[k]? = w.heap[k]?) : OR E' w' u o := by
 cases o with
 | row e z p cs =>
  obtain ⟨hz, hl, n, vs, h1, h2, h3⟩ := h
  refine ⟨hz, fun k hk => by rw [hx.lv]; exact hl k hk, n, vs, ⟨h1.1, ?_⟩, h2, fun i c x hi hv => (h3 i c x hi hv).mono (hx.mem p)⟩
  rcases h1.2 with h4 | ⟨g, cap, cur, rfl, h5, h6, h7⟩
  ·exact .inl h4
  ·exact .inr ⟨g, cap, cur, rfl, h5, (hb g rfl).trans h6, h7⟩
 | box ty cs =>
  obtain ⟨b, vs, rfl, h1, h2⟩ := h
  exact ⟨b, vs, rfl, (hb b rfl).trans h1, h2.ext hx⟩
 | map K Y es =>
  obtain ⟨r, clock, xs, rfl, h1, h2, h3⟩ := h
  exact ⟨r, clock, xs, rfl, (hb r rfl).trans h1, h2, h3⟩
 | vec e z p cs =>
  obtain ⟨hz, hl, n, vs, h1, h2, h3, h4⟩ := h
  refine ⟨hz, fun k hk => by rw [hx.lv]; exact hl k hk, n, vs, ⟨h1.1, ?_⟩, h2, h3, fun j c x hj hv => (h4 j c x hj hv).ext hx⟩
  rcases h1.2 with h4 | ⟨g, cap, cur, rfl, h5, h6, h7⟩
  ·exact .inl h4
  ·exact .inr ⟨g, cap, cur, rfl, h5, (hb g rfl).trans h6, h7⟩
theorem OR.lt {E : Ev} {w : World} {u : Value} {o : AObj} (h : OR E w u o) {k : Nat} (hk : blk u = some k) : k < w.heap.size := by
 cases o with
 | row e z p cs =>
  obtain ⟨hz, -, n, vs, h1, -⟩ := h
  rcases h1.2 with ⟨rfl, -⟩ | ⟨g, cap, cur, rfl, h5, h6, -⟩
  ·cases hk
  ·obtain rfl : g = k := by simpa [blk] using hk
   exact lt_of_block h6
 | box ty cs =>
  obtain ⟨b, vs, rfl, h1, -⟩ := h
  obtain rfl : b = k := by simpa [blk] using hk
  exact lt_of_block h1
 | map K Y es =>
  obtain ⟨r, clock, xs, rfl, h1, -⟩ := h
  obtain rfl : r = k := by simpa [blk] using hk
  exact lt_of_block h1
 | vec e z p cs =>
  obtain ⟨-, -, n, vs, h1, -⟩ := h
  rcases h1.2 with ⟨rfl, -⟩ | ⟨g, cap, cur, rfl, h5, h6, -⟩
  ·cases hk
  ·obtain rfl : g = k := by simpa [blk] using hk
   exact lt_of_block h6

def deB : List Int := [0, 1, 56, 2, 57, 49, 28, 3, 61, 58, 42, 50, 38, 29, 17, 4, 62, 47, 59, 36, 45, 43, 51, 22, 53, 39, 33, 30, 24, 18, 12, 5, 63, 55, 48, 27, 60, 41, 37, 16, 46, 35, 44, 21, 52, 32, 23, 11, 54, 26, 40, 15, 34, 20, 31, 10, 25, 14, 19, 9, 13, 8, 7, 6]
def GT : List (List T) := [deB.map (T.int .u8)]
def GlW (S0 : Nat → Prop) (w : World) : Prop := ∀ (g : Nat) cs, GT[g]? = some cs → g < w.heap.size ∧ ¬ S0 g ∧ ∀ (i : Nat) c, cs[i]? = some c → ∃ v, w.cell? ⟨g, i, none⟩ = some v ∧ ∀ m, Rep m v c
structure MR (w0 : World) (V S0 : Nat → Prop) (U : Nat → Prop) (H : Nat → Option AObj) (ob : Nat → Option (Value × Nat)) (w : World) : Prop where
 live : ∀ id u n, ob id = some (u, n) → ∃ o, H id = some o ∧ n = o.cnt
 obj : ∀ id o, H id = some o → U id ∧ ∃ u, ob id = some (u, o.cnt) ∧ OR (evOf w0.heap.size V ob U w) w u o
 sep : ∀ id id' u u' n n' k, id ≠ id' → ob id = some (u, n) → ob id' = some (u', n') → blk u = some k → blk u' ≠ some k
 new : ∀ id u n k, ob id = some (u, n) → blk u = some k → k < w0.heap.size → S0 k
 only : Onl S0 w0 w
 gl : GlW S0 w0

def upd {α : Type} (f : Nat → α) (i : Nat) (x : α) : Nat → α := fun j => if j = i then x else f j
theorem upd_same {α : Type} (f : Nat → α) (i : Nat) (x : α) : upd f i x i = x := by simp [upd]
theorem upd_ne {α : Type} (f : Nat → α) {i j : Nat} (x : α) (h : j ≠ i) : upd f i x j = f j := by simp [upd, h]

section
variable {w0 w w' : World} {V S0 : Nat → Prop} {U : Nat → Prop} {H : Nat → Option AObj} {ob : Nat → Option (Value × Nat)}
theorem MR.glw (h : MR w0 V S0 U H ob w) {S : Nat → Prop} (hS : ∀ k, S k → ∃ id u n, ob id = some (u, n) ∧ blk u = some k) : GlW S w := fun g cs hg => by
 obtain ⟨h0, h1, h2⟩ := h.gl g cs hg
 refine ⟨Nat.lt_of_lt_of_le h0 h.only.size, fun hs => ?_, fun i c hi => ?_⟩
 ·obtain ⟨id, u, n, e1, e2⟩ := hS g hs
  exact h1 (h.new id u n g e1 e2 h0)
 ·obtain ⟨v, h3, h4⟩ := h2 i c hi
  exact ⟨v, by rw [World.cell?_of_block (h.only.block g h0 h1)]; exact h3, h4⟩
theorem MR.lt (h : MR w0 V S0 U H ob w) {id : Nat} {u : Value} {n k : Nat} (ho : ob id = some (u, n)) (hk : blk u = some k) : k < w.heap.size := by
 obtain ⟨o, h1, -⟩ := h.live id u n ho
 obtain ⟨-, u', h2, h3⟩ := h.obj id o h1
 rw [ho] at h2
 injection h2 with h2
 injection h2 with h2 _
 subst h2
 exact h3.lt hk
theorem MR.grow (h : MR w0 V S0 U H ob w) (i : Nat) (u' : Value) (c' : Nat) (ho : Onl (fun k => ∃ u n, ob i = some (u, n) ∧ blk u = some k) w w')
  (hU : U i → ∃ u n, ob i = some (u, n) ∧ n ≤ c' ∧ (n = c' → u = u')) (hblk : ∀ k, blk u' = some k → (∃ u n, ob i = some (u, n) ∧ blk u = some k) ∨ w.heap.size ≤ k) :
  Ext (evOf w0.heap.size V ob U w) (evOf w0.heap.size V (upd ob i (some (u', c'))) (fun k => U k ∨ k = i) w') := by
 refine ⟨fun p b o u hu => ?_, rfl, fun id hid => .inl hid, fun id u1 n1 hid e => ?_⟩
 ·obtain ⟨h1, h0, h2⟩ := memL_some.1 hu
  have hlt := World.block_lt_of_cell? w _ h2
  refine memL_some.2 ⟨?_, h0, ?_⟩
  ·rintro ⟨id, u1, n1, e1, e2⟩
   by_cases e : id = i
   ·subst e
    rw [upd_same] at e1
    injection e1 with e1
    injection e1 with e1 _
    subst e1
    rcases hblk b e2 with ⟨u2, n2, e3, e4⟩ | e3
    ·exact h1 ⟨id, u2, n2, e3, e4⟩
    ·have : b < w.heap.size := hlt
     omega
   ·rw [upd_ne _ _ e] at e1
    exact h1 ⟨id, u1, n1, e1, e2⟩
  ·rw [World.cell?_of_block (ho.block b hlt (fun ⟨u2, n2, e3, e4⟩ => h1 ⟨i, u2, n2, e3, e4⟩))]
   exact h2
 ·have e : upd ob i (some (u', c')) id = some (u1, n1) := e
  by_cases ei : id = i
  ·subst ei
   rw [upd_same] at e
   injection e with e
   injection e with e1 e2
   subst e1 e2
   exact hU hid
  ·rw [upd_ne _ _ ei] at e
   exact ⟨u1, n1, e, Nat.le_refl _, fun _ => rfl⟩
theorem MR.step (h : MR w0 V S0 U H ob w) (i : Nat) (u' : Value) (o' : AObj) (ho : Onl (fun k => ∃ u n, ob i = some (u, n) ∧ blk u = some k) w w')
  (hU : U i → ∃ u n, ob i = some (u, n) ∧ n ≤ o'.cnt ∧ (n = o'.cnt → u = u')) (hblk : ∀ k, blk u' = some k → (∃ u n, ob i = some (u, n) ∧ blk u = some k) ∨ w.heap.size ≤ k)
  (hor : Ext (evOf w0.heap.size V ob U w) (evOf w0.heap.size V (upd ob i (some (u', o'.cnt))) (fun k => U k ∨ k = i) w') → OR (evOf w0.heap.size V (upd ob i (some (u', o'.cnt))) (fun k => U k ∨ k = i) w') w' u' o') :
  MR w0 V S0 (fun k => U k ∨ k = i) (upd H i (some o')) (upd ob i (some (u', o'.cnt))) w' ∧ Ext (evOf w0.heap.size V ob U w) (evOf w0.heap.size V (upd ob i (some (u', o'.cnt))) (fun k => U k ∨ k = i) w') := by
 have hx := h.grow i u' o'.cnt ho hU hblk
 have hs := h.only.size
 refine ⟨⟨fun id u n e => ?_, fun id o e => ?_, fun id id' u1 u2 n1 n2 k hne e1 e2 k1 => ?_, fun id u n k e hk hlt => ?_, ?_, h.gl⟩, hx⟩
 ·by_cases ei : id = i
  ·subst ei
   rw [upd_same] at e ⊢
   injection e with e
   injection e with _ e
   exact ⟨o', rfl, e.symm⟩
  ·rw [upd_ne _ _ ei] at e ⊢
   exact h.live id u n e
 ·by_cases ei : id = i
  ·subst ei
   rw [upd_same] at e ⊢
   injection e with e
   subst e
   exact ⟨.inr rfl, u', rfl, hor hx⟩
  ·rw [upd_ne _ _ ei] at e ⊢
   obtain ⟨h1, u, h2, h3⟩ := h.obj id o e
   exact ⟨.inl h1, u, h2, h3.ext hx (fun k hk => ho.block k (h.lt h2 hk) (fun ⟨u2, n2, e3, e4⟩ => h.sep id i u u2 _ n2 k ei h2 e3 hk e4))⟩
 ·by_cases ei : id = i
  ·subst ei
   rw [upd_same] at e1
   rw [upd_ne _ _ (fun e => hne e.symm)] at e2
   injection e1 with e1
   injection e1 with e1 _
   subst e1
   intro k2
   rcases hblk k k1 with ⟨u3, n3, e3, e4⟩ | e3
   ·exact h.sep id id' u3 u2 n3 n2 k hne e3 e2 e4 k2
   ·have := h.lt e2 k2
    omega
  ·rw [upd_ne _ _ ei] at e1
   by_cases ei' : id' = i
   ·subst ei'
    rw [upd_same] at e2
    injection e2 with e2
    injection e2 with e2 _
    subst e2
    intro k2
    rcases hblk k k2 with ⟨u3, n3, e3, e4⟩ | e3
    ·exact h.sep id id' u1 u3 n1 n3 k hne e1 e3 k1 e4
    ·have := h.lt e1 k1
     omega
   ·rw [upd_ne _ _ ei'] at e2
    exact h.sep id id' u1 u2 n1 n2 k hne e1 e2 k1
 ·by_cases ei : id = i
  ·subst ei
   rw [upd_same] at e
   injection e with e
   injection e with e _
   subst e
   rcases hblk k hk with ⟨u3, n3, e3, e4⟩ | e3
   ·exact h.new id u3 n3 k e3 e4 hlt
   ·omega
  ·rw [upd_ne _ _ ei] at e
   exact h.new id u n k e hk hlt
 ·have h1 := h.only
  exact ⟨ho.os.trans h1.os, ho.tape.trans h1.tape, ho.output.trans h1.output, Nat.le_trans h1.size ho.size, fun k hk hn => (ho.block k (by omega) (fun ⟨u3, n3, e3, e4⟩ => hn (h.new i u3 n3 k e3 e4 hk))).trans (h1.block k hk hn)⟩
end
end Go.Proofs.YtnffigeofdagfaaDoor.M

namespace Go.Proofs.YtnffigeofdagfaaDoor.M
open Go.RowKit
set_option linter.unusedVariables false

theorem MR.used {w0 w : World} {V S0 U U' : Nat → Prop} {H : Nat → Option AObj} {ob : Nat → Option (Value × Nat)} (h : MR w0 V S0 U H ob w) (hU : ∀ k, U k → U' k) : MR w0 V S0 U' H ob w ∧ Ext (evOf w0.heap.size V ob U w) (evOf w0.heap.size V ob U' w) := by
 have hx : Ext (evOf w0.heap.size V ob U w) (evOf w0.heap.size V ob U' w) := ⟨fun _ _ _ _ h => h, rfl, hU, fun id u n _ h => ⟨u, n, h, Nat.le_refl _, fun _ => rfl⟩⟩
 exact ⟨⟨h.live, fun id o e => by obtain ⟨h1, u, h2, h3⟩ := h.obj id o e; exact ⟨hU _ h1, u, h2, h3.ext hx (fun _ _ => rfl)⟩, h.sep, h.new, h.only, h.gl⟩, hx⟩
theorem MR.quiet {w0 w w' : World} {V S0 U : Nat → Prop} {H : Nat → Option AObj} {ob : Nat → Option (Value × Nat)} (h : MR w0 V S0 U H ob w) (ho : Onl (fun _ => False) w w') : MR w0 V S0 U H ob w' ∧ Ext (evOf w0.heap.size V ob U w) (evOf w0.heap.size V ob U w') := by
 have hx : Ext (evOf w0.heap.size V ob U w) (evOf w0.heap.size V ob U w') := ⟨fun p b o u hu => by
  obtain ⟨h1, h0, h2⟩ := memL_some.1 hu
  exact memL_some.2 ⟨h1, h0, by rw [World.cell?_of_block (ho.block b (World.block_lt_of_cell? w _ h2) (fun h => h))]; exact h2⟩, rfl, fun _ h => h, fun id u n _ h => ⟨u, n, h, Nat.le_refl _, fun _ => rfl⟩⟩
 refine ⟨⟨h.live, fun id o e => ?_, h.sep, h.new, ?_, h.gl⟩, hx⟩
 ·obtain ⟨h1, u, h2, h3⟩ := h.obj id o e
  exact ⟨h1, u, h2, h3.ext hx (fun k hk => ho.block k (h3.lt hk) (fun h => h))⟩
 ·exact h.only.trans (ho.mono (fun _ _ h => h.elim))
theorem MR.drop {w0 w : World} {V S0 U : Nat → Prop} {H : Nat → Option AObj} {ob : Nat → Option (Value × Nat)} (h : MR w0 V S0 U H ob w) (i : Nat) : MR w0 V S0 U (upd H i none) (upd ob i none) w ∧ Ext (evOf w0.heap.size V ob U w) (evOf w0.heap.size V (upd ob i none) U w) := by
 have hx : Ext (evOf w0.heap.size V ob U w) (evOf w0.heap.size V (upd ob i none) U w) := ⟨fun p b o u hu => by
  obtain ⟨h1, h0, h2⟩ := memL_some.1 hu
  refine memL_some.2 ⟨?_, h0, h2⟩
  rintro ⟨id, u1, n1, e1, e2⟩
  by_cases e : id = i
  ·subst e; rw [upd_same] at e1; cases e1
  ·rw [upd_ne _ _ e] at e1; exact h1 ⟨id, u1, n1, e1, e2⟩, rfl, fun _ h => h, fun id u n _ h => by
  have h : upd ob i none id = some (u, n) := h
  by_cases e : id = i
  ·subst e; rw [upd_same] at h; cases h
  ·rw [upd_ne _ _ e] at h; exact ⟨u, n, h, Nat.le_refl _, fun _ => rfl⟩⟩
 refine ⟨⟨fun id u n e => ?_, fun id o e => ?_, fun id id' u u' n n' k hne e1 e2 => ?_, fun id u n k e => ?_, h.only, h.gl⟩, hx⟩
 ·by_cases ei : id = i
  ·subst ei; rw [upd_same] at e; cases e
  ·rw [upd_ne _ _ ei] at e ⊢; exact h.live id u n e
 ·by_cases ei : id = i
  ·subst ei; rw [upd_same] at e; cases e
  ·rw [upd_ne _ _ ei] at e ⊢
   obtain ⟨h1, u, h2, h3⟩ := h.obj id o e
   exact ⟨h1, u, h2, h3.ext hx (fun _ _ => rfl)⟩
 ·by_cases ei : id = i
  ·subst ei; rw [upd_same] at e1; cases e1
  ·rw [upd_ne _ _ ei] at e1
   by_cases ei' : id' = i
   ·subst ei'; rw [upd_same] at e2; cases e2
   ·rw [upd_ne _ _ ei'] at e2
    exact h.sep id id' u u' n n' k hne e1 e2
 ·by_cases ei : id = i
  ·subst ei; rw [upd_same] at e; cases e
  ·rw [upd_ne _ _ ei] at e; exact h.new id u n k e
theorem MR.tree {w0 w : World} {V S0 U : Nat → Prop} {H : Nat → Option AObj} {ob : Nat → Option (Value × Nat)} (h : MR w0 V S0 U H ob w) {i e z p : Nat} {cs : List T} (hi : H i = some (.row e z p cs)) {u : Value} {n : Nat} (hu : ob i = some (u, n)) : Rep ((evOf w0.heap.size V (upd ob i none) U w).mem p) u (.sl z cs) := by
 obtain ⟨-, u', h2, hz, hl, m, vs, ho, hlen, hr⟩ := h.obj i _ hi
 rw [hu] at h2
 injection h2 with h2
 injection h2 with h2 _
 subst h2
 have hx := (h.drop i).2
 rcases ho.2 with ⟨rfl, rfl⟩ | ⟨g, cap, cur, rfl, -, hg, hnc, hcm, hcs, htake⟩
 ·have : cs = [] := by
   have := ho.1
   rw [hlen] at this
   exact List.eq_nil_of_length_eq_zero (by omega)
  subst this
  exact .nil z
 ·have hcell : ∀ i c, cs[i]? = some c → ∃ x, vs[i]? = some x ∧ w.cell? ⟨g, i, none⟩ = some x := fun i c hi => by
   have hlt : i < vs.length := by rw [hlen]; exact (List.getElem?_eq_some_iff.1 hi).1
   refine ⟨vs[i], by simp, ?_⟩
   have := ho.cells (g := g) rfl i vs[i] (by simp)
   rw [Addr.add_lit] at this
   simpa using this
  have hnot : ¬ OB (upd ob i none) g := by
   rintro ⟨id, u1, n1, e1, e2⟩
   by_cases e : id = i
   ·subst e; rw [upd_same] at e1; cases e1
   ·rw [upd_ne _ _ e] at e1
    exact h.sep id i u1 _ n1 n g e e1 hu e2 rfl
  refine .sl g 0 m cap z cs (fun i => vs.getD i undef) hz (by rw [← hlen]; exact ho.1) hnc (by simpa [maxLen] using hcm) (fun i c hi => ?_) (fun i c hi => ?_)
  ·obtain ⟨x, h1, h2⟩ := hcell i c hi
   refine memL_some.2 ⟨hnot, hl g rfl, ?_⟩
   simpa [h1] using h2
  ·obtain ⟨x, h1, -⟩ := hcell i c hi
   simpa [h1] using (hr i c x hi h1).mono (hx.mem p)

def scal : T → Bool
 | .sl _ _ => false
 | _ => true
def lvT (p : Nat) (x : T) : Nat := if scal x then 2 else p
def lvs (p : Nat) (xs : List T) : Nat := if xs.all scal then 2 else p
@[simp] theorem lvT_2 (x : T) : lvT 2 x = 2 := by unfold lvT; split <;> rfl
@[simp] theorem lvs_2 (xs : List T) : lvs 2 xs = 2 := by unfold lvs; split <;> rfl
@[simp] theorem lvT_int (p : Nat) (k : IntKind) (n : Int) : lvT p (.int k n) = 2 := rfl
@[simp] theorem lvT_bool (p : Nat) (b : Bool) : lvT p (.bool b) = 2 := rfl
@[simp] theorem lvT_str (p : Nat) (s : ByteArray) : lvT p (.str s) = 2 := rfl
@[simp] theorem lvT_sl (p z : Nat) (cs : List T) : lvT p (.sl z cs) = p := rfl
@[simp] theorem lvs_map_int (p : Nat) (k : IntKind) (xs : List Int) : lvs p (xs.map (.int k)) = 2 := by
 unfold lvs; rw [if_pos]; simp [scal]
theorem Rep.scal {m m' : Mem} {v : Value} {x : T} (h : Rep m v x) (hx : scal x = true) : Rep m' v x := by
 cases h <;> first | (simp [Proofs.YtnffigeofdagfaaDoor.M.scal] at hx; done) | exact .any _ (by assumption) | constructor
theorem Rep.lvT {M : Nat → Mem} {p : Nat} {v : Value} {x : T} (h : Rep (M p) v x) : Rep (M (lvT p x)) v x := by
 unfold Proofs.YtnffigeofdagfaaDoor.M.lvT
 split
 ·rename_i hs; exact h.scal hs
 ·exact h
theorem Rep.lvs {M : Nat → Mem} {p : Nat} {v : Value} {xs : List T} {i : Nat} {x : T} (h : Rep (M p) v x) (hi : xs[i]? = some x) : Rep (M (lvs p xs)) v x := by
 unfold Proofs.YtnffigeofdagfaaDoor.M.lvs
 split
 ·rename_i hs
  exact h.scal (List.all_eq_true.1 hs x (List.mem_of_getElem? hi))
 ·exact h
structure ASt where
 env : Nat → AV
 heap : Nat → Option AObj
 nxt : Nat
 nt : Nat
 gh : List AV

def AV.ofV : Value → AV
 | .int k n => .t 2 (.int k n)
 | .bool b => .t 2 (.bool b)
 | .string s => .t 2 (.str s)
 | .slice none 0 0 => .t 2 (.sl 0 [])
 | .pointer none => .t 2 .nilp
 | .map none => .t 2 .nilm
 | _ => .any
theorem VR.ofV (E : Ev) (v : Value) : VR E v (AV.ofV v) := by
 cases v with
 | int k n => exact .mkInt E 2 k n
 | bool b => exact .mkBool E 2 b
 | string s => exact .mkStr E 2 s
 | slice a n c =>
  unfold AV.ofV
  split <;> first | exact .any _ | (rename_i h; injection h; done) | skip
  all_goals first | exact .any _ | (rename_i h; cases h; exact .t _ 2 _ (.nil 0))
 | pointer a => cases a with
  | none => exact .t _ 2 _ .nilp
  | some a => exact .any _
 | map a => cases a with
  | none => exact .t _ 2 _ .nilm
  | some a => exact .any _
 | _ => exact .any _
def ASt.eval (σ : ASt) : Operand → AV
 | .tmp t => σ.env t
 | .const v => AV.ofV v
 | .func f => .fn f []
 | .global g => match GT[g]? with
  | some cs => .pt 0 cs
  | none => .any
def GlE (E : Ev) : Prop := ∀ (g : Nat) cs, GT[g]? = some cs → ∀ (i : Nat) c, cs[i]? = some c → ∃ v, E.mem 0 g i = some v ∧ Rep (E.mem 0) v c
theorem MR.glE {w0 w : World} {V S0 U : Nat → Prop} {H : Nat → Option AObj} {ob : Nat → Option (Value × Nat)} (h : MR w0 V S0 U H ob w) : GlE (evOf w0.heap.size V ob U w) := fun g cs hg i c hi => by
 obtain ⟨hlt, h1, h2⟩ := h.gl g cs hg
 obtain ⟨v, h3, h4⟩ := h2 i c hi
 refine ⟨v, memL_some.2 ⟨?_, .inr (.inl rfl), ?_⟩, h4 _⟩
 ·rintro ⟨id, u, n, e1, e2⟩
  exact h1 (h.new id u n g e1 e2 hlt)
 ·rw [World.cell?_of_block (h.only.block g hlt h1)]
  exact h3
theorem VR.eval {E : Ev} (hG : GlE E) {σ : ASt} {a : Act} (h : ∀ t, VR E (a.tmps.getD t undef) (σ.env t)) (x : Operand) : VR E (a.eval x) (σ.eval x) := by
 cases x with
 | tmp t => exact h t
 | const v => exact .ofV E v
 | func f => exact .fn f #[] [] rfl (fun i c hi => by simp at hi)
 | global g =>
  unfold ASt.eval
  cases hg : GT[g]? with
  | none => simp only [hg]; exact .any _
  | some cs =>
   simp only [hg]
   have hc := hG g cs hg
   obtain ⟨f, hf⟩ := Classical.axiomOfChoice (fun i : Nat => show ∃ v : Value, ∀ c, cs[i]? = some c → E.mem 0 g i = some v ∧ Rep (E.mem 0) v c from by
    cases hq : cs[i]? with
    | none => exact ⟨undef, fun c h => by cases h⟩
    | some c0 =>
     obtain ⟨v, h1, h2⟩ := hc i c0 hq
     exact ⟨v, fun c h => by injection h with h; subst h; exact ⟨h1, h2⟩⟩)
   exact .pt 0 g 0 cs f (fun i c hi => by rw [Nat.zero_add]; exact (hf i c hi).1) (fun i c hi => (hf i c hi).2)

structure Eff where
 val : AV
 new : Option (Nat × AObj) := none
 del : List Nat := []
 tch : List Nat := []
def dels (H : Nat → Option AObj) : List Nat → Nat → Option AObj
 | [] => H
 | i :: r => dels (upd H i none) r
def Eff.heap (e : Eff) (H : Nat → Option AObj) : Nat → Option AObj := match e.new with
 | none => dels H e.del
 | some (i, o) => upd (dels H e.del) i (some o)

def Good (w0 : World) (V S0 U : Nat → Prop) (ob : Nat → Option (Value × Nat)) (w : World) (i : Nat) (H' : Nat → Option AObj) (val : AV) (r : Result Next) : Prop :=
 ∃ nx v w' ob', r = .ok nx w' ∧ (nx = .value v ∨ (nx = .skip ∧ v = undef)) ∧ MR w0 V S0 (fun k => U k ∨ k = i) H' ob' w' ∧ Ext (evOf w0.heap.size V ob U w) (evOf w0.heap.size V ob' (fun k => U k ∨ k = i) w') ∧ VR (evOf w0.heap.size V ob' (fun k => U k ∨ k = i) w') v val
section
variable {w0 w : World} {V S0 U : Nat → Prop} {H : Nat → Option AObj} {ob : Nat → Option (Value × Nat)} {i : Nat}
theorem Good.pure (h : MR w0 V S0 U H ob w) {v : Value} {val : AV} (hv : VR (evOf w0.heap.size V ob U w) v val) : Good w0 V S0 U ob w i H val (.ok (.value v) w) := by
 obtain ⟨h1, h2⟩ := h.used (U' := fun k => U k ∨ k = i) (fun k hk => .inl hk)
 exact ⟨_, v, w, ob, rfl, .inl rfl, h1, h2, hv.ext h2⟩
theorem Good.step (h : MR w0 V S0 U H ob w) {w' : World} {v : Value} {val : AV} {nx : Next} (hnx : nx = .value v ∨ (nx = .skip ∧ v = undef)) (j : Nat) (u' : Value) (o' : AObj) (ho : Onl (fun k => ∃ u n, ob j = some (u, n) ∧ blk u = some k) w w')
  (hU : U j → ∃ u n, ob j = some (u, n) ∧ n ≤ o'.cnt ∧ (n = o'.cnt → u = u')) (hblk : ∀ k, blk u' = some k → (∃ u n, ob j = some (u, n) ∧ blk u = some k) ∨ w.heap.size ≤ k) (hj : j = i ∨ U j)
  (hor : Ext (evOf w0.heap.size V ob U w) (evOf w0.heap.size V (upd ob j (some (u', o'.cnt))) (fun k => U k ∨ k = i) w') → OR (evOf w0.heap.size V (upd ob j (some (u', o'.cnt))) (fun k => U k ∨ k = i) w') w' u' o')
  (hval : Ext (evOf w0.heap.size V ob U w) (evOf w0.heap.size V (upd ob j (some (u', o'.cnt))) (fun k => U k ∨ k = i) w') → VR (evOf w0.heap.size V (upd ob j (some (u', o'.cnt))) (fun k => U k ∨ k = i) w') v val) :
  Good w0 V S0 U ob w i (upd H j (some o')) val (.ok nx w') := by
 have hx0 := h.grow j u' o'.cnt ho hU hblk
 have e : ∀ k, (U k ∨ k = j) → (U k ∨ k = i) := fun k hk => by
  rcases hk with hk | rfl
  ·exact .inl hk
  ·rcases hj with e | e
   ·exact .inr e
   ·exact .inl e
 have hx1 : Ext (evOf w0.heap.size V ob U w) (evOf w0.heap.size V (upd ob j (some (u', o'.cnt))) (fun k => U k ∨ k = i) w') := ⟨hx0.mem, rfl, fun id hid => .inl hid, fun id u1 n1 hid e1 => hx0.ob id u1 n1 hid e1⟩
 have hor' := hor hx1
 -- the step, at the numbers U or i
 have hUi : MR w0 V S0 (fun k => U k ∨ k = i) H ob w := (h.used (fun k hk => .inl hk)).1
 by_cases hji : j = i
 ·subst hji
  obtain ⟨h1, h2⟩ := h.step j u' o' ho hU hblk (fun _ => hor')
  exact ⟨nx, v, w', _, rfl, hnx, h1, hx1, hval hx1⟩
 ·have hUj : U j := by
   rcases hj with e | e
   ·exact absurd e hji
   ·exact e
  have ee : (fun k => (U k ∨ k = i) ∨ k = j) = (fun k => U k ∨ k = i) := by
   funext k
   apply propext
   constructor
   ·rintro (h | rfl)
    ·exact h
    ·exact .inl hUj
   ·intro h; exact .inl h
  obtain ⟨h1, h2⟩ := hUi.step j u' o' ho (fun _ => hU hUj) hblk (fun _ => by rw [ee]; exact hor')
  rw [ee] at h1
  exact ⟨nx, v, w', _, rfl, hnx, h1, hx1, hval hx1⟩
theorem Good.drop (h : MR w0 V S0 U H ob w) (j : Nat) {H' : Nat → Option AObj} {val : AV} {r : Result Next} (hg : MR w0 V S0 U (upd H j none) (upd ob j none) w → Good w0 V S0 U (upd ob j none) w i H' val r) : Good w0 V S0 U ob w i H' val r := by
 obtain ⟨h1, h2⟩ := h.drop j
 obtain ⟨nx, v, w', ob', e1, e2, e3, e4, e5⟩ := hg h1
 exact ⟨nx, v, w', ob', e1, e2, e3, h2.trans e4, e5⟩
end
end Go.Proofs.YtnffigeofdagfaaDoor.M

namespace Go.Proofs.YtnffigeofdagfaaDoor.M
open Go.RowKit
set_option linter.unusedVariables false

def aggB (P : Program) (t : TypeId) : Option Bool := (P.underlying t).map fun d => match d with | .struct _ | .array _ _ => true | _ => false
def szOf (P : Program) (t : TypeId) : Option Nat := (P.info? t).map (·.size)
def byOf (P : Program) (t : TypeId) : Option Nat := (P.info? t).map (·.bytes)
def vT : Value → Option T
 | .int k n => some (.int k n)
 | .bool b => some (.bool b)
 | .string s => some (.str s)
 | .slice none 0 0 => some (.sl 0 [])
 | .pointer none => some .nilp
 | .map none => some .nilm
 | _ => none
def vTs : List Value → Option (List T)
 | [] => some []
 | v :: r => match vT v, vTs r with
  | some x, some xs => some (x :: xs)
  | _, _ => none
def zeroOf (P : Program) (t : TypeId) : Option (List T) := ((P.info? t).bind (·.zero)).bind fun v => vTs v.cells.toList
def elOf (P : Program) (t : TypeId) : Option TypeId := match P.underlying t with | some (.slice e) => some e | _ => none
def fldOf (P : Program) (t : TypeId) (f : Nat) : Option (Nat × Nat × Bool) := match P.underlying t with
 | some (.struct fs) => (fs[f]?).bind fun x => match szOf P x.type, aggB P x.type with | some s, some a => some (x.offset, s, a) | _, _ => none
 | _ => none

theorem Rep.vT {m : Mem} {v : Value} {x : T} (h : vT v = some x) : Rep m v x := by
 unfold Proofs.YtnffigeofdagfaaDoor.M.vT at h
 split at h <;> first | cases h | skip
 ·exact .int _ _
 ·exact .bool _
 ·exact .str _
 ·exact .nil 0
 ·exact .nilp
 ·exact .nilm
theorem vTs_get : ∀ {vs : List Value} {xs : List T}, vTs vs = some xs → vs.length = xs.length ∧ ∀ (i : Nat) c, xs[i]? = some c → ∃ v, vs[i]? = some v ∧ vT v = some c
 | [], xs, h => by
  simp [vTs] at h
  subst h
  exact ⟨rfl, fun i c hi => by simp at hi⟩
 | v :: r, xs, h => by
  unfold vTs at h
  split at h
  ·rename_i x xr hx hr
   injection h with h
   subst h
   obtain ⟨h1, h2⟩ := vTs_get hr
   refine ⟨by simp [h1], fun i c hi => ?_⟩
   cases i with
   | zero => simp at hi; exact ⟨v, rfl, by rw [hx, hi]⟩
   | succ i => exact h2 i c (by simpa using hi)
  ·cases h
theorem run_aggB {P : Program} {t : TypeId} {b : Bool} (h : aggB P t = some b) (w : World) : (isAgg t).run P w = .ok b w := by
 unfold aggB at h
 cases hu : P.underlying t with
 | none => rw [hu] at h; cases h
 | some d =>
  rw [hu] at h
  simp only [Option.map_some, Option.some.injEq] at h
  unfold isAgg
  rw [Sem.run_bind, run_underlying hu w]
  subst h
  cases d <;> simp
theorem run_szOf {P : Program} {t : TypeId} {s : Nat} (h : szOf P t = some s) (w : World) : (sizeOf t).run P w = .ok s w := by
 unfold szOf at h
 cases hq : P.info? t with
 | none => rw [hq] at h; cases h
 | some i =>
  rw [hq] at h
  simp only [Option.map_some, Option.some.injEq] at h
  subst h
  simp [sizeOf, typeInfo, hq]
theorem info_sz {P : Program} {t : TypeId} {s : Nat} (h : szOf P t = some s) : ∃ i, P.info? t = some i ∧ i.size = s := by
 unfold szOf at h
 cases hq : P.info? t with
 | none => rw [hq] at h; cases h
 | some i => rw [hq] at h; simp only [Option.map_some, Option.some.injEq] at h; exact ⟨i, rfl, h⟩
theorem und_el {P : Program} {t e : TypeId} (h : elOf P t = some e) : P.underlying t = some (.slice e) := by
 unfold elOf at h
 split at h
 ·rename_i e' he; injection h with h; rw [he, h]
 ·cases h
theorem add_none (b o n : Nat) : (⟨b, o, none⟩ : Addr).add n = ⟨b, o + n, none⟩ := by
 unfold Addr.add
 by_cases h : n = 0
 ·subst h; simp
 ·rw [if_neg h]
def AObj.cells : AObj → List AV
 | .row _ _ p cs => cs.map (.t p)
 | .box _ cs => cs
 | .map _ _ _ => []
 | .vec _ _ _ cs => cs
section
variable {w0 w : World} {V S0 U : Nat → Prop} {H : Nat → Option AObj} {ob : Nat → Option (Value × Nat)} {i : Nat} {P : Program}
theorem MR.cell (h : MR w0 V S0 U H ob w) {id : Nat} {o : AObj} (ho : H id = some o) {u : Value} {n : Nat} (hu : ob id = some (u, n)) {b : Nat} (hb : blk u = some b) {off : Nat} {c : AV} (hc : o.cells[off]? = some c) :
  ∃ x, w.cell? ⟨b, off, none⟩ = some x ∧ w.frozen? ⟨b, off, none⟩ = false ∧ x.oneCell' = true ∧ VR (evOf w0.heap.size V ob U w) x c := by
 obtain ⟨-, u', h2, hor⟩ := h.obj id o ho
 rw [hu] at h2
 injection h2 with h2
 injection h2 with h2 _
 subst h2
 cases o with
 | row e z p cs =>
  obtain ⟨hz, hl, m, vs, how, hlen, hr⟩ := hor
  rcases how.2 with ⟨rfl, rfl⟩ | ⟨g, cap, cur, rfl, -, hg, hnc, hcm, hcs, htake⟩
  ·cases hb
  ·obtain rfl : g = b := by simpa [blk] using hb
   have hlt : off < cs.length := by
    have := (List.getElem?_eq_some_iff.1 hc).1
    simpa [AObj.cells] using this
   have hc' : c = .t p cs[off] := by
    simp [AObj.cells, hlt] at hc
    exact hc.symm
   have hv : off < vs.length := by omega
   have h3 := how.cells (g := g) rfl off vs[off] (by simp)
   rw [Addr.add_lit] at h3
   have hrep := hr off cs[off] vs[off] (by simp) (by simp)
   refine ⟨vs[off], by simpa using h3, by simp [World.frozen?, hg], hrep.one, ?_⟩
   rw [hc']
   exact .t _ p _ hrep
 | box ty cs =>
  obtain ⟨g, vs, rfl, hg, hv⟩ := hor
  obtain rfl : g = b := by simpa [blk] using hb
  cases hv with
  | agg vs cs hn h1 hr =>
   have hlt : off < vs.size := by
    have := (List.getElem?_eq_some_iff.1 hc).1
    simp [AObj.cells] at this
    omega
   refine ⟨vs[off], by simp [World.cell?, hg, hlt], by simp [World.frozen?, hg], h1 _ (by simp), ?_⟩
   have := hr off c hc
   simpa [Array.getD, hlt] using this
 | map K Y es => simp [AObj.cells] at hc
 | vec e z p cs =>
  obtain ⟨-, -, m, vs, how, hlen, hone, hr⟩ := hor
  rcases how.2 with ⟨rfl, rfl⟩ | ⟨g, cap, cur, rfl, -, hg, hnc, hcm, hcs, htake⟩
  ·cases hb
  ·obtain rfl : g = b := by simpa [blk] using hb
   have hlt : off < cs.length := by
    have := (List.getElem?_eq_some_iff.1 hc).1
    simpa [AObj.cells] using this
   have hv : off < vs.length := by omega
   have h3 := how.cells (g := g) rfl off vs[off] (by simp)
   rw [Addr.add_lit] at h3
   exact ⟨vs[off], by simpa using h3, by simp [World.frozen?, hg], hone _ (by simp), hr off c vs[off] (by simpa [AObj.cells] using hc) (by simp)⟩
theorem MR.ptr (h : MR w0 V S0 U H ob w) {id off c : Nat} {v : Value} (hv : VR (evOf w0.heap.size V ob U w) v (.ptr id off c)) {o : AObj} (ho : H id = some o) (hc : o.cnt = c) : ∃ u b, ob id = some (u, c) ∧ blk u = some b ∧ v = .pointer (some ⟨b, off, none⟩) ∧ U id := by
 obtain ⟨hU, u, h2, -⟩ := h.obj id o ho
 cases hv with
 | ptr v id off c h1 hU' hh =>
  obtain ⟨-, h3⟩ := hh u _ h2
  obtain ⟨b, h4, h5⟩ := h3 hc.symm
  exact ⟨u, b, by rw [← hc]; exact h2, h4, h5, hU⟩
theorem MR.own (h : MR w0 V S0 U H ob w) {id c : Nat} {v : Value} (hv : VR (evOf w0.heap.size V ob U w) v (.own id c)) {o : AObj} (ho : H id = some o) (hc : o.cnt = c) : ob id = some (v, c) ∧ U id := by
 obtain ⟨hU, u, h2, -⟩ := h.obj id o ho
 cases hv with
 | own v id c h1 hU' hh =>
  obtain ⟨-, h3⟩ := hh u _ h2
  rw [h3 hc.symm, ← hc]
  exact ⟨h2, hU⟩
end

def cut {α : Type} (cs : List α) (off n : Nat) : List α := (cs.drop off).take n
theorem cut_get {α : Type} {cs : List α} {off n i : Nat} {c : α} (h : (cut cs off n)[i]? = some c) : cs[off + i]? = some c ∧ i < n := by
 unfold cut at h
 rw [List.getElem?_take] at h
 by_cases hi : i < n
 ·rw [if_pos hi] at h
  simpa [hi] using h
 ·rw [if_neg hi] at h; cases h
theorem cut_len {α : Type} {cs : List α} {off n : Nat} (h : off + n ≤ cs.length) : (cut cs off n).length = n := by simp [cut]; omega

def aLoad (P : Program) (t : TypeId) (x : AV) (H : Nat → Option AObj) : Option (Bool × Eff) :=
 match aggB P t, szOf P t, x with
 | some a, some s, .ptr id off c =>
  match H id with
  | some (.box _ cs) => if a then some (decide (cs.length = c) && decide (off + s ≤ cs.length), { val := .agg (cut cs off s), tch := [id] })
   else match cs[off]? with
    | some v => some (decide (cs.length = c), { val := v, tch := [id] })
    | none => none
  | some (.row _ _ p cs) => if a then some (decide (cs.length = c) && decide (off + s ≤ cs.length), { val := .agg ((cut cs off s).map fun x => .t (lvT p x) x), tch := [id] })
   else some (decide (cs.length = c) && decide (off < cs.length), { val := .t (lvT p (cs.getD off default)) (cs.getD off default), tch := [id] })
  | some (.vec _ _ _ cs) => if a then some (decide (cs.length = c) && decide (off + s ≤ cs.length), { val := .agg (cut cs off s), tch := [id] })
   else match cs[off]? with
    | some v => some (decide (cs.length = c), { val := v, tch := [id] })
    | none => none
  | _ => none
 | some a, some s, .pt p cs =>
  if a then some (decide (s ≤ cs.length), { val := .agg ((cut cs 0 s).map fun x => .t (lvT p x) x) })
  else match cs with
   | c :: _ => some (true, { val := .t (lvT p c) c })
   | [] => none
 | _, _, _ => none

theorem loadCells_own {P : Program} {w : World} {b off s : Nat} {vs : List Value} (hl : vs.length = s) (hc : ∀ i v, vs[i]? = some v → w.cell? ⟨b, off + i, none⟩ = some v) : (loadCells ⟨b, off, none⟩ s).run P w = .ok vs.toArray w := by
 subst hl
 refine run_loadCells_list (P := P) (w := w) ⟨b, off, none⟩ vs (fun j v hj => ?_)
 rw [add_none]
 exact hc j v hj
theorem choose_list {α β : Type} [Inhabited α] {R : Nat → α → Prop} (n : Nat) (h : ∀ i, i < n → ∃ x, R i x) : ∃ xs : List α, xs.length = n ∧ ∀ i, ∀ x, xs[i]? = some x → R i x := by
 classical
 refine ⟨(List.range n).map (fun i => if hi : i < n then (h i hi).choose else default), by simp, fun i x hx => ?_⟩
 by_cases hi : i < n
 ·simp [hi] at hx
  rw [← hx]
  exact (h i hi).choose_spec
 ·simp [hi] at hx
section
variable {w0 w : World} {V S0 U : Nat → Prop} {H : Nat → Option AObj} {ob : Nat → Option (Value × Nat)} {i : Nat} {P : Program}
theorem load_agg {m : Nat} {b off : Nat} {t : TypeId} {s : Nat} (ha : aggB P t = some true) (hs : szOf P t = some s) (h : MR w0 V S0 U H ob w) {cs : List AV} (hl : cs.length = s)
  (hc : ∀ (j : Nat) c, cs[j]? = some c → ∃ x, w.cell? ⟨b, off + j, none⟩ = some x ∧ x.oneCell' = true ∧ VR (evOf w0.heap.size V ob U w) x c) :
  ∃ v, (Instr.loadAt t (.pointer (some ⟨b, off, none⟩))).run P w = .ok v w ∧ VR (evOf w0.heap.size V ob U w) v (.agg cs) := by
 obtain ⟨xs, hx1, hx2⟩ := choose_list (β := Nat) (R := fun j x => w.cell? ⟨b, off + j, none⟩ = some x ∧ x.oneCell' = true ∧ ∀ c, cs[j]? = some c → VR (evOf w0.heap.size V ob U w) x c) s (fun j hj => by
  obtain ⟨x, h1, h2, h3⟩ := hc j cs[j] (by simp)
  exact ⟨x, h1, h2, fun c e => by
   have e2 : cs[j] = c := by
    rw [List.getElem?_eq_getElem (by omega)] at e
    injection e
   rw [← e2]; exact h3⟩)
 refine ⟨.agg xs.toArray, ?_, .agg _ _ (by simp [hx1, hl]) (fun v hv => ?_) (fun j c hj => ?_)⟩
 ·simp [Instr.loadAt, Instr.sureAddr, loadVar, Sem.run_bind, run_aggB ha, run_szOf hs, loadCells_own hx1 (fun j v hv => (hx2 j v hv).1)]
 ·have hv : v ∈ xs := by simpa using hv
  obtain ⟨j, hj, rfl⟩ := List.getElem_of_mem hv
  exact (hx2 j _ (by simp)).2.1
 ·have hlt : j < xs.length := by rw [hx1, ← hl]; exact (List.getElem?_eq_some_iff.1 hj).1
  have := (hx2 j xs[j] (by simp)).2.2 c hj
  simpa [Array.getD, hlt] using this
theorem load_one {b off : Nat} {t : TypeId} (ha : aggB P t = some false) {x : Value} (hx : w.cell? ⟨b, off, none⟩ = some x) : (Instr.loadAt t (.pointer (some ⟨b, off, none⟩))).run P w = .ok x w := by
 simp [Instr.loadAt, Instr.sureAddr, loadVar, Sem.run_bind, run_aggB ha, hx]
theorem ok_load {t : TypeId} {v : Value} {x : AV} {eff : Eff} {c : Bool} (he : aLoad P t x H = some (c, eff)) (hc : c = true) (h : MR w0 V S0 U H ob w) (hv : VR (evOf w0.heap.size V ob U w) v x) :
  ∃ y, (Instr.loadAt t v).run P w = .ok y w ∧ VR (evOf w0.heap.size V ob U w) y eff.val ∧ eff.new = none ∧ eff.del = [] := by
 subst hc
 unfold aLoad at he
 split at he
 ·rename_i a s id off c ha hs
  split at he
  ·rename_i ty cs hH
   by_cases haa : a = true
   ·subst haa
    simp only [if_true, Option.some.injEq, Prod.mk.injEq, Bool.and_eq_true, decide_eq_true_eq] at he
    obtain ⟨⟨h1, h2⟩, rfl⟩ := he
    obtain ⟨u, b, e1, e2, rfl, -⟩ := h.ptr hv hH h1
    obtain ⟨y, hy1, hy2⟩ := load_agg (m := 0) ha hs h (b := b) (off := off) (cs := cut cs off s) (cut_len h2) (fun j c' hj => by
     obtain ⟨x, q1, -, q3, q4⟩ := h.cell hH e1 e2 (off := off + j) (c := c') (by simpa [AObj.cells] using (cut_get hj).1)
     exact ⟨x, q1, q3, q4⟩)
    exact ⟨y, hy1, hy2, rfl, rfl⟩
   ·have haa : a = false := by simpa using haa
    subst haa
    simp only [Bool.false_eq_true, if_false] at he
    split at he
    ·rename_i av hcs
     simp only [Option.some.injEq, Prod.mk.injEq, decide_eq_true_eq] at he
     obtain ⟨h1, rfl⟩ := he
     obtain ⟨u, b, e1, e2, rfl, -⟩ := h.ptr hv hH h1
     obtain ⟨x, q1, -, q3, q4⟩ := h.cell hH e1 e2 (off := off) (c := av) (by simpa [AObj.cells] using hcs)
     exact ⟨x, load_one ha q1, q4, rfl, rfl⟩
    ·cases he
  ·rename_i e z p cs hH
   by_cases haa : a = true
   ·subst haa
    simp only [if_true, Option.some.injEq, Prod.mk.injEq, Bool.and_eq_true, decide_eq_true_eq] at he
    obtain ⟨⟨h1, h2⟩, rfl⟩ := he
    obtain ⟨u, b, e1, e2, rfl, -⟩ := h.ptr hv hH h1
    obtain ⟨y, hy1, hy2⟩ := load_agg (m := 0) ha hs h (b := b) (off := off) (cs := (cut cs off s).map fun x => .t (lvT p x) x) (by simp [cut_len h2]) (fun j c' hj => by
     have hj' : ∃ c0, (cut cs off s)[j]? = some c0 ∧ c' = .t (lvT p c0) c0 := by
      rw [List.getElem?_map] at hj
      cases hq : (cut cs off s)[j]? with
      | none => rw [hq] at hj; cases hj
      | some c0 => rw [hq] at hj; simp at hj; exact ⟨c0, rfl, hj.symm⟩
     obtain ⟨c0, hj1, rfl⟩ := hj'
     obtain ⟨x, q1, -, q3, q4⟩ := h.cell hH e1 e2 (off := off + j) (c := .t p c0) (by simp [AObj.cells, (cut_get hj1).1])
     exact ⟨x, q1, q3, .t _ _ _ (q4.rep.lvT (M := (evOf w0.heap.size V ob U w).mem))⟩)
    exact ⟨y, hy1, hy2, rfl, rfl⟩
   ·have haa : a = false := by simpa using haa
    subst haa
    simp only [Bool.false_eq_true, if_false, Option.some.injEq, Prod.mk.injEq, Bool.and_eq_true, decide_eq_true_eq] at he
    obtain ⟨⟨h1, h2⟩, rfl⟩ := he
    obtain ⟨u, b, e1, e2, rfl, -⟩ := h.ptr hv hH h1
    obtain ⟨x, q1, -, q3, q4⟩ := h.cell hH e1 e2 (off := off) (c := .t p cs[off]) (by simp [AObj.cells, h2])
    refine ⟨x, load_one ha q1, ?_, rfl, rfl⟩
    have q5 : VR (evOf w0.heap.size V ob U w) x (.t (lvT p cs[off]) cs[off]) := .t _ _ _ (q4.rep.lvT (M := (evOf w0.heap.size V ob U w).mem))
    simpa [h2] using q5
  ·rename_i e z p cs hH
   by_cases haa : a = true
   ·subst haa
    simp only [if_true, Option.some.injEq, Prod.mk.injEq, Bool.and_eq_true, decide_eq_true_eq] at he
    obtain ⟨⟨h1, h2⟩, rfl⟩ := he
    obtain ⟨u, b, e1, e2, rfl, -⟩ := h.ptr hv hH h1
    obtain ⟨y, hy1, hy2⟩ := load_agg (m := 0) ha hs h (b := b) (off := off) (cs := cut cs off s) (cut_len h2) (fun j c' hj => by
     obtain ⟨x, q1, -, q3, q4⟩ := h.cell hH e1 e2 (off := off + j) (c := c') (by simpa [AObj.cells] using (cut_get hj).1)
     exact ⟨x, q1, q3, q4⟩)
    exact ⟨y, hy1, hy2, rfl, rfl⟩
   ·have haa : a = false := by simpa using haa
    subst haa
    simp only [Bool.false_eq_true, if_false] at he
    split at he
    ·rename_i av hcs
     simp only [Option.some.injEq, Prod.mk.injEq, decide_eq_true_eq] at he
     obtain ⟨h1, rfl⟩ := he
     obtain ⟨u, b, e1, e2, rfl, -⟩ := h.ptr hv hH h1
     obtain ⟨x, q1, -, q3, q4⟩ := h.cell hH e1 e2 (off := off) (c := av) (by simpa [AObj.cells] using hcs)
     exact ⟨x, load_one ha q1, q4, rfl, rfl⟩
    ·cases he
  ·cases he
 ·rename_i a s p cs ha hs
  obtain ⟨b, o, vs, rfl, hcc, hrr⟩ := hv.unpt
  by_cases haa : a = true
  ·subst haa
   simp only [if_true, Option.some.injEq, Prod.mk.injEq, decide_eq_true_eq] at he
   obtain ⟨h1, rfl⟩ := he
   obtain ⟨y, hy1, hy2⟩ := load_agg (m := 0) ha hs h (b := b) (off := o) (cs := (cut cs 0 s).map fun x => .t (lvT p x) x) (by simp [cut_len (show 0 + s ≤ cs.length by omega)]) (fun j c' hj => by
    have hj' : ∃ c0, (cut cs 0 s)[j]? = some c0 ∧ c' = .t (lvT p c0) c0 := by
     rw [List.getElem?_map] at hj
     cases hq : (cut cs 0 s)[j]? with
     | none => rw [hq] at hj; cases hj
     | some c0 => rw [hq] at hj; simp at hj; exact ⟨c0, rfl, hj.symm⟩
    obtain ⟨c0, hj1, rfl⟩ := hj'
    have hj2 := (cut_get hj1).1
    rw [Nat.zero_add] at hj2
    exact ⟨vs j, memL_cell (hcc j c0 hj2), (hrr j c0 hj2).one, .t _ _ _ ((hrr j c0 hj2).lvT (M := (evOf w0.heap.size V ob U w).mem))⟩)
   exact ⟨y, hy1, hy2, rfl, rfl⟩
  ·have haa : a = false := by simpa using haa
   subst haa
   simp only [Bool.false_eq_true, if_false] at he
   split at he
   ·rename_i c0 cr
    simp only [Option.some.injEq, Prod.mk.injEq, true_and] at he
    subst he
    have q1 := memL_cell (hcc 0 c0 rfl)
    rw [Nat.add_zero] at q1
    exact ⟨vs 0, load_one ha q1, .t _ _ _ ((hrr 0 c0 rfl).lvT (M := (evOf w0.heap.size V ob U w).mem)), rfl, rfl⟩
   ·cases he
 ·cases he
end
end Go.Proofs.YtnffigeofdagfaaDoor.M

namespace Go.Proofs.YtnffigeofdagfaaDoor.M
open Go.RowKit
set_option linter.unusedVariables false

def aField (P : Program) (s f : Nat) (x : AV) (H : Nat → Option AObj) : Option (Bool × Eff) :=
 match fldOf P s f, x with
 | some (o, sz, _), .ptr id off c => match H id with
  | some b => some (decide (b.cnt = c) && decide (sz ≠ 0), { val := .ptr id (off + o) c, tch := [id] })
  | none => none
 | some (o, sz, _), .pt p cs => some (decide (sz ≠ 0), { val := .pt p (cs.drop o) })
 | _, _ => none
def aFieldV (P : Program) (s f : Nat) (x : AV) : Option (Bool × Eff) :=
 match fldOf P s f, x with
 | some (o, sz, a), .agg cs => if a then some (decide (o + sz ≤ cs.length), { val := .agg (cut cs o sz) })
  else match cs[o]? with
   | some v => some (true, { val := v })
   | none => none
 | _, _ => none
def arOf (P : Program) (t : TypeId) : Option (Nat × TypeId) := match P.underlying t with | some (.array n e) => some (n, e) | _ => none
def aIndexAddr (P : Program) (t : TypeId) (x ix : AV) (H : Nat → Option AObj) : Option (Bool × Eff) :=
 match elOf P t with
 | some e => match szOf P e, x, ix with
  | some s, .t p (.sl z cs), .t _ (.int _ i) =>
   if s = 1 then some (decide (z = 1) && decide (0 ≤ i) && decide (i < (cs.length : Int)), { val := .pt p [cs.getD i.toNat default] })
   else some (decide (z = s) && decide (0 < s) && decide (0 ≤ i) && decide (i.toNat * s + s ≤ cs.length), { val := .pt p (cut cs (i.toNat * s) s) })
  | some s, .own id c, .t _ (.int _ i) => match H id with
   | some (.row _ z _ cs) => some (decide (cs.length = c) && decide (z = s) && decide (0 ≤ i) && decide (i.toNat * s + s ≤ cs.length), { val := .ptr id (i.toNat * s) c, tch := [id] })
   | some (.vec _ z _ cs) => if s = 1 then some (decide (cs.length = c) && decide (z = 1) && decide (0 ≤ i) && decide (i < (cs.length : Int)), { val := .ptr id i.toNat c, tch := [id] })
    else some (decide (cs.length = c) && decide (z = s) && decide (0 ≤ i) && decide (i.toNat * s + s ≤ cs.length), { val := .ptr id (i.toNat * s) c, tch := [id] })
   | _ => none
  | some s, .sub id off l c, .t _ (.int _ i) => match H id with
   | some (.row _ z _ cs) => some (decide (cs.length = c) && decide (z = s) && decide (0 ≤ i) && decide (i < (l : Int)), { val := .ptr id (off + i.toNat * s) c, tch := [id] })
   | _ => none
  | _, _, _ => none
 | none => match arOf P t with
  | some (n, e) => match szOf P e, x, ix with
   | some s, .ptr id off c, .t _ (.int _ i) => match H id with
    | some b => some (decide (b.cnt = c) && decide (0 ≤ i) && decide (i < (n : Int)), { val := .ptr id (off + i.toNat * s) c, tch := [id] })
    | none => none
   | some s, .pt p cs, .t _ (.int _ i) => some (decide (0 ≤ i) && decide (i < (n : Int)) && decide (0 < s), { val := .pt p (cs.drop (i.toNat * s)) })
   | _, _, _ => none
  | none => none
def byteAt (s : ByteArray) (i : Nat) : Int := ((s[i]?).map (fun b => (b.toNat : Int))).getD 0
def strB (P : Program) (t : TypeId) : Bool := match P.underlying t with | some .string => true | _ => false
def aIndex (P : Program) (t : TypeId) (x ix : AV) : Option (Bool × Eff) :=
 match strB P t, x, ix with
 | true, .t _ (.str s), .t _ (.int _ i) => some (decide (0 ≤ i) && decide (i < (s.size : Int)), { val := .t 2 (.int .u8 (byteAt s i.toNat)) })
 | _, .agg cs, .t _ (.int _ i) => match arOf P t with
  | some (n, e) => match szOf P e, aggB P e with
   | some 1, some false => some (decide (0 ≤ i) && decide (i < (n : Int)) && decide (cs.length = n), { val := cs.getD i.toNat .any })
   | _, _ => none
  | none => none
 | _, _, _ => none
def oint : Option AV → Option (Option Int)
 | none => some none
 | some (.t _ (.int _ i)) => some (some i)
 | _ => none
def aSlice (P : Program) (t : TypeId) (x : AV) (lo hi : Option AV) : Option (Bool × Eff) :=
 match strB P t, x, oint lo, oint hi with
 | true, .t _ (.str s), some l, some h => some (decide (0 ≤ l.getD 0) && decide (l.getD 0 ≤ h.getD s.size) && decide (h.getD s.size ≤ s.size), { val := .t 2 (.str (s.extract (l.getD 0).toNat (h.getD s.size).toNat)) })
 | false, .t p (.sl z cs), some l, some h => match elOf P t with
  | some e => match szOf P e with
   | some s => some (decide (z = s) && decide (0 < s) && decide (0 ≤ l.getD 0) && decide (l.getD 0 ≤ h.getD ((cs.length / z : Nat) : Int)) && decide (h.getD ((cs.length / z : Nat) : Int) ≤ ((cs.length / z : Nat) : Int)), { val := .t p (.sl z (cut cs ((l.getD 0).toNat * z) (((h.getD ((cs.length / z : Nat) : Int)).toNat - (l.getD 0).toNat) * z))) })
   | none => none
  | none => none
 | _, _, _, _ => none
def mpB (P : Program) (t : TypeId) : Bool := match P.underlying t with | some (.map _ _) => true | _ => false
def aLen (P : Program) (t : TypeId) (x : AV) (H : Nat → Option AObj) : Option (Bool × Eff) :=
 match x with
 | .t _ (.str s) => if strB P t then some (true, { val := .t 2 (.int .i64 s.size) }) else none
 | .t _ (.sl z cs) => match elOf P t with
  | some _ => some (true, { val := .t 2 (.int .i64 (cs.length / z : Nat)) })
  | none => none
 | .sub id off l c => match elOf P t, H id with
  | some _, some (.row _ z _ cs) => some (decide (cs.length = c), { val := .t 2 (.int .i64 l), tch := [id] })
  | _, _ => none
 | .own id c => match elOf P t, H id with
  | some _, some (.row _ z _ cs) => some (decide (cs.length = c), { val := .t 2 (.int .i64 (cs.length / z : Nat)), tch := [id] })
  | some _, some (.vec _ z _ cs) => some (decide (cs.length = c), { val := .t 2 (.int .i64 (cs.length / z : Nat)), tch := [id] })
  | none, some (.map _ _ es) => if mpB P t then some (decide (c = 0), { val := .t 2 (.int .i64 es.length), tch := [id] }) else none
  | _, _ => none
 | _ => none

section
variable {w0 w : World} {V S0 U : Nat → Prop} {H : Nat → Option AObj} {ob : Nat → Option (Value × Nat)} {i : Nat} {P : Program}
theorem fld_parts {s f o sz : Nat} {a : Bool} (h : fldOf P s f = some (o, sz, a)) : ∃ fs x, P.underlying s = some (.struct fs) ∧ fs[f]? = some x ∧ x.offset = o ∧ szOf P x.type = some sz ∧ aggB P x.type = some a := by
 unfold fldOf at h
 split at h
 ·rename_i fs hu
  cases hx : fs[f]? with
  | none => rw [hx] at h; cases h
  | some x =>
   rw [hx] at h
   simp only [Option.bind_some] at h
   split at h
   ·rename_i s' a' h1 h2
    simp only [Option.some.injEq, Prod.mk.injEq] at h
    obtain ⟨rfl, rfl, rfl⟩ := h
    exact ⟨fs, x, hu, hx, rfl, h1, h2⟩
   ·cases h
 ·cases h
theorem run_field {s f o sz : Nat} {a : Bool} (h : fldOf P s f = some (o, sz, a)) (hz : sz ≠ 0) (b off : Nat) : (Instr.fieldAt s (.pointer (some ⟨b, off, none⟩)) f).run P w = .ok (.pointer (some ⟨b, off + o, none⟩)) w := by
 obtain ⟨fs, x, h1, h2, h3, h4, h5⟩ := fld_parts h
 simp [Instr.fieldAt, run_underlying h1, Sem.run_bind, h2, Instr.sureAddr, fieldPlace, run_szOf h4, hz, add_none, h3]
theorem ok_field {s f : Nat} {v : Value} {x : AV} {eff : Eff} {c : Bool} (he : aField P s f x H = some (c, eff)) (hc : c = true) (h : MR w0 V S0 U H ob w) (hv : VR (evOf w0.heap.size V ob U w) v x) :
  ∃ y, (Instr.fieldAt s v f).run P w = .ok y w ∧ VR (evOf w0.heap.size V ob U w) y eff.val ∧ eff.new = none ∧ eff.del = [] := by
 subst hc
 unfold aField at he
 split at he
 ·rename_i o sz a id off c hf
  split at he
  ·rename_i b hH
   simp only [Option.some.injEq, Prod.mk.injEq, Bool.and_eq_true, decide_eq_true_eq] at he
   obtain ⟨⟨h1, h2⟩, rfl⟩ := he
   obtain ⟨u, k, e1, e2, rfl, e3⟩ := h.ptr hv hH h1
   refine ⟨_, run_field hf h2 k off, .ptr _ id (off + o) c rfl e3 (fun u' n hu => ?_), rfl, rfl⟩
   have hu : ob id = some (u', n) := hu
   rw [e1] at hu
   simp only [Option.some.injEq, Prod.mk.injEq] at hu
   obtain ⟨rfl, rfl⟩ := hu
   exact ⟨Nat.le_refl _, fun _ => ⟨k, e2, rfl⟩⟩
  ·cases he
 ·rename_i o sz a p cs hf
  simp only [Option.some.injEq, Prod.mk.injEq, decide_eq_true_eq] at he
  obtain ⟨h2, rfl⟩ := he
  obtain ⟨b, off, vs, rfl, hcc, hrr⟩ := hv.unpt
  refine ⟨_, run_field hf h2 b off, .pt p b (off + o) (cs.drop o) (fun i => vs (o + i)) (fun i c hi => ?_) (fun i c hi => ?_), rfl, rfl⟩
  ·rw [Nat.add_assoc]; exact hcc (o + i) c (by simpa using hi)
  ·exact hrr (o + i) c (by simpa using hi)
 ·cases he
theorem ok_fieldV {s f : Nat} {v : Value} {x : AV} {eff : Eff} {c : Bool} (he : aFieldV P s f x = some (c, eff)) (hc : c = true) {E : Ev} (hv : VR E v x) :
  ∃ y, (Instr.field s v f).run P w = .ok y w ∧ VR E y eff.val ∧ eff.new = none ∧ eff.del = [] := by
 subst hc
 unfold aFieldV at he
 split at he
 ·rename_i o sz a cs hf
  obtain ⟨fs, x, h1, h2, h3, h4, h5⟩ := fld_parts hf
  cases hv with
  | agg vs cs hn hone hr =>
   by_cases haa : a = true
   ·subst haa
    simp only [if_true, Option.some.injEq, Prod.mk.injEq, decide_eq_true_eq] at he
    obtain ⟨h6, rfl⟩ := he
    refine ⟨.agg (vs.extract o (o + sz)), ?_, .agg _ _ ?_ (fun y hy => ?_) (fun i c hi => ?_), rfl, rfl⟩
    ·simp [Instr.field, run_underlying h1, Sem.run_bind, h2, asAgg, part, run_aggB h5, run_szOf h4, h3]
    ·rw [cut_len h6]; simp; omega
    ·exact hone y (by
      rw [Array.mem_iff_getElem] at hy ⊢
      obtain ⟨i, hi, rfl⟩ := hy
      simp at hi
      exact ⟨o + i, by omega, by simp⟩)
    ·obtain ⟨h7, h8⟩ := cut_get hi
     have := hr _ _ h7
     have hlt : o + i < vs.size := by rw [hn]; exact (List.getElem?_eq_some_iff.1 h7).1
     have hlt2 : i < (vs.extract o (o + sz)).size := by simp; omega
     simp only [Array.getD, hlt, dif_pos] at this
     simp only [Array.getD, hlt2, dif_pos]
     simpa using this
   ·have haa : a = false := by simpa using haa
    subst haa
    simp only [Bool.false_eq_true, if_false] at he
    split at he
    ·rename_i y hy
     simp only [Option.some.injEq, Prod.mk.injEq, true_and] at he
     subst he
     have hlt : o < vs.size := by rw [hn]; exact (List.getElem?_eq_some_iff.1 hy).1
     refine ⟨vs[o], ?_, ?_, rfl, rfl⟩
     ·simp [Instr.field, run_underlying h1, Sem.run_bind, h2, asAgg, part, run_aggB h5, h3, hlt]
     ·have := hr _ _ hy
      simpa [Array.getD, hlt] using this
    ·cases he
 ·cases he
theorem getD_one {cs : List T} {n : Nat} (h : n < cs.length) (j : Nat) (c : T) (hc : [cs.getD n default][j]? = some c) : j = 0 ∧ cs[n]? = some c := by
 cases j with
 | zero => simp [h] at hc; exact ⟨rfl, by simp [h, hc]⟩
 | succ j => simp at hc
theorem ok_indexAddr {t : TypeId} {v y : Value} {x ix : AV} {eff : Eff} {c : Bool} (he : aIndexAddr P t x ix H = some (c, eff)) (hc : c = true) (h : MR w0 V S0 U H ob w) (hv : VR (evOf w0.heap.size V ob U w) v x) (hy : VR (evOf w0.heap.size V ob U w) y ix) :
  ∃ z, (Instr.indexAt t v y).run P w = .ok z w ∧ VR (evOf w0.heap.size V ob U w) z eff.val ∧ eff.new = none ∧ eff.del = [] := by
 subst hc
 unfold aIndexAddr at he
 split at he
 ·rename_i e hel
  have hu := und_el hel
  split at he
  ·rename_i s p z cs q k i hs
   obtain rfl := hy.int
   have hrep := hv.rep
   have key : ∀ (n cap b o : Nat), v = .slice (some ⟨b, o, none⟩) n cap → 0 ≤ i → i < (n : Int) → (Instr.indexAt t v (.int k i)).run P w = .ok (.pointer (some ⟨b, o + i.toNat * s, none⟩)) w := fun n cap b o hvv h1 h2 => by
    subst hvv
    simp [Instr.indexAt, asIntOf, run_underlying hu, Sem.run_bind, run_szOf hs, h1, h2, add_none]
   by_cases hs1 : s = 1
   ·subst hs1
    simp only [if_true, Option.some.injEq, Prod.mk.injEq, Bool.and_eq_true, decide_eq_true_eq] at he
    obtain ⟨⟨⟨h1, h2⟩, h3⟩, rfl⟩ := he
    subst h1
    cases hrep with
    | nil z => simp at h3; omega
    | emp a z hz => simp at h3; omega
    | sl b o n cap z cs vs hz hn h4 h5 hcc hrr =>
     have hlt : i.toNat < cs.length := by omega
     refine ⟨_, key n cap b o rfl h2 (by omega), .pt p b _ _ (fun _ => vs i.toNat) (fun j c hj => ?_) (fun j c hj => ?_), rfl, rfl⟩
     ·obtain ⟨rfl, h6⟩ := getD_one hlt j c hj
      simpa using hcc _ c h6
     ·obtain ⟨rfl, h6⟩ := getD_one hlt j c hj
      exact hrr _ c h6
   ·simp only [hs1, if_false, Option.some.injEq, Prod.mk.injEq, Bool.and_eq_true, decide_eq_true_eq] at he
    obtain ⟨⟨⟨⟨h1, h0⟩, h2⟩, h3⟩, rfl⟩ := he
    subst h1
    cases hrep with
    | nil z => simp at h3; omega
    | emp a z hz => simp at h3; omega
    | sl b o n cap z cs vs hz hn h4 h5 hcc hrr =>
     have hlt : i.toNat < n := by
      rw [hn] at h3
      have : (i.toNat + 1) * z ≤ n * z := by rw [Nat.add_mul]; omega
      have := Nat.le_of_mul_le_mul_right this hz
      omega
     refine ⟨_, key n cap b o rfl h2 (by omega), .pt p b _ _ (fun j => vs (i.toNat * z + j)) (fun j c hj => ?_) (fun j c hj => ?_), rfl, rfl⟩
     ·have := hcc _ c (cut_get hj).1
      rw [Nat.add_assoc]; exact this
     ·exact hrr _ c (cut_get hj).1
  ·rename_i s id c q k i hs
   obtain rfl := hy.int
   split at he
   ·rename_i e' z p cs hH
    simp only [Option.some.injEq, Prod.mk.injEq, Bool.and_eq_true, decide_eq_true_eq] at he
    obtain ⟨⟨⟨⟨h1, h2⟩, h3⟩, h4⟩, rfl⟩ := he
    obtain ⟨e1, e2⟩ := h.own hv hH h1
    obtain ⟨-, u, e3, hz, hl, m, vs, how, hlen, hr⟩ := h.obj id _ hH
    rw [e1] at e3
    simp only [Option.some.injEq, Prod.mk.injEq] at e3
    obtain ⟨rfl, -⟩ := e3
    subst h2
    rcases how.2 with ⟨rfl, rfl⟩ | ⟨g, cap, cur, rfl, -, hg, hnc, hcm, hcs, htake⟩
    ·have := how.1
     omega
    ·have hlt : i.toNat < m := by
      have h5 := how.1
      have : (i.toNat + 1) * z ≤ m * z := by rw [Nat.add_mul]; omega
      have := Nat.le_of_mul_le_mul_right this hz
      omega
     refine ⟨.pointer (some ⟨g, i.toNat * z, none⟩), ?_, .ptr _ id _ c rfl e2 (fun u' n hu' => ?_), rfl, rfl⟩
     ·have h7 : i < (m : Int) := by omega
      simp [Instr.indexAt, asIntOf, run_underlying hu, Sem.run_bind, run_szOf hs, h3, h7, add_none]
     ·have hu' : ob id = some (u', n) := hu'
      rw [e1] at hu'
      simp only [Option.some.injEq, Prod.mk.injEq] at hu'
      obtain ⟨rfl, rfl⟩ := hu'
      exact ⟨Nat.le_refl _, fun _ => ⟨g, rfl, rfl⟩⟩
   ·rename_i e' z pv cs hH
    by_cases hs1 : s = 1
    ·simp only [hs1, if_true, Option.some.injEq, Prod.mk.injEq, Bool.and_eq_true, decide_eq_true_eq] at he
     obtain ⟨⟨⟨⟨h1, h2⟩, h3⟩, h4⟩, rfl⟩ := he
     obtain ⟨e1, e2⟩ := h.own hv hH h1
     obtain ⟨-, u, e3, hz, -, m, vs, how, hlen, hone, hr⟩ := h.obj id _ hH
     rw [e1] at e3
     simp only [Option.some.injEq, Prod.mk.injEq] at e3
     obtain ⟨rfl, -⟩ := e3
     subst h2 hs1
     rcases how.2 with ⟨rfl, rfl⟩ | ⟨g, cap, cur, rfl, -, hg, hnc, hcm, hcs, htake⟩
     ·have := how.1
      omega
     ·have h5 := how.1
      refine ⟨.pointer (some ⟨g, i.toNat, none⟩), ?_, .ptr _ id _ c rfl e2 (fun u' n hu' => ?_), rfl, rfl⟩
      ·have h7 : i < (m : Int) := by omega
       simp [Instr.indexAt, asIntOf, run_underlying hu, Sem.run_bind, run_szOf hs, h3, h7, add_none]
      ·have hu' : ob id = some (u', n) := hu'
       rw [e1] at hu'
       simp only [Option.some.injEq, Prod.mk.injEq] at hu'
       obtain ⟨rfl, rfl⟩ := hu'
       exact ⟨Nat.le_refl _, fun _ => ⟨g, rfl, rfl⟩⟩
    ·simp only [hs1, if_false, Option.some.injEq, Prod.mk.injEq, Bool.and_eq_true, decide_eq_true_eq] at he
     obtain ⟨⟨⟨⟨h1, h2⟩, h3⟩, h4⟩, rfl⟩ := he
     obtain ⟨e1, e2⟩ := h.own hv hH h1
     obtain ⟨-, u, e3, hz, -, m, vs, how, hlen, hone, hr⟩ := h.obj id _ hH
     rw [e1] at e3
     simp only [Option.some.injEq, Prod.mk.injEq] at e3
     obtain ⟨rfl, -⟩ := e3
     subst h2
     rcases how.2 with ⟨rfl, rfl⟩ | ⟨g, cap, cur, rfl, -, hg, hnc, hcm, hcs, htake⟩
     ·have := how.1
      omega
     ·have hlt : i.toNat < m := by
       have h5 := how.1
       have : (i.toNat + 1) * z ≤ m * z := by rw [Nat.add_mul]; omega
       have := Nat.le_of_mul_le_mul_right this hz
       omega
      refine ⟨.pointer (some ⟨g, i.toNat * z, none⟩), ?_, .ptr _ id _ c rfl e2 (fun u' n hu' => ?_), rfl, rfl⟩
      ·have h7 : i < (m : Int) := by omega
       simp [Instr.indexAt, asIntOf, run_underlying hu, Sem.run_bind, run_szOf hs, h3, h7, add_none]
      ·have hu' : ob id = some (u', n) := hu'
       rw [e1] at hu'
       simp only [Option.some.injEq, Prod.mk.injEq] at hu'
       obtain ⟨rfl, rfl⟩ := hu'
       exact ⟨Nat.le_refl _, fun _ => ⟨g, rfl, rfl⟩⟩
   ·cases he
  ·rename_i s id off l c q k i hs
   obtain rfl := hy.int
   split at he
   ·rename_i e' z p cs hH
    simp only [Option.some.injEq, Prod.mk.injEq, Bool.and_eq_true, decide_eq_true_eq] at he
    obtain ⟨⟨⟨⟨h1, h2⟩, h3⟩, h4⟩, rfl⟩ := he
    obtain ⟨-, u, e3, hor⟩ := h.obj id _ hH
    have e3 : ob id = some (u, c) := by rw [e3]; simp [AObj.cnt, h1]
    cases hv with
    | sub v id off l c g1 hU hh =>
     obtain ⟨cap, g2, g3, g4⟩ := (hh u c e3).2 rfl
     rcases g4 with ⟨-, g4⟩ | ⟨b, o, g4, rfl, g5⟩
     ·omega
     ·have ho : o = off := by omega
      subst ho
      refine ⟨.pointer (some ⟨b, o + i.toNat * s, none⟩), ?_, .ptr _ id _ c rfl hU (fun u' n hu' => ?_), rfl, rfl⟩
      ·simp [Instr.indexAt, asIntOf, run_underlying hu, Sem.run_bind, run_szOf hs, h3, h4, add_none]
      ·have hu' : ob id = some (u', n) := hu'
       rw [e3] at hu'
       simp only [Option.some.injEq, Prod.mk.injEq] at hu'
       obtain ⟨rfl, rfl⟩ := hu'
       exact ⟨Nat.le_refl _, fun _ => ⟨b, g4, rfl⟩⟩
   ·cases he
  ·cases he
 ·split at he
  ·rename_i n e har
   have hu : P.underlying t = some (.array n e) := by
    unfold arOf at har
    split at har
    ·rename_i n' e' h1; simp only [Option.some.injEq, Prod.mk.injEq] at har; rw [h1, har.1, har.2]
    ·cases har
   split at he
   ·rename_i s id off c q k i hs
    obtain rfl := hy.int
    split at he
    ·rename_i b hH
     simp only [Option.some.injEq, Prod.mk.injEq, Bool.and_eq_true, decide_eq_true_eq] at he
     obtain ⟨⟨⟨h1, h2⟩, h3⟩, rfl⟩ := he
     obtain ⟨u, g, e1, e2, rfl, e3⟩ := h.ptr hv hH h1
     refine ⟨.pointer (some ⟨g, off + i.toNat * s, none⟩), ?_, .ptr _ id _ c rfl e3 (fun u' n hu' => ?_), rfl, rfl⟩
     ·simp [Instr.indexAt, asIntOf, run_underlying hu, Sem.run_bind, run_szOf hs, h2, h3, add_none, Instr.sureAddr]
     ·have hu' : ob id = some (u', n) := hu'
      rw [e1] at hu'
      simp only [Option.some.injEq, Prod.mk.injEq] at hu'
      obtain ⟨rfl, rfl⟩ := hu'
      exact ⟨Nat.le_refl _, fun _ => ⟨g, e2, rfl⟩⟩
    ·cases he
   ·rename_i s p cs q k i hs
    obtain rfl := hy.int
    simp only [Option.some.injEq, Prod.mk.injEq, Bool.and_eq_true, decide_eq_true_eq] at he
    obtain ⟨⟨⟨h1, h2⟩, h3⟩, rfl⟩ := he
    obtain ⟨b, o, vs, rfl, hcc, hrr⟩ := hv.unpt
    refine ⟨.pointer (some ⟨b, o + i.toNat * s, none⟩), ?_, .pt p b _ _ (fun j => vs (i.toNat * s + j)) (fun j c hj => ?_) (fun j c hj => ?_), rfl, rfl⟩
    ·simp [Instr.indexAt, asIntOf, run_underlying hu, Sem.run_bind, run_szOf hs, h1, h2, add_none, Instr.sureAddr]
    ·rw [List.getElem?_drop] at hj
     have := hcc _ c hj
     rw [Nat.add_assoc]; exact this
    ·rw [List.getElem?_drop] at hj
     exact hrr _ c hj
   ·cases he
  ·cases he
theorem ok_index {t : TypeId} {v y : Value} {x ix : AV} {eff : Eff} {c : Bool} (he : aIndex P t x ix = some (c, eff)) (hc : c = true) {E : Ev} (hv : VR E v x) (hy : VR E y ix) :
  ∃ z, (Instr.index t v y).run P w = .ok z w ∧ VR E z eff.val ∧ eff.new = none ∧ eff.del = [] := by
 subst hc
 unfold aIndex at he
 split at he
 ·rename_i p s q k i hs
  obtain rfl := hy.int
  obtain rfl := hv.str
  simp only [Option.some.injEq, Prod.mk.injEq, Bool.and_eq_true, decide_eq_true_eq] at he
  obtain ⟨⟨h1, h2⟩, rfl⟩ := he
  have hu : P.underlying t = some .string := by
   unfold strB at hs
   split at hs
   ·assumption
   ·cases hs
  have hlt : i.toNat < s.size := by omega
  refine ⟨.int .u8 (byteAt s i.toNat), ?_, .mkInt _ _ _ _, rfl, rfl⟩
  simp [Instr.index, asIntOf, run_underlying hu, Sem.run_bind, h1, hlt, byteAt]
 ·rename_i d1 d2 d3 cs q k i
  obtain rfl := hy.int
  split at he
  ·rename_i n e har
   have hu : P.underlying t = some (.array n e) := by
    unfold arOf at har
    split at har
    ·rename_i n' e' h1; simp only [Option.some.injEq, Prod.mk.injEq] at har; rw [h1, har.1, har.2]
    ·cases har
   split at he
   ·rename_i hsz hag
    simp only [Option.some.injEq, Prod.mk.injEq, Bool.and_eq_true, decide_eq_true_eq] at he
    obtain ⟨⟨⟨h1, h2⟩, h3⟩, rfl⟩ := he
    cases hv with
    | agg vs cs hn hone hr =>
     have hlt : i.toNat < vs.size := by omega
     refine ⟨vs[i.toNat], ?_, ?_, rfl, rfl⟩
     ·simp [Instr.index, asIntOf, run_underlying hu, Sem.run_bind, h1, h2, part, run_aggB hag, run_szOf hsz, hlt]
     ·have hlt2 : i.toNat < cs.length := by omega
      have := hr i.toNat cs[i.toNat] (by simp)
      simpa [Array.getD, hlt, hlt2] using this
   ·cases he
  ·cases he
 ·cases he
theorem slice_bounds {isSlice : Bool} {len cap : Nat} {lo hi : Option Value} {l h : Option Int} {kl kh : IntKind} (hl : lo = l.map (.int kl)) (hh : hi = h.map (.int kh)) (h1 : 0 ≤ l.getD 0) (h2 : l.getD 0 ≤ h.getD len) (h3 : h.getD len ≤ cap) :
  (Instr.sliceBounds isSlice len cap lo hi none).run P w = .ok ((l.getD 0).toNat, (h.getD len).toNat, cap) w := by
 subst hl hh
 cases l with
 | none => cases h with
  | none => simp [Instr.sliceBounds]
  | some h =>
   simp only [Option.getD_some, Option.getD_none] at h1 h2 h3
   simp [Instr.sliceBounds, Instr.sliceBound, asIntOf, h2, h3]
 | some l => cases h with
  | none =>
   simp only [Option.getD_some, Option.getD_none] at h1 h2 h3
   simp [Instr.sliceBounds, Instr.sliceBound, asIntOf, h1, h2]
  | some h =>
   simp only [Option.getD_some] at h1 h2 h3
   have h4 : 0 ≤ h := by omega
   have h5 : l ≤ max h 0 := by omega
   simp [Instr.sliceBounds, Instr.sliceBound, asIntOf, h1, h4, h3, h5]
theorem oint_val {E : Ev} {a : Option AV} {v : Option Value} {l : Option Int} (h : oint a = some l) (hv : ∀ y, v = some y → ∃ x, a = some x ∧ VR E y x) (hn : v = none → a = none) : ∃ k, v = l.map (.int k) := by
 unfold oint at h
 split at h
 ·injection h with h
  subst h
  cases v with
  | none => exact ⟨.i64, rfl⟩
  | some y => obtain ⟨x, hx, -⟩ := hv y rfl; cases hx
 ·rename_i p k i
  injection h with h
  subst h
  cases v with
  | none => exact absurd (hn rfl) (by simp)
  | some y =>
   obtain ⟨x, hx, hy⟩ := hv y rfl
   injection hx with hx
   subst hx
   exact ⟨k, by rw [hy.int]; rfl⟩
 ·cases h
theorem ok_slice {t : TypeId} {v : Value} {x : AV} {lo hi : Option Value} {alo ahi : Option AV} {eff : Eff} {c : Bool} (he : aSlice P t x alo ahi = some (c, eff)) (hc : c = true) {E : Ev} (hv : VR E v x)
  (hlo : ∀ y, lo = some y → ∃ x, alo = some x ∧ VR E y x) (hlo0 : lo = none → alo = none) (hhi : ∀ y, hi = some y → ∃ x, ahi = some x ∧ VR E y x) (hhi0 : hi = none → ahi = none) :
  ∃ z, (Instr.sliceAt t v lo hi none).run P w = .ok z w ∧ VR E z eff.val ∧ eff.new = none ∧ eff.del = [] := by
 subst hc
 unfold aSlice at he
 split at he
 ·rename_i p s l h hs hl hh
  obtain rfl := hv.str
  obtain ⟨kl, e1⟩ := oint_val hl hlo hlo0
  obtain ⟨kh, e2⟩ := oint_val hh hhi hhi0
  simp only [Option.some.injEq, Prod.mk.injEq, Bool.and_eq_true, decide_eq_true_eq] at he
  obtain ⟨⟨⟨h1, h2⟩, h3⟩, rfl⟩ := he
  have hu : P.underlying t = some .string := by
   unfold strB at hs
   split at hs
   ·assumption
   ·cases hs
  refine ⟨_, ?_, .mkStr _ _ _, rfl, rfl⟩
  simp [Instr.sliceAt, Instr.slice, run_underlying hu, Sem.run_bind, slice_bounds e1 e2 h1 h2 h3]
 ·rename_i p z cs l h hs hl hh
  obtain ⟨kl, e1⟩ := oint_val hl hlo hlo0
  obtain ⟨kh, e2⟩ := oint_val hh hhi hhi0
  split at he
  ·rename_i e hel
   have hu := und_el hel
   split at he
   ·rename_i s hsz
    simp only [Option.some.injEq, Prod.mk.injEq, Bool.and_eq_true, decide_eq_true_eq] at he
    obtain ⟨⟨⟨⟨⟨h0, hz0⟩, h1⟩, h2⟩, h3⟩, rfl⟩ := he
    subst h0
    have hrep := hv.rep
    cases hrep with
    | nil z =>
     simp only [List.length_nil, Nat.zero_div] at h2 h3
     have hb := slice_bounds (P := P) (w := w) (isSlice := true) (len := 0) (cap := 0) e1 e2 h1 h2 h3
     have hl0 : (l.getD 0).toNat = 0 := by omega
     have hh0 : (h.getD ((0 : Nat) : Int)).toNat = 0 := by omega
     rw [hl0, hh0] at hb
     refine ⟨.slice none 0 0, ?_, ?_, rfl, rfl⟩
     ·simp [Instr.sliceAt, Instr.slice, run_underlying hu, Sem.run_bind, hb, run_szOf hsz]
     ·simp [cut]
      exact .t _ p _ (.nil z)
    | emp ad z hz =>
     simp only [List.length_nil, Nat.zero_div] at h2 h3
     have hb := slice_bounds (P := P) (w := w) (isSlice := true) (len := 0) (cap := 0) e1 e2 h1 h2 h3
     have hl0 : (l.getD 0).toNat = 0 := by omega
     have hh0 : (h.getD ((0 : Nat) : Int)).toNat = 0 := by omega
     rw [hl0, hh0] at hb
     refine ⟨.slice (some ad) 0 0, ?_, ?_, rfl, rfl⟩
     ·simp [Instr.sliceAt, Instr.slice, run_underlying hu, Sem.run_bind, hb, run_szOf hsz]
     ·simp [cut]
      exact .t _ p _ (.emp ad z hz)
    | sl b o n cap z cs vs hz hn h4 h5 hcc hrr =>
     have hdiv : cs.length / z = n := by rw [hn]; exact Nat.mul_div_cancel n hz
     rw [hdiv] at h2 h3
     have hb := slice_bounds (P := P) (w := w) (isSlice := true) (len := n) (cap := cap) e1 e2 h1 h2 (by omega)
     obtain ⟨a, ha⟩ : ∃ a, a = (l.getD 0).toNat := ⟨_, rfl⟩
     obtain ⟨d, hd⟩ : ∃ d, d = (h.getD ((n : Nat) : Int)).toNat := ⟨_, rfl⟩
     have had : a ≤ d := by omega
     have hdn : d ≤ n := by omega
     rw [hdiv]
     rw [← ha, ← hd] at hb ⊢
     have hlen : (cut cs (a * z) ((d - a) * z)).length = (d - a) * z := cut_len (by
      rw [hn, ← Nat.add_mul]
      exact Nat.mul_le_mul_right z (by omega))
     by_cases hca : cap = a
     ·refine ⟨.slice (some ⟨b, o, none⟩) (d - a) (cap - a), ?_, .t _ p _ (.sl b o (d - a) (cap - a) z _ (fun _ => undef) hz hlen (by omega) (by omega) (fun i c hi => ?_) (fun i c hi => ?_)), rfl, rfl⟩
      ·rw [hca] at hb ⊢
       simp [Instr.sliceAt, Instr.slice, run_underlying hu, Sem.run_bind, hb, run_szOf hsz]
      ·have := (cut_get hi).2
       have : d - a = 0 := by omega
       simp [this] at *
      ·have := (cut_get hi).2
       have : d - a = 0 := by omega
       simp [this] at *
     ·refine ⟨.slice (some ⟨b, o + a * z, none⟩) (d - a) (cap - a), ?_, .t _ p _ (.sl b _ (d - a) (cap - a) z _ (fun i => vs (a * z + i)) hz hlen (by omega) (by omega) (fun i c hi => ?_) (fun i c hi => ?_)), rfl, rfl⟩
      ·simp [Instr.sliceAt, Instr.slice, run_underlying hu, Sem.run_bind, hb, run_szOf hsz, hca, add_none]
      ·rw [Nat.add_assoc]; exact hcc _ c (cut_get hi).1
      ·exact hrr _ c (cut_get hi).1
   ·cases he
  ·cases he
 ·cases he
theorem ok_len {t : TypeId} {v : Value} {x : AV} {eff : Eff} {c : Bool} (he : aLen P t x H = some (c, eff)) (hc : c = true) (h : MR w0 V S0 U H ob w) (hv : VR (evOf w0.heap.size V ob U w) v x) (ty : TypeId) :
  ∃ y, (Builtin.len_ #[t] ty #[v]).run P w = .ok y w ∧ VR (evOf w0.heap.size V ob U w) y eff.val ∧ eff.new = none ∧ eff.del = [] := by
 subst hc
 unfold aLen at he
 split at he
 ·rename_i p s
  obtain rfl := hv.str
  split at he
  ·rename_i hs
   have hu : P.underlying t = some .string := by
    unfold strB at hs
    split at hs
    ·assumption
    ·cases hs
   simp only [Option.some.injEq, Prod.mk.injEq, true_and] at he
   subst he
   exact ⟨_, by simp [Builtin.len_, run_underlying hu, Sem.run_bind, goInt], .mkInt _ _ _ _, rfl, rfl⟩
  ·cases he
 ·rename_i p z cs
  split at he
  ·rename_i e hel
   have hu := und_el hel
   simp only [Option.some.injEq, Prod.mk.injEq, true_and] at he
   subst he
   have hrep := hv.rep
   cases hrep with
   | nil z => exact ⟨_, by simp [Builtin.len_, run_underlying hu, Sem.run_bind, goInt]; rfl, by simpa using VR.mkInt _ 2 .i64 0, rfl, rfl⟩
   | emp a z hz => exact ⟨_, by simp [Builtin.len_, run_underlying hu, Sem.run_bind, goInt]; rfl, by simpa using VR.mkInt _ 2 .i64 0, rfl, rfl⟩
   | sl b o n cap z cs vs hz hn h4 h5 hcc hrr =>
    have hdiv : cs.length / z = n := by rw [hn]; exact Nat.mul_div_cancel n hz
    rw [hdiv]
    exact ⟨_, by simp [Builtin.len_, run_underlying hu, Sem.run_bind, goInt], .mkInt _ _ _ _, rfl, rfl⟩
  ·cases he
 ·rename_i id off l c
  split at he
  ·rename_i e e' z p cs hel hH
   have hu := und_el hel
   simp only [Option.some.injEq, Prod.mk.injEq, decide_eq_true_eq] at he
   obtain ⟨h1, rfl⟩ := he
   obtain ⟨-, u, e3, hor⟩ := h.obj id _ hH
   have e3 : ob id = some (u, c) := by rw [e3]; simp [AObj.cnt, h1]
   cases hv with
   | sub v id off l c g1 hU hh =>
    obtain ⟨cap, g2, g3, g4⟩ := (hh u c e3).2 rfl
    rcases g4 with ⟨rfl, rfl⟩ | ⟨b, o, g4, rfl, g5⟩
    ·exact ⟨_, by simp [Builtin.len_, run_underlying hu, Sem.run_bind, goInt], .mkInt _ _ _ _, rfl, rfl⟩
    ·exact ⟨_, by simp [Builtin.len_, run_underlying hu, Sem.run_bind, goInt], .mkInt _ _ _ _, rfl, rfl⟩
  ·cases he
 ·rename_i id c
  split at he
  ·rename_i e e' z p cs hel hH
   have hu := und_el hel
   simp only [Option.some.injEq, Prod.mk.injEq, decide_eq_true_eq] at he
   obtain ⟨h1, rfl⟩ := he
   obtain ⟨e1, e2⟩ := h.own hv hH h1
   obtain ⟨-, u, e3, hz, hl, m, vs, how, hlen, hr⟩ := h.obj id _ hH
   rw [e1] at e3
   simp only [Option.some.injEq, Prod.mk.injEq] at e3
   obtain ⟨rfl, -⟩ := e3
   have hdiv : cs.length / z = m := by rw [← hlen, how.1]; exact Nat.mul_div_cancel m hz
   rw [hdiv]
   rcases how.2 with ⟨rfl, rfl⟩ | ⟨g, cap, cur, rfl, -, hg, hnc, hcm, hcs, htake⟩
   ·exact ⟨_, by simp [Builtin.len_, run_underlying hu, Sem.run_bind, goInt], .mkInt _ _ _ _, rfl, rfl⟩
   ·exact ⟨_, by simp [Builtin.len_, run_underlying hu, Sem.run_bind, goInt], .mkInt _ _ _ _, rfl, rfl⟩
  ·rename_i e e' z pv cs hel hH
   have hu := und_el hel
   simp only [Option.some.injEq, Prod.mk.injEq, decide_eq_true_eq] at he
   obtain ⟨h1, rfl⟩ := he
   obtain ⟨e1, e2⟩ := h.own hv hH h1
   obtain ⟨-, u, e3, hz, -, m, vs, how, hlen, hone, hr⟩ := h.obj id _ hH
   rw [e1] at e3
   simp only [Option.some.injEq, Prod.mk.injEq] at e3
   obtain ⟨rfl, -⟩ := e3
   have hdiv : cs.length / z = m := by rw [← hlen, how.1]; exact Nat.mul_div_cancel m hz
   rw [hdiv]
   rcases how.2 with ⟨rfl, rfl⟩ | ⟨g, cap, cur, rfl, -, hg, hnc, hcm, hcs, htake⟩
   ·exact ⟨_, by simp [Builtin.len_, run_underlying hu, Sem.run_bind, goInt], .mkInt _ _ _ _, rfl, rfl⟩
   ·exact ⟨_, by simp [Builtin.len_, run_underlying hu, Sem.run_bind, goInt], .mkInt _ _ _ _, rfl, rfl⟩
  ·rename_i K Y es hel hH
   split at he
   ·rename_i hmp
    obtain ⟨K1, Y1, hu⟩ : ∃ K Y, P.underlying t = some (.map K Y) := by
     unfold mpB at hmp
     split at hmp
     ·rename_i K Y h1; exact ⟨K, Y, h1⟩
     ·cases hmp
    simp only [Option.some.injEq, Prod.mk.injEq, decide_eq_true_eq] at he
    obtain ⟨h1, rfl⟩ := he
    obtain ⟨e1, e2⟩ := h.own hv hH (by simpa [AObj.cnt] using h1.symm)
    obtain ⟨-, u, e3, r, clock, xs, rfl, hg, hsz, hrr⟩ := h.obj id _ hH
    rw [e1] at e3
    simp only [Option.some.injEq, Prod.mk.injEq] at e3
    obtain ⟨rfl, -⟩ := e3
    rw [← hsz]
    exact ⟨_, by simp [Builtin.len_, run_underlying hu, Sem.run_bind, goInt, getObj, Sem.run, hg], .mkInt _ _ _ _, rfl, rfl⟩
   ·cases he
  ·cases he
 ·cases he
def aSliceO (P : Program) (i : Nat) (t : TypeId) (x : AV) (lo hi : Option AV) (H : Nat → Option AObj) : Option (Bool × Eff) := match x with
 | .own id c => match elOf P t, H id, lo, hi with
  | some e, some (.row e' z p cs), none, some (.t _ (.int _ h)) => match szOf P e with
   | some s => some (decide (cs.length = c) && decide (z = s) && decide (0 ≤ h) && decide (h.toNat * z ≤ cs.length), { val := .own i (cs.take (h.toNat * z)).length, new := some (i, .row e' z p (cs.take (h.toNat * z))), del := [id], tch := [i, id] })
   | none => none
  | some e, some (.row e' z p cs), some (.t _ (.int _ l)), none => match szOf P e with
   | some s => some (decide (cs.length = c) && decide (z = s) && decide (0 ≤ l) && decide (l.toNat * z ≤ cs.length), { val := .sub id (l.toNat * z) (cs.length / z - l.toNat) c, tch := [id] })
   | none => none
  | _, _, _, _ => none
 | x => aSlice P t x lo hi
theorem ok_sliceO {t : TypeId} {v : Value} {x : AV} {lo hi : Option Value} {alo ahi : Option AV} {eff : Eff} {c : Bool} (he : aSliceO P i t x alo ahi H = some (c, eff)) (hc : c = true) (h : MR w0 V S0 U H ob w) (hi0 : ¬ U i) (hv : VR (evOf w0.heap.size V ob U w) v x)
  (hlo : ∀ y, lo = some y → ∃ x, alo = some x ∧ VR (evOf w0.heap.size V ob U w) y x) (hlon : lo = none → alo = none) (hhi : ∀ y, hi = some y → ∃ x, ahi = some x ∧ VR (evOf w0.heap.size V ob U w) y x) (hhin : hi = none → ahi = none) :
  Good w0 V S0 U ob w i (eff.heap H) eff.val ((Instr.sliceAt t v lo hi none >>= fun v => pure (.value v) : Sem Next).run P w) := by
 subst hc
 unfold aSliceO at he
 split at he
 ·rename_i id c
  split at he
  ·rename_i e e' z p cs q k h' hel hH
   have hu := und_el hel
   split at he
   ·rename_i s hs
    simp only [Option.some.injEq, Prod.mk.injEq, Bool.and_eq_true, decide_eq_true_eq] at he
    obtain ⟨⟨⟨⟨h1, h2⟩, h3⟩, h4⟩, rfl⟩ := he
    subst h2
    obtain ⟨e1, e2⟩ := h.own hv hH h1
    obtain ⟨-, u, e3, hz, hl, m, vs, how, hlen, hr⟩ := h.obj id _ hH
    rw [e1] at e3
    simp only [Option.some.injEq, Prod.mk.injEq] at e3
    obtain ⟨rfl, -⟩ := e3
    obtain ⟨a, ha⟩ : ∃ a, a = h'.toNat := ⟨_, rfl⟩
    rw [← ha] at h4 ⊢
    have ham : a ≤ m := by
     have h5 := how.1
     have : a * z ≤ m * z := by omega
     exact Nat.le_of_mul_le_mul_right this hz
    have hlon2 : lo = none := by
     cases lo with
     | none => rfl
     | some y => obtain ⟨x, hx, -⟩ := hlo y rfl; cases hx
    obtain ⟨kk, rfl⟩ : ∃ kk, hi = some (.int kk h') := by
     cases hi with
     | none => have := hhin rfl; cases this
     | some y =>
      obtain ⟨x, hx, hy⟩ := hhi y rfl
      injection hx with hx
      subst hx
      exact ⟨_, by rw [hy.int]⟩
    subst hlon2
    -- the value and its row
    obtain ⟨v', hrun, hown, hblk⟩ : ∃ v' : Value, (Instr.sliceAt t v none (some (.int kk h')) none).run P w = .ok v' w ∧ w.ownsRow 0 e' z v' a (vs.take (a * z)) ∧ (∀ k, blk v' = some k → blk v = some k) := by
     rcases how.2 with ⟨rfl, hvs⟩ | ⟨g, cap, cur, rfl, h0, hg, hnc, hcm, hcs, htake⟩
     ·have hm0 : m = 0 := by
       have h5 := how.1
       rw [hvs] at h5
       simp at h5
       rcases h5 with h5 | h5 <;> omega
      have ha0 : a = 0 := by omega
      have hb := slice_bounds (P := P) (w := w) (isSlice := true) (len := 0) (cap := 0) (lo := none) (hi := some (.int kk h')) (l := none) (h := some h') (kl := .i64) (kh := kk) rfl rfl (by simp) (by simpa using h3) (by simp; omega)
      refine ⟨.slice none 0 0, ?_, ?_, fun k hk => hk⟩
      ·simp only [Option.getD_none, Option.getD_some] at hb
       have hh0 : h'.toNat = 0 := by omega
       rw [hh0] at hb
       simp [Instr.sliceAt, Instr.slice, run_underlying hu, Sem.run_bind, hb, run_szOf hs]
      ·rw [ha0]; simpa using World.ownsRow_nil w 0 e' z
     ·have hb := slice_bounds (P := P) (w := w) (isSlice := true) (len := m) (cap := cap) (lo := none) (hi := some (.int kk h')) (l := none) (h := some h') (kl := .i64) (kh := kk) rfl rfl (by simp) (by simpa using h3) (by simp; omega)
      simp only [Option.getD_none, Option.getD_some, ← ha] at hb
      refine ⟨.slice (some ⟨g, 0, none⟩) a cap, ?_, ⟨?_, .inr ⟨g, cap, cur, rfl, h0, hg, by omega, hcm, hcs, ?_⟩⟩, fun k hk => hk⟩
      ·by_cases hcap : cap = 0
       ·subst hcap
        simp [Instr.sliceAt, Instr.slice, run_underlying hu, Sem.run_bind, hb, run_szOf hs]
       ·simp [Instr.sliceAt, Instr.slice, run_underlying hu, Sem.run_bind, hb, run_szOf hs, hcap, add_none]
      ·have h5 := how.1
       have h6 : a * z ≤ m * z := Nat.mul_le_mul_right z ham
       simp; omega
      ·have h6 : a * z ≤ m * z := Nat.mul_le_mul_right z ham
       rw [← htake, List.take_take]
       congr 1
       omega
    simp only [Sem.run_bind, hrun, Result.andThen_ok, Sem.run_pure]
    obtain ⟨nm, hnm⟩ : ∃ nm, nm = (AObj.row e' z p (cs.take (a * z))).cnt := ⟨_, rfl⟩
    obtain ⟨ob', hob'⟩ : ∃ ob', ob' = upd (upd ob id none) i (some (v', nm)) := ⟨_, rfl⟩
    have hid : id ≠ i := fun e => hi0 (e ▸ e2)
    have hfi : ob i = none := by
     cases ho : ob i with
     | none => rfl
     | some pr =>
      obtain ⟨o, g1, -⟩ := h.live i pr.1 pr.2 (by rw [ho])
      exact absurd (h.obj i o g1).1 hi0
    have obs : ∀ k u n, ob' k = some (u, n) → (k = i ∧ u = v' ∧ n = nm) ∨ (k ≠ i ∧ k ≠ id ∧ ob k = some (u, n)) := fun k u n e => by
     rw [hob'] at e
     by_cases ki : k = i
     ·subst ki
      rw [upd_same] at e
      simp only [Option.some.injEq, Prod.mk.injEq] at e
      exact .inl ⟨rfl, e.1.symm, e.2.symm⟩
     ·rw [upd_ne _ _ ki] at e
      by_cases kd : k = id
      ·subst kd; rw [upd_same] at e; cases e
      ·rw [upd_ne _ _ kd] at e; exact .inr ⟨ki, kd, e⟩
    have hOB : ∀ b, OB ob' b → OB ob b := by
     rintro b ⟨k, u, n, g1, g2⟩
     rcases obs k u n g1 with ⟨rfl, rfl, rfl⟩ | ⟨-, -, g3⟩
     ·exact ⟨id, _, _, e1, hblk b g2⟩
     ·exact ⟨k, u, n, g3, g2⟩
    have hx : Ext (evOf w0.heap.size V ob U w) (evOf w0.heap.size V ob' (fun k => U k ∨ k = i) w) := ⟨fun p b o u hu' => by
      obtain ⟨g1, g2, g3⟩ := memL_some.1 hu'
      exact memL_some.2 ⟨fun hb => g1 (hOB b hb), g2, g3⟩, rfl, fun k hk => .inl hk, fun k u' n' hU e => by
      have e : ob' k = some (u', n') := e
      rcases obs k u' n' e with ⟨rfl, -, -⟩ | ⟨-, -, g3⟩
      ·exact absurd hU hi0
      ·exact ⟨u', n', g3, Nat.le_refl _, fun _ => rfl⟩⟩
    have hi_ob : ob' i = some (v', nm) := by rw [hob']; exact upd_same _ _ _
    refine ⟨_, v', w, ob', rfl, .inl rfl, ⟨fun k u n e => ?_, fun k o ho => ?_, fun k k' u u' n n' b hne g1 g2 hb hb' => ?_, fun k u n b g1 hb hlt => ?_, h.only, h.gl⟩, hx, ?_⟩
    ·rcases obs k u n e with ⟨rfl, -, rfl⟩ | ⟨g1, g2, g3⟩
     ·exact ⟨_, upd_same _ _ _, hnm⟩
     ·obtain ⟨o, g4, g5⟩ := h.live k u n g3
      exact ⟨o, by show upd (upd H id none) i _ k = _; rw [upd_ne _ _ g1, upd_ne _ _ g2]; exact g4, g5⟩
    ·have ho : upd (upd H id none) i (some (AObj.row e' z p (cs.take (a * z)))) k = some o := ho
     by_cases ki : k = i
     ·subst ki
      rw [upd_same] at ho
      injection ho with ho
      subst ho
      refine ⟨.inr rfl, v', by rw [hi_ob, hnm], hz, fun b hb => hl b (hblk b hb), a, vs.take (a * z), hown, by simp [hlen], fun j c' x' hj hx' => ?_⟩
      rw [List.getElem?_take] at hj hx'
      split at hj
      ·rename_i hja
       rw [if_pos hja] at hx'
       exact (hr j c' x' hj hx').mono (hx.mem p)
      ·cases hj
     ·rw [upd_ne _ _ ki] at ho
      by_cases kd : k = id
      ·subst kd; rw [upd_same] at ho; cases ho
      ·rw [upd_ne _ _ kd] at ho
       obtain ⟨g1, u, g2, g3⟩ := h.obj k o ho
       refine ⟨.inl g1, u, by rw [hob', upd_ne _ _ ki, upd_ne _ _ kd]; exact g2, g3.ext hx (fun _ _ => rfl)⟩
    ·rcases obs k u n g1 with ⟨rfl, rfl, rfl⟩ | ⟨a1, a2, a3⟩ <;> rcases obs k' u' n' g2 with ⟨rfl, rfl, rfl⟩ | ⟨b1, b2, b3⟩
     ·exact absurd rfl hne
     ·exact h.sep id k' _ u' _ n' b (Ne.symm b2) e1 b3 (hblk b hb) hb'
     ·exact h.sep k id u _ n _ b a2 a3 e1 hb (hblk b hb')
     ·exact h.sep k k' u u' n n' b hne a3 b3 hb hb'
    ·rcases obs k u n g1 with ⟨rfl, rfl, rfl⟩ | ⟨-, -, g3⟩
     ·exact h.new id _ _ b e1 (hblk b hb) hlt
     ·exact h.new k u n b g3 hb hlt
    ·refine .own v' i _ ?_ (.inr rfl) (fun u n hu' => ?_)
     ·rcases hown.2 with ⟨rfl, -⟩ | ⟨g, cap, cur, rfl, -⟩ <;> rfl
     ·have hu' : ob' i = some (u, n) := hu'
      rw [hi_ob] at hu'
      simp only [Option.some.injEq, Prod.mk.injEq] at hu'
      obtain ⟨rfl, rfl⟩ := hu'
      exact ⟨by rw [hnm]; exact Nat.le_refl _, fun _ => rfl⟩
   ·cases he
  ·rename_i e e' z p cs q k l hel hH
   have hu := und_el hel
   split at he
   ·rename_i s hs
    simp only [Option.some.injEq, Prod.mk.injEq, Bool.and_eq_true, decide_eq_true_eq] at he
    obtain ⟨⟨⟨⟨h1, h2⟩, h3⟩, h4⟩, rfl⟩ := he
    subst h2
    obtain ⟨e1, e2⟩ := h.own hv hH h1
    obtain ⟨-, u, e3, hz, hl, m, vs, how, hlen, hr⟩ := h.obj id _ hH
    rw [e1] at e3
    simp only [Option.some.injEq, Prod.mk.injEq] at e3
    obtain ⟨rfl, -⟩ := e3
    obtain ⟨a, ha⟩ : ∃ a, a = l.toNat := ⟨_, rfl⟩
    rw [← ha] at h4 ⊢
    have hm : cs.length / z = m := by
     have h5 : vs.length = m * z := how.1
     rw [← hlen, h5, Nat.mul_div_cancel _ hz]
    have ham : a ≤ m := by
     rw [← hm]
     exact (Nat.le_div_iff_mul_le hz).2 h4
    have hhin2 : hi = none := by
     cases hi with
     | none => rfl
     | some y => obtain ⟨x, hx, -⟩ := hhi y rfl; cases hx
    obtain ⟨kk, rfl⟩ : ∃ kk, lo = some (.int kk l) := by
     cases lo with
     | none => have := hlon rfl; cases this
     | some y =>
      obtain ⟨x, hx, hy⟩ := hlo y rfl
      injection hx with hx
      subst hx
      exact ⟨_, by rw [hy.int]⟩
    subst hhin2
    have sub : ∀ (v' : Value), v'.oneCell' = true → (∃ cap, m - a ≤ cap ∧ cap ≤ 9223372036854775807 ∧ ((v' = .slice none 0 0 ∧ m - a = 0) ∨ ∃ b o, blk v = some b ∧ v' = .slice (some ⟨b, o, none⟩) (m - a) cap ∧ (m - a = 0 ∨ o = a * z))) → (Instr.sliceAt t v (some (.int kk l)) none none).run P w = .ok v' w → Good w0 V S0 U ob w i H (.sub id (a * z) (cs.length / z - a) c) ((Instr.sliceAt t v (some (.int kk l)) none none >>= fun v => pure (.value v) : Sem Next).run P w) := fun v' g1 g2 hrun => by
     simp only [Sem.run_bind, hrun, Result.andThen_ok, Sem.run_pure]
     refine Good.pure h (.sub v' id (a * z) _ c g1 e2 (fun u n hu' => ?_))
     have hu' : ob id = some (u, n) := hu'
     rw [e1] at hu'
     simp only [Option.some.injEq, Prod.mk.injEq] at hu'
     obtain ⟨rfl, rfl⟩ := hu'
     exact ⟨Nat.le_refl _, fun _ => by rw [hm]; exact g2⟩
    rcases how.2 with ⟨rfl, hvs⟩ | ⟨g, cap, cur, rfl, h0, hg, hnc, hcm, hcs, htake⟩
    ·have hm0 : m = 0 := by
      have h5 := how.1
      rw [hvs] at h5
      simp at h5
      rcases h5 with h5 | h5 <;> omega
     have ha0 : a = 0 := by omega
     have hb := slice_bounds (P := P) (w := w) (isSlice := true) (len := 0) (cap := 0) (lo := some (.int kk l)) (hi := none) (l := some l) (h := none) (kl := kk) (kh := .i64) rfl rfl (by simpa using h3) (by simp; omega) (by simp)
     refine sub (.slice none 0 0) rfl ⟨0, by omega, by omega, .inl ⟨rfl, by omega⟩⟩ ?_
     simp only [Option.getD_none, Option.getD_some, ← ha, ha0] at hb
     simp [Instr.sliceAt, Instr.slice, run_underlying hu, Sem.run_bind, hb, run_szOf hs]
    ·have hb := slice_bounds (P := P) (w := w) (isSlice := true) (len := m) (cap := cap) (lo := some (.int kk l)) (hi := none) (l := some l) (h := none) (kl := kk) (kh := .i64) rfl rfl (by simpa using h3) (by simp; omega) (by simpa using hnc)
     simp only [Option.getD_none, Option.getD_some, ← ha] at hb
     have hmt : ((m : Nat) : Int).toNat = m := by omega
     rw [hmt] at hb
     have hcm2 : cap ≤ 9223372036854775807 := by simpa [maxLen] using hcm
     by_cases hca : cap = a
     ·refine sub (.slice (some ⟨g, 0, none⟩) (m - a) (cap - a)) rfl ⟨cap - a, by omega, by omega, .inr ⟨g, 0, rfl, rfl, .inl (by omega)⟩⟩ ?_
      rw [hca] at hb ⊢
      simp [Instr.sliceAt, Instr.slice, run_underlying hu, Sem.run_bind, hb, run_szOf hs]
     ·refine sub (.slice (some ⟨g, a * z, none⟩) (m - a) (cap - a)) rfl ⟨cap - a, by omega, by omega, .inr ⟨g, a * z, rfl, rfl, .inr rfl⟩⟩ ?_
      simp [Instr.sliceAt, Instr.slice, run_underlying hu, Sem.run_bind, hb, run_szOf hs, hca, add_none]
   ·cases he
  ·cases he
 ·obtain ⟨y, g1, g2, g3, g4⟩ := ok_slice (w := w) he rfl hv hlo hlon hhi hhin
  simp only [Sem.run_bind, g1, Result.andThen_ok, Sem.run_pure]
  have : eff.heap H = H := by unfold Eff.heap; rw [g3, g4]; rfl
  rw [this]
  exact Good.pure h g2
end
end Go.Proofs.YtnffigeofdagfaaDoor.M
