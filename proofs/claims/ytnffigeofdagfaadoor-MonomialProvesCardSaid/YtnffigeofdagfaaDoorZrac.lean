/-
  My own logic, part 6: operations that make or turn memory: variables, aggregates, slices, stores.
  My own logic, part 7: stores, slices that are built, made and appended to.
  My own logic, part 8: slices that are built, made and appended to.
  My own logic, part 9: make and append.
-/
import Derived.Test.YtnffigeofdagfaaDoorZrab
import Derived.Great.BuildSlice
namespace Go.Proofs.YtnffigeofdagfaaDoor.M
open Go.RowKit
set_option linter.unusedVariables false

def AV.leaf : AV → Bool
 | .t _ _ | .own _ _ | .ptr _ _ _ | .sub _ _ _ _ | .pt _ _ | .fn _ _ => true
 | _ => false
theorem VR.leafOne {E : Ev} {v : Value} {a : AV} (h : VR E v a) (ha : a.leaf = true) : v.oneCell' = true := by
 cases h with
 | t v p x h => exact h.one
 | own v id c h1 => exact h1
 | ptr v id off c h1 => exact h1
 | sub v id off l c h1 => exact h1
 | pt => rfl
 | fn => rfl
 | _ => simp [AV.leaf] at ha
theorem one_cells {v : Value} (h : v.oneCell' = true) : v.cells = #[v] := by cases v <;> first | rfl | simp [Value.oneCell'] at h
def avCells (a : AV) : Option (List AV) := match a with
 | .agg cs => some cs
 | a => if a.leaf then some [a] else none
theorem VR.cells {E : Ev} {v : Value} {a : AV} {cs : List AV} (h : VR E v a) (hc : avCells a = some cs) : v.cells.size = cs.length ∧ (∀ x, x ∈ v.cells → x.oneCell' = true) ∧ ∀ (j : Nat) c, cs[j]? = some c → VR E (v.cells.getD j undef) c := by
 unfold avCells at hc
 split at hc
 ·rename_i cs'
  injection hc with hc
  subst hc
  cases h with
  | agg vs cs hn h1 hr => exact ⟨hn, h1, hr⟩
 ·rename_i hna
  split at hc
  ·rename_i hl
   injection hc with hc
   subst hc
   have h1 := h.leafOne hl
   rw [one_cells h1]
   refine ⟨rfl, fun x hx => ?_, fun j c hj => ?_⟩
   ·simp at hx; rw [hx]; exact h1
   ·cases j with
    | zero => simp at hj; subst hj; exact h
    | succ j => simp at hj
  ·cases hc
theorem VR.aggOf {E : Ev} {vs : Array Value} {cs : List AV} (hn : vs.size = cs.length) (h1 : ∀ x, x ∈ vs → x.oneCell' = true) (hr : ∀ (j : Nat) c, cs[j]? = some c → VR E (vs.getD j undef) c) : VR E (.agg vs) (.agg cs) := .agg vs cs hn h1 hr

section
variable {w0 w : World} {V S0 U : Nat → Prop} {H : Nat → Option AObj} {ob : Nat → Option (Value × Nat)} {i : Nat} {P : Program}
theorem MR.free (h : MR w0 V S0 U H ob w) (hi : ¬ U i) : ob i = none := by
 cases ho : ob i with
 | none => rfl
 | some p =>
  obtain ⟨o, h1, -⟩ := h.live i p.1 p.2 (by rw [ho])
  exact absurd (h.obj i o h1).1 hi
theorem Good.box (h : MR w0 V S0 U H ob w) (hi : ¬ U i) {ty : TypeId} {vs : Array Value} {cs : List AV} (hv : VR (evOf w0.heap.size V ob U w) (.agg vs) (.agg cs)) :
  Good w0 V S0 U ob w i (upd H i (some (.box ty cs))) (.ptr i 0 cs.length) (.ok (.value (.pointer (some ⟨w.heap.size, 0, none⟩))) (w.alloc (.cells vs ty))) := by
 have hf := h.free hi
 refine Good.step h (.inl rfl) i (.pointer (some ⟨w.heap.size, 0, none⟩)) (.box ty cs) (Onl.alloc _ _ _) (fun hU => absurd hU hi) (fun k hk => .inr ?_) (.inl rfl) (fun hx => ⟨w.heap.size, vs, rfl, heap_alloc_new w _, hv.ext hx⟩) (fun hx => .ptr _ i 0 _ rfl (.inr rfl) (fun u n hu => ?_))
 ·obtain rfl : w.heap.size = k := by simpa [blk] using hk
  exact Nat.le_refl _
 ·have hu : upd ob i (some (.pointer (some ⟨w.heap.size, 0, none⟩), (AObj.box ty cs).cnt)) i = some (u, n) := hu
  rw [upd_same] at hu
  simp only [Option.some.injEq, Prod.mk.injEq] at hu
  obtain ⟨rfl, rfl⟩ := hu
  exact ⟨Nat.le_refl _, fun _ => ⟨_, rfl, rfl⟩⟩
theorem Good.row (h : MR w0 V S0 U H ob w) (hi : ¬ U i) {e z p n cap : Nat} {vs : List Value} {cs : List T} {u : Value} {w' : World} (hz : 0 < z) (ho : Onl (fun _ => False) w w') (hown : w'.ownsRow 0 e z u n vs) (hlen : vs.length = cs.length) (hblk : ∀ k, blk u = some k → w.heap.size ≤ k) (hr : ∀ (j : Nat) c x, cs[j]? = some c → vs[j]? = some x → Rep ((evOf w0.heap.size V ob U w).mem p) x c) :
  Good w0 V S0 U ob w i (upd H i (some (.row e z p cs))) (.own i cs.length) (.ok (.value u) w') := by
 have hf := h.free hi
 have hs := h.only.size
 refine Good.step h (.inl rfl) i u (.row e z p cs) (ho.mono (fun _ _ h => h.elim)) (fun hU => absurd hU hi) (fun k hk => .inr (hblk k hk)) (.inl rfl) (fun hx => ⟨hz, fun k hk => .inl (by have := hblk k hk; omega), n, vs, hown, hlen, fun j c x hj hxx => (hr j c x hj hxx).mono (hx.mem p)⟩) (fun hx => .own _ i _ ?_ (.inr rfl) (fun u' n' hu => ?_))
 ·rcases hown.2 with ⟨rfl, -⟩ | ⟨g, cap, cur, rfl, -⟩ <;> rfl
 ·have hu : upd ob i (some (u, (AObj.row e z p cs).cnt)) i = some (u', n') := hu
  rw [upd_same] at hu
  simp only [Option.some.injEq, Prod.mk.injEq] at hu
  obtain ⟨rfl, rfl⟩ := hu
  exact ⟨Nat.le_refl _, fun _ => rfl⟩
theorem Good.vec (h : MR w0 V S0 U H ob w) (hi : ¬ U i) {e z p n : Nat} {vs : List Value} {cs : List AV} {u : Value} {w' : World} (ho : Onl (fun _ => False) w w') (hz : 0 < z) (hown : w'.ownsRow 0 e z u n vs) (hlen : vs.length = cs.length) (hblk : ∀ k, blk u = some k → w.heap.size ≤ k) (hone : ∀ v ∈ vs, v.oneCell' = true) (hr : ∀ (j : Nat) c x, cs[j]? = some c → vs[j]? = some x → VR (evOf w0.heap.size V ob U w) x c) :
  Good w0 V S0 U ob w i (upd H i (some (.vec e z p cs))) (.own i cs.length) (.ok (.value u) w') := by
 have hf := h.free hi
 have hs := h.only.size
 refine Good.step h (.inl rfl) i u (.vec e z p cs) (ho.mono (fun _ _ h => h.elim)) (fun hU => absurd hU hi) (fun k hk => .inr (hblk k hk)) (.inl rfl) (fun hx => ⟨hz, fun k hk => .inl (by have := hblk k hk; omega), n, vs, hown, hlen, hone, fun j c x hj hxx => (hr j c x hj hxx).ext hx⟩) (fun hx => .own _ i _ ?_ (.inr rfl) (fun u' n' hu => ?_))
 ·rcases hown.2 with ⟨rfl, -⟩ | ⟨g, cap, cur, rfl, -⟩ <;> rfl
 ·have hu : upd ob i (some (u, (AObj.vec e z p cs).cnt)) i = some (u', n') := hu
  rw [upd_same] at hu
  simp only [Option.some.injEq, Prod.mk.injEq] at hu
  obtain ⟨rfl, rfl⟩ := hu
  exact ⟨Nat.le_refl _, fun _ => rfl⟩
end

def aAlloc (P : Program) (i : Nat) (e : TypeId) : Option (Bool × Eff) := match zeroOf P e with
 | some zs => some (true, { val := .ptr i 0 (zs.map (AV.t 2)).length, new := some (i, .box e (zs.map (.t 2))), tch := [i] })
 | none => none
def aBox (i : Nat) (e : TypeId) (x : AV) : Option (Bool × Eff) := match avCells x with
 | some cs => some (true, { val := .ptr i 0 cs.length, new := some (i, .box e cs), tch := [i] })
 | none => none
theorem zero_parts {P : Program} {e : TypeId} {zs : List T} (h : zeroOf P e = some zs) : ∃ inf v, P.info? e = some inf ∧ inf.zero = some v ∧ vTs v.cells.toList = some zs := by
 unfold zeroOf at h
 cases hi : P.info? e with
 | none => rw [hi] at h; cases h
 | some inf =>
  rw [hi] at h
  cases hz : inf.zero with
  | none => simp [hz] at h
  | some v => simp [hz] at h; exact ⟨inf, v, rfl, hz, h⟩
theorem VR.zero {E : Ev} {v : Value} {zs : List T} (h : vTs v.cells.toList = some zs) : VR E (.agg v.cells) (.agg (zs.map (.t 2))) := by
 obtain ⟨h1, h2⟩ := vTs_get h
 have h3 : ∀ j c, zs[j]? = some c → ∃ x, v.cells[j]? = some x ∧ vT x = some c := fun j c hj => by
  obtain ⟨x, h4, h5⟩ := h2 j c hj
  exact ⟨x, by simpa using h4, h5⟩
 refine .agg _ _ (by simpa using h1) (fun x hx => ?_) (fun j c hj => ?_)
 ·obtain ⟨j, hj, rfl⟩ := Array.getElem_of_mem hx
  have hlt : j < zs.length := by simp at h1; omega
  obtain ⟨x, h4, h5⟩ := h3 j zs[j] (by simp)
  rw [Array.getElem?_eq_getElem hj] at h4
  injection h4 with h4
  rw [h4]
  exact (Rep.vT (m := E.mem 0) h5).one
 ·rw [List.getElem?_map] at hj
  cases hq : zs[j]? with
  | none => rw [hq] at hj; cases hj
  | some c0 =>
   rw [hq] at hj
   simp at hj
   subst hj
   obtain ⟨x, h4, h5⟩ := h3 j c0 hq
   have hlt := (Array.getElem?_eq_some_iff.1 h4)
   obtain ⟨hlt, hx⟩ := hlt
   have : v.cells.getD j undef = x := by simp [Array.getD, hlt, hx]
   rw [this]
   exact .t _ 2 _ (Rep.vT h5)
section
variable {w0 w : World} {V S0 U : Nat → Prop} {H : Nat → Option AObj} {ob : Nat → Option (Value × Nat)} {i : Nat} {P : Program}
theorem ok_alloc {e : TypeId} {eff : Eff} {c : Bool} (he : aAlloc P i e = some (c, eff)) (h : MR w0 V S0 U H ob w) (hi : ¬ U i) :
  Good w0 V S0 U ob w i (eff.heap H) eff.val ((Instr.alloc e true (.tuple #[]) >>= fun v => pure (.value v) : Sem Next).run P w) := by
 unfold aAlloc at he
 split at he
 ·rename_i zs hz
  simp only [Option.some.injEq, Prod.mk.injEq] at he
  obtain ⟨-, rfl⟩ := he
  obtain ⟨inf, v, h1, h2, h3⟩ := zero_parts hz
  have hg := Good.box h hi (ty := e) (VR.zero (E := evOf w0.heap.size V ob U w) h3)
  rw [List.length_map] at hg
  simp [Instr.alloc, zeroValue, typeInfo, h1, h2, newVar, newRow]
  exact hg
 ·cases he
theorem ok_box {e : TypeId} {x : AV} {v : Value} {eff : Eff} {c : Bool} (he : aBox i e x = some (c, eff)) (h : MR w0 V S0 U H ob w) (hi : ¬ U i) (hv : VR (evOf w0.heap.size V ob U w) v x) :
  Good w0 V S0 U ob w i (eff.heap H) eff.val ((Instr.box e v >>= fun v => pure (.value v) : Sem Next).run P w) := by
 unfold aBox at he
 split at he
 ·rename_i cs hc
  simp only [Option.some.injEq, Prod.mk.injEq] at he
  obtain ⟨-, rfl⟩ := he
  obtain ⟨h1, h2, h3⟩ := hv.cells hc
  have hg := Good.box h hi (ty := e) (VR.aggOf h1 h2 h3)
  simp [Instr.box, newVar, newRow]
  exact hg
 ·cases he
end

inductive All2 {α β : Type} (R : α → β → Prop) : List α → List β → Prop where
 | nil : All2 R [] []
 | cons {a : α} {b : β} {l : List α} {k : List β} (h : R a b) (t : All2 R l k) : All2 R (a :: l) (b :: k)
def setR (cs : List AV) (off : Nat) (xs : List AV) : List AV := xs.zipIdx.foldl (fun cs p => cs.set (off + p.2) p.1) cs
def afill (place : Nat → Option (Nat × Nat)) (cs : List AV) : List (Nat × AV) → Option (List AV)
 | [] => some cs
 | (i, x) :: r => match place i, avCells x with
  | some (off, sz), some xs => if xs.length = sz ∧ off + xs.length ≤ cs.length then afill place (setR cs off xs) r else none
  | _, _ => none
theorem VR.set {E : Ev} {vs : Array Value} {cs : List AV} (h : VR E (.agg vs) (.agg cs)) {v : Value} {c : AV} (hv : VR E v c) (h1 : v.oneCell' = true) (k : Nat) : VR E (.agg (vs.setIfInBounds k v)) (.agg (cs.set k c)) := by
 cases h with
 | agg vs cs hn hone hr =>
  refine .agg _ _ (by simpa using hn) (fun x hx => ?_) (fun j d hj => ?_)
  ·rcases Array.mem_or_eq_of_mem_setIfInBounds hx with h2 | h2
   ·exact hone x h2
   ·rw [h2]; exact h1
  ·rw [List.getElem?_set] at hj
   by_cases e : k = j
   ·subst e
    rw [if_pos rfl] at hj
    by_cases hlt : k < cs.length
    ·rw [if_pos hlt] at hj
     injection hj with hj
     subst hj
     have : k < vs.size := by omega
     simpa [Array.getD, this] using hv
    ·rw [if_neg hlt] at hj; cases hj
   ·rw [if_neg e] at hj
    have := hr j d hj
    have hlt : j < vs.size := by rw [hn]; exact (List.getElem?_eq_some_iff.1 hj).1
    simp only [Array.getD, hlt, dif_pos] at this
    simpa [Array.getD, hlt, Array.getElem_setIfInBounds, e] using this
theorem VR.setMany {E : Ev} (off : Nat) : ∀ (xs : List Value) (ys : List AV) (k : Nat) (vs : Array Value) (cs : List AV), VR E (.agg vs) (.agg cs) → xs.length = ys.length → (∀ (j : Nat) x y, xs[j]? = some x → ys[j]? = some y → VR E x y ∧ x.oneCell' = true) →
  VR E (.agg ((xs.zipIdx k).foldl (fun cs (p : Value × Nat) => cs.setIfInBounds (off + p.2) p.1) vs)) (.agg ((ys.zipIdx k).foldl (fun cs p => cs.set (off + p.2) p.1) cs))
 | [], ys, k, vs, cs, h, hl, _ => by
  have : ys = [] := List.eq_nil_of_length_eq_zero (by simpa using hl.symm)
  subst this
  exact h
 | x :: xs, [], k, vs, cs, h, hl, _ => by simp at hl
 | x :: xs, y :: ys, k, vs, cs, h, hl, hr => by
  have h0 := hr 0 x y rfl rfl
  simp only [List.zipIdx_cons, List.foldl_cons]
  exact VR.setMany off xs ys (k + 1) _ _ (h.set h0.1 h0.2 (off + k)) (by simpa using hl) (fun j a b ha hb => hr (j + 1) a b (by simpa using ha) (by simpa using hb))
theorem setR_len (off : Nat) : ∀ (ys : List AV) (k : Nat) (cs : List AV), ((ys.zipIdx k).foldl (fun cs p => cs.set (off + p.2) p.1) cs).length = cs.length
 | [], _, _ => rfl
 | y :: ys, k, cs => by simp only [List.zipIdx_cons, List.foldl_cons]; rw [setR_len off ys]; simp
theorem fill_ok {E : Ev} (place : Nat → Option (Nat × Nat)) : ∀ (ps : List (Nat × Value)) (qs : List (Nat × AV)) (vs : Array Value) (cs cs' : List AV), VR E (.agg vs) (.agg cs) → All2 (fun p q => p.1 = q.1 ∧ VR E p.2 q.2) ps qs → afill place cs qs = some cs' → ∃ vs', Instr.fill place vs ps = some vs' ∧ VR E (.agg vs') (.agg cs')
 | [], qs, vs, cs, cs', h, hf, ha => by
  cases hf
  simp [afill] at ha
  subst ha
  exact ⟨vs, rfl, h⟩
 | (i, v) :: ps, qs, vs, cs, cs', h, hf, ha => by
  cases hf with
  | @cons _ q _ qs hq hf =>
  obtain ⟨i', x⟩ := q
  obtain ⟨he, hv⟩ := hq
  simp only at he hv
  subst he
  unfold afill at ha
  split at ha
  ·rename_i off sz xs hp hx
   split at ha
   ·rename_i hc
    obtain ⟨h1, h2, h3⟩ := hv.cells hx
    have hsz : vs.size = cs.length := by cases h; assumption
    have hnew := VR.setMany (E := E) off v.cells.toList xs 0 vs cs h (by simpa using h1) (fun j a b ha hb => by
     have hlt := (List.getElem?_eq_some_iff.1 ha).1
     simp at hlt
     have h4 := h3 j b hb
     have h5 : v.cells[j] = a := by simpa [hlt] using ha
     rw [show v.cells.getD j undef = a by simp [Array.getD, hlt, h5]] at h4
     exact ⟨h4, h2 a (by rw [← h5]; simp)⟩)
    obtain ⟨vs', e1, e2⟩ := fill_ok place ps qs _ _ cs' hnew hf ha
    refine ⟨vs', ?_, e2⟩
    unfold Instr.fill
    rw [hp]
    have hcond : (decide (v.cells.size ≠ sz) || decide (off + v.cells.size > vs.size)) = false := by
     simp only [Bool.or_eq_false_iff, decide_eq_false_iff_not]
     omega
    simp only [hcond]
    rw [← e1]
    congr 1
    rw [← Array.foldl_toList]
    simp
   ·cases ha
  ·cases ha
def plOf (P : Program) (t : TypeId) : Option (Nat → Option (Nat × Nat)) := match P.underlying t with
 | some (.struct fs) => (fs.toList.mapM (fun f => (P.info? f.type).map fun i => (f.offset, i.size))).map fun ps => fun i => ps[i]?
 | some (.array _ e) => (P.info? e).map fun ie => fun i => some (i * ie.size, ie.size)
 | _ => none
def aBuild (P : Program) (t : TypeId) (parts : List (Nat × AV)) : Option (Bool × Eff) := match zeroOf P t, plOf P t with
 | some zs, some pl => (afill pl (zs.map (.t 2)) parts).map fun cs => (true, { val := .agg cs })
 | _, _ => none
section
variable {w0 w : World} {V S0 U : Nat → Prop} {H : Nat → Option AObj} {ob : Nat → Option (Value × Nat)} {i : Nat} {P : Program}
theorem ok_build {t : TypeId} {parts : Array (Nat × Value)} {qs : List (Nat × AV)} {eff : Eff} {c : Bool} (he : aBuild P t qs = some (c, eff)) {E : Ev} (hf : All2 (fun p q => p.1 = q.1 ∧ VR E p.2 q.2) parts.toList qs) :
  ∃ y, (Instr.build t parts).run P w = .ok y w ∧ VR E y eff.val ∧ eff.new = none ∧ eff.del = [] := by
 unfold aBuild at he
 split at he
 ·rename_i zs pl hz hp
  cases ha : afill pl (zs.map (.t 2)) qs with
  | none => rw [ha] at he; cases he
  | some cs =>
   rw [ha] at he
   simp only [Option.map_some, Option.some.injEq, Prod.mk.injEq] at he
   obtain ⟨-, rfl⟩ := he
   obtain ⟨inf, v, h1, h2, h3⟩ := zero_parts hz
   obtain ⟨vs', e1, e2⟩ := fill_ok pl parts.toList qs v.cells _ cs (VR.zero h3) hf ha
   refine ⟨.agg vs', run_build w t parts vs' ?_, e2, rfl, rfl⟩
   unfold plOf at hp
   unfold Program.built
   split at hp
   ·rename_i fs hu
    cases hq : fs.toList.mapM (fun f => (P.info? f.type).map fun i => (f.offset, i.size)) with
    | none => rw [hq] at hp; cases hp
    | some ps =>
     rw [hq] at hp
     simp only [Option.map_some, Option.some.injEq] at hp
     subst hp
     simp only [h1, hu, h2, hq]
     simpa using e1
   ·rename_i n e hu
    cases hq : P.info? e with
    | none => rw [hq] at hp; cases hp
    | some ie =>
     rw [hq] at hp
     simp only [Option.map_some, Option.some.injEq] at hp
     subst hp
     simp only [h1, hu, h2, hq]
     exact e1
   ·cases hp
 ·cases he
end
end Go.Proofs.YtnffigeofdagfaaDoor.M

namespace Go.Proofs.YtnffigeofdagfaaDoor.M
open Go.RowKit
set_option linter.unusedVariables false

def putL {α : Type} (cs : List α) (off : Nat) (xs : List α) : List α := match xs with
 | [x] => cs.set off x
 | _ => cs.take off ++ xs ++ cs.drop (off + xs.length)
theorem putL_eq {α : Type} {cs : List α} {off : Nat} {xs : List α} (h : off + xs.length ≤ cs.length) : putL cs off xs = cs.take off ++ xs ++ cs.drop (off + xs.length) := by
 unfold putL
 split
 ·rename_i x
  simp at h
  rw [List.set_eq_take_append_cons_drop, if_pos (by omega)]
  simp
 ·rfl
theorem putL_len {α : Type} {cs : List α} {off : Nat} {xs : List α} (h : off + xs.length ≤ cs.length) : (putL cs off xs).length = cs.length := by
 rw [putL_eq h]; simp; omega
theorem splice_get {α : Type} {cs : List α} {off : Nat} {xs : List α} (h : off + xs.length ≤ cs.length) (j : Nat) : (cs.take off ++ xs ++ cs.drop (off + xs.length))[j]? = if off ≤ j ∧ j < off + xs.length then xs[j - off]? else cs[j]? := by
 by_cases h1 : j < off
 ·rw [if_neg (by omega), List.append_assoc, List.getElem?_append_left (by simp; omega), List.getElem?_take, if_pos h1]
 ·by_cases h2 : j < off + xs.length
  ·rw [if_pos ⟨by omega, h2⟩, List.append_assoc, List.getElem?_append_right (by simp; omega), List.getElem?_append_left (by simp; omega)]
   congr 1
   simp; omega
  ·rw [if_neg (by omega), List.getElem?_append_right (by simp; omega), List.getElem?_drop]
   congr 1
   simp; omega
def tsOf : List AV → Option (Nat × List T)
 | [] => some (2, [])
 | .t p x :: r => (tsOf r).map fun (q, xs) => (min (lvT p x) q, x :: xs)
 | _ => none
theorem tsOf_rep {lo : Nat} {V : Nat → Prop} {ob : Nat → Option (Value × Nat)} {U : Nat → Prop} {w : World} : ∀ {cs : List AV} {p : Nat} {xs : List T}, tsOf cs = some (p, xs) → cs.length = xs.length ∧ ∀ (j : Nat) x v, xs[j]? = some x → (∀ c, cs[j]? = some c → VR (evOf lo V ob U w) v c) → Rep ((evOf lo V ob U w).mem p) v x
 | [], p, xs, h => by
  simp [tsOf] at h
  obtain ⟨rfl, rfl⟩ := h
  exact ⟨rfl, fun j x v hj => by simp at hj⟩
 | a :: r, p, xs, h => by
  cases a with
  | t q y =>
   unfold tsOf at h
   cases hr : tsOf r with
   | none => rw [hr] at h; cases h
   | some z =>
    obtain ⟨q2, xs2⟩ := z
    rw [hr] at h
    simp only [Option.map_some, Option.some.injEq, Prod.mk.injEq] at h
    obtain ⟨rfl, rfl⟩ := h
    obtain ⟨h1, h2⟩ := tsOf_rep (lo := lo) (V := V) (ob := ob) (U := U) (w := w) hr
    refine ⟨by simp [h1], fun j x v hj hv => ?_⟩
    cases j with
    | zero =>
     simp at hj
     subst hj
     exact ((hv _ rfl).rep.lvT (M := (evOf lo V ob U w).mem)).mono (fun b o u hu => memL_le (Nat.min_le_left _ _) b o u hu)
    | succ j => exact (h2 j x v (by simpa using hj) (fun c hc => hv c (by simpa using hc))).mono (fun b o u hu => memL_le (Nat.min_le_right _ _) b o u hu)
  | _ => simp [tsOf] at h
def aStore (P : Program) (t : TypeId) (x y : AV) (H : Nat → Option AObj) : Option (Bool × Eff) :=
 match x, avCells y, szOf P t with
 | .ptr id off c, some xs, some s => match H id with
  | some (.box ty cs) => some (decide (cs.length = c) && decide (xs.length = s) && decide (off + xs.length ≤ cs.length), { val := .any, new := some (id, .box ty (putL cs off xs)), tch := [id] })
  | some (.row e z p cs) => match xs with
   | [.t q d] => some (decide (cs.length = c) && decide (1 = s) && decide (off < cs.length), { val := .any, new := some (id, .row e z (min p (lvT q d)) (cs.set off d)), tch := [id] })
   | xs => match tsOf xs with
    | some (q, ds) => some (decide (cs.length = c) && decide (xs.length = s) && decide (off + xs.length ≤ cs.length), { val := .any, new := some (id, .row e z (min p q) (cs.take off ++ ds ++ cs.drop (off + ds.length))), tch := [id] })
    | none => none
  | some (.vec e z p cs) => match xs with
   | [d] => some (decide (cs.length = c) && decide (1 = s) && decide (off < cs.length), { val := .any, new := some (id, .vec e z p (cs.set off d)), tch := [id] })
   | _ => none
  | _ => none
 | _, _, _ => none
section
variable {w0 w : World} {V S0 U : Nat → Prop} {H : Nat → Option AObj} {ob : Nat → Option (Value × Nat)} {i : Nat} {P : Program}
theorem run_storeAt {t : TypeId} {b off s : Nat} {ty : TypeId} {cur : Array Value} {y : Value} (hs : szOf P t = some s) (hy : y.cells.size = s) (hg : w.heap[b]? = some (.cells cur ty (0, 0))) (hfit : off + s ≤ cur.size) (h1 : ∀ x, x ∈ y.cells → x.oneCell' = true) :
  (Instr.storeAt t (.pointer (some ⟨b, off, none⟩)) y).run P w = .ok () (w.setRow b (cur.toList.take off ++ y.cells.toList ++ cur.toList.drop (off + s)).toArray) := by
 have hr := run_storeCells_at (P := P) b off ty y.cells.toList 0 cur w hg (by simp [hy]; omega) (by simpa using h1)
 have hl : y.cells.toList.length = s := by simp [hy]
 rw [hl, Nat.add_zero] at hr
 simp [Instr.storeAt, Instr.sureAddr, storeVar, Sem.run_bind, run_szOf hs, hy, hr]
theorem ok_store {t : TypeId} {v y : Value} {x ay : AV} {eff : Eff} {c : Bool} (he : aStore P t x ay H = some (c, eff)) (hc : c = true) (h : MR w0 V S0 U H ob w) (hi : ¬ U i) (hv : VR (evOf w0.heap.size V ob U w) v x) (hy : VR (evOf w0.heap.size V ob U w) y ay) :
  Good w0 V S0 U ob w i (eff.heap H) eff.val ((do Instr.storeAt t v y; pure .skip : Sem Next).run P w) := by
 subst hc
 unfold aStore at he
 split at he
 ·rename_i id off c xs s hx hs
  obtain ⟨y1, y2, y3⟩ := hy.cells hx
  split at he
  ·rename_i ty cs hH
   simp only [Option.some.injEq, Prod.mk.injEq, Bool.and_eq_true, decide_eq_true_eq] at he
   obtain ⟨⟨⟨h1, h2⟩, h3⟩, rfl⟩ := he
   obtain ⟨u, b, e1, e2, rfl, e3⟩ := h.ptr hv hH h1
   obtain ⟨-, u', e4, b', vs, rfl, hg, hvr⟩ := h.obj id _ hH
   rw [e1] at e4
   simp only [Option.some.injEq, Prod.mk.injEq] at e4
   obtain ⟨rfl, -⟩ := e4
   obtain rfl : b' = b := by simpa [blk] using e2
   cases hvr with
   | agg vs cs hn hone hr =>
   have hrun := run_storeAt (P := P) (w := w) (off := off) hs (by omega) hg (by omega) y2
   simp only [Sem.run_bind, hrun, Result.andThen_ok, Sem.run_pure]
   have hl : y.cells.toList.length = s := by simp; omega
   refine Good.step h (.inr ⟨rfl, rfl⟩) id (.pointer (some ⟨b', 0, none⟩)) (.box ty (putL cs off xs)) ⟨rfl, rfl, rfl, by simp [World.setRow], fun k hk hn => setRow_other w b' k _ (fun e => hn ⟨_, _, e1, by rw [e]; rfl⟩)⟩ (fun _ => ⟨_, _, e1, by simp [AObj.cnt, putL_len h3, h1], fun _ => rfl⟩) (fun k hk => .inl ⟨_, _, e1, hk⟩) (.inr e3) (fun hx' => ⟨b', _, rfl, setRow_heap w b' vs _ ty _ hg, ?_⟩) (fun _ => .any _)
   have hpe := putL_eq h3
   obtain ⟨E', hE'⟩ : ∃ E', E' = evOf w0.heap.size V (upd ob id (some (.pointer (some ⟨b', 0, none⟩), (AObj.box ty (putL cs off xs)).cnt))) (fun k => U k ∨ k = i) (w.setRow b' (vs.toList.take off ++ y.cells.toList ++ vs.toList.drop (off + s)).toArray) := ⟨_, rfl⟩
   rw [← hE'] at hx' ⊢
   rw [hpe]
   have hcs : off + y.cells.toList.length ≤ vs.toList.length := by simp; omega
   have hsp := splice_get (cs := vs.toList) (xs := y.cells.toList) hcs
   rw [hl] at hsp
   refine .agg _ _ ?_ (fun z hz => ?_) (fun j d hj => ?_)
   ·simp; omega
   ·simp only [List.mem_toArray, List.mem_append] at hz
    rcases hz with (hz | hz) | hz
    ·exact hone z (by simpa using List.mem_of_mem_take hz)
    ·exact y2 z (by simpa using hz)
    ·exact hone z (by simpa using List.mem_of_mem_drop hz)
   ·rw [splice_get h3] at hj
    have hsz : (vs.toList.take off ++ y.cells.toList ++ vs.toList.drop (off + s))[j]? = some ((vs.toList.take off ++ y.cells.toList ++ vs.toList.drop (off + s)).toArray.getD j undef) := by
     have hlt : j < (vs.toList.take off ++ y.cells.toList ++ vs.toList.drop (off + s)).length := by
      have : j < cs.length := by
       by_cases hc : off ≤ j ∧ j < off + xs.length
       ·omega
       ·rw [if_neg hc] at hj; exact (List.getElem?_eq_some_iff.1 hj).1
      simp; omega
     rw [List.getElem?_eq_getElem hlt]
     simp only [Array.getD, List.size_toArray, hlt, dif_pos]
     simp
    rw [hsp] at hsz
    by_cases hc : off ≤ j ∧ j < off + xs.length
    ·rw [if_pos hc] at hj
     rw [if_pos (by omega)] at hsz
     have h5 := (y3 (j - off) d hj).ext hx'
     have hlt : j - off < y.cells.size := by omega
     have h6 : y.cells.toList[j - off]? = some (y.cells.getD (j - off) undef) := by simp [Array.getD, hlt]
     rw [h6] at hsz
     injection hsz with hsz
     rw [← hsz]
     exact h5
    ·rw [if_neg hc] at hj
     rw [if_neg (by omega)] at hsz
     have h5 := (hr j d hj).ext hx'
     have hlt : j < vs.size := by rw [hn]; exact (List.getElem?_eq_some_iff.1 hj).1
     have h6 : vs.toList[j]? = some (vs.getD j undef) := by simp [Array.getD, hlt]
     rw [h6] at hsz
     injection hsz with hsz
     rw [← hsz]
     exact h5
  ·rename_i e z p cs hH
   split at he
   ·rename_i q d
    simp only [Option.some.injEq, Prod.mk.injEq, Bool.and_eq_true, decide_eq_true_eq] at he
    obtain ⟨⟨⟨h1, h2⟩, h3⟩, rfl⟩ := he
    subst h2
    obtain ⟨u, b, e1, e2, rfl, e3⟩ := h.ptr hv hH h1
    obtain ⟨-, u', e4, hz, hl, m, vs, how, hlen, hr⟩ := h.obj id _ hH
    rw [e1] at e4
    simp only [Option.some.injEq, Prod.mk.injEq] at e4
    obtain ⟨rfl, -⟩ := e4
    rcases how.2 with ⟨rfl, rfl⟩ | ⟨g, cap, cur, rfl, -, hg, hnc, hcm, hcs, htake⟩
    ·cases e2
    ·obtain rfl : g = b := by simpa [blk] using e2
     have hvl : vs.length = m * z := how.1
     have hcur : m * z ≤ cur.size := by rw [hcs]; exact Nat.mul_le_mul_right z hnc
     have hrun := run_storeAt (P := P) (w := w) (off := off) hs (by simpa using y1) hg (by omega) y2
     simp only [Sem.run_bind, hrun, Result.andThen_ok, Sem.run_pure]
     have hd : Rep ((evOf w0.heap.size V ob U w).mem q) (y.cells.getD 0 undef) d := (y3 0 (.t q d) rfl).rep
     obtain ⟨x0, hx0⟩ : ∃ x0, y.cells = #[x0] := by
      have hsz : y.cells.size = 1 := by simpa using y1
      refine ⟨y.cells[0], ?_⟩
      apply Array.ext
      ·simpa using hsz
      ·intro i h1 h2
       obtain rfl : i = 0 := by simp at h2; omega
       rfl
     rw [hx0] at hd ⊢
     simp only [Array.getD] at hd
     have hd : Rep ((evOf w0.heap.size V ob U w).mem q) x0 d := hd
     refine Good.step h (.inr ⟨rfl, rfl⟩) id (.slice (some ⟨g, 0, none⟩) m cap) (.row e z (min p (lvT q d)) (cs.set off d)) ⟨rfl, rfl, rfl, by simp [World.setRow], fun k hk hn => setRow_other w g k _ (fun e => hn ⟨_, _, e1, by rw [e]; rfl⟩)⟩ (fun _ => ⟨_, _, e1, by simp [AObj.cnt, h1], fun _ => rfl⟩) (fun k hk => .inl ⟨_, _, e1, hk⟩) (.inr e3) (fun hx' => ⟨hz, fun k hk => lvl_le (hl k hk) (Nat.min_le_left p (lvT q d)), m, vs.set off x0, ?_, by simp [hlen], fun j c x hj hxx => ?_⟩) (fun _ => .any _)
     ·have hsp : (cur.toList.take off ++ [x0] ++ cur.toList.drop (off + 1)) = cur.toList.set off x0 := by
       rw [List.set_eq_take_append_cons_drop, if_pos (by simp; omega)]
       simp
      have e9 : (#[x0] : Array Value).toList = [x0] := rfl
      rw [e9, hsp]
      refine ⟨by simpa using hvl, .inr ⟨g, cap, _, rfl, by omega, setRow_heap w g cur _ e _ hg, hnc, hcm, by simpa using hcs, ?_⟩⟩
      rw [List.toList_toArray, List.take_set, htake]
     ·rw [List.getElem?_set] at hj hxx
      by_cases ej : off = j
      ·subst ej
       rw [if_pos rfl, if_pos h3] at hj
       rw [if_pos rfl, if_pos (by omega)] at hxx
       injection hj with hj
       injection hxx with hxx
       subst hj hxx
       exact (hd.lvT (M := (evOf w0.heap.size V ob U w).mem)).mono (fun b o u hu => hx'.mem _ _ _ _ (memL_le (Nat.min_le_right p (lvT q d)) b o u hu))
      ·rw [if_neg ej] at hj hxx
       exact (hr j c x hj hxx).mono (fun b o u hu => hx'.mem _ _ _ _ (memL_le (Nat.min_le_left p (lvT q d)) b o u hu))
   ·rename_i xs' hne
    split at he
    ·rename_i q ds hts
     simp only [Option.some.injEq, Prod.mk.injEq, Bool.and_eq_true, decide_eq_true_eq] at he
     obtain ⟨⟨⟨h1, h2⟩, h3⟩, rfl⟩ := he
     obtain ⟨u, b, e1, e2, rfl, e3⟩ := h.ptr hv hH h1
     obtain ⟨-, u', e4, hz, hl, m, vs, how, hlen, hr⟩ := h.obj id _ hH
     rw [e1] at e4
     simp only [Option.some.injEq, Prod.mk.injEq] at e4
     obtain ⟨rfl, -⟩ := e4
     obtain ⟨hdl, hdr⟩ := tsOf_rep (lo := w0.heap.size) (V := V) (ob := ob) (U := U) (w := w) hts
     rcases how.2 with ⟨rfl, rfl⟩ | ⟨g, cap, cur, rfl, -, hg, hnc, hcm, hcs, htake⟩
     ·cases e2
     ·obtain rfl : g = b := by simpa [blk] using e2
      have hvl : vs.length = m * z := how.1
      have hcur : m * z ≤ cur.size := by rw [hcs]; exact Nat.mul_le_mul_right z hnc
      have hrun := run_storeAt (P := P) (w := w) (off := off) hs (by omega) hg (by omega) y2
      simp only [Sem.run_bind, hrun, Result.andThen_ok, Sem.run_pure]
      have hY : y.cells.toList.length = s := by simp; omega
      have hvs : off + y.cells.toList.length ≤ vs.length := by omega
      have hcu : off + y.cells.toList.length ≤ cur.toList.length := by simp; omega
      have hcd : off + ds.length ≤ cs.length := by omega
      have hsp1 := splice_get hcu
      have hsp2 := splice_get hvs
      have hsp3 := splice_get hcd
      rw [hY] at hsp1 hsp2
      have htk : (cur.toList.take off ++ y.cells.toList ++ cur.toList.drop (off + s)).take (m * z) = vs.take off ++ y.cells.toList ++ vs.drop (off + s) := by
       apply List.ext_getElem?
       intro j
       rw [List.getElem?_take, hsp1, hsp2]
       have hj : vs[j]? = if j < m * z then cur.toList[j]? else none := by rw [← htake, List.getElem?_take]
       by_cases c : off ≤ j ∧ j < off + s
       ·rw [if_pos c, if_pos c, if_pos (by omega)]
       ·rw [if_neg c, if_neg c, hj]
      refine Good.step h (.inr ⟨rfl, rfl⟩) id (.slice (some ⟨g, 0, none⟩) m cap) (.row e z (min p q) (cs.take off ++ ds ++ cs.drop (off + ds.length))) ⟨rfl, rfl, rfl, by simp [World.setRow], fun k hk hn => setRow_other w g k _ (fun e => hn ⟨_, _, e1, by rw [e]; rfl⟩)⟩ (fun _ => ⟨_, _, e1, by simp [AObj.cnt]; omega, fun _ => rfl⟩) (fun k hk => .inl ⟨_, _, e1, hk⟩) (.inr e3) (fun hx' => ⟨hz, fun k hk => lvl_le (hl k hk) (Nat.min_le_left p q), m, vs.take off ++ y.cells.toList ++ vs.drop (off + s), ?_, by simp; omega, fun j c x hj hxx => ?_⟩) (fun _ => .any _)
      ·refine ⟨by simp; omega, .inr ⟨g, cap, _, rfl, by omega, setRow_heap w g cur _ e _ hg, hnc, hcm, by simp; omega, ?_⟩⟩
       rw [List.toList_toArray, htk]
      ·rw [hsp3] at hj
       rw [hsp2] at hxx
       by_cases ej : off ≤ j ∧ j < off + s
       ·rw [if_pos (by omega)] at hj
        rw [if_pos ej] at hxx
        have h6 : y.cells.getD (j - off) undef = x := by
         have hlt : j - off < y.cells.size := by omega
         have h7 : y.cells.toList[j - off]? = some (y.cells.getD (j - off) undef) := by simp [Array.getD, hlt]
         rw [h7] at hxx
         exact Option.some.inj hxx
        have h8 := hdr (j - off) c x hj (fun c' hc' => by rw [← h6]; exact y3 _ _ hc')
        exact h8.mono (fun b o u hu => hx'.mem _ _ _ _ (memL_le (Nat.min_le_right p q) b o u hu))
       ·rw [if_neg (by omega)] at hj
        rw [if_neg ej] at hxx
        exact (hr j c x hj hxx).mono (fun b o u hu => hx'.mem _ _ _ _ (memL_le (Nat.min_le_left p q) b o u hu))
    ·cases he
  ·rename_i e z p cs hH
   split at he
   ·rename_i d
    simp only [Option.some.injEq, Prod.mk.injEq, Bool.and_eq_true, decide_eq_true_eq] at he
    obtain ⟨⟨⟨h1, h2⟩, h3⟩, rfl⟩ := he
    subst h2
    obtain ⟨u, b, e1, e2, rfl, e3⟩ := h.ptr hv hH h1
    obtain ⟨-, u', e4, hz, hlv, m, vs, how, hlen, hone, hr⟩ := h.obj id _ hH
    rw [e1] at e4
    simp only [Option.some.injEq, Prod.mk.injEq] at e4
    obtain ⟨rfl, -⟩ := e4
    rcases how.2 with ⟨rfl, rfl⟩ | ⟨g, cap, cur, rfl, -, hg, hnc, hcm, hcs, htake⟩
    ·cases e2
    ·obtain rfl : g = b := by simpa [blk] using e2
     have hvl : vs.length = m * z := how.1
     have hnz : m * z ≤ cap * z := Nat.mul_le_mul_right z hnc
     have hcur : m * z ≤ cur.size := by omega
     have hrun := run_storeAt (P := P) (w := w) (off := off) hs (by simpa using y1) hg (by omega) y2
     simp only [Sem.run_bind, hrun, Result.andThen_ok, Sem.run_pure]
     have hd : VR (evOf w0.heap.size V ob U w) (y.cells.getD 0 undef) d := y3 0 d rfl
     obtain ⟨x0, hx0⟩ : ∃ x0, y.cells = #[x0] := by
      have hsz : y.cells.size = 1 := by simpa using y1
      refine ⟨y.cells[0], ?_⟩
      apply Array.ext
      ·simpa using hsz
      ·intro i h1 h2
       obtain rfl : i = 0 := by simp at h2; omega
       rfl
     have hone0 : x0.oneCell' = true := y2 x0 (by rw [hx0]; simp)
     rw [hx0] at hd ⊢
     simp only [Array.getD] at hd
     have hd : VR (evOf w0.heap.size V ob U w) x0 d := hd
     refine Good.step h (.inr ⟨rfl, rfl⟩) id (.slice (some ⟨g, 0, none⟩) m cap) (.vec e z p (cs.set off d)) ⟨rfl, rfl, rfl, by simp [World.setRow], fun k hk hn => setRow_other w g k _ (fun e => hn ⟨_, _, e1, by rw [e]; rfl⟩)⟩ (fun _ => ⟨_, _, e1, by simp [AObj.cnt, h1], fun _ => rfl⟩) (fun k hk => .inl ⟨_, _, e1, hk⟩) (.inr e3) (fun hx' => ⟨hz, hlv, m, vs.set off x0, ?_, by simp [hlen], fun v hv => ?_, fun j c x hj hxx => ?_⟩) (fun _ => .any _)
     ·have hsp : (cur.toList.take off ++ [x0] ++ cur.toList.drop (off + 1)) = cur.toList.set off x0 := by
       rw [List.set_eq_take_append_cons_drop, if_pos (by simp; omega)]
       simp
      have e9 : (#[x0] : Array Value).toList = [x0] := rfl
      rw [e9, hsp]
      refine ⟨by simpa using hvl, .inr ⟨g, cap, _, rfl, by omega, setRow_heap w g cur _ e _ hg, hnc, hcm, by simpa using hcs, ?_⟩⟩
      rw [List.toList_toArray, List.take_set, htake]
     ·rcases List.mem_or_eq_of_mem_set hv with hv | rfl
      ·exact hone v hv
      ·exact hone0
     ·rw [List.getElem?_set] at hj hxx
      by_cases ej : off = j
      ·subst ej
       rw [if_pos rfl, if_pos h3] at hj
       rw [if_pos rfl, if_pos (by omega)] at hxx
       injection hj with hj
       injection hxx with hxx
       subst hj hxx
       exact hd.ext hx'
      ·rw [if_neg ej] at hj hxx
       exact (hr j c x hj hxx).ext hx'
   ·cases he
  ·cases he
 ·cases he
end
end Go.Proofs.YtnffigeofdagfaaDoor.M

namespace Go.Proofs.YtnffigeofdagfaaDoor.M
open Go.RowKit
set_option linter.unusedVariables false

def frz (H : Nat → Option AObj) : List (Nat × AV) → Option (Bool × List (Nat × AV) × List Nat)
 | [] => some (true, [], [])
 | (k, .own id c) :: r => match H id with
  | some (.row _ z p cs) => (frz (upd H id none) r).map fun (b, ps, ds) => (decide (cs.length = c) && b, (k, .t p (.sl z cs)) :: ps, id :: ds)
  | _ => none
 | (k, a) :: r => (frz H r).map fun (b, ps, ds) => (b, (k, a) :: ps, ds)
theorem All2.imp {α β : Type} {R S : α → β → Prop} (hi : ∀ a b, R a b → S a b) : ∀ {l : List α} {k : List β}, All2 R l k → All2 S l k
 | _, _, .nil => .nil
 | _, _, .cons h t => .cons (hi _ _ h) (All2.imp hi t)
theorem freeze_parts {w0 w : World} {V S0 U : Nat → Prop} : ∀ (qs : List (Nat × AV)) {H : Nat → Option AObj} {ob : Nat → Option (Value × Nat)} {ps : List (Nat × Value)} {b : Bool} {qs' : List (Nat × AV)} {ds : List Nat}, MR w0 V S0 U H ob w → All2 (fun p q => p.1 = q.1 ∧ VR (evOf w0.heap.size V ob U w) p.2 q.2) ps qs → frz H qs = some (b, qs', ds) → b = true →
  ∃ ob', MR w0 V S0 U (dels H ds) ob' w ∧ Ext (evOf w0.heap.size V ob U w) (evOf w0.heap.size V ob' U w) ∧ All2 (fun p q => p.1 = q.1 ∧ VR (evOf w0.heap.size V ob' U w) p.2 q.2) ps qs'
 | [], H, ob, ps, b, qs', ds, h, ha, hf, hb => by
  cases ha
  simp [frz] at hf
  obtain ⟨-, rfl, rfl⟩ := hf
  exact ⟨ob, h, Ext.refl _, .nil⟩
 | (k, q) :: qs, H, ob, ps, b, qs', ds, h, ha, hf, hb => by
  cases ha with
  | @cons p _ ps _ hp ha =>
  obtain ⟨hk, hv⟩ := hp
  simp only at hk hv
  have plain : ∀ (r : Option (Bool × List (Nat × AV) × List Nat)), r = (frz H qs).map (fun (b, ps, ds) => (b, (k, q) :: ps, ds)) → r = some (b, qs', ds) → ∃ ob', MR w0 V S0 U (dels H ds) ob' w ∧ Ext (evOf w0.heap.size V ob U w) (evOf w0.heap.size V ob' U w) ∧ All2 (fun p q => p.1 = q.1 ∧ VR (evOf w0.heap.size V ob' U w) p.2 q.2) (p :: ps) qs' := fun r hr hr2 => by
   rw [hr] at hr2
   cases hq : frz H qs with
   | none => rw [hq] at hr2; cases hr2
   | some x =>
    obtain ⟨b2, qs2, ds2⟩ := x
    rw [hq] at hr2
    simp only [Option.map_some, Option.some.injEq, Prod.mk.injEq] at hr2
    obtain ⟨rfl, rfl, rfl⟩ := hr2
    obtain ⟨ob', h1, h2, h3⟩ := freeze_parts qs h ha hq hb
    exact ⟨ob', h1, h2, .cons ⟨hk, hv.ext h2⟩ h3⟩
  cases q with
  | own id c =>
   unfold frz at hf
   split at hf
   ·rename_i e z p' cs hH
    cases hq : frz (upd H id none) qs with
    | none => rw [hq] at hf; cases hf
    | some x =>
     obtain ⟨b2, qs2, ds2⟩ := x
     rw [hq] at hf
     simp only [Option.map_some, Option.some.injEq, Prod.mk.injEq] at hf
     obtain ⟨hb2, rfl, rfl⟩ := hf
     rw [hb] at hb2
     simp only [Bool.and_eq_true, decide_eq_true_eq] at hb2
     obtain ⟨e1, -⟩ := h.own hv hH hb2.1
     have ht := h.tree hH e1
     obtain ⟨h4, h5⟩ := h.drop id
     obtain ⟨ob', h1, h2, h3⟩ := freeze_parts qs h4 (All2.imp (fun a b hab => ⟨hab.1, hab.2.ext h5⟩) ha) hq hb2.2
     exact ⟨ob', h1, h5.trans h2, .cons ⟨hk, .t _ _ _ (ht.mono (h2.mem _))⟩ h3⟩
   ·cases hf
  | any => exact plain _ rfl (by simpa only [frz] using hf)
  | t p x => exact plain _ rfl (by simpa only [frz] using hf)
  | ptr id off c => exact plain _ rfl (by simpa only [frz] using hf)
  | sub id off l c => exact plain _ rfl (by simpa only [frz] using hf)
  | pt p cs => exact plain _ rfl (by simpa only [frz] using hf)
  | agg cs => exact plain _ rfl (by simpa only [frz] using hf)
  | tup cs => exact plain _ rfl (by simpa only [frz] using hf)
  | fn f cs => exact plain _ rfl (by simpa only [frz] using hf)
theorem Good.pre {w0 w : World} {V S0 U : Nat → Prop} {ob ob1 : Nat → Option (Value × Nat)} {i : Nat} {H' : Nat → Option AObj} {val : AV} {r : Result Next} (hx : Ext (evOf w0.heap.size V ob U w) (evOf w0.heap.size V ob1 U w)) (hg : Good w0 V S0 U ob1 w i H' val r) : Good w0 V S0 U ob w i H' val r := by
 obtain ⟨nx, v, w', ob', e1, e2, e3, e4, e5⟩ := hg
 exact ⟨nx, v, w', ob', e1, e2, e3, hx.trans e4, e5⟩
def isOwn : AV → Bool
 | .own _ _ => true
 | _ => false
def frzL (H : Nat → Option AObj) (cs : List AV) : Option (Bool × Nat × List T × List Nat) := match frz H (cs.map fun a => (0, a)) with
 | some (b, ps, ds) => match tsOf (ps.map (·.2)) with
  | some (p, xs) => some (b, p, xs, ds)
  | none => none
 | none => none
theorem All2.get {α β : Type} {R : α → β → Prop} : ∀ {l : List α} {k : List β}, All2 R l k → l.length = k.length ∧ ∀ (j : Nat) a b, l[j]? = some a → k[j]? = some b → R a b
 | _, _, .nil => ⟨rfl, fun j a b h => by simp at h⟩
 | _, _, .cons h t => by
  obtain ⟨h1, h2⟩ := All2.get t
  refine ⟨by simp [h1], fun j a b ha hb => ?_⟩
  cases j with
  | zero => simp at ha hb; subst ha hb; exact h
  | succ j => exact h2 j a b (by simpa using ha) (by simpa using hb)
theorem All2.of {α β : Type} {R : α → β → Prop} : ∀ {l : List α} {k : List β}, l.length = k.length → (∀ (j : Nat) a b, l[j]? = some a → k[j]? = some b → R a b) → All2 R l k
 | [], [], _, _ => .nil
 | a :: l, b :: k, h, hr => .cons (hr 0 a b rfl rfl) (All2.of (by simpa using h) (fun j x y hx hy => hr (j + 1) x y (by simpa using hx) (by simpa using hy)))
 | [], _ :: _, h, _ => by simp at h
 | _ :: _, [], h, _ => by simp at h
theorem frzL_ok {w0 w : World} {V S0 U : Nat → Prop} {H : Nat → Option AObj} {ob : Nat → Option (Value × Nat)} {cs : List AV} {vs : List Value} {b : Bool} {p : Nat} {xs : List T} {ds : List Nat} (h : MR w0 V S0 U H ob w) (hl : vs.length = cs.length) (hr : ∀ (j : Nat) c x, cs[j]? = some c → vs[j]? = some x → VR (evOf w0.heap.size V ob U w) x c) (hf : frzL H cs = some (b, p, xs, ds)) (hb : b = true) :
  ∃ ob', MR w0 V S0 U (dels H ds) ob' w ∧ Ext (evOf w0.heap.size V ob U w) (evOf w0.heap.size V ob' U w) ∧ vs.length = xs.length ∧ ∀ (j : Nat) c x, xs[j]? = some c → vs[j]? = some x → Rep ((evOf w0.heap.size V ob' U w).mem p) x c := by
 unfold frzL at hf
 split at hf
 ·rename_i b2 ps ds2 hfr
  split at hf
  ·rename_i p2 xs2 hts
   simp only [Option.some.injEq, Prod.mk.injEq] at hf
   obtain ⟨rfl, rfl, rfl, rfl⟩ := hf
   obtain ⟨ob', h1, h2, h3⟩ := freeze_parts _ h (All2.of (l := vs.map fun v => ((0 : Nat), v)) (k := cs.map fun a => ((0 : Nat), a)) (by simp [hl]) (fun j a c ha hc => by
    rw [List.getElem?_map] at ha hc
    cases hv : vs[j]? with
    | none => rw [hv] at ha; cases ha
    | some v => cases hq : cs[j]? with
     | none => rw [hq] at hc; cases hc
     | some q =>
      rw [hv] at ha
      rw [hq] at hc
      simp only [Option.map_some, Option.some.injEq] at ha hc
      subst ha hc
      exact ⟨rfl, hr j q v hq hv⟩)) hfr hb
   obtain ⟨h4, h5⟩ := All2.get h3
   obtain ⟨h6, h7⟩ := tsOf_rep (lo := w0.heap.size) (V := V) (ob := ob') (U := U) (w := w) hts
   refine ⟨ob', h1, h2, by simpa [h6] using h4.trans (by simpa using h6), fun j c x hj hx => h7 j c x hj (fun d hd => ?_)⟩
   rw [List.getElem?_map] at hd
   cases hq : ps[j]? with
   | none => rw [hq] at hd; cases hd
   | some q =>
    rw [hq] at hd
    simp only [Option.map_some, Option.some.injEq] at hd
    subst hd
    exact (h5 j (0, x) q (by rw [List.getElem?_map, hx]; rfl) hq).2
  ·cases hf
 ·cases hf
def aBuildSlice (P : Program) (i : Nat) (t : TypeId) (len : Nat) (parts : List (Nat × AV)) (H : Nat → Option AObj) : Option (Bool × Eff) :=
 match elOf P t with
 | some e => match szOf P e, zeroOf P e with
  | some s, some zs => match afill (fun i => some (i * s, s)) ((List.range (len * s)).map fun j => AV.t 2 (zs.getD (j % s) default)) parts with
   | some cs => if cs.any isOwn = true then some (decide (len * s ≤ 16777216) && decide (zs.length = s) && decide (0 < s), { val := .own i cs.length, new := some (i, .vec e s 2 cs), tch := [i] })
    else match frzL H cs with
     | some (b, p, xs, ds) => some (b && decide (len * s ≤ 16777216) && decide (zs.length = s) && decide (0 < s), { val := .own i xs.length, new := some (i, .row e s p xs), del := ds, tch := i :: ds })
     | none => none
   | none => none
  | _, _ => none
 | none => none
def zerosV (z : Value) (n : Nat) : Array Value := (Array.range n).map (z.cells[· % z.cells.size]!)
theorem afill_len (place : Nat → Option (Nat × Nat)) : ∀ (qs : List (Nat × AV)) (cs cs' : List AV), afill place cs qs = some cs' → cs'.length = cs.length
 | [], cs, cs', h => by simp [afill] at h; rw [h]
 | (i, x) :: r, cs, cs', h => by
  unfold afill at h
  split at h
  ·split at h
   ·rename_i off sz xs hp hx hc
    have := afill_len place r _ cs' h
    rw [this]
    unfold setR
    exact setR_len off xs 0 cs
   ·cases h
  ·cases h
section
variable {w0 w : World} {V S0 U : Nat → Prop} {H : Nat → Option AObj} {ob : Nat → Option (Value × Nat)} {i : Nat} {P : Program}
theorem VR.zeros {E : Ev} {v : Value} {zs : List T} {s : Nat} (h : vTs v.cells.toList = some zs) (hs : zs.length = s) (h0 : 0 < s) (n : Nat) : VR E (.agg (zerosV v n)) (.agg ((List.range n).map fun j => AV.t 2 (zs.getD (j % s) default))) := by
 obtain ⟨h1, h2⟩ := vTs_get h
 have hcs : v.cells.size = s := by simp at h1; omega
 have key : ∀ j, j < n → ∃ hj : j % s < v.cells.size, vT v.cells[j % s] = some (zs.getD (j % s) default) := fun j hj => by
  have hlt : j % s < s := Nat.mod_lt j h0
  have hz : j % s < zs.length := by omega
  obtain ⟨x, h4, h5⟩ := h2 (j % s) zs[j % s] (by simp)
  refine ⟨by omega, ?_⟩
  have h6 : v.cells[j % s]'(by omega) = x := by
   have : v.cells.toList[j % s]? = some (v.cells[j % s]'(by omega)) := by simp [hcs, hlt]
   rw [this] at h4
   injection h4
  rw [h6, h5]
  simp [hz]
 have hval : ∀ j (hj : j < n), (zerosV v n)[j]'(by simp [zerosV]; exact hj) = v.cells[j % s]'(key j hj).1 := fun j hj => by
  obtain ⟨hlt, -⟩ := key j hj
  have e : (zerosV v n)[j]'(by simp [zerosV]; exact hj) = v.cells[j % v.cells.size]! := by simp [zerosV]
  have e2 : v.cells[j % v.cells.size]! = v.cells[j % s]! := by rw [hcs]
  rw [e, e2]
  exact getElem!_pos v.cells (j % s) hlt
 refine .agg _ _ (by simp [zerosV]) (fun x hx => ?_) (fun j c hj => ?_)
 ·obtain ⟨j, hj, rfl⟩ := Array.getElem_of_mem hx
  have hjn : j < n := by simpa [zerosV] using hj
  obtain ⟨hlt, hk⟩ := key j hjn
  rw [hval j hjn]
  exact (Rep.vT (m := E.mem 0) hk).one
 ·rw [List.getElem?_map] at hj
  have hjn : j < n := by
   cases hq : (List.range n)[j]? with
   | none => rw [hq] at hj; cases hj
   | some y => simpa using (List.getElem?_eq_some_iff.1 hq).1
  obtain ⟨hlt, hk⟩ := key j hjn
  rw [show (List.range n)[j]? = some j by simp [hjn]] at hj
  simp only [Option.map_some, Option.some.injEq] at hj
  subst hj
  have hsz : j < (zerosV v n).size := by simpa [zerosV] using hjn
  have e : (zerosV v n).getD j undef = v.cells[j % s] := by
   rw [← hval j hjn]
   simp [Array.getD, hsz]
  rw [e]
  exact .t _ 2 _ (Rep.vT hk)
theorem ok_buildSlice {t : TypeId} {len : Nat} {parts : Array (Nat × Value)} {qs : List (Nat × AV)} {eff : Eff} {c : Bool} (he : aBuildSlice P i t len qs H = some (c, eff)) (hc : c = true) (h : MR w0 V S0 U H ob w) (hi : ¬ U i)
  (hf : All2 (fun p q => p.1 = q.1 ∧ VR (evOf w0.heap.size V ob U w) p.2 q.2) parts.toList qs) :
  Good w0 V S0 U ob w i (eff.heap H) eff.val ((Instr.buildSlice t len parts >>= fun v => pure (.value v) : Sem Next).run P w) := by
 subst hc
 unfold aBuildSlice at he
 split at he
 ·rename_i e hel
  split at he
  ·rename_i s zs hs hz
   split at he
   ·rename_i cs hfi
    obtain ⟨inf, v, z1, z2, z3⟩ := zero_parts hz
    obtain ⟨inf', q1, q2⟩ := info_sz hs
    rw [z1] at q1
    injection q1 with q1
    subst q1
    have hu := und_el hel
    have hlen : cs.length = len * s := by rw [afill_len _ _ _ _ hfi]; simp
    have build : zs.length = s → 0 < s → len * s ≤ 16777216 → ∃ vs' : Array Value, (Instr.buildSlice t len parts).run P w = .ok (.slice (some ⟨w.heap.size, 0, none⟩) len len) (w.alloc (.cells vs' e)) ∧ vs'.size = cs.length ∧ (∀ x, x ∈ vs' → x.oneCell' = true) ∧ ∀ (j : Nat) c, cs[j]? = some c → VR (evOf w0.heap.size V ob U w) (vs'.getD j undef) c := fun h3 h4 h2 => by
     obtain ⟨vs', f1, f2⟩ := fill_ok (E := evOf w0.heap.size V ob U w) (fun i => some (i * s, s)) parts.toList qs (zerosV v (len * s)) _ cs (VR.zeros z3 h3 h4 (len * s)) hf hfi
     cases f2 with
     | agg vs' cs hn hone hr =>
     refine ⟨vs', ?_, hn, hone, hr⟩
     by_cases h0 : len * s = 0
     ·have hl0 : len = 0 := by
       rcases Nat.mul_eq_zero.1 h0 with h | h <;> omega
      subst hl0
      have hvv : zerosV v 0 = #[] := by unfold zerosV; rw [show Array.range 0 = #[] from rfl]; simp
      have hf2 : Instr.fill (fun i => some (i * s, s)) #[] parts.toList = some vs' := by rw [Nat.zero_mul] at f1; rw [← f1, hvv]
      simp [Instr.buildSlice, run_underlying hu, sizeOf, typeInfo, z1, q2, newRow, show Array.range 0 = #[] from rfl, hf2]
     ·exact run_buildSlice w t e len parts vs' inf v hu z1 z2 (by rw [q2]; omega) (by rw [q2]; exact h0) (by rw [q2]; exact f1)
    have hown : ∀ vs' : Array Value, 0 < s → vs'.size = cs.length → len * s ≤ 16777216 → (w.alloc (.cells vs' e)).ownsRow 0 e s (.slice (some ⟨w.heap.size, 0, none⟩) len len) len vs'.toList := fun vs' h4 hn h2 => ⟨by simp; omega, .inr ⟨w.heap.size, len, vs', rfl, by omega, heap_alloc_new w _, Nat.le_refl _, by
        have : len ≤ len * s := Nat.le_mul_of_pos_right len h4
        simp only [maxLen]; omega, by omega, by rw [List.take_of_length_le (by simp; omega)]⟩⟩
    have hget : ∀ (vs' : Array Value) (j : Nat) x, vs'.toList[j]? = some x → vs'.getD j undef = x := fun vs' j x hx => by
     have hlt : j < vs'.size := by simpa using (List.getElem?_eq_some_iff.1 hx).1
     have : vs'.toList[j]? = some (vs'.getD j undef) := by simp [Array.getD, hlt]
     rw [this] at hx
     injection hx
    split at he
    ·rename_i hs1
     simp only [Option.some.injEq, Prod.mk.injEq, Bool.and_eq_true, decide_eq_true_eq] at he
     obtain ⟨⟨⟨h2, h3⟩, h4⟩, rfl⟩ := he
     obtain ⟨vs', hrun, hn, hone, hr⟩ := build h3 h4 h2
     simp only [Sem.run_bind, hrun, Result.andThen_ok, Sem.run_pure]
     exact Good.vec h hi (e := e) (z := s) (p := 2) (n := len) (vs := vs'.toList) (cs := cs) (u := .slice (some ⟨w.heap.size, 0, none⟩) len len) (w' := w.alloc (.cells vs' e)) (Onl.alloc _ _ _) h4 (hown vs' h4 hn h2) (by simpa using hn) (fun k hk => by
       obtain rfl : w.heap.size = k := by simpa [blk] using hk
       exact Nat.le_refl _) (fun x hx => hone x (by simpa using hx)) (fun j c x hj hx => by rw [← hget vs' j x hx]; exact hr j c hj)
    ·split at he
     ·rename_i b p xs ds hfr
      simp only [Option.some.injEq, Prod.mk.injEq, Bool.and_eq_true, decide_eq_true_eq] at he
      obtain ⟨⟨⟨⟨h1, h2⟩, h3⟩, h4⟩, rfl⟩ := he
      obtain ⟨vs', hrun, hn, hone, hr⟩ := build h3 h4 h2
      obtain ⟨ob1, hm1, hx1, hlx, hrx⟩ := frzL_ok (vs := vs'.toList) h (by simpa using hn) (fun j c x hj hx => by rw [← hget vs' j x hx]; exact hr j c hj) hfr h1
      refine Good.pre hx1 ?_
      simp only [Sem.run_bind, hrun, Result.andThen_ok, Sem.run_pure]
      exact Good.row hm1 hi (e := e) (z := s) (p := p) (n := len) (cap := len) (vs := vs'.toList) (cs := xs) (u := .slice (some ⟨w.heap.size, 0, none⟩) len len) (w' := w.alloc (.cells vs' e)) h4 (Onl.alloc _ _ _)
       (hown vs' h4 hn h2) hlx (fun k hk => by
         obtain rfl : w.heap.size = k := by simpa [blk] using hk
         exact Nat.le_refl _) hrx
     ·cases he
   ·cases he
  ·cases he
 ·cases he
end
end Go.Proofs.YtnffigeofdagfaaDoor.M

namespace Go.Proofs.YtnffigeofdagfaaDoor.M
open Go.RowKit
set_option linter.unusedVariables false

def zN (zs : List T) (s n : Nat) : List T := (List.range (n * s)).map fun j => zs.getD (j % s) default
def aMake (P : Program) (i : Nat) (t : TypeId) (l c : AV) : Option (Bool × Eff) :=
 match elOf P t with
 | some e => match szOf P e, byOf P e, zeroOf P e, l, c with
  | some 1, some by_, some [z], .t _ (.int _ n), .t _ (.int _ m) => some (decide (0 ≤ n) && decide (n ≤ m) && decide ((by_ : Int) * m ≤ 140737488355328) && decide (0 < by_), { val := .own i (List.replicate n.toNat z).length, new := some (i, .row e 1 2 (List.replicate n.toNat z)), tch := [i] })
  | some s, some by_, some zs, .t _ (.int _ n), .t _ (.int _ m) => some (decide (1 < s) && decide (zs.length = s) && decide (0 ≤ n) && decide (n ≤ m) && decide (m * (s : Int) ≤ 140737488355328) && decide ((by_ : Int) * m ≤ 140737488355328) && decide (0 < by_), { val := .own i (zN zs s n.toNat).length, new := some (i, .row e s 2 (zN zs s n.toNat)), tch := [i] })
  | _, _, _, _, _ => none
 | none => none
theorem info_by {P : Program} {t : TypeId} {s : Nat} (h : byOf P t = some s) : ∃ i, P.info? t = some i ∧ i.bytes = s := by
 unfold byOf at h
 cases hq : P.info? t with
 | none => rw [hq] at h; cases h
 | some i => rw [hq] at h; simp only [Option.map_some, Option.some.injEq] at h; exact ⟨i, rfl, h⟩
section
variable {w0 w : World} {V S0 U : Nat → Prop} {H : Nat → Option AObj} {ob : Nat → Option (Value × Nat)} {i : Nat} {P : Program}
theorem ok_make {t : TypeId} {l c : AV} {vl vc : Value} {eff : Eff} {b : Bool} (he : aMake P i t l c = some (b, eff)) (hb : b = true) (h : MR w0 V S0 U H ob w) (hi : ¬ U i) (hl : VR (evOf w0.heap.size V ob U w) vl l) (hc : VR (evOf w0.heap.size V ob U w) vc c) :
  Good w0 V S0 U ob w i (eff.heap H) eff.val ((Instr.makeSlice t vl vc >>= fun v => pure (.value v) : Sem Next).run P w) := by
 subst hb
 unfold aMake at he
 split at he
 ·rename_i e hel
  split at he
  ·rename_i by_ z q1 k1 n q2 k2 m hs hby hz
   obtain rfl := hl.int
   obtain rfl := hc.int
   simp only [Option.some.injEq, Prod.mk.injEq, Bool.and_eq_true, decide_eq_true_eq] at he
   obtain ⟨⟨⟨⟨h1, h2⟩, h3⟩, h4⟩, rfl⟩ := he
   obtain ⟨inf, v, z1, z2, z3⟩ := zero_parts hz
   obtain ⟨inf', q1, hsz⟩ := info_sz hs
   rw [z1] at q1; injection q1 with q1; subst q1
   obtain ⟨inf', q1, hbz⟩ := info_by hby
   rw [z1] at q1; injection q1 with q1; subst q1
   have hm63 : m ≤ 140737488355328 := by
    have : (1 : Int) * m ≤ (by_ : Int) * m := Int.mul_le_mul_of_nonneg_right (by omega) (by omega)
    omega
   have hrun := run_make (P := P) w t e inf v (und_el hel) z1 z2 k1 k2 n m h1 h2 (by rw [hbz]; omega) (by omega)
   rw [hsz, Nat.mul_one] at hrun
   simp only [Sem.run_bind, hrun, Result.andThen_ok, Sem.run_pure]
   have hvr := VR.zeros (E := evOf w0.heap.size V ob U w) z3 rfl (by simp) m.toNat
   change VR _ (.agg (madeCells v.cells m.toNat)) _ at hvr
   have hsize := size_madeCells v.cells m.toNat
   obtain ⟨cur, hcur⟩ : ∃ cur, cur = madeCells v.cells m.toNat := ⟨_, rfl⟩
   rw [← hcur] at hvr hsize ⊢
   cases hvr with
   | agg vs cs hn hone hr =>
   refine Good.row h hi (n := n.toNat) (cap := m.toNat) (vs := cur.toList.take n.toNat) (by omega) (Onl.alloc _ _ _) ⟨by simp; omega, .inr ⟨w.heap.size, m.toNat, cur, rfl, by omega, heap_alloc_new w _, by omega, by simp only [maxLen]; omega, by omega, by simp⟩⟩ (by simp; omega) (fun k hk => ?_) (fun j c x hj hx => ?_)
   ·obtain rfl : w.heap.size = k := by simpa [blk] using hk
    exact Nat.le_refl _
   ·have hjn : j < n.toNat := by have := (List.getElem?_eq_some_iff.1 hj).1; simpa using this
    have hjm : j < m.toNat := by omega
    have hcz : z = c := by simpa [hjn] using hj
    subst hcz
    have h5 := hr j (.t 2 z) (by simp [hjm, Nat.mod_one])
    have hlt : j < cur.size := by omega
    have h6 : cur.getD j undef = x := by
     have : (cur.toList.take n.toNat)[j]? = some (cur.getD j undef) := by simp [Array.getD, hlt, hjn]
     rw [this] at hx
     injection hx
    rw [h6] at h5
    exact h5.rep
  ·rename_i s by_ zs q1 k1 n q2 k2 m _ hs hby hz
   obtain rfl := hl.int
   obtain rfl := hc.int
   simp only [Option.some.injEq, Prod.mk.injEq, Bool.and_eq_true, decide_eq_true_eq] at he
   obtain ⟨⟨⟨⟨⟨⟨⟨s1, s2⟩, h1⟩, h2⟩, h5⟩, h3⟩, h4⟩, rfl⟩ := he
   obtain ⟨inf, v, z1, z2, z3⟩ := zero_parts hz
   obtain ⟨inf', q1, hsz⟩ := info_sz hs
   rw [z1] at q1; injection q1 with q1; subst q1
   obtain ⟨inf', q1, hbz⟩ := info_by hby
   rw [z1] at q1; injection q1 with q1; subst q1
   have hm63 : m ≤ 140737488355328 := by
    have : (1 : Int) * m ≤ (by_ : Int) * m := Int.mul_le_mul_of_nonneg_right (by omega) (by omega)
    omega
   have hrun := run_make (P := P) w t e inf v (und_el hel) z1 z2 k1 k2 n m h1 h2 (by rw [hbz]; omega) (by omega)
   rw [hsz] at hrun
   simp only [Sem.run_bind, hrun, Result.andThen_ok, Sem.run_pure]
   have hvr := VR.zeros (E := evOf w0.heap.size V ob U w) z3 s2 (by omega) (m.toNat * s)
   change VR _ (.agg (madeCells v.cells (m.toNat * s))) _ at hvr
   have hsize := size_madeCells v.cells (m.toNat * s)
   obtain ⟨cur, hcur⟩ : ∃ cur, cur = madeCells v.cells (m.toNat * s) := ⟨_, rfl⟩
   rw [← hcur] at hvr hsize ⊢
   have hnm : n.toNat * s ≤ m.toNat * s := Nat.mul_le_mul_right _ (by omega)
   have hzl : (zN zs s n.toNat).length = n.toNat * s := by simp [zN]
   cases hvr with
   | agg vs cs hn hone hr =>
   refine Good.row h hi (n := n.toNat) (cap := m.toNat) (vs := cur.toList.take (n.toNat * s)) (by omega) (Onl.alloc _ _ _) ⟨by simp; omega, .inr ⟨w.heap.size, m.toNat, cur, rfl, by omega, heap_alloc_new w _, by omega, by simp only [maxLen]; omega, by omega, by simp⟩⟩ (by rw [hzl]; simp; omega) (fun k hk => ?_) (fun j c x hj hx => ?_)
   ·obtain rfl : w.heap.size = k := by simpa [blk] using hk
    exact Nat.le_refl _
   ·have hjn : j < n.toNat * s := by have := (List.getElem?_eq_some_iff.1 hj).1; rwa [hzl] at this
    have hjm : j < m.toNat * s := by omega
    have hcz : zs.getD (j % s) default = c := by
     unfold zN at hj
     rw [List.getElem?_map, List.getElem?_range hjn] at hj
     simpa using hj
    subst hcz
    have h5 := hr j (.t 2 (zs.getD (j % s) default)) (by simp [hjm])
    have hlt : j < cur.size := by omega
    have h6 : cur.getD j undef = x := by
     have : (cur.toList.take (n.toNat * s))[j]? = some (cur.getD j undef) := by simp [Array.getD, hlt, hjn]
     rw [this] at hx
     injection hx
    rw [h6] at h5
    exact h5.rep
  ·cases he
 ·cases he
end

def srcOf (H : Nat → Option AObj) (s : Nat) (x : AV) : Option (Bool × Nat × List T × List Nat) := match x with
 | .t q (.sl z ys) => some (decide (z = s) || ys.isEmpty, q, ys, [])
 | .own id c => match H id with
  | some (.row _ z q ys) => some (decide (ys.length = c) && decide (z = s), q, ys, [id])
  | _ => none
 | _ => none
def vecOf (H : Nat → Option AObj) (s : Nat) (x : AV) : Option (Bool × List AV × Nat) := match x with
 | .own id c => match H id with
  | some (.vec _ z _ ys) => some (decide (ys.length = c) && decide (z = s), ys, id)
  | _ => none
 | _ => none
def aAppend (P : Program) (i : Nat) (t : TypeId) (d x : AV) (H : Nat → Option AObj) : Option (Bool × Eff) :=
 match elOf P t with
 | some e => match szOf P e, byOf P e, zeroOf P e with
  | some s, some by_, some zs => match vecOf H s x with
   | some (b, ys, rd) => match d with
    | .own id c => match H id with
     | some (.vec e' z p cs) => some (b && decide (cs.length = c) && decide (z = s) && decide (e' = e) && decide (0 < by_) && decide (zs.length = s) && decide ((cs.length + ys.length) * by_ ≤ 140737488355328), { val := .own id (cs ++ ys).length, new := some (id, .vec e z p (cs ++ ys)), tch := [id, rd] })
     | some (.row e' z p cs) => match frzL H ys with
      | some (b2, q, ts, ds) => some (b && b2 && !ds.contains id && decide (cs.length = c) && decide (0 < s) && decide (z = s) && decide (e' = e) && decide (0 < by_) && decide (zs.length = s) && decide ((cs.length + ts.length) * by_ ≤ 140737488355328), { val := .own id (cs ++ ts).length, new := some (id, .row e z (min p (lvs q ts)) (cs ++ ts)), del := ds, tch := id :: rd :: ds })
      | none => none
     | _ => none
    | .t _ (.sl 0 []) => match frzL H ys with
     | some (b2, q, ts, ds) => some (b && b2 && decide (0 < s) && decide (0 < by_) && decide (zs.length = s) && decide (ts.length * by_ ≤ 140737488355328), { val := .own i ts.length, new := some (i, .row e s (lvs q ts) ts), del := ds, tch := i :: rd :: ds })
     | none => none
    | _ => none
   | none => match srcOf H s x with
    | some (b, q, ys, rd) => match d with
     | .own id c => match H id with
      | some (.row e' z p cs) => some (b && decide (cs.length = c) && decide (z = s) && decide (e' = e) && decide (0 < by_) && decide (zs.length = s) && decide ((cs.length + ys.length) * by_ ≤ 140737488355328), { val := .own id (cs ++ ys).length, new := some (id, .row e z (min p (lvs q ys)) (cs ++ ys)), tch := id :: rd })
      | some (.vec e' z p cs) => some (b && decide (cs.length = c) && decide (z = s) && decide (e' = e) && decide (0 < by_) && decide (zs.length = s) && decide ((cs.length + ys.length) * by_ ≤ 140737488355328), { val := .own id (cs ++ ys.map (AV.t q)).length, new := some (id, .vec e z p (cs ++ ys.map (AV.t q))), tch := id :: rd })
      | _ => none
     | .t _ (.sl 0 []) => some (b && decide (0 < s) && decide (0 < by_) && decide (zs.length = s) && decide (ys.length * by_ ≤ 140737488355328), { val := .own i ys.length, new := some (i, .row e s (lvs q ys) ys), tch := i :: rd })
     | _ => none
    | none => none
  | _, _, _ => none
 | none => none
theorem dels_at : ∀ (ds : List Nat) (H : Nat → Option AObj) (k : Nat), k ∉ ds → dels H ds k = H k
 | [], H, k, _ => rfl
 | d :: r, H, k, h => by
  unfold dels
  rw [dels_at r _ k (fun e => h (by simp [e]))]
  exact upd_ne _ _ (fun e => h (by simp [e]))
section
variable {w0 w : World} {V S0 U : Nat → Prop} {H : Nat → Option AObj} {ob : Nat → Option (Value × Nat)} {i : Nat} {P : Program}
theorem src_ok {s : Nat} {x : AV} {v : Value} {b : Bool} {q : Nat} {ys : List T} {rd : List Nat} (he : srcOf H s x = some (b, q, ys, rd)) (hb : b = true) (h : MR w0 V S0 U H ob w) (hv : VR (evOf w0.heap.size V ob U w) v x) :
  ∃ (a : Option Addr) (m cap : Nat) (news : List Value), v = .slice a m cap ∧ news.length = m * s ∧ news.length = ys.length ∧ (a = none → m = 0) ∧ (∀ ad, a = some ad → ∀ (j : Nat) u, news[j]? = some u → w.cell? (ad.add j) = some u) ∧ ∀ (j : Nat) c x, ys[j]? = some c → news[j]? = some x → Rep ((evOf w0.heap.size V ob U w).mem q) x c := by
 subst hb
 unfold srcOf at he
 split at he
 ·rename_i q' z ys'
  simp only [Option.some.injEq, Prod.mk.injEq, Bool.or_eq_true, decide_eq_true_eq] at he
  obtain ⟨h1, rfl, rfl, -⟩ := he
  have hrep := hv.rep
  cases hrep with
  | nil z => exact ⟨none, 0, 0, [], rfl, by simp, rfl, fun _ => rfl, fun ad h => (by cases h), fun j c x hj => by simp at hj⟩
  | emp a z hz => exact ⟨some a, 0, 0, [], rfl, by simp, rfl, fun _ => rfl, fun ad h j u hj => by simp at hj, fun j c x hj => by simp at hj⟩
  | sl b o n cap z cs vs hz hn h4 h5 hcc hrr =>
   refine ⟨some ⟨b, o, none⟩, n, cap, (List.range ys'.length).map vs, rfl, ?_, by simp, fun h => (by cases h), fun ad had j u hj => ?_, fun j c x hj hx => ?_⟩
   ·rcases h1 with h1 | h1
    ·subst h1; simpa using hn
    ·have : ys' = [] := by simpa using h1
     subst this
     have hn' : n * z = 0 := by rw [← hn]; rfl
     have hn0 : n = 0 := by rcases Nat.mul_eq_zero.1 hn' with g | g <;> omega
     simp [hn0]
   ·injection had with had
    subst had
    have hlt : j < ys'.length := by have := (List.getElem?_eq_some_iff.1 hj).1; simpa using this
    simp [hlt] at hj
    rw [← hj, add_none]
    exact memL_cell (hcc j ys'[j] (by simp))
   ·have hlt := (List.getElem?_eq_some_iff.1 hj).1
    simp [hlt] at hx
    rw [← hx]
    exact hrr j c hj
 ·rename_i id c
  split at he
  ·rename_i e z q' ys' hH
   simp only [Option.some.injEq, Prod.mk.injEq, Bool.and_eq_true, decide_eq_true_eq] at he
   obtain ⟨⟨h1, h2⟩, rfl, rfl, -⟩ := he
   subst h2
   obtain ⟨e1, -⟩ := h.own hv hH h1
   obtain ⟨-, u, e3, hz, hl, m, vs, how, hlen, hr⟩ := h.obj id _ hH
   rw [e1] at e3
   simp only [Option.some.injEq, Prod.mk.injEq] at e3
   obtain ⟨rfl, -⟩ := e3
   rcases how.2 with ⟨rfl, rfl⟩ | ⟨g, cap, cur, rfl, -, hg, hnc, hcm, hcs, htake⟩
   ·exact ⟨none, 0, 0, vs, rfl, how.1, hlen, fun _ => rfl, fun ad h => (by cases h), hr⟩
   ·exact ⟨_, m, cap, vs, rfl, how.1, hlen, fun h => (by cases h), fun ad had j u hj => by
     injection had with had
     subst had
     exact how.cells (g := g) rfl j u hj, hr⟩
  ·cases he
 ·cases he
theorem app_run {t ty e : TypeId} {inf : TypeInfo} {zv : Value} {s by_ : Nat} (ht : P.underlying t = some (.slice e)) (hi : P.info? e = some inf) (hz0 : inf.zero = some zv) (hsz : inf.size = s) (hby : inf.bytes = by_) (hzs : zv.cells.size = s) (hs : 0 < s)
  {v : Value} {n : Nat} {xs : List Value} (hown : w.ownsRow 0 e s v n xs) {a : Option Addr} {m sc : Nat} {news : List Value} (hl : news.length = m * s) (hn0 : a = none → m = 0) (hc : ∀ ad, a = some ad → ∀ (j : Nat) u, news[j]? = some u → w.cell? (ad.add j) = some u) (h1 : ∀ u ∈ news, u.oneCell' = true)
  (h63 : n + m ≤ maxLen) (hbytes : (n + m) * by_ ≤ 140737488355328) :
  ∃ v' w', (Builtin.append_ #[t, t] ty #[v, .slice a m sc]).run P w = .ok v' w' ∧ w'.ownsRow 0 e s v' (n + m) (xs ++ news) ∧ w.grownBy w' v.ownBlock ∧ (v'.ownBlock = v.ownBlock ∨ v'.ownBlock = some w.heap.size) ∧ (m = 0 → v' = v) := by
 by_cases hm : m = 0
 ·subst hm
  have hy : news = [] := List.eq_nil_of_length_eq_zero (by omega)
  subst hy
  refine ⟨v, w, ?_, by simpa using hown, ⟨rfl, rfl, rfl, Nat.le_refl _, fun _ _ _ => rfl⟩, .inl rfl, fun _ => rfl⟩
  cases a with
  | none =>
   rcases hown.2 with ⟨rfl, rfl⟩ | ⟨g, cap, cur, rfl, _, _, hnc, _⟩
   ·simp [Builtin.append_, run_underlying ht, sizeOf, typeInfo, hi, Builtin.lenOf, Builtin.firstCells]
   ·simp [Builtin.append_, run_underlying ht, sizeOf, typeInfo, hi, Builtin.lenOf, Builtin.firstCells, hnc, storeCells]
  | some ad =>
   rcases hown.2 with ⟨rfl, rfl⟩ | ⟨g, cap, cur, rfl, _, _, hnc, _⟩
   ·simp [Builtin.append_, run_underlying ht, sizeOf, typeInfo, hi, Builtin.lenOf, Builtin.firstCells, loadCells, loadCellsFrom]
   ·simp [Builtin.append_, run_underlying ht, sizeOf, typeInfo, hi, Builtin.lenOf, Builtin.firstCells, hnc, storeCells, loadCells, loadCellsFrom]
 ·cases a with
  | none => exact absurd (hn0 rfl) hm
  | some ad =>
   obtain ⟨v', w', hrun, r1, r2, _, r4⟩ := run_append_own_at (P := P) w 0 t ty e inf zv s by_ ht hi hz0 hsz hby hzs hs v n xs hown ad m sc news hl (hc ad rfl) h1 h63 hbytes (by omega)
   exact ⟨v', w', hrun, r1, r2, r4, fun h => absurd h hm⟩
theorem ownBlock_blk {v : Value} {w : World} {e s n : Nat} {xs : List Value} (h : w.ownsRow 0 e s v n xs) : v.ownBlock = blk v := by
 rcases h.2 with ⟨rfl, _⟩ | ⟨g, cap, cur, rfl, _⟩ <;> rfl
structure Src (P : Program) (w : World) (s m : Nat) (a : Option Addr) (news : List Value) : Prop where
 l : news.length = m * s
 n0 : a = none → m = 0
 c : ∀ ad, a = some ad → ∀ (j : Nat) u, news[j]? = some u → w.cell? (ad.add j) = some u
 one : ∀ u ∈ news, u.oneCell' = true
structure Ety (P : Program) (t e : TypeId) (s by_ : Nat) : Prop where
 u : P.underlying t = some (.slice e)
 i : ∃ inf zv, P.info? e = some inf ∧ inf.zero = some zv ∧ inf.size = s ∧ inf.bytes = by_ ∧ zv.cells.size = s
 s0 : 0 < s
 b0 : 0 < by_
theorem app_go {t e ty : TypeId} {s by_ : Nat} (hE : Ety P t e s by_) {v : Value} {n : Nat} {xs : List Value} (hown : w.ownsRow 0 e s v n xs) {a : Option Addr} {m sc : Nat} {news : List Value} (hs : Src P w s m a news) (hsz : (xs.length + news.length) * by_ ≤ 140737488355328) :
  ∃ v' w', (Builtin.append_ #[t, t] ty #[v, .slice a m sc]).run P w = .ok v' w' ∧ w'.ownsRow 0 e s v' (n + m) (xs ++ news) ∧ w.grownBy w' v.ownBlock ∧ (v'.ownBlock = v.ownBlock ∨ v'.ownBlock = some w.heap.size) ∧ (news.length = 0 → v' = v) := by
 obtain ⟨inf, zv, z1, z2, z3, z4, z5⟩ := hE.i
 have hnm : n + m ≤ xs.length + news.length := by
  have g1 : n ≤ n * s := Nat.le_mul_of_pos_right n hE.s0
  have g2 : m ≤ m * s := Nat.le_mul_of_pos_right m hE.s0
  have g3 := hown.1
  have g4 := hs.l
  omega
 have hby2 : (n + m) * by_ ≤ 140737488355328 := Nat.le_trans (Nat.mul_le_mul_right by_ hnm) hsz
 have hlim : n + m ≤ 140737488355328 := Nat.le_trans (Nat.le_mul_of_pos_right (n + m) hE.b0) hby2
 obtain ⟨v', w', hrun, r1, r2, r3, r4⟩ := app_run (ty := ty) (sc := sc) hE.u z1 z2 z3 z4 z5 hE.s0 hown hs.l hs.n0 hs.c hs.one (by simp only [maxLen]; omega) hby2
 refine ⟨v', w', hrun, r1, r2, r3, fun h0 => r4 ?_⟩
 have hl := hs.l
 rw [h0] at hl
 have := hE.s0
 rcases Nat.mul_eq_zero.1 hl.symm with g | g <;> omega
theorem app_row {t e ty : TypeId} {s by_ : Nat} (hE : Ety P t e s by_) (h : MR w0 V S0 U H ob w) {id c p q : Nat} {cs ys : List T} (hH : H id = some (.row e s p cs)) {vd : Value} (hd : VR (evOf w0.heap.size V ob U w) vd (.own id c)) (hc : cs.length = c) {a : Option Addr} {m sc : Nat} {news : List Value} (hs : Src P w s m a news) (hl : news.length = ys.length)
  (hrr : ∀ (j : Nat) c x, ys[j]? = some c → news[j]? = some x → Rep ((evOf w0.heap.size V ob U w).mem q) x c) (hsz : (cs.length + ys.length) * by_ ≤ 140737488355328) :
  Good w0 V S0 U ob w i (upd H id (some (.row e s (min p (lvs q ys)) (cs ++ ys)))) (.own id (cs ++ ys).length) ((Builtin.append_ #[t, t] ty #[vd, .slice a m sc] >>= fun v => pure (.value v) : Sem Next).run P w) := by
 obtain ⟨e1, e2⟩ := h.own hd hH hc
 obtain ⟨-, u, e3, hzp, hlv, n, vs, how, hlen, hr⟩ := h.obj id _ hH
 rw [e1] at e3
 simp only [Option.some.injEq, Prod.mk.injEq] at e3
 obtain ⟨rfl, -⟩ := e3
 obtain ⟨v', w', hrun, r1, r2, r3, r4⟩ := app_go (ty := ty) (sc := sc) hE how hs (by rw [hlen, hl]; exact hsz)
 simp only [Sem.run_bind, hrun, Result.andThen_ok, Sem.run_pure]
 have hb1 := ownBlock_blk how
 have hb2 := ownBlock_blk r1
 refine Good.step h (.inl rfl) id v' (.row e s (min p (lvs q ys)) (cs ++ ys)) (Onl.grown r2 (fun k hk => ⟨_, _, e1, by rw [← hb1]; exact hk⟩)) (fun _ => ⟨_, _, e1, by simp [AObj.cnt, hc], fun heq => ?_⟩) (fun k hk => ?_) (.inr e2) (fun hx' => ⟨hzp, fun k hk => ?_, n + m, vs ++ news, r1, by simp [hlen, hl], fun j c x hj hxx => ?_⟩) (fun hx' => .own _ id _ ?_ (.inl e2) (fun u' n' hu' => ?_))
 ·simp [AObj.cnt] at heq
  exact (r4 (by omega)).symm
 ·rw [← hb2] at hk
  rcases r3 with g | g
  ·exact .inl ⟨_, _, e1, by rw [← hb1, ← g]; exact hk⟩
  ·rw [g] at hk; injection hk with hk; exact .inr (by omega)
 ·rw [← hb2] at hk
  rcases r3 with g | g
  ·exact lvl_le (hlv k (by rw [← hb1, ← g]; exact hk)) (Nat.min_le_left p (lvs q ys))
  ·rw [g] at hk; injection hk with hk
   have := h.only.size
   exact .inl (by omega)
 ·by_cases hlt : j < cs.length
  ·rw [List.getElem?_append_left hlt] at hj
   rw [List.getElem?_append_left (by omega)] at hxx
   exact (hr j c x hj hxx).mono (fun b o u hu => hx'.mem _ _ _ _ (memL_le (Nat.min_le_left p (lvs q ys)) b o u hu))
  ·rw [List.getElem?_append_right (by omega)] at hj
   rw [List.getElem?_append_right (by omega), hlen] at hxx
   exact ((hrr _ c x hj hxx).lvs (M := (evOf w0.heap.size V ob U w).mem) hj).mono (fun b o u hu => hx'.mem _ _ _ _ (memL_le (Nat.min_le_right p (lvs q ys)) b o u hu))
 ·rcases r1.2 with ⟨rfl, _⟩ | ⟨g, cap, cur, rfl, _⟩ <;> rfl
 ·have hu' : upd ob id (some (v', (AObj.row e s (min p (lvs q ys)) (cs ++ ys)).cnt)) id = some (u', n') := hu'
  rw [upd_same] at hu'
  simp only [Option.some.injEq, Prod.mk.injEq] at hu'
  obtain ⟨rfl, rfl⟩ := hu'
  exact ⟨Nat.le_refl _, fun _ => rfl⟩
theorem app_vec {t e ty : TypeId} {s p by_ : Nat} (hE : Ety P t e s by_) (h : MR w0 V S0 U H ob w) {id c : Nat} {cs ys : List AV} (hH : H id = some (.vec e s p cs)) {vd : Value} (hd : VR (evOf w0.heap.size V ob U w) vd (.own id c)) (hc : cs.length = c) {a : Option Addr} {m sc : Nat} {news : List Value} (hs : Src P w s m a news) (hl : news.length = ys.length)
  (hrr : ∀ (j : Nat) c x, ys[j]? = some c → news[j]? = some x → VR (evOf w0.heap.size V ob U w) x c) (hsz : (cs.length + ys.length) * by_ ≤ 140737488355328) :
  Good w0 V S0 U ob w i (upd H id (some (.vec e s p (cs ++ ys)))) (.own id (cs ++ ys).length) ((Builtin.append_ #[t, t] ty #[vd, .slice a m sc] >>= fun v => pure (.value v) : Sem Next).run P w) := by
 obtain ⟨e1, e2⟩ := h.own hd hH hc
 obtain ⟨-, u, e3, hz, hlv, n, vs, how, hlen, hone, hr⟩ := h.obj id _ hH
 rw [e1] at e3
 simp only [Option.some.injEq, Prod.mk.injEq] at e3
 obtain ⟨rfl, -⟩ := e3
 obtain ⟨v', w', hrun, r1, r2, r3, r4⟩ := app_go (ty := ty) (sc := sc) hE how hs (by rw [hlen, hl]; exact hsz)
 simp only [Sem.run_bind, hrun, Result.andThen_ok, Sem.run_pure]
 have hb1 := ownBlock_blk how
 have hb2 := ownBlock_blk r1
 refine Good.step h (.inl rfl) id v' (.vec e s p (cs ++ ys)) (Onl.grown r2 (fun k hk => ⟨_, _, e1, by rw [← hb1]; exact hk⟩)) (fun _ => ⟨_, _, e1, by simp [AObj.cnt, hc], fun heq => ?_⟩) (fun k hk => ?_) (.inr e2) (fun hx' => ⟨hz, fun k hk => ?_, n + m, vs ++ news, r1, by simp [hlen, hl], fun x hx => ?_, fun j c x hj hxx => ?_⟩) (fun hx' => .own _ id _ ?_ (.inl e2) (fun u' n' hu' => ?_))
 ·simp [AObj.cnt] at heq
  exact (r4 (by omega)).symm
 ·rw [← hb2] at hk
  rcases r3 with g | g
  ·exact .inl ⟨_, _, e1, by rw [← hb1, ← g]; exact hk⟩
  ·rw [g] at hk; injection hk with hk; exact .inr (by omega)
 ·rw [← hb2] at hk
  rcases r3 with g | g
  ·exact hlv k (by rw [← hb1, ← g]; exact hk)
  ·rw [g] at hk; injection hk with hk
   have := h.only.size
   exact .inl (by omega)
 ·rcases List.mem_append.1 hx with hx | hx
  ·exact hone x hx
  ·exact hs.one x hx
 ·by_cases hlt : j < cs.length
  ·rw [List.getElem?_append_left hlt] at hj
   rw [List.getElem?_append_left (by omega)] at hxx
   exact (hr j c x hj hxx).ext hx'
  ·rw [List.getElem?_append_right (by omega)] at hj
   rw [List.getElem?_append_right (by omega), hlen] at hxx
   exact (hrr _ c x hj hxx).ext hx'
 ·rcases r1.2 with ⟨rfl, _⟩ | ⟨g, cap, cur, rfl, _⟩ <;> rfl
 ·have hu' : upd ob id (some (v', (AObj.vec e s p (cs ++ ys)).cnt)) id = some (u', n') := hu'
  rw [upd_same] at hu'
  simp only [Option.some.injEq, Prod.mk.injEq] at hu'
  obtain ⟨rfl, rfl⟩ := hu'
  exact ⟨Nat.le_refl _, fun _ => rfl⟩
theorem app_nil {t e ty : TypeId} {s by_ : Nat} (hE : Ety P t e s by_) (h : MR w0 V S0 U H ob w) (hi : ¬ U i) {q : Nat} {ys : List T} {a : Option Addr} {m sc : Nat} {news : List Value} (hs : Src P w s m a news) (hl : news.length = ys.length)
  (hrr : ∀ (j : Nat) c x, ys[j]? = some c → news[j]? = some x → Rep ((evOf w0.heap.size V ob U w).mem q) x c) (hsz : ys.length * by_ ≤ 140737488355328) :
  Good w0 V S0 U ob w i (upd H i (some (.row e s (lvs q ys) ys))) (.own i ys.length) ((Builtin.append_ #[t, t] ty #[.slice none 0 0, .slice a m sc] >>= fun v => pure (.value v) : Sem Next).run P w) := by
 obtain ⟨v', w', hrun, r1, r2, r3, r4⟩ := app_go (ty := ty) (sc := sc) hE (World.ownsRow_nil w 0 e s) hs (by rw [hl]; simpa using hsz)
 simp only [Sem.run_bind, hrun, Result.andThen_ok, Sem.run_pure]
 have hb2 := ownBlock_blk r1
 rw [List.nil_append] at r1
 refine Good.row h hi (n := 0 + m) (cap := 0) (vs := news) hE.s0 (Onl.grown r2 (fun k hk => by cases hk)) r1 hl (fun k hk => ?_) (fun j c x hj hx => (hrr j c x hj hx).lvs (M := (evOf w0.heap.size V ob U w).mem) hj)
 rw [← hb2] at hk
 rcases r3 with g | g
 ·rw [g] at hk; cases hk
 ·rw [g] at hk; injection hk with hk; omega
theorem vec_src {s : Nat} {x : AV} {v : Value} {b : Bool} {ys : List AV} {rd : Nat} (he : vecOf H s x = some (b, ys, rd)) (hb : b = true) (h : MR w0 V S0 U H ob w) (hv : VR (evOf w0.heap.size V ob U w) v x) :
  ∃ (a : Option Addr) (m cap : Nat) (news : List Value), v = .slice a m cap ∧ Src P w s m a news ∧ news.length = ys.length ∧ ∀ (j : Nat) c x, ys[j]? = some c → news[j]? = some x → VR (evOf w0.heap.size V ob U w) x c := by
 subst hb
 unfold vecOf at he
 split at he
 ·rename_i id c
  split at he
  ·rename_i e z pv ys' hH
   simp only [Option.some.injEq, Prod.mk.injEq, Bool.and_eq_true, decide_eq_true_eq] at he
   obtain ⟨⟨h1, rfl⟩, rfl, rfl⟩ := he
   obtain ⟨e1, -⟩ := h.own hv hH h1
   obtain ⟨-, u, e3, -, -, m, vs, how, hlen, hone, hr⟩ := h.obj id _ hH
   rw [e1] at e3
   simp only [Option.some.injEq, Prod.mk.injEq] at e3
   obtain ⟨rfl, -⟩ := e3
   rcases how.2 with ⟨rfl, rfl⟩ | ⟨g, cap, cur, rfl, -, hg, hnc, hcm, hcs, htake⟩
   ·exact ⟨none, 0, 0, vs, rfl, ⟨how.1, fun _ => rfl, fun ad h => (by cases h), hone⟩, hlen, hr⟩
   ·exact ⟨_, m, cap, vs, rfl, ⟨how.1, fun h => (by cases h), fun ad had j u hj => by
     injection had with had
     subst had
     exact how.cells (g := g) rfl j u hj, hone⟩, hlen, hr⟩
  ·cases he
 ·cases he
theorem nil_val {E : Ev} {p : Nat} {v : Value} (hd : VR E v (.t p (.sl 0 []))) : v = .slice none 0 0 := by
 have hrep := hd.rep
 cases hrep with
 | nil z => rfl
 | emp a z hz => omega
 | sl b o n cap z cs vs hz => omega
theorem ok_append {t : TypeId} {d x : AV} {vd vx : Value} {eff : Eff} {b : Bool} (he : aAppend P i t d x H = some (b, eff)) (hb : b = true) (h : MR w0 V S0 U H ob w) (hi : ¬ U i) (hd : VR (evOf w0.heap.size V ob U w) vd d) (hx : VR (evOf w0.heap.size V ob U w) vx x) (ty : TypeId) :
  Good w0 V S0 U ob w i (eff.heap H) eff.val ((Builtin.append_ #[t, t] ty #[vd, vx] >>= fun v => pure (.value v) : Sem Next).run P w) := by
 subst hb
 unfold aAppend at he
 split at he
 ·rename_i e hel
  have hu := und_el hel
  split at he
  ·rename_i s by_ zs hs hby hz
   have hE : zs.length = s → 0 < s → 0 < by_ → Ety P t e s by_ := fun h6 h4 h5 => by
    obtain ⟨inf, zv, z1, z2, z3⟩ := zero_parts hz
    obtain ⟨inf', q1, hsz⟩ := info_sz hs
    rw [z1] at q1; injection q1 with q1; subst q1
    obtain ⟨inf', q1, hbz⟩ := info_by hby
    rw [z1] at q1; injection q1 with q1; subst q1
    have hzl := (vTs_get z3).1
    exact ⟨hu, ⟨inf, zv, z1, z2, hsz, hbz, by simp at hzl; omega⟩, h4, h5⟩
   split at he
   ·rename_i vb ys rd hvec
    split at he
    ·rename_i id c
     split at he
     ·rename_i e' z p cs hH
      simp only [Option.some.injEq, Prod.mk.injEq, Bool.and_eq_true, decide_eq_true_eq] at he
      obtain ⟨⟨⟨⟨⟨⟨⟨h1, h2⟩, h3⟩, h4⟩, h5⟩, h6⟩, h7⟩, rfl⟩ := he
      subst h3 h4
      have hz0 : 0 < z := by
       obtain ⟨-, u, -, hz, -⟩ := h.obj id _ hH
       exact hz
      obtain ⟨a, m, cap, news, rfl, hsrc, hl, hrr⟩ := vec_src (P := P) hvec h1 h hx
      exact app_vec (hE h6 hz0 h5) h hH hd h2 hsrc hl hrr h7
     ·rename_i e' z p cs hH
      split at he
      ·rename_i b2 q ts ds hfr
       simp only [Option.some.injEq, Prod.mk.injEq, Bool.and_eq_true, decide_eq_true_eq] at he
       obtain ⟨⟨⟨⟨⟨⟨⟨⟨⟨⟨h1, h1b⟩, hdi⟩, h2⟩, h2b⟩, h3⟩, h4⟩, h5⟩, h6⟩, h7⟩, rfl⟩ := he
       subst h3 h4
       have hdi : id ∉ ds := by simpa using hdi
       obtain ⟨a, m, cap, news, rfl, hsrc, hl, hrr⟩ := vec_src (P := P) hvec h1 h hx
       obtain ⟨ob', m1, m2, m3, m4⟩ := frzL_ok h hl hrr hfr h1b
       refine Good.pre m2 ?_
       exact app_row (hE h6 h2b h5) m1 (by rw [dels_at _ _ _ hdi]; exact hH) (hd.ext m2) h2 hsrc m3 m4 h7
      ·cases he
     ·cases he
    ·rename_i p0
     split at he
     ·rename_i b2 q ts ds hfr
      simp only [Option.some.injEq, Prod.mk.injEq, Bool.and_eq_true, decide_eq_true_eq] at he
      obtain ⟨⟨⟨⟨⟨⟨h1, h1b⟩, h2b⟩, h5⟩, h6⟩, h7⟩, rfl⟩ := he
      obtain ⟨a, m, cap, news, rfl, hsrc, hl, hrr⟩ := vec_src (P := P) hvec h1 h hx
      obtain rfl := nil_val hd
      obtain ⟨ob', m1, m2, m3, m4⟩ := frzL_ok h hl hrr hfr h1b
      refine Good.pre m2 ?_
      exact app_nil (hE h6 h2b h5) m1 hi hsrc m3 m4 h7
     ·cases he
    ·cases he
   ·split at he
    ·rename_i sb q ys rd hsrc
     have hone : ∀ (news : List Value), news.length = ys.length → (∀ (j : Nat) c x, ys[j]? = some c → news[j]? = some x → Rep ((evOf w0.heap.size V ob U w).mem q) x c) → ∀ u ∈ news, u.oneCell' = true := fun news hl2 hrr u hu => by
      obtain ⟨j, hj, rfl⟩ := List.getElem_of_mem hu
      exact (hrr j (ys[j]'(by omega)) news[j] (by simp) (by simp)).one
     split at he
     ·rename_i id c
      split at he
      ·rename_i e' z p cs hH
       simp only [Option.some.injEq, Prod.mk.injEq, Bool.and_eq_true, decide_eq_true_eq] at he
       obtain ⟨⟨⟨⟨⟨⟨⟨h1, h2⟩, h3⟩, h4⟩, h5⟩, h6⟩, h7⟩, rfl⟩ := he
       subst h3 h4
       obtain ⟨a, m, cap, news, rfl, hl1, hl2, hn0, hcc, hrr⟩ := src_ok hsrc h1 h hx
       have hz : 0 < z := by
        obtain ⟨-, u, -, hz, -⟩ := h.obj id _ hH
        exact hz
       exact app_row (hE h6 hz h5) h hH hd h2 ⟨hl1, hn0, hcc, hone news hl2 hrr⟩ hl2 hrr h7
      ·rename_i e' z p cs hH
       simp only [Option.some.injEq, Prod.mk.injEq, Bool.and_eq_true, decide_eq_true_eq] at he
       obtain ⟨⟨⟨⟨⟨⟨⟨h1, h2⟩, h3⟩, h4⟩, h5⟩, h6⟩, h7⟩, rfl⟩ := he
       subst h3 h4
       have hz0 : 0 < z := by
        obtain ⟨-, u, -, hz, -⟩ := h.obj id _ hH
        exact hz
       obtain ⟨a, m, cap, news, rfl, hl1, hl2, hn0, hcc, hrr⟩ := src_ok hsrc h1 h hx
       refine app_vec (hE h6 hz0 h5) h hH hd h2 ⟨hl1, hn0, hcc, hone news hl2 hrr⟩ (by simpa using hl2) (fun j c x hj hx => ?_) (by simpa using h7)
       rw [List.getElem?_map] at hj
       cases hq : ys[j]? with
       | none => rw [hq] at hj; cases hj
       | some y =>
        rw [hq] at hj
        simp only [Option.map_some, Option.some.injEq] at hj
        subst hj
        exact .t _ _ _ (hrr j y x hq hx)
      ·cases he
     ·rename_i p0
      simp only [Option.some.injEq, Prod.mk.injEq, Bool.and_eq_true, decide_eq_true_eq] at he
      obtain ⟨⟨⟨⟨⟨h1, h4⟩, h5⟩, h6⟩, h7⟩, rfl⟩ := he
      obtain ⟨a, m, cap, news, rfl, hl1, hl2, hn0, hcc, hrr⟩ := src_ok hsrc h1 h hx
      obtain rfl := nil_val hd
      exact app_nil (hE h6 h4 h5) h hi ⟨hl1, hn0, hcc, hone news hl2 hrr⟩ hl2 hrr h7
     ·cases he
    ·cases he
  ·cases he
 ·cases he
end
end Go.Proofs.YtnffigeofdagfaaDoor.M
