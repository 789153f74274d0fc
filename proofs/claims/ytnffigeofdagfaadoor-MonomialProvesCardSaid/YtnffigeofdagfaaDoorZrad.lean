/-
  My own logic, part 9a: keys of maps that are structs or arrays of numbers.
  My own logic, part 9b: maps of the call's own, with keys that are numbers or strings and scalars as values.
-/
import Derived.Test.YtnffigeofdagfaaDoorZrac
import Derived.ChangeKeysEq
import Derived.WideKeyRuns
namespace Go.Proofs.YtnffigeofdagfaaDoor.M
open Go.RowKit
set_option linter.unusedVariables false

def mpTy (P : Program) (t : TypeId) : Option (TypeId × TypeId) := match P.underlying t with | some (.map k e) => some (k, e) | _ => none
def fldK (P : Program) : List Field → Nat → Bool
 | [], _ => true
 | f :: r, o => f.name != "_" && decide (f.offset = o) && decide (intB P f.type = some .i64) && fldK P r (o + 1)
def kagB (P : Program) (K : TypeId) : Option Nat := match P.underlying K with
 | some (.struct fs) => if fldK P fs.toList 0 && !P.stoodInHeld K then some fs.size else none
 | some (.array n e) => if decide (intB P e = some .i64) && decide (szOf P e = some 1) then some n else none
 | _ => none
def isI64 : T → Bool
 | .int .i64 _ => true
 | _ => false
def kEqL : List T → List T → Bool
 | [], [] => true
 | .int _ a :: r, .int _ b :: s => a == b && kEqL r s
 | _, _ => false
def kOK (P : Program) (K : TypeId) (x : T) : Bool := match x with
 | .int k _ => decide (intB P K = some k)
 | .str _ => strB P K
 | .sl z cs => decide (z = 99) && decide (kagB P K = some cs.length) && cs.all isI64
 | _ => false
def kEq : T → T → Bool
 | .int _ a, .int _ b => a == b
 | .str a, .str b => a == b
 | .sl _ a, .sl _ b => kEqL a b
 | _, _ => false
def keyL : List AV → Option (List T)
 | [] => some []
 | .t _ (.int .i64 n) :: r => (keyL r).map (.int .i64 n :: ·)
 | _ => none

theorem kEqL_map : ∀ (a b : List Int), kEqL (a.map (T.int .i64)) (b.map (T.int .i64)) = decide (a = b)
 | [], [] => by simp [kEqL]
 | [], _ :: _ => by simp [kEqL]
 | _ :: _, [] => by simp [kEqL]
 | x :: a, y :: b => by
  simp only [List.map_cons, kEqL, kEqL_map a b]
  by_cases h : x = y
  ·subst h; simp
  ·simp [h]
theorem KR.key {m : Mem} {v : Value} {cs : List T} {z : Nat} (h : KR m v (.sl z cs)) : z = 99 ∧ ∃ ns : List Int, v = .agg (ns.map (Value.int .i64)).toArray ∧ cs = ns.map (T.int .i64) := by
 generalize hx : T.sl z cs = x at h
 cases h with
 | one v x h hx' => exact absurd hx.symm (hx' _ _)
 | agg ns =>
  injection hx with h1 h2
  exact ⟨h1, ns, rfl, h2⟩
theorem KR.rep {m : Mem} {v : Value} {x : T} (h : KR m v x) (hx : ∀ z cs, x ≠ .sl z cs) : Rep m v x := by
 cases h with
 | one v x h _ => exact h
 | agg ns => exact absurd rfl (hx _ _)
theorem keyL_spec {E : Ev} : ∀ {ks : List AV} {ts : List T}, keyL ks = some ts → ∀ (vs : List Value), vs.length = ks.length → (∀ (i : Nat) c v, ks[i]? = some c → vs[i]? = some v → VR E v c) → ∃ ns : List Int, ts = ns.map (T.int .i64) ∧ vs = ns.map (Value.int .i64)
 | [], ts, h, vs, hl, _ => by
  simp only [keyL, Option.some.injEq] at h
  subst h
  exact ⟨[], rfl, List.eq_nil_of_length_eq_zero (by simpa using hl)⟩
 | k :: r, ts, h, [], hl, _ => by simp at hl
 | k :: r, ts, h, v :: vs, hl, hr => by
  unfold keyL at h
  split at h
  ·rename_i heq; cases heq
  ·rename_i p n r' heq
   simp only [List.cons.injEq] at heq
   obtain ⟨rfl, rfl⟩ := heq
   obtain ⟨ts', h1, h2⟩ := Option.map_eq_some_iff.1 h
   obtain ⟨ns, h3, h4⟩ := keyL_spec h1 vs (by simpa using hl) (fun i c v hi hv => hr (i + 1) c v (by simpa using hi) (by simpa using hv))
   have h5 := (hr 0 _ v rfl rfl).int
   exact ⟨n :: ns, by rw [← h2, h3]; rfl, by rw [h4, h5]; rfl⟩
  ·cases h
section
variable {P : Program} {w : World}
theorem run_partI {e : TypeId} (he : intB P e = some .i64) {xs : Array Value} {off : Nat} {v : Value} (hx : xs[off]? = some v) : (part e xs off).run P w = .ok v w := by
 refine run_part_plain w ?_ hx
 simp [Program.plainKey, und_int he]
theorem eqFieldsI (d : Nat) (as bs : List Int) : ∀ (fs : List Field) (o : Nat), fldK P fs o = true → fs.length + o = as.length → as.length = bs.length → (Op.eqFields (d + 1) (as.map (Value.int .i64)).toArray (bs.map (Value.int .i64)).toArray fs).run P w = .ok (decide (as.drop o = bs.drop o)) w
 | [], o, _, h1, h2 => by
  have e1 : as.drop o = [] := List.drop_eq_nil_of_le (by simp at h1; omega)
  have e2 : bs.drop o = [] := List.drop_eq_nil_of_le (by simp at h1; omega)
  simp [Op.eqFields, e1, e2]
 | f :: fs, o, hf, h1, h2 => by
  simp only [fldK, Bool.and_eq_true, bne_iff_ne, decide_eq_true_eq] at hf
  obtain ⟨⟨⟨f1, f2⟩, f3⟩, f4⟩ := hf
  simp only [List.length_cons] at h1
  have ho : o < as.length := by omega
  have ho2 : o < bs.length := by omega
  subst f2
  have e1 : (as.map (Value.int .i64)).toArray[f.offset]? = some (.int .i64 as[f.offset]) := by simp [ho]
  have e2 : (bs.map (Value.int .i64)).toArray[f.offset]? = some (.int .i64 bs[f.offset]) := by simp [ho2]
  simp only [Op.eqFields, f1, ne_eq, not_false_eq_true, if_true, Sem.run_bind, run_partI f3 e1, run_partI f3 e2, Result.andThen_ok, run_equalIn_int w d f.type .i64 .i64 _ _ (und_int f3)]
  rw [List.drop_eq_getElem_cons ho, List.drop_eq_getElem_cons ho2]
  by_cases hq : as[f.offset] = bs[f.offset]
  ·simp only [hq, beq_self_eq_true, Bool.not_true, Bool.false_eq_true, if_false, eqFieldsI d as bs fs (f.offset + 1) f4 (by omega) h2, List.cons.injEq, true_and]
  ·have e3 : (as[f.offset] == bs[f.offset]) = false := by simpa using hq
   have e4 : decide (as[f.offset] :: as.drop (f.offset + 1) = bs[f.offset] :: bs.drop (f.offset + 1)) = false := by
    rw [decide_eq_false_iff_not, List.cons.injEq]; exact fun h => hq h.1
   simp only [e3, e4, Bool.not_false, if_true, Sem.run_pure]
theorem eqItemsI (d : Nat) {e : TypeId} (he : intB P e = some .i64) (as bs : List Int) : ∀ (n o : Nat), n + o = as.length → as.length = bs.length → (Op.eqItems (d + 1) e 1 (as.map (Value.int .i64)).toArray (bs.map (Value.int .i64)).toArray (List.range' o n)).run P w = .ok (decide (as.drop o = bs.drop o)) w
 | 0, o, h1, h2 => by
  have e1 : as.drop o = [] := List.drop_eq_nil_of_le (by omega)
  have e2 : bs.drop o = [] := List.drop_eq_nil_of_le (by omega)
  simp [Op.eqItems, e1, e2]
 | n + 1, o, h1, h2 => by
  have ho : o < as.length := by omega
  have ho2 : o < bs.length := by omega
  have e1 : (as.map (Value.int .i64)).toArray[o * 1]? = some (.int .i64 as[o]) := by simp [ho]
  have e2 : (bs.map (Value.int .i64)).toArray[o * 1]? = some (.int .i64 bs[o]) := by simp [ho2]
  rw [List.range'_succ]
  simp only [Op.eqItems, Sem.run_bind, run_partI he e1, run_partI he e2, Result.andThen_ok, run_equalIn_int w d e .i64 .i64 _ _ (und_int he)]
  rw [List.drop_eq_getElem_cons ho, List.drop_eq_getElem_cons ho2]
  by_cases hq : as[o] = bs[o]
  ·simp only [hq, beq_self_eq_true, Bool.not_true, Bool.false_eq_true, if_false, eqItemsI d he as bs n (o + 1) (by omega) h2, List.cons.injEq, true_and]
  ·have e3 : (as[o] == bs[o]) = false := by simpa using hq
   have e4 : decide (as[o] :: as.drop (o + 1) = bs[o] :: bs.drop (o + 1)) = false := by
    rw [decide_eq_false_iff_not, List.cons.injEq]; exact fun h => hq h.1
   simp only [e3, e4, Bool.not_false, if_true, Sem.run_pure]
theorem kag_wide {K : TypeId} {n : Nat} (h : kagB P K = some n) : (match P.underlying K with | some (.array _ _) | some (.struct _) => true | _ => false) = true := by
 unfold kagB at h
 cases hu : P.underlying K with
 | none => rw [hu] at h; cases h
 | some d => cases d <;> simp [hu] at h ⊢
theorem equalK {K : TypeId} {as bs : List Int} (h : kagB P K = some as.length) (hl : as.length = bs.length) : (Op.equal K (.agg (as.map (Value.int .i64)).toArray) (.agg (bs.map (Value.int .i64)).toArray)).run P w = .ok (decide (as = bs)) w := by
 unfold kagB at h
 unfold Op.equal
 split at h
 ·rename_i fs hu
  split at h
  ·rename_i hb
   simp only [Bool.and_eq_true, Bool.not_eq_true'] at hb
   simp only [Option.some.injEq] at h
   have hfs : P.fieldsOf K = fs := by simp [Program.fieldsOf, hu]
   rw [show Op.maxDepth = 9999 + 1 from rfl, run_equalIn_struct w 9999 K _ _ (by rw [hfs]; exact hu) hb.2, hfs, show 9999 = 9998 + 1 from rfl, eqFieldsI 9998 as bs fs.toList 0 hb.1 (by simpa using h) hl]
   simp
  ·cases h
 ·rename_i n e hu
  split at h
  ·rename_i hb
   simp only [Bool.and_eq_true, decide_eq_true_eq] at hb
   simp only [Option.some.injEq] at h
   subst h
   obtain ⟨i, hi1, hi2⟩ := info_sz hb.2
   have hc : P.cellsOf e = 1 := by simp [Program.cellsOf, hi1, hi2]
   rw [show Op.maxDepth = 9999 + 1 from rfl, run_equalIn_array w 9999 _ _ hu hi1, hc, show 9999 = 9998 + 1 from rfl, List.range_eq_range', eqItemsI 9998 hb.1 as bs as.length 0 rfl hl]
   simp
  ·cases h
 ·cases h
theorem run_checkI {e : TypeId} (he : intB P e = some .i64) (b : Bool) (d : Nat) (n : Int) : (Instr.checkKey b (d + 1) e (.int .i64 n)).run P w = .ok () w := by
 rw [Instr.checkKey, Sem.run_bind, run_underlying (und_int he)]
 rfl
theorem checkK {K : TypeId} {as : List Int} (h : kagB P K = some as.length) (b : Bool) : (Instr.checkKey b 10000 K (.agg (as.map (Value.int .i64)).toArray)).run P w = .ok () w := by
 unfold kagB at h
 split at h
 ·rename_i fs hu
  split at h
  ·rename_i hb
   simp only [Bool.and_eq_true, Bool.not_eq_true'] at hb
   simp only [Option.some.injEq] at h
   rw [show 10000 = 9998 + 1 + 1 from rfl, Instr.checkKey]
   simp only [Sem.run_bind, run_underlying hu, Result.andThen_ok]
   rw [← Array.forIn_toList]
   have key : ∀ (L : List Field) (o : Nat), fldK P L o = true → L.length + o = as.length → (forIn L PUnit.unit fun (f : Field) (_ : PUnit) => (do
     if f.name ≠ "_" then
      let __do_lift ← part f.type (as.map (Value.int .i64)).toArray f.offset
      Instr.checkKey b (9998 + 1) f.type __do_lift
      pure (ForInStep.yield PUnit.unit)
     else pure (ForInStep.yield PUnit.unit) : Sem (ForInStep PUnit))).run P w = .ok PUnit.unit w := by
    intro L
    induction L with
    | nil => intro o _ _; simp
    | cons f L ih =>
     intro o hf hlen
     simp only [fldK, Bool.and_eq_true, bne_iff_ne, decide_eq_true_eq] at hf
     obtain ⟨⟨⟨f1, f2⟩, f3⟩, f4⟩ := hf
     simp only [List.length_cons] at hlen
     have ho : o < as.length := by omega
     subst f2
     have e1 : (as.map (Value.int .i64)).toArray[f.offset]? = some (.int .i64 as[f.offset]) := by simp [ho]
     simp only [List.forIn_cons, Sem.run_bind, f1, ne_eq, not_false_eq_true, if_true, Result.andThen_ok, run_partI f3 e1, run_checkI f3, Sem.run_pure]
     exact ih (f.offset + 1) f4 (by omega)
   have := key fs.toList 0 hb.1 (by simpa using h)
   simp at this ⊢
   rw [this]
   rfl
  ·cases h
 ·rename_i n e hu
  split at h
  ·rename_i hb
   simp only [Bool.and_eq_true, decide_eq_true_eq] at hb
   simp only [Option.some.injEq] at h
   subst h
   rw [show 10000 = 9998 + 1 + 1 from rfl, Instr.checkKey]
   simp only [Sem.run_bind, run_underlying hu, Result.andThen_ok]
   simp only [Std.Legacy.Range.forIn_eq_forIn_range', Std.Legacy.Range.size, Nat.sub_zero, Nat.add_one_sub_one, Nat.div_one]
   have key : ∀ (L : List Nat), (∀ j ∈ L, j < as.length) → (forIn L PUnit.unit fun (i : Nat) (_ : PUnit) => (do
     let __do_lift ← sizeOf e
     let __do_lift ← part e (as.map (Value.int .i64)).toArray (i * __do_lift)
     Instr.checkKey b (9998 + 1) e __do_lift
     pure (ForInStep.yield PUnit.unit) : Sem (ForInStep PUnit))).run P w = .ok PUnit.unit w := by
    intro L
    induction L with
    | nil => intro _; simp
    | cons j L ih =>
     intro hj
     have hj0 := hj j (by simp)
     have e1 : (as.map (Value.int .i64)).toArray[j * 1]? = some (.int .i64 as[j]) := by simp [hj0]
     simp only [List.forIn_cons, Sem.run_bind, run_szOf hb.2, Result.andThen_ok, run_partI hb.1 e1, run_checkI hb.1, Sem.run_pure]
     exact ih (fun y hy => hj y (by simp [hy]))
   have := key (List.range' 0 as.length) (fun j hj => by simpa using (List.mem_range'_1.1 hj).2)
   simp at this ⊢
   rw [this]
   rfl
  ·cases h
 ·cases h
theorem bitsK (ns : List Int) : Instr.sameBits 10000 (.agg (ns.map (Value.int .i64)).toArray) (.agg (ns.map (Value.int .i64)).toArray) = true := by
 show Instr.sameBits (9999 + 1) _ _ = true
 simp only [Instr.sameBits, beq_self_eq_true, Bool.true_and, List.all_eq_true]
 intro p hp
 obtain ⟨i, hi, e⟩ := List.getElem_of_mem hp
 rw [List.getElem_zip] at e
 rw [← e]
 simp [Instr.sameBits]
end
end Go.Proofs.YtnffigeofdagfaaDoor.M

namespace Go.Proofs.YtnffigeofdagfaaDoor.M
open Go.RowKit
set_option linter.unusedVariables false

def fndT (k : T) : List (T × T) → Option Nat
 | [] => none
 | e :: r => if kEq k e.1 then some 0 else (fndT k r).map (· + 1)
def aMkMap (P : Program) (i : Nat) (t : TypeId) : Option (Bool × Eff) := match mpTy P t with
 | some (K, Y) => some (true, { val := .own i 0, new := some (i, .map K Y []), tch := [i] })
 | none => none
def aMapUpd (P : Program) (t : TypeId) (m k v : AV) (H : Nat → Option AObj) : Option (Bool × Eff) :=
 match mpTy P t, m, k, v with
 | some (K, Y), .own id c, .t _ x, .t _ y => match H id with
  | some (.map K' Y' es) => some (decide (c = 0) && kOK P K x && es.all (fun e => kOK P K e.1) && scal y && scal x, { val := .any, new := some (id, .map K' Y' (match fndT x es with | some j => es.set j (x, y) | none => es ++ [(x, y)])), tch := [id] })
  | _ => none
 | some (K, Y), .own id c, .agg ks, .t _ y => match H id, keyL ks with
  | some (.map K' Y' es), some x => some (decide (c = 0) && kOK P K (.sl 99 x) && es.all (fun e => kOK P K e.1) && scal y, { val := .any, new := some (id, .map K' Y' (match fndT (.sl 99 x) es with | some j => es.set j (.sl 99 x, y) | none => es ++ [(.sl 99 x, y)])), tch := [id] })
  | _, _ => none
 | _, _, _, _ => none
def zero1 (P : Program) (t : TypeId) : Option T := ((P.info? t).bind (·.zero)).bind vT
def aLookup (P : Program) (t : TypeId) (m k : AV) (ok : Bool) (H : Nat → Option AObj) : Option (Bool × Eff) :=
 match mpTy P t, m, k with
 | some (K, Y), .own id c, .t _ x => match H id, zero1 P Y with
  | some (.map K' Y' es), some z => some (decide (c = 0) && kOK P K x && es.all (fun e => kOK P K e.1) && scal x,
    { val := (match fndT x es with
      | some j => if ok then .tup [.t 2 (es.getD j default).2, .t 2 (.bool true)] else .t 2 (es.getD j default).2
      | none => if ok then .tup [.t 2 z, .t 2 (.bool false)] else .t 2 z), tch := [id] })
  | _, _ => none
 | some (K, Y), .own id c, .agg ks => match H id, zero1 P Y, keyL ks with
  | some (.map K' Y' es), some z, some x => some (decide (c = 0) && kOK P K (.sl 99 x) && es.all (fun e => kOK P K e.1),
    { val := (match fndT (.sl 99 x) es with
      | some j => if ok then .tup [.t 2 (es.getD j default).2, .t 2 (.bool true)] else .t 2 (es.getD j default).2
      | none => if ok then .tup [.t 2 z, .t 2 (.bool false)] else .t 2 z), tch := [id] })
  | _, _, _ => none
 | some (K, Y), .t _ .nilm, .t _ x => match zero1 P Y with
  | some z => some (kOK P K x && scal x, { val := if ok then .tup [.t 2 z, .t 2 (.bool false)] else .t 2 z })
  | none => none
 | _, _, _ => none
theorem ba_beq {a b : ByteArray} : (a == b) = true ↔ a = b := by
 cases a; cases b
 rename_i x y
 have e : ((ByteArray.mk x) == (ByteArray.mk y)) = (x == y) := rfl
 rw [e]
 simp
theorem und_map {P : Program} {t K Y : TypeId} (h : mpTy P t = some (K, Y)) : P.underlying t = some (.map K Y) := by
 unfold mpTy at h
 split at h
 ·rename_i k e he; simp only [Option.some.injEq, Prod.mk.injEq] at h; rw [he, h.1, h.2]
 ·cases h
def kO1 (P : Program) (K : TypeId) (x : T) : Bool := match x with
 | .int k _ => decide (intB P K = some k)
 | .str _ => strB P K
 | _ => false
theorem kO1_of {P : Program} {K : TypeId} {x : T} (hx : kOK P K x = true) (h : ∀ z cs, x ≠ .sl z cs) : kO1 P K x = true := by
 cases x <;> first | exact hx | exact absurd rfl (h _ _)
theorem same_of {P : Program} {K : TypeId} {d : TypeDesc} (hd : P.underlying K = some d) {x y : T} (hx : kO1 P K x = true) (hy : kO1 P K y = true) {m m' : Mem} {v u : Value} (hv : Rep m v x) (hu : Rep m' u y) : Instr.sameNow d v u = some (kEq x y) := by
 cases hv with
 | int k n =>
  have h1 := und_int (of_decide_eq_true hx)
  rw [hd] at h1
  injection h1 with h1
  subst h1
  cases hu with
  | int k' n' =>
   have h2 := und_int (of_decide_eq_true hy)
   rw [hd] at h2
   injection h2 with h2
   injection h2 with h2
   subst h2
   simp [Instr.sameNow, kEq]
  | str s =>
   have h2 := und_str (show strB P K = true from hy)
   rw [hd] at h2
   injection h2 with h2
   cases h2
  | _ => simp [kO1] at hy
 | str s =>
  have h1 := und_str (show strB P K = true from hx)
  rw [hd] at h1
  injection h1 with h1
  subst h1
  cases hu with
  | int k' n' =>
   have h2 := und_int (of_decide_eq_true hy)
   rw [hd] at h2
   injection h2 with h2
   cases h2
  | str s => simp [Instr.sameNow, kEq]
  | _ => simp [kO1] at hy
 | _ => simp [kO1] at hx
theorem find_of {P : Program} {K : TypeId} {d : TypeDesc} (hd : P.underlying K = some d) {x : T} (hx : kO1 P K x = true) {m m2 : Mem} {v : Value} (hv : Rep m v x) : ∀ (xs : List MapEntry) (es : List (T × T)) (i : Nat), xs.length = es.length → (es.all fun e => kO1 P K e.1) = true → (∀ (j : Nat) k y e, es[j]? = some (k, y) → xs[j]? = some e → Rep m2 e.key k) →
  Instr.findNow d v xs i = some (match fndT x es with | some j => (xs[j]?).map (fun e => (i + j, e.val)) | none => none)
 | [], [], i, _, _, _ => rfl
 | [], _ :: _, _, h, _, _ => by simp at h
 | _ :: _, [], _, h, _, _ => by simp at h
 | e :: xs, (k, y) :: es, i, hl, ha, hr => by
  simp only [List.all_cons, Bool.and_eq_true] at ha
  have h1 := same_of hd hx ha.1 hv (hr 0 k y e rfl rfl)
  unfold Instr.findNow
  rw [h1]
  simp only [fndT]
  cases hk : kEq x k with
  | true => simp
  | false =>
   have ih := find_of hd hx hv xs es (i + 1) (by simpa using hl) ha.2 (fun j k y e h1 h2 => hr (j + 1) k y e (by simpa using h1) (by simpa using h2))
   simp only [ih]
   cases fndT x es with
   | none => rfl
   | some j =>
    simp only [Bool.false_eq_true, if_false, Option.map_some, List.getElem?_cons_succ]
    congr 2
    funext e
    rw [show i + 1 + j = i + (j + 1) by omega]
theorem noKag {x : T} {P : Program} {K : TypeId} (hx : kOK P K x = true) (hK : kagB P K = none) (z : Nat) (cs : List T) : x ≠ .sl z cs := fun e => by
 subst e
 simp only [kOK, Bool.and_eq_true, decide_eq_true_eq] at hx
 rw [hK] at hx
 cases hx.1.2
theorem KR.int_of {m : Mem} {v : Value} {x : T} {P : Program} {K : TypeId} (h : KR m v x) (hx : kOK P K x = true) (hK : kagB P K = none) : Rep m v x := h.rep fun z cs e => by
 subst e
 simp only [kOK, Bool.and_eq_true, decide_eq_true_eq] at hx
 rw [hK] at hx
 cases hx.1.2
theorem kag_key {P : Program} {K : TypeId} {n : Nat} (h : kagB P K = some n) {y : T} (hy : kOK P K y = true) : ∃ cs, y = .sl 99 cs ∧ cs.length = n := by
 unfold kOK at hy
 have hw := kag_wide h
 split at hy
 ·rw [und_int (of_decide_eq_true hy)] at hw; cases hw
 ·rw [und_str hy] at hw; cases hw
 ·simp only [Bool.and_eq_true, decide_eq_true_eq] at hy
  obtain ⟨⟨rfl, h2⟩, -⟩ := hy
  rw [h] at h2
  injection h2 with h2
  exact ⟨_, rfl, h2.symm⟩
 ·cases hy
theorem kag_none {P : Program} {K : TypeId} {x : T} (hx : kOK P K x = true) (h : ∀ z cs, x ≠ .sl z cs) : kagB P K = none := by
 cases hq : kagB P K with
 | none => rfl
 | some n =>
  obtain ⟨cs, rfl, -⟩ := kag_key hq hx
  exact absurd rfl (h _ _)
theorem find_ask {P : Program} {w : World} {K : TypeId} {ns : List Int} (hK : kagB P K = some ns.length) {m2 : Mem} : ∀ (xs : List MapEntry) (es : List (T × T)) (i : Nat), xs.length = es.length → (es.all fun e => kOK P K e.1) = true → (∀ (j : Nat) k y e, es[j]? = some (k, y) → xs[j]? = some e → KR m2 e.key k) →
  (Instr.findAsking K (.agg (ns.map (Value.int .i64)).toArray) xs i).run P w = .ok (match fndT (.sl 99 (ns.map (T.int .i64))) es with | some j => (xs[j]?).map (fun e => (i + j, e.val)) | none => none) w
 | [], [], i, _, _, _ => rfl
 | [], _ :: _, _, h, _, _ => by simp at h
 | _ :: _, [], _, h, _, _ => by simp at h
 | e :: xs, (k, y) :: es, i, hl, ha, hr => by
  simp only [List.all_cons, Bool.and_eq_true] at ha
  have h0 := hr 0 k y e rfl rfl
  obtain ⟨cs, rfl, hcl⟩ := kag_key hK ha.1
  obtain ⟨-, ms, hk1, rfl⟩ := h0.key
  have hml : ns.length = ms.length := by simpa using hcl.symm
  have h1 := equalK (P := P) (w := w) hK hml
  unfold Instr.findAsking
  rw [hk1, Sem.run_bind, h1]
  simp only [fndT, kEq, kEqL_map, Result.andThen_ok]
  by_cases hq : ns = ms
  ·simp [hq]
  ·have ih := find_ask hK (m2 := m2) xs es (i + 1) (by simpa using hl) ha.2 (fun j k y e h1 h2 => hr (j + 1) k y e (by simpa using h1) (by simpa using h2)) (w := w)
   simp only [hq, decide_false, Bool.false_eq_true, if_false, ih]
   cases fndT (.sl 99 (ns.map (T.int .i64))) es with
   | none => rfl
   | some j =>
    simp only [Option.map_some, List.getElem?_cons_succ]
    congr 2
    funext e
    rw [show i + 1 + j = i + (j + 1) by omega]
theorem fnd_lt {x : T} : ∀ {es : List (T × T)} {j : Nat}, fndT x es = some j → j < es.length ∧ ∃ e, es[j]? = some e ∧ kEq x e.1 = true
 | [], j, h => by simp [fndT] at h
 | e :: r, j, h => by
  unfold fndT at h
  by_cases hk : kEq x e.1 = true
  ·rw [if_pos hk] at h
   injection h with h
   subst h
   exact ⟨by simp, e, rfl, hk⟩
  ·rw [if_neg hk] at h
   cases hq : fndT x r with
   | none => rw [hq] at h; cases h
   | some j' =>
    rw [hq] at h
    simp only [Option.map_some, Option.some.injEq] at h
    subst h
    obtain ⟨h1, e2, h2, h3⟩ := fnd_lt hq
    exact ⟨by simp; omega, e2, by simpa using h2, h3⟩
theorem run_checkKey {P : Program} {w : World} {K : TypeId} {x : T} (hx : kO1 P K x = true) {m : Mem} {v : Value} (hv : Rep m v x) (b : Bool) : (Instr.checkKey b 10000 K v).run P w = .ok () w := by
 have e : (10000 : Nat) = 9999 + 1 := rfl
 rw [e, Instr.checkKey, Sem.run_bind]
 cases hv with
 | int k n => rw [run_underlying (und_int (of_decide_eq_true hx))]; rfl
 | str s => rw [run_underlying (und_str (show strB P K = true from hx))]; rfl
 | _ => simp [kO1] at hx
theorem same_bits {x y : T} {m m' : Mem} {v u : Value} (hk : kEq y x = true) (hv : Rep m v x) (hu : Rep m' u y) {P : Program} {K : TypeId} (hx : kO1 P K x = true) (hy : kO1 P K y = true) : Instr.sameBits 10000 v u = true := by
 cases hv with
 | int k n =>
  cases hu with
  | int k' n' =>
   have h1 := of_decide_eq_true hx
   have h2 := of_decide_eq_true hy
   rw [h1] at h2
   injection h2 with h2
   subst h2
   simp [kEq] at hk
   simp [Instr.sameBits, hk]
  | _ => simp [kEq] at hk
 | str s =>
  cases hu with
  | str s' =>
   have : s' = s := ba_beq.1 hk
   subst this
   have h : (s' == s') = true := ba_beq.2 rfl
   simp only [Instr.sameBits, h]
  | _ => simp [kEq] at hk
 | _ => simp [kO1] at hx
theorem find_any {P : Program} {w : World} {K : TypeId} {x : T} (hx : kOK P K x = true) {m m2 : Mem} {v : Value} (hv : KR m v x) (xs : List MapEntry) (es : List (T × T)) (hl : xs.length = es.length) (ha : (es.all fun e => kOK P K e.1) = true) (hr : ∀ (j : Nat) k y e, es[j]? = some (k, y) → xs[j]? = some e → KR m2 e.key k) :
  (Instr.findKey K v xs).run P w = .ok (match fndT x es with | some j => (xs[j]?).map (fun e => (0 + j, e.val)) | none => none) w := by
 cases hv with
 | one v x hv hxs =>
  have hK := kag_none hx hxs
  obtain ⟨d, hd⟩ : ∃ d, P.underlying K = some d := by
   cases x with
   | int k n => exact ⟨_, und_int (of_decide_eq_true hx)⟩
   | str s => exact ⟨_, und_str (show strB P K = true from hx)⟩
   | sl z cs => exact absurd rfl (hxs _ _)
   | _ => simp [kOK] at hx
  have ha1 : (es.all fun e => kO1 P K e.1) = true := List.all_eq_true.2 fun e he => kO1_of (List.all_eq_true.1 ha e he) (noKag (List.all_eq_true.1 ha e he) hK)
  have hfind := find_of hd (kO1_of hx hxs) hv xs es 0 hl ha1 (fun j k y e q1 q2 => (hr j k y e q1 q2).int_of (List.all_eq_true.1 ha (k, y) (List.mem_of_getElem? q1)) hK)
  simp only [Instr.findKey, Sem.run_bind, run_underlying hd, Result.andThen_ok, hfind]
  rfl
 | agg ns =>
  simp only [kOK, Bool.and_eq_true, decide_eq_true_eq, List.length_map] at hx
  rw [run_findKey_eq w (kag_wide hx.1.2)]
  exact find_ask hx.1.2 xs es 0 hl ha hr
theorem check_any {P : Program} {w : World} {K : TypeId} {x : T} (hx : kOK P K x = true) {m : Mem} {v : Value} (hv : KR m v x) (b : Bool) : (Instr.checkKey b 10000 K v).run P w = .ok () w := by
 cases hv with
 | one v x hv hxs => exact run_checkKey (kO1_of hx hxs) hv b
 | agg ns =>
  simp only [kOK, Bool.and_eq_true, decide_eq_true_eq, List.length_map] at hx
  exact checkK hx.1.2 b
theorem bits_any {x y : T} {m m' : Mem} {v u : Value} (hk : kEq y x = true) (hv : KR m v x) (hu : KR m' u y) {P : Program} {K : TypeId} (hx : kOK P K x = true) (hy : kOK P K y = true) : Instr.sameBits 10000 v u = true := by
 cases hv with
 | one v x hv hxs =>
  have hK := kag_none hx hxs
  exact same_bits hk hv (hu.int_of hy hK) (kO1_of hx hxs) (kO1_of hy (noKag hy hK))
 | agg ns =>
  simp only [kOK, Bool.and_eq_true, decide_eq_true_eq, List.length_map] at hx
  obtain ⟨cs, rfl, hcl⟩ := kag_key hx.1.2 hy
  obtain ⟨-, ms, rfl, rfl⟩ := hu.key
  simp only [kEq, kEqL_map, decide_eq_true_eq] at hk
  subst hk
  exact bitsK _
theorem KR.free {m m' : Mem} {v : Value} {x : T} {P : Program} {K : TypeId} (h : KR m v x) (hx : kOK P K x = true) : KR m' v x := by
 cases h with
 | one v x h hs =>
  refine .one v x (h.scal ?_) hs
  cases x <;> first | rfl | exact absurd rfl (hs _ _)
 | agg ns => exact .agg ns
theorem noSl {x : T} (h : scal x = true) (z : Nat) (cs : List T) : x ≠ .sl z cs := fun e => by subst e; cases h
theorem keyR {E : Ev} {p : Nat} {v : Value} {x : T} (h : VR E v (.t p x)) {P : Program} {K : TypeId} (hx : kOK P K x = true) (hs : ∀ z cs, x ≠ .sl z cs) : KR (E.mem p) v x := .one v x h.rep hs
theorem keyA {E : Ev} {v : Value} {ks : List AV} {x : List T} (h : VR E v (.agg ks)) (hk : keyL ks = some x) : KR (E.mem 0) v (.sl 99 x) := by
 cases h with
 | agg vs cs hn h1 hr =>
  obtain ⟨ns, rfl, h3⟩ := keyL_spec hk vs.toList (by simpa using hn) (fun i c v hi hv => by
   have := hr i c hi
   have hlt : i < vs.size := by have := (List.getElem?_eq_some_iff.1 hv).1; simpa using this
   have hv2 : vs[i] = v := by simpa [hlt] using hv
   simpa [Array.getD, hlt, hv2] using this)
  have : vs = (ns.map (Value.int .i64)).toArray := by rw [← h3]
  rw [this]
  exact .agg ns
section
variable {w0 w : World} {V S0 U : Nat → Prop} {H : Nat → Option AObj} {ob : Nat → Option (Value × Nat)} {i : Nat} {P : Program}
theorem ok_mkMap {t : TypeId} {eff : Eff} {c : Bool} (he : aMkMap P i t = some (c, eff)) (h : MR w0 V S0 U H ob w) (hi : ¬ U i) :
  Good w0 V S0 U ob w i (eff.heap H) eff.val ((Instr.makeMap t none >>= fun v => pure (.value v) : Sem Next).run P w) := by
 unfold aMkMap at he
 split at he
 ·rename_i K Y hm
  simp only [Option.some.injEq, Prod.mk.injEq] at he
  obtain ⟨-, rfl⟩ := he
  have hrun : (Instr.makeMap t none).run P w = .ok (.map (some w.heap.size)) (w.alloc (.map #[] 0)) := by simp [Instr.makeMap]
  simp only [Sem.run_bind, hrun, Result.andThen_ok, Sem.run_pure]
  refine Good.step h (.inl rfl) i (.map (some w.heap.size)) (.map K Y []) (Onl.alloc _ _ _) (fun hU => absurd hU hi) (fun k hk => .inr ?_) (.inl rfl) (fun hx => ⟨w.heap.size, 0, #[], rfl, heap_alloc_new w _, rfl, fun j k x e hj => by simp at hj⟩) (fun hx => .own _ i 0 rfl (.inr rfl) (fun u n hu => ?_))
  ·obtain rfl : w.heap.size = k := by simpa [blk] using hk
   exact Nat.le_refl _
  ·have hu : upd ob i (some (.map (some w.heap.size), (AObj.map K Y []).cnt)) i = some (u, n) := hu
   rw [upd_same] at hu
   simp only [Option.some.injEq, Prod.mk.injEq] at hu
   obtain ⟨rfl, rfl⟩ := hu
   exact ⟨Nat.le_refl _, fun _ => rfl⟩
 ·cases he
theorem mapUpd_go {t K Y id p' p : Nat} {x y' : T} {K' Y' : TypeId} {es : List (T × T)} {vm vk vy : Value} {c : Nat} (hmt : mpTy P t = some (K, Y)) (h1 : c = 0) (h2 : kOK P K x = true) (h3 : (es.all fun e => kOK P K e.1) = true) (h4 : scal y' = true) (hH : H id = some (.map K' Y' es)) (h : MR w0 V S0 U H ob w) (hm : VR (evOf w0.heap.size V ob U w) vm (.own id c)) (hk : KR ((evOf w0.heap.size V ob U w).mem p) vk x) (hy : VR (evOf w0.heap.size V ob U w) vy (.t p' y')) :
  Good w0 V S0 U ob w i (upd H id (some (.map K' Y' (match fndT x es with | some j => es.set j (x, y') | none => es ++ [(x, y')])))) .any ((do Instr.mapUpdate t vm vk vy; pure .skip : Sem Next).run P w) := by
 subst h1
 obtain ⟨e1, e2⟩ := h.own hm hH rfl
 obtain ⟨-, u, e3, r, clock, xs, rfl, hg, hsz, hr⟩ := h.obj id _ hH
 rw [e1] at e3
 simp only [Option.some.injEq, Prod.mk.injEq] at e3
 obtain ⟨rfl, -⟩ := e3
 have hfind := fun w' : World => find_any (P := P) (w := w') h2 hk xs.toList es (by simpa using hsz) h3 (fun j k y e q1 q2 => (hr j k y e q1 (by simpa using q2)).1)
 have hrun0 : (Instr.mapUpdate t (.map (some r)) vk vy).run P w = ((match (match fndT x es with | some j => (xs.toList[j]?).map (fun (e : MapEntry) => (0 + j, e.val)) | none => none : Option (Nat × Value)) with
   | some (i, _) => do
    let key ← Instr.keyThatStays (((xs[i]?).map (fun (e : MapEntry) => e.key)).getD vk) vk
    setObj r (.map (xs.modify i fun e => { e with key, val := vy }) clock)
   | none => setObj r (.map (xs.push { key := vk, val := vy, born := clock }) (clock + 1)) : Sem Unit)).run P w := by
  simp only [Instr.mapUpdate, Sem.run_bind, run_underlying (und_map hmt), Result.andThen_ok, getObj, Sem.run, hg, check_any h2 hk, hfind]
  rfl
 have hlt : r < w.heap.size := lt_of_block hg
 have hset : ∀ (ys : Array MapEntry) (cl : Nat), (setObj r (.map ys cl)).run P w = .ok () { w with heap := w.heap.setIfInBounds r (.map ys cl) } := fun ys cl => by
  simp [setObj, Sem.run, hg]
 have honl : ∀ (o : Obj), Onl (fun k => ∃ u n, ob id = some (u, n) ∧ blk u = some k) w { w with heap := w.heap.setIfInBounds r o } := fun o =>
  ⟨rfl, rfl, rfl, by simp, fun k hk hn => by
   have hne : r ≠ k := fun e => hn ⟨_, _, e1, by rw [← e]; rfl⟩
   show (w.heap.setIfInBounds r o)[k]? = _
   rw [Array.getElem?_setIfInBounds, if_neg hne]⟩
 have hnew : ∀ (o : Obj), ({ w with heap := w.heap.setIfInBounds r o } : World).heap[r]? = some o := fun o => by
  show (w.heap.setIfInBounds r o)[r]? = _
  rw [Array.getElem?_setIfInBounds, if_pos rfl, if_pos hlt]
 have fin : ∀ (ys : Array MapEntry) (cl : Nat) (fs : List (T × T)), ys.size = fs.length → (∀ (j : Nat) k z e, fs[j]? = some (k, z) → ys[j]? = some e → KR noM e.key k ∧ Rep noM e.val z) →
   Good w0 V S0 U ob w i (upd H id (some (.map K' Y' fs))) .any (.ok .skip { w with heap := w.heap.setIfInBounds r (.map ys cl) }) := fun ys cl fs hl hrr => by
  refine Good.step h (.inr ⟨rfl, rfl⟩) id (.map (some r)) (.map K' Y' fs) (honl _) (fun _ => ⟨_, _, e1, Nat.le_refl _, fun _ => rfl⟩) (fun k hk => .inl ⟨_, _, e1, hk⟩) (.inr e2) (fun hx => ⟨r, cl, ys, rfl, hnew _, hl, hrr⟩) (fun _ => .any _)
 cases hf : fndT x es with
 | none =>
  rw [hf] at hrun0
  simp only [hset] at hrun0
  simp only [Sem.run_bind, hrun0, Result.andThen_ok, Sem.run_pure]
  refine fin _ _ (es ++ [(x, y')]) (by simp [hsz]) (fun j k z e q1 q2 => ?_)
  by_cases hj : j < es.length
  ·rw [List.getElem?_append_left hj] at q1
   rw [Array.getElem?_push, if_neg (by omega)] at q2
   obtain ⟨g1, g2⟩ := hr j k z e q1 q2
   exact ⟨g1, g2⟩
  ·rw [List.getElem?_append_right (by omega)] at q1
   have hj2 : j = es.length := by
    have := (List.getElem?_eq_some_iff.1 q1).1
    simp at this
    omega
   subst hj2
   rw [Nat.sub_self] at q1
   simp only [List.getElem?_cons_zero, Option.some.injEq, Prod.mk.injEq] at q1
   obtain ⟨rfl, rfl⟩ := q1
   rw [Array.getElem?_push, if_pos (by omega)] at q2
   injection q2 with q2
   subst q2
   exact ⟨hk.free h2, hy.rep.scal h4⟩
 | some j0 =>
  obtain ⟨hj0, e0, he0, hke⟩ := fnd_lt hf
  have hjx : j0 < xs.size := by omega
  have hent : xs[j0]? = some xs[j0] := by simp [hjx]
  have hkx := hr j0 e0.1 e0.2 xs[j0] he0 hent
  have hok0 : kOK P K e0.1 = true := List.all_eq_true.1 h3 e0 (List.mem_of_getElem? he0)
  have hsb := bits_any hke hkx.1 hk hok0 h2
  rw [hf] at hrun0
  have hl2 : xs.toList[j0]? = some xs[j0] := by simp [hjx]
  simp only [hl2, Option.map_some, Nat.zero_add, hent, Option.getD_some, Instr.keyThatStays, hsb, if_true, Sem.run_bind, Sem.run_pure, Result.andThen_ok, hset] at hrun0
  simp only [Sem.run_bind, hrun0, Result.andThen_ok, Sem.run_pure]
  refine fin _ _ (es.set j0 (x, y')) (by simp [hsz]) (fun j k z e q1 q2 => ?_)
  rw [List.getElem?_set] at q1
  rw [Array.getElem?_modify] at q2
  by_cases ej : j0 = j
  ·subst ej
   rw [if_pos rfl, if_pos hj0] at q1
   rw [if_pos rfl] at q2
   simp only [Option.some.injEq, Prod.mk.injEq] at q1
   obtain ⟨rfl, rfl⟩ := q1
   rw [hent] at q2
   simp only [Option.map_some, Option.some.injEq] at q2
   subst q2
   exact ⟨hk.free h2, hy.rep.scal h4⟩
  ·rw [if_neg ej] at q1 q2
   obtain ⟨g1, g2⟩ := hr j k z e q1 q2
   exact ⟨g1, g2⟩
theorem ok_mapUpd {t : TypeId} {m k y : AV} {vm vk vy : Value} {eff : Eff} {c : Bool} (he : aMapUpd P t m k y H = some (c, eff)) (hc : c = true) (h : MR w0 V S0 U H ob w) (hm : VR (evOf w0.heap.size V ob U w) vm m) (hk : VR (evOf w0.heap.size V ob U w) vk k) (hy : VR (evOf w0.heap.size V ob U w) vy y) :
  Good w0 V S0 U ob w i (eff.heap H) eff.val ((do Instr.mapUpdate t vm vk vy; pure .skip : Sem Next).run P w) := by
 subst hc
 unfold aMapUpd at he
 split at he
 ·rename_i K Y id c p x p' y' hmt
  split at he
  ·rename_i K' Y' es hH
   simp only [Option.some.injEq, Prod.mk.injEq, Bool.and_eq_true, decide_eq_true_eq] at he
   obtain ⟨⟨⟨⟨⟨h1, h2⟩, h3⟩, h4⟩, h5⟩, rfl⟩ := he
   exact mapUpd_go hmt h1 h2 h3 h4 hH h hm (keyR hk h2 (noSl h5)) hy
  ·cases he
 ·rename_i K Y id c ks p' y' hmt
  split at he
  ·rename_i K' Y' es x hH hkl
   simp only [Option.some.injEq, Prod.mk.injEq, Bool.and_eq_true, decide_eq_true_eq] at he
   obtain ⟨⟨⟨⟨h1, h2⟩, h3⟩, h4⟩, rfl⟩ := he
   exact mapUpd_go hmt h1 h2 h3 h4 hH h hm (keyA hk hkl) hy
  ·cases he
 ·cases he
theorem zero1_run {Y : TypeId} {z : T} (hz : zero1 P Y = some z) : ∃ zv, (zeroValue Y).run P w = .ok zv w ∧ vT zv = some z := by
 obtain ⟨zv, hzv, hzt⟩ : ∃ zv, (P.info? Y).bind (·.zero) = some zv ∧ vT zv = some z := by
  unfold zero1 at hz
  cases hq : (P.info? Y).bind (·.zero) with
  | none => rw [hq] at hz; cases hz
  | some zv => rw [hq] at hz; exact ⟨zv, rfl, hz⟩
 refine ⟨zv, ?_, hzt⟩
 cases hq : P.info? Y with
 | none => rw [hq] at hzv; cases hzv
 | some inf => rw [hq] at hzv; simp at hzv; simp [zeroValue, typeInfo, hq, hzv]
theorem lookup_go {t K Y id p : Nat} {x z : T} {K' Y' : TypeId} {es : List (T × T)} {vm vk : Value} {b : Bool} {c : Nat} (hmt : mpTy P t = some (K, Y)) (hz : zero1 P Y = some z) (h1 : c = 0) (h2 : kOK P K x = true) (h3 : (es.all fun e => kOK P K e.1) = true) (hH : H id = some (.map K' Y' es)) (h : MR w0 V S0 U H ob w) (hm : VR (evOf w0.heap.size V ob U w) vm (.own id c)) (hk : KR ((evOf w0.heap.size V ob U w).mem p) vk x) :
  ∃ y, (Instr.lookup t vm vk b).run P w = .ok y w ∧ VR (evOf w0.heap.size V ob U w) y (match fndT x es with
      | some j => if b then .tup [.t 2 (es.getD j default).2, .t 2 (.bool true)] else .t 2 (es.getD j default).2
      | none => if b then .tup [.t 2 z, .t 2 (.bool false)] else .t 2 z) := by
 subst h1
 obtain ⟨e1, e2⟩ := h.own hm hH rfl
 obtain ⟨-, u, e3, r, clock, xs, rfl, hg, hsz, hr⟩ := h.obj id _ hH
 rw [e1] at e3
 simp only [Option.some.injEq, Prod.mk.injEq] at e3
 obtain ⟨rfl, -⟩ := e3
 have hfind := fun w' : World => find_any (P := P) (w := w') h2 hk xs.toList es (by simpa using hsz) h3 (fun j k y e q1 q2 => (hr j k y e q1 (by simpa using q2)).1)
 obtain ⟨zv, hzv, hzt⟩ : ∃ zv, (P.info? Y).bind (·.zero) = some zv ∧ vT zv = some z := by
  unfold zero1 at hz
  cases hq : (P.info? Y).bind (·.zero) with
  | none => rw [hq] at hz; cases hz
  | some zv => rw [hq] at hz; exact ⟨zv, rfl, hz⟩
 have hzrun : (zeroValue Y).run P w = .ok zv w := by
  cases hq : P.info? Y with
  | none => rw [hq] at hzv; cases hzv
  | some inf => rw [hq] at hzv; simp at hzv; simp [zeroValue, typeInfo, hq, hzv]
 have hrun0 : (Instr.lookup t (.map (some r)) vk b).run P w = ((do
   let (v, ok) ← match (match fndT x es with | some j => (xs.toList[j]?).map (fun (e : MapEntry) => (0 + j, e.val)) | none => none : Option (Nat × Value)) with
    | some (_, v) => pure (v, true)
    | none => pure (← zeroValue Y, false)
   pure (if b then .tuple #[v, .bool ok] else v) : Sem Value)).run P w := by
  simp only [Instr.lookup, Sem.run_bind, run_underlying (und_map hmt), Result.andThen_ok, getObj, Sem.run, hg, Sem.run_pure, check_any h2 hk, hfind]
  rfl
 cases hf : fndT x es with
 | none =>
  rw [hf] at hrun0
  refine ⟨if b then .tuple #[zv, .bool false] else zv, ?_, ?_⟩
  ·rw [hrun0]
   simp [hzrun]
  ·cases b
   ·exact .t _ 2 _ (Rep.vT hzt)
   ·refine .tup _ _ rfl (fun j c hj => ?_)
    cases j with
    | zero => simp at hj; subst hj; exact .t _ 2 _ (Rep.vT hzt)
    | succ j => cases j with
     | zero => simp at hj; subst hj; exact .mkBool _ _ _
     | succ j => simp at hj
 | some j0 =>
  obtain ⟨hj0, e0, he0, hke⟩ := fnd_lt hf
  have hjx : j0 < xs.size := by omega
  have hent : xs[j0]? = some xs[j0] := by simp [hjx]
  have hl2 : xs.toList[j0]? = some xs[j0] := by simp [hjx]
  have hkx := hr j0 e0.1 e0.2 xs[j0] he0 hent
  have hgd : es.getD j0 default = e0 := by simp [he0]
  rw [hf] at hrun0
  simp only [hl2, Option.map_some] at hrun0
  refine ⟨if b then .tuple #[xs[j0].val, .bool true] else xs[j0].val, ?_, ?_⟩
  ·rw [hrun0]
   simp
  ·simp only [hgd]
   cases b
   ·exact .t _ 2 _ (hkx.2.mono (noM_le _))
   ·refine .tup _ _ rfl (fun j c hj => ?_)
    cases j with
    | zero => simp at hj; subst hj; exact .t _ 2 _ (hkx.2.mono (noM_le _))
    | succ j => cases j with
     | zero => simp at hj; subst hj; exact .mkBool _ _ _
     | succ j => simp at hj
theorem ok_lookup {t : TypeId} {m k : AV} {vm vk : Value} {b : Bool} {eff : Eff} {c : Bool} (he : aLookup P t m k b H = some (c, eff)) (hc : c = true) (h : MR w0 V S0 U H ob w) (hm : VR (evOf w0.heap.size V ob U w) vm m) (hk : VR (evOf w0.heap.size V ob U w) vk k) :
  ∃ y, (Instr.lookup t vm vk b).run P w = .ok y w ∧ VR (evOf w0.heap.size V ob U w) y eff.val ∧ eff.new = none ∧ eff.del = [] := by
 subst hc
 unfold aLookup at he
 split at he
 ·rename_i K Y id c p x hmt
  split at he
  ·rename_i K' Y' es z hH hz
   simp only [Option.some.injEq, Prod.mk.injEq, Bool.and_eq_true, decide_eq_true_eq] at he
   obtain ⟨⟨⟨⟨h1, h2⟩, h3⟩, h5⟩, rfl⟩ := he
   obtain ⟨y, g1, g2⟩ := lookup_go (b := b) hmt hz h1 h2 h3 hH h hm (keyR hk h2 (noSl h5))
   exact ⟨y, g1, g2, rfl, rfl⟩
  ·cases he
 ·rename_i K Y id c ks hmt
  split at he
  ·rename_i K' Y' es z x hH hz hkl
   simp only [Option.some.injEq, Prod.mk.injEq, Bool.and_eq_true, decide_eq_true_eq] at he
   obtain ⟨⟨⟨h1, h2⟩, h3⟩, rfl⟩ := he
   obtain ⟨y, g1, g2⟩ := lookup_go (b := b) hmt hz h1 h2 h3 hH h hm (keyA hk hkl)
   exact ⟨y, g1, g2, rfl, rfl⟩
  ·cases he
 ·rename_i K Y p q x hmt
  split at he
  ·rename_i z hz
   simp only [Option.some.injEq, Prod.mk.injEq, Bool.and_eq_true] at he
   obtain ⟨⟨h2, h5⟩, rfl⟩ := he
   obtain rfl := hm.nilm
   obtain ⟨zv, hzr, hzt⟩ := zero1_run (w := w) hz
   refine ⟨if b then .tuple #[zv, .bool false] else zv, ?_, ?_, rfl, rfl⟩
   ·have hf : (Instr.findKey K vk []).run P w = .ok none w := by
     have := find_any (P := P) (w := w) h2 (keyR hk h2 (noSl h5)) [] [] rfl rfl (m2 := fun _ _ => none) (fun j k y e q1 _ => by simp at q1)
     simpa [fndT] using this
    simp only [Instr.lookup, Sem.run_bind, run_underlying (und_map hmt), Result.andThen_ok, Sem.run_pure, check_any h2 (keyR hk h2 (noSl h5)), hf, hzr]
   ·cases b
    ·exact .t _ 2 _ (Rep.vT hzt)
    ·refine .tup _ _ rfl (fun j c hj => ?_)
     cases j with
     | zero => simp at hj; subst hj; exact .t _ 2 _ (Rep.vT hzt)
     | succ j => cases j with
      | zero => simp at hj; subst hj; exact .mkBool _ _ _
      | succ j => simp at hj
  ·cases he
 ·cases he
end
end Go.Proofs.YtnffigeofdagfaaDoor.M
