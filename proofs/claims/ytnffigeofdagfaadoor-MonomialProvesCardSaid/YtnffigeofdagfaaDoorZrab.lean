/-
  My own logic, part 5: arithmetic, conversions; operations that make memory.
-/
import Derived.Test.YtnffigeofdagfaaDoorZraa
import Derived.Laws.BytesString
namespace Go.Proofs.YtnffigeofdagfaaDoor.M
open Go.RowKit
set_option linter.unusedVariables false

def andI (k : IntKind) (x y : Int) : Int := k.wrap ((BitVec.ofInt k.bits x &&& BitVec.ofInt k.bits y).toNat : Int)
def orI (k : IntKind) (x y : Int) : Int := k.wrap ((BitVec.ofInt k.bits x ||| BitVec.ofInt k.bits y).toNat : Int)
def andnI (k : IntKind) (x y : Int) : Int := k.wrap ((BitVec.ofInt k.bits x &&& ~~~ BitVec.ofInt k.bits y).toNat : Int)
def shlI (k : IntKind) (x y : Int) : Int := k.wrap (x * 2 ^ (min y.toNat k.bits))
def shrI (k : IntKind) (x y : Int) : Int := x.fdiv (2 ^ (min y.toNat k.bits))
@[simp] theorem shr_one (k : IntKind) (x : Int) : shrI k x 1 = x / 2 := by
 have hb : min (1 : Int).toNat k.bits = 1 := by cases k <;> rfl
 unfold shrI
 rw [hb]
 exact Int.fdiv_eq_ediv_of_nonneg x (by decide)
@[simp] theorem and_one64 (a : Int) : andI .i64 a 1 = a % 2 := by
 have h1 : (BitVec.ofInt 64 1).toNat = 1 := by decide
 show IntKind.i64.wrap ((BitVec.ofInt 64 a &&& BitVec.ofInt 64 1).toNat : Int) = a % 2
 rw [BitVec.toNat_and, h1, Nat.and_one_is_mod, BitVec.toNat_ofInt, IntKind.wrap_i64]
 omega
def iB (op : BinOp) (k : IntKind) (x y : Int) : Option (Bool × T) :=
 match op with
 | .add => some (true, .int k (k.wrap (x + y)))
 | .sub => some (true, .int k (k.wrap (x - y)))
 | .mul => some (true, .int k (k.wrap (x * y)))
 | .quo => some (decide (y ≠ 0), .int k (k.wrap (x.tdiv y)))
 | .rem => some (decide (y ≠ 0), .int k (x.tmod y))
 | .eql => some (true, .bool (x == y))
 | .neq => some (true, .bool (x != y))
 | .lss => some (true, .bool (decide (x < y)))
 | .leq => some (true, .bool (decide (x ≤ y)))
 | .gtr => some (true, .bool (decide (x > y)))
 | .geq => some (true, .bool (decide (x ≥ y)))
 | .and => some (true, .int k (andI k x y))
 | .or => some (true, .int k (orI k x y))
 | .andNot => some (true, .int k (andnI k x y))
 | .shl => some (decide (0 ≤ y), .int k (shlI k x y))
 | .shr => some (decide (0 ≤ y), .int k (shrI k x y))
 | _ => none
@[simp] def iC (op : BinOp) (k : IntKind) (x y : Int) : Option (Bool × Eff) :=
 match op with
 | .shr => some (decide (0 ≤ y), { val := .t 2 (.int k (shrI k x y)) })
 | .shl => some (decide (0 ≤ y), { val := .t 2 (.int k (shlI k x y)) })
 | _ => none
def sB (op : BinOp) (x y : ByteArray) : Option (Bool × T) :=
 match op with
 | .add => some (decide (x.size + y.size ≤ 9223372036854775807), .str (x ++ y))
 | .eql => some (true, .bool (x.toList == y.toList))
 | .neq => some (true, .bool !(x.toList == y.toList))
 | .lss => some (true, .bool (Op.bytesLess x.toList y.toList))
 | _ => none
def boolB (P : Program) (t : TypeId) : Bool := match P.underlying t with | some .bool => true | _ => false
def aBin (P : Program) (op : BinOp) (t : TypeId) (x y : AV) : Option (Bool × Eff) :=
 match x, y with
 | .t _ (.int k a), .t _ (.int k' b) => if k = k' then (iB op k a b).map fun (c, r) => (c, { val := .t 2 r }) else iC op k a b
 | .t _ (.str a), .t _ (.str b) => (sB op a b).map fun (c, r) => (c, { val := .t 2 r })
 | .t _ (.bool a), .t _ (.bool b) => if boolB P t then match op with
   | .eql => some (true, { val := .t 2 (.bool (a == b)) })
   | .neq => some (true, { val := .t 2 (.bool !(a == b)) })
   | _ => none
  else none
 | .t _ (.sl z cs), .t _ (.sl 0 []) => if (elOf P t).isSome then match op with
   | .eql => some (decide (0 < cs.length) || decide (z = 0), { val := .t 2 (.bool (decide (cs.length = 0))) })
   | .neq => some (decide (0 < cs.length) || decide (z = 0), { val := .t 2 (.bool (decide (0 < cs.length))) })
   | _ => none
  else none
 | _, _ => none
def aUn (op : UnOp) (x : AV) : Option (Bool × Eff) :=
 match op, x with
 | .neg, .t _ (.int k n) => some (true, { val := .t 2 (.int k (k.wrap (0 - n))) })
 | .not, .t _ (.bool b) => some (true, { val := .t 2 (.bool !b) })
 | _, _ => none
def intB (P : Program) (t : TypeId) : Option IntKind := match P.underlying t with | some (.int k) => some k | _ => none
def isU8 : T → Bool
 | .int .u8 _ => true
 | _ => false
def u8n : T → Int
 | .int _ n => n
 | _ => 0
def bytesT (cs : List T) : ByteArray := cs.foldl (fun r c => r.push (UInt8.ofNat (u8n c).toNat)) ByteArray.empty
def aConv (P : Program) (src dst : TypeId) (x : AV) (H : Nat → Option AObj) : Option (Bool × Eff) :=
 match x with
 | .t _ (.int _ n) => match intB P src, intB P dst with
  | some _, some k => some (true, { val := .t 2 (.int k (k.wrap n)) })
  | _, _ => none
 | .t _ (.str s) => if strB P src && strB P dst then some (true, { val := .t 2 (.str s) }) else none
 | .t _ (.sl z cs) => match elOf P src with
  | some e => if intB P e = some .u8 && strB P dst then some (cs.all isU8 && decide (z ≤ 1), { val := .t 2 (.str (bytesT cs)) }) else none
  | none => none
 | .own id c => match elOf P src, H id with
  | some e, some (.row _ z _ cs) => if intB P e = some .u8 && strB P dst then some (decide (cs.length = c) && cs.all isU8 && decide (z ≤ 1), { val := .t 2 (.str (bytesT cs)), tch := [id] }) else none
  | _, _ => none
 | _ => none
theorem und_str {P : Program} {t : TypeId} (h : strB P t = true) : P.underlying t = some .string := by
 unfold strB at h
 split at h
 ·assumption
 ·cases h
theorem und_int {P : Program} {t : TypeId} {k : IntKind} (h : intB P t = some k) : P.underlying t = some (.int k) := by
 unfold intB at h
 split at h
 ·rename_i k' h1; injection h with h; rw [h1, h]
 ·cases h
theorem und_bool {P : Program} {t : TypeId} (h : boolB P t = true) : P.underlying t = some .bool := by
 unfold boolB at h
 split at h
 ·assumption
 ·cases h
theorem bytes_cells {cs : List T} {vs : List Value} {m : Mem} (hl : vs.length = cs.length) (ha : cs.all isU8 = true) (hr : ∀ (i : Nat) c x, cs[i]? = some c → vs[i]? = some x → Rep m x c) : vs = (cs.map u8n).map (Value.int .u8) := by
 apply List.ext_getElem?
 intro i
 by_cases hi : i < cs.length
 ·have h1 := hr i cs[i] (vs[i]'(by omega)) (by simp) (by simp)
  have h2 := List.all_eq_true.1 ha cs[i] (by simp)
  have h3 : vs[i]'(by omega) = .int .u8 (u8n cs[i]) := by
   generalize cs[i] = c at *
   generalize vs[i]'(by omega) = v at *
   cases h1 with
   | int k n => cases k <;> simp [isU8] at h2 <;> rfl
   | _ => simp [isU8] at h2
  simp [hi, hl, h3]
 ·simp [hi, hl]
theorem run_bytes {P : Program} {w : World} {src dst e : TypeId} (h1 : elOf P src = some e) (h2 : intB P e = some .u8) (h3 : strB P dst = true) {b o n cap : Nat} {cs : List T} {vs : List Value} (hv : vs = (cs.map u8n).map (Value.int .u8)) (hn : vs.length = n) (hc : ∀ i v, vs[i]? = some v → w.cell? ⟨b, o + i, none⟩ = some v) :
  (convert src dst (.slice (some ⟨b, o, none⟩) n cap)).run P w = .ok (.string (bytesT cs)) w := by
 rw [run_convert_bytes_string w src dst e (some ⟨b, o, none⟩) n cap (und_el h1) (und_int h2) (und_str h3), run_bytesToString w ⟨b, o, none⟩ n cap (cs.map u8n) (by rw [← hv]; exact loadCells_own hn hc)]
 unfold bytesT
 rw [List.foldl_map]
theorem run_eq_bool {P : Program} {w : World} {t : TypeId} (h : P.underlying t = some .bool) (a b : Bool) : (Op.equal t (.bool a) (.bool b)).run P w = .ok (a == b) w := by
 have e : Op.maxDepth = 9999 + 1 := rfl
 unfold Op.equal
 rw [e, Op.equalIn, Sem.run_bind, run_underlying h]
 rfl
section
variable {w0 w : World} {V S0 U : Nat → Prop} {H : Nat → Option AObj} {ob : Nat → Option (Value × Nat)} {i : Nat} {P : Program}
theorem ok_bin {op : BinOp} {t : TypeId} {xo yo : Operand} {v u : Value} {x y : AV} {eff : Eff} {c : Bool} (he : aBin P op t x y = some (c, eff)) (hc : c = true) {E : Ev} (hv : VR E v x) (hu : VR E u y) :
  ∃ z, (do eqGuard op t xo yo v u; binOp op t v u : Sem Value).run P w = .ok z w ∧ VR E z eff.val ∧ eff.new = none ∧ eff.del = [] := by
 subst hc
 unfold aBin at he
 split at he
 ·rename_i p k a q k' b
  obtain rfl := hv.int
  obtain rfl := hu.int
  split at he
  ·rename_i hk
   subst hk
   cases op with
   | quo => simp [iB] at he; obtain ⟨h0, rfl⟩ := he; exact ⟨_, by simp [eqGuard, binOp, Op.intDiv, h0], .mkInt _ _ _ _, rfl, rfl⟩
   | rem => simp [iB] at he; obtain ⟨h0, rfl⟩ := he; exact ⟨_, by simp [eqGuard, binOp, Op.intDiv, h0], .mkInt _ _ _ _, rfl, rfl⟩
   | add => simp [iB] at he; subst he; exact ⟨_, by simp [eqGuard, binOp, Op.intArith], .mkInt _ _ _ _, rfl, rfl⟩
   | sub => simp [iB] at he; subst he; exact ⟨_, by simp [eqGuard, binOp, Op.intArith], .mkInt _ _ _ _, rfl, rfl⟩
   | mul => simp [iB] at he; subst he; exact ⟨_, by simp [eqGuard, binOp, Op.intArith], .mkInt _ _ _ _, rfl, rfl⟩
   | eql => simp [iB] at he; subst he; exact ⟨_, by simp [eqGuard, binOp, Op.intCmp], .mkBool _ _ _, rfl, rfl⟩
   | neq => simp [iB] at he; subst he; exact ⟨_, by simp [eqGuard, binOp, Op.intCmp], .mkBool _ _ _, rfl, rfl⟩
   | lss => simp [iB] at he; subst he; exact ⟨_, by simp [eqGuard, binOp, Op.intCmp], .mkBool _ _ _, rfl, rfl⟩
   | leq => simp [iB] at he; subst he; exact ⟨_, by simp [eqGuard, binOp, Op.intCmp], .mkBool _ _ _, rfl, rfl⟩
   | gtr => simp [iB] at he; subst he; exact ⟨_, by simp [eqGuard, binOp, Op.intCmp], .mkBool _ _ _, rfl, rfl⟩
   | geq => simp [iB] at he; subst he; exact ⟨_, by simp [eqGuard, binOp, Op.intCmp], .mkBool _ _ _, rfl, rfl⟩
   | and => simp [iB] at he; subst he; exact ⟨_, by simp [eqGuard, binOp, Op.intBits, andI], .mkInt _ _ _ _, rfl, rfl⟩
   | andNot => simp [iB] at he; subst he; exact ⟨_, by simp [eqGuard, binOp, Op.intBits, andnI], .mkInt _ _ _ _, rfl, rfl⟩
   | or => simp [iB] at he; subst he; exact ⟨_, by simp [eqGuard, binOp, Op.intBits, orI], .mkInt _ _ _ _, rfl, rfl⟩
   | shl => simp [iB] at he; obtain ⟨h0, rfl⟩ := he; exact ⟨_, by simp [eqGuard, binOp, Op.shift, Int.not_lt.2 h0, shlI], .mkInt _ _ _ _, rfl, rfl⟩
   | shr => simp [iB] at he; obtain ⟨h0, rfl⟩ := he; exact ⟨_, by simp [eqGuard, binOp, Op.shift, Int.not_lt.2 h0, shrI], .mkInt _ _ _ _, rfl, rfl⟩
   | _ => simp [iB] at he
  ·rename_i hk
   cases op with
   | shl => simp [iC] at he; obtain ⟨h0, rfl⟩ := he; exact ⟨_, by simp [eqGuard, binOp, Op.shift, Int.not_lt.2 h0, shlI], .mkInt _ _ _ _, rfl, rfl⟩
   | shr => simp [iC] at he; obtain ⟨h0, rfl⟩ := he; exact ⟨_, by simp [eqGuard, binOp, Op.shift, Int.not_lt.2 h0, shrI], .mkInt _ _ _ _, rfl, rfl⟩
   | _ => simp [iC] at he
 ·rename_i p a q b
  obtain rfl := hv.str
  obtain rfl := hu.str
  cases op with
  | add =>
   simp only [sB, Option.map_some, Option.some.injEq, Prod.mk.injEq, decide_eq_true_eq] at he
   obtain ⟨h0, rfl⟩ := he
   have h1 : ¬ ((a.size + b.size : Nat) : Int) > IntKind.i64.max := by
    have : IntKind.i64.max = 9223372036854775807 := rfl
    omega
   exact ⟨_, by simp only [eqGuard, binOp, Op.stringOp, if_neg h1]; simp, .mkStr _ _ _, rfl, rfl⟩
  | eql => simp [sB] at he; subst he; exact ⟨_, by simp [eqGuard, binOp, Op.stringOp], .mkBool _ _ _, rfl, rfl⟩
  | neq => simp [sB] at he; subst he; exact ⟨_, by simp [eqGuard, binOp, Op.stringOp], .mkBool _ _ _, rfl, rfl⟩
  | lss => simp [sB] at he; subst he; exact ⟨_, by simp [eqGuard, binOp, Op.stringOp], .mkBool _ _ _, rfl, rfl⟩
  | _ => simp [sB] at he
 ·rename_i p a q b
  obtain rfl := hv.bool
  obtain rfl := hu.bool
  split at he
  ·rename_i hb
   have hub := und_bool hb
   have hrun := run_eq_bool (w := w) hub a b
   cases op with
   | eql => simp at he; subst he; exact ⟨.bool (a == b), by simp [eqGuard, binOp, hrun], .mkBool _ _ _, rfl, rfl⟩
   | neq => simp at he; subst he; exact ⟨.bool !(a == b), by simp [eqGuard, binOp, hrun], .mkBool _ _ _, rfl, rfl⟩
   | _ => simp at he
  ·cases he
 ·rename_i p z cs q
  have hu0 : u = .slice none 0 0 := by
   have hrep := hu.rep
   cases hrep with
   | nil z => rfl
   | emp a z hz => omega
   | sl b o n cap z cs vs hz => omega
  subst hu0
  split at he
  ·rename_i hel
   obtain ⟨e, hel⟩ := Option.isSome_iff_exists.1 hel
   have hut := und_el hel
   obtain ⟨a, n, cap, rfl, hb⟩ : ∃ a n cap, v = .slice a n cap ∧ (0 < cs.length ∨ z = 0 → a.isNone = decide (cs.length = 0)) := by
    have hrep := hv.rep
    cases hrep with
    | nil z => exact ⟨none, 0, 0, rfl, fun _ => rfl⟩
    | emp a z hz => exact ⟨_, 0, 0, rfl, fun h => by simp at h; omega⟩
    | sl b o n cap z cs vs hz hn => exact ⟨_, n, cap, rfl, fun h => by
      have : cs.length ≠ 0 := by omega
      simpa using this⟩
   have hrun : (Op.equal t (.slice a n cap) (.slice none 0 0)).run P w = .ok a.isNone w := by
    cases a with
    | none => rw [Op.equal, show Op.maxDepth = 9999 + 1 from rfl, Op.equalIn]; simp [run_underlying hut]
    | some a => rw [Op.equal, show Op.maxDepth = 9999 + 1 from rfl, Op.equalIn]; simp [run_underlying hut]
   cases op with
   | eql =>
    simp only [Option.some.injEq, Prod.mk.injEq, Bool.or_eq_true, decide_eq_true_eq] at he
    obtain ⟨h0, rfl⟩ := he
    refine ⟨.bool a.isNone, by simp [eqGuard, binOp, hrun], ?_, rfl, rfl⟩
    rw [hb h0]
    exact .mkBool _ _ _
   | neq =>
    simp only [Option.some.injEq, Prod.mk.injEq, Bool.or_eq_true, decide_eq_true_eq] at he
    obtain ⟨h0, rfl⟩ := he
    refine ⟨.bool !a.isNone, by simp [eqGuard, binOp, hrun], ?_, rfl, rfl⟩
    rw [hb h0, show (!decide (cs.length = 0)) = decide (0 < cs.length) by
     by_cases h : cs.length = 0
     ·simp [h]
     ·have : 0 < cs.length := by omega
      simp [h, this]]
    exact .mkBool _ _ _
   | _ => simp at he
  ·cases he
 ·cases he
theorem ok_un {op : UnOp} {v : Value} {x : AV} {eff : Eff} {c : Bool} (he : aUn op x = some (c, eff)) (hc : c = true) {E : Ev} (hv : VR E v x) :
  ∃ z, (Op.unary op v).run P w = .ok z w ∧ VR E z eff.val ∧ eff.new = none ∧ eff.del = [] := by
 subst hc
 unfold aUn at he
 split at he
 ·obtain rfl := hv.int
  simp only [Option.some.injEq, Prod.mk.injEq, true_and] at he
  subst he
  exact ⟨_, by simp [Op.unary, Op.intArith], .mkInt _ _ _ _, rfl, rfl⟩
 ·obtain rfl := hv.bool
  simp only [Option.some.injEq, Prod.mk.injEq, true_and] at he
  subst he
  exact ⟨_, by simp [Op.unary], .mkBool _ _ _, rfl, rfl⟩
 ·cases he
theorem ok_conv {src dst : TypeId} {v : Value} {x : AV} {eff : Eff} {c : Bool} (he : aConv P src dst x H = some (c, eff)) (hc : c = true) (h : MR w0 V S0 U H ob w) (hv : VR (evOf w0.heap.size V ob U w) v x) :
  ∃ y, (convert src dst v).run P w = .ok y w ∧ VR (evOf w0.heap.size V ob U w) y eff.val ∧ eff.new = none ∧ eff.del = [] := by
 subst hc
 unfold aConv at he
 split at he
 ·obtain rfl := hv.int
  split at he
  ·rename_i k' k h1 h2
   simp only [Option.some.injEq, Prod.mk.injEq, true_and] at he
   subst he
   exact ⟨_, by simp [convert, run_underlying (und_int h1), run_underlying (und_int h2), Sem.run_bind, Conv.intToInt], .mkInt _ _ _ _, rfl, rfl⟩
  ·cases he
 ·rename_i p s
  obtain rfl := hv.str
  split at he
  ·rename_i hb
   simp only [Bool.and_eq_true] at hb
   simp only [Option.some.injEq, Prod.mk.injEq, true_and] at he
   subst he
   exact ⟨_, by simp [convert, run_underlying (und_str hb.1), run_underlying (und_str hb.2), Sem.run_bind], .mkStr _ _ _, rfl, rfl⟩
  ·cases he
 ·rename_i p z cs
  split at he
  ·rename_i e hel
   split at he
   ·rename_i hb
    simp only [Bool.and_eq_true, decide_eq_true_eq] at hb
    simp only [Option.some.injEq, Prod.mk.injEq, Bool.and_eq_true, decide_eq_true_eq] at he
    obtain ⟨⟨h1, h2⟩, rfl⟩ := he
    have hrep := hv.rep
    cases hrep with
    | nil z => exact ⟨_, by rw [run_convert_bytes_string w src dst e none 0 0 (und_el hel) (und_int hb.1) (und_str hb.2)]; simp [Conv.bytesToString]; rfl, .mkStr _ _ _, rfl, rfl⟩
    | emp ad z hz => exact ⟨_, by rw [run_convert_bytes_string w src dst e (some ad) 0 0 (und_el hel) (und_int hb.1) (und_str hb.2)]; simp [Conv.bytesToString]; rfl, .mkStr _ _ _, rfl, rfl⟩
    | sl b o n cap z cs vs hz hn h4 h5 hcc hrr =>
     obtain rfl : z = 1 := by omega
     have hvs : (List.range n).map vs = (cs.map u8n).map (Value.int .u8) := bytes_cells (m := (evOf w0.heap.size V ob U w).mem p) (by simp [hn]) h1 (fun i c x hi hx => by
      have hlt : i < n := by have := (List.getElem?_eq_some_iff.1 hi).1; omega
      simp [hlt] at hx
      rw [← hx]
      exact hrr i c hi)
     refine ⟨_, run_bytes hel hb.1 hb.2 hvs (by simp) (fun i v hi => ?_), .mkStr _ _ _, rfl, rfl⟩
     have hlt : i < n := by have := (List.getElem?_eq_some_iff.1 hi).1; simpa using this
     simp [hlt] at hi
     rw [← hi]
     exact memL_cell (hcc i (cs[i]'(by omega)) (by simp))
   ·cases he
  ·cases he
 ·rename_i id c
  split at he
  ·rename_i e e' z p cs hel hH
   split at he
   ·rename_i hb
    simp only [Bool.and_eq_true, decide_eq_true_eq] at hb
    simp only [Option.some.injEq, Prod.mk.injEq, Bool.and_eq_true, decide_eq_true_eq] at he
    obtain ⟨⟨⟨h1, h2⟩, h3⟩, rfl⟩ := he
    obtain ⟨e1, e2⟩ := h.own hv hH h1
    obtain ⟨-, u, e3, hz, hl, m, vs, how, hlen, hr⟩ := h.obj id _ hH
    rw [e1] at e3
    simp only [Option.some.injEq, Prod.mk.injEq] at e3
    obtain ⟨rfl, -⟩ := e3
    obtain rfl : z = 1 := by omega
    have hvs := bytes_cells hlen h2 hr
    rcases how.2 with ⟨rfl, rfl⟩ | ⟨g, cap, cur, rfl, -, hg, hnc, hcm, hcs, htake⟩
    ·have : cs = [] := by
      have := how.1
      rw [hlen] at this
      exact List.eq_nil_of_length_eq_zero (by omega)
     subst this
     exact ⟨_, by rw [run_convert_bytes_string w src dst e none 0 0 (und_el hel) (und_int hb.1) (und_str hb.2)]; simp [Conv.bytesToString]; rfl, .mkStr _ _ _, rfl, rfl⟩
    ·refine ⟨_, run_bytes hel hb.1 hb.2 hvs (by have := how.1; omega) (fun i v hi => ?_), .mkStr _ _ _, rfl, rfl⟩
     have := how.cells (g := g) rfl i v hi
     rw [Addr.add_lit] at this
     simpa using this
   ·cases he
  ·cases he
 ·cases he
end
end Go.Proofs.YtnffigeofdagfaaDoor.M
