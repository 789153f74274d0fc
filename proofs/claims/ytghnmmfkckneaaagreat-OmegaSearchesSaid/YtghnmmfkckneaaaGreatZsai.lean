/-
  My own library: how slices of integers, of bools and of rows read in a world, and what keeps them; small laws on endings.
  Plain mathematics of multiplication tables (chapter 14): the shape of a table, associativity, Light's test. No program in sight.
  Walks: the shape of a table (semigroupref14.Shape, mult.shape).
  Walks: semigroupref14.Associative, Validate, Valid; semigrouplaw20.small, large.
  Walks of functions that only read: In, within, Same, SameRows, MaySearch, small, large.
-/
import Derived.Test.YtghnmmfkckneaaaGreatProg
import Derived.WalkKit
import Derived.WalkSpells
import Derived.WalkLawsBesides
import Derived.Lib.Hide
import Derived.Deep.QuietTactic
import Derived.BigQuiet
namespace Go.Proofs.YtghnmmfkckneaaaGreat
open Go.RowKit
set_option linter.unusedVariables false

def lnx {α : Type} (xs : List α) : Nat := xs.length
def nthx {α : Type} [Inhabited α] (xs : List α) (i : Nat) : α := xs.getD i default

def Sl {α : Type} [Inhabited α] (enc : α → Value) (w : World) (v : Value) (xs : List α) : Prop :=
 ∃ a cap, v = .slice a (lnx xs) cap ∧ lnx xs ≤ cap ∧ cap ≤ 9223372036854775807 ∧ (0 < lnx xs → ∃ b o, a = some ⟨b, o, none⟩ ∧ ∀ i, i < lnx xs → w.cell? ⟨b, o + i, none⟩ = some (enc (nthx xs i)))

def Sl2 {α : Type} [Inhabited α] (enc : α → Value) (w : World) (v : Value) (t : List (List α)) : Prop :=
 ∃ a cap, v = .slice a (lnx t) cap ∧ lnx t ≤ cap ∧ cap ≤ 9223372036854775807 ∧ (0 < lnx t → ∃ b o, a = some ⟨b, o, none⟩ ∧ ∀ i, i < lnx t → ∃ u, w.cell? ⟨b, o + i, none⟩ = some u ∧ Sl enc w u (nthx t i))

abbrev Ints := Sl (Value.int .i64)
abbrev Rows2 := Sl2 (Value.int .i64)

def Keeps (w w' : World) : Prop := ∀ p u, w.cell? p = some u → w'.cell? p = some u

theorem Keeps.refl (w : World) : Keeps w w := fun _ _ h => h
theorem Keeps.trans {a b c : World} (h : Keeps a b) (k : Keeps b c) : Keeps a c := fun p u e => k p u (h p u e)
theorem Keeps.below {w w' : World} (h : Below w.heap.size w w') : Keeps w w' := fun p u e => (h.cell (World.block_lt_of_cell? w p e)).trans e
theorem Keeps.drewN (w : World) (k : Nat) : Keeps w (w.drewN k) := fun _ _ h => h
theorem Keeps.drew (w : World) : Keeps w w.drew := fun _ _ h => h
theorem Keeps.alloc (w : World) (o : Obj) : Keeps w (w.alloc o) := fun p u e => (World.cell?_alloc_lt w o p (World.block_lt_of_cell? w p e)).trans e

theorem Sl.keep {α : Type} [Inhabited α] {enc : α → Value} {w w' : World} {v : Value} {xs : List α} (h : Sl enc w v xs) (hk : Keeps w w') : Sl enc w' v xs := by
 obtain ⟨a, cap, rfl, h1, h2, h3⟩ := h
 refine ⟨a, cap, rfl, h1, h2, fun h0 => ?_⟩
 obtain ⟨b, o, rfl, hc⟩ := h3 h0
 exact ⟨b, o, rfl, fun i hi => hk _ _ (hc i hi)⟩

theorem Sl2.keep {α : Type} [Inhabited α] {enc : α → Value} {w w' : World} {v : Value} {t : List (List α)} (h : Sl2 enc w v t) (hk : Keeps w w') : Sl2 enc w' v t := by
 obtain ⟨a, cap, rfl, h1, h2, h3⟩ := h
 refine ⟨a, cap, rfl, h1, h2, fun h0 => ?_⟩
 obtain ⟨b, o, rfl, hc⟩ := h3 h0
 refine ⟨b, o, rfl, fun i hi => ?_⟩
 obtain ⟨u, hu, hs⟩ := hc i hi
 exact ⟨u, hk _ _ hu, hs.keep hk⟩

def Tab (w : World) (v : Value) (n : Nat) (T : Nat → Nat → Nat) : Prop :=
 ∃ b o cap, ∃ rb ro rc : Nat → Nat, v = .slice (some ⟨b, o, none⟩) n cap ∧ 0 < n ∧ n ≤ 400 ∧
  (∀ r, r < n → w.cell? ⟨b, o + r, none⟩ = some (.slice (some ⟨rb r, ro r, none⟩) n (rc r))) ∧
  (∀ r c, r < n → c < n → w.cell? ⟨rb r, ro r + c, none⟩ = some (.int .i64 (T r c))) ∧
  (∀ r c, r < n → c < n → T r c < n)

theorem Tab.keep {w w' : World} {v : Value} {n : Nat} {T : Nat → Nat → Nat} (h : Tab w v n T) (hk : Keeps w w') : Tab w' v n T := by
 obtain ⟨b, o, cap, rb, ro, rc, rfl, h0, h4, h1, h2, h3⟩ := h
 exact ⟨b, o, cap, rb, ro, rc, rfl, h0, h4, fun r hr => hk _ _ (h1 r hr), fun r c hr hc => hk _ _ (h2 r c hr hc), h3⟩

theorem choose_nat {P : Nat → Nat → Nat → Nat → Prop} {n : Nat} (h : ∀ r, r < n → ∃ a b c, P r a b c) : ∃ A B C : Nat → Nat, ∀ r, r < n → P r (A r) (B r) (C r) := by
 classical
 refine ⟨fun r => if hr : r < n then (h r hr).choose else 0, fun r => if hr : r < n then (h r hr).choose_spec.choose else 0,
  fun r => if hr : r < n then (h r hr).choose_spec.choose_spec.choose else 0, fun r hr => ?_⟩
 simp only [hr, dif_pos]
 exact (h r hr).choose_spec.choose_spec.choose_spec

theorem ret_int {k : IntKind} {a b : Int} (h : a = b) : Ending.returned (.int k a) = .returned (.int k b) := by rw [h]
theorem results_tmp4 {fn : Func} {t u v x : Tmp} (h : fn.results = #[.tmp t, .tmp u, .tmp v, .tmp x]) (tmps : Array Value) (P : Program) (w : World) :
  (results fn tmps).run P w = .ok (.tuple #[tmps.getD t undef, tmps.getD u undef, tmps.getD v undef, tmps.getD x undef]) w := by simp [results, h]

theorem bne_t {a b : Int} (h : a ≠ b) : (a != b) = true := by rw [bne_iff_ne]; exact h
theorem bne_f {a b : Int} (h : a = b) : (a != b) = false := by rw [h]; simp
theorem beq_t {a b : Int} (h : a = b) : (a == b) = true := by rw [h]; simp
theorem beq_f {a b : Int} (h : a ≠ b) : (a == b) = false := by rw [beq_eq_false_iff_ne]; exact h

end Go.Proofs.YtghnmmfkckneaaaGreat

namespace Go.Proofs.YtghnmmfkckneaaaGreat
set_option linter.unusedVariables false
open Go.RowKit

def rowOk (t : List (List Int)) (r : Nat) : Prop := lnx (nthx t r) = lnx t ∧ ∀ i, i < lnx (nthx t r) → 0 ≤ nthx (nthx t r) i ∧ nthx (nthx t r) i < lnx t

open Classical in
noncomputable def shapeF (t : List (List Int)) : Int :=
 if 400 < lnx t then 3 else if lnx t = 0 then 4 else if ∀ r, r < lnx t → rowOk t r then 0 else 4

theorem shape_large {t : List (List Int)} (h1 : 400 < lnx t) : shapeF t = 3 := by unfold shapeF; rw [if_pos h1]
theorem shape_empty {t : List (List Int)} (h1 : ¬ 0 < lnx t) : shapeF t = 4 := by unfold shapeF; rw [if_neg (by omega), if_pos (by omega)]
theorem shape_bad {t : List (List Int)} (h1 : ¬ 400 < lnx t) (r : Nat) (hr : r < lnx t) (h : ¬ rowOk t r) : shapeF t = 4 := by
 unfold shapeF
 rw [if_neg h1, if_neg (by omega), if_neg (fun H => h (H r hr))]
theorem shape_good {t : List (List Int)} (h1 : ¬ 400 < lnx t) (h0 : 0 < lnx t) (h : ∀ r, r < lnx t → rowOk t r) : shapeF t = 0 := by
 unfold shapeF
 rw [if_neg h1, if_neg (by omega), if_pos h]
theorem shape_inv {t : List (List Int)} (h : shapeF t = 0) : 0 < lnx t ∧ lnx t ≤ 400 ∧ ∀ r, r < lnx t → rowOk t r := by
 unfold shapeF at h
 split at h
 ·cases h
 ·split at h
  ·cases h
  ·split at h
   ·exact ⟨by omega, by omega, by assumption⟩
   ·cases h

def tabOf (t : List (List Int)) (r c : Nat) : Nat := (nthx (nthx t r) c).toNat

theorem tab_lt {t : List (List Int)} (h : shapeF t = 0) {r c : Nat} (hr : r < lnx t) (hc : c < lnx t) : tabOf t r c < lnx t := by
 obtain ⟨_, _, h3⟩ := shape_inv h
 obtain ⟨h4, h5⟩ := h3 r hr
 have := h5 c (by omega)
 unfold tabOf
 omega
theorem tab_cast {t : List (List Int)} (h : shapeF t = 0) {r c : Nat} (hr : r < lnx t) (hc : c < lnx t) : ((tabOf t r c : Nat) : Int) = nthx (nthx t r) c := by
 obtain ⟨_, _, h3⟩ := shape_inv h
 obtain ⟨h4, h5⟩ := h3 r hr
 have := h5 c (by omega)
 unfold tabOf
 omega

theorem Tab.of_rows {w : World} {v : Value} {t : List (List Int)} (h : Rows2 w v t) (hs : shapeF t = 0) : Tab w v (lnx t) (tabOf t) := by
 obtain ⟨h0, h4, hok⟩ := shape_inv hs
 obtain ⟨a, cap, rfl, h1, h2, h3⟩ := h
 obtain ⟨b, o, rfl, hc⟩ := h3 h0
 have hx : ∀ r, r < lnx t → ∃ rb ro rc, w.cell? ⟨b, o + r, none⟩ = some (.slice (some ⟨rb, ro, none⟩) (lnx t) rc) ∧ ∀ c, c < lnx t → w.cell? ⟨rb, ro + c, none⟩ = some (.int .i64 (tabOf t r c)) := by
  intro r hr
  obtain ⟨u, hu, a', cap', rfl, _, _, h7⟩ := hc r hr
  obtain ⟨hl, _⟩ := hok r hr
  obtain ⟨rb, ro, rfl, h8⟩ := h7 (by omega)
  refine ⟨rb, ro, cap', by rw [hu, hl], fun c hcc => ?_⟩
  rw [h8 c (by omega), tab_cast hs hr hcc]
 obtain ⟨rb, ro, rc, hR⟩ := choose_nat hx
 exact ⟨b, o, cap, rb, ro, rc, rfl, h0, h4, fun r hr => (hR r hr).1, fun r c hr hc => (hR r hr).2 c hc, fun r c hr hc => tab_lt hs hr hc⟩

def Assoc (n : Nat) (T : Nat → Nat → Nat) : Prop := ∀ x y z, x < n → y < n → z < n → T (T x y) z = T x (T y z)

open Classical in
noncomputable def vErr (t : List (List Int)) : Int := if shapeF t = 0 then (if Assoc (lnx t) (tabOf t) then 0 else 5) else shapeF t

theorem vErr_shape {t : List (List Int)} (h : shapeF t ≠ 0) : vErr t = shapeF t := by unfold vErr; rw [if_neg h]
theorem vErr_ok {t : List (List Int)} (h : shapeF t = 0) (ha : Assoc (lnx t) (tabOf t)) : vErr t = 0 := by unfold vErr; rw [if_pos h, if_pos ha]
theorem vErr_not {t : List (List Int)} (h : shapeF t = 0) (ha : ¬ Assoc (lnx t) (tabOf t)) : vErr t = 5 := by unfold vErr; rw [if_pos h, if_neg ha]
theorem vErr_inv {t : List (List Int)} (h : vErr t = 0) : shapeF t = 0 ∧ Assoc (lnx t) (tabOf t) := by
 unfold vErr at h
 split at h
 ·rename_i hs
  split at h
  ·rename_i ha; exact ⟨hs, ha⟩
  ·cases h
 ·rename_i hs; exact absurd h hs

def Made (T : Nat → Nat → Nat) (gens : List Nat) (x : Nat) : Prop := ∀ S : Nat → Prop, (∀ g, g ∈ gens → S g) → (∀ x y, S x → S y → S (T x y)) → S x

theorem Made.gen {T : Nat → Nat → Nat} {gens : List Nat} {g : Nat} (h : g ∈ gens) : Made T gens g := fun _ hg _ => hg g h
theorem Made.mul {T : Nat → Nat → Nat} {gens : List Nat} {x y : Nat} (hx : Made T gens x) (hy : Made T gens y) : Made T gens (T x y) := fun S hg hm => hm x y (hx S hg hm) (hy S hg hm)
theorem Made.mono {T : Nat → Nat → Nat} {g g' : List Nat} (hg : ∀ x ∈ g, x ∈ g') {x : Nat} (h : Made T g x) : Made T g' x := fun S h1 h2 => h S (fun y hy => h1 y (hg y hy)) h2

theorem light {n : Nat} {T : Nat → Nat → Nat} {gens : List Nat} (hT : ∀ r c, r < n → c < n → T r c < n) (hg : ∀ g ∈ gens, g < n)
  (hall : ∀ x, x < n → Made T gens x) (hL : ∀ g ∈ gens, ∀ x y, x < n → y < n → T (T x g) y = T x (T g y)) : Assoc n T := by
 have key : ∀ g, Made T gens g → g < n ∧ ∀ x y, x < n → y < n → T (T x g) y = T x (T g y) := by
  intro g h
  refine h (fun g => g < n ∧ ∀ x y, x < n → y < n → T (T x g) y = T x (T g y)) (fun y hy => ⟨hg y hy, hL y hy⟩) ?_
  rintro a b ⟨ha, la⟩ ⟨hb, lb⟩
  refine ⟨hT a b ha hb, fun x y hx hy => ?_⟩
  rw [← la x b hx hb, lb (T x a) y (hT x a hx ha) hy, la x (T b y) hx (hT b y hb hy), lb a y ha hy]
 intro x y z hx hy hz
 exact (key y (hall y hy)).2 x z hx hz
end Go.Proofs.YtghnmmfkckneaaaGreat

namespace Go.Proofs.YtghnmmfkckneaaaGreat
open Go.RowKit
set_option linter.unusedVariables false
set_option maxRecDepth 100000
set_option maxHeartbeats 32000000

theorem shapeRef_any (w : World) (v : Value) (t : List (List Int)) (ht : Rows2 w v t) :
  Calls Tryz.prog 110 #[v] w fun e w' => e = .returned (.int .i64 (shapeF t)) ∧ w = w' := by
 obtain ⟨a, cap, rfl, hcap, hmx, ht⟩ := ht
 by_cases h400 : 400 < lnx t
 ·go_enter Tryz.func110, Tryz.ntmps110
  go_wp2
  go_ret
  exact ⟨ret_int (shape_large h400).symm, rfl⟩
 by_cases h0 : 0 < lnx t
 case neg =>
  have h2 : ((lnx t : Int) == 0) = true := beq_t (by omega)
  go_enter Tryz.func110, Tryz.ntmps110
  go_wp2
  go_ret
  exact ⟨ret_int (shape_empty h0).symm, rfl⟩
 have h2 : ((lnx t : Int) == 0) = false := beq_f (by omega)
 obtain ⟨b, o, rfl, hc⟩ := ht h0
 have HC := Lib.hid hc
 clear ht hc
 go_enter Tryz.func110, Tryz.ntmps110
 go_wp2
 go_loop [15] (fun i => ∃ k : Nat, k ≤ lnx t ∧ i = .int .i64 k ∧ (∀ r, r < k → rowOk t r)) (fun i => lnx t - (intOf i).toNat)
 case atStart => exact ⟨0, by omega, rfl, by omega⟩
 case round =>
  obtain ⟨k, hk, rfl, hr⟩ := hrel
  have HR := Lib.hid hr
  clear hr
  by_cases hlt : k < lnx t
  ·obtain ⟨u, hcell, A, C, rfl, hC1, hC2, hin⟩ := HC.out k hlt
   have HIN := Lib.hid hin
   clear hin
   by_cases hlen : lnx (nthx t k) = lnx t
   ·have HL := Lib.hid hlen
    clear hlen
    have hb1 : ((lnx (nthx t k) : Int) != (lnx t : Int)) = false := bne_f (by rw [HL.out])
    go_wp2
    go_loop [26] (fun i => ∃ j : Nat, j ≤ lnx (nthx t k) ∧ i = .int .i64 j ∧ (∀ i, i < j → 0 ≤ nthx (nthx t k) i ∧ nthx (nthx t k) i < lnx t)) (fun i => lnx (nthx t k) - (intOf i).toNat)
    case atStart => exact ⟨0, by omega, rfl, by omega⟩
    case round =>
     obtain ⟨j, hj, rfl, hr⟩ := hrel
     have HJ := Lib.hid hr
     clear hr
     have hlb : lnx (nthx t k) ≤ lnx t := by have := HL.out; omega
     by_cases hjlt : j < lnx (nthx t k)
     ·obtain ⟨b', o', rfl, hcell'⟩ := HIN.out (by omega)
      have hcj := hcell' j hjlt
      clear hcell'
      by_cases hin : 0 ≤ nthx (nthx t k) j ∧ nthx (nthx t k) j < lnx t
      ·obtain ⟨hi1, hi2⟩ := hin
       go_wp2
       go_round
       case rel => exact ⟨j + 1, by omega, by go_num, fun i hi => by
        by_cases hij : i < j
        ·exact HJ.out i hij
        ·obtain rfl : i = j := by omega
         exact ⟨hi1, hi2⟩⟩
       case measure => simp [intOf]; omega
      ·go_wp2
       all_goals
        go_ret
        exact ⟨ret_int (shape_bad h400 k hlt (fun h => hin (h.2 j hjlt))).symm, rfl⟩
     ·go_wp2
      go_round
      case rel => exact ⟨k + 1, by omega, by go_num, fun r hr => by
        by_cases hrk : r < k
        ·exact HR.out r hrk
        ·obtain rfl : r = k := by omega
         exact ⟨HL.out, fun i hi => HJ.out i (by omega)⟩⟩
      case measure => simp [intOf]; omega
   ·have hb1 : ((lnx (nthx t k) : Int) != (lnx t : Int)) = true := bne_t (by omega)
    go_wp2
    go_ret
    exact ⟨ret_int (shape_bad h400 k hlt (fun h => hlen h.1)).symm, rfl⟩
  ·go_wp2
   go_ret
   exact ⟨ret_int (shape_good h400 h0 (fun r hr => HR.out r (by omega))).symm, rfl⟩

theorem shapeProg_any (w : World) (v : Value) (t : List (List Int)) (ht : Rows2 w v t) :
  Calls Tryz.prog 79 #[v] w fun e w' => e = .returned (.int .i64 (shapeF t)) ∧ w = w' := by
 obtain ⟨a, cap, rfl, hcap, hmx, ht⟩ := ht
 by_cases h400 : 400 < lnx t
 ·go_enter Tryz.func79, Tryz.ntmps79
  go_wp2
  go_ret
  exact ⟨ret_int (shape_large h400).symm, rfl⟩
 by_cases h0 : 0 < lnx t
 case neg =>
  have h2 : ((lnx t : Int) == 0) = true := beq_t (by omega)
  go_enter Tryz.func79, Tryz.ntmps79
  go_wp2
  go_ret
  exact ⟨ret_int (shape_empty h0).symm, rfl⟩
 have h2 : ((lnx t : Int) == 0) = false := beq_f (by omega)
 obtain ⟨b, o, rfl, hc⟩ := ht h0
 have HC := Lib.hid hc
 clear ht hc
 go_enter Tryz.func79, Tryz.ntmps79
 go_wp2
 go_loop [15] (fun i => ∃ k : Nat, k ≤ lnx t ∧ i = .int .i64 k ∧ (∀ r, r < k → rowOk t r)) (fun i => lnx t - (intOf i).toNat)
 case atStart => exact ⟨0, by omega, rfl, by omega⟩
 case round =>
  obtain ⟨k, hk, rfl, hr⟩ := hrel
  have HR := Lib.hid hr
  clear hr
  by_cases hlt : k < lnx t
  ·obtain ⟨u, hcell, A, C, rfl, hC1, hC2, hin⟩ := HC.out k hlt
   have HIN := Lib.hid hin
   clear hin
   by_cases hlen : lnx (nthx t k) = lnx t
   ·have HL := Lib.hid hlen
    clear hlen
    have hb1 : ((lnx (nthx t k) : Int) != (lnx t : Int)) = false := bne_f (by rw [HL.out])
    go_wp2
    go_loop [26] (fun i => ∃ j : Nat, j ≤ lnx (nthx t k) ∧ i = .int .i64 j ∧ (∀ i, i < j → 0 ≤ nthx (nthx t k) i ∧ nthx (nthx t k) i < lnx t)) (fun i => lnx (nthx t k) - (intOf i).toNat)
    case atStart => exact ⟨0, by omega, rfl, by omega⟩
    case round =>
     obtain ⟨j, hj, rfl, hr⟩ := hrel
     have HJ := Lib.hid hr
     clear hr
     have hlb : lnx (nthx t k) ≤ lnx t := by have := HL.out; omega
     by_cases hjlt : j < lnx (nthx t k)
     ·obtain ⟨b', o', rfl, hcell'⟩ := HIN.out (by omega)
      have hcj := hcell' j hjlt
      clear hcell'
      by_cases hin : 0 ≤ nthx (nthx t k) j ∧ nthx (nthx t k) j < lnx t
      ·obtain ⟨hi1, hi2⟩ := hin
       go_wp2
       go_round
       case rel => exact ⟨j + 1, by omega, by go_num, fun i hi => by
        by_cases hij : i < j
        ·exact HJ.out i hij
        ·obtain rfl : i = j := by omega
         exact ⟨hi1, hi2⟩⟩
       case measure => simp [intOf]; omega
      ·go_wp2
       all_goals
        go_ret
        exact ⟨ret_int (shape_bad h400 k hlt (fun h => hin (h.2 j hjlt))).symm, rfl⟩
     ·go_wp2
      go_round
      case rel => exact ⟨k + 1, by omega, by go_num, fun r hr => by
        by_cases hrk : r < k
        ·exact HR.out r hrk
        ·obtain rfl : r = k := by omega
         exact ⟨HL.out, fun i hi => HJ.out i (by omega)⟩⟩
      case measure => simp [intOf]; omega
   ·have hb1 : ((lnx (nthx t k) : Int) != (lnx t : Int)) = true := bne_t (by omega)
    go_wp2
    go_ret
    exact ⟨ret_int (shape_bad h400 k hlt (fun h => hlen h.1)).symm, rfl⟩
  ·go_wp2
   go_ret
   exact ⟨ret_int (shape_good h400 h0 (fun r hr => HR.out r (by omega))).symm, rfl⟩
end Go.Proofs.YtghnmmfkckneaaaGreat

namespace Go.Proofs.YtghnmmfkckneaaaGreat
open Go.RowKit
set_option linter.unusedVariables false
set_option maxRecDepth 100000
set_option maxHeartbeats 32000000

def Quiet (w w' : World) : Prop := ∃ k, w' = w.drewN k
theorem Quiet.refl (w : World) : Quiet w w := ⟨0, rfl⟩
theorem Quiet.drewN (w : World) (k : Nat) : Quiet w (w.drewN k) := ⟨k, rfl⟩
theorem Quiet.keeps {w w' : World} (h : Quiet w w') : Keeps w w' := by obtain ⟨k, rfl⟩ := h; exact Keeps.drewN w k

theorem quiet2 (w : World) (a b : Nat) : Quiet w ((w.drewN a).drewN b) := ⟨a + b, World.drewN_drewN w a b⟩
theorem associative_ok (w : World) (v : Value) (n : Nat) (T : Nat → Nat → Nat) (hv : Tab w v n T)
  (hs : Calls Tryz.prog 110 #[v] w fun e w' => e = .returned (.int .i64 0) ∧ w = w') :
  Calls Tryz.prog 91 #[v] w fun e w' => ∃ x y z r : Int, e = .returned (.tuple #[.int .i64 x, .int .i64 y, .int .i64 z, .int .i64 r]) ∧ ((r = 0 ∧ Assoc n T) ∨ (r = 5 ∧ ¬ Assoc n T)) ∧ Quiet w w' := by
 obtain ⟨b, o, cap, rb, ro, rc, rfl, h0, h4, hR, hC, hT⟩ := hv
 have HS := Lib.hid hs
 clear hs
 go_enter Tryz.func91, Tryz.ntmps91
 go_wp2_with fail
 refine HS.out.mono ?_
 rintro e w' ⟨rfl, rfl⟩
 clear HS
 go_wp2
 go_loopw [17] (fun i wr => ∃ x : Nat, x ≤ n ∧ i = .int .i64 x ∧ (∃ k, wr = w.drewN k) ∧ ∀ a b c, a < x → b < n → c < n → T (T a b) c = T a (T b c)) (fun i _ => n - (intOf i).toNat)
 case atStart => exact ⟨0, by omega, rfl, ⟨0, rfl⟩, by omega⟩
 case round =>
  obtain ⟨x, hx, rfl, ⟨k1, rfl⟩, hX⟩ := hrel
  have HX := Lib.hid hX
  clear hX
  by_cases hxn : x < n
  ·go_wp2
   go_loopw [22] (fun i wr => ∃ y : Nat, y ≤ n ∧ i = .int .i64 y ∧ (∃ k, wr = w.drewN k) ∧ ∀ b c, b < y → c < n → T (T x b) c = T x (T b c)) (fun i _ => n - (intOf i).toNat)
   case atStart => exact ⟨0, by omega, rfl, ⟨_, rfl⟩, by omega⟩
   case round =>
    obtain ⟨y, hy, rfl, ⟨k2, rfl⟩, hY⟩ := hrel
    have HY := Lib.hid hY
    clear hY
    by_cases hyn : y < n
    ·go_wp2
     go_loopw [27] (fun i wr => ∃ z : Nat, z ≤ n ∧ i = .int .i64 z ∧ (∃ k, wr = w.drewN k) ∧ ∀ c, c < z → T (T x y) c = T x (T y c)) (fun i _ => n - (intOf i).toNat)
     case atStart => exact ⟨0, by omega, rfl, ⟨_, rfl⟩, by omega⟩
     case round =>
      obtain ⟨z, hz, rfl, ⟨k3, rfl⟩, hZ⟩ := hrel
      have HZ := Lib.hid hZ
      clear hZ
      by_cases hzn : z < n
      ·by_cases heq : T (T x y) z = T x (T y z)
       ·have HE := Lib.hid heq
        clear heq
        have hne : (((T (T x y) z : Nat) : Int) != ((T x (T y z) : Nat) : Int)) = false := bne_f (by rw [HE.out])
        go_wp2
        go_quiet (fail)
        go_wp2
        go_roundw
        case rel => exact ⟨z + 1, by omega, by go_num, ⟨_, rfl⟩, fun c hc => by
         by_cases hcz : c < z
         ·exact HZ.out c hcz
         ·obtain rfl : c = z := by omega
          exact HE.out⟩
        case measure => simp [intOf]; omega
       ·have hne : (((T (T x y) z : Nat) : Int) != ((T x (T y z) : Nat) : Int)) = true := bne_t (by omega)
        go_wp2
        go_quiet (fail)
        go_wp2
        refine bodyPost_ret (results_tmp4 rfl _ _ _) rfl ?_
        exact ⟨_, _, _, _, rfl, .inr ⟨rfl, fun h => heq (h x y z hxn hyn hzn)⟩, quiet2 _ _ _⟩
      ·go_wp2
       go_roundw
       case rel => exact ⟨y + 1, by omega, by go_num, ⟨_, rfl⟩, fun b c hb hc => by
        by_cases hby : b < y
        ·exact HY.out b c hby hc
        ·obtain rfl : b = y := by omega
         exact HZ.out c (by omega)⟩
       case measure => simp [intOf]; omega
    ·go_wp2
     go_roundw
     case rel => exact ⟨x + 1, by omega, by go_num, ⟨_, rfl⟩, fun a b c ha hb hc => by
      by_cases hax : a < x
      ·exact HX.out a b c hax hb hc
      ·obtain rfl : a = x := by omega
       exact HY.out b c (by omega) hc⟩
     case measure => simp [intOf]; omega
  ·go_wp2
   refine bodyPost_ret (results_tmp4 rfl _ _ _) rfl ?_
   exact ⟨_, _, _, _, rfl, .inl ⟨rfl, fun a b c ha hb hc => HX.out a b c (by omega) hb hc⟩, ⟨_, rfl⟩⟩

def AssocPost (t : List (List Int)) (w : World) (e : Ending) (w' : World) : Prop :=
 ∃ x y z : Int, e = .returned (.tuple #[.int .i64 x, .int .i64 y, .int .i64 z, .int .i64 (vErr t)]) ∧ Quiet w w'

theorem associative_any (w : World) (v : Value) (t : List (List Int)) (ht : Rows2 w v t) :
  Calls Tryz.prog 91 #[v] w (AssocPost t w) := by
 have hsh := shapeRef_any w v t ht
 by_cases h0 : shapeF t = 0
 ·rw [h0] at hsh
  refine (associative_ok w v _ _ (Tab.of_rows ht h0) hsh).mono ?_
  rintro e w' ⟨x, y, z, r, rfl, hr, hq⟩
  refine ⟨x, y, z, ?_, hq⟩
  rcases hr with ⟨rfl, ha⟩ | ⟨rfl, ha⟩
  ·rw [vErr_ok h0 ha]
  ·rw [vErr_not h0 ha]
 ·have HS := Lib.hid hsh
  obtain ⟨a, cap, rfl, _⟩ := ht
  have hne : (shapeF t != 0) = true := bne_t h0
  have HV := Lib.hid (vErr_shape h0)
  clear hsh
  go_enter Tryz.func91, Tryz.ntmps91
  go_wp2_with fail
  refine HS.out.mono ?_
  rintro e w' ⟨rfl, rfl⟩
  clear HS
  go_wp2
  refine bodyPost_ret (results_tmp4 rfl _ _ _) rfl ?_
  exact ⟨_, _, _, by rw [HV.out]; rfl, Quiet.refl _⟩

theorem validateRef_any (w : World) (v : Value) (t : List (List Int)) (ht : Rows2 w v t) :
  Calls Tryz.prog 54 #[v] w fun e w' => e = .returned (.int .i64 (vErr t)) ∧ Quiet w w' := by
 have H := Lib.hid (associative_any w v t ht)
 go_enter Tryz.func54, Tryz.ntmps54
 go_wp2_with fail
 refine H.out.mono ?_
 rintro e w' ⟨x, y, z, rfl, hq⟩
 clear H
 have HQ := Lib.hid hq
 clear hq
 go_wp2
 go_ret
 exact ⟨rfl, HQ.out⟩

end Go.Proofs.YtghnmmfkckneaaaGreat

namespace Go.Proofs.YtghnmmfkckneaaaGreat
open Go.RowKit
set_option linter.unusedVariables false

open Classical in
noncomputable def inB (n : Nat) (xs : List Int) : Bool := decide (∀ i, i < lnx xs → 0 ≤ nthx xs i ∧ nthx xs i < (n : Int))
theorem inB_t {n : Nat} {xs : List Int} (h : ∀ i, i < lnx xs → 0 ≤ nthx xs i ∧ nthx xs i < (n : Int)) : inB n xs = true := decide_eq_true h
theorem inB_f {n : Nat} {xs : List Int} (i : Nat) (hi : i < lnx xs) (h : ¬ (0 ≤ nthx xs i ∧ nthx xs i < (n : Int))) : inB n xs = false := decide_eq_false (fun H => h (H i hi))
end Go.Proofs.YtghnmmfkckneaaaGreat
