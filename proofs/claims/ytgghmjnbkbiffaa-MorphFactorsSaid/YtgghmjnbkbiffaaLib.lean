/-
  My own library: how slices of integers, of bools and of rows read in a world, and what keeps them; small laws on endings.
-/
import Derived.Test.YtgghmjnbkbiffaaProg
import Derived.WalkKit
import Derived.WalkSpells
import Derived.WalkLawsBesides
import Derived.Lib.Hide
import Derived.Deep.QuietTactic
import Derived.BigQuiet
namespace Go.Proofs.Ytgghmjnbkbiffaa
open Go.RowKit
set_option linter.unusedVariables false

/-- A list's length and its elements, closed to simp. -/
def lnx {α : Type} (xs : List α) : Nat := xs.length
def nthx {α : Type} [Inhabited α] (xs : List α) (i : Nat) : α := xs.getD i default

/-- The slice value v reads as xs in w, each element by its one cell. -/
def Sl {α : Type} [Inhabited α] (enc : α → Value) (w : World) (v : Value) (xs : List α) : Prop :=
  ∃ a cap, v = .slice a (lnx xs) cap ∧ lnx xs ≤ cap ∧ cap ≤ 9223372036854775807 ∧ (0 < lnx xs → ∃ b o, a = some ⟨b, o, none⟩ ∧ ∀ i, i < lnx xs → w.cell? ⟨b, o + i, none⟩ = some (enc (nthx xs i)))

/-- A slice of slices. -/
def Sl2 {α : Type} [Inhabited α] (enc : α → Value) (w : World) (v : Value) (t : List (List α)) : Prop :=
  ∃ a cap, v = .slice a (lnx t) cap ∧ lnx t ≤ cap ∧ cap ≤ 9223372036854775807 ∧ (0 < lnx t → ∃ b o, a = some ⟨b, o, none⟩ ∧ ∀ i, i < lnx t → ∃ u, w.cell? ⟨b, o + i, none⟩ = some u ∧ Sl enc w u (nthx t i))

abbrev Ints := Sl (Value.int .i64)
abbrev Rows2 := Sl2 (Value.int .i64)

/-- All cells that are there stay. -/
def Keeps (w w' : World) : Prop := ∀ p u, w.cell? p = some u → w'.cell? p = some u

theorem Keeps.refl (w : World) : Keeps w w := fun _ _ h => h
theorem Keeps.trans {a b c : World} (h : Keeps a b) (k : Keeps b c) : Keeps a c := fun p u e => k p u (h p u e)
theorem Keeps.below {w w' : World} (h : Below w.heap.size w w') : Keeps w w' := fun p u e => (h.cell (World.block_lt_of_cell? w p e)).trans e
theorem Keeps.drewN (w : World) (k : Nat) : Keeps w (w.drewN k) := fun _ _ h => h
theorem Keeps.drew (w : World) : Keeps w w.drew := fun _ _ h => h
theorem Keeps.alloc (w : World) (o : Obj) : Keeps w (w.alloc o) := fun p u e => (World.cell?_alloc_lt w o p (World.block_lt_of_cell? w p e)).trans e

theorem Sl.keep {α : Type} [Inhabited α] {enc : α → Value} {w w' : World} {v : Value} {xs : List α} (h : Sl enc w v xs) (hk : Keeps w w') : Sl enc w' v xs := by
  obtain ⟨a, cap, rfl, h1, h2, h3⟩ := h
  refine ⟨a, cap, rfl, h1, h2, fun h0 => ?_⟩
  obtain ⟨b, o, rfl, hc⟩ := h3 h0
  exact ⟨b, o, rfl, fun i hi => hk _ _ (hc i hi)⟩

theorem Sl2.keep {α : Type} [Inhabited α] {enc : α → Value} {w w' : World} {v : Value} {t : List (List α)} (h : Sl2 enc w v t) (hk : Keeps w w') : Sl2 enc w' v t := by
  obtain ⟨a, cap, rfl, h1, h2, h3⟩ := h
  refine ⟨a, cap, rfl, h1, h2, fun h0 => ?_⟩
  obtain ⟨b, o, rfl, hc⟩ := h3 h0
  refine ⟨b, o, rfl, fun i hi => ?_⟩
  obtain ⟨u, hu, hs⟩ := hc i hi
  exact ⟨u, hk _ _ hu, hs.keep hk⟩

/-- A table of right shape: n rows of n numbers below n. -/
def Tab (w : World) (v : Value) (n : Nat) (T : Nat → Nat → Nat) : Prop :=
  ∃ b o cap, ∃ rb ro rc : Nat → Nat, v = .slice (some ⟨b, o, none⟩) n cap ∧ 0 < n ∧ n ≤ 400 ∧
    (∀ r, r < n → w.cell? ⟨b, o + r, none⟩ = some (.slice (some ⟨rb r, ro r, none⟩) n (rc r))) ∧
    (∀ r c, r < n → c < n → w.cell? ⟨rb r, ro r + c, none⟩ = some (.int .i64 (T r c))) ∧
    (∀ r c, r < n → c < n → T r c < n)

theorem Tab.keep {w w' : World} {v : Value} {n : Nat} {T : Nat → Nat → Nat} (h : Tab w v n T) (hk : Keeps w w') : Tab w' v n T := by
  obtain ⟨b, o, cap, rb, ro, rc, rfl, h0, h4, h1, h2, h3⟩ := h
  exact ⟨b, o, cap, rb, ro, rc, rfl, h0, h4, fun r hr => hk _ _ (h1 r hr), fun r c hr hc => hk _ _ (h2 r c hr hc), h3⟩

theorem choose_nat {P : Nat → Nat → Nat → Nat → Prop} {n : Nat} (h : ∀ r, r < n → ∃ a b c, P r a b c) : ∃ A B C : Nat → Nat, ∀ r, r < n → P r (A r) (B r) (C r) := by
  classical
  refine ⟨fun r => if hr : r < n then (h r hr).choose else 0, fun r => if hr : r < n then (h r hr).choose_spec.choose else 0,
    fun r => if hr : r < n then (h r hr).choose_spec.choose_spec.choose else 0, fun r hr => ?_⟩
  simp only [hr, dif_pos]
  exact (h r hr).choose_spec.choose_spec.choose_spec

theorem ret_int {k : IntKind} {a b : Int} (h : a = b) : Ending.returned (.int k a) = .returned (.int k b) := by rw [h]
theorem ret_bool {a b : Bool} (h : a = b) : Ending.returned (.bool a) = .returned (.bool b) := by rw [h]

theorem results_tmp4 {fn : Func} {t u v x : Tmp} (h : fn.results = #[.tmp t, .tmp u, .tmp v, .tmp x]) (tmps : Array Value) (P : Program) (w : World) :
    (results fn tmps).run P w = .ok (.tuple #[tmps.getD t undef, tmps.getD u undef, tmps.getD v undef, tmps.getD x undef]) w := by simp [results, h]

theorem bne_t {a b : Int} (h : a ≠ b) : (a != b) = true := by rw [bne_iff_ne]; exact h
theorem bne_f {a b : Int} (h : a = b) : (a != b) = false := by rw [h]; simp
theorem beq_t {a b : Int} (h : a = b) : (a == b) = true := by rw [h]; simp
theorem beq_f {a b : Int} (h : a ≠ b) : (a == b) = false := by rw [beq_eq_false_iff_ne]; exact h

theorem quiet_self {w : World} : ∃ k, w = w.drewN k := ⟨0, rfl⟩
theorem quiet_N {w : World} {n : Nat} : ∃ k, w.drewN n = w.drewN k := ⟨n, rfl⟩
end Go.Proofs.Ytgghmjnbkbiffaa
