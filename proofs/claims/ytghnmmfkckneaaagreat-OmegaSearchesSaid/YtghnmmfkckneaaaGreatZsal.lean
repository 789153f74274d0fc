/-
  Powers in a table and the values of terms, in plain Lean (layer 28).
-/
import Derived.Test.YtghnmmfkckneaaaGreatZsah
import Derived.Test.YtghnmmfkckneaaaGreatZsak
namespace Go.Proofs.YtghnmmfkckneaaaGreat.M
open Go.RowKit
set_option linter.unusedVariables false

def omF (T : Nat → Nat → Nat) (x : Nat) : Nat → Nat → Nat
 | 0, e => e
 | f + 1, e => if T e e = e then e else omF T x f (T e x)
def omT (T : Nat → Nat → Nat) (n x : Nat) : Nat := omF T x n x
def invF (T : Nat → Nat → Nat) (e g : Nat) : Nat → Nat → Nat
 | 0, y => y
 | f + 1, y => if T y g = e then y else invF T e g f (T y g)
def itT (T : Nat → Nat → Nat) (x : Nat) : Nat → Nat → Nat
 | 0, y => y
 | k + 1, y => T (itT T x k y) x
def powT (T : Nat → Nat → Nat) (n x : Nat) (m : Int) : Nat := if m < 0 then invF T (omT T n x) (T (omT T n x) x) n (omT T n x) else itT T x m.toNat (omT T n x)
def pw (T : Nat → Nat → Nat) (x : Nat) (k : Nat) : Nat := itT T x k x
section
variable {T : Nat → Nat → Nat} {n : Nat}
theorem pw_succ (x k : Nat) : pw T x (k + 1) = T (pw T x k) x := rfl
theorem it_lt (hT : ∀ r c, r < n → c < n → T r c < n) {x y : Nat} (hx : x < n) (hy : y < n) : ∀ k, itT T x k y < n
 | 0 => hy
 | k + 1 => hT _ _ (it_lt hT hx hy k) hx
theorem pw_lt (hT : ∀ r c, r < n → c < n → T r c < n) {x : Nat} (hx : x < n) (k : Nat) : pw T x k < n := it_lt hT hx hx k
theorem it_mul (hT : ∀ r c, r < n → c < n → T r c < n) (hA : Assoc n T) {x y : Nat} (hx : x < n) (hy : y < n) : ∀ k, T y (pw T x k) = itT T x (k + 1) y
 | 0 => rfl
 | k + 1 => by
  rw [pw_succ, ← hA y _ x hy (pw_lt hT hx k) hx, it_mul hT hA hx hy k]
  rfl
theorem it_it (x y : Nat) (j : Nat) : ∀ k, itT T x k (itT T x j y) = itT T x (j + k) y
 | 0 => rfl
 | k + 1 => by
  show T (itT T x k (itT T x j y)) x = T (itT T x (j + k) y) x
  rw [it_it x y j k]
theorem pw_add (hT : ∀ r c, r < n → c < n → T r c < n) (hA : Assoc n T) {x : Nat} (hx : x < n) (j k : Nat) : T (pw T x j) (pw T x k) = pw T x (j + k + 1) := by
 rw [it_mul hT hA hx (pw_lt hT hx j)]
 exact it_it x x j (k + 1)
theorem pw_it (x j k : Nat) : itT T x k (pw T x j) = pw T x (j + k) := it_it x x j k
theorem nodup_len {l : List Nat} : l.Nodup → (∀ x ∈ l, x < n) → l.length ≤ n := by
 induction n generalizing l with
 | zero =>
  intro _ h
  cases l with
  | nil => simp
  | cons a r => exact absurd (h a (by simp)) (by omega)
 | succ m ih =>
  intro hd h
  by_cases hm : m ∈ l
  ·have h1 := ih (l := l.erase m) (hd.erase m) (fun x hx => by
    have h2 := h x (List.mem_of_mem_erase hx)
    have h3 : x ≠ m := fun e => by
     subst e
     exact (List.Nodup.not_mem_erase hd) hx
    omega)
   rw [List.length_erase_of_mem hm] at h1
   omega
  ·have h1 := ih (l := l) hd (fun x hx => by
    have h2 := h x hx
    have h3 : x ≠ m := fun e => hm (e ▸ hx)
    omega)
   omega
theorem pw_rep (hT : ∀ r c, r < n → c < n → T r c < n) {x : Nat} (hx : x < n) : ∃ i j, i < j ∧ j ≤ n ∧ pw T x i = pw T x j := by
 refine Classical.byContradiction fun hno => ?_
 have hd : ((List.range (n + 1)).map (pw T x)).Nodup := by
  rw [List.nodup_iff_pairwise_ne, List.pairwise_map]
  refine List.Pairwise.imp_of_mem (R := fun a b => a < b) (fun {a b} ha hb hlt e => hno ⟨a, b, hlt, ?_, e⟩) List.pairwise_lt_range
  have := List.mem_range.1 hb
  omega
 have := nodup_len (n := n) hd (fun y hy => by
  obtain ⟨k, _, rfl⟩ := List.mem_map.1 hy
  exact pw_lt hT hx k)
 simp at this
 omega
theorem pw_idem (hT : ∀ r c, r < n → c < n → T r c < n) (hA : Assoc n T) {x : Nat} (hx : x < n) : ∃ k, k < n ∧ T (pw T x k) (pw T x k) = pw T x k := by
 obtain ⟨i, j, hij, hj, he⟩ := pw_rep hT hx
 have hper : ∀ m, i ≤ m → pw T x (m + (j - i)) = pw T x m := fun m hm => by
  have h1 := pw_it (T := T) x i (m - i)
  have h2 := pw_it (T := T) x j (m - i)
  rw [he, h2] at h1
  rw [show m + (j - i) = j + (m - i) by omega, h1, show i + (m - i) = m by omega]
 have hperq : ∀ q m, i ≤ m → pw T x (m + q * (j - i)) = pw T x m := fun q => by
  induction q with
  | zero => intro m _; simp
  | succ q ih =>
   intro m hm
   rw [show m + (q + 1) * (j - i) = (m + q * (j - i)) + (j - i) by rw [Nat.add_mul]; omega, hper _ (by omega), ih m hm]
 obtain ⟨p, hp⟩ : ∃ p, p = j - i := ⟨_, rfl⟩
 rw [← hp] at hperq
 have hp0 : 0 < p := by omega
 obtain ⟨q, hq⟩ : ∃ q, q = (i + p) / p := ⟨_, rfl⟩
 have h1 : q * p ≤ i + p := by rw [hq]; exact Nat.div_mul_le_self _ _
 have h2 : i + p < (q + 1) * p := by rw [hq, ← Nat.div_lt_iff_lt_mul hp0]; omega
 rw [Nat.add_mul] at h2
 refine ⟨q * p - 1, by omega, ?_⟩
 rw [pw_add hT hA hx, show q * p - 1 + (q * p - 1) + 1 = (q * p - 1) + q * p by omega]
 exact hperq q _ (by omega)
theorem omT_spec (hT : ∀ r c, r < n → c < n → T r c < n) (hA : Assoc n T) {x : Nat} (hx : x < n) : ∃ k, k < n ∧ omT T n x = pw T x k ∧ T (pw T x k) (pw T x k) = pw T x k ∧ ∀ j, j < k → T (pw T x j) (pw T x j) ≠ pw T x j := by
 obtain ⟨k0, hk0, hi0⟩ := pw_idem hT hA hx
 have key : ∀ f i, i + f = n → (∀ j, j < i → T (pw T x j) (pw T x j) ≠ pw T x j) → ∃ k, k < n ∧ omF T x f (pw T x i) = pw T x k ∧ T (pw T x k) (pw T x k) = pw T x k ∧ ∀ j, j < k → T (pw T x j) (pw T x j) ≠ pw T x j := by
  intro f
  induction f with
  | zero =>
   intro i hi hno
   exact absurd hi0 (hno k0 (by omega))
  | succ f ih =>
   intro i hi hno
   rw [omF]
   by_cases h : T (pw T x i) (pw T x i) = pw T x i
   ·rw [if_pos h]
    exact ⟨i, by omega, rfl, h, hno⟩
   ·rw [if_neg h, ← pw_succ (T := T) x i]
    refine ih (i + 1) (by omega) (fun j hj => ?_)
    by_cases hji : j = i
    ·rw [hji]; exact h
    ·exact hno j (by omega)
 exact key n 0 (by omega) (fun j hj => by omega)
theorem omT_lt (hT : ∀ r c, r < n → c < n → T r c < n) (hA : Assoc n T) {x : Nat} (hx : x < n) : omT T n x < n := by
 obtain ⟨k, _, h, _⟩ := omT_spec hT hA hx
 rw [h]; exact pw_lt hT hx k
theorem omT_idem (hT : ∀ r c, r < n → c < n → T r c < n) (hA : Assoc n T) {x : Nat} (hx : x < n) : T (omT T n x) (omT T n x) = omT T n x := by
 obtain ⟨k, _, h, h2, _⟩ := omT_spec hT hA hx
 rw [h]; exact h2
theorem inv_spec (hT : ∀ r c, r < n → c < n → T r c < n) (hA : Assoc n T) {x : Nat} (hx : x < n) : ∃ k, k < n ∧ invF T (omT T n x) (T (omT T n x) x) n (omT T n x) = itT T x k (omT T n x) ∧ T (itT T x k (omT T n x)) x = omT T n x ∧ ∀ j, j < k → T (itT T x j (omT T n x)) x ≠ omT T n x := by
 obtain ⟨k0, hk0, h1, h2, -⟩ := omT_spec hT hA hx
 have he := omT_lt hT hA hx
 have hi := omT_idem hT hA hx
 generalize omT T n x = e at h1 he hi ⊢
 have hk : T (itT T x k0 e) x = e := by
  have := it_mul hT hA hx he k0
  rw [← h1, hi] at this
  exact this.symm
 -- right multiplication by e keeps e x^j
 have hr : ∀ j, T (itT T x j e) e = itT T x j e := fun j => by
  have hc : T (itT T x j e) e = itT T x (k0 + 1 + j) e := by
   have h3 := it_mul hT hA hx (it_lt hT hx he j) k0
   rw [← h1] at h3
   rw [h3, it_it]
   congr 1; omega
  rw [hc]
  have h4 : itT T x (k0 + 1) e = e := hk
  have h5 := it_it (T := T) x e (k0 + 1) j
  rw [h4] at h5
  exact h5.symm
 have hg : ∀ j, T (itT T x j e) (T e x) = T (itT T x j e) x := fun j => by
  rw [← hA _ e x (it_lt hT hx he j) he hx, hr j]
 have key : ∀ f i, i + f = n → (∀ j, j < i → T (itT T x j e) x ≠ e) → ∃ k, k < n ∧ invF T e (T e x) f (itT T x i e) = itT T x k e ∧ T (itT T x k e) x = e ∧ ∀ j, j < k → T (itT T x j e) x ≠ e := by
  intro f
  induction f with
  | zero =>
   intro i hi hno
   exact absurd hk (hno k0 (by omega))
  | succ f ih =>
   intro i hi hno
   rw [invF, hg i]
   by_cases h : T (itT T x i e) x = e
   ·rw [if_pos h]
    exact ⟨i, by omega, rfl, h, hno⟩
   ·rw [if_neg h]
    refine ih (i + 1) (by omega) (fun j hj => ?_)
    by_cases hji : j = i
    ·rw [hji]; exact h
    ·exact hno j (by omega)
 exact key n 0 (by omega) (fun j hj => by omega)
theorem inv_g (hT : ∀ r c, r < n → c < n → T r c < n) (hA : Assoc n T) {x : Nat} (hx : x < n) (j : Nat) : T (itT T x j (omT T n x)) (T (omT T n x) x) = T (itT T x j (omT T n x)) x := by
 obtain ⟨k0, hk0, h1, h2, -⟩ := omT_spec hT hA hx
 have he := omT_lt hT hA hx
 have hi := omT_idem hT hA hx
 generalize omT T n x = e at h1 he hi ⊢
 have hk : itT T x (k0 + 1) e = e := by
  have := it_mul hT hA hx he k0
  rw [← h1, hi] at this
  exact this.symm
 have hr : T (itT T x j e) e = itT T x j e := by
  have h3 := it_mul hT hA hx (it_lt hT hx he j) k0
  rw [← h1] at h3
  rw [h3, it_it]
  have h5 := it_it (T := T) x e (k0 + 1) j
  rw [hk] at h5
  rw [h5]
  congr 1; omega
 rw [← hA _ e x (it_lt hT hx he j) he hx, hr]
theorem powT_lt (hT : ∀ r c, r < n → c < n → T r c < n) (hA : Assoc n T) {x : Nat} (hx : x < n) (m : Int) : powT T n x m < n := by
 unfold powT
 have he := omT_lt hT hA hx
 split
 ·obtain ⟨k, _, h, _⟩ := inv_spec hT hA hx
  rw [h]; exact it_lt hT hx he k
 ·exact it_lt hT hx he _
end
mutual
def Tm.ev (T : Nat → Nat → Nat) (n one : Nat) (v : Nat → Nat) : Tm → Nat
 | .mk o m l => if o = 1 then one else if o = 2 then v m.toNat else if o = 4 then powT T n (evL T n one v none l) m else evL T n one v none l
def evL (T : Nat → Nat → Nat) (n one : Nat) (v : Nat → Nat) : Option Nat → List Tm → Nat
 | acc, [] => acc.getD 0
 | none, a :: r => evL T n one v (some (a.ev T n one v)) r
 | some y, a :: r => evL T n one v (some (T y (a.ev T n one v))) r
end
end Go.Proofs.YtghnmmfkckneaaaGreat.M
