/-
  The monomials of the paths through an automaton whose cycles are loops, in plain Lean.
-/
import Derived.Test.YtnffigeofdagfaaDoorZras
import Derived.Test.YtnffigeofdagfaaDoorZraq
namespace Go.Proofs.YtnffigeofdagfaaDoor.M
open Go.RowKit
set_option linter.unusedVariables false
set_option linter.unusedSimpArgs false

def loopN (nx : List (List Int)) (q : Nat) : Nat → Nat
 | 0 => 0
 | x + 1 => if stepR nx q x = q then loopN nx q x ||| (1 <<< x) else loopN nx q x
theorem loopN_lt (nx : List (List Int)) (q : Nat) : ∀ x, loopN nx q x < 2 ^ x
 | 0 => by simp [loopN]
 | x + 1 => by
  have h := loopN_lt nx q x
  have h2 : 2 ^ (x + 1) = 2 ^ x + 2 ^ x := by rw [Nat.pow_succ]; omega
  unfold loopN
  split
  ·exact Nat.or_lt_two_pow (by omega) (by rw [Nat.one_shiftLeft]; exact Nat.pow_lt_pow_right (by omega) (by omega))
  ·omega
def conM (k x : Nat) (m : Mo) : Mo := (k :: m.1, x :: m.2)
def pth (L : Nat) (bs : List Bool) (nx : List (List Int)) : Nat → Nat → List Mo
 | 0, q => []
 | f + 1, q => (if bs.getD q false then [([loopN nx q L], [])] else []) ++ (List.range L).flatMap fun x => if stepR nx q x = q then [] else (pth L bs nx f (stepR nx q x)).map (conM (loopN nx q L) x)
def pthL (L : Nat) (bs : List Bool) (nx : List (List Int)) (f q x : Nat) : List Mo := (if bs.getD q false then [([loopN nx q L], [])] else []) ++ (List.range x).flatMap fun y => if stepR nx q y = q then [] else (pth L bs nx f (stepR nx q y)).map (conM (loopN nx q L) y)
noncomputable def rkA (L m : Nat) (nx : List (List Int)) (q : Nat) : Nat := m - ancN L m nx q
section
variable {L m s : Nat} {bs : List Bool} {nx : List (List Int)}
theorem ancN_le (L m : Nat) (nx : List (List Int)) (q : Nat) : ancN L m nx q ≤ m := Nat.le_trans (List.length_filter_le _ _) (by simp)
theorem rkA_lt (hD : DfL L m s bs nx) (hA : Acy L m nx) {q x : Nat} (hq : q < m) (hx : x < L) (hne : stepR nx q x ≠ q) : rkA L m nx (stepR nx q x) < rkA L m nx q := by
 have h1 := hA.anc hD hq hx hne
 have h2 := ancN_le L m nx (stepR nx q x)
 unfold rkA
 omega
theorem rkA_le (L m : Nat) (nx : List (List Int)) (q : Nat) : rkA L m nx q ≤ m := Nat.sub_le _ _
theorem flatMap_congr' {α β : Type} {l : List α} {f g : α → List β} (h : ∀ a ∈ l, f a = g a) : l.flatMap f = l.flatMap g := by
 induction l with
 | nil => rfl
 | cons a l ih => rw [List.flatMap_cons, List.flatMap_cons, h a (by simp), ih (fun b hb => h b (by simp [hb]))]
theorem pth_stable (hD : DfL L m s bs nx) (hA : Acy L m nx) : ∀ (f f' q : Nat), q < m → rkA L m nx q < f → rkA L m nx q < f' → pth L bs nx f q = pth L bs nx f' q
 | 0, _, _, _, h, _ => by omega
 | _ + 1, 0, _, _, _, h => by omega
 | f + 1, f' + 1, q, hq, h1, h2 => by
  unfold pth
  congr 1
  refine flatMap_congr' (fun x hx => ?_)
  have hxl : x < L := by simpa using hx
  by_cases e : stepR nx q x = q
  ·simp [e]
  ·have := rkA_lt hD hA hq hxl e
   rw [if_neg e, if_neg e, pth_stable hD hA f f' _ (hD.rt.step hq hxl).1 (by omega) (by omega)]
def pX (L m : Nat) (bs : List Bool) (nx : List (List Int)) (q : Nat) : List Mo := pth L bs nx (m + 1) q
def pXL (L m : Nat) (bs : List Bool) (nx : List (List Int)) (q x : Nat) : List Mo := pthL L bs nx (m + 1) q x
theorem pX_eq (hD : DfL L m s bs nx) (hA : Acy L m nx) {q : Nat} (hq : q < m) : pX L m bs nx q = pXL L m bs nx q L := by
 unfold pX pXL pthL
 rw [pth]
 congr 1
 refine flatMap_congr' (fun x hx => ?_)
 have hxl : x < L := by simpa using hx
 by_cases e : stepR nx q x = q
 ·simp [e]
 ·have := rkA_lt hD hA hq hxl e
  have := rkA_le L m nx q
  rw [if_neg e, if_neg e, pth_stable hD hA m (m + 1) _ (hD.rt.step hq hxl).1 (by omega) (by omega)]
theorem pXL_zero (q : Nat) : pXL L m bs nx q 0 = if bs.getD q false then [([loopN nx q L], [])] else [] := by
 unfold pXL pthL
 simp
theorem pXL_succ (q x : Nat) : pXL L m bs nx q (x + 1) = pXL L m bs nx q x ++ if stepR nx q x = q then [] else (pX L m bs nx (stepR nx q x)).map (conM (loopN nx q L) x) := by
 unfold pXL pthL pX
 rw [List.range_succ, List.flatMap_append, List.append_assoc]
 simp
theorem pXL_loop {q x : Nat} (h : stepR nx q x = q) : pXL L m bs nx q (x + 1) = pXL L m bs nx q x := by rw [pXL_succ, if_pos h, List.append_nil]
theorem pXL_next {q x : Nat} (h : stepR nx q x ≠ q) : pXL L m bs nx q (x + 1) = pXL L m bs nx q x ++ (pX L m bs nx (stepR nx q x)).map (conM (loopN nx q L) x) := by rw [pXL_succ, if_neg h]
theorem pXL_pre (q : Nat) : ∀ (x d : Nat), ∃ l, pXL L m bs nx q (x + d) = pXL L m bs nx q x ++ l
 | x, 0 => ⟨[], by simp⟩
 | x, d + 1 => by
  obtain ⟨l, h⟩ := pXL_pre q x d
  exact ⟨_, by rw [← Nat.add_assoc, pXL_succ, h, List.append_assoc]⟩
theorem pXL_mono (q : Nat) {x y : Nat} (h : x ≤ y) : ∃ l, pXL L m bs nx q y = pXL L m bs nx q x ++ l := by
 obtain ⟨l, e⟩ := pXL_pre (L := L) (m := m) (bs := bs) (nx := nx) q x (y - x)
 rw [show x + (y - x) = y by omega] at e
 exact ⟨l, e⟩
theorem pX_acc (hD : DfL L m s bs nx) (hA : Acy L m nx) {q : Nat} (hq : q < m) : pX L m bs nx q ≠ [] ↔ ∃ w, (∀ a ∈ w, a < L) ∧ accR bs nx q w = true := by
 constructor
 ·have key : ∀ (f q : Nat) (p : Mo), p ∈ pth L bs nx f q → (∀ a ∈ p.2, a < L) ∧ accR bs nx q p.2 = true := by
   intro f
   induction f with
   | zero => intro q p hp; simp [pth] at hp
   | succ f ih =>
    intro q p hp
    rw [pth] at hp
    rcases List.mem_append.1 hp with hp | hp
    ·split at hp
     ·rename_i hb
      simp only [List.mem_singleton] at hp
      subst hp
      exact ⟨by simp, hb⟩
     ·simp at hp
    ·obtain ⟨x, hx, hp⟩ := List.mem_flatMap.1 hp
     have hxl : x < L := by simpa using hx
     split at hp
     ·simp at hp
     ·obtain ⟨p', hp', rfl⟩ := List.mem_map.1 hp
      obtain ⟨h1, h2⟩ := ih _ _ hp'
      refine ⟨fun a ha => ?_, h2⟩
      rcases List.mem_cons.1 ha with e | e
      ·omega
      ·exact h1 a e
  intro h
  obtain ⟨p, hp⟩ := List.exists_mem_of_ne_nil _ h
  exact ⟨p.2, key _ _ _ hp⟩
 ·rintro ⟨w, hw, ha⟩
  induction w generalizing q with
  | nil =>
   rw [pX_eq hD hA hq]
   obtain ⟨l, e⟩ := pXL_mono (L := L) (m := m) (bs := bs) (nx := nx) q (Nat.zero_le L)
   rw [e, pXL_zero, if_pos (by simpa [accR, walkR] using ha)]
   simp
  | cons a w ih =>
   have hal := hw a (by simp)
   have hs := (hD.rt.step hq hal).1
   by_cases e : stepR nx q a = q
   ·refine ih hq (fun b hb => hw b (by simp [hb])) ?_
    have ha' : accR bs nx (stepR nx q a) w = true := ha
    rw [e] at ha'
    exact ha'
   ·have h1 := ih hs (fun b hb => hw b (by simp [hb])) ha
    rw [pX_eq hD hA hq]
    obtain ⟨l, e2⟩ := pXL_mono (L := L) (m := m) (bs := bs) (nx := nx) q (show a + 1 ≤ L by omega)
    rw [e2, pXL_next e]
    intro hc
    simp at hc
    exact h1 hc.2.1
def Fits (n k : Nat) (ps : List Mo) : Prop := n + ps.length ≤ 400 ∧ ∀ p ∈ ps, k + p.2.length ≤ 60
theorem Fits.left {n k : Nat} {ps qs : List Mo} (h : Fits n k (ps ++ qs)) : Fits n k ps := ⟨by have := h.1; simp at this; omega, fun p hp => h.2 p (by simp [hp])⟩
theorem Fits.right {n k : Nat} {ps qs : List Mo} (h : Fits n k (ps ++ qs)) : Fits (n + ps.length) k qs := ⟨by have := h.1; simp at this; omega, fun p hp => h.2 p (by simp [hp])⟩
theorem Fits.app {n k : Nat} {ps qs : List Mo} (h1 : Fits n k ps) (h2 : Fits (n + ps.length) k qs) : Fits n k (ps ++ qs) := ⟨by have := h2.1; simp; omega, fun p hp => by
 rcases List.mem_append.1 hp with g | g
 ·exact h1.2 p g
 ·exact h2.2 p g⟩
theorem fits_map {n k c x : Nat} {ps : List Mo} : Fits n k (ps.map (conM c x)) ↔ Fits n (k + 1) ps := by
 unfold Fits
 simp only [List.length_map, List.mem_map, forall_exists_index, and_imp, forall_apply_eq_imp_iff₂, conM, List.length_cons]
 constructor
 ·rintro ⟨a, b⟩
  exact ⟨a, fun p hp => by have := b p hp; omega⟩
 ·rintro ⟨a, b⟩
  exact ⟨a, fun p hp => by have := b p hp; omega⟩
def preM (S T : List Nat) (ps : List Mo) : List Mo := ps.map fun p => (S ++ p.1, T ++ p.2)
@[simp] theorem preM_len (S T : List Nat) (ps : List Mo) : (preM S T ps).length = ps.length := by simp [preM]
theorem preM_app (S T : List Nat) (ps qs : List Mo) : preM S T (ps ++ qs) = preM S T ps ++ preM S T qs := by simp [preM]
theorem preM_con (S T : List Nat) (c x : Nat) (ps : List Mo) : preM S T (ps.map (conM c x)) = preM (S ++ [c]) (T ++ [x]) ps := by
 simp [preM, conM]
theorem preM_nil (ps : List Mo) : preM [] [] ps = ps := by simp [preM]
end
end Go.Proofs.YtnffigeofdagfaaDoor.M
