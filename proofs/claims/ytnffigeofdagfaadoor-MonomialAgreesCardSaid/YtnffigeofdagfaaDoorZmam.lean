/-
  Walks in my logic: Words, Definite.
-/
import Derived.Test.YtnffigeofdagfaaDoorZmal
namespace Go.Proofs.YtnffigeofdagfaaDoor.M
open Go.RowKit
set_option linter.unusedVariables false
set_option linter.unusedSimpArgs false

def wc (L most : Nat) : Nat := if most = 1 then 1 else 1 + L
structure WsI (L most : Nat) (ws : List (List Nat)) (i a : Nat) : Prop where
 le : i ≤ ws.length
 len : ws.length = 1 + L * min i (wc L most) + a
 ln : ∀ (j : Nat) w, ws[j]? = some w → w.length = if j = 0 then 0 else if j ≤ L then 1 else 2
 lt : ∀ w ∈ ws, ∀ x ∈ w, x < L
 zero : ws[0]? = some []
 cl : ∀ (j : Nat) w, j < i → ws[j]? = some w → w.length < most → ∀ x, x < L → w ++ [x] ∈ ws
theorem WsI.start {L most : Nat} : WsI L most [[]] 0 0 :=
 ⟨by simp, by simp, fun j w h => by cases j <;> simp at h; subst h; rfl, fun w hw x hx => by simp at hw; subst hw; simp at hx, rfl, fun j w h => by omega⟩
theorem WsI.add {L most : Nat} {ws : List (List Nat)} {i a : Nat} (hL : L = 1 ∨ L = 2) (hm : most = 1 ∨ most = 2) (h : WsI L most ws i a) {w : List Nat} (hw : ws[i]? = some w) (hl : w.length < most) (ha : a < L) : WsI L most (ws ++ [w ++ [a]]) i (a + 1) := by
 have hil := (List.getElem?_eq_some_iff.1 hw).1
 have hlen := h.len
 have hwl := h.ln i w hw
 have hic : i < wc L most := by
  unfold wc
  rcases hm with rfl | rfl
  ·by_cases e : i = 0
   ·simp [e]
   ·rw [if_neg e] at hwl
    split at hwl <;> omega
  ·simp only [show ¬ (2 = 1) by omega, if_false]
   by_cases e : i = 0
   ·omega
   ·rw [if_neg e] at hwl
    split at hwl <;> omega
 have hmin : min i (wc L most) = i := by omega
 rw [hmin] at hlen
 refine ⟨by simp; omega, by simp [hmin, hlen]; omega, fun j u hu => ?_, fun u hu x hx => ?_, by rw [List.getElem?_append_left (by omega)]; exact h.zero, fun j u hj hu hul x hx => ?_⟩
 ·by_cases hjl : j < ws.length
  ·rw [List.getElem?_append_left hjl] at hu; exact h.ln j u hu
  ·have hj2 := (List.getElem?_eq_some_iff.1 hu).1
   simp at hj2
   have : j = ws.length := by omega
   subst this
   simp at hu
   subst hu
   simp only [List.length_append, List.length_cons, List.length_nil]
   rw [if_neg (by omega)]
   by_cases e : i = 0
   ·subst e
    rw [if_pos rfl] at hwl
    rw [if_pos (by omega)]
    omega
   ·rw [if_neg e] at hwl
    have hiL : i ≤ L := by
     unfold wc at hic
     split at hic <;> omega
    rw [if_pos hiL] at hwl
    have : L * i ≥ L := Nat.le_mul_of_pos_right L (by omega)
    rw [if_neg (by omega)]
    omega
 ·rcases List.mem_append.1 hu with hu | hu
  ·exact h.lt u hu x hx
  ·simp at hu
   subst hu
   simp at hx
   rcases hx with hx | rfl
   ·exact h.lt w (List.mem_of_getElem? hw) x hx
   ·exact ha
 ·rw [List.getElem?_append_left (by omega)] at hu
  exact List.mem_append_left _ (h.cl j u hj hu hul x hx)
theorem WsI.next {L most : Nat} {ws : List (List Nat)} {i a : Nat} (hL : L = 1 ∨ L = 2) (hm : most = 1 ∨ most = 2) (h : WsI L most ws i a) {w : List Nat} (hw : ws[i]? = some w) (hex : (¬ w.length < most ∧ a = 0) ∨ (w.length < most ∧ a = L ∧ ∀ x, x < L → w ++ [x] ∈ ws)) : WsI L most ws (i + 1) 0 := by
 have hil := (List.getElem?_eq_some_iff.1 hw).1
 have hlen := h.len
 have hwl := h.ln i w hw
 refine ⟨by omega, ?_, h.ln, h.lt, h.zero, fun j u hj hu hul x hx => ?_⟩
 ·rw [hlen]
  unfold wc
  rcases hL with rfl | rfl <;> rcases hm with rfl | rfl <;> rcases hex with ⟨h1, rfl⟩ | ⟨h1, rfl, -⟩ <;> simp at hwl ⊢ <;> (repeat' split at hwl) <;> omega
 ·by_cases e : j = i
  ·subst e
   rw [hw] at hu
   injection hu with hu
   subst hu
   rcases hex with ⟨h1, -⟩ | ⟨-, -, h1⟩
   ·omega
   ·exact h1 x hx
  ·exact h.cl j u (by omega) hu hul x hx
theorem WsI.bound {L most : Nat} {ws : List (List Nat)} {i a : Nat} (hL : L = 1 ∨ L = 2) (h : WsI L most ws i a) (ha : a ≤ L) : ws.length ≤ 9 := by
 have hlen := h.len
 have : min i (wc L most) ≤ 3 := by
  unfold wc
  split <;> omega
 rcases hL with rfl | rfl <;> omega
structure WsG (L most : Nat) (ws : List (List Nat)) : Prop where
 len : ws.length ≤ 9
 pos : 1 ≤ ws.length
 ln : ∀ w ∈ ws, w.length ≤ most
 lt : ∀ w ∈ ws, ∀ x ∈ w, x < L
 all : ∀ w : List Nat, (∀ x ∈ w, x < L) → w.length ≤ most → w ∈ ws
theorem WsI.fin {L most : Nat} {ws : List (List Nat)} (hL : L = 1 ∨ L = 2) (hm : most = 1 ∨ most = 2) (h : WsI L most ws ws.length 0) : WsG L most ws := by
 have hz := h.zero
 have hz1 := (List.getElem?_eq_some_iff.1 hz).1
 refine ⟨h.bound hL (by omega), by omega, fun w hw => ?_, h.lt, fun w => ?_⟩
 ·obtain ⟨j, hj, rfl⟩ := List.getElem_of_mem hw
  have h1 := h.ln j ws[j] (by simp)
  have hlen := h.len
  unfold wc at hlen
  rcases hL with rfl | rfl <;> rcases hm with rfl | rfl <;> simp at hlen h1 <;> (repeat' split at h1) <;> omega
 ·induction hn : w.length generalizing w with
  | zero =>
   intro _ _
   have : w = [] := List.eq_nil_of_length_eq_zero hn
   subst this
   exact List.mem_of_getElem? hz
  | succ n ih =>
   intro hx hl
   obtain ⟨u, x, rfl⟩ : ∃ u x, w = u ++ [x] := ⟨w.dropLast, w.getLast (by intro e; simp [e] at hn), (List.dropLast_concat_getLast _).symm⟩
   simp at hn
   have hu := ih u hn (fun y hy => hx y (by simp [hy])) (by omega)
   obtain ⟨j, hj, e⟩ := List.getElem_of_mem hu
   exact h.cl j u hj (by simp [← e]) (by omega) x (hx x (by simp))
end Go.Proofs.YtnffigeofdagfaaDoor.M
