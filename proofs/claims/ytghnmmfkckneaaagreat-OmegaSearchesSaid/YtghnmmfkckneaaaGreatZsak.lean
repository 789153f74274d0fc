/-
  From my old contracts (worlds and cells) to those of the logic, and back: what needs no program.
-/
import Derived.Test.YtghnmmfkckneaaaGreatZsah
import Derived.Test.YtghnmmfkckneaaaGreatZsaj
namespace Go.Proofs.YtghnmmfkckneaaaGreat.M
open Go.RowKit
set_option linter.unusedVariables false
set_option linter.unusedSimpArgs false

theorem rep_sl {m : Mem} {w : World} {v : Value} {z : Nat} {cs : List T} (hm : ∀ b o u, m b o = some u → w.cell? ⟨b, o, none⟩ = some u) (h : Rep m v (.sl z cs)) (hz1 : z = 1) :
  ∃ a cap, v = .slice a cs.length cap ∧ cs.length ≤ cap ∧ cap ≤ 9223372036854775807 ∧ (0 < cs.length → ∃ b o, a = some ⟨b, o, none⟩ ∧ ∀ i c, cs[i]? = some c → ∃ u, w.cell? ⟨b, o + i, none⟩ = some u ∧ Rep m u c) := by
 cases h with
 | nil => exact ⟨none, 0, rfl, by simp, by omega, fun h => by simp at h⟩
 | emp a => exact ⟨some a, 0, rfl, by simp, by omega, fun h => by simp at h⟩
 | sl b o n cap z cs vs hz hn h1 h2 hc hr =>
  subst hz1
  have hn : cs.length = n := by omega
  subst hn
  exact ⟨_, cap, rfl, h1, h2, fun _ => ⟨b, o, rfl, fun i c hi => ⟨vs i, hm _ _ _ (hc i c hi), hr i c hi⟩⟩⟩
theorem rep_ints {m : Mem} {w : World} {v : Value} {xs : List Int} (hm : ∀ b o u, m b o = some u → w.cell? ⟨b, o, none⟩ = some u) (h : Rep m v (ints xs)) : Ints w v xs := by
 obtain ⟨a, cap, rfl, h1, h2, h3⟩ := rep_sl hm h rfl
 simp only [List.length_map] at h1 h3 ⊢
 refine ⟨a, cap, rfl, h1, h2, fun h0 => ?_⟩
 obtain ⟨b, o, rfl, hc⟩ := h3 h0
 refine ⟨b, o, rfl, fun i hi => ?_⟩
 have hi : i < xs.length := hi
 obtain ⟨u, hu, hr⟩ := hc i (.int .i64 xs[i]) (by simp [hi])
 rw [hu]
 cases hr
 simp [nthx, hi]
theorem rep_rows {m : Mem} {w : World} {v : Value} {t : List (List Int)} (hm : ∀ b o u, m b o = some u → w.cell? ⟨b, o, none⟩ = some u) (h : Rep m v (rows t)) : Rows2 w v t := by
 obtain ⟨a, cap, rfl, h1, h2, h3⟩ := rep_sl hm h rfl
 simp only [List.length_map] at h1 h3 ⊢
 refine ⟨a, cap, rfl, h1, h2, fun h0 => ?_⟩
 obtain ⟨b, o, rfl, hc⟩ := h3 h0
 refine ⟨b, o, rfl, fun i hi => ?_⟩
 have hi : i < t.length := hi
 obtain ⟨u, hu, hr⟩ := hc i (ints t[i]) (by simp [hi])
 refine ⟨u, hu, ?_⟩
 have := rep_ints hm hr
 simpa [nthx, hi] using this
def PlainS (v : Value) : Prop := v = .slice none 0 0 ∨ ∃ b o l c, v = .slice (some ⟨b, o, none⟩) l c
theorem ints_rep {m : Mem} {w : World} {v : Value} {xs : List Int} (h : Ints w v xs) (hp : PlainS v) (hm : ∀ b o l c u k, v = .slice (some ⟨b, o, none⟩) l c → w.cell? ⟨b, k, none⟩ = some u → m b k = some u) : Rep m v (ints xs) := by
 obtain ⟨a, cap, rfl, h1, h2, h3⟩ := h
 rcases hp with hp | ⟨b, o, l, c, hp⟩
 ·injection hp with e1 e2 e3
  have : xs = [] := List.length_eq_zero_iff.1 e2
  subst this e1 e3
  exact .nil 1
 ·injection hp with e1 e2 e3
  subst e1 e2 e3
  refine .sl b o (lnx xs) cap 1 _ (fun i => .int .i64 (nthx xs i)) (by omega) (by simp [lnx]) h1 h2 (fun i c hi => ?_) (fun i c hi => ?_)
  all_goals
   have hl : i < xs.length := by have := (List.getElem?_eq_some_iff.1 hi).1; simpa using this
  ·obtain ⟨b', o', e, hc⟩ := h3 (by show 0 < xs.length; omega)
   injection e with e
   injection e with e1 e2
   subst e1 e2
   exact hm _ _ _ _ _ _ rfl (hc i hl)
  ·simp [hl] at hi
   subst hi
   rw [show nthx xs i = xs[i] by simp [nthx, hl]]
   exact .int .i64 _
theorem mem_cell {lo : Nat} {V : Nat → Prop} {ob : Nat → Option (Value × Nat)} {w : World} {p : Nat} : ∀ b o u, memL lo V ob w p b o = some u → w.cell? ⟨b, o, none⟩ = some u := fun b o u h => memL_cell h
theorem MR.after {w w' : World} {V U : Nat → Prop} {ob : Nat → Option (Value × Nat)} (h : MR w V (OB ob) U (fun k => ([] : List AObj)[k]?) ob w) (hb : Below w.heap.size w w') : MR w V (OB ob) U (fun k => ([] : List AObj)[k]?) ob w' :=
 ⟨h.live, fun id o hi => by simp at hi, h.sep, h.new, Onl.of_below hb⟩

theorem law_of_fn {P : Program} {f : FuncId} {args : List AV} {vs : Array Value} {w : World} (h : FnA P f args (.t 2 (.bool true))) (hn : vs.size = args.length) (hv : ∀ (i : Nat) c, args[i]? = some c → VR (evOf w.heap.size (fun _ => True) (fun _ => none) (fun k => k < 0) w) (vs.getD i undef) c) : Calls P f vs w (fun e w' => e = .returned (.bool true) ∧ Below w.heap.size w w') := by
 have hob : ∀ k, ¬ OB (fun _ => none) k := fun k ⟨id, u, n, h1, _⟩ => by cases h1
 refine (h w (fun _ => True) (fun _ => none) vs ⟨fun id u n e => (by cases e), fun id o e => (by simp at e), fun id id' u u' n n' k _ e => (by cases e), fun id u n k e => (by cases e), Onl.refl _ _⟩ hn hv).mono ?_
 rintro e w' ⟨v, ob', rfl, hm, hr, -⟩
 rw [hr.bool]
 exact ⟨rfl, hm.only.below fun k _ => hob k⟩
theorem law_rep {w : World} {v : Value} {xs : List Int} (h : Ints w v xs) (hp : PlainS v) : VR (evOf w.heap.size (fun _ => True) (fun _ => none) (fun k => k < 0) w) v (.t 1 (ints xs)) :=
 .t _ _ _ (ints_rep h hp fun b o l c u k _ hc => memL_some.2 ⟨fun ⟨id, u, n, h1, _⟩ => (by cases h1), .inr (.inr ⟨rfl, trivial⟩), hc⟩)
theorem vs1 {vs : Array Value} (hn : vs.size = 1) : vs = #[vs.getD 0 undef] := by
 apply Array.ext
 ·simpa using hn
 ·intro i h1 h2
  have : i < 1 := by simpa using h2
  obtain rfl : i = 0 := by omega
  simp [Array.getD, h1]
theorem gh_any {E : Ev} {f : Nat → Value} : ∀ {l : List AV}, (∀ a ∈ l, ghA1 a = .any) → GhR E f (ghA l) := fun {l} h i c hi => by
 unfold ghA at hi
 rw [List.getElem?_map] at hi
 cases e : l[i]? with
 | none => rw [e] at hi; cases hi
 | some a =>
  rw [e] at hi
  simp only [Option.map_some, Option.some.injEq] at hi
  rw [h a (List.mem_of_getElem? e)] at hi
  subst hi
  exact .any _
theorem valRef_fn (t : List (List Int)) : FnA Tryz.prog 54 [.t 0 (rows t)] (.t 2 (.int .i64 (vErr t))) := by
 intro w V ob vs hm hn hv
 have g0 := (hv 0 _ rfl).rep
 rw [vs1 hn]
 refine (validateRef_any w _ t (rep_rows mem_cell g0)).mono ?_
 rintro e w' ⟨rfl, k, rfl⟩
 exact ⟨_, ob, rfl, hm.after (Below.drewN' (Below.refl _ _) k), .mkInt _ _ _ _, gh_any (by simp [ghA1])⟩
structure TbL (t : List (List Int)) (n : Nat) (T : Nat → Nat → Nat) : Prop where
 len : t.length = n
 row : ∀ r (h : r < t.length), t[r].length = n
 val : ∀ r c (h : r < t.length) (h2 : c < t[r].length), t[r][c] = (T r c : Int)
 lt : ∀ r c, r < n → c < n → T r c < n

theorem nth_get {α : Type} [Inhabited α] {l : List α} {i : Nat} (h : i < l.length) : nthx l i = l[i] := by simp [nthx, h]
theorem TbL.of {t : List (List Int)} (h : vErr t = 0) : TbL t t.length (tabOf t) := by
 obtain ⟨h0, h4, hr⟩ := shape_inv (vErr_inv h).1
 refine ⟨rfl, fun r h => ?_, fun r c h h2 => ?_, fun r c h h2 => ?_⟩
 ·have := (hr r h).1
  rw [nth_get h] at this
  exact this
 ·have := (hr r h).2 c (by rw [nth_get h]; exact h2)
  unfold tabOf
  rw [nth_get h] at this ⊢
  rw [nth_get h2] at this ⊢
  omega
 ·have := (hr r h).2 c (by have := (hr r h).1; simp only [lnx] at this ⊢; omega)
  unfold tabOf
  simp only [lnx] at this
  omega
theorem vErr_asc {t : List (List Int)} (h : vErr t = 0) : Assoc t.length (tabOf t) := (vErr_inv h).2
theorem vErr_len {t : List (List Int)} (h : vErr t = 0) : 0 < t.length ∧ t.length ≤ 400 := ⟨(shape_inv (vErr_inv h).1).1, (shape_inv (vErr_inv h).1).2.1⟩
end Go.Proofs.YtghnmmfkckneaaaGreat.M
