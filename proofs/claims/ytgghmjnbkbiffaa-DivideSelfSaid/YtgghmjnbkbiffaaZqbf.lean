/-
  From my old contracts (worlds and cells) to those of the logic, and back.
  The example of chapter 23 for Map.
-/
import Derived.Test.YtgghmjnbkbiffaaZqaf
import Derived.Test.YtgghmjnbkbiffaaZqbb
namespace Go.Proofs.Ytgghmjnbkbiffaa.M
open Go.RowKit
set_option linter.unusedVariables false
set_option linter.unusedSimpArgs false

theorem rep_sl {m : Mem} {w : World} {v : Value} {z : Nat} {cs : List T} (hm : ∀ b o u, m b o = some u → w.cell? ⟨b, o, none⟩ = some u) (h : Rep m v (.sl z cs)) (hz1 : z = 1) :
    ∃ a cap, v = .slice a cs.length cap ∧ cs.length ≤ cap ∧ cap ≤ 9223372036854775807 ∧ (0 < cs.length → ∃ b o, a = some ⟨b, o, none⟩ ∧ ∀ i c, cs[i]? = some c → ∃ u, w.cell? ⟨b, o + i, none⟩ = some u ∧ Rep m u c) := by
  cases h with
  | nil => exact ⟨none, 0, rfl, by simp, by omega, fun h => by simp at h⟩
  | sl b o n cap z cs vs hz hn h1 h2 hc hr =>
    subst hz1
    have hn : cs.length = n := by omega
    subst hn
    exact ⟨_, cap, rfl, h1, h2, fun _ => ⟨b, o, rfl, fun i c hi => ⟨vs i, hm _ _ _ (hc i c hi), hr i c hi⟩⟩⟩
theorem rep_ints {m : Mem} {w : World} {v : Value} {xs : List Int} (hm : ∀ b o u, m b o = some u → w.cell? ⟨b, o, none⟩ = some u) (h : Rep m v (ints xs)) : Ints w v xs := by
  obtain ⟨a, cap, rfl, h1, h2, h3⟩ := rep_sl hm h rfl
  simp only [List.length_map] at h1 h3 ⊢
  refine ⟨a, cap, rfl, h1, h2, fun h0 => ?_⟩
  obtain ⟨b, o, rfl, hc⟩ := h3 h0
  refine ⟨b, o, rfl, fun i hi => ?_⟩
  have hi : i < xs.length := hi
  obtain ⟨u, hu, hr⟩ := hc i (.int .i64 xs[i]) (by simp [hi])
  rw [hu]
  cases hr
  simp [nthx, hi]
theorem rep_rows {m : Mem} {w : World} {v : Value} {t : List (List Int)} (hm : ∀ b o u, m b o = some u → w.cell? ⟨b, o, none⟩ = some u) (h : Rep m v (rows t)) : Rows2 w v t := by
  obtain ⟨a, cap, rfl, h1, h2, h3⟩ := rep_sl hm h rfl
  simp only [List.length_map] at h1 h3 ⊢
  refine ⟨a, cap, rfl, h1, h2, fun h0 => ?_⟩
  obtain ⟨b, o, rfl, hc⟩ := h3 h0
  refine ⟨b, o, rfl, fun i hi => ?_⟩
  have hi : i < t.length := hi
  obtain ⟨u, hu, hr⟩ := hc i (ints t[i]) (by simp [hi])
  refine ⟨u, hu, ?_⟩
  have := rep_ints hm hr
  simpa [nthx, hi] using this
/-- The slice is nil, or its address has no spot. -/
def PlainS (v : Value) : Prop := v = .slice none 0 0 ∨ ∃ b o l c, v = .slice (some ⟨b, o, none⟩) l c
theorem ints_rep {m : Mem} {w : World} {v : Value} {xs : List Int} (h : Ints w v xs) (hp : PlainS v) (hm : ∀ b o l c u k, v = .slice (some ⟨b, o, none⟩) l c → w.cell? ⟨b, k, none⟩ = some u → m b k = some u) : Rep m v (ints xs) := by
  obtain ⟨a, cap, rfl, h1, h2, h3⟩ := h
  rcases hp with hp | ⟨b, o, l, c, hp⟩
  · injection hp with e1 e2 e3
    have : xs = [] := List.length_eq_zero_iff.1 e2
    subst this e1 e3
    exact .nil 1
  · injection hp with e1 e2 e3
    subst e1 e2 e3
    refine .sl b o (lnx xs) cap 1 _ (fun i => .int .i64 (nthx xs i)) (by omega) (by simp [lnx]) h1 h2 (fun i c hi => ?_) (fun i c hi => ?_)
    all_goals
      have hl : i < xs.length := by have := (List.getElem?_eq_some_iff.1 hi).1; simpa using this
    · obtain ⟨b', o', e, hc⟩ := h3 (by show 0 < xs.length; omega)
      injection e with e
      injection e with e1 e2
      subst e1 e2
      exact hm _ _ _ _ _ _ rfl (hc i hl)
    · simp [hl] at hi
      subst hi
      rw [show nthx xs i = xs[i] by simp [nthx, hl]]
      exact .int .i64 _
theorem mem_cell {lo : Nat} {V : Nat → Prop} {ob : Nat → Option (Value × Nat)} {w : World} {p : Nat} : ∀ b o u, memL lo V ob w p b o = some u → w.cell? ⟨b, o, none⟩ = some u := fun b o u h => memL_cell h
theorem MR.bare {w0 w : World} {V S0 U : Nat → Prop} {ob : Nat → Option (Value × Nat)} (h : MR w0 V S0 U (fun k => ([] : List AObj)[k]?) ob w) (id : Nat) : ob id = none := by
  cases e : ob id with
  | none => rfl
  | some x =>
    obtain ⟨o, h1, -⟩ := h.live id x.1 x.2 e
    simp at h1
theorem new_rep {w0 w w' : World} {V S0 U : Nat → Prop} {ob : Nat → Option (Value × Nat)} (h : MR w0 V S0 U (fun k => ([] : List AObj)[k]?) ob w) {v : Value} {xs : List Int} (hi : Ints w' v xs) (hn : NewB w.heap.size v) : Rep (memL w.heap.size V ob w' 2) v (ints xs) := by
  refine ints_rep hi (hn.elim .inl fun ⟨g, l, c, e, _⟩ => .inr ⟨g, 0, l, c, e⟩) (fun b o l c u k e hc => ?_)
  rcases hn with e2 | ⟨g, l2, c2, e2, hg⟩
  · rw [e2] at e; cases e
  · rw [e2] at e
    injection e with e3 e4 e5
    injection e3 with e3
    injection e3 with e3 e4
    subst e3
    refine memL_some.2 ⟨fun ⟨id, u, n, h1, h2⟩ => ?_, .inl hg, hc⟩
    rw [h.bare] at h1
    cases h1
/-- The end of a call that has no own objects. -/
theorem MR.after {w w' : World} {V U : Nat → Prop} {ob : Nat → Option (Value × Nat)} (h : MR w V (OB ob) U (fun k => ([] : List AObj)[k]?) ob w) (hb : Below w.heap.size w w') : MR w V (OB ob) U (fun k => ([] : List AObj)[k]?) ob w' :=
  ⟨h.live, fun id o hi => by simp at hi, h.sep, h.new, Onl.of_below hb⟩

/-- What both Maps return. -/
noncomputable def mapR (t : List (List Int)) (gens : List Int) (s : List (List Int)) (images : List Int) : AV := .tup [.t 2 (ints (natsOf (dvA t gens s images))), .t 2 (ints (natsOf (dvB t gens s images))), .t 2 (.int .i64 (dvErr t gens s images))]
theorem map_bridge {P : Program} {f : FuncId} {t : List (List Int)} {gens : List Int} {s : List (List Int)} {images : List Int} (H : ∀ (w : World) (vt vg vu vi : Value), Rows2 w vt t → Ints w vg gens → Rows2 w vu s → Ints w vi images → Calls P f #[vt, vg, vu, vi] w (MapPost w t gens s images)) : FnA P f [.t 0 (rows t), .t 0 (ints gens), .t 0 (rows s), .t 0 (ints images)] (mapR t gens s images) := by
  intro w V ob vs hm hn hv
  have g0 := (hv 0 _ rfl).rep
  have g1 := (hv 1 _ rfl).rep
  have g2 := (hv 2 _ rfl).rep
  have g3 := (hv 3 _ rfl).rep
  have hvs : vs = #[vs.getD 0 undef, vs.getD 1 undef, vs.getD 2 undef, vs.getD 3 undef] := by
    apply Array.ext
    · simpa using hn
    · intro i h1 h2
      have : i < 4 := by simpa using h2
      rcases (by omega : i = 0 ∨ i = 1 ∨ i = 2 ∨ i = 3) with rfl | rfl | rfl | rfl <;> simp [Array.getD, h1]
  rw [hvs]
  refine (H w _ _ _ _ (rep_rows mem_cell g0) (rep_ints mem_cell g1) (rep_rows mem_cell g2) (rep_ints mem_cell g3)).mono ?_
  rintro e w' ⟨va, vb, rfl, ha, hb, hbel, hna, hnb⟩
  refine ⟨_, ob, rfl, hm.after hbel, .tup _ _ rfl (fun i c hi => ?_), fun i c hi => ?_⟩
  · rcases i with _ | _ | _ | i
    · simp at hi; subst hi; exact .t _ _ _ (new_rep hm ha hna)
    · simp at hi; subst hi; exact .t _ _ _ (new_rep hm hb hnb)
    · simp at hi; subst hi; exact .mkInt _ _ _ _
    · simp at hi
  · rcases i with _ | _ | _ | _ | i
    all_goals (simp at hi)
    all_goals (subst hi; exact .any _)
theorem map_fn (t : List (List Int)) (gens : List Int) (s : List (List Int)) (images : List Int) (hl : gens.length ≤ 100000) : FnA Try.prog 41 [.t 0 (rows t), .t 0 (ints gens), .t 0 (rows s), .t 0 (ints images)] (mapR t gens s images) :=
  map_bridge fun w vt vg vu vi h1 h2 h3 h4 => map_any w vt vg vu vi t gens s images h1 h2 h3 h4 hl
theorem refMap_fn (t : List (List Int)) (gens : List Int) (s : List (List Int)) (images : List Int) : FnA Try.prog 42 [.t 0 (rows t), .t 0 (ints gens), .t 0 (rows s), .t 0 (ints images)] (mapR t gens s images) :=
  map_bridge fun w vt vg vu vi h1 h2 h3 h4 => refMap_any w vt vg vu vi t gens s images h1 h2 h3 h4

/-- The end of a law: true, and nothing of the old memory has turned. -/
theorem law_of_fn {P : Program} {f : FuncId} {args : List AV} {vs : Array Value} {w : World} (h : FnA P f args (.t 2 (.bool true))) (hn : vs.size = args.length) (hv : ∀ (i : Nat) c, args[i]? = some c → VR (evOf w.heap.size (fun _ => True) (fun _ => none) (fun k => k < 0) w) (vs.getD i undef) c) : Calls P f vs w (fun e w' => e = .returned (.bool true) ∧ Below w.heap.size w w') := by
  have hob : ∀ k, ¬ OB (fun _ => none) k := fun k ⟨id, u, n, h1, _⟩ => by cases h1
  refine (h w (fun _ => True) (fun _ => none) vs ⟨fun id u n e => (by cases e), fun id o e => (by simp at e), fun id id' u u' n n' k _ e => (by cases e), fun id u n k e => (by cases e), Onl.refl _ _⟩ hn hv).mono ?_
  rintro e w' ⟨v, ob', rfl, hm, hr, -⟩
  rw [hr.bool]
  exact ⟨rfl, hm.only.below fun k _ => hob k⟩
theorem law_rep {w : World} {v : Value} {xs : List Int} (h : Ints w v xs) (hp : PlainS v) : VR (evOf w.heap.size (fun _ => True) (fun _ => none) (fun k => k < 0) w) v (.t 1 (ints xs)) :=
  .t _ _ _ (ints_rep h hp fun b o l c u k _ hc => memL_some.2 ⟨fun ⟨id, u, n, h1, _⟩ => (by cases h1), .inr (.inr ⟨rfl, trivial⟩), hc⟩)
end Go.Proofs.Ytgghmjnbkbiffaa.M

namespace Go.Proofs.Ytgghmjnbkbiffaa.M
open Go.RowKit
set_option linter.unusedVariables false
set_option linter.unusedSimpArgs false

theorem t1z (r c : Nat) : tabOf [[0]] r c = 0 := by
  unfold tabOf nthx
  rcases r with _ | r <;> rcases c with _ | c <;> rfl
theorem kn_r1 : ∀ r, r < lnx [[(0 : Int)]] → rowOk [[0]] r := by
  intro r hr
  have hr : r < 1 := hr
  obtain rfl : r = 0 := by omega
  refine ⟨rfl, fun i hi => ?_⟩
  have hi : i < 1 := hi
  obtain rfl : i = 0 := by omega
  exact ⟨by decide, by decide⟩
theorem kn_r2 : ∀ r, r < lnx [[(0 : Int), 1], [1, 0]] → rowOk [[0, 1], [1, 0]] r := by
  intro r hr
  have hr : r < 2 := hr
  rcases (by omega : r = 0 ∨ r = 1) with rfl | rfl
  all_goals
    refine ⟨rfl, fun i hi => ?_⟩
    have hi : i < 2 := hi
    rcases (by omega : i = 0 ∨ i = 1) with rfl | rfl <;> exact ⟨by decide, by decide⟩
theorem kn_v1 : vErr [[0]] = 0 := vErr_ok (shape_good (by decide) (by decide) kn_r1) (fun a b c _ _ _ => by simp [t1z])
theorem kn_z2 : vErr [[0, 1], [1, 0]] = 0 := vErr_ok (shape_good (by decide) (by decide) kn_r2) (by
  intro a b c ha hb hc
  have ha : a < 2 := ha
  have hb : b < 2 := hb
  have hc : c < 2 := hc
  rcases (by omega : a = 0 ∨ a = 1) with rfl | rfl <;> rcases (by omega : b = 0 ∨ b = 1) with rfl | rfl <;> rcases (by omega : c = 0 ∨ c = 1) with rfl | rfl <;> rfl)
theorem kn_g : gensB [[0]] [0] = true := gensB_t (inB_t (fun i hi => by
  have hi : i < 1 := hi
  obtain rfl : i = 0 := by omega
  exact ⟨by decide, by decide⟩)) (fun x hx => by
  have hx : x < 1 := hx
  obtain rfl : x = 0 := by omega
  exact .base 0 (by decide) rfl (by decide))
theorem kn_map : mapR [[0]] [0] [[0, 1], [1, 0]] [1] = .tup [.t 2 (ints [0, 1]), .t 2 (ints [0, 0]), .t 2 (.int .i64 0)] := by
  have hr : ∀ y x, DvR (tabOf [[0]]) (tabOf [[0, 1], [1, 0]]) (gpairs [0] [1] 1) y x → x = 0 := by
    intro y x h
    cases h with
    | base hp =>
      obtain ⟨i, hi, rfl⟩ := gpairs_mem.1 hp
      obtain rfl : i = 0 := by omega
      rfl
    | step _ _ => exact t1z _ _
  have hf : DvFun (tabOf [[0]]) (tabOf [[0, 1], [1, 0]]) (gpairs [0] [1] 1) := fun y x x' h h' => by rw [hr _ _ h, hr _ _ h']
  have b1 : DvR (tabOf [[0]]) (tabOf [[0, 1], [1, 0]]) (gpairs [0] [1] 1) 1 0 := .base (p := (0, 1)) (gpairs_mem.2 ⟨0, by omega, rfl⟩)
  have b0 : DvR (tabOf [[0]]) (tabOf [[0, 1], [1, 0]]) (gpairs [0] [1] 1) 0 0 := .step (p := (0, 1)) b1 (gpairs_mem.2 ⟨0, by omega, rfl⟩)
  have hE : dvErr [[0]] [0] [[0, 1], [1, 0]] [1] = 0 := dvErr_0 kn_v1 kn_g kn_z2 rfl (inB_t (fun i hi => by
    have hi : i < 1 := hi
    obtain rfl : i = 0 := by omega
    exact ⟨by decide, by decide⟩)) hf
  have e1 := dvF_is hf b1
  have e0 := dvF_is hf b0
  have hA : dvA [[0]] [0] [[0, 1], [1, 0]] [1] = [0, 1] := by
    unfold dvA
    rw [hE, if_pos rfl]
    show dvEl _ _ (gpairs [0] [1] 1) 2 = _
    rw [dvEl_succ, dvEl_succ]
    simp [dvEl, dvHas, e0, e1]
  have hB : dvB [[0]] [0] [[0, 1], [1, 0]] [1] = [0, 0] := by
    unfold dvB
    rw [hE, if_pos rfl]
    show dvVal _ _ (gpairs [0] [1] 1) 2 = _
    rw [dvVal_succ, dvVal_succ]
    simp [dvVal, dvEl, dvHas, e0, e1]
  unfold mapR
  rw [hA, hB, hE]
  rfl
end Go.Proofs.Ytgghmjnbkbiffaa.M
