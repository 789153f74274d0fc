/-
  Walks in my logic: letter, Same, Find, Discrete, Compose.
  Walks in my logic: Discrete, Compose, Copy.
  Walks in my logic: Copy, Word, Valid, MayGens.
  Walks in my logic: Word, Valid, MayGens.
  Walk: MayGens. Plain law: enumerations of transformations, by lists.
  Walk in my logic: process.
  Walks in my logic: Build, Table.
  Walks in my logic: the tape (Mod, New, Next), Dfa.
  Walks in my logic: Ordered, Permutations.
  Walk in my logic: Permutations.
-/
import Derived.Test.YtnffigeofdagfaaDoorZrai
import Derived.Test.YtnffigeofdagfaaDoorZrah
import Derived.Test.YtnffigeofdagfaaDoorZrak
namespace Go.Proofs.YtnffigeofdagfaaDoor.M
open Go.RowKit
set_option linter.unusedVariables false
set_option linter.unusedSimpArgs false

def ints (xs : List Int) : T := .sl 1 (xs.map (.int .i64))
def rows (xss : List (List Int)) : T := .sl 1 (xss.map ints)
theorem wr64 (x : Int) (h1 : -9223372036854775808 ≤ x) (h2 : x ≤ 9223372036854775807) : IntKind.i64.wrap x = x := by rw [IntKind.wrap_i64]; omega
theorem wr8 (x : Int) (h1 : 0 ≤ x) (h2 : x ≤ 255) : IntKind.u8.wrap x = x := by rw [IntKind.wrap_u8]; omega
def strL (ls : List Nat) : ByteArray := ⟨(ls.map fun x => UInt8.ofNat (97 + x)).toArray⟩
set_option maxRecDepth 100000 in
set_option maxHeartbeats 1000000 in
theorem same_fn (xs ys : List Int) (hx : xs.length ≤ 1000000) : FnA Tryd.prog 55 [.t 0 (ints xs), .t 0 (ints ys)] (.t 2 (.bool (decide (xs = ys)))) := by
 refine fn_intro Tryd.func55 rfl (by simp [Tryd.f55]) ?_
 rw [show Tryd.f55.ntmps = 26 from rfl, show Tryd.f55.results = #[.tmp 4] from rfl]
 refine awp_seqR fun K hK => ?_
 simp (disch := omega) [ints, rows, scal, wr64, wr8]
 (repeat' first | apply hK | apply And.intro) <;> try first | (show okH _ _ _ = true; kernel_rfl) | omega | rfl | (simp <;> omega)
 refine awp_seq ?_
 by_cases hl : xs.length = ys.length
 case neg =>
  refine awp_seqR fun K hK => ?_
  simp (disch := omega) [ints, rows, scal, wr64, wr8]
  (repeat' first | apply hK | apply And.intro) <;> try first | (show okH _ _ _ = true; kernel_rfl) | omega | rfl | (simp <;> omega)
  refine awp_cond (b := true) (p := 2) (by simp [scal] <;> omega) ?_
  refine awp_seqR fun K hK => ?_
  simp (disch := omega) [ints, rows, scal, wr64, wr8]
  (repeat' first | apply hK | apply And.intro) <;> try first | (show okH _ _ _ = true; kernel_rfl) | omega | rfl | (simp <;> omega)
  refine awp_ret ?_
  refine ⟨⟨.inr rfl, _, [], rfl, trivial, trivial, by simp, ?_⟩, by simp⟩
  simp
  intro h; exact hl (by rw [h])
 refine awp_seqR fun K hK => ?_
 simp (disch := omega) [ints, rows, scal, wr64, wr8]
 (repeat' first | apply hK | apply And.intro) <;> try first | (show okH _ _ _ = true; kernel_rfl) | omega | rfl | (simp <;> omega)
 refine awp_cond (b := false) (p := 2) (by simp [scal] <;> omega) ?_
 refine awp_skip ?_
 refine awp_seq ?_
 refine awp_seqR fun K hK => ?_
 simp (disch := omega) [ints, rows, scal, wr64, wr8]
 (repeat' first | apply hK | apply And.intro) <;> try first | (show okH _ _ _ = true; kernel_rfl) | omega | rfl | (simp <;> omega)
 refine awp_block ?_
 refine awp_loop (fun k : Nat => mkS [(0, .t 0 (ints xs)), (1, .t 0 (ints ys)), (12, .t 2 (.int .i64 xs.length)), (13, .t 2 (.int .i64 k))] [] 0 26 [.any, .any]) (fun k => k ≤ xs.length ∧ ∀ i (h1 : i < xs.length) (h2 : i < ys.length), i < k → xs[i] = ys[i]) (fun k => xs.length - k) ?_ ?_
 ·refine ⟨0, ⟨by omega, fun i h1 h2 h => by omega⟩, ?_⟩
  refine wk_list [] rfl ?_ ?_ ?_ ?_
  all_goals try simp [ints]
 ·intro k hk
  obtain ⟨hk, hall⟩ := hk
  refine awp_seqR fun K hK => ?_
  simp (disch := omega) [ints, rows, scal, wr64, wr8]
  (repeat' first | apply hK | apply And.intro) <;> try first | (show okH _ _ _ = true; kernel_rfl) | omega | rfl | (simp <;> omega)
  by_cases hlt : k < xs.length
  ·have hlt2 : k < ys.length := by omega
   refine awp_seq ?_
   refine awp_cond (b := true) (p := 2) (by simp [scal, hlt] <;> omega) ?_
   refine awp_skip ?_
   refine awp_seq ?_
   refine awp_block ?_
   refine awp_seqR fun K hK => ?_
   simp (disch := omega) [ints, rows, scal, wr64, wr8]
   (repeat' first | apply hK | apply And.intro) <;> try first | (show okH _ _ _ = true; kernel_rfl) | omega | rfl | (simp <;> omega)
   by_cases he : xs[k] = ys[k]
   ·refine awp_seqD (by kernel_rfl) (fun K hK => ?_)
    simp (disch := omega) [ints, rows, scal, wr64, wr8, hlt, hlt2, he]
    (repeat' first | apply hK | apply And.intro) <;> try first | (show chkD _ _ = true; kernel_rfl) | (show okH _ _ _ = true; kernel_rfl) | omega | rfl | (simp <;> omega)
    refine awp_cond (b := false) (p := 2) (by simp [scal] <;> omega) ?_
    refine awp_skip ?_
    show awp _ _ _ _
    refine awp_R fun K hK => ?_
    simp (disch := omega) [ints, rows, scal, wr64, wr8]
    (repeat' first | apply hK | apply And.intro) <;> try first | (show okH _ _ _ = true; kernel_rfl) | omega | rfl | (simp <;> omega)
    refine ⟨k + 1, ⟨by omega, fun i h1 h2 h => ?_⟩, by omega, ?_⟩
    ·by_cases e : i = k
     ·subst e; exact he
     ·exact hall i h1 h2 (by omega)
    ·refine wk_list [] rfl ?_ ?_ ?_ ?_
     all_goals try simp [ints]
   ·refine awp_seqD (by kernel_rfl) (fun K hK => ?_)
    simp (disch := omega) [ints, rows, scal, wr64, wr8, hlt, hlt2, he]
    (repeat' first | apply hK | apply And.intro) <;> try first | (show chkD _ _ = true; kernel_rfl) | (show okH _ _ _ = true; kernel_rfl) | omega | rfl | (simp <;> omega)
    refine awp_cond (b := true) (p := 2) (by simp [scal] <;> omega) ?_
    refine awp_seqR fun K hK => ?_
    simp (disch := omega) [ints, rows, scal, wr64, wr8]
    (repeat' first | apply hK | apply And.intro) <;> try first | (show okH _ _ _ = true; kernel_rfl) | omega | rfl | (simp <;> omega)
    refine awp_ret ?_
    show resQ _ _ _ _ _ _ ∧ _
    refine ⟨⟨.inr rfl, _, [], rfl, trivial, trivial, by simp, ?_⟩, by simp⟩
    simp
    intro h; exact he (by simp only [h])
  ·refine awp_seq ?_
   refine awp_cond (b := false) (p := 2) (by simp [scal, hlt] <;> omega) ?_
   refine awp_exit ?_
   show awp _ _ _ _
   refine awp_seqR fun K hK => ?_
   simp (disch := omega) [ints, rows, scal, wr64, wr8]
   (repeat' first | apply hK | apply And.intro) <;> try first | (show okH _ _ _ = true; kernel_rfl) | omega | rfl | (simp <;> omega)
   refine awp_ret ?_
   refine ⟨⟨.inr rfl, _, [], rfl, trivial, trivial, by simp, ?_⟩, by simp⟩
   simp
   exact List.ext_getElem hl (fun i h1 h2 => hall i h1 h2 (by omega))

set_option linter.unusedSimpArgs false

@[simp] theorem tab_elem {α : Type} {n : Nat} (F : Nat → α) {k : Nat} (h : k < (tab n F).length) : (tab n F)[k] = F k := by simp [tab]
theorem tab_map {α β : Type} (n : Nat) (F : Nat → α) (g : α → β) : (tab n F).map g = tab n (fun i => g (F i)) := by simp [tab, Function.comp_def]
theorem tab_set {α : Type} {n : Nat} (F : Nat → α) (k : Nat) (x : α) : (tab n F).set k x = tab n (fun i => if i = k then x else F i) := by
 apply List.ext_getElem?
 intro i
 rw [List.getElem?_set]
 by_cases hi : i < n
 ·rw [tab_get _ hi]
  by_cases e : k = i
  ·subst e; rw [if_pos rfl, if_pos (by simpa using hi), tab_get _ hi, if_pos rfl]
  ·rw [if_neg e, tab_get _ hi, if_neg (Ne.symm e)]
 ·rw [List.getElem?_eq_none (by simp; omega)]
  by_cases e : k = i
  ·subst e; simp [hi]
  ·rw [if_neg e, List.getElem?_eq_none (by simp; omega)]
theorem tab_congr {α : Type} {n : Nat} {F G : Nat → α} (h : ∀ i, i < n → F i = G i) : tab n F = tab n G := by
 unfold tab
 exact List.map_congr_left (fun i hi => h i (List.mem_range.1 hi))
theorem rep_tab {α : Type} (n : Nat) (x : α) : List.replicate n x = tab n (fun _ => x) := by
 apply List.ext_getElem?
 intro i
 by_cases h : i < n
 ·rw [tab_get _ h]; simp [h]
 ·rw [List.getElem?_eq_none (by simp; omega), List.getElem?_eq_none (by simp; omega)]
theorem tab_succ {α : Type} (n : Nat) (F : Nat → α) : tab (n + 1) F = tab n F ++ [F n] := by simp [tab, List.range_succ]

set_option linter.unusedSimpArgs false

theorem fn_introE {P : Program} {f : FuncId} {fn : Func} {c : Code} {args : List AV} {H H' : List AObj} {G : AV → Prop} (hf : P.funcs[f]? = some fn) (hb : fn.body = some c) (hle : args.length ≤ fn.ntmps) (h : awp P c (fun e σ => ∃ res, G res ∧ resQ P fn.results.toList res H' e σ ∧ σ.gh = ghA args) (argS args H fn.ntmps)) : ∃ res, G res ∧ FnS P f args H res H' := by
 obtain ⟨e, σ', h1, res, hG, h2⟩ := h
 exact ⟨res, hG, fn_intro hf hb hle ⟨e, σ', h1, h2⟩⟩

set_option linter.unusedSimpArgs false

theorem strL_append (a b : List Nat) : strL a ++ strL b = strL (a ++ b) := by
 apply ByteArray.ext
 simp [strL]
structure WdL (L : Nat) (pre last : List Int) (wds : List (List Nat)) : Prop where
 lp : pre.length = wds.length
 ll : last.length = wds.length
 at_ : ∀ (i : Nat) w, wds[i]? = some w → ∃ p l : Int, pre[i]? = some p ∧ last[i]? = some l ∧ ((l = -1 ∧ p = -1 ∧ w = []) ∨ ∃ x : Nat, l = (x : Int) ∧ x < L ∧ ((p = -1 ∧ w = [x]) ∨ ∃ (j : Nat) (u : List Nat), p = (j : Int) ∧ j < i ∧ wds[j]? = some u ∧ w = u ++ [x]))
@[simp] theorem strL_size (l : List Nat) : (strL l).size = l.length := by simp [strL, ByteArray.size]
theorem WdL.len {L : Nat} {pre last : List Int} {wds : List (List Nat)} (h : WdL L pre last wds) : ∀ (i : Nat) w, wds[i]? = some w → w.length ≤ i + 1 := by
 intro i
 induction i using Nat.strongRecOn with
 | _ i ih =>
  intro w hw
  obtain ⟨p, l, -, -, hc⟩ := h.at_ i w hw
  rcases hc with ⟨-, -, rfl⟩ | ⟨x, -, -, ⟨-, rfl⟩ | ⟨j, u, -, hj, hu, rfl⟩⟩
  ·simp
  ·simp
  ·have := ih j hj u hu
   simp; omega

set_option linter.unusedSimpArgs false

def TrN (n : Nat) (f : List Int) : Prop := f.length = n ∧ ∀ v ∈ f, 0 ≤ v ∧ v < (n : Int)
structure GnOK (n : Nat) (gs : List (List Int)) : Prop where
 n1 : 1 ≤ n
 n2 : n ≤ 32
 g1 : 1 ≤ gs.length
 g2 : gs.length ≤ 6
 tr : ∀ g ∈ gs, TrN n g
theorem GnOK.len {n : Nat} {gs : List (List Int)} (h : GnOK n gs) {g : List Int} (hg : g ∈ gs) : g.length = n := (h.tr g hg).1
def compL (f g : List Int) : List Int := f.map fun v => g.getD v.toNat 0
theorem TrN.comp {n : Nat} {f g : List Int} (hf : TrN n f) (hg : TrN n g) : TrN n (compL f g) := by
 refine ⟨by simp [compL, hf.1], fun v hv => ?_⟩
 simp only [compL, List.mem_map] at hv
 obtain ⟨u, hu, rfl⟩ := hv
 obtain ⟨h1, h2⟩ := hf.2 u hu
 have hl := hg.1
 have : u.toNat < g.length := by omega
 rw [List.getD_eq_getElem?_getD, List.getElem?_eq_getElem this]
 exact hg.2 _ (by simp)
def idL (n : Nat) : List Int := tab n fun i => (i : Int)
theorem idL_tr (n : Nat) : TrN n (idL n) := by
 refine ⟨by simp [idL], fun v hv => ?_⟩
 simp only [idL, tab, List.mem_map, List.mem_range] at hv
 obtain ⟨i, hi, rfl⟩ := hv
 omega
def act (n : Nat) (gs : List (List Int)) (w : List Nat) : List Int := w.foldl (fun f x => compL f (gs.getD x [])) (idL n)
theorem act_snoc (n : Nat) (gs : List (List Int)) (w : List Nat) (x : Nat) : act n gs (w ++ [x]) = compL (act n gs w) (gs.getD x []) := by simp [act]
structure EnL (n : Nat) (gs els : List (List Int)) (pre last : List Int) (wds : List (List Nat)) : Prop where
 wd : WdL gs.length pre last wds
 le : els.length = wds.length
 one : els[0]? = some (idL n) ∧ wds[0]? = some []
 val : ∀ (i : Nat) w e, wds[i]? = some w → els[i]? = some e → e = act n gs w ∧ TrN n e ∧ ∀ x ∈ w, x < gs.length
 nd : ∀ (i j : Nat) e, els[i]? = some e → els[j]? = some e → i = j
theorem EnL.start {n : Nat} {gs : List (List Int)} : EnL n gs [idL n] [-1] [-1] [[]] := by
 refine ⟨⟨rfl, rfl, fun i w hw => ?_⟩, rfl, ⟨rfl, rfl⟩, fun i w e hw he => ?_, fun i j e hi hj => ?_⟩
 ·match i, hw with
  | 0, hw => simp at hw; subst hw; exact ⟨-1, -1, rfl, rfl, .inl ⟨rfl, rfl, rfl⟩⟩
 ·match i, hw, he with
  | 0, hw, he => simp at hw he; subst hw he; exact ⟨rfl, idL_tr n, fun x hx => by simp at hx⟩
 ·match i, j, hi, hj with
  | 0, 0, _, _ => rfl
theorem WdL.add {L : Nat} {pre last : List Int} {wds : List (List Nat)} (h : WdL L pre last wds) {p : Nat} {u : List Nat} {x : Nat} (hx : x < L) (hp : wds[p]? = some u) (b : Int) (hb : b = p) : WdL L (pre ++ [b]) (last ++ [(x : Int)]) (wds ++ [u ++ [x]]) := by
 have hpl := (List.getElem?_eq_some_iff.1 hp).1
 have h1 := h.lp
 have h2 := h.ll
 refine ⟨by simp [h1], by simp [h2], fun i w hw => ?_⟩
 by_cases hi : i < wds.length
 ·rw [List.getElem?_append_left hi] at hw
  obtain ⟨p', l', e1, e2, hc⟩ := h.at_ i w hw
  refine ⟨p', l', by rw [List.getElem?_append_left (by omega)]; exact e1, by rw [List.getElem?_append_left (by omega)]; exact e2, ?_⟩
  rcases hc with hc | ⟨x', a1, a2, a3 | ⟨j, v, b1, b2, b3, b4⟩⟩
  ·exact .inl hc
  ·exact .inr ⟨x', a1, a2, .inl a3⟩
  ·exact .inr ⟨x', a1, a2, .inr ⟨j, v, b1, b2, by rw [List.getElem?_append_left (by omega)]; exact b3, b4⟩⟩
 ·have hi2 : i = wds.length := by
   have := (List.getElem?_eq_some_iff.1 hw).1
   simp at this; omega
  subst hi2
  rw [List.getElem?_append_right (by omega)] at hw
  simp at hw
  subst hw
  refine ⟨b, x, by rw [← h1]; simp, by rw [← h2]; simp, .inr ⟨x, rfl, hx, .inr ⟨p, u, hb, hpl, by rw [List.getElem?_append_left hpl]; exact hp, rfl⟩⟩⟩
theorem EnL.add {n : Nat} {gs els : List (List Int)} {pre last : List Int} {wds : List (List Nat)} (h : EnL n gs els pre last wds) (hg : ∀ g ∈ gs, TrN n g) {p x : Nat} {u : List Nat} {e g : List Int} (hp : wds[p]? = some u) (he : els[p]? = some e) (hx : gs[x]? = some g) (hnew : ∀ (i : Nat) (hi : i < els.length), els[i] ≠ compL e g) (b : Int) (hb : b = p) : EnL n gs (els ++ [compL e g]) (pre ++ [b]) (last ++ [(x : Int)]) (wds ++ [u ++ [x]]) := by
 have hle := h.le
 have hxl := (List.getElem?_eq_some_iff.1 hx).1
 obtain ⟨o1, o2⟩ := h.one
 have ho1 := (List.getElem?_eq_some_iff.1 o1).1
 obtain ⟨v1, v2, v3⟩ := h.val p u e hp he
 refine ⟨h.wd.add hxl hp b hb, by simp [hle], ⟨by rw [List.getElem?_append_left ho1]; exact o1, by rw [List.getElem?_append_left (by omega)]; exact o2⟩, fun i w d hw hd => ?_, fun i j d hi hj => ?_⟩
 ·by_cases hi : i < wds.length
  ·rw [List.getElem?_append_left hi] at hw
   rw [List.getElem?_append_left (by omega)] at hd
   exact h.val i w d hw hd
  ·have hi2 : i = wds.length := by
    have := (List.getElem?_eq_some_iff.1 hw).1
    simp at this; omega
   subst hi2
   rw [List.getElem?_append_right (by omega)] at hw
   rw [List.getElem?_append_right (by omega)] at hd
   simp [hle] at hw hd
   subst hw hd
   refine ⟨by rw [act_snoc, ← v1, List.getD_eq_getElem?_getD, hx]; rfl, v2.comp (hg g (List.mem_of_getElem? hx)), fun y hy => ?_⟩
   simp at hy
   rcases hy with hy | rfl
   ·exact v3 y hy
   ·exact hxl
 ·have key : ∀ (i : Nat) d, (els ++ [compL e g])[i]? = some d → (i < els.length ∧ els[i]? = some d) ∨ (i = els.length ∧ d = compL e g) := fun i d hi => by
   by_cases hl : i < els.length
   ·rw [List.getElem?_append_left hl] at hi; exact .inl ⟨hl, hi⟩
   ·have hl2 := (List.getElem?_eq_some_iff.1 hi).1
    simp at hl2
    have : i = els.length := by omega
    subst this
    simp at hi
    exact .inr ⟨rfl, hi.symm⟩
  rcases key i d hi with ⟨a1, a2⟩ | ⟨a1, a2⟩ <;> rcases key j d hj with ⟨b1, b2⟩ | ⟨b1, b2⟩
  ·exact h.nd i j d a2 b2
  ·obtain ⟨c1, c2⟩ := List.getElem?_eq_some_iff.1 a2
   exact absurd (c2.trans b2) (hnew i a1)
  ·obtain ⟨c1, c2⟩ := List.getElem?_eq_some_iff.1 b2
   exact absurd (c2.trans a2) (hnew j b1)
  ·omega

set_option linter.unusedSimpArgs false

@[simp] theorem mpTy_si : mpTy Tryd.prog 109 = some (9, 3) := by kernel_rfl
@[simp] theorem zero1_int : zero1 Tryd.prog 3 = some (.int .i64 0) := by kernel_rfl
@[simp] theorem kOK_str (s : ByteArray) : kOK Tryd.prog 9 (.str s) = true := by simp [kOK]
def mUp (x y : T) (es : List (T × T)) : List (T × T) := match fndT x es with
 | some j => es.set j (x, y)
 | none => es ++ [(x, y)]
def MsOK (es : List (T × T)) : Prop := ∀ e ∈ es, ∃ s, e.1 = .str s
theorem MsOK.nil : MsOK [] := fun e he => by simp at he
theorem MsOK.up {es : List (T × T)} (h : MsOK es) (s : ByteArray) (y : T) : MsOK (mUp (.str s) y es) := by
 intro e he
 unfold mUp at he
 split at he
 ·rcases List.mem_or_eq_of_mem_set he with he | rfl
  ·exact h e he
  ·exact ⟨s, rfl⟩
 ·rcases List.mem_append.1 he with he | he
  ·exact h e he
  ·simp at he; subst he; exact ⟨s, rfl⟩
theorem MsOK.all {es : List (T × T)} (h : MsOK es) : (es.all fun e => kOK Tryd.prog 9 e.1) = true := by
 rw [List.all_eq_true]
 intro e he
 obtain ⟨s, hs⟩ := h e he
 rw [hs]
 simp [kOK]
@[simp] theorem lvs_str (p : Nat) (xs : List (List Nat)) : lvs p (xs.map fun w => T.str (strL w)) = 2 := by
 unfold lvs; rw [if_pos]; simp [scal]
def RowOK (gs els : List (List Int)) (i : Nat) (r : List Int) : Prop := ∀ (x : Nat) (j : Int), r[x]? = some j → ∃ (m : Nat) (e g : List Int), j = (m : Int) ∧ els[i]? = some e ∧ gs[x]? = some g ∧ els[m]? = some (compL e g)
theorem RowOK.more {gs els : List (List Int)} {i : Nat} {r : List Int} (h : RowOK gs els i r) (f : List Int) : RowOK gs (els ++ [f]) i r := fun x j hx => by
 obtain ⟨m, e, g, h1, h2, h3, h4⟩ := h x j hx
 exact ⟨m, e, g, h1, by rw [List.getElem?_append_left (List.getElem?_eq_some_iff.1 h2).1]; exact h2, h3, by rw [List.getElem?_append_left (List.getElem?_eq_some_iff.1 h4).1]; exact h4⟩
theorem RowOK.put {gs els : List (List Int)} {i : Nat} {r : List Int} (h : RowOK gs els i r) {m : Nat} {e g : List Int} (h2 : els[i]? = some e) (h3 : gs[r.length]? = some g) (h4 : els[m]? = some (compL e g)) : RowOK gs els i (r ++ [(m : Int)]) := fun x j hx => by
 by_cases hl : x < r.length
 ·rw [List.getElem?_append_left hl] at hx; exact h x j hx
 ·have := (List.getElem?_eq_some_iff.1 hx).1
  simp at this
  have e1 : x = r.length := by omega
  subst e1
  simp at hx
  exact ⟨m, e, g, hx.symm, h2, h3, h4⟩
structure PrI (n : Nat) (gs els : List (List Int)) (pre last : List Int) (wds : List (List Nat)) (right : List (List Int)) (d : Nat) : Prop where
 en : EnL n gs els pre last wds
 el : els.length ≤ 2000
 dl : d ≤ els.length
 rd : right.length = d
 rg : ∀ (i : Nat) r, right[i]? = some r → r.length = gs.length ∧ RowOK gs els i r
 gn : ∀ g ∈ gs, g ∈ els
theorem PrI.add {n : Nat} {gs els : List (List Int)} {pre last : List Int} {wds : List (List Nat)} {right : List (List Int)} {d : Nat} (h : PrI n gs els pre last wds right d) (hg : ∀ g ∈ gs, TrN n g) {x : Nat} (hd : d < els.length) (hdw : d < wds.length) (hx : x < gs.length) (hnew : ∀ (i : Nat) (hi : i < els.length), els[i] ≠ compL els[d] gs[x]) (hs : els.length ≠ 2000) :
  PrI n gs (els ++ [compL els[d] gs[x]]) (pre ++ [(d : Int)]) (last ++ [(x : Int)]) (wds ++ [wds[d] ++ [x]]) right d := by
 have := h.el; have := h.dl
 refine ⟨h.en.add hg (List.getElem?_eq_getElem hdw) (List.getElem?_eq_getElem hd) (List.getElem?_eq_getElem hx) hnew _ rfl, by simp; omega, by simp; omega, h.rd, fun i r hr => ?_, fun g hgg => List.mem_append_left _ (h.gn g hgg)⟩
 obtain ⟨h1, h2⟩ := h.rg i r hr
 exact ⟨h1, h2.more _⟩
theorem PrI.row {n : Nat} {gs els : List (List Int)} {pre last : List Int} {wds : List (List Nat)} {right : List (List Int)} {d : Nat} (h : PrI n gs els pre last wds right d) {r : List Int} (hd : d < els.length) (hr : r.length = gs.length) (hrow : RowOK gs els d r) : PrI n gs els pre last wds (right ++ [r]) (d + 1) := by
 have hrd := h.rd
 refine ⟨h.en, h.el, by omega, by simp [hrd], fun i s hs => ?_, h.gn⟩
 by_cases hl : i < right.length
 ·rw [List.getElem?_append_left hl] at hs; exact h.rg i s hs
 ·have := (List.getElem?_eq_some_iff.1 hs).1
  simp at this
  have e1 : i = right.length := by omega
  subst e1
  simp at hs
  subst hs
  rw [hrd]
  exact ⟨hr, hrow⟩

set_option linter.unusedSimpArgs false

structure RtOK (L m : Nat) (right : List (List Int)) : Prop where
 len : right.length = m
 row : ∀ (i : Nat) r, right[i]? = some r → r.length = L ∧ ∀ (x : Nat) j, r[x]? = some j → ∃ k : Nat, j = (k : Int) ∧ k < m
theorem PrI.rt {n : Nat} {gs els : List (List Int)} {pre last : List Int} {wds : List (List Nat)} {right : List (List Int)} (h : PrI n gs els pre last wds right els.length) : RtOK gs.length els.length right :=
 ⟨h.rd, fun i r hr => by
  obtain ⟨h1, h2⟩ := h.rg i r hr
  refine ⟨h1, fun x j hx => ?_⟩
  obtain ⟨m, e, g, rfl, -, -, h3⟩ := h2 x j hx
  exact ⟨m, rfl, (List.getElem?_eq_some_iff.1 h3).1⟩⟩
def stepR (right : List (List Int)) (a c : Nat) : Nat := ((right.getD a []).getD c 0).toNat
def walkR (right : List (List Int)) (a : Nat) (w : List Nat) : Nat := w.foldl (stepR right) a
theorem RtOK.step {L m : Nat} {right : List (List Int)} (h : RtOK L m right) {a c : Nat} (ha : a < m) (hc : c < L) : stepR right a c < m ∧ ∃ (h1 : a < right.length) (h2 : c < right[a].length), right[a][c] = (stepR right a c : Int) := by
 have h1 : a < right.length := by rw [h.len]; exact ha
 obtain ⟨e1, e2⟩ := h.row a right[a] (by simp)
 have h2 : c < right[a].length := by omega
 obtain ⟨k, e3, e4⟩ := e2 c right[a][c] (by simp)
 have : stepR right a c = k := by simp [stepR, List.getD_eq_getElem?_getD, h1, h2, e3]
 rw [this]
 exact ⟨e4, h1, h2, e3⟩
theorem RtOK.walk {L m : Nat} {right : List (List Int)} (h : RtOK L m right) {w : List Nat} (hw : ∀ x ∈ w, x < L) {a : Nat} (ha : a < m) : walkR right a w < m := by
 induction w generalizing a with
 | nil => exact ha
 | cons x w ih =>
  show walkR right (stepR right a x) w < m
  exact ih (fun y hy => hw y (by simp [hy])) (h.step ha (hw x (by simp))).1
theorem byteAt_strL {w : List Nat} {k : Nat} (h : k < w.length) (hx : w[k] ≤ 20) : byteAt (strL w) k = 97 + (w[k] : Int) := by
 have e : (strL w)[k]? = some (UInt8.ofNat (97 + w[k])) := by
  rw [getElem?_pos _ _ (by rw [strL_size]; exact h)]
  congr 1
  show (strL w).data[k]'(by simpa [strL] using h) = _
  simp [strL]
 unfold byteAt
 rw [e]
 simp
 omega
@[simp] theorem tab_zero {α : Type} (F : Nat → α) : tab 0 F = [] := rfl
theorem sub97 (x : Nat) : (97 : Int) + (x : Int) - 97 = x := by omega
theorem walkR_succ (right : List (List Int)) (a : Nat) {w : List Nat} {k : Nat} (h : k < w.length) : walkR right a (w.take (k + 1)) = stepR right (walkR right a (w.take k)) w[k] := by
 rw [List.take_succ_eq_append_getElem h]
 unfold walkR
 rw [List.foldl_append]
 rfl

set_option linter.unusedSimpArgs false

def bools (bs : List Bool) : T := .sl 1 (bs.map .bool)
@[simp] theorem lvs_bools (p : Nat) (bs : List Bool) : lvs p (bs.map T.bool) = 2 := by
 unfold lvs; rw [if_pos]; simp [scal]
def modI (x n : Int) : Int := if n < 1 then 0 else x.emod n
theorem modI_in {x n : Int} (h : 1 ≤ n) : 0 ≤ modI x n ∧ modI x n < n := by
 unfold modI
 rw [if_neg (by omega)]
 exact ⟨Int.emod_nonneg _ (by omega), Int.emod_lt_of_pos _ (by omega)⟩
theorem modI_tmod {x n : Int} (h : 1 ≤ n) : (x.tmod n < 0 → x.tmod n + n = modI x n) ∧ (¬ x.tmod n < 0 → x.tmod n = modI x n) := by
 have e : modI x n = x % n := by unfold modI; rw [if_neg (by omega)]; rfl
 rw [e]
 have h3 := Int.emod_nonneg x (show n ≠ 0 by omega)
 have h4 := Int.emod_lt_of_pos x (show 0 < n by omega)
 have h5 : x.tmod n = x % n - if 0 ≤ x ∨ n ∣ x then 0 else n.natAbs := Int.tmod_eq_emod
 by_cases hc : 0 ≤ x ∨ n ∣ x
 ·rw [if_pos hc] at h5
  constructor <;> intro <;> omega
 ·rw [if_neg hc] at h5
  constructor <;> intro <;> omega
set_option maxRecDepth 100000 in
set_option maxHeartbeats 1000000 in
theorem mod_fn (x n : Int) (hn : n ≤ 1000000) : FnA Tryd.prog 31 [.t 2 (.int .i64 x), .t 2 (.int .i64 n)] (.t 2 (.int .i64 (modI x n))) := by
 refine fn_intro Tryd.func31 rfl (by simp [Tryd.f31]) ?_
 rw [show Tryd.f31.ntmps = 16 from rfl, show Tryd.f31.results = #[.tmp 4] from rfl]
 refine awp_seqR fun K hK => ?_
 simp (disch := omega) [ints, rows, scal, wr64, wr8]
 (repeat' first | apply hK | apply And.intro) <;> try first | (show okH _ _ _ = true; kernel_rfl) | omega | rfl | (simp <;> omega)
 refine awp_seq ?_
 refine awp_seqR fun K hK => ?_
 simp (disch := omega) [ints, rows, scal, wr64, wr8]
 (repeat' first | apply hK | apply And.intro) <;> try first | (show okH _ _ _ = true; kernel_rfl) | omega | rfl | (simp <;> omega)
 by_cases h1 : n < 1
 ·refine awp_cond (b := true) (p := 2) (by simp [scal, h1] <;> omega) ?_
  refine awp_seqR fun K hK => ?_
  simp (disch := omega) [ints, rows, scal, wr64, wr8]
  (repeat' first | apply hK | apply And.intro) <;> try first | (show okH _ _ _ = true; kernel_rfl) | omega | rfl | (simp <;> omega)
  refine awp_ret ?_
  refine ⟨⟨.inr rfl, _, [], rfl, trivial, trivial, by simp, ?_⟩, by simp⟩
  simp
  simp [modI, h1]
 ·have hmm := modI_tmod (x := x) (show 1 ≤ n by omega)
  have hb1 := Int.tmod_lt_of_pos x (show 0 < n by omega)
  have hb2 : -n < x.tmod n := Int.lt_tmod_of_pos x (show 0 < n by omega)
  have hn0 : ¬ n = 0 := by omega
  refine awp_cond (b := false) (p := 2) (by simp [scal, h1] <;> omega) ?_
  refine awp_skip ?_
  show awp _ _ _ _
  refine awp_seqR fun K hK => ?_
  simp (disch := omega) [ints, rows, scal, wr64, wr8, hn0]
  (repeat' first | apply hK | apply And.intro) <;> try first | (show okH _ _ _ = true; kernel_rfl) | omega | rfl | (simp <;> omega)
  refine awp_seq ?_
  refine awp_seqR fun K hK => ?_
  simp (disch := omega) [ints, rows, scal, wr64, wr8]
  (repeat' first | apply hK | apply And.intro) <;> try first | (show okH _ _ _ = true; kernel_rfl) | omega | rfl | (simp <;> omega)
  by_cases h2 : x.tmod n < 0
  ·have hmm := hmm.1 h2
   refine awp_cond (b := true) (p := 2) (by simp [scal, h2] <;> omega) ?_
   refine awp_R fun K hK => ?_
   simp (disch := omega) [ints, rows, scal, wr64, wr8]
   (repeat' first | apply hK | apply And.intro) <;> try first | (show okH _ _ _ = true; kernel_rfl) | omega | rfl | (simp <;> omega)
   show awp _ _ _ _
   refine awp_seqR fun K hK => ?_
   simp (disch := omega) [ints, rows, scal, wr64, wr8]
   (repeat' first | apply hK | apply And.intro) <;> try first | (show okH _ _ _ = true; kernel_rfl) | omega | rfl | (simp <;> omega)
   refine awp_ret ?_
   refine ⟨⟨.inr rfl, _, [], rfl, trivial, trivial, by simp, ?_⟩, by simp⟩
   simp
   exact hmm
  ·have hmm := hmm.2 h2
   refine awp_cond (b := false) (p := 2) (by simp [scal, h2] <;> omega) ?_
   refine awp_skip ?_
   show awp _ _ _ _
   refine awp_seqR fun K hK => ?_
   simp (disch := omega) [ints, rows, scal, wr64, wr8]
   (repeat' first | apply hK | apply And.intro) <;> try first | (show okH _ _ _ = true; kernel_rfl) | omega | rfl | (simp <;> omega)
   refine awp_ret ?_
   refine ⟨⟨.inr rfl, _, [], rfl, trivial, trivial, by simp, ?_⟩, by simp⟩
   simp
   exact hmm
def tpO (p : Nat) (xs : List Int) (a : Nat) : AObj := .box 56 [.t p (ints xs), .t 2 (.int .i64 a)]
set_option maxRecDepth 100000 in
set_option maxHeartbeats 1000000 in
theorem new_fn (xs : List Int) : FnS Tryd.prog 7 [.t 1 (ints xs)] [] (.ptr 0 0 2) [tpO 1 (xs.take 80) 0] := by
 refine fn_intro Tryd.func7 rfl (by simp [Tryd.f7]) ?_
 rw [show Tryd.f7.ntmps = 11 from rfl, show Tryd.f7.results = #[.tmp 2] from rfl]
 refine awp_seqR fun K hK => ?_
 simp (disch := omega) [ints, rows, scal, wr64, wr8]
 (repeat' first | apply hK | apply And.intro) <;> try first | (show okH _ _ _ = true; kernel_rfl) | omega | rfl | (simp <;> omega)
 refine awp_seq ?_
 refine awp_seqR fun K hK => ?_
 simp (disch := omega) [ints, rows, scal, wr64, wr8]
 (repeat' first | apply hK | apply And.intro) <;> try first | (show okH _ _ _ = true; kernel_rfl) | omega | rfl | (simp <;> omega)
 by_cases h : 80 < (xs.length : Int)
 ·refine awp_cond (b := true) (p := 2) (by simp [scal, h] <;> omega) ?_
  refine awp_R fun K hK => ?_
  simp (disch := omega) [ints, rows, scal, wr64, wr8]
  (repeat' first | apply hK | apply And.intro) <;> try first | (show okH _ _ _ = true; kernel_rfl) | omega | rfl | (simp <;> omega)
  show awp _ _ _ _
  refine awp_seqR fun K hK => ?_
  simp (disch := omega) [ints, rows, scal, wr64, wr8]
  (repeat' first | apply hK | apply And.intro) <;> try first | (show okH _ _ _ = true; kernel_rfl) | omega | rfl | (simp <;> omega)
  refine awp_ret ?_
  refine ⟨⟨.inr rfl, _, [(0, some 9000000)], (by first | rfl | (simp [ints, rows, scal, tpO]; rfl)), ?_, ?_, ?_, ?_⟩, ?_⟩
  all_goals try simp [ints, rows, scal, tpO]
 ·refine awp_cond (b := false) (p := 2) (by simp [scal, h] <;> omega) ?_
  refine awp_skip ?_
  show awp _ _ _ _
  refine awp_seqR fun K hK => ?_
  simp (disch := omega) [ints, rows, scal, wr64, wr8]
  (repeat' first | apply hK | apply And.intro) <;> try first | (show okH _ _ _ = true; kernel_rfl) | omega | rfl | (simp <;> omega)
  refine awp_ret ?_
  refine ⟨⟨.inr rfl, _, [(0, some 6000000)], (by first | rfl | (simp [ints, rows, scal, tpO]; rfl)), ?_, ?_, ?_, ?_⟩, ?_⟩
  all_goals try simp [ints, rows, scal, tpO]
  rw [List.take_of_length_le (by simp; omega)]

set_option maxRecDepth 100000 in
set_option maxHeartbeats 1000000 in
theorem next_fn (xs : List Int) (a : Nat) (n : Int) (ha : a ≤ xs.length) (hl : xs.length ≤ 80) (hn : n ≤ 1000000) : ∃ v b : Nat, (1 ≤ n → (v : Int) < n) ∧ b ≤ xs.length ∧ FnS Tryd.prog 8 [.ptr 0 0 2, .t 2 (.int .i64 n)] [tpO 1 xs a] (.t 2 (.int .i64 v)) [tpO 1 xs b] := by
 by_cases hlt : a < xs.length
 case neg =>
  refine ⟨0, a, by omega, ha, ?_⟩
  refine fn_intro Tryd.func8 rfl (by simp [Tryd.f8]) ?_
  rw [show Tryd.f8.ntmps = 35 from rfl, show Tryd.f8.results = #[.tmp 4] from rfl]
  refine awp_seqR fun K hK => ?_
  simp (disch := omega) [ints, rows, scal, wr64, wr8]
  (repeat' first | apply hK | apply And.intro) <;> try first | (show okH _ _ _ = true; kernel_rfl) | omega | rfl | (simp <;> omega)
  refine awp_seq ?_
  refine awp_seqD (by kernel_rfl) (fun K hK => ?_)
  simp (disch := omega) [ints, rows, scal, wr64, wr8, tpO]
  (repeat' first | apply hK | apply And.intro) <;> try first | (show chkD _ _ = true; kernel_rfl) | (show okH _ _ _ = true; kernel_rfl) | omega | rfl | (simp <;> omega)
  refine awp_cond (b := true) (p := 2) (by simp [scal] <;> omega) ?_
  refine awp_seqR fun K hK => ?_
  simp (disch := omega) [ints, rows, scal, wr64, wr8]
  (repeat' first | apply hK | apply And.intro) <;> try first | (show okH _ _ _ = true; kernel_rfl) | omega | rfl | (simp <;> omega)
  refine awp_ret ?_
  refine ⟨⟨.inr rfl, _, [(0, some 0)], (by first | rfl | (simp [ints, rows, scal, tpO]; rfl)), ?_, ?_, ?_, ?_⟩, ?_⟩
  all_goals try simp [ints, rows, scal, tpO]
 refine ⟨(modI xs[a] n).toNat, a + 1, ?_, by omega, ?_⟩
 ·intro h1
  have := modI_in (x := xs[a]) h1
  omega
 have hmi : ((modI xs[a] n).toNat : Int) = modI xs[a] n := by
  by_cases h1 : 1 ≤ n
  ·have := modI_in (x := xs[a]) h1
   omega
  ·simp [modI, show n < 1 by omega]
 rw [hmi]
 refine fn_intro Tryd.func8 rfl (by simp [Tryd.f8]) ?_
 rw [show Tryd.f8.ntmps = 35 from rfl, show Tryd.f8.results = #[.tmp 4] from rfl]
 refine awp_seqR fun K hK => ?_
 simp (disch := omega) [ints, rows, scal, wr64, wr8]
 (repeat' first | apply hK | apply And.intro) <;> try first | (show okH _ _ _ = true; kernel_rfl) | omega | rfl | (simp <;> omega)
 refine awp_seq ?_
 refine awp_seqD (by kernel_rfl) (fun K hK => ?_)
 simp (disch := omega) [ints, rows, scal, wr64, wr8, tpO]
 (repeat' first | apply hK | apply And.intro) <;> try first | (show chkD _ _ = true; kernel_rfl) | (show okH _ _ _ = true; kernel_rfl) | omega | rfl | (simp <;> omega)
 refine awp_cond (b := false) (p := 2) (by simp [scal] <;> omega) ?_
 refine awp_skip ?_
 show awp _ _ _ _
 refine awp_seqR fun K hK => ?_
 simp (disch := omega) [ints, rows, scal, wr64, wr8]
 (repeat' first | apply hK | apply And.intro) <;> try first | (show okH _ _ _ = true; kernel_rfl) | omega | rfl | (simp <;> omega)
 refine awp_seqD (by kernel_rfl) (fun K hK => ?_)
 simp (disch := omega) [ints, rows, scal, wr64, wr8, hlt]
 (repeat' apply And.intro)
 all_goals (try omega)
 refine call_ruleD (caps := []) (mod_fn xs[a] n hn) [] [] 2 rfl rfl rfl rfl (by kernel_rfl) (by simp) ?_ trivial trivial rfl trivial trivial (by simp) ?_
 ·simp [scal, rows, ints]
 simp (disch := omega) [ints, rows, scal, wr64, wr8]
 (repeat' first | apply hK | apply And.intro) <;> try first | (show chkD _ _ = true; kernel_rfl) | (show okH _ _ _ = true; kernel_rfl) | omega | rfl | (simp <;> omega)
 refine awp_ret ?_
 refine ⟨⟨.inr rfl, _, [(0, some 0)], (by first | rfl | (simp [ints, rows, scal, tpO]; rfl)), ?_, ?_, ?_, ?_⟩, ?_⟩
 all_goals try simp [ints, rows, scal, tpO]
theorem beq_gt {a b : Nat} (h : b < a) : (a == b) = false := by simp; omega
theorem beq_lt {a b : Nat} (h : a < b) : (a == b) = false := by simp; omega
theorem eq_lt {a b : Nat} (h : a < b) : (a = b) = False := by simp; omega
theorem eq_gt {a b : Nat} (h : b < a) : (a = b) = False := by simp; omega
theorem lt_t {a b : Nat} (h : a < b) : (a < b) = True := by simp [h]
theorem wkPs_snoc {H : Nat → Option AObj} {m : Nat → Option Nat} {un : Nat → Prop} {nx : Nat} : ∀ {us vs : List AV} {a b : AV}, wkPs H m un nx (us ++ [a]) (vs ++ [b]) = (wkPs H m un nx us vs ∧ wkP H m un nx a b)
 | [], [], a, b => by simp
 | x :: us, y :: vs, a, b => by simp only [List.cons_append, wkPs, wkPs_snoc (us := us) (vs := vs), and_assoc]
 | [], y :: vs, a, b => by
  cases vs <;> simp
 | x :: us, [], a, b => by
  cases us <;> simp
theorem wkPs_tab {H : Nat → Option AObj} {m : Nat → Option Nat} {un : Nat → Prop} {nx n : Nat} {f g : Nat → AV} : wkPs H m un nx (tab n f) (tab n g) = ∀ j, j < n → wkP H m un nx (f j) (g j) := by
 apply propext
 constructor
 ·intro h j hj
  obtain ⟨a, ha, hab⟩ := (wkPs_get h).2 j (g j) (tab_get _ hj)
  rw [tab_get _ hj] at ha
  injection ha with ha
  rw [ha]; exact hab
 ·intro h
  refine wkPs_of (by simp) (fun i a b ha hb => ?_)
  have hi := (List.getElem?_eq_some_iff.1 ha).1
  rw [tab_len] at hi
  rw [tab_get _ hi] at ha hb
  injection ha with ha
  injection hb with hb
  rw [← ha, ← hb]
  exact h i hi
structure DfOK (L n s : Nat) (bs : List Bool) (nx : Nat → List Int) : Prop where
 n1 : 1 ≤ n
 st : s < n
 bl : bs.length = n
 row : ∀ q, q < n → (nx q).length = L ∧ ∀ v ∈ nx q, 0 ≤ v ∧ v < (n : Int)
def dfH (p L n b : Nat) (xs : List Int) (bs : List Bool) : List AObj := [tpO p xs b, .row 4 1 2 (bs.map .bool), .vec 22 1 2 (tab n fun q => .own (3 + q) L)]
theorem fn_introGE {P : Program} {f : FuncId} {fn : Func} {c : Code} {args : List AV} {H : List AObj} {G : AV → List AObj → Prop} (hf : P.funcs[f]? = some fn) (hb : fn.body = some c) (hle : args.length ≤ fn.ntmps) (h : awp P c (fun e σ => (∃ res H', G res H' ∧ ∃ m un, resG P fn.results.toList res H' m un e σ) ∧ σ.gh = ghA args) (argS args H fn.ntmps)) : ∃ res H', G res H' ∧ FnS P f args H res H' := by
 obtain ⟨e, σ', h1, ⟨res, H', hG, hr⟩, hgh⟩ := h
 exact ⟨res, H', hG, fn_introG hf hb hle ⟨e, σ', h1, hr, hgh⟩⟩
def DfG (p L most : Nat) (xs : List Int) (res : AV) (H' : List AObj) : Prop := ∃ n s b bs nx, n ≤ most ∧ b ≤ xs.length ∧ DfOK L n s bs nx ∧ res = .agg [.t 2 (.int .i64 L), .t 2 (.int .i64 s), .own 1 n, .own 2 n] ∧ H' = dfH p L n b xs bs ++ tab n fun q => .row 3 1 2 ((nx q).map (.int .i64))
set_option maxRecDepth 100000 in
set_option maxHeartbeats 4000000 in
theorem dfa_fn (xs : List Int) (a L most : Nat) (ha : a ≤ xs.length) (hl : xs.length ≤ 80) (hL : 1 ≤ L) (hL2 : L ≤ 6) (hm : 1 ≤ most) (hm2 : most ≤ 100) : ∃ res H', DfG 1 L most xs res H' ∧
  FnS Tryd.prog 43 [.ptr 0 0 2, .t 2 (.int .i64 L), .t 2 (.int .i64 most)] [tpO 1 xs a] res H' := by
 obtain ⟨v1, a1, hv1, ha1, hN1⟩ := next_fn xs a most ha hl (by omega)
 have hv1 := hv1 (by omega)
 obtain ⟨n, hn⟩ : ∃ n, n = 1 + v1 := ⟨_, rfl⟩
 obtain ⟨s, a2, hv2, ha2, hN2⟩ := next_fn xs a1 n ha1 hl (by omega)
 have hv2 := hv2 (by omega)
 have hnn : (1 : Int) + v1 = n := by omega
 have hnm : n ≤ 100 := by omega
 refine fn_introGE Tryd.func43 rfl (by simp [Tryd.f43]) ?_
 rw [show Tryd.f43.ntmps = 53 from rfl, show Tryd.f43.results = #[.cell 6 32] from rfl]
 refine awp_seqR fun K hK => ?_
 simp (disch := omega) [ints, rows, scal, wr64, wr8]
 (repeat' first | apply hK | apply And.intro) <;> try first | (show okH _ _ _ = true; kernel_rfl) | omega | rfl | (simp <;> omega)
 refine awp_seqR fun K hK => ?_
 simp (disch := omega) [ints, rows, scal, wr64, wr8]
 (repeat' first | apply hK | apply And.intro) <;> try first | (show okH _ _ _ = true; kernel_rfl) | omega | rfl | (simp <;> omega)
 refine awp_seqR fun K hK => ?_
 simp (disch := omega) [ints, rows, scal, wr64, wr8]
 (repeat' apply And.intro)
 all_goals (try omega)
 refine call_rule (caps := []) (hN1) [0] [0] 1 rfl rfl rfl rfl (by kernel_rfl) (by simp) ?_ ?_ (by simp) rfl (by simp) ⟨.inr ⟨rfl, 0, _, _, _, _, _, rfl, rfl, rfl, rfl, rfl⟩, trivial⟩ (by simp [tpO]) ?_
 ·simp [scal, rows, ints, tpO]
 ·simp [scal, rows, ints, tpO]
 simp (disch := omega) [ints, rows, scal, wr64, wr8, hnn]
 (repeat' first | apply hK | apply And.intro) <;> try first | (show okH _ _ _ = true; kernel_rfl) | omega | rfl | (simp <;> omega)
 refine awp_seqR fun K hK => ?_
 simp (disch := omega) [ints, rows, scal, wr64, wr8]
 (repeat' apply And.intro)
 all_goals (try omega)
 refine call_rule (caps := []) (hN2) [0] [0] 1 rfl rfl rfl rfl (by kernel_rfl) (by simp) ?_ ?_ (by simp) rfl (by simp) ⟨.inr ⟨rfl, 0, _, _, _, _, _, rfl, rfl, rfl, rfl, rfl⟩, trivial⟩ (by simp [tpO]) ?_
 ·simp [scal, rows, ints, tpO]
 ·simp [scal, rows, ints, tpO]
 simp (disch := omega) [ints, rows, scal, wr64, wr8]
 (repeat' first | apply hK | apply And.intro) <;> try first | (show okH _ _ _ = true; kernel_rfl) | omega | rfl | (simp <;> omega)
 refine awp_seq ?_
 refine awp_seqR fun K hK => ?_
 simp (disch := omega) [ints, rows, scal, wr64, wr8]
 (repeat' first | apply hK | apply And.intro) <;> try first | (show okH _ _ _ = true; kernel_rfl) | omega | rfl | (simp <;> omega)
 refine awp_block ?_
 refine awp_loop (fun y : Nat × Nat × List Bool × (Nat → List Int) => mkF [(0, .ptr 0 0 2), (1, .t 2 (.int .i64 L)), (6, .ptr 1 0 4), (7, .ptr 2 0 4), (8, .t 2 (.int .i64 n)), (9, .t 2 (.int .i64 y.1))]
   [(0, tpO 1 xs y.2.1), (1, .box 32 [.any, .any, .any, .any]), (2, .box 32 [.t 2 (.int .i64 L), .t 2 (.int .i64 s), .own 3 y.1, .own 4 y.1]), (3, .row 4 1 2 (y.2.2.1.map .bool)), (4, .vec 22 1 2 (tab y.1 fun j => .own (100 + j) L))]
   100 y.1 (fun j => .row 3 1 2 ((y.2.2.2 j).map (.int .i64))) 1000 53 [.ptr 0 0 2, .any, .any])
  (fun y => y.1 ≤ n ∧ y.2.1 ≤ xs.length ∧ y.2.2.1.length = y.1 ∧ ∀ q, q < y.1 → (y.2.2.2 q).length = L ∧ ∀ v ∈ y.2.2.2 q, 0 ≤ v ∧ v < (n : Int)) (fun y => n - y.1) ?_ ?_
 ·refine ⟨(0, a2, [], fun _ => []), ⟨by simp, ha2, rfl, fun q hq => by simp at hq⟩, ?_⟩
  refine wk_fam [(0, some 0), (1, some 1), (2, some 3000001), (3, none), (4, none)] (fun j => j) rfl ?_ ?_ ?_ ?_ ?_ ?_
  all_goals try simp +contextual (disch := omega) [beq_gt, beq_lt, eq_lt, eq_gt, lt_t, List.getElem?_cons_succ, Option.getD_some, callF, ints, scal, tpO, wkPs_snoc, wkPs_tab, tpO]
  all_goals (try omega)
 ·rintro ⟨q, a3, bs, nx⟩ ⟨hq, ha3, hbl, hrow⟩
  simp only at hq ha3 hbl hrow
  refine awp_seq ?_
  refine awp_seqR fun K hK => ?_
  simp (disch := omega) [ints, rows, scal, wr64, wr8]
  (repeat' first | apply hK | apply And.intro) <;> try first | (show okH _ _ _ = true; kernel_rfl) | omega | rfl | (simp <;> omega)
  by_cases hqn : q < n
  ·refine awp_cond (b := true) (p := 2) (by simp [scal, hqn] <;> omega) ?_
   refine awp_skip ?_
   show awp _ _ _ _
   refine awp_seq ?_
   refine awp_block ?_
   obtain ⟨v4, a4, hv4, ha4, hN4⟩ := next_fn xs a3 2 ha3 hl (by omega)
   refine awp_seqD (by kernel_rfl) (fun K hK => ?_)
   simp (disch := omega) [ints, rows, scal, wr64, wr8, famH]
   (repeat' apply And.intro)
   all_goals (try omega)
   refine call_ruleD (caps := []) (hN4) [0] [0] 1 rfl rfl rfl rfl (by kernel_rfl) (by simp) ?_ ?_ (by simp) rfl (by simp) ⟨.inr ⟨rfl, 0, _, _, _, _, _, rfl, rfl, rfl, rfl, rfl⟩, trivial⟩ (by simp [tpO]) ?_
   ·simp [scal, rows, ints, tpO, famH]
   ·simp [scal, rows, ints, tpO, famH]
   simp (disch := omega) [ints, rows, scal, wr64, wr8, famH, tpO]
   (repeat' first | apply hK | apply And.intro) <;> try first | (show chkD _ _ = true; kernel_rfl) | (show okH _ _ _ = true; kernel_rfl) | omega | rfl | (simp <;> omega)
   refine awp_seqR fun K hK => ?_
   simp (disch := omega) [ints, rows, scal, wr64, wr8]
   (repeat' first | apply hK | apply And.intro) <;> try first | (show okH _ _ _ = true; kernel_rfl) | omega | rfl | (simp <;> omega)
   refine awp_seq ?_
   refine awp_seqR fun K hK => ?_
   simp (disch := omega) [ints, rows, scal, wr64, wr8]
   (repeat' first | apply hK | apply And.intro) <;> try first | (show okH _ _ _ = true; kernel_rfl) | omega | rfl | (simp <;> omega)
   refine awp_block ?_
   refine awp_loop (fun y : Nat × Nat × List Int => mkF [(0, .ptr 0 0 2), (1, .t 2 (.int .i64 L)), (6, .ptr 1 0 4), (7, .ptr 2 0 4), (8, .t 2 (.int .i64 n)), (9, .t 2 (.int .i64 q)), (10, .own 5 y.1), (11, .t 2 (.int .i64 y.1))]
     [(0, tpO 1 xs y.2.1), (1, .box 32 [.any, .any, .any, .any]), (2, .box 32 [.t 2 (.int .i64 L), .t 2 (.int .i64 s), .own 3 (q + 1), .own 4 q]), (3, .row 4 1 2 ((bs ++ [(v4 : Int) == 1]).map .bool)), (4, .vec 22 1 2 (tab q fun j => .own (100 + j) L)), (5, .row 3 1 2 (y.2.2.map (.int .i64)))]
     100 q (fun j => .row 3 1 2 ((nx j).map (.int .i64))) 1000 53 [.ptr 0 0 2, .any, .any])
    (fun y => y.1 ≤ L ∧ y.2.1 ≤ xs.length ∧ y.2.2.length = y.1 ∧ ∀ v ∈ y.2.2, 0 ≤ v ∧ v < (n : Int)) (fun y => L - y.1) ?_ ?_
   ·refine ⟨(0, a4, []), ⟨by simp, ha4, rfl, fun v hv => by simp at hv⟩, ?_⟩
    refine wk_fam [(0, some 0), (1, some 1), (2, some 2), (3, some 3), (4, some 4), (5, none)] (fun j => 100 + j) rfl ?_ ?_ ?_ ?_ ?_ ?_
    all_goals try simp +contextual (disch := omega) [beq_gt, beq_lt, eq_lt, eq_gt, lt_t, List.getElem?_cons_succ, Option.getD_some, callF, ints, scal, tpO, wkPs_snoc, wkPs_tab, hbl]
    all_goals (try omega)
   ·rintro ⟨x, a5, r⟩ ⟨hx, ha5, hrl, hrv⟩
    simp only at hx ha5 hrl hrv
    refine awp_seq ?_
    refine awp_seqR fun K hK => ?_
    simp (disch := omega) [ints, rows, scal, wr64, wr8]
    (repeat' first | apply hK | apply And.intro) <;> try first | (show okH _ _ _ = true; kernel_rfl) | omega | rfl | (simp <;> omega)
    by_cases hxl : x < L
    ·refine awp_cond (b := true) (p := 2) (by simp [scal, hxl] <;> omega) ?_
     refine awp_skip ?_
     show awp _ _ _ _
     refine awp_seq ?_
     refine awp_block ?_
     obtain ⟨v6, a6, hv6, ha6, hN6⟩ := next_fn xs a5 n ha5 hl (by omega)
     have hv6 := hv6 (by omega)
     refine awp_R fun K hK => ?_
     simp (disch := omega) [ints, rows, scal, wr64, wr8, famH]
     (repeat' apply And.intro)
     all_goals (try omega)
     refine call_rule (caps := []) (hN6) [0] [0] 1 rfl rfl rfl rfl (by kernel_rfl) (by simp) ?_ ?_ (by simp) rfl (by simp) ⟨.inr ⟨rfl, 0, _, _, _, _, _, rfl, rfl, rfl, rfl, rfl⟩, trivial⟩ (by simp [tpO]) ?_
     ·simp [scal, rows, ints, tpO, famH]
     ·simp [scal, rows, ints, tpO, famH]
     simp (disch := omega) [ints, rows, scal, wr64, wr8, famH, tpO]
     (repeat' first | apply hK | apply And.intro) <;> try first | (show okH _ _ _ = true; kernel_rfl) | omega | rfl | (simp <;> omega)
     show awp _ _ _ _
     refine awp_R fun K hK => ?_
     simp (disch := omega) [ints, rows, scal, wr64, wr8]
     (repeat' first | apply hK | apply And.intro) <;> try first | (show okH _ _ _ = true; kernel_rfl) | omega | rfl | (simp <;> omega)
     refine ⟨(x + 1, a6, r ++ [(v6 : Int)]), ⟨by omega, ha6, by simp [hrl], fun v hv => ?_⟩, by simp; omega, ?_⟩
     ·rcases List.mem_append.1 hv with hv | hv
      ·exact hrv v hv
      ·simp at hv; omega
     ·refine wk_fam [(0, some 0), (1, some 1), (2, some 2), (3, some 3), (4, some 4), (5, some 5)] (fun j => 100 + j) rfl ?_ ?_ ?_ ?_ ?_ ?_
      all_goals try simp +contextual (disch := omega) [beq_gt, beq_lt, eq_lt, eq_gt, lt_t, List.getElem?_cons_succ, Option.getD_some, callF, ints, scal, tpO, wkPs_snoc, wkPs_tab, hbl, hrl]
      all_goals (try omega)
    ·have hxe : x = L := by omega
     subst hxe
     refine awp_cond (b := false) (p := 2) (by simp [scal] <;> omega) ?_
     refine awp_exit ?_
     show awp _ _ _ _
     refine awp_R fun K hK => ?_
     simp (disch := omega) [ints, rows, scal, wr64, wr8, famH]
     (repeat' first | apply hK | apply And.intro) <;> try first | (show okH _ _ _ = true; kernel_rfl) | omega | rfl | (simp <;> omega)
     show awp _ _ _ _
     refine awp_R fun K hK => ?_
     simp (disch := omega) [ints, rows, scal, wr64, wr8]
     (repeat' first | apply hK | apply And.intro) <;> try first | (show okH _ _ _ = true; kernel_rfl) | omega | rfl | (simp <;> omega)
     refine ⟨(q + 1, a5, bs ++ [(v4 : Int) == 1], fun j => if j < q then nx j else r), ⟨by omega, ha5, by simp [hbl], fun j hj => ?_⟩, by simp; omega, ?_⟩
     ·by_cases hjq : j < q
      ·simp only [if_pos hjq]; exact hrow j hjq
      ·simp only [if_neg hjq]; exact ⟨hrl, hrv⟩
     ·refine wk_fam [(0, some 0), (1, some 1), (2, some 2), (3, some 3), (4, some 4)] (fun j => if j < q then 100 + j else 5) rfl ?_ ?_ ?_ ?_ ?_ ?_
      all_goals try simp +contextual (disch := omega) [beq_gt, beq_lt, eq_lt, eq_gt, lt_t, List.getElem?_cons_succ, Option.getD_some, callF, ints, scal, tpO, wkPs_snoc, wkPs_tab, hbl, hrl, tab_succ]
      all_goals (try omega)
      ·intro j hj
       by_cases hjq : j < q
       ·simp +contextual (disch := omega) [beq_gt, beq_lt, eq_lt, eq_gt, lt_t, List.getElem?_cons_succ, Option.getD_some, callF, ints, scal, tpO, wkPs_snoc, wkPs_tab, hjq]
       ·simp +contextual (disch := omega) [beq_gt, beq_lt, eq_lt, eq_gt, lt_t, List.getElem?_cons_succ, Option.getD_some, callF, ints, scal, tpO, wkPs_snoc, wkPs_tab, hjq]
      ·intro i j hi hj h
       split at h <;> split at h <;> omega
  ·have hqe : q = n := by omega
   subst hqe
   refine awp_cond (b := false) (p := 2) (by simp [scal] <;> omega) ?_
   refine awp_exit ?_
   show awp _ _ _ _
   refine awp_seqR fun K hK => ?_
   simp (disch := omega) [ints, rows, scal, wr64, wr8, famH]
   (repeat' first | apply hK | apply And.intro) <;> try first | (show okH _ _ _ = true; kernel_rfl) | omega | rfl | (simp <;> omega)
   refine awp_ret ?_
   refine ⟨⟨_, _, ⟨q, s, a3, bs, nx, by omega, ha3, ⟨by omega, by omega, hbl, hrow⟩, rfl, rfl⟩, ?_⟩, by simp⟩
   refine resF [(0, some 0), (1, some 3), (2, some 4)] (fun j => 100 + j) (.inr rfl) ?_ ?_ ?_ ?_ ?_ _ ?_ (by first | (simp; rfl) | rfl)
   all_goals try simp +contextual (disch := omega) [beq_gt, beq_lt, eq_lt, eq_gt, lt_t, List.getElem?_cons_succ, Option.getD_some, callF, ints, scal, tpO, wkPs_snoc, wkPs_tab, dfH]

set_option linter.unusedSimpArgs false

theorem outVs_tab (po : List Nat) (q n : Nat) (f : Nat → AV) : outVs po q (tab n f) = tab n fun j => outV po q (f j) := by
 obtain ⟨h1, h2⟩ := outVs_get po q (tab n f)
 apply List.ext_getElem?
 intro i
 by_cases hi : i < n
 ·rw [tab_get _ hi]
  have hi2 : i < (outVs po q (tab n f)).length := by rw [h1]; simpa using hi
  obtain ⟨a, ha, hab⟩ := h2 i _ (List.getElem?_eq_getElem hi2)
  rw [tab_get _ hi] at ha
  injection ha with ha
  rw [List.getElem?_eq_getElem hi2, hab, ha]
 ·rw [List.getElem?_eq_none (by rw [h1]; simp; omega), List.getElem?_eq_none (by simp; omega)]
theorem outVs_fam {ph : List Nat} {b n q h L : Nat} (hh : h = ph.length) : outVs (poF ph b n) q (tab n fun j => .own (h + j) L) = tab n fun j => AV.own (b + j) L := by
 rw [outVs_tab]
 apply List.ext_getElem?
 intro i
 by_cases hi : i < n
 ·rw [tab_get _ hi, tab_get _ hi]
  subst hh
  simp only [outV]
  rw [poF_at hi]
 ·rw [tab_get_none _ (by omega), tab_get_none _ (by omega)]
theorem beq_ne {a b : Nat} (h : a ≠ b) : (a == b) = false := by simpa using h
theorem wkT_tab {H : Nat → Option AObj} {un : Nat → Prop} {q n : Nat} {f : Nat → AV} {g : Nat → T} : wkT H un q (tab n f) (tab n g) = ∀ j, j < n → wk1 H un q (f j) (g j) := by
 apply propext
 constructor
 ·intro h j hj
  exact h.2 j (f j) (g j) (tab_get _ hj) (tab_get _ hj)
 ·intro h
  refine ⟨by simp, fun i a b ha hb => ?_⟩
  have hi := (List.getElem?_eq_some_iff.1 ha).1
  rw [tab_len] at hi
  rw [tab_get _ hi] at ha hb
  injection ha with ha
  injection hb with hb
  rw [← ha, ← hb]
  exact h i hi
def dfT (p L s : Nat) (bs : List Bool) (nxt : List (List Int)) : AV := .agg [.t 2 (.int .i64 L), .t 2 (.int .i64 s), .t p (bools bs), .t p (rows nxt)]
structure DfL (L n s : Nat) (bs : List Bool) (nxt : List (List Int)) : Prop where
 n1 : 1 ≤ n
 st : s < n
 bl : bs.length = n
 nl : nxt.length = n
 row : ∀ r ∈ nxt, r.length = L ∧ ∀ v ∈ r, 0 ≤ v ∧ v < (n : Int)
theorem DfOK.list {L n s : Nat} {bs : List Bool} {nx : Nat → List Int} (h : DfOK L n s bs nx) : DfL L n s bs (tab n nx) :=
 ⟨h.n1, h.st, h.bl, by simp, fun r hr => by
  simp only [tab, List.mem_map, List.mem_range] at hr
  obtain ⟨q, hq, rfl⟩ := hr
  exact h.row q hq⟩
def MkG (L most : Nat) (xs : List Int) (res : AV) (H' : List AObj) : Prop := ∃ n s b bs nxt, n ≤ most ∧ b ≤ xs.length ∧ DfL L n s bs nxt ∧ res = dfT 2 L s bs nxt ∧ H' = [tpO 1 xs b]
set_option maxRecDepth 100000 in
set_option maxHeartbeats 4000000 in
theorem ordered_fn (xs : List Int) (a L most : Nat) (ha : a ≤ xs.length) (hl : xs.length ≤ 80) (hL : 1 ≤ L) (hL2 : L ≤ 6) (hm : 1 ≤ most) (hm2 : most ≤ 100) : ∃ res H', MkG L most xs res H' ∧
  FnS Tryd.prog 17 [.ptr 0 0 2, .t 2 (.int .i64 L), .t 2 (.int .i64 most)] [tpO 1 xs a] res H' := by
 obtain ⟨res, H', ⟨n, s, b, bs, nx, hnm, hb, hD, rfl, rfl⟩, hspec⟩ := dfa_fn xs a L most ha hl hL hL2 hm hm2
 have hn1 := hD.n1
 have hst := hD.st
 have hbl := hD.bl
 have hrow := hD.row
 refine fn_introGE Tryd.func17 rfl (by simp [Tryd.f17]) ?_
 rw [show Tryd.f17.ntmps = 46 from rfl, show Tryd.f17.results = #[.cell 6 32] from rfl]
 refine awp_seqR fun K hK => ?_
 simp (disch := omega) [ints, rows, scal, wr64, wr8]
 (repeat' first | apply hK | apply And.intro) <;> try first | (show okH _ _ _ = true; kernel_rfl) | omega | rfl | (simp <;> omega)
 refine awp_seqR fun K hK => ?_
 simp (disch := omega) [ints, rows, scal, wr64, wr8]
 (repeat' apply And.intro)
 all_goals (try omega)
 refine call_ruleF (caps := []) hspec [0] [0, 4000001, 4000002] 4000003 1 rfl rfl rfl rfl (by kernel_rfl) (by simp) ?_ ?_ (by simp) rfl (by simp) ⟨.inr ⟨rfl, 0, _, _, _, _, _, rfl, rfl, rfl, rfl, rfl⟩, .inl (by omega), .inl (by omega), trivial⟩ (by omega) (by intro k hk; simp at hk; omega) (by simp [tpO, dfH]) (fun j hj => rfl) ?_
 ·simp [scal, tpO]
 ·simp [tpO, scal]
 simp (disch := omega) [KL_ap, KD_ap, awpL_nil, awpL_cons, awpD_nil, awpD_cons, awpOp, awpOpD, wrE, gd, aop, aBuiltin, aNil, aMin, ASt.eval, AV.ofV, dstOk, ASt.app, Eff.heap, dels, upd_b, aLoad, aStore, aField, aFieldV, aIndexAddr, aIndex, aSlice, aSliceO, aLen, aBin, iB, sB, aUn, aConv, aAlloc, aBox, aBuild, afill, avCells, AV.leaf, setR, aBuildSlice, frz, frzL, isOwn, vecOf, tsOf, aMake, srcOf, aAppend, aMkMap, aMapUpd, aLookup, oint, cut, putL, AObj.cnt, mkS, envOf_nil, envOf_cons, heapOf_nil, heapOf_cons, argS, Nat.blt_eq, callS, outV, outVs, outO, heap2, addL, delL, ints, rows, scal, wr64, wr8, List.getElem?_cons_zero, callF, poF_lt, outVs_fam (show 3 = [0, 4000001, 4000002].length from rfl), dfH, tpO]
 (repeat' first | apply hK | apply And.intro) <;> try first | (show okH _ _ _ = true; kernel_rfl) | omega | rfl | (simp <;> omega)
 refine awp_seq ?_
 refine awp_seqR fun K hK => ?_
 simp (disch := omega) [ints, rows, scal, wr64, wr8]
 (repeat' first | apply hK | apply And.intro) <;> try first | (show okH _ _ _ = true; kernel_rfl) | omega | rfl | (simp <;> omega)
 refine awp_block ?_
 refine awp_loop (fun y : Nat × (Nat → List Int) => mkF [(6, .ptr 1 0 4), (7, .ptr 2 0 4), (17, .t 2 (.int .i64 n)), (18, .t 2 (.int .i64 y.1))]
   [(0, tpO 1 xs b), (1, .box 32 [.any, .any, .any, .any]), (2, .box 32 [.t 2 (.int .i64 L), .t 2 (.int .i64 s), .own 3 n, .own 4 n]), (3, .row 4 1 2 (bs.map .bool)), (4, .vec 22 1 2 (tab n fun j => .own (100 + j) L))]
   100 n (fun j => .row 3 1 2 ((y.2 j).map (.int .i64))) 1000 46 [.ptr 0 0 2, .any, .any])
  (fun y => y.1 ≤ n ∧ ∀ q, q < n → (y.2 q).length = L ∧ ∀ v ∈ y.2 q, 0 ≤ v ∧ v < (n : Int)) (fun y => n - y.1) ?_ ?_
 ·refine ⟨(0, nx), ⟨by simp, hrow⟩, ?_⟩
  refine wk_fam [(0, some 0), (1, some 1), (2, some 5000001), (3, some 4000001), (4, some 4000002)] (fun j => 4000003 + j) rfl ?_ ?_ ?_ ?_ ?_ ?_
  all_goals try simp +contextual (disch := omega) [beq_gt, beq_lt, eq_lt, eq_gt, lt_t, List.getElem?_cons_succ, Option.getD_some, callF, ints, scal, tpO, wkPs_snoc, wkPs_tab]
  all_goals (try omega)
  exact ⟨by simp [poF], by simp [poF]⟩
 ·rintro ⟨q, nx'⟩ ⟨hq, hrow'⟩
  simp only at hq hrow'
  refine awp_seqR fun K hK => ?_
  simp (disch := omega) [ints, rows, scal, wr64, wr8]
  (repeat' first | apply hK | apply And.intro) <;> try first | (show okH _ _ _ = true; kernel_rfl) | omega | rfl | (simp <;> omega)
  refine awp_seq ?_
  by_cases hqn : q < n
  ·obtain ⟨hql, hqv⟩ := hrow' q hqn
   refine awp_cond (b := true) (p := 2) (by simp [scal, hqn] <;> omega) ?_
   refine awp_skip ?_
   show awp _ _ _ _
   refine awp_seq ?_
   refine awp_block ?_
   refine awp_seqR fun K hK => ?_
   simp (disch := omega) [ints, rows, scal, wr64, wr8]
   (repeat' first | apply hK | apply And.intro) <;> try first | (show okH _ _ _ = true; kernel_rfl) | omega | rfl | (simp <;> omega)
   refine awp_seqR fun K hK => ?_
   simp (disch := omega) [ints, rows, scal, wr64, wr8, hqn, hql]
   (repeat' first | apply hK | apply And.intro) <;> try first | (show okH _ _ _ = true; kernel_rfl) | omega | rfl | (simp <;> omega)
   refine awp_block ?_
   refine awp_loop (fun y : Nat × (Nat → List Int) => mkF [(6, .ptr 1 0 4), (7, .ptr 2 0 4), (8, .t 2 (.int .i64 q)), (17, .t 2 (.int .i64 n)), (18, .t 2 (.int .i64 q)), (25, .own (100 + q) L), (26, .t 2 (.int .i64 L)), (27, .t 2 (.int .i64 y.1))]
     [(0, tpO 1 xs b), (1, .box 32 [.any, .any, .any, .any]), (2, .box 32 [.t 2 (.int .i64 L), .t 2 (.int .i64 s), .own 3 n, .own 4 n]), (3, .row 4 1 2 (bs.map .bool)), (4, .vec 22 1 2 (tab n fun j => .own (100 + j) L))]
     100 n (fun j => .row 3 1 2 ((y.2 j).map (.int .i64))) 1000 46 [.ptr 0 0 2, .any, .any])
    (fun y => y.1 ≤ L ∧ ∀ q, q < n → (y.2 q).length = L ∧ ∀ v ∈ y.2 q, 0 ≤ v ∧ v < (n : Int)) (fun y => L - y.1) ?_ ?_
   ·refine ⟨(0, nx'), ⟨by simp, hrow'⟩, ?_⟩
    refine wk_fam [(0, some 0), (1, some 1), (2, some 2), (3, some 3), (4, some 4)] (fun j => 100 + j) rfl ?_ ?_ ?_ ?_ ?_ ?_
    all_goals try simp +contextual (disch := omega) [beq_gt, beq_lt, eq_lt, eq_gt, lt_t, List.getElem?_cons_succ, Option.getD_some, callF, ints, scal, tpO, wkPs_snoc, wkPs_tab, hqn]
    all_goals (try omega)
   ·clear hrow' hql hqv
    rintro ⟨x, nx'⟩ ⟨hx, hrow'⟩
    simp only at hx hrow'
    obtain ⟨hql, hqv⟩ := hrow' q hqn
    refine awp_seqR fun K hK => ?_
    simp (disch := omega) [ints, rows, scal, wr64, wr8]
    (repeat' first | apply hK | apply And.intro) <;> try first | (show okH _ _ _ = true; kernel_rfl) | omega | rfl | (simp <;> omega)
    refine awp_seq ?_
    by_cases hxl : x < L
    ·have hxq : x < (nx' q).length := by omega
     have hv := hqv (nx' q)[x] (by simp)
     refine awp_cond (b := true) (p := 2) (by simp [scal, hxl] <;> omega) ?_
     refine awp_skip ?_
     show awp _ _ _ _
     refine awp_seq ?_
     refine awp_block ?_
     refine awp_seqR fun K hK => ?_
     simp (disch := omega) [ints, rows, scal, wr64, wr8, hqn, hql, hxl, hxq]
     (repeat' first | apply hK | apply And.intro) <;> try first | (show okH _ _ _ = true; kernel_rfl) | omega | rfl | (simp <;> omega)
     refine awp_R fun K hK => ?_
     simp (disch := omega) [ints, rows, scal, wr64, wr8, hqn, hql, hxl, hxq]
     (repeat' first | apply hK | apply And.intro) <;> try first | (show okH _ _ _ = true; kernel_rfl) | omega | rfl | (simp <;> omega)
     show awp _ _ _ _
     refine awp_R fun K hK => ?_
     simp (disch := omega) [ints, rows, scal, wr64, wr8]
     (repeat' first | apply hK | apply And.intro) <;> try first | (show okH _ _ _ = true; kernel_rfl) | omega | rfl | (simp <;> omega)
     refine ⟨(x + 1, fun j => if j = q then (nx' q).set x (if (q : Int) < (nx' q)[x] then (nx' q)[x] else (q : Int)) else nx' j), ⟨by omega, fun j hj => ?_⟩, by simp; omega, ?_⟩
     ·by_cases hjq : j = q
      ·simp only [if_pos hjq]
       refine ⟨by simp [hql], fun v hv2 => ?_⟩
       rcases List.mem_or_eq_of_mem_set hv2 with hv2 | rfl
       ·exact hqv v hv2
       ·split <;> omega
      ·simp only [if_neg hjq]; exact hrow' j hj
     ·refine wk_fam [(0, some 0), (1, some 1), (2, some 2), (3, some 3), (4, some 4)] (fun j => 100 + j) rfl ?_ ?_ ?_ ?_ ?_ ?_
      all_goals try simp +contextual (disch := omega) [beq_gt, beq_lt, eq_lt, eq_gt, lt_t, List.getElem?_cons_succ, Option.getD_some, callF, ints, scal, tpO, wkPs_snoc, wkPs_tab, hqn]
      all_goals (try omega)
      intro j hj
      by_cases hjq : j = q
      ·subst hjq
       simp +contextual (disch := omega) [beq_gt, beq_lt, eq_lt, eq_gt, lt_t, List.getElem?_cons_succ, Option.getD_some, callF, ints, scal, tpO, wkPs_snoc, wkPs_tab, List.map_set]
      ·simp +contextual (disch := omega) [beq_gt, beq_lt, eq_lt, eq_gt, lt_t, List.getElem?_cons_succ, Option.getD_some, callF, ints, scal, tpO, wkPs_snoc, wkPs_tab, hjq, beq_ne (show 100 + j ≠ 100 + q by omega)]
    ·have hxe : x = L := by omega
     subst hxe
     refine awp_cond (b := false) (p := 2) (by simp [scal] <;> omega) ?_
     refine awp_exit ?_
     show awp _ _ _ _
     refine awp_R fun K hK => ?_
     simp (disch := omega) [ints, rows, scal, wr64, wr8]
     (repeat' first | apply hK | apply And.intro) <;> try first | (show okH _ _ _ = true; kernel_rfl) | omega | rfl | (simp <;> omega)
     refine ⟨(q + 1, nx'), ⟨by omega, hrow'⟩, by simp; omega, ?_⟩
     refine wk_fam [(0, some 0), (1, some 1), (2, some 2), (3, some 3), (4, some 4)] (fun j => 100 + j) rfl ?_ ?_ ?_ ?_ ?_ ?_
     all_goals try simp +contextual (disch := omega) [beq_gt, beq_lt, eq_lt, eq_gt, lt_t, List.getElem?_cons_succ, Option.getD_some, callF, ints, scal, tpO, wkPs_snoc, wkPs_tab]
     all_goals (try omega)
  ·have hqe : q = n := by omega
   subst hqe
   refine awp_cond (b := false) (p := 2) (by simp [scal] <;> omega) ?_
   refine awp_exit ?_
   show awp _ _ _ _
   refine awp_seqR fun K hK => ?_
   simp (disch := omega) [ints, rows, scal, wr64, wr8]
   (repeat' first | apply hK | apply And.intro) <;> try first | (show okH _ _ _ = true; kernel_rfl) | omega | rfl | (simp <;> omega)
   refine awp_seqR fun K hK => ?_
   simp (disch := omega) [ints, rows, scal, wr64, wr8]
   (repeat' first | apply hK | apply And.intro) <;> try first | (show okH _ _ _ = true; kernel_rfl) | omega | rfl | (simp <;> omega)
   refine awp_ret ?_
   refine ⟨⟨_, _, ⟨q, 0, b, bs, tab q nx', hnm, hb, (DfOK.list ⟨hn1, by omega, hbl, hrow'⟩), rfl, rfl⟩, resQ_G ?_⟩, by simp⟩
   refine ⟨.inr rfl, _, [(0, some 0)], (by first | (simp; rfl) | rfl), ?_, ?_, ?_, ?_⟩
   all_goals try simp +contextual (disch := omega) [beq_gt, beq_lt, eq_lt, eq_gt, lt_t, List.getElem?_cons_succ, Option.getD_some, callF, ints, scal, tpO, wkPs_snoc, wkPs_tab, wkT_tab, wk1, rows, bools, dfT, tab_map]
   exact ⟨hbl, fun j hj => (hrow' j hj).1⟩

set_option linter.unusedSimpArgs false

theorem famH_at' (hl : List (Nat × AObj)) (base n : Nat) (F : Nat → AObj) {j : Nat} (h : j < n) : famH hl base n F (j + base) = some (F j) := by rw [Nat.add_comm]; exact famH_at hl base n F h
theorem famM_at' (mp : List (Nat × Option Nat)) (base n : Nat) (g : Nat → Nat) {j : Nat} (h : j < n) : famM mp base n g (j + base) = some (g j) := by rw [Nat.add_comm]; exact famM_at mp base n g h
def PmRow (L n : Nat) (r : List Int) : Prop := r.length = L ∧ ∀ v ∈ r, 0 ≤ v ∧ v < (n : Int)
theorem PmRow.set {L n : Nat} {r : List Int} (h : PmRow L n r) (x : Nat) {v : Int} (hv : 0 ≤ v ∧ v < (n : Int)) : PmRow L n (r.set x v) :=
 ⟨by simp [h.1], fun u hu => by
  rcases List.mem_or_eq_of_mem_set hu with hu | rfl
  ·exact h.2 u hu
  ·exact hv⟩
set_option maxRecDepth 100000 in
set_option maxHeartbeats 4000000 in
theorem permutations_fn (xs : List Int) (a L most : Nat) (ha : a ≤ xs.length) (hl : xs.length ≤ 80) (hL : 1 ≤ L) (hL2 : L ≤ 6) (hm : 1 ≤ most) (hm2 : most ≤ 100) : ∃ res H', MkG L most xs res H' ∧
  FnS Tryd.prog 41 [.ptr 0 0 2, .t 2 (.int .i64 L), .t 2 (.int .i64 most)] [tpO 1 xs a] res H' := by
 obtain ⟨v1, a1, hv1, ha1, hN1⟩ := next_fn xs a most ha hl (by omega)
 have hv1 := hv1 (by omega)
 obtain ⟨n, hn⟩ : ∃ n, n = 1 + v1 := ⟨_, rfl⟩
 obtain ⟨s, a2, hv2, ha2, hN2⟩ := next_fn xs a1 n ha1 hl (by omega)
 have hv2 := hv2 (by omega)
 have hnn : (1 : Int) + v1 = n := by omega
 have hnm : n ≤ 100 := by omega
 refine fn_introGE Tryd.func41 rfl (by simp [Tryd.f41]) ?_
 rw [show Tryd.f41.ntmps = 90 from rfl, show Tryd.f41.results = #[.cell 6 32] from rfl]
 refine awp_seqR fun K hK => ?_
 simp (disch := omega) [ints, rows, scal, wr64, wr8]
 (repeat' first | apply hK | apply And.intro) <;> try first | (show okH _ _ _ = true; kernel_rfl) | omega | rfl | (simp <;> omega)
 refine awp_seqR fun K hK => ?_
 simp (disch := omega) [ints, rows, scal, wr64, wr8]
 (repeat' first | apply hK | apply And.intro) <;> try first | (show okH _ _ _ = true; kernel_rfl) | omega | rfl | (simp <;> omega)
 refine awp_seqR fun K hK => ?_
 simp (disch := omega) [ints, rows, scal, wr64, wr8]
 (repeat' apply And.intro)
 all_goals (try omega)
 refine call_rule (caps := []) (hN1) [0] [0] 1 rfl rfl rfl rfl (by kernel_rfl) (by simp) ?_ ?_ (by simp) rfl (by simp) ⟨.inr ⟨rfl, 0, _, _, _, _, _, rfl, rfl, rfl, rfl, rfl⟩, trivial⟩ (by simp [tpO]) ?_
 ·simp [scal, rows, ints, tpO]
 ·simp [scal, rows, ints, tpO]
 simp (disch := omega) [ints, rows, scal, wr64, wr8, hnn]
 (repeat' first | apply hK | apply And.intro) <;> try first | (show okH _ _ _ = true; kernel_rfl) | omega | rfl | (simp <;> omega)
 refine awp_seqR fun K hK => ?_
 simp (disch := omega) [ints, rows, scal, wr64, wr8]
 (repeat' apply And.intro)
 all_goals (try omega)
 refine call_rule (caps := []) (hN2) [0] [0] 1 rfl rfl rfl rfl (by kernel_rfl) (by simp) ?_ ?_ (by simp) rfl (by simp) ⟨.inr ⟨rfl, 0, _, _, _, _, _, rfl, rfl, rfl, rfl, rfl⟩, trivial⟩ (by simp [tpO]) ?_
 ·simp [scal, rows, ints, tpO]
 ·simp [scal, rows, ints, tpO]
 simp (disch := omega) [ints, rows, scal, wr64, wr8]
 (repeat' first | apply hK | apply And.intro) <;> try first | (show okH _ _ _ = true; kernel_rfl) | omega | rfl | (simp <;> omega)
 refine awp_seq ?_
 refine awp_seqR fun K hK => ?_
 simp (disch := omega) [ints, rows, scal, wr64, wr8]
 (repeat' first | apply hK | apply And.intro) <;> try first | (show okH _ _ _ = true; kernel_rfl) | omega | rfl | (simp <;> omega)
 refine awp_block ?_
 refine awp_loop (fun y : Nat × Nat × List Bool => mkF [(0, .ptr 0 0 2), (1, .t 2 (.int .i64 L)), (6, .ptr 1 0 4), (7, .ptr 2 0 4), (8, .t 2 (.int .i64 n)), (9, .t 2 (.int .i64 y.1))]
   [(0, tpO 1 xs y.2.1), (1, .box 32 [.any, .any, .any, .any]), (2, .box 32 [.t 2 (.int .i64 L), .t 2 (.int .i64 s), .own 3 y.1, .own 4 y.1]), (3, .row 4 1 2 (y.2.2.map .bool)), (4, .vec 22 1 2 (tab y.1 fun j => .own (j + 100) L))]
   100 y.1 (fun j => .row 3 1 2 ((List.replicate L (0 : Int)).map (.int .i64))) 1000 90 [.ptr 0 0 2, .any, .any])
  (fun y => y.1 ≤ n ∧ y.2.1 ≤ xs.length ∧ y.2.2.length = y.1) (fun y => n - y.1) ?_ ?_
 ·refine ⟨(0, a2, []), ⟨by simp, ha2, rfl⟩, ?_⟩
  refine wk_fam [(0, some 0), (1, some 1), (2, some 3000001), (3, none), (4, none)] (fun j => j) rfl ?_ ?_ ?_ ?_ ?_ ?_
  all_goals try simp +contextual (disch := omega) [beq_gt, beq_lt, eq_lt, eq_gt, lt_t, List.getElem?_cons_succ, Option.getD_some, callF, ints, scal, tpO, wkPs_snoc, wkPs_tab, tpO]
  all_goals (try omega)
 ·rintro ⟨q, a3, bs⟩ ⟨hq, ha3, hbl⟩
  simp only at hq ha3 hbl
  refine awp_seq ?_
  refine awp_seqR fun K hK => ?_
  simp (disch := omega) [ints, rows, scal, wr64, wr8]
  (repeat' first | apply hK | apply And.intro) <;> try first | (show okH _ _ _ = true; kernel_rfl) | omega | rfl | (simp <;> omega)
  by_cases hqn : q < n
  ·refine awp_cond (b := true) (p := 2) (by simp [scal, hqn] <;> omega) ?_
   refine awp_skip ?_
   show awp _ _ _ _
   refine awp_seq ?_
   refine awp_block ?_
   obtain ⟨v4, a4, hv4, ha4, hN4⟩ := next_fn xs a3 2 ha3 hl (by omega)
   refine awp_RD (by kernel_rfl) (fun K hK => ?_)
   simp (disch := omega) [ints, rows, scal, wr64, wr8]
   (repeat' apply And.intro)
   all_goals (try omega)
   refine call_ruleD (caps := []) (hN4) [0] [0] 1 rfl rfl rfl rfl (by kernel_rfl) (by simp) ?_ ?_ (by simp) rfl (by simp) ⟨.inr ⟨rfl, 0, _, _, _, _, _, rfl, rfl, rfl, rfl, rfl⟩, trivial⟩ (by simp [tpO]) ?_
   ·simp [scal, rows, ints, tpO]
   ·simp [scal, rows, ints, tpO]
   simp (disch := omega) [ints, rows, scal, wr64, wr8, tpO]
   (repeat' first | apply hK | apply And.intro) <;> try first | (show chkD _ _ = true; kernel_rfl) | (show okH _ _ _ = true; kernel_rfl) | omega | rfl | (simp <;> omega)
   show awp _ _ _ _
   refine awp_R fun K hK => ?_
   simp (disch := omega) [ints, rows, scal, wr64, wr8]
   (repeat' first | apply hK | apply And.intro) <;> try first | (show okH _ _ _ = true; kernel_rfl) | omega | rfl | (simp <;> omega)
   refine ⟨(q + 1, a4, bs ++ [(v4 : Int) == 1]), ⟨by omega, ha4, by simp [hbl]⟩, by simp; omega, ?_⟩
   refine wk_fam [(0, some 0), (1, some 1), (2, some 2), (3, some 3), (4, some 4)] (fun j => if j < q then j + 100 else 13001000) rfl ?_ ?_ ?_ ?_ ?_ ?_
   all_goals try simp +contextual (disch := omega) [beq_gt, beq_lt, eq_lt, eq_gt, lt_t, List.getElem?_cons_succ, Option.getD_some, callF, ints, scal, tpO, wkPs_snoc, wkPs_tab, hbl, tab_succ, famM_at', famH_at']
   all_goals (try omega)
   ·intro j hj
    by_cases hjq : j < q
    ·simp +contextual (disch := omega) [beq_gt, beq_lt, eq_lt, eq_gt, lt_t, List.getElem?_cons_succ, Option.getD_some, callF, ints, scal, tpO, wkPs_snoc, wkPs_tab, hjq, famM_at', famH_at', beq_ne (show j + 100 ≠ 14001000 by omega), beq_ne (show j + 100 ≠ 13001000 by omega), beq_ne (show j + 100 ≠ 8001000 by omega)]
    ·simp +contextual (disch := omega) [beq_gt, beq_lt, eq_lt, eq_gt, lt_t, List.getElem?_cons_succ, Option.getD_some, callF, ints, scal, tpO, wkPs_snoc, wkPs_tab, hjq]
   ·intro i j hi hj h
    split at h <;> split at h <;> omega
  ·have hqe : q = n := by omega
   subst hqe
   refine awp_cond (b := false) (p := 2) (by simp [scal] <;> omega) ?_
   refine awp_exit ?_
   show awp _ _ _ _
   refine awp_seq ?_
   refine awp_seqR fun K hK => ?_
   simp (disch := omega) [ints, rows, scal, wr64, wr8]
   (repeat' first | apply hK | apply And.intro) <;> try first | (show okH _ _ _ = true; kernel_rfl) | omega | rfl | (simp <;> omega)
   refine awp_block ?_
   refine awp_loop (fun y : Nat × Nat × (Nat → List Int) => mkF [(0, .ptr 0 0 2), (1, .t 2 (.int .i64 L)), (6, .ptr 1 0 4), (7, .ptr 2 0 4), (8, .t 2 (.int .i64 q)), (10, .t 2 (.int .i64 y.1))]
     [(0, tpO 1 xs y.2.1), (1, .box 32 [.any, .any, .any, .any]), (2, .box 32 [.t 2 (.int .i64 L), .t 2 (.int .i64 s), .own 3 q, .own 4 q]), (3, .row 4 1 2 (bs.map .bool)), (4, .vec 22 1 2 (tab q fun j => .own (j + 100) L))]
     100 q (fun j => .row 3 1 2 ((y.2.2 j).map (.int .i64))) 1000 90 [.ptr 0 0 2, .any, .any])
    (fun y => y.1 ≤ L ∧ y.2.1 ≤ xs.length ∧ ∀ j, j < q → PmRow L q (y.2.2 j)) (fun y => L - y.1) ?_ ?_
   ·refine ⟨(0, a3, fun _ => List.replicate L 0), ⟨by simp, ha3, fun j hj => ⟨by simp, fun v hv => ?_⟩⟩, ?_⟩
    ·have := List.eq_of_mem_replicate hv
     omega
    ·refine wk_fam [(0, some 0), (1, some 1), (2, some 2), (3, some 3), (4, some 4)] (fun j => j + 100) rfl ?_ ?_ ?_ ?_ ?_ ?_
     all_goals try simp +contextual (disch := omega) [beq_gt, beq_lt, eq_lt, eq_gt, lt_t, List.getElem?_cons_succ, Option.getD_some, callF, ints, scal, tpO, wkPs_snoc, wkPs_tab, hbl, famM_at', famH_at']
     all_goals (try omega)
   ·clear ha3
    rintro ⟨x, a3, nx⟩ ⟨hx, ha3, hnx⟩
    simp only at hx ha3 hnx
    refine awp_seq ?_
    refine awp_seqR fun K hK => ?_
    simp (disch := omega) [ints, rows, scal, wr64, wr8]
    (repeat' first | apply hK | apply And.intro) <;> try first | (show okH _ _ _ = true; kernel_rfl) | omega | rfl | (simp <;> omega)
    by_cases hxl : x < L
    ·refine awp_cond (b := true) (p := 2) (by simp [scal, hxl] <;> omega) ?_
     refine awp_skip ?_
     show awp _ _ _ _
     refine awp_seq ?_
     refine awp_block ?_
     refine awp_seqR fun K hK => ?_
     simp (disch := omega) [ints, rows, scal, wr64, wr8]
     (repeat' first | apply hK | apply And.intro) <;> try first | (show okH _ _ _ = true; kernel_rfl) | omega | rfl | (simp <;> omega)
     refine awp_seq ?_
     refine awp_seqR fun K hK => ?_
     simp (disch := omega) [ints, rows, scal, wr64, wr8]
     (repeat' first | apply hK | apply And.intro) <;> try first | (show okH _ _ _ = true; kernel_rfl) | omega | rfl | (simp <;> omega)
     refine awp_block ?_
     refine awp_loop (fun y : Nat => mkF [(0, .ptr 0 0 2), (1, .t 2 (.int .i64 L)), (6, .ptr 1 0 4), (7, .ptr 2 0 4), (8, .t 2 (.int .i64 q)), (10, .t 2 (.int .i64 x)), (11, .own 5 y), (12, .t 2 (.int .i64 y))]
       [(0, tpO 1 xs a3), (1, .box 32 [.any, .any, .any, .any]), (2, .box 32 [.t 2 (.int .i64 L), .t 2 (.int .i64 s), .own 3 q, .own 4 q]), (3, .row 4 1 2 (bs.map .bool)), (4, .vec 22 1 2 (tab q fun j => .own (j + 100) L)), (5, .row 3 1 2 ((tab y fun i => (i : Int)).map (.int .i64)))]
       100 q (fun j => .row 3 1 2 ((nx j).map (.int .i64))) 1000 90 [.ptr 0 0 2, .any, .any])
      (fun y => y ≤ q) (fun y => q - y) ?_ ?_
     ·refine ⟨0, by omega, ?_⟩
      refine wk_fam [(0, some 0), (1, some 1), (2, some 2), (3, some 3), (4, some 4), (5, none)] (fun j => j + 100) rfl ?_ ?_ ?_ ?_ ?_ ?_
      all_goals try simp +contextual (disch := omega) [beq_gt, beq_lt, eq_lt, eq_gt, lt_t, List.getElem?_cons_succ, Option.getD_some, callF, ints, scal, tpO, wkPs_snoc, wkPs_tab, famM_at', famH_at']
      all_goals (try omega)
     ·intro y hy
      refine awp_seq ?_
      refine awp_seqR fun K hK => ?_
      simp (disch := omega) [ints, rows, scal, wr64, wr8]
      (repeat' first | apply hK | apply And.intro) <;> try first | (show okH _ _ _ = true; kernel_rfl) | omega | rfl | (simp <;> omega)
      by_cases hyq : y < q
      ·refine awp_cond (b := true) (p := 2) (by simp [scal, hyq] <;> omega) ?_
       refine awp_skip ?_
       show awp _ _ _ _
       refine awp_seq ?_
       refine awp_block ?_
       refine awp_R fun K hK => ?_
       simp (disch := omega) [ints, rows, scal, wr64, wr8]
       (repeat' first | apply hK | apply And.intro) <;> try first | (show okH _ _ _ = true; kernel_rfl) | omega | rfl | (simp <;> omega)
       show awp _ _ _ _
       refine awp_R fun K hK => ?_
       simp (disch := omega) [ints, rows, scal, wr64, wr8]
       (repeat' first | apply hK | apply And.intro) <;> try first | (show okH _ _ _ = true; kernel_rfl) | omega | rfl | (simp <;> omega)
       refine ⟨y + 1, by omega, by omega, ?_⟩
       refine wk_fam [(0, some 0), (1, some 1), (2, some 2), (3, some 3), (4, some 4), (5, some 5)] (fun j => j + 100) rfl ?_ ?_ ?_ ?_ ?_ ?_
       all_goals try simp +contextual (disch := omega) [beq_gt, beq_lt, eq_lt, eq_gt, lt_t, List.getElem?_cons_succ, Option.getD_some, callF, ints, scal, tpO, wkPs_snoc, wkPs_tab, famM_at', famH_at', tab_succ]
       all_goals (try omega)
      ·have hye : y = q := by omega
       subst hye
       refine awp_cond (b := false) (p := 2) (by simp [scal] <;> omega) ?_
       refine awp_exit ?_
       show awp _ _ _ _
       refine awp_seqR fun K hK => ?_
       simp (disch := omega) [ints, rows, scal, wr64, wr8]
       (repeat' first | apply hK | apply And.intro) <;> try first | (show okH _ _ _ = true; kernel_rfl) | omega | rfl | (simp <;> omega)
       refine awp_block ?_
       refine awp_loop (fun z : Nat × Nat × List Int × (Nat → List Int) => mkF [(0, .ptr 0 0 2), (1, .t 2 (.int .i64 L)), (6, .ptr 1 0 4), (7, .ptr 2 0 4), (8, .t 2 (.int .i64 y)), (10, .t 2 (.int .i64 x)), (11, .t 2 (ints z.2.2.1)), (13, .t 2 (.int .i64 z.1))]
         [(0, tpO 1 xs z.2.1), (1, .box 32 [.any, .any, .any, .any]), (2, .box 32 [.t 2 (.int .i64 L), .t 2 (.int .i64 s), .own 3 y, .own 4 y]), (3, .row 4 1 2 (bs.map .bool)), (4, .vec 22 1 2 (tab y fun j => .own (j + 100) L))]
         100 y (fun j => .row 3 1 2 ((z.2.2.2 j).map (.int .i64))) 1000 90 [.ptr 0 0 2, .any, .any])
        (fun z => z.1 ≤ y ∧ z.2.1 ≤ xs.length ∧ z.2.2.1.length + z.1 = y ∧ (∀ v ∈ z.2.2.1, 0 ≤ v ∧ v < (y : Int)) ∧ ∀ j, j < y → PmRow L y (z.2.2.2 j)) (fun z => y - z.1) ?_ ?_
       ·refine ⟨(0, a3, tab y fun i => (i : Int), nx), ⟨by simp, ha3, by simp, fun v hv => ?_, hnx⟩, ?_⟩
        ·simp only [tab, List.mem_map, List.mem_range] at hv
         obtain ⟨i, hi, rfl⟩ := hv
         omega
        ·refine wk_fam [(0, some 0), (1, some 1), (2, some 2), (3, some 3), (4, some 4)] (fun j => j + 100) rfl ?_ ?_ ?_ ?_ ?_ ?_
         all_goals try simp +contextual (disch := omega) [beq_gt, beq_lt, eq_lt, eq_gt, lt_t, List.getElem?_cons_succ, Option.getD_some, callF, ints, scal, tpO, wkPs_snoc, wkPs_tab, famM_at', famH_at']
         all_goals (try omega)
       ·clear hnx ha3
        rintro ⟨z, a5, lf, nx⟩ ⟨hz, ha5, hlf, hlv, hnx⟩
        simp only at hz ha5 hlf hlv hnx
        refine awp_seq ?_
        refine awp_seqR fun K hK => ?_
        simp (disch := omega) [ints, rows, scal, wr64, wr8]
        (repeat' first | apply hK | apply And.intro) <;> try first | (show okH _ _ _ = true; kernel_rfl) | omega | rfl | (simp <;> omega)
        by_cases hzy : z < y
        ·refine awp_cond (b := true) (p := 2) (by simp [scal, hzy] <;> omega) ?_
         refine awp_skip ?_
         show awp _ _ _ _
         refine awp_seq ?_
         refine awp_block ?_
         obtain ⟨v, a6, hv, ha6, hN6⟩ := next_fn xs a5 lf.length ha5 hl (by omega)
         have hvl : v < lf.length := by have := hv (by omega); omega
         have hnz := hnx z hzy
         have hnl := hnz.1
         have hlfv := hlv lf[v] (by simp)
         refine awp_seqR fun K hK => ?_
         simp (disch := omega) [ints, rows, scal, wr64, wr8]
         (repeat' apply And.intro)
         all_goals (try omega)
         refine call_rule (caps := []) (hN6) [0] [0] 1 rfl rfl rfl rfl (by kernel_rfl) (by simp) ?_ ?_ (by simp) rfl (by simp) ⟨.inr ⟨rfl, 0, _, _, _, _, _, rfl, rfl, rfl, rfl, rfl⟩, trivial⟩ (by simp [tpO]) ?_
         ·simp [scal, rows, ints, tpO]
         ·simp [scal, rows, ints, tpO]
         simp (disch := omega) [ints, rows, scal, wr64, wr8]
         (repeat' first | apply hK | apply And.intro) <;> try first | (show okH _ _ _ = true; kernel_rfl) | omega | rfl | (simp <;> omega)
         refine awp_seqD (by kernel_rfl) (fun K hK => ?_)
         simp (disch := omega) [ints, rows, scal, wr64, wr8, famH_at', hzy, hnl, hxl, hvl]
         (repeat' first | apply hK | apply And.intro) <;> try first | (show chkD _ _ = true; kernel_rfl) | (show okH _ _ _ = true; kernel_rfl) | omega | rfl | (simp <;> omega)
         refine awp_RD (by kernel_rfl) (fun K hK => ?_)
         simp (disch := omega) [ints, rows, scal, wr64, wr8]
         (repeat' first | apply hK | apply And.intro) <;> try first | (show chkD _ _ = true; kernel_rfl) | (show okH _ _ _ = true; kernel_rfl) | omega | rfl | (simp <;> omega)
         show awp _ _ _ _
         refine awp_R fun K hK => ?_
         simp (disch := omega) [ints, rows, scal, wr64, wr8]
         (repeat' first | apply hK | apply And.intro) <;> try first | (show okH _ _ _ = true; kernel_rfl) | omega | rfl | (simp <;> omega)
         refine ⟨(z + 1, a6, lf.take v ++ lf.drop (v + 1), fun j => if j = z then (nx z).set x lf[v] else nx j), ⟨by omega, ha6, by simp; omega, fun u hu => ?_, fun j hj => ?_⟩, by simp; omega, ?_⟩
         ·rcases List.mem_append.1 hu with hu | hu
          ·exact hlv u (List.mem_of_mem_take hu)
          ·exact hlv u (List.mem_of_mem_drop hu)
         ·by_cases hjz : j = z
          ·simp only [if_pos hjz]; exact hnz.set x hlfv
          ·simp only [if_neg hjz]; exact hnx j hj
         ·refine wk_fam [(0, some 0), (1, some 1), (2, some 2), (3, some 3), (4, some 4)] (fun j => j + 100) rfl ?_ ?_ ?_ ?_ ?_ ?_
          all_goals try simp +contextual (disch := omega) [beq_gt, beq_lt, eq_lt, eq_gt, lt_t, List.getElem?_cons_succ, Option.getD_some, callF, ints, scal, tpO, wkPs_snoc, wkPs_tab, famM_at', famH_at']
          all_goals (try omega)
          ·rw [List.take_of_length_le (by simp)]
          ·intro j hj
           by_cases hjz : j = z
           ·subst hjz
            simp +contextual (disch := omega) [beq_gt, beq_lt, eq_lt, eq_gt, lt_t, List.getElem?_cons_succ, Option.getD_some, callF, ints, scal, tpO, wkPs_snoc, wkPs_tab, List.map_set]
           ·simp +contextual (disch := omega) [beq_gt, beq_lt, eq_lt, eq_gt, lt_t, List.getElem?_cons_succ, Option.getD_some, callF, ints, scal, tpO, wkPs_snoc, wkPs_tab, hjz, beq_ne hjz]
        ·refine awp_cond (b := false) (p := 2) (by simp [scal] <;> omega) ?_
         refine awp_exit ?_
         show awp _ _ _ _
         refine awp_R fun K hK => ?_
         simp (disch := omega) [ints, rows, scal, wr64, wr8]
         (repeat' first | apply hK | apply And.intro) <;> try first | (show okH _ _ _ = true; kernel_rfl) | omega | rfl | (simp <;> omega)
         refine ⟨(x + 1, a5, nx), ⟨by omega, ha5, hnx⟩, by simp; omega, ?_⟩
         refine wk_fam [(0, some 0), (1, some 1), (2, some 2), (3, some 3), (4, some 4)] (fun j => j + 100) rfl ?_ ?_ ?_ ?_ ?_ ?_
         all_goals try simp +contextual (disch := omega) [beq_gt, beq_lt, eq_lt, eq_gt, lt_t, List.getElem?_cons_succ, Option.getD_some, callF, ints, scal, tpO, wkPs_snoc, wkPs_tab, famM_at', famH_at']
         all_goals (try omega)
    ·refine awp_cond (b := false) (p := 2) (by simp [scal] <;> omega) ?_
     refine awp_exit ?_
     show awp _ _ _ _
     refine awp_seqR fun K hK => ?_
     simp (disch := omega) [ints, rows, scal, wr64, wr8]
     (repeat' first | apply hK | apply And.intro) <;> try first | (show okH _ _ _ = true; kernel_rfl) | omega | rfl | (simp <;> omega)
     refine awp_ret ?_
     refine ⟨⟨_, _, ⟨q, s, a3, bs, tab q nx, by omega, ha3, (DfOK.list ⟨by omega, by omega, hbl, fun j hj => hnx j hj⟩), rfl, rfl⟩, resQ_G ?_⟩, by simp⟩
     refine ⟨.inr rfl, _, [(0, some 0)], (by first | (simp; rfl) | rfl), ?_, ?_, ?_, ?_⟩
     all_goals try simp +contextual (disch := omega) [beq_gt, beq_lt, eq_lt, eq_gt, lt_t, List.getElem?_cons_succ, Option.getD_some, callF, ints, scal, tpO, wkPs_snoc, wkPs_tab, wkT_tab, wk1, rows, bools, dfT, tab_map, famM_at', famH_at']
     exact ⟨hbl, fun j hj => (hnx j hj).1⟩
end Go.Proofs.YtnffigeofdagfaaDoor.M
