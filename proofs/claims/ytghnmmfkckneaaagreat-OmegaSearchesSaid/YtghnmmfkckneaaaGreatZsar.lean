/-
  Walks in my logic: Word, Valid, MayGens.
  Walk: MayGens. Plain law: enumerations of transformations, by lists.
  Walk in my logic: Start.
  Walk in my logic: process.
  Walks in my logic: Build, Table.
  Walks in my logic: the tape (Mod, New, Next), Dfa.
  Walks in my logic: Ordered, Permutations.
  Walk in my logic: Permutations.
-/
import Derived.Test.YtghnmmfkckneaaaGreatZsah
namespace Go.Proofs.YtghnmmfkckneaaaGreat.M
open Go.RowKit
set_option linter.unusedVariables false
set_option maxRecDepth 100000
set_option maxHeartbeats 32000000
attribute [local simp] ints rows scal wr64 wr8
set_option linter.unusedSimpArgs false

theorem strL_append (a b : List Nat) : strL a ++ strL b = strL (a ++ b) := by
 apply ByteArray.ext
 simp [strL]
structure WdL (L : Nat) (pre last : List Int) (wds : List (List Nat)) : Prop where
 lp : pre.length = wds.length
 ll : last.length = wds.length
 at_ : ∀ (i : Nat) w, wds[i]? = some w → ∃ p l : Int, pre[i]? = some p ∧ last[i]? = some l ∧ ((l = -1 ∧ p = -1 ∧ w = []) ∨ ∃ x : Nat, l = (x : Int) ∧ x < L ∧ ((p = -1 ∧ w = [x]) ∨ ∃ (j : Nat) (u : List Nat), p = (j : Int) ∧ j < i ∧ wds[j]? = some u ∧ w = u ++ [x]))
@[simp] theorem strL_size (l : List Nat) : (strL l).size = l.length := by simp [strL, ByteArray.size]
theorem WdL.len {L : Nat} {pre last : List Int} {wds : List (List Nat)} (h : WdL L pre last wds) : ∀ (i : Nat) w, wds[i]? = some w → w.length ≤ i + 1 := by
 intro i
 induction i using Nat.strongRecOn with
 | _ i ih =>
  intro w hw
  obtain ⟨p, l, -, -, hc⟩ := h.at_ i w hw
  rcases hc with ⟨-, -, rfl⟩ | ⟨x, -, -, ⟨-, rfl⟩ | ⟨j, u, -, hj, hu, rfl⟩⟩
  ·simp
  ·simp
  ·have := ih j hj u hu
   simp; omega
def enW (pre last : List Int) : AV := .agg [.any, .any, .any, .any, .t 0 (ints pre), .t 0 (ints last), .any, .any, .any]
theorem word_fn {L : Nat} {pre last : List Int} {wds : List (List Nat)} (h : WdL L pre last wds) (hL : L ≤ 20) (hn : wds.length ≤ 1000000) {i : Nat} {w : List Nat} (hw : wds[i]? = some w) : FnA Tryz.prog 98 [enW pre last, .t 2 (.int .i64 i)] (.t 2 (.str (strL w))) := by
 refine fn_intro Tryz.func98 rfl (by simp [Tryz.f98]) ?_
 rw [show Tryz.f98.ntmps = 30 from rfl, show Tryz.f98.results = #[.tmp 4] from rfl]
 refine rgS fun K hK => ?_
 simp (disch := omega) [enW]
 and_intros <;> try first | apply hK | omega | rfl | simp <;> omega
 refine rgS fun K hK => ?_
 simp (disch := omega)
 and_intros <;> try first | apply hK | omega | rfl | simp <;> omega
 refine awp_seq ?_
 refine awp_block ?_
 refine awp_loop (fun x : Int × List Nat => mkS [(1, .t 2 (.int .i64 x.1)), (2, .ptr 0 0 9), (5, .t 2 (.str (strL x.2)))] [(0, .box 146 [.any, .any, .any, .any, .t 0 (ints pre), .t 0 (ints last), .any, .any, .any])] 1 30 [.any, .any])
  (fun x => (x.1 = -1 ∧ x.2 = w) ∨ ∃ (j : Nat) (u : List Nat), x.1 = j ∧ wds[j]? = some u ∧ u ++ x.2 = w) (fun x => (x.1 + 1).toNat) ?_ ?_
 ·refine ⟨((i : Int), []), .inr ⟨i, w, rfl, hw, by simp⟩, ?_⟩
  refine wk_list [(0, some 0)] rfl ?_ ?_ ?_ ?_
  all_goals try simp [enW]
  rfl
 ·rintro ⟨j0, suf⟩ hk
  simp only at hk
  rcases hk with ⟨rfl, rfl⟩ | ⟨j, u, rfl, hj, hu⟩
  ·refine awp_seq ?_
   refine awp_seq ?_
   refine rgL fun K hK => ?_
   simp (disch := omega)
   and_intros <;> try first | apply hK | omega | rfl | simp <;> omega
   show awp _ _ _ _
   refine condF (by simp <;> omega) ?_
   refine awp_exit ?_
   show awp _ _ _ _
   refine rgS fun K hK => ?_
   simp (disch := omega)
   and_intros <;> try first | apply hK | omega | rfl | simp <;> omega
   refine awp_ret ?_
   refine ⟨⟨.inr rfl, _, [], rfl, trivial, trivial, by simp [enW], ?_⟩, by simp [enW]⟩
   simp [enW]
  ·obtain ⟨p, l, hp, hl, hcase⟩ := h.at_ j u hj
   obtain ⟨hj1, hl⟩ := List.getElem?_eq_some_iff.1 hl
   obtain ⟨hj2, hp⟩ := List.getElem?_eq_some_iff.1 hp
   have hj3 := h.lp
   have hwi := (List.getElem?_eq_some_iff.1 hw).1
   have hwl := h.len i w hw
   have hwu := congrArg List.length hu
   simp only [List.length_append] at hwu
   rcases hcase with ⟨rfl, rfl, rfl⟩ | ⟨x, rfl, hx, hcase⟩
   ·simp only [List.nil_append] at hu
    subst hu
    refine awp_seq ?_
    refine awp_seq ?_
    refine rgL fun K hK => ?_
    simp (disch := omega) [hl, hj1]
    and_intros <;> try first | apply hK | omega | rfl | simp <;> omega
    show awp _ _ _ _
    refine condF (by simp <;> omega) ?_
    refine awp_exit ?_
    show awp _ _ _ _
    refine rgS fun K hK => ?_
    simp (disch := omega)
    and_intros <;> try first | apply hK | omega | rfl | simp <;> omega
    refine awp_ret ?_
    refine ⟨⟨.inr rfl, _, [], rfl, trivial, trivial, by simp [enW], ?_⟩, by simp [enW]⟩
    simp [enW]
   ·refine awp_seq ?_
    refine awp_seq ?_
    refine rgL fun K hK => ?_
    simp (disch := omega) [hl, hj1]
    and_intros <;> try first | apply hK | omega | rfl | simp <;> omega
    show awp _ _ _ _
    refine condT (by simp <;> omega) ?_
    refine awp_skip ?_
    show awp _ _ _ _
    refine awp_block ?_
    refine rgS fun K hK => ?_
    simp (disch := omega) [hl, hj1]
    (repeat' apply And.intro)
    all_goals (try omega)
    refine call_rule (caps := []) (letter_fn x (by omega)) [] [] 2 rfl rfl rfl rfl (by kernel_rfl) (by simp) ?_ ?_ ?_ rfl ?_ ?_ (by simp) ?_
    ·simp
    ·trivial
    ·trivial
    ·trivial
    ·trivial
    simp (disch := omega) [strL_append]
    and_intros <;> try first | apply hK | omega | rfl | simp <;> omega
    refine rgL fun K hK => ?_
    simp (disch := omega) [hp, hj2]
    (repeat' first | apply hK | apply And.intro) <;> try first | omega | rfl | (simp <;> omega)
    rcases hcase with ⟨rfl, rfl⟩ | ⟨j', u', rfl, hlt, hj', rfl⟩
    ·refine ⟨((-1 : Int), [x] ++ suf), .inl ⟨rfl, hu⟩, by simp <;> omega, ?_⟩
     refine wk_list [(0, some 0)] rfl ?_ ?_ ?_ ?_
     all_goals try simp
    ·refine ⟨((j' : Int), [x] ++ suf), .inr ⟨j', u', rfl, hj', by simpa using hu⟩, by simp <;> omega, ?_⟩
     refine wk_list [(0, some 0)] rfl ?_ ?_ ?_ ?_
     all_goals try simp
def TrOK (f : List Int) : Prop := 1 ≤ f.length ∧ f.length ≤ 32 ∧ ∀ (i : Nat) (h : i < f.length), 0 ≤ f[i] ∧ f[i] < f.length
open Classical in
theorem valid11_fn (f : List Int) (hn : f.length ≤ 1000000) : FnA Tryz.prog 126 [.t 0 (ints f)] (.t 2 (.bool (decide (TrOK f)))) := by
 refine fn_intro Tryz.func126 rfl (by simp [Tryz.f126]) ?_
 rw [show Tryz.f126.ntmps = 28 from rfl, show Tryz.f126.results = #[.tmp 2] from rfl]
 refine rgS fun K hK => ?_
 simp (disch := omega)
 and_intros <;> try first | apply hK | omega | rfl | simp <;> omega
 refine awp_seq ?_
 by_cases h1 : (f.length : Int) < 1
 ·refine rgS fun K hK => ?_
  simp (disch := omega) [h1]
  and_intros <;> try first | apply hK | omega | rfl | simp <;> omega
  refine condT (by simp <;> omega) ?_
  refine rgS fun K hK => ?_
  simp (disch := omega)
  and_intros <;> try first | apply hK | omega | rfl | simp <;> omega
  refine awp_ret ?_
  refine ⟨⟨.inr rfl, _, [], rfl, trivial, trivial, by simp, ?_⟩, by simp⟩
  simp
  intro h; have := h.1; omega
 by_cases h2 : 32 < (f.length : Int)
 ·refine rgS fun K hK => ?_
  simp (disch := omega) [h1, h2]
  and_intros <;> try first | apply hK | omega | rfl | simp <;> omega
  refine condT (by simp <;> omega) ?_
  refine rgS fun K hK => ?_
  simp (disch := omega)
  and_intros <;> try first | apply hK | omega | rfl | simp <;> omega
  refine awp_ret ?_
  refine ⟨⟨.inr rfl, _, [], rfl, trivial, trivial, by simp, ?_⟩, by simp⟩
  simp
  intro h; have := h.2.1; omega
 refine rgS fun K hK => ?_
 simp (disch := omega) [h1, h2]
 and_intros <;> try first | apply hK | omega | rfl | simp <;> omega
 refine condF (by simp <;> omega) ?_
 refine awp_skip ?_
 show awp _ _ _ _
 refine awp_seq ?_
 refine rgS fun K hK => ?_
 simp (disch := omega)
 and_intros <;> try first | apply hK | omega | rfl | simp <;> omega
 refine awp_block ?_
 refine awp_loop (fun k : Nat => mkS [(0, .t 0 (ints f)), (13, .t 0 (ints f)), (14, .t 2 (.int .i64 f.length)), (15, .t 2 (.int .i64 k))] [] 0 28 [.any]) (fun k => k ≤ f.length ∧ ∀ (i : Nat) (h : i < f.length), i < k → 0 ≤ f[i] ∧ f[i] < f.length) (fun k => f.length - k) ?_ ?_
 ·refine ⟨0, ⟨by omega, fun i h1 h => by omega⟩, ?_⟩
  refine wk_list [] rfl ?_ ?_ ?_ ?_
  all_goals try simp
 ·intro k hk
  obtain ⟨hk, hall⟩ := hk
  refine rgS fun K hK => ?_
  simp (disch := omega)
  (repeat' first | apply hK | apply And.intro) <;> try first | omega | rfl | (simp <;> omega)
  by_cases hlt : k < f.length
  ·refine awp_seq ?_
   refine condT (by simp [hlt] <;> omega) ?_
   refine awp_skip ?_
   refine awp_seq ?_
   refine awp_block ?_
   refine rgS fun K hK => ?_
   simp (disch := omega) [hlt]
   (repeat' first | apply hK | apply And.intro) <;> try first | omega | rfl | (simp <;> omega)
   by_cases h3 : f[k] < 0
   ·refine rgS fun K hK => ?_
    simp (disch := omega) [hlt, h3]
    and_intros <;> try first | apply hK | omega | rfl | simp <;> omega
    refine condT (by simp <;> omega) ?_
    refine rgS fun K hK => ?_
    simp (disch := omega)
    and_intros <;> try first | apply hK | omega | rfl | simp <;> omega
    refine awp_ret ?_
    show resQ _ _ _ _ _ _ ∧ _
    refine ⟨⟨.inr rfl, _, [], rfl, trivial, trivial, by simp, ?_⟩, by simp⟩
    simp
    intro h; have := (h.2.2 k hlt).1; omega
   by_cases h4 : f.length ≤ f[k]
   ·refine rgS fun K hK => ?_
    simp (disch := omega) [hlt, h3, h4]
    and_intros <;> try first | apply hK | omega | rfl | simp <;> omega
    refine condT (by simp <;> omega) ?_
    refine rgS fun K hK => ?_
    simp (disch := omega)
    and_intros <;> try first | apply hK | omega | rfl | simp <;> omega
    refine awp_ret ?_
    show resQ _ _ _ _ _ _ ∧ _
    refine ⟨⟨.inr rfl, _, [], rfl, trivial, trivial, by simp, ?_⟩, by simp⟩
    simp
    intro h; have := (h.2.2 k hlt).2; omega
   refine rgS fun K hK => ?_
   simp (disch := omega) [hlt, h3, h4]
   and_intros <;> try first | apply hK | omega | rfl | simp <;> omega
   refine condF (by simp <;> omega) ?_
   refine awp_skip ?_
   show awp _ _ _ _
   refine rgL fun K hK => ?_
   simp (disch := omega)
   (repeat' first | apply hK | apply And.intro) <;> try first | omega | rfl | (simp <;> omega)
   refine ⟨k + 1, ⟨by omega, fun i h1 h => ?_⟩, by omega, ?_⟩
   ·by_cases e : i = k
    ·subst e; omega
    ·exact hall i h1 (by omega)
   ·refine wk_list [] rfl ?_ ?_ ?_ ?_
    all_goals try simp
  ·refine awp_seq ?_
   refine condF (by simp [hlt] <;> omega) ?_
   refine awp_exit ?_
   show awp _ _ _ _
   refine rgS fun K hK => ?_
   simp (disch := omega)
   and_intros <;> try first | apply hK | omega | rfl | simp <;> omega
   refine awp_ret ?_
   refine ⟨⟨.inr rfl, _, [], rfl, trivial, trivial, by simp, ?_⟩, by simp⟩
   simp
   exact ⟨by omega, by omega, fun i h => hall i h (by omega)⟩
end Go.Proofs.YtghnmmfkckneaaaGreat.M

namespace Go.Proofs.YtghnmmfkckneaaaGreat.M
open Go.RowKit
set_option linter.unusedVariables false
set_option maxRecDepth 100000
set_option maxHeartbeats 32000000
attribute [local simp] ints rows scal wr64 wr8
set_option linter.unusedSimpArgs false

def TrN (n : Nat) (f : List Int) : Prop := f.length = n ∧ ∀ v ∈ f, 0 ≤ v ∧ v < (n : Int)
structure GnOK (n : Nat) (gs : List (List Int)) : Prop where
 n1 : 1 ≤ n
 n2 : n ≤ 32
 g1 : 1 ≤ gs.length
 g2 : gs.length ≤ 6
 tr : ∀ g ∈ gs, TrN n g
theorem GnOK.len {n : Nat} {gs : List (List Int)} (h : GnOK n gs) {g : List Int} (hg : g ∈ gs) : g.length = n := (h.tr g hg).1
theorem GnOK.lenAt {n : Nat} {gs : List (List Int)} (h : GnOK n gs) {k : Nat} (hk : k < gs.length) : gs[k].length = n := h.len (by simp)
theorem GnOK.trok {n : Nat} {gs : List (List Int)} (h : GnOK n gs) {g : List Int} (hg : g ∈ gs) : TrOK g := by
 obtain ⟨h1, h2⟩ := h.tr g hg
 have := h.n1; have := h.n2
 exact ⟨by omega, by omega, fun i hi => by rw [h1]; exact h2 _ (by simp)⟩
theorem mayGens_fn {n : Nat} {gs : List (List Int)} (h : GnOK n gs) : FnA Tryz.prog 122 [.t 0 (rows gs)] (.t 2 (.bool true)) := by
 have hg1 := h.g1
 have hg2 := h.g2
 have hn1 := h.n1
 have hn2 := h.n2
 refine fn_intro Tryz.func122 rfl (by simp [Tryz.f122]) ?_
 rw [show Tryz.f122.ntmps = 32 from rfl, show Tryz.f122.results = #[.tmp 2] from rfl]
 refine rgS fun K hK => ?_
 simp (disch := omega)
 and_intros <;> try first | apply hK | omega | rfl | simp <;> omega
 refine awp_seq ?_
 have h1 : ¬ (gs.length : Int) < 1 := by omega
 have h2 : ¬ 6 < (gs.length : Int) := by omega
 refine rgS fun K hK => ?_
 simp (disch := omega) [h1, h2]
 and_intros <;> try first | apply hK | omega | rfl | simp <;> omega
 refine condF (by simp <;> omega) ?_
 refine awp_skip ?_
 show awp _ _ _ _
 refine awp_seq ?_
 refine rgS fun K hK => ?_
 simp (disch := omega)
 and_intros <;> try first | apply hK | omega | rfl | simp <;> omega
 refine awp_block ?_
 refine awp_loop (fun k : Nat => mkS [(0, .t 0 (rows gs)), (13, .t 0 (rows gs)), (14, .t 2 (.int .i64 gs.length)), (15, .t 2 (.int .i64 k))] [] 0 32 [.any]) (fun k => k ≤ gs.length) (fun k => gs.length - k) ?_ ?_
 ·refine ⟨0, by omega, ?_⟩
  refine wk_list [] rfl ?_ ?_ ?_ ?_
  all_goals try simp
 ·intro k hk
  refine rgS fun K hK => ?_
  simp (disch := omega)
  (repeat' first | apply hK | apply And.intro) <;> try first | omega | rfl | (simp <;> omega)
  by_cases hlt : k < gs.length
  ·have hlk := h.lenAt hlt
   have hl0 : gs[0].length = n := h.lenAt (by omega)
   have h0 : 0 < gs.length := by omega
   refine awp_seq ?_
   refine condT (by simp [hlt] <;> omega) ?_
   refine awp_skip ?_
   refine awp_seq ?_
   refine awp_block ?_
   refine rgS fun K hK => ?_
   simp (disch := omega) [hlt]
   and_intros <;> try first | apply hK | omega | rfl | simp <;> omega
   refine rgS fun K hK => ?_
   simp (disch := omega) [hlt]
   (repeat' apply And.intro)
   all_goals (try omega)
   refine call_rule (caps := []) (valid11_fn gs[k] (by omega)) [] [] 2 rfl rfl rfl rfl (by kernel_rfl) (by simp) ?_ ?_ ?_ rfl ?_ ?_ (by simp) ?_
   ·simp
   ·trivial
   ·trivial
   ·trivial
   ·trivial
   simp (disch := omega) [KL_ap, KD_ap, awpL_nil, awpL_cons, awpD_nil, awpD_cons, awpOp, awpOpD, wrE, gd, aop, aBuiltin, aNil, aMin, ASt.eval, AV.ofV, dstOk, ASt.app, Eff.heap, dels, upd_b, aLoad, aStore, aField, aFieldV, aIndexAddr, aIndex, aSlice, aSliceO, aLen, aBin, iB, sB, aUn, aConv, aAlloc, aBox, aBuild, afill, avCells, AV.leaf, setR, aBuildSlice, frz, frzL, isOwn, vecOf, tsOf, aMake, srcOf, aAppend, aMkMap, aMapUpd, aLookup, oint, cut, putL, AObj.cnt, mkS, envOf_nil, envOf_cons, heapOf_nil, heapOf_cons, argS, Nat.blt_eq, callS, outV, outVs, outO, heap2, addL, delL, ints, rows, scal, wr64, wr8, List.getElem?_cons_zero, h.trok (show gs[k] ∈ gs by simp), h0, hlk, hl0]
   and_intros <;> try first | apply hK | omega | rfl | simp <;> omega
   refine condF (by simp <;> omega) ?_
   refine awp_skip ?_
   show awp _ _ _ _
   refine rgL fun K hK => ?_
   simp (disch := omega)
   (repeat' first | apply hK | apply And.intro) <;> try first | omega | rfl | (simp <;> omega)
   refine ⟨k + 1, by omega, by omega, ?_⟩
   refine wk_list [] rfl ?_ ?_ ?_ ?_
   all_goals try simp
  ·refine awp_seq ?_
   refine condF (by simp [hlt] <;> omega) ?_
   refine awp_exit ?_
   show awp _ _ _ _
   refine rgS fun K hK => ?_
   simp (disch := omega)
   and_intros <;> try first | apply hK | omega | rfl | simp <;> omega
   refine awp_ret ?_
   refine ⟨⟨.inr rfl, _, [], rfl, trivial, trivial, by simp, ?_⟩, by simp⟩
   simp
def compL (f g : List Int) : List Int := f.map fun v => g.getD v.toNat 0
theorem TrN.comp {n : Nat} {f g : List Int} (hf : TrN n f) (hg : TrN n g) : TrN n (compL f g) := by
 refine ⟨by simp [compL, hf.1], fun v hv => ?_⟩
 simp only [compL, List.mem_map] at hv
 obtain ⟨u, hu, rfl⟩ := hv
 obtain ⟨h1, h2⟩ := hf.2 u hu
 have hl := hg.1
 have : u.toNat < g.length := by omega
 rw [List.getD_eq_getElem?_getD, List.getElem?_eq_getElem this]
 exact hg.2 _ (by simp)
theorem compose_fnL {n : Nat} {f g : List Int} (hn : n ≤ 1000000) (hf : TrN n f) (hg : TrN n g) : FnA Tryz.prog 124 [.t 0 (ints f), .t 0 (ints g)] (.t 2 (ints (compL f g))) := by
 have h := compose_fn n (fun i => (f.getD i 0).toNat) n (fun i => g.getD i 0) hn (fun i hi => by
  have hl := hf.1
  have : i < f.length := by omega
  simp only [List.getD_eq_getElem?_getD, List.getElem?_eq_getElem this, Option.getD_some]
  have := hf.2 f[i] (by simp)
  omega)
 have e1 : (tab n fun i => (((f.getD i 0).toNat : Nat) : Int)) = f := by
  apply List.ext_getElem (by simp [hf.1])
  intro i h1 h2
  simp only [tab_elem, List.getD_eq_getElem?_getD, List.getElem?_eq_getElem h2, Option.getD_some]
  have := hf.2 f[i] (by simp)
  omega
 have e2 : (tab n fun i => g.getD i 0) = g := by
  apply List.ext_getElem (by simp [hg.1])
  intro i h1 h2
  simp only [tab_elem, List.getD_eq_getElem?_getD, List.getElem?_eq_getElem h2, Option.getD_some]
 have e3 : (tab n fun i => g.getD ((f.getD i 0).toNat) 0) = compL f g := by
  apply List.ext_getElem (by simp [compL, hf.1])
  intro i h1 h2
  have h3 : i < f.length := by simpa [compL] using h2
  simp [compL, tab_elem, List.getD_eq_getElem?_getD, List.getElem?_eq_getElem h3]
 rw [e1, e2, e3] at h
 exact h
def idL (n : Nat) : List Int := tab n fun i => (i : Int)
theorem idL_tr (n : Nat) : TrN n (idL n) := by
 refine ⟨by simp [idL], fun v hv => ?_⟩
 simp only [idL, tab, List.mem_map, List.mem_range] at hv
 obtain ⟨i, hi, rfl⟩ := hv
 omega
def act (n : Nat) (gs : List (List Int)) (w : List Nat) : List Int := w.foldl (fun f x => compL f (gs.getD x [])) (idL n)
theorem act_snoc (n : Nat) (gs : List (List Int)) (w : List Nat) (x : Nat) : act n gs (w ++ [x]) = compL (act n gs w) (gs.getD x []) := by simp [act]
theorem compL_id {n : Nat} {g : List Int} (hg : TrN n g) : compL (idL n) g = g := by
 apply List.ext_getElem (by simp [compL, idL, hg.1])
 intro i h1 h2
 simp [compL, idL, tab_elem, List.getD_eq_getElem?_getD, h2]
structure EnL (n : Nat) (gs els : List (List Int)) (pre last : List Int) (wds : List (List Nat)) : Prop where
 wd : WdL gs.length pre last wds
 le : els.length = wds.length
 one : els[0]? = some (idL n) ∧ wds[0]? = some []
 val : ∀ (i : Nat) w e, wds[i]? = some w → els[i]? = some e → e = act n gs w ∧ TrN n e ∧ ∀ x ∈ w, x < gs.length
 nd : ∀ (i j : Nat) e, els[i]? = some e → els[j]? = some e → i = j
theorem EnL.start {n : Nat} {gs : List (List Int)} : EnL n gs [idL n] [-1] [-1] [[]] := by
 refine ⟨⟨rfl, rfl, fun i w hw => ?_⟩, rfl, ⟨rfl, rfl⟩, fun i w e hw he => ?_, fun i j e hi hj => ?_⟩
 ·match i, hw with
  | 0, hw => simp at hw; subst hw; exact ⟨-1, -1, rfl, rfl, .inl ⟨rfl, rfl, rfl⟩⟩
 ·match i, hw, he with
  | 0, hw, he => simp at hw he; subst hw he; exact ⟨rfl, idL_tr n, fun x hx => by simp at hx⟩
 ·match i, j, hi, hj with
  | 0, 0, _, _ => rfl
theorem WdL.add {L : Nat} {pre last : List Int} {wds : List (List Nat)} (h : WdL L pre last wds) {p : Nat} {u : List Nat} {x : Nat} (hx : x < L) (hp : wds[p]? = some u) (b : Int) (hb : b = p) : WdL L (pre ++ [b]) (last ++ [(x : Int)]) (wds ++ [u ++ [x]]) := by
 have hpl := (List.getElem?_eq_some_iff.1 hp).1
 have h1 := h.lp
 have h2 := h.ll
 refine ⟨by simp [h1], by simp [h2], fun i w hw => ?_⟩
 by_cases hi : i < wds.length
 ·rw [List.getElem?_append_left hi] at hw
  obtain ⟨p', l', e1, e2, hc⟩ := h.at_ i w hw
  refine ⟨p', l', by rw [List.getElem?_append_left (by omega)]; exact e1, by rw [List.getElem?_append_left (by omega)]; exact e2, ?_⟩
  rcases hc with hc | ⟨x', a1, a2, a3 | ⟨j, v, b1, b2, b3, b4⟩⟩
  ·exact .inl hc
  ·exact .inr ⟨x', a1, a2, .inl a3⟩
  ·exact .inr ⟨x', a1, a2, .inr ⟨j, v, b1, b2, by rw [List.getElem?_append_left (by omega)]; exact b3, b4⟩⟩
 ·have hi2 : i = wds.length := by
   have := (List.getElem?_eq_some_iff.1 hw).1
   simp at this; omega
  subst hi2
  rw [List.getElem?_append_right (by omega)] at hw
  simp at hw
  subst hw
  refine ⟨b, x, by rw [← h1]; simp, by rw [← h2]; simp, .inr ⟨x, rfl, hx, .inr ⟨p, u, hb, hpl, by rw [List.getElem?_append_left hpl]; exact hp, rfl⟩⟩⟩
theorem EnL.add {n : Nat} {gs els : List (List Int)} {pre last : List Int} {wds : List (List Nat)} (h : EnL n gs els pre last wds) (hg : ∀ g ∈ gs, TrN n g) {p x : Nat} {u : List Nat} {e g : List Int} (hp : wds[p]? = some u) (he : els[p]? = some e) (hx : gs[x]? = some g) (hnew : ∀ (i : Nat) (hi : i < els.length), els[i] ≠ compL e g) (b : Int) (hb : b = p) : EnL n gs (els ++ [compL e g]) (pre ++ [b]) (last ++ [(x : Int)]) (wds ++ [u ++ [x]]) := by
 have hle := h.le
 have hxl := (List.getElem?_eq_some_iff.1 hx).1
 obtain ⟨o1, o2⟩ := h.one
 have ho1 := (List.getElem?_eq_some_iff.1 o1).1
 obtain ⟨v1, v2, v3⟩ := h.val p u e hp he
 refine ⟨h.wd.add hxl hp b hb, by simp [hle], ⟨by rw [List.getElem?_append_left ho1]; exact o1, by rw [List.getElem?_append_left (by omega)]; exact o2⟩, fun i w d hw hd => ?_, fun i j d hi hj => ?_⟩
 ·by_cases hi : i < wds.length
  ·rw [List.getElem?_append_left hi] at hw
   rw [List.getElem?_append_left (by omega)] at hd
   exact h.val i w d hw hd
  ·have hi2 : i = wds.length := by
    have := (List.getElem?_eq_some_iff.1 hw).1
    simp at this; omega
   subst hi2
   rw [List.getElem?_append_right (by omega)] at hw
   rw [List.getElem?_append_right (by omega)] at hd
   simp [hle] at hw hd
   subst hw hd
   refine ⟨by rw [act_snoc, ← v1, List.getD_eq_getElem?_getD, hx]; rfl, v2.comp (hg g (List.mem_of_getElem? hx)), fun y hy => ?_⟩
   simp at hy
   rcases hy with hy | rfl
   ·exact v3 y hy
   ·exact hxl
 ·have key : ∀ (i : Nat) d, (els ++ [compL e g])[i]? = some d → (i < els.length ∧ els[i]? = some d) ∨ (i = els.length ∧ d = compL e g) := fun i d hi => by
   by_cases hl : i < els.length
   ·rw [List.getElem?_append_left hl] at hi; exact .inl ⟨hl, hi⟩
   ·have hl2 := (List.getElem?_eq_some_iff.1 hi).1
    simp at hl2
    have : i = els.length := by omega
    subst this
    simp at hi
    exact .inr ⟨rfl, hi.symm⟩
  rcases key i d hi with ⟨a1, a2⟩ | ⟨a1, a2⟩ <;> rcases key j d hj with ⟨b1, b2⟩ | ⟨b1, b2⟩
  ·exact h.nd i j d a2 b2
  ·obtain ⟨c1, c2⟩ := List.getElem?_eq_some_iff.1 a2
   exact absurd (c2.trans b2) (hnew i a1)
  ·obtain ⟨c1, c2⟩ := List.getElem?_eq_some_iff.1 b2
   exact absurd (c2.trans a2) (hnew j b1)
  ·omega

set_option maxRecDepth 100000
set_option maxHeartbeats 32000000
attribute [local simp] ints rows scal wr64 wr8
set_option linter.unusedSimpArgs false

theorem fIdx_cases (xss : List (List Int)) (f : List Int) : (fIdx xss f = -1 ∧ ∀ i (h : i < xss.length), xss[i] ≠ f) ∨ ∃ (j : Nat) (h : j < xss.length), fIdx xss f = j ∧ xss[j] = f := by
 unfold fIdx
 cases hq : xss.findIdx? (fun x => decide (x = f)) with
 | none =>
  rw [List.findIdx?_eq_none_iff] at hq
  exact .inl ⟨rfl, fun i h => by simpa using hq xss[i] (by simp)⟩
 | some j =>
  rw [List.findIdx?_eq_some_iff_getElem] at hq
  obtain ⟨h1, h2, -⟩ := hq
  exact .inr ⟨j, h1, rfl, by simpa using h2⟩
def enT (p n : Nat) (gs els : List (List Int)) (pre last : List Int) (right : T) (rls : List T) (done : Nat) : AV := .agg [.t 2 (.int .i64 n), .t 2 (.bool true), .t p (rows gs), .t p (rows els), .t p (ints pre), .t p (ints last), .t p right, .t p (.sl 2 rls), .t 2 (.int .i64 done)]
def StG (n : Nat) (gs : List (List Int)) (res : AV) : Prop := ∃ els pre last wds rls, res = .tup [enT 2 n gs els pre last (.sl 0 []) rls 0, .t 2 (.int .i64 0)] ∧ EnL n gs els pre last wds ∧ els.length ≤ 7 ∧ rls.length ≤ 12 ∧ ∀ g ∈ gs, g ∈ els
structure StI (n : Nat) (gs els : List (List Int)) (pre last : List Int) (wds : List (List Nat)) (rls : List T) (k : Nat) : Prop where
 en : EnL n gs els pre last wds
 kl : k ≤ gs.length
 el : els.length ≤ k + 1
 rl : rls.length ≤ 2 * k
 has : ∀ i (h : i < gs.length), i < k → gs[i] ∈ els
theorem start_fn {n : Nat} {gs : List (List Int)} (h : GnOK n gs) : ∃ res, StG n gs res ∧ FnS Tryz.prog 114 [.t 0 (rows gs), .t 2 (.bool true)] [] res [] := by
 have hg1 := h.g1
 have hg2 := h.g2
 have hn1 := h.n1
 have hn2 := h.n2
 have hl0 : gs[0].length = n := h.lenAt (by omega)
 have h0 : 0 < gs.length := by omega
 refine fn_introE Tryz.func114 rfl (by simp [Tryz.f114]) ?_
 rw [show Tryz.f114.ntmps = 88 from rfl, show Tryz.f114.results = #[.cell 4 146, .tmp 5] from rfl]
 refine rgS fun K hK => ?_
 simp (disch := omega)
 and_intros <;> try first | apply hK | omega | rfl | simp <;> omega
 refine awp_seq ?_
 have h1 : ¬ (gs.length : Int) < 1 := by omega
 have h2 : ¬ 6 < (gs.length : Int) := by omega
 refine rgS fun K hK => ?_
 simp (disch := omega) [h1, h2]
 and_intros <;> try first | apply hK | omega | rfl | simp <;> omega
 refine condF (by simp <;> omega) ?_
 refine awp_skip ?_
 show awp _ _ _ _
 refine awp_seq ?_
 refine rgS fun K hK => ?_
 simp (disch := omega)
 (repeat' apply And.intro)
 all_goals (try omega)
 refine callO (mayGens_fn h) rfl rfl rfl rfl (by kernel_rfl) (by simp) ?_ ?_
 ·simp
 simp (disch := omega)
 and_intros <;> try first | apply hK | omega | rfl | simp <;> omega
 refine condF (by simp <;> omega) ?_
 refine awp_skip ?_
 show awp _ _ _ _
 refine awp_seqD (by kernel_rfl) (fun K hK => ?_)
 simp (disch := omega) [h0, hl0]
 (repeat' apply And.intro)
 all_goals (try omega)
 refine callOD (copy_fn gs (by omega) (fun x hx => by have := h.len hx; omega)) rfl rfl rfl rfl (by kernel_rfl) (by simp) ?_ ?_
 ·simp
 simp (disch := omega) [hl0]
 and_intros <;> try first | apply hK | (show chkD _ _ = true; kernel_rfl) | omega | rfl | simp <;> omega
 refine rgS fun K hK => ?_
 simp (disch := omega)
 and_intros <;> try first | apply hK | omega | rfl | simp <;> omega
 refine awp_seq ?_
 refine rgS fun K hK => ?_
 simp (disch := omega)
 and_intros <;> try first | apply hK | omega | rfl | simp <;> omega
 refine condT (by simp <;> omega) ?_
 refine rgS fun K hK => ?_
 simp (disch := omega)
 (repeat' apply And.intro)
 all_goals (try omega)
 refine callO (discrete_fn n (by omega)) rfl rfl rfl rfl (by kernel_rfl) (by simp) ?_ ?_
 ·simp
 simp (disch := omega)
 and_intros <;> try first | apply hK | omega | rfl | simp <;> omega
 refine rgL fun K hK => ?_
 simp (disch := omega)
 and_intros <;> try first | apply hK | omega | rfl | simp <;> omega
 show awp _ _ _ _
 refine awp_seq ?_
 refine rgS fun K hK => ?_
 simp (disch := omega)
 and_intros <;> try first | apply hK | omega | rfl | simp <;> omega
 refine awp_block ?_
 refine awp_loop (fun x : Nat × List (List Int) × List Int × List Int × List (List Nat) × List T => mkS [(4, .ptr 0 0 9), (6, .ptr 1 0 9), (7, .t 2 (.int .i64 0)), (42, .t 0 (rows gs)), (43, .t 2 (.int .i64 gs.length)), (44, .t 2 (.int .i64 x.1))]
   [(0, .box 146 [.any, .any, .any, .any, .any, .any, .any, .any, .any]),
    (1, .box 146 [.t 2 (.int .i64 n), .t 2 (.bool true), .t 2 (rows gs), .own 2 x.2.1.length, .own 3 x.2.2.1.length, .own 4 x.2.2.2.1.length, .t 2 (.sl 0 []), .own 5 x.2.2.2.2.2.length, .t 2 (.int .i64 0)]),
    (2, .row 22 1 2 (x.2.1.map ints)), (3, .row 3 1 2 (x.2.2.1.map (.int .i64))), (4, .row 3 1 2 (x.2.2.2.1.map (.int .i64))), (5, .row 171 2 2 x.2.2.2.2.2)] 6 88 [.any, .any])
  (fun x => StI n gs x.2.1 x.2.2.1 x.2.2.2.1 x.2.2.2.2.1 x.2.2.2.2.2 x.1) (fun x => gs.length - x.1) ?_ ?_
 ·refine ⟨(0, [idL n], [-1], [-1], [[]], []), ⟨EnL.start, by omega, by simp, by simp, fun i _ h => by omega⟩, ?_⟩
  refine wk_list [(0, some 0), (1, some 21000000), (2, some 28000000), (3, some 29000000), (4, some 30000000), (5, none)] rfl ?_ ?_ ?_ ?_
  all_goals try simp [idL]
 ·rintro ⟨k, els, pre, last, wds, rls⟩ hI
  simp only at hI
  have hen := hI.en
  have hel := hI.el
  have hkl := hI.kl
  have hrl := hI.rl
  have hle := hen.le
  have hlp := hen.wd.lp
  have hll := hen.wd.ll
  have hels : ∀ e ∈ els, e.length ≤ 1000000 := fun e he => by
   obtain ⟨i, hi, rfl⟩ := List.getElem_of_mem he
   obtain ⟨h1, h2, h3⟩ := hen.val i wds[i] els[i] (by simp) (by simp)
   have := h2.1; omega
  refine rgS fun K hK => ?_
  simp (disch := omega)
  (repeat' first | apply hK | apply And.intro) <;> try first | omega | rfl | (simp <;> omega)
  by_cases hlt : k < gs.length
  ·have hlk := h.lenAt hlt
   refine awp_seq ?_
   refine condT (by simp [hlt] <;> omega) ?_
   refine awp_skip ?_
   refine awp_seq ?_
   refine awp_block ?_
   refine rgS fun K hK => ?_
   simp (disch := omega) [hlt]
   and_intros <;> try first | apply hK | omega | rfl | simp <;> omega
   refine rgS fun K hK => ?_
   simp (disch := omega)
   (repeat' apply And.intro)
   all_goals (try omega)
   refine callO (find_fn els gs[k] (by omega) hels) rfl rfl rfl rfl (by kernel_rfl) (by simp) ?_ ?_
   ·simp
   simp (disch := omega)
   and_intros <;> try first | apply hK | omega | rfl | simp <;> omega
   refine awp_seq ?_
   have hg20 : gs.length ≤ 20 := by omega
   have hwn : wds.length ≤ 1000000 := by omega
   rcases fIdx_cases els gs[k] with ⟨e1, e2⟩ | ⟨j, hj, e1, e2⟩
   ·refine rgS fun K hK => ?_
    simp (disch := omega) [e1]
    and_intros <;> try first | apply hK | omega | rfl | simp <;> omega
    refine condF (by simp <;> omega) ?_
    refine awp_skip ?_
    show awp _ _ _ _
    refine awp_RD (by kernel_rfl) (fun K hK => ?_)
    simp (disch := omega)
    and_intros <;> try first | apply hK | (show chkD _ _ = true; kernel_rfl) | omega | rfl | simp <;> omega
    show awp _ _ _ _
    refine rgL fun K hK => ?_
    simp (disch := omega)
    (repeat' first | apply hK | apply And.intro) <;> try first | omega | rfl | (simp <;> omega)
    refine ⟨(k + 1, els ++ [gs[k]], pre ++ [0], last ++ [(k : Int)], wds ++ [[k]], rls), ?_, by simp; omega, ?_⟩
    ·have := hen.add h.tr (p := 0) (x := k) hen.one.2 hen.one.1 (List.getElem?_eq_getElem hlt) (by rw [compL_id (h.tr _ (by simp))]; exact e2) 0 rfl
     rw [compL_id (h.tr _ (by simp))] at this
     refine ⟨this, by simp; omega, by simp; omega, by simp; omega, fun i hi hik => ?_⟩
     by_cases e : i = k
     ·subst e; simp
     ·exact List.mem_append_left _ (hI.has i hi (by simp at hik; omega))
    ·refine wk_list [(0, some 0), (1, some 1), (2, some 2), (3, some 3), (4, some 4), (5, some 5)] rfl ?_ ?_ ?_ ?_
     all_goals try simp
   ·refine rgS fun K hK => ?_
    simp (disch := omega) [e1]
    and_intros <;> try first | apply hK | omega | rfl | simp <;> omega
    refine condT (by simp <;> omega) ?_
    refine awp_seqD (by kernel_rfl) (fun K hK => ?_)
    simp (disch := omega)
    (repeat' apply And.intro)
    all_goals (try omega)
    refine callOD (letter_fn k (by omega)) rfl rfl rfl rfl (by kernel_rfl) (by simp) ?_ ?_
    ·simp
    simp (disch := omega)
    (repeat' apply And.intro)
    all_goals (try omega)
    refine callOD (word_fn hen.wd hg20 hwn (i := j) (w := wds[j]) (by simp)) rfl rfl rfl rfl (by kernel_rfl) (by simp) ?_ ?_
    ·simp [enW]
    simp (disch := omega)
    and_intros <;> try first | apply hK | (show chkD _ _ = true; kernel_rfl) | omega | rfl | simp <;> omega
    refine awp_exit ?_
    show awp _ _ _ _
    refine rgL fun K hK => ?_
    simp (disch := omega)
    (repeat' first | apply hK | apply And.intro) <;> try first | omega | rfl | (simp <;> omega)
    refine ⟨(k + 1, els, pre, last, wds, rls ++ [.str (strL [k]), .str (strL wds[j])]), ?_, by simp; omega, ?_⟩
    ·refine ⟨hen, by simp; omega, by simp; omega, by simp; omega, fun i hi hik => ?_⟩
     by_cases e : i = k
     ·subst e; rw [← e2]; simp
     ·exact hI.has i hi (by simp at hik; omega)
    ·refine wk_list [(0, some 0), (1, some 1), (2, some 2), (3, some 3), (4, some 4), (5, some 5)] rfl ?_ ?_ ?_ ?_
     all_goals try simp
  ·refine awp_seq ?_
   refine condF (by simp [hlt] <;> omega) ?_
   refine awp_exit ?_
   show awp _ _ _ _
   refine rgS fun K hK => ?_
   simp (disch := omega)
   and_intros <;> try first | apply hK | omega | rfl | simp <;> omega
   refine awp_ret ?_
   refine ⟨_, ⟨els, pre, last, wds, rls, rfl, hen, by omega, by omega, fun g hg => ?_⟩, ?_⟩
   ·obtain ⟨i, hi, rfl⟩ := List.getElem_of_mem hg
    exact hI.has i hi (by omega)
   ·refine ⟨⟨.inr rfl, _, [], (by simp; rfl), trivial, trivial, by simp [enT], ?_⟩, by simp [enT]⟩
    simp [enT]

set_option maxRecDepth 100000
set_option maxHeartbeats 32000000
attribute [local simp] ints rows scal wr64 wr8
set_option linter.unusedSimpArgs false

@[simp] theorem mpTy_si : mpTy Tryz.prog 172 = some (9, 3) := by kernel_rfl
@[simp] theorem zero1_int : zero1 Tryz.prog 3 = some (.int .i64 0) := by kernel_rfl
@[simp] theorem kOK_str (s : ByteArray) : kOK Tryz.prog 9 (.str s) = true := by simp [kOK]
def mUp (x y : T) (es : List (T × T)) : List (T × T) := match fndT x es with
 | some j => es.set j (x, y)
 | none => es ++ [(x, y)]
def MsOK (es : List (T × T)) : Prop := ∀ e ∈ es, ∃ s, e.1 = .str s
theorem MsOK.nil : MsOK [] := fun e he => by simp at he
theorem MsOK.up {es : List (T × T)} (h : MsOK es) (s : ByteArray) (y : T) : MsOK (mUp (.str s) y es) := by
 intro e he
 unfold mUp at he
 split at he
 ·rcases List.mem_or_eq_of_mem_set he with he | rfl
  ·exact h e he
  ·exact ⟨s, rfl⟩
 ·rcases List.mem_append.1 he with he | he
  ·exact h e he
  ·simp at he; subst he; exact ⟨s, rfl⟩
theorem MsOK.all {es : List (T × T)} (h : MsOK es) : (es.all fun e => kOK Tryz.prog 9 e.1) = true := by
 rw [List.all_eq_true]
 intro e he
 obtain ⟨s, hs⟩ := h e he
 rw [hs]
 simp [kOK]
theorem lvs_one (xs : List T) : 1 ≤ lvs 1 xs := by unfold lvs; split <;> omega
@[simp] theorem lvs_str (p : Nat) (xs : List (List Nat)) : lvs p (xs.map fun w => T.str (strL w)) = 2 := by
 unfold lvs; rw [if_pos]; simp
theorem take_last {α : Type} {xs : List α} {k : Nat} (h : k ≤ xs.length) (x : α) : (xs.take k ++ [x])[k]? = some x := by
 rw [List.getElem?_append_right (by simp; omega)]
 simp [Nat.min_eq_left h]
def RowOK (gs els : List (List Int)) (i : Nat) (r : List Int) : Prop := ∀ (x : Nat) (j : Int), r[x]? = some j → ∃ (m : Nat) (e g : List Int), j = (m : Int) ∧ els[i]? = some e ∧ gs[x]? = some g ∧ els[m]? = some (compL e g)
theorem RowOK.more {gs els : List (List Int)} {i : Nat} {r : List Int} (h : RowOK gs els i r) (f : List Int) : RowOK gs (els ++ [f]) i r := fun x j hx => by
 obtain ⟨m, e, g, h1, h2, h3, h4⟩ := h x j hx
 exact ⟨m, e, g, h1, by rw [List.getElem?_append_left (List.getElem?_eq_some_iff.1 h2).1]; exact h2, h3, by rw [List.getElem?_append_left (List.getElem?_eq_some_iff.1 h4).1]; exact h4⟩
theorem RowOK.put {gs els : List (List Int)} {i : Nat} {r : List Int} (h : RowOK gs els i r) {m : Nat} {e g : List Int} (h2 : els[i]? = some e) (h3 : gs[r.length]? = some g) (h4 : els[m]? = some (compL e g)) : RowOK gs els i (r ++ [(m : Int)]) := fun x j hx => by
 by_cases hl : x < r.length
 ·rw [List.getElem?_append_left hl] at hx; exact h x j hx
 ·have := (List.getElem?_eq_some_iff.1 hx).1
  simp at this
  have e1 : x = r.length := by omega
  subst e1
  simp at hx
  exact ⟨m, e, g, hx.symm, h2, h3, h4⟩
structure PrI (n : Nat) (gs els : List (List Int)) (pre last : List Int) (wds : List (List Nat)) (right : List (List Int)) (d : Nat) : Prop where
 en : EnL n gs els pre last wds
 el : els.length ≤ 2000
 dl : d ≤ els.length
 rd : right.length = d
 rg : ∀ (i : Nat) r, right[i]? = some r → r.length = gs.length ∧ RowOK gs els i r
 gn : ∀ g ∈ gs, g ∈ els
theorem PrI.add {n : Nat} {gs els : List (List Int)} {pre last : List Int} {wds : List (List Nat)} {right : List (List Int)} {d : Nat} (h : PrI n gs els pre last wds right d) (hg : ∀ g ∈ gs, TrN n g) {x : Nat} (hd : d < els.length) (hdw : d < wds.length) (hx : x < gs.length) (hnew : ∀ (i : Nat) (hi : i < els.length), els[i] ≠ compL els[d] gs[x]) (hs : els.length ≠ 2000) :
  PrI n gs (els ++ [compL els[d] gs[x]]) (pre ++ [(d : Int)]) (last ++ [(x : Int)]) (wds ++ [wds[d] ++ [x]]) right d := by
 have := h.el; have := h.dl
 refine ⟨h.en.add hg (List.getElem?_eq_getElem hdw) (List.getElem?_eq_getElem hd) (List.getElem?_eq_getElem hx) hnew _ rfl, by simp; omega, by simp; omega, h.rd, fun i r hr => ?_, fun g hgg => List.mem_append_left _ (h.gn g hgg)⟩
 obtain ⟨h1, h2⟩ := h.rg i r hr
 exact ⟨h1, h2.more _⟩
theorem PrI.row {n : Nat} {gs els : List (List Int)} {pre last : List Int} {wds : List (List Nat)} {right : List (List Int)} {d : Nat} (h : PrI n gs els pre last wds right d) {r : List Int} (hd : d < els.length) (hr : r.length = gs.length) (hrow : RowOK gs els d r) : PrI n gs els pre last wds (right ++ [r]) (d + 1) := by
 have hrd := h.rd
 refine ⟨h.en, h.el, by omega, by simp [hrd], fun i s hs => ?_, h.gn⟩
 by_cases hl : i < right.length
 ·rw [List.getElem?_append_left hl] at hs; exact h.rg i s hs
 ·have := (List.getElem?_eq_some_iff.1 hs).1
  simp at this
  have e1 : i = right.length := by omega
  subst e1
  simp at hs
  subst hs
  rw [hrd]
  exact ⟨hr, hrow⟩
def PrG (n : Nat) (gs : List (List Int)) (res : AV) : Prop := res = .tup [.agg [.t 2 (.int .i64 0), .t 2 (.bool false), .t 2 (.sl 0 []), .t 2 (.sl 0 []), .t 2 (.sl 0 []), .t 2 (.sl 0 []), .t 2 (.sl 0 []), .t 2 (.sl 0 []), .t 2 (.int .i64 0)], .t 2 (.int .i64 3)] ∨
 ∃ els pre last wds right rls, res = .tup [enT 1 n gs els pre last (rows right) rls els.length, .t 2 (.int .i64 0)] ∧ PrI n gs els pre last wds right els.length
theorem process_fn {n : Nat} {gs els : List (List Int)} {pre last : List Int} {wds : List (List Nat)} {rls : List T} (h : GnOK n gs) (hP : PrI n gs els pre last wds [] 0) (hrl : rls.length ≤ 12) : ∃ res, PrG n gs res ∧ FnS Tryz.prog 115 [enT 1 n gs els pre last (.sl 0 []) rls 0, .t 2 (.int .i64 2001)] [] res [] := by
 have hg1 := h.g1
 have hg2 := h.g2
 have hn1 := h.n1
 have hn2 := h.n2
 have hen := hP.en
 have hel := hP.el
 have hle := hen.le
 have hlp := hen.wd.lp
 have hll := hen.wd.ll
 have hg20 : gs.length ≤ 20 := by omega
 have hwn : wds.length ≤ 1000000 := by omega
 refine fn_introE Tryz.func115 rfl (by simp [Tryz.f115]) ?_
 rw [show Tryz.f115.ntmps = 191 from rfl, show Tryz.f115.results = #[.cell 4 146, .tmp 5] from rfl]
 refine rgS fun K hK => ?_
 simp (disch := omega) [enT]
 and_intros <;> try first | apply hK | omega | rfl | simp <;> omega
 refine awp_seqD (by kernel_rfl) (fun K hK => ?_)
 simp (disch := omega)
 and_intros <;> try first | apply hK | (show chkD _ _ = true; kernel_rfl) | omega | rfl | simp <;> omega
 refine rgS fun K hK => ?_
 simp (disch := omega)
 and_intros <;> try first | apply hK | omega | rfl | simp <;> omega
 refine rgS fun K hK => ?_
 simp (disch := omega)
 and_intros <;> try first | apply hK | omega | rfl | simp <;> omega
 refine awp_seq ?_
 refine rgS fun K hK => ?_
 simp (disch := omega)
 and_intros <;> try first | apply hK | omega | rfl | simp <;> omega
 refine awp_block ?_
 refine awp_loop (fun y : Nat × List (T × T) => mkS [(1, .t 2 (.int .i64 2001)), (4, .ptr 0 0 9), (6, .ptr 1 0 9), (7, .own 7 0), (8, .own 8 y.1), (50, .t 2 (.int .i64 els.length)), (51, .t 2 (.int .i64 y.1))]
   [(0, .box 146 [.any, .any, .any, .any, .any, .any, .any, .any, .any]),
    (1, .box 146 [.t 2 (.int .i64 n), .t 2 (.bool true), .t 1 (rows gs), .own 2 els.length, .own 3 pre.length, .own 4 last.length, .own 5 0, .own 6 rls.length, .t 2 (.int .i64 0)]),
    (2, .row 22 1 1 (els.map ints)), (3, .row 3 1 2 (pre.map (.int .i64))), (4, .row 3 1 2 (last.map (.int .i64))), (5, .row 22 1 2 []), (6, .row 171 2 1 rls),
    (7, .map 9 3 y.2), (8, .row 9 1 2 ((wds.take y.1).map fun w => .str (strL w)))] 9 191 [.any, .any])
  (fun y => y.1 ≤ els.length ∧ MsOK y.2) (fun y => els.length - y.1) ?_ ?_
 ·refine ⟨(0, []), ⟨by omega, MsOK.nil⟩, ?_⟩
  refine wk_list [(0, some 1000000), (1, some 32000000), (2, some 9000000), (3, some 13000000), (4, some 17000000), (5, some 21000000), (6, some 25000000), (7, some 34000000), (8, none)] rfl ?_ ?_ ?_ ?_
  all_goals try simp
  exact ⟨by have := lvs_one (els.map ints); omega, by simp [lvs], by have := lvs_one rls; omega⟩
 ·rintro ⟨k, es⟩ ⟨hk, hms⟩
  simp only at hk hms
  have hall := hms.all
  refine rgS fun K hK => ?_
  simp (disch := omega)
  (repeat' first | apply hK | apply And.intro) <;> try first | omega | rfl | (simp <;> omega)
  by_cases hlt : k < els.length
  ·have hkw : k < wds.length := by omega
   refine awp_seq ?_
   refine condT (by simp [hlt] <;> omega) ?_
   refine awp_skip ?_
   refine awp_seq ?_
   refine awp_block ?_
   refine rgS fun K hK => ?_
   simp (disch := omega)
   and_intros <;> try first | apply hK | omega | rfl | simp <;> omega
   refine rgS fun K hK => ?_
   simp (disch := omega)
   (repeat' apply And.intro)
   all_goals (try omega)
   refine callO (word_fn hen.wd hg20 hwn (i := k) (w := wds[k]) (by simp)) rfl rfl rfl rfl (by kernel_rfl) (by simp) ?_ ?_
   ·simp [enW]
   simp (disch := omega)
   and_intros <;> try first | apply hK | omega | rfl | simp <;> omega
   refine rgL fun K hK => ?_
   simp (disch := omega) [KL_ap, KD_ap, awpL_nil, awpL_cons, awpD_nil, awpD_cons, awpOp, awpOpD, wrE, gd, aop, aBuiltin, aNil, aMin, ASt.eval, AV.ofV, dstOk, ASt.app, Eff.heap, dels, upd_b, aLoad, aStore, aField, aFieldV, aIndexAddr, aIndex, aSlice, aSliceO, aLen, aBin, iB, sB, aUn, aConv, aAlloc, aBox, aBuild, afill, avCells, AV.leaf, setR, aBuildSlice, frz, frzL, isOwn, vecOf, tsOf, aMake, srcOf, aAppend, aMkMap, aMapUpd, aLookup, oint, cut, putL, AObj.cnt, mkS, envOf_nil, envOf_cons, heapOf_nil, heapOf_cons, argS, Nat.blt_eq, callS, outV, outVs, outO, heap2, addL, delL, ints, rows, scal, wr64, wr8, List.getElem?_cons_zero, hall, take_last (xs := wds.map fun w => T.str (strL w)) (k := k) (by simp; omega) (T.str (strL wds[k]))]
   and_intros <;> try first | apply hK | omega | rfl | simp <;> omega
   show awp _ _ _ _
   refine rgL fun K hK => ?_
   simp (disch := omega)
   (repeat' first | apply hK | apply And.intro) <;> try first | omega | rfl | (simp <;> omega)
   refine ⟨(k + 1, mUp (.str (strL wds[k])) (.int .i64 k) es), ⟨by simp; omega, hms.up _ _⟩, by simp; omega, ?_⟩
   refine wk_list [(0, some 0), (1, some 1), (2, some 2), (3, some 3), (4, some 4), (5, some 5), (6, some 6), (7, some 7), (8, some 8)] rfl ?_ ?_ ?_ ?_
   all_goals try simp
   refine ⟨rfl, ?_⟩
   rw [List.take_succ_eq_append_getElem (by simpa using hkw)]
   simp
  ·refine awp_seq ?_
   refine condF (by simp [hlt] <;> omega) ?_
   refine awp_exit ?_
   show awp _ _ _ _
   refine awp_seq ?_
   refine awp_block ?_
   have hkw : k = wds.length := by omega
   refine awp_loop (fun y : Nat × List (List Int) × List Int × List Int × List (List Nat) × List (List Int) × List T × List (T × T) => mkS [(1, .t 2 (.int .i64 (2001 - (y.1 : Int)))), (4, .ptr 0 0 9), (6, .ptr 1 0 9), (7, .own 7 0), (8, .own 8 y.2.2.2.2.1.length)]
     [(0, .box 146 [.any, .any, .any, .any, .any, .any, .any, .any, .any]),
      (1, .box 146 [.t 2 (.int .i64 n), .t 2 (.bool true), .t 1 (rows gs), .own 2 y.2.1.length, .own 3 y.2.2.1.length, .own 4 y.2.2.2.1.length, .own 5 y.2.2.2.2.2.1.length, .own 6 y.2.2.2.2.2.2.1.length, .t 2 (.int .i64 y.1)]),
      (2, .row 22 1 1 (y.2.1.map ints)), (3, .row 3 1 2 (y.2.2.1.map (.int .i64))), (4, .row 3 1 2 (y.2.2.2.1.map (.int .i64))), (5, .row 22 1 2 (y.2.2.2.2.2.1.map ints)), (6, .row 171 2 1 y.2.2.2.2.2.2.1),
      (7, .map 9 3 y.2.2.2.2.2.2.2), (8, .row 9 1 2 (y.2.2.2.2.1.map fun w => .str (strL w)))] 9 191 [.any, .any])
    (fun y => PrI n gs y.2.1 y.2.2.1 y.2.2.2.1 y.2.2.2.2.1 y.2.2.2.2.2.1 y.1 ∧ y.2.2.2.2.2.2.1.length ≤ 12 + 12 * y.1 ∧ MsOK y.2.2.2.2.2.2.2) (fun y => 2001 - y.1) ?_ ?_
   ·refine ⟨(0, els, pre, last, wds, [], rls, es), ⟨hP, by simp; omega, hms⟩, ?_⟩
    refine wk_list [(0, some 0), (1, some 1), (2, some 2), (3, some 3), (4, some 4), (5, some 5), (6, some 6), (7, some 7), (8, some 8)] rfl ?_ ?_ ?_ ?_
    all_goals try simp [hkw]
    rw [List.take_of_length_le (by simp)]
   ·clear hms hall hkw hlt hk hP hen hel hle hlp hll hwn hrl
    rintro ⟨d, els, pre, last, wds, right, rls, es⟩ ⟨hP, hrl, hms⟩
    simp only at hP hrl hms
    have hall := hms.all
    have hen := hP.en
    have hel := hP.el
    have hdl := hP.dl
    have hrd := hP.rd
    have hle := hen.le
    have hlp := hen.wd.lp
    have hll := hen.wd.ll
    have hwn : wds.length ≤ 1000000 := by omega
    have hb : (d : Int) < 2001 := by omega
    refine awp_seq ?_
    refine awp_seq ?_
    by_cases hd : d < els.length
    ·have hdw : d < wds.length := by omega
     refine rgL fun K hK => ?_
     simp (disch := omega) [hb, hd]
     and_intros <;> try first | apply hK | omega | rfl | simp <;> omega
     show awp _ _ _ _
     refine condT (by simp <;> omega) ?_
     refine awp_skip ?_
     show awp _ _ _ _
     refine awp_seq ?_
     refine awp_block ?_
     refine rgS fun K hK => ?_
     simp (disch := omega)
     and_intros <;> try first | apply hK | omega | rfl | simp <;> omega
     refine rgS fun K hK => ?_
     simp (disch := omega) [hdw]
     and_intros <;> try first | apply hK | omega | rfl | simp <;> omega
     refine awp_seq ?_
     refine rgS fun K hK => ?_
     simp (disch := omega)
     and_intros <;> try first | apply hK | omega | rfl | simp <;> omega
     refine awp_block ?_
     refine awp_loop (fun y : Nat × List (List Int) × List Int × List Int × List (List Nat) × List T × List (T × T) × List Int => mkS [(1, .t 2 (.int .i64 (2001 - (d : Int)))), (4, .ptr 0 0 9), (6, .ptr 1 0 9), (7, .own 7 0), (8, .own 8 y.2.2.2.2.1.length), (10, .own 9 y.1), (11, .t 2 (.str (strL wds[d]))), (86, .t 2 (.int .i64 gs.length)), (87, .t 2 (.int .i64 y.1))]
       [(0, .box 146 [.any, .any, .any, .any, .any, .any, .any, .any, .any]),
        (1, .box 146 [.t 2 (.int .i64 n), .t 2 (.bool true), .t 1 (rows gs), .own 2 y.2.1.length, .own 3 y.2.2.1.length, .own 4 y.2.2.2.1.length, .own 5 right.length, .own 6 y.2.2.2.2.2.1.length, .t 2 (.int .i64 d)]),
        (2, .row 22 1 1 (y.2.1.map ints)), (3, .row 3 1 2 (y.2.2.1.map (.int .i64))), (4, .row 3 1 2 (y.2.2.2.1.map (.int .i64))), (5, .row 22 1 2 (right.map ints)), (6, .row 171 2 1 y.2.2.2.2.2.1),
        (7, .map 9 3 y.2.2.2.2.2.2.1), (8, .row 9 1 2 (y.2.2.2.2.1.map fun w => .str (strL w))), (9, .row 3 1 2 (y.2.2.2.2.2.2.2.map (.int .i64)))] 10 191 [.any, .any])
      (fun y => PrI n gs y.2.1 y.2.2.1 y.2.2.2.1 y.2.2.2.2.1 right d ∧ (∃ u, wds ++ u = y.2.2.2.2.1) ∧ y.2.2.2.2.2.1.length ≤ 12 + 12 * d + 2 * y.1 ∧ MsOK y.2.2.2.2.2.2.1 ∧ y.1 ≤ gs.length ∧ y.2.2.2.2.2.2.2.length = y.1 ∧ RowOK gs y.2.1 d y.2.2.2.2.2.2.2) (fun y => gs.length - y.1) ?_ ?_
     ·refine ⟨(0, els, pre, last, wds, rls, es, []), ⟨hP, ⟨[], by simp⟩, by simp; omega, hms, by simp, rfl, fun x j hx => by simp at hx⟩, ?_⟩
      refine wk_list [(0, some 0), (1, some 1), (2, some 2), (3, some 3), (4, some 4), (5, some 5), (6, some 6), (7, some 7), (8, some 8), (9, none)] rfl ?_ ?_ ?_ ?_
      all_goals try simp
     ·clear hP hrl hms hall hen hel hdl hrd hle hlp hll hwn hb
      rintro ⟨x, els, pre, last, wds', rls, es, rw'⟩ ⟨hP, ⟨u, hu⟩, hrl, hms, hxl, hrwl, hrow⟩
      simp only at hP hu hrl hms hxl hrwl hrow
      have hall := hms.all
      have hen := hP.en
      have hel := hP.el
      have hdl := hP.dl
      have hrd := hP.rd
      have hle := hen.le
      have hlp := hen.wd.lp
      have hll := hen.wd.ll
      have hul := congrArg List.length hu
      simp only [List.length_append] at hul
      have hd : d < els.length := by omega
      have hdw' : d < wds'.length := by omega
      have hwd : wds'[d] = wds[d] := by subst hu; rw [List.getElem_append_left hdw]
      refine rgS fun K hK => ?_
      simp (disch := omega)
      (repeat' first | apply hK | apply And.intro) <;> try first | omega | rfl | (simp <;> omega)
      by_cases hlt : x < gs.length
      ·obtain ⟨v1, v2, v3⟩ := hen.val d wds'[d] els[d] (by simp) (by simp)
       have hgx := h.tr gs[x] (by simp)
       have hwlen := hen.wd.len d wds'[d] (by simp)
       rw [hwd] at hwlen
       refine awp_seq ?_
       refine condT (by simp [hlt] <;> omega) ?_
       refine awp_skip ?_
       refine awp_seq ?_
       refine awp_block ?_
       refine rgS fun K hK => ?_
       simp (disch := omega)
       and_intros <;> try first | apply hK | omega | rfl | simp <;> omega
       refine awp_seqD (by kernel_rfl) (fun K hK => ?_)
       simp (disch := omega) [hd, hlt]
       (repeat' apply And.intro)
       all_goals (try omega)
       refine callOD (compose_fnL (n := n) (by omega) v2 hgx) rfl rfl rfl rfl (by kernel_rfl) (by simp) ?_ ?_
       ·simp
       simp (disch := omega)
       (repeat' first | apply hK | apply And.intro) <;> try first | (show chkD _ _ = true; kernel_rfl) | omega | rfl | (simp <;> omega)
       have hels : ∀ e ∈ els, e.length ≤ 1000000 := fun e he => by
        obtain ⟨i, hi, rfl⟩ := List.getElem_of_mem he
        obtain ⟨h1, h2, h3⟩ := hen.val i wds'[i] els[i] (by simp) (by simp)
        have := h2.1; omega
       refine rgS fun K hK => ?_
       simp (disch := omega)
       (repeat' apply And.intro)
       all_goals (try omega)
       refine callO (find_fn els (compL els[d] gs[x]) (by omega) hels) rfl rfl rfl rfl (by kernel_rfl) (by simp) ?_ ?_
       ·simp
       simp (disch := omega)
       and_intros <;> try first | apply hK | omega | rfl | simp <;> omega
       refine rgS fun K hK => ?_
       simp (disch := omega)
       (repeat' apply And.intro)
       all_goals (try omega)
       refine callO (letter_fn x (by omega)) rfl rfl rfl rfl (by kernel_rfl) (by simp) ?_ ?_
       ·simp
       simp (disch := omega) [strL_append]
       and_intros <;> try first | apply hK | omega | rfl | simp <;> omega
       refine awp_seq ?_
       rcases fIdx_cases els (compL els[d] gs[x]) with ⟨e1, e2⟩ | ⟨j, hj, e1, e2⟩
       ·refine rgS fun K hK => ?_
        simp (disch := omega) [e1]
        and_intros <;> try first | apply hK | omega | rfl | simp <;> omega
        refine condT (by simp <;> omega) ?_
        refine awp_seq ?_
        by_cases h2k : els.length = 2000
        ·refine rgS fun K hK => ?_
         simp (disch := omega) [h2k]
         and_intros <;> try first | apply hK | omega | rfl | simp <;> omega
         refine condT (by simp <;> omega) ?_
         refine rgS fun K hK => ?_
         simp (disch := omega)
         and_intros <;> try first | apply hK | omega | rfl | simp <;> omega
         refine awp_ret ?_
         refine ⟨_, .inl rfl, ?_⟩
         refine ⟨⟨.inr rfl, _, [], (by simp; rfl), trivial, trivial, by simp [enT], ?_⟩, by simp [enT]⟩
         simp [enT]
        ·have h2k' : ¬ (els.length : Int) = 2000 := by omega
         refine rgS fun K hK => ?_
         simp (disch := omega) [h2k']
         and_intros <;> try first | apply hK | omega | rfl | simp <;> omega
         refine condF (by simp <;> omega) ?_
         refine awp_skip ?_
         show awp _ _ _ _
         refine rgS fun K hK => ?_
         simp (disch := omega)
         and_intros <;> try first | apply hK | omega | rfl | simp <;> omega
         refine awp_seqD (by kernel_rfl) (fun K hK => ?_)
         simp (disch := omega)
         and_intros <;> try first | apply hK | (show chkD _ _ = true; kernel_rfl) | omega | rfl | simp <;> omega
         refine rgS fun K hK => ?_
         simp (disch := omega)
         and_intros <;> try first | apply hK | omega | rfl | simp <;> omega
         refine rgL fun K hK => ?_
         simp (disch := omega) [hall]
         and_intros <;> try first | apply hK | omega | rfl | simp <;> omega
         show awp _ _ _ _
         refine rgL fun K hK => ?_
         simp (disch := omega)
         and_intros <;> try first | apply hK | omega | rfl | simp <;> omega
         show awp _ _ _ _
         refine rgL fun K hK => ?_
         simp (disch := omega)
         (repeat' first | apply hK | apply And.intro) <;> try first | omega | rfl | (simp <;> omega)
         refine ⟨(x + 1, els ++ [compL els[d] gs[x]], pre ++ [(d : Int)], last ++ [(x : Int)], wds' ++ [wds'[d] ++ [x]], rls, mUp (.str (strL (wds[d] ++ [x]))) (.int .i64 els.length) es, rw' ++ [(els.length : Int)]), ⟨hP.add h.tr hd hdw' hlt e2 h2k, ⟨u ++ [wds'[d] ++ [x]], by simp [← hu]⟩, by simp; omega, hms.up _ _, by simp; omega, by simp [hrwl], (hrow.more _).put (by rw [List.getElem?_append_left hd]; exact List.getElem?_eq_getElem hd) (by rw [hrwl]; exact List.getElem?_eq_getElem hlt) (by simp)⟩, by simp; omega, ?_⟩
         refine wk_list [(0, some 0), (1, some 1), (2, some 2), (3, some 3), (4, some 4), (5, some 5), (6, some 6), (7, some 7), (8, some 8), (9, some 9)] rfl ?_ ?_ ?_ ?_
         all_goals try simp [hwd, hrwl]
         rfl
       ·refine rgS fun K hK => ?_
        simp (disch := omega) [e1]
        and_intros <;> try first | apply hK | omega | rfl | simp <;> omega
        refine condF (by simp <;> omega) ?_
        have hjw : j < wds'.length := by omega
        by_cases hu0 : (strL wds[d]).toList.isEmpty = true
        ·refine rgS fun K hK => ?_
         simp (disch := omega) [hu0]
         and_intros <;> try first | apply hK | omega | rfl | simp <;> omega
         refine condF (by simp <;> omega) ?_
         refine awp_skip ?_
         show awp _ _ _ _
         refine rgL fun K hK => ?_
         simp (disch := omega)
         and_intros <;> try first | apply hK | omega | rfl | simp <;> omega
         show awp _ _ _ _
         refine rgL fun K hK => ?_
         simp (disch := omega)
         (repeat' first | apply hK | apply And.intro) <;> try first | omega | rfl | (simp <;> omega)
         refine ⟨(x + 1, els, pre, last, wds', rls, es, rw' ++ [(j : Int)]), ⟨hP, ⟨u, hu⟩, by simp; omega, hms, by simp; omega, by simp [hrwl], hrow.put (List.getElem?_eq_getElem hd) (by rw [hrwl]; exact List.getElem?_eq_getElem hlt) (by rw [List.getElem?_eq_getElem hj, e2])⟩, by simp; omega, ?_⟩
         refine wk_list [(0, some 0), (1, some 1), (2, some 2), (3, some 3), (4, some 4), (5, some 5), (6, some 6), (7, some 7), (8, some 8), (9, some 9)] rfl ?_ ?_ ?_ ?_
         all_goals try simp [hrwl]
        have hu0 : (strL wds[d]).toList.isEmpty = false := Bool.eq_false_iff.2 hu0
        by_cases hu1 : (strL wds'[j]).toList = (strL (wds[d] ++ [x])).toList
        ·refine rgS fun K hK => ?_
         simp (disch := omega) [hu0, hu1, hjw]
         and_intros <;> try first | apply hK | omega | rfl | simp <;> omega
         refine condF (by simp <;> omega) ?_
         refine awp_skip ?_
         show awp _ _ _ _
         refine rgL fun K hK => ?_
         simp (disch := omega)
         and_intros <;> try first | apply hK | omega | rfl | simp <;> omega
         show awp _ _ _ _
         refine rgL fun K hK => ?_
         simp (disch := omega)
         (repeat' first | apply hK | apply And.intro) <;> try first | omega | rfl | (simp <;> omega)
         refine ⟨(x + 1, els, pre, last, wds', rls, es, rw' ++ [(j : Int)]), ⟨hP, ⟨u, hu⟩, by simp; omega, hms, by simp; omega, by simp [hrwl], hrow.put (List.getElem?_eq_getElem hd) (by rw [hrwl]; exact List.getElem?_eq_getElem hlt) (by rw [List.getElem?_eq_getElem hj, e2])⟩, by simp; omega, ?_⟩
         refine wk_list [(0, some 0), (1, some 1), (2, some 2), (3, some 3), (4, some 4), (5, some 5), (6, some 6), (7, some 7), (8, some 8), (9, some 9)] rfl ?_ ?_ ?_ ?_
         all_goals try simp [hrwl]
        refine rgS fun K hK => ?_
        simp (disch := omega) [hu0, hu1, hjw]
        and_intros <;> try first | apply hK | omega | rfl | simp <;> omega
        refine condT (by simp [hu1] <;> omega) ?_
        cases hf : fndT (T.str ((strL (wds[d] ++ [x])).extract 1 (wds[d].length + 1))) es with
        | none =>
         refine rgS fun K hK => ?_
         simp (disch := omega) [hall, hf]
         and_intros <;> try first | apply hK | omega | rfl | simp <;> omega
         refine rgS fun K hK => ?_
         simp (disch := omega)
         and_intros <;> try first | apply hK | omega | rfl | simp <;> omega
         refine condF (by simp <;> omega) ?_
         refine awp_skip ?_
         show awp _ _ _ _
         refine rgL fun K hK => ?_
         simp (disch := omega)
         and_intros <;> try first | apply hK | omega | rfl | simp <;> omega
         show awp _ _ _ _
         refine rgL fun K hK => ?_
         simp (disch := omega)
         (repeat' first | apply hK | apply And.intro) <;> try first | omega | rfl | (simp <;> omega)
         refine ⟨(x + 1, els, pre, last, wds', rls, es, rw' ++ [(j : Int)]), ⟨hP, ⟨u, hu⟩, by simp; omega, hms, by simp; omega, by simp [hrwl], hrow.put (List.getElem?_eq_getElem hd) (by rw [hrwl]; exact List.getElem?_eq_getElem hlt) (by rw [List.getElem?_eq_getElem hj, e2])⟩, by simp; omega, ?_⟩
         refine wk_list [(0, some 0), (1, some 1), (2, some 2), (3, some 3), (4, some 4), (5, some 5), (6, some 6), (7, some 7), (8, some 8), (9, some 9)] rfl ?_ ?_ ?_ ?_
         all_goals try simp [hrwl]
        | some jj =>
         refine rgS fun K hK => ?_
         simp (disch := omega) [hall, hf]
         and_intros <;> try first | apply hK | omega | rfl | simp <;> omega
         refine rgS fun K hK => ?_
         simp (disch := omega)
         and_intros <;> try first | apply hK | omega | rfl | simp <;> omega
         refine condT (by simp <;> omega) ?_
         refine awp_RD (by kernel_rfl) (fun K hK => ?_)
         simp (disch := omega) [hjw]
         and_intros <;> try first | apply hK | (show chkD _ _ = true; kernel_rfl) | omega | rfl | simp <;> omega
         show awp _ _ _ _
         refine rgL fun K hK => ?_
         simp (disch := omega)
         and_intros <;> try first | apply hK | omega | rfl | simp <;> omega
         show awp _ _ _ _
         refine rgL fun K hK => ?_
         simp (disch := omega)
         (repeat' first | apply hK | apply And.intro) <;> try first | omega | rfl | (simp <;> omega)
         refine ⟨(x + 1, els, pre, last, wds', rls ++ [.str (strL (wds[d] ++ [x])), .str (strL wds'[j])], es, rw' ++ [(j : Int)]), ⟨hP, ⟨u, hu⟩, by simp; omega, hms, by simp; omega, by simp [hrwl], hrow.put (List.getElem?_eq_getElem hd) (by rw [hrwl]; exact List.getElem?_eq_getElem hlt) (by rw [List.getElem?_eq_getElem hj, e2])⟩, by simp; omega, ?_⟩
         refine wk_list [(0, some 0), (1, some 1), (2, some 2), (3, some 3), (4, some 4), (5, some 5), (6, some 6), (7, some 7), (8, some 8), (9, some 9)] rfl ?_ ?_ ?_ ?_
         all_goals try simp [hrwl, lvs_one]
      ·refine awp_seq ?_
       refine condF (by simp [hlt] <;> omega) ?_
       refine awp_exit ?_
       show awp _ _ _ _
       refine rgS fun K hK => ?_
       simp (disch := omega)
       and_intros <;> try first | apply hK | omega | rfl | simp <;> omega
       refine rgL fun K hK => ?_
       simp (disch := omega)
       and_intros <;> try first | apply hK | omega | rfl | simp <;> omega
       show awp _ _ _ _
       refine rgL fun K hK => ?_
       simp (disch := omega)
       (repeat' first | apply hK | apply And.intro) <;> try first | omega | rfl | (simp <;> omega)
       refine ⟨(d + 1, els, pre, last, wds', right ++ [rw'], rls, es), ⟨hP.row hd (by omega) hrow, by simp; omega, hms⟩, by simp; omega, ?_⟩
       refine wk_list [(0, some 0), (1, some 1), (2, some 2), (3, some 3), (4, some 4), (5, some 5), (6, some 6), (7, some 7), (8, some 8)] rfl ?_ ?_ ?_ ?_
       all_goals try simp
       omega
    ·refine rgL fun K hK => ?_
     simp (disch := omega) [hb, hd]
     and_intros <;> try first | apply hK | omega | rfl | simp <;> omega
     show awp _ _ _ _
     refine condF (by simp <;> omega) ?_
     refine awp_exit ?_
     show awp _ _ _ _
     refine rgS fun K hK => ?_
     simp (disch := omega)
     and_intros <;> try first | apply hK | omega | rfl | simp <;> omega
     refine awp_ret ?_
     have hde : d = els.length := by omega
     subst hde
     refine ⟨_, .inr ⟨els, pre, last, wds, right, rls, rfl, hP⟩, ?_⟩
     refine ⟨⟨.inr rfl, _, [], (by simp; rfl), trivial, trivial, by simp [enT], ?_⟩, by simp [enT]⟩
     simp [enT]

set_option maxRecDepth 100000
set_option maxHeartbeats 32000000
attribute [local simp] ints rows scal wr64 wr8
set_option linter.unusedSimpArgs false

def BuG (n : Nat) (gs : List (List Int)) (res : AV) : Prop := res = .tup [.agg [.t 2 (.int .i64 0), .t 2 (.bool false), .t 2 (.sl 0 []), .t 2 (.sl 0 []), .t 2 (.sl 0 []), .t 2 (.sl 0 []), .t 2 (.sl 0 []), .t 2 (.sl 0 []), .t 2 (.int .i64 0)], .t 2 (.int .i64 3)] ∨
 ∃ els pre last wds right rls, res = .tup [enT 2 n gs els pre last (rows right) rls els.length, .t 2 (.int .i64 0)] ∧ PrI n gs els pre last wds right els.length
theorem build_fn {n : Nat} {gs : List (List Int)} (h : GnOK n gs) : ∃ res, BuG n gs res ∧ FnS Tryz.prog 96 [.t 0 (rows gs), .t 2 (.bool true)] [] res [] := by
 obtain ⟨res1, ⟨els, pre, last, wds, rls, rfl, hen, hl7, hrl, hall⟩, hst⟩ := start_fn h
 obtain ⟨res2, hG, hpr⟩ := process_fn (wds := wds) h ⟨hen, by omega, by omega, rfl, fun i r hr => by simp at hr, hall⟩ hrl
 have hG2 : ∃ a b, res2 = .tup [a, b] := by rcases hG with rfl | ⟨_, _, _, _, _, _, rfl, _⟩ <;> exact ⟨_, _, rfl⟩
 refine fn_introE Tryz.func96 rfl (by simp [Tryz.f96]) ?_
 rw [show Tryz.f96.ntmps = 22 from rfl, show Tryz.f96.results = #[.cell 4 146, .tmp 5] from rfl]
 refine rgS fun K hK => ?_
 simp (disch := omega)
 and_intros <;> try first | apply hK | omega | rfl | simp <;> omega
 refine rgS fun K hK => ?_
 simp (disch := omega)
 (repeat' apply And.intro)
 all_goals (try omega)
 refine callO (hst) rfl rfl rfl rfl (by kernel_rfl) (by simp) ?_ ?_
 ·simp
 simp (disch := omega) [enT]
 and_intros <;> try first | apply hK | omega | rfl | simp <;> omega
 refine awp_seq ?_
 refine rgS fun K hK => ?_
 simp (disch := omega)
 and_intros <;> try first | apply hK | omega | rfl | simp <;> omega
 refine condF (by simp <;> omega) ?_
 refine awp_skip ?_
 show awp _ _ _ _
 rcases hG with rfl | ⟨els', pre', last', wds', right', rls', rfl, hP⟩
 ·refine rgS fun K hK => ?_
  simp (disch := omega)
  (repeat' apply And.intro)
  all_goals (try omega)
  refine callO (hpr) rfl rfl rfl rfl (by kernel_rfl) (by simp) ?_ ?_
  ·simp [enT]
  simp (disch := omega) [enT]
  and_intros <;> try first | apply hK | omega | rfl | simp <;> omega
  refine awp_ret ?_
  refine ⟨_, .inl rfl, ?_⟩
  refine ⟨⟨.inr rfl, _, [], (by simp; rfl), trivial, trivial, by simp [enT], ?_⟩, by simp [enT]⟩
  simp [enT]
 ·refine rgS fun K hK => ?_
  simp (disch := omega)
  (repeat' apply And.intro)
  all_goals (try omega)
  refine callO (hpr) rfl rfl rfl rfl (by kernel_rfl) (by simp) ?_ ?_
  ·simp [enT]
  simp (disch := omega) [enT]
  and_intros <;> try first | apply hK | omega | rfl | simp <;> omega
  refine awp_ret ?_
  refine ⟨_, .inr ⟨els', pre', last', wds', right', rls', rfl, hP⟩, ?_⟩
  refine ⟨⟨.inr rfl, _, [], (by simp; rfl), trivial, trivial, by simp [enT], ?_⟩, by simp [enT]⟩
  simp [enT]
structure RtOK (L m : Nat) (right : List (List Int)) : Prop where
 len : right.length = m
 row : ∀ (i : Nat) r, right[i]? = some r → r.length = L ∧ ∀ (x : Nat) j, r[x]? = some j → ∃ k : Nat, j = (k : Int) ∧ k < m
theorem PrI.rt {n : Nat} {gs els : List (List Int)} {pre last : List Int} {wds : List (List Nat)} {right : List (List Int)} (h : PrI n gs els pre last wds right els.length) : RtOK gs.length els.length right :=
 ⟨h.rd, fun i r hr => by
  obtain ⟨h1, h2⟩ := h.rg i r hr
  refine ⟨h1, fun x j hx => ?_⟩
  obtain ⟨m, e, g, rfl, -, -, h3⟩ := h2 x j hx
  exact ⟨m, rfl, (List.getElem?_eq_some_iff.1 h3).1⟩⟩
def stepR (right : List (List Int)) (a c : Nat) : Nat := ((right.getD a []).getD c 0).toNat
def walkR (right : List (List Int)) (a : Nat) (w : List Nat) : Nat := w.foldl (stepR right) a
theorem RtOK.step {L m : Nat} {right : List (List Int)} (h : RtOK L m right) {a c : Nat} (ha : a < m) (hc : c < L) : stepR right a c < m ∧ ∃ (h1 : a < right.length) (h2 : c < right[a].length), right[a][c] = (stepR right a c : Int) := by
 have h1 : a < right.length := by rw [h.len]; exact ha
 obtain ⟨e1, e2⟩ := h.row a right[a] (by simp)
 have h2 : c < right[a].length := by omega
 obtain ⟨k, e3, e4⟩ := e2 c right[a][c] (by simp)
 have : stepR right a c = k := by simp [stepR, List.getD_eq_getElem?_getD, h1, h2, e3]
 rw [this]
 exact ⟨e4, h1, h2, e3⟩
theorem RtOK.walk {L m : Nat} {right : List (List Int)} (h : RtOK L m right) {w : List Nat} (hw : ∀ x ∈ w, x < L) {a : Nat} (ha : a < m) : walkR right a w < m := by
 induction w generalizing a with
 | nil => exact ha
 | cons x w ih =>
  show walkR right (stepR right a x) w < m
  exact ih (fun y hy => hw y (by simp [hy])) (h.step ha (hw x (by simp))).1
theorem byteAt_strL {w : List Nat} {k : Nat} (h : k < w.length) (hx : w[k] ≤ 20) : byteAt (strL w) k = 97 + (w[k] : Int) := by
 have e : (strL w)[k]? = some (UInt8.ofNat (97 + w[k])) := by
  rw [getElem?_pos _ _ (by rw [strL_size]; exact h)]
  congr 1
  show (strL w).data[k]'(by simpa [strL] using h) = _
  simp [strL]
 unfold byteAt
 rw [e]
 simp
 omega
def tblR (right : List (List Int)) (wds : List (List Nat)) (m : Nat) : List (List Int) := tab m fun x => tab m fun y => (walkR right x (wds.getD y []) : Int)
@[simp] theorem tblR_len (right : List (List Int)) (wds : List (List Nat)) (m : Nat) : (tblR right wds m).length = m := by simp [tblR]
@[simp] theorem tab_zero {α : Type} (F : Nat → α) : tab 0 F = [] := rfl
theorem sub97 (x : Nat) : (97 : Int) + (x : Int) - 97 = x := by omega
theorem walkR_succ (right : List (List Int)) (a : Nat) {w : List Nat} {k : Nat} (h : k < w.length) : walkR right a (w.take (k + 1)) = stepR right (walkR right a (w.take k)) w[k] := by
 rw [List.take_succ_eq_append_getElem h]
 unfold walkR
 rw [List.foldl_append]
 rfl
theorem table12_fn {p n L : Nat} {gs els right : List (List Int)} {pre last : List Int} {wds : List (List Nat)} {rls : List T} {done : Nat} (hR : RtOK L els.length right) (hW : WdL L pre last wds) (hle : els.length = wds.length) (hL : L ≤ 20) (hn : els.length ≤ 20000) (hlt : ∀ w ∈ wds, ∀ x ∈ w, x < L) :
  FnA Tryz.prog 97 [enT 0 n gs els pre last (rows right) rls done] (.t 2 (rows (tblR right wds els.length))) := by
 have hrl := hR.len
 refine fn_intro Tryz.func97 rfl (by simp [Tryz.f97]) ?_
 rw [show Tryz.f97.ntmps = 55 from rfl, show Tryz.f97.results = #[.tmp 2] from rfl]
 refine rgS fun K hK => ?_
 simp (disch := omega) [enT]
 and_intros <;> try first | apply hK | omega | rfl | simp <;> omega
 refine rgS fun K hK => ?_
 simp (disch := omega)
 and_intros <;> try first | apply hK | omega | rfl | simp <;> omega
 refine awp_seq ?_
 refine rgS fun K hK => ?_
 simp (disch := omega)
 and_intros <;> try first | apply hK | omega | rfl | simp <;> omega
 refine awp_block ?_
 refine awp_loop (fun x : Nat => mkS [(1, .ptr 0 0 9), (3, .own 1 x), (12, .t 2 (.int .i64 els.length)), (13, .t 2 (.int .i64 x))]
   [(0, .box 146 [.t 2 (.int .i64 n), .t 2 (.bool true), .t 0 (rows gs), .t 0 (rows els), .t 0 (ints pre), .t 0 (ints last), .t 0 (rows right), .t 0 (.sl 2 rls), .t 2 (.int .i64 done)]),
    (1, .row 22 1 2 (((tblR right wds els.length).take x).map ints))] 2 55 [.any]) (fun x => x ≤ els.length) (fun x => els.length - x) ?_ ?_
 ·refine ⟨0, by omega, ?_⟩
  refine wk_list [(0, some 0), (1, none)] rfl ?_ ?_ ?_ ?_
  all_goals try simp
 ·intro x hx
  refine rgS fun K hK => ?_
  simp (disch := omega)
  (repeat' first | apply hK | apply And.intro) <;> try first | omega | rfl | (simp <;> omega)
  by_cases hxl : x < els.length
  ·refine awp_seq ?_
   refine condT (by simp [hxl] <;> omega) ?_
   refine awp_skip ?_
   refine awp_seq ?_
   refine awp_block ?_
   refine rgS fun K hK => ?_
   simp (disch := omega)
   and_intros <;> try first | apply hK | omega | rfl | simp <;> omega
   refine rgS fun K hK => ?_
   simp (disch := omega)
   and_intros <;> try first | apply hK | omega | rfl | simp <;> omega
   refine awp_seq ?_
   refine rgS fun K hK => ?_
   simp (disch := omega)
   and_intros <;> try first | apply hK | omega | rfl | simp <;> omega
   refine awp_block ?_
   refine awp_loop (fun y : Nat => mkS [(1, .ptr 0 0 9), (3, .own 1 x), (4, .t 2 (.int .i64 x)), (5, .own 2 y), (12, .t 2 (.int .i64 els.length)), (13, .t 2 (.int .i64 x)), (18, .t 2 (.int .i64 els.length)), (19, .t 2 (.int .i64 y))]
     [(0, .box 146 [.t 2 (.int .i64 n), .t 2 (.bool true), .t 0 (rows gs), .t 0 (rows els), .t 0 (ints pre), .t 0 (ints last), .t 0 (rows right), .t 0 (.sl 2 rls), .t 2 (.int .i64 done)]),
      (1, .row 22 1 2 (((tblR right wds els.length).take x).map ints)), (2, .row 3 1 2 ((tab y fun j => (walkR right x (wds.getD j []) : Int)).map (.int .i64)))] 3 55 [.any]) (fun y => y ≤ els.length) (fun y => els.length - y) ?_ ?_
   ·refine ⟨0, by omega, ?_⟩
    refine wk_list [(0, some 0), (1, some 1), (2, none)] rfl ?_ ?_ ?_ ?_
    all_goals try simp
   ·intro y hy
    refine rgS fun K hK => ?_
    simp (disch := omega)
    (repeat' first | apply hK | apply And.intro) <;> try first | omega | rfl | (simp <;> omega)
    by_cases hyl : y < els.length
    ·have hyw : y < wds.length := by omega
     have hwn : wds.length ≤ 1000000 := by omega
     have hwl := hW.len y wds[y] (by simp)
     have hwx := hlt wds[y] (by simp)
     refine awp_seq ?_
     refine condT (by simp [hyl] <;> omega) ?_
     refine awp_skip ?_
     refine awp_seq ?_
     refine awp_block ?_
     refine rgS fun K hK => ?_
     simp (disch := omega)
     and_intros <;> try first | apply hK | omega | rfl | simp <;> omega
     refine rgS fun K hK => ?_
     simp (disch := omega)
     (repeat' apply And.intro)
     all_goals (try omega)
     refine callO (word_fn hW hL hwn (i := y) (w := wds[y]) (by simp)) rfl rfl rfl rfl (by kernel_rfl) (by simp) ?_ ?_
     ·simp [enW]
     simp (disch := omega)
     and_intros <;> try first | apply hK | omega | rfl | simp <;> omega
     refine rgS fun K hK => ?_
     simp (disch := omega)
     and_intros <;> try first | apply hK | omega | rfl | simp <;> omega
     refine awp_seq ?_
     refine rgS fun K hK => ?_
     simp (disch := omega)
     and_intros <;> try first | apply hK | omega | rfl | simp <;> omega
     refine awp_block ?_
     refine awp_loop (fun k : Nat => mkS [(1, .ptr 0 0 9), (3, .own 1 x), (4, .t 2 (.int .i64 x)), (5, .own 2 y), (7, .t 2 (.str (strL wds[y]))), (8, .t 2 (.int .i64 (walkR right x (wds[y].take k)))), (9, .t 2 (.int .i64 k)), (12, .t 2 (.int .i64 els.length)), (13, .t 2 (.int .i64 x)), (18, .t 2 (.int .i64 els.length)), (19, .t 2 (.int .i64 y))]
       [(0, .box 146 [.t 2 (.int .i64 n), .t 2 (.bool true), .t 0 (rows gs), .t 0 (rows els), .t 0 (ints pre), .t 0 (ints last), .t 0 (rows right), .t 0 (.sl 2 rls), .t 2 (.int .i64 done)]),
        (1, .row 22 1 2 (((tblR right wds els.length).take x).map ints)), (2, .row 3 1 2 ((tab y fun j => (walkR right x (wds.getD j []) : Int)).map (.int .i64)))] 3 55 [.any]) (fun k => k ≤ wds[y].length) (fun k => wds[y].length - k) ?_ ?_
     ·refine ⟨0, by omega, ?_⟩
      refine wk_list [(0, some 0), (1, some 1), (2, some 2)] rfl ?_ ?_ ?_ ?_
      all_goals try simp
      rfl
     ·intro k hk
      refine awp_seq ?_
      refine rgS fun K hK => ?_
      simp (disch := omega)
      (repeat' first | apply hK | apply And.intro) <;> try first | omega | rfl | (simp <;> omega)
      by_cases hkl : k < wds[y].length
      ·have hcx := hwx wds[y][k] (by simp)
       have hwk : walkR right x (wds[y].take k) < els.length := hR.walk (fun z hz => hwx z (List.mem_of_mem_take hz)) hxl
       obtain ⟨s1, s2, s3, s4⟩ := hR.step hwk hcx
       refine condT (by simp [hkl] <;> omega) ?_
       refine awp_skip ?_
       show awp _ _ _ _
       refine awp_seq ?_
       refine awp_block ?_
       refine awp_RD (by kernel_rfl) (fun K hK => ?_)
       simp (disch := omega) [hkl, byteAt_strL hkl (by omega), sub97, s2, s3, s4]
       and_intros <;> try first | apply hK | (show chkD _ _ = true; kernel_rfl) | omega | rfl | simp <;> omega
       show awp _ _ _ _
       refine rgL fun K hK => ?_
       simp (disch := omega)
       (repeat' first | apply hK | apply And.intro) <;> try first | omega | rfl | (simp <;> omega)
       refine ⟨k + 1, by omega, by omega, ?_⟩
       refine wk_list [(0, some 0), (1, some 1), (2, some 2)] rfl ?_ ?_ ?_ ?_
       all_goals try simp [walkR_succ _ _ hkl]
      ·have hke : k = wds[y].length := by omega
       subst hke
       refine condF (by simp <;> omega) ?_
       refine awp_exit ?_
       show awp _ _ _ _
       refine rgL fun K hK => ?_
       simp (disch := omega)
       and_intros <;> try first | apply hK | omega | rfl | simp <;> omega
       show awp _ _ _ _
       refine rgL fun K hK => ?_
       simp (disch := omega)
       (repeat' first | apply hK | apply And.intro) <;> try first | omega | rfl | (simp <;> omega)
       refine ⟨y + 1, by omega, by omega, ?_⟩
       refine wk_list [(0, some 0), (1, some 1), (2, some 2)] rfl ?_ ?_ ?_ ?_
       all_goals try simp
       rw [tab_succ]
       simp [List.getD_eq_getElem?_getD, hyw]
    ·have hye : y = els.length := by omega
     subst hye
     refine awp_seq ?_
     refine condF (by simp <;> omega) ?_
     refine awp_exit ?_
     show awp _ _ _ _
     refine rgL fun K hK => ?_
     simp (disch := omega)
     and_intros <;> try first | apply hK | omega | rfl | simp <;> omega
     show awp _ _ _ _
     refine rgL fun K hK => ?_
     simp (disch := omega)
     (repeat' first | apply hK | apply And.intro) <;> try first | omega | rfl | (simp <;> omega)
     refine ⟨x + 1, by omega, by omega, ?_⟩
     refine wk_list [(0, some 0), (1, some 1)] rfl ?_ ?_ ?_ ?_
     all_goals try simp
     rw [List.take_succ_eq_append_getElem (by simpa [tblR] using hxl)]
     simp [tblR]
  ·have hxe : x = els.length := by omega
   subst hxe
   refine awp_seq ?_
   refine condF (by simp <;> omega) ?_
   refine awp_exit ?_
   show awp _ _ _ _
   refine rgS fun K hK => ?_
   simp (disch := omega)
   and_intros <;> try first | apply hK | omega | rfl | simp <;> omega
   refine awp_ret ?_
   refine ⟨⟨.inr rfl, _, [], rfl, trivial, trivial, by simp [enT], ?_⟩, by simp [enT]⟩
   simp [enT]
   rw [List.take_of_length_le (by simp)]

set_option maxRecDepth 100000
set_option maxHeartbeats 32000000
attribute [local simp] ints rows scal wr64 wr8
set_option linter.unusedSimpArgs false

def bools (bs : List Bool) : T := .sl 1 (bs.map .bool)
@[simp] theorem lvs_bools (p : Nat) (bs : List Bool) : lvs p (bs.map T.bool) = 2 := by
 unfold lvs; rw [if_pos]; simp
def modI (x n : Int) : Int := if n < 1 then 0 else x.emod n
theorem modI_in {x n : Int} (h : 1 ≤ n) : 0 ≤ modI x n ∧ modI x n < n := by
 unfold modI
 rw [if_neg (by omega)]
 exact ⟨Int.emod_nonneg _ (by omega), Int.emod_lt_of_pos _ (by omega)⟩
theorem modI_tmod {x n : Int} (h : 1 ≤ n) : (x.tmod n < 0 → x.tmod n + n = modI x n) ∧ (¬ x.tmod n < 0 → x.tmod n = modI x n) := by
 have e : modI x n = x % n := by unfold modI; rw [if_neg (by omega)]; rfl
 rw [e]
 have h3 := Int.emod_nonneg x (show n ≠ 0 by omega)
 have h4 := Int.emod_lt_of_pos x (show 0 < n by omega)
 have h5 : x.tmod n = x % n - if 0 ≤ x ∨ n ∣ x then 0 else n.natAbs := Int.tmod_eq_emod
 by_cases hc : 0 ≤ x ∨ n ∣ x
 ·rw [if_pos hc] at h5
  constructor <;> intro <;> omega
 ·rw [if_neg hc] at h5
  constructor <;> intro <;> omega
theorem mod_fn (x n : Int) (hn : n ≤ 1000000) : FnA Tryz.prog 21 [.t 2 (.int .i64 x), .t 2 (.int .i64 n)] (.t 2 (.int .i64 (modI x n))) := by
 refine fn_intro Tryz.func21 rfl (by simp [Tryz.f21]) ?_
 rw [show Tryz.f21.ntmps = 16 from rfl, show Tryz.f21.results = #[.tmp 4] from rfl]
 refine rgS fun K hK => ?_
 simp (disch := omega)
 and_intros <;> try first | apply hK | omega | rfl | simp <;> omega
 refine awp_seq ?_
 refine rgS fun K hK => ?_
 simp (disch := omega)
 (repeat' first | apply hK | apply And.intro) <;> try first | omega | rfl | (simp <;> omega)
 by_cases h1 : n < 1
 ·refine condT (by simp [h1] <;> omega) ?_
  refine rgS fun K hK => ?_
  simp (disch := omega)
  and_intros <;> try first | apply hK | omega | rfl | simp <;> omega
  refine awp_ret ?_
  refine ⟨⟨.inr rfl, _, [], rfl, trivial, trivial, by simp, ?_⟩, by simp⟩
  simp
  simp [modI, h1]
 ·have hmm := modI_tmod (x := x) (show 1 ≤ n by omega)
  have hb1 := Int.tmod_lt_of_pos x (show 0 < n by omega)
  have hb2 : -n < x.tmod n := Int.lt_tmod_of_pos x (show 0 < n by omega)
  have hn0 : ¬ n = 0 := by omega
  refine condF (by simp [h1] <;> omega) ?_
  refine awp_skip ?_
  show awp _ _ _ _
  refine rgS fun K hK => ?_
  simp (disch := omega) [hn0]
  and_intros <;> try first | apply hK | omega | rfl | simp <;> omega
  refine awp_seq ?_
  refine rgS fun K hK => ?_
  simp (disch := omega)
  (repeat' first | apply hK | apply And.intro) <;> try first | omega | rfl | (simp <;> omega)
  by_cases h2 : x.tmod n < 0
  ·have hmm := hmm.1 h2
   refine condT (by simp [h2] <;> omega) ?_
   refine rgL fun K hK => ?_
   simp (disch := omega)
   and_intros <;> try first | apply hK | omega | rfl | simp <;> omega
   show awp _ _ _ _
   refine rgS fun K hK => ?_
   simp (disch := omega)
   and_intros <;> try first | apply hK | omega | rfl | simp <;> omega
   refine awp_ret ?_
   refine ⟨⟨.inr rfl, _, [], rfl, trivial, trivial, by simp, ?_⟩, by simp⟩
   simp
   exact hmm
  ·have hmm := hmm.2 h2
   refine condF (by simp [h2] <;> omega) ?_
   refine awp_skip ?_
   show awp _ _ _ _
   refine rgS fun K hK => ?_
   simp (disch := omega)
   and_intros <;> try first | apply hK | omega | rfl | simp <;> omega
   refine awp_ret ?_
   refine ⟨⟨.inr rfl, _, [], rfl, trivial, trivial, by simp, ?_⟩, by simp⟩
   simp
   exact hmm
def tpO (p : Nat) (xs : List Int) (a : Nat) : AObj := .box 59 [.t p (ints xs), .t 2 (.int .i64 a)]
theorem new_fn (xs : List Int) : FnS Tryz.prog 6 [.t 1 (ints xs)] [] (.ptr 0 0 2) [tpO 1 (xs.take 80) 0] := by
 refine fn_intro Tryz.func6 rfl (by simp [Tryz.f6]) ?_
 rw [show Tryz.f6.ntmps = 11 from rfl, show Tryz.f6.results = #[.tmp 2] from rfl]
 refine rgS fun K hK => ?_
 simp (disch := omega)
 and_intros <;> try first | apply hK | omega | rfl | simp <;> omega
 refine awp_seq ?_
 refine rgS fun K hK => ?_
 simp (disch := omega)
 (repeat' first | apply hK | apply And.intro) <;> try first | omega | rfl | (simp <;> omega)
 by_cases h : 80 < (xs.length : Int)
 ·refine condT (by simp [h] <;> omega) ?_
  refine rgL fun K hK => ?_
  simp (disch := omega)
  and_intros <;> try first | apply hK | omega | rfl | simp <;> omega
  show awp _ _ _ _
  refine rgS fun K hK => ?_
  simp (disch := omega)
  and_intros <;> try first | apply hK | omega | rfl | simp <;> omega
  refine awp_ret ?_
  refine ⟨⟨.inr rfl, _, [(0, some 9000000)], (by first | rfl | (simp [tpO]; rfl)), ?_, ?_, ?_, ?_⟩, ?_⟩
  all_goals try simp [tpO]
 ·refine condF (by simp [h] <;> omega) ?_
  refine awp_skip ?_
  show awp _ _ _ _
  refine rgS fun K hK => ?_
  simp (disch := omega)
  and_intros <;> try first | apply hK | omega | rfl | simp <;> omega
  refine awp_ret ?_
  refine ⟨⟨.inr rfl, _, [(0, some 6000000)], (by first | rfl | (simp [tpO]; rfl)), ?_, ?_, ?_, ?_⟩, ?_⟩
  all_goals try simp [tpO]
  rw [List.take_of_length_le (by simp; omega)]

theorem next_fn (xs : List Int) (a : Nat) (n : Int) (ha : a ≤ xs.length) (hl : xs.length ≤ 80) (hn : n ≤ 1000000) : ∃ v b : Nat, (1 ≤ n → (v : Int) < n) ∧ b ≤ xs.length ∧ FnS Tryz.prog 13 [.ptr 0 0 2, .t 2 (.int .i64 n)] [tpO 1 xs a] (.t 2 (.int .i64 v)) [tpO 1 xs b] := by
 by_cases hlt : a < xs.length
 case neg =>
  refine ⟨0, a, by omega, ha, ?_⟩
  refine fn_intro Tryz.func13 rfl (by simp [Tryz.f13]) ?_
  rw [show Tryz.f13.ntmps = 35 from rfl, show Tryz.f13.results = #[.tmp 4] from rfl]
  refine rgS fun K hK => ?_
  simp (disch := omega)
  and_intros <;> try first | apply hK | omega | rfl | simp <;> omega
  refine awp_seq ?_
  refine awp_seqD (by kernel_rfl) (fun K hK => ?_)
  simp (disch := omega) [tpO]
  and_intros <;> try first | apply hK | (show chkD _ _ = true; kernel_rfl) | omega | rfl | simp <;> omega
  refine condT (by simp <;> omega) ?_
  refine rgS fun K hK => ?_
  simp (disch := omega)
  and_intros <;> try first | apply hK | omega | rfl | simp <;> omega
  refine awp_ret ?_
  refine ⟨⟨.inr rfl, _, [(0, some 0)], (by first | rfl | (simp [tpO]; rfl)), ?_, ?_, ?_, ?_⟩, ?_⟩
  all_goals try simp [tpO]
 refine ⟨(modI xs[a] n).toNat, a + 1, ?_, by omega, ?_⟩
 ·intro h1
  have := modI_in (x := xs[a]) h1
  omega
 have hmi : ((modI xs[a] n).toNat : Int) = modI xs[a] n := by
  by_cases h1 : 1 ≤ n
  ·have := modI_in (x := xs[a]) h1
   omega
  ·simp [modI, show n < 1 by omega]
 rw [hmi]
 refine fn_intro Tryz.func13 rfl (by simp [Tryz.f13]) ?_
 rw [show Tryz.f13.ntmps = 35 from rfl, show Tryz.f13.results = #[.tmp 4] from rfl]
 refine rgS fun K hK => ?_
 simp (disch := omega)
 and_intros <;> try first | apply hK | omega | rfl | simp <;> omega
 refine awp_seq ?_
 refine awp_seqD (by kernel_rfl) (fun K hK => ?_)
 simp (disch := omega) [tpO]
 and_intros <;> try first | apply hK | (show chkD _ _ = true; kernel_rfl) | omega | rfl | simp <;> omega
 refine condF (by simp <;> omega) ?_
 refine awp_skip ?_
 show awp _ _ _ _
 refine rgS fun K hK => ?_
 simp (disch := omega)
 and_intros <;> try first | apply hK | omega | rfl | simp <;> omega
 refine awp_seqD (by kernel_rfl) (fun K hK => ?_)
 simp (disch := omega) [hlt]
 (repeat' apply And.intro)
 all_goals (try omega)
 refine callOD (mod_fn xs[a] n hn) rfl rfl rfl rfl (by kernel_rfl) (by simp) ?_ ?_
 ·simp
 simp (disch := omega)
 and_intros <;> try first | apply hK | (show chkD _ _ = true; kernel_rfl) | omega | rfl | simp <;> omega
 refine awp_ret ?_
 refine ⟨⟨.inr rfl, _, [(0, some 0)], (by first | rfl | (simp [tpO]; rfl)), ?_, ?_, ?_, ?_⟩, ?_⟩
 all_goals try simp [tpO]
theorem beq_gt {a b : Nat} (h : b < a) : (a == b) = false := by simp; omega
theorem beq_lt {a b : Nat} (h : a < b) : (a == b) = false := by simp; omega
theorem eq_lt {a b : Nat} (h : a < b) : (a = b) = False := by simp; omega
theorem eq_gt {a b : Nat} (h : b < a) : (a = b) = False := by simp; omega
theorem lt_t {a b : Nat} (h : a < b) : (a < b) = True := by simp [h]
theorem wkPs_snoc {H : Nat → Option AObj} {m : Nat → Option Nat} {un : Nat → Prop} {nx : Nat} : ∀ {us vs : List AV} {a b : AV}, wkPs H m un nx (us ++ [a]) (vs ++ [b]) = (wkPs H m un nx us vs ∧ wkP H m un nx a b)
 | [], [], a, b => by simp
 | x :: us, y :: vs, a, b => by simp only [List.cons_append, wkPs, wkPs_snoc (us := us) (vs := vs), and_assoc]
 | [], y :: vs, a, b => by
  cases vs <;> simp
 | x :: us, [], a, b => by
  cases us <;> simp
theorem wkPs_tab {H : Nat → Option AObj} {m : Nat → Option Nat} {un : Nat → Prop} {nx n : Nat} {f g : Nat → AV} : wkPs H m un nx (tab n f) (tab n g) = ∀ j, j < n → wkP H m un nx (f j) (g j) := by
 apply propext
 constructor
 ·intro h j hj
  obtain ⟨a, ha, hab⟩ := (wkPs_get h).2 j (g j) (tab_get _ hj)
  rw [tab_get _ hj] at ha
  injection ha with ha
  rw [ha]; exact hab
 ·intro h
  refine wkPs_of (by simp) (fun i a b ha hb => ?_)
  have hi := (List.getElem?_eq_some_iff.1 ha).1
  rw [tab_len] at hi
  rw [tab_get _ hi] at ha hb
  injection ha with ha
  injection hb with hb
  rw [← ha, ← hb]
  exact h i hi
structure DfOK (L n s : Nat) (bs : List Bool) (nx : Nat → List Int) : Prop where
 n1 : 1 ≤ n
 st : s < n
 bl : bs.length = n
 row : ∀ q, q < n → (nx q).length = L ∧ ∀ v ∈ nx q, 0 ≤ v ∧ v < (n : Int)
def dfH (p L n b : Nat) (xs : List Int) (bs : List Bool) : List AObj := [tpO p xs b, .row 4 1 2 (bs.map .bool), .vec 22 (tab n fun q => .own (3 + q) L)]
theorem fn_introGE {P : Program} {f : FuncId} {fn : Func} {c : Code} {args : List AV} {H : List AObj} {G : AV → List AObj → Prop} (hf : P.funcs[f]? = some fn) (hb : fn.body = some c) (hle : args.length ≤ fn.ntmps) (h : awp P c (fun e σ => (∃ res H', G res H' ∧ ∃ m un, resG P fn.results.toList res H' m un e σ) ∧ σ.gh = ghA args) (argS args H fn.ntmps)) : ∃ res H', G res H' ∧ FnS P f args H res H' := by
 obtain ⟨e, σ', h1, ⟨res, H', hG, hr⟩, hgh⟩ := h
 exact ⟨res, H', hG, fn_introG hf hb hle ⟨e, σ', h1, hr, hgh⟩⟩
def DfG (p L most : Nat) (xs : List Int) (res : AV) (H' : List AObj) : Prop := ∃ n s b bs nx, n ≤ most ∧ b ≤ xs.length ∧ DfOK L n s bs nx ∧ res = .agg [.t 2 (.int .i64 L), .t 2 (.int .i64 s), .own 1 n, .own 2 n] ∧ H' = dfH p L n b xs bs ++ tab n fun q => .row 3 1 2 ((nx q).map (.int .i64))
theorem dfa_fn (xs : List Int) (a L most : Nat) (ha : a ≤ xs.length) (hl : xs.length ≤ 80) (hL : 1 ≤ L) (hL2 : L ≤ 6) (hm : 1 ≤ most) (hm2 : most ≤ 100) : ∃ res H', DfG 1 L most xs res H' ∧
  FnS Tryz.prog 67 [.ptr 0 0 2, .t 2 (.int .i64 L), .t 2 (.int .i64 most)] [tpO 1 xs a] res H' := by
 obtain ⟨v1, a1, hv1, ha1, hN1⟩ := next_fn xs a most ha hl (by omega)
 have hv1 := hv1 (by omega)
 obtain ⟨n, hn⟩ : ∃ n, n = 1 + v1 := ⟨_, rfl⟩
 obtain ⟨s, a2, hv2, ha2, hN2⟩ := next_fn xs a1 n ha1 hl (by omega)
 have hv2 := hv2 (by omega)
 have hnn : (1 : Int) + v1 = n := by omega
 have hnm : n ≤ 100 := by omega
 refine fn_introGE Tryz.func67 rfl (by simp [Tryz.f67]) ?_
 rw [show Tryz.f67.ntmps = 53 from rfl, show Tryz.f67.results = #[.cell 6 67] from rfl]
 refine rgS fun K hK => ?_
 simp (disch := omega)
 and_intros <;> try first | apply hK | omega | rfl | simp <;> omega
 refine rgS fun K hK => ?_
 simp (disch := omega)
 and_intros <;> try first | apply hK | omega | rfl | simp <;> omega
 refine rgS fun K hK => ?_
 simp (disch := omega)
 (repeat' apply And.intro)
 all_goals (try omega)
 refine call_rule (caps := []) (hN1) [0] [0] 1 rfl rfl rfl rfl (by kernel_rfl) (by simp) ?_ ?_ (by simp) rfl (by simp) ⟨.inr ⟨rfl, 0, _, _, _, _, _, rfl, rfl, rfl, rfl, rfl⟩, trivial⟩ (by simp [tpO]) ?_
 ·simp [tpO]
 ·simp [tpO]
 simp (disch := omega) [hnn]
 and_intros <;> try first | apply hK | omega | rfl | simp <;> omega
 refine rgS fun K hK => ?_
 simp (disch := omega)
 (repeat' apply And.intro)
 all_goals (try omega)
 refine call_rule (caps := []) (hN2) [0] [0] 1 rfl rfl rfl rfl (by kernel_rfl) (by simp) ?_ ?_ (by simp) rfl (by simp) ⟨.inr ⟨rfl, 0, _, _, _, _, _, rfl, rfl, rfl, rfl, rfl⟩, trivial⟩ (by simp [tpO]) ?_
 ·simp [tpO]
 ·simp [tpO]
 simp (disch := omega)
 and_intros <;> try first | apply hK | omega | rfl | simp <;> omega
 refine awp_seq ?_
 refine rgS fun K hK => ?_
 simp (disch := omega)
 and_intros <;> try first | apply hK | omega | rfl | simp <;> omega
 refine awp_block ?_
 refine awp_loop (fun y : Nat × Nat × List Bool × (Nat → List Int) => mkF [(0, .ptr 0 0 2), (1, .t 2 (.int .i64 L)), (6, .ptr 1 0 4), (7, .ptr 2 0 4), (8, .t 2 (.int .i64 n)), (9, .t 2 (.int .i64 y.1))]
   [(0, tpO 1 xs y.2.1), (1, .box 67 [.any, .any, .any, .any]), (2, .box 67 [.t 2 (.int .i64 L), .t 2 (.int .i64 s), .own 3 y.1, .own 4 y.1]), (3, .row 4 1 2 (y.2.2.1.map .bool)), (4, .vec 22 (tab y.1 fun j => .own (100 + j) L))]
   100 y.1 (fun j => .row 3 1 2 ((y.2.2.2 j).map (.int .i64))) 1000 53 [.ptr 0 0 2, .any, .any])
  (fun y => y.1 ≤ n ∧ y.2.1 ≤ xs.length ∧ y.2.2.1.length = y.1 ∧ ∀ q, q < y.1 → (y.2.2.2 q).length = L ∧ ∀ v ∈ y.2.2.2 q, 0 ≤ v ∧ v < (n : Int)) (fun y => n - y.1) ?_ ?_
 ·refine ⟨(0, a2, [], fun _ => []), ⟨by simp, ha2, rfl, fun q hq => by simp at hq⟩, ?_⟩
  refine wk_fam [(0, some 0), (1, some 1), (2, some 3000001), (3, none), (4, none)] (fun j => j) rfl ?_ ?_ ?_ ?_ ?_ ?_
  all_goals try simp +contextual (disch := omega) [beq_gt, beq_lt, eq_lt, eq_gt, lt_t, List.getElem?_cons_succ, Option.getD_some, callF, ints, scal, tpO, wkPs_snoc, wkPs_tab, tpO]
  all_goals (try omega)
 ·rintro ⟨q, a3, bs, nx⟩ ⟨hq, ha3, hbl, hrow⟩
  simp only at hq ha3 hbl hrow
  refine awp_seq ?_
  refine rgS fun K hK => ?_
  simp (disch := omega)
  (repeat' first | apply hK | apply And.intro) <;> try first | omega | rfl | (simp <;> omega)
  by_cases hqn : q < n
  ·refine condT (by simp [hqn] <;> omega) ?_
   refine awp_skip ?_
   show awp _ _ _ _
   refine awp_seq ?_
   refine awp_block ?_
   obtain ⟨v4, a4, hv4, ha4, hN4⟩ := next_fn xs a3 2 ha3 hl (by omega)
   refine awp_seqD (by kernel_rfl) (fun K hK => ?_)
   simp (disch := omega) [famH]
   (repeat' apply And.intro)
   all_goals (try omega)
   refine call_ruleD (caps := []) (hN4) [0] [0] 1 rfl rfl rfl rfl (by kernel_rfl) (by simp) ?_ ?_ (by simp) rfl (by simp) ⟨.inr ⟨rfl, 0, _, _, _, _, _, rfl, rfl, rfl, rfl, rfl⟩, trivial⟩ (by simp [tpO]) ?_
   ·simp [tpO, famH]
   ·simp [tpO, famH]
   simp (disch := omega) [famH, tpO]
   and_intros <;> try first | apply hK | (show chkD _ _ = true; kernel_rfl) | omega | rfl | simp <;> omega
   refine rgS fun K hK => ?_
   simp (disch := omega)
   and_intros <;> try first | apply hK | omega | rfl | simp <;> omega
   refine awp_seq ?_
   refine rgS fun K hK => ?_
   simp (disch := omega)
   and_intros <;> try first | apply hK | omega | rfl | simp <;> omega
   refine awp_block ?_
   refine awp_loop (fun y : Nat × Nat × List Int => mkF [(0, .ptr 0 0 2), (1, .t 2 (.int .i64 L)), (6, .ptr 1 0 4), (7, .ptr 2 0 4), (8, .t 2 (.int .i64 n)), (9, .t 2 (.int .i64 q)), (10, .own 5 y.1), (11, .t 2 (.int .i64 y.1))]
     [(0, tpO 1 xs y.2.1), (1, .box 67 [.any, .any, .any, .any]), (2, .box 67 [.t 2 (.int .i64 L), .t 2 (.int .i64 s), .own 3 (q + 1), .own 4 q]), (3, .row 4 1 2 ((bs ++ [(v4 : Int) == 1]).map .bool)), (4, .vec 22 (tab q fun j => .own (100 + j) L)), (5, .row 3 1 2 (y.2.2.map (.int .i64)))]
     100 q (fun j => .row 3 1 2 ((nx j).map (.int .i64))) 1000 53 [.ptr 0 0 2, .any, .any])
    (fun y => y.1 ≤ L ∧ y.2.1 ≤ xs.length ∧ y.2.2.length = y.1 ∧ ∀ v ∈ y.2.2, 0 ≤ v ∧ v < (n : Int)) (fun y => L - y.1) ?_ ?_
   ·refine ⟨(0, a4, []), ⟨by simp, ha4, rfl, fun v hv => by simp at hv⟩, ?_⟩
    refine wk_fam [(0, some 0), (1, some 1), (2, some 2), (3, some 3), (4, some 4), (5, none)] (fun j => 100 + j) rfl ?_ ?_ ?_ ?_ ?_ ?_
    all_goals try simp +contextual (disch := omega) [beq_gt, beq_lt, eq_lt, eq_gt, lt_t, List.getElem?_cons_succ, Option.getD_some, callF, ints, scal, tpO, wkPs_snoc, wkPs_tab, hbl]
    all_goals (try omega)
   ·rintro ⟨x, a5, r⟩ ⟨hx, ha5, hrl, hrv⟩
    simp only at hx ha5 hrl hrv
    refine awp_seq ?_
    refine rgS fun K hK => ?_
    simp (disch := omega)
    (repeat' first | apply hK | apply And.intro) <;> try first | omega | rfl | (simp <;> omega)
    by_cases hxl : x < L
    ·refine condT (by simp [hxl] <;> omega) ?_
     refine awp_skip ?_
     show awp _ _ _ _
     refine awp_seq ?_
     refine awp_block ?_
     obtain ⟨v6, a6, hv6, ha6, hN6⟩ := next_fn xs a5 n ha5 hl (by omega)
     have hv6 := hv6 (by omega)
     refine rgL fun K hK => ?_
     simp (disch := omega) [famH]
     (repeat' apply And.intro)
     all_goals (try omega)
     refine call_rule (caps := []) (hN6) [0] [0] 1 rfl rfl rfl rfl (by kernel_rfl) (by simp) ?_ ?_ (by simp) rfl (by simp) ⟨.inr ⟨rfl, 0, _, _, _, _, _, rfl, rfl, rfl, rfl, rfl⟩, trivial⟩ (by simp [tpO]) ?_
     ·simp [tpO, famH]
     ·simp [tpO, famH]
     simp (disch := omega) [famH, tpO]
     and_intros <;> try first | apply hK | omega | rfl | simp <;> omega
     show awp _ _ _ _
     refine rgL fun K hK => ?_
     simp (disch := omega)
     (repeat' first | apply hK | apply And.intro) <;> try first | omega | rfl | (simp <;> omega)
     refine ⟨(x + 1, a6, r ++ [(v6 : Int)]), ⟨by omega, ha6, by simp [hrl], fun v hv => ?_⟩, by simp; omega, ?_⟩
     ·rcases List.mem_append.1 hv with hv | hv
      ·exact hrv v hv
      ·simp at hv; omega
     ·refine wk_fam [(0, some 0), (1, some 1), (2, some 2), (3, some 3), (4, some 4), (5, some 5)] (fun j => 100 + j) rfl ?_ ?_ ?_ ?_ ?_ ?_
      all_goals try simp +contextual (disch := omega) [beq_gt, beq_lt, eq_lt, eq_gt, lt_t, List.getElem?_cons_succ, Option.getD_some, callF, ints, scal, tpO, wkPs_snoc, wkPs_tab, hbl, hrl]
      all_goals (try omega)
    ·have hxe : x = L := by omega
     subst hxe
     refine condF (by simp <;> omega) ?_
     refine awp_exit ?_
     show awp _ _ _ _
     refine rgL fun K hK => ?_
     simp (disch := omega) [famH]
     and_intros <;> try first | apply hK | omega | rfl | simp <;> omega
     show awp _ _ _ _
     refine rgL fun K hK => ?_
     simp (disch := omega)
     (repeat' first | apply hK | apply And.intro) <;> try first | omega | rfl | (simp <;> omega)
     refine ⟨(q + 1, a5, bs ++ [(v4 : Int) == 1], fun j => if j < q then nx j else r), ⟨by omega, ha5, by simp [hbl], fun j hj => ?_⟩, by simp; omega, ?_⟩
     ·by_cases hjq : j < q
      ·simp only [if_pos hjq]; exact hrow j hjq
      ·simp only [if_neg hjq]; exact ⟨hrl, hrv⟩
     ·refine wk_fam [(0, some 0), (1, some 1), (2, some 2), (3, some 3), (4, some 4)] (fun j => if j < q then 100 + j else 5) rfl ?_ ?_ ?_ ?_ ?_ ?_
      all_goals try simp +contextual (disch := omega) [beq_gt, beq_lt, eq_lt, eq_gt, lt_t, List.getElem?_cons_succ, Option.getD_some, callF, ints, scal, tpO, wkPs_snoc, wkPs_tab, hbl, hrl, tab_succ]
      all_goals (try omega)
      ·intro j hj
       by_cases hjq : j < q
       ·simp +contextual (disch := omega) [beq_gt, beq_lt, eq_lt, eq_gt, lt_t, List.getElem?_cons_succ, Option.getD_some, callF, ints, scal, tpO, wkPs_snoc, wkPs_tab, hjq]
       ·simp +contextual (disch := omega) [beq_gt, beq_lt, eq_lt, eq_gt, lt_t, List.getElem?_cons_succ, Option.getD_some, callF, ints, scal, tpO, wkPs_snoc, wkPs_tab, hjq]
      ·intro i j hi hj h
       split at h <;> split at h <;> omega
  ·have hqe : q = n := by omega
   subst hqe
   refine condF (by simp <;> omega) ?_
   refine awp_exit ?_
   show awp _ _ _ _
   refine rgS fun K hK => ?_
   simp (disch := omega) [famH]
   and_intros <;> try first | apply hK | omega | rfl | simp <;> omega
   refine awp_ret ?_
   refine ⟨⟨_, _, ⟨q, s, a3, bs, nx, by omega, ha3, ⟨by omega, by omega, hbl, hrow⟩, rfl, rfl⟩, ?_⟩, by simp⟩
   refine resF [(0, some 0), (1, some 3), (2, some 4)] (fun j => 100 + j) (.inr rfl) ?_ ?_ ?_ ?_ ?_ _ ?_ (by first | (simp; rfl) | rfl)
   all_goals try simp +contextual (disch := omega) [beq_gt, beq_lt, eq_lt, eq_gt, lt_t, List.getElem?_cons_succ, Option.getD_some, callF, ints, scal, tpO, wkPs_snoc, wkPs_tab, dfH]

set_option maxRecDepth 100000
set_option maxHeartbeats 32000000
attribute [local simp] ints rows scal wr64 wr8
set_option linter.unusedSimpArgs false

theorem outVs_tab (po : List Nat) (q n : Nat) (f : Nat → AV) : outVs po q (tab n f) = tab n fun j => outV po q (f j) := by
 obtain ⟨h1, h2⟩ := outVs_get po q (tab n f)
 apply List.ext_getElem?
 intro i
 by_cases hi : i < n
 ·rw [tab_get _ hi]
  have hi2 : i < (outVs po q (tab n f)).length := by rw [h1]; simpa using hi
  obtain ⟨a, ha, hab⟩ := h2 i _ (List.getElem?_eq_getElem hi2)
  rw [tab_get _ hi] at ha
  injection ha with ha
  rw [List.getElem?_eq_getElem hi2, hab, ha]
 ·rw [List.getElem?_eq_none (by rw [h1]; simp; omega), List.getElem?_eq_none (by simp; omega)]
theorem outVs_fam {ph : List Nat} {b n q h L : Nat} (hh : h = ph.length) : outVs (poF ph b n) q (tab n fun j => .own (h + j) L) = tab n fun j => AV.own (b + j) L := by
 rw [outVs_tab]
 apply List.ext_getElem?
 intro i
 by_cases hi : i < n
 ·rw [tab_get _ hi, tab_get _ hi]
  subst hh
  simp only [outV]
  rw [poF_at hi]
 ·rw [tab_get_none _ (by omega), tab_get_none _ (by omega)]
theorem beq_ne {a b : Nat} (h : a ≠ b) : (a == b) = false := by simpa using h
theorem wkT_tab {H : Nat → Option AObj} {un : Nat → Prop} {q n : Nat} {f : Nat → AV} {g : Nat → T} : wkT H un q (tab n f) (tab n g) = ∀ j, j < n → wk1 H un q (f j) (g j) := by
 apply propext
 constructor
 ·intro h j hj
  exact h.2 j (f j) (g j) (tab_get _ hj) (tab_get _ hj)
 ·intro h
  refine ⟨by simp, fun i a b ha hb => ?_⟩
  have hi := (List.getElem?_eq_some_iff.1 ha).1
  rw [tab_len] at hi
  rw [tab_get _ hi] at ha hb
  injection ha with ha
  injection hb with hb
  rw [← ha, ← hb]
  exact h i hi
def dfT (p L s : Nat) (bs : List Bool) (nxt : List (List Int)) : AV := .agg [.t 2 (.int .i64 L), .t 2 (.int .i64 s), .t p (bools bs), .t p (rows nxt)]
structure DfL (L n s : Nat) (bs : List Bool) (nxt : List (List Int)) : Prop where
 n1 : 1 ≤ n
 st : s < n
 bl : bs.length = n
 nl : nxt.length = n
 row : ∀ r ∈ nxt, r.length = L ∧ ∀ v ∈ r, 0 ≤ v ∧ v < (n : Int)
theorem DfOK.list {L n s : Nat} {bs : List Bool} {nx : Nat → List Int} (h : DfOK L n s bs nx) : DfL L n s bs (tab n nx) :=
 ⟨h.n1, h.st, h.bl, by simp, fun r hr => by
  simp only [tab, List.mem_map, List.mem_range] at hr
  obtain ⟨q, hq, rfl⟩ := hr
  exact h.row q hq⟩
def MkG (L most : Nat) (xs : List Int) (res : AV) (H' : List AObj) : Prop := ∃ n s b bs nxt, n ≤ most ∧ b ≤ xs.length ∧ DfL L n s bs nxt ∧ res = dfT 2 L s bs nxt ∧ H' = [tpO 1 xs b]
theorem ordered_fn (xs : List Int) (a L most : Nat) (ha : a ≤ xs.length) (hl : xs.length ≤ 80) (hL : 1 ≤ L) (hL2 : L ≤ 6) (hm : 1 ≤ most) (hm2 : most ≤ 100) : ∃ res H', MkG L most xs res H' ∧
  FnS Tryz.prog 64 [.ptr 0 0 2, .t 2 (.int .i64 L), .t 2 (.int .i64 most)] [tpO 1 xs a] res H' := by
 obtain ⟨res, H', ⟨n, s, b, bs, nx, hnm, hb, hD, rfl, rfl⟩, hspec⟩ := dfa_fn xs a L most ha hl hL hL2 hm hm2
 have hn1 := hD.n1
 have hst := hD.st
 have hbl := hD.bl
 have hrow := hD.row
 refine fn_introGE Tryz.func64 rfl (by simp [Tryz.f64]) ?_
 rw [show Tryz.f64.ntmps = 46 from rfl, show Tryz.f64.results = #[.cell 6 67] from rfl]
 refine rgS fun K hK => ?_
 simp (disch := omega)
 and_intros <;> try first | apply hK | omega | rfl | simp <;> omega
 refine rgS fun K hK => ?_
 simp (disch := omega)
 (repeat' apply And.intro)
 all_goals (try omega)
 refine call_ruleF (caps := []) hspec [0] [0, 4000001, 4000002] 4000003 1 rfl rfl rfl rfl (by kernel_rfl) (by simp) ?_ ?_ (by simp) rfl (by simp) ⟨.inr ⟨rfl, 0, _, _, _, _, _, rfl, rfl, rfl, rfl, rfl⟩, .inl (by omega), .inl (by omega), trivial⟩ (by omega) (by intro k hk; simp at hk; omega) (by simp [tpO, dfH]) (fun j hj => rfl) ?_
 ·simp [tpO]
 ·simp [tpO]
 simp (disch := omega) [KL_ap, KD_ap, awpL_nil, awpL_cons, awpD_nil, awpD_cons, awpOp, awpOpD, wrE, gd, aop, aBuiltin, aNil, aMin, ASt.eval, AV.ofV, dstOk, ASt.app, Eff.heap, dels, upd_b, aLoad, aStore, aField, aFieldV, aIndexAddr, aIndex, aSlice, aSliceO, aLen, aBin, iB, sB, aUn, aConv, aAlloc, aBox, aBuild, afill, avCells, AV.leaf, setR, aBuildSlice, frz, frzL, isOwn, vecOf, tsOf, aMake, srcOf, aAppend, aMkMap, aMapUpd, aLookup, oint, cut, putL, AObj.cnt, mkS, envOf_nil, envOf_cons, heapOf_nil, heapOf_cons, argS, Nat.blt_eq, callS, outV, outVs, outO, heap2, addL, delL, ints, rows, scal, wr64, wr8, List.getElem?_cons_zero, callF, poF_lt, outVs_fam (show 3 = [0, 4000001, 4000002].length from rfl), dfH, tpO]
 and_intros <;> try first | apply hK | omega | rfl | simp <;> omega
 refine awp_seq ?_
 refine rgS fun K hK => ?_
 simp (disch := omega)
 and_intros <;> try first | apply hK | omega | rfl | simp <;> omega
 refine awp_block ?_
 refine awp_loop (fun y : Nat × (Nat → List Int) => mkF [(6, .ptr 1 0 4), (7, .ptr 2 0 4), (17, .t 2 (.int .i64 n)), (18, .t 2 (.int .i64 y.1))]
   [(0, tpO 1 xs b), (1, .box 67 [.any, .any, .any, .any]), (2, .box 67 [.t 2 (.int .i64 L), .t 2 (.int .i64 s), .own 3 n, .own 4 n]), (3, .row 4 1 2 (bs.map .bool)), (4, .vec 22 (tab n fun j => .own (100 + j) L))]
   100 n (fun j => .row 3 1 2 ((y.2 j).map (.int .i64))) 1000 46 [.ptr 0 0 2, .any, .any])
  (fun y => y.1 ≤ n ∧ ∀ q, q < n → (y.2 q).length = L ∧ ∀ v ∈ y.2 q, 0 ≤ v ∧ v < (n : Int)) (fun y => n - y.1) ?_ ?_
 ·refine ⟨(0, nx), ⟨by simp, hrow⟩, ?_⟩
  refine wk_fam [(0, some 0), (1, some 1), (2, some 5000001), (3, some 4000001), (4, some 4000002)] (fun j => 4000003 + j) rfl ?_ ?_ ?_ ?_ ?_ ?_
  all_goals try simp +contextual (disch := omega) [beq_gt, beq_lt, eq_lt, eq_gt, lt_t, List.getElem?_cons_succ, Option.getD_some, callF, ints, scal, tpO, wkPs_snoc, wkPs_tab]
  all_goals (try omega)
  exact ⟨by simp [poF], by simp [poF]⟩
 ·rintro ⟨q, nx'⟩ ⟨hq, hrow'⟩
  simp only at hq hrow'
  refine rgS fun K hK => ?_
  simp (disch := omega)
  and_intros <;> try first | apply hK | omega | rfl | simp <;> omega
  refine awp_seq ?_
  by_cases hqn : q < n
  ·obtain ⟨hql, hqv⟩ := hrow' q hqn
   refine condT (by simp [hqn] <;> omega) ?_
   refine awp_skip ?_
   show awp _ _ _ _
   refine awp_seq ?_
   refine awp_block ?_
   refine rgS fun K hK => ?_
   simp (disch := omega)
   and_intros <;> try first | apply hK | omega | rfl | simp <;> omega
   refine rgS fun K hK => ?_
   simp (disch := omega) [hqn, hql]
   and_intros <;> try first | apply hK | omega | rfl | simp <;> omega
   refine awp_block ?_
   refine awp_loop (fun y : Nat × (Nat → List Int) => mkF [(6, .ptr 1 0 4), (7, .ptr 2 0 4), (8, .t 2 (.int .i64 q)), (17, .t 2 (.int .i64 n)), (18, .t 2 (.int .i64 q)), (25, .own (100 + q) L), (26, .t 2 (.int .i64 L)), (27, .t 2 (.int .i64 y.1))]
     [(0, tpO 1 xs b), (1, .box 67 [.any, .any, .any, .any]), (2, .box 67 [.t 2 (.int .i64 L), .t 2 (.int .i64 s), .own 3 n, .own 4 n]), (3, .row 4 1 2 (bs.map .bool)), (4, .vec 22 (tab n fun j => .own (100 + j) L))]
     100 n (fun j => .row 3 1 2 ((y.2 j).map (.int .i64))) 1000 46 [.ptr 0 0 2, .any, .any])
    (fun y => y.1 ≤ L ∧ ∀ q, q < n → (y.2 q).length = L ∧ ∀ v ∈ y.2 q, 0 ≤ v ∧ v < (n : Int)) (fun y => L - y.1) ?_ ?_
   ·refine ⟨(0, nx'), ⟨by simp, hrow'⟩, ?_⟩
    refine wk_fam [(0, some 0), (1, some 1), (2, some 2), (3, some 3), (4, some 4)] (fun j => 100 + j) rfl ?_ ?_ ?_ ?_ ?_ ?_
    all_goals try simp +contextual (disch := omega) [beq_gt, beq_lt, eq_lt, eq_gt, lt_t, List.getElem?_cons_succ, Option.getD_some, callF, ints, scal, tpO, wkPs_snoc, wkPs_tab, hqn]
    all_goals (try omega)
   ·clear hrow' hql hqv
    rintro ⟨x, nx'⟩ ⟨hx, hrow'⟩
    simp only at hx hrow'
    obtain ⟨hql, hqv⟩ := hrow' q hqn
    refine rgS fun K hK => ?_
    simp (disch := omega)
    and_intros <;> try first | apply hK | omega | rfl | simp <;> omega
    refine awp_seq ?_
    by_cases hxl : x < L
    ·have hxq : x < (nx' q).length := by omega
     have hv := hqv (nx' q)[x] (by simp)
     refine condT (by simp [hxl] <;> omega) ?_
     refine awp_skip ?_
     show awp _ _ _ _
     refine awp_seq ?_
     refine awp_block ?_
     refine rgS fun K hK => ?_
     simp (disch := omega) [hqn, hql, hxl, hxq]
     and_intros <;> try first | apply hK | omega | rfl | simp <;> omega
     refine rgL fun K hK => ?_
     simp (disch := omega) [hqn, hql, hxl, hxq]
     and_intros <;> try first | apply hK | omega | rfl | simp <;> omega
     show awp _ _ _ _
     refine rgL fun K hK => ?_
     simp (disch := omega)
     (repeat' first | apply hK | apply And.intro) <;> try first | omega | rfl | (simp <;> omega)
     refine ⟨(x + 1, fun j => if j = q then (nx' q).set x (if (q : Int) < (nx' q)[x] then (nx' q)[x] else (q : Int)) else nx' j), ⟨by omega, fun j hj => ?_⟩, by simp; omega, ?_⟩
     ·by_cases hjq : j = q
      ·simp only [if_pos hjq]
       refine ⟨by simp [hql], fun v hv2 => ?_⟩
       rcases List.mem_or_eq_of_mem_set hv2 with hv2 | rfl
       ·exact hqv v hv2
       ·split <;> omega
      ·simp only [if_neg hjq]; exact hrow' j hj
     ·refine wk_fam [(0, some 0), (1, some 1), (2, some 2), (3, some 3), (4, some 4)] (fun j => 100 + j) rfl ?_ ?_ ?_ ?_ ?_ ?_
      all_goals try simp +contextual (disch := omega) [beq_gt, beq_lt, eq_lt, eq_gt, lt_t, List.getElem?_cons_succ, Option.getD_some, callF, ints, scal, tpO, wkPs_snoc, wkPs_tab, hqn]
      all_goals (try omega)
      intro j hj
      by_cases hjq : j = q
      ·subst hjq
       simp +contextual (disch := omega) [beq_gt, beq_lt, eq_lt, eq_gt, lt_t, List.getElem?_cons_succ, Option.getD_some, callF, ints, scal, tpO, wkPs_snoc, wkPs_tab, List.map_set]
      ·simp +contextual (disch := omega) [beq_gt, beq_lt, eq_lt, eq_gt, lt_t, List.getElem?_cons_succ, Option.getD_some, callF, ints, scal, tpO, wkPs_snoc, wkPs_tab, hjq, beq_ne (show 100 + j ≠ 100 + q by omega)]
    ·have hxe : x = L := by omega
     subst hxe
     refine condF (by simp <;> omega) ?_
     refine awp_exit ?_
     show awp _ _ _ _
     refine rgL fun K hK => ?_
     simp (disch := omega)
     (repeat' first | apply hK | apply And.intro) <;> try first | omega | rfl | (simp <;> omega)
     refine ⟨(q + 1, nx'), ⟨by omega, hrow'⟩, by simp; omega, ?_⟩
     refine wk_fam [(0, some 0), (1, some 1), (2, some 2), (3, some 3), (4, some 4)] (fun j => 100 + j) rfl ?_ ?_ ?_ ?_ ?_ ?_
     all_goals try simp +contextual (disch := omega) [beq_gt, beq_lt, eq_lt, eq_gt, lt_t, List.getElem?_cons_succ, Option.getD_some, callF, ints, scal, tpO, wkPs_snoc, wkPs_tab]
     all_goals (try omega)
  ·have hqe : q = n := by omega
   subst hqe
   refine condF (by simp <;> omega) ?_
   refine awp_exit ?_
   show awp _ _ _ _
   refine rgS fun K hK => ?_
   simp (disch := omega)
   and_intros <;> try first | apply hK | omega | rfl | simp <;> omega
   refine rgS fun K hK => ?_
   simp (disch := omega)
   and_intros <;> try first | apply hK | omega | rfl | simp <;> omega
   refine awp_ret ?_
   refine ⟨⟨_, _, ⟨q, 0, b, bs, tab q nx', hnm, hb, (DfOK.list ⟨hn1, by omega, hbl, hrow'⟩), rfl, rfl⟩, resQ_G ?_⟩, by simp⟩
   refine ⟨.inr rfl, _, [(0, some 0)], (by first | (simp; rfl) | rfl), ?_, ?_, ?_, ?_⟩
   all_goals try simp +contextual (disch := omega) [beq_gt, beq_lt, eq_lt, eq_gt, lt_t, List.getElem?_cons_succ, Option.getD_some, callF, ints, scal, tpO, wkPs_snoc, wkPs_tab, wkT_tab, wk1, rows, bools, dfT, tab_map]
   exact ⟨hbl, fun j hj => (hrow' j hj).1⟩

set_option maxRecDepth 100000
set_option maxHeartbeats 32000000
attribute [local simp] ints rows scal wr64 wr8
set_option linter.unusedSimpArgs false

theorem famH_at' (hl : List (Nat × AObj)) (base n : Nat) (F : Nat → AObj) {j : Nat} (h : j < n) : famH hl base n F (j + base) = some (F j) := by rw [Nat.add_comm]; exact famH_at hl base n F h
theorem famM_at' (mp : List (Nat × Option Nat)) (base n : Nat) (g : Nat → Nat) {j : Nat} (h : j < n) : famM mp base n g (j + base) = some (g j) := by rw [Nat.add_comm]; exact famM_at mp base n g h
def PmRow (L n : Nat) (r : List Int) : Prop := r.length = L ∧ ∀ v ∈ r, 0 ≤ v ∧ v < (n : Int)
theorem PmRow.set {L n : Nat} {r : List Int} (h : PmRow L n r) (x : Nat) {v : Int} (hv : 0 ≤ v ∧ v < (n : Int)) : PmRow L n (r.set x v) :=
 ⟨by simp [h.1], fun u hu => by
  rcases List.mem_or_eq_of_mem_set hu with hu | rfl
  ·exact h.2 u hu
  ·exact hv⟩
theorem permutations_fn (xs : List Int) (a L most : Nat) (ha : a ≤ xs.length) (hl : xs.length ≤ 80) (hL : 1 ≤ L) (hL2 : L ≤ 6) (hm : 1 ≤ most) (hm2 : most ≤ 100) : ∃ res H', MkG L most xs res H' ∧
  FnS Tryz.prog 65 [.ptr 0 0 2, .t 2 (.int .i64 L), .t 2 (.int .i64 most)] [tpO 1 xs a] res H' := by
 obtain ⟨v1, a1, hv1, ha1, hN1⟩ := next_fn xs a most ha hl (by omega)
 have hv1 := hv1 (by omega)
 obtain ⟨n, hn⟩ : ∃ n, n = 1 + v1 := ⟨_, rfl⟩
 obtain ⟨s, a2, hv2, ha2, hN2⟩ := next_fn xs a1 n ha1 hl (by omega)
 have hv2 := hv2 (by omega)
 have hnn : (1 : Int) + v1 = n := by omega
 have hnm : n ≤ 100 := by omega
 refine fn_introGE Tryz.func65 rfl (by simp [Tryz.f65]) ?_
 rw [show Tryz.f65.ntmps = 90 from rfl, show Tryz.f65.results = #[.cell 6 67] from rfl]
 refine rgS fun K hK => ?_
 simp (disch := omega)
 and_intros <;> try first | apply hK | omega | rfl | simp <;> omega
 refine rgS fun K hK => ?_
 simp (disch := omega)
 and_intros <;> try first | apply hK | omega | rfl | simp <;> omega
 refine rgS fun K hK => ?_
 simp (disch := omega)
 (repeat' apply And.intro)
 all_goals (try omega)
 refine call_rule (caps := []) (hN1) [0] [0] 1 rfl rfl rfl rfl (by kernel_rfl) (by simp) ?_ ?_ (by simp) rfl (by simp) ⟨.inr ⟨rfl, 0, _, _, _, _, _, rfl, rfl, rfl, rfl, rfl⟩, trivial⟩ (by simp [tpO]) ?_
 ·simp [tpO]
 ·simp [tpO]
 simp (disch := omega) [hnn]
 and_intros <;> try first | apply hK | omega | rfl | simp <;> omega
 refine rgS fun K hK => ?_
 simp (disch := omega)
 (repeat' apply And.intro)
 all_goals (try omega)
 refine call_rule (caps := []) (hN2) [0] [0] 1 rfl rfl rfl rfl (by kernel_rfl) (by simp) ?_ ?_ (by simp) rfl (by simp) ⟨.inr ⟨rfl, 0, _, _, _, _, _, rfl, rfl, rfl, rfl, rfl⟩, trivial⟩ (by simp [tpO]) ?_
 ·simp [tpO]
 ·simp [tpO]
 simp (disch := omega)
 and_intros <;> try first | apply hK | omega | rfl | simp <;> omega
 refine awp_seq ?_
 refine rgS fun K hK => ?_
 simp (disch := omega)
 and_intros <;> try first | apply hK | omega | rfl | simp <;> omega
 refine awp_block ?_
 refine awp_loop (fun y : Nat × Nat × List Bool => mkF [(0, .ptr 0 0 2), (1, .t 2 (.int .i64 L)), (6, .ptr 1 0 4), (7, .ptr 2 0 4), (8, .t 2 (.int .i64 n)), (9, .t 2 (.int .i64 y.1))]
   [(0, tpO 1 xs y.2.1), (1, .box 67 [.any, .any, .any, .any]), (2, .box 67 [.t 2 (.int .i64 L), .t 2 (.int .i64 s), .own 3 y.1, .own 4 y.1]), (3, .row 4 1 2 (y.2.2.map .bool)), (4, .vec 22 (tab y.1 fun j => .own (j + 100) L))]
   100 y.1 (fun j => .row 3 1 2 ((List.replicate L (0 : Int)).map (.int .i64))) 1000 90 [.ptr 0 0 2, .any, .any])
  (fun y => y.1 ≤ n ∧ y.2.1 ≤ xs.length ∧ y.2.2.length = y.1) (fun y => n - y.1) ?_ ?_
 ·refine ⟨(0, a2, []), ⟨by simp, ha2, rfl⟩, ?_⟩
  refine wk_fam [(0, some 0), (1, some 1), (2, some 3000001), (3, none), (4, none)] (fun j => j) rfl ?_ ?_ ?_ ?_ ?_ ?_
  all_goals try simp +contextual (disch := omega) [beq_gt, beq_lt, eq_lt, eq_gt, lt_t, List.getElem?_cons_succ, Option.getD_some, callF, ints, scal, tpO, wkPs_snoc, wkPs_tab, tpO]
  all_goals (try omega)
 ·rintro ⟨q, a3, bs⟩ ⟨hq, ha3, hbl⟩
  simp only at hq ha3 hbl
  refine awp_seq ?_
  refine rgS fun K hK => ?_
  simp (disch := omega)
  (repeat' first | apply hK | apply And.intro) <;> try first | omega | rfl | (simp <;> omega)
  by_cases hqn : q < n
  ·refine condT (by simp [hqn] <;> omega) ?_
   refine awp_skip ?_
   show awp _ _ _ _
   refine awp_seq ?_
   refine awp_block ?_
   obtain ⟨v4, a4, hv4, ha4, hN4⟩ := next_fn xs a3 2 ha3 hl (by omega)
   refine awp_RD (by kernel_rfl) (fun K hK => ?_)
   simp (disch := omega)
   (repeat' apply And.intro)
   all_goals (try omega)
   refine call_ruleD (caps := []) (hN4) [0] [0] 1 rfl rfl rfl rfl (by kernel_rfl) (by simp) ?_ ?_ (by simp) rfl (by simp) ⟨.inr ⟨rfl, 0, _, _, _, _, _, rfl, rfl, rfl, rfl, rfl⟩, trivial⟩ (by simp [tpO]) ?_
   ·simp [tpO]
   ·simp [tpO]
   simp (disch := omega) [tpO]
   and_intros <;> try first | apply hK | (show chkD _ _ = true; kernel_rfl) | omega | rfl | simp <;> omega
   show awp _ _ _ _
   refine rgL fun K hK => ?_
   simp (disch := omega)
   (repeat' first | apply hK | apply And.intro) <;> try first | omega | rfl | (simp <;> omega)
   refine ⟨(q + 1, a4, bs ++ [(v4 : Int) == 1]), ⟨by omega, ha4, by simp [hbl]⟩, by simp; omega, ?_⟩
   refine wk_fam [(0, some 0), (1, some 1), (2, some 2), (3, some 3), (4, some 4)] (fun j => if j < q then j + 100 else 13001000) rfl ?_ ?_ ?_ ?_ ?_ ?_
   all_goals try simp +contextual (disch := omega) [beq_gt, beq_lt, eq_lt, eq_gt, lt_t, List.getElem?_cons_succ, Option.getD_some, callF, ints, scal, tpO, wkPs_snoc, wkPs_tab, hbl, tab_succ, famM_at', famH_at']
   all_goals (try omega)
   ·intro j hj
    by_cases hjq : j < q
    ·simp +contextual (disch := omega) [beq_gt, beq_lt, eq_lt, eq_gt, lt_t, List.getElem?_cons_succ, Option.getD_some, callF, ints, scal, tpO, wkPs_snoc, wkPs_tab, hjq, famM_at', famH_at', beq_ne (show j + 100 ≠ 14001000 by omega), beq_ne (show j + 100 ≠ 13001000 by omega), beq_ne (show j + 100 ≠ 8001000 by omega)]
    ·simp +contextual (disch := omega) [beq_gt, beq_lt, eq_lt, eq_gt, lt_t, List.getElem?_cons_succ, Option.getD_some, callF, ints, scal, tpO, wkPs_snoc, wkPs_tab, hjq]
   ·intro i j hi hj h
    split at h <;> split at h <;> omega
  ·have hqe : q = n := by omega
   subst hqe
   refine condF (by simp <;> omega) ?_
   refine awp_exit ?_
   show awp _ _ _ _
   refine awp_seq ?_
   refine rgS fun K hK => ?_
   simp (disch := omega)
   and_intros <;> try first | apply hK | omega | rfl | simp <;> omega
   refine awp_block ?_
   refine awp_loop (fun y : Nat × Nat × (Nat → List Int) => mkF [(0, .ptr 0 0 2), (1, .t 2 (.int .i64 L)), (6, .ptr 1 0 4), (7, .ptr 2 0 4), (8, .t 2 (.int .i64 q)), (10, .t 2 (.int .i64 y.1))]
     [(0, tpO 1 xs y.2.1), (1, .box 67 [.any, .any, .any, .any]), (2, .box 67 [.t 2 (.int .i64 L), .t 2 (.int .i64 s), .own 3 q, .own 4 q]), (3, .row 4 1 2 (bs.map .bool)), (4, .vec 22 (tab q fun j => .own (j + 100) L))]
     100 q (fun j => .row 3 1 2 ((y.2.2 j).map (.int .i64))) 1000 90 [.ptr 0 0 2, .any, .any])
    (fun y => y.1 ≤ L ∧ y.2.1 ≤ xs.length ∧ ∀ j, j < q → PmRow L q (y.2.2 j)) (fun y => L - y.1) ?_ ?_
   ·refine ⟨(0, a3, fun _ => List.replicate L 0), ⟨by simp, ha3, fun j hj => ⟨by simp, fun v hv => ?_⟩⟩, ?_⟩
    ·have := List.eq_of_mem_replicate hv
     omega
    ·refine wk_fam [(0, some 0), (1, some 1), (2, some 2), (3, some 3), (4, some 4)] (fun j => j + 100) rfl ?_ ?_ ?_ ?_ ?_ ?_
     all_goals try simp +contextual (disch := omega) [beq_gt, beq_lt, eq_lt, eq_gt, lt_t, List.getElem?_cons_succ, Option.getD_some, callF, ints, scal, tpO, wkPs_snoc, wkPs_tab, hbl, famM_at', famH_at']
     all_goals (try omega)
   ·clear ha3
    rintro ⟨x, a3, nx⟩ ⟨hx, ha3, hnx⟩
    simp only at hx ha3 hnx
    refine awp_seq ?_
    refine rgS fun K hK => ?_
    simp (disch := omega)
    (repeat' first | apply hK | apply And.intro) <;> try first | omega | rfl | (simp <;> omega)
    by_cases hxl : x < L
    ·refine condT (by simp [hxl] <;> omega) ?_
     refine awp_skip ?_
     show awp _ _ _ _
     refine awp_seq ?_
     refine awp_block ?_
     refine rgS fun K hK => ?_
     simp (disch := omega)
     and_intros <;> try first | apply hK | omega | rfl | simp <;> omega
     refine awp_seq ?_
     refine rgS fun K hK => ?_
     simp (disch := omega)
     and_intros <;> try first | apply hK | omega | rfl | simp <;> omega
     refine awp_block ?_
     refine awp_loop (fun y : Nat => mkF [(0, .ptr 0 0 2), (1, .t 2 (.int .i64 L)), (6, .ptr 1 0 4), (7, .ptr 2 0 4), (8, .t 2 (.int .i64 q)), (10, .t 2 (.int .i64 x)), (11, .own 5 y), (12, .t 2 (.int .i64 y))]
       [(0, tpO 1 xs a3), (1, .box 67 [.any, .any, .any, .any]), (2, .box 67 [.t 2 (.int .i64 L), .t 2 (.int .i64 s), .own 3 q, .own 4 q]), (3, .row 4 1 2 (bs.map .bool)), (4, .vec 22 (tab q fun j => .own (j + 100) L)), (5, .row 3 1 2 ((tab y fun i => (i : Int)).map (.int .i64)))]
       100 q (fun j => .row 3 1 2 ((nx j).map (.int .i64))) 1000 90 [.ptr 0 0 2, .any, .any])
      (fun y => y ≤ q) (fun y => q - y) ?_ ?_
     ·refine ⟨0, by omega, ?_⟩
      refine wk_fam [(0, some 0), (1, some 1), (2, some 2), (3, some 3), (4, some 4), (5, none)] (fun j => j + 100) rfl ?_ ?_ ?_ ?_ ?_ ?_
      all_goals try simp +contextual (disch := omega) [beq_gt, beq_lt, eq_lt, eq_gt, lt_t, List.getElem?_cons_succ, Option.getD_some, callF, ints, scal, tpO, wkPs_snoc, wkPs_tab, famM_at', famH_at']
      all_goals (try omega)
     ·intro y hy
      refine awp_seq ?_
      refine rgS fun K hK => ?_
      simp (disch := omega)
      (repeat' first | apply hK | apply And.intro) <;> try first | omega | rfl | (simp <;> omega)
      by_cases hyq : y < q
      ·refine condT (by simp [hyq] <;> omega) ?_
       refine awp_skip ?_
       show awp _ _ _ _
       refine awp_seq ?_
       refine awp_block ?_
       refine rgL fun K hK => ?_
       simp (disch := omega)
       and_intros <;> try first | apply hK | omega | rfl | simp <;> omega
       show awp _ _ _ _
       refine rgL fun K hK => ?_
       simp (disch := omega)
       (repeat' first | apply hK | apply And.intro) <;> try first | omega | rfl | (simp <;> omega)
       refine ⟨y + 1, by omega, by omega, ?_⟩
       refine wk_fam [(0, some 0), (1, some 1), (2, some 2), (3, some 3), (4, some 4), (5, some 5)] (fun j => j + 100) rfl ?_ ?_ ?_ ?_ ?_ ?_
       all_goals try simp +contextual (disch := omega) [beq_gt, beq_lt, eq_lt, eq_gt, lt_t, List.getElem?_cons_succ, Option.getD_some, callF, ints, scal, tpO, wkPs_snoc, wkPs_tab, famM_at', famH_at', tab_succ]
       all_goals (try omega)
      ·have hye : y = q := by omega
       subst hye
       refine condF (by simp <;> omega) ?_
       refine awp_exit ?_
       show awp _ _ _ _
       refine rgS fun K hK => ?_
       simp (disch := omega)
       and_intros <;> try first | apply hK | omega | rfl | simp <;> omega
       refine awp_block ?_
       refine awp_loop (fun z : Nat × Nat × List Int × (Nat → List Int) => mkF [(0, .ptr 0 0 2), (1, .t 2 (.int .i64 L)), (6, .ptr 1 0 4), (7, .ptr 2 0 4), (8, .t 2 (.int .i64 y)), (10, .t 2 (.int .i64 x)), (11, .t 2 (ints z.2.2.1)), (13, .t 2 (.int .i64 z.1))]
         [(0, tpO 1 xs z.2.1), (1, .box 67 [.any, .any, .any, .any]), (2, .box 67 [.t 2 (.int .i64 L), .t 2 (.int .i64 s), .own 3 y, .own 4 y]), (3, .row 4 1 2 (bs.map .bool)), (4, .vec 22 (tab y fun j => .own (j + 100) L))]
         100 y (fun j => .row 3 1 2 ((z.2.2.2 j).map (.int .i64))) 1000 90 [.ptr 0 0 2, .any, .any])
        (fun z => z.1 ≤ y ∧ z.2.1 ≤ xs.length ∧ z.2.2.1.length + z.1 = y ∧ (∀ v ∈ z.2.2.1, 0 ≤ v ∧ v < (y : Int)) ∧ ∀ j, j < y → PmRow L y (z.2.2.2 j)) (fun z => y - z.1) ?_ ?_
       ·refine ⟨(0, a3, tab y fun i => (i : Int), nx), ⟨by simp, ha3, by simp, fun v hv => ?_, hnx⟩, ?_⟩
        ·simp only [tab, List.mem_map, List.mem_range] at hv
         obtain ⟨i, hi, rfl⟩ := hv
         omega
        ·refine wk_fam [(0, some 0), (1, some 1), (2, some 2), (3, some 3), (4, some 4)] (fun j => j + 100) rfl ?_ ?_ ?_ ?_ ?_ ?_
         all_goals try simp +contextual (disch := omega) [beq_gt, beq_lt, eq_lt, eq_gt, lt_t, List.getElem?_cons_succ, Option.getD_some, callF, ints, scal, tpO, wkPs_snoc, wkPs_tab, famM_at', famH_at']
         all_goals (try omega)
       ·clear hnx ha3
        rintro ⟨z, a5, lf, nx⟩ ⟨hz, ha5, hlf, hlv, hnx⟩
        simp only at hz ha5 hlf hlv hnx
        refine awp_seq ?_
        refine rgS fun K hK => ?_
        simp (disch := omega)
        (repeat' first | apply hK | apply And.intro) <;> try first | omega | rfl | (simp <;> omega)
        by_cases hzy : z < y
        ·refine condT (by simp [hzy] <;> omega) ?_
         refine awp_skip ?_
         show awp _ _ _ _
         refine awp_seq ?_
         refine awp_block ?_
         obtain ⟨v, a6, hv, ha6, hN6⟩ := next_fn xs a5 lf.length ha5 hl (by omega)
         have hvl : v < lf.length := by have := hv (by omega); omega
         have hnz := hnx z hzy
         have hnl := hnz.1
         have hlfv := hlv lf[v] (by simp)
         refine rgS fun K hK => ?_
         simp (disch := omega)
         (repeat' apply And.intro)
         all_goals (try omega)
         refine call_rule (caps := []) (hN6) [0] [0] 1 rfl rfl rfl rfl (by kernel_rfl) (by simp) ?_ ?_ (by simp) rfl (by simp) ⟨.inr ⟨rfl, 0, _, _, _, _, _, rfl, rfl, rfl, rfl, rfl⟩, trivial⟩ (by simp [tpO]) ?_
         ·simp [tpO]
         ·simp [tpO]
         simp (disch := omega)
         and_intros <;> try first | apply hK | omega | rfl | simp <;> omega
         refine awp_seqD (by kernel_rfl) (fun K hK => ?_)
         simp (disch := omega) [famH_at', hzy, hnl, hxl, hvl]
         and_intros <;> try first | apply hK | (show chkD _ _ = true; kernel_rfl) | omega | rfl | simp <;> omega
         refine awp_RD (by kernel_rfl) (fun K hK => ?_)
         simp (disch := omega)
         and_intros <;> try first | apply hK | (show chkD _ _ = true; kernel_rfl) | omega | rfl | simp <;> omega
         show awp _ _ _ _
         refine rgL fun K hK => ?_
         simp (disch := omega)
         (repeat' first | apply hK | apply And.intro) <;> try first | omega | rfl | (simp <;> omega)
         refine ⟨(z + 1, a6, lf.take v ++ lf.drop (v + 1), fun j => if j = z then (nx z).set x lf[v] else nx j), ⟨by omega, ha6, by simp; omega, fun u hu => ?_, fun j hj => ?_⟩, by simp; omega, ?_⟩
         ·rcases List.mem_append.1 hu with hu | hu
          ·exact hlv u (List.mem_of_mem_take hu)
          ·exact hlv u (List.mem_of_mem_drop hu)
         ·by_cases hjz : j = z
          ·simp only [if_pos hjz]; exact hnz.set x hlfv
          ·simp only [if_neg hjz]; exact hnx j hj
         ·refine wk_fam [(0, some 0), (1, some 1), (2, some 2), (3, some 3), (4, some 4)] (fun j => j + 100) rfl ?_ ?_ ?_ ?_ ?_ ?_
          all_goals try simp +contextual (disch := omega) [beq_gt, beq_lt, eq_lt, eq_gt, lt_t, List.getElem?_cons_succ, Option.getD_some, callF, ints, scal, tpO, wkPs_snoc, wkPs_tab, famM_at', famH_at']
          all_goals (try omega)
          ·rw [List.take_of_length_le (by simp)]
          ·intro j hj
           by_cases hjz : j = z
           ·subst hjz
            simp +contextual (disch := omega) [beq_gt, beq_lt, eq_lt, eq_gt, lt_t, List.getElem?_cons_succ, Option.getD_some, callF, ints, scal, tpO, wkPs_snoc, wkPs_tab, List.map_set]
           ·simp +contextual (disch := omega) [beq_gt, beq_lt, eq_lt, eq_gt, lt_t, List.getElem?_cons_succ, Option.getD_some, callF, ints, scal, tpO, wkPs_snoc, wkPs_tab, hjz, beq_ne hjz]
        ·refine condF (by simp <;> omega) ?_
         refine awp_exit ?_
         show awp _ _ _ _
         refine rgL fun K hK => ?_
         simp (disch := omega)
         (repeat' first | apply hK | apply And.intro) <;> try first | omega | rfl | (simp <;> omega)
         refine ⟨(x + 1, a5, nx), ⟨by omega, ha5, hnx⟩, by simp; omega, ?_⟩
         refine wk_fam [(0, some 0), (1, some 1), (2, some 2), (3, some 3), (4, some 4)] (fun j => j + 100) rfl ?_ ?_ ?_ ?_ ?_ ?_
         all_goals try simp +contextual (disch := omega) [beq_gt, beq_lt, eq_lt, eq_gt, lt_t, List.getElem?_cons_succ, Option.getD_some, callF, ints, scal, tpO, wkPs_snoc, wkPs_tab, famM_at', famH_at']
         all_goals (try omega)
    ·refine condF (by simp <;> omega) ?_
     refine awp_exit ?_
     show awp _ _ _ _
     refine rgS fun K hK => ?_
     simp (disch := omega)
     and_intros <;> try first | apply hK | omega | rfl | simp <;> omega
     refine awp_ret ?_
     refine ⟨⟨_, _, ⟨q, s, a3, bs, tab q nx, by omega, ha3, (DfOK.list ⟨by omega, by omega, hbl, fun j hj => hnx j hj⟩), rfl, rfl⟩, resQ_G ?_⟩, by simp⟩
     refine ⟨.inr rfl, _, [(0, some 0)], (by first | (simp; rfl) | rfl), ?_, ?_, ?_, ?_⟩
     all_goals try simp +contextual (disch := omega) [beq_gt, beq_lt, eq_lt, eq_gt, lt_t, List.getElem?_cons_succ, Option.getD_some, callF, ints, scal, tpO, wkPs_snoc, wkPs_tab, wkT_tab, wk1, rows, bools, dfT, tab_map, famM_at', famH_at']
     exact ⟨hbl, fun j hj => (hnx j hj).1⟩
end Go.Proofs.YtghnmmfkckneaaaGreat.M
