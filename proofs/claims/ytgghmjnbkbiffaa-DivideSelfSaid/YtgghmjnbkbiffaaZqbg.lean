/-
  Bridges: validation, generators, Pairs; valid tables in the logic's words.
  Walk in my logic: divide.Find.
-/
import Derived.Test.YtgghmjnbkbiffaaZqbe
import Derived.Test.YtgghmjnbkbiffaaZqbf
namespace Go.Proofs.Ytgghmjnbkbiffaa.M
open Go.RowKit
set_option linter.unusedVariables false
set_option linter.unusedSimpArgs false

theorem vs3 {vs : Array Value} (hn : vs.size = 3) : vs = #[vs.getD 0 undef, vs.getD 1 undef, vs.getD 2 undef] := by
  apply Array.ext
  · simpa using hn
  · intro i h1 h2
    have : i < 3 := by simpa using h2
    rcases (by omega : i = 0 ∨ i = 1 ∨ i = 2) with rfl | rfl | rfl <;> simp [Array.getD, h1]
theorem gh_any {E : Ev} {f : Nat → Value} : ∀ {l : List AV}, (∀ a ∈ l, ghA1 a = .any) → GhR E f (ghA l) := fun {l} h i c hi => by
  unfold ghA at hi
  rw [List.getElem?_map] at hi
  cases e : l[i]? with
  | none => rw [e] at hi; cases hi
  | some a =>
    rw [e] at hi
    simp only [Option.map_some, Option.some.injEq] at hi
    rw [h a (List.mem_of_getElem? e)] at hi
    subst hi
    exact .any _
theorem divVal_fn (t : List (List Int)) (gens : List Int) (s : List (List Int)) : FnA Try.prog 74 [.t 0 (rows t), .t 0 (ints gens), .t 0 (rows s)] (.t 2 (.int .i64 (dvVErr t gens s))) := by
  intro w V ob vs hm hn hv
  have g0 := (hv 0 _ rfl).rep
  have g1 := (hv 1 _ rfl).rep
  have g2 := (hv 2 _ rfl).rep
  rw [vs3 hn]
  refine (divValidate_any w _ _ _ t gens s (rep_rows mem_cell g0) (rep_ints mem_cell g1) (rep_rows mem_cell g2)).mono ?_
  rintro e w' ⟨rfl, hbel⟩
  exact ⟨_, ob, rfl, hm.after hbel, .mkInt _ _ _ _, gh_any (by simp)⟩
theorem nth_get {α : Type} [Inhabited α] {l : List α} {i : Nat} (h : i < l.length) : nthx l i = l[i] := by simp [nthx, h]
theorem TbL.of {t : List (List Int)} (h : vErr t = 0) : TbL t t.length (tabOf t) := by
  obtain ⟨h0, h4, hr⟩ := shape_inv (vErr_inv h).1
  refine ⟨rfl, fun r h => ?_, fun r c h h2 => ?_, fun r c h h2 => ?_⟩
  · have := (hr r h).1
    rw [nth_get h] at this
    exact this
  · have := (hr r h).2 c (by rw [nth_get h]; exact h2)
    unfold tabOf
    rw [nth_get h] at this ⊢
    rw [nth_get h2] at this ⊢
    omega
  · have := (hr r h).2 c (by have := (hr r h).1; simp only [lnx] at this ⊢; omega)
    unfold tabOf
    simp only [lnx] at this
    omega
theorem vErr_asc {t : List (List Int)} (h : vErr t = 0) : Assoc t.length (tabOf t) := (vErr_inv h).2
theorem vErr_len {t : List (List Int)} (h : vErr t = 0) : 0 < t.length ∧ t.length ≤ 400 := ⟨(shape_inv (vErr_inv h).1).1, (shape_inv (vErr_inv h).1).2.1⟩
theorem gens_get {t : List (List Int)} {gens : List Int} (h : gensB t gens = true) {i : Nat} (hi : i < gens.length) : gens[i] = (nat_ gens i : Int) ∧ nat_ gens i < t.length := by
  have := inB_inv (gensB_inv h).1 i hi
  unfold nat_
  rw [nth_get hi] at this ⊢
  simp only [lnx] at this
  omega
/-- A nil slice is an empty list of any kind. -/
theorem VR.nilz {E : Ev} {v : Value} {p : Nat} (h : VR E v (.t p (.sl 0 []))) (z : Nat) : VR E v (.t p (.sl z [])) := by
  have := h.rep
  cases this with
  | nil => exact .t _ _ _ (.nil z)
  | sl b o n cap z cs vs hz => omega
theorem FnS.res {P : Program} {f : FuncId} {args : List AV} {H H' : List AObj} {r r' : AV} (h : FnS P f args H r H') (hr : ∀ E v, VR E v r → VR E v r') : FnS P f args H r' H' := fun w V ob vs hm hn hv => (h w V ob vs hm hn hv).mono fun e w' ⟨v, ob', h1, h2, h3, h4⟩ => ⟨v, ob', h1, h2, hr _ _ h3, h4⟩
end Go.Proofs.Ytgghmjnbkbiffaa.M

namespace Go.Proofs.Ytgghmjnbkbiffaa.M
open Go.RowKit
set_option linter.unusedVariables false
set_option linter.unusedSimpArgs false

def findT (r : List Nat) (c : Nat) (e : Int) : AV := .tup [.t 2 (if e = 0 then .sl 1 (nsT r) else .sl 0 []), .t 2 (.int .i64 (c : Int)), .t 2 (.int .i64 e)]
theorem dvVErr_0 {t : List (List Int)} {gens : List Int} {u : List (List Int)} (h1 : vErr t = 0) (h2 : gensB t gens = true) (h3 : vErr u = 0) : dvVErr t gens u = 0 := by
  unfold dvVErr
  rw [if_neg (by simpa using h1), if_neg (by simp [h2]), h3]
theorem nsT_last (l : List Nat) (x : Nat) : (nsT (l ++ [x]))[l.length]? = some (.int .i64 (x : Int)) := by
  rw [nsT_get (by simp)]
  simp
theorem nsT_setlast (l : List Nat) (x y : Nat) : (nsT (l ++ [x])).set l.length (.int .i64 (y : Int)) = nsT (l ++ [y]) := by
  rw [nsT_app, nsT_app, List.set_append_right _ _ (by simp)]
  simp [nsT]
set_option maxRecDepth 100000 in
set_option maxHeartbeats 8000000 in
theorem find_fn0 (t u : List (List Int)) (gens : List Int) (budget : Nat) (v1 : vErr t = 0) (vg : gensB t gens = true) (v2 : vErr u = 0) (hb1 : 1 ≤ budget) (hb : budget ≤ 100000) (hg0 : 0 < gens.length) (hgl : gens.length ≤ 1000) :
    ∃ res, (∃ r c e, FindR (tabOf t) (tabOf u) gens u.length budget r c e ∧ res = findT r c e) ∧ FnA Try.prog 45 [.t 1 (rows t), .t 1 (ints gens), .t 1 (rows u), .t 2 (.int .i64 budget)] res := by
  have hval := divVal_fn t gens u
  rw [dvVErr_0 v1 vg v2] at hval
  have ht := TbL.of v1
  have hu := TbL.of v2
  have aT := vErr_asc v1
  have aU := vErr_asc v2
  obtain ⟨ht0, ht4⟩ := vErr_len v1
  obtain ⟨hu0, hu4⟩ := vErr_len v2
  refine fn_introE Try.func45 rfl (by simp [Try.f45]) ?_
  rw [show Try.f45.ntmps = 142 from rfl, show Try.f45.results = #[.tmp 8, .tmp 9, .tmp 10] from rfl]
  refine awp_seqR (fun K hK => ?_)
  simp (maxSteps := 2000000) (disch := omega) [ints, rows, scal, wr64, wr8]
  (repeat' first | refine hK _ ?_ | apply And.intro) <;> clear hK K <;> try first | (show chkD _ _ = true; kernel_rfl) | omega | rfl | (simp; done) | (simp; omega)
  refine awp_seq ?_
  refine awp_seqR (fun K hK => ?_)
  simp (maxSteps := 2000000) (disch := omega) [ints, rows, scal, wr64, wr8]
  (repeat' apply And.intro)
  all_goals (try omega)
  refine call_rule (caps := []) (hval) [] [] 2 rfl rfl rfl rfl (by kernel_rfl) (by simp) ?_ trivial trivial rfl trivial trivial (by simp) ?_
  · simp [scal, rows, ints]
  simp (maxSteps := 2000000) (disch := omega) [ints, rows, scal, wr64, wr8]
  (repeat' first | refine hK _ ?_ | apply And.intro) <;> clear hK K <;> try first | (show chkD _ _ = true; kernel_rfl) | omega | rfl | (simp; done) | (simp; omega)
  refine awp_seqR (fun K hK => ?_)
  simp (maxSteps := 2000000) (disch := omega) [ints, rows, scal, wr64, wr8]
  (repeat' first | refine hK _ ?_ | apply And.intro) <;> clear hK K <;> try first | (show chkD _ _ = true; kernel_rfl) | omega | rfl | (simp; done) | (simp; omega)
  refine awp_cond (b := false) (p := 2) (by simp [scal] <;> omega) ?_
  refine awp_skip ?_
  show awp _ _ _ _
  refine awp_seq ?_
  have hb2 : ¬ (budget : Int) < 1 := by omega
  have hb3 : ¬ 1048576 < (budget : Int) := by omega
  refine awp_seqR (fun K hK => ?_)
  simp (maxSteps := 2000000) (disch := omega) [ints, rows, scal, wr64, wr8, hb2, hb3]
  (repeat' first | refine hK _ ?_ | apply And.intro) <;> clear hK K <;> try first | (show chkD _ _ = true; kernel_rfl) | omega | rfl | (simp; done) | (simp; omega)
  refine awp_cond (b := false) (p := 2) (by simp [scal, hb2, hb3] <;> omega) ?_
  refine awp_skip ?_
  show awp _ _ _ _
  refine awp_seqR (fun K hK => ?_)
  simp (maxSteps := 2000000) (disch := omega) [ints, rows, scal, wr64, wr8]
  (repeat' apply And.intro)
  all_goals (try omega)
  refine call_rule (caps := []) (newDivision_fn t u (by omega)) [] [18000000, 18000001, 18000002, 18000003] 1 rfl rfl rfl rfl (by kernel_rfl) (by simp) ?_ ?_ (by simp) rfl (by simp) ⟨.inl ⟨by omega, by omega⟩, .inl ⟨by omega, by omega⟩, .inl ⟨by omega, by omega⟩, .inl ⟨by omega, by omega⟩, trivial⟩ (by simp [dvH, dvB, ofO, paO, stO]) ?_
  · simp [scal, rows, ints, dvH, dvB, ofO, paO, stO]
  · trivial
  simp (maxSteps := 2000000) (disch := omega) [ints, rows, scal, wr64, wr8]
  (repeat' first | refine hK _ ?_ | apply And.intro) <;> clear hK K <;> try first | (show chkD _ _ = true; kernel_rfl) | omega | rfl | (simp; done) | (simp; omega)
  refine awp_seqR (fun K hK => ?_)
  simp (maxSteps := 2000000) (disch := omega) [ints, rows, scal, wr64, wr8]
  (repeat' first | refine hK _ ?_ | apply And.intro) <;> clear hK K <;> try first | (show chkD _ _ = true; kernel_rfl) | omega | rfl | (simp; done) | (simp; omega)
  refine awp_seqR (fun K hK => ?_)
  simp (maxSteps := 2000000) (disch := omega) [ints, rows, scal, wr64, wr8]
  (repeat' first | refine hK _ ?_ | apply And.intro) <;> clear hK K <;> try first | (show chkD _ _ = true; kernel_rfl) | omega | rfl | (simp; done) | (simp; omega)
  refine awp_seqR (fun K hK => ?_)
  simp (maxSteps := 2000000) (disch := omega) [ints, rows, scal, wr64, wr8]
  (repeat' first | refine hK _ ?_ | apply And.intro) <;> clear hK K <;> try first | (show chkD _ _ = true; kernel_rfl) | omega | rfl | (simp; done) | (simp; omega)
  refine awp_block ?_
  refine awp_loop (fun y : FSt => mkS [(1, .t 1 (ints gens)), (2, .t 1 (rows u)), (3, .t 2 (.int .i64 budget)), (12, .ptr 0 0 5), (13, .own 4 (y.sizes.length * 2)), (14, .own 5 (y.pre.length + 1)), (15, .t 2 (.int .i64 (y.tried : Nat)))] [(0, dvB t u u.length y.l.length (y.S.length * 2)), (1, ofO 1 u.length y.F), (2, paO 1 y.l), (3, stO 1 y.S), (4, stO 2 y.sizes), (5, paO 2 (y.pre ++ [y.x]))] 6 142 [.any, .any, .any, .any]) (fun y => FInv (tabOf t) (tabOf u) t.length u.length gens budget y) (fun y => FSt.mu u.length gens.length budget y) ?_ ?_
  · refine ⟨⟨[], 0, 0, [], [], fun _ => -1, []⟩, FInv.start hg0, ?_⟩
    refine wk_list [(0, some 18000000), (1, some 18000001), (2, some 18000002), (3, some 18000003), (4, none), (5, some 21000000)] rfl ?_ ?_ ?_ ?_
    all_goals try simp [ints, dvB, ofO, paO, stO, nsT, prT, rows, dvH, scal]
  · rintro ⟨pre, x, tried, sizes, S, F, l⟩ hI
    simp only
    have hlen := hI.len
    have hxm := hI.xm
    have hbud := hI.bud
    have hlev := hI.stk.lev
    have hsz := hI.stk.len
    have hsl := hlev.slen
    have hll := hlev.num.len
    simp only [lnx] at hlen hxm hbud hlev hsz hsl hll
    have hgx := nsT_last pre x
    obtain ⟨hgk, hgn⟩ := gens_get vg hlen
    refine awp_block ?_
    refine awp_seqR (fun K hK => ?_)
    simp (maxSteps := 2000000) (disch := omega) [ints, rows, scal, wr64, wr8]
    (repeat' first | refine hK _ ?_ | apply And.intro) <;> clear hK K <;> try first | (show chkD _ _ = true; kernel_rfl) | omega | rfl | (simp; done) | (simp; omega)
    refine awp_seq ?_
    refine awp_seqR (fun K hK => ?_)
    simp (maxSteps := 2000000) (disch := omega) [ints, rows, scal, wr64, wr8, paO, hgx]
    (repeat' first | refine hK _ ?_ | apply And.intro) <;> clear hK K <;> try first | (show chkD _ _ = true; kernel_rfl) | omega | rfl | (simp; done) | (simp; omega)
    by_cases hx : x = u.length
    · refine awp_cond (b := true) (p := 2) (by simp [scal, hx] <;> omega) ?_
      refine awp_seq ?_
      refine awp_seqR (fun K hK => ?_)
      simp (maxSteps := 2000000) (disch := omega) [ints, rows, scal, wr64, wr8]
      (repeat' first | refine hK _ ?_ | apply And.intro) <;> clear hK K <;> try first | (show chkD _ _ = true; kernel_rfl) | omega | rfl | (simp; done) | (simp; omega)
      rcases List.eq_nil_or_concat pre with rfl | ⟨pre0, x0, hp0⟩
      · refine awp_cond (b := true) (p := 2) (by simp [scal] <;> omega) ?_
        refine awp_seqR (fun K hK => ?_)
        simp (maxSteps := 2000000) (disch := omega) [ints, rows, scal, wr64, wr8]
        (repeat' first | refine hK _ ?_ | apply And.intro) <;> clear hK K <;> try first | (show chkD _ _ = true; kernel_rfl) | omega | rfl | (simp; done) | (simp; omega)
        refine awp_ret ?_
        refine ⟨_, ⟨[], tried, 9, hI.none hx rfl, rfl⟩, ?_⟩
        refine ⟨⟨.inr rfl, _, [], rfl, trivial, trivial, by simp [findT], ?_⟩, by simp [findT]⟩
        simp [findT]
      · rw [List.concat_eq_append] at hp0
        subst hx hp0
        obtain ⟨sizes0, p, s, rfl, -⟩ := hI.stk.pop
        obtain ⟨hI2, hp, hs, hmu⟩ := hI.pop hu0
        have hlen' : pre0.length + 1 < gens.length := by simpa using hlen
        have hsz0 : sizes0.length = pre0.length := by simpa using hsz
        have hc0 := prT_at (sizes0 ++ [(p, s)]) pre0.length (p, s) (by rw [← hsz0]; simp)
        have htk : (prT (sizes0 ++ [(p, s)])).take (pre0.length * 2) = prT sizes0 := by rw [prT_take, ← hsz0]; simp
        have htk2 : (nsT (pre0 ++ [x0, u.length])).take (pre0.length + 1) = nsT (pre0 ++ [x0]) := by
          rw [nsT_take, show pre0 ++ [x0, u.length] = pre0 ++ [x0] ++ [u.length] by simp]
          congr 1
          exact List.take_left' (by simp)
        have hst : (nsT (pre0 ++ [x0]))[pre0.length]? = some (.int .i64 (x0 : Int)) := nsT_last pre0 x0
        have hset : (nsT (pre0 ++ [x0])).set pre0.length (.int .i64 ((x0 : Int) + 1)) = nsT (pre0 ++ [x0 + 1]) := nsT_setlast pre0 x0 (x0 + 1)
        refine awp_cond (b := false) (p := 2) (by simp [scal] <;> omega) ?_
        refine awp_skip ?_
        show awp _ _ _ _
        refine awp_seqR (fun K hK => ?_)
        simp (maxSteps := 2000000) (disch := omega) [ints, rows, scal, wr64, wr8, paO, htk2]
        (repeat' first | refine hK _ ?_ | apply And.intro) <;> clear hK K <;> try first | (show chkD _ _ = true; kernel_rfl) | omega | rfl | (simp; done) | (simp; omega)
        refine awp_seqD (by kernel_rfl) (fun K hK => ?_)
        simp (maxSteps := 2000000) (disch := omega) [ints, rows, scal, wr64, wr8, stO, hc0, hsz0]
        (repeat' apply And.intro)
        all_goals (try omega)
        refine call_ruleD (caps := []) (back_fn t u u.length F l S p s (by omega) hp hs (by omega) (by omega) hlev.num.lt) [0, 1, 2, 3] [0, 30000006, 30000007, 30000008] 1 rfl rfl rfl rfl (by kernel_rfl) (by simp) ?_ ?_ (by simp) rfl (by simp) ⟨.inr ⟨rfl, 0, _, _, _, _, _, rfl, rfl, rfl, rfl, rfl⟩, .inl ⟨by omega, by omega⟩, .inl ⟨by omega, by omega⟩, .inl ⟨by omega, by omega⟩, trivial⟩ (by simp [dvH, dvB, ofO, paO, stO]) ?_
        · simp [scal, rows, ints, dvH, dvB, ofO, paO, stO]
        · simp [scal, rows, ints, dvH, dvB, ofO, paO, stO]
        simp (maxSteps := 2000000) (disch := omega) [ints, rows, scal, wr64, wr8, dvH, dvB, ofO, paO, stO]
        (repeat' first | refine hK _ ?_ | apply And.intro) <;> clear hK K <;> try first | (show chkD _ _ = true; kernel_rfl) | omega | rfl | (simp; done) | (simp; omega)
        refine awp_seqR (fun K hK => ?_)
        simp (maxSteps := 2000000) (disch := omega) [ints, rows, scal, wr64, wr8, stO, htk, hsz0]
        (repeat' first | refine hK _ ?_ | apply And.intro) <;> clear hK K <;> try first | (show chkD _ _ = true; kernel_rfl) | omega | rfl | (simp; done) | (simp; omega)
        refine awp_seqR (fun K hK => ?_)
        simp (maxSteps := 2000000) (disch := omega) [ints, rows, scal, wr64, wr8, paO, hst, hset]
        (repeat' first | refine hK _ ?_ | apply And.intro) <;> clear hK K <;> try first | (show chkD _ _ = true; kernel_rfl) | omega | rfl | (simp; done) | (simp; omega)
        refine awp_exit ?_
        refine ⟨_, hI2, hmu, ?_⟩
        refine wk_list [(0, some 0), (1, some 30000006), (2, some 30000007), (3, some 30000008), (4, some 34000006), (5, some 15000006)] rfl ?_ ?_ ?_ ?_
        all_goals try simp [ints, dvB, ofO, paO, stO, rows, dvH, scal, hsz0]
        have hx0 := hI.prem x0 (by simp)
        exact ⟨⟨by omega, by omega⟩, by rw [wr64 _ (by omega) (by omega)]; exact hset⟩
    · have hxl : x < u.length := by omega
      obtain ⟨ok, F', l', S', hA, hadd⟩ := add_fn t u t.length u.length (tabOf t) (tabOf u) F l S (nat_ gens pre.length) x ht hu (by omega) (by omega) hlev.num hlev.cl hgn hxl (by omega)
      have hl' := hA.num.len
      simp only [lnx] at hl'
      refine awp_cond (b := false) (p := 2) (by simp [scal, hx] <;> omega) ?_
      refine awp_skip ?_
      show awp _ _ _ _
      refine awp_seqD (by kernel_rfl) (fun K hK => ?_)
      simp (maxSteps := 2000000) (disch := omega) [ints, rows, scal, wr64, wr8, dvB, paO, stO, ofO]
      (repeat' first | refine hK _ ?_ | apply And.intro) <;> clear hK K <;> try first | (show chkD _ _ = true; kernel_rfl) | omega | rfl | (simp; done) | (simp; omega)
      refine awp_seq ?_
      refine awp_seqD (by kernel_rfl) (fun K hK => ?_)
      simp (maxSteps := 2000000) (disch := omega) [ints, rows, scal, wr64, wr8, paO, hgx, hgk]
      (repeat' apply And.intro)
      all_goals (try omega)
      refine call_ruleD (caps := []) (hadd) [0, 1, 2, 3] [0, 32000006, 32000007, 32000008] 1 rfl rfl rfl rfl (by kernel_rfl) (by simp) ?_ ?_ (by simp) rfl (by simp) ⟨.inr ⟨rfl, 0, _, _, _, _, _, rfl, rfl, rfl, rfl, rfl⟩, .inl ⟨by omega, by omega⟩, .inl ⟨by omega, by omega⟩, .inl ⟨by omega, by omega⟩, trivial⟩ (by simp [dvH, dvB, ofO, paO, stO]) ?_
      · simp [scal, rows, ints, dvH, dvB, ofO, paO, stO]
      · simp [scal, rows, ints, dvH, dvB, ofO, paO, stO]
      simp (maxSteps := 2000000) (disch := omega) [ints, rows, scal, wr64, wr8, dvH, dvB, ofO, paO, stO]
      (repeat' first | refine hK _ ?_ | apply And.intro) <;> clear hK K <;> try first | (show chkD _ _ = true; kernel_rfl) | omega | rfl | (simp; done) | (simp; omega)
      cases ok with
      | true =>
        refine awp_cond (b := true) (p := 2) (by simp [scal] <;> omega) ?_
        refine awp_seq ?_
        refine awp_seqR (fun K hK => ?_)
        simp (maxSteps := 2000000) (disch := omega) [ints, rows, scal, wr64, wr8]
        (repeat' first | refine hK _ ?_ | apply And.intro) <;> clear hK K <;> try first | (show chkD _ _ = true; kernel_rfl) | omega | rfl | (simp; done) | (simp; omega)
        by_cases hfull : pre.length + 1 = gens.length
        · refine awp_cond (b := true) (p := 2) (by simp [scal, hfull] <;> omega) ?_
          refine awp_seq ?_
          refine awp_seqR (fun K hK => ?_)
          simp (maxSteps := 2000000) (disch := omega) [ints, rows, scal, wr64, wr8]
          (repeat' first | refine hK _ ?_ | apply And.intro) <;> clear hK K <;> try first | (show chkD _ _ = true; kernel_rfl) | omega | rfl | (simp; done) | (simp; omega)
          by_cases hbe : tried = budget
          · refine awp_cond (b := true) (p := 2) (by simp [scal, hbe] <;> omega) ?_
            refine awp_seqR (fun K hK => ?_)
            simp (maxSteps := 2000000) (disch := omega) [ints, rows, scal, wr64, wr8]
            (repeat' first | refine hK _ ?_ | apply And.intro) <;> clear hK K <;> try first | (show chkD _ _ = true; kernel_rfl) | omega | rfl | (simp; done) | (simp; omega)
            refine awp_ret ?_
            refine ⟨_, ⟨[], 0, 7, hI.full hxl hfull hbe, rfl⟩, ?_⟩
            refine ⟨⟨.inr rfl, _, [], rfl, trivial, trivial, by simp [findT], ?_⟩, by simp [findT]⟩
            simp [findT]
          · refine awp_cond (b := false) (p := 2) (by simp [scal, hbe] <;> omega) ?_
            refine awp_skip ?_
            show awp _ _ _ _
            refine awp_seqR (fun K hK => ?_)
            simp (maxSteps := 2000000) (disch := omega) [ints, rows, scal, wr64, wr8]
            (repeat' first | refine hK _ ?_ | apply And.intro) <;> clear hK K <;> try first | (show chkD _ _ = true; kernel_rfl) | omega | rfl | (simp; done) | (simp; omega)
            refine awp_ret ?_
            refine ⟨_, ⟨pre ++ [x], tried + 1, 0, hI.found hxl hfull hbe ((hI.stk.add hu.lt hxl hA).lev.ok ht.lt hu.lt aT aU), rfl⟩, ?_⟩
            refine ⟨⟨.inr rfl, _, [], rfl, trivial, trivial, by simp [findT, paO], ?_⟩, by simp [findT, paO]⟩
            simp [findT, paO]
        · obtain ⟨hI2, hmu⟩ := hI.push hu.lt hxl hfull hA
          have hsz1 : prT sizes ++ [.int .i64 (l.length : Int), .int .i64 (S.length : Int)] = prT (sizes ++ [(l.length, S.length)]) := by rw [prT_app]; rfl
          have him1 : nsT (pre ++ [x]) ++ [.int .i64 0] = nsT (pre ++ [x, 0]) := by rw [show pre ++ [x, 0] = pre ++ [x] ++ [0] by simp, nsT_app (pre ++ [x])]; rfl
          refine awp_cond (b := false) (p := 2) (by simp [scal, hfull] <;> omega) ?_
          refine awp_skip ?_
          show awp _ _ _ _
          refine awp_seqR (fun K hK => ?_)
          simp (maxSteps := 2000000) (disch := omega) [ints, rows, scal, wr64, wr8, stO, hsz1]
          (repeat' first | refine hK _ ?_ | apply And.intro) <;> clear hK K <;> try first | (show chkD _ _ = true; kernel_rfl) | omega | rfl | (simp; done) | (simp; omega)
          refine awp_seqR (fun K hK => ?_)
          simp (maxSteps := 2000000) (disch := omega) [ints, rows, scal, wr64, wr8, paO, him1]
          (repeat' first | refine hK _ ?_ | apply And.intro) <;> clear hK K <;> try first | (show chkD _ _ = true; kernel_rfl) | omega | rfl | (simp; done) | (simp; omega)
          refine awp_exit ?_
          refine ⟨_, hI2, hmu, ?_⟩
          refine wk_list [(0, some 0), (1, some 32000006), (2, some 32000007), (3, some 32000008), (4, some 4), (5, some 5)] rfl ?_ ?_ ?_ ?_
          all_goals try simp [ints, dvB, ofO, paO, stO, rows, dvH, scal]
          · omega
          · exact hsz1
      | false =>
        have hno := hlev.bad hA
        have hpow := power_fn u.length (gens.length - 1 - pre.length) (budget + 1) hu0 (by omega) (by omega) (by omega)
        obtain ⟨-, -, -, hal1, hal2⟩ := add_alike hlev.num hA
        have hS' : S'.length ≤ 100000 := by
          rcases hA.stp with e | e <;> rw [e]
          · omega
          · simp; omega
        have hset : (nsT (pre ++ [x])).set pre.length (.int .i64 ((x : Int) + 1)) = nsT (pre ++ [x + 1]) := nsT_setlast pre x (x + 1)
        have hsub : (gens.length : Int) - 1 - (pre.length : Int) = ((gens.length - 1 - pre.length : Nat) : Int) := by omega
        have hplt : powL u.length (gens.length - 1 - pre.length) (budget + 1) ≤ budget + 1 := by unfold powL; omega
        refine awp_cond (b := false) (p := 2) (by simp [scal] <;> omega) ?_
        refine awp_skip ?_
        show awp _ _ _ _
        refine awp_seqR (fun K hK => ?_)
        simp (maxSteps := 2000000) (disch := omega) [ints, rows, scal, wr64, wr8]
        (repeat' apply And.intro)
        all_goals (try omega)
        refine call_rule (caps := []) (back_fn t u u.length F' l' S' l.length S.length (by omega) hal1 hal2 (by omega) hS' hA.num.lt) [0, 32000006, 32000007, 32000008] [0, 36000006, 36000007, 36000008] 1 rfl rfl rfl rfl (by kernel_rfl) (by simp) ?_ ?_ (by simp) rfl (by simp) ⟨.inr ⟨rfl, 0, _, _, _, _, _, rfl, rfl, rfl, rfl, rfl⟩, .inl ⟨by omega, by omega⟩, .inl ⟨by omega, by omega⟩, .inl ⟨by omega, by omega⟩, trivial⟩ (by simp [dvH, dvB, ofO, paO, stO]) ?_
        · simp [scal, rows, ints, dvH, dvB, ofO, paO, stO]
        · simp [scal, rows, ints, dvH, dvB, ofO, paO, stO]
        simp (maxSteps := 2000000) (disch := omega) [ints, rows, scal, wr64, wr8, dvH, dvB, ofO, paO, stO]
        (repeat' first | refine hK _ ?_ | apply And.intro) <;> clear hK K <;> try first | (show chkD _ _ = true; kernel_rfl) | omega | rfl | (simp; done) | (simp; omega)
        refine awp_seqR (fun K hK => ?_)
        simp (maxSteps := 2000000) (disch := omega) [ints, rows, scal, wr64, wr8, paO, hgx, hset]
        (repeat' first | refine hK _ ?_ | apply And.intro) <;> clear hK K <;> try first | (show chkD _ _ = true; kernel_rfl) | omega | rfl | (simp; done) | (simp; omega)
        refine awp_seqR (fun K hK => ?_)
        simp (maxSteps := 2000000) (disch := omega) [ints, rows, scal, wr64, wr8, hsub]
        (repeat' apply And.intro)
        all_goals (try omega)
        refine call_rule (caps := []) (hpow) [] [] 2 rfl rfl rfl rfl (by kernel_rfl) (by simp) ?_ trivial trivial rfl trivial trivial (by simp) ?_
        · simp [scal, rows, ints]
        simp (maxSteps := 2000000) (disch := omega) [ints, rows, scal, wr64, wr8]
        (repeat' first | refine hK _ ?_ | apply And.intro) <;> clear hK K <;> try first | (show chkD _ _ = true; kernel_rfl) | omega | rfl | (simp; done) | (simp; omega)
        refine awp_seqR (fun K hK => ?_)
        simp (maxSteps := 2000000) (disch := omega) [ints, rows, scal, wr64, wr8]
        (repeat' first | refine hK _ ?_ | apply And.intro) <;> clear hK K <;> try first | (show chkD _ _ = true; kernel_rfl) | omega | rfl | (simp; done) | (simp; omega)
        by_cases hout : budget < tried + powL u.length (gens.length - 1 - pre.length) (budget + 1)
        · refine awp_cond (b := true) (p := 2) (by simp [scal, hout] <;> omega) ?_
          refine awp_seqR (fun K hK => ?_)
          simp (maxSteps := 2000000) (disch := omega) [ints, rows, scal, wr64, wr8]
          (repeat' first | refine hK _ ?_ | apply And.intro) <;> clear hK K <;> try first | (show chkD _ _ = true; kernel_rfl) | omega | rfl | (simp; done) | (simp; omega)
          refine awp_ret ?_
          refine ⟨_, ⟨[], 0, 7, hI.out hxl hno hout, rfl⟩, ?_⟩
          refine ⟨⟨.inr rfl, _, [], rfl, trivial, trivial, by simp [findT], ?_⟩, by simp [findT]⟩
          simp [findT]
        · obtain ⟨hI2, hmu⟩ := hI.next hu.lt hxl hno hout hA
          refine awp_cond (b := false) (p := 2) (by simp [scal, hout] <;> omega) ?_
          refine awp_skip ?_
          refine ⟨_, hI2, hmu, ?_⟩
          refine wk_list [(0, some 0), (1, some 36000006), (2, some 36000007), (3, some 36000008), (4, some 4), (5, some 5)] rfl ?_ ?_ ?_ ?_
          all_goals try simp [ints, dvB, ofO, paO, stO, rows, dvH, scal]
          exact ⟨by omega, by omega⟩
def findU (r : List Nat) (c : Nat) (e : Int) : AV := .tup [.t 2 (ints (natsOf r)), .t 2 (.int .i64 (c : Int)), .t 2 (.int .i64 e)]
theorem nsT_ints (r : List Nat) : T.sl 1 (nsT r) = ints (natsOf r) := by
  unfold nsT ints natsOf
  rw [List.map_map]
  rfl
theorem findT_U {r : List Nat} {c : Nat} {e : Int} (h : e ≠ 0 → r = []) {E : Ev} {v : Value} (hv : VR E v (findT r c e)) : VR E v (findU r c e) := by
  by_cases he : e = 0
  · unfold findT at hv
    rw [if_pos he, nsT_ints] at hv
    exact hv
  · rw [h he]
    unfold findT at hv
    rw [if_neg he] at hv
    cases hv with
    | tup vs cs hn hr =>
      refine .tup vs _ hn (fun i a hi => ?_)
      rcases i with _ | i
      · simp at hi; subst hi
        exact (hr 0 _ rfl).nilz 1
      · exact hr (i + 1) a hi
theorem findD_fn (t u : List (List Int)) (gens : List Int) (budget : Nat) (v1 : vErr t = 0) (vg : gensB t gens = true) (v2 : vErr u = 0) (hb1 : 1 ≤ budget) (hb : budget ≤ 100000) (hg0 : 0 < gens.length) (hgl : gens.length ≤ 1000) :
    ∃ r c e, FindR (tabOf t) (tabOf u) gens u.length budget r c e ∧ FnA Try.prog 45 [.t 1 (rows t), .t 1 (ints gens), .t 1 (rows u), .t 2 (.int .i64 budget)] (findU r c e) := by
  obtain ⟨res, ⟨r, c, e, h1, rfl⟩, h2⟩ := find_fn0 t u gens budget v1 vg v2 hb1 hb hg0 hgl
  refine ⟨r, c, e, h1, FnS.res h2 (fun E v hv => findT_U (fun he => ?_) hv)⟩
  rcases h1 with ⟨h, _⟩ | ⟨_, h, _⟩ | ⟨_, h, _⟩
  · exact absurd h he
  · exact h
  · exact h
end Go.Proofs.Ytgghmjnbkbiffaa.M
