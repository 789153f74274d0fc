/-
  Contracts of functions that keep several objects; calls of such functions in drawn regions that leave all objects as they were.
-/
import Derived.Test.YtghnmmfkckneaaaGreatZsam
namespace Go.Proofs.YtghnmmfkckneaaaGreat.M
open Go.RowKit
set_option linter.unusedVariables false

def KepO (H H' : List AObj) (k : Nat) (g : AV) : Prop :=
 (∃ (c ty : Nat) (cs : List AV) (ty' : Nat) (cs' : List AV), g = .ptr k 0 c ∧ H[k]? = some (.box ty cs) ∧ cs.length = c ∧ H'[k]? = some (.box ty' cs') ∧ cs'.length = c) ∨
 (∃ (n e0 z0 p0 : Nat) (cs0 : List T) (e1 z1 p1 : Nat) (cs1 : List T), g = .own k n ∧ H[k]? = some (.row e0 z0 p0 cs0) ∧ cs0.length = n ∧ H'[k]? = some (.row e1 z1 p1 cs1) ∧ cs1.length = n)
theorem fn_introKG {P : Program} {f : FuncId} {fn : Func} {cd : Code} {args : List AV} {H H' : List AObj} {res : AV} (gs : List (Nat × AV))
  (hk : ∀ (j : Nat) p, gs[j]? = some p → KepO H H' p.1 p.2)
  (hf : P.funcs[f]? = some fn) (hb : fn.body = some cd) (hle : args.length ≤ fn.ntmps) (h : awp P cd (fun e σ => resQ P fn.results.toList res H' e σ ∧ σ.gh = ghA args ++ gs.map (·.2)) { argS args H fn.ntmps with gh := ghA args ++ gs.map (·.2) }) : FnK P f args H res H' (gs.map (·.1)) := by
 intro w V ob vs hm hn hv
 refine calls_of_wp hf hb ?_
 obtain ⟨e, σ', h1, hq, hga⟩ := h
 obtain ⟨mm, un, he, hwh, hmp, hgh, l, hl, hmm⟩ := resQ_G hq
 have hga0 : (ghA args).length = args.length := by simp [ghA]
 obtain ⟨gv, hgv⟩ : ∃ gv : Nat → Value, gv = fun i => if i < args.length then vs.getD i undef else (((gs[i - args.length]?).bind fun p => ob p.1).map Prod.fst).getD undef := ⟨_, rfl⟩
 have hrel : Rel w V (OB ob) gv { argS args H fn.ntmps with gh := ghA args ++ gs.map (·.2) } { tmps := vs ++ Array.replicate (fn.ntmps - vs.size) undef, defers := [] } w := by
  refine ⟨ob, hm, fun t => ?_, rfl, by simp [argS]; omega, fun i d hi => ?_⟩
  ·show VR _ _ (args.getD t .any)
   cases hq : args[t]? with
   | none => simp [hq]; exact .any _
   | some c =>
    have hlt : t < vs.size := by rw [hn]; exact (List.getElem?_eq_some_iff.1 hq).1
    have h1 := hv t c hq
    have e : (vs ++ Array.replicate (fn.ntmps - vs.size) undef).getD t undef = vs.getD t undef := by
     simp only [Array.getD, Array.size_append, Array.size_replicate, hlt, dif_pos, show t < vs.size + (fn.ntmps - vs.size) by omega]
     exact Array.getElem_append_left hlt
    rw [e]
    simp only [hq, List.getD_eq_getElem?_getD, Option.getD_some]
    exact h1
  ·have hi : (ghA args ++ gs.map (·.2))[i]? = some d := hi
   by_cases hlt : i < args.length
   ·rw [List.getElem?_append_left (by omega)] at hi
    rw [hgv]
    simp only [hlt, if_true]
    unfold ghA at hi
    rw [List.getElem?_map] at hi
    cases hq : args[i]? with
    | none => rw [hq] at hi; cases hi
    | some a =>
     rw [hq] at hi
     simp only [Option.map_some, Option.some.injEq] at hi
     subst hi
     have h1 := hv i a hq
     cases a <;> first | exact h1 | exact .any _
   ·rw [List.getElem?_append_right (by omega), hga0, List.getElem?_map] at hi
    cases hp : gs[i - args.length]? with
    | none => rw [hp] at hi; cases hi
    | some p =>
     rw [hp] at hi
     simp only [Option.map_some, Option.some.injEq] at hi
     subst hi
     rw [hgv]
     simp only [hlt, if_false, hp, Option.bind_some]
     rcases hk _ p hp with ⟨c, ty, cs, ty', cs', e0, e1, e2, -, -⟩ | ⟨n, q0, z0, p0, cs0, q1, z1, p1, cs1, e0, e1, e2, -, -⟩
     ·obtain ⟨-, u, e3, b, bs, rfl, -, -⟩ := hm.obj p.1 _ e1
      have e3 : ob p.1 = some (.pointer (some ⟨b, 0, none⟩), cs.length) := e3
      rw [e0, e3]
      simp only [Option.map_some, Option.getD_some]
      refine .ptr _ _ 0 _ rfl (List.getElem?_eq_some_iff.1 e1).1 (fun u' n' hu' => ?_)
      have hu' : ob p.1 = some (u', n') := hu'
      rw [e3] at hu'
      simp only [Option.some.injEq, Prod.mk.injEq] at hu'
      obtain ⟨rfl, rfl⟩ := hu'
      exact ⟨by omega, fun _ => ⟨b, rfl, rfl⟩⟩
     ·obtain ⟨-, u, hob, hor⟩ := hm.obj p.1 _ e1
      have hu1 : u.oneCell' = true := by
       obtain ⟨-, -, m', vs', how, -⟩ := hor
       rcases how.2 with ⟨rfl, -⟩ | ⟨g, cap, cur, rfl, -⟩ <;> rfl
      have hob : ob p.1 = some (u, cs0.length) := hob
      rw [e0, hob]
      simp only [Option.map_some, Option.getD_some]
      refine .own u p.1 n hu1 (List.getElem?_eq_some_iff.1 e1).1 (fun u' n' hu' => ?_)
      have hu' : ob p.1 = some (u', n') := hu'
      rw [hob] at hu'
      simp only [Option.some.injEq, Prod.mk.injEq] at hu'
      obtain ⟨rfl, rfl⟩ := hu'
      exact ⟨by omega, fun _ => rfl⟩
 refine wp_mono (h1 w V _ _ _ w hrel) ?_
 rintro e' a w' ⟨rfl, ob2, m1, m2, m3, m4, m5⟩
 obtain ⟨rs, r1, r2, r3⟩ := results_run (P := P) m1 m2 fn.results.toList l hl
 have hm2 := m1.wk (nx := H'.length) (fun id o ho => ⟨(List.getElem?_eq_some_iff.1 ho).1, hwh id o ho⟩) hmp
 have hgall : ∀ (i : Nat) d, (ghA args ++ gs.map (·.2))[i]? = some d → VR (evOf w.heap.size V (obW ob2 (fun k => H'[k]?) mm) (fun k => k < H'.length) w') (gv i) d := fun i d hi => by
  obtain ⟨a', ha, hac⟩ := (wkPs_get hgh).2 i d (by rw [hga]; exact hi)
  exact (m5 i a' ha).wk m1 hmp d hac
 have hkeep : ∀ (j : Nat) p, gs[j]? = some p → obW ob2 (fun k => H'[k]?) mm p.1 = ob p.1 := fun j p hp => by
  have q := hgall (args.length + j) p.2 (by rw [List.getElem?_append_right (by omega), hga0, Nat.add_sub_cancel_left, List.getElem?_map, hp]; rfl)
  have e3 : gv (args.length + j) = ((ob p.1).map Prod.fst).getD undef := by
   rw [hgv]
   simp only [show ¬ (args.length + j < args.length) by omega, if_false, Nat.add_sub_cancel_left, hp]
   rfl
  rw [e3] at q
  rcases hk _ p hp with ⟨c, ty, cs, ty', cs', e0, e1, e2, e4, e5⟩ | ⟨n, q0, z0, p0, cs0, q1, z1, p1, cs1, e0, e1, e2, e4, e5⟩
  ·obtain ⟨-, u, hb, b, bs, rfl, -, -⟩ := hm.obj p.1 _ e1
   have hb : ob p.1 = some (.pointer (some ⟨b, 0, none⟩), cs.length) := hb
   obtain ⟨-, u', g1, b', bs', rfl, -, -⟩ := hm2.obj p.1 _ e4
   rw [hb, e0] at q
   simp only [Option.map_some, Option.getD_some] at q
   generalize hv0 : Value.pointer (some ⟨b, 0, none⟩) = v0 at q
   cases q with
   | ptr v id off c' g0 hU hh =>
    obtain ⟨b0, x1, x2⟩ := (hh _ _ g1).2 (by simp [AObj.cnt, e5])
    rw [← hv0] at x2
    simp only [blk, Option.some.injEq] at x1
    simp only [Value.pointer.injEq, Option.some.injEq, Addr.mk.injEq] at x2
    rw [g1, hb]
    have : b' = b := by omega
    rw [this]
    simp [AObj.cnt, e5, e2]
  ·obtain ⟨-, u, hob, -⟩ := hm.obj p.1 _ e1
   have hob : ob p.1 = some (u, cs0.length) := hob
   obtain ⟨-, u', g1, -⟩ := hm2.obj p.1 _ e4
   rw [hob, e0] at q
   simp only [Option.map_some, Option.getD_some] at q
   cases q with
   | own v id c g2 hU hh =>
    have := (hh u' _ g1).2 (by simp [AObj.cnt, e5])
    rw [g1, hob, this]
    simp [AObj.cnt, e5, e2]
 have fin : a.defers = [] ∧ ∃ v, (results fn a.tmps).run P w' = .ok v w' ∧ ∃ v' ob', Ending.returned v = .returned v' ∧ MR w V (OB ob) (fun k => k < H'.length) (fun k => H'[k]?) ob' w' ∧ VR (evOf w.heap.size V ob' (fun k => k < H'.length) w') v' res ∧ GhR (evOf w.heap.size V ob' (fun k => k < H'.length) w') (fun i => vs.getD i undef) (ghA args) ∧ ∀ j, j ∈ gs.map (·.1) → ob' j = ob j := by
  refine ⟨m3, ?_⟩
  have hrun : (results fn a.tmps).run P w' = .ok (if h : rs.toArray.size = 1 then rs.toArray[0] else .tuple rs.toArray) w' := by
   rw [results_eq, Array.mapM_eq_mapM_toList]
   simp [r1]
  refine ⟨_, hrun, _, _, rfl, hm2, ?_, fun i d hi => ?_, fun j hj => by
   obtain ⟨p, hp, rfl⟩ := List.mem_map.1 hj
   obtain ⟨t, ht, e⟩ := List.getElem_of_mem hp
   exact hkeep t p (by rw [List.getElem?_eq_getElem ht, e])⟩
  ·split at hmm
   ·rename_i x
    have hl1 : rs.length = 1 := by simpa using r2
    obtain ⟨v, rfl⟩ : ∃ v, rs = [v] := by
     cases rs with
     | nil => simp at hl1
     | cons v r => cases r with
      | nil => exact ⟨v, rfl⟩
      | cons _ _ => simp at hl1
    exact (r3 0 v x rfl rfl).wk m1 hmp res hmm
   ·rename_i l' bs hne
    obtain ⟨e1, e2⟩ := wkPs_get hmm.2
    have hl1 : ¬ rs.toArray.size = 1 := by simp; omega
    rw [dif_neg hl1]
    refine .tup _ _ (by simp; omega) (fun i b hi => ?_)
    obtain ⟨x, hx, hxb⟩ := e2 i b hi
    have hlt : i < rs.length := by rw [r2]; exact (List.getElem?_eq_some_iff.1 hx).1
    have := (r3 i rs[i] x (by simp) hx).wk m1 hmp b hxb
    have e : rs.toArray.getD i undef = rs[i] := by simp [Array.getD, hlt]
    rw [e]
    exact this
   ·exact hmm.elim
  ·have hlt : i < args.length := by rw [← hga0]; exact (List.getElem?_eq_some_iff.1 hi).1
   have := hgall i d (by rw [List.getElem?_append_left (by omega)]; exact hi)
   rw [hgv] at this
   simpa [hlt] using this
 rcases he with rfl | rfl <;> exact fin

def sameL (Hc : Nat → Option AObj) : List Nat → List AObj → Prop
 | [], [] => True
 | k :: r, x :: xs => Hc k = some x ∧ sameL Hc r xs
 | _, _ => False
theorem sameL_get {Hc : Nat → Option AObj} : ∀ {pi : List Nat} {xs : List AObj}, sameL Hc pi xs → ∀ (j : Nat) k, pi[j]? = some k → Hc k = xs[j]?
 | [], [], _, j, k, h => by simp at h
 | a :: r, [], h, j, k, _ => h.elim
 | [], _ :: _, h, j, k, _ => h.elim
 | a :: r, x :: xs, h, 0, k, hk => by
  simp only [List.getElem?_cons_zero, Option.some.injEq] at hk ⊢
  rw [← hk]
  exact h.1
 | a :: r, x :: xs, h, j + 1, k, hk => by
  simp only [List.getElem?_cons_succ] at hk ⊢
  exact sameL_get h.2 j k hk
theorem call_ruleDS {P : Program} {ops : Array Oper} {i : Nat} {o : Oper} {σ : ASt} {K : ASt → List Nat × List Nat → Prop} {cl : Call} {fo : Operand} {f : FuncId} {caps : List AV} {args : List AV} {H H' : List AObj} {res : AV} {kp : List Nat} (hspec : FnK P f args H res H' kp) (pi : List Nat) (q : Nat) {d : Tmp} (hdst : o.dst = some d)
  (hg : gd ops σ o = some true) (hop : o.op = .call cl) (hc : cl.callee = .value fo) (hfo : σ.eval fo = .fn f caps) (hb : bodied P f = true) (hd : dstOk σ o = true)
  (hargs : inPs σ.heap pi q (cl.args.toList.map σ.eval ++ caps) args) (hobj : inOs σ.heap pi q pi H) (hndi : ndL pi) (hlen : pi.length = H'.length) (hpo : poOkK kp i pi args H H' 0 pi) (hok : H'.all okO = true)
  (hsame : sameL σ.heap pi (H'.map (outO pi q)))
  (hK : K { σ with env := upd σ.env d (outV pi q res) } (pi ++ refsVs (cl.args.toList.map σ.eval ++ caps) ++ pi.flatMap (refsO σ.heap), [])) : awpCallD P ops i o σ K := by
 refine ⟨⟨outV pi q res, [], pi ++ refsVs (cl.args.toList.map σ.eval ++ caps) ++ pi.flatMap (refsO σ.heap)⟩, fun σ2 q1 q2 q3 => ?_, ?_⟩
 ·have hev := eval_local q1
  have heq : callS σ2 o.dst pi pi q res H' = appU σ2 o.dst ⟨outV pi q res, [], pi ++ refsVs (cl.args.toList.map σ.eval ++ caps) ++ pi.flatMap (refsO σ.heap)⟩ := by
   refine ASt.ext' (fun t => rfl) (fun k => ?_) rfl rfl rfl
   show heap2 σ2.heap H' pi pi q k = σ2.heap k
   rw [heap2_eq hlen]
   cases hx : idx pi k with
   | none =>
    have hnk : k ∉ pi := fun hm => by
     obtain ⟨j, hj, e⟩ := List.getElem_of_mem hm
     have := idx_of hndi (show pi[j]? = some k by rw [List.getElem?_eq_getElem hj, e])
     rw [hx] at this
     cases this
    simp only [hnk, if_false]
   | some j =>
    have hpk := idx_get hx
    have hs := sameL_get hsame j k hpk
    rw [q2 k (by simp only [List.mem_append]; exact .inl (.inl (List.mem_of_getElem? hpk))), hs, List.getElem?_map]
  rw [← heq]
  have hops : ∀ x, x ∈ cl.args.toList → σ2.eval x = σ.eval x := fun x hx => hev x (by rw [hop]; simp [Op.operands, Call.operands]; exact .inr (by simpa using hx))
  have hmap : cl.args.toList.map σ2.eval = cl.args.toList.map σ.eval := List.map_congr_left hops
  have hfo2 : σ2.eval fo = .fn f caps := by rw [hev fo (by rw [hop]; simp [Op.operands, Call.operands, hc])]; exact hfo
  refine call_okK pi pi q (by rw [gd_local q1 q3]; exact hg) hop hc hfo2 hb hspec (by rw [dstOk_local q3]; exact hd) ?_ ?_ hndi hlen hndi hpo hok
  ·rw [hmap]
   exact inPs_local _ _ hargs (fun k hk => q2 k (by simp only [List.mem_append]; exact .inl (.inr hk)))
  ·exact inOs_local hobj (fun k hk => q2 k (by simp only [List.mem_append]; exact .inl (.inl hk))) (fun k hk j hj => q2 j (by simp only [List.mem_append, List.mem_flatMap]; exact .inr ⟨k, hk, hj⟩))
 ·have : appU σ o.dst ⟨outV pi q res, [], pi ++ refsVs (cl.args.toList.map σ.eval ++ caps) ++ pi.flatMap (refsO σ.heap)⟩ = { σ with env := upd σ.env d (outV pi q res) } := by
   refine ASt.ext' (fun t => ?_) (fun k => rfl) rfl rfl rfl
   rw [hdst]
   rfl
  rw [this]
  simpa using hK
end Go.Proofs.YtghnmmfkckneaaaGreat.M
