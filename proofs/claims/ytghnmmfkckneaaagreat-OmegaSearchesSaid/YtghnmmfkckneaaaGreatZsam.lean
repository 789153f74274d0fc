/-
  Contracts that say which own rows are the same as before.
  Calls by contracts that keep rows: a kept row keeps its number.
  Contracts of functions that are handed pointers to variables inside a function value: the variables are the same as before.
-/
import Derived.Test.YtghnmmfkckneaaaGreatZsaf
namespace Go.Proofs.YtghnmmfkckneaaaGreat.M
open Go.RowKit
set_option linter.unusedVariables false

def FnK (P : Program) (f : FuncId) (args : List AV) (H : List AObj) (res : AV) (H' : List AObj) (kp : List Nat) : Prop := ∀ (w : World) (V : Nat → Prop) (ob : Nat → Option (Value × Nat)) (vs : Array Value), MR w V (OB ob) (fun k => k < H.length) (fun k => H[k]?) ob w → vs.size = args.length →
 (∀ (i : Nat) c, args[i]? = some c → VR (evOf w.heap.size V ob (fun k => k < H.length) w) (vs.getD i undef) c) →
 Calls P f vs w (fun e w' => ∃ v ob', e = .returned v ∧ MR w V (OB ob) (fun k => k < H'.length) (fun k => H'[k]?) ob' w' ∧ VR (evOf w.heap.size V ob' (fun k => k < H'.length) w') v res ∧ GhR (evOf w.heap.size V ob' (fun k => k < H'.length) w') (fun i => vs.getD i undef) (ghA args) ∧ ∀ j, j ∈ kp → ob' j = ob j)

set_option linter.unusedSimpArgs false
theorem fn_introK {P : Program} {f : FuncId} {fn : Func} {c : Code} {args : List AV} {H H' : List AObj} {res : AV} (k n : Nat) {e0 z0 p0 e1 z1 p1 : Nat} {cs0 cs1 : List T} (hk : H[k]? = some (.row e0 z0 p0 cs0)) (hk' : H'[k]? = some (.row e1 z1 p1 cs1)) (hn0 : cs0.length = n) (hn1 : cs1.length = n)
  (hf : P.funcs[f]? = some fn) (hb : fn.body = some c) (hle : args.length ≤ fn.ntmps) (h : awp P c (fun e σ => resQ P fn.results.toList res H' e σ ∧ σ.gh = ghA args ++ [.own k n]) { argS args H fn.ntmps with gh := ghA args ++ [.own k n] }) : FnK P f args H res H' [k] := by
 intro w V ob vs hm hn hv
 refine calls_of_wp hf hb ?_
 obtain ⟨e, σ', h1, hq, hga⟩ := h
 obtain ⟨m, un, he, hwh, hmp, hgh, l, hl, hmm⟩ := resQ_G hq
 obtain ⟨-, u, hob, hor⟩ := hm.obj k _ hk
 have hu1 : u.oneCell' = true := by
  obtain ⟨-, -, m', vs', how, -⟩ := hor
  rcases how.2 with ⟨rfl, -⟩ | ⟨g, cap, cur, rfl, -⟩ <;> rfl
 have hga0 : (ghA args).length = args.length := by simp [ghA]
 obtain ⟨gv, hgv⟩ : ∃ gv : Nat → Value, gv = fun i => if i < args.length then vs.getD i undef else u := ⟨_, rfl⟩
 have hrel : Rel w V (OB ob) gv { argS args H fn.ntmps with gh := ghA args ++ [.own k n] } { tmps := vs ++ Array.replicate (fn.ntmps - vs.size) undef, defers := [] } w := by
  refine ⟨ob, hm, fun t => ?_, rfl, by simp [argS]; omega, fun i c hi => ?_⟩
  ·show VR _ _ (args.getD t .any)
   cases hq : args[t]? with
   | none => simp [hq]; exact .any _
   | some c =>
    have hlt : t < vs.size := by rw [hn]; exact (List.getElem?_eq_some_iff.1 hq).1
    have h1 := hv t c hq
    have e : (vs ++ Array.replicate (fn.ntmps - vs.size) undef).getD t undef = vs.getD t undef := by
     simp only [Array.getD, Array.size_append, Array.size_replicate, hlt, dif_pos, show t < vs.size + (fn.ntmps - vs.size) by omega]
     exact Array.getElem_append_left hlt
    rw [e]
    simp only [hq, List.getD_eq_getElem?_getD, Option.getD_some]
    exact h1
  ·have hi : (ghA args ++ [AV.own k n])[i]? = some c := hi
   by_cases hlt : i < args.length
   ·rw [List.getElem?_append_left (by omega)] at hi
    rw [hgv]
    simp only [hlt, if_true]
    unfold ghA at hi
    rw [List.getElem?_map] at hi
    cases hq : args[i]? with
    | none => rw [hq] at hi; cases hi
    | some a =>
     rw [hq] at hi
     simp only [Option.map_some, Option.some.injEq] at hi
     subst hi
     have h1 := hv i a hq
     cases a <;> first | exact h1 | exact .any _
   ·rw [List.getElem?_append_right (by omega)] at hi
    obtain ⟨d, hd⟩ : ∃ d, d = i - (ghA args).length := ⟨_, rfl⟩
    rw [← hd] at hi
    rcases d with _ | d
    ·simp at hi
     subst hi
     rw [hgv]
     simp only [hlt, if_false]
     refine .own u k n hu1 (List.getElem?_eq_some_iff.1 hk).1 (fun u' n' hu' => ?_)
     have hu' : ob k = some (u', n') := hu'
     rw [hob] at hu'
     simp only [Option.some.injEq, Prod.mk.injEq, AObj.cnt] at hu'
     obtain ⟨rfl, rfl⟩ := hu'
     exact ⟨by omega, fun _ => rfl⟩
    ·simp at hi
 refine wp_mono (h1 w V _ _ _ w hrel) ?_
 rintro e' a w' ⟨rfl, ob2, m1, m2, m3, m4, m5⟩
 obtain ⟨rs, r1, r2, r3⟩ := results_run (P := P) m1 m2 fn.results.toList l hl
 have hm2 := m1.wk (nx := H'.length) (fun id o ho => ⟨(List.getElem?_eq_some_iff.1 ho).1, hwh id o ho⟩) hmp
 have hgall : ∀ (i : Nat) c, (ghA args ++ [AV.own k n])[i]? = some c → VR (evOf w.heap.size V (obW ob2 (fun k => H'[k]?) m) (fun k => k < H'.length) w') (gv i) c := fun i c hi => by
  obtain ⟨a', ha, hac⟩ := (wkPs_get hgh).2 i c (by rw [hga]; exact hi)
  exact (m5 i a' ha).wk m1 hmp c hac
 have hkeep : obW ob2 (fun k => H'[k]?) m k = ob k := by
  have q := hgall args.length (.own k n) (by rw [List.getElem?_append_right (by omega)]; simp [hga0])
  obtain ⟨-, u', g1, -⟩ := hm2.obj k _ hk'
  have e1 : gv args.length = u := by rw [hgv]; simp
  rw [e1] at q
  cases q with
  | own v id c g2 hU hh =>
   have := (hh u' _ g1).2 (by simp [AObj.cnt, hn1])
   rw [g1, hob, this]
   simp [AObj.cnt, hn0, hn1]
 have fin : a.defers = [] ∧ ∃ v, (results fn a.tmps).run P w' = .ok v w' ∧ ∃ v' ob', Ending.returned v = .returned v' ∧ MR w V (OB ob) (fun k => k < H'.length) (fun k => H'[k]?) ob' w' ∧ VR (evOf w.heap.size V ob' (fun k => k < H'.length) w') v' res ∧ GhR (evOf w.heap.size V ob' (fun k => k < H'.length) w') (fun i => vs.getD i undef) (ghA args) ∧ ∀ j, j ∈ [k] → ob' j = ob j := by
  refine ⟨m3, ?_⟩
  have hrun : (results fn a.tmps).run P w' = .ok (if h : rs.toArray.size = 1 then rs.toArray[0] else .tuple rs.toArray) w' := by
   rw [results_eq, Array.mapM_eq_mapM_toList]
   simp [r1]
  refine ⟨_, hrun, _, _, rfl, hm2, ?_, fun i c hi => ?_, fun j hj => ?_⟩
  ·split at hmm
   ·rename_i x
    have hl1 : rs.length = 1 := by simpa using r2
    obtain ⟨v, rfl⟩ : ∃ v, rs = [v] := by
     cases rs with
     | nil => simp at hl1
     | cons v r => cases r with
      | nil => exact ⟨v, rfl⟩
      | cons _ _ => simp at hl1
    exact (r3 0 v x rfl rfl).wk m1 hmp res hmm
   ·rename_i l' bs hne
    obtain ⟨e1, e2⟩ := wkPs_get hmm.2
    have hl1 : ¬ rs.toArray.size = 1 := by simp; omega
    rw [dif_neg hl1]
    refine .tup _ _ (by simp; omega) (fun i b hi => ?_)
    obtain ⟨x, hx, hxb⟩ := e2 i b hi
    have hlt : i < rs.length := by rw [r2]; exact (List.getElem?_eq_some_iff.1 hx).1
    have := (r3 i rs[i] x (by simp) hx).wk m1 hmp b hxb
    have e : rs.toArray.getD i undef = rs[i] := by simp [Array.getD, hlt]
    rw [e]
    exact this
   ·exact hmm.elim
  ·have hlt : i < args.length := by rw [← hga0]; exact (List.getElem?_eq_some_iff.1 hi).1
   have := hgall i c (by rw [List.getElem?_append_left (by omega)]; exact hi)
   rw [hgv] at this
   simpa [hlt] using this
  ·obtain rfl : j = k := by simpa using hj
   exact hkeep
 rcases he with rfl | rfl <;> exact fin

theorem FnS.K {P : Program} {f : FuncId} {args : List AV} {H : List AObj} {res : AV} {H' : List AObj} {kp : List Nat} (h : FnK P f args H res H' kp) : FnS P f args H res H' := fun w V ob vs hm hn hv => (h w V ob vs hm hn hv).mono fun e w' ⟨v, ob', h1, h2, h3, h4, _⟩ => ⟨v, ob', h1, h2, h3, h4⟩
def poOkK (kp : List Nat) (i : Nat) (pi : List Nat) (args : List AV) (H H' : List AObj) : Nat → List Nat → Prop
 | _, [] => True
 | j, k :: r => ((i ≤ k ∧ k < i + 1000000) ∨ (pi[j]? = some k ∧ ∃ (t c ty : Nat) (cs : List AV) (ty' : Nat) (cs' : List AV), args[t]? = some (AV.ptr j 0 c) ∧ H[j]? = some (AObj.box ty cs) ∧ cs.length = c ∧ H'[j]? = some (AObj.box ty' cs') ∧ cs'.length = c) ∨ (pi[j]? = some k ∧ j ∈ kp ∧ j < H.length)) ∧ poOkK kp i pi args H H' (j + 1) r
theorem poOkK_get {kp : List Nat} {i : Nat} {pi : List Nat} {args : List AV} {H H' : List AObj} : ∀ {po : List Nat} {j0 : Nat}, poOkK kp i pi args H H' j0 po → ∀ (j : Nat) k, po[j]? = some k → (i ≤ k ∧ k < i + 1000000) ∨ (pi[j0 + j]? = some k ∧ ∃ (t c ty : Nat) (cs : List AV) (ty' : Nat) (cs' : List AV), args[t]? = some (AV.ptr (j0 + j) 0 c) ∧ H[j0 + j]? = some (AObj.box ty cs) ∧ cs.length = c ∧ H'[j0 + j]? = some (AObj.box ty' cs') ∧ cs'.length = c) ∨ (pi[j0 + j]? = some k ∧ j0 + j ∈ kp ∧ j0 + j < H.length)
 | [], j0, _, j, k, h => by simp at h
 | a :: r, j0, hp, j, k, h => by
  cases j with
  | zero => simp at h; subst h; exact hp.1
  | succ j =>
   have := poOkK_get hp.2 j k (by simpa using h)
   rw [show j0 + (j + 1) = j0 + 1 + j by omega]
   exact this
theorem call_okK {P : Program} {ops : Array Oper} {i : Nat} {o : Oper} {σ : ASt} {cl : Call} {fo : Operand} {f : FuncId} {caps : List AV} {args : List AV} {H H' : List AObj} {res : AV} {kp : List Nat} (pi po : List Nat) (q : Nat)
  (hg : gd ops σ o = some true) (hop : o.op = .call cl) (hc : cl.callee = .value fo) (hfo : σ.eval fo = .fn f caps) (hb : bodied P f = true) (hspec : FnK P f args H res H' kp) (hd : dstOk σ o = true)
  (hargs : inPs σ.heap pi q (cl.args.toList.map σ.eval ++ caps) args) (hobj : inOs σ.heap pi q pi H) (hndi : ndL pi) (hlen : po.length = H'.length) (hndo : ndL po) (hpo : poOkK kp i pi args H H' 0 po) (hok : H'.all okO = true) :
  OpS P ops i o σ (callS σ o.dst pi po q res H') := by
 intro w0 V S0 gv U a w hR hnew K Q hK
 obtain ⟨ob, m1, m2, m3, m4, m5⟩ := hR
 have hw : Region.wanted o (yielded ops a.tmps) = true := gd_wanted hg m2 m4
 rw [if_pos hw]
 have hfv := VR.eval m2 fo
 rw [hfo] at hfv
 obtain ⟨cvs, hcv, hcn, hcr⟩ : ∃ cvs : Array Value, a.eval fo = .func (.func f) #[] cvs ∧ cvs.size = caps.length ∧ ∀ (j : Nat) c, caps[j]? = some c → VR (evOf w0.heap.size V ob U w) (cvs.getD j undef) c := by
  generalize a.eval fo = v at hfv
  cases hfv with
  | fn f vs cs hn hr => exact ⟨vs, rfl, hn, hr⟩
 have hmi := m1.in_ hobj hndi
 have hpl := (inOs_get hobj).1
 obtain ⟨hal, hag⟩ := inPs_get hargs
 obtain ⟨vs, hvs⟩ : ∃ vs, vs = cl.args.map a.eval ++ cvs := ⟨_, rfl⟩
 have hvn : vs.size = args.length := by rw [hvs, ← hal]; simp [hcn]
 have hvv : ∀ (j : Nat) c, args[j]? = some c → VR (evOf w.heap.size (V1 w0 V ob pi q) (obI ob pi) (fun k => k < H.length) w) (vs.getD j undef) c := fun j c hj => by
  obtain ⟨x, hx, hxc⟩ := hag j c hj
  refine VR.in_ m1 hpl ?_ c hxc
  rw [hvs]
  by_cases hlt : j < cl.args.size
  ·rw [List.getElem?_append_left (by simpa using hlt), List.getElem?_map] at hx
   have e1 : cl.args.toList[j]? = some cl.args[j] := by simp [hlt]
   rw [e1] at hx
   simp only [Option.map_some, Option.some.injEq] at hx
   subst hx
   have e2 : (cl.args.map a.eval ++ cvs).getD j undef = a.eval cl.args[j] := by
    have h3 : j < (cl.args.map a.eval ++ cvs).size := by simp; omega
    simp only [Array.getD, h3, dif_pos]
    show (cl.args.map a.eval ++ cvs)[j] = _
    rw [Array.getElem_append_left (by simpa using hlt)]
    simp
   rw [e2]
   exact VR.eval m2 _
  ·rw [List.getElem?_append_right (by simp; omega)] at hx
   have hx : caps[j - cl.args.size]? = some x := by simpa using hx
   have hlt2 := (List.getElem?_eq_some_iff.1 hx).1
   have e2 : (cl.args.map a.eval ++ cvs).getD j undef = cvs.getD (j - cl.args.size) undef := by
    have h3 : j < (cl.args.map a.eval ++ cvs).size := by simp; omega
    have h4 : j - cl.args.size < cvs.size := by omega
    simp only [Array.getD, h3, h4, dif_pos]
    show (cl.args.map a.eval ++ cvs)[j] = cvs[j - cl.args.size]
    rw [Array.getElem_append_right (by simp; omega)]
    simp
   rw [e2]
   exact hcr _ x hx
 have hcall := hspec w (V1 w0 V ob pi q) (obI ob pi) vs hmi hvn hvv
 unfold Oper.wp execOp
 simp only [hop, resolve, hc, invoke, Sem.run_bind]
 rw [hcv]
 simp only [Deferred.ofValue, Sem.run_pure, Result.andThen_ok, Array.empty_append]
 rw [← hvs, enter_of hb]
 show Calls P f vs w _
 refine hcall.mono ?_
 rintro e w' ⟨v, ob1, rfl, hm2, hv2, hgh2, hkp⟩
 have hret : Ret w0 w w' V S0 U σ.heap ob ob1 pi po q i H' := by
  refine ⟨m1, hm2, hlen, hndo, hnew, fun k hk => ?_, fun j k hj => ?_, fun j o' ho' => List.all_eq_true.1 hok o' (List.mem_of_getElem? ho')⟩
  ·obtain ⟨j, hj, hjk⟩ := List.getElem_of_mem hk
   obtain ⟨k', e1, e2⟩ := (inOs_get hobj).2 j (H[j]'(by omega)) (by simp)
   have hkk : k' = k := by
    rw [List.getElem?_eq_getElem hj, hjk] at e1
    injection e1 with e1
    exact e1.symm
   subst hkk
   cases hH : σ.heap k' with
   | none => rw [hH] at e2; exact e2.elim
   | some ob0 => exact (m1.obj k' ob0 hH).1
  ·have := poOkK_get hpo j k hj
   rw [Nat.zero_add] at this
   rcases this with g | ⟨g, t, c, ty, cs, ty', cs', h1, h2, h3, h4, h5⟩ | ⟨g, g1, g2⟩
   ·exact .inl g
   ·refine .inr ⟨List.mem_of_getElem? g, ?_⟩
    obtain ⟨-, u, e1, b, bs, rfl, -, -⟩ := hmi.obj j _ h2
    obtain ⟨-, u', e2, b', bs', rfl, -, -⟩ := hm2.obj j _ h4
    have e1' : ob k = some (.pointer (some ⟨b, 0, none⟩), cs.length) := by
     have : obI ob pi j = ob k := by unfold obI; rw [g]; rfl
     rw [← this]; exact e1
    have q1 := hvv t _ h1
    have q2 : VR (evOf w.heap.size (V1 w0 V ob pi q) ob1 (fun k => k < H'.length) w') (vs.getD t undef) (.ptr j 0 c) := hgh2 t (.ptr j 0 c) (by simp [ghA, h1, ghA1])
    have r1 : ∃ b0, blk (.pointer (some ⟨b, 0, none⟩)) = some b0 ∧ vs.getD t undef = .pointer (some ⟨b0, 0, none⟩) := by
     generalize vs.getD t undef = x at q1
     cases q1 with
     | ptr v id off c h1 hU hh => exact (hh _ _ e1).2 (by simp [AObj.cnt, h3])
    have r2 : ∃ b0, blk (.pointer (some ⟨b', 0, none⟩)) = some b0 ∧ vs.getD t undef = .pointer (some ⟨b0, 0, none⟩) := by
     generalize vs.getD t undef = x at q2
     cases q2 with
     | ptr v id off c h1 hU hh => exact (hh _ _ e2).2 (by simp [AObj.cnt, h5])
    obtain ⟨b0, x1, x2⟩ := r1
    obtain ⟨b1, x3, x4⟩ := r2
    rw [x2] at x4
    have : b = b' := by
     simp only [blk, Option.some.injEq] at x1 x3
     simp only [Value.pointer.injEq, Option.some.injEq, Addr.mk.injEq] at x4
     omega
    subst this
    refine ⟨_, _, e2, ?_⟩
    rw [e1']
    simp [AObj.cnt, h3, h5]
   ·refine .inr ⟨List.mem_of_getElem? g, ?_⟩
    obtain ⟨-, u, e1, -⟩ := hmi.obj j H[j] (by simp [g2])
    have e1' : obI ob pi j = ob k := by unfold obI; rw [g]; rfl
    have e2 : ob1 j = obI ob pi j := hkp j g1
    exact ⟨_, _, e2.trans e1, e1'.symm.trans e1⟩
 refine hK _ _ ?_
 have hx := hret.ext
 exact RelU.putv (σ := σ) hret.mr (fun t => (m2 t).ext hx) m3 m4 (m5.ext hx) hd (VR.out hret hv2)
theorem call_ruleK {P : Program} {ops : Array Oper} {i : Nat} {o : Oper} {σ : ASt} {K : ASt → Prop} {cl : Call} {fo : Operand} {f : FuncId} {caps : List AV} {args : List AV} {H H' : List AObj} {res : AV} {kp : List Nat} (hspec : FnK P f args H res H' kp) (pi po : List Nat) (q : Nat)
  (hg : gd ops σ o = some true) (hop : o.op = .call cl) (hc : cl.callee = .value fo) (hfo : σ.eval fo = .fn f caps) (hb : bodied P f = true) (hd : dstOk σ o = true)
  (hargs : inPs σ.heap pi q (cl.args.toList.map σ.eval ++ caps) args) (hobj : inOs σ.heap pi q pi H) (hndi : ndL pi) (hlen : po.length = H'.length) (hndo : ndL po) (hpo : poOkK kp i pi args H H' 0 po) (hok : H'.all okO = true)
  (hK : K (callS σ o.dst pi po q res H')) : awpCall P ops i o σ K :=
 ⟨_, call_okK pi po q hg hop hc hfo hb hspec hd hargs hobj hndi hlen hndo hpo hok, rfl, hK⟩

def ghB (m : Nat) (c : Nat → Nat) : List AV := (List.range m).map fun k => .ptr k 0 (c k)
theorem ghB_get {m : Nat} {c : Nat → Nat} {d : Nat} {x : AV} (h : (ghB m c)[d]? = some x) : d < m ∧ x = .ptr d 0 (c d) := by
 unfold ghB at h
 rw [List.getElem?_map] at h
 by_cases hd : d < m
 ·rw [List.getElem?_range hd] at h
  simp at h
  exact ⟨hd, h.symm⟩
 ·rw [List.getElem?_eq_none (by simpa using hd)] at h
  cases h
theorem ghB_at {m : Nat} {c : Nat → Nat} {d : Nat} (h : d < m) : (ghB m c)[d]? = some (.ptr d 0 (c d)) := by
 unfold ghB
 rw [List.getElem?_map, List.getElem?_range h]
 rfl
theorem fn_introKB {P : Program} {f : FuncId} {fn : Func} {cd : Code} {args : List AV} {H H' : List AObj} {res : AV} (m : Nat) (c : Nat → Nat)
  (hk : ∀ k, k < m → ∃ ty cs, H[k]? = some (.box ty cs) ∧ cs.length = c k) (hk' : ∀ k, k < m → ∃ ty cs, H'[k]? = some (.box ty cs) ∧ cs.length = c k)
  (hf : P.funcs[f]? = some fn) (hb : fn.body = some cd) (hle : args.length ≤ fn.ntmps) (h : awp P cd (fun e σ => resQ P fn.results.toList res H' e σ ∧ σ.gh = ghA args ++ ghB m c) { argS args H fn.ntmps with gh := ghA args ++ ghB m c }) : FnK P f args H res H' (List.range m) := by
 intro w V ob vs hm hn hv
 refine calls_of_wp hf hb ?_
 obtain ⟨e, σ', h1, hq, hga⟩ := h
 obtain ⟨mm, un, he, hwh, hmp, hgh, l, hl, hmm⟩ := resQ_G hq
 have hob : ∀ k, k < m → ∃ b, ob k = some (.pointer (some ⟨b, 0, none⟩), c k) := fun k hkm => by
  obtain ⟨ty, cs, e1, e2⟩ := hk k hkm
  obtain ⟨-, u, e3, b, bs, rfl, -, -⟩ := hm.obj k _ e1
  exact ⟨b, by rw [e3]; simp [AObj.cnt, e2]⟩
 have hga0 : (ghA args).length = args.length := by simp [ghA]
 obtain ⟨gv, hgv⟩ : ∃ gv : Nat → Value, gv = fun i => if i < args.length then vs.getD i undef else ((ob (i - args.length)).map Prod.fst).getD undef := ⟨_, rfl⟩
 have hrel : Rel w V (OB ob) gv { argS args H fn.ntmps with gh := ghA args ++ ghB m c } { tmps := vs ++ Array.replicate (fn.ntmps - vs.size) undef, defers := [] } w := by
  refine ⟨ob, hm, fun t => ?_, rfl, by simp [argS]; omega, fun i d hi => ?_⟩
  ·show VR _ _ (args.getD t .any)
   cases hq : args[t]? with
   | none => simp [hq]; exact .any _
   | some c =>
    have hlt : t < vs.size := by rw [hn]; exact (List.getElem?_eq_some_iff.1 hq).1
    have h1 := hv t c hq
    have e : (vs ++ Array.replicate (fn.ntmps - vs.size) undef).getD t undef = vs.getD t undef := by
     simp only [Array.getD, Array.size_append, Array.size_replicate, hlt, dif_pos, show t < vs.size + (fn.ntmps - vs.size) by omega]
     exact Array.getElem_append_left hlt
    rw [e]
    simp only [hq, List.getD_eq_getElem?_getD, Option.getD_some]
    exact h1
  ·have hi : (ghA args ++ ghB m c)[i]? = some d := hi
   by_cases hlt : i < args.length
   ·rw [List.getElem?_append_left (by omega)] at hi
    rw [hgv]
    simp only [hlt, if_true]
    unfold ghA at hi
    rw [List.getElem?_map] at hi
    cases hq : args[i]? with
    | none => rw [hq] at hi; cases hi
    | some a =>
     rw [hq] at hi
     simp only [Option.map_some, Option.some.injEq] at hi
     subst hi
     have h1 := hv i a hq
     cases a <;> first | exact h1 | exact .any _
   ·rw [List.getElem?_append_right (by omega), hga0] at hi
    obtain ⟨hd, rfl⟩ := ghB_get hi
    obtain ⟨b, hb⟩ := hob _ hd
    obtain ⟨ty, cs, e1, e2⟩ := hk _ hd
    rw [hgv]
    simp only [hlt, if_false, hb, Option.map_some, Option.getD_some]
    refine .ptr _ _ 0 _ rfl (List.getElem?_eq_some_iff.1 e1).1 (fun u' n' hu' => ?_)
    have hu' : ob (i - args.length) = some (u', n') := hu'
    rw [hb] at hu'
    simp only [Option.some.injEq, Prod.mk.injEq] at hu'
    obtain ⟨rfl, rfl⟩ := hu'
    exact ⟨Nat.le_refl _, fun _ => ⟨b, rfl, rfl⟩⟩
 refine wp_mono (h1 w V _ _ _ w hrel) ?_
 rintro e' a w' ⟨rfl, ob2, m1, m2, m3, m4, m5⟩
 obtain ⟨rs, r1, r2, r3⟩ := results_run (P := P) m1 m2 fn.results.toList l hl
 have hm2 := m1.wk (nx := H'.length) (fun id o ho => ⟨(List.getElem?_eq_some_iff.1 ho).1, hwh id o ho⟩) hmp
 have hgall : ∀ (i : Nat) d, (ghA args ++ ghB m c)[i]? = some d → VR (evOf w.heap.size V (obW ob2 (fun k => H'[k]?) mm) (fun k => k < H'.length) w') (gv i) d := fun i d hi => by
  obtain ⟨a', ha, hac⟩ := (wkPs_get hgh).2 i d (by rw [hga]; exact hi)
  exact (m5 i a' ha).wk m1 hmp d hac
 have hkeep : ∀ k, k < m → obW ob2 (fun k => H'[k]?) mm k = ob k := fun k hkm => by
  have q := hgall (args.length + k) (.ptr k 0 (c k)) (by rw [List.getElem?_append_right (by omega), hga0, Nat.add_sub_cancel_left]; exact ghB_at hkm)
  obtain ⟨ty, cs, e1, e2⟩ := hk' k hkm
  obtain ⟨-, u', g1, b', bs, rfl, -, -⟩ := hm2.obj k _ e1
  obtain ⟨b, hb⟩ := hob k hkm
  have e3 : gv (args.length + k) = .pointer (some ⟨b, 0, none⟩) := by
   rw [hgv]
   simp only [show ¬ (args.length + k < args.length) by omega, if_false, Nat.add_sub_cancel_left, hb]
   rfl
  rw [e3] at q
  generalize hv0 : Value.pointer (some ⟨b, 0, none⟩) = v0 at q
  cases q with
  | ptr v id off c' g0 hU hh =>
   obtain ⟨b0, x1, x2⟩ := (hh _ _ g1).2 (by simp [AObj.cnt, e2])
   rw [← hv0] at x2
   simp only [blk, Option.some.injEq] at x1
   simp only [Value.pointer.injEq, Option.some.injEq, Addr.mk.injEq] at x2
   rw [g1, hb]
   have : b' = b := by omega
   rw [this]
   simp [AObj.cnt, e2]
 have fin : a.defers = [] ∧ ∃ v, (results fn a.tmps).run P w' = .ok v w' ∧ ∃ v' ob', Ending.returned v = .returned v' ∧ MR w V (OB ob) (fun k => k < H'.length) (fun k => H'[k]?) ob' w' ∧ VR (evOf w.heap.size V ob' (fun k => k < H'.length) w') v' res ∧ GhR (evOf w.heap.size V ob' (fun k => k < H'.length) w') (fun i => vs.getD i undef) (ghA args) ∧ ∀ j, j ∈ List.range m → ob' j = ob j := by
  refine ⟨m3, ?_⟩
  have hrun : (results fn a.tmps).run P w' = .ok (if h : rs.toArray.size = 1 then rs.toArray[0] else .tuple rs.toArray) w' := by
   rw [results_eq, Array.mapM_eq_mapM_toList]
   simp [r1]
  refine ⟨_, hrun, _, _, rfl, hm2, ?_, fun i d hi => ?_, fun j hj => hkeep j (List.mem_range.1 hj)⟩
  ·split at hmm
   ·rename_i x
    have hl1 : rs.length = 1 := by simpa using r2
    obtain ⟨v, rfl⟩ : ∃ v, rs = [v] := by
     cases rs with
     | nil => simp at hl1
     | cons v r => cases r with
      | nil => exact ⟨v, rfl⟩
      | cons _ _ => simp at hl1
    exact (r3 0 v x rfl rfl).wk m1 hmp res hmm
   ·rename_i l' bs hne
    obtain ⟨e1, e2⟩ := wkPs_get hmm.2
    have hl1 : ¬ rs.toArray.size = 1 := by simp; omega
    rw [dif_neg hl1]
    refine .tup _ _ (by simp; omega) (fun i b hi => ?_)
    obtain ⟨x, hx, hxb⟩ := e2 i b hi
    have hlt : i < rs.length := by rw [r2]; exact (List.getElem?_eq_some_iff.1 hx).1
    have := (r3 i rs[i] x (by simp) hx).wk m1 hmp b hxb
    have e : rs.toArray.getD i undef = rs[i] := by simp [Array.getD, hlt]
    rw [e]
    exact this
   ·exact hmm.elim
  ·have hlt : i < args.length := by rw [← hga0]; exact (List.getElem?_eq_some_iff.1 hi).1
   have := hgall i d (by rw [List.getElem?_append_left (by omega)]; exact hi)
   rw [hgv] at this
   simpa [hlt] using this
 rcases he with rfl | rfl <;> exact fin
end Go.Proofs.YtghnmmfkckneaaaGreat.M
