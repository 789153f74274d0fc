/-
  Walks in my logic: slices.Equal, slices.Clone of bools; the monoid's own automaton in plain Lean.
  Walks in my logic: within, shaped, automaton (syntactic).
  Walk in my logic: Validate (syntactic) of the monoid that Of gives.
  Plain law: few elements: automata of at most four states, and automata whose words of two letters are constant.
  Walk in my logic: Definite (semigroupmade): every word of two letters is constant.
  Walk in my logic: Any (semigroupmade), with at most four states or constant words of two letters; then Of succeeds.
  Plain law: the cycles of an automaton are loops exactly if (uv)^k u and (uv)^k act alike.
-/
import Derived.Test.YtjkeafkjjaploaaGreatZpar
import Derived.Test.YtjkeafkjjaploaaGreatZpad
import Derived.Test.YtjkeafkjjaploaaGreatZpai
namespace Go.Proofs.YtjkeafkjjaploaaGreat.M
open Go.RowKit
set_option linter.unusedVariables false
set_option linter.unusedSimpArgs false
set_option maxRecDepth 100000
set_option maxHeartbeats 32000000

theorem zCd (xs ys : List Int) (hl : xs.length <= 100000) (hl2 : ys.length <= 100000) : FnA Tryz.prog 61 [.t 0 (ints xs),.t 0 (ints ys)] (.t 2 (.bool (decide (xs = ys)))):=by
 refine fI 26 #[.tmp 4] Tryz.func61 rfl ?_
 refine rg0 ?_
 refine zD ?_
 by_cases hlen : xs.length = ys.length
 ·refine rg1 @hlen ?_
  refine cS0 ?_
  refine zD ?_
  refine rg0 ?_
  refine zG ?_
  refine awp_loop (fun k : Nat=>mkS [(0,.t 0 (ints xs)),(1,.t 0 (ints ys)),(12,.t 2 (.int .i64 xs.length)),(13,.t 2 (.int .i64 k))] [] 0 26 [.any,.any]) (fun k=>k <= xs.length /\ ∀ j (h1 : j < xs.length) (h2 : j < ys.length),j < k -> xs[j] = ys[j]) (fun k=>xs.length - k) ?_ ?_
  ·refine ⟨0,⟨by omega,fun j h1 h2 hj=>by omega⟩,?_⟩
   exact kw0 []
  rintro k ⟨hk,hsame⟩
  refine rg0 ?_
  refine zD ?_
  by_cases hlt : k < xs.length
  ·have hlt2 : k < ys.length:=by omega
   refine cK1 @hlt ?_
   refine zD ?_
   refine zG ?_
   refine rg0 ?_
   by_cases e : xs[k] = ys[k]
   ·refine rd1 (an @hlt (an @hlt2 @e)) ?_
    refine cY0 ?_
    show awp _ _ _ _
    refine rr0 ?_
    refine ⟨k + 1,⟨by omega,fun j h1 h2 hj=>?_⟩,by omega,?_⟩
    ·by_cases c : j = k
     ·subst c; exact e
     ·exact hsame j h1 h2 (by omega)
    exact kw0 []
   ·have hne : decide (xs = ys) = false:=by
     simp only [decide_eq_false_iff_not]
     intro c
     subst c
     exact e rfl
    have e2 : (xs[k] == ys[k]) = false:=by simpa using e
    refine rd1 (an @hlt (an @hlt2 @e2)) ?_
    refine cT0 ?_
    refine rg0 ?_
    exact zI (rt1 @hne)
  ·have heq : decide (xs = ys) = true:=by
    simp only [decide_eq_true_eq]
    exact List.ext_getElem hlen fun j h1 h2=>hsame j h1 h2 (by omega)
   refine cF1 @hlt ?_
   refine zM ?_
   show awp _ _ _ _
   refine rg0 ?_
   exact zI (rt1 @heq)
 ·have hne : decide (xs = ys) = false:=by
   simp only [decide_eq_false_iff_not]
   intro c
   subst c
   exact hlen rfl
  have hli : ¬ (xs.length : Int) = ys.length:=by omega
  have hli2 : ((xs.length : Int) == ys.length) = false:=by simpa using hli
  refine rg1 @hli2 ?_
  refine cT0 ?_
  refine rg0 ?_
  exact zI (rt1 @hne)
theorem zDz (xs ys : List Bool) (hl : xs.length <= 100000) (hl2 : ys.length <= 100000) : FnA Tryz.prog 63 [.t 0 (zH xs),.t 0 (zH ys)] (.t 2 (.bool (decide (xs = ys)))):=by
 refine fI 26 #[.tmp 4] Tryz.func63 rfl ?_
 refine rg1 @zH.eq_1 ?_
 refine zD ?_
 by_cases hlen : xs.length = ys.length
 ·refine rg1 (an @hlen @zH.eq_1) ?_
  refine cS0 ?_
  refine zD ?_
  refine rg1 @zH.eq_1 ?_
  refine zG ?_
  refine awp_loop (fun k : Nat=>mkS [(0,.t 0 (zH xs)),(1,.t 0 (zH ys)),(12,.t 2 (.int .i64 xs.length)),(13,.t 2 (.int .i64 k))] [] 0 26 [.any,.any]) (fun k=>k <= xs.length /\ ∀ j (h1 : j < xs.length) (h2 : j < ys.length),j < k -> xs[j] = ys[j]) (fun k=>xs.length - k) ?_ ?_
  ·refine ⟨0,⟨by omega,fun j h1 h2 hj=>by omega⟩,?_⟩
   exact kw1 [] @zH.eq_1
  rintro k ⟨hk,hsame⟩
  refine rg0 ?_
  refine zD ?_
  by_cases hlt : k < xs.length
  ·have hlt2 : k < ys.length:=by omega
   refine cK1 @hlt ?_
   refine zD ?_
   refine zG ?_
   refine rg0 ?_
   by_cases e : xs[k] = ys[k]
   ·refine rd1 (an @hlt (an @hlt2 (an @e @zH.eq_1))) ?_
    refine cY0 ?_
    show awp _ _ _ _
    refine rr0 ?_
    refine ⟨k + 1,⟨by omega,fun j h1 h2 hj=>?_⟩,by omega,?_⟩
    ·by_cases c : j = k
     ·subst c; exact e
     ·exact hsame j h1 h2 (by omega)
    exact kw1 [] @zH.eq_1
   ·have hne : decide (xs = ys) = false:=by
     simp only [decide_eq_false_iff_not]
     intro c
     subst c
     exact e rfl
    have e2 : (xs[k] == ys[k]) = false:=by simpa using e
    refine rd1 (an @hlt (an @hlt2 (an @e2 @zH.eq_1))) ?_
    refine cT0 ?_
    refine rg0 ?_
    exact zI (rt1 @hne)
  ·have heq : decide (xs = ys) = true:=by
    simp only [decide_eq_true_eq]
    exact List.ext_getElem hlen fun j h1 h2=>hsame j h1 h2 (by omega)
   refine cF1 @hlt ?_
   refine zM ?_
   show awp _ _ _ _
   refine rg0 ?_
   exact zI (rt1 @heq)
 ·have hne : decide (xs = ys) = false:=by
   simp only [decide_eq_false_iff_not]
   intro c
   subst c
   exact hlen rfl
  have hli : ¬ (xs.length : Int) = ys.length:=by omega
  have hli2 : ((xs.length : Int) == ys.length) = false:=by simpa using hli
  refine rg1 (an @hli2 @zH.eq_1) ?_
  refine cT0 ?_
  refine rg0 ?_
  exact zI (rt1 @hne)
theorem zP0 : slB Tryz.prog 25 = true:=by kernel_rfl
theorem zJJ (xs : List Bool) (hx : 0 < xs.length) (hl : xs.length <= 100000) : FnA Tryz.prog 105 [.t 0 (zH xs)] (.t 2 (zH xs)):=by
 have hne : ¬ xs = []:=fun e=>by rw [e] at hx; simp at hx
 refine fI 8 #[.tmp 2] Tryz.func105 rfl ?_
 refine rg1 @zH.eq_1 ?_
 refine zD ?_
 refine rg1 (an @zP0 (an @hx @zH.eq_1)) ?_
 refine cS1 @hne ?_
 refine rg1 @zH.eq_1 ?_
 exact zI (rt1 @zH.eq_1)
section
variable {L m : Nat} {bs : List Bool} {nx els : List (List Int)} {pre last : List Int} {wds : List (List Nat)} {right : List (List Int)} {r0 : List Int}
theorem SyX.img (h : SyX L m nx els pre last wds right r0) (hg : ∀ g ∈ tab L (lets m nx),TrN m g) {a : Nat} (ha : a < L) : ∃ j : Nat,r0[a]? = some (j : Int) /\ j < els.length /\ els[j]? = some (lets m nx a):=by
 obtain ⟨h1,h2⟩:=h.pr.rg 0 r0 h.r0
 rw [zq] at h1
 obtain ⟨k,e,g,c1,c2,c3,c4⟩:=h2 a r0[a] (by simp)
 rw [zZ _ ha] at c3
 injection c3 with c3
 subst c3
 rw [h.pr.en.one.1] at c2
 injection c2 with c2
 subst c2
 rw [zAa (hg _ (List.mem_of_getElem? (zZ _ ha)))] at c4
 exact ⟨k,by rw [List.getElem?_eq_getElem (by omega),c1],(List.getElem?_eq_some_iff.1 c4).1,c4⟩
theorem SyX.zPb (h : SyX L m nx els pre last wds right r0) (hD : DfL L m 0 bs nx) (hg : ∀ g ∈ tab L (lets m nx),TrN m g) {x a j : Nat} (hx : x < els.length) (ha : a < L) (hj : els[j]? = some (lets m nx a)) : zk right x (wds.getD j []) = zb right x a:=by
 have hjl:=(List.getElem?_eq_some_iff.1 hj).1
 obtain ⟨w1,w2,w3,w4⟩:=h.pr.wl' hjl
 have hwj : wds.getD j [] = wds[j]:=by rw [List.getD_eq_getElem?_getD,List.getElem?_eq_getElem w1]; rfl
 rw [hwj]
 have e1:=h.elW hD hg (w:=wds[j]) (fun y hy=>by have:=w4 y hy; rwa [zq] at this) hx
 rw [← w2] at e1
 have e2:=h.pr.zIJ hx (c:=a) (by rw [zq]; exact ha)
 obtain ⟨hjx,hj2⟩:=List.getElem?_eq_some_iff.1 hj
 rw [hj2] at e1
 have e3 : (tab L (lets m nx))[a]'(by rw [zq]; exact ha) = lets m nx a:=by simp [zA0]
 rw [e3] at e2
 exact h.pr.en.nd _ _ _ e1 e2
theorem SyX.mix (h : SyX L m nx els pre last wds right r0) (hM : MnD L m bs nx) (hL : 1 <= L) (hg : ∀ g ∈ tab L (lets m nx),TrN m g) {m' : Nat} {bs' : List Bool} {nx' : List (List Int)} (hX : MiX L els.length 0 (els.map (zDj bs)) right m' bs' nx') : m' = m /\ bs' = bs /\ nx' = nx :=
 hX.mn.eq (by omega) hM fun w hw=>by rw [hX.zIu w hw,h.zIu hM.df hg hw]
theorem SyX.of (h : SyX L m nx els pre last wds right r0) (hM : MnD L m bs nx) (hL : 1 <= L) (hg : ∀ g ∈ tab L (lets m nx),TrN m g) {res : AV} (hO : OfX L els.length 0 (els.map (zDj bs)) right res) : res = .tup [zDd 1 L bs els wds right r0,.t 2 (.int .i64 0)]:=by
 obtain ⟨m',bs',nx',hX,hc⟩:=hO
 obtain ⟨rfl,rfl,rfl⟩:=h.mix hM hL hg hX
 rcases hc with ⟨-,hF⟩ | ⟨els',pre',last',wds',right',r0',h',rfl⟩
 ·rcases hF with hF | ⟨els',pre',last',wds',right',hP,hl⟩
  ·exact (h.pr.zPT hF).elim
  ·obtain ⟨e,-⟩:=h.pr.eqE hP
   have:=h.el
   rw [e] at this
   omega
 ·obtain ⟨rfl,rfl,rfl,rfl,rfl⟩:=h.pr.eqE h'.pr
  have e:=h.r0.symm.trans h'.r0
  injection e with e
  subst e
  rfl
end
structure zCy (L N : Nat) (tb : List (List Int)) (ws : List (List Nat)) (im : List Int) (ac pl : List Bool) : Prop where
 l1 : 1 <= L
 l2 : L <= 6
 n1 : 1 <= N
 n2 : N <= 400
 tl : tb.length = N
 tr : ∀ r ∈ tb,r.length = N /\ ∀ v ∈ r,0 <= v /\ v < (N : Int)
 wl : ws.length = N
 il : im.length = L
 ir : ∀ v ∈ im,0 <= v /\ v < (N : Int)
 al : ac.length = N
 pll : pl.length = N
def syV (p L : Nat) (tb : List (List Int)) (ws : List (List Nat)) (im : List Int) (ac pl : List Bool) : AV:=.agg [.t 2 (.int .i64 L),.t p (rows tb),.t p (.sl 1 (wsT ws)),.t p (ints im),.t p (zH ac),.t p (zH pl)]
theorem zEc {N : Nat} {xs : List Int} (hx : ∀ v ∈ xs,0 <= v /\ v < (N : Int)) (hl : xs.length <= 100000) : FnA Tryz.prog 100 [.t 0 (ints xs),.t 2 (.int .i64 N)] (.t 2 (.bool true)):=by
 refine fI 21 #[.tmp 4] Tryz.func100 rfl ?_
 refine rg0 ?_
 refine zD ?_
 refine rg0 ?_
 refine zG ?_
 refine awp_loop (fun k : Nat=>mkS [(1,.t 2 (.int .i64 N)),(7,.t 0 (ints xs)),(8,.t 2 (.int .i64 xs.length)),(9,.t 2 (.int .i64 k))] [] 0 21 [.any,.any]) (fun k=>k <= xs.length) (fun k=>xs.length - k) ?_ ?_
 ·refine ⟨0,by omega,?_⟩
  exact kw0 []
 intro k hk
 refine rg0 ?_
 refine zD ?_
 by_cases hlt : k < xs.length
 ·have hv:=hx xs[k] (by simp)
  have d1 : ¬ xs[k] < 0:=by omega
  have d2 : ¬ (N : Int) <= xs[k]:=by omega
  refine cK1 @hlt ?_
  refine zD ?_
  refine zG ?_
  refine rg1 @hlt ?_
  refine rg1 (an @d1 @d2) ?_
  refine cY0 ?_
  show awp _ _ _ _
  refine rr0 ?_
  refine ⟨k + 1,by omega,by omega,?_⟩
  exact kw0 []
 ·refine cF1 @hlt ?_
  refine zM ?_
  show awp _ _ _ _
  refine rg0 ?_
  exact zI rt0
theorem zDl {L N : Nat} {tb : List (List Int)} {ws : List (List Nat)} {im : List Int} {ac pl : List Bool} (h : zCy L N tb ws im ac pl) : FnA Tryz.prog 58 [syV 0 L tb ws im ac pl] (.t 2 (.bool true)):=by
 have hl1:=h.l1
 have hl2:=h.l2
 have hn1:=h.n1
 have hn2:=h.n2
 have htl:=h.tl
 have hwl:=h.wl
 have hil:=h.il
 have hal:=h.al
 have hpl:=h.pll
 have d1 : ¬ (L : Int) < 1:=by omega
 have d2 : ¬ 6 < (L : Int):=by omega
 have d3 : ¬ (N : Int) < 1:=by omega
 have d4 : ¬ 400 < (N : Int):=by omega
 refine fI 74 #[.tmp 2] Tryz.func58 rfl ?_
 refine rg1 (an @syV.eq_1 @zH.eq_1) ?_
 refine rg1 @htl ?_
 refine zD ?_
 refine rg1 (an @d1 (an @d2 (an @d3 @d4))) ?_
 refine cS0 ?_
 refine zD ?_
 refine rg1 (an @hwl (an @hal (an @hpl @hil))) ?_
 refine cS0 ?_
 refine zD ?_
 refine rg1 @htl ?_
 refine zG ?_
 refine awp_loop (fun k : Nat=>mkS [(1,.ptr 0 0 6),(3,.t 2 (.int .i64 N)),(53,.t 0 (rows tb)),(54,.t 2 (.int .i64 N)),(55,.t 2 (.int .i64 k))] [(0,.box 27 [.any,.any,.any,.t 0 (ints im),.any,.any])] 1 74 [.any]) (fun k=>k <= N) (fun k=>N - k) ?_ ?_
 ·refine ⟨0,by omega,?_⟩
  exact kw1 [(0,some 0)] (an @rows.eq_1 @zH.eq_1)
 intro k hk
 refine rg0 ?_
 refine zD ?_
 by_cases hlt : k < N
 ·have hkt : k < tb.length:=by omega
  obtain ⟨hr1,hr2⟩:=h.tr tb[k] (by simp)
  have hwi:=zEc hr2 (by omega)
  refine cK1 @hlt ?_
  refine zD ?_
  refine zG ?_
  refine rg1 @hkt ?_
  refine rc1 hwi @hr1 ?_
  refine cY0 ?_
  show awp _ _ _ _
  refine rr0 ?_
  refine ⟨k + 1,by omega,by omega,?_⟩
  exact kw1 [(0,some 0)] @rows.eq_1
 ·have hwi:=zEc h.ir (by omega)
  refine cF1 @hlt ?_
  refine zM ?_
  show awp _ _ _ _
  refine rc0 hwi ?_
  exact zI (rt1 @syV.eq_1)
def auR (tb : List (List Int)) (im : List Int) (x : Nat) : List Int:=im.map fun y=>(tb.getD x []).getD y.toNat 0
@[simp] theorem zRF (tb : List (List Int)) (im : List Int) (x : Nat) : (auR tb im x).length = im.length:=by simp [auR]
def auP (tb : List (List Int)) (im : List Int) (x a : Nat) : List T:=tab im.length fun y=>.int .i64 (if y < a then (auR tb im x).getD y 0 else 0)
@[simp] theorem zQ5 (tb : List (List Int)) (im : List Int) (x a : Nat) : (auP tb im x a).length = im.length:=by simp [auP]
theorem zNH (tb : List (List Int)) (im : List Int) (x : Nat) : (tab im.length fun _=>T.int .i64 0) = auP tb im x 0:=rfl
theorem zOZ {tb : List (List Int)} {im : List Int} {x a : Nat} {v : Int} (ha : a < im.length) (hv : (tb.getD x []).getD im[a].toNat 0 = v) : (auP tb im x a).set a (.int .i64 v) = auP tb im x (a + 1):=by
 unfold auP
 rw [zp]
 refine zV fun y hy=>?_
 by_cases c : y = a
 ·subst c
  rw [if_pos rfl,if_pos (by omega)]
  unfold auR
  rw [List.getD_eq_getElem?_getD (l:=List.map _ _),List.getElem?_map,List.getElem?_eq_getElem ha,Option.map_some,Option.getD_some,hv]
 ·rw [if_neg c]
  by_cases c2 : y < a
  ·rw [if_pos c2,if_pos (by omega)]
  ·rw [if_neg c2,if_neg (by omega)]
theorem zLx (tb : List (List Int)) (im : List Int) (x : Nat) : auP tb im x im.length = (auR tb im x).map (.int .i64):=by
 apply List.ext_getElem?
 intro i
 by_cases h : i < im.length
 ·unfold auP
  rw [zZ _ h,if_pos h,List.getElem?_map,List.getD_eq_getElem?_getD,List.getElem?_eq_getElem (show i < (auR tb im x).length by simpa using h)]
  rfl
 ·rw [List.getElem?_eq_none (by simp; omega),List.getElem?_eq_none (by simp; omega)]
def auC (tb : List (List Int)) (im : List Int) (k j : Nat) : AV:=if j < k then .t 1 (ints (auR tb im j)) else .t 2 (.sl 0 [])
theorem zB2 {L N : Nat} {tb : List (List Int)} {ws : List (List Nat)} {im : List Int} {ac pl : List Bool} (h : zCy L N tb ws im ac pl) : FnA Tryz.prog 60 [syV 0 L tb ws im ac pl] (dfT 1 L 0 ac (tab N (auR tb im))):=by
 have hl1:=h.l1
 have hl2:=h.l2
 have hn1:=h.n1
 have hn2:=h.n2
 have htl:=h.tl
 have hil:=h.il
 have hal:=h.al
 refine fI 55 #[.cell 2 56] Tryz.func60 rfl ?_
 refine rg1 (an @syV.eq_1 @zH.eq_1) ?_
 refine rq1 (zJJ ac (by omega) (by omega)) (an @zH.eq_1 @htl) ?_
 refine zD ?_
 refine rg1 @htl ?_
 refine zG ?_
 refine awp_loop (fun x : Nat=>mkS [(1,.ptr 0 0 6),(2,.ptr 1 0 4),(3,.ptr 2 0 4),(19,.t 0 (rows tb)),(20,.t 2 (.int .i64 N)),(21,.t 2 (.int .i64 x))]
   [(0,.box 27 [.t 2 (.int .i64 L),.any,.any,.t 0 (ints im),.any,.any]),(1,.box 56 [.any,.any,.any,.any]),(2,.box 56 [.t 2 (.int .i64 L),.t 2 (.int .i64 0),.t 2 (zH ac),.own 3 N]),(3,.vec 22 1 2 (tab N (auC tb im x)))] 4 55 [.any])
  (fun x=>x <= N) (fun x=>N - x) ?_ ?_
 ·refine ⟨0,by omega,?_⟩
  exact kw1 [(0,some 0),(1,some 1000000),(2,some 12000000),(3,some 10000000)] (an @rows.eq_1 (an @zH.eq_1 (an @zAB (an @zd (an @zP @auC.eq_1)))))
 intro x hx
 refine rg0 ?_
 refine zD ?_
 by_cases hxn : x < N
 ·have hxt : x < tb.length:=by omega
  obtain ⟨hr1,hr2⟩:=h.tr tb[x] (by simp)
  refine cK1 @hxn ?_
  refine zD ?_
  refine zG ?_
  refine rg1 @hxt ?_
  refine rd1 (an @hxn (an @zp @zAB)) ?_
  refine rg1 @hil ?_
  refine zG ?_
  refine awp_loop (fun a : Nat=>mkS [(1,.ptr 0 0 6),(2,.ptr 1 0 4),(3,.ptr 2 0 4),(4,.t 2 (.int .i64 x)),(5,.t 0 (ints tb[x])),(19,.t 0 (rows tb)),(20,.t 2 (.int .i64 N)),(21,.t 2 (.int .i64 x)),(34,.t 0 (ints im)),(35,.t 2 (.int .i64 L)),(36,.t 2 (.int .i64 a))]
    [(0,.box 27 [.t 2 (.int .i64 L),.any,.any,.t 0 (ints im),.any,.any]),(1,.box 56 [.any,.any,.any,.any]),(2,.box 56 [.t 2 (.int .i64 L),.t 2 (.int .i64 0),.t 2 (zH ac),.own 3 N]),(3,.vec 22 1 2 (tab N fun y=>if y = x then .own 4 L else auC tb im x y)),(4,.row 3 1 2 (auP tb im x a))] 5 55 [.any])
   (fun a=>a <= L) (fun a=>L - a) ?_ ?_
  ·refine ⟨0,by omega,?_⟩
   refine zU [(0,some 0),(1,some 1),(2,some 2),(3,some 3),(4,some 11000004)] rfl ?_ ?_ ?_ ?_
   all_goals try simp [ints,rows,zH,zP]
   refine ⟨fun y hy=>?_,?_⟩
   ·by_cases e : y = x
    ·subst e
     simp +contextual (disch:=omega) [zX,zY,zg,zh,zAG,List.getElem?_cons_succ,Option.getD_some,callF,ints,scal,tpO,zO,zP]
    ·simp only [if_neg e]
     unfold auC
     split <;> simp
   ·rw [← hil]
    exact zNH tb im x
  intro a ha
  refine rg0 ?_
  refine zD ?_
  by_cases hal : a < L
  ·have haL : a < im.length:=by omega
   obtain ⟨v1,v2⟩:=h.ir im[a] (by simp)
   obtain ⟨k,hk⟩ : ∃ k : Nat,im[a] = (k : Int):=⟨im[a].toNat,by omega⟩
   have hkr : k < tb[x].length:=by omega
   have hst:=zOZ (tb:=tb) (x:=x) haL (v:=tb[x][k]) (by rw [hk,List.getD_eq_getElem?_getD,List.getD_eq_getElem?_getD,List.getElem?_eq_getElem hxt,Option.getD_some,Int.toNat_natCast,List.getElem?_eq_getElem hkr]; rfl)
   refine cK1 @hal ?_
   refine zD ?_
   refine zG ?_
   refine rg1 (an @haL @hk) ?_
   refine re1 (an @hxn (an @hkr (an @hst @haL))) ?_
   show awp _ _ _ _
   refine rr0 ?_
   refine ⟨a + 1,by omega,by omega,?_⟩
   refine zU [(0,some 0),(1,some 1),(2,some 2),(3,some 3),(4,some 4)] rfl ?_ ?_ ?_ ?_
   all_goals try simp [ints,rows,zH,zP]
   intro y hy
   by_cases e : y = x
   ·subst e
    simp +contextual (disch:=omega) [zX,zY,zg,zh,zAG,List.getElem?_cons_succ,Option.getD_some,callF,ints,scal,tpO,zO,zP,hil]
   ·simp only [if_neg e]
    unfold auC
    split <;> simp
  ·obtain rfl : a = L:=by omega
   refine cF0 ?_
   refine zM ?_
   show awp _ _ _ _
   refine rr0 ?_
   refine ⟨x + 1,by omega,by omega,?_⟩
   refine zU [(0,some 0),(1,some 1),(2,some 2),(3,some 3)] rfl ?_ ?_ ?_ ?_
   all_goals try simp [ints,rows,zH,zP]
   have hfu : auP tb im x a = (auR tb im x).map (.int .i64):=hil ▸ zLx tb im x
   intro y hy
   by_cases e : y = x
   ·subst e
    simp +contextual (disch:=omega) [zX,zY,zg,zh,zAG,List.getElem?_cons_succ,Option.getD_some,callF,ints,scal,tpO,zO,zP,auC,hfu,hil]
   ·simp only [if_neg e]
    unfold auC
    by_cases c : y < x
    ·rw [if_pos c,if_pos (by omega)]
     simp
    ·rw [if_neg c,if_neg (by omega)]
     simp
 ·obtain rfl : x = N:=by omega
  refine cF0 ?_
  refine zM ?_
  show awp _ _ _ _
  refine rg0 ?_
  refine zI ?_
  refine ⟨⟨.inr rfl,_,[],(by simp; rfl),trivial,trivial,by simp [dfT,rows,zH,zd,zAR,syV],?_⟩,by simp [dfT,rows,zH,zd,zAR,syV]⟩
  simp [ints,rows,dfT,rows,zH,zd,zAR,syV]
  intro j hj
  unfold auC
  rw [if_pos hj]
  simp [wk1]
  rfl
theorem zJZ (ws : List (List Nat)) (hl : ws.length <= 100000) : FnA Tryz.prog 62 [.t 0 (.sl 1 (wsT ws)),.t 0 (.sl 1 (wsT ws))] (.t 2 (.bool true)):=by
 refine fI 26 #[.tmp 4] Tryz.func62 rfl ?_
 refine rg0 ?_
 refine zD ?_
 refine rg0 ?_
 refine cS0 ?_
 refine zD ?_
 refine rg0 ?_
 refine zG ?_
 refine awp_loop (fun k : Nat=>mkS [(0,.t 0 (.sl 1 (wsT ws))),(1,.t 0 (.sl 1 (wsT ws))),(12,.t 2 (.int .i64 ws.length)),(13,.t 2 (.int .i64 k))] [] 0 26 [.any,.any]) (fun k=>k <= ws.length) (fun k=>ws.length - k) ?_ ?_
 ·refine ⟨0,by omega,?_⟩
  exact kw0 []
 intro k hk
 refine rg0 ?_
 refine zD ?_
 by_cases hlt : k < ws.length
 ·have hwk : (wsT ws)[k]? = some (.str (zAF ws[k])):=by simp [wsT,hlt]
  refine cK1 @hlt ?_
  refine zD ?_
  refine zG ?_
  refine rg0 ?_
  refine rd1 (an @hwk @hlt) ?_
  refine cY0 ?_
  show awp _ _ _ _
  refine rr0 ?_
  refine ⟨k + 1,by omega,by omega,?_⟩
  exact kw0 []
 ·refine cF1 @hlt ?_
  refine zM ?_
  show awp _ _ _ _
  refine rg0 ?_
  exact zI rt0
def psB (N : Nat) (b : Bool) : List Bool:=tab N fun j=>if j = 0 then b else decide (j < N)
theorem zQ0 (N : Nat) (b : Bool) : psC N N b = (psB N b).map .bool:=by
 unfold psC psB
 rw [zd]
theorem zEB (p L : Nat) (bs : List Bool) (els : List (List Int)) (wds : List (List Nat)) (right : List (List Int)) (r0 : List Int) : zDd p L bs els wds right r0 = syV p L (zA6 right wds els.length) wds r0 (els.map (zDj bs)) (psB els.length (right.any fun r=>decide ((0 : Int) ∈ r))):=by
 unfold zDd syV
 rw [zQ0]
 rfl
section
variable {L m : Nat} {bs : List Bool} {nx els : List (List Int)} {pre last : List Int} {wds : List (List Nat)} {right : List (List Int)} {r0 : List Int}
theorem SyX.sh (h : SyX L m nx els pre last wds right r0) (hL : 1 <= L) (hL2 : L <= 6) (ac : List Bool) (ha : ac.length = els.length) (pl : List Bool) (hp : pl.length = els.length) : zCy L els.length (zA6 right wds els.length) wds r0 ac pl:=by
 have hpos:=h.pos
 have hle:=h.pr.en.le
 have hrt:=zKk h.pr.rt hle h.pr.wl
 have hd : DfL L els.length 0 (els.map (zDj [])) right:=h.df
 obtain ⟨hi,hi2⟩:=hd.row r0 (List.mem_of_getElem? h.r0)
 refine ⟨hL,hL2,hpos,h.el,by simp,fun r hr=>?_,hle.symm,hi,hi2,ha,hp⟩
 obtain ⟨i,hi,rfl⟩:=List.getElem_of_mem hr
 obtain ⟨h1,h2⟩:=hrt.row i _ (List.getElem?_eq_getElem hi)
 refine ⟨h1,fun v hv=>?_⟩
 obtain ⟨y,hy,rfl⟩:=List.getElem_of_mem hv
 obtain ⟨k,e,hk⟩:=h2 y _ (List.getElem?_eq_getElem hy)
 rw [e]; omega
theorem SyX.next (h : SyX L m nx els pre last wds right r0) (hD : DfL L m 0 bs nx) (hg : ∀ g ∈ tab L (lets m nx),TrN m g) : tab els.length (auR (zA6 right wds els.length) r0) = right:=by
 have hrd:=h.pr.rd
 have hd : DfL L els.length 0 (els.map (zDj [])) right:=h.df
 obtain ⟨hi,hi2⟩:=hd.row r0 (List.mem_of_getElem? h.r0)
 refine List.ext_getElem (by simp [hrd]) fun x h1 h2=>?_
 have hx : x < els.length:=by omega
 rw [zA0]
 obtain ⟨hr1,-⟩:=hd.row right[x] (by simp)
 refine List.ext_getElem (by simp [hi,hr1]) fun a g1 g2=>?_
 have ha : a < L:=by omega
 obtain ⟨j,j1,j2,j3⟩:=h.img hg ha
 have e1 : (auR (zA6 right wds els.length) r0 x)[a]? = some (((zA6 right wds els.length).getD x []).getD j 0):=by
  unfold auR
  rw [List.getElem?_map,j1,Option.map_some,Int.toNat_natCast]
 rw [List.getElem?_eq_getElem g1] at e1
 rw [Option.some.inj e1]
 have e2 : ((zA6 right wds els.length).getD x []).getD j 0 = (zk right x (wds.getD j []) : Int):=by
  unfold zA6
  rw [List.getD_eq_getElem?_getD (l:=tab _ _),zZ _ hx,Option.getD_some,List.getD_eq_getElem?_getD (l:=tab _ _),zZ _ j2,Option.getD_some]
 rw [e2,h.zPb hD hg hx ha j3]
 obtain ⟨-,s2,s3,s4⟩:=hd.rt.step hx ha
 exact s4.symm
end
theorem zEq {L N : Nat} {tb : List (List Int)} {ws : List (List Nat)} {im : List Int} {ac pl : List Bool} (hS : zCy L N tb ws im ac pl) (hof : FnA Tryz.prog 59 [dfT 0 L 0 ac (tab N (auR tb im))] (.tup [syV 1 L tb ws im ac pl,.t 2 (.int .i64 0)])) : FnA Tryz.prog 27 [syV 0 L tb ws im ac pl] (.t 2 (.int .i64 0)):=by
 have hsh:=zDl hS
 have hau:=zB2 hS
 have hn2:=hS.n2
 have hl2:=hS.l2
 have htl:=hS.tl
 have hwl:=hS.wl
 have hil:=hS.il
 have hal:=hS.al
 have hpl:=hS.pll
 generalize tab N (auR tb im) = nx at hof hau
 have hq1 : ∀ r ∈ tb,FnA Tryz.prog 61 [.t 0 (ints r),.t 0 (ints r)] (.t 2 (.bool true)):=fun r hr=>by
  have h1:=(hS.tr r hr).1
  have:=zCd r r (by omega) (by omega)
  rwa [show decide (r = r) = true by simp] at this
 have hq2 : FnA Tryz.prog 61 [.t 0 (ints im),.t 0 (ints im)] (.t 2 (.bool true)):=by
  have:=zCd im im (by omega) (by omega)
  rwa [show decide (im = im) = true by simp] at this
 have hq3 : ∀ b : List Bool,b.length <= 100000 -> FnA Tryz.prog 63 [.t 0 (zH b),.t 0 (zH b)] (.t 2 (.bool true)):=fun b hb=>by
  have:=zDz b b hb hb
  rwa [show decide (b = b) = true by simp] at this
 have hq4:=zJZ ws (by omega)
 refine fI 74 #[.tmp 2] Tryz.func27 rfl ?_
 refine rg1 (an @syV.eq_1 @zH.eq_1) ?_
 refine zD ?_
 refine rc1 hsh (an @syV.eq_1 @zH.eq_1) ?_
 refine cS0 ?_
 refine zQ fun K hK=>?_
 simp (maxSteps:=2000000) (disch:=omega) [ints,rows,scal,zT,wr8]
 (repeat' apply And.intro)
 all_goals (try omega)
 refine zK (caps:=[]) (hau) [] [] 2 rfl rfl rfl rfl (by kernel_rfl) (by simp) ?_ trivial trivial rfl trivial trivial (by simp) ?_
 ·simp [scal,rows,ints,syV,zH]
 simp (maxSteps:=2000000) (disch:=omega) [ints,rows,scal,zT,wr8,dfT]
 (repeat' apply And.intro)
 all_goals (try omega)
 refine zK (caps:=[]) (hof) [] [] 2 rfl rfl rfl rfl (by kernel_rfl) (by simp) ?_ trivial trivial rfl trivial trivial (by simp) ?_
 ·simp [scal,rows,ints,dfT]
 simp (maxSteps:=2000000) (disch:=omega) [ints,rows,scal,zT,wr8,syV,zH]
 and_intros <;> try first | apply hK | omega | rfl | simp <;> omega
 refine zD ?_
 refine rg1 @htl ?_
 refine cS0 ?_
 refine zD ?_
 refine rg1 @htl ?_
 refine zG ?_
 refine awp_loop (fun k : Nat=>mkS [(1,.ptr 0 0 6),(3,.ptr 1 0 6),(28,.t 1 (rows tb)),(29,.t 2 (.int .i64 N)),(30,.t 2 (.int .i64 k))]
   [(0,.box 27 [.t 2 (.int .i64 L),.t 0 (rows tb),.t 0 (.sl 1 (wsT ws)),.t 0 (ints im),.t 0 (zH ac),.t 0 (zH pl)]),(1,.box 27 [.t 2 (.int .i64 L),.t 1 (rows tb),.t 1 (.sl 1 (wsT ws)),.t 1 (ints im),.t 1 (zH ac),.t 1 (zH pl)])] 2 74 [.any]) (fun k=>k <= N) (fun k=>N - k) ?_ ?_
 ·refine ⟨0,by omega,?_⟩
  exact kw1 [(0,some 0),(1,some 11000000)] (an @rows.eq_1 @zH.eq_1)
 intro k hk
 refine rg0 ?_
 refine zD ?_
 by_cases hlt : k < N
 ·have hkt : k < tb.length:=by omega
  have hq:=hq1 tb[k] (by simp)
  refine cK1 @hlt ?_
  refine zD ?_
  refine zG ?_
  refine rg1 @hkt ?_
  refine rc1 hq @hkt ?_
  refine cY0 ?_
  show awp _ _ _ _
  refine rr0 ?_
  refine ⟨k + 1,by omega,by omega,?_⟩
  exact kw1 [(0,some 0),(1,some 1)] (an @rows.eq_1 @zH.eq_1)
 ·have hqa:=hq3 ac (by omega)
  have hqp:=hq3 pl (by omega)
  refine cF1 @hlt ?_
  refine zM ?_
  show awp _ _ _ _
  refine zD ?_
  refine zQ fun K hK=>?_
  simp (maxSteps:=2000000) (disch:=omega) [ints,rows,scal,zT,wr8]
  (repeat' apply And.intro)
  all_goals (try omega)
  refine zK (caps:=[]) (hq4) [] [] 2 rfl rfl rfl rfl (by kernel_rfl) (by simp) ?_ trivial trivial rfl trivial trivial (by simp) ?_
  ·simp [scal,rows,ints]
  simp (maxSteps:=2000000) (disch:=omega) [ints,rows,scal,zT,wr8]
  (repeat' apply And.intro)
  all_goals (try omega)
  refine zK (caps:=[]) (hq2) [] [] 2 (by simp [scal,rows,ints]) rfl rfl rfl (by kernel_rfl) (by simp) ?_ trivial trivial rfl trivial trivial (by simp) ?_
  ·simp [scal,rows,ints]
  simp (maxSteps:=2000000) (disch:=omega) [ints,rows,scal,zT,wr8]
  (repeat' apply And.intro)
  all_goals (try omega)
  refine zK (caps:=[]) (hqa) [] [] 2 (by simp [scal,rows,ints,zH]) rfl rfl rfl (by kernel_rfl) (by simp) ?_ trivial trivial rfl trivial trivial (by simp) ?_
  ·simp [scal,rows,ints,zH]
  simp (maxSteps:=2000000) (disch:=omega) [ints,rows,scal,zT,wr8]
  (repeat' apply And.intro)
  all_goals (try omega)
  refine zK (caps:=[]) (hqp) [] [] 2 (by simp [scal,rows,ints,zH]) rfl rfl rfl (by kernel_rfl) (by simp) ?_ trivial trivial rfl trivial trivial (by simp) ?_
  ·simp [scal,rows,ints,zH]
  simp (maxSteps:=2000000) (disch:=omega) [ints,rows,scal,zT,wr8]
  (repeat' first | apply hK | apply And.intro) <;> try first | omega | rfl | (simp <;> omega)
  refine cS0 ?_
  refine rg0 ?_
  exact zI (rt1 @syV.eq_1)
theorem zDK {L m : Nat} {bs : List Bool} {nx els : List (List Int)} {pre last : List Int} {wds : List (List Nat)} {right : List (List Int)} {r0 : List Int} (h : SyX L m nx els pre last wds right r0) (hM : MnD L m bs nx) (hL : 1 <= L) (hL2 : L <= 6) : FnA Tryz.prog 27 [zDd 0 L bs els wds right r0] (.t 2 (.int .i64 0)):=by
 have hg : ∀ g ∈ tab L (lets m nx),TrN m g:=(hM.df.gn hL hL2 h.m32).tr
 have hN:=h.el
 have hS:=h.sh hL hL2 (els.map (zDj bs)) (by simp) (psB els.length (right.any fun r=>decide ((0 : Int) ∈ r))) (by simp [psB])
 obtain ⟨res,hO,hof⟩:=zNc (h.df (bs:=bs)) hL hL2 (by omega) (fun m' bs' nx' hX=>by rw [(h.mix hM hL hg hX).1]; exact h.m32)
 rw [h.of hM hL hg hO,zEB] at hof
 rw [zEB]
 refine zEq hS ?_
 rw [h.next hM.df hg]
 exact hof
def lstT (m : Nat) : Nat -> List (List Int)
 | 0=>[[]]
 | k + 1=>(List.range m).flatMap fun (v : Nat)=>(lstT m k).map fun l=>(v : Int) :: l
theorem zII (m : Nat) : ∀ k,(lstT m k).length = m ^ k
 | 0=>rfl
 | k + 1=>by
  have : ∀ n,((List.range n).flatMap fun (v : Nat)=>(lstT m k).map fun l=>(v : Int) :: l).length = n * m ^ k:=fun n=>by
   induction n with
   | zero=>simp
   | succ n ih =>
    rw [List.range_succ,List.flatMap_append,List.length_append,ih]
    simp only [List.flatMap_cons,List.flatMap_nil,List.append_nil,List.length_map,zII m k]
    rw [Nat.succ_mul]
  show ((List.range m).flatMap fun (v : Nat)=>(lstT m k).map fun l=>(v : Int) :: l).length = m ^ (k + 1)
  rw [this m,Nat.pow_succ,Nat.mul_comm]
theorem zIC (m : Nat) : ∀ (k : Nat) (l : List Int),l.length = k -> (∀ v ∈ l,0 <= v /\ v < (m : Int)) -> l ∈ lstT m k
 | 0,l,h,_=>by rw [List.length_eq_zero_iff.1 h]; simp [lstT]
 | k + 1,[],h,_=>by simp at h
 | k + 1,v :: l,h,hv=>by
  obtain ⟨h1,h2⟩:=hv v (by simp)
  have ih:=zIC m k l (by simpa using h) (fun u hu=>hv u (by simp [hu]))
  simp only [lstT,List.mem_flatMap,List.mem_range,List.mem_map]
  exact ⟨v.toNat,by omega,l,ih,by congr 1; omega⟩
section
variable {L m : Nat} {bs : List Bool} {nx : List (List Int)}
theorem zNL (hg : ∀ g ∈ tab L (lets m nx),TrN m g) (w : List Nat) : (∀ a ∈ w,a < L) -> TrN m (act m (tab L (lets m nx)) w):=by
 refine zAu (P:=fun w=>(∀ a ∈ w,a < L) -> TrN m (act m (tab L (lets m nx)) w)) ?_ ?_ w
 ·intro _; exact zHa m
 ·intro w x ih hw
  have hx : x < L:=hw x (by simp)
  rw [zBl,List.getD_eq_getElem?_getD,zZ _ hx]
  exact (ih fun a ha=>hw a (by simp [ha])).comp (hg _ (List.mem_of_getElem? (zZ _ hx)))
theorem zP5 {K : List (List Int)} (hK : K.length <= 400) (h : ∀ w : List Nat,(∀ a ∈ w,a < L) -> act m (tab L (lets m nx)) w ∈ K) : ¬ SyF L m nx:=by
 rintro (⟨l,h1,h2,h3⟩ | ⟨els,pre,last,wds,right,hP,hl⟩)
 ·have:=zA5 h1 (k:=K) (fun e he=>by
   obtain ⟨w,w1,rfl⟩:=h3 e he
   exact h w (fun a ha=>by have:=w1 a ha; rwa [zq] at this))
  omega
 ·have:=zA5 hP.en.nodup (k:=K) (fun e he=>by
   obtain ⟨i,hi,rfl⟩:=List.getElem_of_mem he
   obtain ⟨g1,g2,g3,g4⟩:=hP.wl' hi
   rw [g2]
   exact h _ (fun a ha=>by have:=g4 a ha; rwa [zq] at this))
  omega
theorem zKs (hg : ∀ g ∈ tab L (lets m nx),TrN m g) (hm : m <= 4) : ¬ SyF L m nx:=by
 refine zP5 (K:=lstT m m) ?_ (fun w hw=>?_)
 ·rw [zII]
  rcases (by omega : m = 0 \/ m = 1 \/ m = 2 \/ m = 3 \/ m = 4) with rfl | rfl | rfl | rfl | rfl <;> decide
 ·obtain ⟨h1,h2⟩:=zNL hg w hw
  exact zIC m m _ h1 h2
def zRI (L m : Nat) (nx : List (List Int)) : Prop:=∀ q a b,q < m -> a < L -> b < L -> zk nx q [a,b] = zk nx 0 [a,b]
def zQY (L : Nat) : List (List Nat):=[[]] ++ ((List.range L).map fun a=>[a]) ++ (List.range L).flatMap fun a=>(List.range L).map fun b=>[a,b]
theorem zMd (hL : L <= 2) : (zQY L).length <= 7:=by
 rcases (by omega : L = 0 \/ L = 1 \/ L = 2) with rfl | rfl | rfl <;> decide
theorem zJL (hD : DfL L m 0 bs nx) (hc : zRI L m nx) (w : List Nat) (hw : ∀ a ∈ w,a < L) : ∃ u ∈ zQY L,act m (tab L (lets m nx)) w = act m (tab L (lets m nx)) u:=by
 by_cases h0 : w.length <= 2
 ·refine ⟨w,?_,rfl⟩
  match w,h0,hw with
  | [],_,_=>simp [zQY]
  | [a],_,hw=>exact List.mem_append_left _ (List.mem_append_right _ (List.mem_map.2 ⟨a,List.mem_range.2 (hw a (by simp)),rfl⟩))
  | [a,b],_,hw=>exact List.mem_append_right _ (List.mem_flatMap.2 ⟨a,List.mem_range.2 (hw a (by simp)),List.mem_map.2 ⟨b,List.mem_range.2 (hw b (by simp)),rfl⟩⟩)
  | _ :: _ :: _ :: _,h,_=>simp at h
 ·obtain ⟨v,a,b,rfl⟩ : ∃ v a b,w = v ++ [a,b]:=by
   refine ⟨w.take (w.length - 2),w[w.length - 2],w[w.length - 1],?_⟩
   refine List.ext_getElem (by simp; omega) fun i h1 h2=>?_
   rw [List.getElem_append]
   split
   ·rw [List.getElem_take]
   ·rename_i c
    simp at c
    rcases (by omega : i = w.length - 2 \/ i = w.length - 1) with rfl | rfl
    ·simp [show min (w.length - 2) w.length = w.length - 2 by omega]
    ·simp [show min (w.length - 2) w.length = w.length - 2 by omega,show w.length - 1 - (w.length - 2) = 1 by omega]
  have ha:=hw a (by simp)
  have hb:=hw b (by simp)
  refine ⟨[a,b],List.mem_append_right _ (List.mem_flatMap.2 ⟨a,List.mem_range.2 ha,List.mem_map.2 ⟨b,List.mem_range.2 hb,rfl⟩⟩),?_⟩
  have hab : ∀ x ∈ [a,b],x < L:=fun x hx=>by simp at hx; rcases hx with rfl | rfl <;> assumption
  have hv : ∀ x ∈ v,x < L:=fun x hx=>hw x (by simp [hx])
  have len : ∀ w : List Nat,(∀ x ∈ w,x < L) -> (act m (tab L (lets m nx)) w).length = m:=fun w hw=>(zNL (fun g hg=>by
   simp only [tab,List.mem_map,List.mem_range] at hg
   obtain ⟨x,hx,rfl⟩:=hg
   refine ⟨by simp,fun u hu=>?_⟩
   simp only [lets,tab,List.mem_map,List.mem_range] at hu
   obtain ⟨q,hq,rfl⟩:=hu
   have:=(hD.rt.step hq hx).1
   omega) w hw).1
  refine List.ext_getElem? fun q=>?_
  by_cases hq : q < m
  ·rw [zBg hD _ hw q hq,zBg hD _ hab q hq]
   congr 2
   have e : zk nx q (v ++ [a,b]) = zk nx (zk nx q v) [a,b]:=by simp [zk]
   rw [e,hc _ a b (hD.rt.walk hv hq) ha hb,← hc q a b hq ha hb]
  ·rw [List.getElem?_eq_none (by rw [len _ hw]; omega),List.getElem?_eq_none (by rw [len _ hab]; omega)]
theorem zPq (hD : DfL L m 0 bs nx) (hc : zRI L m nx) (hL : L <= 2) : ¬ SyF L m nx:=by
 refine zP5 (K:=(zQY L).map (act m (tab L (lets m nx)))) ?_ (fun w hw=>?_)
 ·have:=zMd hL
  simp; omega
 ·obtain ⟨u,hu,e⟩:=zJL hD hc w hw
  rw [e]
  exact List.mem_map.2 ⟨u,hu,rfl⟩
end
def zH1 (k : Nat) (w : List Nat) : List Nat:=w.drop (w.length - k)
def zDn (ws : List (List Nat)) (w : List Nat) (t : Nat) : Prop:=ws[t]? = some w /\ ∀ i,t < i -> ws[i]? ≠ some w
theorem zDn.eq {ws : List (List Nat)} {w : List Nat} {t u : Nat} (h : zDn ws w t) (g : zDn ws w u) : t = u:=by
 rcases Nat.lt_trichotomy t u with c | c | c
 ·exact absurd g.1 (h.2 u c)
 ·exact c
 ·exact absurd h.1 (g.2 t c)
theorem zBd (k : Nat) (w : List Nat) (x : Nat) : zH1 (k + 1) (w ++ [x]) = zH1 k w ++ [x]:=by
 unfold zH1
 rw [List.length_append,List.length_singleton,show w.length + 1 - (k + 1) = w.length - k by omega,List.drop_append_of_le_length (by omega)]
theorem zEA (w : List Nat) : zH1 0 w = []:=by simp [zH1]
def SuR (most : Nat) (ws : List (List Nat)) (w : List Nat) (r : List Int) : Prop:=∀ (x : Nat) v,r[x]? = some v -> ∃ t : Nat,v = (t : Int) /\ zDn ws (zH1 most (w ++ [x])) t
theorem zPY {most j : Nat} {v W : List Nat} (h : v = W.drop j) (hj : j = 0 \/ most < W.length - (j - 1)) (hl : v.length <= most) : v = zH1 most W:=by
 subst h
 rw [List.length_drop] at hl
 unfold zH1
 by_cases c : W.length <= j
 ·rw [List.drop_of_length_le c,List.drop_of_length_le]
  rcases hj with rfl | hj <;> omega
 ·congr 1
  rcases hj with rfl | hj <;> omega
theorem zK3 {a b : List Nat} (ha : ∀ x ∈ a,x <= 20) (hb : ∀ x ∈ b,x <= 20) (h : (zAF a).toList = (zAF b).toList) : a = b:=by
 rw [ByteArray.toList_eq,ByteArray.toList_eq] at h
 simp only [zAF] at h
 induction a generalizing b with
 | nil=>cases b with
  | nil=>rfl
  | cons y b=>simp at h
 | cons x a ih =>
  cases b with
  | nil=>simp at h
  | cons y b =>
   simp only [List.map_cons,List.cons.injEq] at h
   have hx:=ha x (by simp)
   have hy:=hb y (by simp)
   have h5:=congrArg UInt8.toNat h.1
   simp only [UInt8.toNat_ofNat'] at h5
   rw [ih (fun z hz=>ha z (by simp [hz])) (fun z hz=>hb z (by simp [hz])) h.2]
   congr 1
   omega
def DeG (L : Nat) (xs : List Int) (res : AV) (H' : List AObj) : Prop:=∃ n s b bs nxt,n <= 9 /\ b <= xs.length /\ DfL L n s bs nxt /\ (∀ p q a b,p < n -> q < n -> a < L -> b < L -> zk nxt p [a,b] = zk nxt q [a,b]) /\ res = dfT 2 L s bs nxt /\ H' = [tpO 1 xs b]
theorem zOA {L most : Nat} {ws : List (List Nat)} {nxt : List (List Int)} (hW : WsG L most ws) (hm : most = 1 \/ most = 2) (hl : nxt.length = ws.length) (hr : ∀ r ∈ nxt,r.length = L) (h : ∀ (j : Nat) r,nxt[j]? = some r -> SuR most ws (ws.getD j []) r) : ∀ p q a b,p < ws.length -> q < ws.length -> a < L -> b < L -> zk nxt p [a,b] = zk nxt q [a,b]:=by
 have st : ∀ p a,p < ws.length -> a < L -> zDn ws (zH1 most (ws.getD p [] ++ [a])) (zb nxt p a):=fun p a hp ha=>by
  have hpn : p < nxt.length:=by omega
  have hal : a < nxt[p].length:=by rw [hr _ (by simp)]; exact ha
  obtain ⟨t,h1,h2⟩:=h p nxt[p] (List.getElem?_eq_getElem hpn) a nxt[p][a] (List.getElem?_eq_getElem hal)
  have e : zb nxt p a = t:=by
   unfold zb
   rw [List.getD_eq_getElem?_getD (l:=nxt),List.getElem?_eq_getElem hpn,Option.getD_some,List.getD_eq_getElem?_getD,List.getElem?_eq_getElem hal,Option.getD_some,h1,Int.toNat_natCast]
  rw [e]; exact h2
 have key : ∀ p a b,p < ws.length -> a < L -> b < L -> zDn ws (zH1 most ([a] ++ [b])) (zk nxt p [a,b]):=fun p a b hp ha hb=>by
  have h1:=st p a hp ha
  have hs:=(List.getElem?_eq_some_iff.1 h1.1).1
  have h2:=st _ b hs hb
  rw [List.getD_eq_getElem?_getD,h1.1,Option.getD_some] at h2
  have e : zH1 most (zH1 most (ws.getD p [] ++ [a]) ++ [b]) = zH1 most ([a] ++ [b]):=by
   rcases hm with rfl | rfl
   ·rw [zBd,zEA]
    rfl
   ·rw [zBd,zBd 1 (ws.getD p []),zBd,zEA,zBd,show ([a] : List Nat) = [] ++ [a] from rfl,zBd,zEA]
    simp
  rw [e] at h2
  exact h2
 exact fun p q a b hp hq ha hb=>(key p a b hp ha hb).eq (key q a b hq ha hb)
theorem zF4 (xs : List Int) (a L : Nat) (ha : a <= xs.length) (hl : xs.length <= 80) (hL : L = 1 \/ L = 2) : ∃ res H',DeG L xs res H' ∧
  FnS Tryz.prog 56 [.ptr 0 0 2,.t 2 (.int .i64 L)] [tpO 1 xs a] res H':=by
 obtain ⟨v1,a1,hv1,ha1,hN1⟩:=zA7 xs a 2 ha hl (by omega)
 have hv1:=hv1 (by omega)
 obtain ⟨most,hmo⟩ : ∃ m,m = 1 + v1:=⟨_,rfl⟩
 have hm : most = 1 \/ most = 2:=by omega
 have hmm : (1 : Int) + v1 = most:=by omega
 obtain ⟨res,⟨ws,hW,rfl⟩,hN2⟩:=zMt L most hL hm
 have hwl:=hW.len
 have hwp:=hW.pos
 refine zAZ Tryz.func56 rfl (by simp [Tryz.f56]) ?_
 rw [show Tryz.f56.ntmps = 76 from rfl,show Tryz.f56.results = #[.cell 4 56] from rfl]
 refine rg0 ?_
 refine rg0 ?_
 refine zQ fun K hK=>?_
 simp (maxSteps:=2000000) (disch:=omega) [ints,rows,scal,zT,wr8]
 (repeat' apply And.intro)
 all_goals (try omega)
 refine zK (caps:=[]) (hN1) [0] [0] 1 rfl rfl rfl rfl (by kernel_rfl) (by simp) ?_ ?_ (by simp) rfl (by simp) ⟨.inr ⟨rfl,0,_,_,_,_,_,rfl,rfl,rfl,rfl,rfl⟩,trivial⟩ (by simp [tpO]) ?_
 ·simp [scal,rows,ints,tpO]
 ·simp [scal,rows,ints,tpO]
 simp (maxSteps:=2000000) (disch:=omega) [ints,rows,scal,zT,wr8,hmm]
 (repeat' apply And.intro)
 all_goals (try omega)
 refine zK (caps:=[]) (hN2) [] [] 2 rfl rfl rfl rfl (by kernel_rfl) (by simp) ?_ trivial trivial rfl trivial trivial (by simp) ?_
 ·simp [scal,rows,ints,tpO]
 simp (maxSteps:=2000000) (disch:=omega) [ints,rows,scal,zT,wr8]
 and_intros <;> try first | apply hK | omega | rfl | simp <;> omega
 refine zD ?_
 refine rg1 @wsT.eq_1 ?_
 refine zG ?_
 refine awp_loop (fun y : Nat × Nat × List Bool × List (List Int)=>mkS [(0,.ptr 0 0 2),(1,.t 2 (.int .i64 L)),(4,.ptr 1 0 4),(5,.ptr 2 0 4),(6,.t 2 (.sl 1 (wsT ws))),(22,.t 2 (.sl 1 (wsT ws))),(23,.t 2 (.int .i64 ws.length)),(24,.t 2 (.int .i64 y.1))]
   [(0,tpO 1 xs y.2.1),(1,.box 56 [.any,.any,.any,.any]),(2,.box 56 [.t 2 (.int .i64 L),.t 2 (.int .i64 0),.own 3 y.1,.own 4 y.1]),(3,.row 4 1 2 (y.2.2.1.map .bool)),(4,.row 22 1 2 (y.2.2.2.map ints))] 5 76 [.ptr 0 0 2,.any])
  (fun y=>y.1 <= ws.length /\ y.2.1 <= xs.length /\ y.2.2.1.length = y.1 /\ y.2.2.2.length = y.1 /\ (∀ r ∈ y.2.2.2,r.length = L /\ ∀ v ∈ r,0 <= v /\ v < (ws.length : Int)) /\ ∀ (j : Nat) r,y.2.2.2[j]? = some r -> SuR most ws (ws.getD j []) r) (fun y=>ws.length - y.1) ?_ ?_
 ·refine ⟨(0,a1,[],[]),⟨by simp,ha1,rfl,rfl,fun r hr=>by simp at hr,fun j r hr=>by simp at hr⟩,?_⟩
  refine zU [(0,some 0),(1,some 1),(2,some 3000001),(3,none),(4,none)] rfl ?_ ?_ ?_ ?_
  all_goals try simp [ints,tpO,scal,wsT]
 ·rintro ⟨q,a3,bs,nxt⟩ ⟨hq,ha3,hbl,hnl,hrow,hsu⟩
  simp only at hq ha3 hbl hnl hrow hsu
  refine rg0 ?_
  refine zD ?_
  by_cases hqn : q < ws.length
  ·have hwq:=hW.lt ws[q] (by simp)
   have hwql:=hW.ln ws[q] (by simp)
   refine cK1 @hqn ?_
   refine zD ?_
   refine zG ?_
   obtain ⟨v4,a4,hv4,ha4,hN4⟩:=zA7 xs a3 2 ha3 hl (by omega)
   refine rg1 (an @wsT.eq_1 @hqn) ?_
   refine zAC (by kernel_rfl) (fun K hK=>?_)
   simp (maxSteps:=2000000) (disch:=omega) [ints,rows,scal,zT,wr8]
   (repeat' apply And.intro)
   all_goals (try omega)
   refine za (caps:=[]) (hN4) [0] [0] 1 rfl rfl rfl rfl (by kernel_rfl) (by simp) ?_ ?_ (by simp) rfl (by simp) ⟨.inr ⟨rfl,0,_,_,_,_,_,rfl,rfl,rfl,rfl,rfl⟩,trivial⟩ (by simp [tpO]) ?_
   ·simp [scal,rows,ints,tpO]
   ·simp [scal,rows,ints,tpO]
   simp (maxSteps:=2000000) (disch:=omega) [ints,rows,scal,zT,wr8,tpO]
   (repeat' first | apply hK | apply And.intro) <;> try first | (show zAl _ _ = true; kernel_rfl) | (show okH _ _ _ = true; kernel_rfl) | omega | rfl | (simp <;> omega)
   refine rg0 ?_
   refine zD ?_
   refine rg0 ?_
   refine zG ?_
   refine awp_loop (fun y : Nat × List Int=>mkS [(0,.ptr 0 0 2),(1,.t 2 (.int .i64 L)),(4,.ptr 1 0 4),(5,.ptr 2 0 4),(6,.t 2 (.sl 1 (wsT ws))),(8,.t 2 (.str (zAF ws[q]))),(9,.own 5 y.1),(10,.t 2 (.int .i64 y.1)),(22,.t 2 (.sl 1 (wsT ws))),(23,.t 2 (.int .i64 ws.length)),(24,.t 2 (.int .i64 q))]
     [(0,tpO 1 xs a4),(1,.box 56 [.any,.any,.any,.any]),(2,.box 56 [.t 2 (.int .i64 L),.t 2 (.int .i64 0),.own 3 (q + 1),.own 4 q]),(3,.row 4 1 2 ((bs ++ [(v4 : Int) == 1]).map .bool)),(4,.row 22 1 2 (nxt.map ints)),(5,.row 3 1 2 (y.2.map (.int .i64)))] 6 76 [.ptr 0 0 2,.any])
    (fun y=>y.1 <= L /\ y.2.length = y.1 /\ (∀ v ∈ y.2,0 <= v /\ v < (ws.length : Int)) /\ SuR most ws ws[q] y.2) (fun y=>L - y.1) ?_ ?_
   ·refine ⟨(0,[]),⟨by simp,rfl,fun v hv=>by simp at hv,fun x v hx=>by simp at hx⟩,?_⟩
    refine zU [(0,some 0),(1,some 1),(2,some 2),(3,some 3),(4,some 4),(5,none)] rfl ?_ ?_ ?_ ?_
    all_goals try simp [ints,tpO,scal,wsT,hbl]
   ·rintro ⟨x,r⟩ ⟨hx,hrl,hrv,hrs⟩
    simp only at hx hrl hrv hrs
    refine zD ?_
    refine rg0 ?_
    by_cases hxl : x < L
    ·refine cK1 @hxl ?_
     refine zD ?_
     refine zG ?_
     refine zQ fun K hK=>?_
     simp (maxSteps:=2000000) (disch:=omega) [ints,rows,scal,zT,wr8,isU8,zDO (show x <= 20 by omega),zAS]
     (repeat' first | apply hK | apply And.intro) <;> try first | omega | rfl | (simp <;> omega)
     refine rg0 ?_
     refine zD ?_
     refine zG ?_
     refine awp_loop (fun y : List Nat × Int=>mkS [(0,.ptr 0 0 2),(1,.t 2 (.int .i64 L)),(4,.ptr 1 0 4),(5,.ptr 2 0 4),(6,.t 2 (.sl 1 (wsT ws))),(8,.t 2 (.str (zAF ws[q]))),(9,.own 5 x),(10,.t 2 (.int .i64 x)),(11,.t 2 (.str (zAF y.1))),(12,.t 2 (.int .i64 y.2)),(22,.t 2 (.sl 1 (wsT ws))),(23,.t 2 (.int .i64 ws.length)),(24,.t 2 (.int .i64 q))]
       [(0,tpO 1 xs a4),(1,.box 56 [.any,.any,.any,.any]),(2,.box 56 [.t 2 (.int .i64 L),.t 2 (.int .i64 0),.own 3 (q + 1),.own 4 q]),(3,.row 4 1 2 ((bs ++ [(v4 : Int) == 1]).map .bool)),(4,.row 22 1 2 (nxt.map ints)),(5,.row 3 1 2 (r.map (.int .i64)))] 6 76 [.ptr 0 0 2,.any])
      (fun y=>(y.2 = -1 /\ 1 <= y.1.length /\ y.1.length <= most + 1 /\ (∀ z ∈ y.1,z < L) /\ ∃ j,y.1 = (ws[q] ++ [x]).drop j /\ (j = 0 \/ most < (ws[q] ++ [x]).length - (j - 1))) \/ (0 <= y.2 /\ y.2 < (ws.length : Int) /\ ∃ t : Nat,y.2 = (t : Int) /\ zDn ws (zH1 most (ws[q] ++ [x])) t)) (fun y=>y.1.length) ?_ ?_
     ·refine ⟨(ws[q] ++ [x],-1),.inl ⟨rfl,by simp,by simp; omega,fun z hz=>?_,0,rfl,.inl rfl⟩,?_⟩
      ·rcases List.mem_append.1 hz with hz | hz
       ·exact hwq z hz
       ·simp at hz; omega
      ·refine zU [(0,some 0),(1,some 1),(2,some 2),(3,some 3),(4,some 4),(5,some 5)] rfl ?_ ?_ ?_ ?_
       all_goals try simp [ints,tpO,scal,wsT,hbl]
     ·rintro ⟨v,to⟩ hto
      simp only at hto
      refine zD ?_
      refine rg0 ?_
      rcases hto with ⟨rfl,hv1',hv2',hvx,jj,hjj,hjm⟩ | ⟨ht1,ht2,tt,ht3,ht4⟩
      ·refine cK0 ?_
       refine zG ?_
       refine zD ?_
       refine rg1 @wsT.eq_1 ?_
       refine zG ?_
       refine awp_loop (fun y : Nat × Int=>mkS [(0,.ptr 0 0 2),(1,.t 2 (.int .i64 L)),(4,.ptr 1 0 4),(5,.ptr 2 0 4),(6,.t 2 (.sl 1 (wsT ws))),(8,.t 2 (.str (zAF ws[q]))),(9,.own 5 x),(10,.t 2 (.int .i64 x)),(11,.t 2 (.str (zAF v))),(12,.t 2 (.int .i64 y.2)),(22,.t 2 (.sl 1 (wsT ws))),(23,.t 2 (.int .i64 ws.length)),(24,.t 2 (.int .i64 q)),(50,.t 2 (.sl 1 (wsT ws))),(51,.t 2 (.int .i64 ws.length)),(52,.t 2 (.int .i64 y.1))]
         [(0,tpO 1 xs a4),(1,.box 56 [.any,.any,.any,.any]),(2,.box 56 [.t 2 (.int .i64 L),.t 2 (.int .i64 0),.own 3 (q + 1),.own 4 q]),(3,.row 4 1 2 ((bs ++ [(v4 : Int) == 1]).map .bool)),(4,.row 22 1 2 (nxt.map ints)),(5,.row 3 1 2 (r.map (.int .i64)))] 6 76 [.ptr 0 0 2,.any])
        (fun y=>y.1 <= ws.length /\ ((y.2 = -1 /\ ∀ i (hi : i < ws.length),i < y.1 -> ws[i] ≠ v) \/ (0 <= y.2 /\ y.2 < (ws.length : Int) /\ ∃ t : Nat,y.2 = (t : Int) /\ ws[t]? = some v /\ ∀ i,t < i -> i < y.1 -> ws[i]? ≠ some v))) (fun y=>ws.length - y.1) ?_ ?_
       ·refine ⟨(0,-1),⟨by simp,.inl ⟨rfl,fun i _ h=>by simp at h⟩⟩,?_⟩
        refine zU [(0,some 0),(1,some 1),(2,some 2),(3,some 3),(4,some 4),(5,some 5)] rfl ?_ ?_ ?_ ?_
        all_goals try simp [ints,tpO,scal,wsT,hbl]
       ·rintro ⟨k,to⟩ ⟨hk,hto⟩
        simp only at hk hto
        refine rg0 ?_
        refine zD ?_
        by_cases hkl : k < ws.length
        ·refine cK1 @hkl ?_
         refine zD ?_
         refine zG ?_
         refine rg1 (an @wsT.eq_1 @hkl) ?_
         by_cases he : (zAF ws[k]).toList = (zAF v).toList
         ·refine rg1 @he ?_
          refine cT0 ?_
          refine rr0 ?_
          show awp _ _ _ _
          refine rr0 ?_
          refine ⟨(k + 1,(k : Int)),⟨by omega,.inr ⟨by omega,by omega,k,rfl,by rw [List.getElem?_eq_getElem hkl,zK3 (fun z hz=>by have:=hW.lt ws[k] (by simp) z hz; omega) (fun z hz=>by have:=hvx z hz; omega) he],fun i h1 h2=>by simp at h2; omega⟩⟩,by simp; omega,?_⟩
          refine zU [(0,some 0),(1,some 1),(2,some 2),(3,some 3),(4,some 4),(5,some 5)] rfl ?_ ?_ ?_ ?_
          all_goals try simp [ints,tpO,scal,wsT]
         ·refine rg1 @he ?_
          refine cY1 @he ?_
          show awp _ _ _ _
          refine rr0 ?_
          refine ⟨(k + 1,to),⟨by omega,?_⟩,by simp; omega,?_⟩
          ·rcases hto with ⟨h1,h2⟩ | h1
           ·refine .inl ⟨h1,fun i hi hik=>?_⟩
            by_cases e : i = k
            ·subst e; intro h; exact he (by rw [h])
            ·exact h2 i hi (by simp at hik; omega)
           ·obtain ⟨g1,g2,g3,g4,g5,g6⟩:=h1
            refine .inr ⟨g1,g2,g3,g4,g5,fun i c1 c2=>?_⟩
            by_cases e : i = k
            ·subst e
             rw [List.getElem?_eq_getElem hkl]
             intro e2
             injection e2 with e2
             exact he (by rw [e2])
            ·exact g6 i c1 (by simp at c2; omega)
          ·refine zU [(0,some 0),(1,some 1),(2,some 2),(3,some 3),(4,some 4),(5,some 5)] rfl ?_ ?_ ?_ ?_
           all_goals try simp [ints,tpO,scal,wsT]
        ·refine cF1 @hkl ?_
         refine zM ?_
         show awp _ _ _ _
         refine rr1 @zJ7 ?_
         refine ⟨(v.drop 1,to),?_,by simp; omega,?_⟩
         ·rcases hto with ⟨h1,h2⟩ | h1
          ·have hvm : most < v.length:=by
            refine Nat.lt_of_not_le fun hvl=>?_
            obtain ⟨i,hi,e⟩:=List.getElem_of_mem (hW.all v hvx hvl)
            exact h2 i hi (by omega) e
           have hvl2:=congrArg List.length hjj
           rw [List.length_drop] at hvl2
           refine .inl ⟨h1,by simp; omega,by simp; omega,fun z hz=>hvx z (List.mem_of_mem_drop hz),jj + 1,?_,.inr (by simp only [Nat.add_sub_cancel]; omega)⟩
           show v.drop 1 = _
           rw [hjj,List.drop_drop]
          ·obtain ⟨g1,g2,g3,g4,g5,g6⟩:=h1
           refine .inr ⟨g1,g2,g3,g4,?_⟩
           rw [← zPY hjj hjm (hW.ln v (List.mem_of_getElem? g5))]
           refine ⟨g5,fun i hi=>?_⟩
           by_cases hil : i < ws.length
           ·exact g6 i hi (by omega)
           ·rw [List.getElem?_eq_none (by omega)]; simp
         ·refine zU [(0,some 0),(1,some 1),(2,some 2),(3,some 3),(4,some 4),(5,some 5)] rfl ?_ ?_ ?_ ?_
          all_goals try simp [ints,tpO,scal,wsT]
      ·refine cF0 ?_
       refine zM ?_
       show awp _ _ _ _
       refine rr0 ?_
       show awp _ _ _ _
       refine rr0 ?_
       refine ⟨(x + 1,r ++ [to]),⟨by omega,by simp [hrl],fun u hu=>?_,fun y v hy=>?_⟩,by simp; omega,?_⟩
       ·rcases List.mem_append.1 hu with hu | hu
        ·exact hrv u hu
        ·simp at hu; omega
       ·by_cases c : y < r.length
        ·rw [List.getElem?_append_left c] at hy
         exact hrs y v hy
        ·have:=(List.getElem?_eq_some_iff.1 hy).1
         simp at this
         obtain rfl : y = r.length:=by omega
         simp at hy
         subst hy
         rw [hrl]
         exact ⟨tt,ht3,ht4⟩
       ·refine zU [(0,some 0),(1,some 1),(2,some 2),(3,some 3),(4,some 4),(5,some 5)] rfl ?_ ?_ ?_ ?_
        all_goals try simp [ints,tpO,scal,wsT,hrl]
    ·have hxe : x = L:=by omega
     refine cF1 @hxl ?_
     refine zM ?_
     show awp _ _ _ _
     refine rr0 ?_
     show awp _ _ _ _
     refine rr0 ?_
     refine ⟨(q + 1,a4,bs ++ [(v4 : Int) == 1],nxt ++ [r]),⟨by simp; omega,ha4,by simp [hbl],by simp [hnl],fun u hu=>?_,fun j u hj=>?_⟩,by simp; omega,?_⟩
     ·rcases List.mem_append.1 hu with hu | hu
      ·exact hrow u hu
      ·simp at hu
       subst hu
       exact ⟨by omega,hrv⟩
     ·by_cases c : j < nxt.length
      ·rw [List.getElem?_append_left c] at hj
       exact hsu j u hj
      ·have:=(List.getElem?_eq_some_iff.1 hj).1
       simp at this
       obtain rfl : j = nxt.length:=by omega
       simp at hj
       subst hj
       rw [hnl,List.getD_eq_getElem?_getD,List.getElem?_eq_getElem hqn]
       exact hrs
     ·refine zU [(0,some 0),(1,some 1),(2,some 2),(3,some 3),(4,some 4)] rfl ?_ ?_ ?_ ?_
      all_goals try simp [ints,tpO,scal,wsT,hbl,hnl]
  ·have hqe : q = ws.length:=by omega
   refine cF1 @hqn ?_
   refine zM ?_
   show awp _ _ _ _
   refine rg0 ?_
   refine zI ?_
   subst hqe
   refine ⟨⟨_,_,⟨ws.length,0,a3,bs,nxt,hwl,ha3,⟨hwp,by omega,hbl,hnl,hrow⟩,zOA hW hm hnl (fun r hr=>(hrow r hr).1) hsu,rfl,rfl⟩,zBI ?_⟩,by simp⟩
   refine ⟨.inr rfl,_,[(0,some 0)],(by first | (simp; rfl) | rfl),?_,?_,?_,?_⟩
   all_goals try simp +contextual (disch:=omega) [zX,zY,zg,zh,zAG,List.getElem?_cons_succ,Option.getD_some,callF,ints,scal,tpO,zO,zP,zAR,wk1,rows,zH,dfT,hbl,hnl]
def zQy (L n : Nat) (nxt : List (List Int)) : Prop:=n <= 4 \/ ∀ p q a b,p < n -> q < n -> a < L -> b < L -> zk nxt p [a,b] = zk nxt q [a,b]
def AnG (L : Nat) (xs : List Int) (res : AV) (H' : List AObj) : Prop:=∃ n s b bs nxt,n <= 9 /\ b <= xs.length /\ DfL L n s bs nxt /\ zQy L n nxt /\ res = dfT 2 L s bs nxt /\ H' = [tpO 1 xs b]
theorem zJ0 {L m : Nat} {nx : List (List Int)} (hL : 0 < L) (hc : Can L m nx) : ∀ t,t < m -> ∃ u : List Nat,(∀ a ∈ u,a < L) /\ zk nx 0 u = t:=by
 intro t
 induction t using Nat.strongRecOn with
 | _ t ih =>
  intro ht
  by_cases h0 : t = 0
  ·subst h0
   exact ⟨[],by simp,rfl⟩
  ·obtain ⟨k,k1,k2,-⟩:=hc t (by omega) ht
   obtain ⟨u,u1,u2⟩:=ih (k / L) k1 (by omega)
   refine ⟨u ++ [k % L],fun a ha=>?_,?_⟩
   ·rcases List.mem_append.1 ha with ha | ha
    ·exact u1 a ha
    ·simp only [List.mem_singleton] at ha
     subst ha
     exact Nat.mod_lt _ hL
   ·simp only [zk,List.foldl_append,List.foldl_cons,List.foldl_nil] at u2 ⊢
    rw [u2,k2]
theorem zCG {bs : List Bool} {nx : List (List Int)} (s : Nat) (u v : List Nat) : zBf bs nx s (u ++ v) = zBf bs nx (zk nx s u) v:=by
 simp [zBf,zk]
theorem MiX.con {L n s m : Nat} {bs bs' : List Bool} {nxt nx' : List (List Int)} (hL : 1 <= L) (hD : DfL L n s bs nxt) (hX : MiX L n s bs nxt m bs' nx') (hc : ∀ p q a b,p < n -> q < n -> a < L -> b < L -> zk nxt p [a,b] = zk nxt q [a,b]) : zRI L m nx':=by
 intro q a b hq ha hb
 have hM:=hX.mn
 have hm0 : 0 < m:=hM.df.n1
 have hab : ∀ x ∈ [a,b],x < L:=fun x hx=>by simp at hx; rcases hx with rfl | rfl <;> assumption
 obtain ⟨u,u1,u2⟩:=zJ0 hL hM.can q hq
 refine hM.dis _ _ (hM.df.rt.walk hab hq) (hM.df.rt.walk hab hm0) fun w hw=>?_
 have h1 : ∀ x ∈ u ++ ([a,b] ++ w),x < L:=fun x hx=>by
  rcases List.mem_append.1 hx with hx | hx
  ·exact u1 x hx
  ·rcases List.mem_append.1 hx with hx | hx
   ·exact hab x hx
   ·exact hw x hx
 have h2 : ∀ x ∈ [a,b] ++ w,x < L:=fun x hx=>h1 x (List.mem_append_right _ hx)
 have e1 : zBf bs' nx' (zk nx' q [a,b]) w = zBf bs' nx' 0 (u ++ ([a,b] ++ w)):=by rw [zCG,u2,zCG]
 have e2 : zBf bs' nx' (zk nx' 0 [a,b]) w = zBf bs' nx' 0 ([a,b] ++ w):=by rw [zCG]
 rw [e1,e2,hX.zIu _ h1,hX.zIu _ h2,zCG,zCG,zCG,hc _ s a b (hD.rt.walk u1 hD.st) hD.st ha hb]
theorem zQy.noF {L n s m : Nat} {bs bs' : List Bool} {nxt nx' : List (List Int)} (hL : L = 1 \/ L = 2) (hD : DfL L n s bs nxt) (hX : MiX L n s bs nxt m bs' nx') (hn : n <= 9) (hc : zQy L n nxt) : ¬ SyF L m nx':=by
 have hmn:=hX.le
 rcases hc with hc | hc
 ·exact zKs (hX.mn.df.gn (by omega) (by omega) (by omega)).tr (by omega)
 ·exact zPq hX.mn.df (hX.con (by omega) hD hc) (by omega)
theorem zOk (xs : List Int) (a L most : Nat) (ha : a <= xs.length) (hl : xs.length <= 80) (hL : L = 1 \/ L = 2) (hm : 1 <= most) (hm4 : most <= 4) : ∃ res H',AnG L xs res H' ∧
  FnS Tryz.prog 24 [.ptr 0 0 2,.t 2 (.int .i64 L),.t 2 (.int .i64 most)] [tpO 1 xs a] res H':=by
 obtain ⟨v,a1,hv,ha1,hN⟩:=zA7 xs a 6 ha hl (by omega)
 have hv:=hv (by omega)
 refine zAZ Tryz.func24 rfl (by simp [Tryz.f24]) ?_
 rw [show Tryz.f24.ntmps = 31 from rfl,show Tryz.f24.results = #[.cell 6 56] from rfl]
 refine rg0 ?_
 refine zD ?_
 refine zQ fun K hK=>?_
 simp (maxSteps:=2000000) (disch:=omega) [ints,rows,scal,zT,wr8]
 (repeat' apply And.intro)
 all_goals (try omega)
 refine zK (caps:=[]) (hN) [0] [0] 1 rfl rfl rfl rfl (by kernel_rfl) (by simp) ?_ ?_ (by simp) rfl (by simp) ⟨.inr ⟨rfl,0,_,_,_,_,_,rfl,rfl,rfl,rfl,rfl⟩,trivial⟩ (by simp [tpO]) ?_
 ·simp [scal,rows,ints,tpO]
 ·simp [scal,rows,ints,tpO]
 simp (maxSteps:=2000000) (disch:=omega) [ints,rows,scal,zT,wr8]
 and_intros <;> try first | apply hK | omega | rfl | simp <;> omega
 refine zG ?_
 by_cases h1 : (v : Int) = 1
 ·obtain ⟨res,H',⟨n,s,b,bs,nxt,hn,hb,hD,rfl,rfl⟩,hO⟩:=zEX xs a1 L most ha1 hl (by omega) (by omega) hm (by omega)
  refine rg1 @h1 ?_
  refine cT0 ?_
  refine zQ fun K hK=>?_
  simp (maxSteps:=2000000) (disch:=omega) [ints,rows,scal,zT,wr8]
  (repeat' apply And.intro)
  all_goals (try omega)
  refine zK (caps:=[]) (hO) [0] [0] 1 rfl rfl rfl rfl (by kernel_rfl) (by simp) ?_ ?_ (by simp) rfl (by simp) ⟨.inr ⟨rfl,0,_,_,_,_,_,rfl,rfl,rfl,rfl,rfl⟩,trivial⟩ (by simp [tpO]) ?_
  ·simp [scal,rows,ints,tpO,dfT]
  ·simp [scal,rows,ints,tpO,dfT]
  simp (maxSteps:=2000000) (disch:=omega) [ints,rows,scal,zT,wr8,dfT,zH,tpO]
  and_intros <;> try first | apply hK | omega | rfl | simp <;> omega
  refine zI ?_
  refine ⟨⟨_,_,⟨n,s,b,bs,nxt,by omega,hb,hD,.inl (by omega),rfl,rfl⟩,zBI ?_⟩,by simp⟩
  refine ⟨.inr rfl,_,[(0,some 0)],(by first | (simp; rfl) | rfl),?_,?_,?_,?_⟩
  all_goals try simp +contextual (disch:=omega) [zX,zY,zg,zh,zAG,List.getElem?_cons_succ,Option.getD_some,callF,ints,scal,tpO,zO,zP,zAR,wk1,rows,zH,dfT]
 by_cases h2 : (v : Int) = 2
 ·obtain ⟨m4,hm4⟩ : ∃ m4 : Nat,(m4 : Int) = if (4 : Int) < most then 4 else (most : Int):=⟨if 4 < most then 4 else most,by split <;> split <;> omega⟩
  have hm5 : 1 <= m4 /\ m4 <= 100 /\ m4 <= 4:=by split at hm4 <;> omega
  obtain ⟨res,H',⟨n,s,b,bs,nxt,hn,hb,hD,rfl,rfl⟩,hO⟩:=zDp xs a1 L m4 ha1 hl (by omega) (by omega) hm5.1 hm5.2.1
  refine rg1 @h1 ?_
  refine cF0 ?_
  refine rg1 @h2 ?_
  refine cT0 ?_
  refine zQ fun K hK=>?_
  simp (maxSteps:=2000000) (disch:=omega) [ints,rows,scal,zT,wr8,← hm4]
  (repeat' apply And.intro)
  all_goals (try omega)
  refine zK (caps:=[]) (hO) [0] [0] 1 rfl rfl rfl rfl (by kernel_rfl) (by simp) ?_ ?_ (by simp) rfl (by simp) ⟨.inr ⟨rfl,0,_,_,_,_,_,rfl,rfl,rfl,rfl,rfl⟩,trivial⟩ (by simp [tpO]) ?_
  ·simp [scal,rows,ints,tpO,dfT]
  ·simp [scal,rows,ints,tpO,dfT]
  simp (maxSteps:=2000000) (disch:=omega) [ints,rows,scal,zT,wr8,dfT,zH,tpO]
  and_intros <;> try first | apply hK | omega | rfl | simp <;> omega
  refine zI ?_
  refine ⟨⟨_,_,⟨n,s,b,bs,nxt,by omega,hb,hD,.inl (by omega),rfl,rfl⟩,zBI ?_⟩,by simp⟩
  refine ⟨.inr rfl,_,[(0,some 0)],(by first | (simp; rfl) | rfl),?_,?_,?_,?_⟩
  all_goals try simp +contextual (disch:=omega) [zX,zY,zg,zh,zAG,List.getElem?_cons_succ,Option.getD_some,callF,ints,scal,tpO,zO,zP,zAR,wk1,rows,zH,dfT]
 by_cases h3 : (v : Int) = 3
 ·obtain ⟨res,H',⟨n,s,b,bs,nxt,hn,hb,hD,hcon,rfl,rfl⟩,hO⟩:=zF4 xs a1 L ha1 hl hL
  refine rg1 @h1 ?_
  refine cF0 ?_
  refine rg1 @h2 ?_
  refine cF0 ?_
  refine rg1 @h3 ?_
  refine cT0 ?_
  refine zQ fun K hK=>?_
  simp (maxSteps:=2000000) (disch:=omega) [ints,rows,scal,zT,wr8]
  (repeat' apply And.intro)
  all_goals (try omega)
  refine zK (caps:=[]) (hO) [0] [0] 1 rfl rfl rfl rfl (by kernel_rfl) (by simp) ?_ ?_ (by simp) rfl (by simp) ⟨.inr ⟨rfl,0,_,_,_,_,_,rfl,rfl,rfl,rfl,rfl⟩,trivial⟩ (by simp [tpO]) ?_
  ·simp [scal,rows,ints,tpO,dfT]
  ·simp [scal,rows,ints,tpO,dfT]
  simp (maxSteps:=2000000) (disch:=omega) [ints,rows,scal,zT,wr8,dfT,zH,tpO]
  and_intros <;> try first | apply hK | omega | rfl | simp <;> omega
  refine zI ?_
  refine ⟨⟨_,_,⟨n,s,b,bs,nxt,by omega,hb,hD,.inr hcon,rfl,rfl⟩,zBI ?_⟩,by simp⟩
  refine ⟨.inr rfl,_,[(0,some 0)],(by first | (simp; rfl) | rfl),?_,?_,?_,?_⟩
  all_goals try simp +contextual (disch:=omega) [zX,zY,zg,zh,zAG,List.getElem?_cons_succ,Option.getD_some,callF,ints,scal,tpO,zO,zP,zAR,wk1,rows,zH,dfT]
 ·obtain ⟨res,H',⟨n,s,b,bs,nx,hnm,hb,hD,rfl,rfl⟩,hspec⟩:=zNe xs a1 L most ha1 hl (by omega) (by omega) hm (by omega)
  have hbl:=hD.bl
  refine rg1 @h1 ?_
  refine cF0 ?_
  refine rg1 @h2 ?_
  refine cF0 ?_
  refine rg1 @h3 ?_
  refine cY0 ?_
  show awp _ _ _ _
  refine zQ fun K hK=>?_
  simp (maxSteps:=2000000) (disch:=omega) [ints,rows,scal,zT,wr8]
  (repeat' apply And.intro)
  all_goals (try omega)
  refine zEg (caps:=[]) hspec [0] [0,12000001,12000002] 12000003 1 rfl rfl rfl rfl (by kernel_rfl) (by simp) ?_ ?_ (by simp) rfl (by simp) ⟨.inr ⟨rfl,0,_,_,_,_,_,rfl,rfl,rfl,rfl,rfl⟩,.inl (by omega),.inl (by omega),trivial⟩ (by omega) (by intro k hk; simp at hk; omega) (by simp [tpO,dfH]) (fun j hj=>rfl) ?_
  ·simp [scal,tpO]
  ·simp [tpO,scal,ints]
  have q1 : (poF [0,12000001,12000002] 12000003 n)[1]?.getD 0 = 12000001:=by simp [poF]
  have q2 : (poF [0,12000001,12000002] 12000003 n)[2]?.getD 0 = 12000002:=by simp [poF]
  simp (maxSteps:=2000000) (disch:=omega) [zMh,zMZ,zDR,zCt,zDT,zCp,awpOp,awpOpD,wrE,gd,aop,aBuiltin,aNil,aMin,ASt.eval,AV.ofV,zAm,ASt.app,Eff.heap,dels,zBn,aLoad,aStore,aField,aFieldV,aIndexAddr,aIndex,aSlice,aSliceO,aLen,aBin,iB,sB,aUn,aConv,aAlloc,aBox,aBuild,afill,avCells,AV.leaf,zPP,aBuildSlice,frz,frzL,isOwn,vecOf,tsOf,aMake,srcOf,aAppend,aMkMap,aMapUpd,aLookup,oint,cut,putL,AObj.cnt,mkS,zAD,zy,zx,zt,zCI,Nat.blt_eq,callS,outV,outVs,outO,zA8,addL,delL,ints,rows,scal,zT,wr8,List.getElem?_cons_zero,callF,q1,q2,zBz (show 3 = [0,12000001,12000002].length from rfl),dfH,tpO,zBL]
  and_intros <;> try first | apply hK | omega | rfl | simp <;> omega
  refine zI ?_
  refine ⟨⟨_,_,⟨n,s,b,bs,tab n nx,by omega,hb,hD.list,.inl (by omega),rfl,rfl⟩,zBI ?_⟩,by simp [callF]⟩
  refine ⟨.inr rfl,_,[(0,some 0)],(by first | (simp; rfl) | rfl),?_,?_,?_,?_⟩
  all_goals try simp +contextual (disch:=omega) [zX,zY,zg,zh,zAG,List.getElem?_cons_succ,Option.getD_some,callF,ints,scal,tpO,zO,zP,zAR,wk1,rows,zH,dfT,zd,hbl]
  exact fun j hj=>(hD.row j hj).1
section
variable {L m : Nat} {bs : List Bool} {nx : List (List Int)}
theorem zFN (q : Nat) (u v : List Nat) : zk nx q (u ++ v) = zk nx (zk nx q u) v:=by simp [zk]
end
end Go.Proofs.YtjkeafkjjaploaaGreat.M
