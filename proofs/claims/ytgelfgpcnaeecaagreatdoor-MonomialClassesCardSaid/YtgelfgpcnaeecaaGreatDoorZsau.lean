/-
  Walks in my logic: add, accept (syntactic).
  Walks in my logic: slices.Index, slices.Contains of ints; accept (syntactic); the monoid's parts in plain Lean.
  Walk in my logic: monoid (syntactic).
  Walk in my logic: Of (syntactic).
  Plain law: the syntactic monoid of a minimal automaton is that of its own automaton.
  Walks in my logic: slices.Equal, slices.Clone of bools; the monoid's own automaton in plain Lean.
  Walks in my logic: within, shaped, automaton (syntactic).
  Walk in my logic: Validate (syntactic) of the monoid that Of gives.
  Plain law: few elements: automata of at most four states, and automata whose words of two letters are constant.
  Walk in my logic: Definite (semigroupmade): every word of two letters is constant.
  Walk in my logic: Any (semigroupmade), with at most four states or constant words of two letters; then Of succeeds.
  Plain law: the cycles of an automaton are loops exactly if (uv)^k u and (uv)^k act alike.
  Walk in my logic: entries (variety).
  Walk in my logic: Find (variety).
-/
import Derived.Test.YtgelfgpcnaeecaaGreatDoorZsak
import Derived.Test.YtgelfgpcnaeecaaGreatDoorZsad
import Derived.Test.YtgelfgpcnaeecaaGreatDoorZsag
import Derived.Test.YtgelfgpcnaeecaaGreatDoorZsam
import Derived.Test.YtgelfgpcnaeecaaGreatDoorZsan
import Derived.Test.YtgelfgpcnaeecaaGreatDoorZsat
import Derived.Test.YtgelfgpcnaeecaaGreatDoorZsal
namespace Go.Proofs.YtgelfgpcnaeecaaGreatDoor.M
open Go.RowKit
set_option linter.unusedVariables false
set_option linter.unusedSimpArgs false
set_option maxRecDepth 100000
set_option maxHeartbeats 32000000

def zGr (n : Nat) (nx : List (List Int)) (x q j : Nat) : List Int:=if j < x then lets n nx j else if j = x then (lets n nx x).take q else []
theorem zMu (n : Nat) (nx : List (List Int)) (j : Nat) : zGr n nx 0 0 j = []:=by
 unfold zGr
 rw [if_neg (by omega)]
 split <;> simp
@[simp] theorem zTC (n : Nat) (nx : List (List Int)) (x : Nat) : (lets n nx x).length = n:=by simp [lets]
theorem zMk (n : Nat) (nx : List (List Int)) (x j : Nat) : zGr n nx x n j = zGr n nx (x + 1) 0 j:=by
 unfold zGr
 by_cases h : j < x
 ·rw [if_pos h,if_pos (by omega)]
 ·rw [if_neg h]
  by_cases e : j = x
  ·subst e
   rw [if_pos rfl,if_pos (by omega),List.take_of_length_le (by simp)]
  ·rw [if_neg e,if_neg (by omega)]
   split <;> simp
theorem zK5 (n : Nat) (nx : List (List Int)) {L j : Nat} (h : j < L) : zGr n nx L 0 j = lets n nx j:=by
 unfold zGr
 rw [if_pos h]
theorem zOJ {n : Nat} (nx : List (List Int)) (x : Nat) {q : Nat} (hq : q <= n) (j : Nat) : (zGr n nx x q j).length <= n:=by
 unfold zGr
 split
 ·simp
 ·split <;> simp <;> omega
theorem zJZ {n : Nat} (nx : List (List Int)) (x : Nat) {q : Nat} (hq : q < n) (j : Nat) : zGr n nx x (q + 1) j = if j = x then zGr n nx x q j ++ [(zJ nx q x : Int)] else zGr n nx x q j:=by
 unfold zGr
 by_cases e : j = x
 ·subst e
  rw [if_neg (by omega),if_pos rfl,if_pos rfl,if_neg (by omega),if_pos rfl]
  have hl : q < (lets n nx j).length:=by simpa using hq
  rw [List.take_succ_eq_append_getElem hl]
  simp [lets,zC5]
 ·simp only [if_neg e]
def zKh (L s : Nat) (bs : List Bool) (nxt : List (List Int)) : AObj:=.box 28 [.t 2 (.int .i64 L),.t 2 (.int .i64 s),.t 1 (zE bs),.t 1 (rows nxt)]
def syO (L n : Nat) (bs : List Bool) (nx : List (List Int)) : AObj:=.box 52 [.t 1 (rows (tab L (lets n nx))),.t 1 (.sl 3 [.int .i64 0,zE bs,.int .i64 0]),.t 2 (.int .i64 n)]
def syZ : AObj:=.box 52 [.t 1 (.sl 0 []),.t 1 (.sl 0 []),.t 2 (.int .i64 0)]
theorem zQK {L n : Nat} {bs : List Bool} {nx : List (List Int)} (h : DfL L n 0 bs nx) (hL : 1 <= L) (hL2 : L <= 6) (hn : n <= 32) : FnS Tryz.prog 19 [.ptr 0 0 3,dfT 1 L 0 bs nx] [syZ] (.t 2 (.int .i64 0)) [syO L n bs nx]:=by
 have hnl:=h.nl
 have hbl:=h.bl
 have c1 : ¬ 32 < (n : Int):=by omega
 refine fI 102 #[.tmp 4] Tryz.func19 rfl ?_
 refine rg1 (an @syZ.eq_1 (an @dfT.eq_1 @zE.eq_1)) ?_
 refine rg1 @hbl ?_
 refine zA ?_
 refine rg1 @c1 ?_
 refine cS0 ?_
 refine zA ?_
 refine rg0 ?_
 refine cT0 ?_
 refine rr0 ?_
 show awp _ _ _ _
 refine zA ?_
 refine rg0 ?_
 refine zB ?_
 refine awp_loop (fun x : Nat=>mkF [(0,.ptr 0 0 3),(3,.ptr 2 0 4),(5,.t 2 (.int .i64 n)),(33,.t 2 (.int .i64 L)),(34,.t 2 (.int .i64 x))]
   [(0,.box 52 [.own 1 L,.t 1 (.sl 0 []),.t 2 (.int .i64 0)]),(1,.vec 22 1 2 (tab L fun j=>.own (100 + j) (zGr n nx x 0 j).length)),(2,zKh L 0 bs nx)] 100 L (fun j=>.row 3 1 2 ((zGr n nx x 0 j).map (.int .i64))) 1000 102 [.ptr 0 0 3,.any])
  (fun x=>x <= L) (fun x=>L - x) ?_ ?_
 ·refine ⟨0,by omega,?_⟩
  refine zMB [(0,some 0),(1,some 21000001),(2,some 1)] rfl ?_ ?_ ?_ ?_ ?_
  all_goals try simp +contextual (disch:=omega) [zL,zM,zV,zW,zw,List.getElem?_cons_succ,Option.getD_some,callF,ints,scal,tpO,zF,zH,rows,zE,zKh,hnl,zAF,ze,zNr,zMu]
  all_goals (try omega)
 intro x hx
 refine rg0 ?_
 refine zA ?_
 by_cases hxL : x < L
 ·refine cK1 @hxL ?_
  refine zA ?_
  refine zB ?_
  refine rg0 ?_
  refine rg0 ?_
  refine zB ?_
  refine awp_loop (fun q : Nat=>mkF [(0,.ptr 0 0 3),(3,.ptr 2 0 4),(5,.t 2 (.int .i64 n)),(6,.t 2 (.int .i64 x)),(33,.t 2 (.int .i64 L)),(34,.t 2 (.int .i64 x)),(37,.t 2 (.int .i64 n)),(38,.t 2 (.int .i64 q))]
    [(0,.box 52 [.own 1 L,.t 1 (.sl 0 []),.t 2 (.int .i64 0)]),(1,.vec 22 1 2 (tab L fun j=>.own (100 + j) (zGr n nx x q j).length)),(2,zKh L 0 bs nx)] 100 L (fun j=>.row 3 1 2 ((zGr n nx x q j).map (.int .i64))) 1000 102 [.ptr 0 0 3,.any])
   (fun q=>q <= n) (fun q=>n - q) ?_ ?_
  ·refine ⟨0,by omega,?_⟩
   exact kf1 [(0,some 0),(1,some 1),(2,some 2)] (fun j=>100 + j) (an @rows.eq_1 @zKh.eq_1)
  intro q hq
  refine rg0 ?_
  refine zA ?_
  by_cases hqn : q < n
  ·obtain ⟨s1,s2,s3,s4⟩:=h.rt.step hqn hxL
   have hqx : q < nx.length:=by omega
   have hlen:=zOJ nx x hq
   have hlx:=hlen x
   have hw : IntKind.i64.wrap (0 + (zJ nx q x : Int)) = zJ nx q x:=by rw [Int.zero_add]; exact zK _ (by omega) (by omega)
   refine cK1 @hqn ?_
   refine zA ?_
   refine zB ?_
   refine rg0 ?_
   refine zAm (by kernel_rfl) (fun K hK=>?_)
   simp (maxSteps:=2000000) (disch:=omega) [ints,rows,scal,zK,wr8,zKh,rows,hqx,s3,s4,hxL,s1,zg,zM,zL]
   (repeat' first | apply hK | apply And.intro) <;> try first | (show zA8 _ _ = true; (rcases (by omega : x = 0 \/ x = 1 \/ x = 2 \/ x = 3 \/ x = 4 \/ x = 5) with rfl | rfl | rfl | rfl | rfl | rfl) <;> kernel_rfl) | (show okH _ _ _ = true; kernel_rfl) | omega | rfl | (simp <;> omega)
   show awp _ _ _ _
   refine rr0 ?_
   refine ⟨q + 1,by omega,by omega,?_⟩
   refine zAG [(0,some 0),(1,some 1),(2,some 2)] (fun j=>100 + j) rfl ?_ ?_ ?_ ?_ ?_ ?_
   all_goals try simp +contextual (disch:=omega) [zL,zM,zV,zW,zw,List.getElem?_cons_succ,Option.getD_some,callF,ints,scal,tpO,zF,zH,rows,zKh]
   all_goals (try omega)
   ·intro j hj
    rw [zJZ nx x hqn]
    by_cases e : j = x
    ·subst e
     simp +contextual (disch:=omega) [zL,zM,zV,zW,zw,List.getElem?_cons_succ,Option.getD_some,callF,ints,scal,tpO,zF,zH]
    ·simp +contextual (disch:=omega) [zL,zM,zV,zW,zw,List.getElem?_cons_succ,Option.getD_some,callF,ints,scal,tpO,zF,zH,e]
   ·intro j hj
    rw [zJZ nx x hqn]
    by_cases e : j = x
    ·subst e
     simp +contextual (disch:=omega) [zL,zM,zV,zW,zw,List.getElem?_cons_succ,Option.getD_some,callF,ints,scal,tpO,zF,zH]
    ·simp +contextual (disch:=omega) [zL,zM,zV,zW,zw,List.getElem?_cons_succ,Option.getD_some,callF,ints,scal,tpO,zF,zH,e,zBT (show 100 + j ≠ 100 + x by omega)]
  ·obtain rfl : q = n:=by omega
   refine cF0 ?_
   refine zG ?_
   show awp _ _ _ _
   refine rr0 ?_
   refine ⟨x + 1,by omega,by omega,?_⟩
   exact kf1 [(0,some 0),(1,some 1),(2,some 2)] (fun j=>100 + j) (an @rows.eq_1 (an @zKh.eq_1 @zMk))
 ·obtain rfl : x = L:=by omega
  refine cF0 ?_
  refine zG ?_
  show awp _ _ _ _
  refine zX (σ':=mkS [(0,.ptr 0 0 3),(3,.ptr 2 0 4),(5,.t 2 (.int .i64 n))]
   [(0,.box 52 [.own 1 x,.t 1 (.sl 0 []),.t 2 (.int .i64 0)]),(1,.row 22 1 2 (tab x fun j=>ints (lets n nx j))),(2,zKh x 0 bs nx)] 3 102 [.ptr 0 0 3,.any]) ?_ ?_
  ·refine zQ [(0,some 0),(1,some 1),(2,some 2)] rfl ?_ ?_ ?_ ?_
   all_goals try simp [ints,rows,zE,zKh,zz,wk1,hbl,hnl]
   intro j hj
   have hcf:=zK5 n nx hj
   simp +contextual (disch:=omega) [zL,zM,zV,zW,zw,List.getElem?_cons_succ,Option.getD_some,callF,ints,scal,tpO,zF,zH,hcf]
  have hrow : T.sl 1 (tab x fun j=>ints (lets n nx j)) = rows (tab x (lets n nx)):=by
   unfold rows
   rw [ze]
  refine rd1 @zKh.eq_1 ?_
  refine rg0 ?_
  refine rg0 ?_
  refine zC ?_
  refine ⟨⟨.inr rfl,_,[(0,some 0)],(by first | rfl | (simp [ints,rows,scal,tpO,syO,dfT,zKh]; rfl)),?_,?_,?_,?_⟩,?_⟩
  all_goals try simp [ints,rows,scal,tpO,syO,dfT,zKh]
  refine ⟨by rw [ze]; rfl,zNM _⟩
theorem zMl (xs : List Int) (v : Int) (hl : xs.length <= 100000) : ∃ res,(∃ r : Int,(0 <= r ↔ v ∈ xs) /\ res = .t 2 (.int .i64 r)) /\ FnS Tryz.prog 55 [.t 0 (ints xs),.t 2 (.int .i64 v)] [] res []:=by
 refine zk Tryz.func55 rfl (by simp [Tryz.f55]) ?_
 rw [show Tryz.f55.ntmps = 19 from rfl,show Tryz.f55.results = #[.tmp 4] from rfl]
 refine rg0 ?_
 refine zA ?_
 refine rg0 ?_
 refine zB ?_
 refine awp_loop (fun k : Nat=>mkS [(0,.t 0 (ints xs)),(1,.t 2 (.int .i64 v)),(7,.t 2 (.int .i64 xs.length)),(8,.t 2 (.int .i64 k))] [] 0 19 [.any,.any]) (fun k=>k <= xs.length /\ ∀ j (h : j < xs.length),j < k -> xs[j] ≠ v) (fun k=>xs.length - k) ?_ ?_
 ·refine ⟨0,⟨by omega,fun j h hj=>by omega⟩,?_⟩
  exact kw0 []
 rintro k ⟨hk,hno⟩
 refine rg0 ?_
 refine zA ?_
 by_cases hlt : k < xs.length
 ·refine cK1 @hlt ?_
  refine zA ?_
  refine zB ?_
  refine rg0 ?_
  by_cases e : v = xs[k]
  ·refine rg1 (an @hlt @e) ?_
   refine cT0 ?_
   refine rg0 ?_
   refine zC ?_
   refine ⟨_,⟨(k : Int),⟨fun _=>by rw [e]; simp,fun _=>by omega⟩,rfl⟩,?_⟩
   exact rt0
  ·have e2 : (v == xs[k]) = false:=by simpa using e
   refine rg1 (an @hlt @e2) ?_
   refine cY0 ?_
   show awp _ _ _ _
   refine rr0 ?_
   refine ⟨k + 1,⟨by omega,fun j h hj=>?_⟩,by omega,?_⟩
   ·by_cases c : j = k
    ·subst c; exact fun g=>e g.symm
    ·exact hno j h (by omega)
   exact kw0 []
 ·have hnm : v ∉ xs:=fun h=>by
   obtain ⟨i,hi,he⟩:=List.getElem_of_mem h
   exact hno i hi (by omega) he
  refine cF1 @hlt ?_
  refine zG ?_
  show awp _ _ _ _
  refine rg0 ?_
  refine zC ?_
  refine ⟨_,⟨-1,⟨fun h=>by omega,fun h=>absurd h hnm⟩,rfl⟩,?_⟩
  exact rt0
theorem zOp (xs : List Int) (v : Int) (hl : xs.length <= 100000) : ∃ r : Int,(0 <= r ↔ v ∈ xs) /\ FnA Tryz.prog 55 [.t 0 (ints xs),.t 2 (.int .i64 v)] (.t 2 (.int .i64 r)):=by
 obtain ⟨_,⟨r,h1,rfl⟩,h2⟩:=zMl xs v hl
 exact ⟨r,h1,h2⟩
theorem zHt (xs : List Int) (v : Int) (hl : xs.length <= 100000) : FnA Tryz.prog 37 [.t 0 (ints xs),.t 2 (.int .i64 v)] (.t 2 (.bool (decide (v ∈ xs)))):=by
 obtain ⟨r,hr,hidx⟩:=zOp xs v hl
 have hd : decide (0 <= r) = decide (v ∈ xs):=by simp only [hr]
 refine fI 9 #[.tmp 4] Tryz.func37 rfl ?_
 refine rg0 ?_
 refine rc0 hidx ?_
 exact zC (rt1 @hd)
theorem zKR {n : Nat} {bs : List Bool} {f : List Int} (hb : bs.length = n) (hf : TrN n f) (hn : 1 <= n) (hn2 : n <= 1000) : FnA Tryz.prog 38 [.agg [.t 2 (.int .i64 0),.t 0 (zE bs),.t 2 (.int .i64 0)],.t 0 (ints f)] (.t 2 (.bool (bs.getD (f.getD 0 0).toNat false))):=by
 have h0 : 0 < f.length:=by rw [hf.1]; omega
 obtain ⟨v1,v2⟩:=hf.2 f[0] (by simp)
 obtain ⟨m,hm⟩ : ∃ m : Nat,f[0] = (m : Int):=⟨f[0].toNat,by omega⟩
 have hml : m < bs.length:=by omega
 have e1 : (f.getD 0 0).toNat = m:=by rw [List.getD_eq_getElem?_getD,List.getElem?_eq_getElem h0,Option.getD_some,hm]; rfl
 have e2 : bs.getD m false = bs[m]:=by rw [List.getD_eq_getElem?_getD,List.getElem?_eq_getElem hml]; rfl
 rw [e1,e2]
 refine fI 17 #[.tmp 4] Tryz.func38 rfl ?_
 refine rg1 @zE.eq_1 ?_
 refine rd1 (an @h0 (an @hm (an @hml @Int.sub_zero))) ?_
 exact zC rt0
def wdC (N : Nat) (wds : List (List Nat)) (k : Nat) : List T:=tab N fun j=>.str (if j < k then zBP (wds.getD j []) else zBP [])
@[simp] theorem zTq (N : Nat) (wds : List (List Nat)) (k : Nat) : (wdC N wds k).length = N:=by simp [wdC]
theorem zQG {N : Nat} {wds : List (List Nat)} {k : Nat} {w : List Nat} (h : wds[k]? = some w) : (wdC N wds k).set k (.str (zBP w)) = wdC N wds (k + 1):=by
 unfold wdC
 rw [zg]
 refine zO fun i hi=>?_
 by_cases c : i = k
 ·subst c
  rw [if_pos rfl,if_pos (by omega),List.getD_eq_getElem?_getD,h]
  rfl
 ·rw [if_neg c]
  by_cases c2 : i < k
  ·rw [if_pos c2,if_pos (by omega)]
  ·rw [if_neg c2,if_neg (by omega)]
theorem zRy {N : Nat} {wds : List (List Nat)} {k p : Nat} {u : List Nat} (hp : p < k) (hN : p < N) (h : wds[p]? = some u) : (wdC N wds k)[p]? = some (.str (zBP u)):=by
 unfold wdC
 rw [zP _ hN,if_pos hp,List.getD_eq_getElem?_getD,h]
 rfl
theorem zPC {N : Nat} {wds : List (List Nat)} (h : N = wds.length) : wdC N wds N = wsT wds:=by
 apply List.ext_getElem?
 intro i
 by_cases hi : i < N
 ·unfold wdC wsT
  rw [zP _ hi,if_pos hi,List.getElem?_map,List.getD_eq_getElem?_getD,List.getElem?_eq_getElem (by omega)]
  rfl
 ·rw [List.getElem?_eq_none (by simp; omega),List.getElem?_eq_none (by simp; omega)]
theorem zQ5 {N : Nat} {wds : List (List Nat)} (h : wds[0]? = some []) : (tab N fun _=>T.str ⟨#[]⟩) = wdC N wds 1:=by
 unfold wdC
 refine zO fun i hi=>?_
 by_cases c : i < 1
 ·obtain rfl : i = 0:=by omega
  rw [if_pos c,List.getD_eq_getElem?_getD,h]
  rfl
 ·rw [if_neg c]
  rfl
def psC (N k : Nat) (b : Bool) : List T:=tab N fun j=>.bool (if j = 0 then b else decide (j < k))
@[simp] theorem zTn (N k : Nat) (b : Bool) : (psC N k b).length = N:=by simp [psC]
theorem zQv (N : Nat) : (tab N fun _=>T.bool false) = psC N 1 false:=by
 unfold psC
 refine zO fun i hi=>?_
 by_cases c : i = 0
 ·rw [if_pos c]
 ·rw [if_neg c,show decide (i < 1) = false by simp; omega]
theorem zQr {N k : Nat} {b : Bool} (h : 0 < k) : (psC N k b).set k (.bool true) = psC N (k + 1) b:=by
 unfold psC
 rw [zg]
 refine zO fun i hi=>?_
 by_cases c : i = k
 ·subst c
  rw [if_pos rfl,if_neg (by omega),show decide (i < i + 1) = true by simp]
 ·rw [if_neg c]
  by_cases c2 : i = 0
  ·rw [if_pos c2,if_pos c2]
  ·rw [if_neg c2,if_neg c2]
   congr 2
   apply propext
   omega
theorem zFs (N k : Nat) (b c : Bool) : (psC N k b).set 0 (.bool c) = psC N k c:=by
 unfold psC
 rw [zg]
 refine zO fun i hi=>?_
 by_cases e : i = 0
 ·rw [if_pos e,if_pos e]
 ·rw [if_neg e,if_neg e,if_neg e]
theorem zQh {N k : Nat} {b : Bool} (h : 0 < N) : (psC N k b)[0]? = some (.bool b):=by
 unfold psC
 rw [zP _ h,if_pos rfl]
def zPa (right : List (List Int)) (wds : List (List Nat)) (N i : Nat) : List Int:=tab N fun y=>(zZ right i (wds.getD y []) : Int)
def rpC (right : List (List Int)) (wds : List (List Nat)) (N i k : Nat) : List T:=tab N fun y=>.int .i64 (if y < k then (zZ right i (wds.getD y []) : Int) else 0)
@[simp] theorem zT6 (right : List (List Int)) (wds : List (List Nat)) (N i k : Nat) : (rpC right wds N i k).length = N:=by simp [rpC]
@[simp] theorem zTJ (right : List (List Int)) (wds : List (List Nat)) (N i : Nat) : (zPa right wds N i).length = N:=by simp [zPa]
theorem zQX {right : List (List Int)} {wds : List (List Nat)} {N i : Nat} (h : wds[0]? = some []) : (tab N fun _=>T.int .i64 0).set 0 (.int .i64 (i : Int)) = rpC right wds N i 1:=by
 unfold rpC
 rw [zg]
 refine zO fun y hy=>?_
 by_cases c : y = 0
 ·subst c
  rw [if_pos rfl,if_pos (by omega),List.getD_eq_getElem?_getD,h]
  rfl
 ·rw [if_neg c,if_neg (by omega)]
theorem zSL {right : List (List Int)} {wds : List (List Nat)} {N i k p : Nat} {u : List Nat} (hp : p < k) (hN : p < N) (h : wds[p]? = some u) : (rpC right wds N i k)[p]? = some (.int .i64 (zZ right i u : Nat)):=by
 unfold rpC
 rw [zP _ hN,if_pos hp,List.getD_eq_getElem?_getD,h]
 rfl
theorem zQe {right : List (List Int)} {wds : List (List Nat)} {N i k x : Nat} {u : List Nat} (h : wds[k]? = some (u ++ [x])) : (rpC right wds N i k).set k (.int .i64 (zJ right (zZ right i u) x : Nat)) = rpC right wds N i (k + 1):=by
 unfold rpC
 rw [zg]
 refine zO fun y hy=>?_
 by_cases c : y = k
 ·subst c
  rw [if_pos rfl,if_pos (by omega),List.getD_eq_getElem?_getD,h]
  simp [zZ]
 ·rw [if_neg c]
  by_cases c2 : y < k
  ·rw [if_pos c2,if_pos (by omega)]
  ·rw [if_neg c2,if_neg (by omega)]
theorem zPI (right : List (List Int)) (wds : List (List Nat)) (N i : Nat) : rpC right wds N i N = (zPa right wds N i).map (.int .i64):=by
 unfold rpC zPa
 rw [ze]
 exact zO fun y hy=>by rw [if_pos hy]
theorem zDt (right : List (List Int)) (wds : List (List Nat)) (N : Nat) : zBQ right wds N = tab N (zPa right wds N):=rfl
def tbC (right : List (List Int)) (wds : List (List Nat)) (N k j : Nat) : AV:=if j < k then .t 1 (ints (zPa right wds N j)) else .t 2 (.sl 0 [])
theorem zM9 {H : Nat -> Option AObj} {m : Nat -> Option Nat} {un : Nat -> Prop} {nx : Nat} {right : List (List Int)} {wds : List (List Nat)} {N k : Nat} : wkPs H m un nx (tab N (tbC right wds N k)) (tab N (tbC right wds N k)):=by
 rw [zH]
 intro j hj
 unfold tbC
 split <;> simp
def zHU (bs : List Bool) (e : List Int) : Bool:=bs.getD (e.getD 0 0).toNat false
def acC (bs : List Bool) (els : List (List Int)) (k : Nat) : List T:=tab els.length fun y=>.bool (if y < k then zHU bs (els.getD y []) else false)
@[simp] theorem zT7 (bs : List Bool) (els : List (List Int)) (k : Nat) : (acC bs els k).length = els.length:=by simp [acC]
theorem zN1 (bs : List Bool) (els : List (List Int)) : (tab els.length fun _=>T.bool false) = acC bs els 0:=rfl
theorem zRN {bs : List Bool} {els : List (List Int)} {k : Nat} (h : k < els.length) : (acC bs els k).set k (.bool (zHU bs els[k])) = acC bs els (k + 1):=by
 unfold acC
 rw [zg]
 refine zO fun y hy=>?_
 by_cases c : y = k
 ·subst c
  rw [if_pos rfl,if_pos (by omega),List.getD_eq_getElem?_getD,List.getElem?_eq_getElem h]
  rfl
 ·rw [if_neg c]
  by_cases c2 : y < k
  ·rw [if_pos c2,if_pos (by omega)]
  ·rw [if_neg c2,if_neg (by omega)]
theorem zPH (bs : List Bool) (els : List (List Int)) : acC bs els els.length = (els.map (zHU bs)).map .bool:=by
 apply List.ext_getElem?
 intro i
 by_cases h : i < els.length
 ·unfold acC
  rw [zP _ h,if_pos h,List.getElem?_map,List.getElem?_map,List.getD_eq_getElem?_getD,List.getElem?_eq_getElem h]
  rfl
 ·rw [List.getElem?_eq_none (by simp; omega),List.getElem?_eq_none (by simp; omega)]
def MnG (n : Nat) (gs : List (List Int)) (bs : List Bool) (res : AV) : Prop:=(res = .tup [zKi,.t 2 (.sl 0 []),.t 2 (.int .i64 3)] /\ (Big n gs \/ ∃ els pre last wds right,PrI n gs els pre last wds right els.length /\ 400 < els.length)) ∨
 ∃ els pre last wds right r0,PrI n gs els pre last wds right els.length /\ els.length <= 400 /\ right[0]? = some r0 /\ res = .tup [.agg [.t 2 (.int .i64 gs.length),.t 1 (rows (zBQ right wds els.length)),.t 1 (.sl 1 (wsT wds)),.t 1 (ints r0),.t 2 (.sl 0 []),.t 1 (.sl 1 (psC els.length els.length (right.any fun r=>decide ((0 : Int) ∈ r))))],.t 1 (.sl 1 [zE (els.map (zHU bs))]),.t 2 (.int .i64 0)]
theorem zKQ {n : Nat} {gs : List (List Int)} {bs : List Bool} (h : zOw n gs) (hb : bs.length = n) : ∃ res,MnG n gs bs res /\ FnS Tryz.prog 21 [.pt 0 [rows gs,.sl 3 [.int .i64 0,zE bs,.int .i64 0],.int .i64 n]] [] res []:=by
 have hg1:=h.g1
 have hg2:=h.g2
 have hn1:=h.n1
 have hn2:=h.n2
 obtain ⟨res1,hB,hbuild⟩:=zMs h
 refine zk Tryz.func21 rfl (by simp [Tryz.f21]) ?_
 rw [show Tryz.f21.ntmps = 195 from rfl,show Tryz.f21.results = #[.cell 2 33,.tmp 3,.tmp 4] from rfl]
 refine rg0 ?_
 rcases hB with ⟨rfl,hbig⟩ | ⟨els,pre,last,wds,right,rls,rfl,hP⟩
 ·refine rc0 hbuild ?_
  refine zA ?_
  refine rg0 ?_
  refine cT0 ?_
  refine rg0 ?_
  refine zC ?_
  refine ⟨_,.inl ⟨rfl,.inl hbig⟩,?_⟩
  refine ⟨⟨.inr rfl,_,[],(by simp; rfl),trivial,trivial,by simp [zKi],?_⟩,by simp [zKi]⟩
  simp [ints,rows,zKi]
 have hen:=hP.en
 have hel:=hP.el
 have hle:=hen.le
 have hlp:=hen.wd.lp
 have hll:=hen.wd.ll
 have hrd:=hP.rd
 have hrt:=hP.rt
 have hN0 : 0 < els.length:=(List.getElem?_eq_some_iff.1 hen.one.1).1
 have hw0:=hen.one.2
 refine rc1 hbuild @enT.eq_1 ?_
 refine zA ?_
 refine rg0 ?_
 refine cS0 ?_
 refine rg0 ?_
 refine zA ?_
 by_cases h400 : 400 < els.length
 ·have c1 : (400 : Int) < els.length:=by omega
  refine rg1 @c1 ?_
  refine cT0 ?_
  refine rg0 ?_
  refine zC ?_
  refine ⟨_,.inl ⟨rfl,.inr ⟨els,pre,last,wds,right,hP,h400⟩⟩,?_⟩
  refine ⟨⟨.inr rfl,_,[],(by simp; rfl),trivial,trivial,by simp [zKi,enT],?_⟩,by simp [zKi,enT]⟩
  simp [ints,rows,zKi,enT]
 have c1 : ¬ (400 : Int) < els.length:=by omega
 have hr0l : 0 < right.length:=by omega
 obtain ⟨hrl0,-⟩:=hP.rg 0 right[0] (by simp)
 refine rg1 @c1 ?_
 refine cS0 ?_
 refine rq1 (zFP right[0] (by omega) (by omega)) @hr0l ?_
 refine zA ?_
 refine rg0 ?_
 refine zB ?_
 refine awp_loop (fun i : Nat=>mkS [(0,.pt 0 [rows gs,.sl 3 [.int .i64 0,zE bs,.int .i64 0],.int .i64 n]),(2,.ptr 0 0 6),(5,.ptr 1 0 9),(7,.t 2 (.int .i64 els.length)),(8,.ptr 2 0 6),(9,.t 2 (.int .i64 i))]
   [(0,.box 33 [.any,.any,.any,.any,.any,.any]),(1,.box 96 [.any,.any,.any,.t 1 (rows els),.t 1 (ints pre),.t 1 (ints last),.t 1 (rows right),.any,.any]),
    (2,.box 33 [.t 2 (.int .i64 gs.length),.own 3 els.length,.own 4 els.length,.t 2 (ints right[0]),.t 2 (.sl 0 []),.own 5 els.length]),
    (3,.row 22 1 2 (tab els.length fun _=>.sl 0 [])),(4,.row 9 1 2 (wdC els.length wds i)),(5,.row 4 1 2 (psC els.length i false))] 6 195 [.any])
  (fun i=>1 <= i /\ i <= els.length) (fun i=>els.length - i) ?_ ?_
 ·refine ⟨1,⟨by omega,by omega⟩,?_⟩
  refine zQ [(0,some 0),(1,some 11000000),(2,some 39000000),(3,some 28000000),(4,some 30000000),(5,some 37000000)] rfl ?_ ?_ ?_ ?_
  all_goals try simp [ints,rows,zE,enT,zAF,zQ5 hw0,zQv]
 rintro i ⟨hi1,hi2⟩
 refine zA ?_
 refine rg0 ?_
 by_cases hlt : i < els.length
 ·obtain ⟨p,x,u,p1,p2,p3,p4,p5,p6,-⟩:=hen.cn i (by omega) hlt
  obtain ⟨hpl,p3⟩:=List.getElem?_eq_some_iff.1 p3
  obtain ⟨hlal,p4⟩:=List.getElem?_eq_some_iff.1 p4
  have hpN : p < els.length:=by omega
  have hwp:=zRy (N:=els.length) (k:=i) p1 hpN p5
  have hws:=zQG (N:=els.length) p6
  have hps:=zQr (N:=els.length) (b:=false) (k:=i) (by omega)
  have hul:=hen.wd.len p u p5
  have hx8 : IntKind.u8.wrap (97 + (x : Int)) = 97 + x:=wr8 _ (by omega) (by omega)
  have hs1:=zFh (x:=x) (by omega)
  refine cK1 @hlt ?_
  refine zA ?_
  refine zB ?_
  refine rd1 (an @hlt (an @hpl (an @p3 (an @hlal (an @p4 (an @hpN (an @hwp (an @hx8 (an @hs1 (an @zBG @hws)))))))))) ?_
  refine rr1 (an @hlt @hps) ?_
  show awp _ _ _ _
  refine rr0 ?_
  refine ⟨i + 1,⟨by omega,by omega⟩,by omega,?_⟩
  exact kw1 [(0,some 0),(1,some 1),(2,some 2),(3,some 3),(4,some 4),(5,some 5)] (an @rows.eq_1 @zE.eq_1)
 ·obtain rfl : i = els.length:=by omega
  have hwf:=zPC hle
  refine cF0 ?_
  refine zG ?_
  show awp _ _ _ _
  refine zA ?_
  refine rg1 @hrd ?_
  refine zB ?_
  refine awp_loop (fun k : Nat=>mkS [(0,.pt 0 [rows gs,.sl 3 [.int .i64 0,zE bs,.int .i64 0],.int .i64 n]),(2,.ptr 0 0 6),(5,.ptr 1 0 9),(7,.t 2 (.int .i64 els.length)),(8,.ptr 2 0 6),(86,.t 1 (rows right)),(87,.t 2 (.int .i64 els.length)),(88,.t 2 (.int .i64 k))]
    [(0,.box 33 [.any,.any,.any,.any,.any,.any]),(1,.box 96 [.any,.any,.any,.t 1 (rows els),.t 1 (ints pre),.t 1 (ints last),.t 1 (rows right),.any,.any]),
     (2,.box 33 [.t 2 (.int .i64 gs.length),.own 3 els.length,.own 4 els.length,.t 2 (ints right[0]),.t 2 (.sl 0 []),.own 5 els.length]),
     (3,.vec 22 1 2 (tab els.length (tbC right wds els.length k))),(4,.row 9 1 2 (wsT wds)),(5,.row 4 1 2 (psC els.length els.length ((right.take k).any fun r=>decide ((0 : Int) ∈ r))))] 6 195 [.any])
   (fun k=>k <= els.length) (fun k=>els.length - k) ?_ ?_
  ·refine ⟨0,by omega,?_⟩
   exact kw1 [(0,some 0),(1,some 1),(2,some 2),(3,some 3),(4,some 4),(5,some 5)] (an @rows.eq_1 (an @zE.eq_1 (an @hwf (an @ze (an @zH @tbC.eq_1)))))
  intro k hk
  refine rg0 ?_
  refine zA ?_
  by_cases hkl : k < els.length
  ·have hkr : k < right.length:=by omega
   have hp0 : ∀ b,(psC els.length els.length b)[0]? = some (.bool b):=fun b=>zQh hN0
   have htk : ((right.take (k + 1)).any fun r=>decide ((0 : Int) ∈ r)) = (((right.take k).any fun r=>decide ((0 : Int) ∈ r)) || decide ((0 : Int) ∈ right[k])):=by
    rw [List.take_succ_eq_append_getElem hkr,List.any_append]
    simp
   obtain ⟨hrlk,-⟩:=hP.rg k right[k] (by simp)
   have hco:=zHt right[k] 0 (by omega)
   generalize ((right.take k).any fun r=>decide ((0 : Int) ∈ r)) = b at htk ⊢
   generalize decide ((0 : Int) ∈ right[k]) = c at htk hco
   refine cK1 @hkl ?_
   refine zA ?_
   refine zB ?_
   refine rg1 @hkr ?_
   refine zCv (fun σ'=>Wk σ' (mkS [(0,.pt 0 [rows gs,.sl 3 [.int .i64 0,zE bs,.int .i64 0],.int .i64 n]),(2,.ptr 0 0 6),(5,.ptr 1 0 9),(7,.t 2 (.int .i64 els.length)),(8,.ptr 2 0 6),(10,.t 2 (.int .i64 k)),(86,.t 1 (rows right)),(87,.t 2 (.int .i64 els.length)),(88,.t 2 (.int .i64 k))]
    [(0,.box 33 [.any,.any,.any,.any,.any,.any]),(1,.box 96 [.any,.any,.any,.t 1 (rows els),.t 1 (ints pre),.t 1 (ints last),.t 1 (rows right),.any,.any]),
     (2,.box 33 [.t 2 (.int .i64 gs.length),.own 3 els.length,.own 4 els.length,.t 2 (ints right[0]),.t 2 (.sl 0 []),.own 5 els.length]),
     (3,.vec 22 1 2 (tab els.length (tbC right wds els.length k))),(4,.row 9 1 2 (wsT wds)),(5,.row 4 1 2 (psC els.length els.length (b || c)))] 6 195 [.any])) ?_ ?_
   ·intro σ' hw
    refine zX hw ?_
    clear hw
    rw [← htk]
    generalize hb2 : ((right.take (k + 1)).any fun r=>decide ((0 : Int) ∈ r)) = b2
    have hr1:=zQX (right:=right) (wds:=wds) (N:=els.length) (i:=k) hw0
    refine rd1 (an @hkl (an @zg @zAF)) ?_
    refine rg1 (an @hkl (an @hN0 @hr1)) ?_
    refine rg0 ?_
    refine zB ?_
    refine awp_loop (fun j : Nat=>mkS [(0,.pt 0 [rows gs,.sl 3 [.int .i64 0,zE bs,.int .i64 0],.int .i64 n]),(2,.ptr 0 0 6),(5,.ptr 1 0 9),(7,.t 2 (.int .i64 els.length)),(8,.ptr 2 0 6),(10,.t 2 (.int .i64 k)),(12,.t 2 (.int .i64 j)),(86,.t 1 (rows right)),(87,.t 2 (.int .i64 els.length)),(88,.t 2 (.int .i64 k))]
      [(0,.box 33 [.any,.any,.any,.any,.any,.any]),(1,.box 96 [.any,.any,.any,.t 1 (rows els),.t 1 (ints pre),.t 1 (ints last),.t 1 (rows right),.any,.any]),
       (2,.box 33 [.t 2 (.int .i64 gs.length),.own 3 els.length,.own 4 els.length,.t 2 (ints right[0]),.t 2 (.sl 0 []),.own 5 els.length]),
       (3,.vec 22 1 2 (tab els.length fun y=>if y = k then .own 6 els.length else tbC right wds els.length k y)),(4,.row 9 1 2 (wsT wds)),(5,.row 4 1 2 (psC els.length els.length b2)),(6,.row 3 1 2 (rpC right wds els.length k j))] 7 195 [.any])
     (fun j=>1 <= j /\ j <= els.length) (fun j=>els.length - j) ?_ ?_
    ·refine ⟨1,⟨by omega,by omega⟩,?_⟩
     refine zQ [(0,some 0),(1,some 1),(2,some 2),(3,some 3),(4,some 4),(5,some 5),(6,some 4000006)] rfl ?_ ?_ ?_ ?_
     all_goals try simp [ints,rows,zE,zH]
     intro j hj
     by_cases e : j = k
     ·subst e
      simp +contextual (disch:=omega) [zL,zM,zV,zW,zw,List.getElem?_cons_succ,Option.getD_some,callF,ints,scal,tpO,zF,zH]
     ·simp only [if_neg e]
      unfold tbC
      split <;> simp
    rintro j ⟨hj1,hj2⟩
    refine zA ?_
    refine rg0 ?_
    by_cases hjl : j < els.length
    ·obtain ⟨p,x,u,p1,p2,p3,p4,p5,p6,-⟩:=hen.cn j (by omega) hjl
     obtain ⟨hpl,p3⟩:=List.getElem?_eq_some_iff.1 p3
     obtain ⟨hlal,p4⟩:=List.getElem?_eq_some_iff.1 p4
     have hpN : p < els.length:=by omega
     have hrp:=zSL (right:=right) (i:=k) p1 hpN p5
     have hrs:=zQe (right:=right) (N:=els.length) (i:=k) p6
     have hwN : zZ right k u < els.length:=hrt.walk (fun y hy=>hP.wl u (List.mem_of_getElem? p5) y hy) hkl
     obtain ⟨s1,s2,s3,s4⟩:=hrt.step hwN p2
     refine cK1 @hjl ?_
     refine zA ?_
     refine zB ?_
     refine re1 (an @hkl (an @hjl (an @hpl (an @p3 (an @hlal (an @p4 (an @hpN (an @hrp (an @s2 (an @s3 (an @s4 @hrs))))))))))) ?_
     show awp _ _ _ _
     refine rr0 ?_
     refine ⟨j + 1,⟨by omega,by omega⟩,by omega,?_⟩
     refine zQ [(0,some 0),(1,some 1),(2,some 2),(3,some 3),(4,some 4),(5,some 5),(6,some 6)] rfl ?_ ?_ ?_ ?_
     all_goals try simp [ints,rows,zE,zH]
     intro y hy
     by_cases e : y = k
     ·subst e
      simp +contextual (disch:=omega) [zL,zM,zV,zW,zw,List.getElem?_cons_succ,Option.getD_some,callF,ints,scal,tpO,zF,zH]
     ·simp only [if_neg e]
      unfold tbC
      split <;> simp
    ·obtain rfl : j = els.length:=by omega
     refine cF0 ?_
     refine zG ?_
     show awp _ _ _ _
     refine rr0 ?_
     refine ⟨k + 1,by omega,by omega,?_⟩
     refine zQ [(0,some 0),(1,some 1),(2,some 2),(3,some 3),(4,some 4),(5,some 5)] rfl ?_ ?_ ?_ ?_
     all_goals try simp [ints,rows,zE,zH]
     refine ⟨fun y hy=>?_,by rw [hb2]⟩
     by_cases e : y = k
     ·subst e
      simp +contextual (disch:=omega) [zL,zM,zV,zW,zw,List.getElem?_cons_succ,Option.getD_some,callF,ints,scal,tpO,zF,zH,tbC,zPI]
     ·simp only [if_neg e]
      unfold tbC
      by_cases c : y < k
      ·rw [if_pos c,if_pos (by omega)]
       simp
      ·rw [if_neg c,if_neg (by omega)]
       simp
   ·cases b with
    | true =>
     refine re1 (an @hp0 (an @zFs @hN0)) ?_
     exact kw1 [(0,some 0),(1,some 1),(2,some 2),(3,some 3),(4,some 4),(5,some 5)] (an @rows.eq_1 (an @zE.eq_1 @zM9))
    | false =>
     refine zAm (by kernel_rfl) (fun K hK=>?_)
     simp (maxSteps:=2000000) (disch:=omega) [ints,rows,scal,zK,wr8,hp0,zFs,hN0]
     (repeat' apply And.intro)
     all_goals (try omega)
     refine zS (caps:=[]) (hco) [] [] 2 (by simp [scal,rows,ints]) rfl rfl rfl (by kernel_rfl) (by simp) ?_ trivial trivial rfl trivial trivial (by simp) ?_
     ·simp [scal,rows,ints]
     simp (maxSteps:=2000000) (disch:=omega) [ints,rows,scal,zK,wr8,hp0,zFs,hN0]
     (repeat' first | apply hK | apply And.intro) <;> try first | (show zA8 _ _ = true; kernel_rfl) | (show okH _ _ _ = true; kernel_rfl) | omega | rfl | (simp <;> omega)
     exact kw1 [(0,some 0),(1,some 1),(2,some 2),(3,some 3),(4,some 4),(5,some 5)] (an @rows.eq_1 (an @zE.eq_1 @zM9))
  ·obtain rfl : k = els.length:=by omega
   have hta : right.take els.length = right:=List.take_of_length_le (by omega)
   refine cF0 ?_
   refine zG ?_
   show awp _ _ _ _
   refine rg0 ?_
   refine zA ?_
   refine rg0 ?_
   refine zB ?_
   rw [hta]
   generalize hb0 : (right.any fun r=>decide ((0 : Int) ∈ r)) = b0
   refine awp_loop (fun k : Nat=>mkS [(2,.ptr 0 0 6),(5,.ptr 1 0 9),(7,.t 2 (.int .i64 els.length)),(8,.ptr 2 0 6),(13,.own 6 1),(162,.t 0 (.sl 3 [.int .i64 0,zE bs,.int .i64 0])),(163,.t 2 (.int .i64 1)),(164,.t 2 (.int .i64 k))]
     [(0,.box 33 [.any,.any,.any,.any,.any,.any]),(1,.box 96 [.any,.any,.any,.t 1 (rows els),.any,.any,.any,.any,.any]),
      (2,.box 33 [.t 2 (.int .i64 gs.length),.own 3 els.length,.own 4 els.length,.t 2 (ints right[0]),.t 2 (.sl 0 []),.own 5 els.length]),
      (3,.row 22 1 1 (tab els.length fun j=>ints (zPa right wds els.length j))),(4,.row 9 1 2 (wsT wds)),(5,.row 4 1 2 (psC els.length els.length b0)),(6,.vec 25 1 2 [if k = 0 then .t 2 (.sl 0 []) else .t 1 (zE (els.map (zHU bs)))])] 7 195 [.any])
    (fun k=>k <= 1) (fun k=>1 - k) ?_ ?_
   ·refine ⟨0,by omega,?_⟩
    refine zQ [(0,some 0),(1,some 1),(2,some 2),(3,some 3),(4,some 4),(5,some 5),(6,some 6000006)] rfl ?_ ?_ ?_ ?_
    all_goals try simp [ints,rows,zE,zz]
    intro j hj
    unfold tbC
    rw [if_pos hj]
    simp [wk1]
    rfl
   intro k hk
   refine rg0 ?_
   refine zA ?_
   by_cases hk0 : k = 0
   ·subst hk0
    refine cK0 ?_
    refine zA ?_
    refine zB ?_
    refine rg0 ?_
    refine rg0 ?_
    refine rg0 ?_
    refine zB ?_
    refine awp_loop (fun i : Nat=>mkS [(2,.ptr 0 0 6),(5,.ptr 1 0 9),(7,.t 2 (.int .i64 els.length)),(8,.ptr 2 0 6),(13,.own 6 1),(14,.t 2 (.int .i64 0)),(15,.ptr 8 0 3),(162,.t 0 (.sl 3 [.int .i64 0,zE bs,.int .i64 0])),(163,.t 2 (.int .i64 1)),(164,.t 2 (.int .i64 0)),(175,.t 1 (rows els)),(176,.t 2 (.int .i64 els.length)),(177,.t 2 (.int .i64 i))]
      [(0,.box 33 [.any,.any,.any,.any,.any,.any]),(1,.box 96 [.any,.any,.any,.t 1 (rows els),.any,.any,.any,.any,.any]),
       (2,.box 33 [.t 2 (.int .i64 gs.length),.own 3 els.length,.own 4 els.length,.t 2 (ints right[0]),.t 2 (.sl 0 []),.own 5 els.length]),
       (3,.row 22 1 1 (tab els.length fun j=>ints (zPa right wds els.length j))),(4,.row 9 1 2 (wsT wds)),(5,.row 4 1 2 (psC els.length els.length b0)),(6,.vec 25 1 2 [.own 7 els.length]),(7,.row 4 1 2 (acC bs els i)),(8,.box 91 [.t 2 (.int .i64 0),.t 0 (zE bs),.t 2 (.int .i64 0)])] 9 195 [.any])
     (fun i=>i <= els.length) (fun i=>els.length - i) ?_ ?_
    ·refine ⟨0,by omega,?_⟩
     refine zQ [(0,some 0),(1,some 1),(2,some 2),(3,some 3),(4,some 4),(5,some 5),(6,some 6),(7,some 10000007),(8,some 4000007)] rfl ?_ ?_ ?_ ?_
     all_goals try simp [ints,rows,zE,zAF]
     exact zN1 bs els
    intro i hi
    refine rg0 ?_
    refine zA ?_
    by_cases hil : i < els.length
    ·have hst:=zRN (bs:=bs) hil
     obtain ⟨-,v2,-⟩:=hen.val i (wds[i]'(by omega)) els[i] (by simp) (by simp)
     have hac:=zKR (bs:=bs) hb v2 hn1 (by omega)
     refine cK1 @hil ?_
     refine zA ?_
     refine zB ?_
     refine rg1 @hil ?_
     refine zAm (by kernel_rfl) (fun K hK=>?_)
     simp (maxSteps:=2000000) (disch:=omega) [ints,rows,scal,zK,wr8]
     (repeat' apply And.intro)
     all_goals (try omega)
     refine zS (caps:=[]) (hac) [] [] 2 rfl rfl rfl rfl (by kernel_rfl) (by simp) ?_ trivial trivial rfl trivial trivial (by simp) ?_
     ·simp [scal,rows,ints,zE]
     simp (maxSteps:=2000000) (disch:=omega) [ints,rows,scal,zK,wr8,hil]
     and_intros <;> try first | apply hK | (show zA8 _ _ = true; kernel_rfl) | (show okH _ _ _ = true; kernel_rfl) | omega | rfl | simp <;> omega
     show awp _ _ _ _
     refine rr0 ?_
     refine ⟨i + 1,by omega,by omega,?_⟩
     refine zQ [(0,some 0),(1,some 1),(2,some 2),(3,some 3),(4,some 4),(5,some 5),(6,some 6),(7,some 7),(8,some 8)] rfl ?_ ?_ ?_ ?_
     all_goals try simp [ints,rows,zE]
     exact hst
    ·obtain rfl : i = els.length:=by omega
     refine cF0 ?_
     refine zG ?_
     show awp _ _ _ _
     refine rr0 ?_
     refine ⟨1,by omega,by omega,?_⟩
     exact kw1 [(0,some 0),(1,some 1),(2,some 2),(3,some 3),(4,some 4),(5,some 5),(6,some 6)] (an @rows.eq_1 (an @zE.eq_1 @zPH))
   ·obtain rfl : k = 1:=by omega
    refine cF0 ?_
    refine zG ?_
    show awp _ _ _ _
    refine rg0 ?_
    refine zC ?_
    refine ⟨_,.inr ⟨els,pre,last,wds,right,right[0],hP,by omega,by simp,rfl⟩,?_⟩
    refine ⟨⟨.inr rfl,_,[],(by simp; rfl),trivial,trivial,by simp [rows,zE,zDt,ze,zIY,wk1],?_⟩,by simp [rows,zE,zDt,ze,zIY,wk1]⟩
    simp [ints,rows,rows,zE,zDt,ze,zIY,wk1]
    exact ⟨hle.symm,by rw [hb0]⟩
def zNy (p L : Nat) (bs : List Bool) (els : List (List Int)) (wds : List (List Nat)) (right : List (List Int)) (r0 : List Int) : AV:=.agg [.t 2 (.int .i64 L),.t p (rows (zBQ right wds els.length)),.t p (.sl 1 (wsT wds)),.t p (ints r0),.t p (zE (els.map (zHU bs))),.t p (.sl 1 (psC els.length els.length (right.any fun r=>decide ((0 : Int) ∈ r))))]
structure SyX (L m : Nat) (nx els : List (List Int)) (pre last : List Int) (wds : List (List Nat)) (right : List (List Int)) (r0 : List Int) : Prop where
 m32 : m <= 32
 pr : PrI m (tab L (lets m nx)) els pre last wds right els.length
 el : els.length <= 400
 r0 : right[0]? = some r0
def SyF (L m : Nat) (nx : List (List Int)) : Prop:=Big m (tab L (lets m nx)) \/ ∃ els pre last wds right,PrI m (tab L (lets m nx)) els pre last wds right els.length /\ 400 < els.length
def OfX (L n s : Nat) (bs : List Bool) (nxt : List (List Int)) (res : AV) : Prop:=∃ m bs' nx',MiX L n s bs nxt m bs' nx' /\ ((res = .tup [zKi,.t 2 (.int .i64 3)] /\ SyF L m nx') \/ ∃ els pre last wds right r0,SyX L m nx' els pre last wds right r0 /\ res = .tup [zNy 1 L bs' els wds right r0,.t 2 (.int .i64 0)])
theorem zPZ {L n s : Nat} {bs : List Bool} {nxt : List (List Int)} (h : DfL L n s bs nxt) (hL : 1 <= L) (hL2 : L <= 6) (hn : n <= 512) (hm32 : ∀ m bs' nx',MiX L n s bs nxt m bs' nx' -> m <= 32) : ∃ res,OfX L n s bs nxt res /\ FnS Tryz.prog 7 [dfT 0 L s bs nxt] [] res []:=by
 have hval:=zAY h hL hL2 hn
 obtain ⟨_,⟨m,b2,nx,hX,rfl⟩,hmin⟩:=zBW h hL hL2 hn
 have hm:=hm32 m b2 nx hX
 have hD:=hX.mn.df
 have hadd:=zQK hD hL hL2 hm
 obtain ⟨res1,hM,hmon⟩:=zKQ (hD.gn hL hL2 hm) hD.bl
 refine zk Tryz.func7 rfl (by simp [Tryz.f7]) ?_
 rw [show Tryz.f7.ntmps = 37 from rfl,show Tryz.f7.results = #[.cell 2 33,.tmp 3] from rfl]
 refine rg1 (an @dfT.eq_1 @zE.eq_1) ?_
 refine zA ?_
 refine rc1 hval (an @dfT.eq_1 @zE.eq_1) ?_
 refine rg0 ?_
 refine cS0 ?_
 refine rg0 ?_
 refine zA ?_
 refine zI fun K hK=>?_
 simp (maxSteps:=2000000) (disch:=omega) [ints,rows,scal,zK,wr8,dfT,zE]
 (repeat' apply And.intro)
 all_goals (try omega)
 refine zD (caps:=[]) (hmin) [] [] 2 rfl rfl rfl rfl (by kernel_rfl) (by simp) ?_ trivial trivial rfl trivial trivial (by simp) ?_
 ·simp [scal,rows,ints,dfT,zE]
 simp (maxSteps:=2000000) (disch:=omega) [ints,rows,scal,zK,wr8,dfT,zE]
 (repeat' apply And.intro)
 all_goals (try omega)
 refine zD (caps:=[]) (hadd) [8000000] [8000000] 1 rfl rfl rfl rfl (by kernel_rfl) (by simp) ?_ ?_ (by simp) rfl (by simp) ⟨.inr ⟨rfl,0,_,_,_,_,_,rfl,rfl,(by first | rfl | simp [syZ,syO,dfT,zE]),rfl,(by first | rfl | simp [syZ,syO,dfT,zE])⟩,trivial⟩ (by simp [syZ,syO,dfT,zE]) ?_
 ·simp [scal,rows,ints,syZ,syO,dfT,zE]
 ·simp [scal,rows,ints,syZ,syO,dfT,zE]
 simp (maxSteps:=2000000) (disch:=omega) [ints,rows,scal,zK,wr8,syO]
 (repeat' first | apply hK | apply And.intro) <;> try first | omega | rfl | (simp <;> omega)
 refine rg0 ?_
 refine cS0 ?_
 rcases hM with ⟨rfl,hF⟩ | ⟨els,pre,last,wds,right,r0,hP,h400,hr0,rfl⟩
 ·refine rc1 hmon @zKi.eq_1 ?_
  refine zA ?_
  refine rg0 ?_
  refine cT0 ?_
  refine rg0 ?_
  refine zC ?_
  refine ⟨_,⟨m,b2,nx,hX,.inl ⟨rfl,hF⟩⟩,?_⟩
  refine ⟨⟨.inr rfl,_,[],(by simp; rfl),trivial,trivial,by simp [zKi,dfT,zE],?_⟩,by simp [zKi,dfT,zE]⟩
  simp [ints,rows,zKi,dfT,zE]
 ·refine rc0 hmon ?_
  refine zA ?_
  refine rg0 ?_
  refine cS0 ?_
  refine rg0 ?_
  refine rg0 ?_
  refine zC ?_
  refine ⟨_,⟨m,b2,nx,hX,.inr ⟨els,pre,last,wds,right,r0,⟨hm,hP,h400,hr0⟩,rfl⟩⟩,?_⟩
  refine ⟨⟨.inr rfl,_,[],(by simp; rfl),trivial,trivial,by simp [zNy,dfT,zE],?_⟩,by simp [zNy,dfT,zE]⟩
  simp [ints,rows,zNy,dfT,zE]
theorem zIA {α : Type} {P : List α -> Prop} (h0 : P []) (h1 : ∀ w x,P w -> P (w ++ [x])) (w : List α) : P w:=by
 have key : ∀ k (w : List α),w.length = k -> P w:=by
  intro k
  induction k with
  | zero=>intro w hw; rw [List.length_eq_zero_iff.1 hw]; exact h0
  | succ k ih =>
   intro w hw
   have hne : w ≠ []:=by intro e; subst e; simp at hw
   rw [← List.dropLast_concat_getLast hne]
   exact h1 _ _ (ih _ (by simp [hw]))
 exact key _ w rfl
section
variable {n : Nat} {gs els els' : List (List Int)} {pre last pre' last' : List Int} {wds wds' : List (List Nat)} {right right' : List (List Int)}
theorem PrI.clo (h : PrI n gs els pre last wds right els.length) : ClE gs els:=fun e he g hg=>by
 obtain ⟨i,hi,rfl⟩:=List.getElem_of_mem he
 obtain ⟨y,hy,rfl⟩:=List.getElem_of_mem hg
 have hrd:=h.rd
 obtain ⟨h1,h2⟩:=h.rg i (right[i]'(by omega)) (by simp)
 exact h2.mem (by omega) (List.getElem?_eq_getElem hi) (List.getElem?_eq_getElem hy)
theorem PrI.eqE (h : PrI n gs els pre last wds right els.length) (h' : PrI n gs els' pre' last' wds' right' els'.length) : els = els' /\ pre = pre' /\ last = last' /\ wds = wds' /\ right = right':=by
 obtain ⟨e1,e2,e3,e4⟩:=h.en.eq h'.en h.clo h'.clo
 subst e1 e2 e3 e4
 refine ⟨rfl,rfl,rfl,rfl,?_⟩
 have hr:=h.rd
 have hr':=h'.rd
 refine List.ext_getElem (by omega) fun i h1 h2=>?_
 obtain ⟨a1,a2⟩:=h.rg i right[i] (by simp)
 obtain ⟨b1,b2⟩:=h'.rg i right'[i] (by simp)
 refine List.ext_getElem (by omega) fun y g1 g2=>?_
 obtain ⟨m,e,g,c1,c2,c3,c4⟩:=a2 y right[i][y] (by simp)
 obtain ⟨m',e',g',d1,d2,d3,d4⟩:=b2 y right'[i][y] (by simp)
 rw [c2] at d2
 rw [c3] at d3
 injection d2 with d2
 injection d3 with d3
 subst d2 d3
 rw [c1,d1,h.en.nd m m' _ c4 d4]
theorem PrI.zO2 (h : PrI n gs els pre last wds right els.length) : ∀ (w : List Nat),(∀ a ∈ w,a < gs.length) -> act n gs w ∈ els:=by
 intro w
 refine zIA (P:=fun w=>(∀ a ∈ w,a < gs.length) -> act n gs w ∈ els) ?_ ?_ w
 ·intro _; exact List.mem_of_getElem? (show els[0]? = some (act n gs []) from h.en.one.1)
 ·intro w x ih hw
  have hx : x < gs.length:=hw x (by simp)
  rw [zCL,List.getD_eq_getElem?_getD,List.getElem?_eq_getElem hx]
  exact h.clo _ (ih fun a ha=>hw a (by simp [ha])) _ (by simp)
theorem zC2 {α : Type} [DecidableEq α] : ∀ {l k : List α},l.Nodup -> (∀ a ∈ l,a ∈ k) -> l.length <= k.length
 | [],_,_,_=>by simp
 | a :: l,k,hn,hs=>by
  have hn':=List.nodup_cons.1 hn
  have ha:=hs a (by simp)
  have:=zC2 (l:=l) (k:=k.erase a) hn'.2 (fun b hb=>(List.mem_erase_of_ne (fun e=>hn'.1 (by rw [← e]; exact hb))).2 (hs b (by simp [hb])))
  rw [List.length_erase_of_mem ha] at this
  have:=List.length_pos_of_mem ha
  simp; omega
theorem PrI.zTd (h : PrI n gs els pre last wds right els.length) (hb : Big n gs) : False:=by
 obtain ⟨l,h1,h2,h3⟩:=hb
 have:=zC2 h1 (fun e he=>by
  obtain ⟨w,w1,rfl⟩:=h3 e he
  exact h.zO2 w w1)
 have:=h.el
 omega
end
section
variable {L m : Nat} {bs : List Bool} {nx els : List (List Int)} {pre last : List Int} {wds : List (List Nat)} {right : List (List Int)} {r0 : List Int}
theorem zBq (hD : DfL L m 0 bs nx) : ∀ (w : List Nat),(∀ a ∈ w,a < L) -> ∀ q,q < m -> (act m (tab L (lets m nx)) w)[q]? = some (zZ nx q w : Int):=by
 intro w
 refine zIA (P:=fun w=>(∀ a ∈ w,a < L) -> ∀ q,q < m -> (act m (tab L (lets m nx)) w)[q]? = some (zZ nx q w : Int)) ?_ ?_ w
 ·intro _ q hq; show (idL m)[q]? = _; unfold idL; rw [zP _ hq]; rfl
 ·intro w x ih hw q hq
  have hx : x < L:=hw x (by simp)
  have hwl : ∀ a ∈ w,a < L:=fun a ha=>hw a (by simp [ha])
  have h1:=ih hwl q hq
  have h2 : zZ nx q w < m:=hD.rt.walk hwl hq
  rw [zCL]
  unfold zt
  rw [List.getElem?_map,h1,Option.map_some,List.getD_eq_getElem?_getD (l:=tab L (lets m nx)),zP _ hx,Option.getD_some,List.getD_eq_getElem?_getD,Int.toNat_natCast]
  unfold lets
  rw [zP _ h2,Option.getD_some]
  simp [zZ]
theorem SyX.pos (h : SyX L m nx els pre last wds right r0) : 0 < els.length:=(List.getElem?_eq_some_iff.1 h.pr.en.one.1).1
theorem SyX.rt (h : SyX L m nx els pre last wds right r0) : zO8 L els.length right:=by
 have:=h.pr.rt
 rwa [zu] at this
theorem SyX.df (h : SyX L m nx els pre last wds right r0) : DfL L els.length 0 (els.map (zHU bs)) right:=by
 have hp:=h.pos
 have hrd:=h.pr.rd
 refine ⟨hp,hp,by simp,hrd,fun r hr=>?_⟩
 obtain ⟨i,hi,rfl⟩:=List.getElem_of_mem hr
 obtain ⟨h1,h2⟩:=h.pr.rg i right[i] (by simp)
 rw [zu] at h1
 refine ⟨h1,fun v hv=>?_⟩
 obtain ⟨y,hy,rfl⟩:=List.getElem_of_mem hv
 obtain ⟨k,e,g,c1,c2,c3,c4⟩:=h2 y right[i][y] (by simp)
 have:=(List.getElem?_eq_some_iff.1 c4).1
 omega
theorem SyX.elW (h : SyX L m nx els pre last wds right r0) (hD : DfL L m 0 bs nx) (hg : ∀ g ∈ tab L (lets m nx),TrN m g) {w : List Nat} (hw : ∀ a ∈ w,a < L) {x : Nat} (hx : x < els.length) : els[zZ right x w]? = some (zt els[x] (act m (tab L (lets m nx)) w)):=by
 have hw' : ∀ a ∈ w,a < (tab L (lets m nx)).length:=fun a ha=>by rw [zu]; exact hw a ha
 rw [h.pr.zNC w hx hw']
 obtain ⟨h1,h2,h3,h4⟩:=h.pr.wl' hx
 rw [zMh hg h3 hw']
theorem SyX.zKN (h : SyX L m nx els pre last wds right r0) (hD : DfL L m 0 bs nx) (hg : ∀ g ∈ tab L (lets m nx),TrN m g) {w : List Nat} (hw : ∀ a ∈ w,a < L) : zAf (els.map (zHU bs)) right 0 w = zAf bs nx 0 w:=by
 have hp:=h.pos
 have h1:=h.elW hD hg hw hp
 have h0 : els[0] = idL m:=by
  have:=h.pr.en.one.1
  rw [List.getElem?_eq_getElem hp] at this
  exact Option.some.inj this
 have hact : TrN m (act m (tab L (lets m nx)) w):=by
  obtain ⟨i,hi,e⟩:=List.getElem_of_mem (h.pr.zO2 w (fun a ha=>by rw [zu]; exact hw a ha))
  obtain ⟨h1,h2,h3,h4⟩:=h.pr.wl' hi
  rw [← e]; exact h3
 rw [h0,zCM hact] at h1
 have h2:=zBq hD w hw 0 hD.n1
 unfold zAf
 rw [List.getD_eq_getElem?_getD,List.getElem?_map,h1,Option.map_some,Option.getD_some]
 unfold zHU
 rw [List.getD_eq_getElem?_getD (l:=act m _ w),h2,Option.getD_some,Int.toNat_natCast]
end
theorem zGP (xs ys : List Int) (hl : xs.length <= 100000) (hl2 : ys.length <= 100000) : FnA Tryz.prog 58 [.t 0 (ints xs),.t 0 (ints ys)] (.t 2 (.bool (decide (xs = ys)))):=by
 refine fI 26 #[.tmp 4] Tryz.func58 rfl ?_
 refine rg0 ?_
 refine zA ?_
 by_cases hlen : xs.length = ys.length
 ·refine rg1 @hlen ?_
  refine cS0 ?_
  refine zA ?_
  refine rg0 ?_
  refine zB ?_
  refine awp_loop (fun k : Nat=>mkS [(0,.t 0 (ints xs)),(1,.t 0 (ints ys)),(12,.t 2 (.int .i64 xs.length)),(13,.t 2 (.int .i64 k))] [] 0 26 [.any,.any]) (fun k=>k <= xs.length /\ ∀ j (h1 : j < xs.length) (h2 : j < ys.length),j < k -> xs[j] = ys[j]) (fun k=>xs.length - k) ?_ ?_
  ·refine ⟨0,⟨by omega,fun j h1 h2 hj=>by omega⟩,?_⟩
   exact kw0 []
  rintro k ⟨hk,hsame⟩
  refine rg0 ?_
  refine zA ?_
  by_cases hlt : k < xs.length
  ·have hlt2 : k < ys.length:=by omega
   refine cK1 @hlt ?_
   refine zA ?_
   refine zB ?_
   refine rg0 ?_
   by_cases e : xs[k] = ys[k]
   ·refine rd1 (an @hlt (an @hlt2 @e)) ?_
    refine cY0 ?_
    show awp _ _ _ _
    refine rr0 ?_
    refine ⟨k + 1,⟨by omega,fun j h1 h2 hj=>?_⟩,by omega,?_⟩
    ·by_cases c : j = k
     ·subst c; exact e
     ·exact hsame j h1 h2 (by omega)
    exact kw0 []
   ·have hne : decide (xs = ys) = false:=by
     simp only [decide_eq_false_iff_not]
     intro c
     subst c
     exact e rfl
    have e2 : (xs[k] == ys[k]) = false:=by simpa using e
    refine rd1 (an @hlt (an @hlt2 @e2)) ?_
    refine cT0 ?_
    refine rg0 ?_
    exact zC (rt1 @hne)
  ·have heq : decide (xs = ys) = true:=by
    simp only [decide_eq_true_eq]
    exact List.ext_getElem hlen fun j h1 h2=>hsame j h1 h2 (by omega)
   refine cF1 @hlt ?_
   refine zG ?_
   show awp _ _ _ _
   refine rg0 ?_
   exact zC (rt1 @heq)
 ·have hne : decide (xs = ys) = false:=by
   simp only [decide_eq_false_iff_not]
   intro c
   subst c
   exact hlen rfl
  have hli : ¬ (xs.length : Int) = ys.length:=by omega
  have hli2 : ((xs.length : Int) == ys.length) = false:=by simpa using hli
  refine rg1 @hli2 ?_
  refine cT0 ?_
  refine rg0 ?_
  exact zC (rt1 @hne)
theorem zL8 (xs ys : List Bool) (hl : xs.length <= 100000) (hl2 : ys.length <= 100000) : FnA Tryz.prog 60 [.t 0 (zE xs),.t 0 (zE ys)] (.t 2 (.bool (decide (xs = ys)))):=by
 refine fI 26 #[.tmp 4] Tryz.func60 rfl ?_
 refine rg1 @zE.eq_1 ?_
 refine zA ?_
 by_cases hlen : xs.length = ys.length
 ·refine rg1 (an @hlen @zE.eq_1) ?_
  refine cS0 ?_
  refine zA ?_
  refine rg1 @zE.eq_1 ?_
  refine zB ?_
  refine awp_loop (fun k : Nat=>mkS [(0,.t 0 (zE xs)),(1,.t 0 (zE ys)),(12,.t 2 (.int .i64 xs.length)),(13,.t 2 (.int .i64 k))] [] 0 26 [.any,.any]) (fun k=>k <= xs.length /\ ∀ j (h1 : j < xs.length) (h2 : j < ys.length),j < k -> xs[j] = ys[j]) (fun k=>xs.length - k) ?_ ?_
  ·refine ⟨0,⟨by omega,fun j h1 h2 hj=>by omega⟩,?_⟩
   exact kw1 [] @zE.eq_1
  rintro k ⟨hk,hsame⟩
  refine rg0 ?_
  refine zA ?_
  by_cases hlt : k < xs.length
  ·have hlt2 : k < ys.length:=by omega
   refine cK1 @hlt ?_
   refine zA ?_
   refine zB ?_
   refine rg0 ?_
   by_cases e : xs[k] = ys[k]
   ·refine rd1 (an @hlt (an @hlt2 (an @e @zE.eq_1))) ?_
    refine cY0 ?_
    show awp _ _ _ _
    refine rr0 ?_
    refine ⟨k + 1,⟨by omega,fun j h1 h2 hj=>?_⟩,by omega,?_⟩
    ·by_cases c : j = k
     ·subst c; exact e
     ·exact hsame j h1 h2 (by omega)
    exact kw1 [] @zE.eq_1
   ·have hne : decide (xs = ys) = false:=by
     simp only [decide_eq_false_iff_not]
     intro c
     subst c
     exact e rfl
    have e2 : (xs[k] == ys[k]) = false:=by simpa using e
    refine rd1 (an @hlt (an @hlt2 (an @e2 @zE.eq_1))) ?_
    refine cT0 ?_
    refine rg0 ?_
    exact zC (rt1 @hne)
  ·have heq : decide (xs = ys) = true:=by
    simp only [decide_eq_true_eq]
    exact List.ext_getElem hlen fun j h1 h2=>hsame j h1 h2 (by omega)
   refine cF1 @hlt ?_
   refine zG ?_
   show awp _ _ _ _
   refine rg0 ?_
   exact zC (rt1 @heq)
 ·have hne : decide (xs = ys) = false:=by
   simp only [decide_eq_false_iff_not]
   intro c
   subst c
   exact hlen rfl
  have hli : ¬ (xs.length : Int) = ys.length:=by omega
  have hli2 : ((xs.length : Int) == ys.length) = false:=by simpa using hli
  refine rg1 (an @hli2 @zE.eq_1) ?_
  refine cT0 ?_
  refine rg0 ?_
  exact zC (rt1 @hne)
theorem zSs : slB Tryz.prog 25 = true:=by kernel_rfl
theorem zNE (xs : List Bool) (hx : 0 < xs.length) (hl : xs.length <= 100000) : FnA Tryz.prog 90 [.t 0 (zE xs)] (.t 2 (zE xs)):=by
 have hne : ¬ xs = []:=fun e=>by rw [e] at hx; simp at hx
 refine fI 8 #[.tmp 2] Tryz.func90 rfl ?_
 refine rg1 @zE.eq_1 ?_
 refine zA ?_
 refine rg1 (an @zSs (an @hx @zE.eq_1)) ?_
 refine cS1 @hne ?_
 refine rg1 @zE.eq_1 ?_
 exact zC (rt1 @zE.eq_1)
section
variable {L m : Nat} {bs : List Bool} {nx els : List (List Int)} {pre last : List Int} {wds : List (List Nat)} {right : List (List Int)} {r0 : List Int}
theorem SyX.img (h : SyX L m nx els pre last wds right r0) (hg : ∀ g ∈ tab L (lets m nx),TrN m g) {a : Nat} (ha : a < L) : ∃ j : Nat,r0[a]? = some (j : Int) /\ j < els.length /\ els[j]? = some (lets m nx a):=by
 obtain ⟨h1,h2⟩:=h.pr.rg 0 r0 h.r0
 rw [zu] at h1
 obtain ⟨k,e,g,c1,c2,c3,c4⟩:=h2 a r0[a] (by simp)
 rw [zP _ ha] at c3
 injection c3 with c3
 subst c3
 rw [h.pr.en.one.1] at c2
 injection c2 with c2
 subst c2
 rw [zCM (hg _ (List.mem_of_getElem? (zP _ ha)))] at c4
 exact ⟨k,by rw [List.getElem?_eq_getElem (by omega),c1],(List.getElem?_eq_some_iff.1 c4).1,c4⟩
theorem SyX.zR7 (h : SyX L m nx els pre last wds right r0) (hD : DfL L m 0 bs nx) (hg : ∀ g ∈ tab L (lets m nx),TrN m g) {x a j : Nat} (hx : x < els.length) (ha : a < L) (hj : els[j]? = some (lets m nx a)) : zZ right x (wds.getD j []) = zJ right x a:=by
 have hjl:=(List.getElem?_eq_some_iff.1 hj).1
 obtain ⟨w1,w2,w3,w4⟩:=h.pr.wl' hjl
 have hwj : wds.getD j [] = wds[j]:=by rw [List.getD_eq_getElem?_getD,List.getElem?_eq_getElem w1]; rfl
 rw [hwj]
 have e1:=h.elW hD hg (w:=wds[j]) (fun y hy=>by have:=w4 y hy; rwa [zu] at this) hx
 rw [← w2] at e1
 have e2:=h.pr.zPK hx (c:=a) (by rw [zu]; exact ha)
 obtain ⟨hjx,hj2⟩:=List.getElem?_eq_some_iff.1 hj
 rw [hj2] at e1
 have e3 : (tab L (lets m nx))[a]'(by rw [zu]; exact ha) = lets m nx a:=by simp [zC5]
 rw [e3] at e2
 exact h.pr.en.nd _ _ _ e1 e2
theorem SyX.mix (h : SyX L m nx els pre last wds right r0) (hM : MnD L m bs nx) (hL : 1 <= L) (hg : ∀ g ∈ tab L (lets m nx),TrN m g) {m' : Nat} {bs' : List Bool} {nx' : List (List Int)} (hX : MiX L els.length 0 (els.map (zHU bs)) right m' bs' nx') : m' = m /\ bs' = bs /\ nx' = nx :=
 hX.mn.eq (by omega) hM fun w hw=>by rw [hX.zKN w hw,h.zKN hM.df hg hw]
theorem SyX.of (h : SyX L m nx els pre last wds right r0) (hM : MnD L m bs nx) (hL : 1 <= L) (hg : ∀ g ∈ tab L (lets m nx),TrN m g) {res : AV} (hO : OfX L els.length 0 (els.map (zHU bs)) right res) : res = .tup [zNy 1 L bs els wds right r0,.t 2 (.int .i64 0)]:=by
 obtain ⟨m',bs',nx',hX,hc⟩:=hO
 obtain ⟨rfl,rfl,rfl⟩:=h.mix hM hL hg hX
 rcases hc with ⟨-,hF⟩ | ⟨els',pre',last',wds',right',r0',h',rfl⟩
 ·rcases hF with hF | ⟨els',pre',last',wds',right',hP,hl⟩
  ·exact (h.pr.zTd hF).elim
  ·obtain ⟨e,-⟩:=h.pr.eqE hP
   have:=h.el
   rw [e] at this
   omega
 ·obtain ⟨rfl,rfl,rfl,rfl,rfl⟩:=h.pr.eqE h'.pr
  have e:=h.r0.symm.trans h'.r0
  injection e with e
  subst e
  rfl
end
structure zS6 (L N : Nat) (tb : List (List Int)) (ws : List (List Nat)) (im : List Int) (ac pl : List Bool) : Prop where
 l1 : 1 <= L
 l2 : L <= 6
 n1 : 1 <= N
 n2 : N <= 400
 tl : tb.length = N
 tr : ∀ r ∈ tb,r.length = N /\ ∀ v ∈ r,0 <= v /\ v < (N : Int)
 wl : ws.length = N
 il : im.length = L
 ir : ∀ v ∈ im,0 <= v /\ v < (N : Int)
 al : ac.length = N
 pll : pl.length = N
def syV (p L : Nat) (tb : List (List Int)) (ws : List (List Nat)) (im : List Int) (ac pl : List Bool) : AV:=.agg [.t 2 (.int .i64 L),.t p (rows tb),.t p (.sl 1 (wsT ws)),.t p (ints im),.t p (zE ac),.t p (zE pl)]
theorem zEl {N : Nat} {xs : List Int} (hx : ∀ v ∈ xs,0 <= v /\ v < (N : Int)) (hl : xs.length <= 100000) : FnA Tryz.prog 89 [.t 0 (ints xs),.t 2 (.int .i64 N)] (.t 2 (.bool true)):=by
 refine fI 21 #[.tmp 4] Tryz.func89 rfl ?_
 refine rg0 ?_
 refine zA ?_
 refine rg0 ?_
 refine zB ?_
 refine awp_loop (fun k : Nat=>mkS [(1,.t 2 (.int .i64 N)),(7,.t 0 (ints xs)),(8,.t 2 (.int .i64 xs.length)),(9,.t 2 (.int .i64 k))] [] 0 21 [.any,.any]) (fun k=>k <= xs.length) (fun k=>xs.length - k) ?_ ?_
 ·refine ⟨0,by omega,?_⟩
  exact kw0 []
 intro k hk
 refine rg0 ?_
 refine zA ?_
 by_cases hlt : k < xs.length
 ·have hv:=hx xs[k] (by simp)
  have d1 : ¬ xs[k] < 0:=by omega
  have d2 : ¬ (N : Int) <= xs[k]:=by omega
  refine cK1 @hlt ?_
  refine zA ?_
  refine zB ?_
  refine rg1 @hlt ?_
  refine rg1 (an @d1 @d2) ?_
  refine cY0 ?_
  show awp _ _ _ _
  refine rr0 ?_
  refine ⟨k + 1,by omega,by omega,?_⟩
  exact kw0 []
 ·refine cF1 @hlt ?_
  refine zG ?_
  show awp _ _ _ _
  refine rg0 ?_
  exact zC rt0
theorem zMZ {L N : Nat} {tb : List (List Int)} {ws : List (List Nat)} {im : List Int} {ac pl : List Bool} (h : zS6 L N tb ws im ac pl) : FnA Tryz.prog 56 [syV 0 L tb ws im ac pl] (.t 2 (.bool true)):=by
 have hl1:=h.l1
 have hl2:=h.l2
 have hn1:=h.n1
 have hn2:=h.n2
 have htl:=h.tl
 have hwl:=h.wl
 have hil:=h.il
 have hal:=h.al
 have hpl:=h.pll
 have d1 : ¬ (L : Int) < 1:=by omega
 have d2 : ¬ 6 < (L : Int):=by omega
 have d3 : ¬ (N : Int) < 1:=by omega
 have d4 : ¬ 400 < (N : Int):=by omega
 refine fI 74 #[.tmp 2] Tryz.func56 rfl ?_
 refine rg1 (an @syV.eq_1 @zE.eq_1) ?_
 refine rg1 @htl ?_
 refine zA ?_
 refine rg1 (an @d1 (an @d2 (an @d3 @d4))) ?_
 refine cS0 ?_
 refine zA ?_
 refine rg1 (an @hwl (an @hal (an @hpl @hil))) ?_
 refine cS0 ?_
 refine zA ?_
 refine rg1 @htl ?_
 refine zB ?_
 refine awp_loop (fun k : Nat=>mkS [(1,.ptr 0 0 6),(3,.t 2 (.int .i64 N)),(53,.t 0 (rows tb)),(54,.t 2 (.int .i64 N)),(55,.t 2 (.int .i64 k))] [(0,.box 33 [.any,.any,.any,.t 0 (ints im),.any,.any])] 1 74 [.any]) (fun k=>k <= N) (fun k=>N - k) ?_ ?_
 ·refine ⟨0,by omega,?_⟩
  exact kw1 [(0,some 0)] (an @rows.eq_1 @zE.eq_1)
 intro k hk
 refine rg0 ?_
 refine zA ?_
 by_cases hlt : k < N
 ·have hkt : k < tb.length:=by omega
  obtain ⟨hr1,hr2⟩:=h.tr tb[k] (by simp)
  have hwi:=zEl hr2 (by omega)
  refine cK1 @hlt ?_
  refine zA ?_
  refine zB ?_
  refine rg1 @hkt ?_
  refine rc1 hwi @hr1 ?_
  refine cY0 ?_
  show awp _ _ _ _
  refine rr0 ?_
  refine ⟨k + 1,by omega,by omega,?_⟩
  exact kw1 [(0,some 0)] @rows.eq_1
 ·have hwi:=zEl h.ir (by omega)
  refine cF1 @hlt ?_
  refine zG ?_
  show awp _ _ _ _
  refine rc0 hwi ?_
  exact zC (rt1 @syV.eq_1)
def auR (tb : List (List Int)) (im : List Int) (x : Nat) : List Int:=im.map fun y=>(tb.getD x []).getD y.toNat 0
@[simp] theorem zT8 (tb : List (List Int)) (im : List Int) (x : Nat) : (auR tb im x).length = im.length:=by simp [auR]
def auP (tb : List (List Int)) (im : List Int) (x a : Nat) : List T:=tab im.length fun y=>.int .i64 (if y < a then (auR tb im x).getD y 0 else 0)
@[simp] theorem zUL (tb : List (List Int)) (im : List Int) (x a : Nat) : (auP tb im x a).length = im.length:=by simp [auP]
theorem zNu (tb : List (List Int)) (im : List Int) (x : Nat) : (tab im.length fun _=>T.int .i64 0) = auP tb im x 0:=rfl
theorem zQc {tb : List (List Int)} {im : List Int} {x a : Nat} {v : Int} (ha : a < im.length) (hv : (tb.getD x []).getD im[a].toNat 0 = v) : (auP tb im x a).set a (.int .i64 v) = auP tb im x (a + 1):=by
 unfold auP
 rw [zg]
 refine zO fun y hy=>?_
 by_cases c : y = a
 ·subst c
  rw [if_pos rfl,if_pos (by omega)]
  unfold auR
  rw [List.getD_eq_getElem?_getD (l:=List.map _ _),List.getElem?_map,List.getElem?_eq_getElem ha,Option.map_some,Option.getD_some,hv]
 ·rw [if_neg c]
  by_cases c2 : y < a
  ·rw [if_pos c2,if_pos (by omega)]
  ·rw [if_neg c2,if_neg (by omega)]
theorem zN7 (tb : List (List Int)) (im : List Int) (x : Nat) : auP tb im x im.length = (auR tb im x).map (.int .i64):=by
 apply List.ext_getElem?
 intro i
 by_cases h : i < im.length
 ·unfold auP
  rw [zP _ h,if_pos h,List.getElem?_map,List.getD_eq_getElem?_getD,List.getElem?_eq_getElem (show i < (auR tb im x).length by simpa using h)]
  rfl
 ·rw [List.getElem?_eq_none (by simp; omega),List.getElem?_eq_none (by simp; omega)]
def auC (tb : List (List Int)) (im : List Int) (k j : Nat) : AV:=if j < k then .t 1 (ints (auR tb im j)) else .t 2 (.sl 0 [])
theorem zGn {L N : Nat} {tb : List (List Int)} {ws : List (List Nat)} {im : List Int} {ac pl : List Bool} (h : zS6 L N tb ws im ac pl) : FnA Tryz.prog 57 [syV 0 L tb ws im ac pl] (dfT 1 L 0 ac (tab N (auR tb im))):=by
 have hl1:=h.l1
 have hl2:=h.l2
 have hn1:=h.n1
 have hn2:=h.n2
 have htl:=h.tl
 have hil:=h.il
 have hal:=h.al
 refine fI 55 #[.cell 2 28] Tryz.func57 rfl ?_
 refine rg1 (an @syV.eq_1 @zE.eq_1) ?_
 refine rq1 (zNE ac (by omega) (by omega)) (an @zE.eq_1 @htl) ?_
 refine zA ?_
 refine rg1 @htl ?_
 refine zB ?_
 refine awp_loop (fun x : Nat=>mkS [(1,.ptr 0 0 6),(2,.ptr 1 0 4),(3,.ptr 2 0 4),(19,.t 0 (rows tb)),(20,.t 2 (.int .i64 N)),(21,.t 2 (.int .i64 x))]
   [(0,.box 33 [.t 2 (.int .i64 L),.any,.any,.t 0 (ints im),.any,.any]),(1,.box 28 [.any,.any,.any,.any]),(2,.box 28 [.t 2 (.int .i64 L),.t 2 (.int .i64 0),.t 2 (zE ac),.own 3 N]),(3,.vec 22 1 2 (tab N (auC tb im x)))] 4 55 [.any])
  (fun x=>x <= N) (fun x=>N - x) ?_ ?_
 ·refine ⟨0,by omega,?_⟩
  exact kw1 [(0,some 0),(1,some 1000000),(2,some 12000000),(3,some 10000000)] (an @rows.eq_1 (an @zE.eq_1 (an @zAF (an @ze (an @zH @auC.eq_1)))))
 intro x hx
 refine rg0 ?_
 refine zA ?_
 by_cases hxn : x < N
 ·have hxt : x < tb.length:=by omega
  obtain ⟨hr1,hr2⟩:=h.tr tb[x] (by simp)
  refine cK1 @hxn ?_
  refine zA ?_
  refine zB ?_
  refine rg1 @hxt ?_
  refine rd1 (an @hxn (an @zg @zAF)) ?_
  refine rg1 @hil ?_
  refine zB ?_
  refine awp_loop (fun a : Nat=>mkS [(1,.ptr 0 0 6),(2,.ptr 1 0 4),(3,.ptr 2 0 4),(4,.t 2 (.int .i64 x)),(5,.t 0 (ints tb[x])),(19,.t 0 (rows tb)),(20,.t 2 (.int .i64 N)),(21,.t 2 (.int .i64 x)),(34,.t 0 (ints im)),(35,.t 2 (.int .i64 L)),(36,.t 2 (.int .i64 a))]
    [(0,.box 33 [.t 2 (.int .i64 L),.any,.any,.t 0 (ints im),.any,.any]),(1,.box 28 [.any,.any,.any,.any]),(2,.box 28 [.t 2 (.int .i64 L),.t 2 (.int .i64 0),.t 2 (zE ac),.own 3 N]),(3,.vec 22 1 2 (tab N fun y=>if y = x then .own 4 L else auC tb im x y)),(4,.row 3 1 2 (auP tb im x a))] 5 55 [.any])
   (fun a=>a <= L) (fun a=>L - a) ?_ ?_
  ·refine ⟨0,by omega,?_⟩
   refine zQ [(0,some 0),(1,some 1),(2,some 2),(3,some 3),(4,some 11000004)] rfl ?_ ?_ ?_ ?_
   all_goals try simp [ints,rows,zE,zH]
   refine ⟨fun y hy=>?_,?_⟩
   ·by_cases e : y = x
    ·subst e
     simp +contextual (disch:=omega) [zL,zM,zV,zW,zw,List.getElem?_cons_succ,Option.getD_some,callF,ints,scal,tpO,zF,zH]
    ·simp only [if_neg e]
     unfold auC
     split <;> simp
   ·rw [← hil]
    exact zNu tb im x
  intro a ha
  refine rg0 ?_
  refine zA ?_
  by_cases hal : a < L
  ·have haL : a < im.length:=by omega
   obtain ⟨v1,v2⟩:=h.ir im[a] (by simp)
   obtain ⟨k,hk⟩ : ∃ k : Nat,im[a] = (k : Int):=⟨im[a].toNat,by omega⟩
   have hkr : k < tb[x].length:=by omega
   have hst:=zQc (tb:=tb) (x:=x) haL (v:=tb[x][k]) (by rw [hk,List.getD_eq_getElem?_getD,List.getD_eq_getElem?_getD,List.getElem?_eq_getElem hxt,Option.getD_some,Int.toNat_natCast,List.getElem?_eq_getElem hkr]; rfl)
   refine cK1 @hal ?_
   refine zA ?_
   refine zB ?_
   refine rg1 (an @haL @hk) ?_
   refine re1 (an @hxn (an @hkr (an @hst @haL))) ?_
   show awp _ _ _ _
   refine rr0 ?_
   refine ⟨a + 1,by omega,by omega,?_⟩
   refine zQ [(0,some 0),(1,some 1),(2,some 2),(3,some 3),(4,some 4)] rfl ?_ ?_ ?_ ?_
   all_goals try simp [ints,rows,zE,zH]
   intro y hy
   by_cases e : y = x
   ·subst e
    simp +contextual (disch:=omega) [zL,zM,zV,zW,zw,List.getElem?_cons_succ,Option.getD_some,callF,ints,scal,tpO,zF,zH,hil]
   ·simp only [if_neg e]
    unfold auC
    split <;> simp
  ·obtain rfl : a = L:=by omega
   refine cF0 ?_
   refine zG ?_
   show awp _ _ _ _
   refine rr0 ?_
   refine ⟨x + 1,by omega,by omega,?_⟩
   refine zQ [(0,some 0),(1,some 1),(2,some 2),(3,some 3)] rfl ?_ ?_ ?_ ?_
   all_goals try simp [ints,rows,zE,zH]
   have hfu : auP tb im x a = (auR tb im x).map (.int .i64):=hil ▸ zN7 tb im x
   intro y hy
   by_cases e : y = x
   ·subst e
    simp +contextual (disch:=omega) [zL,zM,zV,zW,zw,List.getElem?_cons_succ,Option.getD_some,callF,ints,scal,tpO,zF,zH,auC,hfu,hil]
   ·simp only [if_neg e]
    unfold auC
    by_cases c : y < x
    ·rw [if_pos c,if_pos (by omega)]
     simp
    ·rw [if_neg c,if_neg (by omega)]
     simp
 ·obtain rfl : x = N:=by omega
  refine cF0 ?_
  refine zG ?_
  show awp _ _ _ _
  refine rg0 ?_
  refine zC ?_
  refine ⟨⟨.inr rfl,_,[],(by simp; rfl),trivial,trivial,by simp [dfT,rows,zE,ze,zz,syV],?_⟩,by simp [dfT,rows,zE,ze,zz,syV]⟩
  simp [ints,rows,dfT,rows,zE,ze,zz,syV]
  intro j hj
  unfold auC
  rw [if_pos hj]
  simp [wk1]
  rfl
theorem zNP (ws : List (List Nat)) (hl : ws.length <= 100000) : FnA Tryz.prog 59 [.t 0 (.sl 1 (wsT ws)),.t 0 (.sl 1 (wsT ws))] (.t 2 (.bool true)):=by
 refine fI 26 #[.tmp 4] Tryz.func59 rfl ?_
 refine rg0 ?_
 refine zA ?_
 refine rg0 ?_
 refine cS0 ?_
 refine zA ?_
 refine rg0 ?_
 refine zB ?_
 refine awp_loop (fun k : Nat=>mkS [(0,.t 0 (.sl 1 (wsT ws))),(1,.t 0 (.sl 1 (wsT ws))),(12,.t 2 (.int .i64 ws.length)),(13,.t 2 (.int .i64 k))] [] 0 26 [.any,.any]) (fun k=>k <= ws.length) (fun k=>ws.length - k) ?_ ?_
 ·refine ⟨0,by omega,?_⟩
  exact kw0 []
 intro k hk
 refine rg0 ?_
 refine zA ?_
 by_cases hlt : k < ws.length
 ·have hwk : (wsT ws)[k]? = some (.str (zBP ws[k])):=by simp [wsT,hlt]
  refine cK1 @hlt ?_
  refine zA ?_
  refine zB ?_
  refine rg0 ?_
  refine rd1 (an @hwk @hlt) ?_
  refine cY0 ?_
  show awp _ _ _ _
  refine rr0 ?_
  refine ⟨k + 1,by omega,by omega,?_⟩
  exact kw0 []
 ·refine cF1 @hlt ?_
  refine zG ?_
  show awp _ _ _ _
  refine rg0 ?_
  exact zC rt0
def psB (N : Nat) (b : Bool) : List Bool:=tab N fun j=>if j = 0 then b else decide (j < N)
theorem zTV (N : Nat) (b : Bool) : psC N N b = (psB N b).map .bool:=by
 unfold psC psB
 rw [ze]
theorem zK4 (p L : Nat) (bs : List Bool) (els : List (List Int)) (wds : List (List Nat)) (right : List (List Int)) (r0 : List Int) : zNy p L bs els wds right r0 = syV p L (zBQ right wds els.length) wds r0 (els.map (zHU bs)) (psB els.length (right.any fun r=>decide ((0 : Int) ∈ r))):=by
 unfold zNy syV
 rw [zTV]
 rfl
section
variable {L m : Nat} {bs : List Bool} {nx els : List (List Int)} {pre last : List Int} {wds : List (List Nat)} {right : List (List Int)} {r0 : List Int}
theorem SyX.sh (h : SyX L m nx els pre last wds right r0) (hL : 1 <= L) (hL2 : L <= 6) (ac : List Bool) (ha : ac.length = els.length) (pl : List Bool) (hp : pl.length = els.length) : zS6 L els.length (zBQ right wds els.length) wds r0 ac pl:=by
 have hpos:=h.pos
 have hle:=h.pr.en.le
 have hrt:=zRU h.pr.rt hle h.pr.wl
 have hd : DfL L els.length 0 (els.map (zHU [])) right:=h.df
 obtain ⟨hi,hi2⟩:=hd.row r0 (List.mem_of_getElem? h.r0)
 refine ⟨hL,hL2,hpos,h.el,by simp,fun r hr=>?_,hle.symm,hi,hi2,ha,hp⟩
 obtain ⟨i,hi,rfl⟩:=List.getElem_of_mem hr
 obtain ⟨h1,h2⟩:=hrt.row i _ (List.getElem?_eq_getElem hi)
 refine ⟨h1,fun v hv=>?_⟩
 obtain ⟨y,hy,rfl⟩:=List.getElem_of_mem hv
 obtain ⟨k,e,hk⟩:=h2 y _ (List.getElem?_eq_getElem hy)
 rw [e]; omega
theorem SyX.next (h : SyX L m nx els pre last wds right r0) (hD : DfL L m 0 bs nx) (hg : ∀ g ∈ tab L (lets m nx),TrN m g) : tab els.length (auR (zBQ right wds els.length) r0) = right:=by
 have hrd:=h.pr.rd
 have hd : DfL L els.length 0 (els.map (zHU [])) right:=h.df
 obtain ⟨hi,hi2⟩:=hd.row r0 (List.mem_of_getElem? h.r0)
 refine List.ext_getElem (by simp [hrd]) fun x h1 h2=>?_
 have hx : x < els.length:=by omega
 rw [zC5]
 obtain ⟨hr1,-⟩:=hd.row right[x] (by simp)
 refine List.ext_getElem (by simp [hi,hr1]) fun a g1 g2=>?_
 have ha : a < L:=by omega
 obtain ⟨j,j1,j2,j3⟩:=h.img hg ha
 have e1 : (auR (zBQ right wds els.length) r0 x)[a]? = some (((zBQ right wds els.length).getD x []).getD j 0):=by
  unfold auR
  rw [List.getElem?_map,j1,Option.map_some,Int.toNat_natCast]
 rw [List.getElem?_eq_getElem g1] at e1
 rw [Option.some.inj e1]
 have e2 : ((zBQ right wds els.length).getD x []).getD j 0 = (zZ right x (wds.getD j []) : Int):=by
  unfold zBQ
  rw [List.getD_eq_getElem?_getD (l:=tab _ _),zP _ hx,Option.getD_some,List.getD_eq_getElem?_getD (l:=tab _ _),zP _ j2,Option.getD_some]
 rw [e2,h.zR7 hD hg hx ha j3]
 obtain ⟨-,s2,s3,s4⟩:=hd.rt.step hx ha
 exact s4.symm
end
theorem zFu {L N : Nat} {tb : List (List Int)} {ws : List (List Nat)} {im : List Int} {ac pl : List Bool} (hS : zS6 L N tb ws im ac pl) (hof : FnA Tryz.prog 7 [dfT 0 L 0 ac (tab N (auR tb im))] (.tup [syV 1 L tb ws im ac pl,.t 2 (.int .i64 0)])) : FnA Tryz.prog 39 [syV 0 L tb ws im ac pl] (.t 2 (.int .i64 0)):=by
 have hsh:=zMZ hS
 have hau:=zGn hS
 have hn2:=hS.n2
 have hl2:=hS.l2
 have htl:=hS.tl
 have hwl:=hS.wl
 have hil:=hS.il
 have hal:=hS.al
 have hpl:=hS.pll
 generalize tab N (auR tb im) = nx at hof hau
 have hq1 : ∀ r ∈ tb,FnA Tryz.prog 58 [.t 0 (ints r),.t 0 (ints r)] (.t 2 (.bool true)):=fun r hr=>by
  have h1:=(hS.tr r hr).1
  have:=zGP r r (by omega) (by omega)
  rwa [show decide (r = r) = true by simp] at this
 have hq2 : FnA Tryz.prog 58 [.t 0 (ints im),.t 0 (ints im)] (.t 2 (.bool true)):=by
  have:=zGP im im (by omega) (by omega)
  rwa [show decide (im = im) = true by simp] at this
 have hq3 : ∀ b : List Bool,b.length <= 100000 -> FnA Tryz.prog 60 [.t 0 (zE b),.t 0 (zE b)] (.t 2 (.bool true)):=fun b hb=>by
  have:=zL8 b b hb hb
  rwa [show decide (b = b) = true by simp] at this
 have hq4:=zNP ws (by omega)
 refine fI 74 #[.tmp 2] Tryz.func39 rfl ?_
 refine rg1 (an @syV.eq_1 @zE.eq_1) ?_
 refine zA ?_
 refine rc1 hsh (an @syV.eq_1 @zE.eq_1) ?_
 refine cS0 ?_
 refine zI fun K hK=>?_
 simp (maxSteps:=2000000) (disch:=omega) [ints,rows,scal,zK,wr8]
 (repeat' apply And.intro)
 all_goals (try omega)
 refine zD (caps:=[]) (hau) [] [] 2 rfl rfl rfl rfl (by kernel_rfl) (by simp) ?_ trivial trivial rfl trivial trivial (by simp) ?_
 ·simp [scal,rows,ints,syV,zE]
 simp (maxSteps:=2000000) (disch:=omega) [ints,rows,scal,zK,wr8,dfT]
 (repeat' apply And.intro)
 all_goals (try omega)
 refine zD (caps:=[]) (hof) [] [] 2 rfl rfl rfl rfl (by kernel_rfl) (by simp) ?_ trivial trivial rfl trivial trivial (by simp) ?_
 ·simp [scal,rows,ints,dfT]
 simp (maxSteps:=2000000) (disch:=omega) [ints,rows,scal,zK,wr8,syV,zE]
 and_intros <;> try first | apply hK | omega | rfl | simp <;> omega
 refine zA ?_
 refine rg1 @htl ?_
 refine cS0 ?_
 refine zA ?_
 refine rg1 @htl ?_
 refine zB ?_
 refine awp_loop (fun k : Nat=>mkS [(1,.ptr 0 0 6),(3,.ptr 1 0 6),(28,.t 1 (rows tb)),(29,.t 2 (.int .i64 N)),(30,.t 2 (.int .i64 k))]
   [(0,.box 33 [.t 2 (.int .i64 L),.t 0 (rows tb),.t 0 (.sl 1 (wsT ws)),.t 0 (ints im),.t 0 (zE ac),.t 0 (zE pl)]),(1,.box 33 [.t 2 (.int .i64 L),.t 1 (rows tb),.t 1 (.sl 1 (wsT ws)),.t 1 (ints im),.t 1 (zE ac),.t 1 (zE pl)])] 2 74 [.any]) (fun k=>k <= N) (fun k=>N - k) ?_ ?_
 ·refine ⟨0,by omega,?_⟩
  exact kw1 [(0,some 0),(1,some 11000000)] (an @rows.eq_1 @zE.eq_1)
 intro k hk
 refine rg0 ?_
 refine zA ?_
 by_cases hlt : k < N
 ·have hkt : k < tb.length:=by omega
  have hq:=hq1 tb[k] (by simp)
  refine cK1 @hlt ?_
  refine zA ?_
  refine zB ?_
  refine rg1 @hkt ?_
  refine rc1 hq @hkt ?_
  refine cY0 ?_
  show awp _ _ _ _
  refine rr0 ?_
  refine ⟨k + 1,by omega,by omega,?_⟩
  exact kw1 [(0,some 0),(1,some 1)] (an @rows.eq_1 @zE.eq_1)
 ·have hqa:=hq3 ac (by omega)
  have hqp:=hq3 pl (by omega)
  refine cF1 @hlt ?_
  refine zG ?_
  show awp _ _ _ _
  refine zA ?_
  refine zI fun K hK=>?_
  simp (maxSteps:=2000000) (disch:=omega) [ints,rows,scal,zK,wr8]
  (repeat' apply And.intro)
  all_goals (try omega)
  refine zD (caps:=[]) (hq4) [] [] 2 rfl rfl rfl rfl (by kernel_rfl) (by simp) ?_ trivial trivial rfl trivial trivial (by simp) ?_
  ·simp [scal,rows,ints]
  simp (maxSteps:=2000000) (disch:=omega) [ints,rows,scal,zK,wr8]
  (repeat' apply And.intro)
  all_goals (try omega)
  refine zD (caps:=[]) (hq2) [] [] 2 (by simp [scal,rows,ints]) rfl rfl rfl (by kernel_rfl) (by simp) ?_ trivial trivial rfl trivial trivial (by simp) ?_
  ·simp [scal,rows,ints]
  simp (maxSteps:=2000000) (disch:=omega) [ints,rows,scal,zK,wr8]
  (repeat' apply And.intro)
  all_goals (try omega)
  refine zD (caps:=[]) (hqa) [] [] 2 (by simp [scal,rows,ints,zE]) rfl rfl rfl (by kernel_rfl) (by simp) ?_ trivial trivial rfl trivial trivial (by simp) ?_
  ·simp [scal,rows,ints,zE]
  simp (maxSteps:=2000000) (disch:=omega) [ints,rows,scal,zK,wr8]
  (repeat' apply And.intro)
  all_goals (try omega)
  refine zD (caps:=[]) (hqp) [] [] 2 (by simp [scal,rows,ints,zE]) rfl rfl rfl (by kernel_rfl) (by simp) ?_ trivial trivial rfl trivial trivial (by simp) ?_
  ·simp [scal,rows,ints,zE]
  simp (maxSteps:=2000000) (disch:=omega) [ints,rows,scal,zK,wr8]
  (repeat' first | apply hK | apply And.intro) <;> try first | omega | rfl | (simp <;> omega)
  refine cS0 ?_
  refine rg0 ?_
  exact zC (rt1 @syV.eq_1)
theorem zGv {L m : Nat} {bs : List Bool} {nx els : List (List Int)} {pre last : List Int} {wds : List (List Nat)} {right : List (List Int)} {r0 : List Int} (h : SyX L m nx els pre last wds right r0) (hM : MnD L m bs nx) (hL : 1 <= L) (hL2 : L <= 6) : FnA Tryz.prog 39 [zNy 0 L bs els wds right r0] (.t 2 (.int .i64 0)):=by
 have hg : ∀ g ∈ tab L (lets m nx),TrN m g:=(hM.df.gn hL hL2 h.m32).tr
 have hN:=h.el
 have hS:=h.sh hL hL2 (els.map (zHU bs)) (by simp) (psB els.length (right.any fun r=>decide ((0 : Int) ∈ r))) (by simp [psB])
 obtain ⟨res,hO,hof⟩:=zPZ (h.df (bs:=bs)) hL hL2 (by omega) (fun m' bs' nx' hX=>by rw [(h.mix hM hL hg hX).1]; exact h.m32)
 rw [h.of hM hL hg hO,zK4] at hof
 rw [zK4]
 refine zFu hS ?_
 rw [h.next hM.df hg]
 exact hof
def lstT (m : Nat) : Nat -> List (List Int)
 | 0=>[[]]
 | k + 1=>(List.range m).flatMap fun (v : Nat)=>(lstT m k).map fun l=>(v : Int) :: l
theorem zI2 (m : Nat) : ∀ k,(lstT m k).length = m ^ k
 | 0=>rfl
 | k + 1=>by
  have : ∀ n,((List.range n).flatMap fun (v : Nat)=>(lstT m k).map fun l=>(v : Int) :: l).length = n * m ^ k:=fun n=>by
   induction n with
   | zero=>simp
   | succ n ih =>
    rw [List.range_succ,List.flatMap_append,List.length_append,ih]
    simp only [List.flatMap_cons,List.flatMap_nil,List.append_nil,List.length_map,zI2 m k]
    rw [Nat.succ_mul]
  show ((List.range m).flatMap fun (v : Nat)=>(lstT m k).map fun l=>(v : Int) :: l).length = m ^ (k + 1)
  rw [this m,Nat.pow_succ,Nat.mul_comm]
theorem zJP (m : Nat) : ∀ (k : Nat) (l : List Int),l.length = k -> (∀ v ∈ l,0 <= v /\ v < (m : Int)) -> l ∈ lstT m k
 | 0,l,h,_=>by rw [List.length_eq_zero_iff.1 h]; simp [lstT]
 | k + 1,[],h,_=>by simp at h
 | k + 1,v :: l,h,hv=>by
  obtain ⟨h1,h2⟩:=hv v (by simp)
  have ih:=zJP m k l (by simpa using h) (fun u hu=>hv u (by simp [hu]))
  simp only [lstT,List.mem_flatMap,List.mem_range,List.mem_map]
  exact ⟨v.toNat,by omega,l,ih,by congr 1; omega⟩
section
variable {L m : Nat} {bs : List Bool} {nx : List (List Int)}
theorem zPc (hg : ∀ g ∈ tab L (lets m nx),TrN m g) (w : List Nat) : (∀ a ∈ w,a < L) -> TrN m (act m (tab L (lets m nx)) w):=by
 refine zIA (P:=fun w=>(∀ a ∈ w,a < L) -> TrN m (act m (tab L (lets m nx)) w)) ?_ ?_ w
 ·intro _; exact zEm m
 ·intro w x ih hw
  have hx : x < L:=hw x (by simp)
  rw [zCL,List.getD_eq_getElem?_getD,zP _ hx]
  exact (ih fun a ha=>hw a (by simp [ha])).comp (hg _ (List.mem_of_getElem? (zP _ hx)))
theorem zSv {K : List (List Int)} (hK : K.length <= 400) (h : ∀ w : List Nat,(∀ a ∈ w,a < L) -> act m (tab L (lets m nx)) w ∈ K) : ¬ SyF L m nx:=by
 rintro (⟨l,h1,h2,h3⟩ | ⟨els,pre,last,wds,right,hP,hl⟩)
 ·have:=zC2 h1 (k:=K) (fun e he=>by
   obtain ⟨w,w1,rfl⟩:=h3 e he
   exact h w (fun a ha=>by have:=w1 a ha; rwa [zu] at this))
  omega
 ·have:=zC2 hP.en.nodup (k:=K) (fun e he=>by
   obtain ⟨i,hi,rfl⟩:=List.getElem_of_mem he
   obtain ⟨g1,g2,g3,g4⟩:=hP.wl' hi
   rw [g2]
   exact h _ (fun a ha=>by have:=g4 a ha; rwa [zu] at this))
  omega
theorem zSw (hg : ∀ g ∈ tab L (lets m nx),TrN m g) (hm : m <= 4) : ¬ SyF L m nx:=by
 refine zSv (K:=lstT m m) ?_ (fun w hw=>?_)
 ·rw [zI2]
  rcases (by omega : m = 0 \/ m = 1 \/ m = 2 \/ m = 3 \/ m = 4) with rfl | rfl | rfl | rfl | rfl <;> decide
 ·obtain ⟨h1,h2⟩:=zPc hg w hw
  exact zJP m m _ h1 h2
def zUI (L m : Nat) (nx : List (List Int)) : Prop:=∀ q a b,q < m -> a < L -> b < L -> zZ nx q [a,b] = zZ nx 0 [a,b]
def zTB (L : Nat) : List (List Nat):=[[]] ++ ((List.range L).map fun a=>[a]) ++ (List.range L).flatMap fun a=>(List.range L).map fun b=>[a,b]
theorem zN0 (hL : L <= 2) : (zTB L).length <= 7:=by
 rcases (by omega : L = 0 \/ L = 1 \/ L = 2) with rfl | rfl | rfl <;> decide
theorem zTh (hD : DfL L m 0 bs nx) (hc : zUI L m nx) (w : List Nat) (hw : ∀ a ∈ w,a < L) : ∃ u ∈ zTB L,act m (tab L (lets m nx)) w = act m (tab L (lets m nx)) u:=by
 by_cases h0 : w.length <= 2
 ·refine ⟨w,?_,rfl⟩
  match w,h0,hw with
  | [],_,_=>simp [zTB]
  | [a],_,hw=>exact List.mem_append_left _ (List.mem_append_right _ (List.mem_map.2 ⟨a,List.mem_range.2 (hw a (by simp)),rfl⟩))
  | [a,b],_,hw=>exact List.mem_append_right _ (List.mem_flatMap.2 ⟨a,List.mem_range.2 (hw a (by simp)),List.mem_map.2 ⟨b,List.mem_range.2 (hw b (by simp)),rfl⟩⟩)
  | _ :: _ :: _ :: _,h,_=>simp at h
 ·obtain ⟨v,a,b,rfl⟩ : ∃ v a b,w = v ++ [a,b]:=by
   refine ⟨w.take (w.length - 2),w[w.length - 2],w[w.length - 1],?_⟩
   refine List.ext_getElem (by simp; omega) fun i h1 h2=>?_
   rw [List.getElem_append]
   split
   ·rw [List.getElem_take]
   ·rename_i c
    simp at c
    rcases (by omega : i = w.length - 2 \/ i = w.length - 1) with rfl | rfl
    ·simp [show min (w.length - 2) w.length = w.length - 2 by omega]
    ·simp [show min (w.length - 2) w.length = w.length - 2 by omega,show w.length - 1 - (w.length - 2) = 1 by omega]
  have ha:=hw a (by simp)
  have hb:=hw b (by simp)
  refine ⟨[a,b],List.mem_append_right _ (List.mem_flatMap.2 ⟨a,List.mem_range.2 ha,List.mem_map.2 ⟨b,List.mem_range.2 hb,rfl⟩⟩),?_⟩
  have hab : ∀ x ∈ [a,b],x < L:=fun x hx=>by simp at hx; rcases hx with rfl | rfl <;> assumption
  have hv : ∀ x ∈ v,x < L:=fun x hx=>hw x (by simp [hx])
  have len : ∀ w : List Nat,(∀ x ∈ w,x < L) -> (act m (tab L (lets m nx)) w).length = m:=fun w hw=>(zPc (fun g hg=>by
   simp only [tab,List.mem_map,List.mem_range] at hg
   obtain ⟨x,hx,rfl⟩:=hg
   refine ⟨by simp,fun u hu=>?_⟩
   simp only [lets,tab,List.mem_map,List.mem_range] at hu
   obtain ⟨q,hq,rfl⟩:=hu
   have:=(hD.rt.step hq hx).1
   omega) w hw).1
  refine List.ext_getElem? fun q=>?_
  by_cases hq : q < m
  ·rw [zBq hD _ hw q hq,zBq hD _ hab q hq]
   congr 2
   have e : zZ nx q (v ++ [a,b]) = zZ nx (zZ nx q v) [a,b]:=by simp [zZ]
   rw [e,hc _ a b (hD.rt.walk hv hq) ha hb,← hc q a b hq ha hb]
  ·rw [List.getElem?_eq_none (by rw [len _ hw]; omega),List.getElem?_eq_none (by rw [len _ hab]; omega)]
theorem zR2 (hD : DfL L m 0 bs nx) (hc : zUI L m nx) (hL : L <= 2) : ¬ SyF L m nx:=by
 refine zSv (K:=(zTB L).map (act m (tab L (lets m nx)))) ?_ (fun w hw=>?_)
 ·have:=zN0 hL
  simp; omega
 ·obtain ⟨u,hu,e⟩:=zTh hD hc w hw
  rw [e]
  exact List.mem_map.2 ⟨u,hu,rfl⟩
end
def zJO (k : Nat) (w : List Nat) : List Nat:=w.drop (w.length - k)
def zEJ (ws : List (List Nat)) (w : List Nat) (t : Nat) : Prop:=ws[t]? = some w /\ ∀ i,t < i -> ws[i]? ≠ some w
theorem zEJ.eq {ws : List (List Nat)} {w : List Nat} {t u : Nat} (h : zEJ ws w t) (g : zEJ ws w u) : t = u:=by
 rcases Nat.lt_trichotomy t u with c | c | c
 ·exact absurd g.1 (h.2 u c)
 ·exact c
 ·exact absurd h.1 (g.2 t c)
theorem zBj (k : Nat) (w : List Nat) (x : Nat) : zJO (k + 1) (w ++ [x]) = zJO k w ++ [x]:=by
 unfold zJO
 rw [List.length_append,List.length_singleton,show w.length + 1 - (k + 1) = w.length - k by omega,List.drop_append_of_le_length (by omega)]
theorem zEV (w : List Nat) : zJO 0 w = []:=by simp [zJO]
def SuR (most : Nat) (ws : List (List Nat)) (w : List Nat) (r : List Int) : Prop:=∀ (x : Nat) v,r[x]? = some v -> ∃ t : Nat,v = (t : Int) /\ zEJ ws (zJO most (w ++ [x])) t
theorem zSl {most j : Nat} {v W : List Nat} (h : v = W.drop j) (hj : j = 0 \/ most < W.length - (j - 1)) (hl : v.length <= most) : v = zJO most W:=by
 subst h
 rw [List.length_drop] at hl
 unfold zJO
 by_cases c : W.length <= j
 ·rw [List.drop_of_length_le c,List.drop_of_length_le]
  rcases hj with rfl | hj <;> omega
 ·congr 1
  rcases hj with rfl | hj <;> omega
theorem zMN {a b : List Nat} (ha : ∀ x ∈ a,x <= 20) (hb : ∀ x ∈ b,x <= 20) (h : (zBP a).toList = (zBP b).toList) : a = b:=by
 rw [ByteArray.toList_eq,ByteArray.toList_eq] at h
 simp only [zBP] at h
 induction a generalizing b with
 | nil=>cases b with
  | nil=>rfl
  | cons y b=>simp at h
 | cons x a ih =>
  cases b with
  | nil=>simp at h
  | cons y b =>
   simp only [List.map_cons,List.cons.injEq] at h
   have hx:=ha x (by simp)
   have hy:=hb y (by simp)
   have h5:=congrArg UInt8.toNat h.1
   simp only [UInt8.toNat_ofNat'] at h5
   rw [ih (fun z hz=>ha z (by simp [hz])) (fun z hz=>hb z (by simp [hz])) h.2]
   congr 1
   omega
def DeG (L : Nat) (xs : List Int) (res : AV) (H' : List AObj) : Prop:=∃ n s b bs nxt,n <= 9 /\ b <= xs.length /\ DfL L n s bs nxt /\ (∀ p q a b,p < n -> q < n -> a < L -> b < L -> zZ nxt p [a,b] = zZ nxt q [a,b]) /\ res = dfT 2 L s bs nxt /\ H' = [tpO 1 xs b]
theorem zRH {L most : Nat} {ws : List (List Nat)} {nxt : List (List Int)} (hW : WsG L most ws) (hm : most = 1 \/ most = 2) (hl : nxt.length = ws.length) (hr : ∀ r ∈ nxt,r.length = L) (h : ∀ (j : Nat) r,nxt[j]? = some r -> SuR most ws (ws.getD j []) r) : ∀ p q a b,p < ws.length -> q < ws.length -> a < L -> b < L -> zZ nxt p [a,b] = zZ nxt q [a,b]:=by
 have st : ∀ p a,p < ws.length -> a < L -> zEJ ws (zJO most (ws.getD p [] ++ [a])) (zJ nxt p a):=fun p a hp ha=>by
  have hpn : p < nxt.length:=by omega
  have hal : a < nxt[p].length:=by rw [hr _ (by simp)]; exact ha
  obtain ⟨t,h1,h2⟩:=h p nxt[p] (List.getElem?_eq_getElem hpn) a nxt[p][a] (List.getElem?_eq_getElem hal)
  have e : zJ nxt p a = t:=by
   unfold zJ
   rw [List.getD_eq_getElem?_getD (l:=nxt),List.getElem?_eq_getElem hpn,Option.getD_some,List.getD_eq_getElem?_getD,List.getElem?_eq_getElem hal,Option.getD_some,h1,Int.toNat_natCast]
  rw [e]; exact h2
 have key : ∀ p a b,p < ws.length -> a < L -> b < L -> zEJ ws (zJO most ([a] ++ [b])) (zZ nxt p [a,b]):=fun p a b hp ha hb=>by
  have h1:=st p a hp ha
  have hs:=(List.getElem?_eq_some_iff.1 h1.1).1
  have h2:=st _ b hs hb
  rw [List.getD_eq_getElem?_getD,h1.1,Option.getD_some] at h2
  have e : zJO most (zJO most (ws.getD p [] ++ [a]) ++ [b]) = zJO most ([a] ++ [b]):=by
   rcases hm with rfl | rfl
   ·rw [zBj,zEV]
    rfl
   ·rw [zBj,zBj 1 (ws.getD p []),zBj,zEV,zBj,show ([a] : List Nat) = [] ++ [a] from rfl,zBj,zEV]
    simp
  rw [e] at h2
  exact h2
 exact fun p q a b hp hq ha hb=>(key p a b hp ha hb).eq (key q a b hq ha hb)
theorem zHD (xs : List Int) (a L : Nat) (ha : a <= xs.length) (hl : xs.length <= 80) (hL : L = 1 \/ L = 2) : ∃ res H',DeG L xs res H' ∧
  FnS Tryz.prog 16 [.ptr 0 0 2,.t 2 (.int .i64 L)] [tpO 1 xs a] res H':=by
 obtain ⟨v1,a1,hv1,ha1,hN1⟩:=zA9 xs a 2 ha hl (by omega)
 have hv1:=hv1 (by omega)
 obtain ⟨most,hmo⟩ : ∃ m,m = 1 + v1:=⟨_,rfl⟩
 have hm : most = 1 \/ most = 2:=by omega
 have hmm : (1 : Int) + v1 = most:=by omega
 obtain ⟨res,⟨ws,hW,rfl⟩,hN2⟩:=zOE L most hL hm
 have hwl:=hW.len
 have hwp:=hW.pos
 refine zAb Tryz.func16 rfl (by simp [Tryz.f16]) ?_
 rw [show Tryz.f16.ntmps = 76 from rfl,show Tryz.f16.results = #[.cell 4 28] from rfl]
 refine rg0 ?_
 refine rg0 ?_
 refine zI fun K hK=>?_
 simp (maxSteps:=2000000) (disch:=omega) [ints,rows,scal,zK,wr8]
 (repeat' apply And.intro)
 all_goals (try omega)
 refine zD (caps:=[]) (hN1) [0] [0] 1 rfl rfl rfl rfl (by kernel_rfl) (by simp) ?_ ?_ (by simp) rfl (by simp) ⟨.inr ⟨rfl,0,_,_,_,_,_,rfl,rfl,rfl,rfl,rfl⟩,trivial⟩ (by simp [tpO]) ?_
 ·simp [scal,rows,ints,tpO]
 ·simp [scal,rows,ints,tpO]
 simp (maxSteps:=2000000) (disch:=omega) [ints,rows,scal,zK,wr8,hmm]
 (repeat' apply And.intro)
 all_goals (try omega)
 refine zD (caps:=[]) (hN2) [] [] 2 rfl rfl rfl rfl (by kernel_rfl) (by simp) ?_ trivial trivial rfl trivial trivial (by simp) ?_
 ·simp [scal,rows,ints,tpO]
 simp (maxSteps:=2000000) (disch:=omega) [ints,rows,scal,zK,wr8]
 and_intros <;> try first | apply hK | omega | rfl | simp <;> omega
 refine zA ?_
 refine rg1 @wsT.eq_1 ?_
 refine zB ?_
 refine awp_loop (fun y : Nat × Nat × List Bool × List (List Int)=>mkS [(0,.ptr 0 0 2),(1,.t 2 (.int .i64 L)),(4,.ptr 1 0 4),(5,.ptr 2 0 4),(6,.t 2 (.sl 1 (wsT ws))),(22,.t 2 (.sl 1 (wsT ws))),(23,.t 2 (.int .i64 ws.length)),(24,.t 2 (.int .i64 y.1))]
   [(0,tpO 1 xs y.2.1),(1,.box 28 [.any,.any,.any,.any]),(2,.box 28 [.t 2 (.int .i64 L),.t 2 (.int .i64 0),.own 3 y.1,.own 4 y.1]),(3,.row 4 1 2 (y.2.2.1.map .bool)),(4,.row 22 1 2 (y.2.2.2.map ints))] 5 76 [.ptr 0 0 2,.any])
  (fun y=>y.1 <= ws.length /\ y.2.1 <= xs.length /\ y.2.2.1.length = y.1 /\ y.2.2.2.length = y.1 /\ (∀ r ∈ y.2.2.2,r.length = L /\ ∀ v ∈ r,0 <= v /\ v < (ws.length : Int)) /\ ∀ (j : Nat) r,y.2.2.2[j]? = some r -> SuR most ws (ws.getD j []) r) (fun y=>ws.length - y.1) ?_ ?_
 ·refine ⟨(0,a1,[],[]),⟨by simp,ha1,rfl,rfl,fun r hr=>by simp at hr,fun j r hr=>by simp at hr⟩,?_⟩
  refine zQ [(0,some 0),(1,some 1),(2,some 3000001),(3,none),(4,none)] rfl ?_ ?_ ?_ ?_
  all_goals try simp [ints,tpO,scal,wsT]
 ·rintro ⟨q,a3,bs,nxt⟩ ⟨hq,ha3,hbl,hnl,hrow,hsu⟩
  simp only at hq ha3 hbl hnl hrow hsu
  refine rg0 ?_
  refine zA ?_
  by_cases hqn : q < ws.length
  ·have hwq:=hW.lt ws[q] (by simp)
   have hwql:=hW.ln ws[q] (by simp)
   refine cK1 @hqn ?_
   refine zA ?_
   refine zB ?_
   obtain ⟨v4,a4,hv4,ha4,hN4⟩:=zA9 xs a3 2 ha3 hl (by omega)
   refine rg1 (an @wsT.eq_1 @hqn) ?_
   refine zp (by kernel_rfl) (fun K hK=>?_)
   simp (maxSteps:=2000000) (disch:=omega) [ints,rows,scal,zK,wr8]
   (repeat' apply And.intro)
   all_goals (try omega)
   refine zS (caps:=[]) (hN4) [0] [0] 1 rfl rfl rfl rfl (by kernel_rfl) (by simp) ?_ ?_ (by simp) rfl (by simp) ⟨.inr ⟨rfl,0,_,_,_,_,_,rfl,rfl,rfl,rfl,rfl⟩,trivial⟩ (by simp [tpO]) ?_
   ·simp [scal,rows,ints,tpO]
   ·simp [scal,rows,ints,tpO]
   simp (maxSteps:=2000000) (disch:=omega) [ints,rows,scal,zK,wr8,tpO]
   (repeat' first | apply hK | apply And.intro) <;> try first | (show zA8 _ _ = true; kernel_rfl) | (show okH _ _ _ = true; kernel_rfl) | omega | rfl | (simp <;> omega)
   refine rg0 ?_
   refine zA ?_
   refine rg0 ?_
   refine zB ?_
   refine awp_loop (fun y : Nat × List Int=>mkS [(0,.ptr 0 0 2),(1,.t 2 (.int .i64 L)),(4,.ptr 1 0 4),(5,.ptr 2 0 4),(6,.t 2 (.sl 1 (wsT ws))),(8,.t 2 (.str (zBP ws[q]))),(9,.own 5 y.1),(10,.t 2 (.int .i64 y.1)),(22,.t 2 (.sl 1 (wsT ws))),(23,.t 2 (.int .i64 ws.length)),(24,.t 2 (.int .i64 q))]
     [(0,tpO 1 xs a4),(1,.box 28 [.any,.any,.any,.any]),(2,.box 28 [.t 2 (.int .i64 L),.t 2 (.int .i64 0),.own 3 (q + 1),.own 4 q]),(3,.row 4 1 2 ((bs ++ [(v4 : Int) == 1]).map .bool)),(4,.row 22 1 2 (nxt.map ints)),(5,.row 3 1 2 (y.2.map (.int .i64)))] 6 76 [.ptr 0 0 2,.any])
    (fun y=>y.1 <= L /\ y.2.length = y.1 /\ (∀ v ∈ y.2,0 <= v /\ v < (ws.length : Int)) /\ SuR most ws ws[q] y.2) (fun y=>L - y.1) ?_ ?_
   ·refine ⟨(0,[]),⟨by simp,rfl,fun v hv=>by simp at hv,fun x v hx=>by simp at hx⟩,?_⟩
    refine zQ [(0,some 0),(1,some 1),(2,some 2),(3,some 3),(4,some 4),(5,none)] rfl ?_ ?_ ?_ ?_
    all_goals try simp [ints,tpO,scal,wsT,hbl]
   ·rintro ⟨x,r⟩ ⟨hx,hrl,hrv,hrs⟩
    simp only at hx hrl hrv hrs
    refine zA ?_
    refine rg0 ?_
    by_cases hxl : x < L
    ·refine cK1 @hxl ?_
     refine zA ?_
     refine zB ?_
     refine zI fun K hK=>?_
     simp (maxSteps:=2000000) (disch:=omega) [ints,rows,scal,zK,wr8,isU8,zFh (show x <= 20 by omega),zBG]
     (repeat' first | apply hK | apply And.intro) <;> try first | omega | rfl | (simp <;> omega)
     refine rg0 ?_
     refine zA ?_
     refine zB ?_
     refine awp_loop (fun y : List Nat × Int=>mkS [(0,.ptr 0 0 2),(1,.t 2 (.int .i64 L)),(4,.ptr 1 0 4),(5,.ptr 2 0 4),(6,.t 2 (.sl 1 (wsT ws))),(8,.t 2 (.str (zBP ws[q]))),(9,.own 5 x),(10,.t 2 (.int .i64 x)),(11,.t 2 (.str (zBP y.1))),(12,.t 2 (.int .i64 y.2)),(22,.t 2 (.sl 1 (wsT ws))),(23,.t 2 (.int .i64 ws.length)),(24,.t 2 (.int .i64 q))]
       [(0,tpO 1 xs a4),(1,.box 28 [.any,.any,.any,.any]),(2,.box 28 [.t 2 (.int .i64 L),.t 2 (.int .i64 0),.own 3 (q + 1),.own 4 q]),(3,.row 4 1 2 ((bs ++ [(v4 : Int) == 1]).map .bool)),(4,.row 22 1 2 (nxt.map ints)),(5,.row 3 1 2 (r.map (.int .i64)))] 6 76 [.ptr 0 0 2,.any])
      (fun y=>(y.2 = -1 /\ 1 <= y.1.length /\ y.1.length <= most + 1 /\ (∀ z ∈ y.1,z < L) /\ ∃ j,y.1 = (ws[q] ++ [x]).drop j /\ (j = 0 \/ most < (ws[q] ++ [x]).length - (j - 1))) \/ (0 <= y.2 /\ y.2 < (ws.length : Int) /\ ∃ t : Nat,y.2 = (t : Int) /\ zEJ ws (zJO most (ws[q] ++ [x])) t)) (fun y=>y.1.length) ?_ ?_
     ·refine ⟨(ws[q] ++ [x],-1),.inl ⟨rfl,by simp,by simp; omega,fun z hz=>?_,0,rfl,.inl rfl⟩,?_⟩
      ·rcases List.mem_append.1 hz with hz | hz
       ·exact hwq z hz
       ·simp at hz; omega
      ·refine zQ [(0,some 0),(1,some 1),(2,some 2),(3,some 3),(4,some 4),(5,some 5)] rfl ?_ ?_ ?_ ?_
       all_goals try simp [ints,tpO,scal,wsT,hbl]
     ·rintro ⟨v,to⟩ hto
      simp only at hto
      refine zA ?_
      refine rg0 ?_
      rcases hto with ⟨rfl,hv1',hv2',hvx,jj,hjj,hjm⟩ | ⟨ht1,ht2,tt,ht3,ht4⟩
      ·refine cK0 ?_
       refine zB ?_
       refine zA ?_
       refine rg1 @wsT.eq_1 ?_
       refine zB ?_
       refine awp_loop (fun y : Nat × Int=>mkS [(0,.ptr 0 0 2),(1,.t 2 (.int .i64 L)),(4,.ptr 1 0 4),(5,.ptr 2 0 4),(6,.t 2 (.sl 1 (wsT ws))),(8,.t 2 (.str (zBP ws[q]))),(9,.own 5 x),(10,.t 2 (.int .i64 x)),(11,.t 2 (.str (zBP v))),(12,.t 2 (.int .i64 y.2)),(22,.t 2 (.sl 1 (wsT ws))),(23,.t 2 (.int .i64 ws.length)),(24,.t 2 (.int .i64 q)),(50,.t 2 (.sl 1 (wsT ws))),(51,.t 2 (.int .i64 ws.length)),(52,.t 2 (.int .i64 y.1))]
         [(0,tpO 1 xs a4),(1,.box 28 [.any,.any,.any,.any]),(2,.box 28 [.t 2 (.int .i64 L),.t 2 (.int .i64 0),.own 3 (q + 1),.own 4 q]),(3,.row 4 1 2 ((bs ++ [(v4 : Int) == 1]).map .bool)),(4,.row 22 1 2 (nxt.map ints)),(5,.row 3 1 2 (r.map (.int .i64)))] 6 76 [.ptr 0 0 2,.any])
        (fun y=>y.1 <= ws.length /\ ((y.2 = -1 /\ ∀ i (hi : i < ws.length),i < y.1 -> ws[i] ≠ v) \/ (0 <= y.2 /\ y.2 < (ws.length : Int) /\ ∃ t : Nat,y.2 = (t : Int) /\ ws[t]? = some v /\ ∀ i,t < i -> i < y.1 -> ws[i]? ≠ some v))) (fun y=>ws.length - y.1) ?_ ?_
       ·refine ⟨(0,-1),⟨by simp,.inl ⟨rfl,fun i _ h=>by simp at h⟩⟩,?_⟩
        refine zQ [(0,some 0),(1,some 1),(2,some 2),(3,some 3),(4,some 4),(5,some 5)] rfl ?_ ?_ ?_ ?_
        all_goals try simp [ints,tpO,scal,wsT,hbl]
       ·rintro ⟨k,to⟩ ⟨hk,hto⟩
        simp only at hk hto
        refine rg0 ?_
        refine zA ?_
        by_cases hkl : k < ws.length
        ·refine cK1 @hkl ?_
         refine zA ?_
         refine zB ?_
         refine rg1 (an @wsT.eq_1 @hkl) ?_
         by_cases he : (zBP ws[k]).toList = (zBP v).toList
         ·refine rg1 @he ?_
          refine cT0 ?_
          refine rr0 ?_
          show awp _ _ _ _
          refine rr0 ?_
          refine ⟨(k + 1,(k : Int)),⟨by omega,.inr ⟨by omega,by omega,k,rfl,by rw [List.getElem?_eq_getElem hkl,zMN (fun z hz=>by have:=hW.lt ws[k] (by simp) z hz; omega) (fun z hz=>by have:=hvx z hz; omega) he],fun i h1 h2=>by simp at h2; omega⟩⟩,by simp; omega,?_⟩
          refine zQ [(0,some 0),(1,some 1),(2,some 2),(3,some 3),(4,some 4),(5,some 5)] rfl ?_ ?_ ?_ ?_
          all_goals try simp [ints,tpO,scal,wsT]
         ·refine rg1 @he ?_
          refine cY1 @he ?_
          show awp _ _ _ _
          refine rr0 ?_
          refine ⟨(k + 1,to),⟨by omega,?_⟩,by simp; omega,?_⟩
          ·rcases hto with ⟨h1,h2⟩ | h1
           ·refine .inl ⟨h1,fun i hi hik=>?_⟩
            by_cases e : i = k
            ·subst e; intro h; exact he (by rw [h])
            ·exact h2 i hi (by simp at hik; omega)
           ·obtain ⟨g1,g2,g3,g4,g5,g6⟩:=h1
            refine .inr ⟨g1,g2,g3,g4,g5,fun i c1 c2=>?_⟩
            by_cases e : i = k
            ·subst e
             rw [List.getElem?_eq_getElem hkl]
             intro e2
             injection e2 with e2
             exact he (by rw [e2])
            ·exact g6 i c1 (by simp at c2; omega)
          ·refine zQ [(0,some 0),(1,some 1),(2,some 2),(3,some 3),(4,some 4),(5,some 5)] rfl ?_ ?_ ?_ ?_
           all_goals try simp [ints,tpO,scal,wsT]
        ·refine cF1 @hkl ?_
         refine zG ?_
         show awp _ _ _ _
         refine rr1 @zLk ?_
         refine ⟨(v.drop 1,to),?_,by simp; omega,?_⟩
         ·rcases hto with ⟨h1,h2⟩ | h1
          ·have hvm : most < v.length:=by
            refine Nat.lt_of_not_le fun hvl=>?_
            obtain ⟨i,hi,e⟩:=List.getElem_of_mem (hW.all v hvx hvl)
            exact h2 i hi (by omega) e
           have hvl2:=congrArg List.length hjj
           rw [List.length_drop] at hvl2
           refine .inl ⟨h1,by simp; omega,by simp; omega,fun z hz=>hvx z (List.mem_of_mem_drop hz),jj + 1,?_,.inr (by simp only [Nat.add_sub_cancel]; omega)⟩
           show v.drop 1 = _
           rw [hjj,List.drop_drop]
          ·obtain ⟨g1,g2,g3,g4,g5,g6⟩:=h1
           refine .inr ⟨g1,g2,g3,g4,?_⟩
           rw [← zSl hjj hjm (hW.ln v (List.mem_of_getElem? g5))]
           refine ⟨g5,fun i hi=>?_⟩
           by_cases hil : i < ws.length
           ·exact g6 i hi (by omega)
           ·rw [List.getElem?_eq_none (by omega)]; simp
         ·refine zQ [(0,some 0),(1,some 1),(2,some 2),(3,some 3),(4,some 4),(5,some 5)] rfl ?_ ?_ ?_ ?_
          all_goals try simp [ints,tpO,scal,wsT]
      ·refine cF0 ?_
       refine zG ?_
       show awp _ _ _ _
       refine rr0 ?_
       show awp _ _ _ _
       refine rr0 ?_
       refine ⟨(x + 1,r ++ [to]),⟨by omega,by simp [hrl],fun u hu=>?_,fun y v hy=>?_⟩,by simp; omega,?_⟩
       ·rcases List.mem_append.1 hu with hu | hu
        ·exact hrv u hu
        ·simp at hu; omega
       ·by_cases c : y < r.length
        ·rw [List.getElem?_append_left c] at hy
         exact hrs y v hy
        ·have:=(List.getElem?_eq_some_iff.1 hy).1
         simp at this
         obtain rfl : y = r.length:=by omega
         simp at hy
         subst hy
         rw [hrl]
         exact ⟨tt,ht3,ht4⟩
       ·refine zQ [(0,some 0),(1,some 1),(2,some 2),(3,some 3),(4,some 4),(5,some 5)] rfl ?_ ?_ ?_ ?_
        all_goals try simp [ints,tpO,scal,wsT,hrl]
    ·have hxe : x = L:=by omega
     refine cF1 @hxl ?_
     refine zG ?_
     show awp _ _ _ _
     refine rr0 ?_
     show awp _ _ _ _
     refine rr0 ?_
     refine ⟨(q + 1,a4,bs ++ [(v4 : Int) == 1],nxt ++ [r]),⟨by simp; omega,ha4,by simp [hbl],by simp [hnl],fun u hu=>?_,fun j u hj=>?_⟩,by simp; omega,?_⟩
     ·rcases List.mem_append.1 hu with hu | hu
      ·exact hrow u hu
      ·simp at hu
       subst hu
       exact ⟨by omega,hrv⟩
     ·by_cases c : j < nxt.length
      ·rw [List.getElem?_append_left c] at hj
       exact hsu j u hj
      ·have:=(List.getElem?_eq_some_iff.1 hj).1
       simp at this
       obtain rfl : j = nxt.length:=by omega
       simp at hj
       subst hj
       rw [hnl,List.getD_eq_getElem?_getD,List.getElem?_eq_getElem hqn]
       exact hrs
     ·refine zQ [(0,some 0),(1,some 1),(2,some 2),(3,some 3),(4,some 4)] rfl ?_ ?_ ?_ ?_
      all_goals try simp [ints,tpO,scal,wsT,hbl,hnl]
  ·have hqe : q = ws.length:=by omega
   refine cF1 @hqn ?_
   refine zG ?_
   show awp _ _ _ _
   refine rg0 ?_
   refine zC ?_
   subst hqe
   refine ⟨⟨_,_,⟨ws.length,0,a3,bs,nxt,hwl,ha3,⟨hwp,by omega,hbl,hnl,hrow⟩,zRH hW hm hnl (fun r hr=>(hrow r hr).1) hsu,rfl,rfl⟩,zBN ?_⟩,by simp⟩
   refine ⟨.inr rfl,_,[(0,some 0)],(by first | (simp; rfl) | rfl),?_,?_,?_,?_⟩
   all_goals try simp +contextual (disch:=omega) [zL,zM,zV,zW,zw,List.getElem?_cons_succ,Option.getD_some,callF,ints,scal,tpO,zF,zH,zz,wk1,rows,zE,dfT,hbl,hnl]
def zSd (L n : Nat) (nxt : List (List Int)) : Prop:=n <= 4 \/ ∀ p q a b,p < n -> q < n -> a < L -> b < L -> zZ nxt p [a,b] = zZ nxt q [a,b]
def AnG (L : Nat) (xs : List Int) (res : AV) (H' : List AObj) : Prop:=∃ n s b bs nxt,n <= 9 /\ b <= xs.length /\ DfL L n s bs nxt /\ zSd L n nxt /\ res = dfT 2 L s bs nxt /\ H' = [tpO 1 xs b]
theorem zGL {L m : Nat} {nx : List (List Int)} (hL : 0 < L) (hc : Can L m nx) : ∀ t,t < m -> ∃ u : List Nat,(∀ a ∈ u,a < L) /\ zZ nx 0 u = t:=by
 intro t
 induction t using Nat.strongRecOn with
 | _ t ih =>
  intro ht
  by_cases h0 : t = 0
  ·subst h0
   exact ⟨[],by simp,rfl⟩
  ·obtain ⟨k,k1,k2,-⟩:=hc t (by omega) ht
   obtain ⟨u,u1,u2⟩:=ih (k / L) k1 (by omega)
   refine ⟨u ++ [k % L],fun a ha=>?_,?_⟩
   ·rcases List.mem_append.1 ha with ha | ha
    ·exact u1 a ha
    ·simp only [List.mem_singleton] at ha
     subst ha
     exact Nat.mod_lt _ hL
   ·simp only [zZ,List.foldl_append,List.foldl_cons,List.foldl_nil] at u2 ⊢
    rw [u2,k2]
theorem zAQ {bs : List Bool} {nx : List (List Int)} (s : Nat) (u v : List Nat) : zAf bs nx s (u ++ v) = zAf bs nx (zZ nx s u) v:=by
 simp [zAf,zZ]
theorem MiX.con {L n s m : Nat} {bs bs' : List Bool} {nxt nx' : List (List Int)} (hL : 1 <= L) (hD : DfL L n s bs nxt) (hX : MiX L n s bs nxt m bs' nx') (hc : ∀ p q a b,p < n -> q < n -> a < L -> b < L -> zZ nxt p [a,b] = zZ nxt q [a,b]) : zUI L m nx':=by
 intro q a b hq ha hb
 have hM:=hX.mn
 have hm0 : 0 < m:=hM.df.n1
 have hab : ∀ x ∈ [a,b],x < L:=fun x hx=>by simp at hx; rcases hx with rfl | rfl <;> assumption
 obtain ⟨u,u1,u2⟩:=zGL hL hM.can q hq
 refine hM.dis _ _ (hM.df.rt.walk hab hq) (hM.df.rt.walk hab hm0) fun w hw=>?_
 have h1 : ∀ x ∈ u ++ ([a,b] ++ w),x < L:=fun x hx=>by
  rcases List.mem_append.1 hx with hx | hx
  ·exact u1 x hx
  ·rcases List.mem_append.1 hx with hx | hx
   ·exact hab x hx
   ·exact hw x hx
 have h2 : ∀ x ∈ [a,b] ++ w,x < L:=fun x hx=>h1 x (List.mem_append_right _ hx)
 have e1 : zAf bs' nx' (zZ nx' q [a,b]) w = zAf bs' nx' 0 (u ++ ([a,b] ++ w)):=by rw [zAQ,u2,zAQ]
 have e2 : zAf bs' nx' (zZ nx' 0 [a,b]) w = zAf bs' nx' 0 ([a,b] ++ w):=by rw [zAQ]
 rw [e1,e2,hX.zKN _ h1,hX.zKN _ h2,zAQ,zAQ,zAQ,hc _ s a b (hD.rt.walk u1 hD.st) hD.st ha hb]
theorem zSd.noF {L n s m : Nat} {bs bs' : List Bool} {nxt nx' : List (List Int)} (hL : L = 1 \/ L = 2) (hD : DfL L n s bs nxt) (hX : MiX L n s bs nxt m bs' nx') (hn : n <= 9) (hc : zSd L n nxt) : ¬ SyF L m nx':=by
 have hmn:=hX.le
 rcases hc with hc | hc
 ·exact zSw (hX.mn.df.gn (by omega) (by omega) (by omega)).tr (by omega)
 ·exact zR2 hX.mn.df (hX.con (by omega) hD hc) (by omega)
theorem zPv {L n s : Nat} {bs : List Bool} {nxt : List (List Int)} (hL : L = 1 \/ L = 2) (h : DfL L n s bs nxt) (hn : n <= 9) (hc : zSd L n nxt) : ∃ m bs' nx' els pre last wds right r0,MiX L n s bs nxt m bs' nx' /\ SyX L m nx' els pre last wds right r0 /\ FnA Tryz.prog 7 [dfT 0 L s bs nxt] (.tup [zNy 1 L bs' els wds right r0,.t 2 (.int .i64 0)]):=by
 obtain ⟨res,⟨m,bs',nx',hX,hr⟩,hof⟩:=zPZ h (by omega) (by omega) (by omega) (fun m bs' nx' hX=>by have:=hX.le; omega)
 rcases hr with ⟨-,hF⟩ | ⟨els,pre,last,wds,right,r0,hS,rfl⟩
 ·exact absurd hF (hc.noF hL h hX hn)
 ·exact ⟨m,bs',nx',els,pre,last,wds,right,r0,hX,hS,hof⟩
theorem zQH (xs : List Int) (a L most : Nat) (ha : a <= xs.length) (hl : xs.length <= 80) (hL : L = 1 \/ L = 2) (hm : 1 <= most) (hm4 : most <= 4) : ∃ res H',AnG L xs res H' ∧
  FnS Tryz.prog 5 [.ptr 0 0 2,.t 2 (.int .i64 L),.t 2 (.int .i64 most)] [tpO 1 xs a] res H':=by
 obtain ⟨v,a1,hv,ha1,hN⟩:=zA9 xs a 6 ha hl (by omega)
 have hv:=hv (by omega)
 refine zAb Tryz.func5 rfl (by simp [Tryz.f5]) ?_
 rw [show Tryz.f5.ntmps = 31 from rfl,show Tryz.f5.results = #[.cell 6 28] from rfl]
 refine rg0 ?_
 refine zA ?_
 refine zI fun K hK=>?_
 simp (maxSteps:=2000000) (disch:=omega) [ints,rows,scal,zK,wr8]
 (repeat' apply And.intro)
 all_goals (try omega)
 refine zD (caps:=[]) (hN) [0] [0] 1 rfl rfl rfl rfl (by kernel_rfl) (by simp) ?_ ?_ (by simp) rfl (by simp) ⟨.inr ⟨rfl,0,_,_,_,_,_,rfl,rfl,rfl,rfl,rfl⟩,trivial⟩ (by simp [tpO]) ?_
 ·simp [scal,rows,ints,tpO]
 ·simp [scal,rows,ints,tpO]
 simp (maxSteps:=2000000) (disch:=omega) [ints,rows,scal,zK,wr8]
 and_intros <;> try first | apply hK | omega | rfl | simp <;> omega
 refine zB ?_
 by_cases h1 : (v : Int) = 1
 ·obtain ⟨res,H',⟨n,s,b,bs,nxt,hn,hb,hD,rfl,rfl⟩,hO⟩:=zJ5 xs a1 L most ha1 hl (by omega) (by omega) hm (by omega)
  refine rg1 @h1 ?_
  refine cT0 ?_
  refine zI fun K hK=>?_
  simp (maxSteps:=2000000) (disch:=omega) [ints,rows,scal,zK,wr8]
  (repeat' apply And.intro)
  all_goals (try omega)
  refine zD (caps:=[]) (hO) [0] [0] 1 rfl rfl rfl rfl (by kernel_rfl) (by simp) ?_ ?_ (by simp) rfl (by simp) ⟨.inr ⟨rfl,0,_,_,_,_,_,rfl,rfl,rfl,rfl,rfl⟩,trivial⟩ (by simp [tpO]) ?_
  ·simp [scal,rows,ints,tpO,dfT]
  ·simp [scal,rows,ints,tpO,dfT]
  simp (maxSteps:=2000000) (disch:=omega) [ints,rows,scal,zK,wr8,dfT,zE,tpO]
  and_intros <;> try first | apply hK | omega | rfl | simp <;> omega
  refine zC ?_
  refine ⟨⟨_,_,⟨n,s,b,bs,nxt,by omega,hb,hD,.inl (by omega),rfl,rfl⟩,zBN ?_⟩,by simp⟩
  refine ⟨.inr rfl,_,[(0,some 0)],(by first | (simp; rfl) | rfl),?_,?_,?_,?_⟩
  all_goals try simp +contextual (disch:=omega) [zL,zM,zV,zW,zw,List.getElem?_cons_succ,Option.getD_some,callF,ints,scal,tpO,zF,zH,zz,wk1,rows,zE,dfT]
 by_cases h2 : (v : Int) = 2
 ·obtain ⟨m4,hm4⟩ : ∃ m4 : Nat,(m4 : Int) = if (4 : Int) < most then 4 else (most : Int):=⟨if 4 < most then 4 else most,by split <;> split <;> omega⟩
  have hm5 : 1 <= m4 /\ m4 <= 100 /\ m4 <= 4:=by split at hm4 <;> omega
  obtain ⟨res,H',⟨n,s,b,bs,nxt,hn,hb,hD,rfl,rfl⟩,hO⟩:=zEG xs a1 L m4 ha1 hl (by omega) (by omega) hm5.1 hm5.2.1
  refine rg1 @h1 ?_
  refine cF0 ?_
  refine rg1 @h2 ?_
  refine cT0 ?_
  refine zI fun K hK=>?_
  simp (maxSteps:=2000000) (disch:=omega) [ints,rows,scal,zK,wr8,← hm4]
  (repeat' apply And.intro)
  all_goals (try omega)
  refine zD (caps:=[]) (hO) [0] [0] 1 rfl rfl rfl rfl (by kernel_rfl) (by simp) ?_ ?_ (by simp) rfl (by simp) ⟨.inr ⟨rfl,0,_,_,_,_,_,rfl,rfl,rfl,rfl,rfl⟩,trivial⟩ (by simp [tpO]) ?_
  ·simp [scal,rows,ints,tpO,dfT]
  ·simp [scal,rows,ints,tpO,dfT]
  simp (maxSteps:=2000000) (disch:=omega) [ints,rows,scal,zK,wr8,dfT,zE,tpO]
  and_intros <;> try first | apply hK | omega | rfl | simp <;> omega
  refine zC ?_
  refine ⟨⟨_,_,⟨n,s,b,bs,nxt,by omega,hb,hD,.inl (by omega),rfl,rfl⟩,zBN ?_⟩,by simp⟩
  refine ⟨.inr rfl,_,[(0,some 0)],(by first | (simp; rfl) | rfl),?_,?_,?_,?_⟩
  all_goals try simp +contextual (disch:=omega) [zL,zM,zV,zW,zw,List.getElem?_cons_succ,Option.getD_some,callF,ints,scal,tpO,zF,zH,zz,wk1,rows,zE,dfT]
 by_cases h3 : (v : Int) = 3
 ·obtain ⟨res,H',⟨n,s,b,bs,nxt,hn,hb,hD,hcon,rfl,rfl⟩,hO⟩:=zHD xs a1 L ha1 hl hL
  refine rg1 @h1 ?_
  refine cF0 ?_
  refine rg1 @h2 ?_
  refine cF0 ?_
  refine rg1 @h3 ?_
  refine cT0 ?_
  refine zI fun K hK=>?_
  simp (maxSteps:=2000000) (disch:=omega) [ints,rows,scal,zK,wr8]
  (repeat' apply And.intro)
  all_goals (try omega)
  refine zD (caps:=[]) (hO) [0] [0] 1 rfl rfl rfl rfl (by kernel_rfl) (by simp) ?_ ?_ (by simp) rfl (by simp) ⟨.inr ⟨rfl,0,_,_,_,_,_,rfl,rfl,rfl,rfl,rfl⟩,trivial⟩ (by simp [tpO]) ?_
  ·simp [scal,rows,ints,tpO,dfT]
  ·simp [scal,rows,ints,tpO,dfT]
  simp (maxSteps:=2000000) (disch:=omega) [ints,rows,scal,zK,wr8,dfT,zE,tpO]
  and_intros <;> try first | apply hK | omega | rfl | simp <;> omega
  refine zC ?_
  refine ⟨⟨_,_,⟨n,s,b,bs,nxt,by omega,hb,hD,.inr hcon,rfl,rfl⟩,zBN ?_⟩,by simp⟩
  refine ⟨.inr rfl,_,[(0,some 0)],(by first | (simp; rfl) | rfl),?_,?_,?_,?_⟩
  all_goals try simp +contextual (disch:=omega) [zL,zM,zV,zW,zw,List.getElem?_cons_succ,Option.getD_some,callF,ints,scal,tpO,zF,zH,zz,wk1,rows,zE,dfT]
 ·obtain ⟨res,H',⟨n,s,b,bs,nx,hnm,hb,hD,rfl,rfl⟩,hspec⟩:=zPm xs a1 L most ha1 hl (by omega) (by omega) hm (by omega)
  have hbl:=hD.bl
  refine rg1 @h1 ?_
  refine cF0 ?_
  refine rg1 @h2 ?_
  refine cF0 ?_
  refine rg1 @h3 ?_
  refine cY0 ?_
  show awp _ _ _ _
  refine zI fun K hK=>?_
  simp (maxSteps:=2000000) (disch:=omega) [ints,rows,scal,zK,wr8]
  (repeat' apply And.intro)
  all_goals (try omega)
  refine zC7 (caps:=[]) hspec [0] [0,12000001,12000002] 12000003 1 rfl rfl rfl rfl (by kernel_rfl) (by simp) ?_ ?_ (by simp) rfl (by simp) ⟨.inr ⟨rfl,0,_,_,_,_,_,rfl,rfl,rfl,rfl,rfl⟩,.inl (by omega),.inl (by omega),trivial⟩ (by omega) (by intro k hk; simp at hk; omega) (by simp [tpO,dfH]) (fun j hj=>rfl) ?_
  ·simp [scal,tpO]
  ·simp [tpO,scal,ints]
  have q1 : (poF [0,12000001,12000002] 12000003 n)[1]?.getD 0 = 12000001:=by simp [poF]
  have q2 : (poF [0,12000001,12000002] 12000003 n)[2]?.getD 0 = 12000002:=by simp [poF]
  simp (maxSteps:=2000000) (disch:=omega) [zRB,zRG,zFN,zEB,zFV,zDs,awpOp,awpOpD,wrE,gd,aop,aBuiltin,aNil,aMin,ASt.eval,AV.ofV,zAu,ASt.app,Eff.heap,dels,zBa,aLoad,aStore,aField,aFieldV,aIndexAddr,aIndex,aSlice,aSliceO,aLen,aBin,iB,sB,aUn,aConv,aAlloc,aBox,aBuild,afill,avCells,AV.leaf,zSO,aBuildSlice,frz,frzL,isOwn,vecOf,tsOf,aMake,srcOf,aAppend,aMkMap,aMapUpd,aLookup,oint,cut,putL,AObj.cnt,mkS,zl,zi,zj,zf,zBz,Nat.blt_eq,callS,outV,outVs,outO,zA0,addL,delL,ints,rows,scal,zK,wr8,List.getElem?_cons_zero,callF,q1,q2,zGb (show 3 = [0,12000001,12000002].length from rfl),dfH,tpO,zAs]
  and_intros <;> try first | apply hK | omega | rfl | simp <;> omega
  refine zC ?_
  refine ⟨⟨_,_,⟨n,s,b,bs,tab n nx,by omega,hb,hD.list,.inl (by omega),rfl,rfl⟩,zBN ?_⟩,by simp [callF]⟩
  refine ⟨.inr rfl,_,[(0,some 0)],(by first | (simp; rfl) | rfl),?_,?_,?_,?_⟩
  all_goals try simp +contextual (disch:=omega) [zL,zM,zV,zW,zw,List.getElem?_cons_succ,Option.getD_some,callF,ints,scal,tpO,zF,zH,zz,wk1,rows,zE,dfT,ze,hbl]
  exact fun j hj=>(hD.row j hj).1
def repW (w : List Nat) : Nat -> List Nat
 | 0=>[]
 | k + 1=>repW w k ++ w
theorem zCd {L : Nat} {w : List Nat} (hw : ∀ a ∈ w,a < L) : ∀ k,∀ a ∈ repW w k,a < L
 | 0,a,h=>by simp [repW] at h
 | k + 1,a,h=>by
  rcases List.mem_append.1 h with h | h
  ·exact zCd hw k a h
  ·exact hw a h
section
variable {L m : Nat} {bs : List Bool} {nx : List (List Int)}
theorem zFo (q : Nat) (u v : List Nat) : zZ nx q (u ++ v) = zZ nx (zZ nx q u) v:=by simp [zZ]
theorem Acy.stay (hD : DfL L m 0 bs nx) (hA : Acy L m nx) : ∀ (a : List Nat) (p : Nat) (b : List Nat),p < m -> (∀ x ∈ a,x < L) -> (∀ x ∈ b,x < L) -> zZ nx p (a ++ b) = p -> zZ nx p a = p
 | [],p,b,_,_,_,_=>rfl
 | x :: a,p,b,hp,ha,hb,h=>by
  have hx:=ha x (by simp)
  have ha' : ∀ y ∈ a,y < L:=fun y hy=>ha y (by simp [hy])
  have e : zJ nx p x = p:=by
   by_cases c : zJ nx p x = p
   ·exact c
   ·exact absurd h (hA p x (a ++ b) hp hx (fun y hy=>by
     rcases List.mem_append.1 hy with hy | hy
     ·exact ha' y hy
     ·exact hb y hy) c)
  have h' : zZ nx p (a ++ b) = p:=by
   have : zZ nx (zJ nx p x) (a ++ b) = p:=h
   rwa [e] at this
  show zZ nx (zJ nx p x) a = p
  rw [e]
  exact Acy.stay hD hA a p b hp ha' hb h'
theorem zGH (w : List Nat) (q : Nat) (h : zZ nx q w = q) : ∀ k,zZ nx q (repW w k) = q
 | 0=>rfl
 | k + 1=>by
  show zZ nx q (repW w k ++ w) = q
  rw [zFo,zGH w q h k,h]
theorem Acy.law (hD : DfL L m 0 bs nx) (hA : Acy L m nx) {u v : List Nat} (hu : ∀ x ∈ u,x < L) (hv : ∀ x ∈ v,x < L) {k : Nat} (hk : 0 < k) {q : Nat} (hq : q < m) (hid : zZ nx q (repW (u ++ v) k ++ repW (u ++ v) k) = zZ nx q (repW (u ++ v) k)) : zZ nx q (repW (u ++ v) k ++ u) = zZ nx q (repW (u ++ v) k):=by
 have huv : ∀ x ∈ u ++ v,x < L:=fun x hx=>by
  rcases List.mem_append.1 hx with hx | hx
  ·exact hu x hx
  ·exact hv x hx
 have hr:=zCd huv
 rw [zFo] at hid ⊢
 have hp : zZ nx q (repW (u ++ v) k) < m:=hD.rt.walk (hr k) hq
 generalize zZ nx q (repW (u ++ v) k) = p at hid hp
 -- (uv)^k begins with u
 have hbeg : ∀ k,0 < k -> ∃ b,(∀ x ∈ b,x < L) /\ repW (u ++ v) k = u ++ b:=by
  intro k
  induction k with
  | zero=>intro h; omega
  | succ k ih =>
   intro _
   by_cases c : k = 0
   ·subst c
    exact ⟨v,hv,by simp [repW]⟩
   ·obtain ⟨b,b1,b2⟩:=ih (by omega)
    refine ⟨b ++ (u ++ v),fun x hx=>?_,?_⟩
    ·rcases List.mem_append.1 hx with hx | hx
     ·exact b1 x hx
     ·exact huv x hx
    ·show repW (u ++ v) k ++ (u ++ v) = _
     rw [b2,List.append_assoc]
 obtain ⟨b,b1,b2⟩:=hbeg k hk
 rw [b2] at hid
 exact hA.stay hD u p b hp hu b1 hid
theorem zEt (hD : DfL L m 0 bs nx) (h : ∀ u v : List Nat,(∀ x ∈ u,x < L) -> (∀ x ∈ v,x < L) -> ∃ k,∀ q,q < m -> zZ nx q (repW (u ++ v) k ++ u) = zZ nx q (repW (u ++ v) k)) : Acy L m nx:=by
 intro q x w hq hx hw hne hc
 have hx1 : ∀ y ∈ [x],y < L:=fun y hy=>by simp at hy; omega
 obtain ⟨k,hk⟩:=h [x] w hx1 hw
 have h1:=hk q hq
 have hloop : zZ nx q ([x] ++ w) = q:=hc
 rw [zFo,zGH _ q hloop k] at h1
 exact hne h1
end
structure zIM where
 nm : ByteArray
 mon : Bool
 form : Int
 kind : Int
 fst : ByteArray
 snd : ByteArray
def zIM.cells (e : zIM) : List T:=[.str e.nm,.bool e.mon,.int .i64 e.form,.int .i64 e.kind,.str e.fst,.str e.snd]
def zCE : List zIM:=[⟨⟨#[116,114,105,118,105,97,108]⟩,true,1,0,⟨#[120,32,61,32,49]⟩,⟨#[]⟩⟩,
 ⟨⟨#[99,111,109,109,117,116,97,116,105,118,101]⟩,true,4,0,⟨#[120,121,32,61,32,121,120]⟩,⟨#[]⟩⟩,
 ⟨⟨#[99,111,109,109,117,116,97,116,105,118,101,45,97,112,101,114,105,111,100,105,99]⟩,true,4,0,⟨#[120,121,32,61,32,121,120]⟩,⟨#[120,94,40,119,43,49,41,32,61,32,120,94,119]⟩⟩,
 ⟨⟨#[97,98,101,108,105,97,110]⟩,true,4,0,⟨#[120,121,32,61,32,121,120]⟩,⟨#[120,94,119,32,61,32,49]⟩⟩,
 ⟨⟨#[115,101,109,105,108,97,116,116,105,99,101]⟩,true,2,6,⟨#[120,121,32,61,32,121,120]⟩,⟨#[120,120,32,61,32,120]⟩⟩,
 ⟨⟨#[97,112,101,114,105,111,100,105,99]⟩,true,1,0,⟨#[120,94,40,119,43,49,41,32,61,32,120,94,119]⟩,⟨#[]⟩⟩,
 ⟨⟨#[103,114,111,117,112]⟩,true,5,0,⟨#[120,94,119,32,61,32,49]⟩,⟨#[]⟩⟩,
 ⟨⟨#[106,45,116,114,105,118,105,97,108]⟩,true,2,6,⟨#[40,120,121,41,94,119,120,32,61,32,40,120,121,41,94,119]⟩,⟨#[121,40,120,121,41,94,119,32,61,32,40,120,121,41,94,119]⟩⟩,
 ⟨⟨#[114,45,116,114,105,118,105,97,108]⟩,true,3,1,⟨#[40,120,121,41,94,119,120,32,61,32,40,120,121,41,94,119]⟩,⟨#[]⟩⟩,
 ⟨⟨#[108,45,116,114,105,118,105,97,108]⟩,true,3,2,⟨#[121,40,120,121,41,94,119,32,61,32,40,120,121,41,94,119]⟩,⟨#[]⟩⟩,
 ⟨⟨#[100,97]⟩,true,3,3,⟨#[40,120,121,41,94,119,120,40,120,121,41,94,119,32,61,32,40,120,121,41,94,119]⟩,⟨#[]⟩⟩,
 ⟨⟨#[102,105,110,105,116,101,45,111,114,45,99,111,102,105,110,105,116,101]⟩,false,2,1,⟨#[120,94,119,121,32,61,32,120,94,119]⟩,⟨#[121,120,94,119,32,61,32,120,94,119]⟩⟩,
 ⟨⟨#[100,101,102,105,110,105,116,101]⟩,false,2,3,⟨#[121,120,94,119,32,61,32,120,94,119]⟩,⟨#[]⟩⟩,
 ⟨⟨#[114,101,118,101,114,115,101,45,100,101,102,105,110,105,116,101]⟩,false,2,2,⟨#[120,94,119,121,32,61,32,120,94,119]⟩,⟨#[]⟩⟩,
 ⟨⟨#[103,101,110,101,114,97,108,105,115,101,100,45,100,101,102,105,110,105,116,101]⟩,false,2,4,⟨#[120,94,119,121,120,94,119,32,61,32,120,94,119]⟩,⟨#[]⟩⟩,
 ⟨⟨#[108,111,99,97,108,108,121,45,116,101,115,116,97,98,108,101]⟩,false,2,5,⟨#[120,94,119,121,120,94,119,121,120,94,119,32,61,32,120,94,119,121,120,94,119]⟩,⟨#[120,94,119,121,120,94,119,122,120,94,119,32,61,32,120,94,119,122,120,94,119,121,120,94,119]⟩⟩,
 ⟨⟨#[100,111,116,45,100,101,112,116,104,45,111,110,101]⟩,false,2,7,⟨#[40,120,94,119,122,121,94,119,117,120,94,119,41,94,119,120,94,119,122,121,94,119,116,120,94,119,40,120,94,119,118,121,94,119,116,120,94,119,41,94,119,32,61,32,40,120,94,119,122,121,94,119,117,120,94,119,41,94,119,40,120,94,119,118,121,94,119,116,120,94,119,41,94,119]⟩,⟨#[]⟩⟩]
def zSt : List T:=zCE.flatMap zIM.cells
theorem zDG : FnA Tryz.prog 23 [] (.t 2 (.sl 6 zSt)):=by
 refine fI 19 #[.tmp 0] Tryz.func23 rfl ?_
 refine rg0 ?_
 refine rg0 ?_
 refine zC ?_
 refine ⟨⟨.inr rfl,_,[],rfl,trivial,trivial,by simp,?_⟩,by simp⟩
 simp
 rfl
theorem zJW : ∀ (l : List zIM) (k : Nat) (h : k < l.length),((l.flatMap zIM.cells).drop (k * 6)).take 6 = zIM.cells l[k]
 | [],k,h=>by simp at h
 | e :: l,0,h=>rfl
 | e :: l,k + 1,h=>by
  have h' : k < l.length:=by simpa using h
  have ih:=zJW l k h'
  rw [List.flatMap_cons,show (k + 1) * 6 = (zIM.cells e).length + k * 6 by simp [zIM.cells]; omega,List.drop_length_add_append]
  exact ih
theorem zHs {k : Nat} (h : k < 17) : (zSt.drop (k * 6)).take 6 = zIM.cells (zCE[k]'h):=zJW zCE k h
theorem zCl : zSt.length = 102:=rfl
theorem zI4 (nm : ByteArray) {k : Nat} (hk : k < 17) (h1 : (zCE[k]'hk).nm = nm) (h2 : ∀ j (h : j < 17),j < k -> ¬ (zCE[j]'h).nm.toList = nm.toList) : FnA Tryz.prog 9 [.t 2 (.str nm)] (.t 2 (.int .i64 k)):=by
 refine fI 18 #[.tmp 2] Tryz.func9 rfl ?_
 refine rg0 ?_
 refine zA ?_
 refine rc1 zDG @zCl ?_
 refine zB ?_
 refine awp_loop (fun i : Nat=>mkS [(0,.t 2 (.str nm)),(5,.t 2 (.sl 6 zSt)),(6,.t 2 (.int .i64 17)),(7,.t 2 (.int .i64 i))] [] 0 18 [.any]) (fun i=>i <= k) (fun i=>17 - i) ?_ ?_
 ·refine ⟨0,by omega,?_⟩
  exact kw0 []
 intro i hi
 have hi17 : i < 17:=by omega
 have hat:=zHs hi17
 have hin : i * 6 + 6 <= 102:=by omega
 refine rg0 ?_
 refine zA ?_
 refine cK1 @hi17 ?_
 refine zA ?_
 refine zB ?_
 refine rg1 (an @hat (an @hin (an @zCl @zIM.cells.eq_1))) ?_
 by_cases e : i = k
 ·subst e
  refine rg1 @h1 ?_
  refine cT0 ?_
  refine rg0 ?_
  exact zC rt0
 ·have hne:=h2 i hi17 (by omega)
  refine rg1 @hne ?_
  refine cY1 @hne ?_
  show awp _ _ _ _
  refine rr0 ?_
  refine ⟨i + 1,by omega,by omega,?_⟩
  exact kw0 []
end Go.Proofs.YtgelfgpcnaeecaaGreatDoor.M
