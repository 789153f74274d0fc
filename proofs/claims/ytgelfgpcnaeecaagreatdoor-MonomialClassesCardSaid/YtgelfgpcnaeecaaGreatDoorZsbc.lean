/-
  Edges of nondeterministic automata as lists, in plain Lean; steps (dfa).
  Walk in my logic: steps (dfa).
  Walk in my logic: Validate (nfa).
  Old-style walks: Or (cmp) of three numbers, compareEdges (nfa): the world grows and draws.
-/
import Derived.Test.YtgelfgpcnaeecaaGreatDoorZsbb
import Derived.Test.YtgelfgpcnaeecaaGreatDoorZsam
import Derived.Test.YtgelfgpcnaeecaaGreatDoorZsad
import Derived.Test.YtgelfgpcnaeecaaGreatDoorZsae
import Derived.Test.YtgelfgpcnaeecaaGreatDoorZsaz
import Derived.Test.YtgelfgpcnaeecaaGreatDoorZsaw
import Derived.StillTailTactics
namespace Go.Proofs.YtgelfgpcnaeecaaGreatDoor.M
open Go.RowKit
set_option linter.unusedVariables false
set_option linter.unusedSimpArgs false
set_option maxRecDepth 100000
set_option maxHeartbeats 32000000

abbrev Ed:=Nat × Nat × Nat
def edC (es : List Ed) : List T:=es.flatMap fun e=>[.int .i64 (e.1 : Int),.int .i64 (e.2.1 : Int),.int .i64 (e.2.2 : Int)]
@[simp] theorem zTz (es : List Ed) : (edC es).length = es.length * 3:=by
 unfold edC
 induction es with
 | nil=>rfl
 | cons e es ih=>simp [List.flatMap_cons,ih]; omega
theorem zI1 (es : List Ed) (e : Ed) : edC (es ++ [e]) = edC es ++ [.int .i64 (e.1 : Int),.int .i64 (e.2.1 : Int),.int .i64 (e.2.2 : Int)]:=by simp [edC]
theorem zKo : ∀ (es : List Ed) (k : Nat),(edC es).drop (k * 3) = edC (es.drop k)
 | [],k=>by simp [edC]
 | e :: es,0=>by simp
 | e :: es,k + 1=>by
  have:=zKo es k
  rw [show (k + 1) * 3 = k * 3 + 3 by omega]
  simpa [edC] using this
theorem zOo {es : List Ed} {k : Nat} (h : k < es.length) : List.take 3 (List.drop (k * 3) (edC es)) = [.int .i64 (es[k].1 : Int),.int .i64 (es[k].2.1 : Int),.int .i64 (es[k].2.2 : Int)]:=by
 rw [zKo,List.drop_eq_getElem_cons h,edC,List.flatMap_cons]
 rfl
theorem zQI {es : List Ed} {k : Nat} (h : k < es.length) : k * 3 + 3 <= es.length * 3:=by omega
def nfT (p L m st fi : Nat) (es : List Ed) : AV:=.agg [.t 2 (.int .i64 L),.t 2 (.int .i64 m),.t 2 (.int .u64 (st : Nat)),.t 2 (.int .u64 (fi : Nat)),.t p (.sl 3 (edC es))]
structure zTe (L m : Nat) (nx : List (List Int)) (es : List Ed) : Prop where
 mem : ∀ e : Ed,e ∈ es ↔ e.1 < m /\ e.2.1 < L /\ e.2.2 < m /\ zJ nx e.2.2 e.2.1 = e.1
 len : es.length <= 3072
def zDe (m : Nat) (es : List Ed) (x p : Nat) : Nat:=mkM (fun q=>es.any fun e=>decide (e = (p,x,q))) m
theorem zLl {m : Nat} {es : List Ed} {e : Ed} {x p : Nat} (he : e.2.2 < m) : zDe m (es ++ [e]) x p = if x = e.2.1 /\ p = e.1 then zDe m es x p ||| 2 ^ e.2.2 else zDe m es x p:=by
 obtain ⟨a,b,c⟩:=e
 simp only at he
 have h2 : 2 ^ c < 2 ^ m:=Nat.pow_lt_pow_right (by omega) he
 by_cases h : x = b /\ p = a
 ·rw [if_pos h]
  obtain ⟨rfl,rfl⟩:=h
  refine zEL (zBI _ _) (Nat.or_lt_two_pow (zBI _ _) h2) (fun q hq=>?_)
  rw [zDe,zAt,Nat.testBit_or,zDe,zAt,Nat.testBit_two_pow,List.any_append]
  simp only [hq,decide_true,Bool.true_and,List.any_cons,List.any_nil,Bool.or_false,Prod.mk.injEq,true_and]
 ·rw [if_neg h]
  refine zEL (zBI _ _) (zBI _ _) (fun q hq=>?_)
  rw [zDe,zAt,zDe,zAt,List.any_append]
  have : decide ((a,b,c) = (p,x,q)) = false:=by
   simp only [Prod.mk.injEq,decide_eq_false_iff_not]
   rintro ⟨rfl,rfl,-⟩
   exact h ⟨rfl,rfl⟩
  rw [List.any_cons,List.any_nil,this,Bool.or_false,Bool.or_false]
theorem zOa {L m s : Nat} {bs : List Bool} {nx : List (List Int)} {es : List Ed} (hD : DfL L m s bs nx) (h : zTe L m nx es) {x p : Nat} (hx : x < L) (hp : p < m) : zDe m es x p = zRm m nx x p:=by
 refine zEL (zBI _ _) (zBI _ _) (fun q hq=>?_)
 rw [zDe,zAt,zRm,zAt]
 simp only [hq,decide_true,Bool.true_and]
 rw [Bool.eq_iff_iff,List.any_eq_true]
 simp only [decide_eq_true_eq]
 constructor
 ·rintro ⟨e,h1,rfl⟩
  exact ((h.mem _).1 h1).2.2.2
 ·intro g
  exact ⟨_,(h.mem (p,x,q)).2 ⟨hp,hx,hq,g⟩,rfl⟩
def nfO (p L m st fi : Nat) (es : List Ed) : AObj:=.box 114 [.t 2 (.int .i64 L),.t 2 (.int .i64 m),.t 2 (.int .u64 (st : Nat)),.t 2 (.int .u64 (fi : Nat)),.t p (.sl 3 (edC es))]
theorem zNh (m x p : Nat) : zDe m [] x p = 0:=by
 refine zEL (zBI _ _) (Nat.two_pow_pos m) (fun q hq=>?_)
 rw [zDe,zAt]
 simp
theorem zNB {m : Nat} (F : Nat -> Nat) : zCS (tab m F) = tab m fun p=>.int .u64 (F p : Int):=by rw [zCS,ze]
theorem zNa {L m s st fi : Nat} {bs : List Bool} {nx : List (List Int)} {es : List Ed} (hD : DfL L m s bs nx) (hL : 1 <= L) (hL2 : L <= 6) (hm : m <= 63) (hE : zTe L m nx es) :
  FnS Tryz.prog 110 [nfT 0 L m st fi es] [] (.fn 125 [.ptr 0 0 1]) [.box 214 [.t 1 (zEf L m nx)]]:=by
 have hel:=hE.len
 have hz0 : zCS (tab m fun _=>0) = List.replicate m (.int .u64 0):=by rw [zAF,zCS,ze]; rfl
 refine fI 45 #[.tmp 2] Tryz.func110 rfl ?_
 refine zI fun K hK=>?_
 simp (maxSteps:=2000000) (disch:=omega) [ints,rows,scal,zK,wr8,nfT]
 (repeat' first | apply hK | apply And.intro) <;> try first | omega | rfl | (simp <;> omega)
 refine rg0 ?_
 refine zA ?_
 refine rg0 ?_
 refine zB ?_
 refine awp_loop (fun x : Nat=>mkF [(1,.ptr 0 0 5),(3,.ptr 1 0 1),(11,.t 2 (.int .i64 L)),(12,.t 2 (.int .i64 x))]
   [(0,nfO 0 L m st fi es),(1,.box 214 [.own 2 L]),(2,.vec 155 1 2 (tab L fun j=>if j < x then .own (j + 100) m else .t 2 (.sl 0 [])))]
   100 x (fun j=>.row 111 1 2 (zCS (tab m fun _=>0))) 1000 45 [.any]) (fun x=>x <= L) (fun x=>L - x) ?_ ?_
 ·refine ⟨0,by omega,?_⟩
  exact kf1 [(0,some 0),(1,some 5000000),(2,some 4000000)] (fun j=>j) (an @nfT.eq_1 (an @nfO.eq_1 (an @zAF @ze)))
 intro x hx
 refine rg0 ?_
 refine zA ?_
 by_cases hxl : x < L
 ·refine cK1 @hxl ?_
  refine zA ?_
  refine zB ?_
  refine rg0 ?_
  refine re1 (an @nfO.eq_1 (an @hxl @zg)) ?_
  show awp _ _ _ _
  refine rr0 ?_
  refine ⟨x + 1,by omega,by omega,?_⟩
  refine zAG [(0,some 0),(1,some 1),(2,some 2)] (fun j=>if j < x then j + 100 else 7001000) rfl ?_ ?_ ?_ ?_ ?_ ?_
  all_goals try simp +contextual (disch:=omega) [zL,zM,zV,zW,zw,List.getElem?_cons_succ,Option.getD_some,callF,ints,scal,tpO,zF,zH,nfO,zCP,zAJ,zy]
  all_goals (try omega)
  ·intro j hj
   by_cases e : j = x
   ·subst e
    simp +contextual (disch:=omega) [zL,zM,zV,zW,zw,List.getElem?_cons_succ,Option.getD_some,callF,ints,scal,tpO,zF,zH,zAJ,zy]
   ·by_cases e2 : j < x
    ·simp +contextual (disch:=omega) [zL,zM,zV,zW,zw,List.getElem?_cons_succ,Option.getD_some,callF,ints,scal,tpO,zF,zH,e,e2,show j < x + 1 by omega,zAJ,zy]
    ·simp +contextual (disch:=omega) [zL,zM,zV,zW,zw,List.getElem?_cons_succ,Option.getD_some,callF,ints,scal,tpO,zF,zH,e,e2,show ¬ j < x + 1 by omega]
  ·intro j hj
   by_cases e2 : j < x
   ·simp +contextual (disch:=omega) [zL,zM,zV,zW,zw,List.getElem?_cons_succ,Option.getD_some,callF,ints,scal,tpO,zF,zH,e2,zAJ,zy,zBT (show j + 100 ≠ 7001000 by omega),zBT (show j + 100 ≠ 2 by omega)]
   ·simp +contextual (disch:=omega) [zL,zM,zV,zW,zw,List.getElem?_cons_succ,Option.getD_some,callF,ints,scal,tpO,zF,zH,e2,hz0]
  ·intro i j hi hj h
   split at h <;> split at h <;> omega
 ·obtain rfl : x = L:=by omega
  refine cF0 ?_
  refine zG ?_
  show awp _ _ _ _
  refine zA ?_
  refine rg1 @nfO.eq_1 ?_
  refine zB ?_
  refine awp_loop (fun k : Nat=>mkF [(1,.ptr 0 0 5),(3,.ptr 1 0 1),(23,.t 0 (.sl 3 (edC es))),(24,.t 2 (.int .i64 es.length)),(25,.t 2 (.int .i64 k))]
    [(0,nfO 0 x m st fi es),(1,.box 214 [.own 2 x]),(2,.vec 155 1 2 (tab x fun j=>.own (j + 100) m))]
    100 x (fun j=>.row 111 1 2 (zCS (tab m fun p=>zDe m (es.take k) j p))) 1000 45 [.any]) (fun k=>k <= es.length) (fun k=>es.length - k) ?_ ?_
  ·refine ⟨0,by omega,?_⟩
   exact kf1 [(0,some 0),(1,some 1),(2,some 2)] (fun j=>j + 100) (an @nfO.eq_1 (an @zNh (an @zAJ @zy)))
  intro k hk
  refine rg0 ?_
  refine zA ?_
  by_cases hkl : k < es.length
  ·have hat:=zOo hkl
   have hin:=zQI hkl
   obtain ⟨e1,e2,e3,e4⟩:=(hE.mem es[k]).1 (by simp)
   refine cK1 @hkl ?_
   refine zA ?_
   refine zB ?_
   refine rg1 (an @hat @hin) ?_
   have htk : es.take (k + 1) = es.take k ++ [es[k]]:=List.take_succ_eq_append_getElem hkl
   have hsn : ∀ j p,zDe m (es.take (k + 1)) j p = if j = es[k].2.1 /\ p = es[k].1 then zDe m (es.take k) j p ||| 2 ^ es[k].2.2 else zDe m (es.take k) j p:=fun j p=>by rw [htk]; exact zLl e3
   have hsh:=zD3 (i:=es[k].2.2) (by omega)
   have hb2:=zG6 (i:=es[k].2.2) (by omega)
   have h63 : 2 ^ m <= 2 ^ 63:=Nat.pow_le_pow_right (by omega) hm
   have hlt : ∀ j p,zDe m (es.take k) j p < 2 ^ m:=fun j p=>zBI _ _
   have hcur:=hlt es[k].2.1 es[k].1
   have hor:=orN (x:=zDe m (es.take k) es[k].2.1 es[k].1) (y:=2 ^ es[k].2.2) (by omega) hb2
   generalize es[k].1 = a at *
   generalize es[k].2.1 = b at *
   generalize es[k].2.2 = c at *
   generalize 2 ^ c = d at *
   have hb9 : (b == 3000900) = false:=zBT (by omega)
   refine re1 (an @zy (an @zNB (an @e1 (an @e2 (an @hsh (an @hor (an @zg @hb9))))))) ?_
   show awp _ _ _ _
   refine rr0 ?_
   refine ⟨k + 1,by omega,by omega,?_⟩
   refine zAG [(0,some 0),(1,some 1),(2,some 2)] (fun j=>j + 100) rfl ?_ ?_ ?_ ?_ ?_ ?_
   all_goals try simp +contextual (disch:=omega) [zL,zM,zV,zW,zw,List.getElem?_cons_succ,Option.getD_some,callF,ints,scal,tpO,zF,zH,nfO,zAJ,zy,zNB]
   all_goals (try omega)
   intro j hj
   by_cases e : j = b
   ·subst e
    have hrow : (tab m fun p=>T.int .u64 ((zDe m (es.take (k + 1)) j p : Nat) : Int)) = tab m fun i=>if i = a then T.int .u64 ((zDe m (es.take k) j a ||| d : Nat) : Int) else T.int .u64 ((zDe m (es.take k) j i : Nat) : Int):=zO (fun p hp=>by
     rw [hsn]
     by_cases ep : p = a
     ·subst ep; simp
     ·simp [ep])
    rw [hrow]
    simp +contextual (disch:=omega) [zL,zM,zV,zW,zw,List.getElem?_cons_succ,Option.getD_some,callF,ints,scal,tpO,zF,zH]
   ·have hrow : (tab m fun p=>T.int .u64 ((zDe m (es.take (k + 1)) j p : Nat) : Int)) = tab m fun i=>T.int .u64 ((zDe m (es.take k) j i : Nat) : Int):=zO (fun p hp=>by
     rw [hsn]
     simp [e])
    rw [hrow]
    simp +contextual (disch:=omega) [zL,zM,zV,zW,zw,List.getElem?_cons_succ,Option.getD_some,callF,ints,scal,tpO,zF,zH,zBT (show j ≠ b from e)]
  ·obtain rfl : k = es.length:=by omega
   refine cF0 ?_
   refine zG ?_
   show awp _ _ _ _
   rw [List.take_length]
   have hst : ∀ j,j < x -> (T.sl 1 (zCS (tab m fun p=>zDe m es j p))) = T.sl 1 (zCS (zOg m nx j)):=fun j hj=>by
    congr 2
    exact zO (fun p hp=>zOa hD hE hj hp)
   refine zX (σ':=mkS [(3,.ptr 1 0 1)] [(1,.box 214 [.own 2 x]),(2,.row 155 1 2 (tab x fun j=>.sl 1 (zCS (tab m fun p=>zDe m es j p))))] 3 45 [.any]) ?_ ?_
   ·refine zQ [(1,some 1),(2,some 2)] rfl ?_ ?_ ?_ ?_
    all_goals try simp [ints,zy,zz,wk1,nfO]
    intro j hj
    simp +contextual (disch:=omega) [zL,zM,zV,zW,zw,List.getElem?_cons_succ,Option.getD_some,callF,ints,scal,tpO,zF,zH,zy]
   have heq : (tab x fun j=>T.sl 1 (zCS (tab m fun p=>zDe m es j p))) = tab x fun j=>T.sl 1 (zCS (zOg m nx j)):=zO (fun j hj=>hst j hj)
   rw [heq]
   refine zX (σ':=mkS [(3,.ptr 1 0 1)] [(1,.box 214 [.t 2 (zEf x m nx)])] 3 45 [.any]) ?_ ?_
   ·exact kw1 [(1,some 1)] @zEf.eq_1
   refine rg0 ?_
   refine zC ?_
   refine ⟨⟨.inr rfl,_,[(0,some 1)],(by first | rfl | (simp [ints,rows,scal,tpO,nfT]; rfl)),?_,?_,?_,?_⟩,?_⟩
   all_goals try simp [ints,rows,scal,tpO,nfT]
def edZ (e : Ed) : Int × Int × Int:=(e.1,e.2.1,e.2.2)
def zEg (a b : Ed) : Prop:=a.1 < b.1 \/ a.1 = b.1 /\ (a.2.1 < b.2.1 \/ a.2.1 = b.2.1 /\ a.2.2 < b.2.2)
theorem zH2 {x y : Nat} (h : x < y) : zB1 (x : Int) (y : Int) = -1:=by
 unfold zB1; rw [if_pos (by omega)]
theorem zDL (x : Int) : zB1 x x = 0:=by simp [zB1]
theorem zIS {x y : Nat} (h : y < x) : zB1 (x : Int) (y : Int) = 1:=by
 unfold zB1; rw [if_neg (by omega),if_pos (by omega)]
theorem zM3 {a b : Ed} (h : zEg a b) : zO7 (edZ a) (edZ b) = -1:=by
 obtain ⟨a1,a2,a3⟩:=a
 obtain ⟨b1,b2,b3⟩:=b
 unfold zEg at h
 simp only at h
 unfold zO7 edZ
 simp only
 rcases h with h | ⟨rfl,h | ⟨rfl,h⟩⟩
 ·rw [zH2 h]; rfl
 ·rw [zDL,zH2 h]; rfl
 ·rw [zDL,zDL,zH2 h]; rfl
theorem zK8 {a b : Ed} (h : zEg a b) : a ≠ b:=by
 rintro rfl
 unfold zEg at h
 omega
structure zTM (L m : Nat) (es : List Ed) : Prop where
 rng : ∀ e ∈ es,e.1 < m /\ e.2.1 < L /\ e.2.2 < m
 srt : ∀ i (h : i + 1 < es.length),zEg es[i] es[i + 1]
theorem zRq : agB Tryz.prog 154 3 = true:=by kernel_rfl
theorem zDU {L m st fi : Nat} {es : List Ed} (hE : zTM L m es) (hL : 1 <= L) (hL2 : L <= 6) (hm : m <= 63) (hs : st < 2 ^ m) (hf : fi < 2 ^ m) (hl : es.length <= 100000) : FnA Tryz.prog 76 [nfT 0 L m st fi es] (.t 2 (.int .i64 0)):=by
 have hst:=zJ1 hm
 have h64 : 2 ^ m <= 2 ^ 63:=Nat.pow_le_pow_right (by omega) hm
 have hor:=orN (x:=st) (y:=fi) (by omega) (by omega)
 have hu : st ||| fi < 2 ^ m:=Nat.or_lt_two_pow hs hf
 have hand:=zG3 hu hm
 generalize st ||| fi = un at hor hand
 generalize 2 ^ m - 1 = full at hst hand
 refine fI 90 #[.tmp 2] Tryz.func76 rfl ?_
 have a1 : ¬ (L : Int) < 1:=by omega
 have a2 : ¬ (6 : Int) < (L : Int):=by omega
 have a3 : ¬ (m : Int) < 0:=by omega
 have a4 : ¬ (64 : Int) < (m : Int):=by omega
 refine rg1 @nfT.eq_1 ?_
 refine zA ?_
 refine rg1 (an @a1 (an @a2 (an @a3 @a4))) ?_
 refine cS0 ?_
 refine zA ?_
 refine rq1 hst (an @hor @hand) ?_
 refine cS0 ?_
 refine zA ?_
 refine rg0 ?_
 refine zB ?_
 refine awp_loop (fun i : Nat=>mkS [(1,.ptr 0 0 5),(34,.t 0 (.sl 3 (edC es))),(35,.t 2 (.int .i64 es.length)),(36,.t 2 (.int .i64 i))] [(0,nfO 0 L m st fi es)] 1 90 [.any]) (fun i=>i <= es.length) (fun i=>es.length - i) ?_ ?_
 ·refine ⟨0,by omega,?_⟩
  exact kw1 [(0,some 0)] (an @nfT.eq_1 @nfO.eq_1)
 intro i hi
 refine rg0 ?_
 refine zA ?_
 by_cases hil : i < es.length
 ·have hat:=zOo hil
  have hin:=zQI hil
  obtain ⟨e1,e2,e3⟩:=hE.rng es[i] (by simp)
  refine cK1 @hil ?_
  refine zA ?_
  refine zB ?_
  refine rg1 (an @hat @hin) ?_
  have hsrt : 0 < i -> ∃ h : i - 1 < es.length,zEg es[i - 1] es[i]:=fun h0=>⟨by omega,by
   have:=hE.srt (i - 1) (by omega)
   simpa [show i - 1 + 1 = i by omega] using this⟩
  have hat1 : 0 < i -> ∃ x : Ed,List.take 3 (List.drop ((i - 1) * 3) (edC es)) = [.int .i64 (x.1 : Int),.int .i64 (x.2.1 : Int),.int .i64 (x.2.2 : Int)] /\ zEg x es[i]:=fun h0=>by
   obtain ⟨h1,h2⟩:=hsrt h0
   exact ⟨es[i - 1],zOo h1,h2⟩
  clear hsrt
  generalize es[i] = e at *
  obtain ⟨a,b,c⟩:=e
  simp only at e1 e2 e3 hat
  obtain ⟨mn,hmn,hmn0⟩ : ∃ mn : Int,aMin3 (.t 2 (.int .i64 (a : Int))) (.t 2 (.int .i64 (b : Int))) (.t 2 (.int .i64 (c : Int))) = some (true,{ val:=.t 2 (.int .i64 mn) }) /\ ¬ mn < 0:=⟨_,rfl,by split <;> split <;> omega⟩
  obtain ⟨mx,hmx,hmx0⟩ : ∃ mx : Int,aMin true (.t 2 (.int .i64 (a : Int))) (.t 2 (.int .i64 (c : Int))) = some (true,{ val:=.t 2 (.int .i64 mx) }) /\ ¬ (m : Int) <= mx:=⟨_,rfl,by simp only [if_true]; split <;> omega⟩
  have hb0 : ¬ (L : Int) <= (b : Int):=by omega
  refine zA ?_
  refine zI fun K hK=>?_
  simp (maxSteps:=2000000) (disch:=omega) [ints,rows,scal,zK,wr8,nfO,-aMin3,-aMin,hmn,hmx,hmn0,hmx0,hb0]
  (repeat' first | apply hK | apply And.intro) <;> try first | omega | rfl | (simp <;> omega)
  refine cS0 ?_
  by_cases h0 : i = 0
  ·subst h0
   refine rd1 @nfO.eq_1 ?_
   refine cY0 ?_
   show awp _ _ _ _
   refine rr0 ?_
   refine ⟨1,by omega,by omega,?_⟩
   exact kw1 [(0,some 0)] @nfO.eq_1
  ·have h0i : (0 : Int) < (i : Int):=by omega
   obtain ⟨x,hx,hlt⟩:=hat1 (by omega)
   have hin1 : (i - 1) * 3 + 3 <= es.length * 3:=by omega
   have hi1 : IntKind.i64.wrap ((i : Int) - 1) = ((i - 1 : Nat) : Int):=by
    rw [show ((i : Int) - 1) = ((i - 1 : Nat) : Int) by omega]; rw [IntKind.wrap_i64]; omega
   have hce:=zIJ (edZ x) (edZ (a,b,c))
   rw [zM3 hlt] at hce
   have hne:=zK8 hlt
   obtain ⟨x1,x2,x3⟩:=x
   simp only at hx
   have hk : kEqL [.int .i64 (x1 : Int),.int .i64 (x2 : Int),.int .i64 (x3 : Int)] [.int .i64 (a : Int),.int .i64 (b : Int),.int .i64 (c : Int)] = false:=by
    rw [Bool.eq_false_iff]
    intro h
    simp only [kEqL,Bool.and_eq_true,beq_iff_eq,and_true] at h
    obtain ⟨q1,q2,q3⟩:=h
    exact hne (by rw [show x1 = a by omega,show x2 = b by omega,show x3 = c by omega])
   generalize i - 1 = i1 at hx hin1 hi1
   refine zp (by kernel_rfl) (fun K hK=>?_)
   have h0n : 0 < i:=by omega
   simp (maxSteps:=2000000) (disch:=omega) [ints,rows,scal,zK,wr8,h0i,h0n,h0,nfO,hi1,hx,hin1,zRq,keyL,hk]
   (repeat' apply And.intro)
   all_goals (try omega)
   refine zS (caps:=[]) (hce) [] [] 2 (by simp [edV,edZ]) rfl rfl rfl (by kernel_rfl) (by simp) ?_ ?_ (by simp) rfl (by simp) trivial (by simp [edV,edZ]) ?_
   ·simp [scal,rows,ints,edV,edZ]
   ·trivial
   simp (maxSteps:=2000000) (disch:=omega) [ints,rows,scal,zK,wr8]
   (repeat' first | apply hK | apply And.intro) <;> try first | (show zA8 _ _ = true; kernel_rfl) | (show okH _ _ _ = true; kernel_rfl) | omega | rfl | (simp <;> omega)
   refine cY0 ?_
   show awp _ _ _ _
   refine rr0 ?_
   refine ⟨i + 1,by omega,by omega,?_⟩
   exact kw1 [(0,some 0)] @nfO.eq_1
 ·refine cF1 @hil ?_
  refine zG ?_
  show awp _ _ _ _
  refine rg0 ?_
  exact zC (rt1 @nfT.eq_1)
end Go.Proofs.YtgelfgpcnaeecaaGreatDoor.M

namespace Go.Proofs.YtgelfgpcnaeecaaGreatDoor.M
open Go.RowKit Go.Shelf Go.Lib Go.Sort
set_option linter.unusedVariables false

theorem zF0 (x y : Int) (w : World) : Calls Tryz.prog 116 #[.int .i64 x,.int .i64 y] w fun e w'=>e = .returned (.int .i64 (zB1 x y)) /\ w' = w :=
 (show Calls Tryz.prog 116 #[.int .i64 x,.int .i64 y] w _ from AnyG.cmp_Compare_int zTp x y w).mono fun e w' ⟨h1,h2⟩=>⟨by rw [h1]; unfold Lib.compareInt zB1; rfl,h2⟩
set_option maxHeartbeats 1000000 in
theorem orC (F : Nat -> Int) (b : Nat) (w : World) (hc : ∀ j,j < 3 -> w.cell? ⟨b,j,none⟩ = some (.int .i64 (F j))) :
  Calls Tryz.prog 115 #[.slice (some ⟨b,0,none⟩) 3 3] w fun e w'=>e = .returned (.int .i64 (orL [F 0,F 1,F 2])) /\ w' = w:=by
 have HC:=Lib.hid hc
 clear hc
 go_enter Tryz.func115,Tryz.ntmps115
 go_wp2
 go_loop [8] (fun i=>∃ k : Nat,k <= 3 /\ i = .int .i64 k /\ (∀ r,r < k -> F r = 0)) (fun i=>3 - (intOf i).toNat)
 case atStart=>exact ⟨0,by omega,rfl,by omega⟩
 case round =>
  obtain ⟨k,hk,rfl,hr⟩:=hrel
  have HR:=Lib.hid hr
  clear hr
  by_cases hlt : k < 3
  ·have hcj:=HC.out k hlt
   by_cases hz : F k = 0
   ·have hb : (F k != 0) = false:=by simp [hz]
    go_wp2
    go_round
    case rel=>exact ⟨k + 1,by omega,by go_num,fun r hr=>by
     by_cases e : r = k
     ·subst e; exact hz
     ·exact HR.out r (by omega)⟩
    case measure=>simp [intOf]; omega
   ·have hb : (F k != 0) = true:=by simp [hz]
    go_wp2
    go_ret
    refine ⟨?_,rfl⟩
    have hr:=HR.out
    rcases (by omega : k = 0 \/ k = 1 \/ k = 2) with rfl | rfl | rfl
    ·simp [orL,hz]
    ·simp [orL,hr 0 (by omega),hz]
    ·simp [orL,hr 0 (by omega),hr 1 (by omega),hz]
  ·go_wp2
   go_ret
   refine ⟨?_,rfl⟩
   have hr:=HR.out
   simp [orL,hr 0 (by omega),hr 1 (by omega),hr 2 (by omega)]
theorem zM5 (W : World) (t : TypeId) (x1 x2 x3 y1 y2 y3 : Value) : ∃ W2,W2 = (W.alloc (.cells #[x1,x2,x3] t)).alloc (.cells #[y1,y2,y3] t) /\ W2 = grow W #[.cells #[x1,x2,x3] t,.cells #[y1,y2,y3] t] ∧
  W2.cell? ⟨W.heap.size,0,none⟩ = some x1 /\ W2.cell? ⟨W.heap.size,1,none⟩ = some x2 /\ W2.cell? ⟨W.heap.size,2,none⟩ = some x3 /\ W2.cell? ⟨W.heap.size + 1,0,none⟩ = some y1 /\ W2.cell? ⟨W.heap.size + 1,1,none⟩ = some y2 /\ W2.cell? ⟨W.heap.size + 1,2,none⟩ = some y3:=by
 obtain ⟨W1,hW1⟩ : ∃ W1,W1 = W.alloc (.cells #[x1,x2,x3] t):=⟨_,rfl⟩
 obtain ⟨W2,hW2⟩ : ∃ W2,W2 = W1.alloc (.cells #[y1,y2,y3] t):=⟨_,rfl⟩
 have s1 : W1.heap.size = W.heap.size + 1:=by rw [hW1,World.size_alloc]
 have h0 : W1.heap[W.heap.size]? = some (.cells #[x1,x2,x3] t (0,0)):=by rw [hW1]; exact heap_alloc_new W _
 have h1 : W2.heap[W.heap.size]? = some (.cells #[x1,x2,x3] t (0,0)):=by
  rw [hW2,Below.heap_alloc W1 _ _ (by omega)]
  exact h0
 have h2 : W2.heap[W.heap.size + 1]? = some (.cells #[y1,y2,y3] t (0,0)):=by
  rw [← s1,hW2]
  exact heap_alloc_new W1 _
 have key : ∀ (b : Nat) (cs : Array Value) (j : Nat) v,W2.heap[b]? = some (.cells cs t (0,0)) -> cs[j]? = some v -> W2.cell? ⟨b,j,none⟩ = some v:=fun b cs j v e1 e2=>by
  unfold World.cell?
  simp only [e1]
  exact e2
 refine ⟨W2,by rw [hW2,hW1],?_,key _ _ _ _ h1 rfl,key _ _ _ _ h1 rfl,key _ _ _ _ h1 rfl,key _ _ _ _ h2 rfl,key _ _ _ _ h2 rfl,key _ _ _ _ h2 rfl⟩
 rw [hW2,hW1,alloc_eq_grow,alloc_eq_grow,grow_grow]
 rfl
set_option maxRecDepth 100000 in
set_option maxHeartbeats 4000000 in
theorem zM1 (a b : Int × Int × Int) (W : World) : Calls Tryz.prog 78 #[.agg #[.int .i64 a.1,.int .i64 a.2.1,.int .i64 a.2.2],.agg #[.int .i64 b.1,.int .i64 b.2.1,.int .i64 b.2.2]] W fun e w'=>e = .returned (.int .i64 (zO7 a b)) /\ ∃ q os',w' = grow (W.drewN q) os':=by
 have h1:=Lib.hid fun W'=>zF0 a.1 b.1 W'
 have h2:=Lib.hid fun W'=>zF0 a.2.1 b.2.1 W'
 have h3:=Lib.hid fun W'=>zF0 a.2.2 b.2.2 W'
 have he : zO7 a b = orL [zB1 a.1 b.1,zB1 a.2.1 b.2.1,zB1 a.2.2 b.2.2]:=rfl
 rw [he]
 generalize zB1 a.1 b.1 = c1 at *
 generalize zB1 a.2.1 b.2.1 = c2 at *
 generalize zB1 a.2.2 b.2.2 = c3 at *
 go_enter Tryz.func78,Tryz.ntmps78
 go_upto_region 1 with (fail)
 obtain ⟨W2,hW,hg,k1,k2,k3,k4,k5,k6⟩:=zM5 W 154 (.int .i64 a.1) (.int .i64 a.2.1) (.int .i64 a.2.2) (.int .i64 b.1) (.int .i64 b.2.1) (.int .i64 b.2.2)
 rw [← hW]
 have HG:=Lib.hid hg
 clear hW hg
 refine wp_region_still_tail 15 (by kernel_rfl) (by kernel_rfl) ?_
 simp only [List.take_succ_cons,List.take_zero,List.drop_succ_cons,List.drop_zero]
 repeat still_step
 still_call (h1.out _)
 repeat still_step
 still_call (h2.out _)
 repeat still_step
 still_call (h3.out _)
 try refine wpStill_nil ?_
 change wpList _ _ _ _ _ W2.drew
 have hor:=fun (W' : World) (b : Nat) hc=>orC (fun j=>if j = 0 then c1 else if j = 1 then c2 else c3) b W' hc
 have HOR:=Lib.hid hor
 clear hor
 go_wp2_with fail
 refine (HOR.out _ _ (fun j hj=>?_)).mono ?_
 ·have h9 : (W2.alloc (Obj.cells #[Value.int IntKind.i64 c1,Value.int IntKind.i64 c2,Value.int IntKind.i64 c3] 3)).heap[W2.heap.size]? = some (Obj.cells #[Value.int IntKind.i64 c1,Value.int IntKind.i64 c2,Value.int IntKind.i64 c3] 3 (0,0)):=heap_alloc_new W2 _
  show (W2.alloc (Obj.cells #[Value.int IntKind.i64 c1,Value.int IntKind.i64 c2,Value.int IntKind.i64 c3] 3)).cell? ⟨W2.heap.size,j,none⟩ = _
  unfold World.cell?
  simp only [h9]
  rcases (by omega : j = 0 \/ j = 1 \/ j = 2) with rfl | rfl | rfl <;> rfl
 rintro e w' ⟨rfl,rfl⟩
 go_wp2
 go_ret
 refine ⟨rfl,1,#[Obj.cells #[Value.int IntKind.i64 a.1,Value.int IntKind.i64 a.2.1,Value.int IntKind.i64 a.2.2] 154,Obj.cells #[Value.int IntKind.i64 b.1,Value.int IntKind.i64 b.2.1,Value.int IntKind.i64 b.2.2] 154] ++ #[Obj.cells #[Value.int IntKind.i64 c1,Value.int IntKind.i64 c2,Value.int IntKind.i64 c3] 3],?_⟩
 rw [HG.out,alloc_eq_grow,grow_grow]
 rfl
end Go.Proofs.YtgelfgpcnaeecaaGreatDoor.M
