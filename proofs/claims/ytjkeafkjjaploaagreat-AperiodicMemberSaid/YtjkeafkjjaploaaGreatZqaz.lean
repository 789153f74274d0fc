/- Lemmas for the law AperiodicMember. No conditions. -/
import Derived.Test.YtjkeafkjjaploaaGreatZqas
import Derived.Test.YtjkeafkjjaploaaGreatZqav
set_option linter.all false
namespace Go.Proofs.YtjkeafkjjaploaaGreat.M
open Go.RowKit
set_option maxRecDepth 100000
set_option maxHeartbeats 32000000

def ndC(p:Nd):List T:=[.int .i64 (p.1:Int),.int .i64 (p.2.1:Int),.int .i64 (p.2.2.1:Int),.int .i64 (p.2.2.2:Int)]
def ndK(p:Nd):T:=.sl 99 (ndC p)
def ndV(p:Nd):AV:=.agg [.t 2 (.int .i64 (p.1:Int)),.t 2 (.int .i64 (p.2.1:Int)),.t 2 (.int .i64 (p.2.2.1:Int)),.t 2 (.int .i64 (p.2.2.2:Int))]
def zCR(ns:List Nd):List T:=ns.flatMap ndC
theorem zUd(p q:Nd):kEq (ndK p) (ndK q)=decide (p=q):=by
 obtain⟨a,b,c,d⟩:=p;obtain⟨x,y,z,w⟩:=q;simp only[ndK,ndC,kEq,kEqL];rw[Bool.eq_iff_iff];simp;omega
@[simp] theorem zQD(ns:List Nd):(zCR ns).length=ns.length*4:=by
 unfold zCR
 induction ns with
 |nil=>rfl
 |cons m r ih=>simp only[List.flatMap_cons,List.length_append,ih];simp[ndC];omega
theorem zID(ns:List Nd)(p:Nd):zCR (ns++[p])=zCR ns++[.int .i64 (p.1:Int),.int .i64 (p.2.1:Int),.int .i64 (p.2.2.1:Int),.int .i64 (p.2.2.2:Int)]:=by simp[zCR,ndC]
@[simp] theorem zVw(q:Nat)(ns:List Nd):lvs q (zCR ns)=2:=by
 unfold lvs;rw[if_pos];unfold zCR;simp[ndC,scal]
theorem zOg(a b c d:Int):kOK Tryz.prog 78 (.sl 99 [.int .i64 a,.int .i64 b,.int .i64 c,.int .i64 d])=true:=by
 have h:kagB Tryz.prog 78=some 4:=by kernel_rfl
 simp[kOK,h,isI64]
theorem zUC(p:Nd):kOK Tryz.prog 78 (ndK p)=true:=zOg _ _ _ _
theorem zGy(ns:List Nd):ns.length*4/4=ns.length:=by omega
structure zDd where
 L:Nat
 tb:List (List Int)
 ws:List (List Nat)
 im:List Int
 ac:List Bool
 pl:List Bool
 rt:List (List Bool)
 lf:List (List Bool)
 tw:List (List Bool)
 od:List Int
def zM(m:List (List Bool)):T:=.sl 1 (m.map zH)
def bdB(D:zDd)(n m:Nat):AObj:=.box 68 [.t 2 (.int .i64 D.L),.t 1 (rows D.tb),.t 1 (.sl 1 (wsT D.ws)),.t 1 (ints D.im),.t 1 (zH D.ac),.t 1 (zH D.pl),.t 1 (zM D.rt),.t 1 (zM D.lf),.t 1 (zM D.tw),.t 1 (ints D.od),.own 1 (n*4),.own 2 0,.own 3 m]
def bdO(D:zDd)(ns:List Nd)(of:List Nat):List AObj:=[bdB D ns.length of.length,.row 78 4 1 (zCR ns),.map 78 3 (kents ndK 0 ns),.row 3 1 1 (idT of)]
theorem zPX{D:zDd}{n m:List Nd}{of:List Nat}(j:Nat)(p:Nat×AV)(hp:[(3,AV.own 3 of.length)][j]? =some p):zW5 (bdO D n of) (bdO D m of) p.1 p.2:=by
 match j with
 |0=>injection hp with hp;subst hp;exact .inr ⟨of.length,_,_,_,_,_,_,_,_,rfl,rfl,by simp[idT],rfl,by simp[idT]⟩
 |j+1=>simp at hp
theorem zl(ns:List Nd)(p:Nd):(addG ns p).1.length<=ns.length+1:=by
 unfold addG;split<;>simp
theorem zC6(D:zDd)(ns:List Nd)(of:List Nat)(p:Nd)(hn:ns.length<=100000):FnK Tryz.prog 75 [.ptr 0 0 13,ndV p] (bdO D ns of) (.t 2 (.int .i64 ((addG ns p).2:Nat))) (bdO D (addG ns p).1 of) [3]:=by
 have hfn:fndT (.sl 99 [.int .i64 (p.1:Int),.int .i64 (p.2.1:Int),.int .i64 (p.2.2.1:Int),.int .i64 (p.2.2.2:Int)]) (kents ndK 0 ns)=ixA p ns:=zBv (f:=ndK) ns 0 (fun y _=>zUd p y);have hall:=zB1 ndK (P:=Tryz.prog) (K:=78) zUC ns 0;have hk4:=zOg (p.1:Int) (p.2.1:Int) (p.2.2.1:Int) (p.2.2.2:Int);have hz1:zC2 Tryz.prog 3=some (.int .i64 0):=by kernel_rfl
 refine zAb [(3,.own 3 of.length)] (fun j p hp=>zPX j p hp) Tryz.func75 rfl (by simp[Tryz.f75]) ?_;rw[show Tryz.f75.ntmps=40 from rfl,show Tryz.f75.results= #[.tmp 4]from rfl];refine rg1 (an @ndV.eq_1 (an @bdO.eq_1 (an @bdB.eq_1 (an @zM.eq_1 @zH.eq_1)))) ?_
 cases hx:ixA p ns with
 |some j=>
  have hj:=zB7 hx;have hje:=zBu ndK ns 0 j _ hj;have hadd:addG ns p=(ns,j):=by simp[addG,hx]
  refine zo (by kernel_rfl) (fun K hK=>?_);simp(maxSteps:=2000000)(disch:=omega)[keyL,hfn,hx,hall,hk4,hz1,hje];and_intros<;>try first|apply hK|(show zAf _ _=true;kernel_rfl)|(show okH _ _ _=true;kernel_rfl)|omega|rfl|simp<;>omega
  refine zD ?_;refine rg0 ?_;refine cS0 ?_;refine rg0 ?_;refine zI ?_;refine⟨⟨.inr rfl,_,[(0,some 0),(1,some 1),(2,some 2),(3,some 3)],(by first|rfl|(simp[ints,rows,scal,tpO,bdO,bdB,hadd,ndV,zM,zH];rfl)),?_,?_,?_,?_⟩,?_⟩
  all_goals try simp[ints,rows,bdO,bdB,hadd,ndV,zM,zH]
 |none=>
  have hdv:=zGy ns;have hadd:addG ns p=(ns++[p],ns.length):=by simp[addG,hx]
  have hl4:(ns++[p]).length*4=ns.length*4+4:=by simp;omega
  refine zo (by kernel_rfl) (fun K hK=>?_);simp(maxSteps:=2000000)(disch:=omega)[keyL,hfn,hx,hall,hk4,hz1];and_intros<;>try first|apply hK|(show zAf _ _=true;kernel_rfl)|(show okH _ _ _=true;kernel_rfl)|omega|rfl|simp<;>omega
  refine zD ?_;refine rg0 ?_;refine cT0 ?_;refine rg1 @hdv ?_;refine zo (by kernel_rfl) (fun K hK=>?_);simp(maxSteps:=2000000)(disch:=omega)[scal,keyL,hfn,hx,hall,hk4];and_intros<;>try first|apply hK|(show zAf _ _=true;kernel_rfl)|(show okH _ _ _=true;kernel_rfl)|omega|rfl|simp<;>omega
  refine zAW (by kernel_rfl) (fun K hK=>?_);simp(maxSteps:=2000000)(disch:=omega);and_intros<;>try first|apply hK|(show zAf _ _=true;kernel_rfl)|(show okH _ _ _=true;kernel_rfl)|omega|rfl|simp<;>omega
  refine zO fun K hK=>?_
  simp(maxSteps:=2000000)(disch:=omega);and_intros<;>try first|apply hK|omega|rfl|simp<;>omega
  refine zI ?_;refine⟨⟨.inr rfl,_,[(0,some 0),(1,some 1),(2,some 2),(3,some 3)],(by first|rfl|(simp[ints,rows,scal,tpO,bdO,bdB,hadd,ndV,zM,zH,zID,zBE,hl4,ndK,ndC];rfl)),?_,?_,?_,?_⟩,?_⟩
  all_goals try simp[ints,rows,bdO,bdB,hadd,ndV,zM,zH,zID,zBE,ndK,ndC]
  all_goals omega
theorem zEs(D:zDd)(ns:List Nd)(of:List Nat)(hn:ns.length<=100000):FnK Tryz.prog 72 [.ptr 0 0 13] (bdO D ns of) (.t 2 (.int .i64 ((addG ns (4,0,0,0)).2:Nat))) (bdO D (addG ns (4,0,0,0)).1 of) [3]:=by
 have hadd:=zC6 D ns of (4,0,0,0) hn;refine zAb [(3,.own 3 of.length)] (fun j p hp=>zPX j p hp) Tryz.func72 rfl (by simp[Tryz.f72]) ?_;rw[show Tryz.f72.ntmps=6 from rfl,show Tryz.f72.results= #[.tmp 2]from rfl];refine rg1 (an @bdO.eq_1 (an @bdB.eq_1 (an @zM.eq_1 @zH.eq_1))) ?_;refine zO fun K hK=>?_
 simp(maxSteps:=2000000)(disch:=omega)
 (repeat' apply And.intro)
 all_goals (try omega)
 refine za (caps:=[]) (hadd) [0,1,2,3] [0,3000004,3000005,3] 1 rfl rfl rfl rfl (by kernel_rfl) (by simp) ?_ ?_ (by simp) rfl (by simp) ⟨.inr (.inl ⟨rfl,0,_,_,_,_,_,rfl,rfl,(by first|rfl|simp[bdO,bdB,ndV,zM,zH]),rfl,(by first|rfl|simp[bdO,bdB,ndV,zM,zH])⟩),.inl ⟨by omega,by omega⟩,.inl ⟨by omega,by omega⟩,.inr (.inr ⟨rfl,by simp,by simp[bdO,bdB,zM,zH]⟩),trivial⟩ (by simp[bdO,bdB,zM,zH]) ?_
 ·simp[scal,ndV]
 ·simp[scal,rows,ints,bdO,bdB,zM,zH]
 simp(maxSteps:=2000000)(disch:=omega)[ints,rows,scal,bdO,bdB,zM,zH];and_intros<;>try first|apply hK|omega|rfl|simp<;>omega
 refine zI ?_;refine⟨⟨.inr rfl,_,[(0,some 0),(1,some 3000004),(2,some 3000005),(3,some 3)],(by first|rfl|(simp[ints,rows,scal,tpO,bdO,bdB,zM,zH];rfl)),?_,?_,?_,?_⟩,?_⟩
 all_goals try simp[ints,rows,bdO,bdB,zM,zH]
theorem zDw(D:zDd)(ns:List Nd)(of:List Nat)(a:Nat)(hn:ns.length<=100000):FnK Tryz.prog 69 [.ptr 0 0 13,.t 2 (.int .i64 a)] (bdO D ns of) (.t 2 (.int .i64 ((addG ns (3,a,0,0)).2:Nat))) (bdO D (addG ns (3,a,0,0)).1 of) [3]:=by
 have hadd:=zC6 D ns of (3,a,0,0) hn;refine zAb [(3,.own 3 of.length)] (fun j p hp=>zPX j p hp) Tryz.func69 rfl (by simp[Tryz.f69]) ?_;rw[show Tryz.f69.ntmps=9 from rfl,show Tryz.f69.results= #[.tmp 4]from rfl];refine rg1 (an @bdO.eq_1 (an @bdB.eq_1 (an @zM.eq_1 @zH.eq_1))) ?_;refine zO fun K hK=>?_
 simp(maxSteps:=2000000)(disch:=omega)
 (repeat' apply And.intro)
 all_goals (try omega)
 refine za (caps:=[]) (hadd) [0,1,2,3] [0,4000004,4000005,3] 1 rfl rfl rfl rfl (by kernel_rfl) (by simp) ?_ ?_ (by simp) rfl (by simp) ⟨.inr (.inl ⟨rfl,0,_,_,_,_,_,rfl,rfl,(by first|rfl|simp[bdO,bdB,ndV,zM,zH]),rfl,(by first|rfl|simp[bdO,bdB,ndV,zM,zH])⟩),.inl ⟨by omega,by omega⟩,.inl ⟨by omega,by omega⟩,.inr (.inr ⟨rfl,by simp,by simp[bdO,bdB,zM,zH]⟩),trivial⟩ (by simp[bdO,bdB,zM,zH]) ?_
 ·simp[scal,ndV]
 ·simp[scal,rows,ints,bdO,bdB,zM,zH]
 simp(maxSteps:=2000000)(disch:=omega)[ints,rows,scal,bdO,bdB,zM,zH];and_intros<;>try first|apply hK|omega|rfl|simp<;>omega
 refine zI ?_;refine⟨⟨.inr rfl,_,[(0,some 0),(1,some 4000004),(2,some 4000005),(3,some 3)],(by first|rfl|(simp[ints,rows,scal,tpO,bdO,bdB,zM,zH];rfl)),?_,?_,?_,?_⟩,?_⟩
 all_goals try simp[ints,rows,bdO,bdB,zM,zH]
theorem zCe(D:zDd)(ns:List Nd)(of:List Nat)(x y:Nat)(hn:ns.length<=100000):FnK Tryz.prog 71 [.ptr 0 0 13,.t 2 (.int .i64 x),.t 2 (.int .i64 y)] (bdO D ns of) (.t 2 (.int .i64 ((addG ns (7,0,x,y)).2:Nat))) (bdO D (addG ns (7,0,x,y)).1 of) [3]:=by
 have hadd:=zC6 D ns of (7,0,x,y) hn;refine zAb [(3,.own 3 of.length)] (fun j p hp=>zPX j p hp) Tryz.func71 rfl (by simp[Tryz.f71]) ?_;rw[show Tryz.f71.ntmps=12 from rfl,show Tryz.f71.results= #[.tmp 6]from rfl];refine rg1 (an @bdO.eq_1 (an @bdB.eq_1 (an @zM.eq_1 @zH.eq_1))) ?_;refine zO fun K hK=>?_
 simp(maxSteps:=2000000)(disch:=omega)
 (repeat' apply And.intro)
 all_goals (try omega)
 refine za (caps:=[]) (hadd) [0,1,2,3] [0,5000004,5000005,3] 1 rfl rfl rfl rfl (by kernel_rfl) (by simp) ?_ ?_ (by simp) rfl (by simp) ⟨.inr (.inl ⟨rfl,0,_,_,_,_,_,rfl,rfl,(by first|rfl|simp[bdO,bdB,ndV,zM,zH]),rfl,(by first|rfl|simp[bdO,bdB,ndV,zM,zH])⟩),.inl ⟨by omega,by omega⟩,.inl ⟨by omega,by omega⟩,.inr (.inr ⟨rfl,by simp,by simp[bdO,bdB,zM,zH]⟩),trivial⟩ (by simp[bdO,bdB,zM,zH]) ?_
 ·simp[scal,ndV]
 ·simp[scal,rows,ints,bdO,bdB,zM,zH]
 simp(maxSteps:=2000000)(disch:=omega)[ints,rows,scal,bdO,bdB,zM,zH];and_intros<;>try first|apply hK|omega|rfl|simp<;>omega
 refine zI ?_;refine⟨⟨.inr rfl,_,[(0,some 0),(1,some 5000004),(2,some 5000005),(3,some 3)],(by first|rfl|(simp[ints,rows,scal,tpO,bdO,bdB,zM,zH];rfl)),?_,?_,?_,?_⟩,?_⟩
 all_goals try simp[ints,rows,bdO,bdB,zM,zH]
theorem zOl(D:zDd)(ns:List Nd)(of:List Nat)(x y:Nat)(hn:ns.length<=100000):FnK Tryz.prog 73 [.ptr 0 0 13,.t 2 (.int .i64 x),.t 2 (.int .i64 y)] (bdO D ns of) (.t 2 (.int .i64 ((addG ns (6,0,x,y)).2:Nat))) (bdO D (addG ns (6,0,x,y)).1 of) [3]:=by
 have hadd:=zC6 D ns of (6,0,x,y) hn;refine zAb [(3,.own 3 of.length)] (fun j p hp=>zPX j p hp) Tryz.func73 rfl (by simp[Tryz.f73]) ?_;rw[show Tryz.f73.ntmps=12 from rfl,show Tryz.f73.results= #[.tmp 6]from rfl];refine rg1 (an @bdO.eq_1 (an @bdB.eq_1 (an @zM.eq_1 @zH.eq_1))) ?_;refine zO fun K hK=>?_
 simp(maxSteps:=2000000)(disch:=omega)
 (repeat' apply And.intro)
 all_goals (try omega)
 refine za (caps:=[]) (hadd) [0,1,2,3] [0,5000004,5000005,3] 1 rfl rfl rfl rfl (by kernel_rfl) (by simp) ?_ ?_ (by simp) rfl (by simp) ⟨.inr (.inl ⟨rfl,0,_,_,_,_,_,rfl,rfl,(by first|rfl|simp[bdO,bdB,ndV,zM,zH]),rfl,(by first|rfl|simp[bdO,bdB,ndV,zM,zH])⟩),.inl ⟨by omega,by omega⟩,.inl ⟨by omega,by omega⟩,.inr (.inr ⟨rfl,by simp,by simp[bdO,bdB,zM,zH]⟩),trivial⟩ (by simp[bdO,bdB,zM,zH]) ?_
 ·simp[scal,ndV]
 ·simp[scal,rows,ints,bdO,bdB,zM,zH]
 simp(maxSteps:=2000000)(disch:=omega)[ints,rows,scal,bdO,bdB,zM,zH];and_intros<;>try first|apply hK|omega|rfl|simp<;>omega
 refine zI ?_;refine⟨⟨.inr rfl,_,[(0,some 0),(1,some 5000004),(2,some 5000005),(3,some 3)],(by first|rfl|(simp[ints,rows,scal,tpO,bdO,bdB,zM,zH];rfl)),?_,?_,?_,?_⟩,?_⟩
 all_goals try simp[ints,rows,bdO,bdB,zM,zH]
def zHA(ns:List Nd)(x:Nat)(r:List Nat)(k:Nat):List Nd×Nat:=(r.take k).foldl (fun s y=>addG s.1 (5,0,s.2,y)) (ns,x)
theorem zHT{ns:List Nd}{x:Nat}{r:List Nat}{k:Nat}(h:k<r.length):zHA ns x r (k+1)=addG (zHA ns x r k).1 (5,0,(zHA ns x r k).2,r[k]):=by
 unfold zHA;rw[Qe h,List.foldl_append];rfl
theorem zGp(ns:List Nd)(x:Nat)(r:List Nat): ∀k,(zHA ns x r k).1.length<=ns.length+k
 |0=>Qy _
 |k+1=>by
  have ih:=zGp ns x r k;by_cases h:k<r.length
  ·rw[zHT h];have:=zl (zHA ns x r k).1 (5,0,(zHA ns x r k).2,r[k]);omega
  ·have e:zHA ns x r (k+1)=zHA ns x r k:=by
    unfold zHA;rw[Qm (by omega),Qm (by omega)]
   rw[e];omega
theorem zIZ(ns:List Nd)(x:Nat)(r:List Nat):zHA ns x r r.length=zEQ ns (x::r):=by
 unfold zHA zEQ;rw[List.take_length]
theorem zJD(x:Nat)(r:List Nat):nI (x::r)=(x:Int)::nI r:=rfl
theorem zGs(D:zDd)(ns:List Nd)(of:List Nat)(l:List Nat)(hn:ns.length+l.length<=100000):FnK Tryz.prog 32 [.ptr 0 0 13,.t 0 (ints (nI l))] (bdO D ns of) (.t 2 (.int .i64 ((zEQ ns l).2:Nat))) (bdO D (zEQ ns l).1 of) [3]:=by
 refine zAb [(3,.own 3 of.length)] (fun j p hp=>zPX j p hp) Tryz.func32 rfl (by simp[Tryz.f32]) ?_;rw[show Tryz.f32.ntmps=31 from rfl,show Tryz.f32.results= #[.tmp 4]from rfl];refine rg1 (an @bdO.eq_1 (an @bdB.eq_1 (an @zM.eq_1 @zH.eq_1))) ?_;refine zD ?_
 cases l with
 |nil=>
  have hadd:=zC6 D ns of (1,0,0,0) (by simp at hn;omega);have hu:zEQ ns []=addG ns (1,0,0,0):=rfl;refine rg1 @nI.eq_1 ?_;refine cT0 ?_;refine zO fun K hK=>?_
  simp
  (repeat' apply And.intro)
  all_goals (try omega)
  refine za (caps:=[]) (hadd) [0,1,2,3] [0,6000004,6000005,3] 1 rfl rfl rfl rfl (by kernel_rfl) (by simp) ?_ ?_ (by simp) rfl (by simp) ⟨.inr (.inl ⟨rfl,0,_,_,_,_,_,rfl,rfl,(by first|rfl|simp[bdO,bdB,ndV,zM,zH]),rfl,(by first|rfl|simp[bdO,bdB,ndV,zM,zH])⟩),.inl ⟨by omega,by omega⟩,.inl ⟨by omega,by omega⟩,.inr (.inr ⟨rfl,by simp,by simp[bdO,bdB,zM,zH]⟩),trivial⟩ (by simp[bdO,bdB,zM,zH]) ?_
  ·simp[scal,ndV]
  ·simp[scal,rows,ints,bdO,bdB,zM,zH]
  simp[ints,rows,scal,bdO,bdB,zM,zH];and_intros<;>try first|apply hK|omega|rfl|simp<;>omega
  refine zI ?_;refine⟨⟨.inr rfl,_,[(0,some 0),(1,some 6000004),(2,some 6000005),(3,some 3)],(by first|rfl|(simp[ints,rows,scal,tpO,bdO,bdB,zM,zH,hu,nI];rfl)),?_,?_,?_,?_⟩,?_⟩
  all_goals try simp[ints,rows,bdO,bdB,zM,zH,hu,nI]
 |cons x r=>
  have hl:(nI r).length=r.length:=zEg r;have hne: ¬((r.length:Int)+1=0):=by omega
  simp only[List.length_cons]at hn;refine rg1 (an @zJD (an @hl @hne)) ?_;refine cS1 @hne ?_;refine rg1 (an @zJD @hl) ?_;refine zD ?_;refine rg1 (an @zJD @hl) ?_;refine zG ?_;refine awp_loop (fun k:Nat=>mkS [(0,.ptr 0 0 13),(5,.t 2 (.int .i64 ((zHA ns x r k).2:Nat))),(18,.t 0 (ints (nI r))),(19,.t 2 (.int .i64 r.length)),(20,.t 2 (.int .i64 k))]
    [(0,bdB D (zHA ns x r k).1.length of.length),(1,.row 78 4 1 (zCR (zHA ns x r k).1)),(2,.map 78 3 (kents ndK 0 (zHA ns x r k).1)),(3,.row 3 1 1 (idT of))] 4 31 [.ptr 0 0 13,.any,.own 3 of.length]) (fun k=>k<=r.length) (fun k=>r.length-k) ?_ ?_
  ·refine⟨0,by omega,?_⟩;refine zP [(0,some 0),(1,some 1),(2,some 2),(3,some 3)] rfl ?_ ?_ ?_ ?_
   all_goals try simp[ints,bdB,rows,zH,zM,zH,zHA]
   exact Qm (by simp)
  intro k hk;have hlen:=zGp ns x r k;refine rg0 ?_;refine zD ?_;by_cases hlt:k<r.length
  ·have hadd:=zC6 D (zHA ns x r k).1 of (5,0,(zHA ns x r k).2,r[k]) (by omega);have hs:=zHT (ns:=ns) (x:=x) hlt;have hget:(nI r)[k]? =some (r[k]:Int):=zRu hlt;have hgt: ∀h,(nI r)[k]'h=(r[k]:Int):=fun h=>by simp[nI]
   rw[←hs]at hadd;refine cK1 @hlt ?_;refine zD ?_;refine zG ?_;refine rg1 (an @hl (an @hlt @hgt)) ?_;refine zAE fun K hK=>?_
   simp
   (repeat' apply And.intro)
   all_goals (try omega)
   refine za (caps:=[]) (hadd) [0,1,2,3] [0,8000004,8000005,3] 1 rfl rfl rfl rfl (by kernel_rfl) (by simp) ?_ ?_ (by simp) rfl (by simp) ⟨.inr (.inl ⟨rfl,0,_,_,_,_,_,rfl,rfl,(by first|rfl|simp[bdO,bdB,ndV,zM,zH]),rfl,(by first|rfl|simp[bdO,bdB,ndV,zM,zH])⟩),.inl ⟨by omega,by omega⟩,.inl ⟨by omega,by omega⟩,.inr (.inr ⟨rfl,by simp,by simp[bdO,bdB,zM,zH]⟩),trivial⟩ (by simp[bdO,bdB,zM,zH]) ?_
   ·simp[scal,rows,ints,bdB,ndV,zM,zH]
   ·simp[scal,rows,ints,bdO,bdB,zM,zH]
   simp[ints,rows,scal,bdO,bdB,zM,zH];and_intros<;>try first|apply hK|omega|rfl|simp<;>omega
   refine rr0 ?_;refine⟨k+1,by omega,by omega,?_⟩;exact kw1 [(0,some 0),(1,some 8000004),(2,some 8000005),(3,some 3)] (an @bdB.eq_1 (an @rows.eq_1 (an @zH.eq_1 @zM.eq_1)))
  ·obtain rfl:k=r.length:=by omega
   have hf:=zIZ ns x r;refine cF0 ?_;refine zK ?_;refine rg0 ?_;refine zI ?_;refine⟨⟨.inr rfl,_,[(0,some 0),(1,some 1),(2,some 2),(3,some 3)],(by first|rfl|(simp[ints,rows,scal,tpO,bdO,bdB,zM,zH,hf];rfl)),?_,?_,?_,?_⟩,?_⟩
   all_goals try simp[ints,rows,bdO,bdB,zM,zH,hf]
theorem zEa(ns:List Nd)(l:List Nat):(zEQ ns l).1.length<=ns.length+l.length+1:=by
 cases l with
 |nil=>exact zl ns _
 |cons x r=>
  rw[←zIZ];have:=zGp ns x r r.length;simp;omega
theorem zMo(D:zDd)(ns:List Nd)(of:List Nat)(l:List Nat)(hn:ns.length+l.length<=90000):FnK Tryz.prog 70 [.ptr 0 0 13,.t 0 (ints (nI l))] (bdO D ns of) (.t 2 (.int .i64 ((zFF ns l).2:Nat))) (bdO D (zFF ns l).1 of) [3]:=by
 refine zAb [(3,.own 3 of.length)] (fun j p hp=>zPX j p hp) Tryz.func70 rfl (by simp[Tryz.f70]) ?_;rw[show Tryz.f70.ntmps=26 from rfl,show Tryz.f70.results= #[.tmp 4]from rfl];have hl:(nI l).length=l.length:=zEg l;refine rg1 (an @bdO.eq_1 (an @bdB.eq_1 (an @zM.eq_1 @zH.eq_1))) ?_;refine zD ?_;by_cases he:l=[]
 ·subst he;have hall:=zEs D ns of (by simp at hn;omega);have hw:zFF ns []=addG ns (4,0,0,0):=by unfold zFF;rw[if_pos rfl]
  refine rg1 @nI.eq_1 ?_;refine cT0 ?_;refine zO fun K hK=>?_
  simp
  (repeat' apply And.intro)
  all_goals (try omega)
  refine za (caps:=[]) (hall) [0,1,2,3] [0,5000004,5000005,3] 1 rfl rfl rfl rfl (by kernel_rfl) (by simp) ?_ ?_ (by simp) rfl (by simp) ⟨.inr (.inl ⟨rfl,0,_,_,_,_,_,rfl,rfl,(by first|rfl|simp[bdO,bdB,zM,zH]),rfl,(by first|rfl|simp[bdO,bdB,zM,zH])⟩),.inl ⟨by omega,by omega⟩,.inl ⟨by omega,by omega⟩,.inr (.inr ⟨rfl,by simp,by simp[bdO,bdB,zM,zH]⟩),trivial⟩ (by simp[bdO,bdB,zM,zH]) ?_
  ·simp
  ·simp[scal,rows,ints,bdO,bdB,zM,zH]
  simp[ints,rows,scal,bdO,bdB,zM,zH];and_intros<;>try first|apply hK|omega|rfl|simp<;>omega
  refine zI ?_;refine⟨⟨.inr rfl,_,[(0,some 0),(1,some 5000004),(2,some 5000005),(3,some 3)],(by first|rfl|(simp[ints,rows,scal,tpO,bdO,bdB,zM,zH,hw,nI];rfl)),?_,?_,?_,?_⟩,?_⟩
  all_goals try simp[ints,rows,bdO,bdB,zM,zH,hw,nI]
 ·have hpos:0<l.length:=List.length_pos_iff.2 he;have hne: ¬((l.length:Int)=0):=by omega
  have hneb:((l.length:Int)==0)=false:=by simpa using hne
  have l1:=zl ns (4,0,0,0);have hw:zFF ns l=(let s1:=addG ns (4,0,0,0);let s2:=zEQ s1.1 l;let s3:=addG s2.1 (4,0,0,0);let s4:=addG s3.1 (7,0,s2.2,s3.2);let s5:=addG s4.1 (7,0,s1.2,s4.2);addG s5.1 (8,0,s5.2,0)):=by
   unfold zFF;rw[if_neg he]
  have c1:=zEs D ns of (by omega);obtain⟨s1,e1⟩: ∃s1,s1=addG ns (4,0,0,0):=⟨_,rfl⟩;have l2:=zEa s1.1 l;have c2:=zGs D s1.1 of l (by rw[e1];omega);obtain⟨s2,e2⟩: ∃s2,s2=zEQ s1.1 l:=⟨_,rfl⟩;have l3:=zl s2.1 (4,0,0,0);rw[←e1]at c1 l1;rw[←e2]at c2 l2;have c3:=zEs D s2.1 of (by omega);obtain⟨s3,e3⟩: ∃s3,s3=addG s2.1 (4,0,0,0):=⟨_,rfl⟩;rw[←e3]at c3 l3;have l4:=zl s3.1 (7,0,s2.2,s3.2);have c4:=zCe D s3.1 of s2.2 s3.2 (by omega);obtain⟨s4,e4⟩: ∃s4,s4=addG s3.1 (7,0,s2.2,s3.2):=⟨_,rfl⟩;rw[←e4]at c4 l4;have l5:=zl s4.1 (7,0,s1.2,s4.2);have c5:=zCe D s4.1 of s1.2 s4.2 (by omega);obtain⟨s5,e5⟩: ∃s5,s5=addG s4.1 (7,0,s1.2,s4.2):=⟨_,rfl⟩;rw[←e5]at c5 l5;have c6:=zC6 D s5.1 of (8,0,s5.2,0) (by omega);have hw2:zFF ns l=addG s5.1 (8,0,s5.2,0):=by
   rw[hw];simp only[←e1,←e2,←e3,←e4,←e5]
  rw[←hw2]at c6;clear e1 e2 e3 e4 e5 hw hw2;refine rg1 (an @hl @hneb) ?_;refine cS0 ?_;refine zO fun K hK=>?_
  simp
  (repeat' apply And.intro)
  all_goals (try omega)
  refine za (caps:=[]) (c1) [0,1,2,3] [0,6000004,6000005,3] 1 rfl rfl rfl rfl (by kernel_rfl) (by simp) ?_ ?_ (by simp) rfl (by simp) ⟨.inr (.inl ⟨rfl,0,_,_,_,_,_,rfl,rfl,(by first|rfl|simp[bdO,bdB,zM,zH]),rfl,(by first|rfl|simp[bdO,bdB,zM,zH])⟩),.inl ⟨by omega,by omega⟩,.inl ⟨by omega,by omega⟩,.inr (.inr ⟨rfl,by simp,by simp[bdO,bdB,zM,zH]⟩),trivial⟩ (by simp[bdO,bdB,zM,zH]) ?_
  ·simp
  ·simp[scal,rows,ints,bdO,bdB,zM,zH]
  simp[ints,rows,scal,bdO,bdB,zM,zH]
  (repeat' apply And.intro)
  all_goals (try omega)
  refine za (caps:=[]) (c2) [0,6000004,6000005,3] [0,10000004,10000005,3] 1 rfl rfl rfl rfl (by kernel_rfl) (by simp) ?_ ?_ (by simp) rfl (by simp) ⟨.inr (.inl ⟨rfl,0,_,_,_,_,_,rfl,rfl,(by first|rfl|simp[bdO,bdB,zM,zH]),rfl,(by first|rfl|simp[bdO,bdB,zM,zH])⟩),.inl ⟨by omega,by omega⟩,.inl ⟨by omega,by omega⟩,.inr (.inr ⟨rfl,by simp,by simp[bdO,bdB,zM,zH]⟩),trivial⟩ (by simp[bdO,bdB,zM,zH]) ?_
  ·simp[scal,ints]
  ·simp[scal,rows,ints,bdO,bdB,zM,zH]
  simp[ints,rows,scal,bdO,bdB,zM,zH]
  (repeat' apply And.intro)
  all_goals (try omega)
  refine za (caps:=[]) (c3) [0,10000004,10000005,3] [0,12000004,12000005,3] 1 rfl rfl rfl rfl (by kernel_rfl) (by simp) ?_ ?_ (by simp) rfl (by simp) ⟨.inr (.inl ⟨rfl,0,_,_,_,_,_,rfl,rfl,(by first|rfl|simp[bdO,bdB,zM,zH]),rfl,(by first|rfl|simp[bdO,bdB,zM,zH])⟩),.inl ⟨by omega,by omega⟩,.inl ⟨by omega,by omega⟩,.inr (.inr ⟨rfl,by simp,by simp[bdO,bdB,zM,zH]⟩),trivial⟩ (by simp[bdO,bdB,zM,zH]) ?_
  ·simp
  ·simp[scal,rows,ints,bdO,bdB,zM,zH]
  simp[ints,rows,scal,bdO,bdB,zM,zH]
  (repeat' apply And.intro)
  all_goals (try omega)
  refine za (caps:=[]) (c4) [0,12000004,12000005,3] [0,13000004,13000005,3] 1 rfl rfl rfl rfl (by kernel_rfl) (by simp) ?_ ?_ (by simp) rfl (by simp) ⟨.inr (.inl ⟨rfl,0,_,_,_,_,_,rfl,rfl,(by first|rfl|simp[bdO,bdB,zM,zH]),rfl,(by first|rfl|simp[bdO,bdB,zM,zH])⟩),.inl ⟨by omega,by omega⟩,.inl ⟨by omega,by omega⟩,.inr (.inr ⟨rfl,by simp,by simp[bdO,bdB,zM,zH]⟩),trivial⟩ (by simp[bdO,bdB,zM,zH]) ?_
  ·simp[scal]
  ·simp[scal,rows,ints,bdO,bdB,zM,zH]
  simp[ints,rows,scal,bdO,bdB,zM,zH]
  (repeat' apply And.intro)
  all_goals (try omega)
  refine za (caps:=[]) (c5) [0,13000004,13000005,3] [0,14000004,14000005,3] 1 rfl rfl rfl rfl (by kernel_rfl) (by simp) ?_ ?_ (by simp) rfl (by simp) ⟨.inr (.inl ⟨rfl,0,_,_,_,_,_,rfl,rfl,(by first|rfl|simp[bdO,bdB,zM,zH]),rfl,(by first|rfl|simp[bdO,bdB,zM,zH])⟩),.inl ⟨by omega,by omega⟩,.inl ⟨by omega,by omega⟩,.inr (.inr ⟨rfl,by simp,by simp[bdO,bdB,zM,zH]⟩),trivial⟩ (by simp[bdO,bdB,zM,zH]) ?_
  ·simp[scal]
  ·simp[scal,rows,ints,bdO,bdB,zM,zH]
  simp[ints,rows,scal,bdO,bdB,zM,zH];and_intros<;>try first|apply hK|omega|rfl|simp<;>omega
  refine zO fun K hK=>?_
  simp
  (repeat' apply And.intro)
  all_goals (try omega)
  refine za (caps:=[]) (c6) [0,14000004,14000005,3] [0,19000004,19000005,3] 1 rfl rfl rfl rfl (by kernel_rfl) (by simp) ?_ ?_ (by simp) rfl (by simp) ⟨.inr (.inl ⟨rfl,0,_,_,_,_,_,rfl,rfl,(by first|rfl|simp[bdO,bdB,ndV,zM,zH]),rfl,(by first|rfl|simp[bdO,bdB,ndV,zM,zH])⟩),.inl ⟨by omega,by omega⟩,.inl ⟨by omega,by omega⟩,.inr (.inr ⟨rfl,by simp,by simp[bdO,bdB,zM,zH]⟩),trivial⟩ (by simp[bdO,bdB,zM,zH]) ?_
  ·simp[scal,ndV]
  ·simp[scal,rows,ints,bdO,bdB,zM,zH]
  simp[ints,rows,scal,bdO,bdB,zM,zH];and_intros<;>try first|apply hK|omega|rfl|simp<;>omega
  refine zI ?_;refine⟨⟨.inr rfl,_,[(0,some 0),(1,some 19000004),(2,some 19000005),(3,some 3)],(by first|rfl|(simp[ints,rows,scal,tpO,bdO,bdB,zM,zH];rfl)),?_,?_,?_,?_⟩,?_⟩
  all_goals try simp[ints,rows,bdO,bdB,zM,zH]
abbrev ElS:=List Nd×List Nat×List Nat
def stB(of:Nat->Nat)(c:Bool)(x a:Nat)(s:ElS):ElS:=if c=true then((addG (addG s.1 (3,a,0,0)).1 (7,0,of x,(addG s.1 (3,a,0,0)).2)).1,s.2.1++[(addG (addG s.1 (3,a,0,0)).1 (7,0,of x,(addG s.1 (3,a,0,0)).2)).2],s.2.2)else s
def stE(of:Nat->Nat)(c:Bool)(x a:Nat)(s:ElS):ElS:=if c=true then((addG (addG s.1 (3,a,0,0)).1 (7,0,(addG s.1 (3,a,0,0)).2,of x)).1,s.2.1,s.2.2++[(addG (addG s.1 (3,a,0,0)).1 (7,0,(addG s.1 (3,a,0,0)).2,of x)).2])else s
def elF(of:Nat->Nat)(cB cE:Nat->Nat->Bool)(ps:List (Nat×Nat))(s:ElS):ElS:=ps.foldl (fun s p=>stE of (cE p.1 p.2) p.1 p.2 (stB of (cB p.1 p.2) p.1 p.2 s)) s
theorem zGH(of:Nat->Nat)(cB cE:Nat->Nat->Bool)(ps:List (Nat×Nat))(p:Nat×Nat)(s:ElS):elF of cB cE (ps++[p]) s=stE of (cE p.1 p.2) p.1 p.2 (stB of (cB p.1 p.2) p.1 p.2 (elF of cB cE ps s)):=by
 unfold elF;rw[List.foldl_append];rfl
theorem zI1(of:Nat->Nat)(c:Bool)(x a:Nat)(s:ElS):(stB of c x a s).1.length<=s.1.length+2/\(stB of c x a s).2.1.length<=s.2.1.length+1/\(stB of c x a s).2.2=s.2.2:=by
 unfold stB;split
 ·have h1:=zl s.1 (3,a,0,0);have h2:=zl (addG s.1 (3,a,0,0)).1 (7,0,of x,(addG s.1 (3,a,0,0)).2);exact⟨by show(addG _ _).1.length<=_;omega,by simp,rfl⟩
 ·exact⟨by omega,by omega,rfl⟩
theorem zSb(of:Nat->Nat)(c:Bool)(x a:Nat)(s:ElS):(stE of c x a s).1.length<=s.1.length+2/\(stE of c x a s).2.1=s.2.1/\(stE of c x a s).2.2.length<=s.2.2.length+1:=by
 unfold stE;split
 ·have h1:=zl s.1 (3,a,0,0);have h2:=zl (addG s.1 (3,a,0,0)).1 (7,0,(addG s.1 (3,a,0,0)).2,of x);exact⟨by show(addG _ _).1.length<=_;omega,rfl,by simp⟩
 ·exact⟨by omega,rfl,by omega⟩
theorem zOe(of:Nat->Nat)(cB cE:Nat->Nat->Bool)(ps:List (Nat×Nat))(s:ElS):(elF of cB cE ps s).1.length<=s.1.length+4*ps.length/\(elF of cB cE ps s).2.1.length<=s.2.1.length+ps.length/\(elF of cB cE ps s).2.2.length<=s.2.2.length+ps.length:=by
 refine zBC (P:=fun ps=>(elF of cB cE ps s).1.length<=s.1.length+4*ps.length/\(elF of cB cE ps s).2.1.length<=s.2.1.length+ps.length/\(elF of cB cE ps s).2.2.length<=s.2.2.length+ps.length) ⟨Qy _,Qy _,Qy _⟩ (fun ps p ih=>?_) ps;obtain⟨i1,i2,i3⟩:=ih;rw[zGH];obtain⟨b1,b2,b3⟩:=zI1 of (cB p.1 p.2) p.1 p.2 (elF of cB cE ps s);obtain⟨e1,e2,e3⟩:=zSb of (cE p.1 p.2) p.1 p.2 (stB of (cB p.1 p.2) p.1 p.2 (elF of cB cE ps s));rw[e2];rw[b3]at e3;simp only[List.length_append,List.length_singleton];omega
section
variable{L:Nat}{T:Nat->Nat->Nat}{im of:Nat->Nat}{cB cE:Nat->Nat->Bool}
theorem zVC{ns:List Nd}(h:GV L ns)(ps:List (Nat×Nat)):(∀p∈ps,p.2<L/\Sm L ns (of p.1) fun w=>vlW T im w=p.1)→
  GV L (elF of cB cE ps (ns,[],[])).1/\zCo (4*ps.length) ns (elF of cB cE ps (ns,[],[])).1∧
  UB L (elF of cB cE ps (ns,[],[])).1 (elF of cB cE ps (ns,[],[])).2.1 (BgP T im fun x a=>(x,a)∈ps/\cB x a=true)∧
  UB L (elF of cB cE ps (ns,[],[])).1 (elF of cB cE ps (ns,[],[])).2.2 (EnP T im fun x a=>(x,a)∈ps/\cE x a=true):=by
 refine zBC (P:=fun ps=>(∀p∈ps,p.2<L/\Sm L ns (of p.1) fun w=>vlW T im w=p.1)->GV L (elF of cB cE ps (ns,[],[])).1/\zCo (4*ps.length) ns (elF of cB cE ps (ns,[],[])).1/\UB L (elF of cB cE ps (ns,[],[])).1 (elF of cB cE ps (ns,[],[])).2.1 (BgP T im fun x a=>(x,a)∈ps/\cB x a=true)/\UB L (elF of cB cE ps (ns,[],[])).1 (elF of cB cE ps (ns,[],[])).2.2 (EnP T im fun x a=>(x,a)∈ps/\cE x a=true)) ?_ (fun ps p ih=>?_) ps
 ·intro _;refine⟨h,.refl _ _,(UB.nil (ns:=ns)).iff fun w _=>⟨fun hf=>hf.elim,fun⟨x,a,⟨hm,_⟩,_⟩=>by simp at hm⟩,(UB.nil (ns:=ns)).iff fun w _=>⟨fun hf=>hf.elim,fun⟨x,a,⟨hm,_⟩,_⟩=>by simp at hm⟩⟩
 ·intro hp;obtain⟨i1,i2,i3,i4⟩:=ih fun q hq=>hp q (by simp[hq])
  obtain⟨hpa,hps⟩:=hp p (by simp);obtain⟨x,a⟩:=p;simp only at hpa hps;rw[zGH];simp only;generalize elF of cB cE ps (ns,[],[])=s at i1 i2 i3 i4 ⊢;obtain⟨n0,b0,e0⟩:=s;simp only at i1 i2 i3 i4
  -- what begins a word
  obtain⟨s1,hs1⟩: ∃s1,s1=stB of (cB x a) x a (n0,b0,e0):=⟨_,rfl⟩;have k1:GV L s1.1/\zCo (4*ps.length+2) ns s1.1/\UB L s1.1 s1.2.1 (BgP T im fun y c=>(y,c)∈ps++[(x,a)]/\cB y c=true)/\UB L s1.1 s1.2.2 (EnP T im fun x a=>(x,a)∈ps/\cE x a=true):=by
   rw[hs1];unfold stB
   cases c:cB x a with
   |false=>
    refine⟨i1,i2.mono (by omega),i3.iff fun w _=>⟨fun⟨y,d,⟨m1,m2⟩,e⟩=>⟨y,d,⟨by simp[m1],m2⟩,e⟩,fun⟨y,d,⟨m1,m2⟩,e⟩=>⟨y,d,⟨?_,m2⟩,e⟩⟩,i4⟩;rcases List.mem_append.1 m1 with m1|m1
    ·exact m1
    ·simp only[List.mem_singleton,Qk]at m1;rw[m1.1,m1.2,c]at m2
     cases m2
   |true=>
    obtain⟨g1,g2,g3⟩:=zCs i1 hpa;obtain⟨f1,f2,f3⟩:=zBl g1 ((hps.ext i2).ext g2) g3;refine⟨f1,((i2.trans g2).trans f2).mono (by omega),(((i3.ext g2).ext f2).add f3).iff fun w _=>⟨?_,?_⟩,(i4.ext g2).ext f2⟩
    ·rintro(⟨y,d,⟨m1,m2⟩,e⟩|e)
     ·exact⟨y,d,⟨by simp[m1],m2⟩,e⟩
     ·exact⟨x,a,⟨by simp,c⟩,e⟩
    ·rintro⟨y,d,⟨m1,m2⟩,e⟩;rcases List.mem_append.1 m1 with m1|m1
     ·exact .inl ⟨y,d,⟨m1,m2⟩,e⟩
     ·simp only[List.mem_singleton,Qk]at m1;obtain⟨rfl,rfl⟩:=m1;exact .inr e
  rw[←hs1];clear hs1 i1 i3 i4;obtain⟨j1,j2,j3,j4⟩:=k1;have hl:4*(ps++[(x,a)]).length=4*ps.length+4:=by simp;omega
  rw[hl];unfold stE
  cases c:cE x a with
  |false=>
   refine⟨j1,j2.mono (by omega),j3,j4.iff fun w _=>⟨fun⟨y,d,⟨m1,m2⟩,e⟩=>⟨y,d,⟨by simp[m1],m2⟩,e⟩,fun⟨y,d,⟨m1,m2⟩,e⟩=>⟨y,d,⟨?_,m2⟩,e⟩⟩⟩;rcases List.mem_append.1 m1 with m1|m1
   ·exact m1
   ·simp only[List.mem_singleton,Qk]at m1;rw[m1.1,m1.2,c]at m2
    cases m2
  |true=>
   obtain⟨g1,g2,g3⟩:=zCs j1 hpa;obtain⟨f1,f2,f3⟩:=zBl g1 g3 ((hps.ext j2).ext g2);refine⟨f1,((j2.trans g2).trans f2).mono (by omega),(j3.ext g2).ext f2,(((j4.ext g2).ext f2).add f3).iff fun w _=>⟨?_,?_⟩⟩
   ·rintro(⟨y,d,⟨m1,m2⟩,e⟩|e)
    ·exact⟨y,d,⟨by simp[m1],m2⟩,e⟩
    ·exact⟨x,a,⟨by simp,c⟩,e⟩
   ·rintro⟨y,d,⟨m1,m2⟩,e⟩;rcases List.mem_append.1 m1 with m1|m1
    ·exact .inl ⟨y,d,⟨m1,m2⟩,e⟩
    ·simp only[List.mem_singleton,Qk]at m1;obtain⟨rfl,rfl⟩:=m1;exact .inr e
end
def elQ(x k:Nat):List (Nat×Nat):=(List.range k).map fun a=>(x,a)
def elP(L:Nat)(xs:List Nat):List (Nat×Nat):=xs.flatMap fun x=>elQ x L
theorem zP0(x:Nat):elQ x 0=[]:=rfl
theorem zPb(x k:Nat):elQ x (k+1)=elQ x k++[(x,k)]:=by simp[elQ,List.range_succ]
theorem zP1(L:Nat)(xs:List Nat){i:Nat}(hi:i<xs.length):elP L (xs.take (i+1))=elP L (xs.take i)++elQ xs[i] L:=by
 unfold elP;rw[Qe hi,List.flatMap_append];simp only[List.flatMap_cons,List.flatMap_nil,List.append_nil]
theorem zMs(x k:Nat):(elQ x k).length=k:=by simp[elQ]
theorem zOr(L:Nat)(xs:List Nat):(elP L xs).length=xs.length*L:=by
 induction xs with
 |nil=>simp[elP]
 |cons x xs ih=>
  have:elP L (x::xs)=elQ x L++elP L xs:=by simp[elP]
  rw[this,List.length_append,zMs,ih,List.length_cons,Nat.succ_mul,Nat.add_comm]
theorem zJe{L:Nat}{xs:List Nat}{x a:Nat}:(x,a)∈elP L xs↔x∈xs/\a<L:=by
 simp only[elP,elQ,List.mem_flatMap,List.mem_map,List.mem_range,Qk];constructor
 ·rintro⟨y,hy,b,hb,rfl,rfl⟩;exact⟨hy,hb⟩
 ·rintro⟨hx,ha⟩;exact⟨x,hx,a,ha,rfl,rfl⟩
def zCT(r:List (List Bool))(x y:Nat):Bool:=(r.getD x []).getD y false
def zVZ(r:List (List Bool))(m x y:Nat):Bool:=zCT r m y&&zCT r y m&& !zCT r m x
abbrev FbS:=List Nd×List Nat
def zRp(c:Bool)(a:Nat)(s:FbS):FbS:=if c=true then((addG s.1 (3,a,0,0)).1,s.2++[(addG s.1 (3,a,0,0)).2])else s
def f3A(ns:List Nd)(a:Nat):List Nd×Nat:=addG ns (3,a,0,0)
def f3B(of:Nat->Nat)(ns:List Nd)(x a:Nat):List Nd×Nat:=addG (f3A ns a).1 (7,0,(f3A ns a).2,of x)
def f3C(of:Nat->Nat)(ns:List Nd)(x a d:Nat):List Nd×Nat:=addG (f3B of ns x a).1 (3,d,0,0)
def f3D(of:Nat->Nat)(ns:List Nd)(x a d:Nat):List Nd×Nat:=addG (f3C of ns x a d).1 (7,0,(f3B of ns x a).2,(f3C of ns x a d).2)
def zOc(of:Nat->Nat)(c:Bool)(x a d:Nat)(s:FbS):FbS:=if c=true then((f3D of s.1 x a d).1,s.2++[(f3D of s.1 x a d).2])else s
def fb1(c:Nat->Bool)(ns:List Nd):Nat->FbS
 |0=>(ns,[])
 |k+1=>zRp (c k) k (fb1 c ns k)
def fb3(of:Nat->Nat)(c:Nat->Nat->Nat->Bool)(ts:List (Nat×Nat×Nat))(s:FbS):FbS:=ts.foldl (fun s t=>zOc of (c t.1 t.2.1 t.2.2) t.1 t.2.1 t.2.2 s) s
theorem zGb(of:Nat->Nat)(c:Nat->Nat->Nat->Bool)(ts:List (Nat×Nat×Nat))(t:Nat×Nat×Nat)(s:FbS):fb3 of c (ts++[t]) s=zOc of (c t.1 t.2.1 t.2.2) t.1 t.2.1 t.2.2 (fb3 of c ts s):=by
 unfold fb3;rw[List.foldl_append];rfl
theorem zQ3(c:Bool)(a:Nat)(s:FbS):(zRp c a s).1.length<=s.1.length+1/\(zRp c a s).2.length<=s.2.length+1:=by
 unfold zRp;split
 ·exact⟨zl s.1 (3,a,0,0),by simp⟩
 ·exact⟨by omega,by omega⟩
theorem zSg(of:Nat->Nat)(ns:List Nd)(x a d:Nat):(f3D of ns x a d).1.length<=ns.length+4:=by
 have h1:=zl ns (3,a,0,0);have h2:=zl (f3A ns a).1 (7,0,(f3A ns a).2,of x);have h3:=zl (f3B of ns x a).1 (3,d,0,0);have h4:=zl (f3C of ns x a d).1 (7,0,(f3B of ns x a).2,(f3C of ns x a d).2);unfold f3D;unfold f3A at h2;unfold f3B f3A at h3;unfold f3C f3B f3A at h4 ⊢;omega
theorem zP8(of:Nat->Nat)(c:Bool)(x a d:Nat)(s:FbS):(zOc of c x a d s).1.length<=s.1.length+4/\(zOc of c x a d s).2.length<=s.2.length+1:=by
 unfold zOc;split
 ·exact⟨zSg of s.1 x a d,by simp⟩
 ·exact⟨by omega,by omega⟩
theorem zGg(c:Nat->Bool)(ns:List Nd): ∀k,(fb1 c ns k).1.length<=ns.length+k/\(fb1 c ns k).2.length<=k
 |0=>⟨Qy _,Qy _⟩
 |k+1=>by
  obtain⟨h1,h2⟩:=zGg c ns k;have:=zQ3 (c k) k (fb1 c ns k);unfold fb1;omega
theorem zIn(of:Nat->Nat)(c:Nat->Nat->Nat->Bool)(ts:List (Nat×Nat×Nat))(s:FbS):(fb3 of c ts s).1.length<=s.1.length+4*ts.length/\(fb3 of c ts s).2.length<=s.2.length+ts.length:=by
 refine zBC (P:=fun ts=>(fb3 of c ts s).1.length<=s.1.length+4*ts.length/\(fb3 of c ts s).2.length<=s.2.length+ts.length) ⟨Qy _,Qy _⟩ (fun ts t ih=>?_) ts;have:=zP8 of (c t.1 t.2.1 t.2.2) t.1 t.2.1 t.2.2 (fb3 of c ts s);rw[zGb];simp only[List.length_append,List.length_singleton];omega
def trQ(x a k:Nat):List (Nat×Nat×Nat):=(List.range k).map fun d=>(x,a,d)
def trA(L x k:Nat):List (Nat×Nat×Nat):=(List.range k).flatMap fun a=>trQ x a L
def trP(L:Nat)(xs:List Nat):List (Nat×Nat×Nat):=xs.flatMap fun x=>trA L x L
theorem zQd(x a:Nat):trQ x a 0=[]:=rfl
theorem zQj(x a k:Nat):trQ x a (k+1)=trQ x a k++[(x,a,k)]:=by simp[trQ,List.range_succ]
theorem zQf(L x:Nat):trA L x 0=[]:=rfl
theorem zLO(L x k:Nat):trA L x (k+1)=trA L x k++trQ x k L:=by simp[trA,List.range_succ]
theorem zQU(L:Nat)(xs:List Nat){i:Nat}(hi:i<xs.length):trP L (xs.take (i+1))=trP L (xs.take i)++trA L xs[i] L:=by
 unfold trP;rw[Qe hi,List.flatMap_append];simp only[List.flatMap_cons,List.flatMap_nil,List.append_nil]
theorem zNA(x a k:Nat):(trQ x a k).length=k:=by simp[trQ]
theorem zIs(L x:Nat): ∀k,(trA L x k).length=k*L
 |0=>by simp[trA]
 |k+1=>by rw[zLO,List.length_append,zIs L x k,zNA,Nat.succ_mul]
theorem zNG(L:Nat)(xs:List Nat):(trP L xs).length=xs.length*(L*L):=by
 induction xs with
 |nil=>simp[trP]
 |cons x xs ih=>
  have:trP L (x::xs)=trA L x L++trP L xs:=by simp[trP]
  rw[this,List.length_append,zIs,ih,List.length_cons,Nat.succ_mul,Nat.add_comm]
theorem zIv{L:Nat}{xs:List Nat}{x a d:Nat}:(x,a,d)∈trP L xs↔x∈xs/\a<L/\d<L:=by
 simp only[trP,trA,trQ,List.mem_flatMap,List.mem_map,List.mem_range,Qk];constructor
 ·rintro⟨y,hy,b,hb,c,hc,rfl,rfl,rfl⟩;exact⟨hy,hb,hc⟩
 ·rintro⟨hx,ha,hd⟩;exact⟨x,hx,a,ha,d,hd,rfl,rfl,rfl⟩
section
variable{L:Nat}{T:Nat->Nat->Nat}{im of:Nat->Nat}{c1:Nat->Bool}{c3:Nat->Nat->Nat->Bool}
theorem zRi{ns:List Nd}(h:GV L ns): ∀k,k<=L->GV L (fb1 c1 ns k).1/\zCo k ns (fb1 c1 ns k).1/\UB L (fb1 c1 ns k).1 (fb1 c1 ns k).2 (fun w=>∃a,(a<k/\c1 a=true)/\w=[a])
 |0,_=>⟨h,.refl _ _,(UB.nil (ns:=ns)).iff fun w _=>⟨fun hf=>hf.elim,fun⟨a,ha,_⟩=>absurd ha.1 (by omega)⟩⟩
 |k+1,hk=>by
  obtain⟨h1,h2,h3⟩:=zRi h k (by omega);have eq1:fb1 c1 ns (k+1)=zRp (c1 k) k (fb1 c1 ns k):=rfl;rw[eq1];clear eq1;unfold zRp;by_cases c:c1 k=true
  ·rw[if_pos c];obtain⟨g1,g2,g3⟩:=zCs h1 (a:=k) (by omega);refine⟨g1,h2.trans g2,((h3.ext g2).add g3).iff fun w _=>⟨?_,?_⟩⟩
   ·rintro(⟨a,⟨a1,a2⟩,e⟩|e)
    ·exact⟨a,⟨by omega,a2⟩,e⟩
    ·exact⟨k,⟨by omega,c⟩,e⟩
   ·rintro⟨a,⟨a1,a2⟩,e⟩;by_cases e2:a=k
    ·subst e2;exact .inr e
    ·exact .inl ⟨a,⟨by omega,a2⟩,e⟩
  ·rw[if_neg c];refine⟨h1,h2.mono (by omega),h3.iff fun w _=>⟨fun⟨a,⟨a1,a2⟩,e⟩=>⟨a,⟨by omega,a2⟩,e⟩,fun⟨a,⟨a1,a2⟩,e⟩=>⟨a,⟨?_,a2⟩,e⟩⟩⟩;have:a≠k:=fun e2=>c (e2▸a2)
   omega
theorem zUZ{s:FbS}{P:List Nat->Prop}(h:GV L s.1)(hU:UB L s.1 s.2 P)(ts:List (Nat×Nat×Nat)):(∀t∈ts,t.2.1<L/\t.2.2<L/\Sm L s.1 (of t.1) fun w=>vlW T im w=t.1)→
  GV L (fb3 of c3 ts s).1/\zCo (4*ts.length) s.1 (fb3 of c3 ts s).1∧
  UB L (fb3 of c3 ts s).1 (fb3 of c3 ts s).2 fun w=>P w\/ ∃x a d,((x,a,d)∈ts/\c3 x a d=true)/\zFY (zFY (fun v=>v=[a]) (fun u=>vlW T im u=x)) (fun v=>v=[d]) w:=by
 refine zBC (P:=fun ts=>(∀t∈ts,t.2.1<L/\t.2.2<L/\Sm L s.1 (of t.1) fun w=>vlW T im w=t.1)->GV L (fb3 of c3 ts s).1/\zCo (4*ts.length) s.1 (fb3 of c3 ts s).1/\UB L (fb3 of c3 ts s).1 (fb3 of c3 ts s).2 fun w=>P w\/ ∃x a d,((x,a,d)∈ts/\c3 x a d=true)/\zFY (zFY (fun v=>v=[a]) (fun u=>vlW T im u=x)) (fun v=>v=[d]) w) ?_ (fun ts t ih=>?_) ts
 ·intro _;exact⟨h,.refl _ _,hU.iff fun w _=>⟨.inl,fun hw=>hw.elim id fun⟨x,a,d,⟨hm,_⟩,_⟩=>by simp at hm⟩⟩
 ·intro hp;obtain⟨i1,i2,i3⟩:=ih fun q hq=>hp q (by simp[hq])
  obtain⟨hpa,hpd,hps⟩:=hp t (by simp);obtain⟨x,a,d⟩:=t;simp only at hpa hpd hps;rw[zGb];simp only;generalize fb3 of c3 ts s=r at i1 i2 i3 ⊢;have hl:4*(ts++[(x,a,d)]).length=4*ts.length+4:=by simp;omega
  rw[hl];unfold zOc
  cases c:c3 x a d with
  |false=>
   refine⟨i1,i2.mono (by omega),i3.iff fun w _=>⟨?_,?_⟩⟩
   ·rintro(hw|⟨y,b,e,⟨m1,m2⟩,hw⟩)
    ·exact .inl hw
    ·exact .inr ⟨y,b,e,⟨by simp[m1],m2⟩,hw⟩
   ·rintro(hw|⟨y,b,e,⟨m1,m2⟩,hw⟩)
    ·exact .inl hw
    ·refine .inr ⟨y,b,e,⟨?_,m2⟩,hw⟩;rcases List.mem_append.1 m1 with m1|m1
     ·exact m1
     ·simp only[List.mem_singleton,Qk]at m1;rw[m1.1,m1.2.1,m1.2.2,c]at m2
      cases m2
  |true=>
   obtain⟨g1,g2,g3⟩:=zCs i1 hpa;obtain⟨k1,k2,k3⟩:=zBl g1 g3 ((hps.ext i2).ext g2);obtain⟨l1,l2,l3⟩:=zCs k1 hpd;obtain⟨m1,m2,m3⟩:=zBl l1 (k3.ext l2) l3;refine⟨m1,((((i2.trans g2).trans k2).trans l2).trans m2).mono (by omega),(((((i3.ext g2).ext k2).ext l2).ext m2).add m3).iff fun w _=>⟨?_,?_⟩⟩
   ·rintro((hw|⟨y,b,e,⟨n1,n2⟩,hw⟩)|hw)
    ·exact .inl hw
    ·exact .inr ⟨y,b,e,⟨by simp[n1],n2⟩,hw⟩
    ·exact .inr ⟨x,a,d,⟨by simp,c⟩,hw⟩
   ·rintro(hw|⟨y,b,e,⟨n1,n2⟩,hw⟩)
    ·exact .inl (.inl hw)
    ·rcases List.mem_append.1 n1 with n1|n1
     ·exact .inl (.inr ⟨y,b,e,⟨n1,n2⟩,hw⟩)
     ·simp only[List.mem_singleton,Qk]at n1;obtain⟨rfl,rfl,rfl⟩:=n1;exact .inr hw
end
def zIj(s:ElS):List Nd×Nat:=
 let u1:=zEQ s.1 s.2.1
 let a1:=addG u1.1 (4,0,0,0)
 let b1:=addG a1.1 (7,0,u1.2,a1.2)
 let a2:=addG b1.1 (4,0,0,0)
 let u2:=zEQ a2.1 s.2.2
 let b2:=addG u2.1 (7,0,a2.2,u2.2)
 addG b2.1 (6,0,b1.2,b2.2)
theorem zS4{L:Nat}{s:ElS}{P Q:List Nat->Prop}(h:GV L s.1)(hB:UB L s.1 s.2.1 P)(hE:UB L s.1 s.2.2 Q):GV L (zIj s).1/\zCo (s.2.1.length+s.2.2.length+7) s.1 (zIj s).1/\Sm L (zIj s).1 (zIj s).2 (fun w=>zFY P (fun _=>True) w/\zFY (fun _=>True) Q w):=by
 unfold zIj;simp only;obtain⟨u1,u2,u3⟩:=zGX h hB;obtain⟨a1,a2,a3⟩:=zDg u1;obtain⟨b1,b2,b3⟩:=zBl a1 (u3.ext a2) a3;obtain⟨c1,c2,c3⟩:=zDg b1;obtain⟨d1,d2,d3⟩:=zGX c1 ((((hE.ext u2).ext a2).ext b2).ext c2);obtain⟨e1,e2,e3⟩:=zBl d1 (c3.ext d2) d3;obtain⟨f1,f2,f3⟩:=zLN e1 (((b3.ext c2).ext d2).ext e2) e3;exact⟨f1,((((((u2.trans a2).trans b2).trans c2).trans d2).trans e2).trans f2).mono (by omega),f3⟩
def zT0(of:Nat->Nat)(cB cE:Nat->Nat->Bool)(c1:Nat->Bool)(c3:Nat->Nat->Nat->Bool)(L:Nat)(xs:List Nat)(ns:List Nd):List Nd×Nat:=
 let f:=zIj (elF of cB cE (elP L xs) (ns,[],[]))
 let g:=fb3 of c3 (trP L xs) (fb1 c1 f.1 L)
 if g.2=[]then(g.1,f.2)else addG (zFF g.1 g.2).1 (6,0,f.2,(zFF g.1 g.2).2)
theorem zTv{n L:Nat}{T:Nat->Nat->Nat}{im of:Nat->Nat}{cB cE:Nat->Nat->Bool}{c1:Nat->Bool}{c3:Nat->Nat->Nat->Bool}{xs:List Nat}{ns:List Nd}{m:Nat}(h:ApM n T)(hi: ∀a,a<L->im a<n)(hm:m<n)(hm0:m≠0)(hab: ∀x,x<n->JLe n T x m-> ¬JLe n T m x->x∈xs)
  (hB: ∀x a,x∈xs->a<L->(cB x a=true↔BgC n T im m x a)) (hE: ∀x a,x∈xs->a<L->(cE x a=true↔EnC n T im m x a)) (h1: ∀a,a<L->(c1 a=true↔ ¬JLe n T (im a) m)) (h3: ∀x a d,x∈xs->a<L->d<L->(c3 x a d=true↔FbC n T im m x a d))
  (hg:GV L ns) (hof: ∀x∈xs,Sm L ns (of x) fun w=>vlW T im w=x):
  GV L (zT0 of cB cE c1 c3 L xs ns).1/\zCo (6*(xs.length*L)+5*(xs.length*(L*L))+2*L+14) ns (zT0 of cB cE c1 c3 L xs ns).1/\Sm L (zT0 of cB cE c1 c3 L xs ns).1 (zT0 of cB cE c1 c3 L xs ns).2 (fun w=>vlW T im w=m):=by
 unfold zT0;simp only;obtain⟨e1,e2,e3,e4⟩:=zVC (T:=T) (im:=im) (of:=of) (cB:=cB) (cE:=cE) hg (elP L xs) fun p hp=>by
  obtain⟨x,a⟩:=p;obtain⟨p1,p2⟩:=zJe.1 hp;exact⟨p2,hof x p1⟩
 obtain⟨l1,l2,l3⟩:=zOe of cB cE (elP L xs) (ns,[],[]);have hpl:=zOr L xs;generalize elF of cB cE (elP L xs) (ns,[],[])=s at e1 e2 e3 e4 l1 l2 l3 ⊢;obtain⟨f1,f2,f3⟩:=zS4 e1 e3 e4;generalize zIj s=f at f1 f2 f3 ⊢;obtain⟨g1,g2,g3⟩:=zRi (c1:=c1) f1 L (Qy L);obtain⟨b1,b2⟩:=zGg c1 f.1 L;generalize fb1 c1 f.1 L=g at g1 g2 g3 b1 b2 ⊢;obtain⟨k1,k2,k3⟩:=zUZ (T:=T) (im:=im) (of:=of) (c3:=c3) g1 g3 (trP L xs) fun t ht=>by
  obtain⟨x,a,d⟩:=t;obtain⟨p1,p2,p3⟩:=zIv.1 ht;exact⟨p2,p3,(((hof x p1).ext e2).ext f2).ext g2⟩
 obtain⟨t1,t2⟩:=zIn of c3 (trP L xs) g;have htl:=zNG L xs;generalize fb3 of c3 (trP L xs) g=q at k1 k2 k3 t1 t2 ⊢;rw[hpl]at e2 l1 l2 l3;rw[htl]at k2 t1 t2;simp only[List.length_nil]at l1 l2 l3;generalize xs.length*L=A at*
 generalize xs.length*(L*L)=B at*
 have hfin: ∀w,(∀a∈w,a<L)->((zFY (BgP T im fun x a=>(x,a)∈elP L xs/\cB x a=true) (fun _=>True) w/\zFY (fun _=>True) (EnP T im fun x a=>(x,a)∈elP L xs/\cE x a=true) w)/\WoW (fun w=>(∃a,(a<L/\c1 a=true)/\w=[a])\/ ∃x a d,((x,a,d)∈trP L xs/\c3 x a d=true)/\zFY (zFY (fun v=>v=[a]) (fun u=>vlW T im u=x)) (fun v=>v=[d]) w) w↔vlW T im w=m):=by
  intro w hw;rw[←elem_iff h hi hm hm0 hab hw];have r1:(fun x a=>(x,a)∈elP L xs/\cB x a=true)=fun x a=>x∈xs/\a<L/\BgC n T im m x a:=by
   funext x a;rw[zJe,and_assoc];exact propext ⟨fun⟨p,q,r⟩=>⟨p,q,(hB x a p q).1 r⟩,fun⟨p,q,r⟩=>⟨p,q,(hB x a p q).2 r⟩⟩
  have r2:(fun x a=>(x,a)∈elP L xs/\cE x a=true)=fun x a=>x∈xs/\a<L/\EnC n T im m x a:=by
   funext x a;rw[zJe,and_assoc];exact propext ⟨fun⟨p,q,r⟩=>⟨p,q,(hE x a p q).1 r⟩,fun⟨p,q,r⟩=>⟨p,q,(hE x a p q).2 r⟩⟩
  have r3:(fun w=>(∃a,(a<L/\c1 a=true)/\w=[a])\/ ∃x a d,((x,a,d)∈trP L xs/\c3 x a d=true)/\zFY (zFY (fun v=>v=[a]) (fun u=>vlW T im u=x)) (fun v=>v=[d]) w)=FbP T im (fun a=>a<L/\ ¬JLe n T (im a) m) fun x a c=>x∈xs/\a<L/\c<L/\FbC n T im m x a c:=by
   funext w;unfold FbP;refine propext ⟨?_,?_⟩
   ·rintro(⟨a,⟨p,q⟩,e⟩|⟨x,a,d,⟨p,q⟩,e⟩)
    ·exact .inl ⟨a,⟨p,(h1 a p).1 q⟩,e⟩
    ·obtain⟨p1,p2,p3⟩:=zIv.1 p;exact .inr ⟨x,a,d,⟨p1,p2,p3,(h3 x a d p1 p2 p3).1 q⟩,e⟩
   ·rintro(⟨a,⟨p,q⟩,e⟩|⟨x,a,d,⟨p1,p2,p3,q⟩,e⟩)
    ·exact .inl ⟨a,⟨p,(h1 a p).2 q⟩,e⟩
    ·exact .inr ⟨x,a,d,⟨zIv.2 ⟨p1,p2,p3⟩,(h3 x a d p1 p2 p3).2 q⟩,e⟩
  rw[r1,r2,r3]
 by_cases hq:q.2=[]
 ·rw[if_pos hq];refine⟨k1,(((e2.trans f2).trans g2).trans k2).mono (by omega),((f3.ext g2).ext k2).iff fun w hw=>?_⟩;rw[←hfin w hw];refine⟨fun hc=>⟨hc,?_⟩,fun hc=>hc.1⟩;rintro⟨p,v,r,rfl,hp⟩;have:=(k3.2 v (fun a ha=>hw a (by simp[ha]))).2 hp;rw[hq]at this;simp at this
 ·rw[if_neg hq];obtain⟨w1,w2,w3⟩:=zO3 k1 k3;obtain⟨v1,v2,v3⟩:=zLN w1 (((f3.ext g2).ext k2).ext w2) w3;exact⟨v1,(((((e2.trans f2).trans g2).trans k2).trans w2).trans v2).mono (by omega),v3.iff fun w hw=>hfin w hw⟩
