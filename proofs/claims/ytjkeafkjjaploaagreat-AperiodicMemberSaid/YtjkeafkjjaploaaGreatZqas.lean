/- Lemmas for the law AperiodicMember. No conditions. -/
import Derived.Test.YtjkeafkjjaploaaGreatZqar
set_option linter.all false
namespace Go.Proofs.YtjkeafkjjaploaaGreat.M
open Go.RowKit
set_option maxRecDepth 100000
set_option maxHeartbeats 32000000

theorem zHh(xs ys:List Int)(hl:xs.length<=100000)(hl2:ys.length<=100000):FnA Tryz.prog 61 [.t 0 (ints xs),.t 0 (ints ys)] (.t 2 (.bool (decide (xs=ys)))):=by
 refine fI 26 #[.tmp 4] Tryz.func61 rfl ?_;refine rg0 ?_;refine zD ?_;by_cases hlen:xs.length=ys.length
 ·refine rg1 @hlen ?_;refine cS0 ?_;refine zD ?_;refine rg0 ?_;refine zG ?_;refine awp_loop (fun k:Nat=>mkS [(0,.t 0 (ints xs)),(1,.t 0 (ints ys)),(12,.t 2 (.int .i64 xs.length)),(13,.t 2 (.int .i64 k))] [] 0 26 [.any,.any]) (fun k=>k<=xs.length/\ ∀j (h1:j<xs.length) (h2:j<ys.length),j<k->xs[j]=ys[j]) (fun k=>xs.length-k) ?_ ?_
  ·refine⟨0,⟨by omega,fun j h1 h2 hj=>by omega⟩,?_⟩;exact kw0 []
  rintro k ⟨hk,hsame⟩;refine rg0 ?_;refine zD ?_;by_cases hlt:k<xs.length
  ·have hlt2:k<ys.length:=by omega
   refine cK1 @hlt ?_;refine zD ?_;refine zG ?_;refine rg0 ?_;by_cases e:xs[k]=ys[k]
   ·refine rd1 (an @hlt (an @hlt2 @e)) ?_;refine cY0 ?_;refine rr0 ?_;refine⟨k+1,⟨by omega,fun j h1 h2 hj=>?_⟩,by omega,?_⟩
    ·by_cases c:j=k
     ·subst c;exact e
     ·exact hsame j h1 h2 (by omega)
    exact kw0 []
   ·have hne:decide (xs=ys)=false:=by
     simp only[decide_eq_false_iff_not];intro c;subst c;exact e rfl
    have e2:(xs[k]==ys[k])=false:=by simpa using e
    refine rd1 (an @hlt (an @hlt2 @e2)) ?_;refine cT0 ?_;refine rg0 ?_;exact zI (rt1 @hne)
  ·have heq:decide (xs=ys)=true:=by
    simp only[decide_eq_true_eq];exact List.ext_getElem hlen fun j h1 h2=>hsame j h1 h2 (by omega)
   refine cF1 @hlt ?_;refine zK ?_;refine rg0 ?_;exact zI (rt1 @heq)
 ·have hne:decide (xs=ys)=false:=by
   simp only[decide_eq_false_iff_not];intro c;subst c;exact hlen rfl
  have hli: ¬(xs.length:Int)=ys.length:=by omega
  have hli2:((xs.length:Int)==ys.length)=false:=by simpa using hli
  refine rg1 @hli2 ?_;refine cT0 ?_;refine rg0 ?_;exact zI (rt1 @hne)
theorem zM3(xs ys:List Bool)(hl:xs.length<=100000)(hl2:ys.length<=100000):FnA Tryz.prog 63 [.t 0 (zH xs),.t 0 (zH ys)] (.t 2 (.bool (decide (xs=ys)))):=by
 refine fI 26 #[.tmp 4] Tryz.func63 rfl ?_;refine rg1 @zH.eq_1 ?_;refine zD ?_;by_cases hlen:xs.length=ys.length
 ·refine rg1 (an @hlen @zH.eq_1) ?_;refine cS0 ?_;refine zD ?_;refine rg1 @zH.eq_1 ?_;refine zG ?_;refine awp_loop (fun k:Nat=>mkS [(0,.t 0 (zH xs)),(1,.t 0 (zH ys)),(12,.t 2 (.int .i64 xs.length)),(13,.t 2 (.int .i64 k))] [] 0 26 [.any,.any]) (fun k=>k<=xs.length/\ ∀j (h1:j<xs.length) (h2:j<ys.length),j<k->xs[j]=ys[j]) (fun k=>xs.length-k) ?_ ?_
  ·refine⟨0,⟨by omega,fun j h1 h2 hj=>by omega⟩,?_⟩;exact kw1 [] @zH.eq_1
  rintro k ⟨hk,hsame⟩;refine rg0 ?_;refine zD ?_;by_cases hlt:k<xs.length
  ·have hlt2:k<ys.length:=by omega
   refine cK1 @hlt ?_;refine zD ?_;refine zG ?_;refine rg0 ?_;by_cases e:xs[k]=ys[k]
   ·refine rd1 (an @hlt (an @hlt2 (an @e @zH.eq_1))) ?_;refine cY0 ?_;refine rr0 ?_;refine⟨k+1,⟨by omega,fun j h1 h2 hj=>?_⟩,by omega,?_⟩
    ·by_cases c:j=k
     ·subst c;exact e
     ·exact hsame j h1 h2 (by omega)
    exact kw1 [] @zH.eq_1
   ·have hne:decide (xs=ys)=false:=by
     simp only[decide_eq_false_iff_not];intro c;subst c;exact e rfl
    have e2:(xs[k]==ys[k])=false:=by simpa using e
    refine rd1 (an @hlt (an @hlt2 (an @e2 @zH.eq_1))) ?_;refine cT0 ?_;refine rg0 ?_;exact zI (rt1 @hne)
  ·have heq:decide (xs=ys)=true:=by
    simp only[decide_eq_true_eq];exact List.ext_getElem hlen fun j h1 h2=>hsame j h1 h2 (by omega)
   refine cF1 @hlt ?_;refine zK ?_;refine rg0 ?_;exact zI (rt1 @heq)
 ·have hne:decide (xs=ys)=false:=by
   simp only[decide_eq_false_iff_not];intro c;subst c;exact hlen rfl
  have hli: ¬(xs.length:Int)=ys.length:=by omega
  have hli2:((xs.length:Int)==ys.length)=false:=by simpa using hli
  refine rg1 (an @hli2 @zH.eq_1) ?_;refine cT0 ?_;refine rg0 ?_;exact zI (rt1 @hne)
theorem zVG:slB Tryz.prog 25=true:=by kernel_rfl
theorem zMP(xs:List Bool)(hx:0<xs.length)(hl:xs.length<=100000):FnA Tryz.prog 105 [.t 0 (zH xs)] (.t 2 (zH xs)):=by
 have hne: ¬xs=[]:=fun e=>by rw[e]at hx;simp at hx
 refine fI 8 #[.tmp 2] Tryz.func105 rfl ?_;refine rg1 @zH.eq_1 ?_;refine zD ?_;refine rg1 (an @zVG (an @hx @zH.eq_1)) ?_;refine cS1 @hne ?_;refine rg1 @zH.eq_1 ?_;exact zI (rt1 @zH.eq_1)
section
variable{L m:Nat}{bs:List Bool}{nx els:List (List Int)}{pre last:List Int}{wds:List (List Nat)}{right:List (List Int)}{r0:List Int}
theorem SyX.img(h:SyX L m nx els pre last wds right r0)(hg: ∀g∈tab L (lets m nx),TrN m g){a:Nat}(ha:a<L): ∃j:Nat,r0[a]? =some (j:Int)/\j<els.length/\els[j]? =some (lets m nx a):=by
 obtain⟨h1,h2⟩:=h.pr.rg 0 r0 h.r0;rw[zq]at h1;obtain⟨k,e,g,c1,c2,c3,c4⟩:=h2 a r0[a] (by simp);rw[zX _ ha]at c3;injection c3 with c3;subst c3;rw[h.pr.en.one.1]at c2;injection c2 with c2;subst c2;rw[zAn (hg _ (Qc (zX _ ha)))]at c4;exact⟨k,by rw[Qj (by omega),c1],(Qq.1 c4).1,c4⟩
theorem SyX.zVP(h:SyX L m nx els pre last wds right r0)(hD:DfL L m 0 bs nx)(hg: ∀g∈tab L (lets m nx),TrN m g){x a j:Nat}(hx:x<els.length)(ha:a<L)(hj:els[j]? =some (lets m nx a)):zj right x (wds.getD j [])=zb right x a:=by
 have hjl:=(Qq.1 hj).1;obtain⟨w1,w2,w3,w4⟩:=h.pr.wl' hjl;have hwj:wds.getD j []=wds[j]:=by rw[Qv,Qj w1];rfl
 rw[hwj];have e1:=h.elW hD hg (w:=wds[j]) (fun y hy=>by have:=w4 y hy;rwa [zq]at this) hx;rw[←w2]at e1;have e2:=h.pr.zKk hx (c:=a) (by rw[zq];exact ha);obtain⟨hjx,hj2⟩:=Qq.1 hj;rw[hj2]at e1;have e3:(tab L (lets m nx))[a]'(by rw[zq];exact ha)=lets m nx a:=by simp[zBH]
 rw[e3]at e2;exact h.pr.en.nd _ _ _ e1 e2
theorem SyX.mix(h:SyX L m nx els pre last wds right r0)(hM:MnD L m bs nx)(hL:1<=L)(hg: ∀g∈tab L (lets m nx),TrN m g){m':Nat}{bs':List Bool}{nx':List (List Int)}(hX:MiX L els.length 0 (els.map (zFA bs)) right m' bs' nx'):m'=m/\bs'=bs/\nx'=nx:=
 hX.mn.eq (by omega) hM fun w hw=>by rw[hX.zMu w hw,h.zMu hM.df hg hw]
theorem SyX.of(h:SyX L m nx els pre last wds right r0)(hM:MnD L m bs nx)(hL:1<=L)(hg: ∀g∈tab L (lets m nx),TrN m g){res:AV}(hO:OfX L els.length 0 (els.map (zFA bs)) right res):res= .tup [zHm 1 L bs els wds right r0,.t 2 (.int .i64 0)]:=by
 obtain⟨m',bs',nx',hX,hc⟩:=hO;obtain⟨rfl,rfl,rfl⟩:=h.mix hM hL hg hX;rcases hc with⟨-,hF⟩|⟨els',pre',last',wds',right',r0',h',rfl⟩
 ·rcases hF with hF|⟨els',pre',last',wds',right',hP,hl⟩
  ·exact(h.pr.zWm hF).elim
  ·obtain⟨e,-⟩:=h.pr.eqE hP;have:=h.el;rw[e]at this;omega
 ·obtain⟨rfl,rfl,rfl,rfl,rfl⟩:=h.pr.eqE h'.pr;have e:=h.r0.symm.trans h'.r0;injection e with e;subst e;rfl
end
structure zPo(L N:Nat)(tb:List (List Int))(ws:List (List Nat))(im:List Int)(ac pl:List Bool):Prop where
 l1:1<=L
 l2:L<=6
 n1:1<=N
 n2:N<=400
 tl:tb.length=N
 tr: ∀r∈tb,r.length=N/\ ∀v∈r,0<=v/\v<(N:Int)
 wl:ws.length=N
 il:im.length=L
 ir: ∀v∈im,0<=v/\v<(N:Int)
 al:ac.length=N
 pll:pl.length=N
def syV(p L:Nat)(tb:List (List Int))(ws:List (List Nat))(im:List Int)(ac pl:List Bool):AV:=.agg [.t 2 (.int .i64 L),.t p (rows tb),.t p (.sl 1 (wsT ws)),.t p (ints im),.t p (zH ac),.t p (zH pl)]
theorem zFp{N:Nat}{xs:List Int}(hx: ∀v∈xs,0<=v/\v<(N:Int))(hl:xs.length<=100000):FnA Tryz.prog 100 [.t 0 (ints xs),.t 2 (.int .i64 N)] (.t 2 (.bool true)):=by
 refine fI 21 #[.tmp 4] Tryz.func100 rfl ?_;refine rg0 ?_;refine zD ?_;refine rg0 ?_;refine zG ?_;refine awp_loop (fun k:Nat=>mkS [(1,.t 2 (.int .i64 N)),(7,.t 0 (ints xs)),(8,.t 2 (.int .i64 xs.length)),(9,.t 2 (.int .i64 k))] [] 0 21 [.any,.any]) (fun k=>k<=xs.length) (fun k=>xs.length-k) ?_ ?_
 ·refine⟨0,by omega,?_⟩;exact kw0 []
 intro k hk;refine rg0 ?_;refine zD ?_;by_cases hlt:k<xs.length
 ·have hv:=hx xs[k] (by simp);have d1: ¬xs[k]<0:=by omega
  have d2: ¬(N:Int)<=xs[k]:=by omega
  refine cK1 @hlt ?_;refine zD ?_;refine zG ?_;refine rg1 @hlt ?_;refine rg1 (an @d1 @d2) ?_;refine cY0 ?_;refine rr0 ?_;refine⟨k+1,by omega,by omega,?_⟩;exact kw0 []
 ·refine cF1 @hlt ?_;refine zK ?_;refine rg0 ?_;exact zI rt0
theorem zNU{L N:Nat}{tb:List (List Int)}{ws:List (List Nat)}{im:List Int}{ac pl:List Bool}(h:zPo L N tb ws im ac pl):FnA Tryz.prog 58 [syV 0 L tb ws im ac pl] (.t 2 (.bool true)):=by
 have hl1:=h.l1;have hl2:=h.l2;have hn1:=h.n1;have hn2:=h.n2;have htl:=h.tl;have hwl:=h.wl;have hil:=h.il;have hal:=h.al;have hpl:=h.pll;have d1: ¬(L:Int)<1:=by omega
 have d2: ¬6<(L:Int):=by omega
 have d3: ¬(N:Int)<1:=by omega
 have d4: ¬400<(N:Int):=by omega
 refine fI 74 #[.tmp 2] Tryz.func58 rfl ?_;refine rg1 (an @syV.eq_1 @zH.eq_1) ?_;refine rg1 @htl ?_;refine zD ?_;refine rg1 (an @d1 (an @d2 (an @d3 @d4))) ?_;refine cS0 ?_;refine zD ?_;refine rg1 (an @hwl (an @hal (an @hpl @hil))) ?_;refine cS0 ?_;refine zD ?_;refine rg1 @htl ?_;refine zG ?_;refine awp_loop (fun k:Nat=>mkS [(1,.ptr 0 0 6),(3,.t 2 (.int .i64 N)),(53,.t 0 (rows tb)),(54,.t 2 (.int .i64 N)),(55,.t 2 (.int .i64 k))] [(0,.box 27 [.any,.any,.any,.t 0 (ints im),.any,.any])] 1 74 [.any]) (fun k=>k<=N) (fun k=>N-k) ?_ ?_
 ·refine⟨0,by omega,?_⟩;exact kw1 [(0,some 0)] (an @rows.eq_1 @zH.eq_1)
 intro k hk;refine rg0 ?_;refine zD ?_;by_cases hlt:k<N
 ·have hkt:k<tb.length:=by omega
  obtain⟨hr1,hr2⟩:=h.tr tb[k] (by simp);have hwi:=zFp hr2 (by omega);refine cK1 @hlt ?_;refine zD ?_;refine zG ?_;refine rg1 @hkt ?_;refine rc1 hwi @hr1 ?_;refine cY0 ?_;refine rr0 ?_;refine⟨k+1,by omega,by omega,?_⟩;exact kw1 [(0,some 0)] @rows.eq_1
 ·have hwi:=zFp h.ir (by omega);refine cF1 @hlt ?_;refine zK ?_;refine rc0 hwi ?_;exact zI (rt1 @syV.eq_1)
def auR(tb:List (List Int))(im:List Int)(x:Nat):List Int:=im.map fun y=>(tb.getD x []).getD y.toNat 0
@[simp] theorem zWA(tb:List (List Int))(im:List Int)(x:Nat):(auR tb im x).length=im.length:=by simp[auR]
def auP(tb:List (List Int))(im:List Int)(x a:Nat):List T:=tab im.length fun y=>.int .i64 (if y<a then(auR tb im x).getD y 0 else 0)
@[simp] theorem zWL(tb:List (List Int))(im:List Int)(x a:Nat):(auP tb im x a).length=im.length:=by simp[auP]
theorem zQE(tb:List (List Int))(im:List Int)(x:Nat):(tab im.length fun _=>T.int .i64 0)=auP tb im x 0:=rfl
theorem zSc{tb:List (List Int)}{im:List Int}{x a:Nat}{v:Int}(ha:a<im.length)(hv:(tb.getD x []).getD im[a].toNat 0=v):(auP tb im x a).set a (.int .i64 v)=auP tb im x (a+1):=by
 unfold auP;rw[zg];refine zT fun y hy=>?_
 by_cases c:y=a
 ·subst c;rw[if_pos rfl,if_pos (by omega)];unfold auR;rw[Qv (l:=List.map _ _),Qh,Qj ha,Qf,Qd,hv]
 ·rw[if_neg c];by_cases c2:y<a
  ·rw[if_pos c2,if_pos (by omega)]
  ·rw[if_neg c2,if_neg (by omega)]
theorem zRC(tb:List (List Int))(im:List Int)(x:Nat):auP tb im x im.length=(auR tb im x).map (.int .i64):=by
 apply List.ext_getElem?;intro i;by_cases h:i<im.length
 ·unfold auP;rw[zX _ h,if_pos h,Qh,Qv,Qj (show i<(auR tb im x).length by simpa using h)];rfl
 ·rw[Qg (by simp;omega),Qg (by simp;omega)]
def auC(tb:List (List Int))(im:List Int)(k j:Nat):AV:=if j<k then .t 1 (ints (auR tb im j))else .t 2 (.sl 0 [])
theorem zHX{L N:Nat}{tb:List (List Int)}{ws:List (List Nat)}{im:List Int}{ac pl:List Bool}(h:zPo L N tb ws im ac pl):FnA Tryz.prog 60 [syV 0 L tb ws im ac pl] (dfT 1 L 0 ac (tab N (auR tb im))):=by
 have hl1:=h.l1;have hl2:=h.l2;have hn1:=h.n1;have hn2:=h.n2;have htl:=h.tl;have hil:=h.il;have hal:=h.al;refine fI 55 #[.cell 2 56] Tryz.func60 rfl ?_;refine rg1 (an @syV.eq_1 @zH.eq_1) ?_;refine rq1 (zMP ac (by omega) (by omega)) (an @zH.eq_1 @htl) ?_;refine zD ?_;refine rg1 @htl ?_;refine zG ?_;refine awp_loop (fun x:Nat=>mkS [(1,.ptr 0 0 6),(2,.ptr 1 0 4),(3,.ptr 2 0 4),(19,.t 0 (rows tb)),(20,.t 2 (.int .i64 N)),(21,.t 2 (.int .i64 x))]
   [(0,.box 27 [.t 2 (.int .i64 L),.any,.any,.t 0 (ints im),.any,.any]),(1,.box 56 [.any,.any,.any,.any]),(2,.box 56 [.t 2 (.int .i64 L),.t 2 (.int .i64 0),.t 2 (zH ac),.own 3 N]),(3,.vec 22 1 2 (tab N (auC tb im x)))] 4 55 [.any])
  (fun x=>x<=N) (fun x=>N-x) ?_ ?_
 ·refine⟨0,by omega,?_⟩;exact kw1 [(0,some 0),(1,some 1000000),(2,some 12000000),(3,some 10000000)] (an @rows.eq_1 (an @zH.eq_1 (an @zr (an @ze (an @zZ @auC.eq_1)))))
 intro x hx;refine rg0 ?_;refine zD ?_;by_cases hxn:x<N
 ·have hxt:x<tb.length:=by omega
  obtain⟨hr1,hr2⟩:=h.tr tb[x] (by simp);refine cK1 @hxn ?_;refine zD ?_;refine zG ?_;refine rg1 @hxt ?_;refine rd1 (an @hxn (an @zg @zr)) ?_;refine rg1 @hil ?_;refine zG ?_;refine awp_loop (fun a:Nat=>mkS [(1,.ptr 0 0 6),(2,.ptr 1 0 4),(3,.ptr 2 0 4),(4,.t 2 (.int .i64 x)),(5,.t 0 (ints tb[x])),(19,.t 0 (rows tb)),(20,.t 2 (.int .i64 N)),(21,.t 2 (.int .i64 x)),(34,.t 0 (ints im)),(35,.t 2 (.int .i64 L)),(36,.t 2 (.int .i64 a))]
    [(0,.box 27 [.t 2 (.int .i64 L),.any,.any,.t 0 (ints im),.any,.any]),(1,.box 56 [.any,.any,.any,.any]),(2,.box 56 [.t 2 (.int .i64 L),.t 2 (.int .i64 0),.t 2 (zH ac),.own 3 N]),(3,.vec 22 1 2 (tab N fun y=>if y=x then .own 4 L else auC tb im x y)),(4,.row 3 1 2 (auP tb im x a))] 5 55 [.any])
   (fun a=>a<=L) (fun a=>L-a) ?_ ?_
  ·refine⟨0,by omega,?_⟩;refine zP [(0,some 0),(1,some 1),(2,some 2),(3,some 3),(4,some 11000004)] rfl ?_ ?_ ?_ ?_
   all_goals try simp[ints,rows,zH,zZ]
   refine⟨fun y hy=>?_,?_⟩
   ·by_cases e:y=x
    ·subst e;simp +contextual (disch:=omega)[zc]
    ·simp only[if_neg e];unfold auC;split<;>simp
   ·rw[←hil];exact zQE tb im x
  intro a ha;refine rg0 ?_;refine zD ?_;by_cases hal:a<L
  ·have haL:a<im.length:=by omega
   obtain⟨v1,v2⟩:=h.ir im[a] (by simp);obtain⟨k,hk⟩: ∃k:Nat,im[a]=(k:Int):=⟨im[a].toNat,by omega⟩;have hkr:k<tb[x].length:=by omega
   have hst:=zSc (tb:=tb) (x:=x) haL (v:=tb[x][k]) (by rw[hk,Qv,Qv,Qj hxt,Qd,Int.toNat_natCast,Qj hkr];rfl);refine cK1 @hal ?_;refine zD ?_;refine zG ?_;refine rg1 (an @haL @hk) ?_;refine re1 (an @hxn (an @hkr (an @hst @haL))) ?_;refine rr0 ?_;refine⟨a+1,by omega,by omega,?_⟩;refine zP [(0,some 0),(1,some 1),(2,some 2),(3,some 3),(4,some 4)] rfl ?_ ?_ ?_ ?_
   all_goals try simp[ints,rows,zH,zZ]
   intro y hy;by_cases e:y=x
   ·subst e;simp +contextual (disch:=omega)[zc]
   ·simp only[if_neg e];unfold auC;split<;>simp
  ·obtain rfl:a=L:=by omega
   refine cF0 ?_;refine zK ?_;refine rr0 ?_;refine⟨x+1,by omega,by omega,?_⟩;refine zP [(0,some 0),(1,some 1),(2,some 2),(3,some 3)] rfl ?_ ?_ ?_ ?_
   all_goals try simp[ints,rows,zH,zZ]
   have hfu:auP tb im x a=(auR tb im x).map (.int .i64):=hil▸zRC tb im x;intro y hy;by_cases e:y=x
   ·subst e;simp +contextual (disch:=omega)[zc,zAC,ints,auC,hfu,hil]
   ·simp only[if_neg e];unfold auC;by_cases c:y<x
    ·rw[if_pos c,if_pos (by omega)];simp
    ·rw[if_neg c,if_neg (by omega)];simp
 ·obtain rfl:x=N:=by omega
  refine cF0 ?_;refine zK ?_;refine rg0 ?_;refine zI ?_;refine⟨⟨.inr rfl,_,[],(by simp;rfl),trivial,trivial,by simp,?_⟩,by simp[rows,zH,syV]⟩;simp[ints,rows,dfT,rows,zH,ze,zC8];intro j hj;unfold auC;rw[if_pos hj];simp[wk1];rfl
theorem zNj(ws:List (List Nat))(hl:ws.length<=100000):FnA Tryz.prog 62 [.t 0 (.sl 1 (wsT ws)),.t 0 (.sl 1 (wsT ws))] (.t 2 (.bool true)):=by
 refine fI 26 #[.tmp 4] Tryz.func62 rfl ?_;refine rg0 ?_;refine zD ?_;refine rg0 ?_;refine cS0 ?_;refine zD ?_;refine rg0 ?_;refine zG ?_;refine awp_loop (fun k:Nat=>mkS [(0,.t 0 (.sl 1 (wsT ws))),(1,.t 0 (.sl 1 (wsT ws))),(12,.t 2 (.int .i64 ws.length)),(13,.t 2 (.int .i64 k))] [] 0 26 [.any,.any]) (fun k=>k<=ws.length) (fun k=>ws.length-k) ?_ ?_
 ·refine⟨0,by omega,?_⟩;exact kw0 []
 intro k hk;refine rg0 ?_;refine zD ?_;by_cases hlt:k<ws.length
 ·have hwk:(wsT ws)[k]? =some (.str (zAU ws[k])):=by simp[wsT,hlt]
  refine cK1 @hlt ?_;refine zD ?_;refine zG ?_;refine rg0 ?_;refine rd1 (an @hwk @hlt) ?_;refine cY0 ?_;refine rr0 ?_;refine⟨k+1,by omega,by omega,?_⟩;exact kw0 []
 ·refine cF1 @hlt ?_;refine zK ?_;refine rg0 ?_;exact zI rt0
def psB(N:Nat)(b:Bool):List Bool:=tab N fun j=>if j=0 then b else decide (j<N)
theorem zWM(N:Nat)(b:Bool):psC N N b=(psB N b).map .bool:=by
 unfold psC psB;rw[ze]
theorem zF5(p L:Nat)(bs:List Bool)(els:List (List Int))(wds:List (List Nat))(right:List (List Int))(r0:List Int):zHm p L bs els wds right r0=syV p L (zBO right wds els.length) wds r0 (els.map (zFA bs)) (psB els.length (right.any fun r=>decide ((0:Int)∈r))):=by
 unfold zHm syV;rw[zWM];rfl
section
variable{L m:Nat}{bs:List Bool}{nx els:List (List Int)}{pre last:List Int}{wds:List (List Nat)}{right:List (List Int)}{r0:List Int}
theorem SyX.sh(h:SyX L m nx els pre last wds right r0)(hL:1<=L)(hL2:L<=6)(ac:List Bool)(ha:ac.length=els.length)(pl:List Bool)(hp:pl.length=els.length):zPo L els.length (zBO right wds els.length) wds r0 ac pl:=by
 have hpos:=h.pos;have hle:=h.pr.en.le;have hrt:=zNL h.pr.rt hle h.pr.wl;have hd:DfL L els.length 0 (els.map (zFA [])) right:=h.df;obtain⟨hi,hi2⟩:=hd.row r0 (Qc h.r0);refine⟨hL,hL2,hpos,h.el,by simp,fun r hr=>?_,hle.symm,hi,hi2,ha,hp⟩;obtain⟨i,hi,rfl⟩:=Qb hr;obtain⟨h1,h2⟩:=hrt.row i _ (Qj hi);refine⟨h1,fun v hv=>?_⟩;obtain⟨y,hy,rfl⟩:=Qb hv;obtain⟨k,e,hk⟩:=h2 y _ (Qj hy);rw[e];omega
theorem SyX.next(h:SyX L m nx els pre last wds right r0)(hD:DfL L m 0 bs nx)(hg: ∀g∈tab L (lets m nx),TrN m g):tab els.length (auR (zBO right wds els.length) r0)=right:=by
 have hrd:=h.pr.rd;have hd:DfL L els.length 0 (els.map (zFA [])) right:=h.df;obtain⟨hi,hi2⟩:=hd.row r0 (Qc h.r0);refine List.ext_getElem (by simp[hrd]) fun x h1 h2=>?_
 have hx:x<els.length:=by omega
 rw[zBH];obtain⟨hr1,-⟩:=hd.row right[x] (by simp);refine List.ext_getElem (by simp[hi,hr1]) fun a g1 g2=>?_
 have ha:a<L:=by omega
 obtain⟨j,j1,j2,j3⟩:=h.img hg ha;have e1:(auR (zBO right wds els.length) r0 x)[a]? =some (((zBO right wds els.length).getD x []).getD j 0):=by
  unfold auR;rw[Qh,j1,Qf,Int.toNat_natCast]
 rw[Qj g1]at e1;rw[Option.some.inj e1];have e2:((zBO right wds els.length).getD x []).getD j 0=(zj right x (wds.getD j []):Int):=by
  unfold zBO;rw[Qv (l:=tab _ _),zX _ hx,Qd,Qv (l:=tab _ _),zX _ j2,Qd]
 rw[e2,h.zVP hD hg hx ha j3];obtain⟨-,s2,s3,s4⟩:=hd.rt.step hx ha;exact s4.symm
end
theorem zGS{L N:Nat}{tb:List (List Int)}{ws:List (List Nat)}{im:List Int}{ac pl:List Bool}(hS:zPo L N tb ws im ac pl)(hof:FnA Tryz.prog 59 [dfT 0 L 0 ac (tab N (auR tb im))] (.tup [syV 1 L tb ws im ac pl,.t 2 (.int .i64 0)])):FnA Tryz.prog 27 [syV 0 L tb ws im ac pl] (.t 2 (.int .i64 0)):=by
 have hsh:=zNU hS;have hau:=zHX hS;have hn2:=hS.n2;have hl2:=hS.l2;have htl:=hS.tl;have hwl:=hS.wl;have hil:=hS.il;have hal:=hS.al;have hpl:=hS.pll;generalize tab N (auR tb im)=nx at hof hau;have hq1: ∀r∈tb,FnA Tryz.prog 61 [.t 0 (ints r),.t 0 (ints r)] (.t 2 (.bool true)):=fun r hr=>by
  have h1:=(hS.tr r hr).1;have:=zHh r r (by omega) (by omega)
  rwa [show decide (r=r)=true by simp]at this
 have hq2:FnA Tryz.prog 61 [.t 0 (ints im),.t 0 (ints im)] (.t 2 (.bool true)):=by
  have:=zHh im im (by omega) (by omega)
  rwa [show decide (im=im)=true by simp]at this
 have hq3: ∀b:List Bool,b.length<=100000->FnA Tryz.prog 63 [.t 0 (zH b),.t 0 (zH b)] (.t 2 (.bool true)):=fun b hb=>by
  have:=zM3 b b hb hb
  rwa [show decide (b=b)=true by simp]at this
 have hq4:=zNj ws (by omega);refine fI 74 #[.tmp 2] Tryz.func27 rfl ?_;refine rg1 (an @syV.eq_1 @zH.eq_1) ?_;refine zD ?_;refine rc1 hsh (an @syV.eq_1 @zH.eq_1) ?_;refine cS0 ?_;refine zO fun K hK=>?_
 simp(maxSteps:=2000000)(disch:=omega)
 (repeat' apply And.intro)
 all_goals (try omega)
 refine zJ (caps:=[]) (hau) [] [] 2 rfl rfl rfl rfl (by kernel_rfl) (by simp) ?_ trivial trivial rfl trivial trivial (by simp) ?_
 ·simp[scal,rows,ints,syV,zH]
 simp(maxSteps:=2000000)(disch:=omega)[rows,scal,dfT]
 (repeat' apply And.intro)
 all_goals (try omega)
 refine zJ (caps:=[]) (hof) [] [] 2 rfl rfl rfl rfl (by kernel_rfl) (by simp) ?_ trivial trivial rfl trivial trivial (by simp) ?_
 ·simp[scal,rows,dfT]
 simp(maxSteps:=2000000)(disch:=omega)[ints,rows,scal,syV,zH];and_intros<;>try first|apply hK|omega|rfl|simp<;>omega
 refine zD ?_;refine rg1 @htl ?_;refine cS0 ?_;refine zD ?_;refine rg1 @htl ?_;refine zG ?_;refine awp_loop (fun k:Nat=>mkS [(1,.ptr 0 0 6),(3,.ptr 1 0 6),(28,.t 1 (rows tb)),(29,.t 2 (.int .i64 N)),(30,.t 2 (.int .i64 k))]
   [(0,.box 27 [.t 2 (.int .i64 L),.t 0 (rows tb),.t 0 (.sl 1 (wsT ws)),.t 0 (ints im),.t 0 (zH ac),.t 0 (zH pl)]),(1,.box 27 [.t 2 (.int .i64 L),.t 1 (rows tb),.t 1 (.sl 1 (wsT ws)),.t 1 (ints im),.t 1 (zH ac),.t 1 (zH pl)])] 2 74 [.any]) (fun k=>k<=N) (fun k=>N-k) ?_ ?_
 ·refine⟨0,by omega,?_⟩;exact kw1 [(0,some 0),(1,some 11000000)] (an @rows.eq_1 @zH.eq_1)
 intro k hk;refine rg0 ?_;refine zD ?_;by_cases hlt:k<N
 ·have hkt:k<tb.length:=by omega
  have hq:=hq1 tb[k] (by simp);refine cK1 @hlt ?_;refine zD ?_;refine zG ?_;refine rg1 @hkt ?_;refine rc1 hq @hkt ?_;refine cY0 ?_;refine rr0 ?_;refine⟨k+1,by omega,by omega,?_⟩;exact kw1 [(0,some 0),(1,some 1)] (an @rows.eq_1 @zH.eq_1)
 ·have hqa:=hq3 ac (by omega);have hqp:=hq3 pl (by omega);refine cF1 @hlt ?_;refine zK ?_;refine zD ?_;refine zO fun K hK=>?_
  simp(maxSteps:=2000000)(disch:=omega)
  (repeat' apply And.intro)
  all_goals (try omega)
  refine zJ (caps:=[]) (hq4) [] [] 2 rfl rfl rfl rfl (by kernel_rfl) (by simp) ?_ trivial trivial rfl trivial trivial (by simp) ?_
  ·simp[scal]
  simp(maxSteps:=2000000)(disch:=omega)[scal]
  (repeat' apply And.intro)
  all_goals (try omega)
  refine zJ (caps:=[]) (hq2) [] [] 2 (by simp) rfl rfl rfl (by kernel_rfl) (by simp) ?_ trivial trivial rfl trivial trivial (by simp) ?_
  ·simp[scal,ints]
  simp(maxSteps:=2000000)(disch:=omega)[scal]
  (repeat' apply And.intro)
  all_goals (try omega)
  refine zJ (caps:=[]) (hqa) [] [] 2 (by simp[zH]) rfl rfl rfl (by kernel_rfl) (by simp) ?_ trivial trivial rfl trivial trivial (by simp) ?_
  ·simp[scal,zH]
  simp(maxSteps:=2000000)(disch:=omega)[scal]
  (repeat' apply And.intro)
  all_goals (try omega)
  refine zJ (caps:=[]) (hqp) [] [] 2 (by simp[zH]) rfl rfl rfl (by kernel_rfl) (by simp) ?_ trivial trivial rfl trivial trivial (by simp) ?_
  ·simp[scal,zH]
  simp(maxSteps:=2000000)(disch:=omega)[scal]
  (repeat' first|apply hK|apply And.intro)<;>try first|omega|rfl|(simp<;>omega)
  refine cS0 ?_;refine rg0 ?_;exact zI (rt1 @syV.eq_1)
theorem zEH{L m:Nat}{bs:List Bool}{nx els:List (List Int)}{pre last:List Int}{wds:List (List Nat)}{right:List (List Int)}{r0:List Int}(h:SyX L m nx els pre last wds right r0)(hM:MnD L m bs nx)(hL:1<=L)(hL2:L<=6):FnA Tryz.prog 27 [zHm 0 L bs els wds right r0] (.t 2 (.int .i64 0)):=by
 have hg: ∀g∈tab L (lets m nx),TrN m g:=(hM.df.gn hL hL2 h.m32).tr;have hN:=h.el;have hS:=h.sh hL hL2 (els.map (zFA bs)) (by simp) (psB els.length (right.any fun r=>decide ((0:Int)∈r))) (by simp[psB]);obtain⟨res,hO,hof⟩:=zUP (h.df (bs:=bs)) hL hL2 (by omega) (fun m' bs' nx' hX=>by rw[(h.mix hM hL hg hX).1];exact h.m32);rw[h.of hM hL hg hO,zF5]at hof;rw[zF5];refine zGS hS ?_;rw[h.next hM.df hg];exact hof
def lstT(m:Nat):Nat->List (List Int)
 |0=>[[]]
 |k+1=>(List.range m).flatMap fun(v:Nat)=>(lstT m k).map fun l=>(v:Int)::l
theorem zKb(m:Nat): ∀k,(lstT m k).length=m^k
 |0=>rfl
 |k+1=>by
  have: ∀n,((List.range n).flatMap fun(v:Nat)=>(lstT m k).map fun l=>(v:Int)::l).length=n*m^k:=fun n=>by
   induction n with
   |zero=>simp
   |succ n ih=>
    rw[List.range_succ,List.flatMap_append,List.length_append,ih];simp only[List.flatMap_cons,List.flatMap_nil,List.append_nil,List.length_map,zKb m k];rw[Nat.succ_mul]
  show((List.range m).flatMap fun(v:Nat)=>(lstT m k).map fun l=>(v:Int)::l).length=m^(k+1);rw[this m,Nat.pow_succ,Nat.mul_comm]
theorem zLP(m:Nat): ∀(k:Nat) (l:List Int),l.length=k->(∀v∈l,0<=v/\v<(m:Int))->l∈lstT m k
 |0,l,h,_=>by rw[List.length_eq_zero_iff.1 h];simp[lstT]
 |k+1,[],h,_=>by simp at h
 |k+1,v::l,h,hv=>by
  obtain⟨h1,h2⟩:=hv v (by simp);have ih:=zLP m k l (by simpa using h) (fun u hu=>hv u (by simp[hu]));simp only[lstT,List.mem_flatMap,List.mem_range,List.mem_map];exact⟨v.toNat,by omega,l,ih,by congr 1;omega⟩
section
variable{L m:Nat}{bs:List Bool}{nx:List (List Int)}
theorem zRs(hg: ∀g∈tab L (lets m nx),TrN m g)(w:List Nat):(∀a∈w,a<L)->TrN m (act m (tab L (lets m nx)) w):=by
 refine zBC (P:=fun w=>(∀a∈w,a<L)->TrN m (act m (tab L (lets m nx)) w)) ?_ ?_ w
 ·intro _;exact zF6 m
 ·intro w x ih hw;have hx:x<L:=hw x (by simp);rw[zCD,Qv,zX _ hx];exact(ih fun a ha=>hw a (by simp[ha])).comp (hg _ (Qc (zX _ hx)))
theorem zUr{K:List (List Int)}(hK:K.length<=400)(h: ∀w:List Nat,(∀a∈w,a<L)->act m (tab L (lets m nx)) w∈K): ¬SyF L m nx:=by
 rintro(⟨l,h1,h2,h3⟩|⟨els,pre,last,wds,right,hP,hl⟩)
 ·have:=zBK h1 (k:=K) (fun e he=>by
   obtain⟨w,w1,rfl⟩:=h3 e he;exact h w (fun a ha=>by have:=w1 a ha;rwa [zq]at this))
  omega
 ·have:=zBK hP.en.nodup (k:=K) (fun e he=>by
   obtain⟨i,hi,rfl⟩:=Qb he;obtain⟨g1,g2,g3,g4⟩:=hP.wl' hi;rw[g2];exact h _ (fun a ha=>by have:=g4 a ha;rwa [zq]at this))
  omega
theorem zN2(hg: ∀g∈tab L (lets m nx),TrN m g)(hm:m<=4): ¬SyF L m nx:=by
 refine zUr (K:=lstT m m) ?_ (fun w hw=>?_)
 ·rw[zKb];rcases(by omega:m=0\/m=1\/m=2\/m=3\/m=4)with rfl|rfl|rfl|rfl|rfl<;>decide
 ·obtain⟨h1,h2⟩:=zRs hg w hw;exact zLP m m _ h1 h2
def zWY(L m:Nat)(nx:List (List Int)):Prop:=∀q a b,q<m->a<L->b<L->zj nx q [a,b]=zj nx 0 [a,b]
def zVW(L:Nat):List (List Nat):=[[]]++((List.range L).map fun a=>[a])++(List.range L).flatMap fun a=>(List.range L).map fun b=>[a,b]
theorem zRO(hL:L<=2):(zVW L).length<=7:=by
 rcases(by omega:L=0\/L=1\/L=2)with rfl|rfl|rfl<;>decide
theorem zTi(hD:DfL L m 0 bs nx)(hc:zWY L m nx)(w:List Nat)(hw: ∀a∈w,a<L): ∃u∈zVW L,act m (tab L (lets m nx)) w=act m (tab L (lets m nx)) u:=by
 by_cases h0:w.length<=2
 ·refine⟨w,?_,rfl⟩
  match w,h0,hw with
  |[],_,_=>simp[zVW]
  |[a],_,hw=>exact List.mem_append_left _ (List.mem_append_right _ (List.mem_map.2 ⟨a,List.mem_range.2 (hw a (by simp)),rfl⟩))
  |[a,b],_,hw=>exact List.mem_append_right _ (List.mem_flatMap.2 ⟨a,List.mem_range.2 (hw a (by simp)),List.mem_map.2 ⟨b,List.mem_range.2 (hw b (by simp)),rfl⟩⟩)
  |_::_::_::_,h,_=>simp at h
 ·obtain⟨v,a,b,rfl⟩: ∃v a b,w=v++[a,b]:=by
   refine⟨w.take (w.length-2),w[w.length-2],w[w.length-1],?_⟩;refine List.ext_getElem (by simp;omega) fun i h1 h2=>?_
   rw[List.getElem_append];split
   ·rw[List.getElem_take]
   ·rename_i c;simp at c;rcases(by omega:i=w.length-2\/i=w.length-1)with rfl|rfl
    ·simp[show min (w.length-2) w.length=w.length-2 by omega]
    ·simp[show min (w.length-2) w.length=w.length-2 by omega,show w.length-1-(w.length-2)=1 by omega]
  have ha:=hw a (by simp);have hb:=hw b (by simp);refine⟨[a,b],List.mem_append_right _ (List.mem_flatMap.2 ⟨a,List.mem_range.2 ha,List.mem_map.2 ⟨b,List.mem_range.2 hb,rfl⟩⟩),?_⟩;have hab: ∀x∈[a,b],x<L:=fun x hx=>by simp at hx;rcases hx with rfl|rfl<;>assumption
  have hv: ∀x∈v,x<L:=fun x hx=>hw x (by simp[hx])
  have len: ∀w:List Nat,(∀x∈w,x<L)->(act m (tab L (lets m nx)) w).length=m:=fun w hw=>(zRs (fun g hg=>by
   simp only[tab,List.mem_map,List.mem_range]at hg;obtain⟨x,hx,rfl⟩:=hg;refine⟨by simp,fun u hu=>?_⟩;simp only[lets,tab,List.mem_map,List.mem_range]at hu;obtain⟨q,hq,rfl⟩:=hu;have:=(hD.rt.step hq hx).1;omega) w hw).1
  refine List.ext_getElem? fun q=>?_
  by_cases hq:q<m
  ·rw[zB9 hD _ hw q hq,zB9 hD _ hab q hq];congr 2;have e:zj nx q (v++[a,b])=zj nx (zj nx q v) [a,b]:=by simp[zj]
   rw[e,hc _ a b (hD.rt.walk hv hq) ha hb,←hc q a b hq ha hb]
  ·rw[Qg (by rw[len _ hw];omega),Qg (by rw[len _ hab];omega)]
theorem zVK(hD:DfL L m 0 bs nx)(hc:zWY L m nx)(hL:L<=2): ¬SyF L m nx:=by
 refine zUr (K:=(zVW L).map (act m (tab L (lets m nx)))) ?_ (fun w hw=>?_)
 ·have:=zRO hL;simp;omega
 ·obtain⟨u,hu,e⟩:=zTi hD hc w hw;rw[e];exact List.mem_map.2 ⟨u,hu,rfl⟩
end
def zLW(k:Nat)(w:List Nat):List Nat:=w.drop (w.length-k)
def zFP(ws:List (List Nat))(w:List Nat)(t:Nat):Prop:=ws[t]? =some w/\ ∀i,t<i->ws[i]? ≠some w
theorem zFP.eq{ws:List (List Nat)}{w:List Nat}{t u:Nat}(h:zFP ws w t)(g:zFP ws w u):t=u:=by
 rcases Nat.lt_trichotomy t u with c|c|c
 ·exact absurd g.1 (h.2 u c)
 ·exact c
 ·exact absurd h.1 (g.2 t c)
theorem zBw(k:Nat)(w:List Nat)(x:Nat):zLW (k+1) (w++[x])=zLW k w++[x]:=by
 unfold zLW;rw[List.length_append,List.length_singleton,show w.length+1-(k+1)=w.length-k by omega,List.drop_append_of_le_length (by omega)]
theorem zEt(w:List Nat):zLW 0 w=[]:=by simp[zLW]
def SuR(most:Nat)(ws:List (List Nat))(w:List Nat)(r:List Int):Prop:=∀(x:Nat) v,r[x]? =some v-> ∃t:Nat,v=(t:Int)/\zFP ws (zLW most (w++[x])) t
theorem zVN{most j:Nat}{v W:List Nat}(h:v=W.drop j)(hj:j=0\/most<W.length-(j-1))(hl:v.length<=most):v=zLW most W:=by
 subst h;rw[List.length_drop]at hl;unfold zLW;by_cases c:W.length<=j
 ·rw[List.drop_of_length_le c,List.drop_of_length_le];rcases hj with rfl|hj<;>omega
 ·congr 1;rcases hj with rfl|hj<;>omega
theorem zOY{a b:List Nat}(ha: ∀x∈a,x<=20)(hb: ∀x∈b,x<=20)(h:(zAU a).toList=(zAU b).toList):a=b:=by
 rw[ByteArray.toList_eq,ByteArray.toList_eq]at h;simp only[zAU]at h
 induction a generalizing b with
 |nil=>cases b with
  |nil=>rfl
  |cons y b=>simp at h
 |cons x a ih=>
  cases b with
  |nil=>simp at h
  |cons y b=>
   simp only[List.map_cons,List.cons.injEq]at h;have hx:=ha x (by simp);have hy:=hb y (by simp);have h5:=congrArg UInt8.toNat h.1;simp only[UInt8.toNat_ofNat']at h5;rw[ih (fun z hz=>ha z (by simp[hz])) (fun z hz=>hb z (by simp[hz])) h.2];congr 1;omega
def DeG(L:Nat)(xs:List Int)(res:AV)(H':List AObj):Prop:=∃n s b bs nxt,n<=9/\b<=xs.length/\DfL L n s bs nxt/\(∀p q a b,p<n->q<n->a<L->b<L->zj nxt p [a,b]=zj nxt q [a,b])/\res=dfT 2 L s bs nxt/\H'=[tpO 1 xs b]
theorem zSk{L most:Nat}{ws:List (List Nat)}{nxt:List (List Int)}(hW:WsG L most ws)(hm:most=1\/most=2)(hl:nxt.length=ws.length)(hr: ∀r∈nxt,r.length=L)(h: ∀(j:Nat) r,nxt[j]? =some r->SuR most ws (ws.getD j []) r): ∀p q a b,p<ws.length->q<ws.length->a<L->b<L->zj nxt p [a,b]=zj nxt q [a,b]:=by
 have st: ∀p a,p<ws.length->a<L->zFP ws (zLW most (ws.getD p []++[a])) (zb nxt p a):=fun p a hp ha=>by
  have hpn:p<nxt.length:=by omega
  have hal:a<nxt[p].length:=by rw[hr _ (by simp)];exact ha
  obtain⟨t,h1,h2⟩:=h p nxt[p] (Qj hpn) a nxt[p][a] (Qj hal);have e:zb nxt p a=t:=by
   unfold zb;rw[Qv (l:=nxt),Qj hpn,Qd,Qv,Qj hal,Qd,h1,Int.toNat_natCast]
  rw[e];exact h2
 have key: ∀p a b,p<ws.length->a<L->b<L->zFP ws (zLW most ([a]++[b])) (zj nxt p [a,b]):=fun p a b hp ha hb=>by
  have h1:=st p a hp ha;have hs:=(Qq.1 h1.1).1;have h2:=st _ b hs hb;rw[Qv,h1.1,Qd]at h2;have e:zLW most (zLW most (ws.getD p []++[a])++[b])=zLW most ([a]++[b]):=by
   rcases hm with rfl|rfl
   ·rw[zBw,zEt];rfl
   ·rw[zBw,zBw 1 (ws.getD p []),zBw,zEt,zBw,show([a]:List Nat)=[]++[a]from rfl,zBw,zEt];simp
  rw[e]at h2;exact h2
 exact fun p q a b hp hq ha hb=>(key p a b hp ha hb).eq (key q a b hq ha hb)
theorem zIH(xs:List Int)(a L:Nat)(ha:a<=xs.length)(hl:xs.length<=80)(hL:L=1\/L=2): ∃res H',DeG L xs res H'∧
  FnS Tryz.prog 56 [.ptr 0 0 2,.t 2 (.int .i64 L)] [tpO 1 xs a] res H':=by
 obtain⟨v1,a1,hv1,ha1,hN1⟩:=zBP xs a 2 ha hl (by omega);have hv1:=hv1 (by omega);obtain⟨most,hmo⟩: ∃m,m=1+v1:=⟨_,rfl⟩;have hm:most=1\/most=2:=by omega
 have hmm:(1:Int)+v1=most:=by omega
 obtain⟨res,⟨ws,hW,rfl⟩,hN2⟩:=zQK L most hL hm;have hwl:=hW.len;have hwp:=hW.pos;refine zAp Tryz.func56 rfl (by simp[Tryz.f56]) ?_;rw[show Tryz.f56.ntmps=76 from rfl,show Tryz.f56.results= #[.cell 4 56]from rfl];refine rg0 ?_;refine rg0 ?_;refine zO fun K hK=>?_
 simp
 (repeat' apply And.intro)
 all_goals (try omega)
 refine zJ (caps:=[]) (hN1) [0] [0] 1 rfl rfl rfl rfl (by kernel_rfl) (by simp) ?_ ?_ (by simp) rfl (by simp) ⟨.inr ⟨rfl,0,_,_,_,_,_,rfl,rfl,rfl,rfl,rfl⟩,trivial⟩ (by simp[tpO]) ?_
 ·simp[scal,ints,tpO]
 ·simp[scal,ints,tpO]
 simp(maxSteps:=2000000)(disch:=omega)[scal,zBh,hmm]
 (repeat' apply And.intro)
 all_goals (try omega)
 refine zJ (caps:=[]) (hN2) [] [] 2 rfl rfl rfl rfl (by kernel_rfl) (by simp) ?_ trivial trivial rfl trivial trivial (by simp) ?_
 ·simp[scal,ints,tpO]
 simp[scal];and_intros<;>try first|apply hK|omega|rfl|simp<;>omega
 refine zD ?_;refine rg1 @wsT.eq_1 ?_;refine zG ?_;refine awp_loop (fun y:Nat×Nat×List Bool×List (List Int)=>mkS [(0,.ptr 0 0 2),(1,.t 2 (.int .i64 L)),(4,.ptr 1 0 4),(5,.ptr 2 0 4),(6,.t 2 (.sl 1 (wsT ws))),(22,.t 2 (.sl 1 (wsT ws))),(23,.t 2 (.int .i64 ws.length)),(24,.t 2 (.int .i64 y.1))]
   [(0,tpO 1 xs y.2.1),(1,.box 56 [.any,.any,.any,.any]),(2,.box 56 [.t 2 (.int .i64 L),.t 2 (.int .i64 0),.own 3 y.1,.own 4 y.1]),(3,.row 4 1 2 (y.2.2.1.map .bool)),(4,.row 22 1 2 (y.2.2.2.map ints))] 5 76 [.ptr 0 0 2,.any])
  (fun y=>y.1<=ws.length/\y.2.1<=xs.length/\y.2.2.1.length=y.1/\y.2.2.2.length=y.1/\(∀r∈y.2.2.2,r.length=L/\ ∀v∈r,0<=v/\v<(ws.length:Int))/\ ∀(j:Nat) r,y.2.2.2[j]? =some r->SuR most ws (ws.getD j []) r) (fun y=>ws.length-y.1) ?_ ?_
 ·refine⟨(0,a1,[],[]),⟨by simp,ha1,rfl,rfl,fun r hr=>by simp at hr,fun j r hr=>by simp at hr⟩,?_⟩;refine zP [(0,some 0),(1,some 1),(2,some 3000001),(3,none),(4,none)] rfl ?_ ?_ ?_ ?_
  all_goals try simp[ints,tpO,scal,wsT]
 ·rintro⟨q,a3,bs,nxt⟩ ⟨hq,ha3,hbl,hnl,hrow,hsu⟩;simp only at hq ha3 hbl hnl hrow hsu;refine rg0 ?_;refine zD ?_;by_cases hqn:q<ws.length
  ·have hwq:=hW.lt ws[q] (by simp);have hwql:=hW.ln ws[q] (by simp);refine cK1 @hqn ?_;refine zD ?_;refine zG ?_;obtain⟨v4,a4,hv4,ha4,hN4⟩:=zBP xs a3 2 ha3 hl (by omega);refine rg1 (an @wsT.eq_1 @hqn) ?_;refine zo (by kernel_rfl) (fun K hK=>?_);simp
   (repeat' apply And.intro)
   all_goals (try omega)
   refine zV (caps:=[]) (hN4) [0] [0] 1 rfl rfl rfl rfl (by kernel_rfl) (by simp) ?_ ?_ (by simp) rfl (by simp) ⟨.inr ⟨rfl,0,_,_,_,_,_,rfl,rfl,rfl,rfl,rfl⟩,trivial⟩ (by simp[tpO]) ?_
   ·simp[scal,ints,tpO]
   ·simp[scal,ints,tpO]
   simp[ints,scal,tpO]
   (repeat' first|apply hK|apply And.intro)<;>try first|(show zAf _ _=true;kernel_rfl)|(show okH _ _ _=true;kernel_rfl)|omega|rfl|(simp<;>omega)
   refine rg0 ?_;refine zD ?_;refine rg0 ?_;refine zG ?_;refine awp_loop (fun y:Nat×List Int=>mkS [(0,.ptr 0 0 2),(1,.t 2 (.int .i64 L)),(4,.ptr 1 0 4),(5,.ptr 2 0 4),(6,.t 2 (.sl 1 (wsT ws))),(8,.t 2 (.str (zAU ws[q]))),(9,.own 5 y.1),(10,.t 2 (.int .i64 y.1)),(22,.t 2 (.sl 1 (wsT ws))),(23,.t 2 (.int .i64 ws.length)),(24,.t 2 (.int .i64 q))]
     [(0,tpO 1 xs a4),(1,.box 56 [.any,.any,.any,.any]),(2,.box 56 [.t 2 (.int .i64 L),.t 2 (.int .i64 0),.own 3 (q+1),.own 4 q]),(3,.row 4 1 2 ((bs++[(v4:Int)==1]).map .bool)),(4,.row 22 1 2 (nxt.map ints)),(5,.row 3 1 2 (y.2.map (.int .i64)))] 6 76 [.ptr 0 0 2,.any])
    (fun y=>y.1<=L/\y.2.length=y.1/\(∀v∈y.2,0<=v/\v<(ws.length:Int))/\SuR most ws ws[q] y.2) (fun y=>L-y.1) ?_ ?_
   ·refine⟨(0,[]),⟨by simp,rfl,fun v hv=>by simp at hv,fun x v hx=>by simp at hx⟩,?_⟩;refine zP [(0,some 0),(1,some 1),(2,some 2),(3,some 3),(4,some 4),(5,none)] rfl ?_ ?_ ?_ ?_
    all_goals try simp[ints,tpO,wsT,hbl]
   ·rintro⟨x,r⟩ ⟨hx,hrl,hrv,hrs⟩;simp only at hx hrl hrv hrs;refine zD ?_;refine rg0 ?_;by_cases hxl:x<L
    ·refine cK1 @hxl ?_;refine zD ?_;refine zG ?_;refine zO fun K hK=>?_
     simp(maxSteps:=2000000)(disch:=omega)[zBh,wr8,isU8,zEY (show x<=20 by omega),zAj]
     (repeat' first|apply hK|apply And.intro)<;>try first|omega|rfl|(simp<;>omega)
     refine rg0 ?_;refine zD ?_;refine zG ?_;refine awp_loop (fun y:List Nat×Int=>mkS [(0,.ptr 0 0 2),(1,.t 2 (.int .i64 L)),(4,.ptr 1 0 4),(5,.ptr 2 0 4),(6,.t 2 (.sl 1 (wsT ws))),(8,.t 2 (.str (zAU ws[q]))),(9,.own 5 x),(10,.t 2 (.int .i64 x)),(11,.t 2 (.str (zAU y.1))),(12,.t 2 (.int .i64 y.2)),(22,.t 2 (.sl 1 (wsT ws))),(23,.t 2 (.int .i64 ws.length)),(24,.t 2 (.int .i64 q))]
       [(0,tpO 1 xs a4),(1,.box 56 [.any,.any,.any,.any]),(2,.box 56 [.t 2 (.int .i64 L),.t 2 (.int .i64 0),.own 3 (q+1),.own 4 q]),(3,.row 4 1 2 ((bs++[(v4:Int)==1]).map .bool)),(4,.row 22 1 2 (nxt.map ints)),(5,.row 3 1 2 (r.map (.int .i64)))] 6 76 [.ptr 0 0 2,.any])
      (fun y=>(y.2= -1/\1<=y.1.length/\y.1.length<=most+1/\(∀z∈y.1,z<L)/\ ∃j,y.1=(ws[q]++[x]).drop j/\(j=0\/most<(ws[q]++[x]).length-(j-1)))\/(0<=y.2/\y.2<(ws.length:Int)/\ ∃t:Nat,y.2=(t:Int)/\zFP ws (zLW most (ws[q]++[x])) t)) (fun y=>y.1.length) ?_ ?_
     ·refine⟨(ws[q]++[x],-1),.inl ⟨rfl,by simp,by simp;omega,fun z hz=>?_,0,rfl,.inl rfl⟩,?_⟩
      ·rcases List.mem_append.1 hz with hz|hz
       ·exact hwq z hz
       ·simp at hz;omega
      ·refine zP [(0,some 0),(1,some 1),(2,some 2),(3,some 3),(4,some 4),(5,some 5)] rfl ?_ ?_ ?_ ?_
       all_goals try simp[ints,tpO,wsT]
     ·rintro⟨v,to⟩ hto;simp only at hto;refine zD ?_;refine rg0 ?_;rcases hto with⟨rfl,hv1',hv2',hvx,jj,hjj,hjm⟩|⟨ht1,ht2,tt,ht3,ht4⟩
      ·refine cK0 ?_;refine zG ?_;refine zD ?_;refine rg1 @wsT.eq_1 ?_;refine zG ?_;refine awp_loop (fun y:Nat×Int=>mkS [(0,.ptr 0 0 2),(1,.t 2 (.int .i64 L)),(4,.ptr 1 0 4),(5,.ptr 2 0 4),(6,.t 2 (.sl 1 (wsT ws))),(8,.t 2 (.str (zAU ws[q]))),(9,.own 5 x),(10,.t 2 (.int .i64 x)),(11,.t 2 (.str (zAU v))),(12,.t 2 (.int .i64 y.2)),(22,.t 2 (.sl 1 (wsT ws))),(23,.t 2 (.int .i64 ws.length)),(24,.t 2 (.int .i64 q)),(50,.t 2 (.sl 1 (wsT ws))),(51,.t 2 (.int .i64 ws.length)),(52,.t 2 (.int .i64 y.1))]
         [(0,tpO 1 xs a4),(1,.box 56 [.any,.any,.any,.any]),(2,.box 56 [.t 2 (.int .i64 L),.t 2 (.int .i64 0),.own 3 (q+1),.own 4 q]),(3,.row 4 1 2 ((bs++[(v4:Int)==1]).map .bool)),(4,.row 22 1 2 (nxt.map ints)),(5,.row 3 1 2 (r.map (.int .i64)))] 6 76 [.ptr 0 0 2,.any])
        (fun y=>y.1<=ws.length/\((y.2= -1/\ ∀i (hi:i<ws.length),i<y.1->ws[i]≠v)\/(0<=y.2/\y.2<(ws.length:Int)/\ ∃t:Nat,y.2=(t:Int)/\ws[t]? =some v/\ ∀i,t<i->i<y.1->ws[i]? ≠some v))) (fun y=>ws.length-y.1) ?_ ?_
       ·refine⟨(0,-1),⟨by simp,.inl ⟨rfl,fun i _ h=>by simp at h⟩⟩,?_⟩;refine zP [(0,some 0),(1,some 1),(2,some 2),(3,some 3),(4,some 4),(5,some 5)] rfl ?_ ?_ ?_ ?_
        all_goals try simp[ints,tpO,wsT]
       ·rintro⟨k,to⟩ ⟨hk,hto⟩;simp only at hk hto;refine rg0 ?_;refine zD ?_;by_cases hkl:k<ws.length
        ·refine cK1 @hkl ?_;refine zD ?_;refine zG ?_;refine rg1 (an @wsT.eq_1 @hkl) ?_;by_cases he:(zAU ws[k]).toList=(zAU v).toList
         ·refine rg1 @he ?_;refine cT0 ?_;refine rr0 ?_;refine rr0 ?_;refine⟨(k+1,(k:Int)),⟨by omega,.inr ⟨by omega,by omega,k,rfl,by rw[Qj hkl,zOY (fun z hz=>by have:=hW.lt ws[k] (by simp) z hz;omega) (fun z hz=>by have:=hvx z hz;omega) he],fun i h1 h2=>by simp at h2;omega⟩⟩,by simp;omega,?_⟩;refine zP [(0,some 0),(1,some 1),(2,some 2),(3,some 3),(4,some 4),(5,some 5)] rfl ?_ ?_ ?_ ?_
          all_goals try simp[ints,tpO,wsT]
         ·refine rg1 @he ?_;refine cY1 @he ?_;refine rr0 ?_;refine⟨(k+1,to),⟨by omega,?_⟩,by simp;omega,?_⟩
          ·rcases hto with⟨h1,h2⟩|h1
           ·refine .inl ⟨h1,fun i hi hik=>?_⟩;by_cases e:i=k
            ·subst e;intro h;exact he (by rw[h])
            ·exact h2 i hi (by simp at hik;omega)
           ·obtain⟨g1,g2,g3,g4,g5,g6⟩:=h1;refine .inr ⟨g1,g2,g3,g4,g5,fun i c1 c2=>?_⟩;by_cases e:i=k
            ·subst e;rw[Qj hkl];intro e2;injection e2 with e2;exact he (by rw[e2])
            ·exact g6 i c1 (by simp at c2;omega)
          ·refine zP [(0,some 0),(1,some 1),(2,some 2),(3,some 3),(4,some 4),(5,some 5)] rfl ?_ ?_ ?_ ?_
           all_goals try simp[ints,tpO,wsT]
        ·refine cF1 @hkl ?_;refine zK ?_;refine rr1 @zNJ ?_;refine⟨(v.drop 1,to),?_,by simp;omega,?_⟩
         ·rcases hto with⟨h1,h2⟩|h1
          ·have hvm:most<v.length:=by
            refine Nat.lt_of_not_le fun hvl=>?_
            obtain⟨i,hi,e⟩:=Qb (hW.all v hvx hvl);exact h2 i hi (by omega) e
           have hvl2:=congrArg List.length hjj;rw[List.length_drop]at hvl2;refine .inl ⟨h1,by simp;omega,by simp;omega,fun z hz=>hvx z (List.mem_of_mem_drop hz),jj+1,?_,.inr (by simp only[Nat.add_sub_cancel];omega)⟩;show v.drop 1=_;rw[hjj,List.drop_drop]
          ·obtain⟨g1,g2,g3,g4,g5,g6⟩:=h1;refine .inr ⟨g1,g2,g3,g4,?_⟩;rw[←zVN hjj hjm (hW.ln v (Qc g5))];refine⟨g5,fun i hi=>?_⟩;by_cases hil:i<ws.length
           ·exact g6 i hi (by omega)
           ·rw[Qg (by omega)];simp
         ·refine zP [(0,some 0),(1,some 1),(2,some 2),(3,some 3),(4,some 4),(5,some 5)] rfl ?_ ?_ ?_ ?_
          all_goals try simp[ints,tpO,wsT]
      ·refine cF0 ?_;refine zK ?_;refine rr0 ?_;refine rr0 ?_;refine⟨(x+1,r++[to]),⟨by omega,by simp[hrl],fun u hu=>?_,fun y v hy=>?_⟩,by simp;omega,?_⟩
       ·rcases List.mem_append.1 hu with hu|hu
        ·exact hrv u hu
        ·simp at hu;omega
       ·by_cases c:y<r.length
        ·rw[Qw c]at hy;exact hrs y v hy
        ·have:=(Qq.1 hy).1;simp at this;obtain rfl:y=r.length:=by omega
         simp at hy;subst hy;rw[hrl];exact⟨tt,ht3,ht4⟩
       ·refine zP [(0,some 0),(1,some 1),(2,some 2),(3,some 3),(4,some 4),(5,some 5)] rfl ?_ ?_ ?_ ?_
        all_goals try simp[ints,tpO,wsT,hrl]
    ·have hxe:x=L:=by omega
     refine cF1 @hxl ?_;refine zK ?_;refine rr0 ?_;refine rr0 ?_;refine⟨(q+1,a4,bs++[(v4:Int)==1],nxt++[r]),⟨by simp;omega,ha4,by simp[hbl],by simp[hnl],fun u hu=>?_,fun j u hj=>?_⟩,by simp;omega,?_⟩
     ·rcases List.mem_append.1 hu with hu|hu
      ·exact hrow u hu
      ·simp at hu;subst hu;exact⟨by omega,hrv⟩
     ·by_cases c:j<nxt.length
      ·rw[Qw c]at hj;exact hsu j u hj
      ·have:=(Qq.1 hj).1;simp at this;obtain rfl:j=nxt.length:=by omega
       simp at hj;subst hj;rw[hnl,Qv,Qj hqn];exact hrs
     ·refine zP [(0,some 0),(1,some 1),(2,some 2),(3,some 3),(4,some 4)] rfl ?_ ?_ ?_ ?_
      all_goals try simp[ints,tpO,wsT,hnl]
  ·have hqe:q=ws.length:=by omega
   refine cF1 @hqn ?_;refine zK ?_;refine rg0 ?_;refine zI ?_;subst hqe;refine⟨⟨_,_,⟨ws.length,0,a3,bs,nxt,hwl,ha3,⟨hwp,by omega,hbl,hnl,hrow⟩,zSk hW hm hnl (fun r hr=>(hrow r hr).1) hsu,rfl,rfl⟩,zBT ?_⟩,by simp⟩;refine⟨.inr rfl,_,[(0,some 0)],(by first|(simp;rfl)|rfl),?_,?_,?_,?_⟩
   all_goals try simp +contextual [zc,zf,zAC,ints,tpO,rows,zH,dfT,hbl,hnl]
def zV8(L n:Nat)(nxt:List (List Int)):Prop:=n<=4\/ ∀p q a b,p<n->q<n->a<L->b<L->zj nxt p [a,b]=zj nxt q [a,b]
def AnG(L:Nat)(xs:List Int)(res:AV)(H':List AObj):Prop:=∃n s b bs nxt,n<=9/\b<=xs.length/\DfL L n s bs nxt/\zV8 L n nxt/\res=dfT 2 L s bs nxt/\H'=[tpO 1 xs b]
theorem zO6{L m:Nat}{nx:List (List Int)}(hL:0<L)(hc:Can L m nx): ∀t,t<m-> ∃u:List Nat,(∀a∈u,a<L)/\zj nx 0 u=t:=by
 intro t
 induction t using Nat.strongRecOn with
 |_ t ih=>
  intro ht;by_cases h0:t=0
  ·subst h0;exact⟨[],by simp,rfl⟩
  ·obtain⟨k,k1,k2,-⟩:=hc t (by omega) ht;obtain⟨u,u1,u2⟩:=ih (k/L) k1 (by omega);refine⟨u++[k%L],fun a ha=>?_,?_⟩
   ·rcases List.mem_append.1 ha with ha|ha
    ·exact u1 a ha
    ·simp only[List.mem_singleton]at ha;subst ha;exact Nat.mod_lt _ hL
   ·simp only[zj,List.foldl_append,List.foldl_cons,List.foldl_nil]at u2 ⊢;rw[u2,k2]
theorem zC0{bs:List Bool}{nx:List (List Int)}(s:Nat)(u v:List Nat):zB3 bs nx s (u++v)=zB3 bs nx (zj nx s u) v:=by
 simp[zB3,zj]
theorem MiX.con{L n s m:Nat}{bs bs':List Bool}{nxt nx':List (List Int)}(hL:1<=L)(hD:DfL L n s bs nxt)(hX:MiX L n s bs nxt m bs' nx')(hc: ∀p q a b,p<n->q<n->a<L->b<L->zj nxt p [a,b]=zj nxt q [a,b]):zWY L m nx':=by
 intro q a b hq ha hb;have hM:=hX.mn;have hm0:0<m:=hM.df.n1;have hab: ∀x∈[a,b],x<L:=fun x hx=>by simp at hx;rcases hx with rfl|rfl<;>assumption
 obtain⟨u,u1,u2⟩:=zO6 hL hM.can q hq;refine hM.dis _ _ (hM.df.rt.walk hab hq) (hM.df.rt.walk hab hm0) fun w hw=>?_
 have h1: ∀x∈u++([a,b]++w),x<L:=fun x hx=>by
  rcases List.mem_append.1 hx with hx|hx
  ·exact u1 x hx
  ·rcases List.mem_append.1 hx with hx|hx
   ·exact hab x hx
   ·exact hw x hx
 have h2: ∀x∈[a,b]++w,x<L:=fun x hx=>h1 x (List.mem_append_right _ hx)
 have e1:zB3 bs' nx' (zj nx' q [a,b]) w=zB3 bs' nx' 0 (u++([a,b]++w)):=by rw[zC0,u2,zC0]
 have e2:zB3 bs' nx' (zj nx' 0 [a,b]) w=zB3 bs' nx' 0 ([a,b]++w):=by rw[zC0]
 rw[e1,e2,hX.zMu _ h1,hX.zMu _ h2,zC0,zC0,zC0,hc _ s a b (hD.rt.walk u1 hD.st) hD.st ha hb]
theorem zV8.noF{L n s m:Nat}{bs bs':List Bool}{nxt nx':List (List Int)}(hL:L=1\/L=2)(hD:DfL L n s bs nxt)(hX:MiX L n s bs nxt m bs' nx')(hn:n<=9)(hc:zV8 L n nxt): ¬SyF L m nx':=by
 have hmn:=hX.le;rcases hc with hc|hc
 ·exact zN2 (hX.mn.df.gn (by omega) (by omega) (by omega)).tr (by omega)
 ·exact zVK hX.mn.df (hX.con (by omega) hD hc) (by omega)
theorem zSU(xs:List Int)(a L most:Nat)(ha:a<=xs.length)(hl:xs.length<=80)(hL:L=1\/L=2)(hm:1<=most)(hm4:most<=4): ∃res H',AnG L xs res H'∧
  FnS Tryz.prog 24 [.ptr 0 0 2,.t 2 (.int .i64 L),.t 2 (.int .i64 most)] [tpO 1 xs a] res H':=by
 obtain⟨v,a1,hv,ha1,hN⟩:=zBP xs a 6 ha hl (by omega);have hv:=hv (by omega);refine zAp Tryz.func24 rfl (by simp[Tryz.f24]) ?_;rw[show Tryz.f24.ntmps=31 from rfl,show Tryz.f24.results= #[.cell 6 56]from rfl];refine rg0 ?_;refine zD ?_;refine zO fun K hK=>?_
 simp(maxSteps:=2000000)(disch:=omega)
 (repeat' apply And.intro)
 all_goals (try omega)
 refine zJ (caps:=[]) (hN) [0] [0] 1 rfl rfl rfl rfl (by kernel_rfl) (by simp) ?_ ?_ (by simp) rfl (by simp) ⟨.inr ⟨rfl,0,_,_,_,_,_,rfl,rfl,rfl,rfl,rfl⟩,trivial⟩ (by simp[tpO]) ?_
 ·simp[scal,ints,tpO]
 ·simp[scal,ints,tpO]
 simp(maxSteps:=2000000)(disch:=omega)[scal];and_intros<;>try first|apply hK|omega|rfl|simp<;>omega
 refine zG ?_;by_cases h1:(v:Int)=1
 ·obtain⟨res,H',⟨n,s,b,bs,nxt,hn,hb,hD,rfl,rfl⟩,hO⟩:=zF1 xs a1 L most ha1 hl (by omega) (by omega) hm (by omega);refine rg1 @h1 ?_;refine cT0 ?_;refine zO fun K hK=>?_
  simp(maxSteps:=2000000)(disch:=omega)
  (repeat' apply And.intro)
  all_goals (try omega)
  refine zJ (caps:=[]) (hO) [0] [0] 1 rfl rfl rfl rfl (by kernel_rfl) (by simp) ?_ ?_ (by simp) rfl (by simp) ⟨.inr ⟨rfl,0,_,_,_,_,_,rfl,rfl,rfl,rfl,rfl⟩,trivial⟩ (by simp[tpO]) ?_
  ·simp[scal,ints,tpO]
  ·simp[scal,ints,tpO]
  simp(maxSteps:=2000000)(disch:=omega)[ints,rows,scal,dfT,zH,tpO];and_intros<;>try first|apply hK|omega|rfl|simp<;>omega
  refine zI ?_;refine⟨⟨_,_,⟨n,s,b,bs,nxt,by omega,hb,hD,.inl (by omega),rfl,rfl⟩,zBT ?_⟩,by simp⟩;refine⟨.inr rfl,_,[(0,some 0)],(by first|(simp;rfl)|rfl),?_,?_,?_,?_⟩
  all_goals try simp +contextual (disch:=omega)[zf,ints,tpO,rows,zH,dfT]
 by_cases h2:(v:Int)=2
 ·obtain⟨m4,hm4⟩: ∃m4:Nat,(m4:Int)=if(4:Int)<most then 4 else(most:Int):=⟨if 4<most then 4 else most,by split<;>split<;>omega⟩
  have hm5:1<=m4/\m4<=100/\m4<=4:=by split at hm4<;>omega
  obtain⟨res,H',⟨n,s,b,bs,nxt,hn,hb,hD,rfl,rfl⟩,hO⟩:=zFI xs a1 L m4 ha1 hl (by omega) (by omega) hm5.1 hm5.2.1;refine rg1 @h1 ?_;refine cF0 ?_;refine rg1 @h2 ?_;refine cT0 ?_;refine zO fun K hK=>?_
  simp(maxSteps:=2000000)(disch:=omega)[←hm4]
  (repeat' apply And.intro)
  all_goals (try omega)
  refine zJ (caps:=[]) (hO) [0] [0] 1 rfl rfl rfl rfl (by kernel_rfl) (by simp) ?_ ?_ (by simp) rfl (by simp) ⟨.inr ⟨rfl,0,_,_,_,_,_,rfl,rfl,rfl,rfl,rfl⟩,trivial⟩ (by simp[tpO]) ?_
  ·simp[scal,ints,tpO]
  ·simp[scal,ints,tpO]
  simp(maxSteps:=2000000)(disch:=omega)[ints,rows,scal,dfT,zH,tpO];and_intros<;>try first|apply hK|omega|rfl|simp<;>omega
  refine zI ?_;refine⟨⟨_,_,⟨n,s,b,bs,nxt,by omega,hb,hD,.inl (by omega),rfl,rfl⟩,zBT ?_⟩,by simp⟩;refine⟨.inr rfl,_,[(0,some 0)],(by first|(simp;rfl)|rfl),?_,?_,?_,?_⟩
  all_goals try simp +contextual (disch:=omega)[zf,ints,tpO,rows,zH,dfT]
 by_cases h3:(v:Int)=3
 ·obtain⟨res,H',⟨n,s,b,bs,nxt,hn,hb,hD,hcon,rfl,rfl⟩,hO⟩:=zIH xs a1 L ha1 hl hL;refine rg1 @h1 ?_;refine cF0 ?_;refine rg1 @h2 ?_;refine cF0 ?_;refine rg1 @h3 ?_;refine cT0 ?_;refine zO fun K hK=>?_
  simp(maxSteps:=2000000)(disch:=omega)
  (repeat' apply And.intro)
  all_goals (try omega)
  refine zJ (caps:=[]) (hO) [0] [0] 1 rfl rfl rfl rfl (by kernel_rfl) (by simp) ?_ ?_ (by simp) rfl (by simp) ⟨.inr ⟨rfl,0,_,_,_,_,_,rfl,rfl,rfl,rfl,rfl⟩,trivial⟩ (by simp[tpO]) ?_
  ·simp[scal,ints,tpO]
  ·simp[scal,ints,tpO]
  simp(maxSteps:=2000000)(disch:=omega)[ints,rows,scal,dfT,zH,tpO];and_intros<;>try first|apply hK|omega|rfl|simp<;>omega
  refine zI ?_;refine⟨⟨_,_,⟨n,s,b,bs,nxt,by omega,hb,hD,.inr hcon,rfl,rfl⟩,zBT ?_⟩,by simp⟩;refine⟨.inr rfl,_,[(0,some 0)],(by first|(simp;rfl)|rfl),?_,?_,?_,?_⟩
  all_goals try simp +contextual (disch:=omega)[zf,ints,tpO,rows,zH,dfT]
 ·obtain⟨res,H',⟨n,s,b,bs,nx,hnm,hb,hD,rfl,rfl⟩,hspec⟩:=zRr xs a1 L most ha1 hl (by omega) (by omega) hm (by omega);have hbl:=hD.bl;refine rg1 @h1 ?_;refine cF0 ?_;refine rg1 @h2 ?_;refine cF0 ?_;refine rg1 @h3 ?_;refine cY0 ?_;refine zO fun K hK=>?_
  simp(maxSteps:=2000000)(disch:=omega)
  (repeat' apply And.intro)
  all_goals (try omega)
  refine zF9 (caps:=[]) hspec [0] [0,12000001,12000002] 12000003 1 rfl rfl rfl rfl (by kernel_rfl) (by simp) ?_ ?_ (by simp) rfl (by simp) ⟨.inr ⟨rfl,0,_,_,_,_,_,rfl,rfl,rfl,rfl,rfl⟩,.inl (by omega),.inl (by omega),trivial⟩ (by omega) (by intro k hk;simp at hk;omega) (by simp[tpO,dfH]) (fun j hj=>rfl) ?_
  ·simp[scal,tpO]
  ·simp[tpO,scal,ints]
  have q1:(poF [0,12000001,12000002] 12000003 n)[1]?.getD 0=12000001:=by simp[poF]
  have q2:(poF [0,12000001,12000002] 12000003 n)[2]?.getD 0=12000002:=by simp[poF]
  simp(maxSteps:=2000000)(disch:=omega)[zQq,zES,zDV,awpOp,gd,aop,ASt.eval,zAv,ASt.app,Eff.heap,dels,zCC,aStore,avCells,putL,outV,outVs,outO,addL,delL,ints,scal,callF,q1,q2,zCb (show 3=[0,12000001,12000002].length from rfl),dfH,tpO,zBd];and_intros<;>try first|apply hK|omega|rfl|simp<;>omega
  refine zI ?_;refine⟨⟨_,_,⟨n,s,b,bs,tab n nx,by omega,hb,hD.list,.inl (by omega),rfl,rfl⟩,zBT ?_⟩,by simp⟩;refine⟨.inr rfl,_,[(0,some 0)],(by first|(simp;rfl)|rfl),?_,?_,?_,?_⟩
  all_goals try simp +contextual (disch:=omega)[zc,zf,zAC,Qi,ints,tpO,zC8,wk1,rows,zH,dfT,ze,hbl]
  exact fun j hj=>(hD.row j hj).1
section
variable{L m:Nat}{bs:List Bool}{nx:List (List Int)}
theorem zGh(q:Nat)(u v:List Nat):zj nx q (u++v)=zj nx (zj nx q u) v:=by simp[zj]
end
structure zJZ where
 nm:ByteArray
 mon:Bool
 form:Int
 kind:Int
 fst:ByteArray
 snd:ByteArray
def zJZ.cells(e:zJZ):List T:=[.str e.nm,.bool e.mon,.int .i64 e.form,.int .i64 e.kind,.str e.fst,.str e.snd]
def zDZ:List zJZ:=[⟨⟨#[116,114,105,118,105,97,108]⟩,true,1,0,⟨#[120,32,61,32,49]⟩,⟨#[]⟩⟩,
 ⟨⟨#[99,111,109,109,117,116,97,116,105,118,101]⟩,true,4,0,⟨#[120,121,32,61,32,121,120]⟩,⟨#[]⟩⟩,
 ⟨⟨#[99,111,109,109,117,116,97,116,105,118,101,45,97,112,101,114,105,111,100,105,99]⟩,true,4,0,⟨#[120,121,32,61,32,121,120]⟩,⟨#[120,94,40,119,43,49,41,32,61,32,120,94,119]⟩⟩,
 ⟨⟨#[97,98,101,108,105,97,110]⟩,true,4,0,⟨#[120,121,32,61,32,121,120]⟩,⟨#[120,94,119,32,61,32,49]⟩⟩,
 ⟨⟨#[115,101,109,105,108,97,116,116,105,99,101]⟩,true,2,6,⟨#[120,121,32,61,32,121,120]⟩,⟨#[120,120,32,61,32,120]⟩⟩,
 ⟨⟨#[97,112,101,114,105,111,100,105,99]⟩,true,1,0,⟨#[120,94,40,119,43,49,41,32,61,32,120,94,119]⟩,⟨#[]⟩⟩,
 ⟨⟨#[103,114,111,117,112]⟩,true,5,0,⟨#[120,94,119,32,61,32,49]⟩,⟨#[]⟩⟩,
 ⟨⟨#[106,45,116,114,105,118,105,97,108]⟩,true,2,6,⟨#[40,120,121,41,94,119,120,32,61,32,40,120,121,41,94,119]⟩,⟨#[121,40,120,121,41,94,119,32,61,32,40,120,121,41,94,119]⟩⟩,
 ⟨⟨#[114,45,116,114,105,118,105,97,108]⟩,true,3,1,⟨#[40,120,121,41,94,119,120,32,61,32,40,120,121,41,94,119]⟩,⟨#[]⟩⟩,
 ⟨⟨#[108,45,116,114,105,118,105,97,108]⟩,true,3,2,⟨#[121,40,120,121,41,94,119,32,61,32,40,120,121,41,94,119]⟩,⟨#[]⟩⟩,
 ⟨⟨#[100,97]⟩,true,3,3,⟨#[40,120,121,41,94,119,120,40,120,121,41,94,119,32,61,32,40,120,121,41,94,119]⟩,⟨#[]⟩⟩,
 ⟨⟨#[102,105,110,105,116,101,45,111,114,45,99,111,102,105,110,105,116,101]⟩,false,2,1,⟨#[120,94,119,121,32,61,32,120,94,119]⟩,⟨#[121,120,94,119,32,61,32,120,94,119]⟩⟩,
 ⟨⟨#[100,101,102,105,110,105,116,101]⟩,false,2,3,⟨#[121,120,94,119,32,61,32,120,94,119]⟩,⟨#[]⟩⟩,
 ⟨⟨#[114,101,118,101,114,115,101,45,100,101,102,105,110,105,116,101]⟩,false,2,2,⟨#[120,94,119,121,32,61,32,120,94,119]⟩,⟨#[]⟩⟩,
 ⟨⟨#[103,101,110,101,114,97,108,105,115,101,100,45,100,101,102,105,110,105,116,101]⟩,false,2,4,⟨#[120,94,119,121,120,94,119,32,61,32,120,94,119]⟩,⟨#[]⟩⟩,
 ⟨⟨#[108,111,99,97,108,108,121,45,116,101,115,116,97,98,108,101]⟩,false,2,5,⟨#[120,94,119,121,120,94,119,121,120,94,119,32,61,32,120,94,119,121,120,94,119]⟩,⟨#[120,94,119,121,120,94,119,122,120,94,119,32,61,32,120,94,119,122,120,94,119,121,120,94,119]⟩⟩,
 ⟨⟨#[100,111,116,45,100,101,112,116,104,45,111,110,101]⟩,false,2,7,⟨#[40,120,94,119,122,121,94,119,117,120,94,119,41,94,119,120,94,119,122,121,94,119,116,120,94,119,40,120,94,119,118,121,94,119,116,120,94,119,41,94,119,32,61,32,40,120,94,119,122,121,94,119,117,120,94,119,41,94,119,40,120,94,119,118,121,94,119,116,120,94,119,41,94,119]⟩,⟨#[]⟩⟩]
def zU5:List T:=zDZ.flatMap zJZ.cells
theorem zDx:FnA Tryz.prog 48 [] (.t 2 (.sl 6 zU5)):=by
 refine fI 19 #[.tmp 0] Tryz.func48 rfl ?_;refine rg0 ?_;refine rg0 ?_;refine zI ?_;refine⟨⟨.inr rfl,_,[],rfl,trivial,trivial,by simp,?_⟩,by simp⟩;simp;rfl
theorem zKW: ∀(l:List zJZ) (k:Nat) (h:k<l.length),((l.flatMap zJZ.cells).drop (k*6)).take 6=zJZ.cells l[k]
 |[],k,h=>by simp at h
 |e::l,0,h=>rfl
 |e::l,k+1,h=>by
  have h':k<l.length:=by simpa using h
  have ih:=zKW l k h';rw[List.flatMap_cons,show(k+1)*6=(zJZ.cells e).length+k*6 by simp[zJZ.cells];omega,List.drop_length_add_append];exact ih
theorem zIm{k:Nat}(h:k<17):(zU5.drop (k*6)).take 6=zJZ.cells (zDZ[k]'h):=zKW zDZ k h
theorem zDY:zU5.length=102:=rfl
theorem zPk(nm:ByteArray){k:Nat}(hk:k<17)(h1:(zDZ[k]'hk).nm=nm)(h2: ∀j (h:j<17),j<k-> ¬(zDZ[j]'h).nm.toList=nm.toList):FnA Tryz.prog 22 [.t 2 (.str nm)] (.t 2 (.int .i64 k)):=by
 refine fI 18 #[.tmp 2] Tryz.func22 rfl ?_;refine rg0 ?_;refine zD ?_;refine rc1 zDx @zDY ?_;refine zG ?_;refine awp_loop (fun i:Nat=>mkS [(0,.t 2 (.str nm)),(5,.t 2 (.sl 6 zU5)),(6,.t 2 (.int .i64 17)),(7,.t 2 (.int .i64 i))] [] 0 18 [.any]) (fun i=>i<=k) (fun i=>17-i) ?_ ?_
 ·refine⟨0,by omega,?_⟩;exact kw0 []
 intro i hi;have hi17:i<17:=by omega
 have hat:=zIm hi17;have hin:i*6+6<=102:=by omega
 refine rg0 ?_;refine zD ?_;refine cK1 @hi17 ?_;refine zD ?_;refine zG ?_;refine rg1 (an @hat (an @hin (an @zDY @zJZ.cells.eq_1))) ?_;by_cases e:i=k
 ·subst e;refine rg1 @h1 ?_;refine cT0 ?_;refine rg0 ?_;exact zI rt0
 ·have hne:=h2 i hi17 (by omega);refine rg1 @hne ?_;refine cY1 @hne ?_;refine rr0 ?_;refine⟨i+1,by omega,by omega,?_⟩;exact kw0 []
