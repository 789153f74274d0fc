/- Lemmas for the law unambiguousClass. No conditions. -/
import Derived.Test.YtgmcbpjplcjmdaaGreatZuae
set_option linter.all false
namespace Go.Proofs.YtgmcbpjplcjmdaaGreat.M
open Go.RowKit
set_option maxRecDepth 100000
set_option maxHeartbeats 32000000

theorem zAa(a b:List Nat):zAZ a++zAZ b=zAZ (a++b):=by
 apply ByteArray.ext;simp[zAZ]
structure WdL(L:Nat)(pre last:List Int)(wds:List (List Nat)):Prop where
 lp:pre.length=wds.length
 ll:last.length=wds.length
 at_: ∀(i:Nat) w,wds[i]? =some w-> ∃p l:Int,pre[i]? =some p/\last[i]? =some l/\((l= -1/\p= -1/\w=[])\/ ∃x:Nat,l=(x:Int)/\x<L/\((p= -1/\w=[x])\/ ∃(j:Nat) (u:List Nat),p=(j:Int)/\j<i/\wds[j]? =some u/\w=u++[x]))
@[simp] theorem zNa(l:List Nat):(zAZ l).size=l.length:=by simp[zAZ,ByteArray.size]
theorem WdL.len{L:Nat}{pre last:List Int}{wds:List (List Nat)}(h:WdL L pre last wds): ∀(i:Nat) w,wds[i]? =some w->w.length<=i+1:=by
 intro i
 induction i using Nat.strongRecOn with
 |_ i ih=>
  intro w hw;obtain⟨p,l,-,-,hc⟩:=h.at_ i w hw;rcases hc with⟨-,-,rfl⟩|⟨x,-,-,⟨-,rfl⟩|⟨j,u,-,hj,hu,rfl⟩⟩
  ·simp
  ·simp
  ·have:=ih j hj u hu;simp;omega
def enW(pre last:List Int):AV:=.agg [.any,.any,.any,.any,.t 0 (ints pre),.t 0 (ints last),.any,.any,.any]
theorem zGp{L:Nat}{pre last:List Int}{wds:List (List Nat)}(h:WdL L pre last wds)(hL:L<=20)(hn:wds.length<=1000000){i:Nat}{w:List Nat}(hw:wds[i]? =some w):FnA Tryz.prog 47 [enW pre last,.t 2 (.int .i64 i)] (.t 2 (.str (zAZ w))):=by
 refine fI 30 #[.tmp 4] Tryz.func47 rfl ?_;refine rg1 @enW.eq_1 ?_;refine rg0 ?_;refine zA ?_;refine zB ?_;refine awp_loop (fun x:Int×List Nat=>mkS [(1,.t 2 (.int .i64 x.1)),(2,.ptr 0 0 9),(5,.t 2 (.str (zAZ x.2)))] [(0,.box 105 [.any,.any,.any,.any,.t 0 (ints pre),.t 0 (ints last),.any,.any,.any])] 1 30 [.any,.any])
  (fun x=>(x.1= -1/\x.2=w)\/ ∃(j:Nat) (u:List Nat),x.1=j/\wds[j]? =some u/\u++x.2=w) (fun x=>(x.1+1).toNat) ?_ ?_
 ·refine⟨((i:Int),[]),.inr ⟨i,w,rfl,hw,by simp⟩,?_⟩;refine zH [(0,some 0)] rfl ?_ ?_ ?_ ?_
  all_goals try simp[ints]
  rfl
 ·rintro⟨j0,suf⟩ hk;simp only at hk;rcases hk with⟨rfl,rfl⟩|⟨j,u,rfl,hj,hu⟩
  ·refine zA ?_;refine zA ?_;refine rr0 ?_;refine cF0 ?_;refine zE ?_;refine rg0 ?_;exact zC (rt1 @enW.eq_1)
  ·obtain⟨p,l,hp,hl,hcase⟩:=h.at_ j u hj;obtain⟨hj1,hl⟩:=Qq.1 hl;obtain⟨hj2,hp⟩:=Qq.1 hp;have hj3:=h.lp;have hwi:=(Qq.1 hw).1;have hwl:=h.len i w hw;have hwu:=congrArg List.length hu;simp only[List.length_append]at hwu;rcases hcase with⟨rfl,rfl,rfl⟩|⟨x,rfl,hx,hcase⟩
   ·simp only[List.nil_append]at hu;subst hu;refine zA ?_;refine zA ?_;refine rr1 (an @hl @hj1) ?_;refine cF0 ?_;refine zE ?_;refine rg0 ?_;exact zC (rt1 @enW.eq_1)
   ·refine zA ?_;refine zA ?_;refine rr1 (an @hl @hj1) ?_;refine cK0 ?_;refine zB ?_;refine zF fun K hK=>?_
    simp(maxSteps:=2000000)(disch:=omega)[hl,hj1]
    (repeat' apply And.intro)
    all_goals (try omega)
    refine zD (caps:=[]) (zEr x (by omega)) [] [] 2 rfl rfl rfl rfl (by kernel_rfl) (by simp) ?_ ?_ ?_ rfl ?_ ?_ (by simp) ?_
    ·simp[scal]
    ·trivial
    ·trivial
    ·trivial
    ·trivial
    simp(maxSteps:=2000000)(disch:=omega)[scal,zAa]
    (repeat' first|apply hK|apply And.intro)<;>try first|omega|rfl|(simp<;>omega)
    refine rr1 (an @hp @hj2) ?_;rcases hcase with⟨rfl,rfl⟩|⟨j',u',rfl,hlt,hj',rfl⟩
    ·refine⟨((-1:Int),[x]++suf),.inl ⟨rfl,hu⟩,by simp<;>omega,?_⟩;exact kw0 [(0,some 0)]
    ·refine⟨((j':Int),[x]++suf),.inr ⟨j',u',rfl,hj',by simpa using hu⟩,by simp<;>omega,?_⟩;exact kw0 [(0,some 0)]
def zVd(f:List Int):Prop:=1<=f.length/\f.length<=32/\ ∀(i:Nat) (h:i<f.length),0<=f[i]/\f[i]<f.length
open Classical in
theorem zLK(f:List Int)(hn:f.length<=1000000):FnA Tryz.prog 172 [.t 0 (ints f)] (.t 2 (.bool (decide (zVd f)))):=by
 refine fI 28 #[.tmp 2] Tryz.func172 rfl ?_;refine rg0 ?_;refine zA ?_;by_cases h1:(f.length:Int)<1
 ·refine rg1 @h1 ?_;refine cT0 ?_;refine rg0 ?_;refine zC ?_;refine⟨⟨.inr rfl,_,[],rfl,trivial,trivial,by simp,?_⟩,by simp⟩;simp;intro h;have:=h.1;omega
 by_cases h2:32<(f.length:Int)
 ·refine rg1 (an @h1 @h2) ?_;refine cT0 ?_;refine rg0 ?_;refine zC ?_;refine⟨⟨.inr rfl,_,[],rfl,trivial,trivial,by simp,?_⟩,by simp⟩;simp;intro h;have:=h.2.1;omega
 refine rg1 (an @h1 @h2) ?_;refine cS0 ?_;refine zA ?_;refine rg0 ?_;refine zB ?_;refine awp_loop (fun k:Nat=>mkS [(0,.t 0 (ints f)),(13,.t 0 (ints f)),(14,.t 2 (.int .i64 f.length)),(15,.t 2 (.int .i64 k))] [] 0 28 [.any]) (fun k=>k<=f.length/\ ∀(i:Nat) (h:i<f.length),i<k->0<=f[i]/\f[i]<f.length) (fun k=>f.length-k) ?_ ?_
 ·refine⟨0,⟨by omega,fun i h1 h=>by omega⟩,?_⟩;exact kw0 []
 ·intro k hk;obtain⟨hk,hall⟩:=hk;refine rg0 ?_;by_cases hlt:k<f.length
  ·refine zA ?_;refine cT1 @hlt ?_;refine zQ ?_;refine zA ?_;refine zB ?_;refine rg1 @hlt ?_;by_cases h3:f[k]<0
   ·refine rg1 (an @hlt @h3) ?_;refine cT0 ?_;refine rg0 ?_;refine zC ?_;show zOr _ _ _ _ _ _/\_;refine⟨⟨.inr rfl,_,[],rfl,trivial,trivial,by simp,?_⟩,by simp⟩;simp;intro h;have:=(h.2.2 k hlt).1;omega
   by_cases h4:f.length<=f[k]
   ·refine rg1 (an @hlt (an @h3 @h4)) ?_;refine cT0 ?_;refine rg0 ?_;refine zC ?_;show zOr _ _ _ _ _ _/\_;refine⟨⟨.inr rfl,_,[],rfl,trivial,trivial,by simp,?_⟩,by simp⟩;simp;intro h;have:=(h.2.2 k hlt).2;omega
   refine rg1 (an @hlt (an @h3 @h4)) ?_;refine cY0 ?_;refine rr0 ?_;refine⟨k+1,⟨by omega,fun i h1 h=>?_⟩,by omega,?_⟩
   ·by_cases e:i=k
    ·subst e;omega
    ·exact hall i h1 (by omega)
   ·exact kw0 []
  ·refine zA ?_;refine cF1 @hlt ?_;refine zE ?_;refine rg0 ?_;refine zC ?_;refine⟨⟨.inr rfl,_,[],rfl,trivial,trivial,by simp,?_⟩,by simp⟩;simp;exact⟨by omega,by omega,fun i h=>hall i h (by omega)⟩
end Go.Proofs.YtgmcbpjplcjmdaaGreat.M

namespace Go.Proofs.YtgmcbpjplcjmdaaGreat.M
open Go.RowKit
set_option maxRecDepth 100000
set_option maxHeartbeats 32000000

def TrN(n:Nat)(f:List Int):Prop:=f.length=n/\ ∀v∈f,0<=v/\v<(n:Int)
structure zIM(n:Nat)(gs:List (List Int)):Prop where
 n1:1<=n
 n2:n<=32
 g1:1<=gs.length
 g2:gs.length<=6
 tr: ∀g∈gs,TrN n g
theorem zIM.len{n:Nat}{gs:List (List Int)}(h:zIM n gs){g:List Int}(hg:g∈gs):g.length=n:=(h.tr g hg).1
theorem zIM.zI5{n:Nat}{gs:List (List Int)}(h:zIM n gs){k:Nat}(hk:k<gs.length):gs[k].length=n:=h.len (by simp)
theorem zIM.zVy{n:Nat}{gs:List (List Int)}(h:zIM n gs){g:List Int}(hg:g∈gs):zVd g:=by
 obtain⟨h1,h2⟩:=h.tr g hg;have:=h.n1;have:=h.n2;exact⟨by omega,by omega,fun i hi=>by rw[h1];exact h2 _ (by simp)⟩
theorem zLG{n:Nat}{gs:List (List Int)}(h:zIM n gs):FnA Tryz.prog 136 [.t 0 (rows gs)] (.t 2 (.bool true)):=by
 have hg1:=h.g1;have hg2:=h.g2;have hn1:=h.n1;have hn2:=h.n2;refine fI 32 #[.tmp 2] Tryz.func136 rfl ?_;refine rg0 ?_;refine zA ?_;have h1: ¬(gs.length:Int)<1:=by omega
 have h2: ¬6<(gs.length:Int):=by omega
 refine rg1 (an @h1 @h2) ?_;refine cS0 ?_;refine zA ?_;refine rg0 ?_;refine zB ?_;refine awp_loop (fun k:Nat=>mkS [(0,.t 0 (rows gs)),(13,.t 0 (rows gs)),(14,.t 2 (.int .i64 gs.length)),(15,.t 2 (.int .i64 k))] [] 0 32 [.any]) (fun k=>k<=gs.length) (fun k=>gs.length-k) ?_ ?_
 ·refine⟨0,by omega,?_⟩;exact kw1 [] @rows.eq_1
 ·intro k hk;refine rg0 ?_;by_cases hlt:k<gs.length
  ·have hlk:=h.zI5 hlt;have hl0:gs[0].length=n:=h.zI5 (by omega);have h0:0<gs.length:=by omega
   refine zA ?_;refine cT1 @hlt ?_;refine zQ ?_;refine zA ?_;refine zB ?_;refine rg1 @hlt ?_;refine zF fun K hK=>?_
   simp(maxSteps:=2000000)(disch:=omega)
   (repeat' apply And.intro)
   all_goals (try omega)
   refine zD (caps:=[]) (zLK gs[k] (by omega)) [] [] 2 rfl rfl rfl rfl (by kernel_rfl) (by simp) ?_ ?_ ?_ rfl ?_ ?_ (by simp) ?_
   ·simp[ints]
   ·trivial
   ·trivial
   ·trivial
   ·trivial
   simp(maxSteps:=2000000)(disch:=omega)[zP4,zEU,zDF,awpOp,gd,aop,aBuiltin,ASt.eval,AV.ofV,zAt,ASt.app,Eff.heap,dels,zCK,aLoad,aIndexAddr,aLen,aBin,iB,aUn,zAH,zAA,Nat.blt_eq,callS,outV,zBn,addL,delL,ints,scal,Qm,h.zVy (show gs[k]∈gs by simp),h0,hlk,hl0]
   (repeat' first|apply hK|apply And.intro)<;>try first|omega|rfl|(simp<;>omega)
   refine cY0 ?_;refine rr0 ?_;refine⟨k+1,by omega,by omega,?_⟩;exact kw1 [] @rows.eq_1
  ·refine zA ?_;refine cF1 @hlt ?_;refine zE ?_;refine rg0 ?_;exact zC rt0
def zn(f g:List Int):List Int:=f.map fun v=>g.getD v.toNat 0
theorem TrN.comp{n:Nat}{f g:List Int}(hf:TrN n f)(hg:TrN n g):TrN n (zn f g):=by
 refine⟨by simp[zn,hf.1],fun v hv=>?_⟩;simp only[zn,List.mem_map]at hv;obtain⟨u,hu,rfl⟩:=hv;obtain⟨h1,h2⟩:=hf.2 u hu;have hl:=hg.1;have:u.toNat<g.length:=by omega
 rw[Qv,Qj this];exact hg.2 _ (by simp)
theorem zJi{n:Nat}{f g:List Int}(hn:n<=1000000)(hf:TrN n f)(hg:TrN n g):FnA Tryz.prog 139 [.t 0 (ints f),.t 0 (ints g)] (.t 2 (ints (zn f g))):=by
 have h:=zLw n (fun i=>(f.getD i 0).toNat) n (fun i=>g.getD i 0) hn (fun i hi=>by
  have hl:=hf.1;have:i<f.length:=by omega
  simp only[Qv,Qj this,Qd];have:=hf.2 f[i] (by simp);omega)
 have e1:(tab n fun i=>(((f.getD i 0).toNat:Nat):Int))=f:=by
  apply List.ext_getElem (by simp[hf.1]);intro i h1 h2;simp only[zBK,Qv,Qj h2,Qd];have:=hf.2 f[i] (by simp);omega
 have e2:(tab n fun i=>g.getD i 0)=g:=by
  apply List.ext_getElem (by simp[hg.1]);intro i h1 h2;simp only[zBK,Qv,Qj h2,Qd]
 have e3:(tab n fun i=>g.getD ((f.getD i 0).toNat) 0)=zn f g:=by
  apply List.ext_getElem (by simp[zn,hf.1]);intro i h1 h2;have h3:i<f.length:=by simpa[zn]using h2
  simp[zn,zBK,Qv,Qj h3]
 rw[e1,e2,e3]at h;exact h
def idL(n:Nat):List Int:=tab n fun i=>(i:Int)
theorem zFh(n:Nat):TrN n (idL n):=by
 refine⟨by simp[idL],fun v hv=>?_⟩;simp only[idL,tab,List.mem_map,List.mem_range]at hv;obtain⟨i,hi,rfl⟩:=hv;omega
def act(n:Nat)(gs:List (List Int))(w:List Nat):List Int:=w.foldl (fun f x=>zn f (gs.getD x [])) (idL n)
theorem zCs(n:Nat)(gs:List (List Int))(w:List Nat)(x:Nat):act n gs (w++[x])=zn (act n gs w) (gs.getD x []):=by simp[act]
theorem zAz{n:Nat}{g:List Int}(hg:TrN n g):zn (idL n) g=g:=by
 apply List.ext_getElem (by simp[zn,idL,hg.1]);intro i h1 h2;simp[zn,idL,zBK,Qv,h2]
def Bef(gs els:List (List Int))(p x:Nat):Prop:=∀j y,(j<p/\y<gs.length)\/(j=p/\y<x)-> ∀e g,els[j]? =some e->gs[y]? =some g->zn e g∈els
structure EnL(n:Nat)(gs els:List (List Int))(pre last:List Int)(wds:List (List Nat)):Prop where
 wd:WdL gs.length pre last wds
 le:els.length=wds.length
 one:els[0]? =some (idL n)/\wds[0]? =some []
 val: ∀(i:Nat) w e,wds[i]? =some w->els[i]? =some e->e=act n gs w/\TrN n e/\ ∀x∈w,x<gs.length
 nd: ∀(i j:Nat) e,els[i]? =some e->els[j]? =some e->i=j
 cn: ∀t,0<t->t<els.length-> ∃(p x:Nat) (u:List Nat),p<t/\x<gs.length/\pre[t]? =some (p:Int)/\last[t]? =some (x:Int)/\wds[p]? =some u/\wds[t]? =some (u++[x])/\Bef gs (els.take t) p x
theorem EnL.start{n:Nat}{gs:List (List Int)}:EnL n gs [idL n] [-1] [-1] [[]]:=by
 refine⟨⟨rfl,rfl,fun i w hw=>?_⟩,rfl,⟨rfl,rfl⟩,fun i w e hw he=>?_,fun i j e hi hj=>?_,fun t h1 h2=>by simp at h2;omega⟩
 ·match i,hw with
  |0,hw=>simp at hw;subst hw;exact⟨-1,-1,rfl,rfl,.inl ⟨rfl,rfl,rfl⟩⟩
 ·match i,hw,he with
  |0,hw,he=>simp at hw he;subst hw he;exact⟨rfl,zFh n,fun x hx=>by simp at hx⟩
 ·match i,j,hi,hj with
  |0,0,_,_=>rfl
theorem WdL.add{L:Nat}{pre last:List Int}{wds:List (List Nat)}(h:WdL L pre last wds){p:Nat}{u:List Nat}{x:Nat}(hx:x<L)(hp:wds[p]? =some u)(b:Int)(hb:b=p):WdL L (pre++[b]) (last++[(x:Int)]) (wds++[u++[x]]):=by
 have hpl:=(Qq.1 hp).1;have h1:=h.lp;have h2:=h.ll;refine⟨by simp[h1],by simp[h2],fun i w hw=>?_⟩;by_cases hi:i<wds.length
 ·rw[Qw hi]at hw;obtain⟨p',l',e1,e2,hc⟩:=h.at_ i w hw;refine⟨p',l',by rw[Qw (by omega)];exact e1,by rw[Qw (by omega)];exact e2,?_⟩;rcases hc with hc|⟨x',a1,a2,a3|⟨j,v,b1,b2,b3,b4⟩⟩
  ·exact .inl hc
  ·exact .inr ⟨x',a1,a2,.inl a3⟩
  ·exact .inr ⟨x',a1,a2,.inr ⟨j,v,b1,b2,by rw[Qw (by omega)];exact b3,b4⟩⟩
 ·have hi2:i=wds.length:=by
   have:=(Qq.1 hw).1;simp at this;omega
  subst hi2;rw[Qa (by omega)]at hw;simp at hw;subst hw;refine⟨b,x,by rw[←h1];simp,by rw[←h2];simp,.inr ⟨x,rfl,hx,.inr ⟨p,u,hb,hpl,by rw[Qw hpl];exact hp,rfl⟩⟩⟩
theorem EnL.add{n:Nat}{gs els:List (List Int)}{pre last:List Int}{wds:List (List Nat)}(h:EnL n gs els pre last wds)(hg: ∀g∈gs,TrN n g){p x:Nat}{u:List Nat}{e g:List Int}(hp:wds[p]? =some u)(he:els[p]? =some e)(hx:gs[x]? =some g)(hnew: ∀(i:Nat) (hi:i<els.length),els[i]≠zn e g)(b:Int)(hb:b=p)(hbf:Bef gs els p x):EnL n gs (els++[zn e g]) (pre++[b]) (last++[(x:Int)]) (wds++[u++[x]]):=by
 have hle:=h.le;have hxl:=(Qq.1 hx).1;obtain⟨o1,o2⟩:=h.one;have ho1:=(Qq.1 o1).1;obtain⟨v1,v2,v3⟩:=h.val p u e hp he;refine⟨h.wd.add hxl hp b hb,by simp[hle],⟨by rw[Qw ho1];exact o1,by rw[Qw (by omega)];exact o2⟩,fun i w d hw hd=>?_,fun i j d hi hj=>?_,fun t h1 h2=>?_⟩
 ·by_cases hi:i<wds.length
  ·rw[Qw hi]at hw;rw[Qw (by omega)]at hd;exact h.val i w d hw hd
  ·have hi2:i=wds.length:=by
    have:=(Qq.1 hw).1;simp at this;omega
   subst hi2;rw[Qa (by omega)]at hw;rw[Qa (by omega)]at hd;simp[hle]at hw hd;subst hw hd;refine⟨by rw[zCs,←v1,Qv,hx];rfl,v2.comp (hg g (Qc hx)),fun y hy=>?_⟩;simp at hy;rcases hy with hy|rfl
   ·exact v3 y hy
   ·exact hxl
 ·have key: ∀(i:Nat) d,(els++[zn e g])[i]? =some d->(i<els.length/\els[i]? =some d)\/(i=els.length/\d=zn e g):=fun i d hi=>by
   by_cases hl:i<els.length
   ·rw[Qw hl]at hi;exact .inl ⟨hl,hi⟩
   ·have hl2:=(Qq.1 hi).1;simp at hl2;have:i=els.length:=by omega
    subst this;simp at hi;exact .inr ⟨rfl,hi.symm⟩
  rcases key i d hi with⟨a1,a2⟩|⟨a1,a2⟩<;>rcases key j d hj with⟨b1,b2⟩|⟨b1,b2⟩
  ·exact h.nd i j d a2 b2
  ·obtain⟨c1,c2⟩:=Qq.1 a2;exact absurd (c2.trans b2) (hnew i a1)
  ·obtain⟨c1,c2⟩:=Qq.1 b2;exact absurd (c2.trans a2) (hnew j b1)
  ·omega
 ·have hpl:=(Qq.1 hp).1;have hlp:=h.wd.lp;have hll:=h.wd.ll;by_cases ht:t<els.length
  ·obtain⟨q,y,v,a1,a2,a3,a4,a5,a6,a7⟩:=h.cn t h1 ht;refine⟨q,y,v,a1,a2,?_,?_,?_,?_,?_⟩
   ·rw[Qw (by omega)];exact a3
   ·rw[Qw (by omega)];exact a4
   ·rw[Qw (by omega)];exact a5
   ·rw[Qw (by omega)];exact a6
   ·rw[List.take_append_of_le_length (by omega)];exact a7
  ·have e1:t=els.length:=by simp at h2;omega
   subst e1;refine⟨p,x,u,by omega,hxl,?_,?_,?_,?_,?_⟩
   ·rw[Qa (by omega),hlp,←hle];simp[hb]
   ·rw[Qa (by omega),hll,←hle];simp
   ·rw[Qw (by omega)];exact hp
   ·rw[Qa (by omega),←hle];simp
   ·rw[List.take_append_of_le_length (by omega),List.take_length];exact hbf
theorem zFn(xss:List (List Int))(f:List Int):(zL1 xss f= -1/\ ∀i (h:i<xss.length),xss[i]≠f)\/ ∃(j:Nat) (h:j<xss.length),zL1 xss f=j/\xss[j]=f:=by
 unfold zL1
 cases hq:xss.findIdx? (fun x=>decide (x=f))with
 |none=>
  rw[List.findIdx?_eq_none_iff]at hq;exact .inl ⟨rfl,fun i h=>by simpa using hq xss[i] (by simp)⟩
 |some j=>
  rw[List.findIdx?_eq_some_iff_getElem]at hq;obtain⟨h1,h2,-⟩:=hq;exact .inr ⟨j,h1,rfl,by simpa using h2⟩
def enT(p n:Nat)(gs els:List (List Int))(pre last:List Int)(right:T)(rls:List T)(done:Nat):AV:=.agg [.t 2 (.int .i64 n),.t 2 (.bool true),.t p (rows gs),.t p (rows els),.t p (ints pre),.t p (ints last),.t p right,.t p (.sl 2 rls),.t 2 (.int .i64 done)]
def StG(n:Nat)(gs:List (List Int))(res:AV):Prop:=∃els pre last wds rls,res= .tup [enT 2 n gs els pre last (.sl 0 []) rls 0,.t 2 (.int .i64 0)]/\EnL n gs els pre last wds/\els.length<=7/\rls.length<=12/\ ∀g∈gs,g∈els
structure StI(n:Nat)(gs els:List (List Int))(pre last:List Int)(wds:List (List Nat))(rls:List T)(k:Nat):Prop where
 en:EnL n gs els pre last wds
 kl:k<=gs.length
 el:els.length<=k+1
 rl:rls.length<=2*k
 has: ∀i (h:i<gs.length),i<k->gs[i]∈els
theorem zQS{n:Nat}{gs els:List (List Int)}{k:Nat}(h1:els[0]? =some (idL n))(hg: ∀g∈gs,TrN n g)(hs: ∀i (h:i<gs.length),i<k->gs[i]∈els):Bef gs els 0 k:=fun j y hj e g he hgy=>by
 rcases hj with⟨hj,-⟩|⟨rfl,hy⟩
 ·omega
 ·rw[h1]at he;injection he with he;subst he;obtain⟨hyl,rfl⟩:=Qq.1 hgy;rw[zAz (hg _ (by simp))];exact hs y hyl hy
theorem StI.bef{n:Nat}{gs els:List (List Int)}{pre last:List Int}{wds:List (List Nat)}{rls:List T}{k:Nat}(h:StI n gs els pre last wds rls k)(hg: ∀g∈gs,TrN n g):Bef gs els 0 k:=zQS h.en.one.1 hg h.has
theorem zPw{n:Nat}{gs:List (List Int)}(h:zIM n gs): ∃res,StG n gs res/\FnS Tryz.prog 85 [.t 0 (rows gs),.t 2 (.bool true)] [] res []:=by
 have hg1:=h.g1;have hg2:=h.g2;have hn1:=h.n1;have hn2:=h.n2;have hl0:gs[0].length=n:=h.zI5 (by omega);have h0:0<gs.length:=by omega
 refine zh Tryz.func85 rfl (by simp[Tryz.f85]) ?_;rw[show Tryz.f85.ntmps=88 from rfl,show Tryz.f85.results= #[.cell 4 105,.tmp 5]from rfl];refine rg0 ?_;refine zA ?_;have h1: ¬(gs.length:Int)<1:=by omega
 have h2: ¬6<(gs.length:Int):=by omega
 refine rg1 (an @h1 @h2) ?_;refine cS0 ?_;refine zA ?_;refine rc0 (zLG h) ?_;refine cS0 ?_;refine rq1 (zSF gs (by omega) (fun x hx=>by have:=h.len hx;omega)) (an @h0 @hl0) ?_;refine rg0 ?_;refine zA ?_;refine rg0 ?_;refine cT0 ?_;refine rc0 (zJD n (by omega)) ?_;refine rr0 ?_;refine zA ?_;refine rg0 ?_;refine zB ?_;refine awp_loop (fun x:Nat×List (List Int)×List Int×List Int×List (List Nat)×List T=>mkS [(4,.ptr 0 0 9),(6,.ptr 1 0 9),(7,.t 2 (.int .i64 0)),(42,.t 0 (rows gs)),(43,.t 2 (.int .i64 gs.length)),(44,.t 2 (.int .i64 x.1))]
   [(0,.box 105 [.any,.any,.any,.any,.any,.any,.any,.any,.any]),
    (1,.box 105 [.t 2 (.int .i64 n),.t 2 (.bool true),.t 2 (rows gs),.own 2 x.2.1.length,.own 3 x.2.2.1.length,.own 4 x.2.2.2.1.length,.t 2 (.sl 0 []),.own 5 x.2.2.2.2.2.length,.t 2 (.int .i64 0)]),
    (2,.row 22 1 2 (x.2.1.map ints)),(3,.row 3 1 2 (x.2.2.1.map (.int .i64))),(4,.row 3 1 2 (x.2.2.2.1.map (.int .i64))),(5,.row 214 2 2 x.2.2.2.2.2)] 6 88 [.any,.any])
  (fun x=>StI n gs x.2.1 x.2.2.1 x.2.2.2.1 x.2.2.2.2.1 x.2.2.2.2.2 x.1) (fun x=>gs.length-x.1) ?_ ?_
 ·refine⟨(0,[idL n],[-1],[-1],[[]],[]),⟨EnL.start,by omega,by simp,by simp,fun i _ h=>by omega⟩,?_⟩;exact kw1 [(0,some 0),(1,some 21000000),(2,some 28000000),(3,some 29000000),(4,some 30000000),(5,none)] (an @rows.eq_1 @idL.eq_1)
 ·rintro⟨k,els,pre,last,wds,rls⟩ hI;simp only at hI;have hen:=hI.en;have hel:=hI.el;have hkl:=hI.kl;have hrl:=hI.rl;have hle:=hen.le;have hlp:=hen.wd.lp;have hll:=hen.wd.ll;have hels: ∀e∈els,e.length<=1000000:=fun e he=>by
   obtain⟨i,hi,rfl⟩:=Qb he;obtain⟨h1,h2,h3⟩:=hen.val i wds[i] els[i] (by simp) (by simp);have:=h2.1;omega
  refine rg0 ?_;by_cases hlt:k<gs.length
  ·have hlk:=h.zI5 hlt;refine zA ?_;refine cT1 @hlt ?_;refine zQ ?_;refine zA ?_;refine zB ?_;refine rg1 @hlt ?_;refine rc0 (zIl els gs[k] (by omega) hels) ?_;refine zA ?_;have hg20:gs.length<=20:=by omega
   have hwn:wds.length<=1000000:=by omega
   rcases zFn els gs[k]with⟨e1,e2⟩|⟨j,hj,e1,e2⟩
   ·refine rg1 @e1 ?_;refine cS0 ?_;refine re0 ?_;refine rr0 ?_;refine⟨(k+1,els++[gs[k]],pre++[0],last++[(k:Int)],wds++[[k]],rls),?_,by simp;omega,?_⟩
    ·have:=hen.add h.tr (p:=0) (x:=k) hen.one.2 hen.one.1 (Qj hlt) (by rw[zAz (h.tr _ (by simp))];exact e2) 0 rfl (hI.bef h.tr);rw[zAz (h.tr _ (by simp))]at this;refine⟨this,by simp;omega,by simp;omega,by simp;omega,fun i hi hik=>?_⟩;by_cases e:i=k
     ·subst e;simp
     ·exact List.mem_append_left _ (hI.has i hi (by simp at hik;omega))
    ·exact kw1 [(0,some 0),(1,some 1),(2,some 2),(3,some 3),(4,some 4),(5,some 5)] @rows.eq_1
   ·refine rg1 @e1 ?_;refine cT0 ?_;refine zg (by kernel_rfl) (fun K hK=>?_);simp(maxSteps:=2000000)(disch:=omega)
    (repeat' apply And.intro)
    all_goals (try omega)
    refine zM (caps:=[]) (zEr k (by omega)) [] [] 2 rfl rfl rfl rfl (by kernel_rfl) (by simp) ?_ trivial trivial rfl trivial trivial (by simp) ?_
    ·simp[scal]
    simp(maxSteps:=2000000)(disch:=omega)[scal]
    (repeat' apply And.intro)
    all_goals (try omega)
    refine zM (caps:=[]) (zGp hen.wd hg20 hwn (i:=j) (w:=wds[j]) (by simp)) [] [] 2 rfl rfl rfl rfl (by kernel_rfl) (by simp) ?_ trivial trivial rfl trivial trivial (by simp) ?_
    ·simp[scal,ints,enW]
    simp(maxSteps:=2000000)(disch:=omega)[scal];and_intros<;>try first|apply hK|(show zAY _ _=true;kernel_rfl)|(show okH _ _ _=true;kernel_rfl)|omega|rfl|simp<;>omega
    refine zE ?_;refine rr0 ?_;refine⟨(k+1,els,pre,last,wds,rls++[.str (zAZ [k]),.str (zAZ wds[j])]),?_,by simp;omega,?_⟩
    ·refine⟨hen,by simp;omega,by simp;omega,by simp;omega,fun i hi hik=>?_⟩;by_cases e:i=k
     ·subst e;rw[←e2];simp
     ·exact hI.has i hi (by simp at hik;omega)
    ·exact kw1 [(0,some 0),(1,some 1),(2,some 2),(3,some 3),(4,some 4),(5,some 5)] @rows.eq_1
  ·refine zA ?_;refine cF1 @hlt ?_;refine zE ?_;refine rg0 ?_;refine zC ?_;refine⟨_,⟨els,pre,last,wds,rls,rfl,hen,by omega,by omega,fun g hg=>?_⟩,?_⟩
   ·obtain⟨i,hi,rfl⟩:=Qb hg;exact hI.has i hi (by omega)
   ·refine⟨⟨.inr rfl,_,[],(by simp;rfl),trivial,trivial,by simp,?_⟩,by simp⟩;simp[ints,rows,enT]
@[simp] theorem zUv:mpTy Tryz.prog 215=some (9,3):=by kernel_rfl
@[simp] theorem zIE:zCH Tryz.prog 3=some (.int .i64 0):=by kernel_rfl
@[simp] theorem zRd(s:ByteArray):kOK Tryz.prog 9 (.str s)=true:=by simp[kOK]
def mUp(x y:T)(es:List (T×T)):List (T×T):=match fndT x es with
 |some j=>es.set j (x,y)
 |none=>es++[(x,y)]
def zOR(es:List (T×T)):Prop:=∀e∈es,∃s,e.1= .str s
theorem zOR.nil:zOR []:=fun e he=>by simp at he
theorem zOR.up{es:List (T×T)}(h:zOR es)(s:ByteArray)(y:T):zOR (mUp (.str s) y es):=by
 intro e he;unfold mUp at he;split at he
 ·rcases List.mem_or_eq_of_mem_set he with he|rfl
  ·exact h e he
  ·exact⟨s,rfl⟩
 ·rcases List.mem_append.1 he with he|he
  ·exact h e he
  ·simp at he;subst he;exact⟨s,rfl⟩
theorem zOR.all{es:List (T×T)}(h:zOR es):(es.all fun e=>kOK Tryz.prog 9 e.1)=true:=by
 rw[List.all_eq_true];intro e he;obtain⟨s,hs⟩:=h e he;rw[hs];simp[kOK]
theorem zEn(xs:List T):1<=lvs 1 xs:=by unfold lvs;split<;>omega
@[simp] theorem zVI(p:Nat)(xs:List (List Nat)):lvs p (xs.map fun w=>T.str (zAZ w))=2:=by
 unfold lvs;rw[if_pos];simp[scal]
theorem zNj{α:Type}{xs:List α}{k:Nat}(h:k<=xs.length)(x:α):(xs.take k++[x])[k]? =some x:=by
 rw[Qa (by simp;omega)];simp[Nat.min_eq_left h]
def zCZ(gs els:List (List Int))(i:Nat)(r:List Int):Prop:=∀(x:Nat) (j:Int),r[x]? =some j-> ∃(m:Nat) (e g:List Int),j=(m:Int)/\els[i]? =some e/\gs[x]? =some g/\els[m]? =some (zn e g)
theorem zCZ.more{gs els:List (List Int)}{i:Nat}{r:List Int}(h:zCZ gs els i r)(f:List Int):zCZ gs (els++[f]) i r:=fun x j hx=>by
 obtain⟨m,e,g,h1,h2,h3,h4⟩:=h x j hx;exact⟨m,e,g,h1,by rw[Qw (Qq.1 h2).1];exact h2,h3,by rw[Qw (Qq.1 h4).1];exact h4⟩
theorem zCZ.put{gs els:List (List Int)}{i:Nat}{r:List Int}(h:zCZ gs els i r){m:Nat}{e g:List Int}(h2:els[i]? =some e)(h3:gs[r.length]? =some g)(h4:els[m]? =some (zn e g)):zCZ gs els i (r++[(m:Int)]):=fun x j hx=>by
 by_cases hl:x<r.length
 ·rw[Qw hl]at hx;exact h x j hx
 ·have:=(Qq.1 hx).1;simp at this;have e1:x=r.length:=by omega
  subst e1;simp at hx;exact⟨m,e,g,hx.symm,h2,h3,h4⟩
theorem zCZ.mem{gs els:List (List Int)}{i:Nat}{r:List Int}(h:zCZ gs els i r){y:Nat}(hy:y<r.length){e g:List Int}(he:els[i]? =some e)(hg:gs[y]? =some g):zn e g∈els:=by
 obtain⟨m,e',g',-,h2,h3,h4⟩:=h y r[y] (Qj hy);rw[he]at h2;rw[hg]at h3;injection h2 with h2;injection h3 with h3;subst h2 h3;exact Qc h4
structure PrI(n:Nat)(gs els:List (List Int))(pre last:List Int)(wds:List (List Nat))(right:List (List Int))(d:Nat):Prop where
 en:EnL n gs els pre last wds
 el:els.length<=2000
 dl:d<=els.length
 rd:right.length=d
 rg: ∀(i:Nat) r,right[i]? =some r->r.length=gs.length/\zCZ gs els i r
 gn: ∀g∈gs,g∈els
theorem PrI.bef{n:Nat}{gs els:List (List Int)}{pre last:List Int}{wds:List (List Nat)}{right:List (List Int)}{d:Nat}(h:PrI n gs els pre last wds right d){r:List Int}(hrow:zCZ gs els d r):Bef gs els d r.length:=fun j y hj e g he hg=>by
 rcases hj with⟨hj,hy⟩|⟨rfl,hy⟩
 ·have hrd:=h.rd;obtain⟨h1,h2⟩:=h.rg j right[j] (by simp);exact h2.mem (by omega) he hg
 ·exact hrow.mem hy he hg
def Big(n:Nat)(gs:List (List Int)):Prop:=∃els:List (List Int),els.Nodup/\els.length=2001/\ ∀e∈els,∃w:List Nat,(∀a∈w,a<gs.length)/\e=act n gs w
theorem EnL.nodup{n:Nat}{gs els:List (List Int)}{pre last:List Int}{wds:List (List Nat)}(h:EnL n gs els pre last wds):els.Nodup:=List.pairwise_iff_getElem.2 fun i j hi hj hij e=>by
 have:=h.nd i j els[i] (by simp) (by rw[Qj hj,e]);omega
theorem EnL.big{n:Nat}{gs els:List (List Int)}{pre last:List Int}{wds:List (List Nat)}(h:EnL n gs els pre last wds)(hl:els.length=2000){d x:Nat}(hd:d<els.length)(hx:x<gs.length)(hnew: ∀(i:Nat) (hi:i<els.length),els[i]≠zn els[d] gs[x]):Big n gs:=by
 have hle:=h.le;have hv: ∀i (hi:i<els.length),∃w:List Nat,(∀a∈w,a<gs.length)/\els[i]=act n gs w:=fun i hi=>by
  obtain⟨h1,h2,h3⟩:=h.val i (wds[i]'(by omega)) els[i] (by simp) (by simp);exact⟨_,h3,h1⟩
 refine⟨els++[zn els[d] gs[x]],List.nodup_append.2 ⟨h.nodup,by simp,fun a ha b hb hab=>?_⟩,by simp[hl],fun e he=>?_⟩
 ·simp only[List.mem_singleton]at hb;subst hab hb;obtain⟨i,hi,e⟩:=Qb ha;exact hnew i hi e
 ·rcases List.mem_append.1 he with he|he
  ·obtain⟨i,hi,rfl⟩:=Qb he;exact hv i hi
  ·simp only[List.mem_singleton]at he;subst he;obtain⟨w,h1,h2⟩:=hv d hd;refine⟨w++[x],fun a ha=>?_,by rw[zCs,←h2,Qv,Qj hx];rfl⟩;rcases List.mem_append.1 ha with ha|ha
   ·exact h1 a ha
   ·simp only[List.mem_singleton]at ha;omega
theorem PrI.add{n:Nat}{gs els:List (List Int)}{pre last:List Int}{wds:List (List Nat)}{right:List (List Int)}{d:Nat}(h:PrI n gs els pre last wds right d)(hg: ∀g∈gs,TrN n g){x:Nat}(hd:d<els.length)(hdw:d<wds.length)(hx:x<gs.length)(hnew: ∀(i:Nat) (hi:i<els.length),els[i]≠zn els[d] gs[x])(hs:els.length≠2000){r:List Int}(hrow:zCZ gs els d r)(hrl:r.length=x):
  PrI n gs (els++[zn els[d] gs[x]]) (pre++[(d:Int)]) (last++[(x:Int)]) (wds++[wds[d]++[x]]) right d:=by
 have:=h.el;have:=h.dl;refine⟨h.en.add hg (Qj hdw) (Qj hd) (Qj hx) hnew _ rfl (hrl▸h.bef hrow),by simp;omega,by simp;omega,h.rd,fun i r hr=>?_,fun g hgg=>List.mem_append_left _ (h.gn g hgg)⟩;obtain⟨h1,h2⟩:=h.rg i r hr;exact⟨h1,h2.more _⟩
theorem PrI.row{n:Nat}{gs els:List (List Int)}{pre last:List Int}{wds:List (List Nat)}{right:List (List Int)}{d:Nat}(h:PrI n gs els pre last wds right d){r:List Int}(hd:d<els.length)(hr:r.length=gs.length)(hrow:zCZ gs els d r):PrI n gs els pre last wds (right++[r]) (d+1):=by
 have hrd:=h.rd;refine⟨h.en,h.el,by omega,by simp[hrd],fun i s hs=>?_,h.gn⟩;by_cases hl:i<right.length
 ·rw[Qw hl]at hs;exact h.rg i s hs
 ·have:=(Qq.1 hs).1;simp at this;have e1:i=right.length:=by omega
  subst e1;simp at hs;subst hs;rw[hrd];exact⟨hr,hrow⟩
def PrG(n:Nat)(gs:List (List Int))(res:AV):Prop:=res= .tup [.agg [.t 2 (.int .i64 0),.t 2 (.bool false),.t 2 (.sl 0 []),.t 2 (.sl 0 []),.t 2 (.sl 0 []),.t 2 (.sl 0 []),.t 2 (.sl 0 []),.t 2 (.sl 0 []),.t 2 (.int .i64 0)],.t 2 (.int .i64 3)]/\Big n gs∨
 ∃els pre last wds right rls,res= .tup [enT 1 n gs els pre last (rows right) rls els.length,.t 2 (.int .i64 0)]/\PrI n gs els pre last wds right els.length
theorem zLR{n:Nat}{gs els:List (List Int)}{pre last:List Int}{wds:List (List Nat)}{rls:List T}(h:zIM n gs)(hP:PrI n gs els pre last wds [] 0)(hrl:rls.length<=12): ∃res,PrG n gs res/\FnS Tryz.prog 86 [enT 1 n gs els pre last (.sl 0 []) rls 0,.t 2 (.int .i64 2001)] [] res []:=by
 have hg1:=h.g1;have hg2:=h.g2;have hn1:=h.n1;have hn2:=h.n2;have hen:=hP.en;have hel:=hP.el;have hle:=hen.le;have hlp:=hen.wd.lp;have hll:=hen.wd.ll;have hg20:gs.length<=20:=by omega
 have hwn:wds.length<=1000000:=by omega
 refine zh Tryz.func86 rfl (by simp[Tryz.f86]) ?_;rw[show Tryz.f86.ntmps=191 from rfl,show Tryz.f86.results= #[.cell 4 105,.tmp 5]from rfl];refine rg1 @enT.eq_1 ?_;refine rd0 ?_;refine rg0 ?_;refine rg0 ?_;refine zA ?_;refine rg0 ?_;refine zB ?_;refine awp_loop (fun y:Nat×List (T×T)=>mkS [(1,.t 2 (.int .i64 2001)),(4,.ptr 0 0 9),(6,.ptr 1 0 9),(7,.own 7 0),(8,.own 8 y.1),(50,.t 2 (.int .i64 els.length)),(51,.t 2 (.int .i64 y.1))]
   [(0,.box 105 [.any,.any,.any,.any,.any,.any,.any,.any,.any]),
    (1,.box 105 [.t 2 (.int .i64 n),.t 2 (.bool true),.t 1 (rows gs),.own 2 els.length,.own 3 pre.length,.own 4 last.length,.own 5 0,.own 6 rls.length,.t 2 (.int .i64 0)]),
    (2,.row 22 1 1 (els.map ints)),(3,.row 3 1 2 (pre.map (.int .i64))),(4,.row 3 1 2 (last.map (.int .i64))),(5,.row 22 1 2 []),(6,.row 214 2 1 rls),
    (7,.map 9 3 y.2),(8,.row 9 1 2 ((wds.take y.1).map fun w=>.str (zAZ w)))] 9 191 [.any,.any])
  (fun y=>y.1<=els.length/\zOR y.2) (fun y=>els.length-y.1) ?_ ?_
 ·refine⟨(0,[]),⟨by omega,zOR.nil⟩,?_⟩;refine zH [(0,some 1000000),(1,some 32000000),(2,some 9000000),(3,some 13000000),(4,some 17000000),(5,some 21000000),(6,some 25000000),(7,some 34000000),(8,none)] rfl ?_ ?_ ?_ ?_
  all_goals try simp[rows]
  exact⟨by have:=zEn (els.map ints);omega,by simp[lvs],by have:=zEn rls;omega⟩
 ·rintro⟨k,es⟩ ⟨hk,hms⟩;simp only at hk hms;have hall:=hms.all;refine rg0 ?_;by_cases hlt:k<els.length
  ·have hkw:k<wds.length:=by omega
   refine zA ?_;refine cT1 @hlt ?_;refine zQ ?_;refine zA ?_;refine zB ?_;refine rg0 ?_;refine rc1 (zGp hen.wd hg20 hwn (i:=k) (w:=wds[k]) (by simp)) @enW.eq_1 ?_;refine rr1 (an @hall (zNj (xs:=wds.map fun w=>T.str (zAZ w)) (k:=k) (by simp;omega) (T.str (zAZ wds[k])))) ?_;refine rr0 ?_;refine⟨(k+1,mUp (.str (zAZ wds[k])) (.int .i64 k) es),⟨by simp;omega,hms.up _ _⟩,by simp;omega,?_⟩;refine zH [(0,some 0),(1,some 1),(2,some 2),(3,some 3),(4,some 4),(5,some 5),(6,some 6),(7,some 7),(8,some 8)] rfl ?_ ?_ ?_ ?_
   all_goals try simp[rows]
   refine⟨rfl,?_⟩;rw[Qf (by simpa using hkw)];simp
  ·refine zA ?_;refine cF1 @hlt ?_;refine zE ?_;refine zA ?_;refine zB ?_;have hkw:k=wds.length:=by omega
   refine awp_loop (fun y:Nat×List (List Int)×List Int×List Int×List (List Nat)×List (List Int)×List T×List (T×T)=>mkS [(1,.t 2 (.int .i64 (2001-(y.1:Int)))),(4,.ptr 0 0 9),(6,.ptr 1 0 9),(7,.own 7 0),(8,.own 8 y.2.2.2.2.1.length)]
     [(0,.box 105 [.any,.any,.any,.any,.any,.any,.any,.any,.any]),
      (1,.box 105 [.t 2 (.int .i64 n),.t 2 (.bool true),.t 1 (rows gs),.own 2 y.2.1.length,.own 3 y.2.2.1.length,.own 4 y.2.2.2.1.length,.own 5 y.2.2.2.2.2.1.length,.own 6 y.2.2.2.2.2.2.1.length,.t 2 (.int .i64 y.1)]),
      (2,.row 22 1 1 (y.2.1.map ints)),(3,.row 3 1 2 (y.2.2.1.map (.int .i64))),(4,.row 3 1 2 (y.2.2.2.1.map (.int .i64))),(5,.row 22 1 2 (y.2.2.2.2.2.1.map ints)),(6,.row 214 2 1 y.2.2.2.2.2.2.1),
      (7,.map 9 3 y.2.2.2.2.2.2.2),(8,.row 9 1 2 (y.2.2.2.2.1.map fun w=>.str (zAZ w)))] 9 191 [.any,.any])
    (fun y=>PrI n gs y.2.1 y.2.2.1 y.2.2.2.1 y.2.2.2.2.1 y.2.2.2.2.2.1 y.1/\y.2.2.2.2.2.2.1.length<=12+12*y.1/\zOR y.2.2.2.2.2.2.2) (fun y=>2001-y.1) ?_ ?_
   ·refine⟨(0,els,pre,last,wds,[],rls,es),⟨hP,by simp;omega,hms⟩,?_⟩;refine zH [(0,some 0),(1,some 1),(2,some 2),(3,some 3),(4,some 4),(5,some 5),(6,some 6),(7,some 7),(8,some 8)] rfl ?_ ?_ ?_ ?_
    all_goals try simp[rows,hkw]
    rw[Qn (by simp)]
   ·clear hms hall hkw hlt hk hP hen hel hle hlp hll hwn hrl;rintro⟨d,els,pre,last,wds,right,rls,es⟩ ⟨hP,hrl,hms⟩;simp only at hP hrl hms;have hall:=hms.all;have hen:=hP.en;have hel:=hP.el;have hdl:=hP.dl;have hrd:=hP.rd;have hle:=hen.le;have hlp:=hen.wd.lp;have hll:=hen.wd.ll;have hwn:wds.length<=1000000:=by omega
    have hb:(d:Int)<2001:=by omega
    refine zA ?_;refine zA ?_;by_cases hd:d<els.length
    ·have hdw:d<wds.length:=by omega
     refine rr1 (an @hb @hd) ?_;refine cK0 ?_;refine zA ?_;refine zB ?_;refine rg0 ?_;refine rg1 @hdw ?_;refine zA ?_;refine rg0 ?_;refine zB ?_;refine awp_loop (fun y:Nat×List (List Int)×List Int×List Int×List (List Nat)×List T×List (T×T)×List Int=>mkS [(1,.t 2 (.int .i64 (2001-(d:Int)))),(4,.ptr 0 0 9),(6,.ptr 1 0 9),(7,.own 7 0),(8,.own 8 y.2.2.2.2.1.length),(10,.own 9 y.1),(11,.t 2 (.str (zAZ wds[d]))),(86,.t 2 (.int .i64 gs.length)),(87,.t 2 (.int .i64 y.1))]
       [(0,.box 105 [.any,.any,.any,.any,.any,.any,.any,.any,.any]),
        (1,.box 105 [.t 2 (.int .i64 n),.t 2 (.bool true),.t 1 (rows gs),.own 2 y.2.1.length,.own 3 y.2.2.1.length,.own 4 y.2.2.2.1.length,.own 5 right.length,.own 6 y.2.2.2.2.2.1.length,.t 2 (.int .i64 d)]),
        (2,.row 22 1 1 (y.2.1.map ints)),(3,.row 3 1 2 (y.2.2.1.map (.int .i64))),(4,.row 3 1 2 (y.2.2.2.1.map (.int .i64))),(5,.row 22 1 2 (right.map ints)),(6,.row 214 2 1 y.2.2.2.2.2.1),
        (7,.map 9 3 y.2.2.2.2.2.2.1),(8,.row 9 1 2 (y.2.2.2.2.1.map fun w=>.str (zAZ w))),(9,.row 3 1 2 (y.2.2.2.2.2.2.2.map (.int .i64)))] 10 191 [.any,.any])
      (fun y=>PrI n gs y.2.1 y.2.2.1 y.2.2.2.1 y.2.2.2.2.1 right d/\(∃u,wds++u=y.2.2.2.2.1)/\y.2.2.2.2.2.1.length<=12+12*d+2*y.1/\zOR y.2.2.2.2.2.2.1/\y.1<=gs.length/\y.2.2.2.2.2.2.2.length=y.1/\zCZ gs y.2.1 d y.2.2.2.2.2.2.2) (fun y=>gs.length-y.1) ?_ ?_
     ·refine⟨(0,els,pre,last,wds,rls,es,[]),⟨hP,⟨[],by simp⟩,by simp;omega,hms,by simp,rfl,fun x j hx=>by simp at hx⟩,?_⟩;exact kw1 [(0,some 0),(1,some 1),(2,some 2),(3,some 3),(4,some 4),(5,some 5),(6,some 6),(7,some 7),(8,some 8),(9,none)] @rows.eq_1
     ·clear hP hrl hms hall hen hel hdl hrd hle hlp hll hwn hb;rintro⟨x,els,pre,last,wds',rls,es,rw'⟩ ⟨hP,⟨u,hu⟩,hrl,hms,hxl,hrwl,hrow⟩;simp only at hP hu hrl hms hxl hrwl hrow;have hall:=hms.all;have hen:=hP.en;have hel:=hP.el;have hdl:=hP.dl;have hrd:=hP.rd;have hle:=hen.le;have hlp:=hen.wd.lp;have hll:=hen.wd.ll;have hul:=congrArg List.length hu;simp only[List.length_append]at hul;have hd:d<els.length:=by omega
      have hdw':d<wds'.length:=by omega
      have hwd:wds'[d]=wds[d]:=by subst hu;rw[List.getElem_append_left hdw]
      refine rg0 ?_;by_cases hlt:x<gs.length
      ·obtain⟨v1,v2,v3⟩:=hen.val d wds'[d] els[d] (by simp) (by simp);have hgx:=h.tr gs[x] (by simp);have hwlen:=hen.wd.len d wds'[d] (by simp);rw[hwd]at hwlen;refine zA ?_;refine cT1 @hlt ?_;refine zQ ?_;refine zA ?_;refine zB ?_;refine rg0 ?_;refine rq1 (zJi (n:=n) (by omega) v2 hgx) (an @hd @hlt) ?_;have hels: ∀e∈els,e.length<=1000000:=fun e he=>by
        obtain⟨i,hi,rfl⟩:=Qb he;obtain⟨h1,h2,h3⟩:=hen.val i wds'[i] els[i] (by simp) (by simp);have:=h2.1;omega
       refine rc0 (zIl els (zn els[d] gs[x]) (by omega) hels) ?_;refine rc1 (zEr x (by omega)) @zAa ?_;refine zA ?_;rcases zFn els (zn els[d] gs[x])with⟨e1,e2⟩|⟨j,hj,e1,e2⟩
       ·refine rg1 @e1 ?_;refine cT0 ?_;refine zA ?_;by_cases h2k:els.length=2000
        ·refine rg1 @h2k ?_;refine cT0 ?_;refine rg0 ?_;refine zC ?_;refine⟨_,.inl ⟨rfl,hen.big h2k hd hlt e2⟩,?_⟩;refine⟨⟨.inr rfl,_,[],(by simp;rfl),trivial,trivial,by simp,?_⟩,by simp[enT]⟩;simp
        ·have h2k': ¬(els.length:Int)=2000:=by omega
         refine rg1 @h2k' ?_;refine cS0 ?_;refine rg0 ?_;refine rd0 ?_;refine rg0 ?_;refine rr1 @hall ?_;refine rr0 ?_;refine rr0 ?_;refine⟨(x+1,els++[zn els[d] gs[x]],pre++[(d:Int)],last++[(x:Int)],wds'++[wds'[d]++[x]],rls,mUp (.str (zAZ (wds[d]++[x]))) (.int .i64 els.length) es,rw'++[(els.length:Int)]),⟨hP.add h.tr hd hdw' hlt e2 h2k hrow hrwl,⟨u++[wds'[d]++[x]],by simp[←hu]⟩,by simp;omega,hms.up _ _,by simp;omega,by simp[hrwl],(hrow.more _).put (by rw[Qw hd];exact Qj hd) (by rw[hrwl];exact Qj hlt) (by simp)⟩,by simp;omega,?_⟩;refine zH [(0,some 0),(1,some 1),(2,some 2),(3,some 3),(4,some 4),(5,some 5),(6,some 6),(7,some 7),(8,some 8),(9,some 9)] rfl ?_ ?_ ?_ ?_
         all_goals try simp[ints,rows,hwd,hrwl]
         rfl
       ·refine rg1 @e1 ?_;refine cF0 ?_;have hjw:j<wds'.length:=by omega
        by_cases hu0:(zAZ wds[d]).toList.isEmpty=true
        ·refine rg1 @hu0 ?_;refine cS0 ?_;refine rr0 ?_;refine rr0 ?_;refine⟨(x+1,els,pre,last,wds',rls,es,rw'++[(j:Int)]),⟨hP,⟨u,hu⟩,by simp;omega,hms,by simp;omega,by simp[hrwl],hrow.put (Qj hd) (by rw[hrwl];exact Qj hlt) (by rw[Qj hj,e2])⟩,by simp;omega,?_⟩;exact kw1 [(0,some 0),(1,some 1),(2,some 2),(3,some 3),(4,some 4),(5,some 5),(6,some 6),(7,some 7),(8,some 8),(9,some 9)] (an @rows.eq_1 @hrwl)
        have hu0:(zAZ wds[d]).toList.isEmpty=false:=Bool.eq_false_iff.2 hu0;by_cases hu1:(zAZ wds'[j]).toList=(zAZ (wds[d]++[x])).toList
        ·refine rg1 (an @hu0 (an @hu1 @hjw)) ?_;refine cS0 ?_;refine rr0 ?_;refine rr0 ?_;refine⟨(x+1,els,pre,last,wds',rls,es,rw'++[(j:Int)]),⟨hP,⟨u,hu⟩,by simp;omega,hms,by simp;omega,by simp[hrwl],hrow.put (Qj hd) (by rw[hrwl];exact Qj hlt) (by rw[Qj hj,e2])⟩,by simp;omega,?_⟩;exact kw1 [(0,some 0),(1,some 1),(2,some 2),(3,some 3),(4,some 4),(5,some 5),(6,some 6),(7,some 7),(8,some 8),(9,some 9)] (an @rows.eq_1 @hrwl)
        refine rg1 (an @hu0 (an @hu1 @hjw)) ?_;refine cT1 @hu1 ?_
        cases hf:fndT (T.str ((zAZ (wds[d]++[x])).extract 1 (wds[d].length+1))) es with
        |none=>
         refine rg1 (an @hall @hf) ?_;refine rg0 ?_;refine cS0 ?_;refine rr0 ?_;refine rr0 ?_;refine⟨(x+1,els,pre,last,wds',rls,es,rw'++[(j:Int)]),⟨hP,⟨u,hu⟩,by simp;omega,hms,by simp;omega,by simp[hrwl],hrow.put (Qj hd) (by rw[hrwl];exact Qj hlt) (by rw[Qj hj,e2])⟩,by simp;omega,?_⟩;exact kw1 [(0,some 0),(1,some 1),(2,some 2),(3,some 3),(4,some 4),(5,some 5),(6,some 6),(7,some 7),(8,some 8),(9,some 9)] (an @rows.eq_1 @hrwl)
        |some jj=>
         refine rg1 (an @hall @hf) ?_;refine rg0 ?_;refine cT0 ?_;refine re1 @hjw ?_;refine rr0 ?_;refine rr0 ?_;refine⟨(x+1,els,pre,last,wds',rls++[.str (zAZ (wds[d]++[x])),.str (zAZ wds'[j])],es,rw'++[(j:Int)]),⟨hP,⟨u,hu⟩,by simp;omega,hms,by simp;omega,by simp[hrwl],hrow.put (Qj hd) (by rw[hrwl];exact Qj hlt) (by rw[Qj hj,e2])⟩,by simp;omega,?_⟩;exact kw1 [(0,some 0),(1,some 1),(2,some 2),(3,some 3),(4,some 4),(5,some 5),(6,some 6),(7,some 7),(8,some 8),(9,some 9)] (an @rows.eq_1 (an @hrwl @zEn))
      ·refine zA ?_;refine cF1 @hlt ?_;refine zE ?_;refine rg0 ?_;refine rr0 ?_;refine rr0 ?_;refine⟨(d+1,els,pre,last,wds',right++[rw'],rls,es),⟨hP.row hd (by omega) hrow,by simp;omega,hms⟩,by simp;omega,?_⟩;refine zH [(0,some 0),(1,some 1),(2,some 2),(3,some 3),(4,some 4),(5,some 5),(6,some 6),(7,some 7),(8,some 8)] rfl ?_ ?_ ?_ ?_
       all_goals try simp[ints,rows]
       omega
    ·refine rr1 (an @hb @hd) ?_;refine cF0 ?_;refine zE ?_;refine rg0 ?_;refine zC ?_;have hde:d=els.length:=by omega
     subst hde;refine⟨_,.inr ⟨els,pre,last,wds,right,rls,rfl,hP⟩,?_⟩;refine⟨⟨.inr rfl,_,[],(by simp;rfl),trivial,trivial,by simp,?_⟩,by simp[enT]⟩;simp[ints,rows,enT]
def BuG(n:Nat)(gs:List (List Int))(res:AV):Prop:=res= .tup [.agg [.t 2 (.int .i64 0),.t 2 (.bool false),.t 2 (.sl 0 []),.t 2 (.sl 0 []),.t 2 (.sl 0 []),.t 2 (.sl 0 []),.t 2 (.sl 0 []),.t 2 (.sl 0 []),.t 2 (.int .i64 0)],.t 2 (.int .i64 3)]/\Big n gs∨
 ∃els pre last wds right rls,res= .tup [enT 2 n gs els pre last (rows right) rls els.length,.t 2 (.int .i64 0)]/\PrI n gs els pre last wds right els.length
theorem zO7{n:Nat}{gs:List (List Int)}(h:zIM n gs): ∃res,BuG n gs res/\FnS Tryz.prog 45 [.t 0 (rows gs),.t 2 (.bool true)] [] res []:=by
 obtain⟨res1,⟨els,pre,last,wds,rls,rfl,hen,hl7,hrl,hall⟩,hst⟩:=zPw h;obtain⟨res2,hG,hpr⟩:=zLR (wds:=wds) h ⟨hen,by omega,by omega,rfl,fun i r hr=>by simp at hr,hall⟩ hrl;have hG2: ∃a b,res2= .tup [a,b]:=by rcases hG with⟨rfl,_⟩|⟨_,_,_,_,_,_,rfl,_⟩<;>exact⟨_,_,rfl⟩
 refine zh Tryz.func45 rfl (by simp[Tryz.f45]) ?_;rw[show Tryz.f45.ntmps=22 from rfl,show Tryz.f45.results= #[.cell 4 105,.tmp 5]from rfl];refine rg0 ?_;refine rc1 hst @enT.eq_1 ?_;refine zA ?_;refine rg0 ?_;refine cS0 ?_;rcases hG with⟨rfl,hbig⟩|⟨els',pre',last',wds',right',rls',rfl,hP⟩
 ·refine rc1 hpr @enT.eq_1 ?_;refine zC ?_;refine⟨_,.inl ⟨rfl,hbig⟩,?_⟩;refine⟨⟨.inr rfl,_,[],(by simp;rfl),trivial,trivial,by simp,?_⟩,by simp⟩;simp
 ·refine rc1 hpr @enT.eq_1 ?_;refine zC ?_;refine⟨_,.inr ⟨els',pre',last',wds',right',rls',rfl,hP⟩,?_⟩;refine⟨⟨.inr rfl,_,[],(by simp;rfl),trivial,trivial,by simp,?_⟩,by simp⟩;simp[ints,rows,enT]
structure zOt(L m:Nat)(right:List (List Int)):Prop where
 len:right.length=m
 row: ∀(i:Nat) r,right[i]? =some r->r.length=L/\ ∀(x:Nat) j,r[x]? =some j-> ∃k:Nat,j=(k:Int)/\k<m
theorem PrI.rt{n:Nat}{gs els:List (List Int)}{pre last:List Int}{wds:List (List Nat)}{right:List (List Int)}(h:PrI n gs els pre last wds right els.length):zOt gs.length els.length right:=
 ⟨h.rd,fun i r hr=>by
  obtain⟨h1,h2⟩:=h.rg i r hr;refine⟨h1,fun x j hx=>?_⟩;obtain⟨m,e,g,rfl,-,-,h3⟩:=h2 x j hx;exact⟨m,rfl,(Qq.1 h3).1⟩⟩
def zR(right:List (List Int))(a c:Nat):Nat:=((right.getD a []).getD c 0).toNat
def zo(right:List (List Int))(a:Nat)(w:List Nat):Nat:=w.foldl (zR right) a
theorem zOt.step{L m:Nat}{right:List (List Int)}(h:zOt L m right){a c:Nat}(ha:a<m)(hc:c<L):zR right a c<m/\ ∃(h1:a<right.length) (h2:c<right[a].length),right[a][c]=(zR right a c:Int):=by
 have h1:a<right.length:=by rw[h.len];exact ha
 obtain⟨e1,e2⟩:=h.row a right[a] (by simp);have h2:c<right[a].length:=by omega
 obtain⟨k,e3,e4⟩:=e2 c right[a][c] (by simp);have:zR right a c=k:=by simp[zR,Qv,h1,h2,e3]
 rw[this];exact⟨e4,h1,h2,e3⟩
theorem zOt.walk{L m:Nat}{right:List (List Int)}(h:zOt L m right){w:List Nat}(hw: ∀x∈w,x<L){a:Nat}(ha:a<m):zo right a w<m:=by
 induction w generalizing a with
 |nil=>exact ha
 |cons x w ih=>
  show zo right (zR right a x) w<m;exact ih (fun y hy=>hw y (by simp[hy])) (h.step ha (hw x (by simp))).1
theorem zIh{w:List Nat}{k:Nat}(h:k<w.length)(hx:w[k]<=20):zC2 (zAZ w) k=97+(w[k]:Int):=by
 have e:(zAZ w)[k]? =some (UInt8.ofNat (97+w[k])):=by
  rw[getElem?_pos _ _ (by rw[zNa];exact h)];congr 1;show(zAZ w).data[k]'(by simpa[zAZ]using h)=_;simp[zAZ]
 unfold zC2;rw[e];simp;omega
def zBq(right:List (List Int))(wds:List (List Nat))(m:Nat):List (List Int):=tab m fun x=>tab m fun y=>(zo right x (wds.getD y []):Int)
@[simp] theorem zBf(right:List (List Int))(wds:List (List Nat))(m:Nat):(zBq right wds m).length=m:=by simp[zBq]
@[simp] theorem zUI{α:Type}(F:Nat->α):tab 0 F=[]:=rfl
theorem zUX(x:Nat):(97:Int)+(x:Int)-97=x:=by omega
theorem zLo(right:List (List Int))(a:Nat){w:List Nat}{k:Nat}(h:k<w.length):zo right a (w.take (k+1))=zR right (zo right a (w.take k)) w[k]:=by
 rw[Qf h];unfold zo;rw[List.foldl_append];rfl
theorem zLU{p n L:Nat}{gs els right:List (List Int)}{pre last:List Int}{wds:List (List Nat)}{rls:List T}{done:Nat}(hR:zOt L els.length right)(hW:WdL L pre last wds)(hle:els.length=wds.length)(hL:L<=20)(hn:els.length<=20000)(hlt: ∀w∈wds,∀x∈w,x<L):
  FnA Tryz.prog 46 [enT 0 n gs els pre last (rows right) rls done] (.t 2 (rows (zBq right wds els.length))):=by
 have hrl:=hR.len;refine fI 55 #[.tmp 2] Tryz.func46 rfl ?_;refine rg1 @enT.eq_1 ?_;refine rg0 ?_;refine zA ?_;refine rg0 ?_;refine zB ?_;refine awp_loop (fun x:Nat=>mkS [(1,.ptr 0 0 9),(3,.own 1 x),(12,.t 2 (.int .i64 els.length)),(13,.t 2 (.int .i64 x))]
   [(0,.box 105 [.t 2 (.int .i64 n),.t 2 (.bool true),.t 0 (rows gs),.t 0 (rows els),.t 0 (ints pre),.t 0 (ints last),.t 0 (rows right),.t 0 (.sl 2 rls),.t 2 (.int .i64 done)]),
    (1,.row 22 1 2 (((zBq right wds els.length).take x).map ints))] 2 55 [.any]) (fun x=>x<=els.length) (fun x=>els.length-x) ?_ ?_
 ·refine⟨0,by omega,?_⟩;exact kw1 [(0,some 0),(1,none)] @rows.eq_1
 ·intro x hx;refine rg0 ?_;by_cases hxl:x<els.length
  ·refine zA ?_;refine cT1 @hxl ?_;refine zQ ?_;refine zA ?_;refine zB ?_;refine rg0 ?_;refine rg0 ?_;refine zA ?_;refine rg0 ?_;refine zB ?_;refine awp_loop (fun y:Nat=>mkS [(1,.ptr 0 0 9),(3,.own 1 x),(4,.t 2 (.int .i64 x)),(5,.own 2 y),(12,.t 2 (.int .i64 els.length)),(13,.t 2 (.int .i64 x)),(18,.t 2 (.int .i64 els.length)),(19,.t 2 (.int .i64 y))]
     [(0,.box 105 [.t 2 (.int .i64 n),.t 2 (.bool true),.t 0 (rows gs),.t 0 (rows els),.t 0 (ints pre),.t 0 (ints last),.t 0 (rows right),.t 0 (.sl 2 rls),.t 2 (.int .i64 done)]),
      (1,.row 22 1 2 (((zBq right wds els.length).take x).map ints)),(2,.row 3 1 2 ((tab y fun j=>(zo right x (wds.getD j []):Int)).map (.int .i64)))] 3 55 [.any]) (fun y=>y<=els.length) (fun y=>els.length-y) ?_ ?_
   ·refine⟨0,by omega,?_⟩;exact kw1 [(0,some 0),(1,some 1),(2,none)] @rows.eq_1
   ·intro y hy;refine rg0 ?_;by_cases hyl:y<els.length
    ·have hyw:y<wds.length:=by omega
     have hwn:wds.length<=1000000:=by omega
     have hwl:=hW.len y wds[y] (by simp);have hwx:=hlt wds[y] (by simp);refine zA ?_;refine cT1 @hyl ?_;refine zQ ?_;refine zA ?_;refine zB ?_;refine rg0 ?_;refine rc1 (zGp hW hL hwn (i:=y) (w:=wds[y]) (by simp)) @enW.eq_1 ?_;refine rg0 ?_;refine zA ?_;refine rg0 ?_;refine zB ?_;refine awp_loop (fun k:Nat=>mkS [(1,.ptr 0 0 9),(3,.own 1 x),(4,.t 2 (.int .i64 x)),(5,.own 2 y),(7,.t 2 (.str (zAZ wds[y]))),(8,.t 2 (.int .i64 (zo right x (wds[y].take k)))),(9,.t 2 (.int .i64 k)),(12,.t 2 (.int .i64 els.length)),(13,.t 2 (.int .i64 x)),(18,.t 2 (.int .i64 els.length)),(19,.t 2 (.int .i64 y))]
       [(0,.box 105 [.t 2 (.int .i64 n),.t 2 (.bool true),.t 0 (rows gs),.t 0 (rows els),.t 0 (ints pre),.t 0 (ints last),.t 0 (rows right),.t 0 (.sl 2 rls),.t 2 (.int .i64 done)]),
        (1,.row 22 1 2 (((zBq right wds els.length).take x).map ints)),(2,.row 3 1 2 ((tab y fun j=>(zo right x (wds.getD j []):Int)).map (.int .i64)))] 3 55 [.any]) (fun k=>k<=wds[y].length) (fun k=>wds[y].length-k) ?_ ?_
     ·refine⟨0,by omega,?_⟩;refine zH [(0,some 0),(1,some 1),(2,some 2)] rfl ?_ ?_ ?_ ?_
      all_goals try simp[ints,rows]
      rfl
     ·intro k hk;refine zA ?_;refine rg0 ?_;by_cases hkl:k<wds[y].length
      ·have hcx:=hwx wds[y][k] (by simp);have hwk:zo right x (wds[y].take k)<els.length:=hR.walk (fun z hz=>hwx z (List.mem_of_mem_take hz)) hxl;obtain⟨s1,s2,s3,s4⟩:=hR.step hwk hcx;refine cK1 @hkl ?_;refine zA ?_;refine zB ?_;refine re1 (an @hkl (an (zIh hkl (by omega)) (an @zUX (an @s2 (an @s3 @s4))))) ?_;refine rr0 ?_;refine⟨k+1,by omega,by omega,?_⟩;refine zH [(0,some 0),(1,some 1),(2,some 2)] rfl ?_ ?_ ?_ ?_
       all_goals try simp[ints,rows,zLo _ _ hkl]
      ·have hke:k=wds[y].length:=by omega
       subst hke;refine cF0 ?_;refine zE ?_;refine rr0 ?_;refine rr0 ?_;refine⟨y+1,by omega,by omega,?_⟩;refine zH [(0,some 0),(1,some 1),(2,some 2)] rfl ?_ ?_ ?_ ?_
       all_goals try simp[ints,rows]
       rw[zBI];simp[hyw]
    ·have hye:y=els.length:=by omega
     subst hye;refine zA ?_;refine cF0 ?_;refine zE ?_;refine rr0 ?_;refine rr0 ?_;refine⟨x+1,by omega,by omega,?_⟩;refine zH [(0,some 0),(1,some 1)] rfl ?_ ?_ ?_ ?_
     all_goals try simp[ints,rows]
     rw[Qf (by simpa[zBq]using hxl)];simp[zBq,ints]
  ·have hxe:x=els.length:=by omega
   subst hxe;refine zA ?_;refine cF0 ?_;refine zE ?_;refine rg0 ?_;refine zC ?_;refine⟨⟨.inr rfl,_,[],rfl,trivial,trivial,by simp,?_⟩,by simp[rows,enT]⟩;simp[rows];rw[Qn (by simp)]
def zG(bs:List Bool):T:=.sl 1 (bs.map .bool)
@[simp] theorem zTv(p:Nat)(bs:List Bool):lvs p (bs.map T.bool)=2:=by
 unfold lvs;rw[if_pos];simp[scal]
def zLS(x n:Int):Int:=if n<1 then 0 else x.emod n
theorem zOX{x n:Int}(h:1<=n):0<=zLS x n/\zLS x n<n:=by
 unfold zLS;rw[if_neg (by omega)];exact⟨Int.emod_nonneg _ (by omega),Int.emod_lt_of_pos _ (by omega)⟩
theorem zM6{x n:Int}(h:1<=n):(x.tmod n<0->x.tmod n+n=zLS x n)/\(¬x.tmod n<0->x.tmod n=zLS x n):=by
 have e:zLS x n=x%n:=by unfold zLS;rw[if_neg (by omega)];rfl
 rw[e];have h3:=Int.emod_nonneg x (show n≠0 by omega);have h4:=Int.emod_lt_of_pos x (show 0<n by omega);have h5:x.tmod n=x%n-if 0<=x\/n∣x then 0 else n.natAbs:=Int.tmod_eq_emod
 by_cases hc:0<=x\/n∣x
 ·rw[if_pos hc]at h5;constructor<;>intro<;>omega
 ·rw[if_neg hc]at h5;constructor<;>intro<;>omega
theorem zS9(x n:Int)(hn:n<=1000000):FnA Tryz.prog 50 [.t 2 (.int .i64 x),.t 2 (.int .i64 n)] (.t 2 (.int .i64 (zLS x n))):=by
 refine fI 16 #[.tmp 4] Tryz.func50 rfl ?_;refine rg0 ?_;refine zA ?_;refine rg0 ?_;by_cases h1:n<1
 ·refine cT1 @h1 ?_;refine rg0 ?_;refine zC ?_;refine⟨⟨.inr rfl,_,[],rfl,trivial,trivial,by simp,?_⟩,by simp⟩;simp;simp[zLS,h1]
 ·have hmm:=zM6 (x:=x) (show 1<=n by omega);have hb1:=Int.tmod_lt_of_pos x (show 0<n by omega);have hb2: -n<x.tmod n:=Int.lt_tmod_of_pos x (show 0<n by omega);have hn0: ¬n=0:=by omega
  refine cS1 @h1 ?_;refine rg1 @hn0 ?_;refine zA ?_;refine rg0 ?_;by_cases h2:x.tmod n<0
  ·have hmm:=hmm.1 h2;refine cT1 @h2 ?_;refine rr0 ?_;refine rg0 ?_;refine zC ?_;refine⟨⟨.inr rfl,_,[],rfl,trivial,trivial,by simp,?_⟩,by simp⟩;simp;exact hmm
  ·have hmm:=hmm.2 h2;refine cS1 @h2 ?_;refine rg0 ?_;refine zC ?_;refine⟨⟨.inr rfl,_,[],rfl,trivial,trivial,by simp,?_⟩,by simp⟩;simp;exact hmm
def tpO(p:Nat)(xs:List Int)(a:Nat):AObj:=.box 52 [.t p (ints xs),.t 2 (.int .i64 a)]
theorem zTC(xs:List Int):FnS Tryz.prog 5 [.t 1 (ints xs)] [] (.ptr 0 0 2) [tpO 1 (xs.take 80) 0]:=by
 refine fI 11 #[.tmp 2] Tryz.func5 rfl ?_;refine rg0 ?_;refine zA ?_;refine rg0 ?_;by_cases h:80<(xs.length:Int)
 ·refine cT1 @h ?_;refine rr0 ?_;refine rg0 ?_;refine zC ?_;refine⟨⟨.inr rfl,_,[(0,some 9000000)],(by first|rfl|(simp[ints,rows,scal,tpO];rfl)),?_,?_,?_,?_⟩,?_⟩
  all_goals try simp[ints,tpO]
 ·refine cS1 @h ?_;refine rg0 ?_;refine zC ?_;refine⟨⟨.inr rfl,_,[(0,some 6000000)],(by first|rfl|(simp[ints,rows,scal,tpO];rfl)),?_,?_,?_,?_⟩,?_⟩
  all_goals try simp[ints,tpO]
  rw[Qn (by simp;omega)]
theorem zBQ(xs:List Int)(a:Nat)(n:Int)(ha:a<=xs.length)(hl:xs.length<=80)(hn:n<=1000000): ∃v b:Nat,(1<=n->(v:Int)<n)/\b<=xs.length/\FnS Tryz.prog 23 [.ptr 0 0 2,.t 2 (.int .i64 n)] [tpO 1 xs a] (.t 2 (.int .i64 v)) [tpO 1 xs b]:=by
 by_cases hlt:a<xs.length
 case neg=>
  refine⟨0,a,by omega,ha,?_⟩;refine fI 35 #[.tmp 4] Tryz.func23 rfl ?_;refine rg0 ?_;refine zA ?_;refine rd1 @tpO.eq_1 ?_;refine cT0 ?_;refine rg0 ?_;refine zC ?_;refine⟨⟨.inr rfl,_,[(0,some 0)],(by first|rfl|(simp[ints,rows,scal,tpO];rfl)),?_,?_,?_,?_⟩,?_⟩
  all_goals try simp[ints,tpO]
 refine⟨(zLS xs[a] n).toNat,a+1,?_,by omega,?_⟩
 ·intro h1;have:=zOX (x:=xs[a]) h1;omega
 have hmi:((zLS xs[a] n).toNat:Int)=zLS xs[a] n:=by
  by_cases h1:1<=n
  ·have:=zOX (x:=xs[a]) h1;omega
  ·simp[zLS,show n<1 by omega]
 rw[hmi];refine fI 35 #[.tmp 4] Tryz.func23 rfl ?_;refine rg0 ?_;refine zA ?_;refine rd1 @tpO.eq_1 ?_;refine cS0 ?_;refine rg0 ?_;refine rq1 (zS9 xs[a] n hn) @hlt ?_;refine zC ?_;refine⟨⟨.inr rfl,_,[(0,some 0)],(by first|rfl|(simp[ints,rows,scal,tpO];rfl)),?_,?_,?_,?_⟩,?_⟩
 all_goals try simp[ints,tpO]
theorem zL{a b:Nat}(h:b<a):(a==b)=false:=by simp;omega
theorem zJ{a b:Nat}(h:a<b):(a==b)=false:=by simp;omega
theorem ze{a b:Nat}(h:a<b):(a=b)=False:=by simp;omega
theorem zW{a b:Nat}(h:b<a):(a=b)=False:=by simp;omega
theorem zAN{a b:Nat}(h:a<b):(a<b)=True:=by simp[h]
theorem zAE{H:Nat->Option AObj}{m:Nat->Option Nat}{un:Nat->Prop}{nx:Nat}: ∀{us vs:List AV} {a b:AV},wkPs H m un nx (us++[a]) (vs++[b])=(wkPs H m un nx us vs/\wkP H m un nx a b)
 |[],[],a,b=>by simp
 |x::us,y::vs,a,b=>by simp only[List.cons_append,wkPs,zAE (us:=us) (vs:=vs),and_assoc]
 |[],y::vs,a,b=>by
  cases vs<;>simp
 |x::us,[],a,b=>by
  cases us<;>simp
theorem zI{H:Nat->Option AObj}{m:Nat->Option Nat}{un:Nat->Prop}{nx n:Nat}{f g:Nat->AV}:wkPs H m un nx (tab n f) (tab n g)= ∀j,j<n->wkP H m un nx (f j) (g j):=by
 apply propext;constructor
 ·intro h j hj;obtain⟨a,ha,hab⟩:=(zAG h).2 j (g j) (zO _ hj);rw[zO _ hj]at ha;injection ha with ha;rw[ha];exact hab
 ·intro h;refine zCY (by simp) (fun i a b ha hb=>?_);have hi:=(Qq.1 ha).1;rw[zAD]at hi;rw[zO _ hi]at ha hb;injection ha with ha;injection hb with hb;rw[←ha,←hb];exact h i hi
structure zTi(L n s:Nat)(bs:List Bool)(nx:Nat->List Int):Prop where
 n1:1<=n
 st:s<n
 bl:bs.length=n
 row: ∀q,q<n->(nx q).length=L/\ ∀v∈nx q,0<=v/\v<(n:Int)
def dfH(p L n b:Nat)(xs:List Int)(bs:List Bool):List AObj:=[tpO p xs b,.row 4 1 2 (bs.map .bool),.vec 22 1 2 (tab n fun q=>.own (3+q) L)]
theorem zAw{P:Program}{f:FuncId}{fn:Func}{c:Code}{args:List AV}{H:List AObj}{G:AV->List AObj->Prop}(hf:P.funcs[f]? =some fn)(hb:fn.body=some c)(hle:args.length<=fn.ntmps)(h:awp P c (fun e σ=>(∃res H',G res H'/\ ∃m un,resG P fn.results.toList res H' m un e σ)/\σ.gh=ghA args) (zCJ args H fn.ntmps)): ∃res H',G res H'/\FnS P f args H res H':=by
 obtain⟨e,σ',h1,⟨res,H',hG,hr⟩,hgh⟩:=h;exact⟨res,H',hG,zHX hf hb hle ⟨e,σ',h1,hr,hgh⟩⟩
def DfG(p L most:Nat)(xs:List Int)(res:AV)(H':List AObj):Prop:=∃n s b bs nx,n<=most/\b<=xs.length/\zTi L n s bs nx/\res= .agg [.t 2 (.int .i64 L),.t 2 (.int .i64 s),.own 1 n,.own 2 n]/\H'=dfH p L n b xs bs++tab n fun q=>.row 3 1 2 ((nx q).map (.int .i64))
theorem zQu(xs:List Int)(a L most:Nat)(ha:a<=xs.length)(hl:xs.length<=80)(hL:1<=L)(hL2:L<=6)(hm:1<=most)(hm2:most<=100): ∃res H',DfG 1 L most xs res H'∧
  FnS Tryz.prog 27 [.ptr 0 0 2,.t 2 (.int .i64 L),.t 2 (.int .i64 most)] [tpO 1 xs a] res H':=by
 obtain⟨v1,a1,hv1,ha1,hN1⟩:=zBQ xs a most ha hl (by omega);have hv1:=hv1 (by omega);obtain⟨n,hn⟩: ∃n,n=1+v1:=⟨_,rfl⟩;obtain⟨s,a2,hv2,ha2,hN2⟩:=zBQ xs a1 n ha1 hl (by omega);have hv2:=hv2 (by omega);have hnn:(1:Int)+v1=n:=by omega
 have hnm:n<=100:=by omega
 refine zAw Tryz.func27 rfl (by simp[Tryz.f27]) ?_;rw[show Tryz.f27.ntmps=53 from rfl,show Tryz.f27.results= #[.cell 6 34]from rfl];refine rg0 ?_;refine rg0 ?_;refine zF fun K hK=>?_
 simp(maxSteps:=2000000)(disch:=omega)
 (repeat' apply And.intro)
 all_goals (try omega)
 refine zD (caps:=[]) (hN1) [0] [0] 1 rfl rfl rfl rfl (by kernel_rfl) (by simp) ?_ ?_ (by simp) rfl (by simp) ⟨.inr ⟨rfl,0,_,_,_,_,_,rfl,rfl,rfl,rfl,rfl⟩,trivial⟩ (by simp[tpO]) ?_
 ·simp[scal,ints,tpO]
 ·simp[scal,ints,tpO]
 simp(maxSteps:=2000000)(disch:=omega)[scal,zBs,hnn];and_intros<;>try first|apply hK|omega|rfl|simp<;>omega
 refine zF fun K hK=>?_
 simp(maxSteps:=2000000)(disch:=omega)
 (repeat' apply And.intro)
 all_goals (try omega)
 refine zD (caps:=[]) (hN2) [0] [0] 1 rfl rfl rfl rfl (by kernel_rfl) (by simp) ?_ ?_ (by simp) rfl (by simp) ⟨.inr ⟨rfl,0,_,_,_,_,_,rfl,rfl,rfl,rfl,rfl⟩,trivial⟩ (by simp[tpO]) ?_
 ·simp[scal,ints,tpO]
 ·simp[scal,ints,tpO]
 simp(maxSteps:=2000000)(disch:=omega)[scal];and_intros<;>try first|apply hK|omega|rfl|simp<;>omega
 refine zA ?_;refine rg0 ?_;refine zB ?_;refine awp_loop (fun y:Nat×Nat×List Bool×(Nat->List Int)=>mkF [(0,.ptr 0 0 2),(1,.t 2 (.int .i64 L)),(6,.ptr 1 0 4),(7,.ptr 2 0 4),(8,.t 2 (.int .i64 n)),(9,.t 2 (.int .i64 y.1))]
   [(0,tpO 1 xs y.2.1),(1,.box 34 [.any,.any,.any,.any]),(2,.box 34 [.t 2 (.int .i64 L),.t 2 (.int .i64 s),.own 3 y.1,.own 4 y.1]),(3,.row 4 1 2 (y.2.2.1.map .bool)),(4,.vec 22 1 2 (tab y.1 fun j=>.own (100+j) L))]
   100 y.1 (fun j=>.row 3 1 2 ((y.2.2.2 j).map (.int .i64))) 1000 53 [.ptr 0 0 2,.any,.any])
  (fun y=>y.1<=n/\y.2.1<=xs.length/\y.2.2.1.length=y.1/\ ∀q,q<y.1->(y.2.2.2 q).length=L/\ ∀v∈y.2.2.2 q,0<=v/\v<(n:Int)) (fun y=>n-y.1) ?_ ?_
 ·refine⟨(0,a2,[],fun _=>[]),⟨by simp,ha2,rfl,fun q hq=>by simp at hq⟩,?_⟩;exact kf1 [(0,some 0),(1,some 1),(2,some 3000001),(3,none),(4,none)] (fun j=>j) @tpO.eq_1
 ·rintro⟨q,a3,bs,nx⟩ ⟨hq,ha3,hbl,hrow⟩;simp only at hq ha3 hbl hrow;refine zA ?_;refine rg0 ?_;by_cases hqn:q<n
  ·refine cK1 @hqn ?_;refine zA ?_;refine zB ?_;obtain⟨v4,a4,hv4,ha4,hN4⟩:=zBQ xs a3 2 ha3 hl (by omega);refine zg (by kernel_rfl) (fun K hK=>?_);simp(maxSteps:=2000000)(disch:=omega)[zDx]
   (repeat' apply And.intro)
   all_goals (try omega)
   refine zM (caps:=[]) (hN4) [0] [0] 1 rfl rfl rfl rfl (by kernel_rfl) (by simp) ?_ ?_ (by simp) rfl (by simp) ⟨.inr ⟨rfl,0,_,_,_,_,_,rfl,rfl,rfl,rfl,rfl⟩,trivial⟩ (by simp[tpO]) ?_
   ·simp[scal,ints,tpO]
   ·simp[scal,ints,tpO,zDx]
   simp(maxSteps:=2000000)(disch:=omega)[ints,scal,zDx,tpO]
   (repeat' first|apply hK|apply And.intro)<;>try first|(show zAY _ _=true;kernel_rfl)|(show okH _ _ _=true;kernel_rfl)|omega|rfl|(simp<;>omega)
   refine rg0 ?_;refine zA ?_;refine rg0 ?_;refine zB ?_;refine awp_loop (fun y:Nat×Nat×List Int=>mkF [(0,.ptr 0 0 2),(1,.t 2 (.int .i64 L)),(6,.ptr 1 0 4),(7,.ptr 2 0 4),(8,.t 2 (.int .i64 n)),(9,.t 2 (.int .i64 q)),(10,.own 5 y.1),(11,.t 2 (.int .i64 y.1))]
     [(0,tpO 1 xs y.2.1),(1,.box 34 [.any,.any,.any,.any]),(2,.box 34 [.t 2 (.int .i64 L),.t 2 (.int .i64 s),.own 3 (q+1),.own 4 q]),(3,.row 4 1 2 ((bs++[(v4:Int)==1]).map .bool)),(4,.vec 22 1 2 (tab q fun j=>.own (100+j) L)),(5,.row 3 1 2 (y.2.2.map (.int .i64)))]
     100 q (fun j=>.row 3 1 2 ((nx j).map (.int .i64))) 1000 53 [.ptr 0 0 2,.any,.any])
    (fun y=>y.1<=L/\y.2.1<=xs.length/\y.2.2.length=y.1/\ ∀v∈y.2.2,0<=v/\v<(n:Int)) (fun y=>L-y.1) ?_ ?_
   ·refine⟨(0,a4,[]),⟨by simp,ha4,rfl,fun v hv=>by simp at hv⟩,?_⟩;refine zAQ [(0,some 0),(1,some 1),(2,some 2),(3,some 3),(4,some 4),(5,none)] (fun j=>100+j) rfl ?_ ?_ ?_ ?_ ?_ ?_
    all_goals try simp +contextual (disch:=omega)[zL,zJ,ze,zW,zAN,ints,tpO,zI,hbl]
    all_goals (try omega)
   ·rintro⟨x,a5,r⟩ ⟨hx,ha5,hrl,hrv⟩;simp only at hx ha5 hrl hrv;refine zA ?_;refine rg0 ?_;by_cases hxl:x<L
    ·refine cK1 @hxl ?_;refine zA ?_;refine zB ?_;obtain⟨v6,a6,hv6,ha6,hN6⟩:=zBQ xs a5 n ha5 hl (by omega);have hv6:=hv6 (by omega);refine zAT fun K hK=>?_
     simp(maxSteps:=2000000)(disch:=omega)
     (repeat' apply And.intro)
     all_goals (try omega)
     refine zD (caps:=[]) (hN6) [0] [0] 1 rfl rfl rfl rfl (by kernel_rfl) (by simp) ?_ ?_ (by simp) rfl (by simp) ⟨.inr ⟨rfl,0,_,_,_,_,_,rfl,rfl,rfl,rfl,rfl⟩,trivial⟩ (by simp[tpO]) ?_
     ·simp[scal,ints,tpO]
     ·simp[scal,ints,tpO,zDx]
     simp(maxSteps:=2000000)(disch:=omega)[ints,scal,zDx,tpO];and_intros<;>try first|apply hK|omega|rfl|simp<;>omega
     refine rr0 ?_;refine⟨(x+1,a6,r++[(v6:Int)]),⟨by omega,ha6,by simp[hrl],fun v hv=>?_⟩,by simp;omega,?_⟩
     ·rcases List.mem_append.1 hv with hv|hv
      ·exact hrv v hv
      ·simp at hv;omega
     ·refine zAQ [(0,some 0),(1,some 1),(2,some 2),(3,some 3),(4,some 4),(5,some 5)] (fun j=>100+j) rfl ?_ ?_ ?_ ?_ ?_ ?_
      all_goals try simp +contextual (disch:=omega)[zL,zJ,ze,zW,zAN,ints,tpO,zI,hrl]
      all_goals (try omega)
    ·have hxe:x=L:=by omega
     subst hxe;refine cF0 ?_;refine zE ?_;refine rr1 @zDx.eq_1 ?_;refine rr0 ?_;refine⟨(q+1,a5,bs++[(v4:Int)==1],fun j=>if j<q then nx j else r),⟨by omega,ha5,by simp[hbl],fun j hj=>?_⟩,by simp;omega,?_⟩
     ·by_cases hjq:j<q
      ·simp only[if_pos hjq];exact hrow j hjq
      ·simp only[if_neg hjq];exact⟨hrl,hrv⟩
     ·refine zAQ [(0,some 0),(1,some 1),(2,some 2),(3,some 3),(4,some 4)] (fun j=>if j<q then 100+j else 5) rfl ?_ ?_ ?_ ?_ ?_ ?_
      all_goals try simp +contextual (disch:=omega)[zL,zJ,zW,zAN,ints,tpO,zAE,zI,zBI]
      all_goals (try omega)
      ·intro j hj;by_cases hjq:j<q
       ·simp +contextual (disch:=omega)[zL,zJ,ze,hjq]
       ·simp +contextual (disch:=omega)[zL,zJ,ze,hjq]
      ·intro i j hi hj h;split at h<;>split at h<;>omega
  ·have hqe:q=n:=by omega
   subst hqe;refine cF0 ?_;refine zE ?_;refine rg1 @zDx.eq_1 ?_;refine zC ?_;refine⟨⟨_,_,⟨q,s,a3,bs,nx,by omega,ha3,⟨by omega,by omega,hbl,hrow⟩,rfl,rfl⟩,?_⟩,by simp⟩;refine zH0 [(0,some 0),(1,some 3),(2,some 4)] (fun j=>100+j) (.inr rfl) ?_ ?_ ?_ ?_ ?_ _ ?_ (by first|(simp;rfl)|rfl)
   all_goals try simp +contextual (disch:=omega)[zL,zJ,ze,zW,zAN,ints,tpO,zI,dfH]
theorem zc(po:List Nat)(q n:Nat)(f:Nat->AV):outVs po q (tab n f)=tab n fun j=>outV po q (f j):=by
 obtain⟨h1,h2⟩:=zBM po q (tab n f);apply List.ext_getElem?;intro i;by_cases hi:i<n
 ·rw[zO _ hi];have hi2:i<(outVs po q (tab n f)).length:=by rw[h1];simpa using hi
  obtain⟨a,ha,hab⟩:=h2 i _ (Qj hi2);rw[zO _ hi]at ha;injection ha with ha;rw[Qj hi2,hab,ha]
 ·rw[Qh (by rw[h1];simp;omega),Qh (by simp;omega)]
theorem zG2{ph:List Nat}{b n q h L:Nat}(hh:h=ph.length):outVs (poF ph b n) q (tab n fun j=>.own (h+j) L)=tab n fun j=>AV.own (b+j) L:=by
 rw[zc];apply List.ext_getElem?;intro i;by_cases hi:i<n
 ·rw[zO _ hi,zO _ hi];subst hh;simp only[outV];rw[zQy hi]
 ·rw[zBd _ (by omega),zBd _ (by omega)]
theorem zC4{a b:Nat}(h:a≠b):(a==b)=false:=by simpa using h
theorem zCT{H:Nat->Option AObj}{un:Nat->Prop}{q n:Nat}{f:Nat->AV}{g:Nat->T}:wkT H un q (tab n f) (tab n g)= ∀j,j<n->wk1 H un q (f j) (g j):=by
 apply propext;constructor
 ·intro h j hj;exact h.2 j (f j) (g j) (zO _ hj) (zO _ hj)
 ·intro h;refine⟨by simp,fun i a b ha hb=>?_⟩;have hi:=(Qq.1 ha).1;rw[zAD]at hi;rw[zO _ hi]at ha hb;injection ha with ha;injection hb with hb;rw[←ha,←hb];exact h i hi
def dfT(p L s:Nat)(bs:List Bool)(nxt:List (List Int)):AV:=.agg [.t 2 (.int .i64 L),.t 2 (.int .i64 s),.t p (zG bs),.t p (rows nxt)]
structure DfL(L n s:Nat)(bs:List Bool)(nxt:List (List Int)):Prop where
 n1:1<=n
 st:s<n
 bl:bs.length=n
 nl:nxt.length=n
 row: ∀r∈nxt,r.length=L/\ ∀v∈r,0<=v/\v<(n:Int)
theorem zTi.list{L n s:Nat}{bs:List Bool}{nx:Nat->List Int}(h:zTi L n s bs nx):DfL L n s bs (tab n nx):=
 ⟨h.n1,h.st,h.bl,by simp,fun r hr=>by
  simp only[tab,List.mem_map,List.mem_range]at hr;obtain⟨q,hq,rfl⟩:=hr;exact h.row q hq⟩
def MkG(L most:Nat)(xs:List Int)(res:AV)(H':List AObj):Prop:=∃n s b bs nxt,n<=most/\b<=xs.length/\DfL L n s bs nxt/\res=dfT 2 L s bs nxt/\H'=[tpO 1 xs b]
theorem zLL(xs:List Int)(a L most:Nat)(ha:a<=xs.length)(hl:xs.length<=80)(hL:1<=L)(hL2:L<=6)(hm:1<=most)(hm2:most<=100): ∃res H',MkG L most xs res H'∧
  FnS Tryz.prog 24 [.ptr 0 0 2,.t 2 (.int .i64 L),.t 2 (.int .i64 most)] [tpO 1 xs a] res H':=by
 obtain⟨res,H',⟨n,s,b,bs,nx,hnm,hb,hD,rfl,rfl⟩,hspec⟩:=zQu xs a L most ha hl hL hL2 hm hm2;have hn1:=hD.n1;have hst:=hD.st;have hbl:=hD.bl;have hrow:=hD.row;refine zAw Tryz.func24 rfl (by simp[Tryz.f24]) ?_;rw[show Tryz.f24.ntmps=46 from rfl,show Tryz.f24.results= #[.cell 6 34]from rfl];refine rg0 ?_;refine zF fun K hK=>?_
 simp(maxSteps:=2000000)(disch:=omega)
 (repeat' apply And.intro)
 all_goals (try omega)
 refine zFX (caps:=[]) hspec [0] [0,4000001,4000002] 4000003 1 rfl rfl rfl rfl (by kernel_rfl) (by simp) ?_ ?_ (by simp) rfl (by simp) ⟨.inr ⟨rfl,0,_,_,_,_,_,rfl,rfl,rfl,rfl,rfl⟩,.inl (by omega),.inl (by omega),trivial⟩ (by omega) (by intro k hk;simp at hk;omega) (by simp[tpO,dfH]) (fun j hj=>rfl) ?_
 ·simp[scal,tpO]
 ·simp[tpO,scal]
 simp(maxSteps:=2000000)(disch:=omega)[zP4,zEU,zDF,awpOp,gd,aop,ASt.eval,zAt,ASt.app,Eff.heap,dels,zCK,aStore,aAlloc,avCells,putL,Nat.blt_eq,outV,outVs,outO,addL,delL,ints,scal,callF,zG2 (show 3=[0,4000001,4000002].length from rfl),dfH,tpO];and_intros<;>try first|apply hK|omega|rfl|simp<;>omega
 refine zA ?_;refine rg0 ?_;refine zB ?_;refine awp_loop (fun y:Nat×(Nat->List Int)=>mkF [(6,.ptr 1 0 4),(7,.ptr 2 0 4),(17,.t 2 (.int .i64 n)),(18,.t 2 (.int .i64 y.1))]
   [(0,tpO 1 xs b),(1,.box 34 [.any,.any,.any,.any]),(2,.box 34 [.t 2 (.int .i64 L),.t 2 (.int .i64 s),.own 3 n,.own 4 n]),(3,.row 4 1 2 (bs.map .bool)),(4,.vec 22 1 2 (tab n fun j=>.own (100+j) L))]
   100 n (fun j=>.row 3 1 2 ((y.2 j).map (.int .i64))) 1000 46 [.ptr 0 0 2,.any,.any])
  (fun y=>y.1<=n/\ ∀q,q<n->(y.2 q).length=L/\ ∀v∈y.2 q,0<=v/\v<(n:Int)) (fun y=>n-y.1) ?_ ?_
 ·refine⟨(0,nx),⟨by simp,hrow⟩,?_⟩;refine zAQ [(0,some 0),(1,some 1),(2,some 5000001),(3,some 4000001),(4,some 4000002)] (fun j=>4000003+j) rfl ?_ ?_ ?_ ?_ ?_ ?_
  all_goals try simp +contextual (disch:=omega)[zL,zJ,ze,zW,zAN,Ql,ints,tpO,zI]
  all_goals (try omega)
  exact⟨by simp[poF],by simp[poF]⟩
 ·rintro⟨q,nx'⟩ ⟨hq,hrow'⟩;simp only at hq hrow';refine rg0 ?_;refine zA ?_;by_cases hqn:q<n
  ·obtain⟨hql,hqv⟩:=hrow' q hqn;refine cK1 @hqn ?_;refine zA ?_;refine zB ?_;refine rg0 ?_;refine rg1 (an @hqn @hql) ?_;refine zB ?_;refine awp_loop (fun y:Nat×(Nat->List Int)=>mkF [(6,.ptr 1 0 4),(7,.ptr 2 0 4),(8,.t 2 (.int .i64 q)),(17,.t 2 (.int .i64 n)),(18,.t 2 (.int .i64 q)),(25,.own (100+q) L),(26,.t 2 (.int .i64 L)),(27,.t 2 (.int .i64 y.1))]
     [(0,tpO 1 xs b),(1,.box 34 [.any,.any,.any,.any]),(2,.box 34 [.t 2 (.int .i64 L),.t 2 (.int .i64 s),.own 3 n,.own 4 n]),(3,.row 4 1 2 (bs.map .bool)),(4,.vec 22 1 2 (tab n fun j=>.own (100+j) L))]
     100 n (fun j=>.row 3 1 2 ((y.2 j).map (.int .i64))) 1000 46 [.ptr 0 0 2,.any,.any])
    (fun y=>y.1<=L/\ ∀q,q<n->(y.2 q).length=L/\ ∀v∈y.2 q,0<=v/\v<(n:Int)) (fun y=>L-y.1) ?_ ?_
   ·refine⟨(0,nx'),⟨by simp,hrow'⟩,?_⟩;refine zAQ [(0,some 0),(1,some 1),(2,some 2),(3,some 3),(4,some 4)] (fun j=>100+j) rfl ?_ ?_ ?_ ?_ ?_ ?_
    all_goals try simp +contextual (disch:=omega)[zL,zJ,ze,zW,zAN,ints,tpO,zI]
    all_goals (try omega)
   ·clear hrow' hql hqv;rintro⟨x,nx'⟩ ⟨hx,hrow'⟩;simp only at hx hrow';obtain⟨hql,hqv⟩:=hrow' q hqn;refine rg0 ?_;refine zA ?_;by_cases hxl:x<L
    ·have hxq:x<(nx' q).length:=by omega
     have hv:=hqv (nx' q)[x] (by simp);refine cK1 @hxl ?_;refine zA ?_;refine zB ?_;refine rg1 (an @hqn (an @hql (an @hxl @hxq))) ?_;refine rr1 (an @hqn (an @hql (an @hxl @hxq))) ?_;refine rr0 ?_;refine⟨(x+1,fun j=>if j=q then(nx' q).set x (if(q:Int)<(nx' q)[x]then(nx' q)[x]else(q:Int))else nx' j),⟨by omega,fun j hj=>?_⟩,by simp;omega,?_⟩
     ·by_cases hjq:j=q
      ·simp only[if_pos hjq];refine⟨by simp[hql],fun v hv2=>?_⟩;rcases List.mem_or_eq_of_mem_set hv2 with hv2|rfl
       ·exact hqv v hv2
       ·split<;>omega
      ·simp only[if_neg hjq];exact hrow' j hj
     ·refine zAQ [(0,some 0),(1,some 1),(2,some 2),(3,some 3),(4,some 4)] (fun j=>100+j) rfl ?_ ?_ ?_ ?_ ?_ ?_
      all_goals try simp +contextual (disch:=omega)[zL,zJ,ze,zW,zAN,ints,tpO,zI]
      all_goals (try omega)
      intro j hj;by_cases hjq:j=q
      ·subst hjq;simp +contextual (disch:=omega)[List.map_set]
      ·simp +contextual (disch:=omega)[hjq,zC4 (show 100+j≠100+q by omega)]
    ·have hxe:x=L:=by omega
     subst hxe;refine cF0 ?_;refine zE ?_;refine rr0 ?_;refine⟨(q+1,nx'),⟨by omega,hrow'⟩,by simp;omega,?_⟩;refine zAQ [(0,some 0),(1,some 1),(2,some 2),(3,some 3),(4,some 4)] (fun j=>100+j) rfl ?_ ?_ ?_ ?_ ?_ ?_
     all_goals try simp +contextual (disch:=omega)[zL,zJ,ze,zW,zAN,ints,tpO,zI]
     all_goals (try omega)
  ·have hqe:q=n:=by omega
   subst hqe;refine cF0 ?_;refine zE ?_;refine rg0 ?_;refine rg0 ?_;refine zC ?_;refine⟨⟨_,_,⟨q,0,b,bs,tab q nx',hnm,hb,(zTi.list ⟨hn1,by omega,hbl,hrow'⟩),rfl,rfl⟩,zA7 ?_⟩,by simp⟩;refine⟨.inr rfl,_,[(0,some 0)],(by first|(simp;rfl)|rfl),?_,?_,?_,?_⟩
   all_goals try simp +contextual (disch:=omega)[zL,zJ,ze,ints,tpO,zCT,wk1,rows,zG,dfT,zT]
   exact⟨hbl,fun j hj=>(hrow' j hj).1⟩
theorem zBS(hl:List (Nat×AObj))(base n:Nat)(F:Nat->AObj){j:Nat}(h:j<n):zDx hl base n F (j+base)=some (F j):=by rw[Nat.add_comm];exact zAu hl base n F h
theorem zB6(mp:List (Nat×Option Nat))(base n:Nat)(g:Nat->Nat){j:Nat}(h:j<n):zBm mp base n g (j+base)=some (g j):=by rw[Nat.add_comm];exact zA5 mp base n g h
def zNb(L n:Nat)(r:List Int):Prop:=r.length=L/\ ∀v∈r,0<=v/\v<(n:Int)
theorem zNb.set{L n:Nat}{r:List Int}(h:zNb L n r)(x:Nat){v:Int}(hv:0<=v/\v<(n:Int)):zNb L n (r.set x v):=
 ⟨by simp[h.1],fun u hu=>by
  rcases List.mem_or_eq_of_mem_set hu with hu|rfl
  ·exact h.2 u hu
  ·exact hv⟩
theorem zEf(xs:List Int)(a L most:Nat)(ha:a<=xs.length)(hl:xs.length<=80)(hL:1<=L)(hL2:L<=6)(hm:1<=most)(hm2:most<=100): ∃res H',MkG L most xs res H'∧
  FnS Tryz.prog 25 [.ptr 0 0 2,.t 2 (.int .i64 L),.t 2 (.int .i64 most)] [tpO 1 xs a] res H':=by
 obtain⟨v1,a1,hv1,ha1,hN1⟩:=zBQ xs a most ha hl (by omega);have hv1:=hv1 (by omega);obtain⟨n,hn⟩: ∃n,n=1+v1:=⟨_,rfl⟩;obtain⟨s,a2,hv2,ha2,hN2⟩:=zBQ xs a1 n ha1 hl (by omega);have hv2:=hv2 (by omega);have hnn:(1:Int)+v1=n:=by omega
 have hnm:n<=100:=by omega
 refine zAw Tryz.func25 rfl (by simp[Tryz.f25]) ?_;rw[show Tryz.f25.ntmps=90 from rfl,show Tryz.f25.results= #[.cell 6 34]from rfl];refine rg0 ?_;refine rg0 ?_;refine zF fun K hK=>?_
 simp(maxSteps:=2000000)(disch:=omega)
 (repeat' apply And.intro)
 all_goals (try omega)
 refine zD (caps:=[]) (hN1) [0] [0] 1 rfl rfl rfl rfl (by kernel_rfl) (by simp) ?_ ?_ (by simp) rfl (by simp) ⟨.inr ⟨rfl,0,_,_,_,_,_,rfl,rfl,rfl,rfl,rfl⟩,trivial⟩ (by simp[tpO]) ?_
 ·simp[scal,ints,tpO]
 ·simp[scal,ints,tpO]
 simp(maxSteps:=2000000)(disch:=omega)[scal,zBs,hnn];and_intros<;>try first|apply hK|omega|rfl|simp<;>omega
 refine zF fun K hK=>?_
 simp(maxSteps:=2000000)(disch:=omega)
 (repeat' apply And.intro)
 all_goals (try omega)
 refine zD (caps:=[]) (hN2) [0] [0] 1 rfl rfl rfl rfl (by kernel_rfl) (by simp) ?_ ?_ (by simp) rfl (by simp) ⟨.inr ⟨rfl,0,_,_,_,_,_,rfl,rfl,rfl,rfl,rfl⟩,trivial⟩ (by simp[tpO]) ?_
 ·simp[scal,ints,tpO]
 ·simp[scal,ints,tpO]
 simp(maxSteps:=2000000)(disch:=omega)[scal];and_intros<;>try first|apply hK|omega|rfl|simp<;>omega
 refine zA ?_;refine rg0 ?_;refine zB ?_;refine awp_loop (fun y:Nat×Nat×List Bool=>mkF [(0,.ptr 0 0 2),(1,.t 2 (.int .i64 L)),(6,.ptr 1 0 4),(7,.ptr 2 0 4),(8,.t 2 (.int .i64 n)),(9,.t 2 (.int .i64 y.1))]
   [(0,tpO 1 xs y.2.1),(1,.box 34 [.any,.any,.any,.any]),(2,.box 34 [.t 2 (.int .i64 L),.t 2 (.int .i64 s),.own 3 y.1,.own 4 y.1]),(3,.row 4 1 2 (y.2.2.map .bool)),(4,.vec 22 1 2 (tab y.1 fun j=>.own (j+100) L))]
   100 y.1 (fun j=>.row 3 1 2 ((List.replicate L (0:Int)).map (.int .i64))) 1000 90 [.ptr 0 0 2,.any,.any])
  (fun y=>y.1<=n/\y.2.1<=xs.length/\y.2.2.length=y.1) (fun y=>n-y.1) ?_ ?_
 ·refine⟨(0,a2,[]),⟨by simp,ha2,rfl⟩,?_⟩;exact kf1 [(0,some 0),(1,some 1),(2,some 3000001),(3,none),(4,none)] (fun j=>j) @tpO.eq_1
 ·rintro⟨q,a3,bs⟩ ⟨hq,ha3,hbl⟩;simp only at hq ha3 hbl;refine zA ?_;refine rg0 ?_;by_cases hqn:q<n
  ·refine cK1 @hqn ?_;refine zA ?_;refine zB ?_;obtain⟨v4,a4,hv4,ha4,hN4⟩:=zBQ xs a3 2 ha3 hl (by omega);refine zAW (by kernel_rfl) (fun K hK=>?_);simp(maxSteps:=2000000)(disch:=omega)
   (repeat' apply And.intro)
   all_goals (try omega)
   refine zM (caps:=[]) (hN4) [0] [0] 1 rfl rfl rfl rfl (by kernel_rfl) (by simp) ?_ ?_ (by simp) rfl (by simp) ⟨.inr ⟨rfl,0,_,_,_,_,_,rfl,rfl,rfl,rfl,rfl⟩,trivial⟩ (by simp[tpO]) ?_
   ·simp[scal,ints,tpO]
   ·simp[scal,ints,tpO]
   simp(maxSteps:=2000000)(disch:=omega)[ints,scal,tpO];and_intros<;>try first|apply hK|(show zAY _ _=true;kernel_rfl)|(show okH _ _ _=true;kernel_rfl)|omega|rfl|simp<;>omega
   refine rr0 ?_;refine⟨(q+1,a4,bs++[(v4:Int)==1]),⟨by omega,ha4,by simp[hbl]⟩,by simp;omega,?_⟩;refine zAQ [(0,some 0),(1,some 1),(2,some 2),(3,some 3),(4,some 4)] (fun j=>if j<q then j+100 else 13001000) rfl ?_ ?_ ?_ ?_ ?_ ?_
   all_goals try simp +contextual (disch:=omega)[zL,zJ,zW,zAN,ints,tpO,zAE,zI,hbl,zBI,zB6]
   all_goals (try omega)
   ·intro j hj;by_cases hjq:j<q
    ·simp +contextual (disch:=omega)[zL,zW,hjq,zBS,zC4 (show j+100≠14001000 by omega),zC4 (show j+100≠13001000 by omega),zC4 (show j+100≠8001000 by omega)]
    ·simp +contextual (disch:=omega)[zL,zJ,ze,hjq]
   ·intro i j hi hj h;split at h<;>split at h<;>omega
  ·have hqe:q=n:=by omega
   subst hqe;refine cF0 ?_;refine zE ?_;refine zA ?_;refine rg0 ?_;refine zB ?_;refine awp_loop (fun y:Nat×Nat×(Nat->List Int)=>mkF [(0,.ptr 0 0 2),(1,.t 2 (.int .i64 L)),(6,.ptr 1 0 4),(7,.ptr 2 0 4),(8,.t 2 (.int .i64 q)),(10,.t 2 (.int .i64 y.1))]
     [(0,tpO 1 xs y.2.1),(1,.box 34 [.any,.any,.any,.any]),(2,.box 34 [.t 2 (.int .i64 L),.t 2 (.int .i64 s),.own 3 q,.own 4 q]),(3,.row 4 1 2 (bs.map .bool)),(4,.vec 22 1 2 (tab q fun j=>.own (j+100) L))]
     100 q (fun j=>.row 3 1 2 ((y.2.2 j).map (.int .i64))) 1000 90 [.ptr 0 0 2,.any,.any])
    (fun y=>y.1<=L/\y.2.1<=xs.length/\ ∀j,j<q->zNb L q (y.2.2 j)) (fun y=>L-y.1) ?_ ?_
   ·refine⟨(0,a3,fun _=>List.replicate L 0),⟨by simp,ha3,fun j hj=>⟨by simp,fun v hv=>?_⟩⟩,?_⟩
    ·have:=List.eq_of_mem_replicate hv;omega
    ·refine zAQ [(0,some 0),(1,some 1),(2,some 2),(3,some 3),(4,some 4)] (fun j=>j+100) rfl ?_ ?_ ?_ ?_ ?_ ?_
     all_goals try simp +contextual (disch:=omega)[zL,zJ,zW,zAN,ints,tpO,zI,zB6,zBS]
     all_goals (try omega)
   ·clear ha3;rintro⟨x,a3,nx⟩ ⟨hx,ha3,hnx⟩;simp only at hx ha3 hnx;refine zA ?_;refine rg0 ?_;by_cases hxl:x<L
    ·refine cK1 @hxl ?_;refine zA ?_;refine zB ?_;refine rg0 ?_;refine zA ?_;refine rg0 ?_;refine zB ?_;refine awp_loop (fun y:Nat=>mkF [(0,.ptr 0 0 2),(1,.t 2 (.int .i64 L)),(6,.ptr 1 0 4),(7,.ptr 2 0 4),(8,.t 2 (.int .i64 q)),(10,.t 2 (.int .i64 x)),(11,.own 5 y),(12,.t 2 (.int .i64 y))]
       [(0,tpO 1 xs a3),(1,.box 34 [.any,.any,.any,.any]),(2,.box 34 [.t 2 (.int .i64 L),.t 2 (.int .i64 s),.own 3 q,.own 4 q]),(3,.row 4 1 2 (bs.map .bool)),(4,.vec 22 1 2 (tab q fun j=>.own (j+100) L)),(5,.row 3 1 2 ((tab y fun i=>(i:Int)).map (.int .i64)))]
       100 q (fun j=>.row 3 1 2 ((nx j).map (.int .i64))) 1000 90 [.ptr 0 0 2,.any,.any])
      (fun y=>y<=q) (fun y=>q-y) ?_ ?_
     ·refine⟨0,by omega,?_⟩;refine zAQ [(0,some 0),(1,some 1),(2,some 2),(3,some 3),(4,some 4),(5,none)] (fun j=>j+100) rfl ?_ ?_ ?_ ?_ ?_ ?_
      all_goals try simp +contextual (disch:=omega)[zL,zJ,zW,zAN,ints,tpO,zI,zB6,zBS]
      all_goals (try omega)
     ·intro y hy;refine zA ?_;refine rg0 ?_;by_cases hyq:y<q
      ·refine cK1 @hyq ?_;refine zA ?_;refine zB ?_;refine rr0 ?_;refine rr0 ?_;refine⟨y+1,by omega,by omega,?_⟩;refine zAQ [(0,some 0),(1,some 1),(2,some 2),(3,some 3),(4,some 4),(5,some 5)] (fun j=>j+100) rfl ?_ ?_ ?_ ?_ ?_ ?_
       all_goals try simp +contextual (disch:=omega)[zL,zJ,zW,zAN,ints,tpO,zI,zB6,zBS,zBI]
       all_goals (try omega)
      ·have hye:y=q:=by omega
       subst hye;refine cF0 ?_;refine zE ?_;refine rg0 ?_;refine zB ?_;refine awp_loop (fun z:Nat×Nat×List Int×(Nat->List Int)=>mkF [(0,.ptr 0 0 2),(1,.t 2 (.int .i64 L)),(6,.ptr 1 0 4),(7,.ptr 2 0 4),(8,.t 2 (.int .i64 y)),(10,.t 2 (.int .i64 x)),(11,.t 2 (ints z.2.2.1)),(13,.t 2 (.int .i64 z.1))]
         [(0,tpO 1 xs z.2.1),(1,.box 34 [.any,.any,.any,.any]),(2,.box 34 [.t 2 (.int .i64 L),.t 2 (.int .i64 s),.own 3 y,.own 4 y]),(3,.row 4 1 2 (bs.map .bool)),(4,.vec 22 1 2 (tab y fun j=>.own (j+100) L))]
         100 y (fun j=>.row 3 1 2 ((z.2.2.2 j).map (.int .i64))) 1000 90 [.ptr 0 0 2,.any,.any])
        (fun z=>z.1<=y/\z.2.1<=xs.length/\z.2.2.1.length+z.1=y/\(∀v∈z.2.2.1,0<=v/\v<(y:Int))/\ ∀j,j<y->zNb L y (z.2.2.2 j)) (fun z=>y-z.1) ?_ ?_
       ·refine⟨(0,a3,tab y fun i=>(i:Int),nx),⟨by simp,ha3,by simp,fun v hv=>?_,hnx⟩,?_⟩
        ·simp only[tab,List.mem_map,List.mem_range]at hv;obtain⟨i,hi,rfl⟩:=hv;omega
        ·refine zAQ [(0,some 0),(1,some 1),(2,some 2),(3,some 3),(4,some 4)] (fun j=>j+100) rfl ?_ ?_ ?_ ?_ ?_ ?_
         all_goals try simp +contextual (disch:=omega)[zL,zJ,ze,zW,zAN,ints,tpO,zI,zB6,zBS]
         all_goals (try omega)
       ·clear hnx ha3;rintro⟨z,a5,lf,nx⟩ ⟨hz,ha5,hlf,hlv,hnx⟩;simp only at hz ha5 hlf hlv hnx;refine zA ?_;refine rg0 ?_;by_cases hzy:z<y
        ·refine cK1 @hzy ?_;refine zA ?_;refine zB ?_;obtain⟨v,a6,hv,ha6,hN6⟩:=zBQ xs a5 lf.length ha5 hl (by omega);have hvl:v<lf.length:=by have:=hv (by omega);omega
         have hnz:=hnx z hzy;have hnl:=hnz.1;have hlfv:=hlv lf[v] (by simp);refine zF fun K hK=>?_
         simp(maxSteps:=2000000)(disch:=omega)
         (repeat' apply And.intro)
         all_goals (try omega)
         refine zD (caps:=[]) (hN6) [0] [0] 1 rfl rfl rfl rfl (by kernel_rfl) (by simp) ?_ ?_ (by simp) rfl (by simp) ⟨.inr ⟨rfl,0,_,_,_,_,_,rfl,rfl,rfl,rfl,rfl⟩,trivial⟩ (by simp[tpO]) ?_
         ·simp[scal,ints,tpO]
         ·simp[scal,ints,tpO]
         simp(maxSteps:=2000000)(disch:=omega)[scal]
         (repeat' first|apply hK|apply And.intro)<;>try first|omega|rfl|(simp<;>omega)
         refine rd1 (an @zBS (an @hzy (an @hnl (an @hxl @hvl)))) ?_;refine re0 ?_;refine rr0 ?_;refine⟨(z+1,a6,lf.take v++lf.drop (v+1),fun j=>if j=z then(nx z).set x lf[v]else nx j),⟨by omega,ha6,by simp;omega,fun u hu=>?_,fun j hj=>?_⟩,by simp;omega,?_⟩
         ·rcases List.mem_append.1 hu with hu|hu
          ·exact hlv u (List.mem_of_mem_take hu)
          ·exact hlv u (List.mem_of_mem_drop hu)
         ·by_cases hjz:j=z
          ·simp only[if_pos hjz];exact hnz.set x hlfv
          ·simp only[if_neg hjz];exact hnx j hj
         ·refine zAQ [(0,some 0),(1,some 1),(2,some 2),(3,some 3),(4,some 4)] (fun j=>j+100) rfl ?_ ?_ ?_ ?_ ?_ ?_
          all_goals try simp +contextual (disch:=omega)[zL,zJ,ze,zW,zAN,ints,scal,tpO,zI,zB6,zBS]
          all_goals (try omega)
          ·rw[Qn (by simp)]
          ·intro j hj;by_cases hjz:j=z
           ·subst hjz;simp +contextual (disch:=omega)[List.map_set]
           ·simp +contextual (disch:=omega)[hjz,zC4 hjz]
        ·refine cF0 ?_;refine zE ?_;refine rr0 ?_;refine⟨(x+1,a5,nx),⟨by omega,ha5,hnx⟩,by simp;omega,?_⟩;refine zAQ [(0,some 0),(1,some 1),(2,some 2),(3,some 3),(4,some 4)] (fun j=>j+100) rfl ?_ ?_ ?_ ?_ ?_ ?_
         all_goals try simp +contextual (disch:=omega)[zL,zJ,zW,zAN,ints,tpO,zI,zB6,zBS]
         all_goals (try omega)
    ·refine cF0 ?_;refine zE ?_;refine rg0 ?_;refine zC ?_;refine⟨⟨_,_,⟨q,s,a3,bs,tab q nx,by omega,ha3,(zTi.list ⟨by omega,by omega,hbl,fun j hj=>hnx j hj⟩),rfl,rfl⟩,zA7 ?_⟩,by simp⟩;refine⟨.inr rfl,_,[(0,some 0)],(by first|(simp;rfl)|rfl),?_,?_,?_,?_⟩
     all_goals try simp +contextual (disch:=omega)[zL,zJ,ze,zW,ints,tpO,zCT,wk1,rows,zG,dfT,zT,zBS]
     exact⟨hbl,fun j hj=>(hnx j hj).1⟩
end Go.Proofs.YtgmcbpjplcjmdaaGreat.M
