/- Lemmas for the law AperiodicMember. No conditions. -/
import Derived.Test.YtjkeafkjjaploaaGreatZqal
import Derived.Test.YtjkeafkjjaploaaGreatZqam
set_option linter.all false
namespace Go.Proofs.YtjkeafkjjaploaaGreat.M
open Go.RowKit
set_option maxRecDepth 100000
set_option maxHeartbeats 32000000

def rwN(n:Nat)(c:Nat->Nat):List T:=tab n fun i=>.int .i64 (c i:Int)
@[simp] theorem zVu(n:Nat)(c:Nat->Nat):(rwN n c).length=n:=by simp[rwN]
theorem zIJ{n:Nat}{c:Nat->Nat}{i:Nat}(h:i<n):(rwN n c)[i]? =some (.int .i64 (c i:Int)):=zX _ h
theorem zGk(n:Nat)(c:Nat->Nat)(k x:Nat):(rwN n c).set k (.int .i64 (x:Int))=rwN n (fun i=>if i=k then x else c i):=by
 rw[rwN,zg];refine zT fun i hi=>?_
 by_cases e:i=k<;>simp[e]
theorem zBL{n:Nat}{c d:Nat->Nat}(h: ∀i,i<n->c i=d i):rwN n c=rwN n d:=zT fun i hi=>by rw[h i hi]
theorem zGo(n:Nat):List.replicate n (T.int .i64 0)=rwN n fun _=>0:=by
 unfold rwN tab;rw[List.map_const',List.length_range];rfl
@[simp] theorem zVx(p n:Nat)(c:Nat->Nat):lvs p (rwN n c)=2:=by
 unfold lvs;rw[if_pos];simp[rwN,tab,scal]
def ksT(k:List Int):T:=.sl 99 (k.map (.int .i64))
def ksC(k:List Int):List AV:=k.map fun x=>.t 2 (.int .i64 x)
@[simp] theorem zWj(k:List Int):(ksC k).length=k.length:=by simp[ksC]
theorem zNF: ∀(k:List Int),keyL (ksC k)=some (k.map (.int .i64))
 |[]=>rfl
 |x::r=>by
  have:=zNF r;simp only[ksC,List.map_cons,keyL]at this ⊢;rw[this];rfl
theorem zTL(k:List Int)(i:Nat)(x:Int):(ksC k).set i (.t 2 (.int .i64 x))=ksC (k.set i x):=by
 simp[ksC,List.map_set]
@[simp] theorem zQ1(H:Nat->Option AObj)(m:Nat->Option Nat)(un:Nat->Prop)(nx:Nat): ∀(k:List Int),wkPs H m un nx (ksC k) (ksC k)
 |[]=>by simp[ksC]
 |x::r=>by
  have:=zQ1 H m un nx r;simp only[ksC,List.map_cons,wkPs,wkP]at this ⊢;exact⟨by simp,this⟩
theorem zUm(a b:List Int):kEq (ksT a) (ksT b)=decide (a=b):=by
 simp only[ksT,kEq];exact zCw a b
theorem zRV{k:List Int}(h:k.length=7):kOK Tryz.prog 247 (ksT k)=true:=by
 have h1:kagB Tryz.prog 247=some 7:=by kernel_rfl
 have h2:(k.map (T.int .i64)).all isI64=true:=by
  rw[List.all_map,List.all_eq_true];intro x _;rfl
 simp[kOK,ksT,h1,h,isI64]
theorem zFf{α:Type}(f:α->T){P:Program}{K:TypeId}: ∀(cl:List α) (j:Nat),(∀a∈cl,kOK P K (f a)=true)->((kents f j cl).all fun e=>kOK P K e.1)=true
 |[],j,_=>rfl
 |a::r,j,h=>by
  simp only[kents,List.all_cons,h a (by simp),zFf f r (j+1) (fun b hb=>h b (by simp[hb])),Bool.and_self]
@[simp] theorem zVb(L:Nat)(nxt:List (List Int))(p:Nat->Nat)(q:Nat):(zFa L nxt p q).length=7:=by simp[zFa]
theorem zQn{x:Nat}(hx:x<6)(nxt:List (List Int))(p:Nat->Nat)(q:Nat):(zFa x nxt p q).set (1+x) (p (zb nxt q x):Int)=zFa (x+1) nxt p q:=by
 rw[zFa,zg];refine zT fun j hj=>?_
 by_cases e:j=1+x
 ·subst e;rw[if_pos rfl,if_neg (by omega),if_pos (by omega),show 1+x-1=x by omega]
 ·rw[if_neg e];by_cases e0:j=0
  ·rw[if_pos e0,if_pos e0]
  ·rw[if_neg e0,if_neg e0];by_cases e2:j<=x
   ·rw[if_pos e2,if_pos (by omega)]
   ·rw[if_neg e2,if_neg (by omega)]
theorem zOk(nxt:List (List Int))(p:Nat->Nat)(q:Nat):ksC (zFa 0 nxt p q)=[.t 2 (.int .i64 (p q:Nat)),.t 2 (.int .i64 0),.t 2 (.int .i64 0),.t 2 (.int .i64 0),.t 2 (.int .i64 0),.t 2 (.int .i64 0),.t 2 (.int .i64 0)]:=rfl
theorem NuA.src{α:Type}{f:Nat->α}{cl:List α}{r:Nat->Nat}{k:Nat}(h:NuA f cl r k){v:α}(hv:v∈cl): ∃i,i<k/\v=f i:=by
 obtain⟨a,ha,e⟩:=Qb hv;obtain⟨x,h1,h2⟩:=zKh (p:=r) (c:=a) (k:=k) (by rw[h.cnt];exact ha);have h3:=h.at_ x h1;rw[h2,Qj ha]at h3;injection h3 with h3;exact⟨x,h1,by rw[←e,h3]⟩
def zQH(bs:List Bool)(k:Nat):Nat:=if k=0 then 1 else cv (zBo bs) k
theorem zSs{bs:List Bool}{k:Nat}(h:zBo bs k=0):zQH bs (k+1)=zQH bs k:=by
 unfold zQH;rw[if_neg (by omega)];show(if zBo bs k=cv (zBo bs) k then cv (zBo bs) k+1 else cv (zBo bs) k)=_;rw[h]
 cases k with
 |zero=>simp[cv]
 |succ k=>
  have:=(zGP bs k).1;rw[if_neg (by omega),if_neg (by omega)]
theorem zSO{bs:List Bool}{k:Nat}(h:zBo bs k=1):zQH bs (k+1)=2:=by
 unfold zQH;rw[if_neg (by omega)];show(if zBo bs k=cv (zBo bs) k then cv (zBo bs) k+1 else cv (zBo bs) k)=_;rw[h]
 cases k with
 |zero=>simp[zBo]at h
 |succ k=>
  have:=zGP bs k;split<;>omega
theorem zHM{L n s:Nat}{bs:List Bool}{nxt:List (List Int)}(h:DfL L n s bs nxt)(hL:1<=L)(hL2:L<=6)(hn:n<=512): ∃res,(∃r,ClG L n bs nxt r/\res= .t 2 (.sl 1 (rwN n r)))/\FnS Tryz.prog 170 [dfT 0 L s bs nxt] [] res []:=by
 have hbl:=h.bl;have hnl:=h.nl;have hn1:=h.n1;have hz1:zC2 Tryz.prog 3=some (.int .i64 0):=by kernel_rfl
 have h0b:0<bs.length:=by omega
 refine zm Tryz.func170 rfl (by simp[Tryz.f170]) ?_;rw[show Tryz.f170.ntmps=99 from rfl,show Tryz.f170.results= #[.tmp 2]from rfl];refine rg1 (an @dfT.eq_1 @zH.eq_1) ?_;refine zD ?_;refine rc1 (zBm h hL hL2 hn) (an @dfT.eq_1 @zH.eq_1) ?_;refine cS0 ?_;refine rg1 @hbl ?_;refine zD ?_;refine rg1 @hbl ?_;refine zG ?_;refine awp_loop (fun y:Nat=>mkS [(1,.ptr 0 0 4),(3,.own 1 n),(4,.t 2 (.int .i64 (zQH bs y:Nat))),(24,.t 0 (zH bs)),(25,.t 2 (.int .i64 n)),(26,.t 2 (.int .i64 y))] [(0,dfO L s bs nxt),(1,.row 3 1 2 (rwN n fun i=>if i<y then zBo bs i else 0))] 2 99 [.any]) (fun y=>y<=n) (fun y=>n-y) ?_ ?_
 ·refine⟨0,by omega,?_⟩;exact kw1 [(0,some 0),(1,some 8000000)] (an @zGo (an @dfO.eq_1 (an @rows.eq_1 (an @zH.eq_1 @zQH.eq_1))))
 intro k hk;refine rg0 ?_;refine zD ?_;by_cases hkn:k<n
 ·refine cT1 @hkn ?_;have hkb:k<bs.length:=by omega
  refine zY ?_;refine zD ?_;refine zG ?_;refine rg1 (an @zH.eq_1 @hkb) ?_;refine rg1 (an @dfO.eq_1 (an @zH.eq_1 @h0b)) ?_;by_cases e:bs[k]=bs[0]
  ·have hf:zBo bs k=0:=by simp[zBo,hkb,h0b,e]
   have hcn:=zSs hf;have hrw:rwN n (fun i=>if i<k then zBo bs i else 0)=rwN n (fun i=>if i<k+1 then zBo bs i else 0):=zBL fun i hi=>by
    by_cases e2:i=k
    ·subst e2;rw[if_neg (by omega),if_pos (by omega),hf]
    ·by_cases e3:i<k
     ·rw[if_pos e3,if_pos (by omega)]
     ·rw[if_neg e3,if_neg (by omega)]
   refine cY1 @e ?_;refine rr0 ?_;refine⟨k+1,by omega,by omega,?_⟩;exact kw1 [(0,some 0),(1,some 1)] (an @hrw (an @dfO.eq_1 (an @rows.eq_1 (an @zH.eq_1 @hcn))))
  ·have hf:zBo bs k=1:=by simp[zBo,hkb,h0b,e]
   have hcn:=zSO hf;have hst:(rwN n (fun i=>if i<k then zBo bs i else 0)).set k (.int .i64 1)=rwN n (fun i=>if i=k then 1 else if i<k then zBo bs i else 0):=zGk n _ k 1;have hrw:rwN n (fun i=>if i=k then 1 else if i<k then zBo bs i else 0)=rwN n (fun i=>if i<k+1 then zBo bs i else 0):=zBL fun i hi=>by
    by_cases e2:i=k
    ·subst e2;rw[if_pos rfl,if_pos (by omega),hf]
    ·rw[if_neg e2];by_cases e3:i<k
     ·rw[if_pos e3,if_pos (by omega)]
     ·rw[if_neg e3,if_neg (by omega)]
   refine cT1 @e ?_;refine rr0 ?_;refine rr0 ?_;refine⟨k+1,by omega,by omega,?_⟩;exact kw1 [(0,some 0),(1,some 1)] (an @hst (an @hrw (an @dfO.eq_1 (an @rows.eq_1 (an @zH.eq_1 @hcn)))))
 ·have hke:n=k:=by omega
  subst k;have hM0:=zSl L n bs nxt hbl;have hrw:rwN n (fun i=>if i<n then zBo bs i else 0)=rwN n (zBo bs):=zBL fun i hi=>by rw[if_pos hi]
  have hcn:zQH bs n=cv (zBo bs) n:=by unfold zQH;rw[if_neg (by omega)]
  rw[hrw,hcn];generalize zBo bs=p0 at hM0;clear hrw hcn;refine cF0 ?_;refine zK ?_;refine zG ?_;refine awp_loop (fun p:Nat->Nat=>mkS [(1,.ptr 0 0 4),(3,.own 1 n),(4,.t 2 (.int .i64 (cv p n:Nat)))] [(0,dfO L s bs nxt),(1,.row 3 1 2 (rwN n p))] 2 99 [.any]) (fun p=>MnI L n bs nxt p) (fun p=>n-cv p n) ?_ ?_
  ·refine⟨p0,hM0,?_⟩;exact kw1 [(0,some 0),(1,some 1)] (an @dfO.eq_1 @zH.eq_1)
  clear hM0;intro p hp;have hcvn:=zE6 p n;refine zG ?_;refine rg0 ?_;refine rg0 ?_;refine zD ?_;refine rg1 (an @dfO.eq_1 @hnl) ?_;refine zG ?_;refine awp_loop (fun y:Nat×List (List Int)×(Nat->Nat)=>mkS [(1,.ptr 0 0 4),(3,.own 1 n),(4,.t 2 (.int .i64 (cv p n:Nat))),(7,.own 2 0),(8,.own 3 n),(46,.t 0 (rows nxt)),(47,.t 2 (.int .i64 n)),(48,.t 2 (.int .i64 y.1))] [(0,dfO L s bs nxt),(1,.row 3 1 2 (rwN n p)),(2,.map 247 3 (kents ksT 0 y.2.1)),(3,.row 3 1 2 (rwN n fun i=>if i<y.1 then y.2.2 i else 0))] 4 99 [.any]) (fun y=>NuA (zFa L nxt p) y.2.1 y.2.2 y.1/\y.1<=n) (fun y=>n-y.1) ?_ ?_
  ·refine⟨(0,[],fun _=>0),⟨NuA.start,by simp⟩,?_⟩;refine zP [(0,some 0),(1,some 1),(2,some 2),(3,some 4000002)] rfl ?_ ?_ ?_ ?_
   all_goals try simp[zGo,dfO,rows,zH,kents]
  rintro⟨q,cl,r⟩ ⟨hN,hq⟩;simp only at hN hq;have hcl:=hN.cnt;have hcvq:=zE6 r q;refine rg0 ?_;refine zD ?_;by_cases hqn:q<n
  ·refine cT1 @hqn ?_;have hqx:q<nxt.length:=by omega
   obtain⟨hrl,-⟩:=h.row nxt[q] (by simp);have hpq:=hp.ok q hqn;have hcq:=zE6 p q;have hg:=zIJ (c:=p) hqn;refine zY ?_;refine zD ?_;refine zG ?_;refine rg1 @hqx ?_;refine rg1 @hg ?_;refine zD ?_;refine rg1 @hrl ?_;refine zG ?_;refine awp_loop (fun x:Nat=>mkS [(1,.ptr 0 0 4),(3,.own 1 n),(4,.t 2 (.int .i64 (cv p n:Nat))),(7,.own 2 0),(8,.own 3 n),(9,.t 2 (.int .i64 q)),(11,.ptr 4 0 7),(46,.t 0 (rows nxt)),(47,.t 2 (.int .i64 n)),(48,.t 2 (.int .i64 q)),(58,.t 0 (ints nxt[q])),(59,.t 2 (.int .i64 L)),(60,.t 2 (.int .i64 x))] [(0,dfO L s bs nxt),(1,.row 3 1 2 (rwN n p)),(2,.map 247 3 (kents ksT 0 cl)),(3,.row 3 1 2 (rwN n fun i=>if i<q then r i else 0)),(4,.box 247 (ksC (zFa x nxt p q)))] 5 99 [.any]) (fun x=>x<=L) (fun x=>L-x) ?_ ?_
   ·refine⟨0,by omega,?_⟩;rw[zOk];exact kw1 [(0,some 0),(1,some 1),(2,some 2),(3,some 3),(4,some 11000004)] (an @dfO.eq_1 (an @rows.eq_1 (an @zH.eq_1 @hrl)))
   intro x hx;refine rg0 ?_;refine zD ?_;by_cases hxl:x<L
   ·refine cT1 @hxl ?_;obtain⟨s1,s2,s3,s4⟩:=h.rt.step hqn hxl;have hg2:=zIJ (c:=p) s1;have hks:=zQn (x:=x) (by omega) nxt p q;have hx6:x<6:=by omega
    have hxt:(1+(x:Int)).toNat=1+x:=by omega
    refine zY ?_;refine zD ?_;refine zG ?_;refine rg1 (an @s3 @s4) ?_;refine rr1 (an @hg2 @hxt) ?_;refine rr0 ?_;refine⟨x+1,by omega,by omega,?_⟩;exact kw1 [(0,some 0),(1,some 1),(2,some 2),(3,some 3),(4,some 4)] (an @dfO.eq_1 (an @rows.eq_1 (an @zH.eq_1 (an @zTL (an @hxt @hks)))))
   ·obtain rfl:x=L:=by omega
    obtain⟨ky,hky⟩: ∃ky,ky=zFa x nxt p q:=⟨_,rfl⟩;have hk7:ky.length=7:=by rw[hky];simp
    have hkc:=zNF ky;have htk:List.take 7 (ksC ky)=ksC ky:=Qm (by simp[hk7]);have hlen7: ∀k∈cl,k.length=7:=fun k hk=>by
     obtain⟨i,-,e⟩:=hN.src hk;rw[e];simp
    have hfn:fndT (.sl 99 (ky.map (.int .i64))) (kents ksT 0 cl)=ixA ky cl:=zBv (f:=ksT) cl 0 (fun y _=>zUm ky y);have hall:=zFf ksT (P:=Tryz.prog) (K:=247) cl 0 (fun a ha=>zRV (hlen7 a ha));have hkk:kOK Tryz.prog 247 (.sl 99 (ky.map (.int .i64)))=true:=zRV hk7;rw[←hky];refine cF0 ?_;refine zK ?_
    cases hxx:ixA ky cl with
    |some j=>
     have hj:=zB7 hxx;have hje:=zBu ksT cl 0 j _ hj;have hN2:=hN.hit (j:=j) (by rw[hj,hky]);have hst:=zGk n (fun i=>if i<q then r i else 0) q j;have hrw:rwN n (fun i=>if i=q then j else if i<q then r i else 0)=rwN n (fun i=>if i<q+1 then(if i=q then j else r i)else 0):=zBL fun i hi=>by
      by_cases e2:i=q
      ·subst e2;rw[if_pos rfl,if_pos (by omega),if_pos rfl]
      ·rw[if_neg e2];by_cases e3:i<q
       ·rw[if_pos e3,if_pos (by omega),if_neg e2]
       ·rw[if_neg e3,if_neg (by omega)]
     clear hky;refine rg1 (an @hkc (an @htk (an @hk7 (an @hfn (an @hxx (an @hall (an @hkk (an @hz1 @hje)))))))) ?_;refine zD ?_;refine rg0 ?_;refine cS0 ?_;refine rr0 ?_;refine rr0 ?_;refine⟨(q+1,cl,fun i=>if i=q then j else r i),⟨hN2,by simp only;omega⟩,by simp only;omega,?_⟩;exact kw1 [(0,some 0),(1,some 1),(2,some 2),(3,some 3)] (an @dfO.eq_1 (an @rows.eq_1 (an @zH.eq_1 (an @hst @hrw))))
    |none=>
     have hnm:=zDQ hxx;have hN2:=hN.zWT (by rw[←hky];exact hnm);have hst:=zGk n (fun i=>if i<q then r i else 0) q cl.length;have hrw:rwN n (fun i=>if i=q then cl.length else if i<q then r i else 0)=rwN n (fun i=>if i<q+1 then(if i=q then cl.length else r i)else 0):=zBL fun i hi=>by
      by_cases e2:i=q
      ·subst e2;rw[if_pos rfl,if_pos (by omega),if_pos rfl]
      ·rw[if_neg e2];by_cases e3:i<q
       ·rw[if_pos e3,if_pos (by omega),if_neg e2]
       ·rw[if_neg e3,if_neg (by omega)]
     rw[←hky]at hN2;clear hky;refine rg1 (an @hkc (an @htk (an @hk7 (an @hfn (an @hxx (an @hall (an @hkk @hz1))))))) ?_;refine zD ?_;refine rg0 ?_;refine cT0 ?_;refine rg1 @zCf ?_;refine rr1 (an @hkc (an @htk (an @hk7 (an @hfn (an @hxx (an @hall @hkk)))))) ?_;refine rr0 ?_;refine rr0 ?_;refine⟨(q+1,cl++[ky],fun i=>if i=q then cl.length else r i),⟨hN2,by simp only;omega⟩,by simp only;omega,?_⟩;exact kw1 [(0,some 0),(1,some 1),(2,some 2),(3,some 3)] (an @dfO.eq_1 (an @rows.eq_1 (an @zH.eq_1 (an @hst (an @hrw (an @zBE @ksT.eq_1))))))
  ·have hqe:n=q:=by omega
   subst q;have hrw:rwN n (fun i=>if i<n then r i else 0)=rwN n r:=zBL fun i hi=>by rw[if_pos hi]
   rw[hrw];refine cF0 ?_;refine zK ?_;refine zD ?_;by_cases he:cl.length=cv p n
   ·have hC:=hN.end_ h hL2 hp he;refine rg1 (an @zCf @he) ?_;refine cT0 ?_;refine rg0 ?_;refine zI ?_;refine⟨_,⟨r,hC,rfl⟩,?_⟩;exact rt1 @dfT.eq_1
   ·have hei: ¬(cl.length:Int)=(cv p n:Int):=by omega
    have hmore:=hN.more h hL2 hp he;refine rg1 (an @zCf (an @hei @he)) ?_;refine cS0 ?_;refine rr1 @zCf ?_;refine⟨r,(hN.zSM h hL2 hp).1,by omega,?_⟩;exact kw1 [(0,some 0),(1,some 3)] (an @dfO.eq_1 (an @rows.eq_1 (an @zH.eq_1 @hcl)))
theorem zTs(n:Nat)(g:Nat->Nat):rwN n g=(tab n fun x=>(g x:Int)).map (.int .i64):=by
 rw[ze];rfl
theorem zHy{L n s:Nat}{bs:List Bool}{nxt:List (List Int)}(h:DfL L n s bs nxt)(hL:1<=L)(hL2:L<=6)(hn:n<=512): ∃res,(∃m bs' nx' st,MiX L n s bs nxt m bs' nx'/\res= .tup [dfT 2 L 0 bs' nx',.t 2 (ints (tab n st))])/\FnS Tryz.prog 132 [dfT 0 L s bs nxt] [] res []:=by
 obtain⟨_,⟨m,bs1,nx1,pl,hmn,hD1,hlang1,hpl,-,rfl⟩,htr1⟩:=zLE h hL hL2 hn;obtain⟨_,⟨p,hC,rfl⟩,hcls⟩:=zHM hD1 hL hL2 (by omega);have hbl1:=hD1.bl;have hnl1:=hD1.nl;have hm1:=hD1.n1;have hrt1:=hD1.rt;have hcvm:=zE6 p m;refine zm Tryz.func132 rfl (by simp[Tryz.f132]) ?_;rw[show Tryz.f132.ntmps=112 from rfl,show Tryz.f132.results= #[.cell 2 56,.tmp 3]from rfl];refine rg1 (an @dfT.eq_1 @zH.eq_1) ?_;refine rc1 htr1 (an @dfT.eq_1 @zH.eq_1) ?_;refine rc1 hcls (an @dfT.eq_1 @zH.eq_1) ?_;refine rg0 ?_;refine zD ?_;refine rg0 ?_;refine zG ?_;refine awp_loop (fun y:Nat×List Bool×List (List Int)=>mkS [(1,.ptr 0 0 4),(2,.ptr 1 0 4),(4,.ptr 2 0 4),(5,.t 2 (ints (tab n pl))),(6,.t 2 (.sl 1 (rwN m p))),(7,.ptr 3 0 4),(28,.t 2 (.sl 1 (rwN m p))),(29,.t 2 (.int .i64 m)),(30,.t 2 (.int .i64 y.1))] [(0,dfO L s bs nxt),(1,.box 56 [.any,.any,.any,.any]),(2,.box 56 [.t 2 (.int .i64 L),.t 2 (.int .i64 0),.t 2 (zH bs1),.t 2 (rows nx1)]),(3,.box 56 [.t 2 (.int .i64 L),.t 2 (.int .i64 0),.own 4 y.2.1.length,.own 5 y.2.2.length]),(4,.row 4 1 2 (y.2.1.map .bool)),(5,.row 22 1 2 (y.2.2.map ints))] 6 112 [.any]) (fun y=>QuI L bs1 nx1 p y.2.1 y.2.2 y.1/\y.1<=m) (fun y=>m-y.1) ?_ ?_
 ·refine⟨(0,[],[]),⟨QuI.start,by simp⟩,?_⟩;exact kw1 [(0,some 0),(1,some 1000000),(2,some 8000000),(3,some 17000000),(4,none),(5,none)] (an @dfO.eq_1 (an @rows.eq_1 (an @zH.eq_1 @dfT.eq_1)))
 rintro⟨q,bs2,nx2⟩ ⟨hQ,hq⟩;simp only at hQ hq;have hbl2:=hQ.bl;have hnl2:=hQ.nl;have hcvq:=zE6 p q;refine rg0 ?_;refine zD ?_;by_cases hqm:q<m
 ·refine cT1 @hqm ?_;have hg:=zIJ (c:=p) hqm;have hpq:=hC.ok q hqm;have hqx:q<nx1.length:=by omega
  have hqb:q<bs1.length:=by omega
  obtain⟨hrl,-⟩:=hD1.row nx1[q] (by simp);refine zY ?_;refine zD ?_;refine zG ?_;refine rg1 @hg ?_;refine zD ?_;by_cases hold:p q<cv p q
  ·have hlt:p q<bs2.length:=by omega
   refine rg1 @hlt ?_;refine cT1 @hlt ?_;refine zK ?_;refine rr0 ?_;refine⟨(q+1,bs2,nx2),⟨hQ.old (by omega),by simp only;omega⟩,by simp only;omega,?_⟩;exact kw1 [(0,some 0),(1,some 1),(2,some 2),(3,some 3),(4,some 4),(5,some 5)] (an @dfO.eq_1 (an @rows.eq_1 @zH.eq_1))
  ·have hnew:p q=cv p q:=by omega
   have hlt: ¬p q<bs2.length:=by omega
   have hQ2:=hQ.new hnew (b:=bs1[q]) (by simp);refine rg1 @hlt ?_;refine cS1 @hlt ?_;refine rg1 @dfO.eq_1 ?_;refine zD ?_;refine rg1 (an @hqx @hrl) ?_;refine zG ?_;refine awp_loop (fun x:Nat=>mkS [(1,.ptr 0 0 4),(2,.ptr 1 0 4),(4,.ptr 2 0 4),(5,.t 2 (ints (tab n pl))),(6,.t 2 (.sl 1 (rwN m p))),(7,.ptr 3 0 4),(8,.t 2 (.int .i64 q)),(10,.own 6 L),(28,.t 2 (.sl 1 (rwN m p))),(29,.t 2 (.int .i64 m)),(30,.t 2 (.int .i64 q)),(47,.t 2 (ints nx1[q])),(48,.t 2 (.int .i64 L)),(49,.t 2 (.int .i64 x))] [(0,dfO L s bs nxt),(1,.box 56 [.any,.any,.any,.any]),(2,.box 56 [.t 2 (.int .i64 L),.t 2 (.int .i64 0),.t 2 (zH bs1),.t 2 (rows nx1)]),(3,.box 56 [.t 2 (.int .i64 L),.t 2 (.int .i64 0),.own 4 bs2.length,.own 5 nx2.length]),(4,.row 4 1 2 (bs2.map .bool)),(5,.row 22 1 2 (nx2.map ints)),(6,.row 3 1 2 (rwN L fun j=>if j<x then p (zb nx1 q j)else 0))] 7 112 [.any]) (fun x=>x<=L) (fun x=>L-x) ?_ ?_
   ·refine⟨0,by omega,?_⟩;exact kw1 [(0,some 0),(1,some 1),(2,some 2),(3,some 3),(4,some 4),(5,some 5),(6,some 13000006)] (an @dfO.eq_1 (an @rows.eq_1 (an @zH.eq_1 @zGo)))
   intro x hx;refine rg0 ?_;refine zD ?_;by_cases hxl:x<L
   ·refine cT1 @hxl ?_;obtain⟨s1,s2,s3,s4⟩:=hrt1.step hqm hxl;have hg2:=zIJ (c:=p) s1;have hst:=zGk L (fun j=>if j<x then p (zb nx1 q j)else 0) x (p (zb nx1 q x));have hrw:rwN L (fun j=>if j=x then p (zb nx1 q x)else if j<x then p (zb nx1 q j)else 0)=rwN L (fun j=>if j<x+1 then p (zb nx1 q j)else 0):=zBL fun i hi=>by
     by_cases e2:i=x
     ·subst e2;rw[if_pos rfl,if_pos (by omega)]
     ·rw[if_neg e2];by_cases e3:i<x
      ·rw[if_pos e3,if_pos (by omega)]
      ·rw[if_neg e3,if_neg (by omega)]
    refine zY ?_;refine zD ?_;refine zG ?_;refine rg1 (an @s3 @s4) ?_;refine rr1 @hg2 ?_;refine rr0 ?_;refine⟨x+1,by omega,by omega,?_⟩;exact kw1 [(0,some 0),(1,some 1),(2,some 2),(3,some 3),(4,some 4),(5,some 5),(6,some 6)] (an @dfO.eq_1 (an @rows.eq_1 (an @zH.eq_1 (an @hst @hrw))))
   ·obtain rfl:x=L:=by omega
    have hrw:rwN x (fun j=>if j<x then p (zb nx1 q j)else 0)=rwN x (fun j=>p (zb nx1 q j)):=zBL fun i hi=>by rw[if_pos hi]
    have hri:=zTs x (fun j=>p (zb nx1 q j));rw[hrw];generalize hrr:(tab x fun x=>(p (zb nx1 q x):Int))=rr at hri hQ2;refine cF0 ?_;refine zK ?_;refine rd1 (an @zH.eq_1 @hqb) ?_;refine rr0 ?_;refine rr0 ?_;refine⟨(q+1,bs2++[bs1[q]],nx2++[rr]),⟨hQ2,by simp only;omega⟩,by simp only;omega,?_⟩;exact kw1 [(0,some 0),(1,some 1),(2,some 2),(3,some 3),(4,some 4),(5,some 5)] (an @dfO.eq_1 (an @rows.eq_1 (an @zH.eq_1 @hri)))
 ·have hqe:m=q:=by omega
  subst q;obtain⟨hDq,hlang2⟩:=hQ.fin hD1 hC;have hp0:p 0=0:=by
   have:=hC.ok 0 (by omega);simp only[cv]at this;omega
  have hD2:=hDq 0 (by omega);rw[hp0]at hD2;obtain⟨_,⟨m2,bs3,nx3,pl2,hm2,hD3,hlang3,hpl2,⟨ss3,hss3,hE3,hF3⟩,rfl⟩,htr2⟩:=zLE hD2 hL hL2 (by omega);have hX:MiX L n s bs nxt m2 bs3 nx3:=⟨by omega,by rw[←hss3];exact .of (by omega) hE3 hF3 (hQ.dis hD1 hC),fun w hw=>by
   have h2:=hlang2 w hw 0 (by omega);rw[hp0]at h2;rw[hlang3 w hw,h2,hlang1 w hw]⟩
  refine cF0 ?_;refine zK ?_;refine rc1 htr2 (an @dfT.eq_1 @zH.eq_1) ?_;refine rg0 ?_;refine zD ?_;refine rg0 ?_;refine zG ?_;refine awp_loop (fun y:Nat×(Nat->Int)=>mkS [(2,.ptr 0 0 4),(6,.t 2 (.sl 1 (rwN m p))),(13,.ptr 1 0 4),(14,.t 2 (ints (tab (cv p m) pl2))),(15,.own 2 n),(87,.t 2 (ints (tab n pl))),(88,.t 2 (.int .i64 n)),(89,.t 2 (.int .i64 y.1))] [(0,.box 56 [.any,.any,.any,.any]),(1,.box 56 [.t 2 (.int .i64 L),.t 2 (.int .i64 0),.t 2 (zH bs3),.t 2 (rows nx3)]),(2,.row 3 1 2 (tab n fun i=>.int .i64 (y.2 i)))] 3 112 [.any]) (fun y=>y.1<=n) (fun y=>n-y.1) ?_ ?_
  ·refine⟨(0,fun _=>0),by simp,?_⟩;exact kw1 [(0,some 1),(1,some 6000006),(2,some 11000006)] (an @rows.eq_1 (an @zH.eq_1 (an @dfT.eq_1 @zr)))
  rintro⟨i,st⟩ hi;simp only at hi;refine rg0 ?_;refine zD ?_;by_cases hin:i<n
  ·refine cT1 @hin ?_;have hpi:=hpl i hin;refine zY ?_;refine zD ?_;refine zG ?_;refine rg1 (an @ze @hin) ?_;refine rg1 @hin ?_;by_cases hneg:0<=pl i
   ·obtain⟨j,hj⟩: ∃j:Nat,pl i=(j:Int):=⟨(pl i).toNat,by omega⟩;have hjm:j<m:=by omega
    have hg:=zIJ (c:=p) hjm;have hpj:=hC.ok.lt hjm hjm;have hpj2:p j<cv p m:=hC.ok.lt hjm (by omega);refine rg1 @hj ?_;refine cT0 ?_;refine rr1 (an @hj (an @hg (an @ze (an @hpj2 @hin)))) ?_;refine rr0 ?_;refine⟨(i+1,fun q=>if q=i then pl2 (p j)else st q),by simp only;omega,by simp only;omega,?_⟩;refine zP [(0,some 0),(1,some 1),(2,some 2)] rfl ?_ ?_ ?_ ?_
    all_goals try simp[ints,rows,zH,zg,ze]
    refine zT (fun q hq=>?_);by_cases e:q=i<;>simp[e]
   ·refine rg1 @hneg ?_;refine cY0 ?_;refine rr0 ?_;refine⟨(i+1,fun q=>if q=i then -1 else st q),by simp only;omega,by simp only;omega,?_⟩;refine zP [(0,some 0),(1,some 1),(2,some 2)] rfl ?_ ?_ ?_ ?_
    all_goals try simp[ints,rows,zH,zg,ze]
    refine zT (fun q hq=>?_);by_cases e:q=i<;>simp[e]
  ·refine cF0 ?_;refine zK ?_;refine rg0 ?_;refine zI ?_;refine⟨_,⟨m2,bs3,nx3,st,hX,rfl⟩,?_⟩;refine⟨⟨.inr rfl,_,[],(by simp;rfl),trivial,trivial,by simp,?_⟩,by simp[dfT,zH]⟩;simp[ints,rows,dfT,zH,ze]
theorem zIP{L n s:Nat}{bs:List Bool}{nxt:List (List Int)}(h:DfL L n s bs nxt)(hL:1<=L)(hL2:L<=6)(hn:n<=512): ∃res,(∃m bs' nx',MiX L n s bs nxt m bs' nx'/\res=dfT 2 L 0 bs' nx')/\FnS Tryz.prog 103 [dfT 0 L s bs nxt] [] res []:=by
 obtain⟨_,⟨m,bs',nx',st,hX,rfl⟩,hmin⟩:=zHy h hL hL2 hn;refine zm Tryz.func103 rfl (by simp[Tryz.f103]) ?_;rw[show Tryz.f103.ntmps=15 from rfl,show Tryz.f103.results= #[.cell 2 56]from rfl];refine rg1 (an @dfT.eq_1 @zH.eq_1) ?_;refine zD ?_;refine rc1 (zBm h hL hL2 hn) (an @dfT.eq_1 @zH.eq_1) ?_;refine cS0 ?_;refine rc1 hmin (an @dfT.eq_1 @zH.eq_1) ?_;refine rg0 ?_;refine zI ?_;refine⟨_,⟨m,bs',nx',hX,rfl⟩,?_⟩;refine⟨⟨.inr rfl,_,[],(by simp;rfl),trivial,trivial,by simp,?_⟩,by simp[dfT,zH]⟩;simp[rows,dfT,zH]
theorem zP7{H:Nat->Option AObj}{un:Nat->Prop}{q:Nat}:wkT H un q [] []=True:=eq_true ⟨rfl,fun j x y hx _=>by simp at hx⟩
theorem zMl{H:Nat->Option AObj}{un:Nat->Prop}{q:Nat}{a:AV}{t:T}{bs:List AV}{ts:List T}:wkT H un q (a::bs) (t::ts)=(wk1 H un q a t/\wkT H un q bs ts):=by
 apply propext;constructor
 ·intro h;exact⟨h.2 0 a t rfl rfl,by simpa using h.1,fun j x y hx hy=>h.2 (j+1) x y (by simpa using hx) (by simpa using hy)⟩
 ·rintro⟨h1,h2⟩;refine⟨by simpa using h2.1,fun j x y hx hy=>?_⟩
  cases j with
  |zero=>simp at hx hy;subst hx hy;exact h1
  |succ j=>exact h2.2 j x y (by simpa using hx) (by simpa using hy)
theorem zU4:slB Tryz.prog 22=true:=by kernel_rfl
theorem zG6(xs:List Int)(hx:0<xs.length)(hl:xs.length<=100000):FnA Tryz.prog 134 [.t 0 (ints xs)] (.t 2 (ints xs)):=by
 have hne: ¬xs=[]:=fun e=>by rw[e]at hx;simp at hx
 refine fI 8 #[.tmp 2] Tryz.func134 rfl ?_;refine rg0 ?_;refine zD ?_;refine rg1 (an @zU4 @hx) ?_;refine cS1 @hne ?_;refine rg0 ?_;exact zI (rt1 @ints.eq_1)
theorem zS8:(⟨#[]⟩:ByteArray)=zAU []:=rfl
structure BgI(n:Nat)(gs els:List (List Int))(pre last:List Int)(wds:List (List Nat))(rls:List T)(beh sgl:List Int)(k:Nat):Prop where
 st:StI n gs els pre last wds rls k
 bl:beh.length=els.length
 bt: ∀t,0<t->t<els.length->beh[t]? =some 0
 sl:sgl.length=k
def BgG(n:Nat)(gs:List (List Int))(res:AV)(H':List AObj):Prop:=∃els pre last wds rls beh sgl,res= .tup [.ptr 0 0 13,.t 2 (.int .i64 0)]/\H'=rnO n gs els pre last wds [] rls 0 beh sgl/\RnI n gs els pre last wds [] 0 beh/\rls.length<=12
theorem zOi{n:Nat}{gs:List (List Int)}(h:zIi n gs): ∃res H',BgG n gs res H'/\FnS Tryz.prog 171 [.t 0 (rows gs),.t 2 (.bool true)] [] res H':=by
 have hg1:=h.g1;have hg2:=h.g2;have hn1:=h.n1;have hn2:=h.n2;have h0:0<gs.length:=by omega
 have hl0:gs[0].length=n:=h.zJA h0;have c1:((gs.length:Int)==0)=false:=by
  have: ¬(gs.length:Int)=0:=by omega
  simpa using this
 have c2: ¬6<(gs.length:Int):=by omega
 refine zAp Tryz.func171 rfl (by simp[Tryz.f171]) ?_;rw[show Tryz.f171.ntmps=147 from rfl,show Tryz.f171.results= #[.tmp 4,.tmp 5]from rfl];refine rg0 ?_;refine zD ?_;refine rg1 (an @c1 @c2) ?_;refine cS0 ?_;refine rg0 ?_;refine rg1 (an @h0 @hl0) ?_;refine zD ?_;refine rg0 ?_;refine zG ?_;refine awp_loop (fun k:Nat=>mkS [(1,.t 2 (.bool true)),(6,.ptr 0 0 13),(39,.t 0 (rows gs)),(40,.t 2 (.int .i64 gs.length)),(41,.t 2 (.int .i64 k))]
   [(0,.box 231 [.t 2 (.int .i64 n),.t 2 (.bool true),.own 1 k,.t 2 (.sl 0 []),.t 2 (.sl 0 []),.t 2 (.sl 0 []),.t 2 (.sl 0 []),.t 2 (.sl 0 []),.t 2 (.int .i64 0),.own 2 0,.t 2 (.sl 0 []),.t 2 (.sl 0 []),.t 2 (.sl 0 [])]),
    (1,.row 22 1 2 ((gs.take k).map ints)),(2,.map 9 3 [])] 3 147 [.any,.any]) (fun k=>k<=gs.length) (fun k=>gs.length-k) ?_ ?_
 ·refine⟨0,by omega,?_⟩;exact kw1 [(0,some 12000000),(1,none),(2,some 10000000)] @rows.eq_1
 intro k hk;refine rg0 ?_;refine zD ?_;by_cases hlt:k<gs.length
 ·have hlk:=h.zJA hlt;have hgk:=h.tr gs[k] (by simp);have htk:(gs.take (k+1)).map ints=(gs.take k).map ints++[ints gs[k]]:=by
   rw[Qe hlt,List.map_append];rfl
  refine cK1 @hlt ?_;refine zD ?_;refine zG ?_;refine rg1 @hlt ?_;refine zD ?_;refine rc1 (zEr hgk hn1 (by omega)) @hlk ?_;refine cS0 ?_;refine zAW (by kernel_rfl) (fun K hK=>?_);simp(maxSteps:=2000000)(disch:=omega)
  (repeat' apply And.intro)
  all_goals (try omega)
  refine zV (caps:=[]) (zG6 gs[k] (by omega) (by omega)) [] [] 2 rfl rfl rfl rfl (by kernel_rfl) (by simp) ?_ trivial trivial rfl trivial trivial (by simp) ?_
  ·simp[scal,ints]
  simp(maxSteps:=2000000)(disch:=omega)[ints,scal];and_intros<;>try first|apply hK|(show zAf _ _=true;kernel_rfl)|(show okH _ _ _=true;kernel_rfl)|omega|rfl|simp<;>omega
  refine rr0 ?_;refine⟨k+1,by omega,by omega,?_⟩;exact kw1 [(0,some 0),(1,some 1),(2,some 2)] (an @htk @rows.eq_1)
 ·obtain rfl:k=gs.length:=by omega
  refine cF0 ?_;refine zK ?_;refine zd (σ':=mkS [(1,.t 2 (.bool true)),(6,.ptr 0 0 13)] (rnM n gs [] [] [] [] [] [] 0 [] []) 10 147 [.any,.any]) ?_ ?_
  ·refine zP [(0,some 0),(1,none),(2,none),(3,none),(4,none),(5,none),(6,some 2),(7,none),(8,none),(9,none)] rfl ?_ ?_ ?_ ?_
   all_goals try simp[rnM,rnB,rows,wsT,kents]
   rw[Qm (by simp)]
  refine rg1 (an @rnM.eq_1 @rnB.eq_1) ?_;refine zD ?_;refine rg0 ?_;refine cT0 ?_;have hadd0:=zIx (right:=[]) (rls:=[]) (dn:=0) (sgl:=[]) (gs:=gs) (els:=[]) (pre:=[]) (last:=[]) (wds:=[]) (beh:=[]) (f:=idL n) (-1) (-1) [] (-1) (n:=n) (by omega) (by simp) (zF6 n) rfl (by simp) rfl rfl rfl rfl;refine zAE fun K hK=>?_
  simp(maxSteps:=2000000)(disch:=omega)
  (repeat' apply And.intro)
  all_goals (try omega)
  refine zJ (caps:=[]) (zMR hn1 (by omega)) [] [] 2 rfl rfl rfl rfl (by kernel_rfl) (by simp) ?_ trivial trivial rfl trivial trivial (by simp) ?_
  ·simp[scal]
  simp(maxSteps:=2000000)(disch:=omega)[ints,scal]
  (repeat' apply And.intro)
  all_goals (try omega)
  refine zJ (caps:=[]) (hadd0) [0,1,2,3,4,5,6,7,8,9] [0,9000010,9000011,9000012,9000013,9000014,9000015,9000016,9000017,9000018] 1 rfl rfl rfl rfl (by kernel_rfl) (by simp) ?_ ?_ (by simp) rfl (by simp) ⟨.inr ⟨rfl,0,_,_,_,_,_,rfl,rfl,(by first|rfl|simp[rnO,rnB,zS8]),rfl,(by first|rfl|simp[rnO,rnB,zS8])⟩,.inl ⟨by omega,by omega⟩,.inl ⟨by omega,by omega⟩,.inl ⟨by omega,by omega⟩,.inl ⟨by omega,by omega⟩,.inl ⟨by omega,by omega⟩,.inl ⟨by omega,by omega⟩,.inl ⟨by omega,by omega⟩,.inl ⟨by omega,by omega⟩,.inl ⟨by omega,by omega⟩,trivial⟩ (by simp[rnO,rnB]) ?_
  ·simp[scal,ints,zS8]
  ·simp[scal,rows,rnO,rnB]
  simp(maxSteps:=2000000)(disch:=omega)[ints,rows,scal,rnO,rnB];and_intros<;>try first|apply hK|omega|rfl|simp<;>omega
  refine zD ?_;refine rg0 ?_;refine zG ?_;refine awp_loop (fun y:Nat×List (List Int)×List Int×List Int×List (List Nat)×List T×List Int×List Int=>mkS [(6,.ptr 0 0 13),(9,.t 2 (.int .i64 0)),(85,.t 1 (rows gs)),(86,.t 2 (.int .i64 gs.length)),(87,.t 2 (.int .i64 y.1))]
    (rnM n gs y.2.1 y.2.2.1 y.2.2.2.1 y.2.2.2.2.1 [] y.2.2.2.2.2.1 0 y.2.2.2.2.2.2.1 y.2.2.2.2.2.2.2) 10 147 [.any,.any])
   (fun y=>BgI n gs y.2.1 y.2.2.1 y.2.2.2.1 y.2.2.2.2.1 y.2.2.2.2.2.1 y.2.2.2.2.2.2.1 y.2.2.2.2.2.2.2 y.1) (fun y=>gs.length-y.1) ?_ ?_
  ·refine⟨(0,[idL n],[-1],[-1],[[]],[],[-1],[]),⟨⟨EnL.start,by omega,by simp,by simp,fun i _ h=>by omega⟩,rfl,fun t h1 h2=>by simp at h2;omega,rfl⟩,?_⟩;exact kw1 [(0,some 0),(1,some 9000010),(2,some 9000011),(3,some 9000012),(4,some 9000013),(5,some 9000014),(6,some 9000015),(7,some 9000016),(8,some 9000017),(9,some 9000018)] (an @rnM.eq_1 (an @rnB.eq_1 @rows.eq_1))
  rintro⟨k,els,pre,last,wds,rls,beh,sgl⟩ hI;simp only at hI;have hen:=hI.st.en;have hel:=hI.st.el;have hkl:=hI.st.kl;have hrl:=hI.st.rl;have hle:=hen.le;have hlp:=hen.wd.lp;have hll:=hen.wd.ll;have hbl:=hI.bl;have hsl:=hI.sl;refine rg1 (an @rnM.eq_1 @rnB.eq_1) ?_;refine zD ?_;by_cases hlt:k<gs.length
  ·have hlk:=h.zJA hlt;have hgk:=h.tr gs[k] (by simp);have hall:=zB1 txT (P:=Tryz.prog) (K:=9) zCi els 0;have helt: ∀e∈els,TrN n e:=fun e he=>by
    obtain⟨i,hi,rfl⟩:=Qb he;exact(hen.val i wds[i] els[i] (by simp) (by simp)).2.1
   have hfn:=zMK (f:=gs[k]) (by omega) helt hgk;have htx:=zJg (e:=gs[k]) (fun v hv=>by have:=hgk.2 v hv;omega) (by have:=hgk.1;omega);have henc:Utf8.encode (IntKind.i32.wrap (97+(k:Int)))=zAU [k]:=by
    rw[show IntKind.i32.wrap (97+(k:Int))=97+k by rw[IntKind.wrap_i32];omega];exact zGC (by omega)
   have hz1:zC2 Tryz.prog 3=some (.int .i64 0):=by kernel_rfl
   refine cK1 @hlt ?_;refine zD ?_;refine zG ?_;refine rg1 @hlt ?_;refine rg1 @henc ?_
   cases hix:ixA gs[k] els with
   |some j=>
    have hj:=zB7 hix;have hjl:=zRY hix;have hjw:j<wds.length:=by omega
    have hje:=zBu txT els 0 j _ hj;have hwj:(wsT wds)[j]? =some (.str (zAU wds[j])):=by simp[wsT,hjw]
    refine zo (by kernel_rfl) (fun K hK=>?_);simp(maxSteps:=2000000)(disch:=omega)
    (repeat' apply And.intro)
    all_goals (try omega)
    refine zV (caps:=[]) (htx) [] [] 2 rfl rfl rfl rfl (by kernel_rfl) (by simp) ?_ trivial trivial rfl trivial trivial (by simp) ?_
    ·simp[scal,ints]
    simp(maxSteps:=2000000)(disch:=omega)[scal,hfn,hix,hall,zCi,hz1,hje];and_intros<;>try first|apply hK|(show zAf _ _=true;kernel_rfl)|(show okH _ _ _=true;kernel_rfl)|omega|rfl|simp<;>omega
    refine zD ?_;refine rg0 ?_;refine cT0 ?_;refine zAW (by kernel_rfl) (fun K hK=>?_);simp(maxSteps:=2000000)(disch:=omega)[hwj,hjw];and_intros<;>try first|apply hK|(show zAf _ _=true;kernel_rfl)|(show okH _ _ _=true;kernel_rfl)|omega|rfl|simp<;>omega
    refine zAE fun K hK=>?_
    simp(maxSteps:=2000000)(disch:=omega);and_intros<;>try first|apply hK|omega|rfl|simp<;>omega
    refine zAE fun K hK=>?_
    simp(maxSteps:=2000000)(disch:=omega)[zBh]
    (repeat' first|apply hK|apply And.intro)<;>try first|omega|rfl|(simp<;>omega)
    refine⟨(k+1,els,pre,last,wds,rls++[.str (zAU [k]),.str (zAU wds[j])],beh,sgl++[(j:Int)]),⟨⟨hen,by omega,by simp;omega,by simp;omega,fun i hi hk=>?_⟩,hbl,hI.bt,by simp[hsl]⟩,by simp;omega,?_⟩
    ·by_cases e:i=k
     ·subst e;exact Qc hj
     ·exact hI.st.has i hi (by omega)
    exact kw1 [(0,some 0),(1,some 1),(2,some 2),(3,some 3),(4,some 4),(5,some 5),(6,some 6),(7,some 7),(8,some 8),(9,some 9)] (an @rnM.eq_1 (an @rnB.eq_1 @rows.eq_1))
   |none=>
    have hnot:=zDQ hix;have hE:=hen.add h.tr (p:=0) (x:=k) hen.one.2 hen.one.1 (Qj hlt) (by rw[zAn hgk];exact fun i hi e=>hnot (e▸by simp)) 0 rfl (hI.st.bef h.tr);rw[zAn hgk]at hE;have hadd:=zIx (right:=[]) (rls:=rls) (dn:=0) (sgl:=sgl) (gs:=gs) (0:Int) (k:Int) [k] (0:Int) (by omega) helt hgk hix (by omega) (show pre.length=els.length by omega) (show last.length=els.length by omega) hle.symm hbl;refine zo (by kernel_rfl) (fun K hK=>?_);simp(maxSteps:=2000000)(disch:=omega)
    (repeat' apply And.intro)
    all_goals (try omega)
    refine zV (caps:=[]) (htx) [] [] 2 rfl rfl rfl rfl (by kernel_rfl) (by simp) ?_ trivial trivial rfl trivial trivial (by simp) ?_
    ·simp[scal,ints]
    simp(maxSteps:=2000000)(disch:=omega)[scal,hfn,hix,hall,zCi,hz1];and_intros<;>try first|apply hK|(show zAf _ _=true;kernel_rfl)|(show okH _ _ _=true;kernel_rfl)|omega|rfl|simp<;>omega
    refine zD ?_;refine rg0 ?_;refine cF0 ?_;refine zAE fun K hK=>?_
    simp(maxSteps:=2000000)(disch:=omega)
    (repeat' apply And.intro)
    all_goals (try omega)
    refine zJ (caps:=[]) (zG6 gs[k] (by omega) (by omega)) [] [] 2 rfl rfl rfl rfl (by kernel_rfl) (by simp) ?_ trivial trivial rfl trivial trivial (by simp) ?_
    ·simp[scal,ints]
    simp(maxSteps:=2000000)(disch:=omega)[ints,scal]
    (repeat' apply And.intro)
    all_goals (try omega)
    refine zJ (caps:=[]) (hadd) [0,1,2,3,4,5,6,7,8,9] [0,31000010,31000011,31000012,31000013,31000014,31000015,31000016,31000017,31000018] 1 rfl rfl rfl rfl (by kernel_rfl) (by simp) ?_ ?_ (by simp) rfl (by simp) ⟨.inr ⟨rfl,0,_,_,_,_,_,rfl,rfl,(by first|rfl|simp[rnO,rnB]),rfl,(by first|rfl|simp[rnO,rnB])⟩,.inl ⟨by omega,by omega⟩,.inl ⟨by omega,by omega⟩,.inl ⟨by omega,by omega⟩,.inl ⟨by omega,by omega⟩,.inl ⟨by omega,by omega⟩,.inl ⟨by omega,by omega⟩,.inl ⟨by omega,by omega⟩,.inl ⟨by omega,by omega⟩,.inl ⟨by omega,by omega⟩,trivial⟩ (by simp[rnO,rnB]) ?_
    ·simp[scal,ints]
    ·simp[scal,rows,rnO,rnB]
    simp(maxSteps:=2000000)(disch:=omega)[ints,rows,scal,rnO,rnB];and_intros<;>try first|apply hK|omega|rfl|simp<;>omega
    refine rr0 ?_;refine rr0 ?_;refine⟨(k+1,els++[gs[k]],pre++[0],last++[(k:Int)],wds++[[k]],rls,beh++[0],sgl++[(els.length:Int)]),⟨⟨hE,by omega,by simp;omega,by simp;omega,fun i hi hk=>?_⟩,by simp[hbl],fun t h1 h2=>?_,by simp[hsl]⟩,by simp;omega,?_⟩
    ·by_cases e:i=k
     ·subst e;simp
     ·exact List.mem_append_left _ (hI.st.has i hi (by omega))
    ·by_cases ht:t<els.length
     ·rw[Qw (by omega)];exact hI.bt t h1 ht
     ·simp at h2;have:t=beh.length:=by omega
      subst this;simp
    exact kw1 [(0,some 0),(1,some 31000010),(2,some 31000011),(3,some 31000012),(4,some 31000013),(5,some 31000014),(6,some 31000015),(7,some 31000016),(8,some 31000017),(9,some 31000018)] (an @rnM.eq_1 (an @rnB.eq_1 @rows.eq_1))
  ·obtain rfl:k=gs.length:=by omega
   refine cF0 ?_;refine zK ?_;refine rg0 ?_;refine zI ?_;refine⟨⟨_,_,⟨els,pre,last,wds,rls,beh,sgl,rfl,rfl,⟨⟨hen,by omega,by omega,rfl,fun i r hr=>by simp at hr,fun g hg=>?_⟩,hbl,fun t h1 h2=>⟨0,by simpa using hI.bt t h1 h2,h1⟩⟩,by omega⟩,?_⟩,by simp⟩
   ·obtain⟨i,hi,rfl⟩:=Qb hg;exact hI.st.has i hi hi
   refine zBT ?_;refine⟨.inr rfl,_,[(0,some 0),(1,some 1),(2,some 2),(3,some 3),(4,some 4),(5,some 5),(6,some 6),(7,some 7),(8,some 8),(9,some 9)],(by first|(simp;rfl)|rfl),?_,?_,?_,?_⟩
   all_goals try simp +contextual (disch:=omega)[zc,zf,zAA,zBS,rows,rnO,rnB]
def BuE(n:Nat)(gs:List (List Int))(res:AV):Prop:=res= .tup [.agg [.t 2 (.int .i64 0),.t 2 (.bool false),.t 2 (.sl 0 []),.t 2 (.sl 0 []),.t 2 (.sl 0 []),.t 2 (.sl 0 []),.t 2 (.sl 0 []),.t 2 (.sl 0 []),.t 2 (.int .i64 0)],.t 2 (.int .i64 3)]/\Big n gs∨
 ∃els pre last wds right rls,res= .tup [enT 1 n gs els pre last (rows right) rls els.length,.t 2 (.int .i64 0)]/\PrI n gs els pre last wds right els.length
theorem zOa{n:Nat}{gs:List (List Int)}(h:zIi n gs): ∃res,BuE n gs res/\FnS Tryz.prog 133 [.t 0 (rows gs),.t 2 (.bool true)] [] res []:=by
 obtain⟨_,_,⟨els0,pre0,last0,wds0,rls0,beh0,sgl,rfl,rfl,hI0,hr0⟩,hbeg⟩:=zOi h;refine zm Tryz.func133 rfl (by simp[Tryz.f133]) ?_;rw[show Tryz.f133.ntmps=32 from rfl,show Tryz.f133.results= #[.cell 4 141,.tmp 5]from rfl];refine rg0 ?_;refine zO fun K hK=>?_
 simp(maxSteps:=2000000)(disch:=omega)
 (repeat' apply And.intro)
 all_goals (try omega)
 refine zJ (caps:=[]) (hbeg) [] [4000000,4000001,4000002,4000003,4000004,4000005,4000006,4000007,4000008,4000009] 1 rfl rfl rfl rfl (by kernel_rfl) (by simp) ?_ ?_ (by simp) rfl (by simp) ⟨.inl ⟨by omega,by omega⟩,.inl ⟨by omega,by omega⟩,.inl ⟨by omega,by omega⟩,.inl ⟨by omega,by omega⟩,.inl ⟨by omega,by omega⟩,.inl ⟨by omega,by omega⟩,.inl ⟨by omega,by omega⟩,.inl ⟨by omega,by omega⟩,.inl ⟨by omega,by omega⟩,.inl ⟨by omega,by omega⟩,trivial⟩ (by simp[rnO,rnB]) ?_
 ·simp[scal,rows]
 ·trivial
 simp(maxSteps:=2000000)(disch:=omega)[rows,scal,rnO,rnB];and_intros<;>try first|apply hK|omega|rfl|simp<;>omega
 refine zD ?_;refine rg0 ?_;refine cS0 ?_;refine zD ?_;refine zG ?_;refine awp_loop (fun y:Nat×List (List Int)×List Int×List Int×List (List Nat)×List (List Int)×List T×List Int=>mkS [(4,.ptr 10 0 9),(6,.ptr 0 0 13)]
   (rnM n gs y.2.1 y.2.2.1 y.2.2.2.1 y.2.2.2.2.1 y.2.2.2.2.2.1 y.2.2.2.2.2.2.1 y.1 y.2.2.2.2.2.2.2 sgl++[(10,.box 141 [.any,.any,.any,.any,.any,.any,.any,.any,.any])]) 11 32 [.any,.any])
  (fun y=>RnI n gs y.2.1 y.2.2.1 y.2.2.2.1 y.2.2.2.2.1 y.2.2.2.2.2.1 y.1 y.2.2.2.2.2.2.2/\y.2.2.2.2.2.2.1.length<=12+12*y.1) (fun y=>2001-y.1) ?_ ?_
 ·refine⟨(0,els0,pre0,last0,wds0,[],rls0,beh0),⟨hI0,by simp;omega⟩,?_⟩;exact kw1 [(0,some 4000000),(1,some 4000001),(2,some 4000002),(3,some 4000003),(4,some 4000004),(5,some 4000005),(6,some 4000006),(7,some 4000007),(8,some 4000008),(9,some 4000009),(10,some 0)] (an @rnM.eq_1 (an @rnB.eq_1 @rows.eq_1))
 clear hI0 hr0 hbeg;rintro⟨d,els,pre,last,wds,right,rls,beh⟩ ⟨hI,hrl⟩;simp only at hI hrl;have hel:=hI.pr.el;have hdl:=hI.pr.dl;have hfi:=zHw (n:=n) (gs:=gs) (els:=els) (pre:=pre) (last:=last) (wds:=wds) (right:=right) (rls:=rls) (dn:=d) (beh:=beh) (sgl:=sgl);refine zD ?_;by_cases hd:d=els.length
 ·subst hd;rw[show decide (els.length=els.length)=true by simp]at hfi;refine zO fun K hK=>?_
  simp(maxSteps:=2000000)(disch:=omega)[rows,rnM,rnB]
  (repeat' apply And.intro)
  all_goals (try omega)
  refine zJ (caps:=[]) (hfi) [0,1,2,3,4,5,6,7,8,9] [0,1000011,1000012,1000013,1000014,1000015,1000016,1000017,1000018,1000019] 1 rfl rfl rfl rfl (by kernel_rfl) (by simp) ?_ ?_ (by simp) rfl (by simp) ⟨.inr ⟨rfl,0,_,_,_,_,_,rfl,rfl,(by first|rfl|simp[rnO,rnB]),rfl,(by first|rfl|simp[rnO,rnB])⟩,.inl ⟨by omega,by omega⟩,.inl ⟨by omega,by omega⟩,.inl ⟨by omega,by omega⟩,.inl ⟨by omega,by omega⟩,.inl ⟨by omega,by omega⟩,.inl ⟨by omega,by omega⟩,.inl ⟨by omega,by omega⟩,.inl ⟨by omega,by omega⟩,.inl ⟨by omega,by omega⟩,trivial⟩ (by simp[rnO,rnB]) ?_
  ·simp
  ·simp[scal,rows,rnO,rnB]
  simp(maxSteps:=2000000)(disch:=omega)[rows,scal,rnO,rnB]
  (repeat' first|apply hK|apply And.intro)<;>try first|omega|rfl|(simp<;>omega)
  refine cF0 ?_;refine zK ?_;refine rg0 ?_;refine zI ?_;refine⟨_,.inr ⟨els,pre,last,wds,right,rls,rfl,hI.pr⟩,?_⟩;refine⟨⟨.inr rfl,_,[],(by simp;rfl),trivial,trivial,by simp,?_⟩,by simp[rows]⟩;simp[ints,rows,enT,rows]
 ·have hd2:d<els.length:=by omega
  rw[show decide (d=els.length)=false by simp[hd]]at hfi;obtain⟨res,H',⟨els',pre',last',wds',right',rls',d',beh',rfl,hr⟩,hpc⟩:=zJa sgl h hI hd2 hrl;refine zO fun K hK=>?_
  simp(maxSteps:=2000000)(disch:=omega)[rows,rnM,rnB]
  (repeat' apply And.intro)
  all_goals (try omega)
  refine zJ (caps:=[]) (hfi) [0,1,2,3,4,5,6,7,8,9] [0,1000011,1000012,1000013,1000014,1000015,1000016,1000017,1000018,1000019] 1 rfl rfl rfl rfl (by kernel_rfl) (by simp) ?_ ?_ (by simp) rfl (by simp) ⟨.inr ⟨rfl,0,_,_,_,_,_,rfl,rfl,(by first|rfl|simp[rnO,rnB]),rfl,(by first|rfl|simp[rnO,rnB])⟩,.inl ⟨by omega,by omega⟩,.inl ⟨by omega,by omega⟩,.inl ⟨by omega,by omega⟩,.inl ⟨by omega,by omega⟩,.inl ⟨by omega,by omega⟩,.inl ⟨by omega,by omega⟩,.inl ⟨by omega,by omega⟩,.inl ⟨by omega,by omega⟩,.inl ⟨by omega,by omega⟩,trivial⟩ (by simp[rnO,rnB]) ?_
  ·simp
  ·simp[scal,rows,rnO,rnB]
  simp(maxSteps:=2000000)(disch:=omega)[rows,scal,rnO,rnB]
  (repeat' first|apply hK|apply And.intro)<;>try first|omega|rfl|(simp<;>omega)
  refine cK0 ?_;refine zG ?_;rcases hr with⟨rfl,hbig⟩|⟨rfl,rfl,hI',hrl'⟩
  ·refine zO fun K hK=>?_
   simp(maxSteps:=2000000)(disch:=omega)
   (repeat' apply And.intro)
   all_goals (try omega)
   refine zJ (caps:=[]) (hpc) [0,1000011,1000012,1000013,1000014,1000015,1000016,1000017,1000018,1000019] [0,4000011,4000012,4000013,4000014,4000015,4000016,4000017,4000018,4000019] 1 rfl rfl rfl rfl (by kernel_rfl) (by simp) ?_ ?_ (by simp) rfl (by simp) ⟨.inr ⟨rfl,0,_,_,_,_,_,rfl,rfl,(by first|rfl|simp[rnO,rnB]),rfl,(by first|rfl|simp[rnO,rnB])⟩,.inl ⟨by omega,by omega⟩,.inl ⟨by omega,by omega⟩,.inl ⟨by omega,by omega⟩,.inl ⟨by omega,by omega⟩,.inl ⟨by omega,by omega⟩,.inl ⟨by omega,by omega⟩,.inl ⟨by omega,by omega⟩,.inl ⟨by omega,by omega⟩,.inl ⟨by omega,by omega⟩,trivial⟩ (by simp[rnO,rnB]) ?_
   ·simp
   ·simp[scal,rows,rnO,rnB]
   simp(maxSteps:=2000000)(disch:=omega)[rows,scal,rnO,rnB]
   (repeat' first|apply hK|apply And.intro)<;>try first|omega|rfl|(simp<;>omega)
   refine rg0 ?_;refine cT0 ?_;refine rg0 ?_;refine zI ?_;refine⟨_,.inl ⟨rfl,hbig⟩,?_⟩;refine⟨⟨.inr rfl,_,[],(by simp;rfl),trivial,trivial,by simp,?_⟩,by simp⟩;simp
  ·refine zO fun K hK=>?_
   simp(maxSteps:=2000000)(disch:=omega)
   (repeat' apply And.intro)
   all_goals (try omega)
   refine zJ (caps:=[]) (hpc) [0,1000011,1000012,1000013,1000014,1000015,1000016,1000017,1000018,1000019] [0,4000011,4000012,4000013,4000014,4000015,4000016,4000017,4000018,4000019] 1 rfl rfl rfl rfl (by kernel_rfl) (by simp) ?_ ?_ (by simp) rfl (by simp) ⟨.inr ⟨rfl,0,_,_,_,_,_,rfl,rfl,(by first|rfl|simp[rnO,rnB]),rfl,(by first|rfl|simp[rnO,rnB])⟩,.inl ⟨by omega,by omega⟩,.inl ⟨by omega,by omega⟩,.inl ⟨by omega,by omega⟩,.inl ⟨by omega,by omega⟩,.inl ⟨by omega,by omega⟩,.inl ⟨by omega,by omega⟩,.inl ⟨by omega,by omega⟩,.inl ⟨by omega,by omega⟩,.inl ⟨by omega,by omega⟩,trivial⟩ (by simp[rnO,rnB]) ?_
   ·simp
   ·simp[scal,rows,rnO,rnB]
   simp(maxSteps:=2000000)(disch:=omega)[rows,scal,rnO,rnB]
   (repeat' first|apply hK|apply And.intro)<;>try first|omega|rfl|(simp<;>omega)
   refine rg0 ?_;refine cF0 ?_;refine zY ?_;refine⟨(d+1,els',pre',last',wds',right',rls',beh'),⟨hI',hrl'⟩,by have:=hI'.pr.el;have:=hI'.pr.dl;simp;omega,?_⟩;exact kw1 [(0,some 0),(1,some 4000011),(2,some 4000012),(3,some 4000013),(4,some 4000014),(5,some 4000015),(6,some 4000016),(7,some 4000017),(8,some 4000018),(9,some 4000019),(10,some 10)] (an @rnM.eq_1 (an @rnB.eq_1 @rows.eq_1))
