/- Lemmas for the law unambiguousClass. No conditions. -/
import Derived.Test.YtgmcbpjplcjmdaaGreatZuap
set_option linter.all false
namespace Go.Proofs.YtgmcbpjplcjmdaaGreat.M
open Go.RowKit
set_option maxRecDepth 100000
set_option maxHeartbeats 32000000

def rwN(n:Nat)(c:Nat->Nat):List T:=tab n fun i=>.int .i64 (c i:Int)
@[simp] theorem zUV(n:Nat)(c:Nat->Nat):(rwN n c).length=n:=by simp[rwN]
theorem zHq{n:Nat}{c:Nat->Nat}{i:Nat}(h:i<n):(rwN n c)[i]? =some (.int .i64 (c i:Int)):=zO _ h
theorem zGu(n:Nat)(c:Nat->Nat)(k x:Nat):(rwN n c).set k (.int .i64 (x:Int))=rwN n (fun i=>if i=k then x else c i):=by
 rw[rwN,zb];refine zK fun i hi=>?_
 by_cases e:i=k<;>simp[e]
theorem zBN{n:Nat}{c d:Nat->Nat}(h: ∀i,i<n->c i=d i):rwN n c=rwN n d:=zK fun i hi=>by rw[h i hi]
theorem zGD(n:Nat):List.replicate n (T.int .i64 0)=rwN n fun _=>0:=by
 unfold rwN tab;rw[List.map_const',List.length_range];rfl
@[simp] theorem zUl(p n:Nat)(c:Nat->Nat):lvs p (rwN n c)=2:=by
 unfold lvs;rw[if_pos];simp[rwN,tab,scal]
def ksT(k:List Int):T:=.sl 99 (k.map (.int .i64))
def ksC(k:List Int):List AV:=k.map fun x=>.t 2 (.int .i64 x)
@[simp] theorem zUe(k:List Int):(ksC k).length=k.length:=by simp[ksC]
theorem zOE: ∀(k:List Int),keyL (ksC k)=some (k.map (.int .i64))
 |[]=>rfl
 |x::r=>by
  have:=zOE r;simp only[ksC,List.map_cons,keyL]at this ⊢;rw[this];rfl
theorem zRS(k:List Int)(i:Nat)(x:Int):(ksC k).set i (.t 2 (.int .i64 x))=ksC (k.set i x):=by
 simp[ksC,List.map_set]
@[simp] theorem zOv(H:Nat->Option AObj)(m:Nat->Option Nat)(un:Nat->Prop)(nx:Nat): ∀(k:List Int),wkPs H m un nx (ksC k) (ksC k)
 |[]=>by simp[ksC]
 |x::r=>by
  have:=zOv H m un nx r;simp only[ksC,List.map_cons,wkPs,wkP]at this ⊢;exact⟨by simp,this⟩
theorem zTN(a b:List Int):kEq (ksT a) (ksT b)=decide (a=b):=by
 simp only[ksT,kEq];exact zCm a b
theorem zQk{k:List Int}(h:k.length=7):kOK Tryz.prog 269 (ksT k)=true:=by
 have h1:kagB Tryz.prog 269=some 7:=by kernel_rfl
 have h2:(k.map (T.int .i64)).all isI64=true:=by
  rw[List.all_map,List.all_eq_true];intro x _;rfl
 simp[kOK,ksT,h1,h,isI64]
theorem zF3{α:Type}(f:α->T){P:Program}{K:TypeId}: ∀(cl:List α) (j:Nat),(∀a∈cl,kOK P K (f a)=true)->((kents f j cl).all fun e=>kOK P K e.1)=true
 |[],j,_=>rfl
 |a::r,j,h=>by
  simp only[kents,List.all_cons,h a (by simp),zF3 f r (j+1) (fun b hb=>h b (by simp[hb])),Bool.and_self]
@[simp] theorem zT7(L:Nat)(nxt:List (List Int))(p:Nat->Nat)(q:Nat):(zFO L nxt p q).length=7:=by simp[zFO]
theorem zPe{x:Nat}(hx:x<6)(nxt:List (List Int))(p:Nat->Nat)(q:Nat):(zFO x nxt p q).set (1+x) (p (zR nxt q x):Int)=zFO (x+1) nxt p q:=by
 rw[zFO,zb];refine zK fun j hj=>?_
 by_cases e:j=1+x
 ·subst e;rw[if_pos rfl,if_neg (by omega),if_pos (by omega),show 1+x-1=x by omega]
 ·rw[if_neg e];by_cases e0:j=0
  ·rw[if_pos e0,if_pos e0]
  ·rw[if_neg e0,if_neg e0];by_cases e2:j<=x
   ·rw[if_pos e2,if_pos (by omega)]
   ·rw[if_neg e2,if_neg (by omega)]
theorem zNg(nxt:List (List Int))(p:Nat->Nat)(q:Nat):ksC (zFO 0 nxt p q)=[.t 2 (.int .i64 (p q:Nat)),.t 2 (.int .i64 0),.t 2 (.int .i64 0),.t 2 (.int .i64 0),.t 2 (.int .i64 0),.t 2 (.int .i64 0),.t 2 (.int .i64 0)]:=rfl
theorem NuA.src{α:Type}{f:Nat->α}{cl:List α}{r:Nat->Nat}{k:Nat}(h:NuA f cl r k){v:α}(hv:v∈cl): ∃i,i<k/\v=f i:=by
 obtain⟨a,ha,e⟩:=Qb hv;obtain⟨x,h1,h2⟩:=zKq (p:=r) (c:=a) (k:=k) (by rw[h.cnt];exact ha);have h3:=h.at_ x h1;rw[h2,Qj ha]at h3;injection h3 with h3;exact⟨x,h1,by rw[←e,h3]⟩
def zPO(bs:List Bool)(k:Nat):Nat:=if k=0 then 1 else cv (zBo bs) k
theorem zSH{bs:List Bool}{k:Nat}(h:zBo bs k=0):zPO bs (k+1)=zPO bs k:=by
 unfold zPO;rw[if_neg (by omega)];show(if zBo bs k=cv (zBo bs) k then cv (zBo bs) k+1 else cv (zBo bs) k)=_;rw[h]
 cases k with
 |zero=>simp[cv]
 |succ k=>
  have:=(zGm bs k).1;rw[if_neg (by omega),if_neg (by omega)]
theorem zQ8{bs:List Bool}{k:Nat}(h:zBo bs k=1):zPO bs (k+1)=2:=by
 unfold zPO;rw[if_neg (by omega)];show(if zBo bs k=cv (zBo bs) k then cv (zBo bs) k+1 else cv (zBo bs) k)=_;rw[h]
 cases k with
 |zero=>simp[zBo]at h
 |succ k=>
  have:=zGm bs k;split<;>omega
theorem zHo{L n s:Nat}{bs:List Bool}{nxt:List (List Int)}(h:DfL L n s bs nxt)(hL:1<=L)(hL2:L<=6)(hn:n<=512): ∃res,(∃r,ClG L n bs nxt r/\res= .t 2 (.sl 1 (rwN n r)))/\FnS Tryz.prog 180 [dfT 0 L s bs nxt] [] res []:=by
 have hbl:=h.bl;have hnl:=h.nl;have hn1:=h.n1;have hz1:zCH Tryz.prog 3=some (.int .i64 0):=by kernel_rfl
 have h0b:0<bs.length:=by omega
 refine zh Tryz.func180 rfl (by simp[Tryz.f180]) ?_;rw[show Tryz.f180.ntmps=99 from rfl,show Tryz.f180.results= #[.tmp 2]from rfl];refine rg1 (an @dfT.eq_1 @zG.eq_1) ?_;refine zA ?_;refine rc1 (zBh h hL hL2 hn) (an @dfT.eq_1 @zG.eq_1) ?_;refine cS0 ?_;refine rg1 @hbl ?_;refine zA ?_;refine rg1 @hbl ?_;refine zB ?_;refine awp_loop (fun y:Nat=>mkS [(1,.ptr 0 0 4),(3,.own 1 n),(4,.t 2 (.int .i64 (zPO bs y:Nat))),(24,.t 0 (zG bs)),(25,.t 2 (.int .i64 n)),(26,.t 2 (.int .i64 y))] [(0,dfO L s bs nxt),(1,.row 3 1 2 (rwN n fun i=>if i<y then zBo bs i else 0))] 2 99 [.any]) (fun y=>y<=n) (fun y=>n-y) ?_ ?_
 ·refine⟨0,by omega,?_⟩;exact kw1 [(0,some 0),(1,some 8000000)] (an @zGD (an @dfO.eq_1 (an @rows.eq_1 (an @zG.eq_1 @zPO.eq_1))))
 intro k hk;refine rg0 ?_;refine zA ?_;by_cases hkn:k<n
 ·refine cT1 @hkn ?_;have hkb:k<bs.length:=by omega
  refine zQ ?_;refine zA ?_;refine zB ?_;refine rg1 (an @zG.eq_1 @hkb) ?_;refine rg1 (an @dfO.eq_1 (an @zG.eq_1 @h0b)) ?_;by_cases e:bs[k]=bs[0]
  ·have hf:zBo bs k=0:=by simp[zBo,hkb,h0b,e]
   have hcn:=zSH hf;have hrw:rwN n (fun i=>if i<k then zBo bs i else 0)=rwN n (fun i=>if i<k+1 then zBo bs i else 0):=zBN fun i hi=>by
    by_cases e2:i=k
    ·subst e2;rw[if_neg (by omega),if_pos (by omega),hf]
    ·by_cases e3:i<k
     ·rw[if_pos e3,if_pos (by omega)]
     ·rw[if_neg e3,if_neg (by omega)]
   refine cY1 @e ?_;refine rr0 ?_;refine⟨k+1,by omega,by omega,?_⟩;exact kw1 [(0,some 0),(1,some 1)] (an @hrw (an @dfO.eq_1 (an @rows.eq_1 (an @zG.eq_1 @hcn))))
  ·have hf:zBo bs k=1:=by simp[zBo,hkb,h0b,e]
   have hcn:=zQ8 hf;have hst:(rwN n (fun i=>if i<k then zBo bs i else 0)).set k (.int .i64 1)=rwN n (fun i=>if i=k then 1 else if i<k then zBo bs i else 0):=zGu n _ k 1;have hrw:rwN n (fun i=>if i=k then 1 else if i<k then zBo bs i else 0)=rwN n (fun i=>if i<k+1 then zBo bs i else 0):=zBN fun i hi=>by
    by_cases e2:i=k
    ·subst e2;rw[if_pos rfl,if_pos (by omega),hf]
    ·rw[if_neg e2];by_cases e3:i<k
     ·rw[if_pos e3,if_pos (by omega)]
     ·rw[if_neg e3,if_neg (by omega)]
   refine cT1 @e ?_;refine rr0 ?_;refine rr0 ?_;refine⟨k+1,by omega,by omega,?_⟩;exact kw1 [(0,some 0),(1,some 1)] (an @hst (an @hrw (an @dfO.eq_1 (an @rows.eq_1 (an @zG.eq_1 @hcn)))))
 ·have hke:n=k:=by omega
  subst k;have hM0:=zRo L n bs nxt hbl;have hrw:rwN n (fun i=>if i<n then zBo bs i else 0)=rwN n (zBo bs):=zBN fun i hi=>by rw[if_pos hi]
  have hcn:zPO bs n=cv (zBo bs) n:=by unfold zPO;rw[if_neg (by omega)]
  rw[hrw,hcn];generalize zBo bs=p0 at hM0;clear hrw hcn;refine cF0 ?_;refine zE ?_;refine zB ?_;refine awp_loop (fun p:Nat->Nat=>mkS [(1,.ptr 0 0 4),(3,.own 1 n),(4,.t 2 (.int .i64 (cv p n:Nat)))] [(0,dfO L s bs nxt),(1,.row 3 1 2 (rwN n p))] 2 99 [.any]) (fun p=>MnI L n bs nxt p) (fun p=>n-cv p n) ?_ ?_
  ·refine⟨p0,hM0,?_⟩;exact kw1 [(0,some 0),(1,some 1)] (an @dfO.eq_1 @zG.eq_1)
  clear hM0;intro p hp;have hcvn:=zEY p n;refine zB ?_;refine rg0 ?_;refine rg0 ?_;refine zA ?_;refine rg1 (an @dfO.eq_1 @hnl) ?_;refine zB ?_;refine awp_loop (fun y:Nat×List (List Int)×(Nat->Nat)=>mkS [(1,.ptr 0 0 4),(3,.own 1 n),(4,.t 2 (.int .i64 (cv p n:Nat))),(7,.own 2 0),(8,.own 3 n),(46,.t 0 (rows nxt)),(47,.t 2 (.int .i64 n)),(48,.t 2 (.int .i64 y.1))] [(0,dfO L s bs nxt),(1,.row 3 1 2 (rwN n p)),(2,.map 269 3 (kents ksT 0 y.2.1)),(3,.row 3 1 2 (rwN n fun i=>if i<y.1 then y.2.2 i else 0))] 4 99 [.any]) (fun y=>NuA (zFO L nxt p) y.2.1 y.2.2 y.1/\y.1<=n) (fun y=>n-y.1) ?_ ?_
  ·refine⟨(0,[],fun _=>0),⟨NuA.start,by simp⟩,?_⟩;refine zH [(0,some 0),(1,some 1),(2,some 2),(3,some 4000002)] rfl ?_ ?_ ?_ ?_
   all_goals try simp[zGD,dfO,rows,zG,kents]
  rintro⟨q,cl,r⟩ ⟨hN,hq⟩;simp only at hN hq;have hcl:=hN.cnt;have hcvq:=zEY r q;refine rg0 ?_;refine zA ?_;by_cases hqn:q<n
  ·refine cT1 @hqn ?_;have hqx:q<nxt.length:=by omega
   obtain⟨hrl,-⟩:=h.row nxt[q] (by simp);have hpq:=hp.ok q hqn;have hcq:=zEY p q;have hg:=zHq (c:=p) hqn;refine zQ ?_;refine zA ?_;refine zB ?_;refine rg1 @hqx ?_;refine rg1 @hg ?_;refine zA ?_;refine rg1 @hrl ?_;refine zB ?_;refine awp_loop (fun x:Nat=>mkS [(1,.ptr 0 0 4),(3,.own 1 n),(4,.t 2 (.int .i64 (cv p n:Nat))),(7,.own 2 0),(8,.own 3 n),(9,.t 2 (.int .i64 q)),(11,.ptr 4 0 7),(46,.t 0 (rows nxt)),(47,.t 2 (.int .i64 n)),(48,.t 2 (.int .i64 q)),(58,.t 0 (ints nxt[q])),(59,.t 2 (.int .i64 L)),(60,.t 2 (.int .i64 x))] [(0,dfO L s bs nxt),(1,.row 3 1 2 (rwN n p)),(2,.map 269 3 (kents ksT 0 cl)),(3,.row 3 1 2 (rwN n fun i=>if i<q then r i else 0)),(4,.box 269 (ksC (zFO x nxt p q)))] 5 99 [.any]) (fun x=>x<=L) (fun x=>L-x) ?_ ?_
   ·refine⟨0,by omega,?_⟩;rw[zNg];exact kw1 [(0,some 0),(1,some 1),(2,some 2),(3,some 3),(4,some 11000004)] (an @dfO.eq_1 (an @rows.eq_1 (an @zG.eq_1 @hrl)))
   intro x hx;refine rg0 ?_;refine zA ?_;by_cases hxl:x<L
   ·refine cT1 @hxl ?_;obtain⟨s1,s2,s3,s4⟩:=h.rt.step hqn hxl;have hg2:=zHq (c:=p) s1;have hks:=zPe (x:=x) (by omega) nxt p q;have hx6:x<6:=by omega
    have hxt:(1+(x:Int)).toNat=1+x:=by omega
    refine zQ ?_;refine zA ?_;refine zB ?_;refine rg1 (an @s3 @s4) ?_;refine rr1 (an @hg2 @hxt) ?_;refine rr0 ?_;refine⟨x+1,by omega,by omega,?_⟩;exact kw1 [(0,some 0),(1,some 1),(2,some 2),(3,some 3),(4,some 4)] (an @dfO.eq_1 (an @rows.eq_1 (an @zG.eq_1 (an @zRS (an @hxt @hks)))))
   ·obtain rfl:x=L:=by omega
    obtain⟨ky,hky⟩: ∃ky,ky=zFO x nxt p q:=⟨_,rfl⟩;have hk7:ky.length=7:=by rw[hky];simp
    have hkc:=zOE ky;have htk:List.take 7 (ksC ky)=ksC ky:=Qn (by simp[hk7]);have hlen7: ∀k∈cl,k.length=7:=fun k hk=>by
     obtain⟨i,-,e⟩:=hN.src hk;rw[e];simp
    have hfn:fndT (.sl 99 (ky.map (.int .i64))) (kents ksT 0 cl)=ixA ky cl:=zCv (f:=ksT) cl 0 (fun y _=>zTN ky y);have hall:=zF3 ksT (P:=Tryz.prog) (K:=269) cl 0 (fun a ha=>zQk (hlen7 a ha));have hkk:kOK Tryz.prog 269 (.sl 99 (ky.map (.int .i64)))=true:=zQk hk7;rw[←hky];refine cF0 ?_;refine zE ?_
    cases hxx:ixA ky cl with
    |some j=>
     have hj:=zC9 hxx;have hje:=zCg ksT cl 0 j _ hj;have hN2:=hN.hit (j:=j) (by rw[hj,hky]);have hst:=zGu n (fun i=>if i<q then r i else 0) q j;have hrw:rwN n (fun i=>if i=q then j else if i<q then r i else 0)=rwN n (fun i=>if i<q+1 then(if i=q then j else r i)else 0):=zBN fun i hi=>by
      by_cases e2:i=q
      ·subst e2;rw[if_pos rfl,if_pos (by omega),if_pos rfl]
      ·rw[if_neg e2];by_cases e3:i<q
       ·rw[if_pos e3,if_pos (by omega),if_neg e2]
       ·rw[if_neg e3,if_neg (by omega)]
     clear hky;refine rg1 (an @hkc (an @htk (an @hk7 (an @hfn (an @hxx (an @hall (an @hkk (an @hz1 @hje)))))))) ?_;refine zA ?_;refine rg0 ?_;refine cS0 ?_;refine rr0 ?_;refine rr0 ?_;refine⟨(q+1,cl,fun i=>if i=q then j else r i),⟨hN2,by simp only;omega⟩,by simp only;omega,?_⟩;exact kw1 [(0,some 0),(1,some 1),(2,some 2),(3,some 3)] (an @dfO.eq_1 (an @rows.eq_1 (an @zG.eq_1 (an @hst @hrw))))
    |none=>
     have hnm:=zDd hxx;have hN2:=hN.zUw (by rw[←hky];exact hnm);have hst:=zGu n (fun i=>if i<q then r i else 0) q cl.length;have hrw:rwN n (fun i=>if i=q then cl.length else if i<q then r i else 0)=rwN n (fun i=>if i<q+1 then(if i=q then cl.length else r i)else 0):=zBN fun i hi=>by
      by_cases e2:i=q
      ·subst e2;rw[if_pos rfl,if_pos (by omega),if_pos rfl]
      ·rw[if_neg e2];by_cases e3:i<q
       ·rw[if_pos e3,if_pos (by omega),if_neg e2]
       ·rw[if_neg e3,if_neg (by omega)]
     rw[←hky]at hN2;clear hky;refine rg1 (an @hkc (an @htk (an @hk7 (an @hfn (an @hxx (an @hall (an @hkk @hz1))))))) ?_;refine zA ?_;refine rg0 ?_;refine cT0 ?_;refine rg1 @zCO ?_;refine rr1 (an @hkc (an @htk (an @hk7 (an @hfn (an @hxx (an @hall @hkk)))))) ?_;refine rr0 ?_;refine rr0 ?_;refine⟨(q+1,cl++[ky],fun i=>if i=q then cl.length else r i),⟨hN2,by simp only;omega⟩,by simp only;omega,?_⟩;exact kw1 [(0,some 0),(1,some 1),(2,some 2),(3,some 3)] (an @dfO.eq_1 (an @rows.eq_1 (an @zG.eq_1 (an @hst (an @hrw (an @zBt @ksT.eq_1))))))
  ·have hqe:n=q:=by omega
   subst q;have hrw:rwN n (fun i=>if i<n then r i else 0)=rwN n r:=zBN fun i hi=>by rw[if_pos hi]
   rw[hrw];refine cF0 ?_;refine zE ?_;refine zA ?_;by_cases he:cl.length=cv p n
   ·have hC:=hN.end_ h hL2 hp he;refine rg1 (an @zCO @he) ?_;refine cT0 ?_;refine rg0 ?_;refine zC ?_;refine⟨_,⟨r,hC,rfl⟩,?_⟩;exact rt1 @dfT.eq_1
   ·have hei: ¬(cl.length:Int)=(cv p n:Int):=by omega
    have hmore:=hN.more h hL2 hp he;refine rg1 (an @zCO (an @hei @he)) ?_;refine cS0 ?_;refine rr1 @zCO ?_;refine⟨r,(hN.zSK h hL2 hp).1,by omega,?_⟩;exact kw1 [(0,some 0),(1,some 3)] (an @dfO.eq_1 (an @rows.eq_1 (an @zG.eq_1 @hcl)))
theorem zSU(n:Nat)(g:Nat->Nat):rwN n g=(tab n fun x=>(g x:Int)).map (.int .i64):=by
 rw[zT];rfl
theorem zHA{L n s:Nat}{bs:List Bool}{nxt:List (List Int)}(h:DfL L n s bs nxt)(hL:1<=L)(hL2:L<=6)(hn:n<=512): ∃res,(∃m bs' nx' st,MiX L n s bs nxt m bs' nx'/\res= .tup [dfT 2 L 0 bs' nx',.t 2 (ints (tab n st))])/\FnS Tryz.prog 158 [dfT 0 L s bs nxt] [] res []:=by
 obtain⟨_,⟨m,bs1,nx1,pl,hmn,hD1,hlang1,hpl,-,rfl⟩,htr1⟩:=zKx h hL hL2 hn;obtain⟨_,⟨p,hC,rfl⟩,hcls⟩:=zHo hD1 hL hL2 (by omega);have hbl1:=hD1.bl;have hnl1:=hD1.nl;have hm1:=hD1.n1;have hrt1:=hD1.rt;have hcvm:=zEY p m;refine zh Tryz.func158 rfl (by simp[Tryz.f158]) ?_;rw[show Tryz.f158.ntmps=112 from rfl,show Tryz.f158.results= #[.cell 2 34,.tmp 3]from rfl];refine rg1 (an @dfT.eq_1 @zG.eq_1) ?_;refine rc1 htr1 (an @dfT.eq_1 @zG.eq_1) ?_;refine rc1 hcls (an @dfT.eq_1 @zG.eq_1) ?_;refine rg0 ?_;refine zA ?_;refine rg0 ?_;refine zB ?_;refine awp_loop (fun y:Nat×List Bool×List (List Int)=>mkS [(1,.ptr 0 0 4),(2,.ptr 1 0 4),(4,.ptr 2 0 4),(5,.t 2 (ints (tab n pl))),(6,.t 2 (.sl 1 (rwN m p))),(7,.ptr 3 0 4),(28,.t 2 (.sl 1 (rwN m p))),(29,.t 2 (.int .i64 m)),(30,.t 2 (.int .i64 y.1))] [(0,dfO L s bs nxt),(1,.box 34 [.any,.any,.any,.any]),(2,.box 34 [.t 2 (.int .i64 L),.t 2 (.int .i64 0),.t 2 (zG bs1),.t 2 (rows nx1)]),(3,.box 34 [.t 2 (.int .i64 L),.t 2 (.int .i64 0),.own 4 y.2.1.length,.own 5 y.2.2.length]),(4,.row 4 1 2 (y.2.1.map .bool)),(5,.row 22 1 2 (y.2.2.map ints))] 6 112 [.any]) (fun y=>QuI L bs1 nx1 p y.2.1 y.2.2 y.1/\y.1<=m) (fun y=>m-y.1) ?_ ?_
 ·refine⟨(0,[],[]),⟨QuI.start,by simp⟩,?_⟩;exact kw1 [(0,some 0),(1,some 1000000),(2,some 8000000),(3,some 17000000),(4,none),(5,none)] (an @dfO.eq_1 (an @rows.eq_1 (an @zG.eq_1 @dfT.eq_1)))
 rintro⟨q,bs2,nx2⟩ ⟨hQ,hq⟩;simp only at hQ hq;have hbl2:=hQ.bl;have hnl2:=hQ.nl;have hcvq:=zEY p q;refine rg0 ?_;refine zA ?_;by_cases hqm:q<m
 ·refine cT1 @hqm ?_;have hg:=zHq (c:=p) hqm;have hpq:=hC.ok q hqm;have hqx:q<nx1.length:=by omega
  have hqb:q<bs1.length:=by omega
  obtain⟨hrl,-⟩:=hD1.row nx1[q] (by simp);refine zQ ?_;refine zA ?_;refine zB ?_;refine rg1 @hg ?_;refine zA ?_;by_cases hold:p q<cv p q
  ·have hlt:p q<bs2.length:=by omega
   refine rg1 @hlt ?_;refine cT1 @hlt ?_;refine zE ?_;refine rr0 ?_;refine⟨(q+1,bs2,nx2),⟨hQ.old (by omega),by simp only;omega⟩,by simp only;omega,?_⟩;exact kw1 [(0,some 0),(1,some 1),(2,some 2),(3,some 3),(4,some 4),(5,some 5)] (an @dfO.eq_1 (an @rows.eq_1 @zG.eq_1))
  ·have hnew:p q=cv p q:=by omega
   have hlt: ¬p q<bs2.length:=by omega
   have hQ2:=hQ.new hnew (b:=bs1[q]) (by simp);refine rg1 @hlt ?_;refine cS1 @hlt ?_;refine rg1 @dfO.eq_1 ?_;refine zA ?_;refine rg1 (an @hqx @hrl) ?_;refine zB ?_;refine awp_loop (fun x:Nat=>mkS [(1,.ptr 0 0 4),(2,.ptr 1 0 4),(4,.ptr 2 0 4),(5,.t 2 (ints (tab n pl))),(6,.t 2 (.sl 1 (rwN m p))),(7,.ptr 3 0 4),(8,.t 2 (.int .i64 q)),(10,.own 6 L),(28,.t 2 (.sl 1 (rwN m p))),(29,.t 2 (.int .i64 m)),(30,.t 2 (.int .i64 q)),(47,.t 2 (ints nx1[q])),(48,.t 2 (.int .i64 L)),(49,.t 2 (.int .i64 x))] [(0,dfO L s bs nxt),(1,.box 34 [.any,.any,.any,.any]),(2,.box 34 [.t 2 (.int .i64 L),.t 2 (.int .i64 0),.t 2 (zG bs1),.t 2 (rows nx1)]),(3,.box 34 [.t 2 (.int .i64 L),.t 2 (.int .i64 0),.own 4 bs2.length,.own 5 nx2.length]),(4,.row 4 1 2 (bs2.map .bool)),(5,.row 22 1 2 (nx2.map ints)),(6,.row 3 1 2 (rwN L fun j=>if j<x then p (zR nx1 q j)else 0))] 7 112 [.any]) (fun x=>x<=L) (fun x=>L-x) ?_ ?_
   ·refine⟨0,by omega,?_⟩;exact kw1 [(0,some 0),(1,some 1),(2,some 2),(3,some 3),(4,some 4),(5,some 5),(6,some 13000006)] (an @dfO.eq_1 (an @rows.eq_1 (an @zG.eq_1 @zGD)))
   intro x hx;refine rg0 ?_;refine zA ?_;by_cases hxl:x<L
   ·refine cT1 @hxl ?_;obtain⟨s1,s2,s3,s4⟩:=hrt1.step hqm hxl;have hg2:=zHq (c:=p) s1;have hst:=zGu L (fun j=>if j<x then p (zR nx1 q j)else 0) x (p (zR nx1 q x));have hrw:rwN L (fun j=>if j=x then p (zR nx1 q x)else if j<x then p (zR nx1 q j)else 0)=rwN L (fun j=>if j<x+1 then p (zR nx1 q j)else 0):=zBN fun i hi=>by
     by_cases e2:i=x
     ·subst e2;rw[if_pos rfl,if_pos (by omega)]
     ·rw[if_neg e2];by_cases e3:i<x
      ·rw[if_pos e3,if_pos (by omega)]
      ·rw[if_neg e3,if_neg (by omega)]
    refine zQ ?_;refine zA ?_;refine zB ?_;refine rg1 (an @s3 @s4) ?_;refine rr1 @hg2 ?_;refine rr0 ?_;refine⟨x+1,by omega,by omega,?_⟩;exact kw1 [(0,some 0),(1,some 1),(2,some 2),(3,some 3),(4,some 4),(5,some 5),(6,some 6)] (an @dfO.eq_1 (an @rows.eq_1 (an @zG.eq_1 (an @hst @hrw))))
   ·obtain rfl:x=L:=by omega
    have hrw:rwN x (fun j=>if j<x then p (zR nx1 q j)else 0)=rwN x (fun j=>p (zR nx1 q j)):=zBN fun i hi=>by rw[if_pos hi]
    have hri:=zSU x (fun j=>p (zR nx1 q j));rw[hrw];generalize hrr:(tab x fun x=>(p (zR nx1 q x):Int))=rr at hri hQ2;refine cF0 ?_;refine zE ?_;refine rd1 (an @zG.eq_1 @hqb) ?_;refine rr0 ?_;refine rr0 ?_;refine⟨(q+1,bs2++[bs1[q]],nx2++[rr]),⟨hQ2,by simp only;omega⟩,by simp only;omega,?_⟩;exact kw1 [(0,some 0),(1,some 1),(2,some 2),(3,some 3),(4,some 4),(5,some 5)] (an @dfO.eq_1 (an @rows.eq_1 (an @zG.eq_1 @hri)))
 ·have hqe:m=q:=by omega
  subst q;obtain⟨hDq,hlang2⟩:=hQ.fin hD1 hC;have hp0:p 0=0:=by
   have:=hC.ok 0 (by omega);simp only[cv]at this;omega
  have hD2:=hDq 0 (by omega);rw[hp0]at hD2;obtain⟨_,⟨m2,bs3,nx3,pl2,hm2,hD3,hlang3,hpl2,⟨ss3,hss3,hE3,hF3⟩,rfl⟩,htr2⟩:=zKx hD2 hL hL2 (by omega);have hX:MiX L n s bs nxt m2 bs3 nx3:=⟨by omega,by rw[←hss3];exact .of (by omega) hE3 hF3 (hQ.dis hD1 hC),fun w hw=>by
   have h2:=hlang2 w hw 0 (by omega);rw[hp0]at h2;rw[hlang3 w hw,h2,hlang1 w hw]⟩
  refine cF0 ?_;refine zE ?_;refine rc1 htr2 (an @dfT.eq_1 @zG.eq_1) ?_;refine rg0 ?_;refine zA ?_;refine rg0 ?_;refine zB ?_;refine awp_loop (fun y:Nat×(Nat->Int)=>mkS [(2,.ptr 0 0 4),(6,.t 2 (.sl 1 (rwN m p))),(13,.ptr 1 0 4),(14,.t 2 (ints (tab (cv p m) pl2))),(15,.own 2 n),(87,.t 2 (ints (tab n pl))),(88,.t 2 (.int .i64 n)),(89,.t 2 (.int .i64 y.1))] [(0,.box 34 [.any,.any,.any,.any]),(1,.box 34 [.t 2 (.int .i64 L),.t 2 (.int .i64 0),.t 2 (zG bs3),.t 2 (rows nx3)]),(2,.row 3 1 2 (tab n fun i=>.int .i64 (y.2 i)))] 3 112 [.any]) (fun y=>y.1<=n) (fun y=>n-y.1) ?_ ?_
  ·refine⟨(0,fun _=>0),by simp,?_⟩;exact kw1 [(0,some 1),(1,some 6000006),(2,some 11000006)] (an @rows.eq_1 (an @zG.eq_1 (an @dfT.eq_1 @zz)))
  rintro⟨i,st⟩ hi;simp only at hi;refine rg0 ?_;refine zA ?_;by_cases hin:i<n
  ·refine cT1 @hin ?_;have hpi:=hpl i hin;refine zQ ?_;refine zA ?_;refine zB ?_;refine rg1 (an @zT @hin) ?_;refine rg1 @hin ?_;by_cases hneg:0<=pl i
   ·obtain⟨j,hj⟩: ∃j:Nat,pl i=(j:Int):=⟨(pl i).toNat,by omega⟩;have hjm:j<m:=by omega
    have hg:=zHq (c:=p) hjm;have hpj:=hC.ok.lt hjm hjm;have hpj2:p j<cv p m:=hC.ok.lt hjm (by omega);refine rg1 @hj ?_;refine cT0 ?_;refine rr1 (an @hj (an @hg (an @zT (an @hpj2 @hin)))) ?_;refine rr0 ?_;refine⟨(i+1,fun q=>if q=i then pl2 (p j)else st q),by simp only;omega,by simp only;omega,?_⟩;refine zH [(0,some 0),(1,some 1),(2,some 2)] rfl ?_ ?_ ?_ ?_
    all_goals try simp[ints,rows,zG,zb,zT]
    refine zK (fun q hq=>?_);by_cases e:q=i<;>simp[e]
   ·refine rg1 @hneg ?_;refine cY0 ?_;refine rr0 ?_;refine⟨(i+1,fun q=>if q=i then -1 else st q),by simp only;omega,by simp only;omega,?_⟩;refine zH [(0,some 0),(1,some 1),(2,some 2)] rfl ?_ ?_ ?_ ?_
    all_goals try simp[ints,rows,zG,zb,zT]
    refine zK (fun q hq=>?_);by_cases e:q=i<;>simp[e]
  ·refine cF0 ?_;refine zE ?_;refine rg0 ?_;refine zC ?_;refine⟨_,⟨m2,bs3,nx3,st,hX,rfl⟩,?_⟩;refine⟨⟨.inr rfl,_,[],(by simp;rfl),trivial,trivial,by simp,?_⟩,by simp[dfT,zG]⟩;simp[ints,rows,dfT,zG,zT]
theorem zHc{L n s:Nat}{bs:List Bool}{nxt:List (List Int)}(h:DfL L n s bs nxt)(hL:1<=L)(hL2:L<=6)(hn:n<=512): ∃res,(∃m bs' nx',MiX L n s bs nxt m bs' nx'/\res=dfT 2 L 0 bs' nx')/\FnS Tryz.prog 107 [dfT 0 L s bs nxt] [] res []:=by
 obtain⟨_,⟨m,bs',nx',st,hX,rfl⟩,hmin⟩:=zHA h hL hL2 hn;refine zh Tryz.func107 rfl (by simp[Tryz.f107]) ?_;rw[show Tryz.f107.ntmps=15 from rfl,show Tryz.f107.results= #[.cell 2 34]from rfl];refine rg1 (an @dfT.eq_1 @zG.eq_1) ?_;refine zA ?_;refine rc1 (zBh h hL hL2 hn) (an @dfT.eq_1 @zG.eq_1) ?_;refine cS0 ?_;refine rc1 hmin (an @dfT.eq_1 @zG.eq_1) ?_;refine rg0 ?_;refine zC ?_;refine⟨_,⟨m,bs',nx',hX,rfl⟩,?_⟩;refine⟨⟨.inr rfl,_,[],(by simp;rfl),trivial,trivial,by simp,?_⟩,by simp[dfT,zG]⟩;simp[rows,dfT,zG]
theorem zOZ(mp:List (Nat×Option Nat))(base:Nat)(g:Nat->Nat){k:Nat}(h:base<=k):zBm mp base 0 g k=none:=by
 unfold zBm;rw[if_neg (by omega),if_neg (by omega)]
theorem zIw{σ:ASt}{el:List (Nat×AV)}{hl:List (Nat×AObj)}{base n:Nat}{F:Nat->AObj}{nx nt:Nat}{gh:List AV}(mp:List (Nat×Option Nat))(hnt:nt=σ.nt)(he:wkE σ (zBm mp base 0 fun j=>j) (zCI mp 0 fun j=>j) nx el)(hh:wkH σ (zBm mp base 0 fun j=>j) (zCI mp 0 fun j=>j) nx hl mp)(hn:keysNd mp)(hg:wkPs σ.heap (zBm mp base 0 fun j=>j) (zCI mp 0 fun j=>j) nx σ.gh gh)
  (hF: ∀j,j<n->base+j<nx/\wkO σ.heap (zBm mp base 0 fun j=>j) (zCI mp 0 fun j=>j) nx none (F j)):Wk σ (mkF el hl base n F nx nt gh):=by
 refine zOC (m:=zBm mp base 0 fun j=>j) (un:=zCI mp 0 fun j=>j) hnt (zGc he) (fun id o ho=>?_) ⟨fun {i j k} h1 h2=>?_,fun {k id} hu h=>?_,fun {id} h=>?_⟩ hg
 ·have ho:zDx hl base n F id=some o:=ho;unfold zDx at ho;by_cases h1:id<base
  ·rw[if_pos h1]at ho;have:=(zCU hh id).1 o ho;refine⟨this.1,?_⟩;have e:zBm mp base 0 (fun j=>j) id=mpOf mp id:=by unfold zBm;rw[if_pos h1]
   rw[e];exact this.2
  ·rw[if_neg h1]at ho;by_cases h2:id-base<n
   ·rw[if_pos h2]at ho;injection ho with ho;subst ho;obtain⟨a1,a2⟩:=hF _ h2;rw[zOZ mp base _ (by omega)];exact⟨by show id<nx;omega,a2⟩
   ·rw[if_neg h2]at ho;cases ho
 ·unfold zBm at h1 h2;by_cases b1:i<base
  ·by_cases b2:j<base
   ·rw[if_pos b1]at h1;rw[if_pos b2]at h2;exact zEL hn h1 h2
   ·rw[if_neg b2,if_neg (by omega)]at h2;cases h2
  ·rw[if_neg b1,if_neg (by omega)]at h1;cases h1
 ·unfold zBm at h;by_cases b1:id<base
  ·rw[if_pos b1]at h;exact zB9 hu.1 h
  ·rw[if_neg b1,if_neg (by omega)]at h;cases h
 ·have h:zDx hl base n F id=none:=h;unfold zDx at h;by_cases b1:id<base
  ·unfold zBm;rw[if_pos b1]at h ⊢;exact(zCU hh id).2 h
  ·rw[zOZ mp base _ (by omega)]
section
variable{L n:Nat}{nx:List (List Int)}{B:Nat->List Nat}{k x:Nat}
end
section
variable{L n s:Nat}{bs:List Bool}{nx:List (List Int)}{B:Nat->List Nat}{Q:List Nat}{M:Nat->Bool}{i x k:Nat}
end
