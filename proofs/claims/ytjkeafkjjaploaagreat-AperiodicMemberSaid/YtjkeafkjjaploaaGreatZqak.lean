/- Lemmas for the law AperiodicMember. No conditions. -/
import Derived.Test.YtjkeafkjjaploaaGreatZqai
import Derived.Test.YtjkeafkjjaploaaGreatZqaj
set_option linter.all false
namespace Go.Proofs.YtjkeafkjjaploaaGreat.M
open Go.RowKit
set_option maxRecDepth 100000
set_option maxHeartbeats 32000000

@[simp] theorem zUs(ss:List Nat):(zAZ ss).length=ss.length:=by simp[zAZ]
theorem zPy{l:List Nat}(h:l.Nodup){i j a:Nat}(hi:l[i]? =some a)(hj:l[j]? =some a):i=j:=by
 obtain⟨hi1,hi2⟩:=Qq.1 hi;obtain⟨hj1,hj2⟩:=Qq.1 hj;rcases Nat.lt_trichotomy i j with g|g|g
 ·exact absurd (hi2.trans hj2.symm) (List.pairwise_iff_getElem.1 h i j hi1 hj1 g)
 ·exact g
 ·exact absurd (hj2.trans hi2.symm) (List.pairwise_iff_getElem.1 h j i hj1 hi1 g)
theorem zQv{L n s:Nat}{bs:List Bool}{nxt:List (List Int)}(h:DfL L n s bs nxt)(hL:1<=L)(hL2:L<=6)(hn:n<=512): ∃res,(∃ss bs' nx' pl,ExI L n s bs nxt ss bs' nx' ss.length/\FO L nxt ss (ss.length*L)/\res= .tup [dfT 2 L 0 bs' nx',.t 2 (ints pl)])/\FnS Tryz.prog 94 [dfT 0 L s bs nxt] [] res []:=by
 obtain⟨res,⟨ss,wds,hA,rfl⟩,hacc⟩:=zOK h hL hL2 hn;have hnl:=h.nl;have hbl:=h.bl;have hst:=h.st;have hrt:=h.rt;have hml:ss.length<=n:=zIr hA.nod hA.rng;have hpos:1<=ss.length:=(Qq.1 hA.fst).1;refine zm Tryz.func94 rfl (by simp[Tryz.f94]) ?_;rw[show Tryz.f94.ntmps=92 from rfl,show Tryz.f94.results= #[.cell 2 56,.tmp 3]from rfl];refine rg1 (an @dfT.eq_1 @zH.eq_1) ?_;refine rc1 hacc (an @dfT.eq_1 @zH.eq_1) ?_;refine rg0 ?_;refine zD ?_;refine rg1 @hbl ?_;refine zG ?_;refine awp_loop (fun y:Nat=>mkS [(1,.ptr 0 0 4),(2,.ptr 1 0 4),(4,.t 2 (.sl 1 (zAZ ss))),(6,.own 2 n),(26,.t 2 (.int .i64 n)),(27,.t 2 (.int .i64 y))] [(0,.box 56 [.t 2 (.int .i64 L),.t 2 (.int .i64 s),.t 0 (zH bs),.t 0 (rows nxt)]),(1,.box 56 [.any,.any,.any,.any]),(2,.row 3 1 2 (tab n fun i=>.int .i64 (if i<y then -1 else 0)))] 3 92 [.any]) (fun y=>y<=n) (fun y=>n-y) ?_ ?_
 ·refine⟨0,by omega,?_⟩;exact kw1 [(0,some 0),(1,some 1000000),(2,some 13000000)] (an @rows.eq_1 (an @zH.eq_1 (an @zAZ.eq_1 (an @dfT.eq_1 (an @hbl @zr)))))
 ·intro k hk;refine rg0 ?_;refine zD ?_;by_cases hkn:k<n
  ·refine cK1 @hkn ?_;refine zD ?_;refine zG ?_;refine rg0 ?_;refine rr1 @hkn ?_;refine rr0 ?_;refine⟨k+1,by omega,by omega,?_⟩;refine zP [(0,some 0),(1,some 1),(2,some 2)] rfl ?_ ?_ ?_ ?_
   all_goals try simp[rows,zH,zg]
   refine zT (fun i hi=>?_);by_cases e:i=k
   ·simp[e]
   ·rw[if_neg e];by_cases e2:i<k
    ·rw[if_pos e2,if_pos (by omega)]
    ·rw[if_neg e2,if_neg (by omega)]
  ·have hke:k=n:=by omega
   subst hke;refine cF0 ?_;refine zK ?_;refine zD ?_;refine rg0 ?_;refine zG ?_;refine awp_loop (fun y:Nat×(Nat->Int)=>mkS [(1,.ptr 0 0 4),(2,.ptr 1 0 4),(4,.t 2 (.sl 1 (zAZ ss))),(6,.own 2 k),(34,.t 2 (.sl 1 (zAZ ss))),(35,.t 2 (.int .i64 ss.length)),(36,.t 2 (.int .i64 y.1))] [(0,.box 56 [.t 2 (.int .i64 L),.t 2 (.int .i64 s),.t 0 (zH bs),.t 0 (rows nxt)]),(1,.box 56 [.any,.any,.any,.any]),(2,.row 3 1 2 (tab k fun i=>.int .i64 (y.2 i)))] 3 92 [.any]) (fun y=>y.1<=ss.length/\ ∀(j:Nat) q,j<y.1->ss[j]? =some q->y.2 q=j) (fun y=>ss.length-y.1) ?_ ?_
   ·refine⟨(0,fun i=>if i<k then -1 else 0),⟨by simp,fun j q hj=>by simp at hj⟩,?_⟩;exact kw1 [(0,some 0),(1,some 1),(2,some 2)] (an @rows.eq_1 (an @zH.eq_1 @zAZ.eq_1))
   ·rintro⟨i,pl⟩ ⟨hi,hpl⟩;simp only at hi hpl;refine rg0 ?_;refine zD ?_;by_cases hil:i<ss.length
    ·have hsn:=hA.rng ss[i] (by simp);refine cK1 @hil ?_;refine zD ?_;refine zG ?_;refine rg1 (an @zAZ.eq_1 @hil) ?_;refine rr1 @hsn ?_;refine rr0 ?_;refine⟨(i+1,fun q=>if q=ss[i]then(i:Int)else pl q),⟨by omega,fun j q hj hq=>?_⟩,by simp;omega,?_⟩
     ·by_cases e:q=ss[i]
      ·simp only[if_pos e];have hjl:=(Qq.1 hq).1;have:j=i:=zPy hA.nod hq (by rw[e];simp);omega
      ·simp only[if_neg e];by_cases e2:j=i
       ·subst e2;rw[Qj hil]at hq;injection hq with hq;exact absurd hq.symm e
       ·exact hpl j q (by simp at hj;omega) hq
     ·refine zP [(0,some 0),(1,some 1),(2,some 2)] rfl ?_ ?_ ?_ ?_
      all_goals try simp[rows,zH,zAZ,zg]
      refine zT (fun j hj=>?_);by_cases e:j=ss[i]<;>simp[e]
    ·have hie:i=ss.length:=by omega
     subst hie;have hplc: ∀q∈ss,0<=pl q/\pl q<(ss.length:Int):=fun q hq=>by
      obtain⟨j,hj,e⟩:=Qb hq;have:=hpl j q hj (by simp[←e]);omega
     refine cF0 ?_;refine zK ?_;refine rg0 ?_;refine zD ?_;refine rg0 ?_;refine zG ?_;refine awp_loop (fun y:Nat×List Bool×List (List Int)=>mkS [(1,.ptr 0 0 4),(2,.ptr 1 0 4),(6,.own 2 k),(10,.ptr 3 0 4),(49,.t 2 (.sl 1 (zAZ ss))),(50,.t 2 (.int .i64 ss.length)),(51,.t 2 (.int .i64 y.1))] [(0,.box 56 [.t 2 (.int .i64 L),.t 2 (.int .i64 s),.t 0 (zH bs),.t 0 (rows nxt)]),(1,.box 56 [.any,.any,.any,.any]),(2,.row 3 1 2 (tab k fun i=>.int .i64 (pl i))),(3,.box 56 [.t 2 (.int .i64 L),.t 2 (.int .i64 0),.own 4 y.1,.own 5 y.1]),(4,.row 4 1 2 (y.2.1.map .bool)),(5,.row 22 1 2 (y.2.2.map ints))] 6 92 [.any]) (fun y=>y.1<=ss.length/\ExI L k s bs nxt ss y.2.1 y.2.2 y.1) (fun y=>ss.length-y.1) ?_ ?_
     ·refine⟨(0,[],[]),⟨by simp,ExI.all hA.nod hA.fst hA.rng⟩,?_⟩;exact kw1 [(0,some 0),(1,some 1),(2,some 2),(3,some 4000003),(4,none),(5,none)] (an @rows.eq_1 (an @zH.eq_1 @zAZ.eq_1))
     ·rintro⟨i,bs',nx'⟩ ⟨hi,hE⟩;simp only at hi hE;have hbl':=hE.bl;have hnl':=hE.nl;refine rg0 ?_;refine zD ?_;by_cases hil:i<ss.length
      ·have hsn:=hA.rng ss[i] (by simp);have hsx:ss[i]<nxt.length:=by omega
       have hsb:ss[i]<bs.length:=by omega
       obtain⟨hrl,-⟩:=h.row nxt[ss[i]] (by simp);refine cK1 @hil ?_;refine zD ?_;refine zG ?_;refine rg1 (an @zAZ.eq_1 @hil) ?_;refine rg0 ?_;refine zD ?_;refine rg1 (an @hsx @hrl) ?_;refine zG ?_;refine awp_loop (fun y:Nat×List Int=>mkS [(1,.ptr 0 0 4),(2,.ptr 1 0 4),(6,.own 2 k),(10,.ptr 3 0 4),(12,.t 2 (.int .i64 ss[i])),(13,.own 6 y.1),(49,.t 2 (.sl 1 (zAZ ss))),(50,.t 2 (.int .i64 ss.length)),(51,.t 2 (.int .i64 i)),(59,.t 0 (ints nxt[ss[i]])),(60,.t 2 (.int .i64 L)),(61,.t 2 (.int .i64 y.1))] [(0,.box 56 [.t 2 (.int .i64 L),.t 2 (.int .i64 s),.t 0 (zH bs),.t 0 (rows nxt)]),(1,.box 56 [.any,.any,.any,.any]),(2,.row 3 1 2 (tab k fun i=>.int .i64 (pl i))),(3,.box 56 [.t 2 (.int .i64 L),.t 2 (.int .i64 0),.own 4 i,.own 5 i]),(4,.row 4 1 2 (bs'.map .bool)),(5,.row 22 1 2 (nx'.map ints)),(6,.row 3 1 2 (y.2.map (.int .i64)))] 7 92 [.any]) (fun y=>y.1<=L/\y.2.length=y.1/\zIe nxt ss ss[i] y.2 y.1) (fun y=>L-y.1) ?_ ?_
       ·refine⟨(0,[]),⟨by simp,rfl,fun v hv=>by simp at hv⟩,?_⟩;exact kw1 [(0,some 0),(1,some 1),(2,some 2),(3,some 3),(4,some 4),(5,some 5),(6,none)] (an @rows.eq_1 (an @zH.eq_1 @zAZ.eq_1))
       ·rintro⟨x,r⟩ ⟨hx,hrl2,hR⟩;simp only at hx hrl2 hR;refine rg0 ?_;refine zD ?_;by_cases hxl:x<L
        ·obtain⟨s1,s2,s3,s4⟩:=hrt.step hsn hxl;obtain⟨t,ht⟩:=List.getElem?_of_mem (hA.cl ss[i] (by simp) x hxl);have hpt:=hpl t _ (Qq.1 ht).1 ht;refine cK1 @hxl ?_;refine zD ?_;refine zG ?_;refine rg1 (an @s3 @s4) ?_;refine rr1 @s1 ?_;refine rr0 ?_;refine⟨(x+1,r++[pl (zb nxt ss[i] x)]),⟨by omega,by simp[hrl2],hpt▸hR.snoc hrl2 ht⟩,by simp;omega,?_⟩
         ·exact kw1 [(0,some 0),(1,some 1),(2,some 2),(3,some 3),(4,some 4),(5,some 5),(6,some 6)] (an @rows.eq_1 (an @zH.eq_1 (an @zAZ.eq_1 @hrl2)))
        ·have hxe:x=L:=by omega
         refine cF1 @hxl ?_;refine zK ?_;refine zAW (by kernel_rfl) (fun K hK=>?_);simp(maxSteps:=2000000)(disch:=omega);and_intros<;>try first|apply hK|(show zAf _ _=true;kernel_rfl)|(show okH _ _ _=true;kernel_rfl)|omega|rfl|simp<;>omega
         refine zAE fun K hK=>?_
         simp(maxSteps:=2000000)(disch:=omega)[zBh]
         (repeat' first|apply hK|apply And.intro)<;>try first|omega|rfl|(simp<;>omega)
         refine⟨(i+1,bs'++[bs[ss[i]]],nx'++[r]),⟨by omega,hE.done (Qj hil) (Qj hsb) (by omega) (by rw[←hxe];exact hR)⟩,by simp;omega,?_⟩
         ·exact kw1 [(0,some 0),(1,some 1),(2,some 2),(3,some 3),(4,some 4),(5,some 5)] (an @rows.eq_1 (an @zH.eq_1 (an @zAZ.eq_1 (an @hbl' @hnl'))))
      ·have hie:i=ss.length:=by omega
       refine cF1 @hil ?_;refine zK ?_;refine rg0 ?_;refine zI ?_;subst hie;refine⟨_,⟨ss,bs',nx',tab k pl,hE,hA.fo,rfl⟩,?_⟩;refine⟨⟨.inr rfl,_,[],(by simp;rfl),trivial,trivial,by simp,?_⟩,by simp[dfT,zH]⟩;simp[ints,rows,dfT,zH,hbl',hnl',ze]
theorem zJb{L n s:Nat}{bs:List Bool}{nxt:List (List Int)}(h:DfL L n s bs nxt)(hL:1<=L)(hL2:L<=6)(hn:n<=512): ∃res,(∃m bs' nx',MiX L n s bs nxt m bs' nx'/\res=dfT 2 L 0 bs' nx')/\FnS Tryz.prog 52 [dfT 0 L s bs nxt] [] res []:=by
 have hnl:=h.nl;have hbl:=h.bl;have hst:=h.st;have hn1:=h.n1;have hrt:=h.rt;obtain⟨res0,⟨p,hC,rfl⟩,hcls⟩:=zMC h hL hL2 hn;have hp:=hC.ok;have hps:=zDb (r:=p) hst;have hcn:=zE6 p n;refine zm Tryz.func52 rfl (by simp[Tryz.f52]) ?_;rw[show Tryz.f52.ntmps=74 from rfl,show Tryz.f52.results= #[.cell 2 56]from rfl];refine rg1 (an @dfT.eq_1 @zH.eq_1) ?_;refine rc1 hcls (an @dfT.eq_1 @zH.eq_1) ?_;refine rd1 (an @zCP.eq_1 (an @ze @hst)) ?_;refine rg0 ?_;refine zD ?_;refine rg0 ?_;refine zG ?_;refine awp_loop (fun y:Nat×List Bool×List (List Int)=>mkS [(1,.ptr 0 0 4),(2,.ptr 1 0 4),(3,.t 2 (ints (zCP n p))),(4,.ptr 2 0 4),(5,.t 2 (.int .i64 (cv p y.1))),(21,.t 2 (ints (zCP n p))),(22,.t 2 (.int .i64 n)),(23,.t 2 (.int .i64 y.1))] [(0,.box 56 [.t 2 (.int .i64 L),.t 2 (.int .i64 s),.t 0 (zH bs),.t 0 (rows nxt)]),(1,.box 56 [.any,.any,.any,.any]),(2,.box 56 [.t 2 (.int .i64 L),.t 2 (.int .i64 (p s)),.own 3 y.2.1.length,.own 4 y.2.2.length]),(3,.row 4 1 2 (y.2.1.map .bool)),(4,.row 22 1 2 (y.2.2.map ints))] 5 74 [.any]) (fun y=>y.1<=n/\QuI L bs nxt p y.2.1 y.2.2 y.1) (fun y=>n-y.1) ?_ ?_
 ·refine⟨(0,[],[]),⟨by simp,QuI.start⟩,?_⟩;refine zP [(0,some 0),(1,some 1000000),(2,some 13000000),(3,none),(4,none)] rfl ?_ ?_ ?_ ?_
  all_goals try simp[ints,rows,zH,zCP,ze,cv]
 ·rintro⟨q,bs',nx'⟩ ⟨hq,hQ⟩;simp only at hq hQ;have hbl':=hQ.bl;have hnl':=hQ.nl;have hcq:=zE6 p q;refine rg0 ?_;refine zD ?_;by_cases hqn:q<n
  ·have hqx:q<nxt.length:=by omega
   have hqb:q<bs.length:=by omega
   obtain⟨hrl,-⟩:=h.row nxt[q] (by simp);have hcs:cv p (q+1)=if p q=cv p q then cv p q+1 else cv p q:=rfl
   refine cK1 @hqn ?_;refine zD ?_;refine zG ?_;refine rg1 (an @zCP.eq_1 (an @ze @hqn)) ?_;refine zD ?_;by_cases hpq:p q=cv p q
   ·rw[if_pos hpq]at hcs;have hpi:(p q:Int)=(cv p q:Int):=by omega
    refine rg1 @hpi ?_;refine cS0 ?_;refine rg0 ?_;refine rg0 ?_;refine zD ?_;refine rg1 (an @hqx @hrl) ?_;refine zG ?_;refine awp_loop (fun y:Nat×List Int=>mkS [(1,.ptr 0 0 4),(2,.ptr 1 0 4),(3,.t 2 (ints (zCP n p))),(4,.ptr 2 0 4),(5,.t 2 (.int .i64 ((cv p q:Int)+1))),(6,.t 2 (.int .i64 q)),(8,.own 5 y.1),(21,.t 2 (ints (zCP n p))),(22,.t 2 (.int .i64 n)),(23,.t 2 (.int .i64 q)),(37,.t 0 (ints nxt[q])),(38,.t 2 (.int .i64 L)),(39,.t 2 (.int .i64 y.1))] [(0,.box 56 [.t 2 (.int .i64 L),.t 2 (.int .i64 s),.t 0 (zH bs),.t 0 (rows nxt)]),(1,.box 56 [.any,.any,.any,.any]),(2,.box 56 [.t 2 (.int .i64 L),.t 2 (.int .i64 (p s)),.own 3 bs'.length,.own 4 nx'.length]),(3,.row 4 1 2 (bs'.map .bool)),(4,.row 22 1 2 (nx'.map ints)),(5,.row 3 1 2 (y.2.map (.int .i64)))] 6 74 [.any]) (fun y=>y.1<=L/\y.2.length=y.1/\y.2=tab y.1 fun x=>(p (zb nxt q x):Int)) (fun y=>L-y.1) ?_ ?_
    ·refine⟨(0,[]),⟨by simp,rfl,rfl⟩,?_⟩;exact kw1 [(0,some 0),(1,some 1),(2,some 2),(3,some 3),(4,some 4),(5,none)] (an @rows.eq_1 (an @zH.eq_1 (an @zCP.eq_1 @ze)))
    ·rintro⟨x,r⟩ ⟨hx,hrl2,hrv⟩;simp only at hx hrl2 hrv;refine rg0 ?_;refine zD ?_;by_cases hxl:x<L
     ·obtain⟨s1,s2,s3,s4⟩:=hrt.step hqn hxl;have hpv:=hp.lt s1 s1;refine cK1 @hxl ?_;refine zD ?_;refine zG ?_;refine rg1 (an @s3 @s4) ?_;refine rr1 (an @zCP.eq_1 (an @ze @s1)) ?_;refine rr0 ?_;refine⟨(x+1,r++[(p (zb nxt q x):Int)]),⟨by omega,by simp[hrl2],by rw[hrv,zBk]⟩,by simp;omega,?_⟩
      ·exact kw1 [(0,some 0),(1,some 1),(2,some 2),(3,some 3),(4,some 4),(5,some 5)] (an @rows.eq_1 (an @zH.eq_1 (an @hrl2 (an @zCP.eq_1 @ze))))
     ·have hxe:x=L:=by omega
      refine cF1 @hxl ?_;refine zK ?_;refine zAW (by kernel_rfl) (fun K hK=>?_);simp(maxSteps:=2000000)(disch:=omega);and_intros<;>try first|apply hK|(show zAf _ _=true;kernel_rfl)|(show okH _ _ _=true;kernel_rfl)|omega|rfl|simp<;>omega
      refine zAE fun K hK=>?_
      simp(maxSteps:=2000000)(disch:=omega)[zBh]
      (repeat' first|apply hK|apply And.intro)<;>try first|omega|rfl|(simp<;>omega)
      refine⟨(q+1,bs'++[bs[q]],nx'++[r]),⟨by omega,by rw[hrv,hxe];exact hQ.new hpq (Qj hqb)⟩,by simp;omega,?_⟩
      ·exact kw1 [(0,some 0),(1,some 1),(2,some 2),(3,some 3),(4,some 4)] (an @rows.eq_1 (an @zH.eq_1 (an @zCP.eq_1 (an @ze @hcs))))
   ·rw[if_neg hpq]at hcs;have hpi: ¬(p q:Int)=(cv p q:Int):=by omega
    refine rg1 @hpi ?_;refine cT1 @hpi ?_;refine zK ?_;refine rr0 ?_;refine⟨(q+1,bs',nx'),⟨by omega,hQ.old hpq⟩,by simp;omega,?_⟩;exact kw1 [(0,some 0),(1,some 1),(2,some 2),(3,some 3),(4,some 4)] (an @rows.eq_1 (an @zH.eq_1 (an @zCP.eq_1 (an @ze @hcs))))
  ·have hqe:q=n:=by omega
   subst hqe;have hc1:1<=cv p q:=by
    have h1:=zMm p (show 1<=q from hn1);have h2:=hp 0 (by omega);have h3:cv p 1=if p 0=cv p 0 then cv p 0+1 else cv p 0:=rfl
    have h4:cv p 0=0:=rfl;rw[if_pos (by omega)]at h3;omega
   have hD:DfL L (cv p q) (p s) bs' nx':=(hQ.fin h hC).1 s hst;obtain⟨res2,⟨ss,bs2,nx2,pl,hE,hF,rfl⟩,htr⟩:=zQv hD hL hL2 (by omega);have hX:MiX L q s bs nxt ss.length bs2 nx2:=⟨Nat.le_trans hE.len hcn,.of (by omega) hE hF (hQ.dis h hC),fun w hw=>by rw[hE.fin.2 w hw,(hQ.fin h hC).2 w hw s hst]⟩;refine cF1 @hqn ?_;refine zK ?_;refine rc1 htr (an @dfT.eq_1 @zH.eq_1) ?_;refine rg0 ?_;refine zI ?_;refine⟨_,⟨_,bs2,nx2,hX,rfl⟩,?_⟩;refine⟨⟨.inr rfl,_,[],(by simp;rfl),trivial,trivial,by simp,?_⟩,by simp[dfT,zH]⟩;simp[rows,dfT,zH]
theorem wrN{x:Nat}(hx:x<18446744073709551616):IntKind.u64.wrap (x:Int)=(x:Int):=by
 rw[IntKind.wrap_u64];omega
theorem bvN{x:Nat}(hx:x<18446744073709551616):(BitVec.ofInt IntKind.u64.bits (x:Int)).toNat=x:=by
 show(BitVec.ofInt 64 (x:Int)).toNat=x;rw[BitVec.toNat_ofInt];omega
theorem zV9{x y:Nat}(hx:x<18446744073709551616)(hy:y<18446744073709551616):zTx .u64 (x:Int) (y:Int)=((x&&&y:Nat):Int):=by
 unfold zTx;rw[BitVec.toNat_and,bvN hx,bvN hy,wrN (Nat.and_lt_two_pow (n:=64) _ hy)]
theorem orN{x y:Nat}(hx:x<18446744073709551616)(hy:y<18446744073709551616):orI .u64 (x:Int) (y:Int)=((x|||y:Nat):Int):=by
 unfold orI;rw[BitVec.toNat_or,bvN hx,bvN hy,wrN (Nat.or_lt_two_pow (n:=64) hx hy)]
theorem zXC{x k:Nat}(h:x*2^k<18446744073709551616)(hk:k<=64):zTS .u64 (x:Int) (k:Int)=((x*2^k:Nat):Int):=by
 unfold zTS;have e:min (k:Int).toNat IntKind.u64.bits=k:=by
  show min (k:Int).toNat 64=k;omega
 rw[e,show((x:Int)*2^k)=((x*2^k:Nat):Int) by push_cast;rfl,wrN h]
theorem zXP{kd:IntKind}{x k:Nat}(hk:k<=kd.bits):zPc kd (x:Int) (k:Int)=((x/2^k:Nat):Int):=by
 unfold zPc;have e:min (k:Int).toNat kd.bits=k:=by omega
 have h0:(0:Int)<=2^k:=Int.pow_nonneg (by decide);rw[e,Int.fdiv_eq_ediv_of_nonneg _ h0]
 push_cast;rfl
def nI(xs:List Nat):List Int:=xs.map fun(x:Nat)=>(x:Int)
@[simp] theorem zEg(xs:List Nat):(nI xs).length=xs.length:=by simp[nI]
theorem zRu{xs:List Nat}{k:Nat}(h:k<xs.length):(nI xs)[k]? =some (xs[k]:Int):=by simp[nI,h]
theorem zTb(xs:List Nat)(x:Nat):nI (xs++[x])=nI xs++[(x:Int)]:=by simp[nI]
theorem zBm{L n s:Nat}{bs:List Bool}{nxt:List (List Int)}(h:DfL L n s bs nxt)(hL:1<=L)(hL2:L<=6)(hn:n<=512):FnA Tryz.prog 101 [dfT 0 L s bs nxt] (.t 2 (.int .i64 0)):=by
 have hn1:=h.n1;have hst:=h.st;have hbl:=h.bl;have hnl:=h.nl;refine fI 64 #[.tmp 2] Tryz.func101 rfl ?_;refine rg1 (an @dfT.eq_1 @zH.eq_1) ?_;refine zD ?_;have dL1: ¬(L:Int)<1:=by omega
 have dL2: ¬(6:Int)<L:=by omega
 refine rg1 (an @dL1 @dL2) ?_;refine cS0 ?_;refine rg1 @hbl ?_;refine zD ?_;refine rg0 ?_;refine cS0 ?_;refine zD ?_;have d4:decide ((s:Int)≥n)=false:=by simp;omega
 have d3:decide ((s:Int)<0)=false:=by simp
 refine rg1 (an @d3 (an @d4 @hnl)) ?_;refine cS0 ?_;refine zD ?_;refine rg0 ?_;refine zG ?_;refine awp_loop (fun y:Nat=>mkS [(1,.ptr 0 0 4),(3,.t 2 (.int .i64 n)),(38,.t 0 (rows nxt)),(39,.t 2 (.int .i64 n)),(40,.t 2 (.int .i64 y))] [(0,.box 56 [.t 2 (.int .i64 L),.t 2 (.int .i64 s),.t 0 (zH bs),.t 0 (rows nxt)])] 1 64 [.any]) (fun y=>y<=n) (fun y=>n-y) ?_ ?_
 ·refine⟨0,by omega,?_⟩;exact kw1 [(0,some 0)] (an @rows.eq_1 (an @zH.eq_1 (an @hbl (an @hnl @dfT.eq_1))))
 ·intro q hq;refine rg0 ?_;refine zD ?_;by_cases hqn:q<n
  ·have hqx:q<nxt.length:=by omega
   obtain⟨hrl,hrv⟩:=h.row nxt[q] (by simp);refine cK1 @hqn ?_;refine zD ?_;refine zG ?_;refine rg1 @hqx ?_;refine zD ?_;refine rg1 @hrl ?_;refine cS0 ?_;refine rg1 @hrl ?_;refine zG ?_;refine awp_loop (fun y:Nat=>mkS [(1,.ptr 0 0 4),(3,.t 2 (.int .i64 n)),(38,.t 0 (rows nxt)),(39,.t 2 (.int .i64 n)),(40,.t 2 (.int .i64 q)),(49,.t 0 (ints nxt[q])),(50,.t 2 (.int .i64 L)),(51,.t 2 (.int .i64 y))] [(0,.box 56 [.t 2 (.int .i64 L),.t 2 (.int .i64 s),.t 0 (zH bs),.t 0 (rows nxt)])] 1 64 [.any]) (fun y=>y<=L) (fun y=>L-y) ?_ ?_
   ·refine⟨0,by omega,?_⟩;exact kw1 [(0,some 0)] (an @rows.eq_1 @zH.eq_1)
   ·intro x hx;refine rg0 ?_;refine zD ?_;by_cases hxl:x<L
    ·have hxr:x<nxt[q].length:=by omega
     obtain⟨e1,e2⟩:=hrv nxt[q][x] (by simp);have e3: ¬nxt[q][x]<0:=by omega
     have e4: ¬(n:Int)<=nxt[q][x]:=by omega
     refine cK1 @hxl ?_;refine zD ?_;refine zG ?_;refine rg1 @hxr ?_;refine rg1 (an @e3 @e4) ?_;refine cY0 ?_;refine rr0 ?_;refine⟨x+1,by omega,by omega,?_⟩;exact kw1 [(0,some 0)] (an @rows.eq_1 @zH.eq_1)
    ·refine cF1 @hxl ?_;refine zK ?_;refine rr0 ?_;refine⟨q+1,by omega,by omega,?_⟩;exact kw1 [(0,some 0)] (an @rows.eq_1 @zH.eq_1)
  ·refine cF1 @hqn ?_;refine zK ?_;refine rg0 ?_;exact zI (rt1 @dfT.eq_1)
theorem zH4{L:Nat}{w:List Nat}(hw: ∀x∈w,x<L)(hL:1<=L)(hL2:L<=6)(hn:w.length<=2048):FnA Tryz.prog 43 [.t 2 (.str (zAU w)),.t 2 (.int .i64 L)] (.t 2 (.bool true)):=by
 refine fI 36 #[.tmp 4] Tryz.func43 rfl ?_;refine rg0 ?_;refine zD ?_;have d1: ¬(L:Int)<1:=by omega
 have d2: ¬(6:Int)<L:=by omega
 have d3: ¬(2048:Int)<w.length:=by omega
 refine rg1 (an @d1 (an @d2 @d3)) ?_;refine cS0 ?_;refine zD ?_;refine rg0 ?_;refine zG ?_;refine awp_loop (fun y:Nat=>mkS [(0,.t 2 (.str (zAU w))),(1,.t 2 (.int .i64 L)),(18,.t 2 (.int .i64 w.length)),(19,.t 2 (.int .i64 y))] [] 0 36 [.any,.any]) (fun y=>y<=w.length) (fun y=>w.length-y) ?_ ?_
 ·refine⟨0,by omega,?_⟩;exact kw0 []
 ·intro y hI;refine rg0 ?_;refine zD ?_;by_cases hc:y<w.length
  ·refine cT1 @hc ?_;have hy:=hw w[y] (by simp);refine zY ?_;refine zD ?_;refine zG ?_;refine rg0 ?_;have e0:=zDI hc (by omega);have e1: ¬(97+(w[y]:Int)<97):=by omega
   have e2:IntKind.u8.wrap (97+(w[y]:Int)-97)=w[y]:=by rw[zSY,wr8 _ (by omega) (by omega)]
   have e3: ¬((L:Int)<=(w[y]:Int)):=by omega
   refine rg1 (an @e0 (an @e1 (an @e2 (an @e3 @hc)))) ?_;refine cY0 ?_;refine rr0 ?_;refine⟨y+1,by omega,by omega,?_⟩;exact kw0 []
  ·refine cF1 @hc ?_;refine zK ?_;refine rg0 ?_;exact zI rt0
def kents{α:Type}(f:α->T)(j:Nat):List α->List (T×T)
 |[]=>[]
 |a::r=>(f a,.int .i64 (j:Int))::kents f (j+1) r
def ixA{α:Type}[DecidableEq α](x:α):List α->Option Nat
 |[]=>none
 |a::r=>if x=a then some 0 else(ixA x r).map (· +1)
theorem zBv{α:Type}[DecidableEq α]{f:α->T}{x:α}: ∀(cl:List α) (j:Nat),(∀y∈cl,kEq (f x) (f y)=decide (x=y))->fndT (f x) (kents f j cl)=ixA x cl
 |[],j,_=>rfl
 |a::r,j,h=>by
  unfold kents fndT ixA;rw[h a (by simp),zBv r (j+1) (fun y hy=>h y (by simp[hy]))];by_cases e:x=a<;>simp[e]
theorem zCf{α:Type}(f:α->T): ∀(cl:List α) (j:Nat),(kents f j cl).length=cl.length
 |[],j=>rfl
 |a::r,j=>by simp[kents,zCf f r (j+1)]
theorem zBu{α:Type}(f:α->T): ∀(cl:List α) (j i:Nat) (x:α),cl[i]? =some x->(kents f j cl)[i]? =some (f x,.int .i64 ((j+i:Nat):Int))
 |[],j,i,x,h=>by simp at h
 |a::r,j,i,x,h=>by
  cases i with
  |zero=>simp at h;subst h;simp[kents]
  |succ i=>
   have:=zBu f r (j+1) i x (by simpa using h);simp only[kents,Qi,this];congr 4;omega
theorem zBE{α:Type}(f:α->T): ∀(cl:List α) (j:Nat) (x:α),kents f j (cl++[x])=kents f j cl++[(f x,.int .i64 ((j+cl.length:Nat):Int))]
 |[],j,x=>by simp[kents]
 |a::r,j,x=>by
  simp only[List.cons_append,kents,zBE f r (j+1) x,List.length_cons];congr 5;omega
theorem zB7{α:Type}[DecidableEq α]{x:α}: ∀{cl:List α} {i:Nat},ixA x cl=some i->cl[i]? =some x
 |[],i,h=>by simp[ixA]at h
 |a::r,i,h=>by
  unfold ixA at h;by_cases e:x=a
  ·rw[if_pos e]at h;injection h with h;subst h;simp[e]
  ·rw[if_neg e]at h
   cases hq:ixA x r with
   |none=>rw[hq]at h;cases h
   |some j=>rw[hq]at h;simp at h;subst h;simpa using zB7 hq
theorem zRY{α:Type}[DecidableEq α]{x:α}{cl:List α}{i:Nat}(h:ixA x cl=some i):i<cl.length:=(Qq.1 (zB7 h)).1
theorem zDQ{α:Type}[DecidableEq α]{x:α}: ∀{cl:List α},ixA x cl=none->x∉cl
 |[],_=>by simp
 |a::r,h=>by
  unfold ixA at h;by_cases e:x=a
  ·rw[if_pos e]at h;cases h
  ·rw[if_neg e]at h;have h2:ixA x r=none:=by
    cases hq:ixA x r with
    |none=>rfl
    |some j=>rw[hq]at h;cases h
   simp[e,zDQ h2]
theorem zB1{α:Type}(f:α->T){P:Program}{K:TypeId}(h: ∀a,kOK P K (f a)=true): ∀(cl:List α) (j:Nat),((kents f j cl).all fun e=>kOK P K e.1)=true
 |[],j=>rfl
 |a::r,j=>by simp[kents,h,zB1 f h r (j+1)]
def txB(e:List Int):ByteArray:=zDR (e.map (.int .u8))
def txT(e:List Int):T:=.str (txB e)
theorem zFV: ∀(cs:List T) (r:ByteArray),cs.foldl (fun r c=>r.push (UInt8.ofNat (u8n c).toNat)) r=⟨r.data++(cs.map fun c=>UInt8.ofNat (u8n c).toNat).toArray⟩
 |[],r=>by simp
 |c::cs,r=>by
  rw[List.foldl_cons,zFV cs];congr 1;simp[ByteArray.push]
theorem zS5{e f:List Int}(he: ∀v∈e,0<=v/\v<256)(hf: ∀v∈f,0<=v/\v<256)(h:txB e=txB f):e=f:=by
 unfold txB zDR at h;rw[zFV,zFV]at h;have h1:=congrArg (fun b:ByteArray=>b.data.toList) h;simp only[Array.toList_append,List.map_map]at h1;have h2:=List.append_cancel_left h1;clear h h1
 induction e generalizing f with
 |nil=>cases f with
  |nil=>rfl
  |cons b f=>simp at h2
 |cons a e ih=>
  cases f with
  |nil=>simp at h2
  |cons b f=>
   simp only[List.map_cons,List.cons.injEq]at h2;obtain⟨h3,h4⟩:=h2;have ha:=he a (by simp);have hb:=hf b (by simp);have h5:=congrArg UInt8.toNat h3;simp only[Function.comp,u8n,UInt8.toNat_ofNat']at h5;rw[ih (fun v hv=>he v (by simp[hv])) (fun v hv=>hf v (by simp[hv])) h4];congr 1;omega
theorem zUX{e f:List Int}(he: ∀v∈e,0<=v/\v<256)(hf: ∀v∈f,0<=v/\v<256):kEq (txT e) (txT f)=decide (e=f):=by
 rw[Bool.eq_iff_iff];simp only[txT,kEq,decide_eq_true_eq];rw[zOT];exact⟨zS5 he hf,fun h=>by rw[h]⟩
theorem zMK{n:Nat}{els:List (List Int)}{f:List Int}(hn:n<=256)(he: ∀e∈els,TrN n e)(hf:TrN n f):fndT (txT f) (kents txT 0 els)=ixA f els:=
 zBv els 0 fun y hy=>zUX (fun v hv=>by have:=hf.2 v hv;omega) (fun v hv=>by have:=(he y hy).2 v hv;omega)
theorem zGC{x:Nat}(hx:x<=20):Utf8.encode (97+(x:Int))=zAU [x]:=by
 rcases(by omega:x=0\/x=1\/x=2\/x=3\/x=4\/x=5\/x=6\/x=7\/x=8\/x=9\/x=10\/x=11\/x=12\/x=13\/x=14\/x=15\/x=16\/x=17\/x=18\/x=19\/x=20)with rfl|rfl|rfl|rfl|rfl|rfl|rfl|rfl|rfl|rfl|rfl|rfl|rfl|rfl|rfl|rfl|rfl|rfl|rfl|rfl|rfl<;>rfl
def txC(e:List Int)(k:Nat):List T:=tab e.length fun i=>.int .u8 (if i<k then e.getD i 0 else 0)
theorem zQ7(e:List Int):List.replicate e.length (T.int .u8 0)=txC e 0:=by
 rw[zr];rfl
theorem zTD{e:List Int}{k:Nat}(h:k<e.length):(txC e k).set k (.int .u8 e[k])=txC e (k+1):=by
 unfold txC;rw[zg];refine zT fun i hi=>?_
 by_cases c:i=k
 ·subst c;rw[if_pos rfl,if_pos (by omega),Qv,Qj h];rfl
 ·rw[if_neg c];by_cases c2:i<k
  ·rw[if_pos c2,if_pos (by omega)]
  ·rw[if_neg c2,if_neg (by omega)]
theorem zPu(e:List Int):txC e e.length=e.map (.int .u8):=by
 apply List.ext_getElem?;intro i;by_cases h:i<e.length
 ·unfold txC;rw[zX _ h,if_pos h,Qh,Qv,Qj h];rfl
 ·rw[Qg (by simp[txC];omega),Qg (by simp;omega)]
theorem zTU(e:List Int)(k:Nat):(txC e k).all isU8=true:=by
 rw[List.all_eq_true];intro x hx;simp only[txC,tab,List.mem_map]at hx;obtain⟨i,-,rfl⟩:=hx;rfl
@[simp] theorem zWk(e:List Int)(k:Nat):(txC e k).length=e.length:=by simp[txC]
theorem zJg{e:List Int}(he: ∀v∈e,0<=v/\v<256)(hl:e.length<=100000):FnA Tryz.prog 193 [.t 0 (ints e)] (.t 2 (txT e)):=by
 refine fI 24 #[.tmp 2] Tryz.func193 rfl ?_;refine rg0 ?_;refine rg1 @zQ7 ?_;refine zD ?_;refine rg0 ?_;refine zG ?_;refine awp_loop (fun y:Nat=>mkS [(3,.own 0 e.length),(9,.t 0 (ints e)),(10,.t 2 (.int .i64 e.length)),(11,.t 2 (.int .i64 y))] [(0,.row 5 1 2 (txC e y))] 1 24 [.any]) (fun y=>y<=e.length) (fun y=>e.length-y) ?_ ?_
 ·refine⟨0,by omega,?_⟩;exact kw0 [(0,some 3000000)]
 intro y hy;refine rg0 ?_;refine zD ?_;by_cases hc:y<e.length
 ·have hv:=he e[y] (by simp);have hw:IntKind.u8.wrap e[y]=e[y]:=wr8 _ hv.1 (by omega);have hset:=zTD hc;refine cK1 @hc ?_;refine zD ?_;refine zG ?_;refine rg1 @hc ?_;refine rr1 (an @hw (an @hset @hc)) ?_;refine rr0 ?_;refine⟨y+1,by omega,by omega,?_⟩;exact kw0 [(0,some 0)]
 ·obtain rfl:y=e.length:=by omega
  have hall:=zTU e e.length;refine cF0 ?_;refine zK ?_;refine rg1 @hall ?_;exact zI (rt1 (an @txT.eq_1 (an @txB.eq_1 @zPu)))
def rnB(n:Nat)(gs:List (List Int))(a b c d e:Nat)(dn:Nat)(f g h:Nat):AObj:=.box 231 [.t 2 (.int .i64 n),.t 2 (.bool true),.t 1 (rows gs),.own 1 a,.own 2 b,.own 3 c,.own 4 d,.own 5 e,.t 2 (.int .i64 dn),.own 6 0,.own 7 f,.own 8 g,.own 9 h]
def rnO(n:Nat)(gs els:List (List Int))(pre last:List Int)(wds:List (List Nat))(right:List (List Int))(rls:List T)(dn:Nat)(beh sgl:List Int):List AObj:=
 [rnB n gs els.length pre.length last.length right.length rls.length dn wds.length beh.length sgl.length,
  .row 22 1 1 (els.map ints),.row 3 1 1 (pre.map (.int .i64)),.row 3 1 1 (last.map (.int .i64)),.row 22 1 1 (right.map ints),.row 224 2 1 rls,
  .map 9 3 (kents txT 0 els),.row 9 1 1 (wsT wds),.row 3 1 1 (beh.map (.int .i64)),.row 3 1 1 (sgl.map (.int .i64))]
@[simp] theorem zWW(ws:List (List Nat)):(wsT ws).length=ws.length:=by simp[wsT]
theorem zCi(e:List Int):kOK Tryz.prog 9 (txT e)=true:=zR6 _
theorem zIx{n:Nat}{gs els:List (List Int)}{pre last:List Int}{wds:List (List Nat)}{right:List (List Int)}{rls:List T}{dn:Nat}{beh sgl:List Int}{f:List Int}(p x:Int)(w:List Nat)(b:Int)(hn:n<=256)(he: ∀e∈els,TrN n e)(hf:TrN n f)(hnew:ixA f els=none)(hl:els.length<=100000)(h1:pre.length=els.length)(h2:last.length=els.length)(h3:wds.length=els.length)(h4:beh.length=els.length):
  FnS Tryz.prog 191 [.ptr 0 0 13,.t 1 (ints f),.t 2 (.int .i64 p),.t 2 (.int .i64 x),.t 2 (.str (zAU w)),.t 2 (.int .i64 b)] (rnO n gs els pre last wds right rls dn beh sgl) (.t 2 (.int .i64 els.length)) (rnO n gs (els++[f]) (pre++[p]) (last++[x]) (wds++[w]) right rls dn (beh++[b]) sgl):=by
 have hfn:=zMK hn he hf;have hall:=zB1 txT (P:=Tryz.prog) (K:=9) zCi els 0;have htx:=zJg (e:=f) (fun v hv=>by have:=hf.2 v hv;omega) (by have:=hf.1;omega);refine fI 84 #[.tmp 12] Tryz.func191 rfl ?_;refine rg1 (an @rnO.eq_1 @rnB.eq_1) ?_;refine rg0 ?_;refine rq1 htx (an @hfn (an @hnew (an @hall @zCi))) ?_;refine rg0 ?_;refine rg0 ?_;refine rg0 ?_;refine rg0 ?_;refine rg0 ?_;refine rg0 ?_;refine zI ?_;refine⟨⟨.inr rfl,_,[(0,some 0),(1,some 1),(2,some 2),(3,some 3),(4,some 4),(5,some 5),(6,some 6),(7,some 7),(8,some 8),(9,some 9)],(by first|rfl|(simp[ints,rows,scal,tpO,rnO,rnB,zBE,wsT];rfl)),?_,?_,?_,?_⟩,?_⟩
 all_goals try simp[ints,rows,rnO,rnB,zBE,wsT]
 exact Nat.le_min.2 ⟨Qy 1,zEi _⟩
theorem zHx{n:Nat}{gs els:List (List Int)}{pre last:List Int}{wds:List (List Nat)}{right:List (List Int)}{rls:List T}{dn:Nat}{beh sgl:List Int}{b x:Nat}(hb:b<right.length)(hx:x<right[b].length):
  FnS Tryz.prog 195 [.ptr 0 0 13,.t 2 (.int .i64 b),.t 2 (.int .i64 x)] (rnO n gs els pre last wds right rls dn beh sgl) (.t 2 (.int .i64 right[b][x])) (rnO n gs els pre last wds right rls dn beh sgl):=by
 have hb0: ¬(b:Int)= -1:=by omega
 refine fI 27 #[.tmp 6] Tryz.func195 rfl ?_;refine rg1 (an @rnO.eq_1 @rnB.eq_1) ?_;refine zD ?_;refine rg1 @hb0 ?_;refine cS0 ?_;refine rg1 (an @hb @hx) ?_;refine zI ?_;refine⟨⟨.inr rfl,_,[(0,some 0),(1,some 1),(2,some 2),(3,some 3),(4,some 4),(5,some 5),(6,some 6),(7,some 7),(8,some 8),(9,some 9)],(by first|rfl|(simp[ints,rows,scal,tpO,rnO,rnB];rfl)),?_,?_,?_,?_⟩,?_⟩
 all_goals try simp[rows,rnO,rnB]
theorem zHw{n:Nat}{gs els:List (List Int)}{pre last:List Int}{wds:List (List Nat)}{right:List (List Int)}{rls:List T}{dn:Nat}{beh sgl:List Int}:
  FnS Tryz.prog 172 [.ptr 0 0 13] (rnO n gs els pre last wds right rls dn beh sgl) (.t 2 (.bool (decide (dn=els.length)))) (rnO n gs els pre last wds right rls dn beh sgl):=by
 have he:((dn:Int)==(els.length:Int))=decide (dn=els.length):=by
  rw[Bool.eq_iff_iff];simp[Int.ofNat_inj]
 refine fI 15 #[.tmp 2] Tryz.func172 rfl ?_;refine rg1 (an @rnO.eq_1 @rnB.eq_1) ?_;refine rd0 ?_;refine zI ?_;refine⟨⟨.inr rfl,_,[(0,some 0),(1,some 1),(2,some 2),(3,some 3),(4,some 4),(5,some 5),(6,some 6),(7,some 7),(8,some 8),(9,some 9)],(by first|rfl|(simp[ints,rows,scal,tpO,rnO,rnB,he];rfl)),?_,?_,?_,?_⟩,?_⟩
 all_goals try simp[rows,rnO,rnB,he]
theorem zEr{n:Nat}{f:List Int}(hf:TrN n f)(hn1:1<=n)(hn:n<=32):FnA Tryz.prog 190 [.t 0 (ints f)] (.t 2 (.bool true)):=by
 have hl:=hf.1;have c1: ¬(f.length:Int)<1:=by omega
 have c2: ¬32<(f.length:Int):=by omega
 refine fI 28 #[.tmp 2] Tryz.func190 rfl ?_;refine rg0 ?_;refine zD ?_;refine rg1 (an @c1 @c2) ?_;refine cS0 ?_;refine zD ?_;refine rg0 ?_;refine zG ?_;refine awp_loop (fun k:Nat=>mkS [(0,.t 0 (ints f)),(13,.t 0 (ints f)),(14,.t 2 (.int .i64 f.length)),(15,.t 2 (.int .i64 k))] [] 0 28 [.any]) (fun k=>k<=f.length) (fun k=>f.length-k) ?_ ?_
 ·refine⟨0,by omega,?_⟩;exact kw0 []
 intro k hk;refine rg0 ?_;refine zD ?_;by_cases hlt:k<f.length
 ·have hv:=hf.2 f[k] (by simp);have d1: ¬f[k]<0:=by omega
  have d2: ¬(f.length:Int)<=f[k]:=by omega
  refine cK1 @hlt ?_;refine zD ?_;refine zG ?_;refine rg1 @hlt ?_;refine rg1 (an @d1 @d2) ?_;refine cY0 ?_;refine rr0 ?_;refine⟨k+1,by omega,by omega,?_⟩;exact kw0 []
 ·refine cF1 @hlt ?_;refine zK ?_;refine rg0 ?_;exact zI rt0
theorem zMR{n:Nat}(hn1:1<=n)(hn:n<=32):FnA Tryz.prog 192 [.t 2 (.int .i64 n)] (.t 2 (ints (idL n))):=by
 have c1: ¬(n:Int)<1:=by omega
 have c2: ¬32<(n:Int):=by omega
 refine fI 24 #[.tmp 2] Tryz.func192 rfl ?_;refine rg0 ?_;refine zD ?_;refine rg1 (an @c1 @c2) ?_;refine cS0 ?_;refine rg0 ?_;refine zD ?_;refine rg0 ?_;refine zG ?_;refine awp_loop (fun k:Nat=>mkS [(3,.own 0 n),(14,.t 2 (.int .i64 n)),(15,.t 2 (.int .i64 k))] [(0,.row 3 1 2 (tab n fun i=>.int .i64 (if i<k then(i:Int)else 0)))] 1 24 [.any]) (fun k=>k<=n) (fun k=>n-k) ?_ ?_
 ·refine⟨0,by omega,?_⟩;exact kw1 [(0,some 8000000)] @zr
 intro k hk;refine rg0 ?_;refine zD ?_;by_cases hlt:k<n
 ·refine cT1 @hlt ?_;refine zY ?_;refine zD ?_;refine zG ?_;refine rg0 ?_;refine rr1 @hlt ?_;refine rr0 ?_;refine⟨k+1,by omega,by omega,?_⟩;refine zP [(0,some 0)] rfl ?_ ?_ ?_ ?_
  all_goals try simp
  rw[zg];refine zT (fun i hi=>?_);by_cases e:i=k
  ·simp[e]
  ·rw[if_neg e];by_cases e2:i<k
   ·rw[if_pos e2,if_pos (by omega)]
   ·rw[if_neg e2,if_neg (by omega)]
 ·refine cF1 @hlt ?_;refine zK ?_;refine rg0 ?_;refine zI ?_;refine⟨⟨.inr rfl,_,[],rfl,trivial,trivial,by simp,?_⟩,by simp⟩;simp[ints,idL];rw[ze];exact zT (fun i hi=>by rw[if_pos (by omega)])
def cmC(f g:List Int)(k:Nat):List T:=tab f.length fun i=>.int .i64 (if i<k then g.getD (f.getD i 0).toNat 0 else 0)
theorem zTK{f g:List Int}{k:Nat}(h:k<f.length)(v:Int)(hv:g.getD f[k].toNat 0=v):(cmC f g k).set k (.int .i64 v)=cmC f g (k+1):=by
 unfold cmC;rw[zg];refine zT fun i hi=>?_
 by_cases c:i=k
 ·subst c;rw[if_pos rfl,if_pos (by omega),Qv (l:=f),Qj h,←hv];rfl
 ·rw[if_neg c];by_cases c2:i<k
  ·rw[if_pos c2,if_pos (by omega)]
  ·rw[if_neg c2,if_neg (by omega)]
theorem zQg(f g:List Int):List.replicate f.length (T.int .i64 0)=cmC f g 0:=by
 rw[zr];rfl
theorem zRS(f g:List Int):cmC f g f.length=(zt f g).map (.int .i64):=by
 apply List.ext_getElem?;intro i;by_cases h:i<f.length
 ·unfold cmC zt;rw[zX _ h,if_pos h,Qh,Qh,Qv (l:=f),Qj h];rfl
 ·rw[Qg (by simp[cmC];omega),Qg (by simp[zt];omega)]
@[simp] theorem zWe(f g:List Int)(k:Nat):(cmC f g k).length=f.length:=by simp[cmC]
theorem zIp{n:Nat}{f g:List Int}(hf:TrN n f)(hg:TrN n g)(hn1:1<=n)(hn:n<=32):FnA Tryz.prog 194 [.t 0 (ints f),.t 0 (ints g)] (.t 2 (ints (zt f g))):=by
 have hfl:=hf.1;have hgl:=hg.1;refine fI 42 #[.tmp 4] Tryz.func194 rfl ?_;refine rg0 ?_;refine zD ?_;refine zO fun K hK=>?_
 simp(maxSteps:=2000000)(disch:=omega)[hfl,hgl]
 (repeat' apply And.intro)
 all_goals (try omega)
 refine zJ (caps:=[]) (zEr hf hn1 hn) [] [] 2 (by simp) rfl rfl rfl (by kernel_rfl) (by simp) ?_ trivial trivial rfl trivial trivial (by simp) ?_
 ·simp[scal,ints]
 simp(maxSteps:=2000000)(disch:=omega)[scal]
 (repeat' apply And.intro)
 all_goals (try omega)
 refine zJ (caps:=[]) (zEr hg hn1 hn) [] [] 2 (by simp) rfl rfl rfl (by kernel_rfl) (by simp) ?_ trivial trivial rfl trivial trivial (by simp) ?_
 ·simp[scal,ints]
 simp(maxSteps:=2000000)(disch:=omega)[scal]
 (repeat' first|apply hK|apply And.intro)<;>try first|omega|rfl|(simp<;>omega)
 refine cS0 ?_;refine rg0 ?_;refine zD ?_;refine rg0 ?_;refine zG ?_;refine awp_loop (fun k:Nat=>mkS [(1,.t 0 (ints g)),(5,.own 0 f.length),(26,.t 0 (ints f)),(27,.t 2 (.int .i64 f.length)),(28,.t 2 (.int .i64 k))] [(0,.row 3 1 2 (cmC f g k))] 1 42 [.any,.any]) (fun k=>k<=f.length) (fun k=>f.length-k) ?_ ?_
 ·refine⟨0,by omega,?_⟩;refine zP [(0,some 18000000)] rfl ?_ ?_ ?_ ?_
  all_goals try simp[ints,←zQg]
 intro k hk;refine rg0 ?_;refine zD ?_;by_cases hlt:k<f.length
 ·have hv:=hf.2 f[k] (by simp);obtain⟨m,hm⟩: ∃m:Nat,f[k]=(m:Int):=⟨f[k].toNat,by omega⟩;have hml:m<g.length:=by omega
  have hst:=zTK (g:=g) hlt g[m] (by rw[hm,Qv,Int.toNat_natCast,Qj hml];rfl);refine cT1 @hlt ?_;refine zY ?_;refine zD ?_;refine zG ?_;refine rg1 (an @hlt @hm) ?_;refine rr1 (an @hml (an @hst @hlt)) ?_;refine rr0 ?_;refine⟨k+1,by omega,by omega,?_⟩;exact kw0 [(0,some 0)]
 ·obtain rfl:k=f.length:=by omega
  refine cF0 ?_;refine zK ?_;refine rg0 ?_;refine zI ?_;refine⟨⟨.inr rfl,_,[],rfl,trivial,trivial,by simp,?_⟩,by simp⟩;simp[zRS];exact⟨by simp[zt],rfl⟩
theorem zJP{n:Nat}{gs els:List (List Int)}{pre last:List Int}{wds:List (List Nat)}{right:List (List Int)}{rls:List T}{dn:Nat}{beh sgl:List Int}{b x m:Nat}(hb:b<right.length)(hx:x<right[b].length)(hm:right[b][x]=(m:Int))(h1:m<pre.length)(h2:m<last.length):
  ∃c:Bool,FnS Tryz.prog 196 [.ptr 0 0 13,.t 2 (.int .i64 b),.t 2 (.int .i64 x)] (rnO n gs els pre last wds right rls dn beh sgl) (.t 2 (.bool c)) (rnO n gs els pre last wds right rls dn beh sgl):=by
 have haf:=zHx (n:=n) (gs:=gs) (els:=els) (pre:=pre) (last:=last) (wds:=wds) (rls:=rls) (dn:=dn) (beh:=beh) (sgl:=sgl) hb hx;rw[hm]at haf;by_cases c1:pre[m]=(b:Int)
 ·by_cases c2:last[m]=(x:Int)
  ·refine⟨true,?_⟩;refine fI 34 #[.tmp 6] Tryz.func196 rfl ?_;refine rg1 (an @rnO.eq_1 @rnB.eq_1) ?_;refine zO fun K hK=>?_
   simp(maxSteps:=2000000)(disch:=omega)
   (repeat' apply And.intro)
   all_goals (try omega)
   refine zJ (caps:=[]) (haf) [0,1,2,3,4,5,6,7,8,9] [0,4000010,4000011,4000012,4000013,4000014,4000015,4000016,4000017,4000018] 1 rfl rfl rfl rfl (by kernel_rfl) (by simp) ?_ ?_ (by simp) rfl (by simp) ⟨.inr ⟨rfl,0,_,_,_,_,_,rfl,rfl,(by first|rfl|simp[rnO,rnB]),rfl,(by first|rfl|simp[rnO,rnB])⟩,.inl ⟨by omega,by omega⟩,.inl ⟨by omega,by omega⟩,.inl ⟨by omega,by omega⟩,.inl ⟨by omega,by omega⟩,.inl ⟨by omega,by omega⟩,.inl ⟨by omega,by omega⟩,.inl ⟨by omega,by omega⟩,.inl ⟨by omega,by omega⟩,.inl ⟨by omega,by omega⟩,trivial⟩ (by simp[rnO,rnB]) ?_
   ·simp[scal]
   ·simp[scal,rows,rnO,rnB]
   simp(maxSteps:=2000000)(disch:=omega)[rows,scal,rnO,rnB]
   (repeat' first|apply hK|apply And.intro)<;>try first|omega|rfl|(simp<;>omega)
   refine rg1 (an @h1 (an @h2 (an @c1 @c2))) ?_;refine zI ?_;refine⟨⟨.inr rfl,_,[(0,some 0),(1,some 4000010),(2,some 4000011),(3,some 4000012),(4,some 4000013),(5,some 4000014),(6,some 4000015),(7,some 4000016),(8,some 4000017),(9,some 4000018)],(by first|rfl|(simp[ints,rows,scal,tpO,rnO,rnB];rfl)),?_,?_,?_,?_⟩,?_⟩
   all_goals try simp[rows,rnO,rnB]
  ·refine⟨false,?_⟩;refine fI 34 #[.tmp 6] Tryz.func196 rfl ?_;refine rg1 (an @rnO.eq_1 @rnB.eq_1) ?_;refine zO fun K hK=>?_
   simp(maxSteps:=2000000)(disch:=omega)
   (repeat' apply And.intro)
   all_goals (try omega)
   refine zJ (caps:=[]) (haf) [0,1,2,3,4,5,6,7,8,9] [0,4000010,4000011,4000012,4000013,4000014,4000015,4000016,4000017,4000018] 1 rfl rfl rfl rfl (by kernel_rfl) (by simp) ?_ ?_ (by simp) rfl (by simp) ⟨.inr ⟨rfl,0,_,_,_,_,_,rfl,rfl,(by first|rfl|simp[rnO,rnB]),rfl,(by first|rfl|simp[rnO,rnB])⟩,.inl ⟨by omega,by omega⟩,.inl ⟨by omega,by omega⟩,.inl ⟨by omega,by omega⟩,.inl ⟨by omega,by omega⟩,.inl ⟨by omega,by omega⟩,.inl ⟨by omega,by omega⟩,.inl ⟨by omega,by omega⟩,.inl ⟨by omega,by omega⟩,.inl ⟨by omega,by omega⟩,trivial⟩ (by simp[rnO,rnB]) ?_
   ·simp[scal]
   ·simp[scal,rows,rnO,rnB]
   simp(maxSteps:=2000000)(disch:=omega)[rows,scal,rnO,rnB]
   (repeat' first|apply hK|apply And.intro)<;>try first|omega|rfl|(simp<;>omega)
   refine rg1 (an @h1 (an @h2 (an @c1 @c2))) ?_;refine zI ?_;refine⟨⟨.inr rfl,_,[(0,some 0),(1,some 4000010),(2,some 4000011),(3,some 4000012),(4,some 4000013),(5,some 4000014),(6,some 4000015),(7,some 4000016),(8,some 4000017),(9,some 4000018)],(by first|rfl|(simp[ints,rows,scal,tpO,rnO,rnB];rfl)),?_,?_,?_,?_⟩,?_⟩
   all_goals try simp[rows,rnO,rnB]
   exact c2
 ·refine⟨false,?_⟩;have c3:(pre[m]==(b:Int))=false:=by simpa using c1
  refine fI 34 #[.tmp 6] Tryz.func196 rfl ?_;refine rg1 (an @rnO.eq_1 @rnB.eq_1) ?_;refine zO fun K hK=>?_
  simp(maxSteps:=2000000)(disch:=omega)
  (repeat' apply And.intro)
  all_goals (try omega)
  refine zJ (caps:=[]) (haf) [0,1,2,3,4,5,6,7,8,9] [0,4000010,4000011,4000012,4000013,4000014,4000015,4000016,4000017,4000018] 1 rfl rfl rfl rfl (by kernel_rfl) (by simp) ?_ ?_ (by simp) rfl (by simp) ⟨.inr ⟨rfl,0,_,_,_,_,_,rfl,rfl,(by first|rfl|simp[rnO,rnB]),rfl,(by first|rfl|simp[rnO,rnB])⟩,.inl ⟨by omega,by omega⟩,.inl ⟨by omega,by omega⟩,.inl ⟨by omega,by omega⟩,.inl ⟨by omega,by omega⟩,.inl ⟨by omega,by omega⟩,.inl ⟨by omega,by omega⟩,.inl ⟨by omega,by omega⟩,.inl ⟨by omega,by omega⟩,.inl ⟨by omega,by omega⟩,trivial⟩ (by simp[rnO,rnB]) ?_
  ·simp[scal]
  ·simp[scal,rows,rnO,rnB]
  simp(maxSteps:=2000000)(disch:=omega)[rows,scal,rnO,rnB]
  (repeat' first|apply hK|apply And.intro)<;>try first|omega|rfl|(simp<;>omega)
  refine rg1 (an @h1 (an @h2 @c3)) ?_;refine zI ?_;refine⟨⟨.inr rfl,_,[(0,some 0),(1,some 4000010),(2,some 4000011),(3,some 4000012),(4,some 4000013),(5,some 4000014),(6,some 4000015),(7,some 4000016),(8,some 4000017),(9,some 4000018)],(by first|rfl|(simp[ints,rows,scal,tpO,rnO,rnB];rfl)),?_,?_,?_,?_⟩,?_⟩
  all_goals try simp[rows,rnO,rnB]
structure RnI(n:Nat)(gs els:List (List Int))(pre last:List Int)(wds:List (List Nat))(right:List (List Int))(d:Nat)(beh:List Int):Prop where
 pr:PrI n gs els pre last wds right d
 bl:beh.length=els.length
 bt: ∀t,0<t->t<els.length-> ∃b:Nat,beh[t]? =some (b:Int)/\b<t
theorem RnI.app{n:Nat}{gs els els':List (List Int)}{pre last pre' last':List Int}{wds wds':List (List Nat)}{right:List (List Int)}{d:Nat}{beh:List Int}(h:RnI n gs els pre last wds right d beh)(h':PrI n gs els' pre' last' wds' right d)(hl:els'.length=els.length+1){m:Nat}(hm:m<els.length):RnI n gs els' pre' last' wds' right d (beh++[(m:Int)]):=by
 have hb:=h.bl;refine⟨h',by simp[hb,hl],fun t h1 h2=>?_⟩;by_cases ht:t<els.length
 ·obtain⟨b,b1,b2⟩:=h.bt t h1 ht;exact⟨b,by rw[Qw (by omega)];exact b1,b2⟩
 ·have:t=els.length:=by omega
  subst this;exact⟨m,by rw[Qa (by omega),hb];simp,hm⟩
def rwC(L:Nat)(rw:List Int):List T:=rw.map (.int .i64)++List.replicate (L-rw.length) (.int .i64 0)
theorem zMe{L:Nat}{rw:List Int}(h:rw.length<=L):(rwC L rw).length=L:=by simp[rwC];omega
theorem zSP(L:Nat):List.replicate L (T.int .i64 0)=rwC L []:=by simp[rwC]
theorem zQI{L:Nat}{rw:List Int}(h:rw.length=L):rwC L rw=rw.map (.int .i64):=by simp[rwC,h]
theorem zMb{L:Nat}{rw:List Int}(h:rw.length<L)(v:Int):(rwC L rw).set rw.length (.int .i64 v)=rwC L (rw++[v]):=by
 unfold rwC;obtain⟨k,hk⟩: ∃k,L-rw.length=k+1:=⟨L-rw.length-1,by omega⟩;rw[hk,List.set_append_right _ _ (by simp)];simp only[List.length_map,Nat.sub_self,List.replicate_succ,List.set_cons_zero,List.map_append,List.map_cons,List.map_nil,List.append_assoc,List.singleton_append];rw[show L-(rw++[v]).length=k by simp;omega]
def rnM(n:Nat)(gs els:List (List Int))(pre last:List Int)(wds:List (List Nat))(right:List (List Int))(rls:List T)(dn:Nat)(beh sgl:List Int):List (Nat×AObj):=
 [(0,rnB n gs els.length pre.length last.length right.length rls.length dn wds.length beh.length sgl.length),
  (1,.row 22 1 1 (els.map ints)),(2,.row 3 1 1 (pre.map (.int .i64))),(3,.row 3 1 1 (last.map (.int .i64))),(4,.row 22 1 1 (right.map ints)),(5,.row 224 2 1 rls),
  (6,.map 9 3 (kents txT 0 els)),(7,.row 9 1 1 (wsT wds)),(8,.row 3 1 1 (beh.map (.int .i64))),(9,.row 3 1 1 (sgl.map (.int .i64)))]
def PcG(n:Nat)(gs:List (List Int))(sgl:List Int)(d:Nat)(res:AV)(H':List AObj):Prop:=∃els pre last wds right rls d' beh,H'=rnO n gs els pre last wds right rls d' beh sgl/\((res= .t 2 (.int .i64 3)/\Big n gs)\/(res= .t 2 (.int .i64 0)/\d'=d+1/\RnI n gs els pre last wds right (d+1) beh/\rls.length<=12+12*(d+1)))
theorem zJa{n:Nat}{gs els:List (List Int)}{pre last:List Int}{wds:List (List Nat)}{right:List (List Int)}{rls:List T}{d:Nat}{beh:List Int}(sgl:List Int)(h:zIi n gs)(hI:RnI n gs els pre last wds right d beh)(hd:d<els.length)(hrl:rls.length<=12+12*d):
  ∃res H',PcG n gs sgl d res H'/\FnS Tryz.prog 173 [.ptr 0 0 13] (rnO n gs els pre last wds right rls d beh sgl) res H':=by
 have hg1:=h.g1;have hg2:=h.g2;have hn1:=h.n1;have hn2:=h.n2;have hel:=hI.pr.el;have hdl:=hI.pr.dl;have hrd:=hI.pr.rd;refine zAp Tryz.func173 rfl (by simp[Tryz.f173]) ?_;rw[show Tryz.f173.ntmps=164 from rfl,show Tryz.f173.results= #[.tmp 2]from rfl];refine rg1 (an @rnO.eq_1 @rnB.eq_1) ?_;refine rg0 ?_;refine rg0 ?_;refine zD ?_;refine rg0 ?_;refine zG ?_;refine awp_loop (fun y:Nat×List (List Int)×List Int×List Int×List (List Nat)×List T×List Int×List Int=>mkS [(0,.ptr 0 0 13),(3,.t 2 (.int .i64 d)),(4,.own 10 gs.length),(27,.t 1 (rows gs)),(28,.t 2 (.int .i64 gs.length)),(29,.t 2 (.int .i64 y.1))]
   (rnM n gs y.2.1 y.2.2.1 y.2.2.2.1 y.2.2.2.2.1 right y.2.2.2.2.2.1 d y.2.2.2.2.2.2.1 sgl++[(10,.row 3 1 2 (rwC gs.length y.2.2.2.2.2.2.2))]) 11 164 [.ptr 0 0 13])
  (fun y=>y.1<=gs.length/\RnI n gs y.2.1 y.2.2.1 y.2.2.2.1 y.2.2.2.2.1 right d y.2.2.2.2.2.2.1/\d<y.2.1.length/\y.2.2.2.2.2.1.length<=12+12*d+2*y.1/\y.2.2.2.2.2.2.2.length=y.1/\zCU gs y.2.1 d y.2.2.2.2.2.2.2) (fun y=>gs.length-y.1) ?_ ?_
 ·refine⟨(0,els,pre,last,wds,rls,beh,[]),⟨by simp,hI,hd,by simp;omega,rfl,fun x j hx=>by simp at hx⟩,?_⟩;exact kw1 [(0,some 0),(1,some 1),(2,some 2),(3,some 3),(4,some 4),(5,some 5),(6,some 6),(7,some 7),(8,some 8),(9,some 9),(10,some 13000010)] (an @rnM.eq_1 (an @rnB.eq_1 (an @zSP @rows.eq_1)))
 clear hI hd hrl hel hdl;rintro⟨x,els,pre,last,wds,rls,beh,rw'⟩ ⟨hx,hI,hd,hrl,hrwl,hrow⟩;simp only at hx hI hd hrl hrwl hrow;have hen:=hI.pr.en;have hel:=hI.pr.el;have hle:=hen.le;have hlp:=hen.wd.lp;have hll:=hen.wd.ll;have hbl:=hI.bl;have hdw:d<wds.length:=by omega
 have hdb:d<beh.length:=by omega
 refine rg1 (an @rnM.eq_1 @rnB.eq_1) ?_;refine zD ?_;by_cases hlt:x<gs.length
 ·obtain⟨v1,v2,v3⟩:=hen.val d wds[d] els[d] (by simp) (by simp);have hgx:=h.tr gs[x] (by simp);have hft:=v2.comp hgx;have hall:=zB1 txT (P:=Tryz.prog) (K:=9) zCi els 0;have helt: ∀e∈els,TrN n e:=fun e he=>by
   obtain⟨i,hi,rfl⟩:=Qb he;exact(hen.val i wds[i] els[i] (by simp) (by simp)).2.1
  have hfn:=zMK (f:=zt els[d] gs[x]) (by omega) helt hft;have htx:=zJg (e:=zt els[d] gs[x]) (fun v hv=>by have:=hft.2 v hv;omega) (by have:=hft.1;omega);have henc:Utf8.encode (IntKind.i32.wrap (97+(x:Int)))=zAU [x]:=by
   rw[show IntKind.i32.wrap (97+(x:Int))=97+x by rw[IntKind.wrap_i32];omega];exact zGC (by omega)
  have hwd:(wsT wds)[d]? =some (.str (zAU wds[d])):=by simp[wsT,hdw]
  have hwlen:=hen.wd.len d wds[d] (by simp);refine cT1 @hlt ?_;refine zY ?_;refine zD ?_;refine zG ?_;refine rg1 @hlt ?_;refine rc1 (zIp v2 hgx (by omega) (by omega)) @hd ?_
  cases hix:ixA (zt els[d] gs[x]) els with
  |some j=>
   have hj:=zB7 hix;have hjl:=zRY hix;have hjw:j<wds.length:=by omega
   have hje:=zBu txT els 0 j _ hj;have hz1:zC2 Tryz.prog 3=some (.int .i64 0):=by kernel_rfl
   refine zo (by kernel_rfl) (fun K hK=>?_);simp(maxSteps:=2000000)(disch:=omega)
   (repeat' apply And.intro)
   all_goals (try omega)
   refine zV (caps:=[]) (htx) [] [] 2 rfl rfl rfl rfl (by kernel_rfl) (by simp) ?_ trivial trivial rfl trivial trivial (by simp) ?_
   ·simp[scal,ints]
   simp(maxSteps:=2000000)(disch:=omega)[scal,hfn,hix,hall,zCi,hz1,hje]
   (repeat' first|apply hK|apply And.intro)<;>try first|(show zAf _ _=true;kernel_rfl)|(show okH _ _ _=true;kernel_rfl)|omega|rfl|(simp<;>omega)
   refine rg1 (an @hwd (an @hdw (an @henc @zAj))) ?_;refine zd (σ':=mkS [(0,.ptr 0 0 13),(3,.t 2 (.int .i64 d)),(4,.own 10 gs.length),(5,.t 2 (.int .i64 x)),(8,.t 2 (.int .i64 j)),(9,.t 2 (.bool true)),(10,.t 2 (.str (zAU (wds[d]++[x])))),(27,.t 1 (rows gs)),(28,.t 2 (.int .i64 gs.length)),(29,.t 2 (.int .i64 x))]
    (rnM n gs els pre last wds right rls d beh sgl++[(10,.row 3 1 2 (rwC gs.length rw'))]) 11 164 [.ptr 0 0 13]) ?_ ?_
   ·exact kw1 [(0,some 0),(1,some 1),(2,some 2),(3,some 3),(4,some 4),(5,some 5),(6,some 6),(7,some 7),(8,some 8),(9,some 9),(10,some 10)] (an @rnM.eq_1 (an @rnB.eq_1 @rows.eq_1))
   refine zEU (fun σ'=>∃els' pre' last' wds' rls' beh',∃m:Nat,RnI n gs els' pre' last' wds' right d beh'/\d<els'.length/\rls'.length<=12+12*d+2*(x+1)/\zCU gs els' d (rw'++[(m:Int)])/\Wk σ' (mkS [(0,.ptr 0 0 13),(3,.t 2 (.int .i64 d)),(4,.own 10 gs.length),(5,.t 2 (.int .i64 x)),(8,.t 2 (.int .i64 m)),(27,.t 1 (rows gs)),(28,.t 2 (.int .i64 gs.length)),(29,.t 2 (.int .i64 x))]
    (rnM n gs els' pre' last' wds' right rls' d beh' sgl++[(10,.row 3 1 2 (rwC gs.length rw'))]) 11 164 [.ptr 0 0 13])) ?_ ?_
   ·rintro σ' ⟨els',pre',last',wds',rls',beh',m,hI',hd',hrl',hrow',hw⟩;refine zd hw ?_;clear hw;have hst:=zMb (L:=gs.length) (rw:=rw') (by omega) m;rw[hrwl]at hst;have hrcl:=zMe (L:=gs.length) (rw:=rw') (by omega);refine rr1 (an @rnM.eq_1 (an @rnB.eq_1 (an @hst (an @hrcl @hlt)))) ?_;refine rr0 ?_;refine⟨(x+1,els',pre',last',wds',rls',beh',rw'++[(m:Int)]),⟨by simp;omega,hI',hd',by simp;omega,by simp[hrwl],hrow'⟩,by simp;omega,?_⟩;exact kw1 [(0,some 0),(1,some 1),(2,some 2),(3,some 3),(4,some 4),(5,some 5),(6,some 6),(7,some 7),(8,some 8),(9,some 9),(10,some 10)] (an @rnM.eq_1 (an @rnB.eq_1 @rows.eq_1))
   have hrow':zCU gs els d (rw'++[(j:Int)]):=hrow.put (Qj hd) (by rw[hrwl];exact Qj hlt) hj;have hwj:(wsT wds)[j]? =some (.str (zAU wds[j])):=by simp[wsT,hjw]
   refine zG ?_;refine rg1 (an @rnM.eq_1 @rnB.eq_1) ?_;refine cF0 ?_;refine rg0 ?_;refine cF0 ?_;by_cases hu0:(zAU wds[d]).toList.isEmpty=true
   ·refine rg1 (an @hwd (an @hdw @hu0)) ?_;refine cF0 ?_;refine zY ?_;refine⟨_,_,_,_,rls,_,j,hI,hd,by omega,hrow',?_⟩;exact kw1 [(0,some 0),(1,some 1),(2,some 2),(3,some 3),(4,some 4),(5,some 5),(6,some 6),(7,some 7),(8,some 8),(9,some 9),(10,some 10)] (an @rnM.eq_1 (an @rnB.eq_1 @rows.eq_1))
   ·have hd0:0<d:=by
     refine Nat.pos_of_ne_zero fun e=>hu0 ?_
     subst e;have h0:=hen.one.2;rw[Qj hdw]at h0;injection h0 with h0;rw[h0];unfold ByteArray.toList ByteArray.toList.loop;simp[zAU,ByteArray.size]
    obtain⟨b,hb1,hb2⟩:=hI.bt d hd0 hd;obtain⟨hbx,hb3⟩:=Qq.1 hb1;have hbr:b<right.length:=by omega
    obtain⟨hr1,hr2⟩:=hI.pr.rg b right[b] (by simp);have hxr:x<right[b].length:=by omega
    obtain⟨m,e,g,hm,-,-,hme⟩:=hr2 x right[b][x] (by simp);have hml:=(Qq.1 hme).1;obtain⟨c,hre⟩:=zJP (n:=n) (gs:=gs) (els:=els) (pre:=pre) (last:=last) (wds:=wds) (rls:=rls) (dn:=d) (beh:=beh) (sgl:=sgl) hbr hxr hm (by omega) (by omega);refine zO fun K hK=>?_
    simp(maxSteps:=2000000)(disch:=omega)[hwd,hdw,hu0,hdb,hb3]
    (repeat' apply And.intro)
    all_goals (try omega)
    refine zJ (caps:=[]) (hre) [0,1,2,3,4,5,6,7,8,9] [0,33000011,33000012,33000013,33000014,33000015,33000016,33000017,33000018,33000019] 1 (by simp) rfl rfl rfl (by kernel_rfl) (by simp) ?_ ?_ (by simp) rfl (by simp) ⟨.inr ⟨rfl,0,_,_,_,_,_,rfl,rfl,(by first|rfl|simp[rnO,rnB]),rfl,(by first|rfl|simp[rnO,rnB])⟩,.inl ⟨by omega,by omega⟩,.inl ⟨by omega,by omega⟩,.inl ⟨by omega,by omega⟩,.inl ⟨by omega,by omega⟩,.inl ⟨by omega,by omega⟩,.inl ⟨by omega,by omega⟩,.inl ⟨by omega,by omega⟩,.inl ⟨by omega,by omega⟩,.inl ⟨by omega,by omega⟩,trivial⟩ (by simp[rnO,rnB]) ?_
    ·simp[scal]
    ·simp[scal,rows,rnO,rnB]
    simp(maxSteps:=2000000)(disch:=omega)[rows,scal,rnO,rnB]
    (repeat' first|apply hK|apply And.intro)<;>try first|omega|rfl|(simp<;>omega)
    cases c with
    |false=>
     refine cF0 ?_;refine zY ?_;refine⟨_,_,_,_,rls,_,j,hI,hd,by omega,hrow',?_⟩;exact kw1 [(0,some 0),(1,some 33000011),(2,some 33000012),(3,some 33000013),(4,some 33000014),(5,some 33000015),(6,some 33000016),(7,some 33000017),(8,some 33000018),(9,some 33000019),(10,some 10)] (an @rnM.eq_1 (an @rnB.eq_1 @rows.eq_1))
    |true=>
     refine cT0 ?_;refine zAW (by kernel_rfl) (fun K hK=>?_);simp(maxSteps:=2000000)(disch:=omega)[hwj,hjw]
     (repeat' first|apply hK|apply And.intro)<;>try first|(show zAf _ _=true;kernel_rfl)|(show okH _ _ _=true;kernel_rfl)|omega|rfl|(simp<;>omega)
     refine⟨_,_,_,_,rls++[.str (zAU (wds[d]++[x])),.str (zAU wds[j])],_,j,hI,hd,by simp;omega,hrow',?_⟩;refine zP [(0,some 0),(1,some 33000011),(2,some 33000012),(3,some 33000013),(4,some 33000014),(5,some 33000015),(6,some 33000016),(7,some 33000017),(8,some 33000018),(9,some 33000019),(10,some 10)] rfl ?_ ?_ ?_ ?_
     all_goals try simp[rnM,rnB,rows]
  |none=>
   have hnot:=zDQ hix;have hd0:0<d:=by
    refine Nat.pos_of_ne_zero fun e=>hnot ?_
    subst e;have h0:=hen.one.1;rw[Qj hd]at h0;injection h0 with h0;rw[h0,zAn hgx];exact hI.pr.gn _ (by simp)
   have hz1:zC2 Tryz.prog 3=some (.int .i64 0):=by kernel_rfl
   refine zo (by kernel_rfl) (fun K hK=>?_);simp(maxSteps:=2000000)(disch:=omega)
   (repeat' apply And.intro)
   all_goals (try omega)
   refine zV (caps:=[]) (htx) [] [] 2 rfl rfl rfl rfl (by kernel_rfl) (by simp) ?_ trivial trivial rfl trivial trivial (by simp) ?_
   ·simp[scal,ints]
   simp(maxSteps:=2000000)(disch:=omega)[scal,hfn,hix,hall,zCi,hz1]
   (repeat' first|apply hK|apply And.intro)<;>try first|(show zAf _ _=true;kernel_rfl)|(show okH _ _ _=true;kernel_rfl)|omega|rfl|(simp<;>omega)
   refine rg1 (an @hwd (an @hdw (an @henc @zAj))) ?_;refine zd (σ':=mkS [(0,.ptr 0 0 13),(3,.t 2 (.int .i64 d)),(4,.own 10 gs.length),(5,.t 2 (.int .i64 x)),(7,.t 2 (ints (zt els[d] gs[x]))),(9,.t 2 (.bool false)),(10,.t 2 (.str (zAU (wds[d]++[x])))),(27,.t 1 (rows gs)),(28,.t 2 (.int .i64 gs.length)),(29,.t 2 (.int .i64 x))]
    (rnM n gs els pre last wds right rls d beh sgl++[(10,.row 3 1 2 (rwC gs.length rw'))]) 11 164 [.ptr 0 0 13]) ?_ ?_
   ·exact kw1 [(0,some 0),(1,some 1),(2,some 2),(3,some 3),(4,some 4),(5,some 5),(6,some 6),(7,some 7),(8,some 8),(9,some 9),(10,some 10)] (an @rnM.eq_1 (an @rnB.eq_1 @rows.eq_1))
   refine zEU (fun σ'=>∃els' pre' last' wds' rls' beh',∃m:Nat,RnI n gs els' pre' last' wds' right d beh'/\d<els'.length/\rls'.length<=12+12*d+2*(x+1)/\zCU gs els' d (rw'++[(m:Int)])/\Wk σ' (mkS [(0,.ptr 0 0 13),(3,.t 2 (.int .i64 d)),(4,.own 10 gs.length),(5,.t 2 (.int .i64 x)),(8,.t 2 (.int .i64 m)),(27,.t 1 (rows gs)),(28,.t 2 (.int .i64 gs.length)),(29,.t 2 (.int .i64 x))]
    (rnM n gs els' pre' last' wds' right rls' d beh' sgl++[(10,.row 3 1 2 (rwC gs.length rw'))]) 11 164 [.ptr 0 0 13])) ?_ ?_
   ·rintro σ' ⟨els',pre',last',wds',rls',beh',m,hI',hd',hrl',hrow',hw⟩;refine zd hw ?_;clear hw;have hst:=zMb (L:=gs.length) (rw:=rw') (by omega) m;rw[hrwl]at hst;have hrcl:=zMe (L:=gs.length) (rw:=rw') (by omega);refine rr1 (an @rnM.eq_1 (an @rnB.eq_1 (an @hst (an @hrcl @hlt)))) ?_;refine rr0 ?_;refine⟨(x+1,els',pre',last',wds',rls',beh',rw'++[(m:Int)]),⟨by simp;omega,hI',hd',by simp;omega,by simp[hrwl],hrow'⟩,by simp;omega,?_⟩;exact kw1 [(0,some 0),(1,some 1),(2,some 2),(3,some 3),(4,some 4),(5,some 5),(6,some 6),(7,some 7),(8,some 8),(9,some 9),(10,some 10)] (an @rnM.eq_1 (an @rnB.eq_1 @rows.eq_1))
   refine zG ?_;by_cases h2k:els.length=2000
   ·have h2ki:(els.length:Int)=2000:=by omega
    have hbig:Big n gs:=hen.big h2k hd hlt (fun i hi e=>hnot (e▸by simp));refine rg1 (an @rnM.eq_1 (an @rnB.eq_1 @h2ki)) ?_;refine cT0 ?_;refine rg0 ?_;refine zI ?_;refine⟨⟨_,_,⟨els,pre,last,wds,right,rls,d,beh,rfl,.inl ⟨rfl,hbig⟩⟩,?_⟩,by simp⟩;refine zBT ?_;refine⟨.inr rfl,_,[(0,some 0),(1,some 1),(2,some 2),(3,some 3),(4,some 4),(5,some 5),(6,some 6),(7,some 7),(8,some 8),(9,some 9)],(by first|(simp;rfl)|rfl),?_,?_,?_,?_⟩
    all_goals try simp +contextual (disch:=omega)[zc,zf,zAA,zBS,rows,rnO,rnB]
   ·have h2ki: ¬(els.length:Int)=2000:=by omega
    have h0:0<d:=hd0;obtain⟨b,hb1,hb2⟩:=hI.bt d h0 hd;obtain⟨hbx,hb3⟩:=Qq.1 hb1;have hbr:b<right.length:=by omega
    obtain⟨hr1,hr2⟩:=hI.pr.rg b right[b] (by simp);have hxr:x<right[b].length:=by omega
    obtain⟨m,e,g,hm,-,-,hme⟩:=hr2 x right[b][x] (by simp);have hml:=(Qq.1 hme).1;have haf:=zHx (n:=n) (gs:=gs) (els:=els) (pre:=pre) (last:=last) (wds:=wds) (rls:=rls) (dn:=d) (beh:=beh) (sgl:=sgl) hbr hxr;rw[hm]at haf;have hadd:=zIx (right:=right) (rls:=rls) (dn:=d) (sgl:=sgl) (gs:=gs) (d:Int) (x:Int) (wds[d]++[x]) (m:Int) (by omega) helt hft hix (by omega) (show pre.length=els.length by omega) (show last.length=els.length by omega) hle.symm hbl;have hP:=hI.pr.add h.tr hd hdw hlt (fun i hi e=>hnot (e▸by simp)) h2k hrow hrwl;have hR:=hI.app hP (by simp) hml;refine rg1 (an @rnM.eq_1 (an @rnB.eq_1 @h2ki)) ?_;refine cF0 ?_;refine rg0 ?_;refine cT0 ?_;refine zAE fun K hK=>?_
    simp(maxSteps:=2000000)(disch:=omega)[hdb,hb3]
    (repeat' apply And.intro)
    all_goals (try omega)
    refine zJ (caps:=[]) (haf) [0,1,2,3,4,5,6,7,8,9] [0,29000011,29000012,29000013,29000014,29000015,29000016,29000017,29000018,29000019] 1 rfl rfl rfl rfl (by kernel_rfl) (by simp) ?_ ?_ (by simp) rfl (by simp) ⟨.inr ⟨rfl,0,_,_,_,_,_,rfl,rfl,(by first|rfl|simp[rnO,rnB]),rfl,(by first|rfl|simp[rnO,rnB])⟩,.inl ⟨by omega,by omega⟩,.inl ⟨by omega,by omega⟩,.inl ⟨by omega,by omega⟩,.inl ⟨by omega,by omega⟩,.inl ⟨by omega,by omega⟩,.inl ⟨by omega,by omega⟩,.inl ⟨by omega,by omega⟩,.inl ⟨by omega,by omega⟩,.inl ⟨by omega,by omega⟩,trivial⟩ (by simp[rnO,rnB]) ?_
    ·simp[scal]
    ·simp[scal,rows,rnO,rnB]
    simp(maxSteps:=2000000)(disch:=omega)[rows,scal,rnO,rnB]
    (repeat' apply And.intro)
    all_goals (try omega)
    refine zJ (caps:=[]) (hadd) [0,29000011,29000012,29000013,29000014,29000015,29000016,29000017,29000018,29000019] [0,30000011,30000012,30000013,30000014,30000015,30000016,30000017,30000018,30000019] 1 rfl rfl rfl rfl (by kernel_rfl) (by simp) ?_ ?_ (by simp) rfl (by simp) ⟨.inr ⟨rfl,0,_,_,_,_,_,rfl,rfl,(by first|rfl|simp[rnO,rnB]),rfl,(by first|rfl|simp[rnO,rnB])⟩,.inl ⟨by omega,by omega⟩,.inl ⟨by omega,by omega⟩,.inl ⟨by omega,by omega⟩,.inl ⟨by omega,by omega⟩,.inl ⟨by omega,by omega⟩,.inl ⟨by omega,by omega⟩,.inl ⟨by omega,by omega⟩,.inl ⟨by omega,by omega⟩,.inl ⟨by omega,by omega⟩,trivial⟩ (by simp[rnO,rnB]) ?_
    ·simp[scal,ints]
    ·simp[scal,rows,rnO,rnB]
    simp(maxSteps:=2000000)(disch:=omega)[ints,rows,scal,rnO,rnB]
    (repeat' first|apply hK|apply And.intro)<;>try first|omega|rfl|(simp<;>omega)
    refine⟨_,_,_,_,rls,_,els.length,hR,by simp;omega,by omega,(hrow.more _).put (by rw[Qw hd];exact Qj hd) (by rw[hrwl];exact Qj hlt) (by simp),?_⟩;exact kw1 [(0,some 0),(1,some 30000011),(2,some 30000012),(3,some 30000013),(4,some 30000014),(5,some 30000015),(6,some 30000016),(7,some 30000017),(8,some 30000018),(9,some 30000019),(10,some 10)] (an @rnM.eq_1 (an @rnB.eq_1 @rows.eq_1))
 ·obtain rfl:x=gs.length:=by omega
  have hfu:=zQI hrwl;have hPr:=hI.pr.row hd hrwl hrow;refine cF0 ?_;refine zK ?_;refine rg1 (an @rnM.eq_1 (an @rnB.eq_1 (an @hfu @hrwl))) ?_;refine rg0 ?_;refine rg0 ?_;refine zI ?_;refine⟨⟨_,_,⟨els,pre,last,wds,right++[rw'],rls,d+1,beh,rfl,.inr ⟨rfl,rfl,⟨hPr,hbl,hI.bt⟩,by omega⟩⟩,?_⟩,by simp⟩;refine zBT ?_;refine⟨.inr rfl,_,[(0,some 0),(1,some 1),(2,some 2),(3,some 3),(4,some 4),(5,some 5),(6,some 6),(7,some 7),(8,some 8),(9,some 9)],(by first|(simp;rfl)|rfl),?_,?_,?_,?_⟩
  all_goals try simp +contextual (disch:=omega)[zc,zf,zAA,zBS,ints,rows,rnO,rnB]
