/- Lemmas for the law unambiguousClass. No conditions. -/
import Derived.Test.YtgmcbpjplcjmdaaGreatZuaj
import Derived.Test.YtgmcbpjplcjmdaaGreatZuag
set_option linter.all false
namespace Go.Proofs.YtgmcbpjplcjmdaaGreat.M
open Go.RowKit
set_option maxRecDepth 100000
set_option maxHeartbeats 32000000

@[simp] theorem zSr(ss:List Nat):(zAS ss).length=ss.length:=by simp[zAS]
theorem zPV{l:List Nat}(h:l.Nodup){i j a:Nat}(hi:l[i]? =some a)(hj:l[j]? =some a):i=j:=by
 obtain⟨hi1,hi2⟩:=Qq.1 hi;obtain⟨hj1,hj2⟩:=Qq.1 hj;rcases Nat.lt_trichotomy i j with g|g|g
 ·exact absurd (hi2.trans hj2.symm) (List.pairwise_iff_getElem.1 h i j hi1 hj1 g)
 ·exact g
 ·exact absurd (hj2.trans hi2.symm) (List.pairwise_iff_getElem.1 h j i hj1 hi1 g)
theorem zPI{L n s:Nat}{bs:List Bool}{nxt:List (List Int)}(h:DfL L n s bs nxt)(hL:1<=L)(hL2:L<=6)(hn:n<=512): ∃res,(∃ss bs' nx' pl,ExI L n s bs nxt ss bs' nx' ss.length/\FO L nxt ss (ss.length*L)/\res= .tup [dfT 2 L 0 bs' nx',.t 2 (ints pl)])/\FnS Tryz.prog 44 [dfT 0 L s bs nxt] [] res []:=by
 obtain⟨res,⟨ss,wds,hA,rfl⟩,hacc⟩:=zNT h hL hL2 hn;have hnl:=h.nl;have hbl:=h.bl;have hst:=h.st;have hrt:=h.rt;have hml:ss.length<=n:=zJV hA.nod hA.rng;have hpos:1<=ss.length:=(Qq.1 hA.fst).1;refine zh Tryz.func44 rfl (by simp[Tryz.f44]) ?_;rw[show Tryz.f44.ntmps=92 from rfl,show Tryz.f44.results= #[.cell 2 34,.tmp 3]from rfl];refine rg1 (an @dfT.eq_1 @zG.eq_1) ?_;refine rc1 hacc (an @dfT.eq_1 @zG.eq_1) ?_;refine rg0 ?_;refine zA ?_;refine rg1 @hbl ?_;refine zB ?_;refine awp_loop (fun y:Nat=>mkS [(1,.ptr 0 0 4),(2,.ptr 1 0 4),(4,.t 2 (.sl 1 (zAS ss))),(6,.own 2 n),(26,.t 2 (.int .i64 n)),(27,.t 2 (.int .i64 y))] [(0,.box 34 [.t 2 (.int .i64 L),.t 2 (.int .i64 s),.t 0 (zG bs),.t 0 (rows nxt)]),(1,.box 34 [.any,.any,.any,.any]),(2,.row 3 1 2 (tab n fun i=>.int .i64 (if i<y then -1 else 0)))] 3 92 [.any]) (fun y=>y<=n) (fun y=>n-y) ?_ ?_
 ·refine⟨0,by omega,?_⟩;exact kw1 [(0,some 0),(1,some 1000000),(2,some 13000000)] (an @rows.eq_1 (an @zG.eq_1 (an @zAS.eq_1 (an @dfT.eq_1 (an @hbl @zz)))))
 ·intro k hk;refine rg0 ?_;refine zA ?_;by_cases hkn:k<n
  ·refine cK1 @hkn ?_;refine zA ?_;refine zB ?_;refine rg0 ?_;refine rr1 @hkn ?_;refine rr0 ?_;refine⟨k+1,by omega,by omega,?_⟩;refine zH [(0,some 0),(1,some 1),(2,some 2)] rfl ?_ ?_ ?_ ?_
   all_goals try simp[rows,zG,zb]
   refine zK (fun i hi=>?_);by_cases e:i=k
   ·simp[e]
   ·rw[if_neg e];by_cases e2:i<k
    ·rw[if_pos e2,if_pos (by omega)]
    ·rw[if_neg e2,if_neg (by omega)]
  ·have hke:k=n:=by omega
   subst hke;refine cF0 ?_;refine zE ?_;refine zA ?_;refine rg0 ?_;refine zB ?_;refine awp_loop (fun y:Nat×(Nat->Int)=>mkS [(1,.ptr 0 0 4),(2,.ptr 1 0 4),(4,.t 2 (.sl 1 (zAS ss))),(6,.own 2 k),(34,.t 2 (.sl 1 (zAS ss))),(35,.t 2 (.int .i64 ss.length)),(36,.t 2 (.int .i64 y.1))] [(0,.box 34 [.t 2 (.int .i64 L),.t 2 (.int .i64 s),.t 0 (zG bs),.t 0 (rows nxt)]),(1,.box 34 [.any,.any,.any,.any]),(2,.row 3 1 2 (tab k fun i=>.int .i64 (y.2 i)))] 3 92 [.any]) (fun y=>y.1<=ss.length/\ ∀(j:Nat) q,j<y.1->ss[j]? =some q->y.2 q=j) (fun y=>ss.length-y.1) ?_ ?_
   ·refine⟨(0,fun i=>if i<k then -1 else 0),⟨by simp,fun j q hj=>by simp at hj⟩,?_⟩;exact kw1 [(0,some 0),(1,some 1),(2,some 2)] (an @rows.eq_1 (an @zG.eq_1 @zAS.eq_1))
   ·rintro⟨i,pl⟩ ⟨hi,hpl⟩;simp only at hi hpl;refine rg0 ?_;refine zA ?_;by_cases hil:i<ss.length
    ·have hsn:=hA.rng ss[i] (by simp);refine cK1 @hil ?_;refine zA ?_;refine zB ?_;refine rg1 (an @zAS.eq_1 @hil) ?_;refine rr1 @hsn ?_;refine rr0 ?_;refine⟨(i+1,fun q=>if q=ss[i]then(i:Int)else pl q),⟨by omega,fun j q hj hq=>?_⟩,by simp;omega,?_⟩
     ·by_cases e:q=ss[i]
      ·simp only[if_pos e];have hjl:=(Qq.1 hq).1;have:j=i:=zPV hA.nod hq (by rw[e];simp);omega
      ·simp only[if_neg e];by_cases e2:j=i
       ·subst e2;rw[Qj hil]at hq;injection hq with hq;exact absurd hq.symm e
       ·exact hpl j q (by simp at hj;omega) hq
     ·refine zH [(0,some 0),(1,some 1),(2,some 2)] rfl ?_ ?_ ?_ ?_
      all_goals try simp[rows,zG,zAS,zb]
      refine zK (fun j hj=>?_);by_cases e:j=ss[i]<;>simp[e]
    ·have hie:i=ss.length:=by omega
     subst hie;have hplc: ∀q∈ss,0<=pl q/\pl q<(ss.length:Int):=fun q hq=>by
      obtain⟨j,hj,e⟩:=Qb hq;have:=hpl j q hj (by simp[←e]);omega
     refine cF0 ?_;refine zE ?_;refine rg0 ?_;refine zA ?_;refine rg0 ?_;refine zB ?_;refine awp_loop (fun y:Nat×List Bool×List (List Int)=>mkS [(1,.ptr 0 0 4),(2,.ptr 1 0 4),(6,.own 2 k),(10,.ptr 3 0 4),(49,.t 2 (.sl 1 (zAS ss))),(50,.t 2 (.int .i64 ss.length)),(51,.t 2 (.int .i64 y.1))] [(0,.box 34 [.t 2 (.int .i64 L),.t 2 (.int .i64 s),.t 0 (zG bs),.t 0 (rows nxt)]),(1,.box 34 [.any,.any,.any,.any]),(2,.row 3 1 2 (tab k fun i=>.int .i64 (pl i))),(3,.box 34 [.t 2 (.int .i64 L),.t 2 (.int .i64 0),.own 4 y.1,.own 5 y.1]),(4,.row 4 1 2 (y.2.1.map .bool)),(5,.row 22 1 2 (y.2.2.map ints))] 6 92 [.any]) (fun y=>y.1<=ss.length/\ExI L k s bs nxt ss y.2.1 y.2.2 y.1) (fun y=>ss.length-y.1) ?_ ?_
     ·refine⟨(0,[],[]),⟨by simp,ExI.all hA.nod hA.fst hA.rng⟩,?_⟩;exact kw1 [(0,some 0),(1,some 1),(2,some 2),(3,some 4000003),(4,none),(5,none)] (an @rows.eq_1 (an @zG.eq_1 @zAS.eq_1))
     ·rintro⟨i,bs',nx'⟩ ⟨hi,hE⟩;simp only at hi hE;have hbl':=hE.bl;have hnl':=hE.nl;refine rg0 ?_;refine zA ?_;by_cases hil:i<ss.length
      ·have hsn:=hA.rng ss[i] (by simp);have hsx:ss[i]<nxt.length:=by omega
       have hsb:ss[i]<bs.length:=by omega
       obtain⟨hrl,-⟩:=h.row nxt[ss[i]] (by simp);refine cK1 @hil ?_;refine zA ?_;refine zB ?_;refine rg1 (an @zAS.eq_1 @hil) ?_;refine rg0 ?_;refine zA ?_;refine rg1 (an @hsx @hrl) ?_;refine zB ?_;refine awp_loop (fun y:Nat×List Int=>mkS [(1,.ptr 0 0 4),(2,.ptr 1 0 4),(6,.own 2 k),(10,.ptr 3 0 4),(12,.t 2 (.int .i64 ss[i])),(13,.own 6 y.1),(49,.t 2 (.sl 1 (zAS ss))),(50,.t 2 (.int .i64 ss.length)),(51,.t 2 (.int .i64 i)),(59,.t 0 (ints nxt[ss[i]])),(60,.t 2 (.int .i64 L)),(61,.t 2 (.int .i64 y.1))] [(0,.box 34 [.t 2 (.int .i64 L),.t 2 (.int .i64 s),.t 0 (zG bs),.t 0 (rows nxt)]),(1,.box 34 [.any,.any,.any,.any]),(2,.row 3 1 2 (tab k fun i=>.int .i64 (pl i))),(3,.box 34 [.t 2 (.int .i64 L),.t 2 (.int .i64 0),.own 4 i,.own 5 i]),(4,.row 4 1 2 (bs'.map .bool)),(5,.row 22 1 2 (nx'.map ints)),(6,.row 3 1 2 (y.2.map (.int .i64)))] 7 92 [.any]) (fun y=>y.1<=L/\y.2.length=y.1/\zIK nxt ss ss[i] y.2 y.1) (fun y=>L-y.1) ?_ ?_
       ·refine⟨(0,[]),⟨by simp,rfl,fun v hv=>by simp at hv⟩,?_⟩;exact kw1 [(0,some 0),(1,some 1),(2,some 2),(3,some 3),(4,some 4),(5,some 5),(6,none)] (an @rows.eq_1 (an @zG.eq_1 @zAS.eq_1))
       ·rintro⟨x,r⟩ ⟨hx,hrl2,hR⟩;simp only at hx hrl2 hR;refine rg0 ?_;refine zA ?_;by_cases hxl:x<L
        ·obtain⟨s1,s2,s3,s4⟩:=hrt.step hsn hxl;obtain⟨t,ht⟩:=List.getElem?_of_mem (hA.cl ss[i] (by simp) x hxl);have hpt:=hpl t _ (Qq.1 ht).1 ht;refine cK1 @hxl ?_;refine zA ?_;refine zB ?_;refine rg1 (an @s3 @s4) ?_;refine rr1 @s1 ?_;refine rr0 ?_;refine⟨(x+1,r++[pl (zR nxt ss[i] x)]),⟨by omega,by simp[hrl2],hpt▸hR.snoc hrl2 ht⟩,by simp;omega,?_⟩
         ·exact kw1 [(0,some 0),(1,some 1),(2,some 2),(3,some 3),(4,some 4),(5,some 5),(6,some 6)] (an @rows.eq_1 (an @zG.eq_1 (an @zAS.eq_1 @hrl2)))
        ·have hxe:x=L:=by omega
         refine cF1 @hxl ?_;refine zE ?_;refine zAW (by kernel_rfl) (fun K hK=>?_);simp(maxSteps:=2000000)(disch:=omega);and_intros<;>try first|apply hK|(show zAY _ _=true;kernel_rfl)|(show okH _ _ _=true;kernel_rfl)|omega|rfl|simp<;>omega
         refine zAT fun K hK=>?_
         simp(maxSteps:=2000000)(disch:=omega)[zBs]
         (repeat' first|apply hK|apply And.intro)<;>try first|omega|rfl|(simp<;>omega)
         refine⟨(i+1,bs'++[bs[ss[i]]],nx'++[r]),⟨by omega,hE.done (Qj hil) (Qj hsb) (by omega) (by rw[←hxe];exact hR)⟩,by simp;omega,?_⟩
         ·exact kw1 [(0,some 0),(1,some 1),(2,some 2),(3,some 3),(4,some 4),(5,some 5)] (an @rows.eq_1 (an @zG.eq_1 (an @zAS.eq_1 (an @hbl' @hnl'))))
      ·have hie:i=ss.length:=by omega
       refine cF1 @hil ?_;refine zE ?_;refine rg0 ?_;refine zC ?_;subst hie;refine⟨_,⟨ss,bs',nx',tab k pl,hE,hA.fo,rfl⟩,?_⟩;refine⟨⟨.inr rfl,_,[],(by simp;rfl),trivial,trivial,by simp,?_⟩,by simp[dfT,zG]⟩;simp[ints,rows,dfT,zG,hbl',hnl',zT]
theorem zJc{L n s:Nat}{bs:List Bool}{nxt:List (List Int)}(h:DfL L n s bs nxt)(hL:1<=L)(hL2:L<=6)(hn:n<=512): ∃res,(∃m bs' nx',MiX L n s bs nxt m bs' nx'/\res=dfT 2 L 0 bs' nx')/\FnS Tryz.prog 20 [dfT 0 L s bs nxt] [] res []:=by
 have hnl:=h.nl;have hbl:=h.bl;have hst:=h.st;have hn1:=h.n1;have hrt:=h.rt;obtain⟨res0,⟨p,hC,rfl⟩,hcls⟩:=zLJ h hL hL2 hn;have hp:=hC.ok;have hps:=zDR (r:=p) hst;have hcn:=zEY p n;refine zh Tryz.func20 rfl (by simp[Tryz.f20]) ?_;rw[show Tryz.f20.ntmps=74 from rfl,show Tryz.f20.results= #[.cell 2 34]from rfl];refine rg1 (an @dfT.eq_1 @zG.eq_1) ?_;refine rc1 hcls (an @dfT.eq_1 @zG.eq_1) ?_;refine rd1 (an @zCM.eq_1 (an @zT @hst)) ?_;refine rg0 ?_;refine zA ?_;refine rg0 ?_;refine zB ?_;refine awp_loop (fun y:Nat×List Bool×List (List Int)=>mkS [(1,.ptr 0 0 4),(2,.ptr 1 0 4),(3,.t 2 (ints (zCM n p))),(4,.ptr 2 0 4),(5,.t 2 (.int .i64 (cv p y.1))),(21,.t 2 (ints (zCM n p))),(22,.t 2 (.int .i64 n)),(23,.t 2 (.int .i64 y.1))] [(0,.box 34 [.t 2 (.int .i64 L),.t 2 (.int .i64 s),.t 0 (zG bs),.t 0 (rows nxt)]),(1,.box 34 [.any,.any,.any,.any]),(2,.box 34 [.t 2 (.int .i64 L),.t 2 (.int .i64 (p s)),.own 3 y.2.1.length,.own 4 y.2.2.length]),(3,.row 4 1 2 (y.2.1.map .bool)),(4,.row 22 1 2 (y.2.2.map ints))] 5 74 [.any]) (fun y=>y.1<=n/\QuI L bs nxt p y.2.1 y.2.2 y.1) (fun y=>n-y.1) ?_ ?_
 ·refine⟨(0,[],[]),⟨by simp,QuI.start⟩,?_⟩;refine zH [(0,some 0),(1,some 1000000),(2,some 13000000),(3,none),(4,none)] rfl ?_ ?_ ?_ ?_
  all_goals try simp[ints,rows,zG,zCM,zT,cv]
 ·rintro⟨q,bs',nx'⟩ ⟨hq,hQ⟩;simp only at hq hQ;have hbl':=hQ.bl;have hnl':=hQ.nl;have hcq:=zEY p q;refine rg0 ?_;refine zA ?_;by_cases hqn:q<n
  ·have hqx:q<nxt.length:=by omega
   have hqb:q<bs.length:=by omega
   obtain⟨hrl,-⟩:=h.row nxt[q] (by simp);have hcs:cv p (q+1)=if p q=cv p q then cv p q+1 else cv p q:=rfl
   refine cK1 @hqn ?_;refine zA ?_;refine zB ?_;refine rg1 (an @zCM.eq_1 (an @zT @hqn)) ?_;refine zA ?_;by_cases hpq:p q=cv p q
   ·rw[if_pos hpq]at hcs;have hpi:(p q:Int)=(cv p q:Int):=by omega
    refine rg1 @hpi ?_;refine cS0 ?_;refine rg0 ?_;refine rg0 ?_;refine zA ?_;refine rg1 (an @hqx @hrl) ?_;refine zB ?_;refine awp_loop (fun y:Nat×List Int=>mkS [(1,.ptr 0 0 4),(2,.ptr 1 0 4),(3,.t 2 (ints (zCM n p))),(4,.ptr 2 0 4),(5,.t 2 (.int .i64 ((cv p q:Int)+1))),(6,.t 2 (.int .i64 q)),(8,.own 5 y.1),(21,.t 2 (ints (zCM n p))),(22,.t 2 (.int .i64 n)),(23,.t 2 (.int .i64 q)),(37,.t 0 (ints nxt[q])),(38,.t 2 (.int .i64 L)),(39,.t 2 (.int .i64 y.1))] [(0,.box 34 [.t 2 (.int .i64 L),.t 2 (.int .i64 s),.t 0 (zG bs),.t 0 (rows nxt)]),(1,.box 34 [.any,.any,.any,.any]),(2,.box 34 [.t 2 (.int .i64 L),.t 2 (.int .i64 (p s)),.own 3 bs'.length,.own 4 nx'.length]),(3,.row 4 1 2 (bs'.map .bool)),(4,.row 22 1 2 (nx'.map ints)),(5,.row 3 1 2 (y.2.map (.int .i64)))] 6 74 [.any]) (fun y=>y.1<=L/\y.2.length=y.1/\y.2=tab y.1 fun x=>(p (zR nxt q x):Int)) (fun y=>L-y.1) ?_ ?_
    ·refine⟨(0,[]),⟨by simp,rfl,rfl⟩,?_⟩;exact kw1 [(0,some 0),(1,some 1),(2,some 2),(3,some 3),(4,some 4),(5,none)] (an @rows.eq_1 (an @zG.eq_1 (an @zCM.eq_1 @zT)))
    ·rintro⟨x,r⟩ ⟨hx,hrl2,hrv⟩;simp only at hx hrl2 hrv;refine rg0 ?_;refine zA ?_;by_cases hxl:x<L
     ·obtain⟨s1,s2,s3,s4⟩:=hrt.step hqn hxl;have hpv:=hp.lt s1 s1;refine cK1 @hxl ?_;refine zA ?_;refine zB ?_;refine rg1 (an @s3 @s4) ?_;refine rr1 (an @zCM.eq_1 (an @zT @s1)) ?_;refine rr0 ?_;refine⟨(x+1,r++[(p (zR nxt q x):Int)]),⟨by omega,by simp[hrl2],by rw[hrv,zBI]⟩,by simp;omega,?_⟩
      ·exact kw1 [(0,some 0),(1,some 1),(2,some 2),(3,some 3),(4,some 4),(5,some 5)] (an @rows.eq_1 (an @zG.eq_1 (an @hrl2 (an @zCM.eq_1 @zT))))
     ·have hxe:x=L:=by omega
      refine cF1 @hxl ?_;refine zE ?_;refine zAW (by kernel_rfl) (fun K hK=>?_);simp(maxSteps:=2000000)(disch:=omega);and_intros<;>try first|apply hK|(show zAY _ _=true;kernel_rfl)|(show okH _ _ _=true;kernel_rfl)|omega|rfl|simp<;>omega
      refine zAT fun K hK=>?_
      simp(maxSteps:=2000000)(disch:=omega)[zBs]
      (repeat' first|apply hK|apply And.intro)<;>try first|omega|rfl|(simp<;>omega)
      refine⟨(q+1,bs'++[bs[q]],nx'++[r]),⟨by omega,by rw[hrv,hxe];exact hQ.new hpq (Qj hqb)⟩,by simp;omega,?_⟩
      ·exact kw1 [(0,some 0),(1,some 1),(2,some 2),(3,some 3),(4,some 4)] (an @rows.eq_1 (an @zG.eq_1 (an @zCM.eq_1 (an @zT @hcs))))
   ·rw[if_neg hpq]at hcs;have hpi: ¬(p q:Int)=(cv p q:Int):=by omega
    refine rg1 @hpi ?_;refine cT1 @hpi ?_;refine zE ?_;refine rr0 ?_;refine⟨(q+1,bs',nx'),⟨by omega,hQ.old hpq⟩,by simp;omega,?_⟩;exact kw1 [(0,some 0),(1,some 1),(2,some 2),(3,some 3),(4,some 4)] (an @rows.eq_1 (an @zG.eq_1 (an @zCM.eq_1 (an @zT @hcs))))
  ·have hqe:q=n:=by omega
   subst hqe;have hc1:1<=cv p q:=by
    have h1:=zMs p (show 1<=q from hn1);have h2:=hp 0 (by omega);have h3:cv p 1=if p 0=cv p 0 then cv p 0+1 else cv p 0:=rfl
    have h4:cv p 0=0:=rfl;rw[if_pos (by omega)]at h3;omega
   have hD:DfL L (cv p q) (p s) bs' nx':=(hQ.fin h hC).1 s hst;obtain⟨res2,⟨ss,bs2,nx2,pl,hE,hF,rfl⟩,htr⟩:=zPI hD hL hL2 (by omega);have hX:MiX L q s bs nxt ss.length bs2 nx2:=⟨Nat.le_trans hE.len hcn,.of (by omega) hE hF (hQ.dis h hC),fun w hw=>by rw[hE.fin.2 w hw,(hQ.fin h hC).2 w hw s hst]⟩;refine cF1 @hqn ?_;refine zE ?_;refine rc1 htr (an @dfT.eq_1 @zG.eq_1) ?_;refine rg0 ?_;refine zC ?_;refine⟨_,⟨_,bs2,nx2,hX,rfl⟩,?_⟩;refine⟨⟨.inr rfl,_,[],(by simp;rfl),trivial,trivial,by simp,?_⟩,by simp[dfT,zG]⟩;simp[rows,dfT,zG]
theorem bvN{x:Nat}(hx:x<18446744073709551616):(BitVec.ofInt IntKind.u64.bits (x:Int)).toNat=x:=by
 show(BitVec.ofInt 64 (x:Int)).toNat=x;rw[BitVec.toNat_ofInt];omega
theorem zVo{kd:IntKind}{x k:Nat}(hk:k<=kd.bits):zOq kd (x:Int) (k:Int)=((x/2^k:Nat):Int):=by
 unfold zOq;have e:min (k:Int).toNat kd.bits=k:=by omega
 have h0:(0:Int)<=2^k:=Int.pow_nonneg (by decide);rw[e,Int.fdiv_eq_ediv_of_nonneg _ h0]
 push_cast;rfl
def nI(xs:List Nat):List Int:=xs.map fun(x:Nat)=>(x:Int)
@[simp] theorem zVc(xs:List Nat):(nI xs).length=xs.length:=by simp[nI]
theorem zTB{xs:List Nat}{k:Nat}(h:k<xs.length):(nI xs)[k]? =some (xs[k]:Int):=by simp[nI,h]
theorem zN3(xs:List Nat)(x:Nat):nI (xs++[x])=nI xs++[(x:Int)]:=by simp[nI]
theorem zBh{L n s:Nat}{bs:List Bool}{nxt:List (List Int)}(h:DfL L n s bs nxt)(hL:1<=L)(hL2:L<=6)(hn:n<=512):FnA Tryz.prog 105 [dfT 0 L s bs nxt] (.t 2 (.int .i64 0)):=by
 have hn1:=h.n1;have hst:=h.st;have hbl:=h.bl;have hnl:=h.nl;refine fI 64 #[.tmp 2] Tryz.func105 rfl ?_;refine rg1 (an @dfT.eq_1 @zG.eq_1) ?_;refine zA ?_;have dL1: ¬(L:Int)<1:=by omega
 have dL2: ¬(6:Int)<L:=by omega
 refine rg1 (an @dL1 @dL2) ?_;refine cS0 ?_;refine rg1 @hbl ?_;refine zA ?_;refine rg0 ?_;refine cS0 ?_;refine zA ?_;have d4:decide ((s:Int)≥n)=false:=by simp;omega
 have d3:decide ((s:Int)<0)=false:=by simp
 refine rg1 (an @d3 (an @d4 @hnl)) ?_;refine cS0 ?_;refine zA ?_;refine rg0 ?_;refine zB ?_;refine awp_loop (fun y:Nat=>mkS [(1,.ptr 0 0 4),(3,.t 2 (.int .i64 n)),(38,.t 0 (rows nxt)),(39,.t 2 (.int .i64 n)),(40,.t 2 (.int .i64 y))] [(0,.box 34 [.t 2 (.int .i64 L),.t 2 (.int .i64 s),.t 0 (zG bs),.t 0 (rows nxt)])] 1 64 [.any]) (fun y=>y<=n) (fun y=>n-y) ?_ ?_
 ·refine⟨0,by omega,?_⟩;exact kw1 [(0,some 0)] (an @rows.eq_1 (an @zG.eq_1 (an @hbl (an @hnl @dfT.eq_1))))
 ·intro q hq;refine rg0 ?_;refine zA ?_;by_cases hqn:q<n
  ·have hqx:q<nxt.length:=by omega
   obtain⟨hrl,hrv⟩:=h.row nxt[q] (by simp);refine cK1 @hqn ?_;refine zA ?_;refine zB ?_;refine rg1 @hqx ?_;refine zA ?_;refine rg1 @hrl ?_;refine cS0 ?_;refine rg1 @hrl ?_;refine zB ?_;refine awp_loop (fun y:Nat=>mkS [(1,.ptr 0 0 4),(3,.t 2 (.int .i64 n)),(38,.t 0 (rows nxt)),(39,.t 2 (.int .i64 n)),(40,.t 2 (.int .i64 q)),(49,.t 0 (ints nxt[q])),(50,.t 2 (.int .i64 L)),(51,.t 2 (.int .i64 y))] [(0,.box 34 [.t 2 (.int .i64 L),.t 2 (.int .i64 s),.t 0 (zG bs),.t 0 (rows nxt)])] 1 64 [.any]) (fun y=>y<=L) (fun y=>L-y) ?_ ?_
   ·refine⟨0,by omega,?_⟩;exact kw1 [(0,some 0)] (an @rows.eq_1 @zG.eq_1)
   ·intro x hx;refine rg0 ?_;refine zA ?_;by_cases hxl:x<L
    ·have hxr:x<nxt[q].length:=by omega
     obtain⟨e1,e2⟩:=hrv nxt[q][x] (by simp);have e3: ¬nxt[q][x]<0:=by omega
     have e4: ¬(n:Int)<=nxt[q][x]:=by omega
     refine cK1 @hxl ?_;refine zA ?_;refine zB ?_;refine rg1 @hxr ?_;refine rg1 (an @e3 @e4) ?_;refine cY0 ?_;refine rr0 ?_;refine⟨x+1,by omega,by omega,?_⟩;exact kw1 [(0,some 0)] (an @rows.eq_1 @zG.eq_1)
    ·refine cF1 @hxl ?_;refine zE ?_;refine rr0 ?_;refine⟨q+1,by omega,by omega,?_⟩;exact kw1 [(0,some 0)] (an @rows.eq_1 @zG.eq_1)
  ·refine cF1 @hqn ?_;refine zE ?_;refine rg0 ?_;exact zC (rt1 @dfT.eq_1)
abbrev Mo:=List Nat×List Nat
def moV(p:Nat)(m:Mo):AV:=.agg [.t p (ints (nI m.1)),.t p (ints (nI m.2))]
def zBb(ms:List Mo):List T:=ms.flatMap fun m=>[ints (nI m.1),ints (nI m.2)]
@[simp] theorem zT4(ms:List Mo):(zBb ms).length=ms.length*2:=by
 unfold zBb
 induction ms with
 |nil=>rfl
 |cons m r ih=>simp only[List.flatMap_cons,List.length_append,ih];simp;omega
theorem zVH{L:Nat}(hL:L<=6):zTw .i64 1 (L:Int)=((2^L:Nat):Int):=by
 rcases(by omega:L=0\/L=1\/L=2\/L=3\/L=4\/L=5\/L=6)with rfl|rfl|rfl|rfl|rfl|rfl|rfl<;>decide
def zAg(l:List Nat):ByteArray:=⟨(l.map fun x=>UInt8.ofNat x).toArray⟩
theorem zBD(a b:List Nat):zAg a++zAg b=zAg (a++b):=by
 apply ByteArray.ext;simp[zAg]
@[simp] theorem zNL(l:List Nat):(zAg l).size=l.length:=by simp[zAg,ByteArray.size]
def zB4(tb:List (List Int))(im:List Int)(B:Nat)(mem:List Nat):List T:=[.any,rows tb,ints im,.int .i64 B,ints (nI mem),.any,.any,.any,.any,.any]
theorem zJe(P:Nat->Bool): ∀L,maskN L P<2^L
 |0=>by simp[maskN]
 |L+1=>by
  have ih:=zJe P L;have h1:maskN L P<2^(L+1):=by rw[Nat.pow_succ];omega
  unfold maskN;split
  ·exact Nat.or_lt_two_pow h1 (by rw[Nat.one_shiftLeft,Nat.pow_succ];have:=Nat.two_pow_pos L;omega)
  ·exact h1
theorem zT9{B a:Nat}(ha:a<=6):zOq .i64 (B:Int) (a:Int)=((B/2^a:Nat):Int)/\((((B/2^a:Nat):Int)%2=0/\B.testBit a=false)\/(((B/2^a:Nat):Int)%2=1/\B.testBit a=true)):=by
 refine⟨zVo (by show a<=64;omega),?_⟩;have hb:B.testBit a=decide (B/2^a%2=1):=Nat.testBit_eq_decide_div_mod_eq;rw[hb];generalize B/2^a=q;rcases(by omega:q%2=0\/q%2=1)with h|h
 ·exact .inl ⟨by omega,by simp[h]⟩
 ·exact .inr ⟨by omega,by simp[h]⟩
theorem zBp{tb:List (List Int)}{n:Nat}{T:Nat->Nat->Nat}(ht:TbL tb n T){a b:Nat}(ha:a<n)(hb:b<n): ∃(h:a<tb.length) (h2:b<tb[a].length),tb[a][b]=(T a b:Int):=by
 have h:a<tb.length:=by rw[ht.len];exact ha
 have h2:b<tb[a].length:=by rw[ht.row a h];exact hb
 exact⟨h,h2,ht.val a b h h2⟩
structure zFQ(n:Nat)(T:Nat->Nat->Nat)(im':Nat->Nat)(L:Nat)(tb:List (List Int))(im:List Int):Prop where
 ht:TbL tb n T
 n1:1<=n
 n4:n<=400
 il:im.length=L
 l6:L<=6
 ig: ∀a,a<L->im[a]? =some (im' a:Int)/\im' a<n
def stP(T:Nat->Nat->Nat)(im:Nat->Nat)(mem:List Nat)(B x a:Nat):Bool:=B.testBit a&&mem.any fun z=>decide (T (T x (im a)) z=x)
def coP(T:Nat->Nat->Nat)(im:Nat->Nat)(mem:List Nat)(B x a:Nat):Bool:=B.testBit a&&mem.any fun z=>decide (T z (T (im a) x)=x)
theorem zNA{n:Nat}{T:Nat->Nat->Nat}{im':Nat->Nat}{L:Nat}{tb:List (List Int)}{im:List Int}(h:zFQ n T im' L tb im){B:Nat}{mem:List Nat}(hm: ∀z∈mem,z<n)(hml:mem.length<=n){x:Nat}(hx:x<n):
  FnA Tryz.prog 110 [.pt 0 (zB4 tb im B mem),.t 2 (.int .i64 x)] (.t 2 (.int .i64 (maskN L (stP T im' mem B x):Nat))):=by
 have hn4:=h.n4;have hil:=h.il;have hl6:=h.l6;have hml2:(nI mem).length=mem.length:=by simp[nI]
 refine fI 65 #[.tmp 4] Tryz.func110 rfl ?_;refine rg0 ?_;refine rg0 ?_;refine zA ?_;refine rg1 (an @zB4.eq_1 @hil) ?_;refine zB ?_;refine awp_loop (fun a:Nat=>mkS [(0,.pt 0 (zB4 tb im B mem)),(1,.t 2 (.int .i64 x)),(5,.t 2 (.int .i64 (maskN a (stP T im' mem B x):Nat))),(13,.t 0 (ints im)),(14,.t 2 (.int .i64 L)),(15,.t 2 (.int .i64 a))] [] 0 65 [.any,.any]) (fun a=>a<=L) (fun a=>L-a) ?_ ?_
 ·refine⟨0,by omega,?_⟩;refine zH [] rfl ?_ ?_ ?_ ?_
  all_goals try simp[ints,zB4,rows,maskN]
 intro a ha;refine rg0 ?_;refine zA ?_;by_cases hal:a<L
 ·obtain⟨i1,i2⟩:=h.ig a hal;obtain⟨i3,i4⟩:=Qq.1 i1;have i5: ∀hh:a<im.length,im[a]'hh=(im' a:Int):=fun _=>i4
  obtain⟨b1,b2⟩:=zT9 (B:=B) (a:=a) (by omega);have hstep:maskN (a+1) (stP T im' mem B x)=if stP T im' mem B x a then maskN a (stP T im' mem B x)|||1<<<a else maskN a (stP T im' mem B x):=rfl
  have hmlt:=zJe (stP T im' mem B x) a;have h64:2^a<=32:=by have:=Nat.pow_le_pow_right (n:=2) (by omega) (show a<=5 by omega);omega
  generalize B/2^a=q at b1 b2;refine cK1 @hal ?_;refine zA ?_;refine zB ?_;refine rg1 (an @i3 @i5) ?_;refine zA ?_;rcases b2 with⟨b2,b3⟩|⟨b2,b3⟩
  ·have hP:stP T im' mem B x a=false:=by simp[stP,b3]
   rw[hP]at hstep;refine rg1 (an @zB4.eq_1 (an @b1 @b2)) ?_;refine cT0 ?_;refine zE ?_;refine rr0 ?_;refine⟨a+1,by omega,by omega,?_⟩;rw[hstep];exact kw1 [] (an @zB4.eq_1 @rows.eq_1)
  ·refine rg1 (an @zB4.eq_1 (an @b1 @b2)) ?_;refine cS0 ?_;refine rg1 (an @zB4.eq_1 @hml2) ?_;refine zB ?_;refine awp_loop (fun k:Nat=>mkS [(0,.pt 0 (zB4 tb im B mem)),(1,.t 2 (.int .i64 x)),(5,.t 2 (.int .i64 (maskN a (stP T im' mem B x):Nat))),(6,.t 2 (.int .i64 a)),(7,.t 2 (.int .i64 (im' a:Nat))),(13,.t 0 (ints im)),(14,.t 2 (.int .i64 L)),(15,.t 2 (.int .i64 a)),(31,.t 0 (ints (nI mem))),(32,.t 2 (.int .i64 mem.length)),(33,.t 2 (.int .i64 k))] [] 0 65 [.any,.any])
    (fun k=>k<=mem.length/\ ∀j (hj:j<mem.length),j<k->T (T x (im' a)) mem[j]≠x) (fun k=>mem.length-k) ?_ ?_
   ·refine⟨0,⟨by omega,fun j _ hj=>by omega⟩,?_⟩;exact kw1 [] (an @zB4.eq_1 (an @rows.eq_1 @hml2))
   rintro k ⟨hk,hno⟩;refine rg0 ?_;refine zA ?_;by_cases hkl:k<mem.length
   ·have hz:=hm mem[k] (by simp);have hzx: ∀hh,(nI mem)[k]'hh=(mem[k]:Int):=fun hh=>by simp[nI]
    obtain⟨g1,g2,g3⟩:=zBp h.ht hx i2;have hxa:=h.ht.lt _ _ hx i2;obtain⟨j1,j2,j3⟩:=zBp h.ht hxa hz;refine cK1 @hkl ?_;refine zA ?_;refine zB ?_;refine rg1 (an @hml2 (an @hkl @hzx)) ?_;by_cases he:T (T x (im' a)) mem[k]=x
    ·have hP:stP T im' mem B x a=true:=by
      unfold stP;rw[b3,Bool.true_and,List.any_eq_true];exact⟨mem[k],by simp,by simpa using he⟩
     rw[hP,if_pos rfl,Nat.one_shiftLeft]at hstep;have e1:=zVH (L:=a) (by omega);have e2:=zTJ (x:=maskN a (stP T im' mem B x)) (y:=2^a) (by omega) (by omega);generalize 2^a=p2 at e1 e2 hstep hmlt h64;refine rd1 (an @zB4.eq_1 (an @g1 (an @g2 (an @g3 (an @j1 (an @j2 (an @j3 @he))))))) ?_;refine cT0 ?_;refine rg1 (an @e1 @e2) ?_;refine zE ?_;refine rr0 ?_;refine⟨a+1,by omega,by omega,?_⟩;rw[hstep];exact kw1 [] (an @zB4.eq_1 @rows.eq_1)
    ·have hei: ¬((T (T x (im' a)) mem[k]:Nat):Int)=(x:Int):=by omega
     have heb:(((T (T x (im' a)) mem[k]:Nat):Int)==(x:Int))=false:=by simpa using hei
     refine rd1 (an @zB4.eq_1 (an @g1 (an @g2 (an @g3 (an @j1 (an @j2 (an @j3 (an @he (an @hei @heb))))))))) ?_;refine cY0 ?_;refine rr0 ?_;refine⟨k+1,⟨by omega,fun j hj hjk=>?_⟩,by omega,?_⟩
     ·by_cases c:j=k
      ·subst c;exact he
      ·exact hno j hj (by omega)
     exact kw1 [] (an @zB4.eq_1 @rows.eq_1)
   ·have hP:stP T im' mem B x a=false:=by
     unfold stP;rw[b3,Bool.true_and,List.any_eq_false];intro z hz;obtain⟨j,hj,rfl⟩:=Qb hz;simpa using hno j hj (by omega)
    rw[hP]at hstep;refine cF1 @hkl ?_;refine zE ?_;refine rr0 ?_;refine⟨a+1,by omega,by omega,?_⟩;rw[hstep];exact kw1 [] (an @zB4.eq_1 @rows.eq_1)
 ·obtain rfl:a=L:=by omega
  refine cF0 ?_;refine zE ?_;refine rg0 ?_;exact zC rt0
theorem zJX{n:Nat}{T:Nat->Nat->Nat}{im':Nat->Nat}{L:Nat}{tb:List (List Int)}{im:List Int}(h:zFQ n T im' L tb im){B:Nat}{mem:List Nat}(hm: ∀z∈mem,z<n)(hml:mem.length<=n){x:Nat}(hx:x<n):
  FnA Tryz.prog 113 [.pt 0 (zB4 tb im B mem),.t 2 (.int .i64 x)] (.t 2 (.int .i64 (maskN L (coP T im' mem B x):Nat))):=by
 have hn4:=h.n4;have hil:=h.il;have hl6:=h.l6;have hml2:(nI mem).length=mem.length:=by simp[nI]
 refine fI 65 #[.tmp 4] Tryz.func113 rfl ?_;refine rg0 ?_;refine rg0 ?_;refine zA ?_;refine rg1 (an @zB4.eq_1 @hil) ?_;refine zB ?_;refine awp_loop (fun a:Nat=>mkS [(0,.pt 0 (zB4 tb im B mem)),(1,.t 2 (.int .i64 x)),(5,.t 2 (.int .i64 (maskN a (coP T im' mem B x):Nat))),(13,.t 0 (ints im)),(14,.t 2 (.int .i64 L)),(15,.t 2 (.int .i64 a))] [] 0 65 [.any,.any]) (fun a=>a<=L) (fun a=>L-a) ?_ ?_
 ·refine⟨0,by omega,?_⟩;refine zH [] rfl ?_ ?_ ?_ ?_
  all_goals try simp[ints,zB4,rows,maskN]
 intro a ha;refine rg0 ?_;refine zA ?_;by_cases hal:a<L
 ·obtain⟨i1,i2⟩:=h.ig a hal;obtain⟨i3,i4⟩:=Qq.1 i1;have i5: ∀hh:a<im.length,im[a]'hh=(im' a:Int):=fun _=>i4
  obtain⟨b1,b2⟩:=zT9 (B:=B) (a:=a) (by omega);have hstep:maskN (a+1) (coP T im' mem B x)=if coP T im' mem B x a then maskN a (coP T im' mem B x)|||1<<<a else maskN a (coP T im' mem B x):=rfl
  have hmlt:=zJe (coP T im' mem B x) a;have h64:2^a<=32:=by have:=Nat.pow_le_pow_right (n:=2) (by omega) (show a<=5 by omega);omega
  generalize B/2^a=q at b1 b2;refine cK1 @hal ?_;refine zA ?_;refine zB ?_;refine rg1 (an @i3 @i5) ?_;refine zA ?_;rcases b2 with⟨b2,b3⟩|⟨b2,b3⟩
  ·have hP:coP T im' mem B x a=false:=by simp[coP,b3]
   rw[hP]at hstep;refine rg1 (an @zB4.eq_1 (an @b1 @b2)) ?_;refine cT0 ?_;refine zE ?_;refine rr0 ?_;refine⟨a+1,by omega,by omega,?_⟩;rw[hstep];exact kw1 [] (an @zB4.eq_1 @rows.eq_1)
  ·refine rg1 (an @zB4.eq_1 (an @b1 @b2)) ?_;refine cS0 ?_;refine rg1 (an @zB4.eq_1 @hml2) ?_;refine zB ?_;refine awp_loop (fun k:Nat=>mkS [(0,.pt 0 (zB4 tb im B mem)),(1,.t 2 (.int .i64 x)),(5,.t 2 (.int .i64 (maskN a (coP T im' mem B x):Nat))),(6,.t 2 (.int .i64 a)),(7,.t 2 (.int .i64 (im' a:Nat))),(13,.t 0 (ints im)),(14,.t 2 (.int .i64 L)),(15,.t 2 (.int .i64 a)),(31,.t 0 (ints (nI mem))),(32,.t 2 (.int .i64 mem.length)),(33,.t 2 (.int .i64 k))] [] 0 65 [.any,.any])
    (fun k=>k<=mem.length/\ ∀j (hj:j<mem.length),j<k->T mem[j] (T (im' a) x)≠x) (fun k=>mem.length-k) ?_ ?_
   ·refine⟨0,⟨by omega,fun j _ hj=>by omega⟩,?_⟩;exact kw1 [] (an @zB4.eq_1 (an @rows.eq_1 @hml2))
   rintro k ⟨hk,hno⟩;refine rg0 ?_;refine zA ?_;by_cases hkl:k<mem.length
   ·have hz:=hm mem[k] (by simp);have hzx: ∀hh,(nI mem)[k]'hh=(mem[k]:Int):=fun hh=>by simp[nI]
    obtain⟨g1,g2,g3⟩:=zBp h.ht i2 hx;have hxa:=h.ht.lt _ _ i2 hx;obtain⟨j1,j2,j3⟩:=zBp h.ht hz hxa;refine cK1 @hkl ?_;refine zA ?_;refine zB ?_;refine rg1 (an @hml2 (an @hkl @hzx)) ?_;by_cases he:T mem[k] (T (im' a) x)=x
    ·have hP:coP T im' mem B x a=true:=by
      unfold coP;rw[b3,Bool.true_and,List.any_eq_true];exact⟨mem[k],by simp,by simpa using he⟩
     rw[hP,if_pos rfl,Nat.one_shiftLeft]at hstep;have e1:=zVH (L:=a) (by omega);have e2:=zTJ (x:=maskN a (coP T im' mem B x)) (y:=2^a) (by omega) (by omega);generalize 2^a=p2 at e1 e2 hstep hmlt h64;refine rd1 (an @zB4.eq_1 (an @g1 (an @g2 (an @g3 (an @j1 (an @j2 (an @j3 @he))))))) ?_;refine cT0 ?_;refine rg1 (an @e1 @e2) ?_;refine zE ?_;refine rr0 ?_;refine⟨a+1,by omega,by omega,?_⟩;rw[hstep];exact kw1 [] (an @zB4.eq_1 @rows.eq_1)
    ·have hei: ¬((T mem[k] (T (im' a) x):Nat):Int)=(x:Int):=by omega
     have heb:(((T mem[k] (T (im' a) x):Nat):Int)==(x:Int))=false:=by simpa using hei
     refine rd1 (an @zB4.eq_1 (an @g1 (an @g2 (an @g3 (an @j1 (an @j2 (an @j3 (an @he (an @hei @heb))))))))) ?_;refine cY0 ?_;refine rr0 ?_;refine⟨k+1,⟨by omega,fun j hj hjk=>?_⟩,by omega,?_⟩
     ·by_cases c:j=k
      ·subst c;exact he
      ·exact hno j hj (by omega)
     exact kw1 [] (an @zB4.eq_1 @rows.eq_1)
   ·have hP:coP T im' mem B x a=false:=by
     unfold coP;rw[b3,Bool.true_and,List.any_eq_false];intro z hz;obtain⟨j,hj,rfl⟩:=Qb hz;simpa using hno j hj (by omega)
    rw[hP]at hstep;refine cF1 @hkl ?_;refine zE ?_;refine rr0 ?_;refine⟨a+1,by omega,by omega,?_⟩;rw[hstep];exact kw1 [] (an @zB4.eq_1 @rows.eq_1)
 ·obtain rfl:a=L:=by omega
  refine cF0 ?_;refine zE ?_;refine rg0 ?_;exact zC rt0
def zFK(ps:List (List Nat×Nat)):List T:=ps.flatMap fun p=>[.str (zAg p.1),.int .i64 p.2]
@[simp] theorem zUE(ps:List (List Nat×Nat)):(zFK ps).length=ps.length*2:=by
 unfold zFK
 induction ps with
 |nil=>rfl
 |cons p ps ih=>rw[List.flatMap_cons,List.length_append,ih];simp;omega
theorem zGE{n:Nat}{T:Nat->Nat->Nat}{im':Nat->Nat}{L:Nat}{tb:List (List Int)}{im:List Int}(h:zFQ n T im' L tb im){B:Nat}{mem:List Nat}(ps:List (List Nat×Nat))(t:List Nat)(ht:t.length<=1000):
  FnA Tryz.prog 111 [.pt 0 (zB4 tb im B mem),.t 0 (.sl 2 (zFK ps)),.t 2 (.str (zAg t))] (.t 2 (.bool (decide (zE5 n ps.length t)))):=by
 have htl:=h.ht.len;have hn4:=h.n4;have hdv:ps.length*2/2=ps.length:=by omega
 obtain⟨w,hw⟩: ∃w,w=n*400:=⟨_,rfl⟩;obtain⟨u,hu⟩: ∃u,u=t.length/2:=⟨_,rfl⟩;have w1:IntKind.i64.wrap ((n:Int)*400)=(w:Int):=by rw[show(n:Int)*400=(w:Int) by omega];exact zBs _ (by omega) (by omega)
 have q1:(t.length:Int).tdiv 2=(u:Int):=by rw[Int.tdiv_eq_ediv_of_nonneg (by omega)];omega
 have w2:IntKind.i64.wrap (u:Int)=(u:Int):=zBs _ (by omega) (by omega);have key:zE5 n ps.length t↔ps.length<=w/\u<=60:=by unfold zE5;rw[hw,hu]
 have hT:ps.length<=w->u<=60->decide (zE5 n ps.length t)=true:=fun a b=>decide_eq_true (key.2 ⟨a,b⟩)
 have hF: ¬(ps.length<=w/\u<=60)->decide (zE5 n ps.length t)=false:=fun a=>decide_eq_false fun b=>a (key.1 b)
 clear key;refine fI 22 #[.tmp 6] Tryz.func111 rfl ?_;refine rg0 ?_;by_cases c1:ps.length<=w
 ·by_cases c2:u<=60
  ·have r1:(ps.length:Int)<=(w:Int):=by omega
   have r2:(u:Int)<=60:=by omega
   rw[hT c1 c2];refine zF fun K hK=>?_
   simp(maxSteps:=2000000)(disch:=omega)[ints,rows,zB4,rows,htl,hdv,w1,q1,w2,r1,r2]
   (repeat' first|apply hK|apply And.intro)<;>try first|omega|rfl|(simp<;>omega)
   exact zC rt0
  ·have r1:(ps.length:Int)<=(w:Int):=by omega
   have r2: ¬(u:Int)<=60:=by omega
   rw[hF fun h=>c2 h.2];refine zF fun K hK=>?_
   simp(maxSteps:=2000000)(disch:=omega)[ints,rows,zB4,rows,htl,hdv,w1,q1,w2,r1,r2]
   (repeat' first|apply hK|apply And.intro)<;>try first|omega|rfl|(simp<;>omega)
   exact zC rt0
 ·have r1: ¬(ps.length:Int)<=(w:Int):=by omega
  rw[hF fun h=>c1 h.1];refine zF fun K hK=>?_
  simp(maxSteps:=2000000)(disch:=omega)[ints,rows,zB4,rows,htl,hdv,w1,r1]
  (repeat' first|apply hK|apply And.intro)<;>try first|omega|rfl|(simp<;>omega)
  exact zC rt0
def gnH(tb:List (List Int))(im:List Int)(B n:Nat)(es:List (T×T))(cC dC:List T)(mem:AV):List AObj:=
 [.box 130 [.ptr 1 0 7,.t 1 (rows tb),.t 1 (ints im),.t 2 (.int .i64 B),mem,.t 1 (.sl 0 []),.t 1 (.sl 0 []),.own 3 n,.own 4 n,.own 5 n],
  .box 80 [.any,.t 1 (rows tb),.any,.t 1 (ints im),.any,.any,.own 2 0],.tmap 3 81 es,.row 3 1 1 cC,.row 3 1 1 dC,.vec 26 1 1 (tab n fun _=>.t 1 (.sl 0 []))]
def zMH(n:Nat)(l:List Nat):List T:=tab n fun z=>.bool (decide (z∈l))
@[simp] theorem zT8(n:Nat)(l:List Nat):(zMH n l).length=n:=by simp[zMH]
theorem zSs(n:Nat):(List.replicate n (T.bool false)).set 0 (.bool true)=zMH n [0]:=by
 refine List.ext_getElem (by simp) fun i h1 h2=>?_
 have hi:i<n:=by simpa using h2
 by_cases c:i=0
 ·subst c;simp[zMH,tab]
 ·rw[List.getElem_set_ne (Ne.symm c)];simp[zMH,tab,c]
theorem zQR{n:Nat}{l:List Nat}{x:Nat}:(zMH n l).set x (.bool true)=zMH n (l++[x]):=by
 unfold zMH;rw[zb];refine zK fun z hz=>?_
 by_cases e:z=x<;>simp[e]
theorem zVw{tb:List (List Int)}{im:List Int}{B n:Nat}{es:List (M.T×M.T)}{cC dC:List M.T}{m1 m2:AV}{Y:List AObj}(j:Nat)(p:Nat×AV)(hp:[(1,AV.ptr 1 0 7)][j]? =some p):zSd (gnH tb im B n es cC dC m1) (gnH tb im B n es cC dC m2++Y) p.1 p.2:=by
 rcases j with _|j
 ·simp at hp;subst hp;exact .inl ⟨7,_,_,_,_,rfl,rfl,rfl,rfl,rfl⟩
 ·simp at hp
theorem zJI{n:Nat}{T:Nat->Nat->Nat}{im':Nat->Nat}{L:Nat}{tb:List (List Int)}{im:List Int}(h:zFQ n T im' L tb im)(hd:DaM n T im'){B:Nat}{es:List (M.T×M.T)}{cC dC:List M.T}(hcC:cC.length=n)(hdC:dC.length=n):
  FnK Tryz.prog 63 [.ptr 0 0 10] (gnH tb im B n es cC dC (.t 1 (.sl 0 []))) (.tup []) (gnH tb im B n es cC dC (.own 6 (zIN n T im' L B).length)++[.row 3 1 2 ((nI (zIN n T im' L B)).map (.int .i64))]) [1]:=by
 have hn4:=h.n4;have hn1:=h.n1;have hil:=h.il;have hl6:=h.l6;have htl:=h.ht.len;refine zLk [(1,.ptr 1 0 7)] (fun j p hp=>zVw j p hp) Tryz.func63 rfl (by simp[Tryz.f63]) ?_;rw[show Tryz.f63.ntmps=83 from rfl,show Tryz.f63.results= #[]from rfl];refine rg1 (an @gnH.eq_1 @htl) ?_;refine rg1 @hn1 ?_;refine rg0 ?_;refine rg0 ?_;refine zB ?_;refine awp_loop (fun y:Nat×List Nat=>mkS [(0,.ptr 0 0 10),(2,.own 7 n),(3,.t 2 (.int .i64 y.1))]
   [(0,.box 130 [.ptr 1 0 7,.t 1 (rows tb),.t 1 (ints im),.t 2 (.int .i64 B),.own 6 y.2.length,.t 1 (.sl 0 []),.t 1 (.sl 0 []),.own 3 n,.own 4 n,.own 5 n]),
    (1,.box 80 [.any,.t 1 (rows tb),.any,.t 1 (ints im),.any,.any,.own 2 0]),(2,.tmap 3 81 es),(3,.row 3 1 1 cC),(4,.row 3 1 1 dC),(5,.vec 26 1 1 (tab n fun _=>.t 1 (.sl 0 []))),(6,.row 3 1 2 ((nI y.2).map (.int .i64))),(7,.row 4 1 2 (zMH n y.2))] 8 83 [.ptr 0 0 10,.ptr 1 0 7])
  (fun y=>zEm n T im' L B y.2 y.1 0/\y.1<=y.2.length/\genF T im' L B (n+1-y.1) y.1 y.2=zIN n T im' L B) (fun y=>n+1-y.1) ?_ ?_
 ·refine⟨(0,[0]),⟨zEm.start hd,by simp,rfl⟩,?_⟩;exact kw1 [(0,some 0),(1,some 1),(2,some 2),(3,some 3),(4,some 4),(5,some 5),(6,some 11000006),(7,some 5000006)] (an @rows.eq_1 (an @nI.eq_1 (an @zSs (an @hcC (an @hdC @zI)))))
 rintro⟨i,l⟩ ⟨hG,hil2,hgen⟩;simp only at hG hil2 hgen;have hll:=hG.len;have hnl:(nI l).length=l.length:=by simp
 refine zA ?_;refine rg1 @hnl ?_;by_cases hc:i<l.length
 ·obtain⟨hN,hN2⟩:=hG.next hd hc
  have hNl:=hN.len;have hgi:l.getD i 0=l[i]:=by simp[Qv,hc]
  obtain⟨k,hk⟩: ∃k,n+1-i=k+1:=⟨n-i,by omega⟩;have hg2:genF T im' L B (n+1-(i+1)) (i+1) (zHu T im' B l[i] L l)=zIN n T im' L B:=by
   rw[←hgen,hk,show n+1-(i+1)=k by omega];show _=if i<l.length then genF T im' L B k (i+1) (zHu T im' B (l.getD i 0) L l)else l
   rw[if_pos hc,hgi]
  refine cK1 @hc ?_;refine zA ?_;refine zB ?_;refine rg1 @hil ?_;refine zB ?_;refine awp_loop (fun a:Nat=>mkS [(0,.ptr 0 0 10),(2,.own 7 n),(3,.t 2 (.int .i64 i)),(31,.t 0 (ints im)),(32,.t 2 (.int .i64 L)),(33,.t 2 (.int .i64 a))]
    [(0,.box 130 [.ptr 1 0 7,.t 1 (rows tb),.t 1 (ints im),.t 2 (.int .i64 B),.own 6 (zHu T im' B l[i] a l).length,.t 1 (.sl 0 []),.t 1 (.sl 0 []),.own 3 n,.own 4 n,.own 5 n]),
     (1,.box 80 [.any,.t 1 (rows tb),.any,.t 1 (ints im),.any,.any,.own 2 0]),(2,.tmap 3 81 es),(3,.row 3 1 1 cC),(4,.row 3 1 1 dC),(5,.vec 26 1 1 (tab n fun _=>.t 1 (.sl 0 []))),(6,.row 3 1 2 ((nI (zHu T im' B l[i] a l)).map (.int .i64))),(7,.row 4 1 2 (zMH n (zHu T im' B l[i] a l)))] 8 83 [.ptr 0 0 10,.ptr 1 0 7])
   (fun a=>a<=L) (fun a=>L-a) ?_ ?_
  ·refine⟨0,by omega,?_⟩;exact kw1 [(0,some 0),(1,some 1),(2,some 2),(3,some 3),(4,some 4),(5,some 5),(6,some 6),(7,some 7)] (an @rows.eq_1 (an @zHu.eq_1 @zI))
  intro a ha;obtain⟨hA,hA2⟩:=hG.all hd hc a ha;obtain⟨hA3,hA4⟩:=hA2 i hc;have hAs:=zHD T im' B l[i] a l;have hlin:=(hG.ms l[i] (by simp)).1;have hA5:(zHu T im' B l[i] a l)[i]? =some l[i]:=by rw[Qj hA3,hA4]
  clear hA2 hA4 hA3;generalize hl':zHu T im' B l[i] a l=l' at hA hA5 hAs ⊢;generalize l[i]=x at hA5 hAs hlin hN hN2 hNl hg2 hl';obtain⟨hA3,hA4⟩:=Qq.1 hA5;refine rg0 ?_;refine zA ?_;by_cases hal:a<L
  ·obtain⟨i1,i2⟩:=h.ig a hal;obtain⟨i3,i4⟩:=Qq.1 i1;have i5: ∀hh:a<im.length,im[a]'hh=(im' a:Int):=fun _=>i4
   obtain⟨b1,b2⟩:=zT9 (B:=B) (a:=a) (by omega);obtain⟨g1,g2,g3⟩:=zBp h.ht hlin i2;have hz:=h.ht.lt _ _ hlin i2;have hnl':(nI l').length=l'.length:=by simp
   have hxi: ∀hh,(nI l')[i]'hh=(x:Int):=fun hh=>by rw[←hA4];simp[nI]
   have hbt:(zMH n l')[T x (im' a)]? =some (.bool (decide (T x (im' a)∈l'))):=zO _ hz;have hal':=hA.len;generalize B/2^a=q at b1 b2;refine cK1 @hal ?_;refine zA ?_;refine zB ?_;refine rg1 (an @i3 @i5) ?_;refine rd1 (an @hA3 (an @hxi (an @hnl' (an @g1 (an @g2 @g3))))) ?_;rcases b2 with⟨b2,b3⟩|⟨b2,b3⟩
   ·have he:zLz T im' B x l' a=l':=by unfold zLz;rw[b3];rfl
    rw[he]at hAs;refine rg1 (an @b1 @b2) ?_;refine cY0 ?_;refine rr0 ?_;refine⟨a+1,by omega,by omega,?_⟩;rw[hAs];exact kw1 [(0,some 0),(1,some 1),(2,some 2),(3,some 3),(4,some 4),(5,some 5),(6,some 6),(7,some 7)] (an @rows.eq_1 @zI)
   ·by_cases hm:T x (im' a)∈l'
    ·have he:zLz T im' B x l' a=l':=by unfold zLz;rw[b3,if_neg (by simp[hm])]
     rw[he]at hAs;refine rg1 (an @b1 (an @b2 (an @hz (an @hbt @hm)))) ?_;refine cY0 ?_;refine rr0 ?_;refine⟨a+1,by omega,by omega,?_⟩;rw[hAs];exact kw1 [(0,some 0),(1,some 1),(2,some 2),(3,some 3),(4,some 4),(5,some 5),(6,some 6),(7,some 7)] (an @rows.eq_1 @zI)
    ·have he:zLz T im' B x l' a=l'++[T x (im' a)]:=by unfold zLz;rw[b3,if_pos (by simp[hm])]
     rw[he]at hAs;refine rg1 (an @b1 (an @b2 (an @hz (an @hbt @hm)))) ?_;refine cT0 ?_;refine rg1 @hz ?_;refine rr1 @hnl' ?_;refine rr0 ?_;refine⟨a+1,by omega,by omega,?_⟩;rw[hAs];exact kw1 [(0,some 0),(1,some 1),(2,some 2),(3,some 3),(4,some 4),(5,some 5),(6,some 6),(7,some 7)] (an @rows.eq_1 (an @zN3 (an @zQR @zI)))
  ·obtain rfl:a=L:=by omega
   have hll':=hA.len;rw[hl']at hN hN2 hg2;refine cF0 ?_;refine zE ?_;refine rr0 ?_;refine⟨(i+1,l'),⟨hN,hN2,hg2⟩,by simp only;omega,?_⟩;exact kw1 [(0,some 0),(1,some 1),(2,some 2),(3,some 3),(4,some 4),(5,some 5),(6,some 6),(7,some 7)] (an @rows.eq_1 @zI)
 ·have hfin:zIN n T im' L B=l:=by
   rw[←hgen]
   cases e:n+1-i with
   |zero=>rfl
   |succ k=>
    show(if i<l.length then _ else l)=l;rw[if_neg hc]
  refine cF1 @hc ?_;refine zE ?_;rw[hfin];refine⟨⟨.inl rfl,_,[(0,some 0),(1,some 1),(2,some 2),(3,some 3),(4,some 4),(5,some 5),(6,some 6)],rfl,?_,?_,?_,?_⟩,?_⟩
  all_goals simp[gnH,rows,ints,zI]
