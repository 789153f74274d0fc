/- Lemmas for the law unambiguousClass. No conditions. -/
import Derived.Test.YtgmcbpjplcjmdaaGreatZuak
set_option linter.all false
namespace Go.Proofs.YtgmcbpjplcjmdaaGreat.M
open Go.RowKit
set_option maxRecDepth 100000
set_option maxHeartbeats 32000000

def zAJ(n:Nat)(g:Nat->Bool):List T:=tab n fun i=>.bool (g i)
theorem zM8{n:Nat}{g:Nat->Bool}{i:Nat}(h:i<n):(zAJ n g)[i]? =some (.bool (g i)):=zO _ h
@[simp] theorem zTn(n:Nat)(g:Nat->Bool):(zAJ n g).length=n:=by simp[zAJ]
@[simp] theorem zTP(p n:Nat)(g:Nat->Bool):lvs p (zAJ n g)=2:=by
 unfold lvs zAJ tab;rw[if_pos];simp[scal]
def zPH(xs:List Int)(i:Nat):Bool:=decide ((i:Int)∈xs)
theorem zTu(xs:List Int)(n:Nat)(hn:n<=1000000)(hl:xs.length<=1000000):FnS Tryz.prog 88 [.t 0 (ints xs),.t 2 (.int .i64 n)] [] (.own 0 n) [.row 4 1 2 (zAJ n (zPH xs))]:=by
 refine fI 28 #[.tmp 4] Tryz.func88 rfl ?_;refine rg0 ?_;refine rg0 ?_;refine zA ?_;refine rg0 ?_;refine zB ?_;refine awp_loop (fun k:Nat=>mkS [(1,.t 2 (.int .i64 n)),(5,.own 0 n),(10,.t 0 (ints xs)),(11,.t 2 (.int .i64 xs.length)),(12,.t 2 (.int .i64 k))] [(0,.row 4 1 2 (zAJ n (zPH (xs.take k))))] 1 28 [.any,.any]) (fun k=>k<=xs.length) (fun k=>xs.length-k) ?_ ?_
 ·refine⟨0,by omega,?_⟩;exact kw1 [(0,some 2000000)] (an @zz (an @zAJ.eq_1 @zPH.eq_1))
 ·intro k hk;refine rg0 ?_;refine zA ?_;by_cases hkl:k<xs.length
  ·have hst: ∀i,zPH (xs.take (k+1)) i=(zPH (xs.take k) i||decide ((i:Int)=xs[k])):=fun i=>by
    rw[Qf hkl];simp only[zPH,List.mem_append,List.mem_singleton];by_cases h1:(i:Int)∈xs.take k<;>by_cases h2:(i:Int)=xs[k]<;>simp[h1,h2]
   refine cK1 @hkl ?_;refine zA ?_;refine zB ?_;refine rg1 @hkl ?_;by_cases h1:0<=xs[k]
   ·by_cases h2:xs[k]<(n:Int)
    ·obtain⟨z,hz⟩: ∃z:Nat,xs[k]=(z:Int):=⟨xs[k].toNat,by omega⟩;have hzn:z<n:=by omega
     rw[hz]at h1 h2;have d1:decide ((z:Int)≥0)=true:=by simp
     have d2:decide ((z:Int)<n)=true:=by simpa using hzn
     refine rg1 (an @hz (an @d1 @d2)) ?_;refine cT0 ?_;refine rr1 @hzn ?_;refine rr0 ?_;refine⟨k+1,by omega,by omega,?_⟩;refine zH [(0,some 0)] rfl ?_ ?_ ?_ ?_
     all_goals try simp[ints,zAJ,zb]
     refine zK (fun i hi=>?_);rw[hst i,hz];by_cases e:i=z
     ·simp[e]
     ·simp[e,show ¬(i:Int)=(z:Int) by omega]
    ·have d1:decide (xs[k]≥0)=true:=by simpa using h1
     have d2:decide (xs[k]<(n:Int))=false:=by simpa using h2
     refine rg1 (an @d1 @d2) ?_;refine cY0 ?_;refine rr0 ?_;refine⟨k+1,by omega,by omega,?_⟩;refine zH [(0,some 0)] rfl ?_ ?_ ?_ ?_
     all_goals try simp[ints,zAJ]
     refine zK (fun i hi=>?_);rw[hst i];simp[show ¬(i:Int)=xs[k] by omega]
   ·have d1:decide (xs[k]≥0)=false:=by simpa using h1
    refine rg1 @d1 ?_;refine cY0 ?_;refine rr0 ?_;refine⟨k+1,by omega,by omega,?_⟩;refine zH [(0,some 0)] rfl ?_ ?_ ?_ ?_
    all_goals try simp[ints,zAJ]
    refine zK (fun i hi=>?_);rw[hst i];simp[show ¬(i:Int)=xs[k] by omega]
  ·have hke:k=xs.length:=by omega
   refine cF1 @hkl ?_;refine zE ?_;refine rg0 ?_;refine zC ?_;subst hke;exact zCx @zAJ.eq_1
theorem zLb(n:Nat)(g:Nat->Bool)(hn:n<=1000000):FnA Tryz.prog 89 [.t 0 (.sl 1 (zAJ n g))] (.t 2 (.sl 1 (zAS ((List.range n).filter g)))):=by
 refine fI 20 #[.tmp 2] Tryz.func89 rfl ?_;refine zF fun K hK=>?_
 simp(maxSteps:=2000000)(disch:=omega);and_intros<;>try first|apply hK|omega|rfl|simp<;>omega
 refine zF fun K hK=>?_
 simp(maxSteps:=2000000)(disch:=omega);and_intros<;>try first|apply hK|omega|rfl|simp<;>omega
 refine zA ?_;refine zF fun K hK=>?_
 simp(maxSteps:=2000000)(disch:=omega);and_intros<;>try first|apply hK|omega|rfl|simp<;>omega
 refine zB ?_;refine awp_loop (fun k:Nat=>mkS [(3,.own 0 ((List.range k).filter g).length),(6,.t 0 (.sl 1 (zAJ n g))),(7,.t 2 (.int .i64 n)),(8,.t 2 (.int .i64 k))] [(0,.row 3 1 2 (zAS ((List.range k).filter g)))] 1 20 [.any]) (fun k=>k<=n) (fun k=>n-k) ?_ ?_
 ·refine⟨0,by omega,?_⟩;refine zH [(0,none)] rfl ?_ ?_ ?_ ?_
  all_goals try simp[zAS]
 ·intro k hk;have hfl:((List.range k).filter g).length<=k:=Nat.le_trans (List.length_filter_le _ _) (by simp);refine zF fun K hK=>?_
  simp(maxSteps:=2000000)(disch:=omega);and_intros<;>try first|apply hK|omega|rfl|simp<;>omega
  refine zA ?_;by_cases hkn:k<n
  ·have hg:=zM8 (g:=g) hkn;refine zk (b:=true) (p:=2) (by simp[hkn]<;>omega) ?_;refine zQ ?_;refine zA ?_;refine zB ?_;refine zF fun K hK=>?_
   simp(maxSteps:=2000000)(disch:=omega)[zAJ,hkn];and_intros<;>try first|apply hK|omega|rfl|simp<;>omega
   refine zF fun K hK=>?_
   simp(maxSteps:=2000000)(disch:=omega)
   (repeat' first|apply hK|apply And.intro)<;>try first|omega|rfl|(simp<;>omega)
   cases hgk:g k with
   |true=>
    refine zk (b:=true) (p:=2) (by simp<;>omega) ?_;refine zAT fun K hK=>?_
    simp(maxSteps:=2000000)(disch:=omega)[zAS];and_intros<;>try first|apply hK|omega|rfl|simp<;>omega
    refine zAT fun K hK=>?_
    simp(maxSteps:=2000000)(disch:=omega)[zBs]
    (repeat' first|apply hK|apply And.intro)<;>try first|omega|rfl|(simp<;>omega)
    refine⟨k+1,by omega,by omega,?_⟩;refine zH [(0,some 0)] rfl ?_ ?_ ?_ ?_
    all_goals try simp[zAS,zAJ,List.range_succ,List.filter_append,hgk]
   |false=>
    refine zk (b:=false) (p:=2) (by simp<;>omega) ?_;refine zQ ?_;refine zAT fun K hK=>?_
    simp(maxSteps:=2000000)(disch:=omega)[zBs]
    (repeat' first|apply hK|apply And.intro)<;>try first|omega|rfl|(simp<;>omega)
    refine⟨k+1,by omega,by omega,?_⟩;refine zH [(0,some 0)] rfl ?_ ?_ ?_ ?_
    all_goals try simp[zAS,zAJ,List.range_succ,List.filter_append,hgk]
  ·have hke:k=n:=by omega
   refine zk (b:=false) (p:=2) (by simp[hkn]<;>omega) ?_;refine zE ?_;refine zF fun K hK=>?_
   simp(maxSteps:=2000000)(disch:=omega);and_intros<;>try first|apply hK|omega|rfl|simp<;>omega
   refine zC ?_;subst hke;refine⟨⟨.inr rfl,_,[],rfl,trivial,trivial,by simp,?_⟩,by simp[zAJ]⟩;simp[zAS,zAJ]
def cntF(g:Nat->Bool):Nat->Nat
 |0=>0
 |k+1=>cntF g k+if g k then 0 else 1
def zPs(g:Nat->Bool)(z:Nat):Nat->Bool:=fun i=>if i=z then true else g i
theorem zKS{g:Nat->Bool}{z:Nat}(hz:g z=false): ∀{n:Nat},z<n->cntF (zPs g z) n+1=cntF g n
 |0,h=>by omega
 |n+1,h=>by
  unfold cntF;by_cases e:z=n
  ·subst e;have: ∀m,m<=z->cntF (zPs g z) m=cntF g m:=fun m=>by
    induction m with
    |zero=>intro _;rfl
    |succ m ih=>
     intro hm;unfold cntF;rw[ih (by omega)];simp[zPs,show m≠z by omega]
   rw[this z (Qy _)];simp[zPs,hz]
  ·have:=zKS hz (n:=n) (by omega);simp only[zPs,show n≠z by omega,if_false]
   cases g n<;>simp<;>omega
def zSg(n:Nat)(tb:List (List Int))(g:Nat->Bool):Prop:=∀x y,x<n->y<n->g x=true->g y=true->g (zR tb x y)=true
structure GeG(n:Nat)(tb:List (List Int))(gens:List Int)(g:Nat->Bool):Prop where
 has: ∀i,i<n->(i:Int)∈gens->g i=true
 clo:zSg n tb g
 min: ∀c:Nat->Bool,(∀i,i<n->(i:Int)∈gens->c i=true)->zSg n tb c-> ∀i,i<n->g i=true->c i=true
theorem zHj{n:Nat}{tb:List (List Int)}(gens:List Int)(h:zOt n n tb)(hn:n<=100000)(hl:gens.length<=1000000): ∃res,(∃g,GeG n tb gens g/\res= .t 2 (.sl 1 (zAS ((List.range n).filter g))))/\FnS Tryz.prog 49 [.t 0 (rows tb),.t 0 (ints gens)] [] res []:=by
 have htl:=h.len;refine zh Tryz.func49 rfl (by simp[Tryz.f49]) ?_;rw[show Tryz.f49.ntmps=60 from rfl,show Tryz.f49.results= #[.tmp 4]from rfl];refine rg0 ?_;refine zF fun K hK=>?_
 simp(maxSteps:=2000000)(disch:=omega)[htl]
 (repeat' apply And.intro)
 all_goals (try omega)
 refine zD (caps:=[]) (zTu gens n (by omega) hl) [] [4000000] 2 rfl rfl rfl rfl (by kernel_rfl) (by simp) ?_ trivial trivial rfl (by simp) ⟨.inl (by omega),trivial⟩ (by simp) ?_
 ·simp[scal,ints]
 simp(maxSteps:=2000000)(disch:=omega);and_intros<;>try first|apply hK|omega|rfl|simp<;>omega
 refine zA ?_;refine rg0 ?_;refine zB ?_;refine awp_loop (fun y:(Nat->Bool)×Bool=>mkS [(0,.t 0 (rows tb)),(5,.own 0 n),(6,.t 2 (.bool y.2))] [(0,.row 4 1 2 (zAJ n y.1))] 1 60 [.any,.any]) (fun y=>(∀i,i<n->(i:Int)∈gens->y.1 i=true)/\(∀c:Nat->Bool,(∀i,i<n->(i:Int)∈gens->c i=true)->zSg n tb c-> ∀i,i<n->y.1 i=true->c i=true)/\(y.2=false->zSg n tb y.1)) (fun y=>2*cntF y.1 n+if y.2 then 1 else 0) ?_ ?_
 ·refine⟨(zPH gens,true),⟨fun i hi hg=>by simpa[zPH]using hg,fun c hc _ i hi hg=>hc i hi (by simpa[zPH]using hg),fun h=>by simp at h⟩,?_⟩;exact kw1 [(0,some 4000000)] @rows.eq_1
 ·rintro⟨g,ch⟩ ⟨hg1,hg2,hg3⟩;simp only at hg1 hg2 hg3;refine zA ?_;refine rg0 ?_
  cases ch with
  |false=>
   refine cF0 ?_;refine zE ?_;refine rc0 (zLb n g (by omega)) ?_;refine zC ?_;refine⟨_,⟨g,⟨hg1,hg3 rfl,hg2⟩,rfl⟩,?_⟩;exact rt1 @zAS.eq_1
  |true=>
   refine cK0 ?_;refine zB ?_;refine rg0 ?_;refine rg1 @htl ?_;refine zB ?_;refine awp_loop (fun y:Nat×(Nat->Bool)×Bool=>mkS [(0,.t 0 (rows tb)),(5,.own 0 n),(6,.t 2 (.bool y.2.2)),(15,.t 2 (.int .i64 n)),(16,.t 2 (.int .i64 y.1))] [(0,.row 4 1 2 (zAJ n y.2.1))] 1 60 [.any,.any]) (fun y=>y.1<=n/\(∀i,g i=true->y.2.1 i=true)/\(∀c:Nat->Bool,(∀i,i<n->(i:Int)∈gens->c i=true)->zSg n tb c-> ∀i,i<n->y.2.1 i=true->c i=true)/\(if y.2.2 then cntF y.2.1 n<cntF g n else y.2.1=g/\ ∀a b,a<y.1->b<n->g a=true->g b=true->g (zR tb a b)=true)) (fun y=>n-y.1) ?_ ?_
   ·refine⟨(0,g,false),⟨by simp,fun i hi=>hi,hg2,by simp⟩,?_⟩;exact kw1 [(0,some 0)] @rows.eq_1
   ·rintro⟨x,g1,ch⟩ ⟨hx,ha1,ha2,ha3⟩;simp only at hx ha1 ha2 ha3;refine rg0 ?_;refine zA ?_;by_cases hxn:x<n
    ·refine cK1 @hxn ?_;refine zA ?_;refine zB ?_;refine rg0 ?_;refine rg1 @htl ?_;refine zB ?_;refine awp_loop (fun y:Nat×(Nat->Bool)×Bool=>mkS [(0,.t 0 (rows tb)),(5,.own 0 n),(6,.t 2 (.bool y.2.2)),(7,.t 2 (.int .i64 x)),(15,.t 2 (.int .i64 n)),(16,.t 2 (.int .i64 x)),(20,.t 2 (.int .i64 n)),(21,.t 2 (.int .i64 y.1))] [(0,.row 4 1 2 (zAJ n y.2.1))] 1 60 [.any,.any]) (fun y=>y.1<=n/\(∀i,g i=true->y.2.1 i=true)/\(∀c:Nat->Bool,(∀i,i<n->(i:Int)∈gens->c i=true)->zSg n tb c-> ∀i,i<n->y.2.1 i=true->c i=true)/\(if y.2.2 then cntF y.2.1 n<cntF g n else y.2.1=g/\ ∀a b,a<n->b<n->(a<x\/(a=x/\b<y.1))->g a=true->g b=true->g (zR tb a b)=true)) (fun y=>n-y.1) ?_ ?_
     ·refine⟨(0,g1,ch),⟨by simp,ha1,ha2,?_⟩,?_⟩
      ·cases ch with
       |true=>exact ha3
       |false=>
        simp only[Bool.false_eq_true,if_false]at ha3 ⊢;exact⟨ha3.1,fun a b _ hb hab=>ha3.2 a b (by omega) hb⟩
      ·exact kw1 [(0,some 0)] @rows.eq_1
     ·clear ha1 ha2 ha3;rintro⟨z,g2,ch⟩ ⟨hz,hb1,hb2,hb3⟩;simp only at hz hb1 hb2 hb3;refine rg0 ?_;refine zA ?_;by_cases hzn:z<n
      ·obtain⟨s1,s2,s3,s4⟩:=h.step hxn hzn;refine cK1 @hzn ?_;refine zA ?_;refine zB ?_;refine rg0 ?_;have zOs:(g2 x=true->g2 z=true->g2 (zR tb x z)=true)->(if ch then cntF g2 n<cntF g n else g2=g/\ ∀a b,a<n->b<n->(a<x\/(a=x/\b<z+1))->g a=true->g b=true->g (zR tb a b)=true):=fun hk=>by
        cases ch with
        |true=>exact hb3
        |false=>
         simp only[Bool.false_eq_true,if_false]at hb3 ⊢;refine⟨hb3.1,fun a b ha hb hab=>?_⟩;by_cases e:a=x/\b=z
         ·obtain⟨rfl,rfl⟩:=e;rw[hb3.1]at hk;exact hk
         ·exact hb3.2 a b ha hb (by omega)
       cases e1:g2 x with
       |false=>
        refine rg1 (an @zAJ.eq_1 (an @hxn @e1)) ?_;refine cY0 ?_;refine rr0 ?_;refine⟨(z+1,g2,ch),⟨by omega,hb1,hb2,zOs (by rw[e1];intro h;cases h)⟩,by simp;omega,?_⟩;exact kw1 [(0,some 0)] (an @rows.eq_1 @zAJ.eq_1)
       |true=>
        cases e2:g2 z with
        |false=>
         refine rg1 (an @zAJ.eq_1 (an @hxn (an @hzn (an @e1 @e2)))) ?_;refine cY0 ?_;refine rr0 ?_;refine⟨(z+1,g2,ch),⟨by omega,hb1,hb2,zOs (by rw[e2];intro _ h;cases h)⟩,by simp;omega,?_⟩;exact kw1 [(0,some 0)] (an @rows.eq_1 @zAJ.eq_1)
        |true=>
         cases e3:g2 (zR tb x z)with
         |true=>
          refine rg1 (an @zAJ.eq_1 (an @hxn (an @hzn (an @e1 (an @e2 (an @s1 (an @s2 (an @s3 (an @s4 @e3))))))))) ?_;refine cY0 ?_;refine rr0 ?_;refine⟨(z+1,g2,ch),⟨by omega,hb1,hb2,zOs (fun _ _=>e3)⟩,by simp;omega,?_⟩;exact kw1 [(0,some 0)] (an @rows.eq_1 @zAJ.eq_1)
         |false=>
          refine rg1 (an @zAJ.eq_1 (an @hxn (an @hzn (an @e1 (an @e2 (an @s1 (an @s2 (an @s3 (an @s4 @e3))))))))) ?_;refine cT0 ?_;refine rg1 (an @zAJ.eq_1 (an @s1 (an @s2 (an @s3 @s4)))) ?_;refine rr0 ?_;refine rr0 ?_;have hcs:=zKS e3 s1;refine⟨(z+1,zPs g2 (zR tb x z),true),⟨by omega,fun i hi=>?_,fun c hc1 hc2 i hi hgi=>?_,?_⟩,by simp;omega,?_⟩
          ·simp only[zPs];split
           ·rfl
           ·exact hb1 i hi
          ·simp only[zPs]at hgi;by_cases e:i=zR tb x z
           ·rw[e];exact hc2 x z hxn hzn (hb2 c hc1 hc2 x hxn e1) (hb2 c hc1 hc2 z hzn e2)
           ·rw[if_neg e]at hgi;exact hb2 c hc1 hc2 i hi hgi
          ·simp only[if_true]
           cases ch with
           |true=>simp only[if_true]at hb3;omega
           |false=>
            simp only[Bool.false_eq_true,if_false]at hb3;rw[hb3.1]at hcs ⊢;omega
          ·refine zH [(0,some 0)] rfl ?_ ?_ ?_ ?_
           all_goals try simp[rows,zAJ,zb,zPs]
           refine zK (fun i hi=>?_);by_cases e:i=zR tb x z<;>simp[e]
      ·have hze:z=n:=by omega
       refine cF1 @hzn ?_;refine zE ?_;refine rr0 ?_;refine⟨(x+1,g2,ch),⟨by omega,hb1,hb2,?_⟩,by simp;omega,?_⟩
       ·cases ch with
        |true=>exact hb3
        |false=>
         simp only[Bool.false_eq_true,if_false]at hb3 ⊢;exact⟨hb3.1,fun a b ha hb=>hb3.2 a b (by omega) hb (by omega)⟩
       ·exact kw1 [(0,some 0)] (an @rows.eq_1 @zAJ.eq_1)
    ·have hxe:x=n:=by omega
     refine cF1 @hxn ?_;refine zE ?_;refine⟨(g1,ch),⟨fun i hi hm=>ha1 i (hg1 i hi hm),ha2,fun hch=>?_⟩,?_,?_⟩
     ·subst hch;simp only[Bool.false_eq_true,if_false]at ha3;rw[ha3.1];exact fun a b ha hb=>ha3.2 a b (by omega) hb
     ·cases ch with
      |true=>simp only[if_true]at ha3 ⊢;omega
      |false=>
       simp only[Bool.false_eq_true,if_false]at ha3 ⊢;rw[ha3.1];simp
     ·exact kw1 [(0,some 0)] (an @rows.eq_1 @zAJ.eq_1)
theorem PrI.wl{n:Nat}{gs els:List (List Int)}{pre last:List Int}{wds:List (List Nat)}{right:List (List Int)}{d:Nat}(h:PrI n gs els pre last wds right d): ∀w∈wds,∀x∈w,x<gs.length:=fun w hw=>by
 obtain⟨i,hi,rfl⟩:=Qb hw;have hle:=h.en.le;exact(h.en.val i wds[i] (els[i]'(by omega)) (by simp) (by simp)).2.2
theorem zM5{L m:Nat}{right:List (List Int)}{wds:List (List Nat)}(h:zOt L m right)(hl:m=wds.length)(hw: ∀w∈wds,∀x∈w,x<L):zOt m m (zBq right wds m):=by
 refine⟨by simp,fun i r hr=>?_⟩;have hi:=(Qq.1 hr).1;simp only[zBf]at hi;unfold zBq at hr;rw[zO _ hi]at hr;injection hr with hr;subst hr;refine⟨by simp,fun x j hj=>?_⟩;have hx:=(Qq.1 hj).1;rw[zAD]at hx;rw[zO _ hx]at hj;injection hj with hj;refine⟨_,hj.symm,h.walk (fun y hy=>?_) hi⟩;have hxw:x<wds.length:=by omega
 rw[Qv,Qj hxw]at hy;exact hw _ (by simp) y hy
def zIU(gs els:List (List Int)):List Int:=gs.map (zL1 els)
@[simp] theorem zUK(gs els:List (List Int)):(zIU gs els).length=gs.length:=by simp[zIU]
def zL0:AV:=.agg [.t 2 (.int .i64 0),.t 2 (.sl 0 []),.t 2 (.sl 0 []),.t 2 (.sl 0 []),.t 2 (.sl 0 []),.t 2 (.sl 0 [])]
theorem zRI{H:Nat->Option AObj}{un:Nat->Prop}{q:Nat}{a:AV}{t:T}:wkT H un q [a] [t]=wk1 H un q a t:=by
 apply propext;constructor
 ·intro h;exact h.2 0 a t rfl rfl
 ·intro h;refine⟨rfl,fun j x y hx hy=>?_⟩
  cases j with
  |zero=>simp at hx hy;subst hx hy;exact h
  |succ j=>simp at hx
