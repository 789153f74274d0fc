/- Lemmas for the law AperiodicMember. No conditions. -/
import Derived.Test.YtjkeafkjjaploaaGreatZqax
import Derived.Test.YtjkeafkjjaploaaGreatZqay
import Derived.Test.YtjkeafkjjaploaaGreatZqaz
set_option linter.all false
namespace Go.Proofs.YtjkeafkjjaploaaGreat.M
open Go.RowKit
set_option maxRecDepth 100000
set_option maxHeartbeats 32000000

def zAY(ms:List Nat):List T:=ms.flatMap fun m=>[.int .u64 (m:Nat),.int .u64 0]
theorem zn(ms:List Nat):(zAY ms).length=ms.length*2:=by
 unfold zAY
 induction ms with
 |nil=>rfl
 |cons m r ih=>simp only[List.flatMap_cons,List.length_append,ih];simp;omega
theorem zFQ(a b:List Nat):zAY (a++b)=zAY a++zAY b:=by unfold zAY;rw[List.flatMap_append]
theorem zFy(ms:List Nat)(k:Nat):(zAY ms).drop (k*2)=zAY (ms.drop k):=by
 by_cases h:k<=ms.length
 ·conv=>lhs;rw[←List.take_append_drop k ms,zFQ]
  rw[List.drop_left' (by rw[zn];simp;omega)]
 ·have h1:ms.drop k=[]:=List.drop_of_length_le (by omega);rw[h1,List.drop_of_length_le (by rw[zn];omega)];rfl
theorem zLx(ms:List Nat)(k:Nat):(zAY ms).take (k*2)=zAY (ms.take k):=by
 by_cases h:k<=ms.length
 ·conv=>lhs;rw[←List.take_append_drop k ms,zFQ]
  rw[List.take_left' (by rw[zn];simp;omega)]
 ·rw[Qm (by rw[zn];omega),Qm (by omega)]
theorem zBp{ms:List Nat}{k m:Nat}(h:ms[k]? =some m):List.take 2 (List.drop (k*2) (zAY ms))=[.int .u64 (m:Nat),.int .u64 0]:=by
 obtain⟨hk,e⟩:=Qq.1 h;rw[zFy,List.drop_eq_getElem_cons hk,e,zAY,List.flatMap_cons];rfl
theorem zKE{ms:List Nat}{k x:Nat}(h:k<ms.length):(zAY ms).take (k*2)++[.int .u64 (x:Nat),.int .u64 0]++(zAY ms).drop (k*2+2)=zAY (ms.set k x):=by
 have e:k*2+2=(k+1)*2:=by omega
 rw[e,zLx,zFy,List.set_eq_take_append_cons_drop,if_pos h,zFQ];unfold zAY;simp
theorem zL6(n:Nat):zAY (List.replicate n 0)=List.replicate (n*2) (.int .u64 0):=by
 rw[List.eq_replicate_iff];refine⟨by rw[zn,List.length_replicate],fun x hx=>?_⟩;unfold zAY at hx;obtain⟨m,hm,hx⟩:=List.mem_flatMap.1 hx;obtain rfl:=(List.mem_replicate.1 hm).2;simpa using hx
theorem zTl(n:Nat):zN [.int .u64 0,.int .u64 0] 2 n=zAY (List.replicate n 0):=by
 rw[zL6];unfold zN;refine List.ext_getElem? fun j=>?_
 rw[Qh];by_cases hj:j<n*2
 ·rw[List.getElem?_range hj,List.getElem?_replicate,if_pos hj,Qf];have:j%2<2:=Nat.mod_lt _ (by omega);generalize j%2=r at this;rcases(by omega:r=0\/r=1)with rfl|rfl<;>rfl
 ·rw[Qg (by simp;omega),Qg (by simp;omega)];rfl
def zB2(g:List Nat->Bool)(w:List Nat)(p:Nat):Nat:=mkM (fun j=>decide (p<=j)&&g (prt w p j)) (w.length+1)
def zDn(g:List Nat->Bool)(w:List Nat):List Nat:=tab (w.length+1) (zB2 g w)
def zDo(g:List Nat->Bool)(w:List Nat)(i:Nat):List Nat:=tab (w.length+1) fun p=>if p<i then zB2 g w p else 0
theorem zNi(g:List Nat->Bool)(w:List Nat):zDo g w 0=List.replicate (w.length+1) 0:=by
 unfold zDo;rw[zr];simp
theorem zM4(g:List Nat->Bool)(w:List Nat):zDo g w (w.length+1)=zDn g w:=by
 unfold zDo zDn;refine zT fun p hp=>?_
 rw[if_pos hp]
theorem zAo(g:List Nat->Bool)(w:List Nat)(i:Nat):(zDo g w i).length=w.length+1:=by simp[zDo]
theorem zNQ(g:List Nat->Bool)(w:List Nat){i:Nat}(h:i<w.length+1):(zDo g w i)[i]? =some 0:=by
 unfold zDo;rw[zX _ h,if_neg (by omega)]
theorem zKA(g:List Nat->Bool)(w:List Nat)(i:Nat):(zDo g w i).set i (zB2 g w i)=zDo g w (i+1):=by
 unfold zDo;rw[zg];refine zT fun p hp=>?_
 by_cases c:p=i
 ·subst c;simp
 ·rw[if_neg c];by_cases d:p<i
  ·rw[if_pos d,if_pos (by omega)]
  ·rw[if_neg d,if_neg (by omega)]
theorem zB5(g:List Nat->Bool)(w:List Nat){i:Nat}(h:zB2 g w i=0):zDo g w (i+1)=zDo g w i:=by
 rw[←zKA,h];unfold zDo;rw[zg];refine zT fun p hp=>?_
 by_cases c:p=i
 ·subst c;simp
 ·rw[if_neg c]
theorem zCV(g:List Nat->Bool)(w:List Nat){i:Nat}(h:i<w.length+1):(zDn g w)[i]? =some (zB2 g w i):=zX _ h
theorem zNx(g:List Nat->Bool){w:List Nat}(hw:w.length<=50)(p:Nat):zB2 g w p<1152921504606846976:=zMr (by omega)
theorem zAM(g:List Nat->Bool)(w:List Nat)(p e:Nat):(zB2 g w p).testBit e=(decide (e<w.length+1)&&(decide (p<=e)&&g (prt w p e))):=zCk _ _ _
section
variable{f:Nat->List Nat->Bool}{w:List Nat}{i:Nat}
theorem zPg(l a b:Nat):zB2 (ndB f (1,l,a,b)) w i=0:=by
 apply Nat.eq_of_testBit_eq;intro e;rw[zAM];simp[ndB]
theorem zPn(l a b:Nat)(h:i<w.length+1):zB2 (ndB f (2,l,a,b)) w i=0|||2^i:=by
 apply Nat.eq_of_testBit_eq;intro e;rw[zAM,Nat.testBit_or,Nat.zero_testBit,Nat.testBit_two_pow];have hb:ndB f (2,l,a,b) (prt w i e)=decide (prt w i e=[]):=rfl;rw[hb,Bool.false_or,Bool.eq_iff_iff];simp only[Qz,decide_eq_true_eq];constructor
 ·rintro⟨h1,h2,h3⟩;have:=zIu h2 (show e<=w.length by omega);rw[h3]at this;simp at this;omega
 ·rintro rfl;exact⟨h,Qy _,zM9 w _⟩
theorem zR5(l a b:Nat)(h:i<w.length):zB2 (ndB f (3,l,a,b)) w i=if w[i]=l then 0|||2^(i+1)else 0:=by
 apply Nat.eq_of_testBit_eq;intro e;have hb:ndB f (3,l,a,b) (prt w i e)=decide (prt w i e=[l]):=rfl;have key:(decide (e<w.length+1)&&(decide (i<=e)&&decide (prt w i e=[l])))=decide (w[i]=l/\e=i+1):=by
  rw[Bool.eq_iff_iff];simp only[Qz,decide_eq_true_eq];constructor
  ·rintro⟨h1,h2,h3⟩;have:=zIu h2 (show e<=w.length by omega);rw[h3]at this;simp at this;obtain rfl:e=i+1:=by omega
   rw[zNn h]at h3;exact⟨by simpa using h3,rfl⟩
  ·rintro⟨h1,rfl⟩;exact⟨by omega,by omega,by rw[zNn h,h1]⟩
 rw[zAM,hb,key];by_cases c:w[i]=l
 ·rw[if_pos c,Nat.testBit_or,Nat.zero_testBit,Nat.testBit_two_pow,Bool.false_or,Bool.eq_iff_iff];simp[c,eq_comm]
 ·rw[if_neg c,Nat.zero_testBit];simp[c]
theorem zJY(l a b:Nat)(h:i=w.length):zB2 (ndB f (3,l,a,b)) w i=0:=by
 apply Nat.eq_of_testBit_eq;intro e;have hb:ndB f (3,l,a,b) (prt w i e)=decide (prt w i e=[l]):=rfl;rw[zAM,hb,Nat.zero_testBit];by_cases c:e<w.length+1/\i<=e
 ·obtain rfl:e=i:=by omega
  rw[zM9];simp
 ·simp only[Bool.and_eq_false_iff,decide_eq_false_iff_not];omega
theorem zTR(l a b:Nat):zB2 (ndB f (4,l,a,b)) w i=zG4 i (w.length+1):=by
 apply Nat.eq_of_testBit_eq;intro e;unfold zG4;rw[zAM,zCk];simp[ndB]
theorem zVL(l a b:Nat):zB2 (ndB f (5,l,a,b)) w i=zB2 (f a) w i|||zB2 (f b) w i:=by
 apply Nat.eq_of_testBit_eq;intro e;have hb:ndB f (5,l,a,b) (prt w i e)=(f a (prt w i e)||f b (prt w i e)):=rfl;rw[Nat.testBit_or,zAM,zAM,zAM,hb]
 cases decide (e<w.length+1)<;>cases decide (i<=e)<;>simp
theorem zS0(l a b:Nat):zB2 (ndB f (6,l,a,b)) w i=zB2 (f a) w i&&&zB2 (f b) w i:=by
 apply Nat.eq_of_testBit_eq;intro e;have hb:ndB f (6,l,a,b) (prt w i e)=(f a (prt w i e)&&f b (prt w i e)):=rfl;rw[Nat.testBit_and,zAM,zAM,zAM,hb]
 cases decide (e<w.length+1)<;>cases decide (i<=e)<;>simp
theorem zSQ(l a b:Nat)(hw:w.length<=50):zB2 (ndB f (8,l,a,b)) w i=zMF (zG4 i (w.length+1)) (zB2 (f a) w i):=by
 apply Nat.eq_of_testBit_eq;intro e;have hb:ndB f (8,l,a,b) (prt w i e)= !f a (prt w i e):=rfl;rw[zPU (zG4 i (w.length+1)) (zB2 (f a) w i) e (show zG4 i (w.length+1)<_ from zMr (by omega)),zAM,zAM,zG4,zCk,hb]
 cases decide (e<w.length+1)<;>cases decide (i<=e)<;>simp
def zGw(f g:List Nat->Bool)(w:List Nat)(i k:Nat):Nat:=mkM (fun e=>(List.range k).any fun c=>decide (i<=c)&&decide (c<=e)&&f (prt w i c)&&g (prt w c e)) (w.length+1)
theorem zLu(f g:List Nat->Bool)(w:List Nat)(i:Nat):zGw f g w i i=0:=by
 apply Nat.eq_of_testBit_eq;intro e;unfold zGw;rw[zCk,Nat.zero_testBit,Bool.and_eq_false_iff];refine .inr ?_;rw[List.any_eq_false];intro c hc;have:=List.mem_range.1 hc;simp;omega
theorem zOq(f g:List Nat->Bool)(w:List Nat){i k:Nat}(hk:i<=k):zGw f g w i (k+1)=if f (prt w i k)=true then zGw f g w i k|||zB2 g w k else zGw f g w i k:=by
 apply Nat.eq_of_testBit_eq;intro e;have h1:(zGw f g w i (k+1)).testBit e=((zGw f g w i k).testBit e||(f (prt w i k)&&(zB2 g w k).testBit e)):=by
  unfold zGw;rw[zCk,zCk,zAM,List.range_succ,List.any_append];simp only[List.any_cons,List.any_nil,Bool.or_false,decide_eq_true hk,Bool.true_and]
  cases decide (e<w.length+1)<;>cases f (prt w i k)<;>simp
 rw[h1];by_cases c:f (prt w i k)=true
 ·rw[if_pos c,Nat.testBit_or,c,Bool.true_and]
 ·rw[if_neg c];rw[Bool.not_eq_true]at c;rw[c,Bool.false_and,Bool.or_false]
theorem zNI(f:Nat->List Nat->Bool)(l a b:Nat):zGw (f a) (f b) w i (w.length+1)=zB2 (ndB f (7,l,a,b)) w i:=by
 apply Nat.eq_of_testBit_eq;intro e;unfold zGw;rw[zCk,zAM];by_cases he:e<w.length+1
 ·rw[decide_eq_true he,Bool.true_and,Bool.true_and,Bool.eq_iff_iff,List.any_eq_true,Qz,decide_eq_true_eq];constructor
  ·rintro⟨c,hc,h⟩;simp only[Qz,decide_eq_true_eq]at h;exact⟨by omega,(zNz f l a b (by omega) (by omega)).2 ⟨c,h.1.1.1,h.1.1.2,h.1.2,h.2⟩⟩
  ·rintro⟨h1,h2⟩;obtain⟨c,c1,c2,c3,c4⟩:=(zNz f l a b h1 (by omega)).1 h2;exact⟨c,List.mem_range.2 (by omega),by simp[c1,c2,c3,c4]⟩
 ·rw[decide_eq_false he,Bool.false_and,Bool.false_and]
theorem zUj(f g:List Nat->Bool){w:List Nat}(hw:w.length<=50)(i k:Nat):zGw f g w i k<1152921504606846976:=zMr (by omega)
end
theorem zSh{l:List Nat}{i x:Nat}(h:l[i]? =some x):l.set i x=l:=by
 apply List.ext_getElem?;intro j;by_cases c:i=j
 ·subst c;rw[h,List.getElem?_set_self (Qq.1 h).1]
 ·rw[List.getElem?_set_ne c]
theorem zLX(g:List Nat->Bool)(w:List Nat)(i x:Nat):((zDo g w i).set i x).length=w.length+1:=by simp[zDo]
theorem zTB{op l a b:Nat}{w:List Nat}(hw: ∀x∈w,x<6)(hl:w.length<=50)(h1:1<=op)(h8:op<=8)(hlL:l<100){tcs:List T}(ht:tcs.length<=100000){f:Nat->List Nat->Bool}(hA:5<=op->tcs[a]? =some (.sl 2 (zAY (zDn (f a) w))))(hB:5<=op->op<=7->tcs[b]? =some (.sl 2 (zAY (zDn (f b) w)))):
  FnA Tryz.prog 45 [.agg [.t 2 (.int .i64 op),.t 2 (.int .i64 l),.t 2 (.int .i64 a),.t 2 (.int .i64 b)],.t 0 (.sl 1 tcs),.t 2 (.str (zAU w))] (.t 2 (.sl 2 (zAY (zDn (ndB f (op,l,a,b)) w)))):=by
 have hzN:=zTl (w.length+1);have hdv: ∀k:Nat,k*2/2=k:=fun k=>by omega
 refine fI 166 #[.tmp 6] Tryz.func45 rfl ?_;refine rg0 ?_;refine rg1 @hzN ?_;refine zD ?_;refine rg1 (an @hzN (an @zn @hdv)) ?_;refine zG ?_;refine awp_loop (fun i:Nat=>mkS [(1,.t 0 (.sl 1 tcs)),(2,.t 2 (.str (zAU w))),(3,.ptr 0 0 4),(7,.own 1 ((w.length+1)*2)),(15,.t 2 (.int .i64 (w.length+1:Nat))),(16,.t 2 (.int .i64 i))]
    [(0,.box 78 [.t 2 (.int .i64 op),.t 2 (.int .i64 l),.t 2 (.int .i64 a),.t 2 (.int .i64 b)]),(1,.row 90 2 2 (zAY (zDo (ndB f (op,l,a,b)) w i)))] 2 166 [.any,.any,.any]) (fun i=>i<=w.length+1) (fun i=>w.length+1-i) ?_ ?_
 ·refine⟨0,by omega,?_⟩;rw[zNi];refine zP [(0,some 0),(1,some 5000000)] rfl ?_ ?_ ?_ ?_
  all_goals try simp
  all_goals (trace_state;sorry)
 intro i hi;have hLi:(zAY (zDo (ndB f (op,l,a,b)) w i)).length=(w.length+1)*2:=by rw[zn,zAo]
 refine rg0 ?_;refine zD ?_;by_cases hlt:i<w.length+1
 ·have hlt':(i:Int)<(w.length:Int)+1:=by omega
  have hat:=zBp (zNQ (ndB f (op,l,a,b)) w hlt);have hset:=zKA (ndB f (op,l,a,b)) w i;have hput:=zKE (ms:=zDo (ndB f (op,l,a,b)) w i) (k:=i) (x:=zB2 (ndB f (op,l,a,b)) w i) (by rw[zAo];exact hlt);rw[hset]at hput;have hin:i*2+2<=(w.length+1)*2:=by omega
  refine cK1 @hlt' ?_;refine zD ?_;refine zG ?_;refine rg0 ?_;refine rg0 ?_;refine zG ?_;have hcase:op=1\/op=2\/op=3\/op=4\/op=5\/op=6\/op=7\/op=8:=by omega
  have hQ:=fun g=>zNx (w:=w) g hl i
  rcases hcase with rfl|rfl|rfl|rfl|rfl|rfl|rfl|rfl
  ·have hz:=zB5 (ndB f (1,l,a,b)) w (zPg (f:=f) (w:=w) (i:=i) l a b);refine rg0 ?_;refine cF0 ?_;refine rg0 ?_;refine cF0 ?_;refine rg0 ?_;refine cF0 ?_;refine rg0 ?_;refine cF0 ?_;refine rg0 ?_;refine cF0 ?_;refine rg0 ?_;refine cF0 ?_;refine rg0 ?_;refine cY0 ?_;refine rr0 ?_;refine⟨i+1,by omega,by omega,?_⟩;rw[hz];exact kw1 [(0,some 0),(1,some 1)] (an @hLi (an @zn @zAo))
  ·have hr:=zPn (f:=f) (w:=w) (i:=i) l a b hlt;have hc:=zGI (m:=0) (j:=i) (by omega) (by omega);rw[←hr]at hc;generalize zB2 (ndB f (2,l,a,b)) w i=m at hc hput;refine rg0 ?_;refine cT0 ?_;refine zAE fun K hK=>?_
   simp[hat,hin,hLi]
   (repeat' apply And.intro)
   all_goals (try omega)
   refine zJ (caps:=[]) (hc) [] [] 2 rfl rfl rfl rfl (by kernel_rfl) (by simp) ?_ trivial trivial rfl trivial trivial (by simp) ?_
   ·simp[scal,zBf]
   simp[scal,hin,hLi,hput,zBf];and_intros<;>try first|apply hK|omega|rfl|simp<;>omega
   refine rr0 ?_;refine⟨i+1,by omega,by omega,?_⟩;exact kw1 [(0,some 0),(1,some 1)] (an @hLi (an @zn @zAo))
  ·by_cases hiw:i<w.length
   ·have hr:=zR5 (f:=f) l a b hiw;have hwi:=hw w[i] (by simp);have e0:=zDI hiw (by omega);have e2:IntKind.u8.wrap (97+(w[i]:Int)-97)=w[i]:=by rw[zSY,wr8 _ (by omega) (by omega)]
    generalize w[i]=c at*
    by_cases hcl:c=l
    ·rw[if_pos hcl]at hr;have hc:=zGI (m:=0) (j:=i+1) (by omega) (by omega);rw[←hr]at hc;generalize zB2 (ndB f (3,l,a,b)) w i=m at hc hput;subst hcl;refine rg0 ?_;refine cF0 ?_;refine rg0 ?_;refine cT0 ?_;refine rd1 (an @e0 (an @e2 (an @hiw @hlt'))) ?_;refine cT0 ?_;refine zAE fun K hK=>?_
     simp(maxSteps:=2000000)(disch:=omega)[zBh,hat,hin,hLi]
     (repeat' apply And.intro)
     all_goals (try omega)
     refine zJ (caps:=[]) (hc) [] [] 2 rfl rfl rfl rfl (by kernel_rfl) (by simp) ?_ trivial trivial rfl trivial trivial (by simp) ?_
     ·simp[scal,zBf]
     simp[scal,hin,hLi,hput,zBf];and_intros<;>try first|apply hK|omega|rfl|simp<;>omega
     refine rr0 ?_;refine⟨i+1,by omega,by omega,?_⟩;exact kw1 [(0,some 0),(1,some 1)] (an @hLi (an @zn @zAo))
    ·rw[if_neg hcl]at hr;have hz:=zB5 (ndB f (3,l,a,b)) w hr;have hcl2:((c:Int)==(l:Int))=false:=by
      have: ¬(c:Int)=l:=by omega
      simpa using this
     refine rg0 ?_;refine cF0 ?_;refine rg0 ?_;refine cT0 ?_;refine rd1 (an @e0 (an @e2 (an @hiw (an @hlt' (an @hcl @hcl2))))) ?_;refine cY0 ?_;refine rr0 ?_;refine⟨i+1,by omega,by omega,?_⟩;rw[hz];exact kw1 [(0,some 0),(1,some 1)] (an @hLi (an @zn @zAo))
   ·have hr:=zJY (f:=f) (w:=w) (i:=i) l a b (by omega);have hz:=zB5 (ndB f (3,l,a,b)) w hr;have hiw2:decide (i<w.length)=false:=by simpa using hiw
    refine rg0 ?_;refine cF0 ?_;refine rg0 ?_;refine cT0 ?_;refine rd1 (an @hiw @hiw2) ?_;refine cY0 ?_;refine rr0 ?_;refine⟨i+1,by omega,by omega,?_⟩;rw[hz];exact kw1 [(0,some 0),(1,some 1)] (an @hLi (an @zn @zAo))
  ·have hr:=zTR (f:=f) (w:=w) (i:=i) l a b;have hc:=zF4 (a:=i) (b:=w.length) (by omega) (by omega);rw[←hr]at hc;generalize zB2 (ndB f (4,l,a,b)) w i=m at hc hput;refine rg0 ?_;refine cF0 ?_;refine rg0 ?_;refine cF0 ?_;refine rg0 ?_;refine cT0 ?_;refine zAE fun K hK=>?_
   simp
   (repeat' apply And.intro)
   all_goals (try omega)
   refine zJ (caps:=[]) (hc) [] [] 2 rfl rfl rfl rfl (by kernel_rfl) (by simp) ?_ trivial trivial rfl trivial trivial (by simp) ?_
   ·simp[scal]
   simp[scal,hin,hLi,hput,zBf];and_intros<;>try first|apply hK|omega|rfl|simp<;>omega
   refine rr0 ?_;refine⟨i+1,by omega,by omega,?_⟩;exact kw1 [(0,some 0),(1,some 1)] (an @hLi (an @zn @zAo))
  ·have hr:=zVL (f:=f) (w:=w) (i:=i) l a b;have hc:=zMn (hQ (f a)) (hQ (f b));rw[←hr]at hc;obtain⟨hax,hae⟩:=Qq.1 (hA (by omega));have hag: ∀hh,tcs[a]'hh=_:=fun _=>hae
   have har:=zBp (zCV (f a) w hlt);have hal:(zAY (zDn (f a) w)).length=(w.length+1)*2:=by rw[zn,zDn,zq]
   obtain⟨hbx,hbe⟩:=Qq.1 (hB (by omega) (by omega));have hbg: ∀hh,tcs[b]'hh=_:=fun _=>hbe
   have hbr:=zBp (zCV (f b) w hlt);have hbl:(zAY (zDn (f b) w)).length=(w.length+1)*2:=by rw[zn,zDn,zq]
   generalize zB2 (ndB f (5,l,a,b)) w i=m at hc hput;generalize zB2 (f a) w i=ma at hc har;generalize zB2 (f b) w i=mb at hc hbr;refine rg0 ?_;refine cF0 ?_;refine rg0 ?_;refine cF0 ?_;refine rg0 ?_;refine cF0 ?_;refine rg0 ?_;refine cT0 ?_;refine zAW (by kernel_rfl) (fun K hK=>?_);simp[hin,hax,hag,har,hal,hbx,hbg,hbr,hbl]
   (repeat' apply And.intro)
   all_goals (try omega)
   refine zV (caps:=[]) (hc) [] [] 2 rfl rfl rfl rfl (by kernel_rfl) (by simp) ?_ trivial trivial rfl trivial trivial (by simp) ?_
   ·simp[scal,zBf]
   simp[scal,hin,hLi,hput,zBf];and_intros<;>try first|apply hK|(show zAf _ _=true;kernel_rfl)|(show okH _ _ _=true;kernel_rfl)|omega|rfl|simp<;>omega
   refine rr0 ?_;refine⟨i+1,by omega,by omega,?_⟩;exact kw1 [(0,some 0),(1,some 1)] (an @hLi (an @zn @zAo))
  ·have hr:=zS0 (f:=f) (w:=w) (i:=i) l a b;have hc:=zPv (hQ (f a)) (hQ (f b));rw[←hr]at hc;obtain⟨hax,hae⟩:=Qq.1 (hA (by omega));have hag: ∀hh,tcs[a]'hh=_:=fun _=>hae
   have har:=zBp (zCV (f a) w hlt);have hal:(zAY (zDn (f a) w)).length=(w.length+1)*2:=by rw[zn,zDn,zq]
   obtain⟨hbx,hbe⟩:=Qq.1 (hB (by omega) (by omega));have hbg: ∀hh,tcs[b]'hh=_:=fun _=>hbe
   have hbr:=zBp (zCV (f b) w hlt);have hbl:(zAY (zDn (f b) w)).length=(w.length+1)*2:=by rw[zn,zDn,zq]
   generalize zB2 (ndB f (6,l,a,b)) w i=m at hc hput;generalize zB2 (f a) w i=ma at hc har;generalize zB2 (f b) w i=mb at hc hbr;refine rg0 ?_;refine cF0 ?_;refine rg0 ?_;refine cF0 ?_;refine rg0 ?_;refine cF0 ?_;refine rg0 ?_;refine cF0 ?_;refine rg0 ?_;refine cT0 ?_;refine zAW (by kernel_rfl) (fun K hK=>?_);simp[hin,hax,hag,har,hal,hbx,hbg,hbr,hbl]
   (repeat' apply And.intro)
   all_goals (try omega)
   refine zV (caps:=[]) (hc) [] [] 2 rfl rfl rfl rfl (by kernel_rfl) (by simp) ?_ trivial trivial rfl trivial trivial (by simp) ?_
   ·simp[scal,zBf]
   simp[scal,hin,hLi,hput,zBf];and_intros<;>try first|apply hK|(show zAf _ _=true;kernel_rfl)|(show okH _ _ _=true;kernel_rfl)|omega|rfl|simp<;>omega
   refine rr0 ?_;refine⟨i+1,by omega,by omega,?_⟩;exact kw1 [(0,some 0),(1,some 1)] (an @hLi (an @zn @zAo))
  ·have hlen2: ∀x,(zAY ((zDo (ndB f (7,l,a,b)) w i).set i x)).length=(w.length+1)*2:=fun x=>by rw[zn,zLX]
   obtain⟨hax,hae⟩:=Qq.1 (hA (by omega));have hag: ∀hh,tcs[a]'hh=_:=fun _=>hae
   have har:=zBp (zCV (f a) w hlt);have hal:(zAY (zDn (f a) w)).length=(w.length+1)*2:=by rw[zn,zDn,zq]
   generalize hma:zB2 (f a) w i=ma at har;have hmaq:ma<1152921504606846976:=hma▸hQ (f a);refine rg0 ?_;refine cF0 ?_;refine rg0 ?_;refine cF0 ?_;refine rg0 ?_;refine cF0 ?_;refine rg0 ?_;refine cF0 ?_;refine rg0 ?_;refine cF0 ?_;refine rg0 ?_;refine cT0 ?_;refine rg0 ?_;refine zG ?_;refine awp_loop (fun k:Nat=>mkS [(1,.t 0 (.sl 1 tcs)),(2,.t 2 (.str (zAU w))),(3,.ptr 0 0 4),(7,.own 1 ((w.length+1)*2)),(8,.t 2 (.int .i64 i)),(9,.t 2 (.int .i64 k)),(15,.t 2 (.int .i64 (w.length+1:Nat))),(16,.t 2 (.int .i64 i))]
    [(0,.box 78 [.t 2 (.int .i64 7),.t 2 (.int .i64 l),.t 2 (.int .i64 a),.t 2 (.int .i64 b)]),(1,.row 90 2 2 (zAY ((zDo (ndB f (7,l,a,b)) w i).set i (zGw (f a) (f b) w i k))))] 2 166 [.any,.any,.any]) (fun k=>i<=k/\k<=w.length+1) (fun k=>w.length+1-k) ?_ ?_
   ·refine⟨i,⟨by omega,by omega⟩,?_⟩;have e0:(zDo (ndB f (7,l,a,b)) w i).set i (zGw (f a) (f b) w i i)=zDo (ndB f (7,l,a,b)) w i:=by
     rw[zLu];exact zSh (zNQ _ w hlt)
    rw[e0];exact kw1 [(0,some 0),(1,some 1)] @hLi
   rintro k ⟨hk1,hk2⟩;refine zD ?_;by_cases hkl:k<w.length+1
   ·have hkl':(k:Int)<=(w.length:Int):=by omega
    have hc:=zNP hmaq (i:=k) (by omega);have hcb:ma.testBit k=f a (prt w i k):=by rw[←hma,zAM,decide_eq_true hkl,decide_eq_true hk1];rfl
    rw[hcb]at hc;have hcs:=zOq (f a) (f b) w hk1;refine rg0 ?_;refine cK1 @hkl' ?_;refine zD ?_;refine zG ?_
    cases hfa:f a (prt w i k)with
    |true=>
     rw[hfa]at hc;rw[if_pos hfa]at hcs;have hat2:=zBp (ms:=(zDo (ndB f (7,l,a,b)) w i).set i (zGw (f a) (f b) w i k)) (k:=i) (m:=zGw (f a) (f b) w i k) (by rw[List.getElem?_set_self (by rw[zAo];exact hlt)]);have hput2:=zKE (ms:=(zDo (ndB f (7,l,a,b)) w i).set i (zGw (f a) (f b) w i k)) (k:=i) (x:=zGw (f a) (f b) w i (k+1)) (by rw[zLX];exact hlt);rw[List.set_set]at hput2;have hcu:=zMn (zUj (f a) (f b) hl i k) (zNx (f b) hl k);rw[←hcs]at hcu;have hl2:=hlen2 (zGw (f a) (f b) w i k);obtain⟨hbx,hbe⟩:=Qq.1 (hB (by omega) (by omega));have hbg: ∀hh,tcs[b]'hh=_:=fun _=>hbe
     have hbr:=zBp (zCV (f b) w hkl);have hbl:(zAY (zDn (f b) w)).length=(w.length+1)*2:=by rw[zn,zDn,zq]
     have hink:k*2+2<=(w.length+1)*2:=by omega
     generalize zB2 (f b) w k=mb at hcu hbr;refine rc1 hc (an @hin (an @zBf.eq_1 (an @hax (an @hag (an @har @hal))))) ?_;refine cT0 ?_;refine zAW (by kernel_rfl) (fun K hK=>?_);simp[hat2,hin,hl2,hbx,hbg,hbr,hbl]
     (repeat' apply And.intro)
     all_goals (try omega)
     refine zV (caps:=[]) (hcu) [] [] 2 rfl rfl rfl rfl (by kernel_rfl) (by simp) ?_ trivial trivial rfl trivial trivial (by simp) ?_
     ·simp[scal,zBf]
     simp[scal,hin,hl2,hput2,zBf];and_intros<;>try first|apply hK|(show zAf _ _=true;kernel_rfl)|(show okH _ _ _=true;kernel_rfl)|omega|rfl|simp<;>omega
     refine rr0 ?_;refine⟨k+1,⟨by omega,by omega⟩,by omega,?_⟩;exact kw1 [(0,some 0),(1,some 1)] @hlen2
    |false=>
     rw[hfa]at hc;rw[if_neg (by rw[hfa];simp)]at hcs;refine rc1 hc (an @hin (an @zBf.eq_1 (an @hax (an @hag (an @har @hal))))) ?_;refine cY0 ?_;refine rr0 ?_;refine⟨k+1,⟨by omega,by omega⟩,by omega,?_⟩;rw[hcs];exact kw1 [(0,some 0),(1,some 1)] @hlen2
   ·obtain rfl:k=w.length+1:=by omega
    have hkl': ¬((w.length:Int)+1<=(w.length:Int)):=by omega
    have hfin:(zDo (ndB f (7,l,a,b)) w i).set i (zGw (f a) (f b) w i (w.length+1))=zDo (ndB f (7,l,a,b)) w (i+1):=by rw[zNI];exact hset
    rw[hfin];refine rg0 ?_;refine cF1 @hkl' ?_;refine zK ?_;refine rr0 ?_;refine⟨i+1,by omega,by omega,?_⟩;exact kw1 [(0,some 0),(1,some 1)] (an @hLi (an @zn @zAo))
  ·have hr:=zSQ (f:=f) (w:=w) (i:=i) l a b hl;have hc1:=zF4 (a:=i) (b:=w.length) (by omega) (by omega);have hc:=zUF (m:=zG4 i (w.length+1)) (zMr (by omega)) (hQ (f a));rw[←hr]at hc;obtain⟨hax,hae⟩:=Qq.1 (hA (by omega));have hag: ∀hh,tcs[a]'hh=_:=fun _=>hae
   have har:=zBp (zCV (f a) w hlt);have hal:(zAY (zDn (f a) w)).length=(w.length+1)*2:=by rw[zn,zDn,zq]
   generalize zB2 (ndB f (8,l,a,b)) w i=m at hc hput;generalize zB2 (f a) w i=ma at hc har;generalize zG4 i (w.length+1)=mb at hc hc1;refine rg0 ?_;refine cF0 ?_;refine rg0 ?_;refine cF0 ?_;refine rg0 ?_;refine cF0 ?_;refine rg0 ?_;refine cF0 ?_;refine rg0 ?_;refine cF0 ?_;refine rg0 ?_;refine cF0 ?_;refine rg0 ?_;refine cT0 ?_;refine zAW (by kernel_rfl) (fun K hK=>?_);simp
   (repeat' apply And.intro)
   all_goals (try omega)
   refine zV (caps:=[]) (hc1) [] [] 2 rfl rfl rfl rfl (by kernel_rfl) (by simp) ?_ trivial trivial rfl trivial trivial (by simp) ?_
   ·simp[scal]
   simp[scal,hin,zBf,hax,hag,har,hal]
   (repeat' apply And.intro)
   all_goals (try omega)
   refine zV (caps:=[]) (hc) [] [] 2 rfl rfl rfl rfl (by kernel_rfl) (by simp) ?_ trivial trivial rfl trivial trivial (by simp) ?_
   ·simp[scal,zBf]
   simp[scal,hin,hLi,hput,zBf];and_intros<;>try first|apply hK|(show zAf _ _=true;kernel_rfl)|(show okH _ _ _=true;kernel_rfl)|omega|rfl|simp<;>omega
   refine rr0 ?_;refine⟨i+1,by omega,by omega,?_⟩;exact kw1 [(0,some 0),(1,some 1)] (an @hLi (an @zn @zAo))
 ·obtain rfl:i=w.length+1:=by omega
  have hf:=zM4 (ndB f (op,l,a,b)) w;rw[hf]at hLi ⊢;have hlt': ¬((w.length:Int)+1<(w.length:Int)+1):=by omega
  refine cF1 @hlt' ?_;refine zK ?_;refine rg0 ?_;exact zI (rt1 @hLi)
