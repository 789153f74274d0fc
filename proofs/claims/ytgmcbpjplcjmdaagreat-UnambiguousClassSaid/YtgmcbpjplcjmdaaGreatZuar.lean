/- Lemmas for the law unambiguousClass. No conditions. -/
import Derived.Test.YtgmcbpjplcjmdaaGreatZuao
import Derived.Test.YtgmcbpjplcjmdaaGreatZuaq
set_option linter.all false
namespace Go.Proofs.YtgmcbpjplcjmdaaGreat.M
open Go.RowKit
set_option maxRecDepth 100000
set_option maxHeartbeats 32000000

theorem zf{α:Type}{a b c d e f g h:α}{n j:Nat}{F:Nat->α}(hj:j<n):(a::b::c::d::e::f::g::h::tab n F)[8+j]? =some (F j):=by
 rw[Nat.add_comm];simp only[Ql];exact zO F hj
theorem zAe{a b c d e f g h B n:Nat}:(poF [a,b,c,d,e,f,g,h] B n)[1]?.getD 0=b/\(poF [a,b,c,d,e,f,g,h] B n)[2]?.getD 0=c/\(poF [a,b,c,d,e,f,g,h] B n)[3]?.getD 0=d/\(poF [a,b,c,d,e,f,g,h] B n)[4]?.getD 0=e/\(poF [a,b,c,d,e,f,g,h] B n)[5]?.getD 0=f/\(poF [a,b,c,d,e,f,g,h] B n)[6]?.getD 0=g/\(poF [a,b,c,d,e,f,g,h] B n)[7]?.getD 0=h:=⟨rfl,rfl,rfl,rfl,rfl,rfl,rfl⟩
theorem zNO{ph:List Nat}{b n q h:Nat}{c:Nat->Nat}(hh:h=ph.length):outVs (poF ph b n) q (tab n fun j=>AV.own (h+j) (c j))=tab n fun j=>AV.own (b+j) (c j):=by
 rw[zc];refine zK (fun j hj=>?_);subst hh;simp only[outV];rw[zQy hj]
theorem zd{a b c d e f g h B n q:Nat}{k:Nat->Nat}:outVs (poF [a,b,c,d,e,f,g,h] B n) q (tab n fun j=>AV.own (8+j) (k j))=tab n fun j=>AV.own (B+j) (k j):=zNO rfl
theorem zQp{ps:List (List Nat×Nat)}{k:Nat}(h:k<ps.length):List.take 2 (List.drop (k*2) (zFK ps))=[.str (zAg ps[k].1),.int .i64 ps[k].2]:=by
 induction ps generalizing k with
 |nil=>simp at h
 |cons p ps ih=>
  have hc:zFK (p::ps)= .str (zAg p.1):: .int .i64 p.2::zFK ps:=rfl
  cases k with
  |zero=>rw[hc];rfl
  |succ k=>
   rw[hc,show(k+1)*2=k*2+1+1 by omega,List.drop_succ_cons,List.drop_succ_cons];exact ih (by simpa using h)
theorem zQ1{ps:List (List Nat×Nat)}{k:Nat}(h:k<ps.length):k*2+2<=ps.length*2:=by omega
theorem zRh{n:Nat}{T:Nat->Nat->Nat}{im':Nat->Nat}{L:Nat}{tb:List (List Int)}{im:List Int}(h:zFQ n T im' L tb im){B:Nat}{es:List (M.T×M.T)}{cC dC:List M.T}{mem:List Nat}{ls rs:List (List Nat×Nat)}(hcC:cC.length=n)(hdC:dC.length=n)
  (hls: ∀l∈ls,l.1.length<=400/\l.2<n) (hrs: ∀r∈rs,r.1.length<=400/\r.2<n) (hll:ls.length<=200000) (hrl:rs.length<=200000) {F:List (List (List Nat))} (hF:F.length=n) (hFl: ∀v,(fmA F v).length<=400):
  ∃res H',(∃ok F',(ok=true->zFS T F ls rs=some F')/\(ok=false->zFS T F ls rs=none)/\F'.length=n/\res= .t 2 (.bool ok)/\H'=zBW 8 tb im B n es cC dC mem ls rs F'++tab n (zm F'))∧
   FnK Tryz.prog 66 [.ptr 0 0 10] (zBW 8 tb im B n es cC dC mem ls rs F++tab n (zm F)) res H' [1,6,7]:=by
 have hn4:=h.n4;have hdl:ls.length*2/2=ls.length:=by omega
 have hdr:rs.length*2/2=rs.length:=by omega
 refine zCD [(1,.ptr 1 0 7),(6,.own 6 (ls.length*2)),(7,.own 7 (rs.length*2))] Tryz.func66 rfl (by simp[Tryz.f66]) ?_;rw[show Tryz.f66.ntmps=47 from rfl,show Tryz.f66.results= #[.tmp 2]from rfl];rw[zDa];refine zS (σ':=mkF [(0,.ptr 0 0 10)]
   [(0,zY tb im B n mem ls.length rs.length),(1,zi tb im),(2,.tmap 3 81 es),(3,.row 3 1 1 cC),(4,.row 3 1 1 dC),(5,.vec 26 1 1 (zl 100 n F)),(6,.row 184 2 1 (zFK ls)),(7,.row 184 2 1 (zFK rs))] 100 n (zm F) 2000 47 [.ptr 0 0 10,.ptr 1 0 7,.own 6 (ls.length*2),.own 7 (rs.length*2)]) ?_ ?_
 ·refine zAQ [(0,some 0),(1,some 1),(2,some 2),(3,some 3),(4,some 4),(5,some 5),(6,some 6),(7,some 7)] (fun j=>8+j) rfl ?_ ?_ ?_ ?_ ?_ ?_
  all_goals try simp +contextual (disch:=omega)[zL,zJ,ze,zW,zAN,ints,zI,zl,zm,zBW,zY,zi,rows,ints,idxE]
  all_goals (try omega)
 refine rg0 ?_;refine zA ?_;refine rg1 (an @zY.eq_1 @hdl) ?_;refine zB ?_;refine awp_loop (fun y:Nat×List (List (List Nat))=>mkF [(0,.ptr 0 0 10),(10,.own 6 (ls.length*2)),(11,.t 2 (.int .i64 ls.length)),(12,.t 2 (.int .i64 y.1))]
   [(0,zY tb im B n mem ls.length rs.length),(1,zi tb im),(2,.tmap 3 81 es),(3,.row 3 1 1 cC),(4,.row 3 1 1 dC),(5,.vec 26 1 1 (zl 100 n y.2)),(6,.row 184 2 1 (zFK ls)),(7,.row 184 2 1 (zFK rs))] 100 n (zm y.2) 2000 47 [.ptr 0 0 10,.ptr 1 0 7,.own 6 (ls.length*2),.own 7 (rs.length*2)])
  (fun y=>y.1<=ls.length/\y.2.length=n/\(∀v,(fmA y.2 v).length<=400)/\loopO (fun st l=>loopO (fun st r=>zBO st (l.1++r.1) (T l.2 r.2)) st rs) F (ls.take y.1)=some y.2) (fun y=>ls.length-y.1) ?_ ?_
 ·refine⟨(0,F),⟨by simp,hF,hFl,rfl⟩,?_⟩;exact kf1 [(0,some 0),(1,some 1),(2,some 2),(3,some 3),(4,some 4),(5,some 5),(6,some 6),(7,some 7)] (fun j=>100+j) (an @zl.eq_1 (an @zm.eq_1 (an @zY.eq_1 (an @zi.eq_1 @rows.eq_1))))
 rintro⟨i,F1⟩ ⟨hi,hF1,hF1l,hrun⟩;simp only at hi hF1 hF1l hrun;refine rg0 ?_;refine zA ?_;by_cases hil:i<ls.length
 ·obtain⟨a1,a2⟩:=hls ls[i] (by simp);have hat:=zQp hil;have hin:=zQ1 hil;refine cK1 @hil ?_;refine zA ?_;refine zB ?_;refine rg1 (an @hdl (an @hil (an @hat @hin))) ?_;refine rg1 (an @zY.eq_1 @hdr) ?_;refine zB ?_;refine awp_loop (fun y:Nat×List (List (List Nat))=>mkF [(0,.ptr 0 0 10),(4,.ptr 8 0 2),(10,.own 6 (ls.length*2)),(11,.t 2 (.int .i64 ls.length)),(12,.t 2 (.int .i64 i)),(19,.own 7 (rs.length*2)),(20,.t 2 (.int .i64 rs.length)),(21,.t 2 (.int .i64 y.1))]
    [(0,zY tb im B n mem ls.length rs.length),(1,zi tb im),(2,.tmap 3 81 es),(3,.row 3 1 1 cC),(4,.row 3 1 1 dC),(5,.vec 26 1 1 (zl 100 n y.2)),(6,.row 184 2 1 (zFK ls)),(7,.row 184 2 1 (zFK rs)),(8,.box 184 [.t 2 (.str (zAg ls[i].1)),.t 2 (.int .i64 ls[i].2)])] 100 n (zm y.2) 2000 47 [.ptr 0 0 10,.ptr 1 0 7,.own 6 (ls.length*2),.own 7 (rs.length*2)])
   (fun y=>y.1<=rs.length/\y.2.length=n/\(∀v,(fmA y.2 v).length<=400)/\loopO (fun st r=>zBO st (ls[i].1++r.1) (T ls[i].2 r.2)) F1 (rs.take y.1)=some y.2) (fun y=>rs.length-y.1) ?_ ?_
  ·refine⟨(0,F1),⟨by simp,hF1,hF1l,rfl⟩,?_⟩;exact kf1 [(0,some 0),(1,some 1),(2,some 2),(3,some 3),(4,some 4),(5,some 5),(6,some 6),(7,some 7),(8,some 3002000)] (fun j=>100+j) (an @zl.eq_1 (an @zm.eq_1 (an @zY.eq_1 (an @zi.eq_1 @rows.eq_1))))
  rintro⟨k,F2⟩ ⟨hk,hF2,hF2l,hrun2⟩;simp only at hk hF2 hF2l hrun2;refine rg0 ?_;refine zA ?_;by_cases hkl:k<rs.length
  ·obtain⟨b1,b2⟩:=hrs rs[k] (by simp);have hat2:=zQp hkl;have hin2:=zQ1 hkl;obtain⟨g1,g2,g3⟩:=zBp h.ht a2 b2;have hz:=h.ht.lt _ _ a2 b2;have hcat:=zBD ls[i].1 rs[k].1;have hle:ls[i].1.length+rs[k].1.length<=9223372036854775807:=by omega
   have hstep:=zB0 (fun st (r:List Nat×Nat)=>zBO st (ls[i].1++r.1) (T ls[i].2 r.2)) hkl F1;rw[hrun2]at hstep;have hlast:=fun(hn:zBO F2 (ls[i].1++rs[k].1) (T ls[i].2 rs[k].2)=none)=>zDs (fun st (r:List Nat×Nat)=>zBO st (ls[i].1++r.1) (T ls[i].2 r.2)) (hstep.trans hn)
   have hout:=zB0 (fun st (l:List Nat×Nat)=>loopO (fun st r=>zBO st (l.1++r.1) (T l.2 r.2)) st rs) hil F;rw[hrun]at hout;obtain⟨v,hv⟩: ∃v,v=T ls[i].2 rs[k].2:=⟨_,rfl⟩;obtain⟨t,ht⟩: ∃t,t=ls[i].1++rs[k].1:=⟨_,rfl⟩;have htl:t.length<=1000:=by rw[ht];simp;omega
   rw[←hv]at hz g3 hlast;rw[←ht]at hcat hlast;obtain⟨_,_,⟨rfl,rfl⟩,hem⟩:=zMU h (B:=B) (es:=es) (cC:=cC) (dC:=dC) (mem:=mem) (ls:=ls) (rs:=rs) hcC hdC hF2 hz htl (by have:=hF2l v;omega);refine cK1 @hkl ?_;refine zA ?_;refine zB ?_;refine rg1 (an @hdr (an @hkl (an @hat2 @hin2))) ?_;by_cases hok:(fmA F2 v).length+1<=400/\t.length/2<=60
   ·have hem2:zBO F2 t v=some (zCj F2 v t):=if_pos hok;rw[decide_eq_true hok]at hem;have hadd:=zER F2 t (show v<F2.length by omega);have hbd: ∀j,(fmA (zCj F2 v t) j).length<=400:=fun j=>by
     rw[hadd];split
     ·rw[List.length_append,List.length_singleton];exact hok.1
     ·exact hF2l j
    have hstep2:loopO (fun st (r:List Nat×Nat)=>zBO st (ls[i].1++r.1) (T ls[i].2 r.2)) F1 (rs.take (k+1))=some (zCj F2 v t):=by
     rw[hstep];show zBO F2 (ls[i].1++rs[k].1) (T ls[i].2 rs[k].2)=_;rw[←hv,←ht];exact hem2
    have hlen2:(zCj F2 v t).length=n:=by rw[zCr,hF2]
    generalize zCj F2 v t=F3 at hem hbd hstep2 hlen2;refine zg (by kernel_rfl) (fun K hK=>?_);simp(maxSteps:=2000000)(disch:=omega)[ints,rows,zY,rows,g1,g2,g3,hcat,hle]
    (repeat' apply And.intro)
    all_goals (try omega)
    refine zAj (caps:=[]) (hem) [0,1,2,3,4,5,6,7] 100 [0,1,23002002,23002003,23002004,23002005,6,7] 23002010 1 rfl rfl rfl rfl (by kernel_rfl) (by simp) ?_ ?_ ?_ (by simp) (by intro k hk;simp at hk;omega) rfl (by simp) ⟨.inr (.inl ⟨rfl,0,_,_,_,_,_,rfl,rfl,(by first|rfl|simp[zY,zi,rows,zl,zm,zf]),rfl,(by first|rfl|simp[zY,zi,rows,zl,zm,zf])⟩),.inr (.inr ⟨rfl,by simp,by simp⟩),.inl ⟨by omega,by omega⟩,.inl ⟨by omega,by omega⟩,.inl ⟨by omega,by omega⟩,.inl ⟨by omega,by omega⟩,.inr (.inr ⟨rfl,by simp,by simp⟩),.inr (.inr ⟨rfl,by simp,by simp⟩),trivial⟩ (by omega) (by intro k hk;simp at hk;omega) (by simp[zY,zi,rows,zl]) (fun j hj=>rfl) ?_
    ·simp +contextual (disch:=omega)[zL,zJ,zW,ints,scal,poF,scal,rows,ints,zi,rows,zl]
    ·simp +contextual (disch:=omega)[zL,zJ,zW,Ql,ints,scal,poF,scal,rows,ints,zp,zY,zi,rows,zl,zf]
    ·simp +contextual (disch:=omega)[zJ,ints,rows,ints,zi,rows,zl,zm]
    simp(maxSteps:=2000000)(disch:=omega)[scal,callFF];and_intros<;>try first|apply hK|(show zAY _ _=true;kernel_rfl)|(show okH _ _ _=true;kernel_rfl)|omega|rfl|simp<;>omega
    refine zk (b:=false) (p:=2) (by simp<;>omega) ?_;refine zQ ?_;refine zAT fun K hK=>?_
    simp(maxSteps:=2000000)(disch:=omega)[zBs]
    (repeat' first|apply hK|apply And.intro)<;>try first|omega|rfl|(simp<;>omega)
    refine⟨(k+1,F3),⟨by simp only;omega,hlen2,hbd,hstep2⟩,by simp only;omega,?_⟩;refine zAQ [(0,some 0),(1,some 1),(2,some 23002002),(3,some 23002003),(4,some 23002004),(5,some 23002005),(6,some 6),(7,some 7),(8,some 8)] (fun j=>23002010+j) rfl ?_ ?_ ?_ ?_ ?_ ?_
    all_goals try simp +contextual (disch:=omega)[zL,zJ,ze,zW,zAN,ints,scal,zI,zl,zm,zY,zi,rows,ints,zw,zAe,zd]
    all_goals (try omega)
   ·have hnone:zFS T F ls rs=none:=by
     have e1:=hlast (by unfold zBO;exact if_neg hok);refine zDs _ (k:=i+1) (hout.trans ?_);exact e1
    have hlen2:(zCj F2 v t).length=n:=by rw[zCr,hF2]
    rw[decide_eq_false hok]at hem;generalize zCj F2 v t=F3 at hem hlen2;refine zg (by kernel_rfl) (fun K hK=>?_);simp(maxSteps:=2000000)(disch:=omega)[ints,rows,zY,rows,g1,g2,g3,hcat,hle]
    (repeat' apply And.intro)
    all_goals (try omega)
    refine zAj (caps:=[]) (hem) [0,1,2,3,4,5,6,7] 100 [0,1,23002002,23002003,23002004,23002005,6,7] 23002010 1 rfl rfl rfl rfl (by kernel_rfl) (by simp) ?_ ?_ ?_ (by simp) (by intro k hk;simp at hk;omega) rfl (by simp) ⟨.inr (.inl ⟨rfl,0,_,_,_,_,_,rfl,rfl,(by first|rfl|simp[zY,zi,rows,zl,zm,zf]),rfl,(by first|rfl|simp[zY,zi,rows,zl,zm,zf])⟩),.inr (.inr ⟨rfl,by simp,by simp⟩),.inl ⟨by omega,by omega⟩,.inl ⟨by omega,by omega⟩,.inl ⟨by omega,by omega⟩,.inl ⟨by omega,by omega⟩,.inr (.inr ⟨rfl,by simp,by simp⟩),.inr (.inr ⟨rfl,by simp,by simp⟩),trivial⟩ (by omega) (by intro k hk;simp at hk;omega) (by simp[zY,zi,rows,zl]) (fun j hj=>rfl) ?_
    ·simp +contextual (disch:=omega)[zL,zJ,zW,ints,scal,poF,scal,rows,ints,zi,rows,zl]
    ·simp +contextual (disch:=omega)[zL,zJ,zW,Ql,ints,scal,poF,scal,rows,ints,zp,zY,zi,rows,zl,zf]
    ·simp +contextual (disch:=omega)[zJ,ints,rows,ints,zi,rows,zl,zm]
    simp(maxSteps:=2000000)(disch:=omega)[scal,callFF];and_intros<;>try first|apply hK|(show zAY _ _=true;kernel_rfl)|(show okH _ _ _=true;kernel_rfl)|omega|rfl|simp<;>omega
    refine zk (b:=true) (p:=2) (by simp<;>omega) ?_;refine zF fun K hK=>?_
    simp(maxSteps:=2000000)(disch:=omega);and_intros<;>try first|apply hK|omega|rfl|simp<;>omega
    refine zC ?_;refine⟨⟨_,_,⟨false,F3,fun h=>(by cases h),fun _=>hnone,hlen2,rfl,rfl⟩,?_,?_⟩,by simp⟩
    ·exact zUB
    refine zH0 [(0,some 0),(1,some 1),(2,some 23002002),(3,some 23002003),(4,some 23002004),(5,some 23002005),(6,some 6),(7,some 7)] (fun j=>23002010+j) (.inr rfl) ?_ ?_ ?_ ?_ ?_ _ ?_ (by first|(simp;rfl)|rfl)
    all_goals try simp +contextual (disch:=omega)[zL,zJ,ze,zW,zAN,ints,scal,zI,zl,zm,zBW,zY,zi,rows,ints,zw,zAe,zd]
  ·obtain rfl:k=rs.length:=by omega
   have hout:=zB0 (fun st (l:List Nat×Nat)=>loopO (fun st r=>zBO st (l.1++r.1) (T l.2 r.2)) st rs) hil F;rw[hrun]at hout;rw[List.take_length]at hrun2;have hout2:loopO (fun st (l:List Nat×Nat)=>loopO (fun st r=>zBO st (l.1++r.1) (T l.2 r.2)) st rs) F (ls.take (i+1))=some F2:=hout.trans hrun2;refine cF0 ?_;refine zE ?_;refine rr0 ?_;refine⟨(i+1,F2),⟨by simp only;omega,hF2,hF2l,hout2⟩,by simp only;omega,?_⟩;exact kf1 [(0,some 0),(1,some 1),(2,some 2),(3,some 3),(4,some 4),(5,some 5),(6,some 6),(7,some 7)] (fun j=>100+j) (an @zl.eq_1 (an @zm.eq_1 (an @zY.eq_1 (an @zi.eq_1 @rows.eq_1))))
 ·obtain rfl:i=ls.length:=by omega
  rw[List.take_length]at hrun;refine cF0 ?_;refine zE ?_;refine rg0 ?_;refine zC ?_;refine⟨⟨_,_,⟨true,F1,fun _=>hrun,fun h=>(by cases h),hF1,rfl,rfl⟩,?_,?_⟩,by simp⟩
  ·exact zUB
  refine zH0 [(0,some 0),(1,some 1),(2,some 2),(3,some 3),(4,some 4),(5,some 5),(6,some 6),(7,some 7)] (fun j=>100+j) (.inr rfl) ?_ ?_ ?_ ?_ ?_ _ ?_ (by first|(simp;rfl)|rfl)
  all_goals try simp +contextual (disch:=omega)[zL,zJ,ze,zW,zAN,ints,zI,zl,zm,zBW,zY,zi,rows,ints]
theorem zBe{α β:Type}{f:β->α->Option β}{l:List α}{k:Nat}{b b' b2:β}(hk:k<l.length)(h1:loopO f b (l.take k)=some b')(h2:f b' l[k]=some b2):loopO f b (l.take (k+1))=some b2:=by
 rw[zB0 f hk b,h1];exact h2
theorem zBL{α β:Type}{f:β->α->Option β}{l:List α}{k:Nat}{b b':β}(hk:k<l.length)(h1:loopO f b (l.take k)=some b')(h2:f b' l[k]=none):loopO f b l=none:=by
 refine zDs f (k:=k+1) ?_;rw[zB0 f hk b,h1];exact h2
theorem zA1(ls:List (List Nat×Nat))(t:List Nat)(x:Nat):zFK (ls++[(t,x)])=zFK ls++[.str (zAg t),.int .i64 x]:=by simp[zFK]
def zBj(F:List (List (List Nat))):T:=.sl 1 (F.map fun l=>.sl 1 (zFI l))
@[simp] theorem zTk(F:List (List (List Nat))):scal (zBj F)=false:=rfl
def zAy(tb:List (List Int))(im:List Int)(j:Nat):AObj:=.box 80 [.any,.t 1 (rows tb),.any,.t 1 (ints im),.any,.any,.own j 0]
def CcI(n:Nat)(C:Nat->Nat)(cC:List M.T):Prop:=cC.length=n/\ ∀x (h:x<cC.length),cC[x]= .int .i64 0\/cC[x]= .int .i64 ((C x:Int)+1)
theorem CcI.set{n:Nat}{C:Nat->Nat}{cC:List M.T}(h:CcI n C cC)(x:Nat):CcI n C (cC.set x (.int .i64 ((C x:Int)+1))):=by
 refine⟨by rw[List.length_set];exact h.1,fun y hy=>?_⟩;rw[List.getElem_set];split
 ·rename_i e;subst e;exact .inr rfl
 ·exact h.2 y (by simpa using hy)
theorem zVe{B c a:Nat}(hB:B<64)(hc:c<64)(ha:a<=6): ∃q:Nat,zOq .i64 (zOO .i64 (B:Int) (c:Int)) (a:Int)=(q:Int)/\(((q:Int)%2=0/\(B.testBit a&& !c.testBit a)=false)\/((q:Int)%2=1/\(B.testBit a&& !c.testBit a)=true)):=by
 obtain⟨m,hm⟩: ∃m:Nat,m=(BitVec.ofNat 64 B&&& ~~~ BitVec.ofNat 64 c).toNat:=⟨_,rfl⟩;have hmB:m<=B:=by
  rw[hm,BitVec.toNat_and,BitVec.toNat_ofNat];exact Nat.le_trans Nat.and_le_left (Nat.mod_le _ _)
 have hbit:m.testBit a=(B.testBit a&& !c.testBit a):=by
  rw[hm,BitVec.testBit_toNat,BitVec.getLsbD_and,BitVec.getLsbD_not,BitVec.getLsbD_ofNat,BitVec.getLsbD_ofNat];have:a<64:=by omega
  simp[this]
 have e: ∀x:Nat,x<64->BitVec.ofInt IntKind.i64.bits (x:Int)=BitVec.ofNat 64 x:=fun x hx=>by
  apply BitVec.eq_of_toNat_eq;have h2:(BitVec.ofNat 64 x).toNat=x:=by rw[BitVec.toNat_ofNat];omega
  exact(bvN (by omega)).trans h2.symm
 have hz:zOO .i64 (B:Int) (c:Int)=(m:Int):=by
  have hlt:(BitVec.ofNat 64 B&&& ~~~ BitVec.ofNat 64 c).toNat<9223372036854775808:=by rw[←hm];omega
  unfold zOO;rw[e B hB,e c hc,hm];exact zJG hlt
 obtain⟨b1,b2⟩:=zT9 (B:=m) (a:=a) ha;rw[hbit]at b2;rw[hz];exact⟨_,b1,b2⟩
section
variable{n:Nat}{T:Nat->Nat->Nat}{im:Nat->Nat}{L:Nat}
def lfA(n:Nat)(T:Nat->Nat->Nat)(im:Nat->Nat)(L:Nat)(fam:Nat->Option (List (List (List Nat))))(C:Nat->Nat)(B f x:Nat)(w:List Nat)(y:Nat)(st:LSt)(a:Nat):Option LSt:=if B.testBit a&& !(C x).testBit a then leftF n T im L fam C B f st (w++[a]) (T y (im a))else some st
def lfP(n:Nat)(T:Nat->Nat->Nat)(im:Nat->Nat)(L:Nat)(fam:Nat->Option (List (List (List Nat))))(C:Nat->Nat)(B f x:Nat)(t:List Nat)(y:Nat)(st:LSt)(p:List Nat):Option LSt:=match zBO st.1 (t++p) y with
 |none=>none
 |some l1=>loopO (lfA n T im L fam C B f x (t++p) y) (l1,st.2) (List.range L)
def lfV(n:Nat)(T:Nat->Nat->Nat)(im:Nat->Nat)(L:Nat)(fam:Nat->Option (List (List (List Nat))))(C:Nat->Nat)(B f x:Nat)(t:List Nat)(F:List (List (List Nat)))(st:LSt)(v:Nat):Option LSt:=loopO (lfP n T im L fam C B f x t (T x v)) st (fmA F v)
theorem zPQ{fam:Nat->Option (List (List (List Nat)))}{C:Nat->Nat}{B f x:Nat}{t:List Nat}{F:List (List (List Nat))}{st:LSt}(hc:C x≠B)(hF:fam (C x)=some F):leftF n T im L fam C B (f+1) st t x=loopO (lfV n T im L fam C B f x t F) st (List.range n):=by
 rw[leftF,if_neg hc,hF];rfl
end
structure LfI(Eo:List (M.T×M.T)->Prop)(n:Nat)(C:Nat->Nat)(F:List (List (List Nat)))(ls:List (List Nat×Nat))(es:List (M.T×M.T))(cC:List M.T):Prop where
 len:F.length=n
 few: ∀v,(fmA F v).length<=400
 les: ∀l∈ls,l.1.length<=400/\l.2<n
 lel:ls.length<=200000
 es:Eo es
 cc:CcI n C cC
def zT6(tb:List (List Int))(im:List Int)(fam:Nat->Option (List (List (List Nat))))(Eo:List (M.T×M.T)->Prop)(c:Nat)(es:List (M.T×M.T)):Prop:=∃res H',(∃ok F v0 es',(ok=true->fam c=some F/\Eo es'/\v0=AV.t 1 (zBj F))/\(ok=false->fam c=none/\v0= .any)/\res= .tup [v0,.t 2 (.bool ok)]/\H'=[zAy tb im 1,.tmap 3 81 es'])/\FnS Tryz.prog 33 [.ptr 0 0 7,.t 2 (.int .i64 c)] [zAy tb im 1,.tmap 3 81 es] res H'
theorem zLx{b1 b2:Nat}{tb:List (List Int)}{im:List Int}{B n:Nat}{es es':List (M.T×M.T)}{cC dC cC' dC':List M.T}{mem:List Nat}{ls rs ls' rs':List (List Nat×Nat)}{F F':List (List (List Nat))}{X Y:List AObj}(j:Nat)(p:Nat×AV)(hp:[(1,AV.ptr 1 0 7)][j]? =some p):zSd (zBW b1 tb im B n es cC dC mem ls rs F++X) (zBW b2 tb im B n es' cC' dC' mem ls' rs' F'++Y) p.1 p.2:=by
 rcases j with _|j
 ·simp at hp;subst hp;exact .inl ⟨7,_,_,_,_,rfl,rfl,rfl,rfl,rfl⟩
 ·simp at hp
abbrev LfS:=List (List (List Nat))×List (List Nat×Nat)×List (M.T×M.T)×List M.T
abbrev lfO(tb:List (List Int))(im:List Int)(B n:Nat)(dC:List M.T)(mem:List Nat)(rs:List (List Nat×Nat))(F:List (List (List Nat)))(ls:List (List Nat×Nat))(es:List (M.T×M.T))(cC:List M.T):List (Nat×AObj):=[(0,zY tb im B n mem ls.length rs.length),(1,zi tb im),(2,.tmap 3 81 es),(3,.row 3 1 1 cC),(4,.row 3 1 1 dC),(5,.vec 26 1 1 (zl 100 n F)),(6,.row 184 2 1 (zFK ls)),(7,.row 184 2 1 (zFK rs))]
theorem zST{n:Nat}{T:Nat->Nat->Nat}{im':Nat->Nat}{L:Nat}{tb:List (List Int)}{im:List Int}(h:zFQ n T im' L tb im){B:Nat}(hB:B<64){mem:List Nat}(hm: ∀z∈mem,z<n)(hml:mem.length<=n){C:Nat->Nat}(hC: ∀x,x<n->maskN L (stP T im' mem B x)=C x)(hCB: ∀x,x<n->C x<=B)
  {fam:Nat->Option (List (List (List Nat)))} (hfb: ∀c F,fam c=some F->F.length=n/\ ∀v,(fmA F v).length<=400/\ ∀p∈fmA F v,p.length<=121) {Eo:List (M.T×M.T)->Prop} (hfam: ∀c,c<B-> ∀es,Eo es->zT6 tb im fam Eo c es) {dC:List M.T} (hdC:dC.length=n) {rs:List (List Nat×Nat)}:
  ∀(f:Nat) (t:List Nat) (x:Nat) (F:List (List (List Nat))) (ls:List (List Nat×Nat)) (es:List (M.T×M.T)) (cC:List M.T),124<=f+t.length->t.length<=122->x<n->LfI Eo n C F ls es cC→
  ∃res H',(∃ok F' ls' es' cC',(ok=true->leftF n T im' L fam C B f (F,ls) t x=some (F',ls')/\LfI Eo n C F' ls' es' cC')/\(ok=false->leftF n T im' L fam C B f (F,ls) t x=none)/\F'.length=n/\cC'.length=n/\res= .t 2 (.bool ok)/\H'=zBW 8 tb im B n es' cC' dC mem ls' rs F'++tab n (zm F'))∧
   FnK Tryz.prog 64 [.ptr 0 0 10,.t 2 (.str (zAg t)),.t 2 (.int .i64 x)] (zBW 8 tb im B n es cC dC mem ls rs F++tab n (zm F)) res H' [1]:=by
 have hn4:=h.n4;have hil:=h.il;have hl6:=h.l6;intro f
 induction f with
 |zero=>intro t x F ls es cC h1 h2;omega
 |succ f ih=>
 intro t x F ls es cC hf ht hx hI;have hcl:=hI.cc.1;have hFl:=hI.len;have hxc:x<cC.length:=by omega
 have hcx:=hCB x hx;refine zCD [(1,.ptr 1 0 7)] Tryz.func64 rfl (by simp[Tryz.f64]) ?_;rw[show Tryz.f64.ntmps=155 from rfl,show Tryz.f64.results= #[.tmp 6]from rfl];rw[zDa];refine zS (σ':=mkF [(0,.ptr 0 0 10),(1,.t 2 (.str (zAg t))),(2,.t 2 (.int .i64 x))]
   (lfO tb im B n dC mem rs F ls es cC) 100 n (zm F) 2000 155 [.ptr 0 0 10,.any,.any,.ptr 1 0 7]) ?_ ?_
 ·refine zAQ [(0,some 0),(1,some 1),(2,some 2),(3,some 3),(4,some 4),(5,some 5),(6,some 6),(7,some 7)] (fun j=>8+j) rfl ?_ ?_ ?_ ?_ ?_ ?_
  all_goals try simp +contextual (disch:=omega)[zL,zJ,ze,zW,zAN,ints,zI,zl,zm,zBW,zY,zi,rows,ints,idxE]
  all_goals (try omega)
 refine rg0 ?_;refine zDX (fun σ'=>∃cC2,(CcI n C cC2/\ ∀hh,cC2[x]'hh= .int .i64 ((C x:Int)+1))/\Wk σ' (mkF [(0,.ptr 0 0 10),(1,.t 2 (.str (zAg t))),(2,.t 2 (.int .i64 x))]
   (lfO tb im B n dC mem rs F ls es cC2) 100 n (zm F) 2000 155 [.ptr 0 0 10,.any,.any,.ptr 1 0 7])) ?_ ?_
 ·rintro σ' ⟨cC2,⟨hcc,hcx2⟩,hw⟩;refine zS hw ?_;clear hw hxc hcl;have hI2:LfI Eo n C F ls es cC2:=⟨hI.len,hI.few,hI.les,hI.lel,hI.es,hcc⟩;clear hI;have hcl:=hcc.1;have hxc:x<cC2.length:=by omega
  have hll:=hI2.lel;have hw1:IntKind.i64.wrap ((C x:Int)+1-1)=(C x:Int):=by rw[show(C x:Int)+1-1=((C x:Nat):Int) by omega];exact zJG (by omega)
  refine rg1 (an @zY.eq_1 (an @hxc (an @hcx2 @hw1))) ?_;refine zA ?_;refine rg1 @zY.eq_1 ?_;by_cases hcB:C x=B
  ·have hcBi:(C x:Int)=(B:Int):=by omega
   have hcBb:((C x:Int)==(B:Int))=true:=by simp[hcB]
   refine cT1 (an @hcBi @hcBb) ?_;have hfw:=zGE h (B:=B) (mem:=mem) (ls++[(t,x)]) t (by omega);rw[zA1,show(ls++[(t,x)]).length=ls.length+1 by simp]at hfw;have hl2:(ls.length+1)*2=ls.length*2+2:=by omega
   refine rg1 @zY.eq_1 ?_;refine zF fun K hK=>?_
   simp(maxSteps:=2000000)(disch:=omega)[ints,rows,zY]
   (repeat' apply And.intro)
   all_goals (try omega)
   refine zD (caps:=[]) (hfw) [] [] 1 rfl rfl rfl rfl (by kernel_rfl) (by simp) ?_ ?_ (by simp) rfl (by simp) trivial (by simp) ?_
   ·simp[scal,rows,ints,zY,zB4,rows]
   ·trivial
   simp(maxSteps:=2000000)(disch:=omega)[scal];and_intros<;>try first|apply hK|omega|rfl|simp<;>omega
   refine zC ?_;by_cases hfew:zE5 n (ls.length+1) t
   ·rw[decide_eq_true hfew];have h400:ls.length+1<=n*400:=hfew.1;refine⟨⟨_,_,⟨true,F,ls++[(t,x)],es,cC2,fun _=>⟨by rw[leftF,if_pos hcB,if_pos hfew],⟨hI2.len,hI2.few,fun l hl=>?_,by simp;omega,hI2.es,hcc⟩⟩,fun h=>(by cases h),hFl,hcl,rfl,rfl⟩,?_,?_⟩,by simp⟩
    ·rcases List.mem_append.1 hl with hl|hl
     ·exact hI2.les l hl
     ·simp only[List.mem_singleton]at hl;subst hl;exact⟨by show t.length<=400;omega,hx⟩
    ·exact zLx
    refine zH0 [(0,some 0),(1,some 1),(2,some 2),(3,some 3),(4,some 4),(5,some 5),(6,some 6),(7,some 7)] (fun j=>100+j) (.inr rfl) ?_ ?_ ?_ ?_ ?_ _ ?_ (by first|(simp;rfl)|rfl)
    all_goals try simp +contextual (disch:=omega)[zL,zJ,ze,zW,zAN,ints,zI,zl,zm,zBW,zY,zi,rows,ints,hl2,zA1]
   ·rw[decide_eq_false hfew];refine⟨⟨_,_,⟨false,F,ls++[(t,x)],es,cC2,fun h=>(by cases h),fun _=>by rw[leftF,if_pos hcB,if_neg hfew],hFl,hcl,rfl,rfl⟩,?_,?_⟩,by simp⟩
    ·exact zLx
    refine zH0 [(0,some 0),(1,some 1),(2,some 2),(3,some 3),(4,some 4),(5,some 5),(6,some 6),(7,some 7)] (fun j=>100+j) (.inr rfl) ?_ ?_ ?_ ?_ ?_ _ ?_ (by first|(simp;rfl)|rfl)
    all_goals try simp +contextual (disch:=omega)[zL,zJ,ze,zW,zAN,ints,zI,zl,zm,zBW,zY,zi,rows,ints,hl2,zA1]
  ·have hcBi: ¬(C x:Int)=(B:Int):=by omega
   have hcBb:((C x:Int)==(B:Int))=false:=by simpa using hcBi
   refine cS1 (an @hcBi @hcBb) ?_;obtain⟨_,_,⟨ok,Fm,v0,es2,q1,q2,rfl,rfl⟩,hfc⟩:=hfam (C x) (by omega) es hI2.es
   cases ok with
   |false=>
    obtain⟨q3,rfl⟩:=q2 rfl;clear q1 q2;refine zF fun K hK=>?_
    simp(maxSteps:=2000000)(disch:=omega)[ints,rows,zY]
    (repeat' apply And.intro)
    all_goals (try omega)
    refine zD (caps:=[]) (hfc) [1,2] [1,20002002] 1 rfl rfl rfl rfl (by kernel_rfl) (by simp) ?_ ?_ (by simp) rfl (by simp) ⟨.inr ⟨rfl,0,_,_,_,_,_,rfl,rfl,(by first|rfl|simp[zY,zi,zAy,rows,ints]),rfl,(by first|rfl|simp[zY,zi,zAy,rows,ints])⟩,.inl ⟨by omega,by omega⟩,trivial⟩ (by simp[zAy,rows,ints]) ?_
    ·simp[scal]
    ·simp[scal,rows,ints,zY,zi,zAy,rows,ints]
    simp(maxSteps:=2000000)(disch:=omega)[scal];and_intros<;>try first|apply hK|omega|rfl|simp<;>omega
    refine zA ?_;refine rg0 ?_;refine cT0 ?_;refine rg0 ?_;refine zC ?_;refine⟨⟨_,_,⟨false,F,ls,es2,cC2,fun h=>(by cases h),fun _=>by rw[leftF,if_neg hcB,q3],hFl,hcl,rfl,rfl⟩,?_,?_⟩,by simp⟩
    ·exact zLx
    refine zH0 [(0,some 0),(1,some 1),(2,some 20002002),(3,some 3),(4,some 4),(5,some 5),(6,some 6),(7,some 7)] (fun j=>100+j) (.inr rfl) ?_ ?_ ?_ ?_ ?_ _ ?_ (by first|(simp;rfl)|rfl)
    all_goals try simp +contextual (disch:=omega)[zL,zJ,ze,zW,zAN,Ql,Qd,ints,scal,zI,zl,zm,zBW,zY,zi,zAy,rows,ints]
   |true=>
    obtain⟨q3,q4,rfl⟩:=q1 rfl;clear q1 q2;obtain⟨hFm,hFmb⟩:=hfb _ _ q3;have hgo:=zPQ (n:=n) (T:=T) (im:=im') (L:=L) (B:=B) (f:=f) (t:=t) (st:=(F,ls)) hcB q3;rw[hgo];clear hgo;refine zF fun K hK=>?_
    simp(maxSteps:=2000000)(disch:=omega)[ints,rows,zY]
    (repeat' apply And.intro)
    all_goals (try omega)
    refine zD (caps:=[]) (hfc) [1,2] [1,20002002] 1 rfl rfl rfl rfl (by kernel_rfl) (by simp) ?_ ?_ (by simp) rfl (by simp) ⟨.inr ⟨rfl,0,_,_,_,_,_,rfl,rfl,(by first|rfl|simp[zY,zi,zAy,rows,ints]),rfl,(by first|rfl|simp[zY,zi,zAy,rows,ints])⟩,.inl ⟨by omega,by omega⟩,trivial⟩ (by simp[zAy,rows,ints]) ?_
    ·simp[scal]
    ·simp[scal,rows,ints,zY,zi,zAy,rows,ints]
    simp(maxSteps:=2000000)(disch:=omega)[scal];and_intros<;>try first|apply hK|omega|rfl|simp<;>omega
    refine zA ?_;refine rg0 ?_;refine cS0 ?_;refine zA ?_;refine rg1 (an @zBj.eq_1 @hFm) ?_;refine zB ?_;refine awp_loop (fun y:Nat×LfS=>mkF [(0,.ptr 0 0 10),(1,.t 2 (.str (zAg t))),(2,.t 2 (.int .i64 x)),(7,.t 2 (.int .i64 (C x:Nat))),(80,.t 0 (zBj Fm)),(81,.t 2 (.int .i64 n)),(82,.t 2 (.int .i64 y.1))]
      (lfO tb im B n dC mem rs y.2.1 y.2.2.1 y.2.2.2.1 y.2.2.2.2) 100 n (zm y.2.1) 2000 155 [.ptr 0 0 10,.any,.any,.ptr 1 0 7])
     (fun y=>y.1<=n/\LfI Eo n C y.2.1 y.2.2.1 y.2.2.2.1 y.2.2.2.2/\loopO (lfV n T im' L fam C B f x t Fm) (F,ls) ((List.range n).take y.1)=some (y.2.1,y.2.2.1)) (fun y=>n-y.1) ?_ ?_
    ·refine⟨(0,F,ls,es2,cC2),⟨by simp,⟨hI2.len,hI2.few,hI2.les,hI2.lel,q4,hcc⟩,rfl⟩,?_⟩;exact kf1 [(0,some 0),(1,some 1),(2,some 20002002),(3,some 3),(4,some 4),(5,some 5),(6,some 6),(7,some 7)] (fun j=>100+j) (an @zl.eq_1 (an @zm.eq_1 (an @zY.eq_1 (an @zi.eq_1 (an @zAy.eq_1 (an @rows.eq_1 @zBj.eq_1))))))
    clear hI2 hcc hcx2 hxc hcl hll q4 hFl hfc;rintro⟨v,F1,ls1,es1,cC1⟩ ⟨hv,hI1,hrun⟩;simp only at hv hI1 hrun;have hcl1:=hI1.cc.1;have hFl1:=hI1.len;refine rg0 ?_;refine zA ?_;by_cases hvl:v<n
    ·obtain⟨g1,g2,g3⟩:=zBp h.ht hx hvl;have hy:=h.ht.lt _ _ hx hvl;have hvF:v<Fm.length:=by omega
     have hFv: ∀hh,Fm[v]'hh=fmA Fm v:=fun hh=>by unfold fmA;rw[Qv,Qj hh];rfl
     obtain⟨hb4,hbp⟩:=hFmb v;have hvr:v<(List.range n).length:=by simpa using hvl
     have hV: ∀st',loopO (lfP n T im' L fam C B f x t (T x v)) (F1,ls1) (fmA Fm v)=st'->lfV n T im' L fam C B f x t Fm (F1,ls1) ((List.range n)[v]'hvr)=st':=fun st' e=>by rw[List.getElem_range];exact e
     refine cK1 @hvl ?_;refine zA ?_;refine zB ?_;refine rg1 (an @zBj.eq_1 (an @hvF @hFv)) ?_;refine rg1 (an @zY.eq_1 (an @g1 (an @g2 @g3))) ?_;generalize fmA Fm v=tx at*
     generalize T x v=y at*
     refine rg0 ?_;refine zB ?_;refine awp_loop (fun z:Nat×LfS=>mkF [(0,.ptr 0 0 10),(1,.t 2 (.str (zAg t))),(2,.t 2 (.int .i64 x)),(7,.t 2 (.int .i64 (C x:Nat))),(12,.t 2 (.int .i64 y)),(80,.t 0 (zBj Fm)),(81,.t 2 (.int .i64 n)),(82,.t 2 (.int .i64 v)),(97,.t 0 (.sl 1 (zFI tx))),(98,.t 2 (.int .i64 tx.length)),(99,.t 2 (.int .i64 z.1))]
       (lfO tb im B n dC mem rs z.2.1 z.2.2.1 z.2.2.2.1 z.2.2.2.2) 100 n (zm z.2.1) 2000 155 [.ptr 0 0 10,.any,.any,.ptr 1 0 7])
      (fun z=>z.1<=tx.length/\LfI Eo n C z.2.1 z.2.2.1 z.2.2.2.1 z.2.2.2.2/\loopO (lfP n T im' L fam C B f x t y) (F1,ls1) (tx.take z.1)=some (z.2.1,z.2.2.1)) (fun z=>tx.length-z.1) ?_ ?_
     ·refine⟨(0,F1,ls1,es1,cC1),⟨by simp,hI1,rfl⟩,?_⟩;exact kf1 [(0,some 0),(1,some 1),(2,some 2),(3,some 3),(4,some 4),(5,some 5),(6,some 6),(7,some 7)] (fun j=>100+j) (an @zl.eq_1 (an @zm.eq_1 (an @zY.eq_1 (an @zi.eq_1 (an @rows.eq_1 @zBj.eq_1)))))
     clear hI1 hcl1 hFl1;rintro⟨k,F2,ls2,es2,cC2⟩ ⟨hk,hI2,hrun2⟩;simp only at hk hI2 hrun2;have hcl2:=hI2.cc.1;have hFl2:=hI2.len;refine rg0 ?_;refine zA ?_;by_cases hkl:k<tx.length
     ·have hp1:=hbp tx[k] (by simp);have hkx:(zFI tx)[k]? =some (.str (zAg (tx[k]'hkl))):=by unfold zFI;rw[Qi,Qj hkl];rfl
      have hkx2:lvT 0 (M.T.str (zAg (tx[k]'hkl)))=2:=by simp[lvT,scal]
      have hcat:=zBD t (tx[k]'hkl);have hle:t.length+(tx[k]'hkl).length<=9223372036854775807:=by omega
      have hwl:(t++tx[k]'hkl).length<=1000:=by simp;omega
      have hP: ∀st',(match zBO F2 (t++tx[k]'hkl) y with|none=>none|some l1=>loopO (lfA n T im' L fam C B f x (t++tx[k]'hkl) y) (l1,ls2) (List.range L))=st'->lfP n T im' L fam C B f x t y (F2,ls2) (tx[k]'hkl)=st':=fun st' e=>e
      have hwt:t.length<=(t++tx[k]'hkl).length:=by simp
      generalize hwe:t++tx[k]'hkl=w at*
      refine cK1 @hkl ?_;refine zA ?_;refine zB ?_;refine rg1 (an @hkl (an @hkx @hkx2)) ?_;refine rg1 (an @hcat (an @hle (an @hkx @hkx2))) ?_;obtain⟨_,_,⟨rfl,rfl⟩,hem⟩:=zMU h (B:=B) (es:=es2) (cC:=cC2) (dC:=dC) (mem:=mem) (ls:=ls2) (rs:=rs) hcl2 hdC hFl2 hy hwl (by have:=hI2.few y;omega);refine zA ?_;by_cases hok:(fmA F2 y).length+1<=400/\w.length/2<=60
      ·have hem2:zBO F2 w y=some (zCj F2 y w):=if_pos hok;rw[decide_eq_true hok]at hem;have hadd:=zER F2 w (show y<F2.length by omega);have hbd: ∀j,(fmA (zCj F2 y w) j).length<=400:=fun j=>by
        rw[hadd];split
        ·rw[List.length_append,List.length_singleton];exact hok.1
        ·exact hI2.few j
       have hlen3:(zCj F2 y w).length=n:=by rw[zCr,hFl2]
       rw[hem2]at hP;have hI3:LfI Eo n C (zCj F2 y w) ls2 es2 cC2:=⟨hlen3,hbd,hI2.les,hI2.lel,hI2.es,hI2.cc⟩;clear hadd hbd hem2;generalize zCj F2 y w=F3 at*
       refine zF fun K hK=>?_
       simp(maxSteps:=2000000)(disch:=omega)
       (repeat' apply And.intro)
       all_goals (try omega)
       refine zy (caps:=[]) (hem) [0,1,2,3,4,5,6,7] 100 [0,1,11002002,11002003,11002004,11002005,6,7] 11002010 1 rfl rfl rfl rfl (by kernel_rfl) (by simp) ?_ ?_ ?_ (by simp) (by intro k hk;simp at hk;omega) rfl (by simp) ⟨.inr (.inl ⟨rfl,0,_,_,_,_,_,rfl,rfl,(by first|rfl|simp[zY,zi,rows,zl,zm,zf]),rfl,(by first|rfl|simp[zY,zi,rows,zl,zm,zf])⟩),.inr (.inr ⟨rfl,by simp,by simp⟩),.inl ⟨by omega,by omega⟩,.inl ⟨by omega,by omega⟩,.inl ⟨by omega,by omega⟩,.inl ⟨by omega,by omega⟩,.inr (.inr ⟨rfl,by simp,by simp⟩),.inr (.inr ⟨rfl,by simp,by simp⟩),trivial⟩ (by omega) (by intro k hk;simp at hk;omega) (by simp[zY,zi,rows,zl]) (fun j hj=>rfl) ?_
       ·simp +contextual (disch:=omega)[zL,zJ,zW,scal,poF,scal]
       ·simp +contextual (disch:=omega)[zL,zJ,zW,Ql,ints,scal,poF,scal,rows,ints,zp,zY,zi,rows,zl,zf]
       ·simp +contextual (disch:=omega)[zm]
       simp(maxSteps:=2000000)(disch:=omega)[scal,callFF];and_intros<;>try first|apply hK|omega|rfl|simp<;>omega
       refine zk (b:=false) (p:=2) (by simp<;>omega) ?_;refine zQ ?_;refine zF fun K hK=>?_
       simp(maxSteps:=2000000)(disch:=omega)[ints,rows,scal,zAe,zY];and_intros<;>try first|apply hK|omega|rfl|simp<;>omega
       refine zB ?_;refine awp_loop (fun u:Nat×LfS=>mkF [(0,.ptr 0 0 10),(1,.t 2 (.str (zAg t))),(2,.t 2 (.int .i64 x)),(7,.t 2 (.int .i64 (C x:Nat))),(12,.t 2 (.int .i64 y)),(15,.t 2 (.str (zAg w))),(80,.t 0 (zBj Fm)),(81,.t 2 (.int .i64 n)),(82,.t 2 (.int .i64 v)),(97,.t 0 (.sl 1 (zFI tx))),(98,.t 2 (.int .i64 tx.length)),(99,.t 2 (.int .i64 k)),(114,.t 0 (ints im)),(115,.t 2 (.int .i64 L)),(116,.t 2 (.int .i64 u.1))]
         (lfO tb im B n dC mem rs u.2.1 u.2.2.1 u.2.2.2.1 u.2.2.2.2) 100 n (zm u.2.1) 2000 155 [.ptr 0 0 10,.any,.any,.ptr 1 0 7])
        (fun u=>u.1<=L/\LfI Eo n C u.2.1 u.2.2.1 u.2.2.2.1 u.2.2.2.2/\loopO (lfA n T im' L fam C B f x w y) (F3,ls2) ((List.range L).take u.1)=some (u.2.1,u.2.2.1)) (fun u=>L-u.1) ?_ ?_
       ·refine⟨(0,F3,ls2,es2,cC2),⟨by simp,hI3,rfl⟩,?_⟩;refine zAQ [(0,some 0),(1,some 1),(2,some 11002002),(3,some 11002003),(4,some 11002004),(5,some 11002005),(6,some 6),(7,some 7)] (fun j=>11002010+j) rfl ?_ ?_ ?_ ?_ ?_ ?_
        all_goals try simp +contextual (disch:=omega)[zL,zJ,ze,zW,zAN,ints,scal,zI,zl,zm,zY,zi,rows,ints,zw,zAe,zd,zBj,hil]
        all_goals (try omega)
       clear hI2 hcl2 hFl2 hI3 hem hlen3;rintro⟨a,F4,ls4,es4,cC4⟩ ⟨ha,hI4,hrun3⟩;simp only at ha hI4 hrun3;have hcl4:=hI4.cc.1;have hFl4:=hI4.len;refine rg0 ?_;refine zA ?_;by_cases hal:a<L
       ·obtain⟨i1,i2⟩:=h.ig a hal;obtain⟨i3,i4⟩:=Qq.1 i1;have i5: ∀hh:a<im.length,im[a]'hh=(im' a:Int):=fun _=>i4
        obtain⟨j1,j2,j3⟩:=zBp h.ht hy i2;have hz:=h.ht.lt _ _ hy i2;obtain⟨q,b1,b2⟩:=zVe (B:=B) (c:=C x) (a:=a) hB (by omega) (by omega);have har:a<(List.range L).length:=by simpa using hal
        have hA: ∀st',(if B.testBit a&& !(C x).testBit a then leftF n T im' L fam C B f (F4,ls4) (w++[a]) (T y (im' a))else some (F4,ls4))=st'->lfA n T im' L fam C B f x w y (F4,ls4) ((List.range L)[a]'har)=st':=fun st' e=>by rw[List.getElem_range];exact e
        refine cK1 @hal ?_;refine zA ?_;refine zB ?_;refine rg1 (an @i3 @i5) ?_;rcases b2 with⟨b2,b3⟩|⟨b2,b3⟩
        ·rw[b3,if_neg (by simp)]at hA;refine rd1 (an @zY.eq_1 (an @b1 @b2)) ?_;refine cY0 ?_;refine rr0 ?_;refine⟨(a+1,F4,ls4,es4,cC4),⟨by simp only;omega,hI4,zBe har hrun3 (hA _ rfl)⟩,by simp only;omega,?_⟩;exact kf1 [(0,some 0),(1,some 1),(2,some 2),(3,some 3),(4,some 4),(5,some 5),(6,some 6),(7,some 7)] (fun j=>100+j) (an @zl.eq_1 (an @zm.eq_1 (an @zY.eq_1 (an @zi.eq_1 (an @rows.eq_1 @zBj.eq_1)))))
        ·rw[b3,if_pos rfl]at hA;have hby:zAg w++zBa [.int .u8 (a:Int)]=zAg (w++[a]):=by
          rw[←zBD];rfl
         have hbs:(zBa [.int .u8 (a:Int)]).size=1:=rfl;have hws:w.length+1<=9223372036854775807:=by omega
         obtain⟨_,_,⟨ok,F5,ls5,es5,cC5,q1,q2,q4,q5,rfl,rfl⟩,hrec⟩:=ih (w++[a]) (T y (im' a)) F4 ls4 es4 cC4 (by rw[List.length_append,List.length_singleton];omega) (by rw[List.length_append,List.length_singleton];omega) hz hI4;generalize T y (im' a)=za at*
         generalize w++[a]=wa at*
         cases ok with
         |true=>
          obtain⟨q6,q7⟩:=q1 rfl;refine zg (by kernel_rfl) (fun K hK=>?_);simp(maxSteps:=2000000)(disch:=omega)[ints,rows,wr8,zY,b1,b2,rows,j1,j2,j3,hby,hbs,hws,isU8]
          (repeat' apply And.intro)
          all_goals (try omega)
          refine zAj (caps:=[]) (hrec) [0,1,2,3,4,5,6,7] 100 [0,1,34002002,34002003,34002004,34002005,34002006,34002007] 34002010 1 (by simp) rfl rfl rfl (by kernel_rfl) (by simp) ?_ ?_ ?_ (by simp) (by intro k hk;simp at hk;omega) rfl (by simp) ⟨.inr (.inl ⟨rfl,0,_,_,_,_,_,rfl,rfl,(by first|rfl|simp[zY,zi,rows,zl,zm,zf]),rfl,(by first|rfl|simp[zY,zi,rows,zl,zm,zf])⟩),.inr (.inr ⟨rfl,by simp,by simp⟩),.inl ⟨by omega,by omega⟩,.inl ⟨by omega,by omega⟩,.inl ⟨by omega,by omega⟩,.inl ⟨by omega,by omega⟩,.inl ⟨by omega,by omega⟩,.inl ⟨by omega,by omega⟩,trivial⟩ (by omega) (by intro k hk;simp at hk;omega) (by simp[zY,zi,rows,zl]) (fun j hj=>rfl) ?_
          ·simp +contextual (disch:=omega)[zL,zJ,zW,zAN,scal,poF,scal]
          ·simp +contextual (disch:=omega)[zL,zJ,zW,Ql,ints,scal,poF,scal,rows,ints,zp,zY,zi,rows,zl,zf]
          ·simp +contextual (disch:=omega)[zJ,zm]
          simp(maxSteps:=2000000)(disch:=omega)[scal,callFF];and_intros<;>try first|apply hK|(show zAY _ _=true;kernel_rfl)|(show okH _ _ _=true;kernel_rfl)|omega|rfl|simp<;>omega
          refine zk (b:=false) (p:=2) (by simp<;>omega) ?_;refine zQ ?_;refine zAT fun K hK=>?_
          simp(maxSteps:=2000000)(disch:=omega)[zBs]
          (repeat' first|apply hK|apply And.intro)<;>try first|omega|rfl|(simp<;>omega)
          refine⟨(a+1,F5,ls5,es5,cC5),⟨by simp only;omega,q7,zBe har hrun3 (hA _ q6)⟩,by simp only;omega,?_⟩;refine zAQ [(0,some 0),(1,some 1),(2,some 34002002),(3,some 34002003),(4,some 34002004),(5,some 34002005),(6,some 34002006),(7,some 34002007)] (fun j=>34002010+j) rfl ?_ ?_ ?_ ?_ ?_ ?_
          all_goals try simp +contextual (disch:=omega)[zL,zJ,ze,zW,zAN,ints,scal,zI,zl,zm,zY,zi,rows,ints,zw,zAe,zd,zBj]
          all_goals (try omega)
         |false=>
          have hnone:loopO (lfV n T im' L fam C B f x t Fm) (F,ls) (List.range n)=none:=zBL hvr hrun (hV none (zBL hkl hrun2 (hP none (zBL har hrun3 (hA none (q2 rfl))))));refine zg (by kernel_rfl) (fun K hK=>?_);simp(maxSteps:=2000000)(disch:=omega)[ints,rows,wr8,zY,b1,b2,rows,j1,j2,j3,hby,hbs,hws,isU8]
          (repeat' apply And.intro)
          all_goals (try omega)
          refine zAj (caps:=[]) (hrec) [0,1,2,3,4,5,6,7] 100 [0,1,34002002,34002003,34002004,34002005,34002006,34002007] 34002010 1 (by simp) rfl rfl rfl (by kernel_rfl) (by simp) ?_ ?_ ?_ (by simp) (by intro k hk;simp at hk;omega) rfl (by simp) ⟨.inr (.inl ⟨rfl,0,_,_,_,_,_,rfl,rfl,(by first|rfl|simp[zY,zi,rows,zl,zm,zf]),rfl,(by first|rfl|simp[zY,zi,rows,zl,zm,zf])⟩),.inr (.inr ⟨rfl,by simp,by simp⟩),.inl ⟨by omega,by omega⟩,.inl ⟨by omega,by omega⟩,.inl ⟨by omega,by omega⟩,.inl ⟨by omega,by omega⟩,.inl ⟨by omega,by omega⟩,.inl ⟨by omega,by omega⟩,trivial⟩ (by omega) (by intro k hk;simp at hk;omega) (by simp[zY,zi,rows,zl]) (fun j hj=>rfl) ?_
          ·simp +contextual (disch:=omega)[zL,zJ,zW,zAN,scal,poF,scal]
          ·simp +contextual (disch:=omega)[zL,zJ,zW,Ql,ints,scal,poF,scal,rows,ints,zp,zY,zi,rows,zl,zf]
          ·simp +contextual (disch:=omega)[zJ,zm]
          simp(maxSteps:=2000000)(disch:=omega)[scal,callFF];and_intros<;>try first|apply hK|(show zAY _ _=true;kernel_rfl)|(show okH _ _ _=true;kernel_rfl)|omega|rfl|simp<;>omega
          refine zk (b:=true) (p:=2) (by simp<;>omega) ?_;refine zF fun K hK=>?_
          simp(maxSteps:=2000000)(disch:=omega);and_intros<;>try first|apply hK|omega|rfl|simp<;>omega
          refine zC ?_;refine⟨⟨_,_,⟨false,F5,ls5,es5,cC5,fun h=>(by cases h),fun _=>hnone,q4,q5,rfl,rfl⟩,?_,?_⟩,by simp⟩
          ·exact zLx
          refine zH0 [(0,some 0),(1,some 1),(2,some 34002002),(3,some 34002003),(4,some 34002004),(5,some 34002005),(6,some 34002006),(7,some 34002007)] (fun j=>34002010+j) (.inr rfl) ?_ ?_ ?_ ?_ ?_ _ ?_ (by first|(simp;rfl)|rfl)
          all_goals try simp +contextual (disch:=omega)[zL,zJ,ze,zW,zAN,ints,scal,zI,zl,zm,zBW,zY,zi,rows,ints,zw,zAe,zd]
       ·obtain rfl:a=L:=by omega
        have hrunA:loopO (lfA n T im' a fam C B f x w y) (F3,ls2) (List.range a)=some (F4,ls4):=by
         rw[←hrun3];congr 1;exact(Qn (by simp)).symm
        refine cF0 ?_;refine zE ?_;refine rr0 ?_;refine⟨(k+1,F4,ls4,es4,cC4),⟨by simp only;omega,hI4,zBe hkl hrun2 (hP _ hrunA)⟩,by simp only;omega,?_⟩;exact kf1 [(0,some 0),(1,some 1),(2,some 2),(3,some 3),(4,some 4),(5,some 5),(6,some 6),(7,some 7)] (fun j=>100+j) (an @zl.eq_1 (an @zm.eq_1 (an @zY.eq_1 (an @zi.eq_1 (an @rows.eq_1 @zBj.eq_1)))))
      ·have e0:zBO F2 w y=none:=if_neg hok;rw[e0]at hP;have hnone:loopO (lfV n T im' L fam C B f x t Fm) (F,ls) (List.range n)=none:=zBL hvr hrun (hV none (zBL hkl hrun2 (hP none rfl)));have hlen3:(zCj F2 y w).length=n:=by rw[zCr,hFl2]
       rw[decide_eq_false hok]at hem;generalize zCj F2 y w=F3 at hem hlen3;refine zF fun K hK=>?_
       simp(maxSteps:=2000000)(disch:=omega)
       (repeat' apply And.intro)
       all_goals (try omega)
       refine zy (caps:=[]) (hem) [0,1,2,3,4,5,6,7] 100 [0,1,11002002,11002003,11002004,11002005,6,7] 11002010 1 rfl rfl rfl rfl (by kernel_rfl) (by simp) ?_ ?_ ?_ (by simp) (by intro k hk;simp at hk;omega) rfl (by simp) ⟨.inr (.inl ⟨rfl,0,_,_,_,_,_,rfl,rfl,(by first|rfl|simp[zY,zi,rows,zl,zm,zf]),rfl,(by first|rfl|simp[zY,zi,rows,zl,zm,zf])⟩),.inr (.inr ⟨rfl,by simp,by simp⟩),.inl ⟨by omega,by omega⟩,.inl ⟨by omega,by omega⟩,.inl ⟨by omega,by omega⟩,.inl ⟨by omega,by omega⟩,.inr (.inr ⟨rfl,by simp,by simp⟩),.inr (.inr ⟨rfl,by simp,by simp⟩),trivial⟩ (by omega) (by intro k hk;simp at hk;omega) (by simp[zY,zi,rows,zl]) (fun j hj=>rfl) ?_
       ·simp +contextual (disch:=omega)[zL,zJ,zW,scal,poF,scal]
       ·simp +contextual (disch:=omega)[zL,zJ,zW,Ql,ints,scal,poF,scal,rows,ints,zp,zY,zi,rows,zl,zf]
       ·simp +contextual (disch:=omega)[zm]
       simp(maxSteps:=2000000)(disch:=omega)[scal,callFF];and_intros<;>try first|apply hK|omega|rfl|simp<;>omega
       refine zk (b:=true) (p:=2) (by simp<;>omega) ?_;refine zF fun K hK=>?_
       simp(maxSteps:=2000000)(disch:=omega);and_intros<;>try first|apply hK|omega|rfl|simp<;>omega
       refine zC ?_;refine⟨⟨_,_,⟨false,F3,ls2,es2,cC2,fun h=>(by cases h),fun _=>hnone,hlen3,hcl2,rfl,rfl⟩,?_,?_⟩,by simp⟩
       ·exact zLx
       refine zH0 [(0,some 0),(1,some 1),(2,some 11002002),(3,some 11002003),(4,some 11002004),(5,some 11002005),(6,some 6),(7,some 7)] (fun j=>11002010+j) (.inr rfl) ?_ ?_ ?_ ?_ ?_ _ ?_ (by first|(simp;rfl)|rfl)
       all_goals try simp +contextual (disch:=omega)[zL,zJ,ze,zW,zAN,ints,scal,zI,zl,zm,zBW,zY,zi,rows,ints,zw,zAe,zd]
     ·obtain rfl:k=tx.length:=by omega
      rw[List.take_length]at hrun2;refine cF0 ?_;refine zE ?_;refine rr0 ?_;refine⟨(v+1,F2,ls2,es2,cC2),⟨by simp only;omega,hI2,zBe hvr hrun (hV _ hrun2)⟩,by simp only;omega,?_⟩;exact kf1 [(0,some 0),(1,some 1),(2,some 2),(3,some 3),(4,some 4),(5,some 5),(6,some 6),(7,some 7)] (fun j=>100+j) (an @zl.eq_1 (an @zm.eq_1 (an @zY.eq_1 (an @zi.eq_1 (an @rows.eq_1 @zBj.eq_1)))))
    ·obtain rfl:v=n:=by omega
     have hrunV:loopO (lfV v T im' L fam C B f x t Fm) (F,ls) (List.range v)=some (F1,ls1):=by
      rw[←hrun];congr 1;exact(Qn (by simp)).symm
     refine cF0 ?_;refine zE ?_;refine rg0 ?_;refine zC ?_;refine⟨⟨_,_,⟨true,F1,ls1,es1,cC1,fun _=>⟨hrunV,hI1⟩,fun h=>(by cases h),hFl1,hcl1,rfl,rfl⟩,?_,?_⟩,by simp⟩
     ·exact zLx
     refine zH0 [(0,some 0),(1,some 1),(2,some 2),(3,some 3),(4,some 4),(5,some 5),(6,some 6),(7,some 7)] (fun j=>100+j) (.inr rfl) ?_ ?_ ?_ ?_ ?_ _ ?_ (by first|(simp;rfl)|rfl)
     all_goals try simp +contextual (disch:=omega)[zL,zJ,ze,zW,zAN,ints,zI,zl,zm,zBW,zY,zi,rows,ints]
 ·have hst:=zNA h (B:=B) hm hml hx;rw[hC x hx]at hst;have hw2:IntKind.i64.wrap (1+(C x:Int))=(C x:Int)+1:=by rw[show 1+(C x:Int)=((C x+1:Nat):Int) by omega,zJG (by omega)];omega
  rcases hI.cc.2 x hxc with e|e
  ·refine rg1 (an @zY.eq_1 @e) ?_;refine cT1 @e ?_;refine zAW (by kernel_rfl) (fun K hK=>?_);simp(maxSteps:=2000000)(disch:=omega)[ints,rows,zY]
   (repeat' apply And.intro)
   all_goals (try omega)
   refine zM (caps:=[]) (hst) [] [] 1 rfl rfl rfl rfl (by kernel_rfl) (by simp) ?_ ?_ (by simp) rfl (by simp) trivial (by simp) ?_
   ·simp[scal,rows,ints,zY,zB4,rows]
   ·trivial
   simp(maxSteps:=2000000)(disch:=omega)[scal,hw2,hxc]
   (repeat' first|apply hK|apply And.intro)<;>try first|(show zAY _ _=true;kernel_rfl)|(show okH _ _ _=true;kernel_rfl)|omega|rfl|(simp<;>omega)
   refine⟨cC.set x (.int .i64 ((C x:Int)+1)),⟨hI.cc.set x,fun hh=>by simp⟩,?_⟩;exact kf1 [(0,some 0),(1,some 1),(2,some 2),(3,some 3),(4,some 4),(5,some 5),(6,some 6),(7,some 7)] (fun j=>100+j) (an @zl.eq_1 (an @zm.eq_1 (an @zY.eq_1 (an @zi.eq_1 @rows.eq_1))))
  ·have ez: ¬(C x:Int)+1=0:=by omega
   have ezb:((C x:Int)+1==0)=false:=by simpa using ez
   refine rg1 (an @zY.eq_1 (an @e (an @ez @ezb))) ?_;refine cF1 (an @e (an @ez @ezb)) ?_;refine zQ ?_;refine⟨cC,⟨hI.cc,fun hh=>e⟩,?_⟩;exact kf1 [(0,some 0),(1,some 1),(2,some 2),(3,some 3),(4,some 4),(5,some 5),(6,some 6),(7,some 7)] (fun j=>100+j) (an @zl.eq_1 (an @zm.eq_1 (an @zY.eq_1 (an @zi.eq_1 @rows.eq_1))))
section
variable{n:Nat}{T:Nat->Nat->Nat}{im:Nat->Nat}{L:Nat}
def rtA(n:Nat)(T:Nat->Nat->Nat)(im:Nat->Nat)(L:Nat)(fam:Nat->Option (List (List (List Nat))))(D:Nat->Nat)(B f y:Nat)(w:List Nat)(x:Nat)(rs:List (List Nat×Nat))(a:Nat):Option (List (List Nat×Nat)):=if B.testBit a&& !(D y).testBit a then rightF n T im L fam D B f rs (a::w) (T (im a) x)else some rs
def rtP(n:Nat)(T:Nat->Nat->Nat)(im:Nat->Nat)(L:Nat)(fam:Nat->Option (List (List (List Nat))))(D:Nat->Nat)(B f y:Nat)(t:List Nat)(x:Nat)(rs:List (List Nat×Nat))(q:List Nat):Option (List (List Nat×Nat)):=if zE5 n (rs.length+1) (q++t)then loopO (rtA n T im L fam D B f y (q++t) x) (rs++[(q++t,x)]) (List.range L)else none
def rtV(n:Nat)(T:Nat->Nat->Nat)(im:Nat->Nat)(L:Nat)(fam:Nat->Option (List (List (List Nat))))(D:Nat->Nat)(B f y:Nat)(t:List Nat)(F:List (List (List Nat)))(rs:List (List Nat×Nat))(v:Nat):Option (List (List Nat×Nat)):=loopO (rtP n T im L fam D B f y t (T v y)) rs (fmA F v)
theorem zNG{fam:Nat->Option (List (List (List Nat)))}{D:Nat->Nat}{B f y:Nat}{t:List Nat}{F:List (List (List Nat))}{rs:List (List Nat×Nat)}(hc:D y≠B)(hF:fam (D y)=some F):rightF n T im L fam D B (f+1) rs t y=loopO (rtV n T im L fam D B f y t F) rs (List.range n):=by
 rw[rightF,if_neg hc,hF];rfl
end
structure RtI(Eo:List (M.T×M.T)->Prop)(n:Nat)(D:Nat->Nat)(rs:List (List Nat×Nat))(es:List (M.T×M.T))(dC:List M.T):Prop where
 les: ∀l∈rs,l.1.length<=400/\l.2<n
 lel:rs.length<=200000
 es:Eo es
 cc:CcI n D dC
theorem RtI.snoc{Eo:List (M.T×M.T)->Prop}{n:Nat}{D:Nat->Nat}{rs:List (List Nat×Nat)}{es:List (M.T×M.T)}{dC:List M.T}(h:RtI Eo n D rs es dC)(n4:n<=400){w:List Nat}{x:Nat}(hw:w.length<=400)(hx:x<n)(hf:zE5 n (rs.length+1) w):RtI Eo n D (rs++[(w,x)]) es dC:=by
 refine⟨fun l hl=>?_,?_,h.es,h.cc⟩
 ·rcases List.mem_append.1 hl with hl|hl
  ·exact h.les l hl
  ·simp only[List.mem_singleton]at hl;subst hl;exact⟨hw,hx⟩
 ·have:=hf.1;simp;omega
abbrev RtS:=List (List Nat×Nat)×List (M.T×M.T)×List M.T
theorem zLY{n:Nat}{T:Nat->Nat->Nat}{im':Nat->Nat}{L:Nat}{tb:List (List Int)}{im:List Int}(h:zFQ n T im' L tb im){B:Nat}(hB:B<64){mem:List Nat}(hm: ∀z∈mem,z<n)(hml:mem.length<=n){C:Nat->Nat}(hC: ∀x,x<n->maskN L (coP T im' mem B x)=C x)(hCB: ∀x,x<n->C x<=B)
  {fam:Nat->Option (List (List (List Nat)))} (hfb: ∀c F,fam c=some F->F.length=n/\ ∀v,(fmA F v).length<=400/\ ∀p∈fmA F v,p.length<=121) {Eo:List (M.T×M.T)->Prop} (hfam: ∀c,c<B-> ∀es,Eo es->zT6 tb im fam Eo c es) {cC:List M.T} (hcC:cC.length=n) {ls:List (List Nat×Nat)} {F:List (List (List Nat))} (hFl:F.length=n):
  ∀(f:Nat) (t:List Nat) (x:Nat) (rs:List (List Nat×Nat)) (es:List (M.T×M.T)) (dC:List M.T),124<=f+t.length->t.length<=122->x<n->RtI Eo n C rs es dC→
  ∃res H',(∃ok rs' es' dC',(ok=true->rightF n T im' L fam C B f rs t x=some rs'/\RtI Eo n C rs' es' dC')/\(ok=false->rightF n T im' L fam C B f rs t x=none)/\dC'.length=n/\res= .t 2 (.bool ok)/\H'=zBW 8 tb im B n es' cC dC' mem ls rs' F++tab n (zm F))∧
   FnK Tryz.prog 65 [.ptr 0 0 10,.t 2 (.str (zAg t)),.t 2 (.int .i64 x)] (zBW 8 tb im B n es cC dC mem ls rs F++tab n (zm F)) res H' [1]:=by
 have hn4:=h.n4;have hil:=h.il;have hl6:=h.l6;intro f
 induction f with
 |zero=>intro t x rs es dC h1 h2;omega
 |succ f ih=>
 intro t x rs es dC hf ht hx hI;have hcl:=hI.cc.1;have hxc:x<dC.length:=by omega
 have hcx:=hCB x hx;refine zCD [(1,.ptr 1 0 7)] Tryz.func65 rfl (by simp[Tryz.f65]) ?_;rw[show Tryz.f65.ntmps=177 from rfl,show Tryz.f65.results= #[.tmp 6]from rfl];rw[zDa];refine zS (σ':=mkF [(0,.ptr 0 0 10),(1,.t 2 (.str (zAg t))),(2,.t 2 (.int .i64 x))]
   (lfO tb im B n dC mem rs F ls es cC) 100 n (zm F) 2000 177 [.ptr 0 0 10,.any,.any,.ptr 1 0 7]) ?_ ?_
 ·refine zAQ [(0,some 0),(1,some 1),(2,some 2),(3,some 3),(4,some 4),(5,some 5),(6,some 6),(7,some 7)] (fun j=>8+j) rfl ?_ ?_ ?_ ?_ ?_ ?_
  all_goals try simp +contextual (disch:=omega)[zL,zJ,ze,zW,zAN,ints,zI,zl,zm,zBW,zY,zi,rows,ints,idxE]
  all_goals (try omega)
 refine rg0 ?_;refine zDX (fun σ'=>∃cC2,(CcI n C cC2/\ ∀hh,cC2[x]'hh= .int .i64 ((C x:Int)+1))/\Wk σ' (mkF [(0,.ptr 0 0 10),(1,.t 2 (.str (zAg t))),(2,.t 2 (.int .i64 x))]
   (lfO tb im B n cC2 mem rs F ls es cC) 100 n (zm F) 2000 177 [.ptr 0 0 10,.any,.any,.ptr 1 0 7])) ?_ ?_
 ·rintro σ' ⟨cC2,⟨hcc,hcx2⟩,hw⟩;refine zS hw ?_;clear hw hxc hcl;have hI2:RtI Eo n C rs es cC2:=⟨hI.les,hI.lel,hI.es,hcc⟩;clear hI;have hcl:=hcc.1;have hxc:x<cC2.length:=by omega
  have hll:=hI2.lel;have hw1:IntKind.i64.wrap ((C x:Int)+1-1)=(C x:Int):=by rw[show(C x:Int)+1-1=((C x:Nat):Int) by omega];exact zJG (by omega)
  refine rg1 (an @zY.eq_1 (an @hxc (an @hcx2 @hw1))) ?_;refine zA ?_;refine rg1 @zY.eq_1 ?_;by_cases hcB:C x=B
  ·have hcBi:(C x:Int)=(B:Int):=by omega
   have hcBb:((C x:Int)==(B:Int))=true:=by simp[hcB]
   refine cT1 (an @hcBi @hcBb) ?_;have hby:zBa [.int .u8 (C x:Int)]++zAg t=zAg (C x::t):=by
    rw[show C x::t=[C x]++t from rfl,←zBD];rfl
   have hbs:(zBa [.int .u8 (C x:Int)]).size=1:=rfl;have hws:1+t.length<=9223372036854775807:=by omega
   have hwl:(C x::t).length<=400:=by simp;omega
   have hsn: ∀hfew,RtI Eo n C (rs++[(C x::t,x)]) es cC2:=fun hfew=>hI2.snoc hn4 hwl hx hfew
   have hfw:=zGE h (B:=B) (mem:=mem) (rs++[(C x::t,x)]) (C x::t) (by omega);rw[zA1,show(rs++[(C x::t,x)]).length=rs.length+1 by simp]at hfw;have hl2:(rs.length+1)*2=rs.length*2+2:=by omega
   have hok:zE5 n (rs.length+1) (C x::t)->rightF n T im' L fam C B (f+1) rs t x=some (rs++[(C x::t,x)]):=fun hfew=>by rw[rightF,if_pos hcB,if_pos hfew]
   have hno: ¬zE5 n (rs.length+1) (C x::t)->rightF n T im' L fam C B (f+1) rs t x=none:=fun hfew=>by rw[rightF,if_pos hcB,if_neg hfew]
   generalize C x::t=w at*
   refine zF fun K hK=>?_
   simp(maxSteps:=2000000)(disch:=omega)[wr8,hby,hbs,hws,isU8]
   (repeat' first|apply hK|apply And.intro)<;>try first|omega|rfl|(simp<;>omega)
   refine rg1 @zY.eq_1 ?_;refine zF fun K hK=>?_
   simp(maxSteps:=2000000)(disch:=omega)[ints,rows,zY]
   (repeat' apply And.intro)
   all_goals (try omega)
   refine zD (caps:=[]) (hfw) [] [] 1 rfl rfl rfl rfl (by kernel_rfl) (by simp) ?_ ?_ (by simp) rfl (by simp) trivial (by simp) ?_
   ·simp[scal,rows,ints,zY,zB4,rows]
   ·trivial
   simp(maxSteps:=2000000)(disch:=omega)[scal];and_intros<;>try first|apply hK|omega|rfl|simp<;>omega
   refine zC ?_;by_cases hfew:zE5 n (rs.length+1) w
   ·rw[decide_eq_true hfew];refine⟨⟨_,_,⟨true,rs++[(w,x)],es,cC2,fun _=>⟨hok hfew,hsn hfew⟩,fun h=>(by cases h),hcl,rfl,rfl⟩,?_,?_⟩,by simp⟩
    ·exact zLx
    refine zH0 [(0,some 0),(1,some 1),(2,some 2),(3,some 3),(4,some 4),(5,some 5),(6,some 6),(7,some 7)] (fun j=>100+j) (.inr rfl) ?_ ?_ ?_ ?_ ?_ _ ?_ (by first|(simp;rfl)|rfl)
    all_goals try simp +contextual (disch:=omega)[zL,zJ,ze,zW,zAN,ints,zI,zl,zm,zBW,zY,zi,rows,ints,hl2,zA1]
   ·rw[decide_eq_false hfew];refine⟨⟨_,_,⟨false,rs++[(w,x)],es,cC2,fun h=>(by cases h),fun _=>hno hfew,hcl,rfl,rfl⟩,?_,?_⟩,by simp⟩
    ·exact zLx
    refine zH0 [(0,some 0),(1,some 1),(2,some 2),(3,some 3),(4,some 4),(5,some 5),(6,some 6),(7,some 7)] (fun j=>100+j) (.inr rfl) ?_ ?_ ?_ ?_ ?_ _ ?_ (by first|(simp;rfl)|rfl)
    all_goals try simp +contextual (disch:=omega)[zL,zJ,ze,zW,zAN,ints,zI,zl,zm,zBW,zY,zi,rows,ints,hl2,zA1]
  ·have hcBi: ¬(C x:Int)=(B:Int):=by omega
   have hcBb:((C x:Int)==(B:Int))=false:=by simpa using hcBi
   refine cS1 (an @hcBi @hcBb) ?_;obtain⟨_,_,⟨ok,Fm,v0,es2,q1,q2,rfl,rfl⟩,hfc⟩:=hfam (C x) (by omega) es hI2.es
   cases ok with
   |false=>
    obtain⟨q3,rfl⟩:=q2 rfl;clear q1 q2;refine zF fun K hK=>?_
    simp(maxSteps:=2000000)(disch:=omega)[ints,rows,zY]
    (repeat' apply And.intro)
    all_goals (try omega)
    refine zD (caps:=[]) (hfc) [1,2] [1,20002002] 1 rfl rfl rfl rfl (by kernel_rfl) (by simp) ?_ ?_ (by simp) rfl (by simp) ⟨.inr ⟨rfl,0,_,_,_,_,_,rfl,rfl,(by first|rfl|simp[zY,zi,zAy,rows,ints]),rfl,(by first|rfl|simp[zY,zi,zAy,rows,ints])⟩,.inl ⟨by omega,by omega⟩,trivial⟩ (by simp[zAy,rows,ints]) ?_
    ·simp[scal]
    ·simp[scal,rows,ints,zY,zi,zAy,rows,ints]
    simp(maxSteps:=2000000)(disch:=omega)[scal];and_intros<;>try first|apply hK|omega|rfl|simp<;>omega
    refine zA ?_;refine rg0 ?_;refine cT0 ?_;refine rg0 ?_;refine zC ?_;refine⟨⟨_,_,⟨false,rs,es2,cC2,fun h=>(by cases h),fun _=>by rw[rightF,if_neg hcB,q3],hcl,rfl,rfl⟩,?_,?_⟩,by simp⟩
    ·exact zLx
    refine zH0 [(0,some 0),(1,some 1),(2,some 20002002),(3,some 3),(4,some 4),(5,some 5),(6,some 6),(7,some 7)] (fun j=>100+j) (.inr rfl) ?_ ?_ ?_ ?_ ?_ _ ?_ (by first|(simp;rfl)|rfl)
    all_goals try simp +contextual (disch:=omega)[zL,zJ,ze,zW,zAN,Ql,Qd,ints,scal,zI,zl,zm,zBW,zY,zi,zAy,rows,ints]
   |true=>
    obtain⟨q3,q4,rfl⟩:=q1 rfl;clear q1 q2;obtain⟨hFm,hFmb⟩:=hfb _ _ q3;have hgo:=zNG (n:=n) (T:=T) (im:=im') (L:=L) (B:=B) (f:=f) (t:=t) (rs:=rs) hcB q3;rw[hgo];clear hgo;refine zF fun K hK=>?_
    simp(maxSteps:=2000000)(disch:=omega)[ints,rows,zY]
    (repeat' apply And.intro)
    all_goals (try omega)
    refine zD (caps:=[]) (hfc) [1,2] [1,20002002] 1 rfl rfl rfl rfl (by kernel_rfl) (by simp) ?_ ?_ (by simp) rfl (by simp) ⟨.inr ⟨rfl,0,_,_,_,_,_,rfl,rfl,(by first|rfl|simp[zY,zi,zAy,rows,ints]),rfl,(by first|rfl|simp[zY,zi,zAy,rows,ints])⟩,.inl ⟨by omega,by omega⟩,trivial⟩ (by simp[zAy,rows,ints]) ?_
    ·simp[scal]
    ·simp[scal,rows,ints,zY,zi,zAy,rows,ints]
    simp(maxSteps:=2000000)(disch:=omega)[scal];and_intros<;>try first|apply hK|omega|rfl|simp<;>omega
    refine zA ?_;refine rg0 ?_;refine cS0 ?_;refine zA ?_;refine rg1 (an @zBj.eq_1 @hFm) ?_;refine zB ?_;refine awp_loop (fun y:Nat×RtS=>mkF [(0,.ptr 0 0 10),(1,.t 2 (.str (zAg t))),(2,.t 2 (.int .i64 x)),(7,.t 2 (.int .i64 (C x:Nat))),(87,.t 0 (zBj Fm)),(88,.t 2 (.int .i64 n)),(89,.t 2 (.int .i64 y.1))]
      (lfO tb im B n y.2.2.2 mem y.2.1 F ls y.2.2.1 cC) 100 n (zm F) 2000 177 [.ptr 0 0 10,.any,.any,.ptr 1 0 7])
     (fun y=>y.1<=n/\RtI Eo n C y.2.1 y.2.2.1 y.2.2.2/\loopO (rtV n T im' L fam C B f x t Fm) rs ((List.range n).take y.1)=some y.2.1) (fun y=>n-y.1) ?_ ?_
    ·refine⟨(0,rs,es2,cC2),⟨by simp,⟨hI2.les,hI2.lel,q4,hcc⟩,rfl⟩,?_⟩;exact kf1 [(0,some 0),(1,some 1),(2,some 20002002),(3,some 3),(4,some 4),(5,some 5),(6,some 6),(7,some 7)] (fun j=>100+j) (an @zl.eq_1 (an @zm.eq_1 (an @zY.eq_1 (an @zi.eq_1 (an @zAy.eq_1 (an @rows.eq_1 @zBj.eq_1))))))
    clear hI2 hcc hcx2 hxc hcl hll q4 hfc;rintro⟨v,rs1,es1,cC1⟩ ⟨hv,hI1,hrun⟩;simp only at hv hI1 hrun;have hcl1:=hI1.cc.1;refine rg0 ?_;refine zA ?_;by_cases hvl:v<n
    ·obtain⟨g1,g2,g3⟩:=zBp h.ht hvl hx;have hy:=h.ht.lt _ _ hvl hx;have hvF:v<Fm.length:=by omega
     have hFv: ∀hh,Fm[v]'hh=fmA Fm v:=fun hh=>by unfold fmA;rw[Qv,Qj hh];rfl
     obtain⟨hb4,hbp⟩:=hFmb v;have hvr:v<(List.range n).length:=by simpa using hvl
     have hV: ∀st',loopO (rtP n T im' L fam C B f x t (T v x)) rs1 (fmA Fm v)=st'->rtV n T im' L fam C B f x t Fm rs1 ((List.range n)[v]'hvr)=st':=fun st' e=>by rw[List.getElem_range];exact e
     refine cK1 @hvl ?_;refine zA ?_;refine zB ?_;refine rg1 (an @zBj.eq_1 (an @hvF @hFv)) ?_;refine rg1 (an @zY.eq_1 (an @g1 (an @g2 @g3))) ?_;generalize fmA Fm v=tx at*
     generalize T v x=y at*
     refine rg0 ?_;refine zB ?_;refine awp_loop (fun z:Nat×RtS=>mkF [(0,.ptr 0 0 10),(1,.t 2 (.str (zAg t))),(2,.t 2 (.int .i64 x)),(7,.t 2 (.int .i64 (C x:Nat))),(13,.t 2 (.int .i64 y)),(87,.t 0 (zBj Fm)),(88,.t 2 (.int .i64 n)),(89,.t 2 (.int .i64 v)),(104,.t 0 (.sl 1 (zFI tx))),(105,.t 2 (.int .i64 tx.length)),(106,.t 2 (.int .i64 z.1))]
       (lfO tb im B n z.2.2.2 mem z.2.1 F ls z.2.2.1 cC) 100 n (zm F) 2000 177 [.ptr 0 0 10,.any,.any,.ptr 1 0 7])
      (fun z=>z.1<=tx.length/\RtI Eo n C z.2.1 z.2.2.1 z.2.2.2/\loopO (rtP n T im' L fam C B f x t y) rs1 (tx.take z.1)=some z.2.1) (fun z=>tx.length-z.1) ?_ ?_
     ·refine⟨(0,rs1,es1,cC1),⟨by simp,hI1,rfl⟩,?_⟩;exact kf1 [(0,some 0),(1,some 1),(2,some 2),(3,some 3),(4,some 4),(5,some 5),(6,some 6),(7,some 7)] (fun j=>100+j) (an @zl.eq_1 (an @zm.eq_1 (an @zY.eq_1 (an @zi.eq_1 (an @rows.eq_1 @zBj.eq_1)))))
     clear hI1 hcl1;rintro⟨k,rs2,es2,cC2⟩ ⟨hk,hI2,hrun2⟩;simp only at hk hI2 hrun2;have hcl2:=hI2.cc.1;have hll2:=hI2.lel;refine rg0 ?_;refine zA ?_;by_cases hkl:k<tx.length
     ·have hp1:=hbp tx[k] (by simp);have hkx:(zFI tx)[k]? =some (.str (zAg (tx[k]'hkl))):=by unfold zFI;rw[Qi,Qj hkl];rfl
      have hkx2:lvT 0 (M.T.str (zAg (tx[k]'hkl)))=2:=by simp[lvT,scal]
      have hcat:=zBD (tx[k]'hkl) t;have hle:(tx[k]'hkl).length+t.length<=9223372036854775807:=by omega
      have hwl:((tx[k]'hkl)++t).length<=400:=by simp;omega
      have hP: ∀st',(if zE5 n (rs2.length+1) ((tx[k]'hkl)++t)then loopO (rtA n T im' L fam C B f x ((tx[k]'hkl)++t) y) (rs2++[((tx[k]'hkl)++t,y)]) (List.range L)else none)=st'->rtP n T im' L fam C B f x t y rs2 (tx[k]'hkl)=st':=fun st' e=>e
      have hwt:t.length<=((tx[k]'hkl)++t).length:=by simp
      generalize hwe:(tx[k]'hkl)++t=w at*
      refine cK1 @hkl ?_;refine zA ?_;refine zB ?_;refine rg1 (an @hkl (an @hkx @hkx2)) ?_;refine rg1 (an @hcat (an @hle (an @hkx @hkx2))) ?_;have hfw:=zGE h (B:=B) (mem:=mem) (rs2++[(w,y)]) w (by omega);rw[zA1,show(rs2++[(w,y)]).length=rs2.length+1 by simp]at hfw;have hl2:(rs2.length+1)*2=rs2.length*2+2:=by omega
      refine rg1 @zY.eq_1 ?_;refine zA ?_;by_cases hok:zE5 n (rs2.length+1) w
      ·rw[if_pos hok]at hP;rw[decide_eq_true hok]at hfw;have hw60:w.length/2<=60:=hok.2;have hI3:=hI2.snoc hn4 hwl hy hok;refine zF fun K hK=>?_
       simp(maxSteps:=2000000)(disch:=omega)[ints,rows,zY]
       (repeat' apply And.intro)
       all_goals (try omega)
       refine zD (caps:=[]) (hfw) [] [] 1 rfl rfl rfl rfl (by kernel_rfl) (by simp) ?_ ?_ (by simp) rfl (by simp) trivial (by simp) ?_
       ·simp[scal,rows,ints,zY,zB4,rows]
       ·trivial
       simp(maxSteps:=2000000)(disch:=omega)[scal]
       (repeat' first|apply hK|apply And.intro)<;>try first|omega|rfl|(simp<;>omega)
       refine cS0 ?_;refine rg1 @zY.eq_1 ?_;refine zB ?_;refine awp_loop (fun u:Nat×RtS=>mkF [(0,.ptr 0 0 10),(1,.t 2 (.str (zAg t))),(2,.t 2 (.int .i64 x)),(7,.t 2 (.int .i64 (C x:Nat))),(13,.t 2 (.int .i64 y)),(16,.t 2 (.str (zAg w))),(87,.t 0 (zBj Fm)),(88,.t 2 (.int .i64 n)),(89,.t 2 (.int .i64 v)),(104,.t 0 (.sl 1 (zFI tx))),(105,.t 2 (.int .i64 tx.length)),(106,.t 2 (.int .i64 k)),(136,.t 0 (ints im)),(137,.t 2 (.int .i64 L)),(138,.t 2 (.int .i64 u.1))]
         (lfO tb im B n u.2.2.2 mem u.2.1 F ls u.2.2.1 cC) 100 n (zm F) 2000 177 [.ptr 0 0 10,.any,.any,.ptr 1 0 7])
        (fun u=>u.1<=L/\RtI Eo n C u.2.1 u.2.2.1 u.2.2.2/\loopO (rtA n T im' L fam C B f x w y) (rs2++[(w,y)]) ((List.range L).take u.1)=some u.2.1) (fun u=>L-u.1) ?_ ?_
       ·refine⟨(0,rs2++[(w,y)],es2,cC2),⟨by simp,hI3,rfl⟩,?_⟩;exact kf1 [(0,some 0),(1,some 1),(2,some 2),(3,some 3),(4,some 4),(5,some 5),(6,some 6),(7,some 7)] (fun j=>100+j) (an @zl.eq_1 (an @zm.eq_1 (an @zBW.eq_1 (an @zY.eq_1 (an @zi.eq_1 (an @rows.eq_1 (an @zBj.eq_1 (an @hil (an @hl2 @zA1)))))))))
       clear hI2 hcl2 hI3 hfw hll2 hl2;rintro⟨a,rs4,es4,cC4⟩ ⟨ha,hI4,hrun3⟩;simp only at ha hI4 hrun3;have hcl4:=hI4.cc.1;refine rg0 ?_;refine zA ?_;by_cases hal:a<L
       ·obtain⟨i1,i2⟩:=h.ig a hal;obtain⟨i3,i4⟩:=Qq.1 i1;have i5: ∀hh:a<im.length,im[a]'hh=(im' a:Int):=fun _=>i4
        obtain⟨j1,j2,j3⟩:=zBp h.ht i2 hy;have hz:=h.ht.lt _ _ i2 hy;obtain⟨q,b1,b2⟩:=zVe (B:=B) (c:=C x) (a:=a) hB (by omega) (by omega);have har:a<(List.range L).length:=by simpa using hal
        have hA: ∀st',(if B.testBit a&& !(C x).testBit a then rightF n T im' L fam C B f rs4 (a::w) (T (im' a) y)else some rs4)=st'->rtA n T im' L fam C B f x w y rs4 ((List.range L)[a]'har)=st':=fun st' e=>by rw[List.getElem_range];exact e
        refine cK1 @hal ?_;refine zA ?_;refine zB ?_;refine rg1 (an @i3 @i5) ?_;rcases b2 with⟨b2,b3⟩|⟨b2,b3⟩
        ·rw[b3,if_neg (by simp)]at hA;refine rd1 (an @zY.eq_1 (an @b1 @b2)) ?_;refine cY0 ?_;refine rr0 ?_;refine⟨(a+1,rs4,es4,cC4),⟨by simp only;omega,hI4,zBe har hrun3 (hA _ rfl)⟩,by simp only;omega,?_⟩;exact kf1 [(0,some 0),(1,some 1),(2,some 2),(3,some 3),(4,some 4),(5,some 5),(6,some 6),(7,some 7)] (fun j=>100+j) (an @zl.eq_1 (an @zm.eq_1 (an @zY.eq_1 (an @zi.eq_1 (an @rows.eq_1 @zBj.eq_1)))))
        ·rw[b3,if_pos rfl]at hA;have hby:zBa [.int .u8 (a:Int)]++zAg w=zAg (a::w):=by
          rw[show a::w=[a]++w from rfl,←zBD];rfl
         have hbs:(zBa [.int .u8 (a:Int)]).size=1:=rfl;have hws:1+w.length<=9223372036854775807:=by omega
         obtain⟨_,_,⟨ok,rs5,es5,cC5,q1,q2,q5,rfl,rfl⟩,hrec⟩:=ih (a::w) (T (im' a) y) rs4 es4 cC4 (by rw[List.length_cons];omega) (by rw[List.length_cons];omega) hz hI4;generalize T (im' a) y=za at*
         generalize a::w=wa at*
         cases ok with
         |true=>
          obtain⟨q6,q7⟩:=q1 rfl;refine zg (by kernel_rfl) (fun K hK=>?_);simp(maxSteps:=2000000)(disch:=omega)[ints,rows,wr8,zY,b1,b2,rows,j1,j2,j3,hby,hbs,hws,isU8]
          (repeat' apply And.intro)
          all_goals (try omega)
          refine zAj (caps:=[]) (hrec) [0,1,2,3,4,5,6,7] 100 [0,1,34002002,34002003,34002004,34002005,34002006,34002007] 34002010 1 (by simp) rfl rfl rfl (by kernel_rfl) (by simp) ?_ ?_ ?_ (by simp) (by intro k hk;simp at hk;omega) rfl (by simp) ⟨.inr (.inl ⟨rfl,0,_,_,_,_,_,rfl,rfl,(by first|rfl|simp[zY,zi,rows,zl,zm,zf]),rfl,(by first|rfl|simp[zY,zi,rows,zl,zm,zf])⟩),.inr (.inr ⟨rfl,by simp,by simp⟩),.inl ⟨by omega,by omega⟩,.inl ⟨by omega,by omega⟩,.inl ⟨by omega,by omega⟩,.inl ⟨by omega,by omega⟩,.inl ⟨by omega,by omega⟩,.inl ⟨by omega,by omega⟩,trivial⟩ (by omega) (by intro k hk;simp at hk;omega) (by simp[zY,zi,rows,zl]) (fun j hj=>rfl) ?_
          ·simp +contextual (disch:=omega)[zL,zJ,zW,zAN,scal,poF,scal]
          ·simp +contextual (disch:=omega)[zL,zJ,zW,Ql,ints,scal,poF,scal,rows,ints,zp,zY,zi,rows,zl,zf]
          ·simp +contextual (disch:=omega)[zJ,zm]
          simp(maxSteps:=2000000)(disch:=omega)[scal,callFF];and_intros<;>try first|apply hK|(show zAY _ _=true;kernel_rfl)|(show okH _ _ _=true;kernel_rfl)|omega|rfl|simp<;>omega
          refine zk (b:=false) (p:=2) (by simp<;>omega) ?_;refine zQ ?_;refine zAT fun K hK=>?_
          simp(maxSteps:=2000000)(disch:=omega)[zBs]
          (repeat' first|apply hK|apply And.intro)<;>try first|omega|rfl|(simp<;>omega)
          refine⟨(a+1,rs5,es5,cC5),⟨by simp only;omega,q7,zBe har hrun3 (hA _ q6)⟩,by simp only;omega,?_⟩;refine zAQ [(0,some 0),(1,some 1),(2,some 34002002),(3,some 34002003),(4,some 34002004),(5,some 34002005),(6,some 34002006),(7,some 34002007)] (fun j=>34002010+j) rfl ?_ ?_ ?_ ?_ ?_ ?_
          all_goals try simp +contextual (disch:=omega)[zL,zJ,ze,zW,zAN,ints,scal,zI,zl,zm,zY,zi,rows,ints,zw,zAe,zd,zBj]
          all_goals (try omega)
         |false=>
          have hnone:loopO (rtV n T im' L fam C B f x t Fm) rs (List.range n)=none:=zBL hvr hrun (hV none (zBL hkl hrun2 (hP none (zBL har hrun3 (hA none (q2 rfl))))));refine zg (by kernel_rfl) (fun K hK=>?_);simp(maxSteps:=2000000)(disch:=omega)[ints,rows,wr8,zY,b1,b2,rows,j1,j2,j3,hby,hbs,hws,isU8]
          (repeat' apply And.intro)
          all_goals (try omega)
          refine zAj (caps:=[]) (hrec) [0,1,2,3,4,5,6,7] 100 [0,1,34002002,34002003,34002004,34002005,34002006,34002007] 34002010 1 (by simp) rfl rfl rfl (by kernel_rfl) (by simp) ?_ ?_ ?_ (by simp) (by intro k hk;simp at hk;omega) rfl (by simp) ⟨.inr (.inl ⟨rfl,0,_,_,_,_,_,rfl,rfl,(by first|rfl|simp[zY,zi,rows,zl,zm,zf]),rfl,(by first|rfl|simp[zY,zi,rows,zl,zm,zf])⟩),.inr (.inr ⟨rfl,by simp,by simp⟩),.inl ⟨by omega,by omega⟩,.inl ⟨by omega,by omega⟩,.inl ⟨by omega,by omega⟩,.inl ⟨by omega,by omega⟩,.inl ⟨by omega,by omega⟩,.inl ⟨by omega,by omega⟩,trivial⟩ (by omega) (by intro k hk;simp at hk;omega) (by simp[zY,zi,rows,zl]) (fun j hj=>rfl) ?_
          ·simp +contextual (disch:=omega)[zL,zJ,zW,zAN,scal,poF,scal]
          ·simp +contextual (disch:=omega)[zL,zJ,zW,Ql,ints,scal,poF,scal,rows,ints,zp,zY,zi,rows,zl,zf]
          ·simp +contextual (disch:=omega)[zJ,zm]
          simp(maxSteps:=2000000)(disch:=omega)[scal,callFF];and_intros<;>try first|apply hK|(show zAY _ _=true;kernel_rfl)|(show okH _ _ _=true;kernel_rfl)|omega|rfl|simp<;>omega
          refine zk (b:=true) (p:=2) (by simp<;>omega) ?_;refine zF fun K hK=>?_
          simp(maxSteps:=2000000)(disch:=omega);and_intros<;>try first|apply hK|omega|rfl|simp<;>omega
          refine zC ?_;refine⟨⟨_,_,⟨false,rs5,es5,cC5,fun h=>(by cases h),fun _=>hnone,q5,rfl,rfl⟩,?_,?_⟩,by simp⟩
          ·exact zLx
          refine zH0 [(0,some 0),(1,some 1),(2,some 34002002),(3,some 34002003),(4,some 34002004),(5,some 34002005),(6,some 34002006),(7,some 34002007)] (fun j=>34002010+j) (.inr rfl) ?_ ?_ ?_ ?_ ?_ _ ?_ (by first|(simp;rfl)|rfl)
          all_goals try simp +contextual (disch:=omega)[zL,zJ,ze,zW,zAN,ints,scal,zI,zl,zm,zBW,zY,zi,rows,ints,zw,zAe,zd]
       ·obtain rfl:a=L:=by omega
        have hrunA:loopO (rtA n T im' a fam C B f x w y) (rs2++[(w,y)]) (List.range a)=some rs4:=by
         rw[←hrun3];congr 1;exact(Qn (by simp)).symm
        refine cF0 ?_;refine zE ?_;refine rr0 ?_;refine⟨(k+1,rs4,es4,cC4),⟨by simp only;omega,hI4,zBe hkl hrun2 (hP _ hrunA)⟩,by simp only;omega,?_⟩;exact kf1 [(0,some 0),(1,some 1),(2,some 2),(3,some 3),(4,some 4),(5,some 5),(6,some 6),(7,some 7)] (fun j=>100+j) (an @zl.eq_1 (an @zm.eq_1 (an @zY.eq_1 (an @zi.eq_1 (an @rows.eq_1 @zBj.eq_1)))))
      ·rw[if_neg hok]at hP;have hnone:loopO (rtV n T im' L fam C B f x t Fm) rs (List.range n)=none:=zBL hvr hrun (hV none (zBL hkl hrun2 (hP none rfl)));rw[decide_eq_false hok]at hfw;refine zF fun K hK=>?_
       simp(maxSteps:=2000000)(disch:=omega)[ints,rows,zY]
       (repeat' apply And.intro)
       all_goals (try omega)
       refine zD (caps:=[]) (hfw) [] [] 1 rfl rfl rfl rfl (by kernel_rfl) (by simp) ?_ ?_ (by simp) rfl (by simp) trivial (by simp) ?_
       ·simp[scal,rows,ints,zY,zB4,rows]
       ·trivial
       simp(maxSteps:=2000000)(disch:=omega)[scal]
       (repeat' first|apply hK|apply And.intro)<;>try first|omega|rfl|(simp<;>omega)
       refine cT0 ?_;refine rg0 ?_;refine zC ?_;refine⟨⟨_,_,⟨false,rs2++[(w,y)],es2,cC2,fun h=>(by cases h),fun _=>hnone,hcl2,rfl,rfl⟩,?_,?_⟩,by simp⟩
       ·exact zLx
       refine zH0 [(0,some 0),(1,some 1),(2,some 2),(3,some 3),(4,some 4),(5,some 5),(6,some 6),(7,some 7)] (fun j=>100+j) (.inr rfl) ?_ ?_ ?_ ?_ ?_ _ ?_ (by first|(simp;rfl)|rfl)
       all_goals try simp +contextual (disch:=omega)[zL,zJ,ze,zW,zAN,ints,zI,zl,zm,zBW,zY,zi,rows,ints,hl2,zA1]
     ·obtain rfl:k=tx.length:=by omega
      rw[List.take_length]at hrun2;refine cF0 ?_;refine zE ?_;refine rr0 ?_;refine⟨(v+1,rs2,es2,cC2),⟨by simp only;omega,hI2,zBe hvr hrun (hV _ hrun2)⟩,by simp only;omega,?_⟩;exact kf1 [(0,some 0),(1,some 1),(2,some 2),(3,some 3),(4,some 4),(5,some 5),(6,some 6),(7,some 7)] (fun j=>100+j) (an @zl.eq_1 (an @zm.eq_1 (an @zY.eq_1 (an @zi.eq_1 (an @rows.eq_1 @zBj.eq_1)))))
    ·obtain rfl:v=n:=by omega
     have hrunV:loopO (rtV v T im' L fam C B f x t Fm) rs (List.range v)=some rs1:=by
      rw[←hrun];congr 1;exact(Qn (by simp)).symm
     refine cF0 ?_;refine zE ?_;refine rg0 ?_;refine zC ?_;refine⟨⟨_,_,⟨true,rs1,es1,cC1,fun _=>⟨hrunV,hI1⟩,fun h=>(by cases h),hcl1,rfl,rfl⟩,?_,?_⟩,by simp⟩
     ·exact zLx
     refine zH0 [(0,some 0),(1,some 1),(2,some 2),(3,some 3),(4,some 4),(5,some 5),(6,some 6),(7,some 7)] (fun j=>100+j) (.inr rfl) ?_ ?_ ?_ ?_ ?_ _ ?_ (by first|(simp;rfl)|rfl)
     all_goals try simp +contextual (disch:=omega)[zL,zJ,ze,zW,zAN,ints,zI,zl,zm,zBW,zY,zi,rows,ints]
 ·have hst:=zJX h (B:=B) hm hml hx;rw[hC x hx]at hst;have hw2:IntKind.i64.wrap (1+(C x:Int))=(C x:Int)+1:=by rw[show 1+(C x:Int)=((C x+1:Nat):Int) by omega,zJG (by omega)];omega
  rcases hI.cc.2 x hxc with e|e
  ·refine rg1 (an @zY.eq_1 @e) ?_;refine cT1 @e ?_;refine zAW (by kernel_rfl) (fun K hK=>?_);simp(maxSteps:=2000000)(disch:=omega)[ints,rows,zY]
   (repeat' apply And.intro)
   all_goals (try omega)
   refine zM (caps:=[]) (hst) [] [] 1 rfl rfl rfl rfl (by kernel_rfl) (by simp) ?_ ?_ (by simp) rfl (by simp) trivial (by simp) ?_
   ·simp[scal,rows,ints,zY,zB4,rows]
   ·trivial
   simp(maxSteps:=2000000)(disch:=omega)[scal,hw2,hxc]
   (repeat' first|apply hK|apply And.intro)<;>try first|(show zAY _ _=true;kernel_rfl)|(show okH _ _ _=true;kernel_rfl)|omega|rfl|(simp<;>omega)
   refine⟨dC.set x (.int .i64 ((C x:Int)+1)),⟨hI.cc.set x,fun hh=>by simp⟩,?_⟩;exact kf1 [(0,some 0),(1,some 1),(2,some 2),(3,some 3),(4,some 4),(5,some 5),(6,some 6),(7,some 7)] (fun j=>100+j) (an @zl.eq_1 (an @zm.eq_1 (an @zY.eq_1 (an @zi.eq_1 @rows.eq_1))))
  ·have ez: ¬(C x:Int)+1=0:=by omega
   have ezb:((C x:Int)+1==0)=false:=by simpa using ez
   refine rg1 (an @zY.eq_1 (an @e (an @ez @ezb))) ?_;refine cF1 (an @e (an @ez @ezb)) ?_;refine zQ ?_;refine⟨dC,⟨hI.cc,fun hh=>e⟩,?_⟩;exact kf1 [(0,some 0),(1,some 1),(2,some 2),(3,some 3),(4,some 4),(5,some 5),(6,some 6),(7,some 7)] (fun j=>100+j) (an @zl.eq_1 (an @zm.eq_1 (an @zY.eq_1 (an @zi.eq_1 @rows.eq_1))))
def EsOK(n:Nat)(T:Nat->Nat->Nat)(im:Nat->Nat)(L:Nat)(es:List (M.T×M.T)):Prop:=∀p∈es,∃(k:Nat) (F:List (List (List Nat))),p=(.int .i64 k,zBj F)/\zEc n T im L k=some F
theorem EsOK.all{n:Nat}{T:Nat->Nat->Nat}{im:Nat->Nat}{L:Nat}{es:List (M.T×M.T)}(h:EsOK n T im L es):(es.all fun e=>kOK Tryz.prog 3 e.1)=true:=by
 have hk: ∀k:Int,kOK Tryz.prog 3 (.int .i64 k)=true:=fun k=>by kernel_rfl
 refine List.all_eq_true.2 fun p hp=>?_
 obtain⟨k,F,rfl,-⟩:=h p hp;exact hk k
theorem EsOK.get{n:Nat}{T:Nat->Nat->Nat}{im:Nat->Nat}{L:Nat}{es:List (M.T×M.T)}(h:EsOK n T im L es){B j:Nat}(hf:fndT (.int .i64 (B:Int)) es=some j): ∃F,(es.getD j default).2=zBj F/\zEc n T im L B=some F:=by
 obtain⟨hj,e,he,hk⟩:=zF1 hf;obtain⟨k,F,rfl,hF⟩:=h e (Qc he);have:B=k:=by simp[kEq]at hk;omega
 subst this;exact⟨F,by rw[Qv,he];rfl,hF⟩
theorem EsOK.put{n:Nat}{T:Nat->Nat->Nat}{im:Nat->Nat}{L:Nat}{es:List (M.T×M.T)}(h:EsOK n T im L es){B:Nat}{F:List (List (List Nat))}(hF:zEc n T im L B=some F):EsOK n T im L (match fndT (.int .i64 (B:Int)) es with|some j=>es.set j (.int .i64 (B:Int),zBj F)|none=>es++[(.int .i64 (B:Int),zBj F)]):=by
 intro p hp;split at hp
 ·rcases List.mem_or_eq_of_mem_set hp with hp|rfl
  ·exact h p hp
  ·exact⟨B,F,rfl,hF⟩
 ·rcases List.mem_append.1 hp with hp|hp
  ·exact h p hp
  ·simp only[List.mem_singleton]at hp;subst hp;exact⟨B,F,rfl,hF⟩
theorem zQN{n:Nat}{F:List (List (List Nat))}(h:F.length=n):zBj F= .sl 1 (tab n fun j=>.sl 1 (zFI (fmA F j))):=by
 unfold zBj;congr 1;refine List.ext_getElem (by simp[h]) fun i h1 h2=>?_
 have hi:i<F.length:=by simpa using h1
 simp[tab,fmA,Qv,hi]
theorem zKh(n j:Nat):fmA (List.replicate n []) j=[]:=by
 unfold fmA;rw[Qv,List.getElem?_replicate];split<;>rfl
theorem CcI.zero(n:Nat)(C:Nat->Nat):CcI n C (List.replicate n (.int .i64 0)):=⟨by simp,fun x h=>.inl (by simp)⟩
theorem zNu{n:Nat}{T:Nat->Nat->Nat}{im':Nat->Nat}{L:Nat}{tb:List (List Int)}{im:List Int}(h:zFQ n T im' L tb im)(hd:DaM n T im'): ∀(B:Nat),B<64-> ∀es,EsOK n T im' L es->zT6 tb im (zEc n T im' L) (EsOK n T im' L) B es:=by
 intro B
 induction B using Nat.strongRecOn with
 |ind B ih=>
 intro hB es hes;have hn4:=h.n4;have hn1:=h.n1;have hil:=h.il;have hl6:=h.l6;have htl:=h.ht.len;have hall:=hes.all;have hk1:kOK Tryz.prog 3 (.int .i64 (B:Int))=true:=by kernel_rfl
 have hz1:zCH Tryz.prog 81=some (.sl 0 []):=by kernel_rfl
 unfold zT6;refine zAw Tryz.func33 rfl (by simp[Tryz.f33]) ?_;rw[show Tryz.f33.ntmps=83 from rfl,show Tryz.f33.results= #[.tmp 4,.tmp 5]from rfl];refine rg0 ?_;refine zA ?_
 cases hf:fndT (.int .i64 (B:Int)) es with
 |some j=>
  obtain⟨F,hF1,hF2⟩:=hes.get hf;rw[Qv]at hF1;refine rg1 (an @zAy.eq_1 (an @hf (an @hall (an @hk1 (an @hz1 @hF1))))) ?_;refine rg0 ?_;refine cT0 ?_;refine rg0 ?_;refine zC ?_;refine⟨⟨_,_,⟨true,F,_,es,fun _=>⟨hF2,hes,rfl⟩,fun h=>(by cases h),rfl,rfl⟩,zA7 ?_⟩,by simp⟩;refine⟨.inr rfl,_,[(0,some 0),(1,some 1)],(by first|(simp;rfl)|rfl),?_,?_,?_,?_⟩
  all_goals try simp +contextual (disch:=omega)[zL,zJ,zAN,Ql,ints,rows,zAy,ints]
 |none=>
  refine rg1 (an @zAy.eq_1 (an @hf (an @hall (an @hk1 @hz1)))) ?_;refine rg0 ?_;refine cS0 ?_;refine rd1 @zAy.eq_1 ?_;refine rg1 @htl ?_;refine zS (σ':=mkS [(0,.ptr 0 0 7),(1,.t 2 (.int .i64 B)),(8,.ptr 2 0 10),(9,.t 2 (.int .i64 n))]
   [(0,zAy tb im 1),(1,.tmap 3 81 es),(2,.box 130 [.ptr 0 0 7,.t 1 (rows tb),.t 1 (ints im),.t 2 (.int .i64 B),.t 2 (.sl 0 []),.t 2 (.sl 0 []),.t 2 (.sl 0 []),.t 2 (.sl 0 []),.t 2 (.sl 0 []),.t 2 (.sl 0 [])])] 3 83 [.ptr 0 0 7,.any]) ?_ ?_
  ·exact kw1 [(0,some 0),(1,some 1),(2,some 27000002)] (an @zAy.eq_1 @rows.eq_1)
  refine zMM [2] (by kernel_rfl) (by kernel_rfl) (fun K hK=>?_);simp(maxSteps:=2000000)(disch:=omega)[ints,rows];and_intros<;>try first|apply hK|(show zAY _ _=true;kernel_rfl)|(show okH _ _ _=true;kernel_rfl)|omega|rfl|simp<;>omega
  refine zS (σ':=mkS [(0,.ptr 0 0 7),(1,.t 2 (.int .i64 B)),(8,.ptr 2 0 10)]
   [(0,zAy tb im 1),(1,.tmap 3 81 es),(2,.box 130 [.ptr 0 0 7,.t 1 (rows tb),.t 1 (ints im),.t 2 (.int .i64 B),.t 2 (.sl 0 []),.t 2 (.sl 0 []),.t 2 (.sl 0 []),.own 3 n,.own 4 n,.own 5 n]),(3,.row 3 1 1 (List.replicate n (.int .i64 0))),(4,.row 3 1 1 (List.replicate n (.int .i64 0))),(5,.vec 26 1 1 (tab n fun _=>.t 1 (.sl 0 [])))] 6 83 [.ptr 0 0 7,.any]) ?_ ?_
  ·exact kw1 [(0,some 0),(1,some 1),(2,some 2),(3,some 6000003),(4,some 8000003),(5,some 4000003)] (an @zAy.eq_1 (an @rows.eq_1 (an @zz (an @zT @zI))))
  have hgen:=zJI h hd (B:=B) (es:=es) (cC:=List.replicate n (.int .i64 0)) (dC:=List.replicate n (.int .i64 0)) (by simp) (by simp);refine zF fun K hK=>?_
  simp(maxSteps:=2000000)(disch:=omega)[ints,rows]
  (repeat' apply And.intro)
  all_goals (try omega)
  refine zAk (caps:=[]) (hgen) [2,0,1,3,4,5] [2,0,1000006,1000007,1000008,1000009,1000010] 1 rfl rfl rfl rfl (by kernel_rfl) (by simp) ?_ ?_ (by simp) rfl (by simp) ⟨.inr (.inl ⟨rfl,0,_,_,_,_,_,rfl,rfl,(by first|rfl|simp[gnH,zAy,rows,ints,zp]),rfl,(by first|rfl|simp[gnH,zAy,rows,ints,zp])⟩),.inr (.inr ⟨rfl,by simp,by simp[gnH,rows,ints]⟩),.inl ⟨by omega,by omega⟩,.inl ⟨by omega,by omega⟩,.inl ⟨by omega,by omega⟩,.inl ⟨by omega,by omega⟩,.inl ⟨by omega,by omega⟩,trivial⟩ (by simp[gnH,rows,ints]) ?_
  ·simp[rows,ints,zAy,rows,ints]
  ·simp[scal,rows,ints,gnH,zAy,rows,ints,zp]
  simp(maxSteps:=2000000)(disch:=omega);and_intros<;>try first|apply hK|omega|rfl|simp<;>omega
  refine zS (σ':=mkF [(0,.ptr 1 0 7),(1,.t 2 (.int .i64 B)),(8,.ptr 0 0 10)]
   (lfO tb im B n (List.replicate n (.int .i64 0)) (zIN n T im' L B) [] (List.replicate n []) [] es (List.replicate n (.int .i64 0))) 100 n (zm (List.replicate n [])) 2000 83 [.ptr 1 0 7,.any]) ?_ ?_
  ·refine zIw [(0,some 2),(1,some 0),(2,some 1000006),(3,some 1000007),(4,some 1000008),(5,some 1000009),(6,none),(7,none)] rfl ?_ ?_ ?_ ?_ ?_
   all_goals try simp +contextual (disch:=omega)[zL,zJ,ze,zW,zAN,Ql,Qd,ints,scal,zI,zAy,zY,zi,gnH,rows,ints,zl,zm,zKh,zOZ,zFK,zFI,zI,zc]
   all_goals (try omega)
  have hP:=zNM hd L;have hml:=zQB (L:=L) hd B;obtain⟨_,_,⟨ok,F1,ls1,es1,cC1,q1,q2,q3,q4,rfl,rfl⟩,hl⟩:=zST h hB (mem:=zIN n T im' L B) (fun z hz=>zMl hd hz) hml (C:=zFT n T im' L B) (fun x hx=>rfl) (hP.cl B) (fam:=zEc n T im' L) (fun c F hF=>zF7 hF) (Eo:=EsOK n T im' L) (fun c hc es hes=>ih c hc (by omega) es hes) (dC:=List.replicate n (.int .i64 0)) (by simp) (rs:=[]) 130 [] 0 (List.replicate n []) [] es (List.replicate n (.int .i64 0)) (by simp) (by simp) (by omega) ⟨by simp,fun v=>by rw[zKh];simp,by simp,by simp,hes,CcI.zero n _⟩;refine zA ?_
  cases ok with
  |false=>
   have hnone:zEc n T im' L B=none:=by rw[zJB hd,q2 rfl]
   refine zF fun K hK=>?_
   simp(maxSteps:=2000000)(disch:=omega)
   (repeat' apply And.intro)
   all_goals (try omega)
   refine zy (caps:=[]) (hl) [0,1,2,3,4,5,6,7] 100 [0,1,1002002,1002003,1002004,1002005,1002006,1002007] 1002010 1 rfl rfl rfl rfl (by kernel_rfl) (by simp) ?_ ?_ ?_ (by simp) (by intro k hk;simp at hk;omega) rfl (by simp) ⟨.inr (.inl ⟨rfl,0,_,_,_,_,_,rfl,rfl,(by first|rfl|simp[zY,zi,rows,zl,zm,zf,zAg]),rfl,(by first|rfl|simp[zY,zi,rows,zl,zm,zf,zAg])⟩),.inr (.inr ⟨rfl,by simp,by simp⟩),.inl ⟨by omega,by omega⟩,.inl ⟨by omega,by omega⟩,.inl ⟨by omega,by omega⟩,.inl ⟨by omega,by omega⟩,.inl ⟨by omega,by omega⟩,.inl ⟨by omega,by omega⟩,trivial⟩ (by omega) (by intro k hk;simp at hk;omega) (by simp[zY,zi,rows,zl]) (fun j hj=>rfl) ?_
   ·simp +contextual (disch:=omega)[zL,zW,scal,poF,scal,zAg]
   ·simp +contextual (disch:=omega)[zL,zJ,zW,Ql,ints,scal,poF,scal,rows,ints,zp,zY,zi,rows,zl,zf]
   ·simp +contextual (disch:=omega)[zm]
   simp(maxSteps:=2000000)(disch:=omega)[scal,callFF];and_intros<;>try first|apply hK|omega|rfl|simp<;>omega
   refine zk (b:=true) (p:=2) (by simp<;>omega) ?_;refine zS (σ':=mkS [] [(0,zAy tb im 1),(1,.tmap 3 81 es1)] 2 83 [.ptr 0 0 7,.any]) ?_ ?_
   ·refine zH [(0,some 1),(1,some 1002002)] rfl ?_ ?_ ?_ ?_
    all_goals try
     simp +contextual (disch:=omega)[zL,zJ,ze,zW,zAN,ints,scal,zw,zAe,zd,zl,zm,zY,zi,zAy,rows,ints]
   refine rg0 ?_;refine zC ?_;refine⟨⟨_,_,⟨false,[],_,es1,fun h=>(by cases h),fun _=>⟨hnone,rfl⟩,rfl,rfl⟩,zA7 ?_⟩,by simp⟩;refine⟨.inr rfl,_,[(0,some 0),(1,some 1)],(by first|(simp;rfl)|rfl),?_,?_,?_,?_⟩
   all_goals try simp +contextual (disch:=omega)[zL,zJ,zAN,ints,rows,zAy,ints]
  |true=>
   obtain⟨q5,q6⟩:=q1 rfl;clear q1 q2;obtain⟨_,_,⟨ok2,rs2,es2,dC2,r1,r2,r4,rfl,rfl⟩,hr⟩:=zLY h hB (mem:=zIN n T im' L B) (fun z hz=>zMl hd hz) hml (C:=zFW n T im' L B) (fun x hx=>rfl) (hP.dl B) (fam:=zEc n T im' L) (fun c F hF=>zF7 hF) (Eo:=EsOK n T im' L) (fun c hc es hes=>ih c hc (by omega) es hes) (cC:=cC1) q4 (ls:=ls1) (F:=F1) q3 130 [] 0 [] es1 (List.replicate n (.int .i64 0)) (by simp) (by simp) (by omega) ⟨by simp,by simp,q6.es,CcI.zero n _⟩
   cases ok2 with
   |false=>
    have hnone:zEc n T im' L B=none:=by rw[zJB hd,q5];simp only[r2 rfl]
    refine zF fun K hK=>?_
    simp(maxSteps:=2000000)(disch:=omega)
    (repeat' apply And.intro)
    all_goals (try omega)
    refine zy (caps:=[]) (hl) [0,1,2,3,4,5,6,7] 100 [0,1,1002002,1002003,1002004,1002005,1002006,1002007] 1002010 1 rfl rfl rfl rfl (by kernel_rfl) (by simp) ?_ ?_ ?_ (by simp) (by intro k hk;simp at hk;omega) rfl (by simp) ⟨.inr (.inl ⟨rfl,0,_,_,_,_,_,rfl,rfl,(by first|rfl|simp[zY,zi,rows,zl,zm,zf,zAg]),rfl,(by first|rfl|simp[zY,zi,rows,zl,zm,zf,zAg])⟩),.inr (.inr ⟨rfl,by simp,by simp⟩),.inl ⟨by omega,by omega⟩,.inl ⟨by omega,by omega⟩,.inl ⟨by omega,by omega⟩,.inl ⟨by omega,by omega⟩,.inl ⟨by omega,by omega⟩,.inl ⟨by omega,by omega⟩,trivial⟩ (by omega) (by intro k hk;simp at hk;omega) (by simp[zY,zi,rows,zl]) (fun j hj=>rfl) ?_
    ·simp +contextual (disch:=omega)[zL,zW,scal,poF,scal,zAg]
    ·simp +contextual (disch:=omega)[zL,zJ,zW,Ql,ints,scal,poF,scal,rows,ints,zp,zY,zi,rows,zl,zf]
    ·simp +contextual (disch:=omega)[zm]
    simp(maxSteps:=2000000)(disch:=omega)[scal,callFF]
    (repeat' apply And.intro)
    all_goals (try omega)
    refine zy (caps:=[]) (hr) [0,1,1002002,1002003,1002004,1002005,1002006,1002007] 1002010 [0,1,5002002,5002003,5002004,5002005,5002006,5002007] 5002010 1 (by simp) rfl rfl rfl (by kernel_rfl) (by simp) ?_ ?_ ?_ (by simp) (by intro k hk;simp at hk;omega) rfl (by simp) ⟨.inr (.inl ⟨rfl,0,_,_,_,_,_,rfl,rfl,(by first|rfl|simp[zY,zi,rows,zl,zm,zf,zAg,callFF,zw,zAe,zd,zc,zBW,ints]),rfl,(by first|rfl|simp[zY,zi,rows,zl,zm,zf,zAg,callFF,zw,zAe,zd,zc,zBW,ints])⟩),.inr (.inr ⟨rfl,by simp,by simp⟩),.inl ⟨by omega,by omega⟩,.inl ⟨by omega,by omega⟩,.inl ⟨by omega,by omega⟩,.inl ⟨by omega,by omega⟩,.inl ⟨by omega,by omega⟩,.inl ⟨by omega,by omega⟩,trivial⟩ (by omega) (by intro k hk;simp at hk;omega) (by simp[zY,zi,rows,zl,zBW,ints]) (fun j hj=>rfl) ?_
    ·simp +contextual (disch:=omega)[zL,zJ,ze,zW,Ql,Qd,ints,scal,poF,scal,rows,ints,zY,zi,rows,zl,zm,zAg,zc,ints]
    ·simp +contextual (disch:=omega)[zL,zJ,ze,zW,Ql,Qd,ints,scal,poF,scal,rows,ints,zp,zY,zi,rows,zl,zm,zf,zw,zc,ints]
    ·simp +contextual (disch:=omega)[zJ,ze,Ql,Qd,ints,scal,poF,scal,rows,ints,zY,zi,rows,zl,zm,zc,ints]
    simp(maxSteps:=2000000)(disch:=omega)[scal,callFF];and_intros<;>try first|apply hK|omega|rfl|simp<;>omega
    refine zk (b:=true) (p:=2) (by simp<;>omega) ?_;refine zS (σ':=mkS [] [(0,zAy tb im 1),(1,.tmap 3 81 es2)] 2 83 [.ptr 0 0 7,.any]) ?_ ?_
    ·refine zH [(0,some 1),(1,some 5002002)] rfl ?_ ?_ ?_ ?_
     all_goals try
      simp +contextual (disch:=omega)[zL,zJ,ze,zW,zAN,ints,scal,zw,zAe,zd,zl,zm,zY,zi,zAy,rows,ints]
    refine rg0 ?_;refine zC ?_;refine⟨⟨_,_,⟨false,[],_,es2,fun h=>(by cases h),fun _=>⟨hnone,rfl⟩,rfl,rfl⟩,zA7 ?_⟩,by simp⟩;refine⟨.inr rfl,_,[(0,some 0),(1,some 1)],(by first|(simp;rfl)|rfl),?_,?_,?_,?_⟩
    all_goals try simp +contextual (disch:=omega)[zL,zJ,zAN,ints,rows,zAy,ints]
   |true=>
    obtain⟨r5,r6⟩:=r1 rfl;clear r1 r2;obtain⟨_,_,⟨ok3,F3,j1,j2,j3,rfl,rfl⟩,hj⟩:=zRh h (B:=B) (es:=es2) (cC:=cC1) (dC:=dC2) (mem:=zIN n T im' L B) (ls:=ls1) (rs:=rs2) q4 r4 q6.les r6.les q6.lel r6.lel (F:=F1) q3 q6.few;have hfam:zEc n T im' L B=zFS T F1 ls1 rs2:=by rw[zJB hd,q5];simp only[r5]
    cases ok3 with
    |false=>
     have hnone:zEc n T im' L B=none:=by rw[hfam,j2 rfl]
     refine zF fun K hK=>?_
     simp(maxSteps:=2000000)(disch:=omega)
     (repeat' apply And.intro)
     all_goals (try omega)
     refine zy (caps:=[]) (hl) [0,1,2,3,4,5,6,7] 100 [0,1,1002002,1002003,1002004,1002005,1002006,1002007] 1002010 1 rfl rfl rfl rfl (by kernel_rfl) (by simp) ?_ ?_ ?_ (by simp) (by intro k hk;simp at hk;omega) rfl (by simp) ⟨.inr (.inl ⟨rfl,0,_,_,_,_,_,rfl,rfl,(by first|rfl|simp[zY,zi,rows,zl,zm,zf,zAg]),rfl,(by first|rfl|simp[zY,zi,rows,zl,zm,zf,zAg])⟩),.inr (.inr ⟨rfl,by simp,by simp⟩),.inl ⟨by omega,by omega⟩,.inl ⟨by omega,by omega⟩,.inl ⟨by omega,by omega⟩,.inl ⟨by omega,by omega⟩,.inl ⟨by omega,by omega⟩,.inl ⟨by omega,by omega⟩,trivial⟩ (by omega) (by intro k hk;simp at hk;omega) (by simp[zY,zi,rows,zl]) (fun j hj=>rfl) ?_
     ·simp +contextual (disch:=omega)[zL,zW,scal,poF,scal,zAg]
     ·simp +contextual (disch:=omega)[zL,zJ,zW,Ql,ints,scal,poF,scal,rows,ints,zp,zY,zi,rows,zl,zf]
     ·simp +contextual (disch:=omega)[zm]
     simp(maxSteps:=2000000)(disch:=omega)[scal,callFF]
     (repeat' apply And.intro)
     all_goals (try omega)
     refine zy (caps:=[]) (hr) [0,1,1002002,1002003,1002004,1002005,1002006,1002007] 1002010 [0,1,5002002,5002003,5002004,5002005,5002006,5002007] 5002010 1 (by simp) rfl rfl rfl (by kernel_rfl) (by simp) ?_ ?_ ?_ (by simp) (by intro k hk;simp at hk;omega) rfl (by simp) ⟨.inr (.inl ⟨rfl,0,_,_,_,_,_,rfl,rfl,(by first|rfl|simp[zY,zi,rows,zl,zm,zf,zAg,callFF,zw,zAe,zd,zc,zBW,ints]),rfl,(by first|rfl|simp[zY,zi,rows,zl,zm,zf,zAg,callFF,zw,zAe,zd,zc,zBW,ints])⟩),.inr (.inr ⟨rfl,by simp,by simp⟩),.inl ⟨by omega,by omega⟩,.inl ⟨by omega,by omega⟩,.inl ⟨by omega,by omega⟩,.inl ⟨by omega,by omega⟩,.inl ⟨by omega,by omega⟩,.inl ⟨by omega,by omega⟩,trivial⟩ (by omega) (by intro k hk;simp at hk;omega) (by simp[zY,zi,rows,zl,zBW,ints]) (fun j hj=>rfl) ?_
     ·simp +contextual (disch:=omega)[zL,zJ,ze,zW,Ql,Qd,ints,scal,poF,scal,rows,ints,zY,zi,rows,zl,zm,zAg,zc,ints]
     ·simp +contextual (disch:=omega)[zL,zJ,ze,zW,Ql,Qd,ints,scal,poF,scal,rows,ints,zp,zY,zi,rows,zl,zm,zf,zw,zc,ints]
     ·simp +contextual (disch:=omega)[zJ,ze,Ql,Qd,ints,scal,poF,scal,rows,ints,zY,zi,rows,zl,zm,zc,ints]
     simp(maxSteps:=2000000)(disch:=omega)[scal,callFF]
     (repeat' apply And.intro)
     all_goals (try omega)
     refine zy (caps:=[]) (hj) [0,1,5002002,5002003,5002004,5002005,5002006,5002007] 5002010 [0,1,10002002,10002003,10002004,10002005,10002006,10002007] 10002010 1 (by simp) rfl rfl rfl (by kernel_rfl) (by simp) ?_ ?_ ?_ (by simp) (by intro k hk;simp at hk;omega) rfl (by simp) ⟨.inr (.inl ⟨rfl,0,_,_,_,_,_,rfl,rfl,(by first|rfl|simp[zY,zi,rows,zl,zm,zf,callFF,zw,zAe,zd,zc,zBW,ints]),rfl,(by first|rfl|simp[zY,zi,rows,zl,zm,zf,callFF,zw,zAe,zd,zc,zBW,ints])⟩),.inr (.inr ⟨rfl,by simp,by simp⟩),.inl ⟨by omega,by omega⟩,.inl ⟨by omega,by omega⟩,.inl ⟨by omega,by omega⟩,.inl ⟨by omega,by omega⟩,.inl ⟨by omega,by omega⟩,.inl ⟨by omega,by omega⟩,trivial⟩ (by omega) (by intro k hk;simp at hk;omega) (by simp[zY,zi,rows,zl,zBW,ints]) (fun j hj=>rfl) ?_
     ·simp +contextual (disch:=omega)[zL,zJ,ze,Ql,Qd,ints,scal,poF,scal,rows,ints,zY,zi,rows,zl,zm,zc,ints]
     ·simp +contextual (disch:=omega)[zL,zJ,ze,zW,Ql,Qd,ints,scal,poF,scal,rows,ints,zp,zY,zi,rows,zl,zm,zf,zw,zc,ints]
     ·simp +contextual (disch:=omega)[zJ,ze,Ql,Qd,ints,scal,poF,scal,rows,ints,zY,zi,rows,zl,zm,zc,ints]
     simp(maxSteps:=2000000)(disch:=omega)[scal,callFF];and_intros<;>try first|apply hK|omega|rfl|simp<;>omega
     refine zk (b:=true) (p:=2) (by simp<;>omega) ?_;refine zS (σ':=mkS [] [(0,zAy tb im 1),(1,.tmap 3 81 es2)] 2 83 [.ptr 0 0 7,.any]) ?_ ?_
     ·refine zH [(0,some 1),(1,some 10002002)] rfl ?_ ?_ ?_ ?_
      all_goals try
       simp +contextual (disch:=omega)[zL,zJ,ze,zW,zAN,ints,scal,zw,zAe,zd,zl,zm,zY,zi,zAy,rows,ints]
     refine rg0 ?_;refine zC ?_;refine⟨⟨_,_,⟨false,[],_,es2,fun h=>(by cases h),fun _=>⟨hnone,rfl⟩,rfl,rfl⟩,zA7 ?_⟩,by simp⟩;refine⟨.inr rfl,_,[(0,some 0),(1,some 1)],(by first|(simp;rfl)|rfl),?_,?_,?_,?_⟩
     all_goals try simp +contextual (disch:=omega)[zL,zJ,zAN,ints,rows,zAy,ints]
    |true=>
     have hsome:zEc n T im' L B=some F3:=by rw[hfam,j1 rfl]
     have hall2:=r6.es.all;have hput:=r6.es.put hsome;refine zF fun K hK=>?_
     simp(maxSteps:=2000000)(disch:=omega)
     (repeat' apply And.intro)
     all_goals (try omega)
     refine zy (caps:=[]) (hl) [0,1,2,3,4,5,6,7] 100 [0,1,1002002,1002003,1002004,1002005,1002006,1002007] 1002010 1 rfl rfl rfl rfl (by kernel_rfl) (by simp) ?_ ?_ ?_ (by simp) (by intro k hk;simp at hk;omega) rfl (by simp) ⟨.inr (.inl ⟨rfl,0,_,_,_,_,_,rfl,rfl,(by first|rfl|simp[zY,zi,rows,zl,zm,zf,zAg]),rfl,(by first|rfl|simp[zY,zi,rows,zl,zm,zf,zAg])⟩),.inr (.inr ⟨rfl,by simp,by simp⟩),.inl ⟨by omega,by omega⟩,.inl ⟨by omega,by omega⟩,.inl ⟨by omega,by omega⟩,.inl ⟨by omega,by omega⟩,.inl ⟨by omega,by omega⟩,.inl ⟨by omega,by omega⟩,trivial⟩ (by omega) (by intro k hk;simp at hk;omega) (by simp[zY,zi,rows,zl]) (fun j hj=>rfl) ?_
     ·simp +contextual (disch:=omega)[zL,zW,scal,poF,scal,zAg]
     ·simp +contextual (disch:=omega)[zL,zJ,zW,Ql,ints,scal,poF,scal,rows,ints,zp,zY,zi,rows,zl,zf]
     ·simp +contextual (disch:=omega)[zm]
     simp(maxSteps:=2000000)(disch:=omega)[scal,callFF]
     (repeat' apply And.intro)
     all_goals (try omega)
     refine zy (caps:=[]) (hr) [0,1,1002002,1002003,1002004,1002005,1002006,1002007] 1002010 [0,1,5002002,5002003,5002004,5002005,5002006,5002007] 5002010 1 (by simp) rfl rfl rfl (by kernel_rfl) (by simp) ?_ ?_ ?_ (by simp) (by intro k hk;simp at hk;omega) rfl (by simp) ⟨.inr (.inl ⟨rfl,0,_,_,_,_,_,rfl,rfl,(by first|rfl|simp[zY,zi,rows,zl,zm,zf,zAg,callFF,zw,zAe,zd,zc,zBW,ints]),rfl,(by first|rfl|simp[zY,zi,rows,zl,zm,zf,zAg,callFF,zw,zAe,zd,zc,zBW,ints])⟩),.inr (.inr ⟨rfl,by simp,by simp⟩),.inl ⟨by omega,by omega⟩,.inl ⟨by omega,by omega⟩,.inl ⟨by omega,by omega⟩,.inl ⟨by omega,by omega⟩,.inl ⟨by omega,by omega⟩,.inl ⟨by omega,by omega⟩,trivial⟩ (by omega) (by intro k hk;simp at hk;omega) (by simp[zY,zi,rows,zl,zBW,ints]) (fun j hj=>rfl) ?_
     ·simp +contextual (disch:=omega)[zL,zJ,ze,zW,Ql,Qd,ints,scal,poF,scal,rows,ints,zY,zi,rows,zl,zm,zAg,zc,ints]
     ·simp +contextual (disch:=omega)[zL,zJ,ze,zW,Ql,Qd,ints,scal,poF,scal,rows,ints,zp,zY,zi,rows,zl,zm,zf,zw,zc,ints]
     ·simp +contextual (disch:=omega)[zJ,ze,Ql,Qd,ints,scal,poF,scal,rows,ints,zY,zi,rows,zl,zm,zc,ints]
     simp(maxSteps:=2000000)(disch:=omega)[scal,callFF]
     (repeat' apply And.intro)
     all_goals (try omega)
     refine zy (caps:=[]) (hj) [0,1,5002002,5002003,5002004,5002005,5002006,5002007] 5002010 [0,1,10002002,10002003,10002004,10002005,10002006,10002007] 10002010 1 (by simp) rfl rfl rfl (by kernel_rfl) (by simp) ?_ ?_ ?_ (by simp) (by intro k hk;simp at hk;omega) rfl (by simp) ⟨.inr (.inl ⟨rfl,0,_,_,_,_,_,rfl,rfl,(by first|rfl|simp[zY,zi,rows,zl,zm,zf,callFF,zw,zAe,zd,zc,zBW,ints]),rfl,(by first|rfl|simp[zY,zi,rows,zl,zm,zf,callFF,zw,zAe,zd,zc,zBW,ints])⟩),.inr (.inr ⟨rfl,by simp,by simp⟩),.inl ⟨by omega,by omega⟩,.inl ⟨by omega,by omega⟩,.inl ⟨by omega,by omega⟩,.inl ⟨by omega,by omega⟩,.inl ⟨by omega,by omega⟩,.inl ⟨by omega,by omega⟩,trivial⟩ (by omega) (by intro k hk;simp at hk;omega) (by simp[zY,zi,rows,zl,zBW,ints]) (fun j hj=>rfl) ?_
     ·simp +contextual (disch:=omega)[zL,zJ,ze,Ql,Qd,ints,scal,poF,scal,rows,ints,zY,zi,rows,zl,zm,zc,ints]
     ·simp +contextual (disch:=omega)[zL,zJ,ze,zW,Ql,Qd,ints,scal,poF,scal,rows,ints,zp,zY,zi,rows,zl,zm,zf,zw,zc,ints]
     ·simp +contextual (disch:=omega)[zJ,ze,Ql,Qd,ints,scal,poF,scal,rows,ints,zY,zi,rows,zl,zm,zc,ints]
     simp(maxSteps:=2000000)(disch:=omega)[scal,callFF];and_intros<;>try first|apply hK|omega|rfl|simp<;>omega
     refine zk (b:=false) (p:=2) (by simp<;>omega) ?_;refine zQ ?_;refine zS (σ':=mkS [(0,.ptr 0 0 7),(1,.t 2 (.int .i64 B)),(8,.ptr 2 0 10)] [(0,zAy tb im 1),(1,.tmap 3 81 es2),(2,.box 130 [.any,.any,.any,.any,.any,.any,.any,.any,.any,.t 1 (zBj F3)])] 3 83 [.ptr 0 0 7,.any]) ?_ ?_
     ·rw[zQN j3];refine zH [(0,some 1),(1,some 10002002),(2,some 0)] rfl ?_ ?_ ?_ ?_
      all_goals try
       simp +contextual (disch:=omega)[zL,zJ,ze,zW,zAN,ints,scal,zw,zAe,zd,zl,zm,zY,zi,zAy,rows,ints,zCT,wk1]
     refine rd1 (an @zAy.eq_1 (an @hall2 @hk1)) ?_;refine rg0 ?_;refine zC ?_;refine⟨⟨_,_,⟨true,F3,_,_,fun _=>⟨hsome,hput,rfl⟩,fun h=>(by cases h),rfl,rfl⟩,zA7 ?_⟩,by simp⟩;refine⟨.inr rfl,_,[(0,some 0),(1,some 1)],(by first|(simp;rfl)|rfl),?_,?_,?_,?_⟩
     all_goals try simp +contextual (disch:=omega)[zL,zJ,zAN,ints,rows,zAy,ints]
     rfl
