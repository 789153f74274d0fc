/- Lemmas for the law AperiodicMember. No conditions. -/
import Derived.Test.YtjkeafkjjaploaaGreatZqaz
set_option linter.all false
namespace Go.Proofs.YtjkeafkjjaploaaGreat.M
open Go.RowKit
set_option maxRecDepth 100000
set_option maxHeartbeats 32000000

def idnS(im:List Int)(one:Int)(ns:List Nd):Nat->List Nd×List Nat
 |0=>(ns,[])
 |k+1=>if im.getD k 0=one then idnS im one ns k else((addG (idnS im one ns k).1 (3,k,0,0)).1,(idnS im one ns k).2++[(addG (idnS im one ns k).1 (3,k,0,0)).2])
theorem zG8(im:List Int)(one:Int)(ns:List Nd): ∀k,(idnS im one ns k).1.length<=ns.length+k/\(idnS im one ns k).2.length<=k
 |0=>⟨Qy _,Qy _⟩
 |k+1=>by
  obtain⟨h1,h2⟩:=zG8 im one ns k;unfold idnS;split
  ·exact⟨by omega,by omega⟩
  ·have:=zl (idnS im one ns k).1 (3,k,0,0);exact⟨by show(addG _ _).1.length<=_;omega,by simp;omega⟩
theorem zPO{L:Nat}{im:List Int}{one:Int}{ns:List Nd}(h:GV L ns): ∀k,k<=L->GV L (idnS im one ns k).1/\zCo k ns (idnS im one ns k).1/\UB L (idnS im one ns k).1 (idnS im one ns k).2 (fun w=>∃a,(a<k/\im.getD a 0≠one)/\w=[a])
 |0,_=>⟨h,.refl _ _,(UB.nil (ns:=ns)).iff fun w _=>⟨fun hf=>hf.elim,fun⟨a,ha,_⟩=>absurd ha.1 (by omega)⟩⟩
 |k+1,hk=>by
  obtain⟨h1,h2,h3⟩:=zPO h k (by omega);unfold idnS;by_cases c:im.getD k 0=one
  ·rw[if_pos c];refine⟨h1,h2.mono (by omega),h3.iff fun w _=>⟨fun⟨a,⟨a1,a2⟩,e⟩=>⟨a,⟨by omega,a2⟩,e⟩,fun⟨a,⟨a1,a2⟩,e⟩=>⟨a,⟨?_,a2⟩,e⟩⟩⟩;have:a≠k:=fun e2=>a2 (e2▸c)
   omega
  ·rw[if_neg c];obtain⟨g1,g2,g3⟩:=zCs h1 (a:=k) (by omega);refine⟨g1,h2.trans g2,((h3.ext g2).add g3).iff fun w _=>⟨?_,?_⟩⟩
   ·rintro(⟨a,⟨a1,a2⟩,e⟩|e)
    ·exact⟨a,⟨by omega,a2⟩,e⟩
    ·exact⟨k,⟨by omega,c⟩,e⟩
   ·rintro⟨a,⟨a1,a2⟩,e⟩;by_cases e2:a=k
    ·subst e2;exact .inr e
    ·exact .inl ⟨a,⟨by omega,a2⟩,e⟩
theorem zTH(D:zDd)(ns:List Nd)(of:List Nat)(one:Int)(hL:D.im.length<=100)(hn:ns.length<=80000):FnK Tryz.prog 30 [.ptr 0 0 13,.t 2 (.int .i64 one)] (bdO D ns of) (.t 2 (.int .i64 ((zFF (idnS D.im one ns D.im.length).1 (idnS D.im one ns D.im.length).2).2:Nat))) (bdO D (zFF (idnS D.im one ns D.im.length).1 (idnS D.im one ns D.im.length).2).1 of) [3]:=by
 refine zAb [(3,.own 3 of.length)] (fun j p hp=>zPX j p hp) Tryz.func30 rfl (by simp[Tryz.f30]) ?_;rw[show Tryz.f30.ntmps=32 from rfl,show Tryz.f30.results= #[.tmp 4]from rfl];refine rg1 (an @bdO.eq_1 (an @bdB.eq_1 (an @zM.eq_1 @zH.eq_1))) ?_;refine rg0 ?_;refine zD ?_;refine rg0 ?_;refine zG ?_;refine awp_loop (fun k:Nat=>mkS [(0,.ptr 0 0 13),(1,.t 2 (.int .i64 one)),(5,.own 4 (idnS D.im one ns k).2.length),(12,.t 1 (ints D.im)),(13,.t 2 (.int .i64 D.im.length)),(14,.t 2 (.int .i64 k))]
   [(0,bdB D (idnS D.im one ns k).1.length of.length),(1,.row 78 4 1 (zCR (idnS D.im one ns k).1)),(2,.map 78 3 (kents ndK 0 (idnS D.im one ns k).1)),(3,.row 3 1 1 (idT of)),(4,.row 3 1 2 (idT (idnS D.im one ns k).2))] 5 32 [.ptr 0 0 13,.any,.own 3 of.length]) (fun k=>k<=D.im.length) (fun k=>D.im.length-k) ?_ ?_
 ·refine⟨0,by omega,?_⟩;refine zP [(0,some 0),(1,some 1),(2,some 2),(3,some 3),(4,none)] rfl ?_ ?_ ?_ ?_
  all_goals try simp[ints,bdB,rows,zH,zM,zH,idnS,idT]
 intro k hk;obtain⟨hl1,hl2⟩:=zG8 D.im one ns k;refine rg0 ?_;refine zD ?_;by_cases hlt:k<D.im.length
 ·have hgt:D.im[k]=D.im.getD k 0:=by simp[hlt]
  refine cK1 @hlt ?_;refine zD ?_;refine zG ?_;refine rg1 @hlt ?_;by_cases c:D.im[k]=one
  ·have hs:idnS D.im one ns (k+1)=idnS D.im one ns k:=by
    conv=>lhs;unfold idnS
    rw[if_pos (by rw[←hgt];exact c)]
   refine rg1 @c ?_;refine cY0 ?_;refine rr0 ?_;refine⟨k+1,by omega,by omega,?_⟩;rw[hs];exact kw1 [(0,some 0),(1,some 1),(2,some 2),(3,some 3),(4,some 4)] (an @bdB.eq_1 (an @rows.eq_1 (an @zH.eq_1 @zM.eq_1)))
  ·have hs:idnS D.im one ns (k+1)=((addG (idnS D.im one ns k).1 (3,k,0,0)).1,(idnS D.im one ns k).2++[(addG (idnS D.im one ns k).1 (3,k,0,0)).2]):=by
    conv=>lhs;unfold idnS
    rw[if_neg (by rw[←hgt];exact c)]
   have cb:(D.im[k]==one)=false:=by simpa using c
   have hlet:=zDw D (idnS D.im one ns k).1 of k (by omega);obtain⟨t,ht⟩: ∃t,t=addG (idnS D.im one ns k).1 (3,k,0,0):=⟨_,rfl⟩;rw[←ht]at hs hlet;refine rg1 @cb ?_;refine cT0 ?_;refine zAE fun K hK=>?_
   simp(maxSteps:=2000000)(disch:=omega)
   (repeat' apply And.intro)
   all_goals (try omega)
   refine za (caps:=[]) (hlet) [0,1,2,3] [0,12000005,12000006,3] 1 rfl rfl rfl rfl (by kernel_rfl) (by simp) ?_ ?_ (by simp) rfl (by simp) ⟨.inr (.inl ⟨rfl,0,_,_,_,_,_,rfl,rfl,(by first|rfl|simp[bdO,bdB,zM,zH]),rfl,(by first|rfl|simp[bdO,bdB,zM,zH])⟩),.inl ⟨by omega,by omega⟩,.inl ⟨by omega,by omega⟩,.inr (.inr ⟨rfl,by simp,by simp[bdO,bdB,zM,zH]⟩),trivial⟩ (by simp[bdO,bdB,zM,zH]) ?_
   ·simp[scal,rows,ints,bdB,zM,zH]
   ·simp[scal,rows,ints,bdO,bdB,zM,zH]
   simp(maxSteps:=2000000)(disch:=omega)[ints,rows,scal,bdO,bdB,zM,zH];and_intros<;>try first|apply hK|omega|rfl|simp<;>omega
   refine rr0 ?_;refine⟨k+1,by omega,by omega,?_⟩;rw[hs];exact kw1 [(0,some 0),(1,some 12000005),(2,some 12000006),(3,some 3),(4,some 4)] (an @bdB.eq_1 (an @rows.eq_1 (an @zH.eq_1 (an @zM.eq_1 @idT.eq_1))))
 ·obtain rfl:k=D.im.length:=by omega
  have hw:=zMo D (idnS D.im one ns D.im.length).1 of (idnS D.im one ns D.im.length).2 (by omega);refine cF0 ?_;refine zK ?_;obtain⟨o,ho⟩: ∃o,o=(idnS D.im one ns D.im.length).2:=⟨_,rfl⟩;rw[←ho]at hw ⊢;refine zd (σ':=mkS [(0,.ptr 0 0 13),(5,.t 1 (ints (nI o)))]
   [(0,bdB D (idnS D.im one ns D.im.length).1.length of.length),(1,.row 78 4 1 (zCR (idnS D.im one ns D.im.length).1)),(2,.map 78 3 (kents ndK 0 (idnS D.im one ns D.im.length).1)),(3,.row 3 1 1 (idT of))] 4 32 [.ptr 0 0 13,.any,.own 3 of.length]) ?_ ?_
  ·exact kw1 [(0,some 0),(1,some 1),(2,some 2),(3,some 3)] (an @bdB.eq_1 (an @rows.eq_1 (an @zH.eq_1 (an @zM.eq_1 (an @idT.eq_1 @nI.eq_1)))))
  refine zO fun K hK=>?_
  simp(maxSteps:=2000000)(disch:=omega)[ints]
  (repeat' apply And.intro)
  all_goals (try omega)
  refine za (caps:=[]) (hw) [0,1,2,3] [0,2000004,2000005,3] 1 rfl rfl rfl rfl (by kernel_rfl) (by simp) ?_ ?_ (by simp) rfl (by simp) ⟨.inr (.inl ⟨rfl,0,_,_,_,_,_,rfl,rfl,(by first|rfl|simp[bdO,bdB,zM,zH]),rfl,(by first|rfl|simp[bdO,bdB,zM,zH])⟩),.inl ⟨by omega,by omega⟩,.inl ⟨by omega,by omega⟩,.inr (.inr ⟨rfl,by simp,by simp[bdO,bdB,zM,zH]⟩),trivial⟩ (by simp[bdO,bdB,zM,zH]) ?_
  ·simp[scal,rows,ints,bdB,zM,zH]
  ·simp[scal,rows,ints,bdO,bdB,zM,zH]
  simp(maxSteps:=2000000)(disch:=omega)[ints,rows,scal,bdO,bdB,zM,zH];and_intros<;>try first|apply hK|omega|rfl|simp<;>omega
  refine zI ?_;refine⟨⟨.inr rfl,_,[(0,some 0),(1,some 2000004),(2,some 2000005),(3,some 3)],(by first|rfl|(simp[ints,rows,scal,tpO,bdO,bdB,zM,zH];rfl)),?_,?_,?_,?_⟩,?_⟩
  all_goals try simp[ints,rows,bdO,bdB,zM,zH]
