/- Lemmas for the law AperiodicMember. No conditions. -/
import Derived.Test.YtjkeafkjjaploaaGreatZqak
set_option linter.all false
namespace Go.Proofs.YtjkeafkjjaploaaGreat.M
open Go.RowKit
set_option maxRecDepth 100000
set_option maxHeartbeats 32000000

def mkM(P:Nat->Bool):Nat->Nat
 |0=>0
 |k+1=>if P k then mkM P k|||2^k else mkM P k
theorem zRW(P:Nat->Bool): ∀m,mkM P m<2^m
 |0=>by simp[mkM]
 |k+1=>by
  have h:=zRW P k;have h2:2^(k+1)=2^k+2^k:=by rw[Nat.pow_succ];omega
  unfold mkM;split
  ·exact Nat.or_lt_two_pow (by omega) (by omega)
  ·omega
theorem zCk(P:Nat->Bool)(q:Nat): ∀m,(mkM P m).testBit q=(decide (q<m)&&P q)
 |0=>by simp[mkM]
 |k+1=>by
  have ih:=zCk P q k;by_cases e:q=k
  ·subst e;have h0:(mkM P q).testBit q=false:=by rw[ih];simp
   unfold mkM
   cases hp:P q with
   |true=>simp[Nat.testBit_or,Nat.testBit_two_pow_self]
   |false=>simp[h0]
  ·have hd:decide (q<k+1)=decide (q<k):=by
    by_cases h:q<k
    ·simp[h,show q<k+1 by omega]
    ·simp[h,show ¬q<k+1 by omega]
   unfold mkM
   cases hp:P k with
   |true=>
    simp only[if_true,Nat.testBit_or,ih,hd,Nat.testBit_two_pow];simp[show ¬k=q from fun g=>e g.symm]
   |false=>simp[ih,hd]
def zBf(m:Nat):AV:=.agg [.t 2 (.int .u64 (m:Nat)),.t 2 (.int .u64 0)]
theorem zWu{i:Nat}(h:i<60):2^i<1152921504606846976:=Nat.pow_lt_pow_right (n:=60) (by omega) h
theorem zW9{i:Nat}(h:i<60):zTS .u64 1 (i:Int)=((2^i:Nat):Int):=by
 have hb:=zWu h;have:=zXC (x:=1) (k:=i) (by rw[Nat.one_mul];omega) (by omega);rw[Nat.one_mul]at this;exact this
theorem zWr{i:Nat}(h:i<60):(i:Int).tdiv 64=0/\(i:Int).tmod 64=i:=⟨Int.tdiv_eq_zero_of_lt (by omega) (by omega),Int.tmod_eq_of_lt (by omega) (by omega)⟩
theorem zGI{m j:Nat}(hm:m<1152921504606846976)(hj:j<60):FnA Tryz.prog 83 [zBf m,.t 2 (.int .i64 j)] (zBf (m|||2^j)):=by
 obtain⟨d1,d2⟩:=zWr hj;have d3:=zW9 hj;have hb:=zWu hj;have d4:=orN (x:=m) (y:=2^j) (by omega) (by omega);generalize 2^j=b at d3 d4 ⊢;refine fI 15 #[.cell 4 90] Tryz.func83 rfl ?_;refine rg1 @zBf.eq_1 ?_;refine rd1 (an @d1 (an @d2 (an @d3 @d4))) ?_;refine rg0 ?_;refine zI ?_;refine⟨⟨.inr rfl,_,[],(by simp;rfl),trivial,trivial,by simp,?_⟩,by simp[zBf]⟩;simp[zBf]
theorem zNP{s i:Nat}(hs:s<1152921504606846976)(hi:i<60):FnA Tryz.prog 46 [zBf s,.t 2 (.int .i64 i)] (.t 2 (.bool (s.testBit i))):=by
 obtain⟨d1,d2⟩:=zWr hi;have d3:zPc .u64 (s:Int) (i:Int)=((s/2^i:Nat):Int):=zXP (by show i<=64;omega);have hb:s.testBit i=decide (s/2^i%2=1):=Nat.testBit_eq_decide_div_mod_eq;have hlt:s/2^i<18446744073709551616:=Nat.lt_of_le_of_lt (Nat.div_le_self _ _) (by omega);have d4:zTx .u64 ((s/2^i:Nat):Int) 1=((s/2^i%2:Nat):Int):=by
  have:=zV9 hlt (show 1<18446744073709551616 by omega);rw[Nat.and_one_is_mod]at this;exact this
 rw[hb];generalize s/2^i=u at d3 d4 ⊢;obtain⟨t,ht⟩: ∃t,t=u%2:=⟨_,rfl⟩;rw[←ht]at d4 ⊢;refine fI 14 #[.tmp 4] Tryz.func46 rfl ?_;refine rg1 @zBf.eq_1 ?_;refine rg1 (an @d1 (an @d2 (an @d3 @d4))) ?_;refine zI ?_;refine⟨⟨.inr rfl,_,[],rfl,trivial,trivial,by simp,?_⟩,by simp[zBf]⟩;simp;rw[Bool.eq_iff_iff];simp;omega
theorem zMn{m k:Nat}(hm:m<1152921504606846976)(hk:k<1152921504606846976):FnA Tryz.prog 85 [zBf m,zBf k] (zBf (m|||k)):=by
 have d4:=orN (x:=m) (y:=k) (by omega) (by omega);have d5:orI .u64 0 0=0:=by simpa using orN (x:=0) (y:=0) (by omega) (by omega)
 refine fI 16 #[.cell 4 90] Tryz.func85 rfl ?_;refine rg1 @zBf.eq_1 ?_;refine rg1 (an @d4 @d5) ?_;refine zI ?_;refine⟨⟨.inr rfl,_,[],(by simp;rfl),trivial,trivial,by simp,?_⟩,by simp[zBf]⟩;simp[zBf]
theorem zPv{m k:Nat}(hm:m<1152921504606846976)(hk:k<1152921504606846976):FnA Tryz.prog 86 [zBf m,zBf k] (zBf (m&&&k)):=by
 have d4:=zV9 (x:=m) (y:=k) (by omega) (by omega);have d5:zTx .u64 0 0=0:=by simpa using zV9 (x:=0) (y:=0) (by omega) (by omega)
 refine fI 16 #[.cell 4 90] Tryz.func86 rfl ?_;refine rg1 @zBf.eq_1 ?_;refine rg1 (an @d4 @d5) ?_;refine zI ?_;refine⟨⟨.inr rfl,_,[],(by simp;rfl),trivial,trivial,by simp,?_⟩,by simp[zBf]⟩;simp[zBf]
def zMF(m k:Nat):Nat:=(BitVec.ofNat 64 m&&& ~~~ BitVec.ofNat 64 k).toNat
theorem zPU(m k i:Nat)(hm:m<1152921504606846976):(zMF m k).testBit i=(m.testBit i&& !k.testBit i):=by
 unfold zMF;rw[BitVec.testBit_toNat,BitVec.getLsbD_and,BitVec.getLsbD_not,BitVec.getLsbD_ofNat,BitVec.getLsbD_ofNat];by_cases h:i<64
 ·simp[h]
 ·have:m.testBit i=false:=Nat.testBit_lt_two_pow (Nat.lt_of_lt_of_le (show m<2^60 by omega) (Nat.pow_le_pow_right (by omega) (by omega)));simp[h,this]
theorem zUz{m k:Nat}(hm:m<18446744073709551616)(hk:k<18446744073709551616):zPT .u64 (m:Int) (k:Int)=((zMF m k:Nat):Int):=by
 unfold zPT zMF;have e: ∀x:Nat,x<18446744073709551616->BitVec.ofInt IntKind.u64.bits (x:Int)=BitVec.ofNat 64 x:=fun x hx=>by
  apply BitVec.eq_of_toNat_eq;have h2:(BitVec.ofNat 64 x).toNat=x:=by rw[BitVec.toNat_ofNat];omega
  exact(bvN hx).trans h2.symm
 rw[e m hm,e k hk];exact wrN (BitVec.isLt _)
theorem zUF{m k:Nat}(hm:m<1152921504606846976)(hk:k<1152921504606846976):FnA Tryz.prog 87 [zBf m,zBf k] (zBf (zMF m k)):=by
 have d4:=zUz (m:=m) (k:=k) (by omega) (by omega);have d5:zPT .u64 0 0=0:=by decide
 refine fI 16 #[.cell 4 90] Tryz.func87 rfl ?_;refine rg1 @zBf.eq_1 ?_;refine rg1 (an @d4 @d5) ?_;refine zI ?_;refine⟨⟨.inr rfl,_,[],(by simp;rfl),trivial,trivial,by simp,?_⟩,by simp[zBf]⟩;simp[zBf]
def zG4(a k:Nat):Nat:=mkM (fun j=>decide (a<=j)) k
theorem zMr{P:Nat->Bool}{k:Nat}(h:k<=60):mkM P k<1152921504606846976:=Nat.lt_of_lt_of_le (zRW P k) (Nat.pow_le_pow_right (n:=2) (by omega) h)
theorem zF4{a b:Nat}(hab:a<=b+1)(hb:b<60):FnA Tryz.prog 84 [.t 2 (.int .i64 a),.t 2 (.int .i64 b)] (zBf (zG4 a (b+1))):=by
 refine fI 17 #[.cell 4 90] Tryz.func84 rfl ?_;refine rg0 ?_;refine rg0 ?_;refine zD ?_;refine rg0 ?_;refine zG ?_;refine awp_loop (fun k:Nat=>mkS [(1,.t 2 (.int .i64 b)),(4,.ptr 0 0 2),(5,.ptr 1 0 2),(6,.t 2 (.int .i64 k))] [(0,.box 90 [.any,.any]),(1,.box 90 [.t 2 (.int .u64 (zG4 a k:Nat)),.t 2 (.int .u64 0)])] 2 17 [.any,.any]) (fun k=>a<=k/\k<=b+1) (fun k=>b+1-k) ?_ ?_
 ·refine⟨a,⟨by omega,hab⟩,?_⟩;have e:zG4 a a=0:=by
   unfold zG4;have: ∀k,k<=a->mkM (fun j=>decide (a<=j)) k=0:=fun k hk=>by
    induction k with
    |zero=>rfl
    |succ k ih=>
     unfold mkM;rw[if_neg (by simp;omega)];exact ih (by omega)
   exact this a (Qy a)
  rw[e];exact kw0 [(0,some 0),(1,some 1000000)]
 rintro k ⟨hk1,hk2⟩;refine zD ?_;by_cases hlt:k<b+1
 ·have hlt':(k:Int)<=b:=by omega
  have hw:=zGI (m:=zG4 a k) (j:=k) (zMr (by omega)) (by omega);have e:zG4 a k|||2^k=zG4 a (k+1):=by
   unfold zG4;show _=(if decide (a<=k)=true then _ else _);rw[if_pos (by simpa using hk1)]
  rw[e]at hw;generalize zG4 a k=u at hw ⊢;obtain⟨v,hv⟩: ∃v,v=zG4 a (k+1):=⟨_,rfl⟩;rw[←hv]at hw;refine rg0 ?_;refine cK1 @hlt' ?_;refine zD ?_;refine zG ?_;refine zAE fun K hK=>?_
  simp(maxSteps:=2000000)(disch:=omega)
  (repeat' apply And.intro)
  all_goals (try omega)
  refine zJ (caps:=[]) (hw) [] [] 2 rfl rfl rfl rfl (by kernel_rfl) (by simp) ?_ trivial trivial rfl trivial trivial (by simp) ?_
  ·simp[scal,zBf]
  simp(maxSteps:=2000000)(disch:=omega)[scal,zBf];and_intros<;>try first|apply hK|omega|rfl|simp<;>omega
  refine rr0 ?_;refine⟨k+1,⟨by omega,by omega⟩,by omega,?_⟩;exact kw1 [(0,some 0),(1,some 1)] @hv
 ·obtain rfl:k=b+1:=by omega
  have hlt': ¬((b:Int)+1<=b):=by omega
  generalize zG4 a (b+1)=v;refine rg0 ?_;refine cF1 @hlt' ?_;refine zK ?_;refine rg0 ?_;refine zI ?_;refine⟨⟨.inr rfl,_,[],(by simp;rfl),trivial,trivial,by simp,?_⟩,by simp⟩;simp[zBf]
