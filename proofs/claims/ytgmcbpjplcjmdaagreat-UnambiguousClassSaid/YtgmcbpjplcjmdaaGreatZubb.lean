/- Lemmas for the law unambiguousClass. No conditions. -/
import Derived.Laws.Externs
import Derived.Test.YtgmcbpjplcjmdaaGreatZuag
import Derived.Test.YtgmcbpjplcjmdaaGreatZuba
set_option linter.all false
namespace Go.Proofs.YtgmcbpjplcjmdaaGreat.M
open Go.RowKit
set_option maxRecDepth 100000
set_option maxHeartbeats 32000000

theorem zPM{P:Program}{ops:Array Oper}{i:Nat}{o:Oper}{σ:ASt}{K:ASt->Prop}{cl:Call}{fo:Operand}{f:FuncId}{n:Int}(s:ByteArray)(c:Int)(p1 p2:Nat)
  (hg:gd ops σ o=some true) (hop:o.op= .call cl) (hc:cl.callee= .value fo) (hfo:σ.eval fo= .fn f []) (hd:zAt σ o=true)
  (hargs:cl.args.toList.map σ.eval=[.t p1 (.str s),.t p2 (.int .u8 c)])
  (hrun: ∀w,(callFunc f #[.string s,.int .u8 c]).run P w= .ok (.value (.int .i64 n)) w)
  (hK:K (σ.app o.dst { val:=.t 2 (.int .i64 n) })):zDo P ops i o σ K:=by
 refine⟨σ.app o.dst { val:=.t 2 (.int .i64 n) },?_,rfl,hK⟩;intro w0 V S0 gv U a w hR hnew K Q hK;have hR':=hR;obtain⟨ob,m1,m2,m3,m4,m5⟩:=hR';have hw:Region.wanted o (yielded ops a.tmps)=true:=zA0 hg m2 m4;rw[if_pos hw];have hfv:=VR.eval m1.glE m2 fo;rw[hfo]at hfv;have hcv:a.eval fo= .func (.func f) #[] #[]:=by
  generalize a.eval fo=v at hfv
  cases hfv with
  |fn f vs cs hn hr=>
   have:vs= #[]:=by apply Array.eq_empty_of_size_eq_zero;simpa using hn
   rw[this]
 have hav:cl.args.map a.eval= #[.string s,.int .u8 c]:=by
  have hl:cl.args.size=2:=by have:=congrArg List.length hargs;simpa using this
  apply Array.ext
  ·simp[hl]
  ·intro j h1 h2;have hj:j<2:=by simpa using h2
   have hjs:j<cl.args.size:=by omega
   have hv:=VR.eval m1.glE m2 cl.args[j];have e:(cl.args.toList.map σ.eval)[j]? =some (σ.eval cl.args[j]):=by simp[hjs]
   rw[hargs]at e;rcases(by omega:j=0\/j=1)with rfl|rfl
   ·simp only[Qm,Qx]at e;rw[←e]at hv;simp[hv.str]
   ·simp only[Ql,Qm,Qx]at e;rw[←e]at hv;simp[hv.int]
 unfold Oper.wp execOp;simp only[hop,resolve,hc,invoke,Sem.run_bind];rw[hcv,hav];simp only[Deferred.ofValue,Sem.run_pure,Result.andThen_ok,Array.empty_append,Array.append_empty];rw[hrun];refine hK _ _ ?_;obtain⟨h5,h6⟩:=m1.used (U':=fun k=>U k\/(i<=k/\k<i+1000000)) (fun k hk=>.inl hk);exact zEN.zRl (σ:=σ) (o:=o) (v:=.int .i64 n) (x:=.t 2 (.int .i64 n)) h5 (fun t=>(m2 t).ext h6) m3 m4 (m5.ext h6) hd (.mkInt _ _ _ _)
theorem zTH(s:ByteArray)(c:Int)(w:World):(callFunc 203 #[.string s,.int .u8 c]).run Tryz.prog w= .ok (.value (.int .i64 (firstIdx s c.toNat.toUInt8))) w:=by
 rw[run_callFunc_extern (fn:=Tryz.f203) (e:=Extern.BytealgIndexByte.indexByte) Tryz.func203 (by kernel_rfl) (by kernel_rfl) (by kernel_rfl) (by rfl)];rw[run_indexByte_string];rfl
theorem zHb(s:ByteArray)(c:Int):FnA Tryz.prog 189 [.t 0 (.str s),.t 2 (.int .u8 c)] (.t 2 (.int .i64 (firstIdx s c.toNat.toUInt8))):=by
 refine fI 8 #[.tmp 4] Tryz.func189 rfl ?_;refine rg0 ?_;refine zF fun K hK=>?_
 simp(maxSteps:=2000000)(disch:=omega);refine zPM s c 0 2 rfl rfl rfl rfl (by simp) (by simp) (zTH s c) ?_;simp(maxSteps:=2000000)(disch:=omega)
 (repeat' first|apply hK|apply And.intro)<;>try first|omega|rfl|(simp<;>omega)
 exact zC rt0
theorem zEe(s:ByteArray)(c:Int):FnA Tryz.prog 173 [.t 0 (.str s),.t 2 (.int .u8 c)] (.t 2 (.int .i64 (firstIdx s c.toNat.toUInt8))):=by
 have h:=zHb s c;refine fI 8 #[.tmp 4] Tryz.func173 rfl ?_;refine rg0 ?_;refine rc0 h ?_;exact zC rt0
def zO8(c:Int):Int:=if c=120 then 0 else if c=121 then 1 else if c=122 then 2 else if c=117 then 3 else if c=118 then 4 else if c=116 then 5 else -1
def zFs:ByteArray:=⟨#[120,121,122,117,118,116]⟩
theorem zM3: ∀c:Fin 256,firstIdx zFs c.val.toUInt8=zO8 (c.val:Int):=by decide +kernel
theorem zKU{c:Int}(h0:0<=c)(h1:c<256):firstIdx zFs c.toNat.toUInt8=zO8 c:=by
 have:=zM3 ⟨c.toNat,by omega⟩;simp only at this;rw[this];congr 1;omega
def zGx(c:Int):Bool:=decide (c=49)||decide (c=40)||(decide (c≠0)&&decide (0<=zO8 c))
theorem zHh{c:Int}(h0:0<=c)(h1:c<256):FnA Tryz.prog 141 [.t 2 (.int .u8 c)] (.t 2 (.bool (zGx c))):=by
 have h:=zEe zFs c;rw[zKU h0 h1]at h;unfold zFs at h;refine fI 18 #[.tmp 2] Tryz.func141 rfl ?_;refine rg0 ?_;by_cases e1:c=49
 ·subst e1;refine rg0 ?_
  all_goals (refine zC ?_;refine⟨⟨.inr rfl,_,[],rfl,trivial,trivial,by simp,?_⟩,by simp⟩;simp[zGx])
 by_cases e2:c=40
 ·subst e2;refine rg0 ?_
  all_goals (refine zC ?_;refine⟨⟨.inr rfl,_,[],rfl,trivial,trivial,by simp,?_⟩,by simp⟩;simp[zGx])
 have b1:(c==49)=false:=by simpa using e1
 have b2:(c==40)=false:=by simpa using e2
 by_cases e3:c=0
 ·subst e3;refine rg0 ?_
  all_goals (refine zC ?_;refine⟨⟨.inr rfl,_,[],rfl,trivial,trivial,by simp,?_⟩,by simp⟩;simp[zGx])
 ·have b3:(c==0)=false:=by simpa using e3
  have b4:(c !=0)=true:=by simpa using e3
  refine rc1 h (an @b1 (an @b2 (an @b3 (an @b4 @e3)))) ?_
  all_goals (refine zC ?_;refine⟨⟨.inr rfl,_,[],rfl,trivial,trivial,by simp,?_⟩,by simp⟩;simp[zGx,e1,e2,e3])
def prO(s:ByteArray)(pos:Nat):AObj:=.box 157 [.t 1 (.str s),.t 2 (.int .i64 (pos:Int))]
def pkB(s:ByteArray)(pos:Nat):Int:=if pos=s.size then 0 else zC2 s pos
theorem zGF(s:ByteArray)(pos:Nat)(hp:pos<=s.size)(hs:s.size<=1000000):FnS Tryz.prog 142 [.ptr 0 0 2] [prO s pos] (.t 2 (.int .u8 (pkB s pos))) [prO s pos]:=by
 refine fI 22 #[.tmp 2] Tryz.func142 rfl ?_;refine rg0 ?_;refine zA ?_;refine rd1 @prO.eq_1 ?_;by_cases he:pos=s.size
 ·subst he;refine cT0 ?_;refine rg0 ?_;refine zC ?_;have hpk:pkB s s.size=0:=by unfold pkB;rw[if_pos rfl]
  exact zCx (an @prO.eq_1 @hpk)
 ·refine cS1 @he ?_;refine rd1 @prO.eq_1 ?_;refine zC ?_;have hpk:pkB s pos=zC2 s pos:=by unfold pkB;rw[if_neg he]
  exact zCx (an @prO.eq_1 @hpk)
theorem zA3{s:ByteArray}{pos:Nat}{b:Int}(hp:pos<=s.size)(hb:b≠0)(h:pkB s pos=b):pos<s.size:=by
 unfold pkB at h;split at h
 ·omega
 ·omega
theorem zEl(s:ByteArray)(pos:Nat)(b:Int)(hp:pos<=s.size)(hs:s.size<=1000000)(hb:b≠0):FnS Tryz.prog 91 [.ptr 0 0 2,.t 2 (.int .u8 b)] [prO s pos] (.t 2 (.bool (decide (pkB s pos=b)))) [prO s (if pkB s pos=b then pos+1 else pos)]:=by
 have hpk:=zGF s pos hp hs;refine fI 16 #[.tmp 4] Tryz.func91 rfl ?_;refine rg0 ?_;refine zA ?_;refine zF fun K hK=>?_
 simp(maxSteps:=2000000)(disch:=omega)
 (repeat' apply And.intro)
 all_goals (try omega)
 refine zD (caps:=[]) (hpk) [0] [0] 1 rfl rfl rfl rfl (by kernel_rfl) (by simp) ?_ ?_ (by simp) rfl (by simp) ⟨.inr ⟨rfl,0,_,_,_,_,_,rfl,rfl,(by first|rfl|simp[prO]),rfl,(by first|rfl|simp[prO])⟩,trivial⟩ (by simp[prO]) ?_
 ·simp[prO]
 ·simp[scal,prO]
 simp(maxSteps:=2000000)(disch:=omega)[scal,prO]
 (repeat' first|apply hK|apply And.intro)<;>try first|omega|rfl|(simp<;>omega)
 by_cases he:pkB s pos=b
 ·have hlt:=zA3 hp hb he;refine cS1 @he ?_;refine rg1 @prO.eq_1 ?_;refine rg0 ?_;refine zC ?_;exact zCx (an @prO.eq_1 @he)
 ·refine cT1 @he ?_;refine rg0 ?_;refine zC ?_;exact zCx (an @prO.eq_1 @he)
def skF(s:ByteArray):Nat->Nat->Nat
 |0,pos=>pos
 |f+1,pos=>if pkB s pos=32 then skF s f (pos+1)else pos
def zAU(s:ByteArray)(pos:Nat):Nat:=skF s (s.size-pos) pos
theorem zKp{s:ByteArray}{pos:Nat}(hp:pos<=s.size):zAU s pos=if pkB s pos=32 then zAU s (pos+1)else pos:=by
 unfold zAU;by_cases h:pkB s pos=32
 ·have hlt:=zA3 hp (by omega) h;rw[if_pos h,show s.size-pos=(s.size-(pos+1))+1 by omega];show(if pkB s pos=32 then _ else _)=_;rw[if_pos h]
 ·rw[if_neg h]
  cases hf:s.size-pos with
  |zero=>rfl
  |succ f=>
   show(if pkB s pos=32 then _ else _)=_;rw[if_neg h]
theorem zQm{s:ByteArray}: ∀f pos,pos+f<=s.size->skF s f pos<=s.size/\pos<=skF s f pos
 |0,pos,h=>⟨by simpa[skF]using h,Qy _⟩
 |f+1,pos,h=>by
  unfold skF;split
  ·have:=zQm (s:=s) f (pos+1) (by omega);exact⟨this.1,by omega⟩
  ·exact⟨by omega,Qy _⟩
theorem zBH{s:ByteArray}{pos:Nat}(hp:pos<=s.size):zAU s pos<=s.size/\pos<=zAU s pos:=zQm _ _ (by omega)
theorem zDO(s:ByteArray)(pos:Nat)(hp:pos<=s.size)(hs:s.size<=1000000):FnS Tryz.prog 140 [.ptr 0 0 2] [prO s pos] (.tup []) [prO s (zAU s pos)]:=by
 refine fI 4 #[] Tryz.func140 rfl ?_;refine zB ?_;refine awp_loop (fun q:Nat=>mkS [(0,.ptr 0 0 2)] [(0,prO s q)] 1 4 [.ptr 0 0 2]) (fun q=>q<=s.size/\zAU s q=zAU s pos) (fun q=>s.size-q) ?_ ?_
 ·refine⟨pos,⟨hp,rfl⟩,?_⟩;exact kw1 [(0,some 0)] @prO.eq_1
 rintro q ⟨hq,hsk⟩;have hac:=zEl s q 32 hq hs (by omega);refine zA ?_;refine zF fun K hK=>?_
 simp(maxSteps:=2000000)(disch:=omega)
 (repeat' apply And.intro)
 all_goals (try omega)
 refine zD (caps:=[]) (hac) [0] [0] 1 rfl rfl rfl rfl (by kernel_rfl) (by simp) ?_ ?_ (by simp) rfl (by simp) ⟨.inr ⟨rfl,0,_,_,_,_,_,rfl,rfl,(by first|rfl|simp[prO]),rfl,(by first|rfl|simp[prO])⟩,trivial⟩ (by simp[prO]) ?_
 ·simp[scal,prO]
 ·simp[scal,prO]
 simp(maxSteps:=2000000)(disch:=omega)[scal,prO]
 (repeat' first|apply hK|apply And.intro)<;>try first|omega|rfl|(simp<;>omega)
 by_cases he:pkB s q=32
 ·have hlt:=zA3 hq (by omega) he;refine cK1 @he ?_;refine zB ?_;refine zQ ?_;rw[zKp hq,if_pos he]at hsk;refine⟨q+1,⟨by omega,hsk⟩,by omega,?_⟩;exact kw1 [(0,some 0)] (an @prO.eq_1 @he)
 ·rw[zKp hq,if_neg he]at hsk;refine cF1 @he ?_;refine zE ?_;have hq2:(if pkB s q=32 then q+1 else q)=zAU s pos:=by rw[if_neg he];exact hsk
  refine⟨⟨.inl rfl,_,[(0,some 0)],rfl,?_,?_,?_,?_⟩,?_⟩
  all_goals simp[prO,hq2]
def zBr(s:ByteArray)(pos:Nat):Int×Bool×Nat:=
 if pkB s pos=119 then(0,true,pos+1)
 else if pkB s pos≠40 then(0,false,pos)
 else if pkB s (pos+1)≠119 then(0,false,pos+1)
 else if pkB s (pos+1+1)=45 then
  (if pkB s (pos+1+1+1)≠49 then(-1,false,pos+1+1+1)else if pkB s (pos+1+1+1+1)≠41 then(-1,false,pos+1+1+1+1)else(-1,true,pos+1+1+1+1+1))
 else if pkB s (pos+1+1)≠43 then(0,false,pos+1+1)
 else if pkB s (pos+1+1+1)<49\/57<pkB s (pos+1+1+1)then(0,false,pos+1+1+1)
 else if pkB s (pos+1+1+1+1)≠41 then(pkB s (pos+1+1+1)-48,false,pos+1+1+1+1)else(pkB s (pos+1+1+1)-48,true,pos+1+1+1+1+1)
theorem zAM{s:ByteArray}{pos:Nat}{b:Int}(hp:pos<=s.size)(hs:s.size<=1000000)(hb:b≠0)(h:pkB s pos=b):pos+1<=s.size/\FnS Tryz.prog 91 [.ptr 0 0 2,.t 2 (.int .u8 b)] [prO s pos] (.t 2 (.bool true)) [prO s (pos+1)]:=by
 have:=zEl s pos b hp hs hb;rw[if_pos h,decide_eq_true h]at this;exact⟨zA3 hp hb h,this⟩
theorem zAd{s:ByteArray}{pos:Nat}{b:Int}(hp:pos<=s.size)(hs:s.size<=1000000)(hb:b≠0)(h:pkB s pos≠b):FnS Tryz.prog 91 [.ptr 0 0 2,.t 2 (.int .u8 b)] [prO s pos] (.t 2 (.bool false)) [prO s pos]:=by
 have:=zEl s pos b hp hs hb;rw[if_neg h,decide_eq_false h]at this;exact this
theorem zIr(s:ByteArray)(pos:Nat)(hp:pos<=s.size)(hs:s.size<=1000000):FnS Tryz.prog 175 [.ptr 0 0 2] [prO s pos] (.tup [.t 2 (.int .i64 (zBr s pos).1),.t 2 (.bool (zBr s pos).2.1)]) [prO s (zBr s pos).2.2]:=by
 refine fI 50 #[.tmp 2,.tmp 3] Tryz.func175 rfl ?_;refine rg0 ?_;refine zA ?_;by_cases e1:pkB s pos=119
 ·obtain⟨-,h1⟩:=zAM hp hs (by omega) e1;have hres:zBr s pos=(0,true,pos+1):=by unfold zBr;rw[if_pos e1]
  refine zF fun K hK=>?_
  simp(maxSteps:=2000000)(disch:=omega)
  (repeat' apply And.intro)
  all_goals (try omega)
  refine zD (caps:=[]) (h1) [0] [0] 1 rfl rfl rfl rfl (by kernel_rfl) (by simp) ?_ ?_ (by simp) rfl (by simp) ⟨.inr ⟨rfl,0,_,_,_,_,_,rfl,rfl,(by first|rfl|simp[prO]),rfl,(by first|rfl|simp[prO])⟩,trivial⟩ (by simp[prO]) ?_
  ·simp[scal,prO]
  ·simp[scal,prO]
  simp(maxSteps:=2000000)(disch:=omega)[scal,prO]
  (repeat' first|apply hK|apply And.intro)<;>try first|omega|rfl|(simp<;>omega)
  refine cT0 ?_;refine rg0 ?_;refine zC ?_;exact zCx (an @prO.eq_1 @hres)
 have h1:=zAd hp hs (by omega) e1;refine zF fun K hK=>?_
 simp(maxSteps:=2000000)(disch:=omega)
 (repeat' apply And.intro)
 all_goals (try omega)
 refine zD (caps:=[]) (h1) [0] [0] 1 rfl rfl rfl rfl (by kernel_rfl) (by simp) ?_ ?_ (by simp) rfl (by simp) ⟨.inr ⟨rfl,0,_,_,_,_,_,rfl,rfl,(by first|rfl|simp[prO]),rfl,(by first|rfl|simp[prO])⟩,trivial⟩ (by simp[prO]) ?_
 ·simp[scal,prO]
 ·simp[scal,prO]
 simp(maxSteps:=2000000)(disch:=omega)[scal,prO]
 (repeat' first|apply hK|apply And.intro)<;>try first|omega|rfl|(simp<;>omega)
 refine cS0 ?_;refine zA ?_;by_cases e2:pkB s pos=40
 case neg=>
  have h2:=zAd hp hs (by omega) e2;have hres:zBr s pos=(0,false,pos):=by unfold zBr;rw[if_neg e1,if_pos e2]
  refine zF fun K hK=>?_
  simp(maxSteps:=2000000)(disch:=omega)
  (repeat' apply And.intro)
  all_goals (try omega)
  refine zD (caps:=[]) (h2) [0] [0] 1 rfl rfl rfl rfl (by kernel_rfl) (by simp) ?_ ?_ (by simp) rfl (by simp) ⟨.inr ⟨rfl,0,_,_,_,_,_,rfl,rfl,(by first|rfl|simp[prO]),rfl,(by first|rfl|simp[prO])⟩,trivial⟩ (by simp[prO]) ?_
  ·simp[scal]
  ·simp[scal,prO]
  simp(maxSteps:=2000000)(disch:=omega)[scal,prO]
  (repeat' first|apply hK|apply And.intro)<;>try first|omega|rfl|(simp<;>omega)
  refine cT0 ?_;refine rg0 ?_;refine zC ?_;exact zCx (an @prO.eq_1 @hres)
 obtain⟨hp1,h2⟩:=zAM hp hs (by omega) e2;by_cases e3:pkB s (pos+1)=119
 case neg=>
  have h3:=zAd hp1 hs (by omega) e3;have hres:zBr s pos=(0,false,pos+1):=by unfold zBr;rw[if_neg e1,if_neg (by simpa using e2),if_pos e3]
  refine zF fun K hK=>?_
  simp(maxSteps:=2000000)(disch:=omega)
  (repeat' apply And.intro)
  all_goals (try omega)
  refine zD (caps:=[]) (h2) [0] [0] 1 rfl rfl rfl rfl (by kernel_rfl) (by simp) ?_ ?_ (by simp) rfl (by simp) ⟨.inr ⟨rfl,0,_,_,_,_,_,rfl,rfl,(by first|rfl|simp[prO]),rfl,(by first|rfl|simp[prO])⟩,trivial⟩ (by simp[prO]) ?_
  ·simp[scal]
  ·simp[scal,prO]
  simp(maxSteps:=2000000)(disch:=omega)[scal,prO]
  (repeat' apply And.intro)
  all_goals (try omega)
  refine zD (caps:=[]) (h3) [0] [0] 1 (by simp) rfl rfl rfl (by kernel_rfl) (by simp) ?_ ?_ (by simp) rfl (by simp) ⟨.inr ⟨rfl,0,_,_,_,_,_,rfl,rfl,(by first|rfl|simp[prO]),rfl,(by first|rfl|simp[prO])⟩,trivial⟩ (by simp[prO]) ?_
  ·simp[scal]
  ·simp[scal,prO]
  simp(maxSteps:=2000000)(disch:=omega)[scal,prO]
  (repeat' first|apply hK|apply And.intro)<;>try first|omega|rfl|(simp<;>omega)
  refine cT0 ?_;refine rg0 ?_;refine zC ?_;exact zCx (an @prO.eq_1 @hres)
 obtain⟨hp2,h3⟩:=zAM hp1 hs (by omega) e3;refine zF fun K hK=>?_
 simp(maxSteps:=2000000)(disch:=omega)
 (repeat' apply And.intro)
 all_goals (try omega)
 refine zD (caps:=[]) (h2) [0] [0] 1 rfl rfl rfl rfl (by kernel_rfl) (by simp) ?_ ?_ (by simp) rfl (by simp) ⟨.inr ⟨rfl,0,_,_,_,_,_,rfl,rfl,(by first|rfl|simp[prO]),rfl,(by first|rfl|simp[prO])⟩,trivial⟩ (by simp[prO]) ?_
 ·simp[scal]
 ·simp[scal,prO]
 simp(maxSteps:=2000000)(disch:=omega)[scal,prO]
 (repeat' apply And.intro)
 all_goals (try omega)
 refine zD (caps:=[]) (h3) [0] [0] 1 (by simp) rfl rfl rfl (by kernel_rfl) (by simp) ?_ ?_ (by simp) rfl (by simp) ⟨.inr ⟨rfl,0,_,_,_,_,_,rfl,rfl,(by first|rfl|simp[prO]),rfl,(by first|rfl|simp[prO])⟩,trivial⟩ (by simp[prO]) ?_
 ·simp[scal]
 ·simp[scal,prO]
 simp(maxSteps:=2000000)(disch:=omega)[scal,prO]
 (repeat' first|apply hK|apply And.intro)<;>try first|omega|rfl|(simp<;>omega)
 refine cS0 ?_;refine zA ?_;have hne2: ¬pkB s pos≠40:=by simpa using e2
 have hne3: ¬pkB s (pos+1)≠119:=by simpa using e3
 by_cases e4:pkB s (pos+1+1)=45
 ·obtain⟨hp3,h4⟩:=zAM hp2 hs (by omega) e4;refine zF fun K hK=>?_
  simp(maxSteps:=2000000)(disch:=omega)
  (repeat' apply And.intro)
  all_goals (try omega)
  refine zD (caps:=[]) (h4) [0] [0] 1 rfl rfl rfl rfl (by kernel_rfl) (by simp) ?_ ?_ (by simp) rfl (by simp) ⟨.inr ⟨rfl,0,_,_,_,_,_,rfl,rfl,(by first|rfl|simp[prO]),rfl,(by first|rfl|simp[prO])⟩,trivial⟩ (by simp[prO]) ?_
  ·simp[scal]
  ·simp[scal,prO]
  simp(maxSteps:=2000000)(disch:=omega)[scal,prO]
  (repeat' first|apply hK|apply And.intro)<;>try first|omega|rfl|(simp<;>omega)
  refine cT0 ?_;by_cases e5:pkB s (pos+1+1+1)=49
  case neg=>
   have h5:=zAd hp3 hs (by omega) e5;have hres:zBr s pos=(-1,false,pos+1+1+1):=by unfold zBr;rw[if_neg e1,if_neg hne2,if_neg hne3,if_pos e4,if_pos e5]
   refine zF fun K hK=>?_
   simp(maxSteps:=2000000)(disch:=omega)
   (repeat' apply And.intro)
   all_goals (try omega)
   refine zD (caps:=[]) (h5) [0] [0] 1 rfl rfl rfl rfl (by kernel_rfl) (by simp) ?_ ?_ (by simp) rfl (by simp) ⟨.inr ⟨rfl,0,_,_,_,_,_,rfl,rfl,(by first|rfl|simp[prO]),rfl,(by first|rfl|simp[prO])⟩,trivial⟩ (by simp[prO]) ?_
   ·simp[scal]
   ·simp[scal,prO]
   simp(maxSteps:=2000000)(disch:=omega)[scal,prO];and_intros<;>try first|apply hK|omega|rfl|simp<;>omega
   refine zC ?_;exact zCx (an @prO.eq_1 @hres)
  obtain⟨hp4,h5⟩:=zAM hp3 hs (by omega) e5;have hne5: ¬pkB s (pos+1+1+1)≠49:=by simpa using e5
  by_cases e6:pkB s (pos+1+1+1+1)=41
  case neg=>
   have h6:=zAd hp4 hs (by omega) e6;have hres:zBr s pos=(-1,false,pos+1+1+1+1):=by unfold zBr;rw[if_neg e1,if_neg hne2,if_neg hne3,if_pos e4,if_neg hne5,if_pos e6]
   refine zF fun K hK=>?_
   simp(maxSteps:=2000000)(disch:=omega)
   (repeat' apply And.intro)
   all_goals (try omega)
   refine zD (caps:=[]) (h5) [0] [0] 1 rfl rfl rfl rfl (by kernel_rfl) (by simp) ?_ ?_ (by simp) rfl (by simp) ⟨.inr ⟨rfl,0,_,_,_,_,_,rfl,rfl,(by first|rfl|simp[prO]),rfl,(by first|rfl|simp[prO])⟩,trivial⟩ (by simp[prO]) ?_
   ·simp[scal]
   ·simp[scal,prO]
   simp(maxSteps:=2000000)(disch:=omega)[scal,prO]
   (repeat' apply And.intro)
   all_goals (try omega)
   refine zD (caps:=[]) (h6) [0] [0] 1 (by simp) rfl rfl rfl (by kernel_rfl) (by simp) ?_ ?_ (by simp) rfl (by simp) ⟨.inr ⟨rfl,0,_,_,_,_,_,rfl,rfl,(by first|rfl|simp[prO]),rfl,(by first|rfl|simp[prO])⟩,trivial⟩ (by simp[prO]) ?_
   ·simp[scal]
   ·simp[scal,prO]
   simp(maxSteps:=2000000)(disch:=omega)[scal,prO];and_intros<;>try first|apply hK|omega|rfl|simp<;>omega
   refine zC ?_;exact zCx (an @prO.eq_1 @hres)
  obtain⟨hp5,h6⟩:=zAM hp4 hs (by omega) e6;have hres:zBr s pos=(-1,true,pos+1+1+1+1+1):=by unfold zBr;rw[if_neg e1,if_neg hne2,if_neg hne3,if_pos e4,if_neg hne5,if_neg (by simpa using e6)]
  refine zF fun K hK=>?_
  simp(maxSteps:=2000000)(disch:=omega)
  (repeat' apply And.intro)
  all_goals (try omega)
  refine zD (caps:=[]) (h5) [0] [0] 1 rfl rfl rfl rfl (by kernel_rfl) (by simp) ?_ ?_ (by simp) rfl (by simp) ⟨.inr ⟨rfl,0,_,_,_,_,_,rfl,rfl,(by first|rfl|simp[prO]),rfl,(by first|rfl|simp[prO])⟩,trivial⟩ (by simp[prO]) ?_
  ·simp[scal]
  ·simp[scal,prO]
  simp(maxSteps:=2000000)(disch:=omega)[scal,prO]
  (repeat' apply And.intro)
  all_goals (try omega)
  refine zD (caps:=[]) (h6) [0] [0] 1 (by simp) rfl rfl rfl (by kernel_rfl) (by simp) ?_ ?_ (by simp) rfl (by simp) ⟨.inr ⟨rfl,0,_,_,_,_,_,rfl,rfl,(by first|rfl|simp[prO]),rfl,(by first|rfl|simp[prO])⟩,trivial⟩ (by simp[prO]) ?_
  ·simp[scal]
  ·simp[scal,prO]
  simp(maxSteps:=2000000)(disch:=omega)[scal,prO];and_intros<;>try first|apply hK|omega|rfl|simp<;>omega
  refine zC ?_;exact zCx (an @prO.eq_1 @hres)
 have h4:=zAd hp2 hs (by omega) e4;refine zF fun K hK=>?_
 simp(maxSteps:=2000000)(disch:=omega)
 (repeat' apply And.intro)
 all_goals (try omega)
 refine zD (caps:=[]) (h4) [0] [0] 1 rfl rfl rfl rfl (by kernel_rfl) (by simp) ?_ ?_ (by simp) rfl (by simp) ⟨.inr ⟨rfl,0,_,_,_,_,_,rfl,rfl,(by first|rfl|simp[prO]),rfl,(by first|rfl|simp[prO])⟩,trivial⟩ (by simp[prO]) ?_
 ·simp[scal]
 ·simp[scal,prO]
 simp(maxSteps:=2000000)(disch:=omega)[scal,prO]
 (repeat' first|apply hK|apply And.intro)<;>try first|omega|rfl|(simp<;>omega)
 refine cS0 ?_;refine zA ?_;by_cases e5:pkB s (pos+1+1)=43
 case neg=>
  have h5:=zAd hp2 hs (by omega) e5;have hres:zBr s pos=(0,false,pos+1+1):=by unfold zBr;rw[if_neg e1,if_neg hne2,if_neg hne3,if_neg e4,if_pos e5]
  refine zF fun K hK=>?_
  simp(maxSteps:=2000000)(disch:=omega)
  (repeat' apply And.intro)
  all_goals (try omega)
  refine zD (caps:=[]) (h5) [0] [0] 1 rfl rfl rfl rfl (by kernel_rfl) (by simp) ?_ ?_ (by simp) rfl (by simp) ⟨.inr ⟨rfl,0,_,_,_,_,_,rfl,rfl,(by first|rfl|simp[prO]),rfl,(by first|rfl|simp[prO])⟩,trivial⟩ (by simp[prO]) ?_
  ·simp[scal]
  ·simp[scal,prO]
  simp(maxSteps:=2000000)(disch:=omega)[scal,prO]
  (repeat' first|apply hK|apply And.intro)<;>try first|omega|rfl|(simp<;>omega)
  refine cT0 ?_;refine rg0 ?_;refine zC ?_;exact zCx (an @prO.eq_1 @hres)
 obtain⟨hp3,h5⟩:=zAM hp2 hs (by omega) e5;have hne5: ¬pkB s (pos+1+1)≠43:=by simpa using e5
 have hpk:=zGF s (pos+1+1+1) hp3 hs;by_cases e6:pkB s (pos+1+1+1)<49
 ·have hres:zBr s pos=(0,false,pos+1+1+1):=by unfold zBr;rw[if_neg e1,if_neg hne2,if_neg hne3,if_neg e4,if_neg hne5,if_pos (.inl e6)]
  refine zF fun K hK=>?_
  simp(maxSteps:=2000000)(disch:=omega)
  (repeat' apply And.intro)
  all_goals (try omega)
  refine zD (caps:=[]) (h5) [0] [0] 1 rfl rfl rfl rfl (by kernel_rfl) (by simp) ?_ ?_ (by simp) rfl (by simp) ⟨.inr ⟨rfl,0,_,_,_,_,_,rfl,rfl,(by first|rfl|simp[prO]),rfl,(by first|rfl|simp[prO])⟩,trivial⟩ (by simp[prO]) ?_
  ·simp[scal]
  ·simp[scal,prO]
  simp(maxSteps:=2000000)(disch:=omega)[scal,prO]
  (repeat' apply And.intro)
  all_goals (try omega)
  refine zD (caps:=[]) (hpk) [0] [0] 1 (by simp) rfl rfl rfl (by kernel_rfl) (by simp) ?_ ?_ (by simp) rfl (by simp) ⟨.inr ⟨rfl,0,_,_,_,_,_,rfl,rfl,(by first|rfl|simp[prO]),rfl,(by first|rfl|simp[prO])⟩,trivial⟩ (by simp[prO]) ?_
  ·simp
  ·simp[scal,prO]
  simp(maxSteps:=2000000)(disch:=omega)[scal,prO,e6]
  (repeat' first|apply hK|apply And.intro)<;>try first|omega|rfl|(simp<;>omega)
  refine cT1 @e6 ?_;refine rg0 ?_;refine zC ?_;exact zCx (an @prO.eq_1 @hres)
 by_cases e7:57<pkB s (pos+1+1+1)
 ·have hres:zBr s pos=(0,false,pos+1+1+1):=by unfold zBr;rw[if_neg e1,if_neg hne2,if_neg hne3,if_neg e4,if_neg hne5,if_pos (.inr e7)]
  refine zF fun K hK=>?_
  simp(maxSteps:=2000000)(disch:=omega)
  (repeat' apply And.intro)
  all_goals (try omega)
  refine zD (caps:=[]) (h5) [0] [0] 1 rfl rfl rfl rfl (by kernel_rfl) (by simp) ?_ ?_ (by simp) rfl (by simp) ⟨.inr ⟨rfl,0,_,_,_,_,_,rfl,rfl,(by first|rfl|simp[prO]),rfl,(by first|rfl|simp[prO])⟩,trivial⟩ (by simp[prO]) ?_
  ·simp[scal]
  ·simp[scal,prO]
  simp(maxSteps:=2000000)(disch:=omega)[scal,prO]
  (repeat' apply And.intro)
  all_goals (try omega)
  refine zD (caps:=[]) (hpk) [0] [0] 1 (by simp) rfl rfl rfl (by kernel_rfl) (by simp) ?_ ?_ (by simp) rfl (by simp) ⟨.inr ⟨rfl,0,_,_,_,_,_,rfl,rfl,(by first|rfl|simp[prO]),rfl,(by first|rfl|simp[prO])⟩,trivial⟩ (by simp[prO]) ?_
  ·simp
  ·simp[scal,prO]
  simp(maxSteps:=2000000)(disch:=omega)[scal,prO,e6]
  (repeat' apply And.intro)
  all_goals (try omega)
  refine zD (caps:=[]) (hpk) [0] [0] 1 (by simp) rfl rfl rfl (by kernel_rfl) (by simp) ?_ ?_ (by simp) rfl (by simp) ⟨.inr ⟨rfl,0,_,_,_,_,_,rfl,rfl,(by first|rfl|simp[prO,e6]),rfl,(by first|rfl|simp[prO,e6])⟩,trivial⟩ (by simp[prO]) ?_
  ·simp
  ·simp[scal,prO]
  simp(maxSteps:=2000000)(disch:=omega)[scal,prO,e7]
  (repeat' first|apply hK|apply And.intro)<;>try first|omega|rfl|(simp<;>omega)
  refine cT1 (an @e6 @e7) ?_;refine rg0 ?_;refine zC ?_;exact zCx (an @prO.eq_1 @hres)
 have hne6: ¬(pkB s (pos+1+1+1)<49\/57<pkB s (pos+1+1+1)):=by omega
 have hlt:pos+1+1+1<s.size:=zA3 hp3 (b:=pkB s (pos+1+1+1)) (by omega) rfl;obtain⟨dd,hdd⟩: ∃dd,dd=pkB s (pos+1+1+1):=⟨_,rfl⟩;refine zF fun K hK=>?_
 simp(maxSteps:=2000000)(disch:=omega)
 (repeat' apply And.intro)
 all_goals (try omega)
 refine zD (caps:=[]) (h5) [0] [0] 1 rfl rfl rfl rfl (by kernel_rfl) (by simp) ?_ ?_ (by simp) rfl (by simp) ⟨.inr ⟨rfl,0,_,_,_,_,_,rfl,rfl,(by first|rfl|simp[prO]),rfl,(by first|rfl|simp[prO])⟩,trivial⟩ (by simp[prO]) ?_
 ·simp[scal]
 ·simp[scal,prO]
 simp(maxSteps:=2000000)(disch:=omega)[scal,prO]
 (repeat' apply And.intro)
 all_goals (try omega)
 refine zD (caps:=[]) (hpk) [0] [0] 1 (by simp) rfl rfl rfl (by kernel_rfl) (by simp) ?_ ?_ (by simp) rfl (by simp) ⟨.inr ⟨rfl,0,_,_,_,_,_,rfl,rfl,(by first|rfl|simp[prO]),rfl,(by first|rfl|simp[prO])⟩,trivial⟩ (by simp[prO]) ?_
 ·simp
 ·simp[scal,prO]
 simp(maxSteps:=2000000)(disch:=omega)[scal,prO,e6]
 (repeat' apply And.intro)
 all_goals (try omega)
 refine zD (caps:=[]) (hpk) [0] [0] 1 (by simp) rfl rfl rfl (by kernel_rfl) (by simp) ?_ ?_ (by simp) rfl (by simp) ⟨.inr ⟨rfl,0,_,_,_,_,_,rfl,rfl,(by first|rfl|simp[prO,e6]),rfl,(by first|rfl|simp[prO,e6])⟩,trivial⟩ (by simp[prO]) ?_
 ·simp
 ·simp[scal,prO]
 simp(maxSteps:=2000000)(disch:=omega)[scal,prO,e7]
 (repeat' first|apply hK|apply And.intro)<;>try first|omega|rfl|(simp<;>omega)
 refine cS1 (an @e6 @e7) ?_;refine zF fun K hK=>?_
 simp(maxSteps:=2000000)(disch:=omega)
 (repeat' apply And.intro)
 all_goals (try omega)
 refine zD (caps:=[]) (hpk) [0] [0] 1 rfl rfl rfl rfl (by kernel_rfl) (by simp) ?_ ?_ (by simp) rfl (by simp) ⟨.inr ⟨rfl,0,_,_,_,_,_,rfl,rfl,(by first|rfl|simp[prO]),rfl,(by first|rfl|simp[prO])⟩,trivial⟩ (by simp[prO]) ?_
 ·simp
 ·simp[scal,prO]
 simp(maxSteps:=2000000)(disch:=omega)[scal,zBs,wr8,prO]
 (repeat' first|apply hK|apply And.intro)<;>try first|omega|rfl|(simp<;>omega)
 refine rg1 @prO.eq_1 ?_;have hp4:pos+1+1+1+1<=s.size:=hlt;by_cases e8:pkB s (pos+1+1+1+1)=41
 ·obtain⟨hp5,h8⟩:=zAM hp4 hs (by omega) e8;have hres:zBr s pos=(pkB s (pos+1+1+1)-48,true,pos+1+1+1+1+1):=by unfold zBr;rw[if_neg e1,if_neg hne2,if_neg hne3,if_neg e4,if_neg hne5,if_neg hne6,if_neg (by simpa using e8)]
  refine zF fun K hK=>?_
  simp(maxSteps:=2000000)(disch:=omega)
  (repeat' apply And.intro)
  all_goals (try omega)
  refine zD (caps:=[]) (h8) [0] [0] 1 rfl rfl rfl rfl (by kernel_rfl) (by simp) ?_ ?_ (by simp) rfl (by simp) ⟨.inr ⟨rfl,0,_,_,_,_,_,rfl,rfl,(by first|rfl|simp[prO]),rfl,(by first|rfl|simp[prO])⟩,trivial⟩ (by simp[prO]) ?_
  ·simp[scal]
  ·simp[scal,prO]
  simp(maxSteps:=2000000)(disch:=omega)[scal,prO];and_intros<;>try first|apply hK|omega|rfl|simp<;>omega
  refine zC ?_;exact zCx (an @prO.eq_1 @hres)
 ·have h8:=zAd hp4 hs (by omega) e8;have hres:zBr s pos=(pkB s (pos+1+1+1)-48,false,pos+1+1+1+1):=by unfold zBr;rw[if_neg e1,if_neg hne2,if_neg hne3,if_neg e4,if_neg hne5,if_neg hne6,if_pos e8]
  refine zF fun K hK=>?_
  simp(maxSteps:=2000000)(disch:=omega)
  (repeat' apply And.intro)
  all_goals (try omega)
  refine zD (caps:=[]) (h8) [0] [0] 1 rfl rfl rfl rfl (by kernel_rfl) (by simp) ?_ ?_ (by simp) rfl (by simp) ⟨.inr ⟨rfl,0,_,_,_,_,_,rfl,rfl,(by first|rfl|simp[prO]),rfl,(by first|rfl|simp[prO])⟩,trivial⟩ (by simp[prO]) ?_
  ·simp[scal]
  ·simp[scal,prO]
  simp(maxSteps:=2000000)(disch:=omega)[scal,prO];and_intros<;>try first|apply hK|omega|rfl|simp<;>omega
  refine zC ?_;exact zCx (an @prO.eq_1 @hres)
theorem zJj{s:ByteArray}{pos:Nat}(hp:pos<=s.size):(zBr s pos).2.2<=s.size/\pos<=(zBr s pos).2.2:=by
 unfold zBr;by_cases e1:pkB s pos=119
 ·have:=zA3 hp (by omega) e1;rw[if_pos e1];exact⟨by simp only;omega,by simp only;omega⟩
 rw[if_neg e1];by_cases e2:pkB s pos≠40
 ·rw[if_pos e2];exact⟨hp,Qy _⟩
 rw[if_neg e2];have h1:=zA3 (b:=40) hp (by omega) (by omega);by_cases e3:pkB s (pos+1)≠119
 ·rw[if_pos e3];exact⟨by simp only;omega,by simp only;omega⟩
 rw[if_neg e3];have h2:=zA3 (b:=119) (show pos+1<=s.size by omega) (by omega) (by omega);by_cases e4:pkB s (pos+1+1)=45
 ·rw[if_pos e4];have h3:=zA3 (b:=45) (show pos+1+1<=s.size by omega) (by omega) e4;by_cases e5:pkB s (pos+1+1+1)≠49
  ·rw[if_pos e5];exact⟨by simp only;omega,by simp only;omega⟩
  rw[if_neg e5];have h4:=zA3 (b:=49) (show pos+1+1+1<=s.size by omega) (by omega) (by omega);by_cases e6:pkB s (pos+1+1+1+1)≠41
  ·rw[if_pos e6];exact⟨by simp only;omega,by simp only;omega⟩
  rw[if_neg e6];have h5:=zA3 (b:=41) (show pos+1+1+1+1<=s.size by omega) (by omega) (by omega);exact⟨by simp only;omega,by simp only;omega⟩
 rw[if_neg e4];by_cases e5:pkB s (pos+1+1)≠43
 ·rw[if_pos e5];exact⟨by simp only;omega,by simp only;omega⟩
 rw[if_neg e5];have h3:=zA3 (b:=43) (show pos+1+1<=s.size by omega) (by omega) (by omega);by_cases e6:pkB s (pos+1+1+1)<49\/57<pkB s (pos+1+1+1)
 ·rw[if_pos e6];exact⟨by simp only;omega,by simp only;omega⟩
 rw[if_neg e6];have h4:=zA3 (b:=pkB s (pos+1+1+1)) (show pos+1+1+1<=s.size by omega) (by omega) rfl;by_cases e7:pkB s (pos+1+1+1+1)≠41
 ·rw[if_pos e7];exact⟨by simp only;omega,by simp only;omega⟩
 rw[if_neg e7];have h5:=zA3 (b:=41) (show pos+1+1+1+1<=s.size by omega) (by omega) (by omega);exact⟨by simp only;omega,by simp only;omega⟩
def Tm.zero:Tm:=.mk 0 0 []
abbrev PR:=Tm×Bool×Nat
def zAB(P:Nat->PR)(s:ByteArray)(pos:Nat):PR:=
 if zGx (pkB s pos)=false then(.zero,false,pos)
 else if pkB s pos=49 then(.mk 1 0 [],true,pos+1)
 else if pkB s pos=40 then
  (
   if(P (pos+1)).2.1=false then((P (pos+1)).1,false,(P (pos+1)).2.2)
   else if pkB s (P (pos+1)).2.2=41 then((P (pos+1)).1,true,(P (pos+1)).2.2+1)else((P (pos+1)).1,false,(P (pos+1)).2.2))
 else(.mk 2 (zO8 (pkB s pos)) [],true,pos+1)
def expsP(s:ByteArray):Nat->Nat->Tm->PR
 |0,pos,t=>(t,true,pos)
 |f+1,pos,t=>
  if pkB s pos=94 then
   (
    if(zBr s (pos+1)).2.1=false then(.zero,false,(zBr s (pos+1)).2.2)
    else expsP s f (zAU s (zBr s (pos+1)).2.2) (.mk 4 (zBr s (pos+1)).1 [t]))
  else(t,true,pos)
def zj(P:Nat->PR)(s:ByteArray)(pos:Nat):PR:=
 if(zAB P s pos).2.1=false then(.zero,false,(zAB P s pos).2.2)
 else expsP s (s.size+1-zAU s (zAB P s pos).2.2) (zAU s (zAB P s pos).2.2) (zAB P s pos).1
def zBR(P:Nat->PR)(s:ByteArray):Nat->Nat->List Tm->PR
 |0,pos,acc=>(.zero,false,pos)
 |f+1,pos,acc=>
  if acc.length=0\/zGx (pkB s pos)=true then
   (
    if(zj P s pos).2.1=false then(.zero,false,(zj P s pos).2.2)
    else zBR P s f (zAU s (zj P s pos).2.2) (acc++[(zj P s pos).1]))
  else(if acc.length=1 then acc.getD 0 .zero else .mk 3 0 acc,true,pos)
def zAX(s:ByteArray):Nat->Nat->PR
 |0,pos=>(.zero,false,pos)
 |f+1,pos=>zBR (zAX s f) s (s.size+2-zAU s pos) (zAU s pos) []
theorem zDm(s:ByteArray)(pos:Nat):0<=pkB s pos/\pkB s pos<256:=by
 unfold pkB;by_cases h:pos=s.size
 ·rw[if_pos h];omega
 ·rw[if_neg h];unfold zC2
  cases s[pos]? with
  |none=>simp
  |some b=>simp only[Qg,Qd];have:=b.toNat_lt;omega
def tmL(o n:Int):AV:=.agg [.t 2 (.int .i64 o),.t 2 (.int .i64 n),.t 2 (.sl 0 [])]
theorem VR.leaf{E:Ev}{v:Value}{o n:Int}{r:AV}(h:VR E v (.tup [tmL o n,r])):VR E v (.tup [tmV 2 (.mk o n []),r]):=by
 cases h with
 |tup vs cs hn hr=>
  refine .tup vs _ hn (fun i c hi=>?_)
  match i,hi with
  |0,hi=>
   injection hi with hi;subst hi;have h0:=hr 0 _ rfl;unfold tmL at h0;generalize vs.getD 0 undef=u at h0 ⊢
   cases h0 with
   |agg us cs hn' h1 hr'=>
    refine .agg us _ hn' h1 (fun j d hj=>?_)
    match j,hj with
    |0,hj=>exact hr' 0 _ hj
    |1,hj=>exact hr' 1 _ hj
    |2,hj=>
     injection hj with hj;subst hj;rw[zE1 (hr' 2 _ rfl)];exact .t _ _ _ (.nil 3)
    |j+3,hj=>simp[Tm.args,Tm.op]at hj
  |i+1,hi=>exact hr (i+1) c hi
theorem FnS.zTK{P:Program}{f:FuncId}{args:List AV}{H H':List AObj}{r r':AV}(h:FnS P f args H r H')(hr: ∀E v,VR E v r->VR E v r'):FnS P f args H r' H':=fun w V ob vs hm hn hv=>(h w V ob vs hm hn hv).mono fun e w' ⟨v,ob',h1,h2,h3,h4⟩=>⟨v,ob',h1,h2,hr _ _ h3,h4⟩
theorem zAF(h:71<Tryz.prog.types.size):(Tryz.prog.types[71]'h).size=3:=by rfl
def zCS(P:Nat->PR)(s:ByteArray)(pos:Nat):AV:=
 if zGx (pkB s pos)=false then tmL 0 0
 else if pkB s pos=49 then tmL 1 0
 else if pkB s pos=40 then tmV 2 (P (pos+1)).1
 else tmL 2 (zO8 (pkB s pos))
theorem zPg(P:Nat->PR)(s:ByteArray)(pos:Nat)(hp:pos<=s.size)(hs:s.size<=1000000)
  (hP:pos+1<=s.size->(P (pos+1)).2.2<=s.size/\FnS Tryz.prog 90 [.ptr 0 0 2] [prO s (pos+1)] (.tup [tmV 2 (P (pos+1)).1,.t 2 (.bool (P (pos+1)).2.1)]) [prO s (P (pos+1)).2.2]):
  FnS Tryz.prog 174 [.ptr 0 0 2] [prO s pos] (.tup [zCS P s pos,.t 2 (.bool (zAB P s pos).2.1)]) [prO s (zAB P s pos).2.2]:=by
 have h1:=zGF s pos hp hs;have h2:=zHh (zDm s pos).1 (zDm s pos).2;refine fI 40 #[.cell 2 71,.tmp 3] Tryz.func174 rfl ?_;refine rg0 ?_;refine zF fun K hK=>?_
 simp(maxSteps:=2000000)(disch:=omega)
 (repeat' apply And.intro)
 all_goals (try omega)
 refine zD (caps:=[]) (h1) [0] [0] 1 rfl rfl rfl rfl (by kernel_rfl) (by simp) ?_ ?_ (by simp) rfl (by simp) ⟨.inr ⟨rfl,0,_,_,_,_,_,rfl,rfl,(by first|rfl|simp[prO]),rfl,(by first|rfl|simp[prO])⟩,trivial⟩ (by simp[prO]) ?_
 ·simp[prO]
 ·simp[scal,prO]
 simp(maxSteps:=2000000)(disch:=omega)[scal,prO];and_intros<;>try first|apply hK|omega|rfl|simp<;>omega
 refine zA ?_;refine rc0 h2 ?_;by_cases e1:zGx (pkB s pos)=false
 ·have hres:zAB P s pos=(.zero,false,pos):=by unfold zAB;rw[if_pos e1]
  refine cT1 @e1 ?_;refine rg0 ?_;refine zC ?_;have hr:zCS P s pos=tmL 0 0:=by unfold zCS;rw[if_pos e1]
  rw[hr,hres];unfold tmL;exact zCx (an @prO.eq_1 @zAF)
 have e1':zGx (pkB s pos)=true:=by simpa using e1
 have hlt:pos+1<=s.size:=by
  refine zA3 (b:=pkB s pos) hp (fun h0=>?_) rfl;rw[h0]at e1';exact absurd e1' (by decide)
 refine cS1 @e1' ?_;refine rg1 @prO.eq_1 ?_;refine zA ?_;refine rg0 ?_;refine zB ?_;refine rg0 ?_;by_cases e2:pkB s pos=49
 ·have hres:zAB P s pos=(.mk 1 0 [],true,pos+1):=by unfold zAB;rw[if_neg e1,if_pos e2]
  have hr:zCS P s pos=tmL 1 0:=by unfold zCS;rw[if_neg e1,if_pos e2]
  refine cT1 @e2 ?_;refine rg0 ?_;refine zC ?_;rw[hr,hres];unfold tmL;exact zCx (an @prO.eq_1 @zAF)
 refine cF1 @e2 ?_;refine rg0 ?_;by_cases e3:pkB s pos=40
 case neg=>
  have h4:=zEe zFs (pkB s pos);rw[zKU (zDm s pos).1 (zDm s pos).2]at h4;unfold zFs at h4;have hres:zAB P s pos=(.mk 2 (zO8 (pkB s pos)) [],true,pos+1):=by unfold zAB;rw[if_neg e1,if_neg e2,if_neg e3]
  have hr:zCS P s pos=tmL 2 (zO8 (pkB s pos)):=by unfold zCS;rw[if_neg e1,if_neg e2,if_neg e3]
  refine cY1 @e3 ?_;refine rc0 h4 ?_;refine zC ?_;rw[hr,hres];unfold tmL;exact zCx (an @prO.eq_1 @zAF)
 obtain⟨hle,h5⟩:=hP hlt;have hr:zCS P s pos=tmV 2 (P (pos+1)).1:=by unfold zCS;rw[if_neg e1,if_neg e2,if_pos e3]
 have hat:zAB P s pos=(if(P (pos+1)).2.1=false then((P (pos+1)).1,false,(P (pos+1)).2.2)else if pkB s (P (pos+1)).2.2=41 then((P (pos+1)).1,true,(P (pos+1)).2.2+1)else((P (pos+1)).1,false,(P (pos+1)).2.2)):=by
  unfold zAB;rw[if_neg e1,if_neg e2,if_pos e3]
 rw[hr,hat];generalize P (pos+1)=q at h5 hle ⊢;obtain⟨u,b,pe⟩:=q;simp only at h5 hle ⊢;refine cT1 @e3 ?_;refine zF fun K hK=>?_
 simp(maxSteps:=2000000)(disch:=omega)
 (repeat' apply And.intro)
 all_goals (try omega)
 refine zD (caps:=[]) (h5) [0] [0] 1 rfl rfl rfl rfl (by kernel_rfl) (by simp) ?_ ?_ (by simp) rfl (by simp) ⟨.inr ⟨rfl,0,_,_,_,_,_,rfl,rfl,(by first|rfl|simp[prO]),rfl,(by first|rfl|simp[prO])⟩,trivial⟩ (by simp[prO]) ?_
 ·simp
 ·simp[scal,prO]
 simp(maxSteps:=2000000)(disch:=omega)[scal,prO,tmV]
 (repeat' first|apply hK|apply And.intro)<;>try first|omega|rfl|(simp<;>omega)
 cases b with
 |false=>
  refine rd1 (an @prO.eq_1 (an @tmV.eq_1 @zAF)) ?_;refine zC ?_;rw[if_pos rfl];exact zCx (an @prO.eq_1 (an @tmV.eq_1 @zAF))
 |true=>
  by_cases e4:pkB s pe=41
  ·obtain⟨-,h6⟩:=zAM hle hs (by omega) e4;refine zg (by kernel_rfl) (fun K hK=>?_);simp(maxSteps:=2000000)(disch:=omega)
   (repeat' apply And.intro)
   all_goals (try omega)
   refine zM (caps:=[]) (h6) [0] [0] 1 (by simp) rfl rfl rfl (by kernel_rfl) (by simp) ?_ ?_ (by simp) rfl (by simp) ⟨.inr ⟨rfl,0,_,_,_,_,_,rfl,rfl,(by first|rfl|simp[prO]),rfl,(by first|rfl|simp[prO])⟩,trivial⟩ (by simp[prO]) ?_
   ·simp[scal]
   ·simp[scal,prO]
   simp(maxSteps:=2000000)(disch:=omega)[scal,prO];and_intros<;>try first|apply hK|(show zAY _ _=true;kernel_rfl)|(show okH _ _ _=true;kernel_rfl)|omega|rfl|simp<;>omega
   refine zC ?_;rw[if_neg (by simp),if_pos e4];exact zCx (an @prO.eq_1 (an @tmV.eq_1 @zAF))
  ·have h6:=zAd hle hs (by omega) e4;refine zg (by kernel_rfl) (fun K hK=>?_);simp(maxSteps:=2000000)(disch:=omega)
   (repeat' apply And.intro)
   all_goals (try omega)
   refine zM (caps:=[]) (h6) [0] [0] 1 (by simp) rfl rfl rfl (by kernel_rfl) (by simp) ?_ ?_ (by simp) rfl (by simp) ⟨.inr ⟨rfl,0,_,_,_,_,_,rfl,rfl,(by first|rfl|simp[prO]),rfl,(by first|rfl|simp[prO])⟩,trivial⟩ (by simp[prO]) ?_
   ·simp[scal]
   ·simp[scal,prO]
   simp(maxSteps:=2000000)(disch:=omega)[scal,prO];and_intros<;>try first|apply hK|(show zAY _ _=true;kernel_rfl)|(show okH _ _ _=true;kernel_rfl)|omega|rfl|simp<;>omega
   refine zC ?_;rw[if_neg (by simp),if_neg e4];exact zCx (an @prO.eq_1 (an @tmV.eq_1 @zAF))
theorem zRV(P:Nat->PR)(s:ByteArray)(pos:Nat)(hp:pos<=s.size)(hs:s.size<=1000000)
  (hP:pos+1<=s.size->(P (pos+1)).2.2<=s.size/\FnS Tryz.prog 90 [.ptr 0 0 2] [prO s (pos+1)] (.tup [tmV 2 (P (pos+1)).1,.t 2 (.bool (P (pos+1)).2.1)]) [prO s (P (pos+1)).2.2]):
  FnS Tryz.prog 174 [.ptr 0 0 2] [prO s pos] (.tup [tmV 2 (zAB P s pos).1,.t 2 (.bool (zAB P s pos).2.1)]) [prO s (zAB P s pos).2.2]:=by
 refine FnS.zTK (zPg P s pos hp hs hP) (fun E v h=>?_);by_cases e1:zGx (pkB s pos)=false
 ·have hres:zAB P s pos=(.zero,false,pos):=by unfold zAB;rw[if_pos e1]
  have hr:zCS P s pos=tmL 0 0:=by unfold zCS;rw[if_pos e1]
  rw[hr,hres]at h;rw[hres];exact h.leaf
 by_cases e2:pkB s pos=49
 ·have hres:zAB P s pos=(.mk 1 0 [],true,pos+1):=by unfold zAB;rw[if_neg e1,if_pos e2]
  have hr:zCS P s pos=tmL 1 0:=by unfold zCS;rw[if_neg e1,if_pos e2]
  rw[hr,hres]at h;rw[hres];exact h.leaf
 by_cases e3:pkB s pos=40
 ·have hr:zCS P s pos=tmV 2 (P (pos+1)).1:=by unfold zCS;rw[if_neg e1,if_neg e2,if_pos e3]
  have h1:(zAB P s pos).1=(P (pos+1)).1:=by
   unfold zAB;rw[if_neg e1,if_neg e2,if_pos e3];split
   ·rfl
   ·split<;>rfl
  rw[hr]at h;rw[h1];exact h
 ·have hres:zAB P s pos=(.mk 2 (zO8 (pkB s pos)) [],true,pos+1):=by unfold zAB;rw[if_neg e1,if_neg e2,if_neg e3]
  have hr:zCS P s pos=tmL 2 (zO8 (pkB s pos)):=by unfold zCS;rw[if_neg e1,if_neg e2,if_neg e3]
  rw[hr,hres]at h;rw[hres];exact h.leaf
theorem zK7{P:Nat->PR}{s:ByteArray}{pos:Nat}(hp:pos<=s.size)(hP:pos+1<=s.size->(P (pos+1)).2.2<=s.size/\pos+1<=(P (pos+1)).2.2):(zAB P s pos).2.2<=s.size/\pos<=(zAB P s pos).2.2/\((zAB P s pos).2.1=true->pos+1<=(zAB P s pos).2.2):=by
 unfold zAB;by_cases e1:zGx (pkB s pos)=false
 ·rw[if_pos e1];exact⟨hp,Qy _,fun h=>by cases h⟩
 have hlt:pos+1<=s.size:=by
  refine zA3 (b:=pkB s pos) hp (fun h0=>?_) rfl;rw[h0]at e1;exact e1 (by decide)
 obtain⟨h1,h2⟩:=hP hlt;rw[if_neg e1];by_cases e2:pkB s pos=49
 ·rw[if_pos e2];simp only;omega
 rw[if_neg e2];by_cases e3:pkB s pos=40
 ·rw[if_pos e3];by_cases e4:(P (pos+1)).2.1=false
  ·rw[if_pos e4];exact⟨h1,by simp only;omega,fun h=>by cases h⟩
  rw[if_neg e4];by_cases e5:pkB s (P (pos+1)).2.2=41
  ·have:=zA3 h1 (by omega) e5;rw[if_pos e5];simp only;omega
  ·rw[if_neg e5];exact⟨h1,by simp only;omega,fun h=>by cases h⟩
 ·rw[if_neg e3];simp only;omega
def tmO(t:Tm):AObj:=.box 71 [.t 2 (.int .i64 t.op),.t 2 (.int .i64 t.n),.t 2 (.sl 3 (cellsL t.args))]
def zeO:AObj:=.box 71 [.t 2 (.int .i64 0),.t 2 (.int .i64 0),.t 2 (.sl 0 [])]
def zI2(P:Nat->PR)(s:ByteArray)(pos:Nat):AV:=if(zj P s pos).2.1=false then tmL 0 0 else tmV 2 (zj P s pos).1
theorem zDt(s:ByteArray)(f pos:Nat)(t:Tm):expsP s (f+1) pos t=(if pkB s pos=94 then
   (
    if(zBr s (pos+1)).2.1=false then(.zero,false,(zBr s (pos+1)).2.2)
    else expsP s f (zAU s (zBr s (pos+1)).2.2) (.mk 4 (zBr s (pos+1)).1 [t]))
  else(t,true,pos)):=rfl
theorem zFc{s:ByteArray}: ∀f g pos t,pos<=s.size->s.size-pos<f->s.size-pos<g->expsP s f pos t=expsP s g pos t
 |0,g,pos,t,hp,hf,hg=>by omega
 |f+1,0,pos,t,hp,hf,hg=>by omega
 |f+1,g+1,pos,t,hp,hf,hg=>by
  unfold expsP;by_cases e1:pkB s pos=94
  ·have h1:=zA3 hp (by omega) e1;have h2:=zJj (s:=s) (pos:=pos+1) (by omega);have h3:=zBH h2.1;rw[if_pos e1,if_pos e1];by_cases e2:(zBr s (pos+1)).2.1=false
   ·rw[if_pos e2,if_pos e2]
   ·rw[if_neg e2,if_neg e2];exact zFc f g _ _ h3.1 (by omega) (by omega)
  ·rw[if_neg e1,if_neg e1]
theorem zLv(P:Nat->PR)(s:ByteArray)(pos:Nat)(hp:pos<=s.size)(hs:s.size<=1000000)(hle:(zAB P s pos).2.2<=s.size)
  (hA:FnS Tryz.prog 174 [.ptr 0 0 2] [prO s pos] (.tup [tmV 2 (zAB P s pos).1,.t 2 (.bool (zAB P s pos).2.1)]) [prO s (zAB P s pos).2.2]):
  FnS Tryz.prog 143 [.ptr 0 0 2] [prO s pos] (.tup [zI2 P s pos,.t 2 (.bool (zj P s pos).2.1)]) [prO s (zj P s pos).2.2]:=by
 refine fI 35 #[.cell 2 71,.tmp 3] Tryz.func143 rfl ?_;have hat:zj P s pos=(if(zAB P s pos).2.1=false then(.zero,false,(zAB P s pos).2.2)else expsP s (s.size+1-zAU s (zAB P s pos).2.2) (zAU s (zAB P s pos).2.2) (zAB P s pos).1):=rfl;unfold zI2;rw[hat];generalize zAB P s pos=q at hA hle ⊢;obtain⟨u,b,pe⟩:=q;simp only at hA hle ⊢;refine rg0 ?_;refine zF fun K hK=>?_
 simp(maxSteps:=2000000)(disch:=omega)
 (repeat' apply And.intro)
 all_goals (try omega)
 refine zD (caps:=[]) (hA) [0] [0] 1 rfl rfl rfl rfl (by kernel_rfl) (by simp) ?_ ?_ (by simp) rfl (by simp) ⟨.inr ⟨rfl,0,_,_,_,_,_,rfl,rfl,(by first|rfl|simp[prO]),rfl,(by first|rfl|simp[prO])⟩,trivial⟩ (by simp[prO]) ?_
 ·simp[prO]
 ·simp[scal,prO]
 simp(maxSteps:=2000000)(disch:=omega)[scal,prO,tmV];and_intros<;>try first|apply hK|omega|rfl|simp<;>omega
 refine zA ?_;refine rg0 ?_
 cases b with
 |false=>
  refine cT0 ?_;refine rg1 @zAF ?_;refine zC ?_;rw[if_pos rfl];simp only[if_true];unfold tmL;exact zCx (an @prO.eq_1 @zAF)
 |true=>
  simp only[Bool.true_eq_false,↓reduceIte];refine cS0 ?_;have h2:=zDO s pe hle hs;have hsk:=(zBH hle).1;generalize zAU s pe=p0 at h2 hsk ⊢;refine zA ?_;refine zF fun K hK=>?_
  simp(maxSteps:=2000000)(disch:=omega)
  (repeat' apply And.intro)
  all_goals (try omega)
  refine zD (caps:=[]) (h2) [0] [0] 1 rfl rfl rfl rfl (by kernel_rfl) (by simp) ?_ ?_ (by simp) rfl (by simp) ⟨.inr ⟨rfl,0,_,_,_,_,_,rfl,rfl,(by first|rfl|simp[prO]),rfl,(by first|rfl|simp[prO])⟩,trivial⟩ (by simp[prO]) ?_
  ·simp
  ·simp[scal,prO]
  simp(maxSteps:=2000000)(disch:=omega)[scal,prO];and_intros<;>try first|apply hK|omega|rfl|simp<;>omega
  refine zB ?_;refine awp_loop (fun q:Nat×Tm=>mkS [(0,.ptr 0 0 2),(2,.ptr 1 0 3),(4,.ptr 2 0 3)] [(0,prO s q.1),(1,zeO),(2,tmO q.2)] 3 35 [.ptr 0 0 2]) (fun q=>q.1<=s.size/\expsP s (s.size+1-q.1) q.1 q.2=expsP s (s.size+1-p0) p0 u) (fun q=>s.size-q.1) ?_ ?_
  ·refine⟨(p0,u),⟨hsk,rfl⟩,?_⟩;exact kw1 [(0,some 0),(1,some 1),(2,some 7000001)] (an @prO.eq_1 (an @zeO.eq_1 (an @tmO.eq_1 @zAF)))
  rintro⟨q,v⟩ ⟨hq,hex⟩;simp only at hq hex;rw[←hex];rw[show s.size+1-q=(s.size-q)+1 by omega,zDt s (s.size-q) q v];refine zA ?_;by_cases e1:pkB s q=94
  case neg=>
   have h3:=zAd hq hs (by omega) e1;rw[if_neg e1];refine zF fun K hK=>?_
   simp(maxSteps:=2000000)(disch:=omega)[prO,zeO,tmO]
   (repeat' apply And.intro)
   all_goals (try omega)
   refine zD (caps:=[]) (h3) [0] [0] 1 rfl rfl rfl rfl (by kernel_rfl) (by simp) ?_ ?_ (by simp) rfl (by simp) ⟨.inr ⟨rfl,0,_,_,_,_,_,rfl,rfl,(by first|rfl|simp[prO]),rfl,(by first|rfl|simp[prO])⟩,trivial⟩ (by simp[prO]) ?_
   ·simp[scal]
   ·simp[scal,prO]
   simp(maxSteps:=2000000)(disch:=omega)[scal,prO]
   (repeat' first|apply hK|apply And.intro)<;>try first|omega|rfl|(simp<;>omega)
   refine cF0 ?_;refine zE ?_;refine rg1 (an @prO.eq_1 (an @zeO.eq_1 (an @tmO.eq_1 @zAF))) ?_;refine zC ?_;simp only[Bool.true_eq_false,↓reduceIte];exact zCx (an @prO.eq_1 (an @zeO.eq_1 (an @tmO.eq_1 (an @zAF @tmV.eq_1))))
  obtain⟨hp1,h3⟩:=zAM hq hs (by omega) e1;have h4:=zIr s (q+1) hp1 hs;have hl4:=zJj hp1;rw[if_pos e1];generalize zBr s (q+1)=x at h4 hl4 ⊢;obtain⟨n,b,pe'⟩:=x;simp only at h4 hl4 ⊢;refine zF fun K hK=>?_
  simp(maxSteps:=2000000)(disch:=omega)[prO,zeO,tmO]
  (repeat' apply And.intro)
  all_goals (try omega)
  refine zD (caps:=[]) (h3) [0] [0] 1 rfl rfl rfl rfl (by kernel_rfl) (by simp) ?_ ?_ (by simp) rfl (by simp) ⟨.inr ⟨rfl,0,_,_,_,_,_,rfl,rfl,(by first|rfl|simp[prO]),rfl,(by first|rfl|simp[prO])⟩,trivial⟩ (by simp[prO]) ?_
  ·simp[scal]
  ·simp[scal,prO]
  simp(maxSteps:=2000000)(disch:=omega)[scal,prO]
  (repeat' first|apply hK|apply And.intro)<;>try first|omega|rfl|(simp<;>omega)
  refine cK0 ?_;refine zA ?_;refine zB ?_;refine zF fun K hK=>?_
  simp(maxSteps:=2000000)(disch:=omega)
  (repeat' apply And.intro)
  all_goals (try omega)
  refine zD (caps:=[]) (h4) [0] [0] 1 rfl rfl rfl rfl (by kernel_rfl) (by simp) ?_ ?_ (by simp) rfl (by simp) ⟨.inr ⟨rfl,0,_,_,_,_,_,rfl,rfl,(by first|rfl|simp[prO]),rfl,(by first|rfl|simp[prO])⟩,trivial⟩ (by simp[prO]) ?_
  ·simp
  ·simp[scal,prO]
  simp(maxSteps:=2000000)(disch:=omega)[scal,prO];and_intros<;>try first|apply hK|omega|rfl|simp<;>omega
  refine zA ?_;refine rg1 (an @prO.eq_1 (an @zeO.eq_1 @tmO.eq_1)) ?_
  cases b with
  |false=>
   refine cT0 ?_;refine rg1 (an @prO.eq_1 (an @zeO.eq_1 (an @tmO.eq_1 @zAF))) ?_;refine zC ?_;simp only[↓reduceIte];unfold tmL;exact zCx (an @prO.eq_1 (an @zeO.eq_1 (an @tmO.eq_1 (an @zAF @tmV.eq_1))))
  |true=>
   have h5:=zDO s pe' hl4.1 hs;have hs5:=zBH hl4.1;refine cS0 ?_;refine rr1 (an @prO.eq_1 (an @zeO.eq_1 (an @tmO.eq_1 @zAF))) ?_;refine zAT fun K hK=>?_
   simp(maxSteps:=2000000)(disch:=omega)
   (repeat' apply And.intro)
   all_goals (try omega)
   refine zD (caps:=[]) (h5) [0] [0] 1 rfl rfl rfl rfl (by kernel_rfl) (by simp) ?_ ?_ (by simp) rfl (by simp) ⟨.inr ⟨rfl,0,_,_,_,_,_,rfl,rfl,(by first|rfl|simp[prO]),rfl,(by first|rfl|simp[prO])⟩,trivial⟩ (by simp[prO]) ?_
   ·simp
   ·simp[scal,prO]
   simp(maxSteps:=2000000)(disch:=omega)[scal,prO]
   (repeat' first|apply hK|apply And.intro)<;>try first|omega|rfl|(simp<;>omega)
   refine⟨(zAU s pe',.mk 4 n [v]),⟨hs5.1,?_⟩,by simp only;omega,?_⟩
   ·simp only[Bool.true_eq_false,↓reduceIte];exact zFc (s.size+1-zAU s pe') (s.size-q) (zAU s pe') (.mk 4 n [v]) hs5.1 (by omega) (by omega)
   refine zH [(0,some 0),(1,some 1),(2,some 2)] rfl ?_ ?_ ?_ ?_
   all_goals try simp[prO,zeO,tmO,Tm.op,Tm.n,Tm.args,cellsL,Tm.zAq]
theorem zMc(P:Nat->PR)(s:ByteArray)(pos:Nat)(hp:pos<=s.size)(hs:s.size<=1000000)(hle:(zAB P s pos).2.2<=s.size)
  (hA:FnS Tryz.prog 174 [.ptr 0 0 2] [prO s pos] (.tup [tmV 2 (zAB P s pos).1,.t 2 (.bool (zAB P s pos).2.1)]) [prO s (zAB P s pos).2.2])
  (hz:(zj P s pos).2.1=false->(zj P s pos).1= .zero):
  FnS Tryz.prog 143 [.ptr 0 0 2] [prO s pos] (.tup [tmV 2 (zj P s pos).1,.t 2 (.bool (zj P s pos).2.1)]) [prO s (zj P s pos).2.2]:=by
 refine FnS.zTK (zLv P s pos hp hs hle hA) (fun E v h=>?_);unfold zI2 at h;by_cases e:(zj P s pos).2.1=false
 ·rw[if_pos e]at h;rw[hz e];exact h.leaf
 ·rw[if_neg e]at h;exact h
theorem zFv{s:ByteArray}: ∀f pos t,(expsP s f pos t).2.1=false->(expsP s f pos t).1= .zero
 |0,pos,t,h=>by cases h
 |f+1,pos,t,h=>by
  rw[zDt]at h ⊢;by_cases e1:pkB s pos=94
  ·rw[if_pos e1]at h ⊢;by_cases e2:(zBr s (pos+1)).2.1=false
   ·rw[if_pos e2]
   ·rw[if_neg e2]at h ⊢;exact zFv f _ _ h
  ·rw[if_neg e1]at h
   cases h
theorem zKR{s:ByteArray}: ∀f pos t,pos<=s.size->(expsP s f pos t).2.2<=s.size/\pos<=(expsP s f pos t).2.2
 |0,pos,t,hp=>⟨hp,Qy _⟩
 |f+1,pos,t,hp=>by
  rw[zDt];by_cases e1:pkB s pos=94
  ·have h1:=zA3 hp (by omega) e1;have h2:=zJj (s:=s) (pos:=pos+1) (by omega);have h3:=zBH h2.1;rw[if_pos e1];by_cases e2:(zBr s (pos+1)).2.1=false
   ·rw[if_pos e2];exact⟨h2.1,by simp only;omega⟩
   ·rw[if_neg e2];have h4:=zKR f (zAU s (zBr s (pos+1)).2.2) (.mk 4 (zBr s (pos+1)).1 [t]) h3.1;exact⟨h4.1,by omega⟩
  ·rw[if_neg e1];exact⟨hp,Qy _⟩
theorem zHJ{P:Nat->PR}{s:ByteArray}{pos:Nat}(h:(zj P s pos).2.1=false):(zj P s pos).1= .zero:=by
 unfold zj at h ⊢;by_cases e:(zAB P s pos).2.1=false
 ·rw[if_pos e]
 ·rw[if_neg e]at h ⊢;exact zFv _ _ _ h
theorem zDh{P:Nat->PR}{s:ByteArray}{pos:Nat}(hp:pos<=s.size)(hP:pos+1<=s.size->(P (pos+1)).2.2<=s.size/\pos+1<=(P (pos+1)).2.2):(zj P s pos).2.2<=s.size/\pos<=(zj P s pos).2.2/\((zj P s pos).2.1=true->pos+1<=(zj P s pos).2.2):=by
 obtain⟨h1,h2,h3⟩:=zK7 hp hP;unfold zj;by_cases e:(zAB P s pos).2.1=false
 ·rw[if_pos e];exact⟨h1,h2,fun h=>by cases h⟩
 ·rw[if_neg e];have h4:=zBH h1;have h5:=zKR (s.size+1-zAU s (zAB P s pos).2.2) (zAU s (zAB P s pos).2.2) (zAB P s pos).1 h4.1;have h6:=h3 (by simpa using e);exact⟨h5.1,by omega,fun _=>by omega⟩
def zPz(P:Nat->PR)(s:ByteArray)(lo:Nat):Prop:=∀q,lo<=q->q<=s.size->(P q).2.2<=s.size/\q<=(P q).2.2
theorem zBX(P:Nat->PR)(s:ByteArray)(f pos:Nat)(acc:List Tm):zBR P s (f+1) pos acc=(if acc.length=0\/zGx (pkB s pos)=true then
   (
    if(zj P s pos).2.1=false then(.zero,false,(zj P s pos).2.2)
    else zBR P s f (zAU s (zj P s pos).2.2) (acc++[(zj P s pos).1]))
  else(if acc.length=1 then acc.getD 0 .zero else .mk 3 0 acc,true,pos)):=rfl
theorem zE2{P:Nat->PR}{s:ByteArray}{lo:Nat}(hP:zPz P s lo): ∀f g pos acc,lo<=pos+1->pos<=s.size->s.size-pos<f->s.size-pos<g->zBR P s f pos acc=zBR P s g pos acc
 |0,g,pos,acc,hl,hp,hf,hg=>by omega
 |f+1,0,pos,acc,hl,hp,hf,hg=>by omega
 |f+1,g+1,pos,acc,hl,hp,hf,hg=>by
  rw[zBX,zBX];by_cases e1:acc.length=0\/zGx (pkB s pos)=true
  ·rw[if_pos e1,if_pos e1];obtain⟨h1,h2,h3⟩:=zDh hp (P:=P) (fun h=>hP (pos+1) hl h);by_cases e2:(zj P s pos).2.1=false
   ·rw[if_pos e2,if_pos e2]
   ·rw[if_neg e2,if_neg e2];have h4:=h3 (by simpa using e2);have h5:=zBH h1;exact zE2 hP f g _ _ (by omega) h5.1 (by omega) (by omega)
  ·rw[if_neg e1,if_neg e1]
theorem zH9{P:Nat->PR}{s:ByteArray}{lo:Nat}(hP:zPz P s lo): ∀f pos acc,lo<=pos+1->pos<=s.size->(zBR P s f pos acc).2.2<=s.size/\pos<=(zBR P s f pos acc).2.2
 |0,pos,acc,hl,hp=>⟨hp,Qy _⟩
 |f+1,pos,acc,hl,hp=>by
  rw[zBX];by_cases e1:acc.length=0\/zGx (pkB s pos)=true
  ·rw[if_pos e1];obtain⟨h1,h2,h3⟩:=zDh hp (P:=P) (fun h=>hP (pos+1) hl h);by_cases e2:(zj P s pos).2.1=false
   ·rw[if_pos e2];exact⟨h1,h2⟩
   ·rw[if_neg e2];have h5:=zBH h1;have:=zH9 hP f _ (acc++[(zj P s pos).1]) (by omega) h5.1;exact⟨this.1,by omega⟩
  ·rw[if_neg e1];exact⟨hp,Qy _⟩
theorem zE6{P:Nat->PR}{s:ByteArray}: ∀f pos acc,(zBR P s f pos acc).2.1=false->(zBR P s f pos acc).1= .zero
 |0,pos,acc,h=>rfl
 |f+1,pos,acc,h=>by
  rw[zBX]at h ⊢;by_cases e1:acc.length=0\/zGx (pkB s pos)=true
  ·rw[if_pos e1]at h ⊢;by_cases e2:(zj P s pos).2.1=false
   ·rw[if_pos e2]
   ·rw[if_neg e2]at h ⊢;exact zE6 f _ _ h
  ·rw[if_neg e1]at h;cases h
theorem zDp(s:ByteArray)(f pos:Nat):zAX s (f+1) pos=zBR (zAX s f) s (s.size+2-zAU s pos) (zAU s pos) []:=rfl
theorem zCz{s:ByteArray}: ∀f pos,pos<=s.size->(zAX s f pos).2.2<=s.size/\pos<=(zAX s f pos).2.2
 |0,pos,hp=>⟨hp,Qy _⟩
 |f+1,pos,hp=>by
  rw[zDp];have h5:=zBH hp;have:=zH9 (P:=zAX s f) (s:=s) (lo:=0) (fun q _ hq=>zCz f q hq) (s.size+2-zAU s pos) (zAU s pos) [] (by omega) h5.1;exact⟨this.1,by omega⟩
theorem zLh{s:ByteArray}: ∀f pos,(zAX s f pos).2.1=false->(zAX s f pos).1= .zero
 |0,pos,h=>rfl
 |f+1,pos,h=>by
  rw[zDp]at h ⊢;exact zE6 _ _ _ h
def fsO(acc:List Tm):AObj:=.row 71 3 2 (cellsL acc)
def zMh(x:PR):AV:=if x.2.1=false then tmL 0 0 else tmV 2 x.1
theorem zOy(P:Nat->PR)(s:ByteArray)(pos:Nat)(hp:pos<=s.size)(hs:s.size<=100000)(hP:zPz P s (pos+1))
  (hF: ∀q,pos<=q->q<=s.size->FnS Tryz.prog 143 [.ptr 0 0 2] [prO s q] (.tup [tmV 2 (zj P s q).1,.t 2 (.bool (zj P s q).2.1)]) [prO s (zj P s q).2.2]):
  FnS Tryz.prog 90 [.ptr 0 0 2] [prO s pos] (.tup [zMh (zBR P s (s.size+2-zAU s pos) (zAU s pos) []),.t 2 (.bool (zBR P s (s.size+2-zAU s pos) (zAU s pos) []).2.1)]) [prO s (zBR P s (s.size+2-zAU s pos) (zAU s pos) []).2.2]:=by
 have h1:=zDO s pos hp (by omega);have hsk:=zBH hp;generalize zAU s pos=p0 at h1 hsk ⊢;refine fI 39 #[.cell 2 71,.tmp 3] Tryz.func90 rfl ?_;refine rg1 @prO.eq_1 ?_;refine rg1 @prO.eq_1 ?_;refine zA ?_;refine zF fun K hK=>?_
 simp(maxSteps:=2000000)(disch:=omega)
 (repeat' apply And.intro)
 all_goals (try omega)
 refine zD (caps:=[]) (h1) [0] [0] 1 rfl rfl rfl rfl (by kernel_rfl) (by simp) ?_ ?_ (by simp) rfl (by simp) ⟨.inr ⟨rfl,0,_,_,_,_,_,rfl,rfl,(by first|rfl|simp[prO]),rfl,(by first|rfl|simp[prO])⟩,trivial⟩ (by simp[prO]) ?_
 ·simp
 ·simp[scal,prO]
 simp(maxSteps:=2000000)(disch:=omega)[scal,prO];and_intros<;>try first|apply hK|omega|rfl|simp<;>omega
 refine zB ?_;refine awp_loop (fun y:Nat×List Tm=>mkS [(0,.ptr 0 0 2),(2,.ptr 1 0 3),(4,.own 2 (y.2.length*3))] [(0,prO s y.1),(1,zeO),(2,fsO y.2)] 3 39 [.ptr 0 0 2]) (fun y=>pos<=y.1/\y.1<=s.size/\y.2.length<=y.1/\zBR P s (s.size+2-y.1) y.1 y.2=zBR P s (s.size+2-p0) p0 []) (fun y=>s.size-y.1) ?_ ?_
 ·refine⟨(p0,[]),⟨hsk.2,hsk.1,by simp,rfl⟩,?_⟩;refine zH [(0,some 0),(1,some 1),(2,none)] rfl ?_ ?_ ?_ ?_
  all_goals try simp[prO,zeO,fsO,cellsL]
 rintro⟨q,acc⟩ ⟨hq0,hq,hacc,hex⟩;simp only at hq0 hq hacc hex;rw[←hex];rw[show s.size+2-q=(s.size-q+1)+1 by omega,zBX P s (s.size-q+1) q acc];refine zA ?_;refine zA (zB5 (Q:=fun e σ=>e=Exit.normal/\Wk σ (mkS [(0,.ptr 0 0 2),(2,.ptr 1 0 3),(4,.own 2 (acc.length*3)),(16,.t 2 (.bool (decide (acc.length=0\/zGx (pkB s q)=true))))] [(0,prO s q),(1,zeO),(2,fsO acc)] 3 39 [.ptr 0 0 2])) ?_ ?_)
 ·by_cases e0:acc.length=0
  ·refine zAT fun K hK=>?_
   simp(maxSteps:=2000000)(disch:=omega)[prO,zeO,fsO,e0]
   (repeat' first|apply hK|apply And.intro)<;>try first|omega|rfl|(simp<;>omega)
   refine zH [(0,some 0),(1,some 1),(2,some 2)] rfl ?_ ?_ ?_ ?_
   all_goals try simp[prO,zeO,fsO,e0]
  ·have h2:=zGF s q hq (by omega);have h3:=zHh (zDm s q).1 (zDm s q).2;have e0':((acc.length:Int)==0)=false:=by simpa using e0
   refine zAT fun K hK=>?_
   simp(maxSteps:=2000000)(disch:=omega)[prO,zeO,fsO,e0']
   (repeat' apply And.intro)
   all_goals (try omega)
   refine zD (caps:=[]) (h2) [0] [0] 1 (by simp) rfl rfl rfl (by kernel_rfl) (by simp) ?_ ?_ (by simp) rfl (by simp) ⟨.inr ⟨rfl,0,_,_,_,_,_,rfl,rfl,(by first|rfl|simp[prO,zeO,fsO,e0,e0']),rfl,(by first|rfl|simp[prO,zeO,fsO,e0,e0'])⟩,trivial⟩ (by simp[prO]) ?_
   ·simp
   ·simp[scal,prO]
   simp(maxSteps:=2000000)(disch:=omega)[scal,prO]
   (repeat' apply And.intro)
   all_goals (try omega)
   refine zD (caps:=[]) (h3) [] [] 2 (by simp) rfl rfl rfl (by kernel_rfl) (by simp) ?_ trivial trivial rfl trivial trivial (by simp) ?_
   ·simp[scal]
   simp(maxSteps:=2000000)(disch:=omega)[scal]
   (repeat' first|apply hK|apply And.intro)<;>try first|omega|rfl|(simp<;>omega)
   exact kw1 [(0,some 0),(1,some 1),(2,some 2)] (an @prO.eq_1 (an @zeO.eq_1 (an @fsO.eq_1 @e0)))
 rintro e σ ⟨rfl,hw⟩;refine zS hw ?_;clear hw;by_cases e1:acc.length=0\/zGx (pkB s q)=true
 case neg=>
  rw[if_neg e1,decide_eq_false e1];refine cF0 ?_;refine zE ?_;refine zA ?_;by_cases e2:acc.length=1
  ·obtain⟨a,rfl⟩: ∃a,acc=[a]:=by
    match acc,e2 with
    |[a],_=>exact⟨a,rfl⟩
   refine rg1 (an @prO.eq_1 (an @zeO.eq_1 @fsO.eq_1)) ?_;refine cT0 ?_;refine zF fun K hK=>?_
   simp(maxSteps:=2000000)(disch:=omega)[cellsL,Tm.zAq];and_intros<;>try first|apply hK|omega|rfl|simp<;>omega
   refine zC ?_;unfold zMh;exact zCx (an @prO.eq_1 (an @zeO.eq_1 (an @fsO.eq_1 (an @zAF @tmV.eq_1))))
  ·have e2':((acc.length:Int)==1)=false:=by simp;omega
   refine rg1 (an @prO.eq_1 (an @zeO.eq_1 (an @fsO.eq_1 (an @e2 @e2')))) ?_;refine cS0 ?_;refine rg1 (an @prO.eq_1 (an @zeO.eq_1 (an @fsO.eq_1 @zAF))) ?_;refine zC ?_;unfold zMh;rw[if_neg e2];refine⟨⟨.inr rfl,_,[(0,some 0)],(by first|rfl|(simp[ints,rows,scal,prO,zeO,fsO,zAF,tmV,Tm.op,Tm.n,Tm.args];rfl)),?_,?_,?_,?_⟩,?_⟩
   all_goals try simp[prO,zAF,tmV,Tm.op,Tm.n,Tm.args]
 rw[if_pos e1,decide_eq_true e1];have h4:=hF q hq0 hq;obtain⟨hl1,hl2,hl3⟩:=zDh hq (P:=P) (fun h=>hP (q+1) (by omega) h);generalize zj P s q=x at h4 hl1 hl2 hl3 ⊢;obtain⟨u,b,pe⟩:=x;simp only at h4 hl1 hl2 hl3 ⊢;refine cK0 ?_;refine zA ?_;refine zB ?_;refine zF fun K hK=>?_
 simp(maxSteps:=2000000)(disch:=omega)[prO,zeO,fsO]
 (repeat' apply And.intro)
 all_goals (try omega)
 refine zD (caps:=[]) (h4) [0] [0] 1 rfl rfl rfl rfl (by kernel_rfl) (by simp) ?_ ?_ (by simp) rfl (by simp) ⟨.inr ⟨rfl,0,_,_,_,_,_,rfl,rfl,(by first|rfl|simp[prO]),rfl,(by first|rfl|simp[prO])⟩,trivial⟩ (by simp[prO]) ?_
 ·simp
 ·simp[scal,prO]
 simp(maxSteps:=2000000)(disch:=omega)[scal,prO,tmV];and_intros<;>try first|apply hK|omega|rfl|simp<;>omega
 refine zA ?_;refine rg1 (an @prO.eq_1 (an @zeO.eq_1 @fsO.eq_1)) ?_
 cases b with
 |false=>
  refine cT0 ?_;refine rg1 (an @prO.eq_1 (an @zeO.eq_1 (an @fsO.eq_1 @zAF))) ?_;refine zC ?_;unfold zMh;simp only[↓reduceIte];unfold tmL;exact zCx (an @prO.eq_1 (an @zeO.eq_1 (an @fsO.eq_1 (an @zAF @tmV.eq_1))))
 |true=>
  have hl4:=hl3 rfl;have h5:=zDO s pe hl1 (by omega);have hs5:=zBH hl1;refine cS0 ?_;refine rr1 (an @prO.eq_1 (an @zeO.eq_1 (an @fsO.eq_1 @zAF))) ?_;refine zAT fun K hK=>?_
  simp(maxSteps:=2000000)(disch:=omega)
  (repeat' apply And.intro)
  all_goals (try omega)
  refine zD (caps:=[]) (h5) [0] [0] 1 rfl rfl rfl rfl (by kernel_rfl) (by simp) ?_ ?_ (by simp) rfl (by simp) ⟨.inr ⟨rfl,0,_,_,_,_,_,rfl,rfl,(by first|rfl|simp[prO]),rfl,(by first|rfl|simp[prO])⟩,trivial⟩ (by simp[prO]) ?_
  ·simp
  ·simp[scal,prO]
  simp(maxSteps:=2000000)(disch:=omega)[scal,prO]
  (repeat' first|apply hK|apply And.intro)<;>try first|omega|rfl|(simp<;>omega)
  refine⟨(zAU s pe,acc++[u]),⟨by simp only;omega,hs5.1,by simp;omega,?_⟩,by simp only;omega,?_⟩
  ·simp only[Bool.true_eq_false,↓reduceIte];exact zE2 hP _ _ _ _ (by omega) hs5.1 (by omega) (by omega)
  refine zH [(0,some 0),(1,some 1),(2,some 2)] rfl ?_ ?_ ?_ ?_
  all_goals try simp[prO,zeO,fsO,zFu,cellsL,Tm.zAq]
  omega
theorem zI9(s:ByteArray)(hs:s.size<=100000): ∀f pos,pos<=s.size->s.size-pos<f->FnS Tryz.prog 90 [.ptr 0 0 2] [prO s pos] (.tup [tmV 2 (zAX s f pos).1,.t 2 (.bool (zAX s f pos).2.1)]) [prO s (zAX s f pos).2.2]
 |0,pos,hp,hf=>by omega
 |f+1,pos,hp,hf=>by
  have hP:zPz (zAX s f) s (pos+1):=fun q _ hq=>zCz f q hq
  refine FnS.zTK (zOy (zAX s f) s pos hp hs hP (fun q h1 h2=>?_)) (fun E v h=>?_)
  ·have hA:=zRV (zAX s f) s q h2 (by omega) (fun h3=>⟨(zCz f (q+1) h3).1,zI9 s hs f (q+1) h3 (by omega)⟩);exact zMc (zAX s f) s q h2 (by omega) (zK7 h2 (fun h3=>zCz f (q+1) h3)).1 hA zHJ
  ·rw[←zDp]at h;unfold zMh at h;by_cases e:(zAX s (f+1) pos).2.1=false
   ·rw[if_pos e]at h;rw[zLh _ _ e];exact h.leaf
   ·rw[if_neg e]at h;exact h
def ups:List AV->List AV->Prop
 |[],[]=>True
 |a::aS',b::bs=>(∀E v,VR E v a->VR E v b)/\ups aS' bs
 |_,_=>False
theorem zJZ: ∀{l r:List AV},ups l r->l.length=r.length
 |[],[],_=>rfl
 |a::l,b::r,h=>by simp[zJZ h.2]
theorem zJY: ∀{l r:List AV} (_:ups l r) (i:Nat) (b:AV),r[i]? =some b-> ∃a,l[i]? =some a/\ ∀E v,VR E v a->VR E v b
 |[],[],_,i,b,hi=>by simp at hi
 |a::l,b::r,h,0,c,hi=>by simp at hi;subst hi;exact⟨a,rfl,h.1⟩
 |a::l,b::r,h,i+1,c,hi=>by simpa using zJY h.2 i c (by simpa using hi)
theorem VR.upT{E:Ev}{v:Value}{l r:List AV}(h:VR E v (.tup l))(hu:ups l r):VR E v (.tup r):=by
 cases h with
 |tup vs cs hn hr=>
  refine .tup vs _ (hn.trans (zJZ hu)) (fun i c hi=>?_);obtain⟨a,ha,hf⟩:=zJY hu i c hi;exact hf _ _ (hr i a ha)
theorem VR.upA{E:Ev}{v:Value}{l r:List AV}(h:VR E v (.agg l))(hu:ups l r):VR E v (.agg r):=by
 cases h with
 |agg vs cs hn h1 hr=>
  refine .agg vs _ (hn.trans (zJZ hu)) h1 (fun i c hi=>?_);obtain⟨a,ha,hf⟩:=zJY hu i c hi;exact hf _ _ (hr i a ha)
theorem VR.zVB{E:Ev}{v:Value}{p:Nat}(z:Nat)(h:VR E v (.t p (.sl 0 []))):VR E v (.t p (.sl z [])):=by
 rw[zE1 h];exact .t _ _ _ (.nil z)
def zSh:AV:=.agg [.t 2 (.int .i64 0),.t 2 (.int .i64 0),.t 2 (.sl 0 []),.t 2 (.int .i64 0),.t 2 (.int .i64 0),.t 2 (.sl 0 [])]
theorem VR.zeI{E:Ev}{v:Value}(h:VR E v zSh):VR E v (idV 2 .zero .zero):=
 VR.upA h ⟨fun _ _ h=>h,fun _ _ h=>h,fun _ _ h=>h.zVB 3,fun _ _ h=>h,fun _ _ h=>h,fun _ _ h=>h.zVB 3,trivial⟩
def zL3(s:ByteArray):Tm×Tm×Int×Int:=
 if 1000<s.size then(.zero,.zero,0,21)
 else if(zAX s (s.size+1) 0).2.1=false\/pkB s (zAX s (s.size+1) 0).2.2≠61 then(.zero,.zero,((zAX s (s.size+1) 0).2.2:Int),2)
 else if(zAX s (s.size+1) ((zAX s (s.size+1) 0).2.2+1)).2.1=false\/(zAX s (s.size+1) ((zAX s (s.size+1) 0).2.2+1)).2.2<s.size then(.zero,.zero,((zAX s (s.size+1) ((zAX s (s.size+1) 0).2.2+1)).2.2:Int),2)
 else if(zAX s (s.size+1) 0).1.val=true/\(zAX s (s.size+1) ((zAX s (s.size+1) 0).2.2+1)).1.val=true then((zAX s (s.size+1) 0).1,(zAX s (s.size+1) ((zAX s (s.size+1) 0).2.2+1)).1,-1,0)else(.zero,.zero,0,21)
def zVW(x:Tm×Tm×Int×Int):AV:=.tup [idV 2 x.1 x.2.1,.t 2 (.int .i64 x.2.2.1),.t 2 (.int .i64 x.2.2.2)]
def zSc(x:Tm×Tm×Int×Int):AV:=.tup [if x.2.2.2=0 then idV 2 x.1 x.2.1 else zSh,.t 2 (.int .i64 x.2.2.1),.t 2 (.int .i64 x.2.2.2)]
def ziO:AObj:=.box 73 [.t 2 (.int .i64 0),.t 2 (.int .i64 0),.t 2 (.sl 0 []),.t 2 (.int .i64 0),.t 2 (.int .i64 0),.t 2 (.sl 0 [])]
theorem zAV(h:73<Tryz.prog.types.size):(Tryz.prog.types[73]'h).size=6:=by rfl
theorem zIy(s:ByteArray)(hs:s.size<=100000):FnA Tryz.prog 52 [.t 2 (.str s)] (zSc (zL3 s)):=by
 have h1:=zI9 s hs (s.size+1) 0 (by omega) (by omega);have hle:=(zCz (s.size+1) 0 (s:=s) (by omega)).1;have h2: ∀p,p<=s.size->(zAX s (s.size+1) p).2.2<=s.size/\FnS Tryz.prog 90 [.ptr 0 0 2] [prO s p] (.tup [tmV 2 (zAX s (s.size+1) p).1,.t 2 (.bool (zAX s (s.size+1) p).2.1)]) [prO s (zAX s (s.size+1) p).2.2]:=fun p hp=>⟨(zCz (s.size+1) p hp).1,zI9 s hs (s.size+1) p hp (by omega)⟩
 unfold zL3;generalize zAX s (s.size+1)=Q at h1 hle h2 ⊢;generalize Q 0=x at h1 hle ⊢;obtain⟨t,b,pe⟩:=x;simp only at h1 hle ⊢;refine fI 56 #[.cell 2 73,.tmp 3,.tmp 4] Tryz.func52 rfl ?_;refine rg0 ?_;refine zA ?_;refine rg0 ?_;by_cases e0:1000<s.size
 ·have e0':(1000:Int)<(s.size:Int):=by omega
  refine cT1 @e0' ?_;refine rg1 @zAV ?_;refine zC ?_;rw[if_pos e0];unfold zSc;simp only[Int.reduceEq,↓reduceIte];unfold zSh;refine⟨⟨.inr rfl,_,[],(by first|rfl|(simp[ints,rows,scal,zAV];rfl)),?_,?_,?_,?_⟩,?_⟩
  all_goals try simp[zAV]
 have e0': ¬(1000:Int)<(s.size:Int):=by omega
 refine cS1 @e0' ?_;refine rg0 ?_;refine zS (σ':=mkS [(0,.t 2 (.str s)),(2,.ptr 1 0 6),(5,.ptr 0 0 2)] [(0,prO s 0),(1,ziO)] 2 56 [.any]) ?_ ?_
 ·exact kw1 [(0,some 8000000),(1,some 0)] (an @prO.eq_1 (an @ziO.eq_1 @zAV))
 refine zF fun K hK=>?_
 simp(maxSteps:=2000000)(disch:=omega)
 (repeat' apply And.intro)
 all_goals (try omega)
 refine zD (caps:=[]) (h1) [0] [0] 1 rfl rfl rfl rfl (by kernel_rfl) (by simp) ?_ ?_ (by simp) rfl (by simp) ⟨.inr ⟨rfl,0,_,_,_,_,_,rfl,rfl,(by first|rfl|simp[prO]),rfl,(by first|rfl|simp[prO])⟩,trivial⟩ (by simp[prO]) ?_
 ·simp[prO]
 ·simp[scal,prO]
 simp(maxSteps:=2000000)(disch:=omega)[scal,prO,ziO,tmV];and_intros<;>try first|apply hK|omega|rfl|simp<;>omega
 refine zA ?_;by_cases e1:b=false\/pkB s pe≠61
 ·refine zA (zB5 (Q:=fun e σ=>e=Exit.normal/\Wk σ (mkS [(2,.ptr 1 0 6),(5,.ptr 0 0 2),(26,.t 2 (.bool true))] [(0,prO s pe),(1,ziO)] 2 56 [.any])) ?_ ?_)
  ·cases b with
   |false=>
    refine zAT fun K hK=>?_
    simp(maxSteps:=2000000)(disch:=omega)
    (repeat' first|apply hK|apply And.intro)<;>try first|omega|rfl|(simp<;>omega)
    refine zH [(0,some 0),(1,some 1)] rfl ?_ ?_ ?_ ?_
    all_goals try simp[prO,ziO]
   |true=>
    have e2:pkB s pe≠61:=by
     rcases e1 with e1|e1
     ·cases e1
     ·exact e1
    have h3:=zAd hle (by omega) (by omega) e2;refine zAT fun K hK=>?_
    simp(maxSteps:=2000000)(disch:=omega)
    (repeat' apply And.intro)
    all_goals (try omega)
    refine zD (caps:=[]) (h3) [0] [0] 1 (by simp) rfl rfl rfl (by kernel_rfl) (by simp) ?_ ?_ (by simp) rfl (by simp) ⟨.inr ⟨rfl,0,_,_,_,_,_,rfl,rfl,(by first|rfl|simp[prO,ziO]),rfl,(by first|rfl|simp[prO,ziO])⟩,trivial⟩ (by simp[prO]) ?_
    ·simp[scal]
    ·simp[scal,prO]
    simp(maxSteps:=2000000)(disch:=omega)[scal,prO]
    (repeat' first|apply hK|apply And.intro)<;>try first|omega|rfl|(simp<;>omega)
    exact kw1 [(0,some 0),(1,some 1)] (an @prO.eq_1 @ziO.eq_1)
  rintro e σ ⟨rfl,hw⟩;refine zS hw ?_;clear hw;refine cT0 ?_;refine rd1 (an @prO.eq_1 (an @ziO.eq_1 @zAV)) ?_;refine zC ?_;rw[if_neg e0,if_pos e1];unfold zSc;simp only[Int.reduceEq,↓reduceIte];unfold zSh;refine⟨⟨.inr rfl,_,[],(by first|rfl|(simp[ints,rows,scal,zAV,ziO,prO];rfl)),?_,?_,?_,?_⟩,?_⟩
  all_goals try simp[zAV]
 obtain⟨rfl,e2⟩:b=true/\pkB s pe=61:=by
  cases b
  ·exact absurd (.inl rfl) e1
  ·exact⟨rfl,Decidable.byContradiction fun h=>e1 (.inr h)⟩
 rw[if_neg e0,if_neg e1];obtain⟨hle1,h3⟩:=zAM hle (by omega) (by omega) e2;obtain⟨hle2,h4⟩:=h2 (pe+1) hle1;clear h2 h1;generalize Q (pe+1)=y at h4 hle2 ⊢;obtain⟨u,b,pf⟩:=y;simp only at h4 hle2 ⊢;refine zF fun K hK=>?_
 simp(maxSteps:=2000000)(disch:=omega)
 (repeat' apply And.intro)
 all_goals (try omega)
 refine zD (caps:=[]) (h3) [0] [0] 1 (by simp) rfl rfl rfl (by kernel_rfl) (by simp) ?_ ?_ (by simp) rfl (by simp) ⟨.inr ⟨rfl,0,_,_,_,_,_,rfl,rfl,(by first|rfl|simp[prO,ziO]),rfl,(by first|rfl|simp[prO,ziO])⟩,trivial⟩ (by simp[prO]) ?_
 ·simp[scal]
 ·simp[scal,prO]
 simp(maxSteps:=2000000)(disch:=omega)[scal,prO]
 (repeat' first|apply hK|apply And.intro)<;>try first|omega|rfl|(simp<;>omega)
 refine cS0 ?_;refine zS (σ':=mkS [(0,.t 2 (.str s)),(2,.ptr 1 0 6),(5,.ptr 0 0 2),(6,.ptr 2 0 3)] [(0,prO s (pe+1)),(1,ziO),(2,tmO t)] 3 56 [.any]) ?_ ?_
 ·exact kw1 [(0,some 0),(1,some 1),(2,some 4000002)] (an @prO.eq_1 (an @ziO.eq_1 (an @tmO.eq_1 @zAF)))
 refine zF fun K hK=>?_
 simp(maxSteps:=2000000)(disch:=omega)[prO,ziO,tmO]
 (repeat' apply And.intro)
 all_goals (try omega)
 refine zD (caps:=[]) (h4) [0] [0] 1 rfl rfl rfl rfl (by kernel_rfl) (by simp) ?_ ?_ (by simp) rfl (by simp) ⟨.inr ⟨rfl,0,_,_,_,_,_,rfl,rfl,(by first|rfl|simp[prO]),rfl,(by first|rfl|simp[prO])⟩,trivial⟩ (by simp[prO]) ?_
 ·simp
 ·simp[scal,prO]
 simp(maxSteps:=2000000)(disch:=omega)[scal,prO,tmV];and_intros<;>try first|apply hK|omega|rfl|simp<;>omega
 refine zS (σ':=mkS [(0,.t 2 (.str s)),(2,.ptr 1 0 6),(5,.ptr 0 0 2),(6,.ptr 2 0 3),(7,.t 2 (.bool b)),(8,.ptr 3 0 3)] [(0,prO s pf),(1,ziO),(2,tmO t),(3,tmO u)] 4 56 [.any]) ?_ ?_
 ·exact kw1 [(0,some 0),(1,some 1),(2,some 2),(3,some 4000003)] (an @prO.eq_1 (an @ziO.eq_1 (an @tmO.eq_1 @zAF)))
 refine zA ?_;by_cases e3:b=false\/pf<s.size
 ·refine zA (zB5 (Q:=fun e σ=>e=Exit.normal/\Wk σ (mkS [(2,.ptr 1 0 6),(5,.ptr 0 0 2),(42,.t 2 (.bool true))] [(0,prO s pf),(1,ziO)] 2 56 [.any])) ?_ ?_)
  ·cases b with
   |false=>
    refine zAT fun K hK=>?_
    simp(maxSteps:=2000000)(disch:=omega)[prO,ziO,tmO]
    (repeat' first|apply hK|apply And.intro)<;>try first|omega|rfl|(simp<;>omega)
    refine zH [(0,some 0),(1,some 1)] rfl ?_ ?_ ?_ ?_
    all_goals try simp[prO,ziO]
   |true=>
    have e4:(pf:Int)<(s.size:Int):=by
     rcases e3 with e3|e3
     ·cases e3
     ·omega
    refine zAT fun K hK=>?_
    simp(maxSteps:=2000000)(disch:=omega)[prO,ziO,tmO,e4]
    (repeat' first|apply hK|apply And.intro)<;>try first|omega|rfl|(simp<;>omega)
    refine zH [(0,some 0),(1,some 1)] rfl ?_ ?_ ?_ ?_
    all_goals try simp[prO,ziO]
  rintro e σ ⟨rfl,hw⟩;refine zS hw ?_;clear hw;refine cT0 ?_;refine rd1 (an @prO.eq_1 (an @ziO.eq_1 @zAV)) ?_;refine zC ?_;rw[if_pos e3];unfold zSc;simp only[Int.reduceEq,↓reduceIte];unfold zSh;refine⟨⟨.inr rfl,_,[],(by first|rfl|(simp[ints,rows,scal,zAV,ziO,prO];rfl)),?_,?_,?_,?_⟩,?_⟩
  all_goals try simp[zAV]
 rw[if_neg e3];obtain⟨rfl,rfl⟩:b=true/\pf=s.size:=by
  cases b
  ·exact absurd (.inl rfl) e3
  ·exact⟨rfl,by omega⟩
 have hv:=zBZ t u;refine rg1 (an @prO.eq_1 (an @ziO.eq_1 @tmO.eq_1)) ?_;refine cS0 ?_;refine rg1 (an @prO.eq_1 (an @ziO.eq_1 (an @tmO.eq_1 (an @zAV @zAF)))) ?_;refine zS (σ':=mkS [(2,.ptr 0 0 6),(9,.ptr 1 0 6)] [(0,ziO),(1,.box 73 [.t 2 (.int .i64 t.op),.t 2 (.int .i64 t.n),.t 2 (.sl 3 (cellsL t.args)),.t 2 (.int .i64 u.op),.t 2 (.int .i64 u.n),.t 2 (.sl 3 (cellsL u.args))])] 2 56 [.any]) ?_ ?_
 ·exact kw1 [(0,some 1),(1,some 12000004)] (an @prO.eq_1 (an @ziO.eq_1 (an @tmO.eq_1 (an @zAV @zAF))))
 refine zA ?_;refine rc1 hv (an @ziO.eq_1 @idV.eq_1) ?_;by_cases e4:t.val=true/\u.val=true
 ·have hvt:vId t u=0:=by unfold vId vTm;rw[if_pos e4.1,if_pos e4.2]
  rw[if_pos e4];refine rg1 @hvt ?_;refine cS0 ?_;refine rg1 (an @ziO.eq_1 @zAV) ?_;refine zC ?_;unfold zSc;simp only[↓reduceIte];unfold idV;refine⟨⟨.inr rfl,_,[],(by first|rfl|(simp[ints,rows,scal,zAV,ziO];rfl)),?_,?_,?_,?_⟩,?_⟩
  all_goals try simp[zAV]
 ·have hvt:vId t u=21:=by
   unfold vId vTm;by_cases h:t.val=true
   ·rw[if_pos h,if_neg (fun h2=>e4 ⟨h,h2⟩)]
   ·rw[if_neg h]
  rw[if_neg e4];refine rg1 @hvt ?_;refine cT0 ?_;refine rg1 (an @ziO.eq_1 (an @zAV @hvt)) ?_;refine zC ?_;unfold zSc;simp only[Int.reduceEq,↓reduceIte];unfold zSh;refine⟨⟨.inr rfl,_,[],(by first|rfl|(simp[ints,rows,scal,zAV,ziO];rfl)),?_,?_,?_,?_⟩,?_⟩
  all_goals try simp[zAV]
theorem zK2{s:ByteArray}(h:(zL3 s).2.2.2≠0):(zL3 s).1= .zero/\(zL3 s).2.1= .zero:=by
 unfold zL3 at h ⊢;split
 ·exact⟨rfl,rfl⟩
 ·split
  ·exact⟨rfl,rfl⟩
  ·split
   ·exact⟨rfl,rfl⟩
   ·split
    ·rename_i h1 h2 h3 h4;rw[if_neg h1,if_neg h2,if_neg h3,if_pos h4]at h;exact absurd rfl h
    ·exact⟨rfl,rfl⟩
theorem zFY(s:ByteArray)(hs:s.size<=100000):FnA Tryz.prog 52 [.t 2 (.str s)] (zVW (zL3 s)):=
 FnS.zTK (zIy s hs) fun E v h=>h.upT ⟨fun E v h=>by
  by_cases e:(zL3 s).2.2.2=0
  ·rw[if_pos e]at h;exact h
  ·rw[if_neg e]at h;rw[(zK2 e).1,(zK2 e).2];exact h.zeI,fun _ _ h=>h,fun _ _ h=>h,trivial⟩
attribute [simp] aAppStr
@[simp] theorem u8E:u8El Tryz.prog 5=true:=by kernel_rfl
theorem zCi{t:Tm}(h:t.val=true):t.ok=true/\t.sz<=60:=by
 unfold Tm.val at h;rw[Qz,decide_eq_true_iff]at h;exact h
theorem TbL.get{tb:List (List Int)}{n:Nat}{T:Nat->Nat->Nat}(ht:TbL tb n T){a b:Nat}(ha:a<n)(hb:b<n): ∃(h:a<tb.length) (h2:b<tb[a].length),tb[a][b]=(T a b:Int):=by
 have h:a<tb.length:=by rw[ht.len];exact ha
 have h2:b<tb[a].length:=by rw[ht.row a h];exact hb
 exact⟨h,h2,ht.val a b h h2⟩
theorem zPu(tb:List (List Int))(n:Nat)(T:Nat->Nat->Nat)(ht:TbL tb n T)(hA:zBA n T)(hn:n<=1000)(x:Nat)(hx:x<n)(m:Int)(hm: -1<=m)(hm9:m<=9):
  FnA Tryz.prog 156 [.t 0 (rows tb),.t 2 (.int .i64 (x:Nat)),.t 2 (.int .i64 m)] (.t 2 (.int .i64 (zIV T n x m:Nat))):=by
 obtain⟨k0,hk0,hom,hid,hno⟩:=zC0 ht.lt hA hx;have hel:=zLC ht.lt hA hx;refine fI 66 #[.tmp 6] Tryz.func156 rfl ?_;refine rg0 ?_;refine rg0 ?_;refine zA ?_;refine zB ?_;refine awp_loop (fun k:Nat=>mkS [(0,.t 0 (rows tb)),(1,.t 2 (.int .i64 (x:Nat))),(2,.t 2 (.int .i64 m)),(7,.t 2 (.int .i64 (pw T x k:Nat)))] [] 0 66 [.any,.any,.any]) (fun k=>k<=k0) (fun k=>k0-k) ?_ ?_
 ·refine⟨0,by omega,?_⟩;refine zH [] rfl ?_ ?_ ?_ ?_
  all_goals try simp[pw,itT,rows]
 intro k hk;have hpl:=zM0 ht.lt hx k;obtain⟨g1,g2,g3⟩:=ht.get hpl hpl;obtain⟨g4,g5,g6⟩:=ht.get hpl hx;have hps:=zEg (T:=T) x k;refine zA ?_;by_cases he:T (pw T x k) (pw T x k)=pw T x k
 case neg=>
  have hlt:k<k0:=by
   rcases Nat.lt_or_ge k k0 with h|h
   ·exact h
   ·obtain rfl:k=k0:=by omega
    exact absurd hid he
  generalize pw T x (k+1)=e1 at hps;generalize hpk:pw T x k=e at hpl g1 g2 g3 g4 g5 g6 hps he ⊢;refine rg1 (an @g1 (an @g2 @g3)) ?_;refine cK1 @he ?_;refine zB ?_;refine rr1 (an @g4 (an @g5 @g6)) ?_;refine⟨k+1,by omega,by omega,?_⟩;exact kw1 [] (an @rows.eq_1 (an @zEg @hpk))
 obtain rfl:k=k0:=by
  rcases Nat.lt_or_ge k k0 with h|h
  ·exact absurd he (hno k h)
  ·omega
 rw[←hom]at he ⊢;clear hps g1 g2 g3 g4 g5 g6 hpl;obtain⟨g1,g2,g3⟩:=ht.get hel hel;obtain⟨g4,g5,g6⟩:=ht.get hel hx;refine rg1 (an @g1 (an @g2 @g3)) ?_;refine cF1 @he ?_;refine zE ?_;refine rg0 ?_;refine zA ?_;refine rg0 ?_;by_cases hneg:m<0
 ·obtain⟨j0,hj0,hin,hjd,hjn⟩:=zKG ht.lt hA hx;have hres:zIV T n x m=itT T x j0 (omT T n x):=by unfold zIV;rw[if_pos hneg,hin]
  have hg:=zVL ht.lt hA hx;have hgl:=ht.lt _ _ hel hx;rw[hres];clear hin;generalize omT T n x=e at hom hel g1 g2 g3 g4 g5 g6 he hjd hjn hg hgl ⊢;refine cT1 @hneg ?_;refine rg1 (an @g4 (an @g5 @g6)) ?_;refine zA ?_;refine zB ?_;refine awp_loop (fun j:Nat=>mkS [(0,.t 0 (rows tb)),(7,.t 2 (.int .i64 (e:Nat))),(8,.t 2 (.int .i64 (itT T x j e:Nat))),(9,.t 2 (.int .i64 (T e x:Nat)))] [] 0 66 [.any,.any,.any]) (fun j=>j<=j0) (fun j=>j0-j) ?_ ?_
  ·refine⟨0,by omega,?_⟩;refine zH [] rfl ?_ ?_ ?_ ?_
   all_goals try simp[rows,itT]
  intro j hj;have hyl:=zFP ht.lt hx hel j;obtain⟨b1,b2,b3⟩:=ht.get hyl hgl;rw[hg j]at b3;refine zA ?_;by_cases hq:T (itT T x j e) x=e
  ·obtain rfl:j=j0:=by
    rcases Nat.lt_or_ge j j0 with h|h
    ·exact absurd hq (hjn j h)
    ·omega
   refine rg1 (an @b1 (an @b2 @b3)) ?_;refine cF1 @hq ?_;refine zE ?_;refine rg0 ?_;exact zC rt0
  ·have hlt:j<j0:=by
    rcases Nat.lt_or_ge j j0 with h|h
    ·exact h
    ·obtain rfl:j=j0:=by omega
     exact absurd hjd hq
   refine rg1 (an @b1 (an @b2 @b3)) ?_;refine cK1 @hq ?_;refine zB ?_;refine rr1 (an @b1 (an @b2 @b3)) ?_;refine⟨j+1,by omega,by omega,?_⟩;refine zH [] rfl ?_ ?_ ?_ ?_
   all_goals try simp[rows,itT]
 ·have hres:zIV T n x m=itT T x m.toNat (omT T n x):=by unfold zIV;rw[if_neg hneg]
  rw[hres];generalize omT T n x=e at hom hel g1 g2 g3 g4 g5 g6 he ⊢;obtain⟨q,rfl⟩: ∃q:Nat,m=(q:Int):=⟨m.toNat,by omega⟩;rw[Int.toNat_natCast];refine cS1 @hneg ?_;refine zA ?_;refine rg0 ?_;refine zB ?_;refine awp_loop (fun j:Nat=>mkS [(0,.t 0 (rows tb)),(1,.t 2 (.int .i64 (x:Nat))),(8,.t 2 (.int .i64 (itT T x j e:Nat))),(54,.t 2 (.int .i64 (q:Nat))),(55,.t 2 (.int .i64 (j:Nat)))] [] 0 66 [.any,.any,.any]) (fun j=>j<=q) (fun j=>q-j) ?_ ?_
  ·refine⟨0,by omega,?_⟩;refine zH [] rfl ?_ ?_ ?_ ?_
   all_goals try simp[rows,itT]
  intro j hj;have hyl:=zFP ht.lt hx hel j;obtain⟨b1,b2,b3⟩:=ht.get hyl hx;refine rg0 ?_;refine zA ?_;by_cases hjq:j<q
  ·refine cK1 @hjq ?_;refine zA ?_;refine zB ?_;refine rr1 (an @b1 (an @b2 @b3)) ?_;refine rr0 ?_;refine⟨j+1,by omega,by omega,?_⟩;refine zH [] rfl ?_ ?_ ?_ ?_
   all_goals try simp[rows,itT]
  ·obtain rfl:j=q:=by omega
   refine cF0 ?_;refine zE ?_;refine rg0 ?_;exact zC rt0
def pgC(p:List (Int×Int)):List T:=p.flatMap fun s=>[.int .i64 s.1,.int .i64 s.2]
def pgT(p:List (Int×Int)):T:=.sl 2 (pgC p)
@[simp] theorem zRT: ∀p:List (Int×Int),(pgC p).length=p.length*2
 |[]=>rfl
 |s::p=>by
  show(pgC p).length+2=_;rw[zRT p,List.length_cons];omega
theorem zUR(s:Int×Int):pgC [s]=[.int .i64 s.1,.int .i64 s.2]:=rfl
theorem zEk(p q:List (Int×Int)):pgC (p++q)=pgC p++pgC q:=by simp[pgC]
mutual
def Tm.cmp:Tm->List (Int×Int)
 | .mk o n l=>if o=1 then [(0,0)]else if o=2 then [(1,n)]else cmpL true l++(if o=4 then [(3,n)]else [])
def cmpL:Bool->List Tm->List (Int×Int)
 |_,[]=>[]
 |fst,a::r=>a.cmp++(if fst then []else [(2,0)])++cmpL false r
end
theorem zTt(t:Tm):t.cmp=if t.op=1 then [(0,0)]else if t.op=2 then [(1,t.n)]else cmpL true t.args++(if t.op=4 then [(3,t.n)]else []):=by
 obtain⟨o,n,l⟩:=t;rw[Tm.cmp];rfl
theorem zKH: ∀(fst:Bool) (l r:List Tm),cmpL fst (l++r)=cmpL fst l++cmpL (fst&&decide (l=[])) r
 |fst,[],r=>by
  rw[show cmpL fst []=[]from by rw[cmpL]];simp
 |fst,a::l,r=>by
  rw[List.cons_append,cmpL,cmpL,zKH false l r];simp
theorem zQU{l:List Tm}{k:Nat}(h:k<l.length):cmpL true (l.take (k+1))=cmpL true (l.take k)++l[k].cmp++(if k=0 then []else [(2,0)]):=by
 rw[Qf h,zKH,cmpL,show cmpL false []=[]from by rw[cmpL]];by_cases hk:k=0
 ·subst hk;simp
 ·have:l.take k≠[]:=fun e=>by
   have:=congrArg List.length e;rw[List.length_take,List.length_nil]at this;omega
  simp[this,hk]
mutual
theorem zDq: ∀t:Tm,t.cmp.length+1<=2*t.sz
 | .mk o n l=>by
  have:=zGh true l;rw[Tm.cmp,Tm.sz];split
  ·simp;omega
  ·split
   ·simp;omega
   ·split
    ·simp;omega
    ·simp;omega
theorem zGh: ∀(fst:Bool) (l:List Tm),(cmpL fst l).length<=2*szL l
 |fst,[]=>by rw[cmpL,szL];simp
 |fst,a::r=>by
  have:=zDq a;have:=zGh false r;rw[cmpL,szL]
  cases fst<;>simp<;>omega
end
def pgO(p:List (Int×Int)):AObj:=.row 224 2 2 (pgC p)
def teO(t:Tm):AObj:=.box 71 [.t 2 (.int .i64 t.op),.t 2 (.int .i64 t.n),.t 0 (.sl 3 (cellsL t.args))]
theorem zKI(h:224<Tryz.prog.types.size):(Tryz.prog.types[224]'h).size=2:=by rfl
theorem zFz: ∀t:Tm,t.ok=true->t.sz<=1000->FnA Tryz.prog 97 [tmV 0 t] (.t 2 (pgT t.cmp)):=by
 intro t
 induction hsz:t.sz using Nat.strongRecOn generalizing t with
 |_ q ih=>
 intro ho hs1;have hwf:t.wf=true:=by rw[ok_eq,Qz]at ho;exact ho.1
 have hokl:zCL t.args=true:=by rw[ok_eq,Qz]at ho;exact ho.2
 unfold Tm.wf at hwf;rw[decide_eq_true_iff]at hwf;have hsz2:=zIY t;have hsl:=zHB t.args;rw[zTt];unfold pgT;refine fI 47 #[.tmp 2] Tryz.func97 rfl ?_;refine rg1 @tmV.eq_1 ?_;refine zA ?_;refine rg0 ?_;refine zB ?_;refine rg0 ?_;by_cases e1:t.op=1
 ·refine cT1 @e1 ?_;refine rg1 @zKI ?_;refine zC ?_;rw[if_pos e1];refine⟨⟨.inr rfl,_,[],(by first|rfl|(simp[ints,rows,scal,tmV,pgC];rfl)),?_,?_,?_,?_⟩,?_⟩
  all_goals try simp[tmV,pgC]
 refine cF1 @e1 ?_;refine rg0 ?_;by_cases e2:t.op=2
 ·refine cT1 @e2 ?_;refine rg1 @zKI ?_;refine zC ?_;rw[if_neg e1,if_pos e2];refine⟨⟨.inr rfl,_,[],(by first|rfl|(simp[ints,rows,scal,tmV,pgC];rfl)),?_,?_,?_,?_⟩,?_⟩
  all_goals try simp[tmV,pgC]
 refine cY1 @e2 ?_;rw[if_neg e1,if_neg e2];refine rg0 ?_;refine zA ?_;refine rg0 ?_;refine zB ?_;refine awp_loop (fun k:Nat=>mkS [(1,.ptr 0 0 3),(3,.own 1 ((cmpL true (t.args.take k)).length*2)),(19,.t 0 (.sl 3 (cellsL t.args))),(20,.t 2 (.int .i64 t.args.length)),(21,.t 2 (.int .i64 k))] [(0,teO t),(1,pgO (cmpL true (t.args.take k)))] 2 47 [.any]) (fun k=>k<=t.args.length) (fun k=>t.args.length-k) ?_ ?_
 ·refine⟨0,by omega,?_⟩;refine zH [(0,some 0),(1,none)] rfl ?_ ?_ ?_ ?_
  all_goals try simp[teO,pgO,cmpL,pgC]
 intro k hk;have hcl:=zGh true (t.args.take k);have hslk:=zE3 t.args k;refine rg0 ?_;refine zA ?_;by_cases hkl:k<t.args.length
 ·obtain⟨a,ha⟩: ∃a,a=t.args[k]:=⟨_,rfl⟩;have hcut:=zA9 t.args k hkl;rw[←ha,Tm.zAq]at hcut;have ham:a∈t.args:=by rw[ha];exact List.getElem_mem hkl
  have htc:=zQU hkl;rw[←ha]at htc;have hlt:=zKP ham;have hac:=zDq a;have hA:=ih a.sz (by omega) a rfl (zDQ.1 hokl a ham) (by omega);unfold pgT at hA;refine cK1 @hkl ?_;refine zA ?_;refine zB ?_;refine rg1 (an @hcut (an @hkl (an @teO.eq_1 @pgO.eq_1))) ?_;refine rc1 hA (an @teO.eq_1 (an @pgO.eq_1 @tmV.eq_1)) ?_;refine rg1 (an @teO.eq_1 @pgO.eq_1) ?_;by_cases h0:k=0
  ·subst h0;refine cY0 ?_;refine rr1 (an @teO.eq_1 @pgO.eq_1) ?_;refine⟨1,by omega,by omega,?_⟩;rw[htc];refine zH [(0,some 0),(1,some 1)] rfl ?_ ?_ ?_ ?_
   all_goals try simp[teO,pgO,zEk]
   all_goals (try omega)
  ·have h0':(0:Int)<(k:Int):=by omega
   refine cT1 @h0' ?_;refine rr1 (an @teO.eq_1 (an @pgO.eq_1 @zKI)) ?_;refine rr1 (an @teO.eq_1 @pgO.eq_1) ?_;refine⟨k+1,by omega,by omega,?_⟩;rw[htc,if_neg h0];refine zH [(0,some 0),(1,some 1)] rfl ?_ ?_ ?_ ?_
   all_goals try simp[teO,pgO,zEk,zUR]
   all_goals (try omega)
 ·obtain rfl:k=t.args.length:=by omega
  rw[List.take_length]at hcl ⊢;refine cF0 ?_;refine zE ?_;refine zA ?_;refine rg1 (an @teO.eq_1 @pgO.eq_1) ?_;by_cases e4:t.op=4
  ·rw[if_pos e4];refine cT1 @e4 ?_;refine rr1 (an @teO.eq_1 (an @pgO.eq_1 @zKI)) ?_;refine rg1 (an @teO.eq_1 @pgO.eq_1) ?_;refine zC ?_;refine⟨⟨.inr rfl,_,[],(by first|rfl|(simp[ints,rows,scal,teO,pgO,zEk,zUR,tmV];rfl)),?_,?_,?_,?_⟩,?_⟩
   all_goals try simp[zEk,zUR,tmV]
   all_goals (try omega)
  ·rw[if_neg e4,List.append_nil];refine cS1 @e4 ?_;refine rg1 (an @teO.eq_1 @pgO.eq_1) ?_;refine zC ?_;refine⟨⟨.inr rfl,_,[],(by first|rfl|(simp[ints,rows,scal,teO,pgO,zEk,tmV];rfl)),?_,?_,?_,?_⟩,?_⟩
   all_goals try simp[tmV]
theorem zJK: ∀(p:List (Int×Int)) (i:Nat) (h:i<p.length),((pgC p).drop (i*2)).take 2=[.int .i64 p[i].1,.int .i64 p[i].2]
 |s::p,0,h=>rfl
 |s::p,i+1,h=>by
  show(([T.int .i64 s.1,.int .i64 s.2]++pgC p).drop ((i+1)*2)).take 2=_;rw[show(i+1)*2=([T.int .i64 s.1,T.int .i64 s.2]:List T).length+i*2 by simp;omega,List.drop_append];simp only[List.drop_eq_nil_of_le (show([T.int .i64 s.1,T.int .i64 s.2]:List T).length<=([T.int .i64 s.1,T.int .i64 s.2]:List T).length+i*2 by omega),List.nil_append,Nat.add_sub_cancel_left];exact zJK p i (by simpa using h)
def pwL(T:Nat->Nat->Nat)(n j:Nat):List M.T:=tab n fun x=>.int .i64 (zIV T n x ((j:Int)-1):Nat)
@[simp] theorem zUq(T:Nat->Nat->Nat)(n j:Nat):(pwL T n j).length=n:=by simp[pwL]
def pwA(T:Nat->Nat->Nat)(n:Nat)(u:Nat->Bool)(j:Nat):AV:=.t 1 (if u j=true then .sl 1 (pwL T n j)else .sl 0 [])
theorem zSJ{T:Nat->Nat->Nat}{n:Nat}{u:Nat->Bool}{j:Nat}(h:u j=true):pwA T n u j= .t 1 (.sl 1 (pwL T n j)):=by unfold pwA;rw[if_pos h]
theorem zVA{T:Nat->Nat->Nat}{n:Nat}{u:Nat->Bool}{j:Nat}(h:u j=false):pwA T n u j= .t 1 (.sl 0 []):=by unfold pwA;rw[if_neg (by rw[h];simp)]
def mcC(tb:List (List Int))(T:Nat->Nat->Nat)(n:Nat)(one:Int)(u:Nat->Bool):List AV:=.t 1 (rows tb):: .t 2 (.int .i64 one)::tab 11 (pwA T n u)
def mcO(tb:List (List Int))(T:Nat->Nat->Nat)(n:Nat)(one:Int)(u:Nat->Bool):AObj:=.box 230 (mcC tb T n one u)
section
variable{tb:List (List Int)}{T:Nat->Nat->Nat}{n:Nat}{one:Int}{u u':Nat->Bool}
@[simp] theorem zVU:(mcC tb T n one u).length=13:=by simp[mcC]
@[simp] theorem zTe:(mcC tb T n one u)[0]? =some (.t 1 (rows tb)):=rfl
@[simp] theorem zTU:(mcC tb T n one u)[1]? =some (.t 2 (.int .i64 one)):=rfl
theorem zOc{j:Nat}(h:j<11):(mcC tb T n one u)[2+j]? =some (pwA T n u j):=by
 unfold mcC;rw[show 2+j=j+1+1 by omega,Ql,Ql,zO _ h]
theorem zIf{i:Nat}{a:AV}(h:(mcC tb T n one u)[i]? =some a):(i=0/\a= .t 1 (rows tb))\/(i=1/\a= .t 2 (.int .i64 one))\/ ∃j,j<11/\i=2+j/\a=pwA T n u j:=by
 rcases i with _|_|j
 ·rw[zTe]at h;injection h with h;exact .inl ⟨rfl,h.symm⟩
 ·rw[zTU]at h;injection h with h;exact .inr (.inl ⟨rfl,h.symm⟩)
 ·have hl:j+1+1<13:=by have:=(Qq.1 h).1;simpa using this
  rw[show j+1+1=2+j by omega,zOc (by omega)]at h;injection h with h;exact .inr (.inr ⟨j,by omega,by omega,h.symm⟩)
theorem zTT{H:Nat->Option AObj}{m:Nat->Option Nat}{un:Nat->Prop}{nx j:Nat}(h:u' j=u j):wkP H m un nx (pwA T n u j) (pwA T n u' j):=by
 unfold pwA;rw[h];exact⟨rfl,Qy _⟩
theorem zr{H:Nat->Option AObj}{m:Nat->Option Nat}{un:Nat->Prop}{nx:Nat}:wkPs H m un nx (mcC tb T n one u) (mcC tb T n one u)=True:=by
 refine eq_true (zCY rfl (fun i a b ha hb=>?_));rw[ha]at hb;injection hb with hb;subst hb;rcases zIf ha with⟨-,rfl⟩|⟨-,rfl⟩|⟨j,-,-,rfl⟩
 ·exact⟨rfl,Qy _⟩
 ·exact⟨rfl,Qy _⟩
 ·exact⟨rfl,Qy _⟩
theorem zQ5{H:Nat->Option AObj}{m:Nat->Option Nat}{un:Nat->Prop}{nx j:Nat}{v:AV}(hj:j<11)(hu: ∀i,i≠j->u' i=u i)(hv:wkP H m un nx v (pwA T n u' j)):wkPs H m un nx ((mcC tb T n one u).set (2+j) v) (mcC tb T n one u'):=by
 refine zCY (by simp) (fun i a b ha hb=>?_);by_cases hi:i=2+j
 ·subst hi;rw[List.getElem?_set_self (by simp;omega)]at ha;rw[zOc hj]at hb;injection ha with ha;injection hb with hb;subst ha hb;exact hv
 ·rw[List.getElem?_set_ne (by omega)]at ha;rcases zIf ha with⟨rfl,rfl⟩|⟨rfl,rfl⟩|⟨j',hj',rfl,rfl⟩
  ·rw[zTe]at hb;injection hb with hb;subst hb;exact⟨rfl,Qy _⟩
  ·rw[zTU]at hb;injection hb with hb;subst hb;exact⟨rfl,Qy _⟩
  ·rw[zOc hj']at hb;injection hb with hb;subst hb
   exact zTT (hu j' (by omega))
end
def zHO(u:Nat->Bool)(s:Int×Int):Nat->Bool:=if s.1=3 then fun j=>u j||decide ((j:Int)-1=s.2)else u
def zU:Nat->Bool:=fun _=>false
theorem zP9{tb:List (List Int)}{T:Nat->Nat->Nat}{n:Nat}{one:Int}:mcC tb T n one zU=[.t 1 (rows tb),.t 2 (.int .i64 one),.t 1 (.sl 0 []),.t 1 (.sl 0 []),.t 1 (.sl 0 []),.t 1 (.sl 0 []),.t 1 (.sl 0 []),.t 1 (.sl 0 []),.t 1 (.sl 0 []),.t 1 (.sl 0 []),.t 1 (.sl 0 []),.t 1 (.sl 0 []),.t 1 (.sl 0 [])]:=rfl
theorem zHK{α β:Type}(f:β->α->β)(b:β)(l:List α){k:Nat}(h:k<l.length):(l.take (k+1)).foldl f b=f ((l.take k).foldl f b) l[k]:=by
 rw[Qf h,List.foldl_append];rfl
def zIT(ps:List (List (Int×Int)))(u:Nat->Bool):Nat->Bool:=ps.foldl (fun u p=>p.foldl zHO u) u
theorem zOF(h:230<Tryz.prog.types.size):(Tryz.prog.types[230]'h).size=13:=by rfl
theorem zGr(tb:List (List Int))(n:Nat)(T:Nat->Nat->Nat)(ht:TbL tb n T)(hA:zBA n T)(hn0:0<n)(hn:n<=1000)(one:Int)(ps:List (List (Int×Int)))(hps:ps.length<=1000)
  (hp: ∀p∈ps,p.length<=100000/\ ∀s∈p,s.1=3-> -1<=s.2/\s.2<=9):
  FnS Tryz.prog 99 [.t 1 (rows tb),.t 2 (.int .i64 one),.t 0 (.sl 1 (ps.map pgT))] [] (.ptr 0 0 13) [mcO tb T n one (zIT ps zU)]:=by
 have htl:=ht.len;refine fI 72 #[.tmp 6] Tryz.func99 rfl ?_;refine rg0 ?_;refine rg1 @zOF ?_;refine zA ?_;refine rg0 ?_;refine zB ?_;refine awp_loop (fun k:Nat=>mkS [(0,.t 1 (rows tb)),(7,.ptr 0 0 13),(18,.t 0 (.sl 1 (ps.map pgT))),(19,.t 2 (.int .i64 ps.length)),(20,.t 2 (.int .i64 k))] [(0,mcO tb T n one (zIT (ps.take k) zU))] 1 72 [.any,.any,.any]) (fun k=>k<=ps.length) (fun k=>ps.length-k) ?_ ?_
 ·refine⟨0,by omega,?_⟩;rw[show zIT (ps.take 0) zU=zU from rfl];exact kw1 [(0,some 4000000)] (an @mcO.eq_1 (an @zP9 (an @rows.eq_1 @zOF)))
 intro k hk;refine rg0 ?_;refine zA ?_;by_cases hkl:k<ps.length
 case neg=>
  obtain rfl:k=ps.length:=by omega
  rw[List.take_length];refine cF0 ?_;refine zE ?_;refine rg0 ?_;refine zC ?_;exact zCx (an @mcO.eq_1 @zr)
 obtain⟨p,hpk⟩: ∃p,p=ps[k]:=⟨_,rfl⟩;obtain⟨hpl,hps3⟩:=hp p (by rw[hpk];exact List.getElem_mem hkl);have hut:zIT (ps.take (k+1)) zU=p.foldl zHO (zIT (ps.take k) zU):=by
  unfold zIT;rw[zHK _ _ _ hkl,hpk]
 generalize zIT (ps.take k) zU=u0 at hut ⊢;refine cK1 @hkl ?_;refine zA ?_;refine zB ?_;refine rg1 (an @hkl hpk.symm) ?_;refine rg1 @pgT.eq_1 ?_;refine zB ?_;refine awp_loop (fun i:Nat=>mkS [(0,.t 1 (rows tb)),(7,.ptr 0 0 13),(18,.t 0 (.sl 1 (ps.map pgT))),(19,.t 2 (.int .i64 ps.length)),(20,.t 2 (.int .i64 k)),(24,.t 0 (.sl 2 (pgC p))),(25,.t 2 (.int .i64 p.length)),(26,.t 2 (.int .i64 i))] [(0,mcO tb T n one ((p.take i).foldl zHO u0))] 1 72 [.any,.any,.any]) (fun i=>i<=p.length) (fun i=>p.length-i) ?_ ?_
 ·refine⟨0,by omega,?_⟩;rw[show(p.take 0).foldl zHO u0=u0 from rfl];exact kw1 [(0,some 0)] (an @mcO.eq_1 (an @zr (an @rows.eq_1 @pgT.eq_1)))
 intro i hi;refine rg0 ?_;refine zA ?_;by_cases hil:i<p.length
 case neg=>
  obtain rfl:i=p.length:=by omega
  rw[List.take_length,←hut];refine cF0 ?_;refine zE ?_;refine rr0 ?_;refine⟨k+1,by omega,by omega,?_⟩;exact kw1 [(0,some 0)] (an @mcO.eq_1 (an @zr @rows.eq_1))
 have hut2:=zHK zHO u0 p hil;have hcut:=zJK p i hil;have hs3:=hps3 _ (List.getElem_mem hil);generalize p[i]=s at hut2 hcut hs3;obtain⟨kd,m⟩:=s;simp only at hut2 hcut hs3;generalize(p.take i).foldl zHO u0=u1 at hut2 ⊢;refine cK1 @hil ?_;refine zA ?_;refine zB ?_;by_cases e3:kd=3
 case neg=>
  have hu2:(p.take (i+1)).foldl zHO u0=u1:=by rw[hut2];unfold zHO;rw[if_neg e3]
  have e3b:(kd==3)=false:=by simpa using e3
  have e3c:(kd !=3)=true:=by simpa using e3
  refine rg1 (an @hcut @hil) ?_;refine zA ?_;refine rd1 (an @e3 (an @e3b @e3c)) ?_;refine cT0 ?_;refine zE ?_;refine rr0 ?_;refine⟨i+1,by omega,by omega,?_⟩;rw[hu2];exact kw1 [(0,some 0)] (an @mcO.eq_1 (an @zr @rows.eq_1))
 subst e3;obtain⟨hm0,hm9⟩:=hs3 rfl;obtain⟨j,rfl⟩: ∃j:Nat,m=(j:Int)-1:=⟨(m+1).toNat,by omega⟩;have hj:j<11:=by omega
 have hmp:=zOc (tb:=tb) (T:=T) (n:=n) (one:=one) (u:=u1) hj;have hu2:(p.take (i+1)).foldl zHO u0=fun x=>u1 x||decide ((x:Int)-1=(j:Int)-1):=by rw[hut2];unfold zHO;rw[if_pos rfl]
 by_cases hu:u1 j=true
 ·have hu3:(p.take (i+1)).foldl zHO u0=u1:=by
   rw[hu2];funext x;by_cases hx:x=j
   ·rw[hx,hu];rfl
   ·have: ¬((x:Int)-1=(j:Int)-1):=by omega
    rw[decide_eq_false this,Bool.or_false]
  rw[zSJ hu]at hmp;refine rg1 (an @hcut @hil) ?_;refine zA ?_;refine rd1 (an @mcO.eq_1 (an @hmp @hn0)) ?_;refine cT0 ?_;refine zE ?_;refine rr0 ?_;refine⟨i+1,by omega,by omega,?_⟩;rw[hu3];exact kw1 [(0,some 0)] (an @mcO.eq_1 (an @zr @rows.eq_1))
 have hu:u1 j=false:=by simpa using hu
 rw[zVA hu]at hmp;refine rg1 (an @hcut @hil) ?_;refine zA ?_;refine rd1 (an @mcO.eq_1 (an @hmp @hn0)) ?_;refine cS0 ?_;refine zS (σ':=mkS [(0,.t 1 (rows tb)),(7,.ptr 0 0 13),(11,.ptr 1 0 2),(18,.t 0 (.sl 1 (ps.map pgT))),(19,.t 2 (.int .i64 ps.length)),(20,.t 2 (.int .i64 k)),(24,.t 0 (.sl 2 (pgC p))),(25,.t 2 (.int .i64 p.length)),(26,.t 2 (.int .i64 i))] [(0,mcO tb T n one u1),(1,.box 224 [.t 2 (.int .i64 3),.t 2 (.int .i64 ((j:Int)-1))])] 2 72 [.any,.any,.any]) ?_ ?_
 ·exact kw1 [(0,some 0),(1,some 3000001)] (an @mcO.eq_1 (an @zr @rows.eq_1))
 refine rg0 ?_;refine zA ?_;refine rg0 ?_;refine zB ?_;refine awp_loop (fun x:Nat=>mkS [(0,.t 1 (rows tb)),(7,.ptr 0 0 13),(11,.ptr 1 0 2),(12,.own 2 n),(18,.t 0 (.sl 1 (ps.map pgT))),(19,.t 2 (.int .i64 ps.length)),(20,.t 2 (.int .i64 k)),(24,.t 0 (.sl 2 (pgC p))),(25,.t 2 (.int .i64 p.length)),(26,.t 2 (.int .i64 i)),(48,.t 2 (.int .i64 n)),(49,.t 2 (.int .i64 x))] [(0,mcO tb T n one u1),(1,.box 224 [.t 2 (.int .i64 3),.t 2 (.int .i64 ((j:Int)-1))]),(2,.row 3 1 2 (tab n fun y=>.int .i64 (if y<x then((zIV T n y ((j:Int)-1):Nat):Int)else 0)))] 3 72 [.any,.any,.any]) (fun x=>x<=n) (fun x=>n-x) ?_ ?_
 ·refine⟨0,by omega,?_⟩;exact kw1 [(0,some 0),(1,some 1),(2,some 2000002)] (an @mcO.eq_1 (an @zr (an @rows.eq_1 (an @zz @htl))))
 intro x hx;refine rg0 ?_;refine zA ?_;by_cases hxn:x<n
 ·have hpw:=zPu tb n T ht hA hn x hxn ((j:Int)-1) (by omega) (by omega);refine cK1 @hxn ?_;refine zA ?_;refine zB ?_;refine rg0 ?_;refine zAT fun K hK=>?_
  simp(maxSteps:=2000000)(disch:=omega)[mcO]
  (repeat' apply And.intro)
  all_goals (try omega)
  refine zD (caps:=[]) (hpw) [] [] 2 rfl rfl rfl rfl (by kernel_rfl) (by simp) ?_ trivial trivial rfl trivial trivial (by simp) ?_
  ·simp[scal,rows]
  simp(maxSteps:=2000000)(disch:=omega)[scal];and_intros<;>try first|apply hK|omega|rfl|simp<;>omega
  refine rr0 ?_;refine⟨x+1,by omega,by omega,?_⟩;refine zH [(0,some 0),(1,some 1),(2,some 2)] rfl ?_ ?_ ?_ ?_
  all_goals try simp[mcO,zr,rows]
  rw[zb];refine zK (fun y hy=>?_);by_cases e:y=x
  ·simp[e]
  ·rw[if_neg e];by_cases e2:y<x
   ·rw[if_pos e2,if_pos (by omega)]
   ·rw[if_neg e2,if_neg (by omega)]
 ·obtain rfl:x=n:=by omega
  have hrow:(tab x fun y=>M.T.int .i64 (if y<x then((zIV T x y ((j:Int)-1):Nat):Int)else 0))=pwL T x j:=by
   unfold pwL;refine zK (fun y hy=>?_);rw[if_pos hy]
  have hu4:pwA T x ((p.take (i+1)).foldl zHO u0) j= .t 1 (.sl 1 (pwL T x j)):=zSJ (by rw[hu2];simp);have hu5: ∀y,y≠j->((p.take (i+1)).foldl zHO u0) y=u1 y:=fun y hy=>by
   rw[hu2];have: ¬((y:Int)-1=(j:Int)-1):=by omega
   simp only[decide_eq_false this,Bool.or_false]
  refine cF0 ?_;refine zE ?_;rw[hrow];refine re1 @mcO.eq_1 ?_;refine rr1 @mcO.eq_1 ?_;refine⟨i+1,by omega,by omega,?_⟩;refine zH [(0,some 0)] rfl ?_ ?_ ?_ ?_
  all_goals try simp[mcO,rows]
  refine zQ5 hj hu5 ?_;rw[hu4];simp
def Exn(T:Nat->Nat->Nat)(n:Nat)(one:Int)(u:Nat->Bool)(vs:List Int):List Nat->List (Int×Int)->Nat->Prop
 |st,[],r=>st=[r]
 |st,(kd,m)::p,r=>st.length<61/\(
  (kd=0/\ ∃o:Nat,one=o/\o<n/\Exn T n one u vs (o::st) p r)∨
  (kd=1/\ ∃i a:Nat,m=i/\vs[i]? =some (a:Int)/\a<n/\Exn T n one u vs (a::st) p r)∨
  (kd=2/\ ∃x y st',st=y::x::st'/\x<n/\y<n/\Exn T n one u vs (T x y::st') p r)∨
  (kd=3/\ ∃x st' j,st=x::st'/\x<n/\m=(j:Nat)-1/\j<11/\u j=true/\Exn T n one u vs (zIV T n x m::st') p r))
def stC(S:Nat->Int):List AV:=tab 61 fun i=>.t 2 (.int .i64 (S i))
@[simp] theorem zU6(S:Nat->Int):(stC S).length=61:=by simp[stC]
theorem zEz(S:Nat->Int){k:Nat}(h:k<61):(stC S)[k]? =some (.t 2 (.int .i64 (S k))):=by
 unfold stC;rw[zO _ h]
def upS(S:Nat->Int)(k:Nat)(x:Int):Nat->Int:=fun i=>if i=k then x else S i
theorem zCR(S:Nat->Int)(k:Nat)(x:Int):(stC S).set k (.t 2 (.int .i64 x))=stC (upS S k x):=by
 unfold stC;rw[zb];refine zK (fun i hi=>?_);unfold upS;by_cases h:i=k
 ·rw[if_pos h,if_pos h]
 ·rw[if_neg h,if_neg h]
theorem zJ8{H:Nat->Option AObj}{m:Nat->Option Nat}{un:Nat->Prop}{nx:Nat}(S:Nat->Int):wkPs H m un nx (stC S) (stC S)=True:=by
 refine eq_true (zCY rfl (fun i a b ha hb=>?_));rw[ha]at hb;injection hb with hb;subst hb;have hl:i<61:=by have:=(Qq.1 ha).1;simpa using this
 rw[zEz S hl]at ha;injection ha with ha;subst ha;exact⟨rfl,Qy _⟩
theorem zPc:stC (fun _=>0)=List.replicate 61 (.t 2 (.int .i64 0)):=rfl
def zNk(S:Nat->Int):List Nat->Prop
 |[]=>True
 |x::st=>S st.length=(x:Int)/\zNk S st
theorem zNk.up{S:Nat->Int}{k:Nat}{v:Int}: ∀{st:List Nat},zNk S st->st.length<=k->zNk (upS S k v) st
 |[],_,_=>trivial
 |x::st,h,hk=>by
  have hk:st.length+1<=k:=hk;refine⟨?_,zNk.up h.2 (by omega)⟩;unfold upS;rw[if_neg (by omega)];exact h.1
theorem zNk.push{S:Nat->Int}{st:List Nat}(h:zNk S st)(x:Nat):zNk (upS S st.length (x:Int)) (x::st):=by
 refine⟨?_,h.up (Qy _)⟩;unfold upS;rw[if_pos rfl]
theorem zTA{T:Nat->Nat->Nat}{n j x:Nat}(h:x<n):(pwL T n j)[x]? =some (.int .i64 (zIV T n x ((j:Int)-1):Nat)):=by
 unfold pwL;rw[zO _ h]
theorem ints_at{vs:List Int}{i:Nat}{a:Int}(h:vs[i]? =some a):(vs.map (M.T.int .i64))[i]? =some (.int .i64 a):=by
 rw[Qi,h];rfl
theorem zQb(tb:List (List Int))(n:Nat)(T:Nat->Nat->Nat)(ht:TbL tb n T)(hA:zBA n T)(hn:n<=1000)(one:Int)(u:Nat->Bool)(vs:List Int)(p:List (Int×Int))(hpl:p.length<=100000)(r:Nat)(hp:Exn T n one u vs [] p r):
  FnS Tryz.prog 102 [.ptr 0 0 13,.t 0 (pgT p),.t 0 (ints vs)] [mcO tb T n one u] (.t 2 (.int .i64 (r:Nat))) [mcO tb T n one u]:=by
 refine fI 84 #[.tmp 6] Tryz.func102 rfl ?_;refine rg0 ?_;refine rg1 @mcO.eq_1 ?_;refine rg1 @mcO.eq_1 ?_;refine zA ?_;refine rg1 (an @mcO.eq_1 @pgT.eq_1) ?_;refine zB ?_;refine awp_loop (fun y:Nat×List Nat×(Nat->Int)=>mkS [(0,.ptr 0 0 13),(2,.t 0 (ints vs)),(7,.ptr 1 0 61),(8,.t 2 (.int .i64 (y.2.1.length:Nat))),(11,.t 0 (pgT p)),(12,.t 2 (.int .i64 p.length)),(13,.t 2 (.int .i64 y.1))] [(0,mcO tb T n one u),(1,.box 233 (stC y.2.2))] 2 84 [.ptr 0 0 13,.any,.any]) (fun y=>y.1<=p.length/\Exn T n one u vs y.2.1 (p.drop y.1) r/\zNk y.2.2 y.2.1) (fun y=>p.length-y.1) ?_ ?_
 ·refine⟨(0,[],fun _=>0),⟨by simp,hp,trivial⟩,?_⟩;refine zH [(0,some 0),(1,some 1000001)] rfl ?_ ?_ ?_ ?_
  all_goals try simp[ints,mcO,zr,pgT,zPc,List.replicate]
 rintro⟨k,st,S⟩ ⟨hk,hex,hS⟩;simp only at hk hex hS;refine rg1 @pgT.eq_1 ?_;refine zA ?_;by_cases hkl:k<p.length
 case neg=>
  obtain rfl:k=p.length:=by omega
  rw[List.drop_length]at hex;obtain rfl:st=[r]:=hex;have hS0:S 0=(r:Int):=hS.1;have hget:=zEz S (k:=0) (by omega);rw[hS0]at hget;refine cF0 ?_;refine zE ?_;refine rg1 @hget ?_;refine zC ?_;exact zCx (an @mcO.eq_1 @zr)
 have hcut:=zJK p k hkl;rw[List.drop_eq_getElem_cons hkl]at hex;generalize p[k]=s at hex hcut;obtain⟨kd,m⟩:=s;simp only at hcut;obtain⟨hsl,hex⟩:=hex;refine cK1 @hkl ?_;refine zA ?_;refine zB ?_;refine rg1 (an @hcut (an @hkl @pgT.eq_1)) ?_;refine rg0 ?_;refine zB ?_;refine rg0 ?_;rcases hex with⟨rfl,o,rfl,ho,hex⟩|⟨rfl,i,a,rfl,hv,han,hex⟩|⟨rfl,x,y,st',rfl,hx,hy,hex⟩|⟨rfl,x,st',j,rfl,hx,rfl,hj,hu,hex⟩
 ·refine cT0 ?_;refine rg1 (an @mcO.eq_1 @zCR) ?_;refine rr0 ?_;refine rr0 ?_;refine⟨(k+1,o::st,upS S st.length o),⟨by simp only;omega,hex,hS.push o⟩,by simp only;omega,?_⟩;exact kw1 [(0,some 0),(1,some 1)] (an @mcO.eq_1 (an @zr (an @pgT.eq_1 (an @rows.eq_1 (an @zJ8 @zCR)))))
 ·have hva:=ints_at hv;have hil:=(Qq.1 hv).1;have hvg:vs[i]=(a:Int):=(Qq.1 hv).2;refine cF0 ?_;refine rg0 ?_;refine cT0 ?_;refine rg1 (an @zCR (an @hva @hvg)) ?_;refine rr0 ?_;refine rr0 ?_;refine⟨(k+1,a::st,upS S st.length a),⟨by simp only;omega,hex,hS.push a⟩,by simp only;omega,?_⟩;exact kw1 [(0,some 0),(1,some 1)] (an @mcO.eq_1 (an @zr (an @pgT.eq_1 (an @rows.eq_1 (an @zJ8 @zCR)))))
 ·obtain⟨hSy,hSx,hS'⟩:=hS;obtain⟨L,hL⟩: ∃L,L=st'.length:=⟨_,rfl⟩;simp only[List.length_cons,←hL]at hSy hSx hsl ⊢;obtain⟨g1,g2,g3⟩:=ht.get hx hy;have q1:=zEz S (k:=L) (by omega);have q2:=zEz S (k:=L+1) (by omega);rw[hSx]at q1;rw[hSy]at q2;refine cF0 ?_;refine rg0 ?_;refine cF0 ?_;refine rg0 ?_;refine cT0 ?_;refine rg0 ?_;refine zAW (by kernel_rfl) (fun K hK=>?_);simp(maxSteps:=2000000)(disch:=omega)[ints,rows,zBs,mcO,q1,q2,rows,ints,g1,g2,g3,zCR];and_intros<;>try first|apply hK|(show zAY _ _=true;kernel_rfl)|(show okH _ _ _=true;kernel_rfl)|omega|rfl|simp<;>omega
  refine zAT fun K hK=>?_
  simp(maxSteps:=2000000)(disch:=omega)[zBs]
  (repeat' first|apply hK|apply And.intro)<;>try first|omega|rfl|(simp<;>omega)
  refine⟨(k+1,T x y::st',upS S L (T x y:Nat)),⟨by simp only;omega,hex,by rw[hL];exact zNk.push hS' _⟩,by simp only;omega,?_⟩;exact kw1 [(0,some 0),(1,some 1)] (an @mcO.eq_1 (an @zr (an @pgT.eq_1 (an @rows.eq_1 (an @zJ8 (an @zCR hL.symm))))))
 ·obtain⟨hSx,hS'⟩:=hS;obtain⟨L,hL⟩: ∃L,L=st'.length:=⟨_,rfl⟩;simp only[List.length_cons,←hL]at hSx hsl ⊢;have q1:=zEz S (k:=L) (by omega);rw[hSx]at q1;have hmp:=zOc (tb:=tb) (T:=T) (n:=n) (one:=one) (u:=u) hj;rw[zSJ hu]at hmp;have hpa:=zTA (T:=T) (j:=j) hx;refine cF0 ?_;refine rg0 ?_;refine cF0 ?_;refine rg0 ?_;refine cF0 ?_;refine rg0 ?_;refine cT0 ?_;refine zAW (by kernel_rfl) (fun K hK=>?_);simp(maxSteps:=2000000)(disch:=omega)[zBs,mcO,q1,hmp,hpa,hx,zCR];and_intros<;>try first|apply hK|(show zAY _ _=true;kernel_rfl)|(show okH _ _ _=true;kernel_rfl)|omega|rfl|simp<;>omega
  refine rr0 ?_;refine⟨(k+1,zIV T n x ((j:Int)-1)::st',upS S L (zIV T n x ((j:Int)-1):Nat)),⟨by simp only;omega,hex,by rw[hL];exact zNk.push hS' _⟩,by simp only;omega,?_⟩;exact kw1 [(0,some 0),(1,some 1)] (an @mcO.eq_1 (an @zr (an @pgT.eq_1 (an @rows.eq_1 (an @zJ8 (an @zCR hL.symm))))))
mutual
def Tm.gr:Tm->Nat
 | .mk o n l=>max (if o=2 then n.toNat+1 else 0) (grL l)
def grL:List Tm->Nat
 |[]=>0
 |a::r=>max a.gr (grL r)
end
mutual
def Tm.zCN:Tm->Bool
 | .mk o n l=>decide (o=1)||zAs l
def zAs:List Tm->Bool
 |[]=>false
 |a::r=>a.zCN||zAs r
end
structure VIn(n:Nat)(vs:List Int)(v:Nat->Nat):Prop where
 get: ∀i,i<vs.length->vs[i]? =some (v i:Int)/\v i<n
section
variable{T:Nat->Nat->Nat}{n:Nat}{one:Int}{u:Nat->Bool}{vs:List Int}{v:Nat->Nat}{o1:Nat}
theorem zPJ{o n:Int}{l:List Tm}(h:(Tm.mk o n l).ok=true):((o=1/\n=0/\l.length=0)\/(o=2/\0<=n/\n<6/\l.length=0)\/(o=3/\n=0/\2<=l.length)\/(o=4/\ -1<=n/\n<=9/\l.length=1))/\zCL l=true:=by
 rw[ok_eq,Qz]at h;refine⟨?_,h.2⟩;have:=h.1;unfold Tm.wf at this;exact of_decide_eq_true this
theorem zR4{st:List Nat}{p:List (Int×Int)}{r:Nat}(hV:VIn n vs v){m:Int}(h0:0<=m)(hl:m.toNat<vs.length)(hs:st.length<61)(h:Exn T n one u vs (v m.toNat::st) p r):Exn T n one u vs st ((1,m)::p) r:=by
 obtain⟨h1,h2⟩:=hV.get _ hl;rw[Exn];exact⟨hs,.inr (.inl ⟨rfl,m.toNat,v m.toNat,by omega,h1,h2,h⟩)⟩
theorem zSD{st:List Nat}{p:List (Int×Int)}{r:Nat}(h1:one=(o1:Int))(h2:o1<n)(hs:st.length<61)(h:Exn T n one u vs (o1::st) p r):Exn T n one u vs st ((0,0)::p) r:=by
 rw[Exn];exact⟨hs,.inl ⟨rfl,o1,h1,h2,h⟩⟩
theorem zR1{st:List Nat}{x y:Nat}{p:List (Int×Int)}{r:Nat}(hx:x<n)(hy:y<n)(hs:st.length+2<61)(h:Exn T n one u vs (T x y::st) p r):Exn T n one u vs (y::x::st) ((2,0)::p) r:=by
 rw[Exn];exact⟨hs,.inr (.inr (.inl ⟨rfl,x,y,st,rfl,hx,hy,h⟩))⟩
theorem zQ4{st:List Nat}{x:Nat}{m:Int}{p:List (Int×Int)}{r:Nat}(hx:x<n)(hm: -1<=m)(hm9:m<=9)(hu:u (m+1).toNat=true)(hs:st.length+1<61)(h:Exn T n one u vs (zIV T n x m::st) p r):Exn T n one u vs (x::st) ((3,m)::p) r:=by
 rw[Exn];exact⟨hs,.inr (.inr (.inr ⟨rfl,x,st,(m+1).toNat,rfl,hx,by omega,by omega,hu,h⟩))⟩
mutual
theorem zIz(hT: ∀r c,r<n->c<n->T r c<n)(hA:zBA n T)(hV:VIn n vs v): ∀(t:Tm),t.ok=true->t.gr<=vs.length->(t.zCN=true->one=(o1:Int)/\o1<n)->(∀s∈t.cmp,s.1=3->u (s.2+1).toNat=true)→
  t.ev T n o1 v<n/\ ∀(st:List Nat) (p:List (Int×Int)) (r:Nat),st.length+t.sz<=60->Exn T n one u vs (t.ev T n o1 v::st) p r->Exn T n one u vs st (t.cmp++p) r
 | .mk o m l,hok,hg,h1,hu=>by
  obtain⟨hwf,hl⟩:=zPJ hok;rw[Tm.gr]at hg;rw[Tm.zCN]at h1;rw[Tm.cmp]at hu ⊢;rw[Tm.ev,Tm.sz];by_cases e1:o=1
  ·rw[if_pos e1,if_pos e1];obtain⟨a1,a2⟩:=h1 (by simp[e1]);exact⟨a2,fun st p r hs h=>zSD a1 a2 (by omega) h⟩
  rw[if_neg e1,if_neg e1];rw[if_neg e1]at hu;by_cases e2:o=2
  ·rw[if_pos e2,if_pos e2];rw[if_pos e2]at hg;have h0:0<=m:=by omega
   have hlt:m.toNat<vs.length:=by omega
   exact⟨(hV.get _ hlt).2,fun st p r hs h=>zR4 hV h0 hlt (by omega) h⟩
  rw[if_neg e2,if_neg e2];rw[if_neg e2]at hu hg;have hne:l≠[]:=fun e=>by subst e;simp at hwf;omega
  obtain⟨b1,b2⟩:=zO4 hT hA hV l hne hl (by omega) (fun h=>h1 (by simp[h])) (fun s hs=>hu s (by simp[hs]));by_cases e4:o=4
  ·rw[if_pos e4,if_pos e4];rw[if_pos e4]at hu;have hm: -1<=m/\m<=9:=by omega
   refine⟨zRU hT hA b1 m,fun st p r hs h=>?_⟩;rw[List.append_assoc];refine b2 st _ r (by omega) ?_;exact zQ4 b1 hm.1 hm.2 (hu (3,m) (by simp) rfl) (by omega) h
  ·rw[if_neg e4,if_neg e4,List.append_nil];exact⟨b1,fun st p r hs h=>b2 st p r (by omega) h⟩
theorem zO4(hT: ∀r c,r<n->c<n->T r c<n)(hA:zBA n T)(hV:VIn n vs v): ∀(l:List Tm),l≠[]->zCL l=true->grL l<=vs.length->(zAs l=true->one=(o1:Int)/\o1<n)->(∀s∈cmpL true l,s.1=3->u (s.2+1).toNat=true)→
  evL T n o1 v none l<n/\ ∀(st:List Nat) (p:List (Int×Int)) (r:Nat),st.length+1+szL l<=60->Exn T n one u vs (evL T n o1 v none l::st) p r->Exn T n one u vs st (cmpL true l++p) r
 |[],hne,_,_,_,_=>absurd rfl hne
 |a::l,_,hok,hg,h1,hu=>by
  have hok2:a.ok=true/\zCL l=true:=by simpa[zCL]using hok
  rw[grL]at hg;rw[zAs]at h1;rw[cmpL]at hu ⊢;rw[evL,szL];obtain⟨a1,a2⟩:=zIz hT hA hV a hok2.1 (by omega) (fun h=>h1 (by simp[h])) (fun s hs=>hu s (by simp[hs]));obtain⟨b1,b2⟩:=zJ1 hT hA hV l (a.ev T n o1 v) a1 hok2.2 (by omega) (fun h=>h1 (by simp[h])) (fun s hs=>hu s (by simp[hs]));refine⟨b1,fun st p r hs h=>?_⟩;rw[show a.cmp++(if true=true then []else [(2,0)])++cmpL false l++p=a.cmp++(cmpL false l++p) by simp];exact a2 st _ r (by omega) (b2 st p r (by omega) h)
theorem zJ1(hT: ∀r c,r<n->c<n->T r c<n)(hA:zBA n T)(hV:VIn n vs v): ∀(l:List Tm) (y:Nat),y<n->zCL l=true->grL l<=vs.length->(zAs l=true->one=(o1:Int)/\o1<n)->(∀s∈cmpL false l,s.1=3->u (s.2+1).toNat=true)→
  evL T n o1 v (some y) l<n/\ ∀(st:List Nat) (p:List (Int×Int)) (r:Nat),st.length+1+szL l<=60->Exn T n one u vs (evL T n o1 v (some y) l::st) p r->Exn T n one u vs (y::st) (cmpL false l++p) r
 |[],y,hy,_,_,_,_=>by
  rw[evL,cmpL];exact⟨hy,fun st p r _ h=>h⟩
 |a::l,y,hy,hok,hg,h1,hu=>by
  have hok2:a.ok=true/\zCL l=true:=by simpa[zCL]using hok
  rw[grL]at hg;rw[zAs]at h1;rw[cmpL]at hu ⊢;rw[evL,szL];have hap:=zNy a;obtain⟨a1,a2⟩:=zIz hT hA hV a hok2.1 (by omega) (fun h=>h1 (by simp[h])) (fun s hs=>hu s (by simp[hs]));obtain⟨b1,b2⟩:=zJ1 hT hA hV l (T y (a.ev T n o1 v)) (hT _ _ hy a1) hok2.2 (by omega) (fun h=>h1 (by simp[h])) (fun s hs=>hu s (by simp[hs]));refine⟨b1,fun st p r hs h=>?_⟩;rw[show a.cmp++(if false=true then []else [(2,0)])++cmpL false l++p=a.cmp++((2,0)::(cmpL false l++p)) by simp];refine a2 (y::st) _ r (by simp;omega) ?_;exact zR1 hy a1 (by omega) (b2 st p r (by omega) h)
end
theorem zDf: ∀(p:List (Int×Int)) (u:Nat->Bool) (j:Nat),u j=true->p.foldl zHO u j=true
 |[],u,j,h=>h
 |s::p,u,j,h=>by
  rw[List.foldl_cons];refine zDf p _ j ?_;unfold zHO;split
  ·simp[h]
  ·exact h
theorem zII: ∀(p:List (Int×Int)) (u:Nat->Bool) (s:Int×Int) (j:Nat),s∈p->s.1=3->s.2=(j:Int)-1->p.foldl zHO u j=true
 |s0::p,u,s,j,hm,h3,hj=>by
  rw[List.foldl_cons];rcases List.mem_cons.1 hm with rfl|hm
  ·refine zDf p _ j ?_;unfold zHO;rw[if_pos h3];simp[hj]
  ·exact zII p _ s j hm h3 hj
theorem zH7: ∀(ps:List (List (Int×Int))) (u:Nat->Bool) (j:Nat),u j=true->zIT ps u j=true
 |[],u,j,h=>h
 |p::ps,u,j,h=>zH7 ps _ j (zDf p u j h)
theorem zKz: ∀(ps:List (List (Int×Int))) (u:Nat->Bool) (p:List (Int×Int)) (s:Int×Int) (j:Nat),p∈ps->s∈p->s.1=3->s.2=(j:Int)-1->zIT ps u j=true
 |q::ps,u,p,s,j,hp,hs,h3,hj=>by
  rcases List.mem_cons.1 hp with rfl|hp
  ·exact zH7 ps _ j (zII p u s j hs h3 hj)
  ·exact zKz ps _ p s j hp hs h3 hj
mutual
theorem zGI: ∀(t:Tm),t.ok=true-> ∀s∈t.cmp,s.1=3-> -1<=s.2/\s.2<=9
 | .mk o m l,hok,s,hs,h3=>by
  obtain⟨hwf,hl⟩:=zPJ hok;rw[Tm.cmp]at hs;split at hs
  ·simp at hs;rw[hs]at h3;cases h3
  ·split at hs
   ·simp at hs;rw[hs]at h3;cases h3
   ·rcases List.mem_append.1 hs with hs|hs
    ·exact zKY true l hl s hs h3
    ·split at hs
     ·simp at hs;rw[hs];exact⟨by simp only;omega,by simp only;omega⟩
     ·cases hs
theorem zKY: ∀(b:Bool) (l:List Tm),zCL l=true-> ∀s∈cmpL b l,s.1=3-> -1<=s.2/\s.2<=9
 |b,[],_,s,hs,_=>by rw[cmpL]at hs;cases hs
 |b,a::l,hok,s,hs,h3=>by
  have hok2:a.ok=true/\zCL l=true:=by simpa[zCL]using hok
  rw[cmpL]at hs;rcases List.mem_append.1 hs with hs|hs
  ·rcases List.mem_append.1 hs with hs|hs
   ·exact zGI a hok2.1 s hs h3
   ·cases b
    ·simp at hs;rw[hs]at h3;cases h3
    ·cases hs
  ·exact zKY false l hok2.2 s hs h3
end
theorem zMz(hT: ∀r c,r<n->c<n->T r c<n)(hA:zBA n T)(hV:VIn n vs v)(t:Tm)(hval:t.val=true)(hg:t.gr<=vs.length)(h1:t.zCN=true->one=(o1:Int)/\o1<n)(ps:List (List (Int×Int)))(hps:t.cmp∈ps):
  t.ev T n o1 v<n/\Exn T n one (zIT ps zU) vs [] t.cmp (t.ev T n o1 v):=by
 obtain⟨hok,hsz⟩:=zCi hval;obtain⟨a1,a2⟩:=zIz (u:=zIT ps zU) hT hA hV t hok hg h1 (fun s hs h3=>by
  obtain⟨g1,g2⟩:=zGI t hok s hs h3;exact zKz ps zU t.cmp s (s.2+1).toNat hps hs h3 (by omega))
 refine⟨a1,?_⟩;have:=a2 [] [] (t.ev T n o1 v) (by simpa using hsz) rfl
 rwa [List.append_nil]at this
end
mutual
def Tm.vis{S:Type}(step:S->Int×Int->Int×Int->S):S->Int×Int->Tm->S
 |s,a,.mk o n l=>visL step (step s (o,n) a) (o,n) l
def visL{S:Type}(step:S->Int×Int->Int×Int->S):S->Int×Int->List Tm->S
 |s,a,[]=>s
 |s,a,t::l=>visL step (t.vis step s a) a l
end
theorem zQZ{S:Type}(step:S->Int×Int->Int×Int->S)(s:S)(a:Int×Int)(t:Tm):t.vis step s a=visL step (step s (t.op,t.n) a) (t.op,t.n) t.args:=by
 obtain⟨o,n,l⟩:=t;rw[Tm.vis];rfl
theorem zKc{S:Type}(step:S->Int×Int->Int×Int->S): ∀(l r:List Tm) (s:S) (a:Int×Int),visL step s a (l++r)=visL step (visL step s a l) a r
 |[],r,s,a=>by rw[List.nil_append,visL]
 |t::l,r,s,a=>by rw[List.cons_append,visL,visL,zKc step l r]
theorem zKF{S:Type}(step:S->Int×Int->Int×Int->S)(s:S)(a:Int×Int){l:List Tm}{k:Nat}(h:k<l.length):visL step s a (l.take (k+1))=l[k].vis step (visL step s a (l.take k)) a:=by
 rw[Qf h,zKc,visL,visL]
def abV(a:Int×Int):AV:=.agg [.t 2 (.int .i64 a.1),.t 2 (.int .i64 a.2),.any]
def scC(l:List T):List AV:=l.map (.t 2)
@[simp] theorem zUp(l:List T):(scC l).length=l.length:=by simp[scC]
def bxO(ty:Nat)(l:List T):AObj:=.box ty (scC l)
theorem zHv{H:Nat->Option AObj}{pi:List Nat}{q:Nat}: ∀{l:List T},(∀x∈l,scal x=true)->inPs H pi q (scC l) (scC l)=True
 |[],_=>rfl
 |x::l,h=>eq_true ⟨⟨rfl,.inl (h x (by simp))⟩,of_eq_true (zHv (l:=l) fun y hy=>h y (by simp[hy]))⟩
theorem zFC{po:List Nat}{q:Nat}: ∀{l:List T},(∀x∈l,scal x=true)->outVs po q (scC l)=scC l
 |[],_=>rfl
 |x::l,h=>by
  show outV po q (.t 2 x)::outVs po q (scC l)= .t 2 x::scC l;rw[zFC (fun y hy=>h y (by simp[hy]))];simp
theorem zAn{H:Nat->Option AObj}{m:Nat->Option Nat}{un:Nat->Prop}{nx:Nat}: ∀(l:List T),wkPs H m un nx (scC l) (scC l)=True
 |[]=>rfl
 |x::l=>eq_true ⟨⟨rfl,Qy _⟩,of_eq_true (zAn l)⟩
theorem zG3{S:Type}{L0:S->List T}{ty0 c0:Nat}{F:FuncId}(hF:zBy Tryz.prog F=true)(step:S->Int×Int->Int×Int->S)(hs0: ∀s,∀x∈L0 s,scal x=true)(hc0: ∀s,(L0 s).length=c0)
  (h: ∀(s:S) (t:Tm) (a:Int×Int),t.ok=true->FnS Tryz.prog F [tmV 0 t,abV a,.ptr 0 0 c0] [bxO ty0 (L0 s)] (.tup []) [bxO ty0 (L0 (step s (t.op,t.n) a))]):
  ∀(t:Tm) (s:S) (a:Int×Int),t.ok=true->t.sz<=1000->FnK Tryz.prog 152 [tmV 0 t,abV a,.fn F [.ptr 0 0 c0]] [bxO ty0 (L0 s)] (.tup []) [bxO ty0 (L0 (t.vis step s a))] (List.range 1):=by
 have hi0: ∀(H:Nat->Option AObj) (pi:List Nat) (q:Nat) (s:S),inPs H pi q (scC (L0 s)) (scC (L0 s))=True:=fun H pi q s=>zHv (hs0 s)
 have ho0: ∀(po:List Nat) (q:Nat) (s:S),outVs po q (scC (L0 s))=scC (L0 s):=fun po q s=>zFC (hs0 s)
 have hw0: ∀(H:Nat->Option AObj) (m:Nat->Option Nat) (un:Nat->Prop) (nx:Nat) (s:S),wkPs H m un nx (scC (L0 s)) (scC (L0 s))=True:=fun H m un nx s=>zAn (L0 s)
 intro t
 induction hsz:t.sz using Nat.strongRecOn generalizing t with
 |_ q ih=>
 intro s a ho hq;have hokl:zCL t.args=true:=by rw[ok_eq,Qz]at ho;exact ho.2
 have hF1:=h s t a ho;have hsl:=zHB t.args;have hse:=zIY t;rw[zQZ];refine zFZ 1 (fun _=>c0) (fun k hk=>by
  obtain rfl:k=0:=by omega
  exact⟨_,_,rfl,by simp[hc0]⟩) (fun k hk=>by
  obtain rfl:k=0:=by omega
  exact⟨_,_,rfl,by simp[hc0]⟩) Tryz.func152 rfl (by simp[Tryz.f152]) ?_
 rw[show Tryz.f152.ntmps=24 from rfl,show Tryz.f152.results= #[]from rfl];generalize step s (t.op,t.n) a=s1 at hF1 ⊢;refine rg1 (an @tmV.eq_1 @abV.eq_1) ?_;refine zF fun K hK=>?_
 simp(maxSteps:=2000000)(disch:=omega)
 (repeat' apply And.intro)
 all_goals (try omega)
 refine zD (caps:=[.ptr 0 0 c0]) (hF1) [0] [0] 1 rfl rfl rfl (by simp) (by first|assumption|kernel_rfl) (by simp) ?_ ?_ (by simp) rfl (by simp) ⟨.inr ⟨rfl,2,_,_,_,_,_,rfl,rfl,(by first|rfl|simp[hc0]),rfl,(by first|rfl|simp[hc0])⟩,trivial⟩ (by simp[bxO]) ?_
 ·simp[scal,tmV,abV,bxO]
 ·simp[bxO,hi0]
 simp(maxSteps:=2000000)(disch:=omega)[bxO,ho0]
 (repeat' first|apply hK|apply And.intro)<;>try first|omega|rfl|(simp<;>omega)
 refine rg0 ?_;refine zB ?_;refine awp_loop (fun k:Nat=>mkS [(2,.fn F [.ptr 0 0 c0]),(3,.ptr 1 0 3),(13,.t 0 (.sl 3 (cellsL t.args))),(14,.t 2 (.int .i64 t.args.length)),(15,.t 2 (.int .i64 k))] [(0,bxO ty0 (L0 (visL step s1 (t.op,t.n) (t.args.take k)))),(1,teO t)] 2 24 [.any,.any,.any,.ptr 0 0 c0]) (fun k=>k<=t.args.length) (fun k=>t.args.length-k) ?_ ?_
 ·refine⟨0,by omega,?_⟩;rw[show visL step s1 (t.op,t.n) (t.args.take 0)=s1 from by rw[List.take_zero,visL]];exact kw1 [(0,some 0),(1,some 1)] (an @teO.eq_1 (an @bxO.eq_1 (an @tmV.eq_1 (an @ghB.eq_1 (an @List.range_succ (an @hi0 (an @ho0 (an @hw0 @hc0))))))))
 intro k hk;refine rg0 ?_;refine zA ?_;by_cases hkl:k<t.args.length
 ·obtain⟨b,hb⟩: ∃b,b=t.args[k]:=⟨_,rfl⟩;have hcut:=zA9 t.args k hkl;rw[←hb,Tm.zAq]at hcut;have ham:b∈t.args:=by rw[hb];exact List.getElem_mem hkl
  have hlt:=zKP ham;have htv:=zKF step s1 (t.op,t.n) hkl;rw[←hb]at htv;have hA:=ih b.sz (by omega) b rfl (visL step s1 (t.op,t.n) (t.args.take k)) (t.op,t.n) (zDQ.1 hokl b ham) (by omega);rw[←htv]at hA;refine cK1 @hkl ?_;refine zA ?_;refine zB ?_;refine rg1 (an @hcut (an @hkl @teO.eq_1)) ?_;refine zAT fun K hK=>?_
  simp(maxSteps:=2000000)(disch:=omega)
  (repeat' apply And.intro)
  all_goals (try omega)
  refine zAk (caps:=[]) (hA) [0] [0] 1 rfl rfl rfl rfl (by kernel_rfl) (by simp) ?_ ?_ (by simp) rfl (by simp) ⟨.inr (.inr ⟨rfl,by simp,by simp⟩),trivial⟩ (by simp[bxO]) ?_
  ·simp[scal,tmV,abV,bxO]
  ·simp[bxO,hi0]
  simp(maxSteps:=2000000)(disch:=omega)[bxO,ho0];and_intros<;>try first|apply hK|omega|rfl|simp<;>omega
  refine rr0 ?_;refine⟨k+1,by omega,by omega,?_⟩;exact kw1 [(0,some 0),(1,some 1)] (an @teO.eq_1 (an @bxO.eq_1 (an @hi0 (an @ho0 (an @hw0 @hc0)))))
 ·obtain rfl:k=t.args.length:=by omega
  rw[List.take_length];refine cF0 ?_;refine zE ?_;refine⟨⟨.inl rfl,_,[(0,some 0)],rfl,?_,?_,?_,?_⟩,?_⟩
  all_goals simp[bxO,ghB,List.range_succ,tmV,abV,hw0]
theorem zHE{S:Type}{L0:S->List T}{L1:S->List T}{ty0 c0:Nat}{ty1 c1:Nat}{F:FuncId}(hF:zBy Tryz.prog F=true)(step:S->Int×Int->Int×Int->S)(hs0: ∀s,∀x∈L0 s,scal x=true)(hc0: ∀s,(L0 s).length=c0)(hs1: ∀s,∀x∈L1 s,scal x=true)(hc1: ∀s,(L1 s).length=c1)
  (h: ∀(s:S) (t:Tm) (a:Int×Int),t.ok=true->FnS Tryz.prog F [tmV 0 t,abV a,.ptr 0 0 c0,.ptr 1 0 c1] [bxO ty0 (L0 s),bxO ty1 (L1 s)] (.tup []) [bxO ty0 (L0 (step s (t.op,t.n) a)),bxO ty1 (L1 (step s (t.op,t.n) a))]):
  ∀(t:Tm) (s:S) (a:Int×Int),t.ok=true->t.sz<=1000->FnK Tryz.prog 152 [tmV 0 t,abV a,.fn F [.ptr 0 0 c0,.ptr 1 0 c1]] [bxO ty0 (L0 s),bxO ty1 (L1 s)] (.tup []) [bxO ty0 (L0 (t.vis step s a)),bxO ty1 (L1 (t.vis step s a))] (List.range 2):=by
 have hi0: ∀(H:Nat->Option AObj) (pi:List Nat) (q:Nat) (s:S),inPs H pi q (scC (L0 s)) (scC (L0 s))=True:=fun H pi q s=>zHv (hs0 s)
 have ho0: ∀(po:List Nat) (q:Nat) (s:S),outVs po q (scC (L0 s))=scC (L0 s):=fun po q s=>zFC (hs0 s)
 have hw0: ∀(H:Nat->Option AObj) (m:Nat->Option Nat) (un:Nat->Prop) (nx:Nat) (s:S),wkPs H m un nx (scC (L0 s)) (scC (L0 s))=True:=fun H m un nx s=>zAn (L0 s)
 have hi1: ∀(H:Nat->Option AObj) (pi:List Nat) (q:Nat) (s:S),inPs H pi q (scC (L1 s)) (scC (L1 s))=True:=fun H pi q s=>zHv (hs1 s)
 have ho1: ∀(po:List Nat) (q:Nat) (s:S),outVs po q (scC (L1 s))=scC (L1 s):=fun po q s=>zFC (hs1 s)
 have hw1: ∀(H:Nat->Option AObj) (m:Nat->Option Nat) (un:Nat->Prop) (nx:Nat) (s:S),wkPs H m un nx (scC (L1 s)) (scC (L1 s))=True:=fun H m un nx s=>zAn (L1 s)
 intro t
 induction hsz:t.sz using Nat.strongRecOn generalizing t with
 |_ q ih=>
 intro s a ho hq;have hokl:zCL t.args=true:=by rw[ok_eq,Qz]at ho;exact ho.2
 have hF1:=h s t a ho;have hsl:=zHB t.args;have hse:=zIY t;rw[zQZ];refine zFZ 2 (fun k=>if k=0 then c0 else c1) (fun k hk=>by
  rcases(by omega:k=0\/k=1)with rfl|rfl
  ·exact⟨_,_,rfl,by simp[hc0]⟩
  ·exact⟨_,_,rfl,by simp[hc1]⟩) (fun k hk=>by
  rcases(by omega:k=0\/k=1)with rfl|rfl
  ·exact⟨_,_,rfl,by simp[hc0]⟩
  ·exact⟨_,_,rfl,by simp[hc1]⟩) Tryz.func152 rfl (by simp[Tryz.f152]) ?_
 rw[show Tryz.f152.ntmps=24 from rfl,show Tryz.f152.results= #[]from rfl];generalize step s (t.op,t.n) a=s1 at hF1 ⊢;refine rg1 (an @tmV.eq_1 @abV.eq_1) ?_;refine zF fun K hK=>?_
 simp(maxSteps:=2000000)(disch:=omega)
 (repeat' apply And.intro)
 all_goals (try omega)
 refine zD (caps:=[.ptr 0 0 c0,.ptr 1 0 c1]) (hF1) [0,1] [0,1] 1 rfl rfl rfl (by simp) (by first|assumption|kernel_rfl) (by simp) ?_ ?_ (by simp) rfl (by simp) ⟨.inr ⟨rfl,2,_,_,_,_,_,rfl,rfl,(by first|rfl|simp[hc0]),rfl,(by first|rfl|simp[hc0])⟩,.inr ⟨rfl,3,_,_,_,_,_,rfl,rfl,(by first|rfl|simp[hc1]),rfl,(by first|rfl|simp[hc1])⟩,trivial⟩ (by simp[bxO]) ?_
 ·simp[scal,tmV,abV,bxO]
 ·simp[bxO,hi0,hi1]
 simp(maxSteps:=2000000)(disch:=omega)[bxO,ho0,ho1]
 (repeat' first|apply hK|apply And.intro)<;>try first|omega|rfl|(simp<;>omega)
 refine rg0 ?_;refine zB ?_;refine awp_loop (fun k:Nat=>mkS [(2,.fn F [.ptr 0 0 c0,.ptr 1 0 c1]),(3,.ptr 2 0 3),(13,.t 0 (.sl 3 (cellsL t.args))),(14,.t 2 (.int .i64 t.args.length)),(15,.t 2 (.int .i64 k))] [(0,bxO ty0 (L0 (visL step s1 (t.op,t.n) (t.args.take k)))),(1,bxO ty1 (L1 (visL step s1 (t.op,t.n) (t.args.take k)))),(2,teO t)] 3 24 [.any,.any,.any,.ptr 0 0 c0,.ptr 1 0 c1]) (fun k=>k<=t.args.length) (fun k=>t.args.length-k) ?_ ?_
 ·refine⟨0,by omega,?_⟩;rw[show visL step s1 (t.op,t.n) (t.args.take 0)=s1 from by rw[List.take_zero,visL]];exact kw1 [(0,some 0),(1,some 1),(2,some 2)] (an @teO.eq_1 (an @bxO.eq_1 (an @tmV.eq_1 (an @ghB.eq_1 (an @List.range_succ (an @hi0 (an @ho0 (an @hw0 (an @hc0 (an @hi1 (an @ho1 (an @hw1 @hc1))))))))))))
 intro k hk;refine rg0 ?_;refine zA ?_;by_cases hkl:k<t.args.length
 ·obtain⟨b,hb⟩: ∃b,b=t.args[k]:=⟨_,rfl⟩;have hcut:=zA9 t.args k hkl;rw[←hb,Tm.zAq]at hcut;have ham:b∈t.args:=by rw[hb];exact List.getElem_mem hkl
  have hlt:=zKP ham;have htv:=zKF step s1 (t.op,t.n) hkl;rw[←hb]at htv;have hA:=ih b.sz (by omega) b rfl (visL step s1 (t.op,t.n) (t.args.take k)) (t.op,t.n) (zDQ.1 hokl b ham) (by omega);rw[←htv]at hA;refine cK1 @hkl ?_;refine zA ?_;refine zB ?_;refine rg1 (an @hcut (an @hkl @teO.eq_1)) ?_;refine zAT fun K hK=>?_
  simp(maxSteps:=2000000)(disch:=omega)
  (repeat' apply And.intro)
  all_goals (try omega)
  refine zAk (caps:=[]) (hA) [0,1] [0,1] 1 rfl rfl rfl rfl (by kernel_rfl) (by simp) ?_ ?_ (by simp) rfl (by simp) ⟨.inr (.inr ⟨rfl,by simp,by simp⟩),.inr (.inr ⟨rfl,by simp,by simp⟩),trivial⟩ (by simp[bxO]) ?_
  ·simp[scal,tmV,abV,bxO]
  ·simp[bxO,hi0,hi1]
  simp(maxSteps:=2000000)(disch:=omega)[bxO,ho0,ho1];and_intros<;>try first|apply hK|omega|rfl|simp<;>omega
  refine rr0 ?_;refine⟨k+1,by omega,by omega,?_⟩;exact kw1 [(0,some 0),(1,some 1),(2,some 2)] (an @teO.eq_1 (an @bxO.eq_1 (an @hi0 (an @ho0 (an @hw0 (an @hc0 (an @hi1 (an @ho1 (an @hw1 @hc1)))))))))
 ·obtain rfl:k=t.args.length:=by omega
  rw[List.take_length];refine cF0 ?_;refine zE ?_;refine⟨⟨.inl rfl,_,[(0,some 0),(1,some 1)],rfl,?_,?_,?_,?_⟩,?_⟩
  all_goals simp[bxO,ghB,List.range_succ,tmV,abV,hw0,hw1]
def vaS(s:Int)(h a:Int×Int):Int:=if h.1=2 then(if s<h.2+1 then h.2+1 else s)else s
def hoS(s:Bool)(h a:Int×Int):Bool:=s||decide (h.1=1)
mutual
theorem zQh: ∀(t:Tm) (s:Int) (a:Int×Int),t.ok=true->0<=s->t.vis vaS s a=max s (t.gr:Int)
 | .mk o n l,s,a,hok,hs=>by
  obtain⟨hwf,hl⟩:=zPJ hok;rw[Tm.vis,Tm.gr];have h1:vaS s (o,n) a=max s ((if o=2 then n.toNat+1 else 0:Nat):Int):=by
   unfold vaS;by_cases h:o=2
   ·rw[if_pos h,if_pos h];simp only;split<;>omega
   ·rw[if_neg h,if_neg h];omega
  rw[h1,zN0 l _ _ hl (by omega)];omega
theorem zN0: ∀(l:List Tm) (s:Int) (a:Int×Int),zCL l=true->0<=s->visL vaS s a l=max s (grL l:Int)
 |[],s,a,_,hs=>by rw[visL,grL];omega
 |t::l,s,a,hok,hs=>by
  have hok2:t.ok=true/\zCL l=true:=by simpa[zCL]using hok
  rw[visL,grL,zQh t s a hok2.1 hs,zN0 l _ a hok2.2 (by omega)];omega
end
mutual
theorem zQd: ∀(t:Tm) (s:Bool) (a:Int×Int),t.vis hoS s a=(s||t.zCN)
 | .mk o n l,s,a=>by
  rw[Tm.vis,Tm.zCN,zOM l];unfold hoS;rw[Bool.or_assoc]
theorem zOM: ∀(l:List Tm) (s:Bool) (a:Int×Int),visL hoS s a l=(s||zAs l)
 |[],s,a=>by rw[visL,zAs,Bool.or_false]
 |t::l,s,a=>by rw[visL,zAs,zQd t s a,zOM l,Bool.or_assoc]
end
theorem zOw{l:List Tm}{k:Nat}(h:k<l.length):grL (l.take (k+1))=max (grL (l.take k)) l[k].gr:=by
 have: ∀l r:List Tm,grL (l++r)=max (grL l) (grL r):=fun l r=>by
  induction l with
  |nil=>rw[List.nil_append,grL];omega
  |cons a l ih=>rw[List.cons_append,grL,grL,ih];omega
 rw[Qf h,this,grL,grL];omega
theorem zLp{l:List Tm}{k:Nat}(h:k<l.length):zAs (l.take (k+1))=(zAs (l.take k)||l[k].zCN):=by
 have: ∀l r:List Tm,zAs (l++r)=(zAs l||zAs r):=fun l r=>by
  induction l with
  |nil=>rw[List.nil_append,zAs,Bool.false_or]
  |cons a l ih=>rw[List.cons_append,zAs,zAs,ih,Bool.or_assoc]
 rw[Qf h,this,zAs,zAs,Bool.or_false]
def inL(s:Int):List T:=[.int .i64 s]
def boL(s:Bool):List T:=[.bool s]
theorem zVF(h:3<Tryz.prog.types.size):(Tryz.prog.types[3]'h).size=1:=by rfl
theorem zTY(h:4<Tryz.prog.types.size):(Tryz.prog.types[4]'h).size=1:=by rfl
theorem zPv(s:Int)(t:Tm)(a:Int×Int)(ho:t.ok=true):FnS Tryz.prog 178 [tmV 0 t,abV a,.ptr 0 0 1] [bxO 3 (inL s)] (.tup []) [bxO 3 (inL (vaS s (t.op,t.n) a))]:=by
 have hwf:t.wf=true:=by rw[ok_eq,Qz]at ho;exact ho.1
 unfold Tm.wf at hwf;rw[decide_eq_true_iff]at hwf;refine fI 13 #[] Tryz.func178 rfl ?_;refine rg1 (an @tmV.eq_1 (an @abV.eq_1 (an @bxO.eq_1 (an @scC.eq_1 @inL.eq_1)))) ?_;refine rg1 (an @zAF (an @bxO.eq_1 (an @scC.eq_1 @inL.eq_1))) ?_;by_cases e:t.op=2
 ·have hr:vaS s (t.op,t.n) a=if s<t.n+1 then t.n+1 else s:=by unfold vaS;rw[if_pos e]
  refine cT1 @e ?_;refine zAT fun K hK=>?_
  simp(maxSteps:=2000000)(disch:=omega)[zBs]
  (repeat' first|apply hK|apply And.intro)<;>try first|omega|rfl|(simp<;>omega)
  refine⟨_,[(0,some 0)],(by first|rfl|(simp[ints,rows,scal,tmV,abV,bxO,scC,inL,hr];rfl)),?_,?_,?_,?_⟩
  all_goals try simp[bxO,scC,inL,hr]
 ·have hr:vaS s (t.op,t.n) a=s:=by unfold vaS;rw[if_neg e]
  refine cF1 @e ?_;refine zQ ?_;refine⟨⟨.inl rfl,_,[(0,some 0)],rfl,?_,?_,?_,?_⟩,?_⟩
  all_goals simp[tmV,abV,bxO,scC,inL,hr]
theorem zLT(s:Bool)(t:Tm)(a:Int×Int)(ho:t.ok=true):FnS Tryz.prog 153 [tmV 0 t,abV a,.ptr 0 0 1] [bxO 4 (boL s)] (.tup []) [bxO 4 (boL (hoS s (t.op,t.n) a))]:=by
 refine fI 11 #[] Tryz.func153 rfl ?_;refine rg1 (an @tmV.eq_1 (an @abV.eq_1 (an @bxO.eq_1 (an @scC.eq_1 @boL.eq_1)))) ?_
 cases s with
 |true=>
  refine zAT fun K hK=>?_
  simp(maxSteps:=2000000)(disch:=omega)
  (repeat' first|apply hK|apply And.intro)<;>try first|omega|rfl|(simp<;>omega)
  refine⟨_,[(0,some 0)],(by first|rfl|(simp[ints,rows,scal,tmV,abV,bxO,scC,boL,hoS];rfl)),?_,?_,?_,?_⟩
  all_goals try simp[bxO,scC,boL,hoS]
 |false=>
  refine zAT fun K hK=>?_
  simp(maxSteps:=2000000)(disch:=omega)
  (repeat' first|apply hK|apply And.intro)<;>try first|omega|rfl|(simp<;>omega)
  refine⟨_,[(0,some 0)],(by first|rfl|(simp[ints,rows,scal,tmV,abV,bxO,scC,boL,hoS];rfl)),?_,?_,?_,?_⟩
  all_goals try simp[bxO,scC,boL,hoS]
  all_goals (by_cases h:t.op=1<;>simp[h])
theorem zSM(ts:List Tm)(hts:ts.length<=1000)(hok: ∀t∈ts,t.ok=true/\t.sz<=1000):FnA Tryz.prog 155 [.t 0 (.sl 3 (cellsL ts))] (.t 2 (.int .i64 (grL ts:Nat))):=by
 refine fI 18 #[.tmp 2] Tryz.func155 rfl ?_;refine rg0 ?_;refine rg1 @zVF ?_;refine zA ?_;refine rg0 ?_;refine zB ?_;refine awp_loop (fun k:Nat=>mkS [(3,.ptr 0 0 1),(6,.t 0 (.sl 3 (cellsL ts))),(7,.t 2 (.int .i64 ts.length)),(8,.t 2 (.int .i64 k))] [(0,bxO 3 (inL (grL (ts.take k):Nat)))] 1 18 [.any]) (fun k=>k<=ts.length) (fun k=>ts.length-k) ?_ ?_
 ·refine⟨0,by omega,?_⟩;refine zH [(0,some 1000000)] rfl ?_ ?_ ?_ ?_
  all_goals try simp[bxO,scC,inL,grL]
 intro k hk;refine rg0 ?_;refine zA ?_;by_cases hkl:k<ts.length
 ·obtain⟨b,hb⟩: ∃b,b=ts[k]:=⟨_,rfl⟩;have hcut:=zA9 ts k hkl;have hgt:=zOw hkl;rw[←hb]at hcut hgt;rw[Tm.zAq]at hcut;obtain⟨hbo,hbs⟩:=hok b (by rw[hb];exact List.getElem_mem hkl);have hV:=zG3 (S:=Int) (L0:=inL) (ty0:=3) (c0:=1) (F:=178) (by kernel_rfl) vaS (fun s x hx=>by simp[inL]at hx;subst hx;rfl) (fun s=>rfl) zPv b (grL (ts.take k):Nat) (0,0) hbo hbs;rw[zQh b _ _ hbo (by omega),show max ((grL (ts.take k):Nat):Int) (b.gr:Int)=((grL (ts.take (k+1)):Nat):Int) by rw[hgt];omega]at hV;refine cK1 @hkl ?_;refine zA ?_;refine zB ?_;refine rg1 (an @hcut @hkl) ?_;refine zAT fun K hK=>?_
  simp(maxSteps:=2000000)(disch:=omega)
  (repeat' apply And.intro)
  all_goals (try omega)
  refine zAk (caps:=[]) (hV) [0] [0] 1 rfl rfl rfl rfl (by kernel_rfl) (by simp) ?_ ?_ (by simp) rfl (by simp) ⟨.inr (.inr ⟨rfl,by simp,by simp⟩),trivial⟩ (by simp[bxO,scC,inL]) ?_
  ·simp[scal,tmV,abV,bxO,scC,inL]
  ·simp[scal,bxO,scC,inL]
  simp(maxSteps:=2000000)(disch:=omega)[scal,bxO,scC,inL];and_intros<;>try first|apply hK|omega|rfl|simp<;>omega
  refine rr0 ?_;refine⟨k+1,by omega,by omega,?_⟩;exact kw1 [(0,some 0)] (an @bxO.eq_1 (an @scC.eq_1 @inL.eq_1))
 ·obtain rfl:k=ts.length:=by omega
  rw[List.take_length];refine cF0 ?_;refine zE ?_;refine rg1 (an @bxO.eq_1 (an @scC.eq_1 @inL.eq_1)) ?_;exact zC rt0
theorem zHd(ts:List Tm)(hts:ts.length<=1000)(hok: ∀t∈ts,t.ok=true/\t.sz<=1000):FnA Tryz.prog 96 [.t 0 (.sl 3 (cellsL ts))] (.t 2 (.bool (zAs ts))):=by
 refine fI 18 #[.tmp 2] Tryz.func96 rfl ?_;refine rg0 ?_;refine rg1 @zTY ?_;refine zA ?_;refine rg0 ?_;refine zB ?_;refine awp_loop (fun k:Nat=>mkS [(3,.ptr 0 0 1),(6,.t 0 (.sl 3 (cellsL ts))),(7,.t 2 (.int .i64 ts.length)),(8,.t 2 (.int .i64 k))] [(0,bxO 4 (boL (zAs (ts.take k))))] 1 18 [.any]) (fun k=>k<=ts.length) (fun k=>ts.length-k) ?_ ?_
 ·refine⟨0,by omega,?_⟩;refine zH [(0,some 1000000)] rfl ?_ ?_ ?_ ?_
  all_goals try simp[bxO,scC,boL,zAs]
 intro k hk;refine rg0 ?_;refine zA ?_;by_cases hkl:k<ts.length
 ·obtain⟨b,hb⟩: ∃b,b=ts[k]:=⟨_,rfl⟩;have hcut:=zA9 ts k hkl;have hgt:=zLp hkl;rw[←hb]at hcut hgt;rw[Tm.zAq]at hcut;obtain⟨hbo,hbs⟩:=hok b (by rw[hb];exact List.getElem_mem hkl);have hV:=zG3 (S:=Bool) (L0:=boL) (ty0:=4) (c0:=1) (F:=153) (by kernel_rfl) hoS (fun s x hx=>by simp[boL]at hx;subst hx;rfl) (fun s=>rfl) zLT b (zAs (ts.take k)) (0,0) hbo hbs;rw[zQd b,←hgt]at hV;refine cK1 @hkl ?_;refine zA ?_;refine zB ?_;refine rg1 (an @hcut @hkl) ?_;refine zAT fun K hK=>?_
  simp(maxSteps:=2000000)(disch:=omega)
  (repeat' apply And.intro)
  all_goals (try omega)
  refine zAk (caps:=[]) (hV) [0] [0] 1 rfl rfl rfl rfl (by kernel_rfl) (by simp) ?_ ?_ (by simp) rfl (by simp) ⟨.inr (.inr ⟨rfl,by simp,by simp⟩),trivial⟩ (by simp[bxO,scC,boL]) ?_
  ·simp[scal,tmV,abV,bxO,scC,boL]
  ·simp[scal,bxO,scC,boL]
  simp(maxSteps:=2000000)(disch:=omega)[scal,bxO,scC,boL];and_intros<;>try first|apply hK|omega|rfl|simp<;>omega
  refine rr0 ?_;refine⟨k+1,by omega,by omega,?_⟩;exact kw1 [(0,some 0)] (an @bxO.eq_1 (an @scC.eq_1 @boL.eq_1))
 ·obtain rfl:k=ts.length:=by omega
  rw[List.take_length];refine cF0 ?_;refine zE ?_;refine rg1 (an @bxO.eq_1 (an @scC.eq_1 @boL.eq_1)) ?_;exact zC rt0
theorem zTD{a b:Tm}(h:a.val=true/\b.val=true):vId a b=0:=by unfold vId vTm;rw[if_pos h.1,if_pos h.2]
theorem zUd{a b:Tm}(h: ¬(a.val=true/\b.val=true)):vId a b=21:=by
 unfold vId vTm;by_cases h1:a.val=true
 ·rw[if_pos h1,if_neg (fun h2=>h ⟨h1,h2⟩)]
 ·rw[if_neg h1]
theorem zJd:List.range 6=[0,1,2,3,4,5]:=rfl
theorem zIW{a b:Tm}(h:a.val=true/\b.val=true): ∀t∈[a,b],t.ok=true/\t.sz<=1000:=fun t ht=>by
 simp at ht;rcases ht with rfl|rfl
 ·have:=zCi h.1;exact⟨this.1,by omega⟩
 ·have:=zCi h.2;exact⟨this.1,by omega⟩
theorem zNp(a b:Tm):cellsL [a,b]=[.int .i64 a.op,.int .i64 a.n,.sl 3 (cellsL a.args),.int .i64 b.op,.int .i64 b.n,.sl 3 (cellsL b.args)]:=by
 show a.cells++(b.cells++[])=_;rw[Tm.zAq,Tm.zAq];rfl
theorem zBx(t:List (List Int)):FnA Tryz.prog 93 [.t 0 (rows t)] (.t 2 (.int .i64 (zCQ t))):=by
 intro w V ob vs hm hn hv;have g0:=(hv 0 _ rfl).rep;rw[vs1 hn];refine(zIA w _ t (zPl zOx g0)).mono ?_;rintro e w' ⟨rfl,hbel⟩;exact⟨_,ob,rfl,hm.after hbel,.mkInt _ _ _ _,zTF (by simp)⟩
def zI3(T:Nat->Nat->Nat)(k e:Nat):Bool:=(List.range k).all fun x=>decide (T e x=x)&&decide (T x e=x)
theorem zH6(T:Nat->Nat->Nat)(k e:Nat):zI3 T (k+1) e=(zI3 T k e&&(decide (T e k=k)&&decide (T k e=k))):=by
 unfold zI3;rw[List.range_succ,List.all_append];simp
theorem zOh{T:Nat->Nat->Nat}{e:Nat}: ∀{k n:Nat},k<=n->zI3 T k e=false->zI3 T n e=false:=fun {k n} h hf=>by
 obtain⟨d,rfl⟩: ∃d,n=k+d:=⟨n-k,by omega⟩;clear h
 induction d with
 |zero=>exact hf
 |succ d ih=>rw[show k+(d+1)=(k+d)+1 by omega,zH6,ih];rfl
def idG(T:Nat->Nat->Nat)(n:Nat):Nat->Nat->Int
 |0,e=>-1
 |f+1,e=>if zI3 T n e=true then(e:Int)else idG T n f (e+1)
def idI(T:Nat->Nat->Nat)(n:Nat):Int:=idG T n n 0
theorem zNh(tb:List (List Int))(n:Nat)(T:Nat->Nat->Nat)(ht:TbL tb n T)(hn:n<=1000)(e:Nat)(he:e<n):
  FnS Tryz.prog 151 [.t 2 (.int .i64 (e:Nat)),.ptr 0 0 1] [.box 25 [.t 1 (rows tb)]] (.t 2 (.bool (zI3 T n e))) [.box 25 [.t 1 (rows tb)]]:=by
 have htl:=ht.len;refine fI 31 #[.tmp 3] Tryz.func151 rfl ?_;refine rg0 ?_;refine zA ?_;refine rg0 ?_;refine zB ?_;refine awp_loop (fun k:Nat=>mkS [(0,.t 2 (.int .i64 (e:Nat))),(1,.ptr 0 0 1),(6,.t 2 (.int .i64 (n:Nat))),(7,.t 2 (.int .i64 (k:Nat)))] [(0,.box 25 [.t 1 (rows tb)])] 1 31 [.any,.ptr 0 0 1]) (fun k=>k<=n/\zI3 T k e=true) (fun k=>n-k) ?_ ?_
 ·refine⟨0,⟨by omega,rfl⟩,?_⟩;exact kw1 [(0,some 0)] (an @rows.eq_1 @htl)
 rintro k ⟨hk,hid⟩;refine rg0 ?_;refine zA ?_;by_cases hkn:k<n
 ·obtain⟨g1,g2,g3⟩:=ht.get he hkn;obtain⟨g4,g5,g6⟩:=ht.get hkn he;have hs:=zH6 T k e;rw[hid,Bool.true_and]at hs;refine cK1 @hkn ?_;refine zA ?_;refine zB ?_;refine rg0 ?_;by_cases e1:T e k=k
  ·by_cases e2:T k e=k
   ·have hgo:zI3 T (k+1) e=true:=by rw[hs];simp[e1,e2]
    have e1':((T e k:Nat):Int)=(k:Int):=by rw[e1]
    have e2':((T k e:Nat):Int)=(k:Int):=by rw[e2]
    refine rg1 (an @g1 (an @g2 (an @g3 (an @g4 (an @g5 (an @g6 (an @e1 @e2))))))) ?_;refine cY1 (an @e1 @e2) ?_;refine rr0 ?_;refine⟨k+1,⟨by omega,hgo⟩,by omega,?_⟩;exact kw1 [(0,some 0)] @rows.eq_1
   ·have hno:zI3 T n e=false:=zOh (k:=k+1) (by omega) (by rw[hs];simp[e2]);refine rg1 (an @g1 (an @g2 (an @g3 (an @g4 (an @g5 (an @g6 (an @e1 @e2))))))) ?_;refine cT1 (an @e1 @e2) ?_;refine rg0 ?_;refine zC ?_;exact zCx @hno
  ·have hno:zI3 T n e=false:=zOh (k:=k+1) (by omega) (by rw[hs];simp[e1]);have e1b:(((T e k:Nat):Int) !=(k:Int))=true:=by simp;omega
   refine rg1 (an @g1 (an @g2 (an @g3 (an @g4 (an @g5 (an @g6 (an @e1 @e1b))))))) ?_;refine cT1 @e1 ?_;refine rg0 ?_;refine zC ?_;exact zCx @hno
 ·obtain rfl:k=n:=by omega
  refine cF0 ?_;refine zE ?_;refine rg0 ?_;refine zC ?_;exact zCx @hid
theorem zMO(tb:List (List Int))(n:Nat)(T:Nat->Nat->Nat)(ht:TbL tb n T)(hn:n<=1000):
  FnS Tryz.prog 149 [.t 0 (ints (tab n fun i=>(i:Int))),.fn 151 [.ptr 0 0 1]] [.box 25 [.t 1 (rows tb)]] (.t 2 (.int .i64 (idI T n))) [.box 25 [.t 1 (rows tb)]]:=by
 refine fI 19 #[.tmp 4] Tryz.func149 rfl ?_;refine rg0 ?_;refine zA ?_;refine rg0 ?_;refine zB ?_;refine awp_loop (fun k:Nat=>mkS [(0,.t 0 (ints (tab n fun i=>(i:Int)))),(1,.fn 151 [.ptr 0 0 1]),(7,.t 2 (.int .i64 (n:Nat))),(8,.t 2 (.int .i64 (k:Nat)))] [(0,.box 25 [.t 1 (rows tb)])] 1 19 [.any,.any]) (fun k=>k<=n/\idI T n=idG T n (n-k) k) (fun k=>n-k) ?_ ?_
 ·refine⟨0,⟨by omega,rfl⟩,?_⟩;exact kw1 [(0,some 0)] @rows.eq_1
 rintro k ⟨hk,hid⟩;refine rg0 ?_;refine zA ?_;by_cases hkn:k<n
 ·have h1:=zNh tb n T ht hn k hkn;rw[show n-k=(n-(k+1))+1 by omega,idG]at hid;refine cK1 @hkn ?_;refine zA ?_;refine zB ?_;refine rg0 ?_;refine zF fun K hK=>?_
  simp(maxSteps:=2000000)(disch:=omega)[hkn]
  (repeat' apply And.intro)
  all_goals (try omega)
  refine zD (caps:=[.ptr 0 0 1]) (h1) [0] [0] 1 rfl rfl rfl (by simp) (by first|assumption|kernel_rfl) (by simp) ?_ ?_ (by simp) rfl (by simp) ⟨.inr ⟨rfl,1,_,_,_,_,_,rfl,rfl,(by first|rfl|simp),rfl,(by first|rfl|simp)⟩,trivial⟩ (by simp) ?_
  ·simp[scal]
  ·simp[scal,rows]
  simp(maxSteps:=2000000)(disch:=omega)[rows,scal,rows]
  (repeat' first|apply hK|apply And.intro)<;>try first|omega|rfl|(simp<;>omega)
  by_cases e:zI3 T n k=true
  ·rw[if_pos e]at hid;refine cT1 @e ?_;refine rg0 ?_;refine zC ?_;exact zCx @hid
  ·rw[if_neg e]at hid;refine cY1 @e ?_;refine rr0 ?_;refine⟨k+1,⟨by omega,hid⟩,by omega,?_⟩;exact kw1 [(0,some 0)] @rows.eq_1
 ·obtain rfl:k=n:=by omega
  rw[Nat.sub_self]at hid;have hid:idI T k= -1:=hid;refine cF0 ?_;refine zE ?_;refine rg0 ?_;refine zC ?_;exact zCx @hid
theorem zJF(tb:List (List Int))(hn:tb.length<=1000000):FnA Tryz.prog 150 [.t 0 (rows tb)] (.t 2 (ints (tab tb.length fun i=>(i:Int)))):=by
 refine fI 19 #[.tmp 2] Tryz.func150 rfl ?_;refine rg0 ?_;refine rg0 ?_;refine zA ?_;refine rg0 ?_;refine zB ?_;refine awp_loop (fun k:Nat=>mkS [(3,.own 0 tb.length),(9,.t 2 (.int .i64 tb.length)),(10,.t 2 (.int .i64 k))] [(0,.row 3 1 2 (tab tb.length fun i=>.int .i64 (if i<k then(i:Int)else 0)))] 1 19 [.any]) (fun k=>k<=tb.length) (fun k=>tb.length-k) ?_ ?_
 ·refine⟨0,by omega,?_⟩;exact kw1 [(0,some 3000000)] @zz
 ·intro k hk;refine rg0 ?_;by_cases hlt:k<tb.length
  ·refine zA ?_;refine cT1 @hlt ?_;refine zQ ?_;refine zA ?_;refine zB ?_;refine rg0 ?_;refine rr1 @hlt ?_;refine rr0 ?_;refine⟨k+1,by omega,by omega,?_⟩;refine zH [(0,some 0)] rfl ?_ ?_ ?_ ?_
   all_goals try simp
   rw[zb];refine zK (fun i hi=>?_);by_cases e:i=k
   ·simp[e]
   ·rw[if_neg e];by_cases e2:i<k
    ·rw[if_pos e2,if_pos (by omega)]
    ·rw[if_neg e2,if_neg (by omega)]
  ·refine zA ?_;refine cF1 @hlt ?_;refine zE ?_;refine rg0 ?_;refine zC ?_;refine⟨⟨.inr rfl,_,[],rfl,trivial,trivial,by simp,?_⟩,by simp⟩;simp[ints];rw[zT];refine zK (fun i hi=>?_);rw[if_pos (by omega)]
theorem zJW(tb:List (List Int))(v1:zCQ tb=0):FnA Tryz.prog 148 [.t 0 (rows tb)] (.t 2 (.bool true)):=by
 have h1:=zBx tb;rw[v1]at h1;refine fI 6 #[.tmp 2] Tryz.func148 rfl ?_;refine rg0 ?_;refine rc0 h1 ?_;exact zC rt0
theorem zEH(tb:List (List Int))(v1:zCQ tb=0):FnA Tryz.prog 95 [.t 0 (rows tb)] (.t 2 (.int .i64 (idI (zP tb) tb.length))):=by
 obtain⟨hl0,hl4⟩:=zC1 v1;have h1:=zJW tb v1;have h2:=zJF tb (by omega);have h3:=zMO tb tb.length (zP tb) (TbL.of v1) (by omega);refine fI 10 #[.tmp 2] Tryz.func95 rfl ?_;refine rg0 ?_;refine zA ?_;refine rc0 h1 ?_;refine cS0 ?_;refine zF fun K hK=>?_
 simp(maxSteps:=2000000)(disch:=omega)
 (repeat' apply And.intro)
 all_goals (try omega)
 refine zD (caps:=[]) (h2) [] [] 2 rfl rfl rfl rfl (by kernel_rfl) (by simp) ?_ trivial trivial rfl trivial trivial (by simp) ?_
 ·simp[scal,rows]
 simp(maxSteps:=2000000)(disch:=omega)[ints,scal]
 (repeat' apply And.intro)
 all_goals (try omega)
 refine zD (caps:=[]) (h3) [0] [8000000] 0 rfl rfl rfl rfl (by kernel_rfl) (by simp) ?_ ?_ (by simp) rfl (by simp) ⟨.inl ⟨by omega,by omega⟩,trivial⟩ (by simp) ?_
 ·simp[scal,ints]
 ·simp[scal,rows]
 simp(maxSteps:=2000000)(disch:=omega)[rows,scal]
 (repeat' first|apply hK|apply And.intro)<;>try first|omega|rfl|(simp<;>omega)
 exact zC rt0
structure zI6(T:Nat->Nat->Nat)(n:Nat)(set:List Int):Prop where
 rng: ∀i (h:i<set.length),0<=set[i]/\set[i]<(n:Int)
 asc: ∀i (h:i+1<set.length),set[i]<set[i+1]
 mul: ∀x∈set,∀y∈set,((T x.toNat y.toNat:Nat):Int)∈set
open Classical in
noncomputable def zDB(T:Nat->Nat->Nat)(n:Nat)(set:List Int):Bool:=decide (zI6 T n set)
open Classical in
theorem zJS{T:Nat->Nat->Nat}{n:Nat}{set:List Int}(h:zI6 T n set):zDB T n set=true:=by unfold zDB;exact decide_eq_true h
open Classical in
theorem zJJ{T:Nat->Nat->Nat}{n:Nat}{set:List Int}(h: ¬zI6 T n set):zDB T n set=false:=by unfold zDB;exact decide_eq_false h
def inR(n:Nat)(l:List Int):List T:=tab n fun j=>.bool (decide ((j:Int)∈l))
@[simp] theorem zUS(n:Nat)(l:List Int):(inR n l).length=n:=by simp[inR]
theorem zRn{n:Nat}(l:List Int){j:Nat}(h:j<n):(inR n l)[j]? =some (.bool (decide ((j:Int)∈l))):=by
 unfold inR;rw[zO _ h]
theorem zRv{n:Nat}{l:List Int}{k:Nat}(hk:k<l.length){x:Nat}(hx:l[k]=(x:Int)):(inR n (l.take k)).set x (.bool true)=inR n (l.take (k+1)):=by
 unfold inR;rw[zb];refine zK (fun j hj=>?_);rw[Qf hk,hx];by_cases e:j=x
 ·subst e;simp
 ·have:(j:Int)≠(x:Int):=by omega
  rw[if_neg e];simp[this]
theorem zSR(n:Nat):inR n []=tab n fun _=>.bool false:=by
 unfold inR;exact zK (fun j _=>by simp)
theorem zDD(tb:List (List Int))(n:Nat)(T:Nat->Nat->Nat)(ht:TbL tb n T)(hn:n<=1000)(set:List Int)(hs:set.length<=100000):
  FnA Tryz.prog 94 [.t 0 (rows tb),.t 0 (ints set)] (.t 2 (.bool (zDB T n set))):=by
 have htl:=ht.len;refine fI 72 #[.tmp 4] Tryz.func94 rfl ?_;refine rg0 ?_;refine rg0 ?_;refine zA ?_;refine rg0 ?_;refine zB ?_;refine awp_loop (fun k:Nat=>mkS [(0,.t 0 (rows tb)),(1,.t 0 (ints set)),(5,.own 0 n),(15,.t 0 (ints set)),(16,.t 2 (.int .i64 set.length)),(17,.t 2 (.int .i64 k))] [(0,.row 4 1 2 (inR n (set.take k)))] 1 72 [.any,.any]) (fun k=>k<=set.length/\(∀i (h:i<set.length),i<k->0<=set[i]/\set[i]<(n:Int))/\ ∀i (h:i+1<set.length),i+1<k->set[i]<set[i+1]) (fun k=>set.length-k) ?_ ?_
 ·refine⟨0,⟨by omega,fun i h h2=>by omega,fun i h h2=>by omega⟩,?_⟩;rw[List.take_zero,zSR];exact kw1 [(0,some 3000000)] (an @zz (an @rows.eq_1 @htl))
 rintro k ⟨hk,hr,ha⟩;refine rg0 ?_;refine zA ?_;by_cases hkl:k<set.length
 ·have hfail:(¬(0<=set[k]/\set[k]<(n:Int))\/ ∃h:0<k,set[k]<=set[k-1]'(by omega))->zDB T n set=false:=fun h=>zJJ (fun hc=>by
   rcases h with h|⟨h0,h⟩
   ·exact h (hc.rng k hkl)
   ·have h2:=hc.asc (k-1) (by omega);have:set[k-1+1]'(by omega)=set[k]:=by congr 1;omega
    rw[this]at h2;omega)
  refine cK1 @hkl ?_;refine zA ?_;refine zB ?_;refine rg1 @hkl ?_;refine zA ?_;by_cases e1:set[k]<0
  ·have hf:=hfail (.inl (by omega));refine rg1 @e1 ?_;refine cT1 @e1 ?_;refine rg0 ?_;exact zC (rt1 @hf)
  by_cases e2:(n:Int)<=set[k]
  ·have hf:=hfail (.inl (by omega));refine rg1 (an @e1 (an @e2 @htl)) ?_;refine cT1 @e2 ?_;refine rg0 ?_;exact zC (rt1 @hf)
  obtain⟨x,hx⟩: ∃x:Nat,set[k]=(x:Int):=⟨set[k].toNat,by omega⟩;have hxn:x<n:=by omega
  have e1': ¬(x:Int)<0:=by omega
  have e2': ¬(n:Int)<=(x:Int):=by omega
  have hset:=zRv (n:=n) hkl hx;by_cases h0:k=0
  ·subst h0;have hset0:(inR n []).set x (.bool true)=inR n (set.take 1):=hset;refine rg1 (an @hx (an @e1' (an @e2' @htl))) ?_;refine cS0 ?_;refine rr1 (an @hx (an @hxn @hset)) ?_;refine rr0 ?_;refine⟨1,⟨by omega,fun i h h2=>?_,fun i h h2=>by omega⟩,by omega,?_⟩
   ·obtain rfl:i=0:=by omega
    omega
   exact kw1 [(0,some 0)] (an @hset0 @rows.eq_1)
  ·obtain⟨j,rfl⟩: ∃j,k=j+1:=⟨k-1,by omega⟩;have hjl:j<set.length:=by omega
   have h0':(0:Int)<((j:Int)+1):=by omega
   by_cases e3:(x:Int)<=set[j]
   ·have hf:=hfail (.inr ⟨by omega,by rw[hx];simpa using e3⟩);refine rg1 (an @hx (an @e1' (an @e2' (an @e3 (an @h0' (an @htl @hjl)))))) ?_;refine cT1 @e3 ?_;refine rg0 ?_;exact zC (rt1 @hf)
   ·refine rg1 (an @hx (an @e1' (an @e2' (an @e3 (an @h0' (an @htl @hjl)))))) ?_;refine cS1 @e3 ?_;refine rr1 (an @hx (an @hxn @hset)) ?_;refine rr0 ?_;refine⟨j+1+1,⟨by omega,fun i h h2=>?_,fun i h h2=>?_⟩,by omega,?_⟩
    ·by_cases hi:i=j+1
     ·subst hi;omega
     ·exact hr i h (by omega)
    ·by_cases hi:i=j
     ·subst hi;rw[hx];omega
     ·exact ha i h (by omega)
    exact kw1 [(0,some 0)] (an @hset @rows.eq_1)
 obtain rfl:k=set.length:=by omega
 have hr2: ∀i (h:i<set.length),0<=set[i]/\set[i]<(n:Int):=fun i h=>hr i h h
 have ha2: ∀i (h:i+1<set.length),set[i]<set[i+1]:=fun i h=>ha i h h
 clear hr ha;rw[List.take_length];refine cF0 ?_;refine zE ?_;refine zA ?_;refine rg0 ?_;refine zB ?_;refine awp_loop (fun k:Nat=>mkS [(0,.t 0 (rows tb)),(1,.t 0 (ints set)),(5,.own 0 n),(47,.t 0 (ints set)),(48,.t 2 (.int .i64 set.length)),(49,.t 2 (.int .i64 k))] [(0,.row 4 1 2 (inR n set))] 1 72 [.any,.any]) (fun k=>k<=set.length/\ ∀x∈set.take k,∀y∈set,((T x.toNat y.toNat:Nat):Int)∈set) (fun k=>set.length-k) ?_ ?_
 ·refine⟨0,⟨by omega,fun x hx=>by simp at hx⟩,?_⟩;exact kw1 [(0,some 0)] @rows.eq_1
 rintro k ⟨hk,hm⟩;refine rg0 ?_;refine zA ?_;by_cases hkl:k<set.length
 case neg=>
  obtain rfl:k=set.length:=by omega
  rw[List.take_length]at hm;have ht:=zJS (T:=T) (n:=n) (set:=set) ⟨hr2,ha2,hm⟩;refine cF0 ?_;refine zE ?_;refine rg0 ?_;exact zC (rt1 @ht)
 obtain⟨x,hx⟩: ∃x:Nat,set[k]=(x:Int):=⟨set[k].toNat,by have:=hr2 k hkl;omega⟩;have hxn:x<n:=by have:=hr2 k hkl;omega
 refine cK1 @hkl ?_;refine zA ?_;refine zB ?_;refine rg1 (an @hkl @hx) ?_;refine rg0 ?_;refine zB ?_;refine awp_loop (fun j:Nat=>mkS [(0,.t 0 (rows tb)),(1,.t 0 (ints set)),(5,.own 0 n),(9,.t 2 (.int .i64 (x:Nat))),(47,.t 0 (ints set)),(48,.t 2 (.int .i64 set.length)),(49,.t 2 (.int .i64 k)),(53,.t 0 (ints set)),(54,.t 2 (.int .i64 set.length)),(55,.t 2 (.int .i64 j))] [(0,.row 4 1 2 (inR n set))] 1 72 [.any,.any]) (fun j=>j<=set.length/\ ∀y∈set.take j,((T x y.toNat:Nat):Int)∈set) (fun j=>set.length-j) ?_ ?_
 ·refine⟨0,⟨by omega,fun x hx=>by simp at hx⟩,?_⟩;exact kw1 [(0,some 0)] @rows.eq_1
 rintro j ⟨hj,hmj⟩;refine rg0 ?_;refine zA ?_;by_cases hjl:j<set.length
 ·obtain⟨y,hy⟩: ∃y:Nat,set[j]=(y:Int):=⟨set[j].toNat,by have:=hr2 j hjl;omega⟩;have hyn:y<n:=by have:=hr2 j hjl;omega
  obtain⟨g1,g2,g3⟩:=ht.get hxn hyn;have hlt:=ht.lt x y hxn hyn;have hin:=zRn set hlt;refine cK1 @hjl ?_;refine zA ?_;refine zB ?_;refine rg1 (an @hjl @hy) ?_;by_cases e:((T x y:Nat):Int)∈set
  ·rw[decide_eq_true e]at hin;refine rg1 (an @g1 (an @g2 (an @g3 @hin))) ?_;refine cY0 ?_;refine rr0 ?_;refine⟨j+1,⟨by omega,fun z hz=>?_⟩,by omega,?_⟩
   ·rw[Qf hjl]at hz;rcases List.mem_append.1 hz with hz|hz
    ·exact hmj z hz
    ·simp at hz;subst hz;rw[hy];exact e
   exact kw1 [(0,some 0)] @rows.eq_1
  ·have hf:zDB T n set=false:=zJJ (fun hc=>e (by
    have:=hc.mul set[k] (List.getElem_mem hkl) set[j] (List.getElem_mem hjl);rw[hx,hy]at this;exact this))
   rw[decide_eq_false e]at hin;refine rg1 (an @g1 (an @g2 (an @g3 @hin))) ?_;refine cT0 ?_;refine rg0 ?_;exact zC (rt1 @hf)
 ·obtain rfl:j=set.length:=by omega
  rw[List.take_length]at hmj;refine cF0 ?_;refine zE ?_;refine rr0 ?_;refine⟨k+1,⟨by omega,fun z hz=>?_⟩,by omega,?_⟩
  ·rw[Qf hkl]at hz;rcases List.mem_append.1 hz with hz|hz
   ·exact hm z hz
   ·simp at hz;subst hz;rw[hx];exact hmj
  exact kw1 [(0,some 0)] @rows.eq_1
def zLs(R:List (List Int)):Bool:=R.any fun l=>decide (l.length=0)
def empI:List (List Int)->Nat->Int
 |[],k=>-1
 |l::r,k=>if l.length=0 then(k:Int)else empI r (k+1)
theorem zQf: ∀(R:List (List Int)) (k:Nat),decide (0<=empI R k)=zLs R
 |[],k=>rfl
 |l::r,k=>by
  unfold empI;show _=(decide (l.length=0)||zLs r);by_cases h:l.length=0
  ·rw[if_pos h,decide_eq_true h,Bool.true_or];exact decide_eq_true (by omega)
  ·rw[if_neg h,zQf r,decide_eq_false h,Bool.false_or]
theorem zN4(l:List Int):FnA Tryz.prog 101 [.t 0 (ints l)] (.t 2 (.bool (decide (l.length=0)))):=by
 refine fI 6 #[.tmp 2] Tryz.func101 rfl ?_;refine rg0 ?_;refine rg0 ?_;refine zC ?_;refine⟨⟨.inr rfl,_,[],rfl,trivial,trivial,by simp,?_⟩,by simp⟩;simp
 all_goals (by_cases h:l=[]<;>simp[h])
theorem zOd(R:List (List Int))(hR:R.length<=1000):FnA Tryz.prog 157 [.t 0 (rows R),.fn 101 []] (.t 2 (.int .i64 (empI R 0))):=by
 refine fI 19 #[.tmp 4] Tryz.func157 rfl ?_;refine rg0 ?_;refine zA ?_;refine rg0 ?_;refine zB ?_;refine awp_loop (fun k:Nat=>mkS [(0,.t 0 (rows R)),(1,.fn 101 []),(7,.t 2 (.int .i64 R.length)),(8,.t 2 (.int .i64 (k:Nat)))] [] 0 19 [.any,.any]) (fun k=>k<=R.length/\empI R 0=empI (R.drop k) k) (fun k=>R.length-k) ?_ ?_
 ·refine⟨0,⟨by omega,rfl⟩,?_⟩;exact kw1 [] @rows.eq_1
 rintro k ⟨hk,hid⟩;refine rg0 ?_;refine zA ?_;by_cases hkn:k<R.length
 ·have h1:=zN4 R[k];rw[List.drop_eq_getElem_cons hkn,empI]at hid;refine cK1 @hkn ?_;refine zA ?_;refine zB ?_;refine rg0 ?_;refine zF fun K hK=>?_
  simp(maxSteps:=2000000)(disch:=omega)[ints,hkn]
  (repeat' apply And.intro)
  all_goals (try omega)
  refine zD (caps:=[]) (h1) [] [] 2 rfl rfl rfl (by simp) (by first|assumption|kernel_rfl) (by simp) ?_ ?_ (by simp) rfl (by simp) trivial (by simp) ?_
  ·simp[scal,ints]
  ·simp
  simp(maxSteps:=2000000)(disch:=omega)[scal]
  (repeat' first|apply hK|apply And.intro)<;>try first|omega|rfl|(simp<;>omega)
  by_cases e:R[k].length=0
  ·rw[if_pos e]at hid;have e':R[k]=[]:=List.length_eq_zero_iff.1 e;refine cT1 @e' ?_;refine rg0 ?_;exact zC (rt1 @hid)
  ·rw[if_neg e]at hid;have e': ¬R[k]=[]:=fun h=>e (by rw[h];rfl)
   refine cY1 @e' ?_;refine rr0 ?_;refine⟨k+1,⟨by omega,hid⟩,by omega,?_⟩;exact kw1 [] @rows.eq_1
 ·obtain rfl:k=R.length:=by omega
  rw[List.drop_length,empI]at hid;refine cF0 ?_;refine zE ?_;refine rg0 ?_;exact zC (rt1 @hid)
theorem zOJ(R:List (List Int))(hR:R.length<=1000):FnA Tryz.prog 100 [.t 0 (rows R),.fn 101 []] (.t 2 (.bool (zLs R))):=by
 have h1:=zOd R hR;have h2:=zQf R 0;refine fI 9 #[.tmp 4] Tryz.func100 rfl ?_;refine rg0 ?_;refine rc1 h1 @h2 ?_;exact zC rt0
end Go.Proofs.YtgmcbpjplcjmdaaGreat.M

namespace Go.Proofs.YtgmcbpjplcjmdaaGreat.M
open Go.RowKit
set_option maxRecDepth 100000
set_option maxHeartbeats 32000000

def upB(f:Nat->Bool)(k:Nat)(v:Bool):Nat->Bool:=fun i=>if i=k then v else f i
mutual
def Tm.occ(i:Nat):Tm->Bool
 | .mk o n l=>(decide (o=2)&&decide (n.toNat=i))||occL i l
def occL(i:Nat):List Tm->Bool
 |[]=>false
 |a::r=>a.occ i||occL i r
end
mutual
def Tm.els(i:Nat):Int×Int->Tm->Bool
 |a,.mk o n l=>(decide (o=2)&&decide (n.toNat=i)&& !(decide (a.1=4)&&decide (a.2=0)))||elsL i (o,n) l
def elsL(i:Nat):Int×Int->List Tm->Bool
 |a,[]=>false
 |a,t::r=>t.els i a||elsL i a r
end
abbrev BB:=(Nat->Bool)×(Nat->Bool)
def raS(s:BB)(h a:Int×Int):BB:=if h.1=2 then(upB s.1 h.2.toNat true,upB s.2 h.2.toNat (s.2 h.2.toNat|| !(decide (a.1=4)&&decide (a.2=0))))else s
mutual
theorem zMb: ∀(t:Tm) (s:BB) (a:Int×Int),t.vis raS s a=(fun i=>s.1 i||t.occ i,fun i=>s.2 i||t.els i a)
 | .mk o n l,s,a=>by
  rw[Tm.vis,zMx l];have h1:raS s (o,n) a=(fun i=>s.1 i||(decide (o=2)&&decide (n.toNat=i)),fun i=>s.2 i||(decide (o=2)&&decide (n.toNat=i)&& !(decide (a.1=4)&&decide (a.2=0)))):=by
   unfold raS upB;by_cases h:o=2
   ·rw[if_pos h];congr 1
    ·funext i;by_cases hi:i=n.toNat
     ·simp[hi,h]
     ·have: ¬n.toNat=i:=fun e=>hi e.symm
      simp[hi,this]
    ·funext i;by_cases hi:i=n.toNat
     ·simp[hi,h]
     ·have: ¬n.toNat=i:=fun e=>hi e.symm
      simp[hi,this]
   ·rw[if_neg h];simp[h]
  rw[h1];congr 1
  ·funext i;rw[Tm.occ,Bool.or_assoc]
  ·funext i;rw[Tm.els,Bool.or_assoc]
theorem zMx: ∀(l:List Tm) (s:BB) (a:Int×Int),visL raS s a l=(fun i=>s.1 i||occL i l,fun i=>s.2 i||elsL i a l)
 |[],s,a=>by
  rw[visL];simp[occL,elsL]
 |t::l,s,a=>by
  rw[visL,zMb t s a,zMx l];congr 1
  ·funext i;rw[occL,Bool.or_assoc]
  ·funext i;rw[elsL,Bool.or_assoc]
end
def baL(f:Nat->Bool):List T:=tab 6 fun i=>.bool (f i)
@[simp] theorem zGe(f:Nat->Bool):(baL f).length=6:=by simp[baL]
theorem zIx(f:Nat->Bool){j:Nat}(h:j<6):(scC (baL f))[j]? =some (.t 2 (.bool (f j))):=by
 unfold scC baL;rw[Qi,zO _ h];rfl
theorem zB7(f:Nat->Bool)(j:Nat)(v:Bool):(scC (baL f)).set j (.t 2 (.bool v))=scC (baL (upB f j v)):=by
 unfold scC baL;rw[zT,zT,zb];refine zK (fun i hi=>?_);unfold upB;by_cases h:i=j
 ·rw[if_pos h,if_pos h]
 ·rw[if_neg h,if_neg h]
theorem zFb(f:Nat->Bool): ∀x∈baL f,scal x=true:=fun x hx=>by
 unfold baL tab at hx;obtain⟨i,-,rfl⟩:=List.mem_map.1 hx;rfl
theorem zFt(s:BB)(t:Tm)(a:Int×Int)(ho:t.ok=true):FnS Tryz.prog 154 [tmV 0 t,abV a,.ptr 0 0 6,.ptr 1 0 6] [bxO 225 (baL s.1),bxO 225 (baL s.2)] (.tup []) [bxO 225 (baL (raS s (t.op,t.n) a).1),bxO 225 (baL (raS s (t.op,t.n) a).2)]:=by
 have hwf:t.wf=true:=by rw[ok_eq,Qz]at ho;exact ho.1
 unfold Tm.wf at hwf;rw[decide_eq_true_iff]at hwf;refine fI 29 #[] Tryz.func154 rfl ?_;refine rg1 (an @tmV.eq_1 (an @abV.eq_1 @bxO.eq_1)) ?_;refine rg1 (an @zAF @bxO.eq_1) ?_;by_cases e:t.op=2
 ·obtain⟨j,hj⟩: ∃j:Nat,t.n=(j:Int):=⟨t.n.toNat,by omega⟩;have hj6:j<6:=by omega
  have hg2:=zIx s.2 hj6;have hr:raS s (t.op,t.n) a=(upB s.1 j true,upB s.2 j (s.2 j|| !(decide (a.1=4)&&decide (a.2=0)))):=by unfold raS;rw[if_pos e,hj,Int.toNat_natCast]
  rw[hr];refine cT1 @e ?_;refine rg1 (an @bxO.eq_1 (an @hj @zB7)) ?_
  cases hb:s.2 j with
  |true=>
   rw[hb]at hg2;refine zAW (by kernel_rfl) (fun K hK=>?_);simp(maxSteps:=2000000)(disch:=omega)[zB7,hg2]
   (repeat' first|apply hK|apply And.intro)<;>try first|(show zAY _ _=true;kernel_rfl)|(show okH _ _ _=true;kernel_rfl)|omega|rfl|(simp<;>omega)
   refine⟨_,[(0,some 0),(1,some 1)],(by first|rfl|(simp[ints,rows,scal,tmV,abV,bxO,zB7,zAn];rfl)),?_,?_,?_,?_⟩
   all_goals try simp[bxO,zAn]
  |false=>
   rw[hb]at hg2;by_cases e1:a.1=4
   ·have e1b:(a.1 !=4)=false:=by simpa using e1
    by_cases e2:a.2=0
    ·have e2b:(a.2 !=0)=false:=by simpa using e2
     refine zAW (by kernel_rfl) (fun K hK=>?_);simp(maxSteps:=2000000)(disch:=omega)[zB7,hg2,e1,e2]
     (repeat' first|apply hK|apply And.intro)<;>try first|(show zAY _ _=true;kernel_rfl)|(show okH _ _ _=true;kernel_rfl)|omega|rfl|(simp<;>omega)
     refine⟨_,[(0,some 0),(1,some 1)],(by first|rfl|(simp[ints,rows,scal,tmV,abV,bxO,zB7,zAn,e1,e2];rfl)),?_,?_,?_,?_⟩
     all_goals try simp[bxO,zAn,e1,e2]
    ·have e2b:(a.2 !=0)=true:=by simpa using e2
     refine zAW (by kernel_rfl) (fun K hK=>?_);simp(maxSteps:=2000000)(disch:=omega)[zB7,hg2,e1,e2b]
     (repeat' first|apply hK|apply And.intro)<;>try first|(show zAY _ _=true;kernel_rfl)|(show okH _ _ _=true;kernel_rfl)|omega|rfl|(simp<;>omega)
     refine⟨_,[(0,some 0),(1,some 1)],(by first|rfl|(simp[ints,rows,scal,tmV,abV,bxO,zB7,zAn,e1,e2];rfl)),?_,?_,?_,?_⟩
     all_goals try simp[bxO,zAn,e1,e2]
   ·have e1b:(a.1 !=4)=true:=by simpa using e1
    refine zAW (by kernel_rfl) (fun K hK=>?_);simp(maxSteps:=2000000)(disch:=omega)[zB7,hg2,e1b]
    (repeat' first|apply hK|apply And.intro)<;>try first|(show zAY _ _=true;kernel_rfl)|(show okH _ _ _=true;kernel_rfl)|omega|rfl|(simp<;>omega)
    refine⟨_,[(0,some 0),(1,some 1)],(by first|rfl|(simp[ints,rows,scal,tmV,abV,bxO,zB7,zAn,e1];rfl)),?_,?_,?_,?_⟩
    all_goals try simp[bxO,zAn,e1]
 ·have hr:raS s (t.op,t.n) a=s:=by unfold raS;rw[if_neg e]
  rw[hr];refine cF1 @e ?_;refine zQ ?_;refine⟨⟨.inl rfl,_,[(0,some 0),(1,some 1)],rfl,?_,?_,?_,?_⟩,?_⟩
  all_goals simp[tmV,abV,bxO,zAn]
def rgV(R:Nat->List Int)(nv i:Nat)(c:AV):List AV:=tab nv fun j=>if j<i then .t 2 (ints (R j))else if j=i then c else .t 2 (.sl 0 [])
section
variable{R:Nat->List Int}{nv i:Nat}{c c':AV}{H:Nat->Option AObj}{m:Nat->Option Nat}{un:Nat->Prop}{nx:Nat}
@[simp] theorem zVG:(rgV R nv i c).length=nv:=by simp[rgV]
theorem zRu(h:i<nv):(rgV R nv i c)[i]? =some c:=by
 unfold rgV;rw[zO _ h,if_neg (by omega),if_pos rfl]
theorem zRE:(rgV R nv i c).set i c'=rgV R nv i c':=by
 unfold rgV;rw[zb];refine zK (fun j hj=>?_);by_cases h:j=i
 ·rw[if_pos h,if_neg (by omega),if_pos h]
 ·rw[if_neg h];by_cases h2:j<i
  ·rw[if_pos h2,if_pos h2]
  ·rw[if_neg h2,if_neg h,if_neg h2,if_neg h]
theorem zFo{j:Nat}{a:AV}(h:(rgV R nv i c)[j]? =some a):j<nv/\a=if j<i then .t 2 (ints (R j))else if j=i then c else .t 2 (.sl 0 []):=by
 have hl:j<nv:=by have:=(Qq.1 h).1;simpa using this
 unfold rgV at h;rw[zO _ hl]at h;injection h with h;exact⟨hl,h.symm⟩
theorem zFq(hv:wkP H m un nx c c'):wkPs H m un nx (rgV R nv i c) (rgV R nv i c')=True:=by
 refine eq_true (zCY (by simp) (fun j a b ha hb=>?_));obtain⟨h1,rfl⟩:=zFo ha;obtain⟨-,rfl⟩:=zFo hb;by_cases h2:j<i
 ·rw[if_pos h2,if_pos h2];exact⟨rfl,Qy _⟩
 ·rw[if_neg h2,if_neg h2];by_cases h3:j=i
  ·rw[if_pos h3,if_pos h3];exact hv
  ·rw[if_neg h3,if_neg h3];exact⟨rfl,Qy _⟩
theorem zPq(hv:wkP H m un nx c (.t 2 (ints (R i)))):wkPs H m un nx (rgV R nv i c) (rgV R nv (i+1) (.t 2 (.sl 0 []))):=by
 refine zCY (by simp) (fun j a b ha hb=>?_);obtain⟨h1,rfl⟩:=zFo ha;obtain⟨-,rfl⟩:=zFo hb;by_cases h2:j<i
 ·rw[if_pos h2,if_pos (by omega)];exact⟨rfl,Qy _⟩
 ·rw[if_neg h2];by_cases h3:j=i
  ·rw[if_pos h3,if_pos (by omega),h3];exact hv
  ·rw[if_neg h3,if_neg (by omega)];by_cases h4:j=i+1
   ·rw[if_pos h4];exact⟨rfl,Qy _⟩
   ·rw[if_neg h4];exact⟨rfl,Qy _⟩
theorem zPm:wkPs H m un nx (List.replicate nv (.t 2 (.sl 0 []))) (rgV R nv 0 (.t 2 (.sl 0 [])))=True:=by
 refine eq_true (zCY (by simp) (fun j a b ha hb=>?_));obtain⟨h1,rfl⟩:=zFo hb;rw[List.getElem?_replicate,if_pos h1]at ha;injection ha with ha;subst ha;rw[if_neg (by omega)];by_cases h3:j=0
 ·rw[if_pos h3];exact⟨rfl,Qy _⟩
 ·rw[if_neg h3];exact⟨rfl,Qy _⟩
theorem zS2{c:AV}:wkT H un 2 (rgV R nv nv c) ((tab nv R).map ints)=True:=by
 refine eq_true ⟨by simp,fun j a t ha ht=>?_⟩;obtain⟨h1,rfl⟩:=zFo ha;rw[Qi,zO _ h1]at ht;injection ht with ht;subst ht;rw[if_pos h1];exact⟨rfl,Qy _⟩
end
def zL4(T:Nat->Nat->Nat)(set:List Int)(a b:Tm)(i:Nat):List Int:=set.filter fun x=>!(a.occ i||b.occ i)||(a.els i (0,0)||b.els i (0,0))||decide (T x.toNat x.toNat=x.toNat)
def zD8(T:Nat->Nat->Nat)(set:List Int)(a b:Tm):List (List Int):=tab (max a.gr b.gr) (zL4 T set a b)
theorem zOm(h:225<Tryz.prog.types.size):(Tryz.prog.types[225]'h).size=6:=by rfl
theorem zO2:scC (baL fun _=>false)=[.t 2 (.bool false),.t 2 (.bool false),.t 2 (.bool false),.t 2 (.bool false),.t 2 (.bool false),.t 2 (.bool false)]:=rfl
theorem zRX: ∀(t:Tm),t.ok=true->t.gr<=6
 | .mk o n l,hok=>by
  obtain⟨hwf,hl⟩:=zPJ hok;have:=grL_6 l hl;rw[Tm.gr];split<;>omega
where grL_6: ∀(l:List Tm),zCL l=true->grL l<=6
 |[],_=>by rw[grL];omega
 |a::l,hok=>by
  have hok2:a.ok=true/\zCL l=true:=by simpa[zCL]using hok
  have:=zRX a hok2.1;have:=grL_6 l hok2.2;rw[grL];omega
theorem zNJ(tb:List (List Int))(n:Nat)(T:Nat->Nat->Nat)(ht:TbL tb n T)(hn:n<=1000)(set:List Int)(hs:set.length<=100000)(hr: ∀i (h:i<set.length),0<=set[i]/\set[i]<(n:Int))(a b:Tm)(hv:a.val=true/\b.val=true):
  FnA Tryz.prog 98 [.t 0 (rows tb),.t 0 (ints set),idV 0 a b] (.t 2 (rows (zD8 T set a b))):=by
 obtain⟨hao,has⟩:=zCi hv.1;obtain⟨hbo,hbs⟩:=zCi hv.2;have hga:=zRX a hao;have hgb:=zRX b hbo;have hV1:=zHE (S:=BB) (L0:=fun s=>baL s.1) (L1:=fun s=>baL s.2) (ty0:=225) (ty1:=225) (c0:=6) (c1:=6) (F:=154) (by kernel_rfl) raS (fun s=>zFb s.1) (fun s=>zGe s.1) (fun s=>zFb s.2) (fun s=>zGe s.2) zFt a (fun _=>false,fun _=>false) (0,0) hao (by omega);rw[zMb a]at hV1;have hV2:=zHE (S:=BB) (L0:=fun s=>baL s.1) (L1:=fun s=>baL s.2) (ty0:=225) (ty1:=225) (c0:=6) (c1:=6) (F:=154) (by kernel_rfl) raS (fun s=>zFb s.1) (fun s=>zGe s.1) (fun s=>zFb s.2) (fun s=>zGe s.2) zFt b (fun i=>false||a.occ i,fun i=>false||a.els i (0,0)) (0,0) hbo (by omega);rw[zMb b]at hV2;simp only[Bool.false_or]at hV1 hV2;have hVs:=zSM [a,b] (by simp) (zIW hv);obtain⟨nv,hnv⟩: ∃nv,nv=max a.gr b.gr:=⟨_,rfl⟩;rw[show grL [a,b]=nv by rw[grL,grL,grL];omega]at hVs;have hnv6:nv<=6:=by omega
 have hi1: ∀(H:Nat->Option AObj) (pi:List Nat) (q:Nat) (f:Nat->Bool),inPs H pi q (scC (baL f)) (scC (baL f))=True:=fun H pi q f=>zHv (zFb f)
 have ho1: ∀(po:List Nat) (q:Nat) (f:Nat->Bool),outVs po q (scC (baL f))=scC (baL f):=fun po q f=>zFC (zFb f)
 refine fI 76 #[.tmp 6] Tryz.func98 rfl ?_;unfold zD8;rw[←hnv];refine rg1 @idV.eq_1 ?_;refine rg1 @zOm ?_;refine rg0 ?_;refine zS (σ':=mkS [(0,.t 0 (rows tb)),(1,.t 0 (ints set)),(5,.ptr 2 0 6),(7,.ptr 0 0 6),(8,.ptr 1 0 6),(9,.fn 154 [.ptr 0 0 6,.ptr 1 0 6])] [(0,bxO 225 (baL fun _=>false)),(1,bxO 225 (baL fun _=>false)),(2,.box 73 [.t 2 (.int .i64 a.op),.t 2 (.int .i64 a.n),.t 0 (.sl 3 (cellsL a.args)),.t 2 (.int .i64 b.op),.t 2 (.int .i64 b.n),.t 0 (.sl 3 (cellsL b.args))])] 3 76 [.any,.any,.any]) ?_ ?_
 ·exact kw1 [(0,some 2000000),(1,some 3000000),(2,some 0)] (an @bxO.eq_1 (an @zO2 (an @rows.eq_1 (an @idV.eq_1 @zOm))))
 refine zF fun K hK=>?_
 simp(maxSteps:=2000000)(disch:=omega)[ints,rows]
 (repeat' apply And.intro)
 all_goals (try omega)
 refine zAk (caps:=[]) (hV1) [0,1] [0,1] 1 rfl rfl rfl rfl (by kernel_rfl) (by simp) ?_ ?_ (by simp) rfl (by simp) ⟨.inr (.inr ⟨rfl,by simp,by simp⟩),.inr (.inr ⟨rfl,by simp,by simp⟩),trivial⟩ (by simp[bxO]) ?_
 ·simp[scal,tmV,abV,bxO]
 ·simp[bxO,hi1]
 simp(maxSteps:=2000000)(disch:=omega)[bxO,ho1];and_intros<;>try first|apply hK|omega|rfl|simp<;>omega
 refine zF fun K hK=>?_
 simp(maxSteps:=2000000)(disch:=omega)
 (repeat' apply And.intro)
 all_goals (try omega)
 refine zAk (caps:=[]) (hV2) [0,1] [0,1] 1 rfl rfl rfl rfl (by kernel_rfl) (by simp) ?_ ?_ (by simp) rfl (by simp) ⟨.inr (.inr ⟨rfl,by simp,by simp⟩),.inr (.inr ⟨rfl,by simp,by simp⟩),trivial⟩ (by simp[bxO]) ?_
 ·simp[scal,tmV,abV]
 ·simp[bxO,hi1]
 simp(maxSteps:=2000000)(disch:=omega)[bxO,ho1]
 (repeat' first|apply hK|apply And.intro)<;>try first|omega|rfl|(simp<;>omega)
 refine rc1 hVs (an @zAF (an @zJd (an @zNp @bxO.eq_1))) ?_;refine zA ?_;refine rg1 @bxO.eq_1 ?_;refine zB ?_;refine awp_loop (fun i:Nat=>mkS [(0,.t 0 (rows tb)),(1,.t 0 (ints set)),(7,.ptr 0 0 6),(8,.ptr 1 0 6),(10,.own 2 nv),(33,.t 2 (.int .i64 nv)),(34,.t 2 (.int .i64 i))] [(0,bxO 225 (baL fun i=>a.occ i||b.occ i)),(1,bxO 225 (baL fun i=>a.els i (0,0)||b.els i (0,0))),(2,.vec 22 1 2 (rgV (zL4 T set a b) nv i (.t 2 (.sl 0 []))))] 3 76 [.any,.any,.any]) (fun i=>i<=nv) (fun i=>nv-i) ?_ ?_
 ·refine⟨0,by omega,?_⟩;exact kw1 [(0,some 0),(1,some 1),(2,some 16000003)] (an @bxO.eq_1 (an @zAn (an @zPm @rows.eq_1)))
 intro i hi;refine rg0 ?_;refine zA ?_;by_cases hiv:i<nv
 case neg=>
  obtain rfl:i=nv:=by omega
  refine cF0 ?_;refine zE ?_;refine rg0 ?_;refine zC ?_;refine⟨⟨.inr rfl,_,[],(by first|rfl|(simp[ints,rows,scal,zS2,idV];rfl)),?_,?_,?_,?_⟩,?_⟩
  all_goals try simp[ints,rows,zS2,idV]
 refine cK1 @hiv ?_;refine zA ?_;refine zB ?_;refine rg0 ?_;refine rg0 ?_;refine zB ?_;obtain⟨P,hP⟩: ∃P:Int->Bool,P=fun x=>!(a.occ i||b.occ i)||(a.els i (0,0)||b.els i (0,0))||decide (T x.toNat x.toNat=x.toNat):=⟨_,rfl⟩
 have hRi:zL4 T set a b i=set.filter P:=by unfold zL4;rw[hP]
 refine awp_loop (fun k:Nat=>mkS [(0,.t 0 (rows tb)),(1,.t 0 (ints set)),(7,.ptr 0 0 6),(8,.ptr 1 0 6),(10,.own 2 nv),(11,.t 2 (.int .i64 i)),(33,.t 2 (.int .i64 nv)),(34,.t 2 (.int .i64 i)),(37,.t 0 (ints set)),(38,.t 2 (.int .i64 set.length)),(39,.t 2 (.int .i64 k))] [(0,bxO 225 (baL fun i=>a.occ i||b.occ i)),(1,bxO 225 (baL fun i=>a.els i (0,0)||b.els i (0,0))),(2,.vec 22 1 2 (rgV (zL4 T set a b) nv i (.own 3 ((set.take k).filter P).length))),(3,.row 3 1 2 (((set.take k).filter P).map (.int .i64)))] 4 76 [.any,.any,.any]) (fun k=>k<=set.length) (fun k=>set.length-k) ?_ ?_
 ·refine⟨0,by omega,?_⟩;refine zH [(0,some 0),(1,some 1),(2,some 2),(3,none)] rfl ?_ ?_ ?_ ?_
  all_goals try simp[ints,bxO,zAn,rows,ints]
  rw[zFq (by simp[mpOf])];trivial
 intro k hk;have hfl:((set.take k).filter P).length<=k:=by
  have:=List.length_filter_le P (set.take k);rw[List.length_take]at this;omega
 refine rg0 ?_;refine zA ?_;by_cases hkl:k<set.length
 case neg=>
  obtain rfl:k=set.length:=by omega
  rw[List.take_length];refine cF0 ?_;refine zE ?_;refine rr0 ?_;refine⟨i+1,by omega,by omega,?_⟩;refine zH [(0,some 0),(1,some 1),(2,some 2)] rfl ?_ ?_ ?_ ?_
  all_goals try simp[ints,bxO,zAn,rows,ints]
  refine zPq ?_;rw[hRi];simp[ints]
 obtain⟨x,hx⟩: ∃x:Nat,set[k]=(x:Int):=⟨set[k].toNat,by have:=hr k hkl;omega⟩;have hxn:x<n:=by have:=hr k hkl;omega
 obtain⟨g1,g2,g3⟩:=ht.get hxn hxn;have hgo:=zIx (fun i=>a.occ i||b.occ i) (show i<6 by omega);have hge:=zIx (fun i=>a.els i (0,0)||b.els i (0,0)) (show i<6 by omega);have hPx:P (x:Int)=(!(a.occ i||b.occ i)||(a.els i (0,0)||b.els i (0,0))||decide (T x x=x)):=by rw[hP];simp
 have htk:(set.take (k+1)).filter P=(set.take k).filter P++(if P (x:Int)=true then [(x:Int)]else []):=by
  rw[Qf hkl,List.filter_append,hx];by_cases h:P (x:Int)=true
  ·simp[h]
  ·simp[h]
 have hgv:=zRu (R:=zL4 T set a b) (c:=.own 3 ((set.take k).filter P).length) hiv;generalize hoc:(a.occ i||b.occ i)=oc at hgo hPx;generalize hel:(a.els i (0,0)||b.els i (0,0))=el at hge hPx;refine cK1 @hkl ?_;refine zA ?_;refine zB ?_;refine rg1 (an @hkl @hx) ?_;refine zA (zB5 (Q:=fun e σ=>e=Exit.normal/\Wk σ (mkS [(0,.t 0 (rows tb)),(1,.t 0 (ints set)),(7,.ptr 0 0 6),(8,.ptr 1 0 6),(10,.own 2 nv),(11,.t 2 (.int .i64 i)),(13,.t 2 (.int .i64 (x:Nat))),(33,.t 2 (.int .i64 nv)),(34,.t 2 (.int .i64 i)),(37,.t 0 (ints set)),(38,.t 2 (.int .i64 set.length)),(39,.t 2 (.int .i64 k)),(62,.t 2 (.bool (P (x:Int))))] [(0,bxO 225 (baL fun i=>a.occ i||b.occ i)),(1,bxO 225 (baL fun i=>a.els i (0,0)||b.els i (0,0))),(2,.vec 22 1 2 (rgV (zL4 T set a b) nv i (.own 3 ((set.take k).filter P).length))),(3,.row 3 1 2 (((set.take k).filter P).map (.int .i64)))] 4 76 [.any,.any,.any])) ?_ ?_)
 ·rw[hPx]
  cases oc with
  |false=>
   refine zAT fun K hK=>?_
   simp(maxSteps:=2000000)(disch:=omega)[bxO,hgo]
   (repeat' first|apply hK|apply And.intro)<;>try first|omega|rfl|(simp<;>omega)
   refine zH [(0,some 0),(1,some 1),(2,some 2),(3,some 3)] rfl ?_ ?_ ?_ ?_
   all_goals try simp[ints,bxO,zAn,rows,ints]
   rw[zFq (by simp[mpOf])];trivial
  |true=>cases el with
   |true=>
    refine zAT fun K hK=>?_
    simp(maxSteps:=2000000)(disch:=omega)[bxO,hgo,hge]
    (repeat' first|apply hK|apply And.intro)<;>try first|omega|rfl|(simp<;>omega)
    refine zH [(0,some 0),(1,some 1),(2,some 2),(3,some 3)] rfl ?_ ?_ ?_ ?_
    all_goals try simp[ints,bxO,zAn,rows,ints]
    rw[zFq (by simp[mpOf])];trivial
   |false=>
    refine zAT fun K hK=>?_
    simp(maxSteps:=2000000)(disch:=omega)[ints,bxO,hgo,hge,ints,g1,g2,g3]
    (repeat' first|apply hK|apply And.intro)<;>try first|omega|rfl|(simp<;>omega)
    refine zH [(0,some 0),(1,some 1),(2,some 2),(3,some 3)] rfl ?_ ?_ ?_ ?_
    all_goals try simp[ints,bxO,zAn,rows,ints]
    ·by_cases h:T x x=x
     ·rw[h];simp
     ·have h2:((T x x:Nat):Int)≠(x:Int):=by omega
      rw[decide_eq_false h];exact beq_eq_false_iff_ne.2 h2
    rw[zFq (by simp[mpOf])];trivial
 rintro e σ ⟨rfl,hw⟩;refine zS hw ?_;clear hw;by_cases hp:P (x:Int)=true
 ·rw[if_pos hp]at htk;rw[hp];refine cT0 ?_;refine rr1 (an @hgv @zRE) ?_;refine rr0 ?_;refine⟨k+1,by omega,by omega,?_⟩;rw[htk];refine zH [(0,some 0),(1,some 1),(2,some 2),(3,some 3)] rfl ?_ ?_ ?_ ?_
  all_goals try simp[ints,bxO,zAn,rows,ints]
  rw[zFq (by simp[mpOf])];trivial
 ·rw[if_neg hp,List.append_nil]at htk;have hp:P (x:Int)=false:=by simpa using hp
  rw[hp];refine cY0 ?_;refine rr0 ?_;refine⟨k+1,by omega,by omega,?_⟩;rw[htk];refine zH [(0,some 0),(1,some 1),(2,some 2),(3,some 3)] rfl ?_ ?_ ?_ ?_
  all_goals try simp[ints,bxO,zAn,rows,ints]
  rw[zFq (by simp[mpOf])];trivial
def idT(N:List Nat):List T:=N.map fun x=>.int .i64 (x:Nat)
@[simp] theorem zU2(N:List Nat):(idT N).length=N.length:=by simp[idT]
theorem zMm(n:Nat):idT (List.replicate n 0)=List.replicate n (.int .i64 0):=by simp[idT]
def nxO(N:List Nat):AObj:=.row 3 1 1 (idT N)
def huO(pa pb:List (Int×Int))(R:List (List Int))(m k:Nat):AObj:=.box 171 [.ptr m 0 13,.t 1 (pgT pa),.t 1 (pgT pb),.t 1 (rows R),.own k R.length]
theorem zL7{T:Nat->Nat->Nat}{n:Nat}{set:List Int}(h:zDB T n set=true):zI6 T n set:=by
 refine Classical.byContradiction fun hc=>?_
 rw[zJJ hc]at h
 cases h
noncomputable def zDL(tb:List (List Int))(set:List Int)(a b:Tm):Int:=
 if zCQ tb≠0 then zCQ tb
 else if zDB (zP tb) tb.length set=false then 1
 else if ¬(a.val=true/\b.val=true)then 21
 else if idI (zP tb) tb.length<0/\(a.zCN||b.zCN)=true then 9 else 0
theorem zMu{tb:List (List Int)}{set:List Int}{a b:Tm}(h:zDL tb set a b=0):zCQ tb=0/\zI6 (zP tb) tb.length set/\(a.val=true/\b.val=true)/\ ¬(idI (zP tb) tb.length<0/\(a.zCN||b.zCN)=true):=by
 unfold zDL at h;by_cases h1:zCQ tb≠0
 ·rw[if_pos h1]at h;exact absurd h h1
 rw[if_neg h1]at h;by_cases h2:zDB (zP tb) tb.length set=false
 ·rw[if_pos h2]at h;cases h
 rw[if_neg h2]at h;by_cases h3: ¬(a.val=true/\b.val=true)
 ·rw[if_pos h3]at h;cases h
 rw[if_neg h3]at h;by_cases h4:idI (zP tb) tb.length<0/\(a.zCN||b.zCN)=true
 ·rw[if_pos h4]at h;cases h
 exact⟨by omega,zL7 (by simpa using h2),Decidable.not_not.1 h3,h4⟩
theorem zTb(h:171<Tryz.prog.types.size):(Tryz.prog.types[171]'h).size=5:=by rfl
theorem zR9{po:List Nat}{T:Nat->Nat->Nat}{n:Nat}{u:Nat->Bool}{j:Nat}:outV po 1 (pwA T n u j)=pwA T n u j:=by
 unfold pwA;by_cases h:u j=true
 ·rw[if_pos h];simp[scal]
 ·rw[if_neg h];simp[scal]
theorem zIF(po:List Nat)(q:Nat): ∀l:List AV,outVs po q l=l.map (outV po q)
 |[]=>rfl
 |a::l=>by
  show outV po q a::outVs po q l=_;rw[zIF po q l];rfl
theorem zq{po:List Nat}{tb:List (List Int)}{T:Nat->Nat->Nat}{n:Nat}{one:Int}{u:Nat->Bool}:outVs po 1 (mcC tb T n one u)=mcC tb T n one u:=by
 rw[zIF];unfold mcC;rw[List.map_cons,List.map_cons,zT];congr 1;congr 1;exact zK (fun j _=>zR9)
theorem zJ9{H:Nat->Option AObj}{pi:List Nat}{q:Nat}: ∀{aS' bs:List AV},aS'.length=bs.length->(∀(i:Nat) a b,aS'[i]? =some a->bs[i]? =some b->inP H pi q a b)->inPs H pi q aS' bs
 |[],[],_,_=>trivial
 |a::aS',b::bs,h,hr=>⟨hr 0 a b rfl rfl,zJ9 (by simpa using h) (fun i x y hx hy=>hr (i+1) x y (by simpa using hx) (by simpa using hy))⟩
theorem zAo{H:Nat->Option AObj}{pi:List Nat}{tb:List (List Int)}{T:Nat->Nat->Nat}{n:Nat}{one:Int}{u:Nat->Bool}:inPs H pi 1 (mcC tb T n one u) (mcC tb T n one u)=True:=by
 refine eq_true (zJ9 rfl (fun i a b ha hb=>?_));rw[ha]at hb;injection hb with hb;subst hb;rcases zIf ha with⟨-,rfl⟩|⟨-,rfl⟩|⟨j,-,-,rfl⟩
 ·exact⟨rfl,.inr (.inr ⟨rfl,Qy _⟩)⟩
 ·exact⟨rfl,.inl rfl⟩
 ·exact⟨rfl,.inr (.inr ⟨rfl,Qy _⟩)⟩
theorem zUn:List.range 2=[0,1]:=rfl
def ibO(a b:Tm):AObj:=.box 73 [.t 2 (.int .i64 a.op),.t 2 (.int .i64 a.n),.t 0 (.sl 3 (cellsL a.args)),.t 2 (.int .i64 b.op),.t 2 (.int .i64 b.n),.t 0 (.sl 3 (cellsL b.args))]
theorem zK5(T:Nat->Nat->Nat)(set:List Int)(a b:Tm):(zD8 T set a b).length=max a.gr b.gr:=by simp[zD8]
theorem zLf(tb:List (List Int))(set:List Int)(a b:Tm)(v1:zCQ tb≠0):FnA Tryz.prog 53 [.t 1 (rows tb),.t 0 (ints set),idV 0 a b] (.tup [.t 2 .nilp,.t 2 (.int .i64 (zCQ tb))]):=by
 have hV:=zBx tb;refine fI 72 #[.tmp 6,.tmp 7] Tryz.func53 rfl ?_;refine rg1 @idV.eq_1 ?_;refine zA ?_;refine rc0 hV ?_;refine rg1 @v1 ?_;refine cT1 @v1 ?_;refine rg0 ?_;exact zC (rt1 @idV.eq_1)
theorem zLP(tb:List (List Int))(set:List Int)(a b:Tm)(hs:set.length<=100000)(v1:zCQ tb=0)(hcl:zDB (zP tb) tb.length set=false):FnA Tryz.prog 53 [.t 1 (rows tb),.t 0 (ints set),idV 0 a b] (.tup [.t 2 .nilp,.t 2 (.int .i64 1)]):=by
 have hV:=zBx tb;have hI:=zBZ a b;obtain⟨hl0,hl4⟩:=zC1 v1;have hC:=zDD tb tb.length (zP tb) (TbL.of v1) (by omega) set hs;have hId:=zEH tb v1;refine fI 72 #[.tmp 6,.tmp 7] Tryz.func53 rfl ?_;refine rg1 @idV.eq_1 ?_;refine zA ?_;refine rc0 hV ?_;refine rg1 @v1 ?_;refine cS1 @v1 ?_;refine zA ?_;refine rc1 hC @hcl ?_;refine cT0 ?_;refine rg0 ?_;exact zC (rt1 @idV.eq_1)
theorem zLt(tb:List (List Int))(set:List Int)(a b:Tm)(hs:set.length<=100000)(v1:zCQ tb=0)(hcl:zDB (zP tb) tb.length set=true)(e3: ¬(a.val=true/\b.val=true)):FnA Tryz.prog 53 [.t 1 (rows tb),.t 0 (ints set),idV 0 a b] (.tup [.t 2 .nilp,.t 2 (.int .i64 21)]):=by
 have hV:=zBx tb;have hI:=zBZ a b;obtain⟨hl0,hl4⟩:=zC1 v1;have hC:=zDD tb tb.length (zP tb) (TbL.of v1) (by omega) set hs;have hId:=zEH tb v1;have h21:=zUd e3;rw[h21]at hI;refine fI 72 #[.tmp 6,.tmp 7] Tryz.func53 rfl ?_;refine rg1 @idV.eq_1 ?_;refine zA ?_;refine rc0 hV ?_;refine rg1 @v1 ?_;refine cS1 @v1 ?_;refine zA ?_;refine rc1 hC @hcl ?_;refine cS0 ?_;refine zA ?_;refine rc1 hI @idV.eq_1 ?_;refine cT0 ?_;refine rg0 ?_;exact zC (rt1 @idV.eq_1)
theorem zLZ(tb:List (List Int))(set:List Int)(a b:Tm)(hs:set.length<=100000)(v1:zCQ tb=0)(hcl:zDB (zP tb) tb.length set=true)(e3:a.val=true/\b.val=true)(e4:idI (zP tb) tb.length<0)(e5:(a.zCN||b.zCN)=true):FnA Tryz.prog 53 [.t 1 (rows tb),.t 0 (ints set),idV 0 a b] (.tup [.t 2 .nilp,.t 2 (.int .i64 9)]):=by
 have hV:=zBx tb;have hI:=zBZ a b;obtain⟨hl0,hl4⟩:=zC1 v1;have hC:=zDD tb tb.length (zP tb) (TbL.of v1) (by omega) set hs;have hId:=zEH tb v1;have h0:=zTD e3;rw[h0]at hI;have hH:=zHd [a,b] (by simp) (zIW e3);have hhe:zAs [a,b]=(a.zCN||b.zCN):=by rw[zAs,zAs,zAs,Bool.or_false]
 rw[hhe,e5]at hH;refine fI 72 #[.tmp 6,.tmp 7] Tryz.func53 rfl ?_;refine rg1 @idV.eq_1 ?_;refine zA ?_;refine rc0 hV ?_;refine rg1 @v1 ?_;refine cS1 @v1 ?_;refine zA ?_;refine rc1 hC @hcl ?_;refine cS0 ?_;refine zA ?_;refine rc1 hI @idV.eq_1 ?_;refine cS0 ?_;refine rc0 hId ?_;refine zS (σ':=mkS [(0,.t 1 (rows tb)),(1,.t 0 (ints set)),(5,.ptr 0 0 6),(9,.t 2 (.int .i64 (idI (zP tb) tb.length)))] [(0,ibO a b)] 1 72 [.any,.any,.any]) ?_ ?_
 ·exact kw1 [(0,some 0)] (an @ibO.eq_1 @rows.eq_1)
 refine zA ?_;refine rc1 hH (an @ibO.eq_1 (an @e4 (an @zAF (an @zJd @zNp)))) ?_;refine cT0 ?_;refine rg0 ?_;exact zC (rt1 @idV.eq_1)
theorem zLc(tb:List (List Int))(set:List Int)(a b:Tm)(hs:set.length<=100000)(v1:zCQ tb=0)(hc:zI6 (zP tb) tb.length set)(e3:a.val=true/\b.val=true)(e6: ¬(idI (zP tb) tb.length<0/\(a.zCN||b.zCN)=true)):
  FnS Tryz.prog 53 [.t 1 (rows tb),.t 0 (ints set),idV 0 a b] [] (.tup [.ptr 0 0 5,.t 2 (.int .i64 0)])
   [huO a.cmp b.cmp (zD8 (zP tb) set a b) 1 2,mcO tb (zP tb) tb.length (idI (zP tb) tb.length) (zIT [a.cmp,b.cmp] zU),nxO (List.replicate (zD8 (zP tb) set a b).length 0)]:=by
 have hcl:=zJS hc;have hV:=zBx tb;have hI:=zBZ a b;obtain⟨hl0,hl4⟩:=zC1 v1;have hC:=zDD tb tb.length (zP tb) (TbL.of v1) (by omega) set hs;have hId:=zEH tb v1;have h0:=zTD e3;rw[h0]at hI;have hH:=zHd [a,b] (by simp) (zIW e3);have hhe:zAs [a,b]=(a.zCN||b.zCN):=by rw[zAs,zAs,zAs,Bool.or_false]
 have ht:=TbL.of v1;obtain⟨hao,has⟩:=zCi e3.1;obtain⟨hbo,hbs⟩:=zCi e3.2;have hga:=zRX a hao;have hgb:=zRX b hbo;have hca:=zDq a;have hcb:=zDq b;have hR:=zNJ tb tb.length (zP tb) ht (by omega) set hs hc.rng a b e3;have hRl:=zK5 (zP tb) set a b;have hA:=zFz a hao (by omega);have hB:=zFz b hbo (by omega);have hM:=zGr tb tb.length (zP tb) ht (zGB v1) hl0 (by omega) (idI (zP tb) tb.length) [a.cmp,b.cmp] (by simp) (fun p hp=>by
  simp at hp;rcases hp with rfl|rfl
  ·exact⟨by omega,zGI a hao⟩
  ·exact⟨by omega,zGI b hbo⟩)
 generalize zIT [a.cmp,b.cmp] zU=U at hM ⊢;generalize zD8 (zP tb) set a b=R at hR hRl ⊢;generalize a.cmp=pa at hA hM hca ⊢;generalize b.cmp=pb at hB hM hcb ⊢;refine fI 72 #[.tmp 6,.tmp 7] Tryz.func53 rfl ?_;refine rg1 @idV.eq_1 ?_;refine zA ?_;refine rc0 hV ?_;refine rg1 @v1 ?_;refine cS1 @v1 ?_;refine zA ?_;refine rc1 hC @hcl ?_;refine cS0 ?_;refine zA ?_;refine rc1 hI @idV.eq_1 ?_;refine cS0 ?_;refine rc0 hId ?_;refine zS (σ':=mkS [(0,.t 1 (rows tb)),(1,.t 0 (ints set)),(5,.ptr 0 0 6),(9,.t 2 (.int .i64 (idI (zP tb) tb.length)))] [(0,ibO a b)] 1 72 [.any,.any,.any]) ?_ ?_
 ·exact kw1 [(0,some 0)] (an @ibO.eq_1 @rows.eq_1)
 generalize idI (zP tb) tb.length=one at e6 hM ⊢;refine zA (zB5 (Q:=fun e σ=>e=Exit.normal/\Wk σ (mkS [(0,.t 1 (rows tb)),(1,.t 0 (ints set)),(5,.ptr 0 0 6),(9,.t 2 (.int .i64 one))] [(0,ibO a b)] 1 72 [.any,.any,.any])) ?_ ?_)
 ·by_cases e4:one<0
  ·have e5:(a.zCN||b.zCN)=false:=by
    cases h:(a.zCN||b.zCN)
    ·rfl
    ·exact absurd ⟨e4,h⟩ e6
   rw[hhe,e5]at hH;refine rc1 hH (an @ibO.eq_1 (an @e4 (an @zAF (an @zJd @zNp)))) ?_;refine cF0 ?_;refine zQ ?_;refine⟨rfl,?_⟩;exact kw1 [(0,some 0)] (an @ibO.eq_1 @rows.eq_1)
  ·refine rg1 (an @ibO.eq_1 @e4) ?_;refine cF1 @e4 ?_;refine zQ ?_;refine⟨rfl,?_⟩;exact kw1 [(0,some 0)] (an @ibO.eq_1 @rows.eq_1)
 rintro e σ ⟨rfl,hw⟩;refine zS hw ?_;clear hw;refine zg (by kernel_rfl) (fun K hK=>?_);simp(maxSteps:=2000000)(disch:=omega)[ints,rows,ibO]
 (repeat' apply And.intro)
 all_goals (try omega)
 refine zM (caps:=[]) (hA) [] [] 2 rfl rfl rfl rfl (by kernel_rfl) (by simp) ?_ trivial trivial rfl trivial trivial (by simp) ?_
 ·simp[scal,tmV]
 simp(maxSteps:=2000000)(disch:=omega)[scal]
 (repeat' apply And.intro)
 all_goals (try omega)
 refine zM (caps:=[]) (hB) [] [] 2 rfl rfl rfl rfl (by kernel_rfl) (by simp) ?_ trivial trivial rfl trivial trivial (by simp) ?_
 ·simp[scal,tmV]
 simp(maxSteps:=2000000)(disch:=omega)[scal]
 (repeat' apply And.intro)
 all_goals (try omega)
 refine zM (caps:=[]) (hR) [] [] 2 rfl rfl rfl rfl (by kernel_rfl) (by simp) ?_ trivial trivial rfl trivial trivial (by simp) ?_
 ·simp[scal,rows,ints,idV]
 simp(maxSteps:=2000000)(disch:=omega)[rows,scal];and_intros<;>try first|apply hK|(show zAY _ _=true;kernel_rfl)|(show okH _ _ _=true;kernel_rfl)|omega|rfl|simp<;>omega
 refine zS (σ':=mkS [(0,.t 1 (rows tb)),(9,.t 2 (.int .i64 one)),(10,.ptr 0 0 5)] [(0,.box 171 [.t 2 .nilp,.t 2 (pgT pa),.t 2 (pgT pb),.t 2 (rows R),.t 2 (.sl 0 [])])] 1 72 [.any,.any,.any]) ?_ ?_
 ·exact kw1 [(0,some 11000001)] (an @ibO.eq_1 (an @rows.eq_1 (an @pgT.eq_1 @zTb)))
 refine zg (by kernel_rfl) (fun K hK=>?_);simp(maxSteps:=2000000)(disch:=omega)[rows,pgT,zUn]
 (repeat' apply And.intro)
 all_goals (try omega)
 refine zM (caps:=[]) (hM) [] [12000001] 1 rfl rfl rfl rfl (by kernel_rfl) (by simp) ?_ ?_ (by simp) rfl (by simp) ⟨.inl ⟨by omega,by omega⟩,trivial⟩ (by simp[mcO]) ?_
 ·simp[scal,rows,pgT]
 ·trivial
 simp(maxSteps:=2000000)(disch:=omega)[mcO];and_intros<;>try first|apply hK|(show zAY _ _=true;kernel_rfl)|(show okH _ _ _=true;kernel_rfl)|omega|rfl|simp<;>omega
 refine zS (σ':=mkS [(10,.ptr 0 0 5)] [(0,.box 171 [.ptr 1 0 13,.t 2 (pgT pa),.t 2 (pgT pb),.t 2 (rows R),.t 2 (.sl 0 [])]),(1,mcO tb (zP tb) tb.length one U)] 2 72 [.any,.any,.any]) ?_ ?_
 ·exact kw1 [(0,some 0),(1,some 12000001)] (an @mcO.eq_1 (an @zr (an @zq (an @rows.eq_1 @pgT.eq_1))))
 refine rg0 ?_;refine rg0 ?_;refine zC ?_;refine⟨⟨.inr rfl,_,[(0,some 0),(1,some 1),(2,some 6000002)],(by first|rfl|(simp[ints,rows,scal,huO,mcO,zr,nxO,zMm,idV,pgT];rfl)),?_,?_,?_,?_⟩,?_⟩
 all_goals try simp[ints,rows,huO,mcO,zr,nxO,zMm,idV,pgT]
def zGG(R:List (List Int))(N:List Nat)(i:Nat):Int:=(R.getD i []).getD (N.getD i 0) 0
def asg(R:List (List Int))(N:List Nat):List Int:=tab R.length (zGG R N)
@[simp] theorem zMt(R:List (List Int))(N:List Nat):(asg R N).length=R.length:=by simp[asg]
structure NOk(R:List (List Int))(N:List Nat):Prop where
 len:N.length=R.length
 lt: ∀i (h:i<R.length),N.getD i 0<(R.getD i []).length
theorem NOk.at{R:List (List Int)}{N:List Nat}(h:NOk R N){i:Nat}(hi:i<R.length): ∃(h1:i<N.length) (h2:N[i]<R[i].length),R[i][N[i]]=zGG R N i:=by
 have h1:i<N.length:=by rw[h.len];exact hi
 have h3:=h.lt i hi;have e1:N.getD i 0=N[i]:=by simp[h1]
 have e2:R.getD i []=R[i]:=by simp[hi]
 rw[e1,e2]at h3;refine⟨h1,h3,?_⟩;unfold zGG;rw[e1,e2];simp[h3]
theorem NOk.set{R:List (List Int)}{N:List Nat}(h:NOk R N){i v:Nat}(hv: ∀hi:i<R.length,v<(R.getD i []).length):NOk R (N.set i v):=by
 refine⟨by simpa using h.len,fun j hj=>?_⟩;by_cases e:j=i
 ·subst e;have:(N.set j v).getD j 0=v:=by
   have hl:j<N.length:=by rw[h.len];exact hj
   simp[hl]
  rw[this];exact hv hj
 ·have:(N.set i v).getD j 0=N.getD j 0:=by
   have:i≠j:=fun e2=>e e2.symm
   simp[Qv,List.getElem?_set_ne this]
  rw[this];exact h.lt j hj
def advG(R:List (List Int)):List Nat->Nat->List Nat×Bool
 |N,0=>(N,false)
 |N,i+1=>if N.getD i 0+1<(R.getD i []).length then(N.set i (N.getD i 0+1),true)else advG R (N.set i 0) i
def zIO(R:List (List Int))(N:List Nat):List Nat×Bool:=advG R N R.length
theorem zNX{R:List (List Int)}: ∀(i:Nat) {N:List Nat},NOk R N->i<=R.length->NOk R (advG R N i).1
 |0,N,h,_=>h
 |i+1,N,h,hi=>by
  rw[advG];split
  ·rename_i h2;exact h.set fun _=>h2
  ·exact zNX i (h.set fun hi2=>by have:=h.lt i hi2;omega) (by omega)
theorem zFG{R:List (List Int)}{N:List Nat}(h:NOk R N):NOk R (zIO R N).1:=zNX _ h (Qy _)
def runH(v1 v2:List Nat->Nat)(R:List (List Int)):Nat->Nat->List Nat->Nat×Bool×Bool×List Nat
 |0,s,N=>(s,false,false,N)
 |f+1,s,N=>if v1 N≠v2 N then(s+1,true,true,N)else if(zIO R N).2=true then runH v1 v2 R f (s+1) (zIO R N).1 else(s+1,false,true,(zIO R N).1)
theorem zJg{v1 v2:List Nat->Nat}{R:List (List Int)}: ∀(f s:Nat) {N:List Nat},NOk R N->NOk R (runH v1 v2 R f s N).2.2.2/\s<=(runH v1 v2 R f s N).1/\(runH v1 v2 R f s N).1<=s+f
 |0,s,N,h=>⟨h,Qy _,Qy _⟩
 |f+1,s,N,h=>by
  rw[runH];split
  ·exact⟨h,by simp only;omega,by simp only;omega⟩
  ·split
   ·have:=zJg (v1:=v1) (v2:=v2) f (s+1) (zFG h);exact⟨this.1,by omega,by omega⟩
   ·exact⟨zFG h,by simp only;omega,by simp only;omega⟩
theorem zJ0(N:List Nat)(i v:Nat):(idT N).set i (.int .i64 (v:Nat))=idT (N.set i v):=by
 unfold idT;rw[List.map_set]
def vaO(R:List (List Int))(W:Nat->Int):AObj:=.row 3 1 2 (tab R.length fun i=>.int .i64 (W i))
theorem zFy(pa pb:List (Int×Int))(R:List (List Int))(hRl:R.length<=1000)(tb:List (List Int))(T:Nat->Nat->Nat)(n:Nat)(one:Int)(u:Nat->Bool)(N:List Nat)(hN:NOk R N):
  FnS Tryz.prog 56 [.ptr 0 0 5] [huO pa pb R 1 2,mcO tb T n one u,nxO N] (.own 3 R.length) [huO pa pb R 1 2,mcO tb T n one u,nxO N,vaO R (zGG R N)]:=by
 have hNl:=hN.len;refine fI 37 #[.tmp 2] Tryz.func56 rfl ?_;refine rg0 ?_;refine rg1 (an @huO.eq_1 (an @nxO.eq_1 @hNl)) ?_;refine zA ?_;refine rg1 (an @huO.eq_1 (an @nxO.eq_1 @hNl)) ?_;refine zB ?_;refine awp_loop (fun k:Nat=>mkS [(0,.ptr 0 0 5),(3,.own 3 R.length),(15,.own 2 R.length),(16,.t 2 (.int .i64 R.length)),(17,.t 2 (.int .i64 k))] [(0,huO pa pb R 1 2),(1,mcO tb T n one u),(2,nxO N),(3,vaO R fun i=>if i<k then zGG R N i else 0)] 4 37 [.ptr 0 0 5]) (fun k=>k<=R.length) (fun k=>R.length-k) ?_ ?_
 ·refine⟨0,by omega,?_⟩;exact kw1 [(0,some 0),(1,some 1),(2,some 2),(3,some 6000003)] (an @huO.eq_1 (an @mcO.eq_1 (an @zr (an @nxO.eq_1 (an @vaO.eq_1 (an @zz (an @rows.eq_1 @pgT.eq_1)))))))
 intro k hk;refine rg0 ?_;refine zA ?_;by_cases hkl:k<R.length
 ·obtain⟨h1,h2,h3⟩:=hN.at hkl;refine cK1 @hkl ?_;refine zA ?_;refine zB ?_;refine rg1 (an @nxO.eq_1 (an @idT.eq_1 (an @hNl (an @hkl @h1)))) ?_;refine rr1 (an @huO.eq_1 (an @vaO.eq_1 (an @hkl (an @h2 @h3)))) ?_;refine rr0 ?_;refine⟨k+1,by omega,by omega,?_⟩;refine zH [(0,some 0),(1,some 1),(2,some 2),(3,some 3)] rfl ?_ ?_ ?_ ?_
  all_goals try simp[huO,mcO,zr,nxO,vaO,rows,idT,pgT]
  rw[zb];refine zK (fun i hi=>?_);by_cases e:i=k
  ·subst e;simp
  ·rw[if_neg e];by_cases e2:i<k
   ·rw[if_pos e2,if_pos (by omega)]
   ·rw[if_neg e2,if_neg (by omega)]
 ·obtain rfl:k=R.length:=by omega
  refine cF0 ?_;refine zE ?_;refine rg0 ?_;refine zC ?_;refine⟨⟨.inr rfl,_,[(0,some 0),(1,some 1),(2,some 2),(3,some 3)],(by first|rfl|(simp[ints,rows,scal,huO,mcO,zr,nxO,vaO,idT,pgT];rfl)),?_,?_,?_,?_⟩,?_⟩
  all_goals try simp[rows,huO,mcO,zr,nxO,vaO,idT,pgT]
  exact zK (fun i hi=>by rw[if_pos hi])
theorem zId(pa pb:List (Int×Int))(R:List (List Int))(hRl:R.length<=1000)(hRL: ∀l∈R,l.length<=100000)(tb:List (List Int))(T:Nat->Nat->Nat)(n:Nat)(one:Int)(u:Nat->Bool)(N:List Nat)(hN:NOk R N):
  FnS Tryz.prog 103 [.ptr 0 0 5] [huO pa pb R 1 2,mcO tb T n one u,nxO N] (.t 2 (.bool (zIO R N).2)) [huO pa pb R 1 2,mcO tb T n one u,nxO (zIO R N).1]:=by
 refine fI 45 #[.tmp 2] Tryz.func103 rfl ?_;have hNl:=hN.len;refine rg0 ?_;refine zA ?_;refine rg1 (an @huO.eq_1 (an @nxO.eq_1 @hNl)) ?_;refine zB ?_;refine awp_loop (fun y:Nat×List Nat=>mkS [(0,.ptr 0 0 5),(3,.t 2 (.int .i64 ((y.1:Nat)-1:Int)))] [(0,huO pa pb R 1 2),(1,mcO tb T n one u),(2,nxO y.2)] 3 45 [.ptr 0 0 5]) (fun y=>y.1<=R.length/\NOk R y.2/\zIO R N=advG R y.2 y.1) (fun y=>y.1) ?_ ?_
 ·refine⟨(R.length,N),⟨Qy _,hN,rfl⟩,?_⟩;exact kw1 [(0,some 0),(1,some 1),(2,some 2)] (an @huO.eq_1 (an @mcO.eq_1 (an @zr (an @nxO.eq_1 (an @rows.eq_1 @pgT.eq_1)))))
 rintro⟨i,M⟩ ⟨hi,hM,hex⟩;simp only at hi hM hex;rw[hex];have hMl:=hM.len;refine zA ?_;rcases i with _|i
 ·refine rg0 ?_;refine cF0 ?_;refine zE ?_;refine rg0 ?_;refine zC ?_;refine⟨⟨.inr rfl,_,[(0,some 0),(1,some 1),(2,some 2)],(by first|rfl|(simp[ints,rows,scal,huO,mcO,zr,nxO,pgT,advG];rfl)),?_,?_,?_,?_⟩,?_⟩
  all_goals try simp[rows,huO,mcO,zr,nxO,pgT,advG]
 ·have hil:i<R.length:=by omega
  obtain⟨h1,h2,h3⟩:=hM.at hil;have e1:M.getD i 0=M[i]:=by simp[h1]
  have e2:R.getD i []=R[i]:=by simp[hil]
  have hRi:=hRL R[i] (List.getElem_mem hil);rw[advG,e1,e2];have hset:(idT M).set i (.int .i64 ((M[i]:Nat)+1:Int))=idT (M.set i (M[i]+1)):=zJ0 M i (M[i]+1);have hset2:(idT (M.set i (M[i]+1))).set i (.int .i64 0)=idT (M.set i 0):=by rw[←Int.natCast_zero,zJ0,List.set_set]
  have hget:(M.set i (M[i]+1))[i]? =some (M[i]+1):=by simp[h1]
  have hget2:(idT M)[i]? =some (.int .i64 (M[i]:Nat)):=by unfold idT;rw[Qi,Qj h1];rfl
  have hget3:(idT (M.set i (M[i]+1)))[i]? =some (.int .i64 ((M[i]:Nat)+1:Int)):=by unfold idT;rw[Qi,hget];rfl
  generalize hm:M[i]=mi at h2 h3 hset hset2 hget hget2 hget3 ⊢;refine rg0 ?_;refine cK0 ?_;refine zA ?_;refine zB ?_;refine rg1 (an @huO.eq_1 (an @nxO.eq_1 (an @hMl (an @hil (an @hget2 @hset))))) ?_;refine zA ?_;by_cases e:mi+1<R[i].length
  ·have e':(mi:Int)+1<(R[i].length:Int):=by omega
   rw[if_pos e];refine rd1 (an @huO.eq_1 (an @nxO.eq_1 (an @hMl (an @hil (an @hget3 @hset))))) ?_;refine cT1 @e' ?_;refine rg0 ?_;refine zC ?_;exact zSe (an @huO.eq_1 (an @mcO.eq_1 (an @zr (an @nxO.eq_1 (an @pgT.eq_1 @hset)))))
  ·have e': ¬(mi:Int)+1<(R[i].length:Int):=by omega
   rw[if_neg e];refine rd1 (an @huO.eq_1 (an @nxO.eq_1 (an @hMl (an @hil (an @hget3 @hset))))) ?_;refine cS1 @e' ?_;refine rr1 (an @huO.eq_1 (an @nxO.eq_1 (an @hMl (an @hil (an @hset @hset2))))) ?_;refine rr0 ?_;refine⟨(i,M.set i 0),⟨by simp only;omega,hM.set (fun hi2=>by rw[e2];omega),rfl⟩,by simp only;omega,?_⟩;exact kw1 [(0,some 0),(1,some 1),(2,some 2)] (an @huO.eq_1 (an @mcO.eq_1 (an @zr (an @nxO.eq_1 (an @pgT.eq_1 (an @rows.eq_1 (an @hset @hset2)))))))
structure zVf(R:List (List Int))(T:Nat->Nat->Nat)(n:Nat)(one:Int)(u:Nat->Bool)(pa pb:List (Int×Int))(v1 v2:List Nat->Nat):Prop where
 la:pa.length<=100000
 lb:pb.length<=100000
 a: ∀N,NOk R N->Exn T n one u (asg R N) [] pa (v1 N)
 b: ∀N,NOk R N->Exn T n one u (asg R N) [] pb (v2 N)
theorem zQQ(R:List (List Int))(N:List Nat):ints (asg R N)= .sl 1 (tab R.length fun i=>.int .i64 (zGG R N i)):=by
 unfold ints asg;rw[zT]
theorem zSB(pa pb:List (Int×Int))(R:List (List Int))(hRl:R.length<=1000)(hRL: ∀l∈R,l.length<=100000)(tb:List (List Int))(T:Nat->Nat->Nat)(n:Nat)(ht:TbL tb n T)(hA:zBA n T)(hn:n<=1000)(one:Int)(u:Nat->Bool)(v1 v2:List Nat->Nat)(hE:zVf R T n one u pa pb v1 v2)(limit:Nat)(hlim:limit<=10000000)(N:List Nat)(hN:NOk R N):
  FnS Tryz.prog 55 [.ptr 0 0 5,.t 2 (.int .i64 (limit:Nat))] [huO pa pb R 1 2,mcO tb T n one u,nxO N]
   (.tup [.t 2 (.int .i64 ((runH v1 v2 R limit 0 N).1:Nat)),.t 2 (.bool (runH v1 v2 R limit 0 N).2.1),.t 2 (.bool (runH v1 v2 R limit 0 N).2.2.1)])
   [huO pa pb R 1 2,mcO tb T n one u,nxO (runH v1 v2 R limit 0 N).2.2.2]:=by
 have hVal:=zFy pa pb R hRl tb T n one u N hN;have hNl:=hN.len;refine fI 68 #[.tmp 4,.tmp 5,.tmp 6] Tryz.func55 rfl ?_;refine rg0 ?_;refine zF fun K hK=>?_
 simp(maxSteps:=2000000)(disch:=omega)
 (repeat' apply And.intro)
 all_goals (try omega)
 refine zD (caps:=[]) (hVal) [0,1,2] [0,4000003,4000004,4000005] 1 rfl rfl rfl rfl (by kernel_rfl) (by simp) ?_ ?_ (by simp) rfl (by simp) ⟨.inr ⟨rfl,0,_,_,_,_,_,rfl,rfl,(by first|rfl|simp[huO,mcO,zAo,zq,nxO,pgT,rows,vaO]),rfl,(by first|rfl|simp[huO,mcO,zAo,zq,nxO,pgT,rows,vaO])⟩,.inl ⟨by omega,by omega⟩,.inl ⟨by omega,by omega⟩,.inl ⟨by omega,by omega⟩,trivial⟩ (by simp[huO,mcO,nxO,pgT,rows,vaO]) ?_
 ·simp[rows,huO,mcO,nxO,pgT,rows]
 ·simp[scal,rows,huO,mcO,zAo,nxO,pgT,rows]
 simp(maxSteps:=2000000)(disch:=omega)[rows,scal,huO,mcO,zq,nxO,vaO];and_intros<;>try first|apply hK|omega|rfl|simp<;>omega
 refine zA ?_;refine zB ?_;refine awp_loop (fun y:Nat×List Nat×(Nat->Int)=>mkS [(0,.ptr 0 0 5),(1,.t 2 (.int .i64 (limit:Nat))),(4,.t 2 (.int .i64 (y.1:Nat))),(7,.own 3 R.length)] [(0,huO pa pb R 1 2),(1,mcO tb T n one u),(2,nxO y.2.1),(3,vaO R y.2.2)] 4 68 [.ptr 0 0 5,.any]) (fun y=>y.1<=limit/\NOk R y.2.1/\runH v1 v2 R limit 0 N=runH v1 v2 R (limit-y.1) y.1 y.2.1) (fun y=>limit-y.1) ?_ ?_
 ·refine⟨(0,N,zGG R N),⟨by simp,hN,rfl⟩,?_⟩;exact kw1 [(0,some 0),(1,some 4000003),(2,some 4000004),(3,some 4000005)] (an @huO.eq_1 (an @mcO.eq_1 (an @zr (an @nxO.eq_1 (an @vaO.eq_1 (an @rows.eq_1 @pgT.eq_1))))))
 rintro⟨s,M,W⟩ ⟨hs,hM,hex⟩;simp only at hs hM hex;rw[hex];have hMl:=hM.len;refine zA ?_;by_cases hsl:s<limit
 case neg=>
  obtain rfl:s=limit:=by omega
  rw[Nat.sub_self,runH];refine rg0 ?_;refine cF0 ?_;refine zE ?_;refine rg0 ?_;refine zC ?_;exact zSe (an @huO.eq_1 (an @mcO.eq_1 (an @zr (an @nxO.eq_1 @pgT.eq_1))))
 have hE1:=hE.a M hM;have hE2:=hE.b M hM;have hAd:=zId pa pb R hRl hRL tb T n one u M hM;have hr1:=zQb tb n T ht hA hn one u (asg R M) pa hE.la (v1 M) hE1;have hr2:=zQb tb n T ht hA hn one u (asg R M) pb hE.lb (v2 M) hE2;rw[zQQ]at hr1 hr2;rw[show limit-s=(limit-(s+1))+1 by omega,runH];refine rg0 ?_;refine cK1 @hsl ?_;refine zB ?_;refine rg0 ?_;refine zA ?_;refine rg1 (an @huO.eq_1 (an @nxO.eq_1 @hMl)) ?_;refine zB ?_;refine awp_loop (fun k:Nat=>mkS [(0,.ptr 0 0 5),(1,.t 2 (.int .i64 (limit:Nat))),(4,.t 2 (.int .i64 ((s+1:Nat):Int))),(7,.own 3 R.length),(20,.own 2 R.length),(21,.t 2 (.int .i64 R.length)),(22,.t 2 (.int .i64 k))] [(0,huO pa pb R 1 2),(1,mcO tb T n one u),(2,nxO M),(3,vaO R fun i=>if i<k then zGG R M i else W i)] 4 68 [.ptr 0 0 5,.any]) (fun k=>k<=R.length) (fun k=>R.length-k) ?_ ?_
 ·refine⟨0,by omega,?_⟩;exact kw1 [(0,some 0),(1,some 1),(2,some 2),(3,some 3)] (an @huO.eq_1 (an @mcO.eq_1 (an @zr (an @nxO.eq_1 (an @vaO.eq_1 (an @rows.eq_1 @pgT.eq_1))))))
 intro k hk;refine rg0 ?_;refine zA ?_;by_cases hkl:k<R.length
 ·obtain⟨h1,h2,h3⟩:=hM.at hkl;refine cK1 @hkl ?_;refine zA ?_;refine zB ?_;refine rg1 (an @nxO.eq_1 (an @idT.eq_1 (an @hMl (an @hkl @h1)))) ?_;refine rr1 (an @huO.eq_1 (an @vaO.eq_1 (an @hkl (an @h2 @h3)))) ?_;refine rr0 ?_;refine⟨k+1,by omega,by omega,?_⟩;refine zH [(0,some 0),(1,some 1),(2,some 2),(3,some 3)] rfl ?_ ?_ ?_ ?_
  all_goals try simp[huO,mcO,zr,nxO,vaO,rows,idT,pgT]
  rw[zb];refine zK (fun i hi=>?_);by_cases e:i=k
  ·subst e;simp
  ·rw[if_neg e];by_cases e2:i<k
   ·rw[if_pos e2,if_pos (by omega)]
   ·rw[if_neg e2,if_neg (by omega)]
 obtain rfl:k=R.length:=by omega
 have hva:vaO R (fun i=>if i<R.length then zGG R M i else W i)=vaO R (zGG R M):=by
  unfold vaO;congr 1;exact zK (fun i hi=>by simp only[if_pos hi])
 rw[hva];refine cF0 ?_;refine zE ?_;refine zA ?_;refine zg (by kernel_rfl) (fun K hK=>?_);simp(maxSteps:=2000000)(disch:=omega)[rows,huO]
 (repeat' apply And.intro)
 all_goals (try omega)
 refine zM (caps:=[]) (hr1) [1] [1] 1 rfl rfl rfl rfl (by kernel_rfl) (by simp) ?_ ?_ (by simp) rfl (by simp) ⟨.inr ⟨rfl,0,_,_,_,_,_,rfl,rfl,(by first|rfl|simp[huO,mcO,zAo,zq,vaO,pgT,rows]),rfl,(by first|rfl|simp[huO,mcO,zAo,zq,vaO,pgT,rows])⟩,trivial⟩ (by simp[mcO]) ?_
 ·simp[scal,mcO,vaO,pgT]
 ·simp[mcO,zAo,vaO,pgT]
 simp(maxSteps:=2000000)(disch:=omega)[scal]
 (repeat' apply And.intro)
 all_goals (try omega)
 refine zM (caps:=[]) (hr2) [1] [1] 1 rfl rfl rfl rfl (by kernel_rfl) (by simp) ?_ ?_ (by simp) rfl (by simp) ⟨.inr ⟨rfl,0,_,_,_,_,_,rfl,rfl,(by first|rfl|simp[huO,mcO,zAo,zq,vaO,pgT,rows]),rfl,(by first|rfl|simp[huO,mcO,zAo,zq,vaO,pgT,rows])⟩,trivial⟩ (by simp[mcO]) ?_
 ·simp[scal,mcO,zq,vaO,pgT]
 ·simp[mcO,zAo,zq,vaO,pgT]
 simp(maxSteps:=2000000)(disch:=omega)[scal]
 (repeat' first|apply hK|apply And.intro)<;>try first|(show zAY _ _=true;kernel_rfl)|(show okH _ _ _=true;kernel_rfl)|omega|rfl|(simp<;>omega)
 by_cases e:v1 M=v2 M
 case neg=>
  rw[if_pos e];refine cT1 @e ?_;refine rg0 ?_;refine zC ?_;exact zSe (an @huO.eq_1 (an @mcO.eq_1 (an @zr (an @zq (an @nxO.eq_1 @pgT.eq_1)))))
 have e': ¬(v1 M≠v2 M):=fun h=>h e
 rw[if_neg e'];refine cS1 @e ?_;refine zS (σ':=mkS [(0,.ptr 0 0 5),(1,.t 2 (.int .i64 (limit:Nat))),(4,.t 2 (.int .i64 ((s+1:Nat):Int))),(7,.own 3 R.length)] [(0,huO pa pb R 1 2),(1,mcO tb T n one u),(2,nxO M),(3,vaO R (zGG R M))] 4 68 [.ptr 0 0 5,.any]) ?_ ?_
 ·exact kw1 [(0,some 0),(1,some 1),(2,some 2),(3,some 3)] (an @huO.eq_1 (an @mcO.eq_1 (an @zr (an @zq (an @nxO.eq_1 (an @vaO.eq_1 (an @rows.eq_1 @pgT.eq_1)))))))
 refine zF fun K hK=>?_
 simp(maxSteps:=2000000)(disch:=omega)
 (repeat' apply And.intro)
 all_goals (try omega)
 refine zD (caps:=[]) (hAd) [0,1,2] [0,1000004,1000005] 1 rfl rfl rfl rfl (by kernel_rfl) (by simp) ?_ ?_ (by simp) rfl (by simp) ⟨.inr ⟨rfl,0,_,_,_,_,_,rfl,rfl,(by first|rfl|simp[huO,mcO,zAo,zq,nxO,pgT,rows]),rfl,(by first|rfl|simp[huO,mcO,zAo,zq,nxO,pgT,rows])⟩,.inl ⟨by omega,by omega⟩,.inl ⟨by omega,by omega⟩,trivial⟩ (by simp[huO,mcO,nxO,pgT,rows]) ?_
 ·simp[rows,huO,mcO,nxO,pgT,rows]
 ·simp[scal,rows,huO,mcO,zAo,nxO,pgT,rows]
 simp(maxSteps:=2000000)(disch:=omega)[rows,scal,huO,mcO,zq,nxO]
 (repeat' first|apply hK|apply And.intro)<;>try first|omega|rfl|(simp<;>omega)
 cases hb:(zIO R M).2 with
 |true=>
  simp only[↓reduceIte];refine cF1 @hb ?_;refine zQ ?_;refine⟨(s+1,(zIO R M).1,zGG R M),⟨by simp only;omega,zFG hM,rfl⟩,by simp only;omega,?_⟩;exact kw1 [(0,some 0),(1,some 1000004),(2,some 1000005),(3,some 3)] (an @huO.eq_1 (an @mcO.eq_1 (an @zr (an @zq (an @nxO.eq_1 (an @vaO.eq_1 (an @rows.eq_1 @pgT.eq_1)))))))
 |false=>
  simp only[Bool.false_eq_true,↓reduceIte];refine cT1 @hb ?_;refine rg0 ?_;refine zC ?_;refine⟨⟨.inr rfl,_,[(0,some 0),(1,some 1000004),(2,some 1000005)],(by first|rfl|(simp[ints,rows,scal,huO,mcO,zr,zq,nxO,pgT,rows];rfl)),?_,?_,?_,?_⟩,?_⟩
  all_goals try simp[rows,huO,mcO,zr,nxO,pgT,rows]
theorem zMG{T:Nat->Nat->Nat}{n:Nat}: ∀(f e:Nat),e+f=n->idG T n f e= -1\/ ∃x:Nat,idG T n f e=(x:Int)/\x<n/\zI3 T n x=true
 |0,e,_=>.inl rfl
 |f+1,e,h=>by
  rw[idG];by_cases hi:zI3 T n e=true
  ·rw[if_pos hi];exact .inr ⟨e,rfl,by omega,hi⟩
  ·rw[if_neg hi];exact zMG f (e+1) (by omega)
theorem zR7(T:Nat->Nat->Nat)(n:Nat):idI T n= -1\/ ∃x:Nat,idI T n=(x:Int)/\x<n/\zI3 T n x=true:=zMG n 0 (by omega)
def asV(T:Nat->Nat->Nat)(n:Nat)(R:List (List Int))(t:Tm)(N:List Nat):Nat:=t.ev T n (idI T n).toNat (fun i=>(zGG R N i).toNat)
def RIn(n:Nat)(R:List (List Int)):Prop:=∀l∈R,∀x∈l,0<=x/\x<(n:Int)
theorem zPd{R:List (List Int)}{N:List Nat}(h:NOk R N){i:Nat}(hi:i<R.length): ∃l∈R,zGG R N i∈l:=by
 obtain⟨h1,h2,h3⟩:=h.at hi;exact⟨R[i],List.getElem_mem hi,by rw[←h3];exact List.getElem_mem h2⟩
theorem zQt{n:Nat}{R:List (List Int)}(hR:RIn n R){N:List Nat}(h:NOk R N):VIn n (asg R N) (fun i=>(zGG R N i).toNat):=⟨fun i hi=>by
 have hi:i<R.length:=by simpa using hi
 obtain⟨l,hl,hm⟩:=zPd h hi;have:=hR l hl _ hm;refine⟨?_,by show(zGG R N i).toNat<n;omega⟩;unfold asg;rw[zO _ hi];congr 1;omega⟩
theorem zRK{T:Nat->Nat->Nat}{n:Nat}(hT: ∀r c,r<n->c<n->T r c<n)(hA:zBA n T){R:List (List Int)}(hR:RIn n R){a b:Tm}(ha:a.val=true)(hb:b.val=true)(hl:R.length=max a.gr b.gr)(h6: ¬(idI T n<0/\(a.zCN||b.zCN)=true)):
  zVf R T n (idI T n) (zIT [a.cmp,b.cmp] zU) a.cmp b.cmp (asV T n R a) (asV T n R b):=by
 have h1: ∀t:Tm,(t=a\/t=b)->t.zCN=true->idI T n=((idI T n).toNat:Int)/\(idI T n).toNat<n:=fun t ht h=>by
  have h2:(a.zCN||b.zCN)=true:=by rcases ht with rfl|rfl<;>simp[h]
  have h3: ¬idI T n<0:=fun h4=>h6 ⟨h4,h2⟩
  rcases zR7 T n with h5|⟨x,h5,h7,-⟩
  ·omega
  ·omega
 have hca:=zDq a;have hcb:=zDq b;have hva:=(zCi ha).2;have hvb:=(zCi hb).2;refine⟨by omega,by omega,fun N hN=>?_,fun N hN=>?_⟩
 ·exact(zMz hT hA (zQt hR hN) a ha (by rw[zMt];omega) (h1 a (.inl rfl)) [a.cmp,b.cmp] (by simp)).2
 ·exact(zMz hT hA (zQt hR hN) b hb (by rw[zMt];omega) (h1 b (.inr rfl)) [a.cmp,b.cmp] (by simp)).2
theorem zQ9{T:Nat->Nat->Nat}{n:Nat}{set:List Int}(hr: ∀i (h:i<set.length),0<=set[i]/\set[i]<(n:Int))(a b:Tm):RIn n (zD8 T set a b):=fun l hl x hx=>by
 unfold zD8 tab at hl;obtain⟨i,-,rfl⟩:=List.mem_map.1 hl;unfold zL4 at hx;obtain⟨k,hk,rfl⟩:=Qb (List.mem_filter.1 hx).1;exact hr k hk
theorem zRF{T:Nat->Nat->Nat}{set:List Int}(a b:Tm): ∀l∈zD8 T set a b,l.length<=set.length:=fun l hl=>by
 unfold zD8 tab at hl;obtain⟨i,-,rfl⟩:=List.mem_map.1 hl;exact List.length_filter_le _ _
theorem zMo{R:List (List Int)}(h:zLs R=false):NOk R (List.replicate R.length 0):=by
 refine⟨by simp,fun i hi=>?_⟩;have h0:(List.replicate R.length 0).getD i 0=0:=by simp[hi]
 rw[h0];have e2:R.getD i []=R[i]:=by simp[hi]
 rw[e2];refine Nat.pos_of_ne_zero fun he=>?_
 have:zLs R=true:=by
  unfold zLs;rw[List.any_eq_true];exact⟨R[i],List.getElem_mem hi,by simpa using he⟩
 rw[h]at this
 cases this
theorem zEZ(tb:List (List Int))(set:List Int)(a b:Tm)(hs:set.length<=100000):
  (zDL tb set a b≠0->FnA Tryz.prog 53 [.t 1 (rows tb),.t 0 (ints set),idV 0 a b] (.tup [.t 2 .nilp,.t 2 (.int .i64 (zDL tb set a b))]))∧
  (zDL tb set a b=0->FnS Tryz.prog 53 [.t 1 (rows tb),.t 0 (ints set),idV 0 a b] [] (.tup [.ptr 0 0 5,.t 2 (.int .i64 0)])
   [huO a.cmp b.cmp (zD8 (zP tb) set a b) 1 2,mcO tb (zP tb) tb.length (idI (zP tb) tb.length) (zIT [a.cmp,b.cmp] zU),nxO (List.replicate (zD8 (zP tb) set a b).length 0)]):=by
 refine⟨fun h=>?_,fun h=>?_⟩
 ·unfold zDL at h ⊢;by_cases h1:zCQ tb≠0
  ·rw[if_pos h1];exact zLf tb set a b h1
  have v1:zCQ tb=0:=Decidable.not_not.1 h1;rw[if_neg h1]at h ⊢;by_cases h2:zDB (zP tb) tb.length set=false
  ·rw[if_pos h2];exact zLP tb set a b hs v1 h2
  rw[if_neg h2]at h ⊢;have h2':zDB (zP tb) tb.length set=true:=by simpa using h2
  by_cases h3: ¬(a.val=true/\b.val=true)
  ·rw[if_pos h3];exact zLt tb set a b hs v1 h2' h3
  rw[if_neg h3]at h ⊢;by_cases h4:idI (zP tb) tb.length<0/\(a.zCN||b.zCN)=true
  ·rw[if_pos h4];exact zLZ tb set a b hs v1 h2' (Decidable.not_not.1 h3) h4.1 h4.2
  rw[if_neg h4]at h;exact absurd rfl h
 ·obtain⟨v1,hc,e3,e6⟩:=zMu h;exact zLc tb set a b hs v1 hc e3 e6
def zQj(T:Nat->Nat->Nat)(n:Nat)(R:List (List Int))(a b:Tm)(budget:Nat):Nat×Bool×Bool×List Nat:=runH (asV T n R a) (asV T n R b) R budget 0 (List.replicate R.length 0)
noncomputable def zFa(tb:List (List Int))(set:List Int)(a b:Tm)(budget:Int):List Int×Nat×Int:=
 if zDL tb set a b≠0 then([],0,zDL tb set a b)
 else if budget<1\/1048576<budget then([],0,1)
 else if zLs (zD8 (zP tb) set a b)=true then([],0,9)
 else if(zQj (zP tb) tb.length (zD8 (zP tb) set a b) a b budget.toNat).2.1=true then(asg (zD8 (zP tb) set a b) (zQj (zP tb) tb.length (zD8 (zP tb) set a b) a b budget.toNat).2.2.2,(zQj (zP tb) tb.length (zD8 (zP tb) set a b) a b budget.toNat).1,0)
 else if(zQj (zP tb) tb.length (zD8 (zP tb) set a b) a b budget.toNat).2.2.1=true then([],(zQj (zP tb) tb.length (zD8 (zP tb) set a b) a b budget.toNat).1,9)
 else([],0,7)
def zVb(x:List Int×Nat×Int):AV:=.tup [.t 2 (ints x.1),.t 2 (.int .i64 (x.2.1:Nat)),.t 2 (.int .i64 x.2.2)]
def zQn(x:List Int×Nat×Int):AV:=.tup [.t 2 (if x.2.2=0 then ints x.1 else .sl 0 []),.t 2 (.int .i64 (x.2.1:Nat)),.t 2 (.int .i64 x.2.2)]
theorem zN1(pa pb:List (Int×Int))(R:List (List Int))(hRl:R.length<=1000)(tb:List (List Int))(T:Nat->Nat->Nat)(n:Nat)(one:Int)(u:Nat->Bool)(N:List Nat):
  FnS Tryz.prog 54 [.ptr 0 0 5] [huO pa pb R 1 2,mcO tb T n one u,nxO N] (.t 2 (.bool (zLs R))) [huO pa pb R 1 2,mcO tb T n one u,nxO N]:=by
 have h1:=zOJ R hRl;refine fI 8 #[.tmp 2] Tryz.func54 rfl ?_;refine rg0 ?_;refine rc1 h1 @huO.eq_1 ?_;refine zC ?_;exact zSe (an @huO.eq_1 (an @mcO.eq_1 (an @zr (an @nxO.eq_1 @pgT.eq_1))))
theorem zH2(tb:List (List Int))(set:List Int)(a b:Tm)(hs:set.length<=100000)(budget:Int):
  FnA Tryz.prog 31 [.t 1 (rows tb),.t 0 (ints set),idV 0 a b,.t 2 (.int .i64 budget)] (zQn (zFa tb set a b budget)):=by
 refine fI 49 #[.tmp 8,.tmp 9,.tmp 10] Tryz.func31 rfl ?_;unfold zFa;by_cases hE:zDL tb set a b≠0
 ·have hh:=(zEZ tb set a b hs).1 hE;rw[if_pos hE];unfold zQn;simp only[if_neg hE];generalize zDL tb set a b=er at hE hh ⊢;have hEb:(er==0)=false:=by simpa using hE
  refine rg1 @idV.eq_1 ?_;refine zF fun K hK=>?_
  simp(maxSteps:=2000000)(disch:=omega)
  (repeat' apply And.intro)
  all_goals (try omega)
  refine zD (caps:=[]) (hh) [] [] 1 rfl rfl rfl rfl (by kernel_rfl) (by simp) ?_ ?_ (by simp) rfl (by simp) trivial (by simp) ?_
  ·simp[scal,rows,ints,idV]
  ·trivial
  simp(maxSteps:=2000000)(disch:=omega)[scal];and_intros<;>try first|apply hK|omega|rfl|simp<;>omega
  refine zA ?_;refine rg0 ?_;refine cT1 @hE ?_;refine rg0 ?_;exact zC (rt1 @idV.eq_1)
 have hE0:zDL tb set a b=0:=Decidable.not_not.1 hE;have hh:=(zEZ tb set a b hs).2 hE0;obtain⟨v1,hc,e3,e6⟩:=zMu hE0;rw[if_neg hE];have ht:=TbL.of v1;obtain⟨hl0,hl4⟩:=zC1 v1;have hRl:=zK5 (zP tb) set a b;have hga:=zRX a (zCi e3.1).1;have hgb:=zRX b (zCi e3.2).1;have hH:=zRK ht.lt (zGB v1) (zQ9 hc.rng a b) e3.1 e3.2 hRl e6;have hRL:=zRF (T:=zP tb) (set:=set) a b;unfold zQj;generalize zD8 (zP tb) set a b=R at hh hRl hH hRL ⊢;generalize zIT [a.cmp,b.cmp] zU=U at hh hH ⊢;generalize asV (zP tb) tb.length R a=va at hH ⊢;generalize asV (zP tb) tb.length R b=vb at hH ⊢;generalize a.cmp=pa at hh hH;generalize b.cmp=pb at hh hH;generalize idI (zP tb) tb.length=one at hh hH;refine rg1 @idV.eq_1 ?_;refine zF fun K hK=>?_
 simp(maxSteps:=2000000)(disch:=omega)
 (repeat' apply And.intro)
 all_goals (try omega)
 refine zD (caps:=[]) (hh) [] [7000000,7000001,7000002] 1 rfl rfl rfl rfl (by kernel_rfl) (by simp) ?_ ?_ (by simp) rfl (by simp) ⟨.inl ⟨by omega,by omega⟩,.inl ⟨by omega,by omega⟩,.inl ⟨by omega,by omega⟩,trivial⟩ (by simp[huO,mcO,nxO]) ?_
 ·simp[scal,rows,ints,idV]
 ·trivial
 simp(maxSteps:=2000000)(disch:=omega)[rows,scal,huO,mcO,zq,nxO];and_intros<;>try first|apply hK|omega|rfl|simp<;>omega
 refine zA ?_;refine rg0 ?_;refine cS0 ?_;refine zS (σ':=mkS [(3,.t 2 (.int .i64 budget)),(11,.ptr 0 0 5)] [(0,huO pa pb R 1 2),(1,mcO tb (zP tb) tb.length one U),(2,nxO (List.replicate R.length 0))] 3 49 [.any,.any,.any,.any]) ?_ ?_
 ·exact kw1 [(0,some 7000000),(1,some 7000001),(2,some 7000002)] (an @huO.eq_1 (an @mcO.eq_1 (an @zr (an @zq (an @nxO.eq_1 (an @rows.eq_1 @pgT.eq_1))))))
 refine zA ?_;by_cases hb1:budget<1
 ·rw[if_pos (.inl hb1)];refine rg1 @hb1 ?_;refine cT1 @hb1 ?_;refine rg0 ?_;refine zC ?_;unfold zQn;refine⟨⟨.inr rfl,_,[],(by first|rfl|(simp[ints,rows,scal,idV];rfl)),?_,?_,?_,?_⟩,?_⟩
  all_goals try simp[ints,rows,idV]
 by_cases hb2:1048576<budget
 ·rw[if_pos (.inr hb2)];refine rg1 (an @hb1 @hb2) ?_;refine cT1 @hb2 ?_;refine rg0 ?_;refine zC ?_;unfold zQn;refine⟨⟨.inr rfl,_,[],(by first|rfl|(simp[ints,rows,scal,idV];rfl)),?_,?_,?_,?_⟩,?_⟩
  all_goals try simp[ints,rows,idV]
 rw[if_neg (by omega)];have hEm:=zN1 pa pb R (by omega) tb (zP tb) tb.length one U (List.replicate R.length 0);refine rg1 (an @hb1 @hb2) ?_;refine cS1 @hb2 ?_;refine zA ?_;refine zF fun K hK=>?_
 simp(maxSteps:=2000000)(disch:=omega)
 (repeat' apply And.intro)
 all_goals (try omega)
 refine zD (caps:=[]) (hEm) [0,1,2] [0,7000003,7000004] 1 rfl rfl rfl rfl (by kernel_rfl) (by simp) ?_ ?_ (by simp) rfl (by simp) ⟨.inr ⟨rfl,0,_,_,_,_,_,rfl,rfl,(by first|rfl|simp[huO,mcO,zAo,zq,nxO,pgT,rows]),rfl,(by first|rfl|simp[huO,mcO,zAo,zq,nxO,pgT,rows])⟩,.inl ⟨by omega,by omega⟩,.inl ⟨by omega,by omega⟩,trivial⟩ (by simp[huO,mcO,nxO,pgT,rows]) ?_
 ·simp[rows,huO,mcO,nxO,pgT,rows]
 ·simp[scal,rows,huO,mcO,zAo,nxO,pgT,rows]
 simp(maxSteps:=2000000)(disch:=omega)[rows,scal,huO,mcO,zq,nxO]
 (repeat' first|apply hK|apply And.intro)<;>try first|omega|rfl|(simp<;>omega)
 cases hem:zLs R with
 |true=>
  simp only[↓reduceIte];refine cT1 @hem ?_;refine rg0 ?_;refine zC ?_;unfold zQn;refine⟨⟨.inr rfl,_,[],(by first|rfl|(simp[ints,rows,scal,idV];rfl)),?_,?_,?_,?_⟩,?_⟩
  all_goals try simp[ints,rows,idV]
 |false=>
  simp only[Bool.false_eq_true,↓reduceIte];obtain⟨lim,rfl⟩: ∃lim:Nat,budget=(lim:Int):=⟨budget.toNat,by omega⟩;rw[Int.toNat_natCast];have hz:=zMo hem;have hRun:=zSB pa pb R (by omega) (fun l hl=>by have:=hRL l hl;omega) tb (zP tb) tb.length ht (zGB v1) (by omega) one U va vb hH lim (by omega) _ hz;have hok:=(zJg (v1:=va) (v2:=vb) lim 0 hz).1;generalize runH va vb R lim 0 (List.replicate R.length 0)=x at hRun hok ⊢;obtain⟨st,fo,dn,M⟩:=x;simp only at hRun hok ⊢;have hVa:=zFy pa pb R (by omega) tb (zP tb) tb.length one U M hok;refine cS1 @hem ?_;refine zS (σ':=mkS [(3,.t 2 (.int .i64 (lim:Nat))),(11,.ptr 0 0 5)] [(0,huO pa pb R 1 2),(1,mcO tb (zP tb) tb.length one U),(2,nxO (List.replicate R.length 0))] 3 49 [.any,.any,.any,.any]) ?_ ?_
  ·exact kw1 [(0,some 0),(1,some 7000003),(2,some 7000004)] (an @huO.eq_1 (an @mcO.eq_1 (an @zr (an @zq (an @nxO.eq_1 (an @rows.eq_1 @pgT.eq_1))))))
  refine zF fun K hK=>?_
  simp(maxSteps:=2000000)(disch:=omega)
  (repeat' apply And.intro)
  all_goals (try omega)
  refine zD (caps:=[]) (hRun) [0,1,2] [0,2000003,2000004] 1 rfl rfl rfl rfl (by kernel_rfl) (by simp) ?_ ?_ (by simp) rfl (by simp) ⟨.inr ⟨rfl,0,_,_,_,_,_,rfl,rfl,(by first|rfl|simp[huO,mcO,zAo,zq,nxO,pgT,rows]),rfl,(by first|rfl|simp[huO,mcO,zAo,zq,nxO,pgT,rows])⟩,.inl ⟨by omega,by omega⟩,.inl ⟨by omega,by omega⟩,trivial⟩ (by simp[huO,mcO,nxO,pgT,rows]) ?_
  ·simp[scal,rows,huO,mcO,nxO,pgT,rows]
  ·simp[scal,rows,huO,mcO,zAo,nxO,pgT,rows]
  simp(maxSteps:=2000000)(disch:=omega)[rows,scal,huO,mcO,zq,nxO];and_intros<;>try first|apply hK|omega|rfl|simp<;>omega
  refine zS (σ':=mkS [(11,.ptr 0 0 5),(13,.t 2 (.int .i64 (st:Nat))),(14,.t 2 (.bool fo)),(15,.t 2 (.bool dn))] [(0,huO pa pb R 1 2),(1,mcO tb (zP tb) tb.length one U),(2,nxO M)] 3 49 [.any,.any,.any,.any]) ?_ ?_
  ·exact kw1 [(0,some 0),(1,some 2000003),(2,some 2000004)] (an @huO.eq_1 (an @mcO.eq_1 (an @zr (an @zq (an @nxO.eq_1 (an @rows.eq_1 @pgT.eq_1))))))
  refine zA ?_;refine zB ?_;refine rg0 ?_
  cases fo with
  |true=>
   simp only[↓reduceIte];refine cT0 ?_;refine zF fun K hK=>?_
   simp(maxSteps:=2000000)(disch:=omega)
   (repeat' apply And.intro)
   all_goals (try omega)
   refine zD (caps:=[]) (hVa) [0,1,2] [0,3000003,3000004,3000005] 1 rfl rfl rfl rfl (by kernel_rfl) (by simp) ?_ ?_ (by simp) rfl (by simp) ⟨.inr ⟨rfl,0,_,_,_,_,_,rfl,rfl,(by first|rfl|simp[huO,mcO,zAo,zq,nxO,pgT,rows,vaO]),rfl,(by first|rfl|simp[huO,mcO,zAo,zq,nxO,pgT,rows,vaO])⟩,.inl ⟨by omega,by omega⟩,.inl ⟨by omega,by omega⟩,.inl ⟨by omega,by omega⟩,trivial⟩ (by simp[huO,mcO,nxO,pgT,rows,vaO]) ?_
   ·simp[rows,huO,mcO,nxO,pgT,rows]
   ·simp[scal,rows,huO,mcO,zAo,nxO,pgT,rows]
   simp(maxSteps:=2000000)(disch:=omega)[rows,scal,huO,mcO,zq,nxO,vaO];and_intros<;>try first|apply hK|omega|rfl|simp<;>omega
   refine zC ?_;unfold zQn;refine⟨⟨.inr rfl,_,[],(by first|rfl|(simp[ints,rows,scal,idV,asg,zT];rfl)),?_,?_,?_,?_⟩,?_⟩
   all_goals try simp[ints,rows,idV,asg,zT]
  |false=>
   simp only[Bool.false_eq_true,↓reduceIte];refine cF0 ?_;refine rg0 ?_
   cases dn with
   |true=>
    simp only[↓reduceIte];refine cT0 ?_;refine rg0 ?_;refine zC ?_;unfold zQn;refine⟨⟨.inr rfl,_,[],(by first|rfl|(simp[ints,rows,scal,idV];rfl)),?_,?_,?_,?_⟩,?_⟩
    all_goals try simp[ints,rows,idV]
   |false=>
    simp only[Bool.false_eq_true,↓reduceIte];refine cY0 ?_;refine rg0 ?_;refine zC ?_;unfold zQn;refine⟨⟨.inr rfl,_,[],(by first|rfl|(simp[ints,rows,scal,idV];rfl)),?_,?_,?_,?_⟩,?_⟩
    all_goals try simp[ints,rows,idV]
theorem zPD{tb:List (List Int)}{set:List Int}{a b:Tm}{budget:Int}(h:(zFa tb set a b budget).2.2≠0):(zFa tb set a b budget).1=[]:=by
 unfold zFa at h ⊢;by_cases h1:zDL tb set a b≠0
 ·rw[if_pos h1]
 rw[if_neg h1]at h ⊢;by_cases h2:budget<1\/1048576<budget
 ·rw[if_pos h2]
 rw[if_neg h2]at h ⊢;by_cases h3:zLs (zD8 (zP tb) set a b)=true
 ·rw[if_pos h3]
 rw[if_neg h3]at h ⊢;by_cases h4:(zQj (zP tb) tb.length (zD8 (zP tb) set a b) a b budget.toNat).2.1=true
 ·rw[if_pos h4]at h;exact absurd rfl h
 rw[if_neg h4];split<;>rfl
theorem zJa(tb:List (List Int))(set:List Int)(a b:Tm)(hs:set.length<=100000)(budget:Int):
  FnA Tryz.prog 31 [.t 1 (rows tb),.t 0 (ints set),idV 0 a b,.t 2 (.int .i64 budget)] (zVb (zFa tb set a b budget)):=
 FnS.zTK (zH2 tb set a b hs budget) fun E v h=>h.upT ⟨fun E v h=>by
  by_cases e:(zFa tb set a b budget).2.2=0
  ·rw[if_pos e]at h;exact h
  ·rw[if_neg e]at h;rw[zPD e];exact h.zVB 1,fun _ _ h=>h,fun _ _ h=>h,trivial⟩
end Go.Proofs.YtgmcbpjplcjmdaaGreat.M
