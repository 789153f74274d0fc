/- Lemmas for the law AperiodicMember. No conditions. -/
import Derived.Test.YtjkeafkjjaploaaGreatZqat
import Derived.Test.YtjkeafkjjaploaaGreatZqav
set_option linter.all false
namespace Go.Proofs.YtjkeafkjjaploaaGreat.M
open Go.RowKit
set_option maxRecDepth 100000
set_option maxHeartbeats 32000000

def imN(r0:List Int)(a:Nat):Nat:=(r0.getD a 0).toNat
section
variable{L m:Nat}{bs:List Bool}{nx els:List (List Int)}{pre last:List Int}{wds:List (List Nat)}{right:List (List Int)}{r0:List Int}
theorem SyX.im(h:SyX L m nx els pre last wds right r0)(hg: ∀g∈tab L (lets m nx),TrN m g){a:Nat}(ha:a<L):imN r0 a<els.length/\r0[a]? =some (imN r0 a:Int)/\Rp L m nx els (imN r0 a) [a]:=by
 obtain⟨j,j1,j2,j3⟩:=h.img hg ha;have e:imN r0 a=j:=by
  unfold imN;rw[Qv,j1,Qd,Int.toNat_natCast]
 rw[e];refine⟨j2,j1,?_⟩;unfold Rp;rw[j3];have h1:act m (tab L (lets m nx)) [a]=zt (idL m) ((tab L (lets m nx)).getD a []):=rfl;have h2:(tab L (lets m nx)).getD a []=lets m nx a:=by rw[Qv,zX _ ha];rfl
 rw[h1,h2,zAn (hg _ (Qc (zX _ ha)))]
theorem SyX.vl(h:SyX L m nx els pre last wds right r0)(hg: ∀g∈tab L (lets m nx),TrN m g)(w:List Nat):(∀a∈w,a<L)->Rp L m nx els (vlW (zQ (zBO right wds els.length)) (imN r0) w) w:=by
 refine zBC (P:=fun w=>(∀a∈w,a<L)->Rp L m nx els (vlW (zQ (zBO right wds els.length)) (imN r0) w) w) (fun _=>h.pr.en.one.1) (fun u a ih hw=>?_) w;have ha:a<L:=hw a (by simp);have hu: ∀b∈u,b<L:=fun b hb=>hw b (by simp[hb])
 have:vlW (zQ (zBO right wds els.length)) (imN r0) (u++[a])=zQ (zBO right wds els.length) (vlW (zQ (zBO right wds els.length)) (imN r0) u) (imN r0 a):=by
  unfold vlW;rw[List.foldl_append];rfl
 rw[this];exact h.zUD hg hu (fun b hb=>by simp at hb;omega) (ih hu) (h.im hg ha).2.2
theorem SyX.zW8(h:SyX L m nx els pre last wds right r0)(hD:DfL L m 0 bs nx)(hg: ∀g∈tab L (lets m nx),TrN m g){w:List Nat}(hw: ∀a∈w,a<L):vlW (zQ (zBO right wds els.length)) (imN r0) w=zj right 0 w:=
 (h.zVg hD hw hw (h.vl hg w hw) (h.value hD hg hw)).2 fun _ _=>rfl
end
def zW6(ws:List (List Nat)):Prop:=∀w∈ws,∀x∈w,x<100
noncomputable def apB(n:Nat)(T:Nat->Nat->Nat):Bool:=@decide (∀x,x<n->ApX T x) (Classical.propDecidable _)
theorem zJy{n:Nat}{T:Nat->Nat->Nat}:apB n T=true↔ ∀x,x<n->ApX T x:=by unfold apB;exact @decide_eq_true_iff _ (Classical.propDecidable _)
theorem zVp{n:Nat}{T:Nat->Nat->Nat}{x:Nat}(hx:x<n)(h: ¬ApX T x):apB n T=false:=by
 cases e:apB n T with
 |false=>rfl
 |true=>exact absurd (zJy.1 e x hx) h
theorem zUf{n:Nat}{T:Nat->Nat->Nat}(h: ∀x,x<n->ApX T x):apB n T=true:=zJy.2 h
theorem zKZ{L n:Nat}{tb:List (List Int)}{T:Nat->Nat->Nat}{ws:List (List Nat)}{im:List Int}{ac pl:List Bool}(ht:TbL tb n T)(hA:zAz n T)(hn:n<=400)(hv:FnA Tryz.prog 27 [syV 0 L tb ws im ac pl] (.t 2 (.int .i64 0))):FnA Tryz.prog 28 [syV 0 L tb ws im ac pl] (.t 2 (.bool (apB n T))):=by
 have htl:=ht.len;refine fI 44 #[.tmp 2] Tryz.func28 rfl ?_;refine rg1 (an @syV.eq_1 @zH.eq_1) ?_;refine zD ?_;refine rc1 hv (an @syV.eq_1 @zH.eq_1) ?_;refine cS0 ?_;refine zD ?_;refine rg1 @htl ?_;refine zG ?_;refine awp_loop (fun x:Nat=>mkS [(1,.ptr 0 0 6),(10,.t 2 (.int .i64 n)),(11,.t 2 (.int .i64 x))]
   [(0,.box 27 [.t 2 (.int .i64 L),.t 0 (rows tb),.t 0 (.sl 1 (wsT ws)),.t 0 (ints im),.t 0 (zH ac),.t 0 (zH pl)])] 1 44 [.any]) (fun x=>x<=n/\ ∀y,y<x->ApX T y) (fun x=>n-x) ?_ ?_
 ·refine⟨0,⟨by omega,fun y hy=>by omega⟩,?_⟩;exact kw1 [(0,some 0)] (an @rows.eq_1 @zH.eq_1)
 rintro x ⟨hx,hap⟩;refine rg0 ?_;refine zD ?_;by_cases hlt:x<n
 ·obtain⟨k0,hk0,hom,hid,hno⟩:=zCA ht.lt hA hlt;have hiff:=zPR ht.lt hA hlt;rw[hom]at hiff;refine cK1 @hlt ?_;refine zD ?_;refine zG ?_;refine rg0 ?_;refine rg0 ?_;refine zD ?_;refine zG ?_;refine awp_loop (fun j:Nat=>mkS [(1,.ptr 0 0 6),(3,.t 2 (.int .i64 x)),(4,.t 2 (.int .i64 (pw T x j:Nat))),(10,.t 2 (.int .i64 n)),(11,.t 2 (.int .i64 x))]
    [(0,.box 27 [.t 2 (.int .i64 L),.t 0 (rows tb),.t 0 (.sl 1 (wsT ws)),.t 0 (ints im),.t 0 (zH ac),.t 0 (zH pl)])] 1 44 [.any]) (fun j=>j<=k0) (fun j=>k0-j) ?_ ?_
  ·refine⟨0,by omega,?_⟩;refine zP [(0,some 0)] rfl ?_ ?_ ?_ ?_
   all_goals try simp[ints,rows,zH,pw,itT]
  intro j hj;have hpl:=zLr ht.lt hlt j;obtain⟨g1,g2,g3⟩:=ht.get hpl hpl;obtain⟨i1,i2,i3⟩:=ht.get hpl hlt;have hps:=zDG (T:=T) x j;refine zD ?_;by_cases he:T (pw T x j) (pw T x j)=pw T x j
  ·obtain rfl:j=k0:=by
    rcases Nat.lt_or_ge j k0 with h|h
    ·exact absurd he (hno j h)
    ·omega
   clear hno hps;generalize pw T x j=e at*
   refine rg1 (an @g1 (an @g2 (an @g3 @he))) ?_;refine cF0 ?_;refine zK ?_;by_cases c:T e x=e
   ·refine rg1 (an @i1 (an @i2 (an @i3 @c))) ?_;refine cY0 ?_;refine rr0 ?_;refine⟨x+1,⟨by omega,fun y hy=>?_⟩,by omega,?_⟩
    ·rcases Nat.lt_or_ge y x with h|h
     ·exact hap y h
     ·obtain rfl:y=x:=by omega
      exact hiff.2 c
    exact kw1 [(0,some 0)] (an @rows.eq_1 @zH.eq_1)
   ·have hf:=zVp hlt (fun h=>c (hiff.1 h));have c1:((T e x:Nat):Int)≠(e:Int):=by omega
    refine rg1 (an @i1 (an @i2 (an @i3 @c))) ?_;refine cT1 @c ?_;refine rg0 ?_;exact zI (rt1 (an @hf @syV.eq_1))
  ·have hlt2:j<k0:=by
    rcases Nat.lt_or_ge j k0 with h|h
    ·exact h
    ·obtain rfl:j=k0:=by omega
     exact absurd hid he
   refine rg1 (an @g1 (an @g2 (an @g3 @he))) ?_;refine cK1 @he ?_;refine zG ?_;refine rr1 (an @i1 (an @i2 @i3)) ?_;refine⟨j+1,by omega,by omega,?_⟩;rw[hps];exact kw1 [(0,some 0)] (an @rows.eq_1 @zH.eq_1)
 ·obtain rfl:x=n:=by omega
  have hf:=zUf hap;refine cF0 ?_;refine zK ?_;refine rg0 ?_;exact zI (rt1 (an @hf @syV.eq_1))
section
variable{L m:Nat}{bs:List Bool}{nx els:List (List Int)}{pre last:List Int}{wds:List (List Nat)}{right:List (List Int)}{r0:List Int}
theorem SyX.zWF(h:SyX 1 m nx els pre last wds right r0)(hD:DfL 1 m 0 bs nx)(hg: ∀g∈tab 1 (lets m nx),TrN m g)(hm:m<=4)(ha: ∀x,x<els.length->ApX (zQ (zBO right wds els.length)) x):els.length<=4:=by
 have hz: ∀k,∀a∈List.replicate k 0,a<1:=fun k a ha=>by rw[(List.mem_replicate.1 ha).2];omega
 obtain⟨x1,x2,x3⟩:=h.im hg (show 0<1 by omega);obtain⟨k,hk⟩:=ha _ x1;have hpw: ∀j,Rp 1 m nx els (pw (zQ (zBO right wds els.length)) (imN r0 0) j) (List.replicate (j+1) 0):=fun j=>by
  induction j with
  |zero=>exact x3
  |succ j ih=>
   have:=h.zUD hg (hz (j+1)) (fun a ha=>by simp at ha;omega) ih x3;rw[List.replicate_succ' (n:=j+1)];exact this
 have e1: ∀q,q<m->zj nx q (List.replicate (k+2) 0)=zj nx q (List.replicate (k+1) 0):=(h.zVg hD (hz _) (hz _) (hpw (k+1)) (hpw k)).1 hk;have red: ∀j,3<=j-> ∀q,q<m->zj nx q (List.replicate j 0)=zj nx q (List.replicate 3 0):=fun j hj q hq=>by
  have up: ∀d,zj nx q (List.replicate (k+1+d) 0)=zj nx q (List.replicate (k+1) 0):=fun d=>by
   induction d with
   |zero=>rfl
   |succ d ih=>
    rw[show k+1+(d+1)=(k+1+d)+1 by omega,zBV,ih,←zBV];exact e1 q hq
  have per: ∀d,zj nx q (List.replicate (3+d+12) 0)=zj nx q (List.replicate (3+d) 0):=fun d=>by
   induction d with
   |zero=>exact zOu hD hm hq
   |succ d ih=>
    rw[show 3+(d+1)+12=(3+d+12)+1 by omega,zBV,ih,←zBV];rfl
  have per2: ∀d c,zj nx q (List.replicate (3+d+12*c) 0)=zj nx q (List.replicate (3+d) 0):=fun d c=>by
   induction c with
   |zero=>rfl
   |succ c ih=>
    have:=per (d+12*c);rw[show 3+d+12*(c+1)=3+(d+12*c)+12 by omega,this,←Nat.add_assoc];exact ih
  have f0:=per2 0 (k+1);have f1:=per2 (j-3) (k+1);rw[show 3+0+12*(k+1)=k+1+(11*k+14) by omega,up]at f0;rw[show 3+(j-3)+12*(k+1)=k+1+(j+11*k+11) by omega,up]at f1;rw[show 3+(j-3)=j by omega]at f1;exact f1.symm.trans f0
 have hnd:els.Nodup:=by
  rw[List.nodup_iff_pairwise_ne,List.pairwise_iff_getElem];intro i j hi hj hij e;have:=h.pr.en.nd i j els[i] (by simp) (by simp[e]);omega
 have:=zBK (l:=els) (k:=(List.range 4).map fun k=>act m (tab 1 (lets m nx)) (List.replicate k 0)) hnd (fun a ha=>by
  obtain⟨x,hx,rfl⟩:=Qb ha;obtain⟨w,hw,hr⟩:=h.rp hx;have hw0:w=List.replicate w.length 0:=List.eq_replicate_iff.2 ⟨rfl,fun b hb=>by have:=hw b hb;omega⟩;obtain⟨j,hj,e⟩: ∃j,j<4/\ ∀q,q<m->zj nx q w=zj nx q (List.replicate j 0):=by
   by_cases c:w.length<3
   ·exact⟨w.length,by omega,fun q hq=>by rw[←hw0]⟩
   ·exact⟨3,by omega,fun q hq=>by rw[hw0];exact red _ (by omega) q hq⟩
  obtain⟨y,hy⟩:=h.zWy (w:=List.replicate j 0) (hz j);have hxy:=(h.zVg hD hw (hz j) hr hy).2 e;subst hxy;unfold Rp at hy;rw[Qj hx]at hy;rw[Option.some.inj hy];exact List.mem_map.2 ⟨j,List.mem_range.2 hj,rfl⟩)
 simpa using this
end
structure zT1(L N:Nat)(tb:List (List Int))(ws:List (List Nat))(im:List Int)(ac pl:List Bool):Prop where
 hS:zPo L N tb ws im ac pl
 ht:TbL tb N (zQ tb)
 hA:zAz N (zQ tb)
 one: ∀x,x<N->zQ tb 0 x=x/\zQ tb x 0=x
theorem zT1.apM{L N:Nat}{tb:List (List Int)}{ws:List (List Nat)}{im:List Int}{ac pl:List Bool}(h:zT1 L N tb ws im ac pl)(ha: ∀x,x<N->ApX (zQ tb) x):ApM N (zQ tb):=ApX.apM h.hS.n1 h.ht.lt h.hA h.one ha
section
variable{L m:Nat}{bs:List Bool}{nx els:List (List Int)}{pre last:List Int}{wds:List (List Nat)}{right:List (List Int)}{r0:List Int}
theorem SyX.zWv(h:SyX L m nx els pre last wds right r0)(hM:MnD L m bs nx)(hL:L=1\/L=2):zT1 L els.length (zBO right wds els.length) wds r0 (els.map (zFA bs)) (psB els.length (right.any fun r=>decide ((0:Int)∈r))):=by
 have hg: ∀g∈tab L (lets m nx),TrN m g:=(hM.df.gn (by omega) (by omega) h.m32).tr;have hv:=h.pr.vE hg h.el;have ht:=TbL.of hv;rw[zBX]at ht;exact⟨h.sh (by omega) (by omega) _ (by simp) _ (by simp[psB]),ht,h.pr.asc hg,h.one hg⟩
end
def zTY(most:Nat)(xs:List Int)(res:AV)(H':List AObj):Prop:=∃L m bs nx els pre last wds right r0 b,(L=1\/L=2)/\MnD L m bs nx/\SyX L m nx els pre last wds right r0/\(els.length<=most\/(L=1/\m<=4))/\b<=xs.length/\res=zHm 2 L bs els wds right r0/\H'=[tpO 1 xs b]
theorem zIL(xs:List Int)(a:Nat)(ha:a<=xs.length)(hl:xs.length<=80): ∃L b:Nat,(L=1\/L=2)/\b<=xs.length/\FnS Tryz.prog 25 [.ptr 0 0 2] [tpO 1 xs a] (.t 2 (.int .i64 (L:Nat))) [tpO 1 xs b]:=by
 obtain⟨v,b,hv,hb,hN⟩:=zBP xs a 8 ha hl (by omega);have hv:=hv (by omega);obtain⟨L,hL,hLv⟩: ∃L:Nat,(L=1\/L=2)/\2-(v:Int).tdiv 7=(L:Int):=by
  by_cases h:v=7
  ·subst h;exact⟨1,.inl rfl,by decide⟩
  ·refine⟨2,.inr rfl,?_⟩;rw[Int.tdiv_eq_zero_of_lt (by omega) (by omega)];rfl
 have hd:(v:Int).tdiv 7=2-(L:Int):=by omega
 refine⟨L,b,hL,hb,?_⟩;refine fI 7 #[.tmp 2] Tryz.func25 rfl ?_;refine rg0 ?_;refine zO fun K hK=>?_
 simp(maxSteps:=2000000)(disch:=omega)
 (repeat' apply And.intro)
 all_goals (try omega)
 refine zJ (caps:=[]) (hN) [0] [0] 1 rfl rfl rfl rfl (by kernel_rfl) (by simp) ?_ ?_ (by simp) rfl (by simp) ⟨.inr ⟨rfl,0,_,_,_,_,_,rfl,rfl,rfl,rfl,rfl⟩,trivial⟩ (by simp[tpO]) ?_
 ·simp[scal,ints,tpO]
 ·simp[scal,ints,tpO]
 simp(maxSteps:=2000000)(disch:=omega)[ints,scal,zBh,tpO,hd];and_intros<;>try first|apply hK|omega|rfl|simp<;>omega
 refine zI ?_;refine⟨⟨.inr rfl,_,[(0,some 0)],(by first|rfl|(simp[ints,rows,scal,tpO];rfl)),?_,?_,?_,?_⟩,?_⟩
 all_goals try simp[ints,tpO]
 omega
theorem zNw(xs:List Int)(hxl:xs.length<=80)(most:Nat)(hmost:most<=100): ∃res H',zTY most xs res H'/\FnS Tryz.prog 7 [.ptr 0 0 2,.t 2 (.int .i64 most)] [tpO 1 xs 0] res H':=by
 obtain⟨L,b,hL,hb,hlet⟩:=zIL xs 0 (by omega) hxl;obtain⟨_,_,⟨n,s,b1,bs,nxt,hn,hb1,hD,hF,rfl,rfl⟩,hany⟩:=zSU xs b L 4 hb hxl hL (by omega) (by omega);obtain⟨_,⟨m,bs',nx',hX,hr⟩,hof⟩:=zG0 hD (by omega) (by omega) (by omega) (fun m bs' nx' hX=>by have:=hX.le;omega);rcases hr with⟨-,hbad⟩|⟨els,pre,last,wds,right,r0,hS,rfl⟩
 ·exact absurd hbad (hF.noF hL hD hX hn)
 have hml:=hX.le;have htl:=zBX right wds els.length;have hel:=hS.el;refine zAp Tryz.func7 rfl (by simp[Tryz.f7]) ?_;rw[show Tryz.f7.ntmps=27 from rfl,show Tryz.f7.results= #[.cell 4 27]from rfl];refine rg0 ?_;refine zO fun K hK=>?_
 simp(maxSteps:=2000000)(disch:=omega)
 (repeat' apply And.intro)
 all_goals (try omega)
 refine zJ (caps:=[]) (hlet) [0] [0] 1 rfl rfl rfl rfl (by kernel_rfl) (by simp) ?_ ?_ (by simp) rfl (by simp) ⟨.inr ⟨rfl,0,_,_,_,_,_,rfl,rfl,rfl,rfl,rfl⟩,trivial⟩ (by simp[tpO]) ?_
 ·simp[ints,tpO]
 ·simp[scal,ints,tpO]
 simp(maxSteps:=2000000)(disch:=omega)[ints,scal,tpO]
 (repeat' apply And.intro)
 all_goals (try omega)
 refine zJ (caps:=[]) (hany) [0] [0] 1 rfl rfl rfl rfl (by kernel_rfl) (by simp) ?_ ?_ (by simp) rfl (by simp) ⟨.inr ⟨rfl,0,_,_,_,_,_,rfl,rfl,rfl,rfl,rfl⟩,trivial⟩ (by simp[tpO]) ?_
 ·simp[scal]
 ·simp[scal,ints,tpO]
 simp(maxSteps:=2000000)(disch:=omega)[ints,rows,scal,dfT,tpO]
 (repeat' apply And.intro)
 all_goals (try omega)
 refine zJ (caps:=[]) (hof) [] [] 2 rfl rfl rfl rfl (by kernel_rfl) (by simp) ?_ trivial trivial rfl trivial trivial (by simp) ?_
 ·simp[scal,rows,dfT]
 simp(maxSteps:=2000000)(disch:=omega)[ints,rows,scal,zHm];and_intros<;>try first|apply hK|omega|rfl|simp<;>omega
 refine zD ?_;by_cases hle:els.length<=most
 ·have hle': ¬((most:Int)<(els.length:Int)):=by omega
  refine rg1 (an @htl @hle') ?_;refine cS0 ?_;refine rg0 ?_;refine zI ?_;refine⟨⟨_,_,⟨L,m,bs',nx',els,pre,last,wds,right,r0,b1,hL,hX.mn,hS,.inl hle,hb1,rfl,rfl⟩,?_⟩,by simp⟩;refine zBT ?_;refine⟨.inr rfl,_,[(0,some 0)],(by first|(simp;rfl)|rfl),?_,?_,?_,?_⟩
  all_goals try simp +contextual (disch:=omega)[zf,ints,tpO,rows,zH,tpO,zHm,rows,zH]
 ·have hle':(most:Int)<(els.length:Int):=by omega
  obtain⟨_,_,⟨n2,s2,b2,bs2,nxt2,hn2,hb2,hD2,rfl,rfl⟩,hord⟩:=zF1 xs b1 1 4 hb1 hxl (by omega) (by omega) (by omega) (by omega);obtain⟨_,⟨m2,bs2',nx2',hX2,hr2⟩,hof2⟩:=zG0 hD2 (by omega) (by omega) (by omega) (fun m bs' nx' hX=>by have:=hX.le;omega);have hml2:=hX2.le;rcases hr2 with⟨-,hbad⟩|⟨els2,pre2,zTi,wds2,right2,r02,hS2,rfl⟩
  ·exact absurd hbad (zN2 ((hX2.mn.df.gn (by omega) (by omega) (by omega)).tr) (by omega))
  refine rg1 (an @htl @hle') ?_;refine cT0 ?_;refine zAE fun K hK=>?_
  simp(maxSteps:=2000000)(disch:=omega)
  (repeat' apply And.intro)
  all_goals (try omega)
  refine zJ (caps:=[]) (hord) [0] [0] 1 rfl rfl rfl rfl (by kernel_rfl) (by simp) ?_ ?_ (by simp) rfl (by simp) ⟨.inr ⟨rfl,0,_,_,_,_,_,rfl,rfl,rfl,rfl,rfl⟩,trivial⟩ (by simp[tpO]) ?_
  ·simp[scal]
  ·simp[scal,ints,tpO]
  simp(maxSteps:=2000000)(disch:=omega)[ints,rows,scal,dfT,tpO]
  (repeat' apply And.intro)
  all_goals (try omega)
  refine zJ (caps:=[]) (hof2) [] [] 2 rfl rfl rfl rfl (by kernel_rfl) (by simp) ?_ trivial trivial rfl trivial trivial (by simp) ?_
  ·simp[scal,rows,dfT]
  simp(maxSteps:=2000000)(disch:=omega)[ints,rows,scal,zHm];and_intros<;>try first|apply hK|omega|rfl|simp<;>omega
  refine rg0 ?_;refine zI ?_;refine⟨⟨_,_,⟨1,m2,bs2',nx2',els2,pre2,zTi,wds2,right2,r02,b2,.inl rfl,hX2.mn,hS2,.inr ⟨rfl,by omega⟩,hb2,rfl,rfl⟩,?_⟩,by simp⟩;refine zBT ?_;refine⟨.inr rfl,_,[(0,some 0)],(by first|(simp;rfl)|rfl),?_,?_,?_,?_⟩
  all_goals try simp +contextual (disch:=omega)[zf,ints,tpO,rows,zH,tpO,zHm,rows,zH]
