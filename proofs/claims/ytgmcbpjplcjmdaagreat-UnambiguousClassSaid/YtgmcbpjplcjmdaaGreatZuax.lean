/- Lemmas for the law unambiguousClass. No conditions. -/
import Derived.Test.YtgmcbpjplcjmdaaGreatZuaq
import Derived.Test.YtgmcbpjplcjmdaaGreatZuau
import Derived.Test.YtgmcbpjplcjmdaaGreatZuat
import Derived.Test.YtgmcbpjplcjmdaaGreatZuaw
set_option linter.all false
namespace Go.Proofs.YtgmcbpjplcjmdaaGreat.M
open Go.RowKit
set_option maxRecDepth 100000
set_option maxHeartbeats 32000000

theorem zET{H:Nat->Option AObj}{un:Nat->Prop}{q:Nat}:wkT H un q [] []=True:=eq_true ⟨rfl,fun j x y hx _=>by simp at hx⟩
theorem zDH{H:Nat->Option AObj}{un:Nat->Prop}{q:Nat}{a:AV}{t:T}{bs:List AV}{ts:List T}:wkT H un q (a::bs) (t::ts)=(wk1 H un q a t/\wkT H un q bs ts):=by
 apply propext;constructor
 ·intro h;exact⟨h.2 0 a t rfl rfl,by simpa using h.1,fun j x y hx hy=>h.2 (j+1) x y (by simpa using hx) (by simpa using hy)⟩
 ·rintro⟨h1,h2⟩;refine⟨by simpa using h2.1,fun j x y hx hy=>?_⟩
  cases j with
  |zero=>simp at hx hy;subst hx hy;exact h1
  |succ j=>exact h2.2 j x y (by simpa using hx) (by simpa using hy)
theorem zP6:List.range 2=[0,1]:=rfl
theorem zTV:slB Tryz.prog 22=true:=by kernel_rfl
theorem zGC(xs:List Int)(hx:0<xs.length)(hl:xs.length<=100000):FnA Tryz.prog 160 [.t 0 (ints xs)] (.t 2 (ints xs)):=by
 have hne: ¬xs=[]:=fun e=>by rw[e]at hx;simp at hx
 refine fI 8 #[.tmp 2] Tryz.func160 rfl ?_;refine rg0 ?_;refine zA ?_;refine rg1 (an @zTV @hx) ?_;refine cS1 @hne ?_;refine rg0 ?_;exact zC (rt1 @ints.eq_1)
theorem zRH:(⟨#[]⟩:ByteArray)=zAZ []:=rfl
structure BgI(n:Nat)(gs els:List (List Int))(pre last:List Int)(wds:List (List Nat))(rls:List T)(beh sgl:List Int)(k:Nat):Prop where
 st:StI n gs els pre last wds rls k
 bl:beh.length=els.length
 bt: ∀t,0<t->t<els.length->beh[t]? =some 0
 sl:sgl.length=k
def BgG(n:Nat)(gs:List (List Int))(res:AV)(H':List AObj):Prop:=∃els pre last wds rls beh sgl,res= .tup [.ptr 0 0 13,.t 2 (.int .i64 0)]/\H'=rnO n gs els pre last wds [] rls 0 beh sgl/\RnI n gs els pre last wds [] 0 beh/\rls.length<=12
theorem zNK{n:Nat}{gs:List (List Int)}(h:zIM n gs): ∃res H',BgG n gs res H'/\FnS Tryz.prog 181 [.t 0 (rows gs),.t 2 (.bool true)] [] res H':=by
 have hg1:=h.g1;have hg2:=h.g2;have hn1:=h.n1;have hn2:=h.n2;have h0:0<gs.length:=by omega
 have hl0:gs[0].length=n:=h.zI5 h0;have c1:((gs.length:Int)==0)=false:=by
  have: ¬(gs.length:Int)=0:=by omega
  simpa using this
 have c2: ¬6<(gs.length:Int):=by omega
 refine zAw Tryz.func181 rfl (by simp[Tryz.f181]) ?_;rw[show Tryz.f181.ntmps=147 from rfl,show Tryz.f181.results= #[.tmp 4,.tmp 5]from rfl];refine rg0 ?_;refine zA ?_;refine rg1 (an @c1 @c2) ?_;refine cS0 ?_;refine rg0 ?_;refine rg1 (an @h0 @hl0) ?_;refine zA ?_;refine rg0 ?_;refine zB ?_;refine awp_loop (fun k:Nat=>mkS [(1,.t 2 (.bool true)),(6,.ptr 0 0 13),(39,.t 0 (rows gs)),(40,.t 2 (.int .i64 gs.length)),(41,.t 2 (.int .i64 k))]
   [(0,.box 257 [.t 2 (.int .i64 n),.t 2 (.bool true),.own 1 k,.t 2 (.sl 0 []),.t 2 (.sl 0 []),.t 2 (.sl 0 []),.t 2 (.sl 0 []),.t 2 (.sl 0 []),.t 2 (.int .i64 0),.own 2 0,.t 2 (.sl 0 []),.t 2 (.sl 0 []),.t 2 (.sl 0 [])]),
    (1,.row 22 1 2 ((gs.take k).map ints)),(2,.map 9 3 [])] 3 147 [.any,.any]) (fun k=>k<=gs.length) (fun k=>gs.length-k) ?_ ?_
 ·refine⟨0,by omega,?_⟩;exact kw1 [(0,some 12000000),(1,none),(2,some 10000000)] @rows.eq_1
 intro k hk;refine rg0 ?_;refine zA ?_;by_cases hlt:k<gs.length
 ·have hlk:=h.zI5 hlt;have hgk:=h.tr gs[k] (by simp);have htk:(gs.take (k+1)).map ints=(gs.take k).map ints++[ints gs[k]]:=by
   rw[Qf hlt,List.map_append];rfl
  refine cK1 @hlt ?_;refine zA ?_;refine zB ?_;refine rg1 @hlt ?_;refine zA ?_;refine rc1 (zEa hgk hn1 (by omega)) @hlk ?_;refine cS0 ?_;refine zAW (by kernel_rfl) (fun K hK=>?_);simp(maxSteps:=2000000)(disch:=omega)
  (repeat' apply And.intro)
  all_goals (try omega)
  refine zM (caps:=[]) (zGC gs[k] (by omega) (by omega)) [] [] 2 rfl rfl rfl rfl (by kernel_rfl) (by simp) ?_ trivial trivial rfl trivial trivial (by simp) ?_
  ·simp[scal,ints]
  simp(maxSteps:=2000000)(disch:=omega)[ints,scal];and_intros<;>try first|apply hK|(show zAY _ _=true;kernel_rfl)|(show okH _ _ _=true;kernel_rfl)|omega|rfl|simp<;>omega
  refine rr0 ?_;refine⟨k+1,by omega,by omega,?_⟩;exact kw1 [(0,some 0),(1,some 1),(2,some 2)] (an @htk @rows.eq_1)
 ·obtain rfl:k=gs.length:=by omega
  refine cF0 ?_;refine zE ?_;refine zS (σ':=mkS [(1,.t 2 (.bool true)),(6,.ptr 0 0 13)] (rnM n gs [] [] [] [] [] [] 0 [] []) 10 147 [.any,.any]) ?_ ?_
  ·refine zH [(0,some 0),(1,none),(2,none),(3,none),(4,none),(5,none),(6,some 2),(7,none),(8,none),(9,none)] rfl ?_ ?_ ?_ ?_
   all_goals try simp[rnM,rnB,rows,wsT,kents]
   rw[Qn (by simp)]
  refine rg1 (an @rnM.eq_1 @rnB.eq_1) ?_;refine zA ?_;refine rg0 ?_;refine cT0 ?_;have hadd0:=zJL (right:=[]) (rls:=[]) (dn:=0) (sgl:=[]) (gs:=gs) (els:=[]) (pre:=[]) (last:=[]) (wds:=[]) (beh:=[]) (f:=idL n) (-1) (-1) [] (-1) (n:=n) (by omega) (by simp) (zFh n) rfl (by simp) rfl rfl rfl rfl;refine zAT fun K hK=>?_
  simp(maxSteps:=2000000)(disch:=omega)
  (repeat' apply And.intro)
  all_goals (try omega)
  refine zD (caps:=[]) (zN2 hn1 (by omega)) [] [] 2 rfl rfl rfl rfl (by kernel_rfl) (by simp) ?_ trivial trivial rfl trivial trivial (by simp) ?_
  ·simp[scal]
  simp(maxSteps:=2000000)(disch:=omega)[ints,scal]
  (repeat' apply And.intro)
  all_goals (try omega)
  refine zD (caps:=[]) (hadd0) [0,1,2,3,4,5,6,7,8,9] [0,9000010,9000011,9000012,9000013,9000014,9000015,9000016,9000017,9000018] 1 rfl rfl rfl rfl (by kernel_rfl) (by simp) ?_ ?_ (by simp) rfl (by simp) ⟨.inr ⟨rfl,0,_,_,_,_,_,rfl,rfl,(by first|rfl|simp[rnO,rnB,zRH]),rfl,(by first|rfl|simp[rnO,rnB,zRH])⟩,.inl ⟨by omega,by omega⟩,.inl ⟨by omega,by omega⟩,.inl ⟨by omega,by omega⟩,.inl ⟨by omega,by omega⟩,.inl ⟨by omega,by omega⟩,.inl ⟨by omega,by omega⟩,.inl ⟨by omega,by omega⟩,.inl ⟨by omega,by omega⟩,.inl ⟨by omega,by omega⟩,trivial⟩ (by simp[rnO,rnB]) ?_
  ·simp[scal,ints,zRH]
  ·simp[scal,rows,rnO,rnB]
  simp(maxSteps:=2000000)(disch:=omega)[ints,rows,scal,rnO,rnB];and_intros<;>try first|apply hK|omega|rfl|simp<;>omega
  refine zA ?_;refine rg0 ?_;refine zB ?_;refine awp_loop (fun y:Nat×List (List Int)×List Int×List Int×List (List Nat)×List T×List Int×List Int=>mkS [(6,.ptr 0 0 13),(9,.t 2 (.int .i64 0)),(85,.t 1 (rows gs)),(86,.t 2 (.int .i64 gs.length)),(87,.t 2 (.int .i64 y.1))]
    (rnM n gs y.2.1 y.2.2.1 y.2.2.2.1 y.2.2.2.2.1 [] y.2.2.2.2.2.1 0 y.2.2.2.2.2.2.1 y.2.2.2.2.2.2.2) 10 147 [.any,.any])
   (fun y=>BgI n gs y.2.1 y.2.2.1 y.2.2.2.1 y.2.2.2.2.1 y.2.2.2.2.2.1 y.2.2.2.2.2.2.1 y.2.2.2.2.2.2.2 y.1) (fun y=>gs.length-y.1) ?_ ?_
  ·refine⟨(0,[idL n],[-1],[-1],[[]],[],[-1],[]),⟨⟨EnL.start,by omega,by simp,by simp,fun i _ h=>by omega⟩,rfl,fun t h1 h2=>by simp at h2;omega,rfl⟩,?_⟩;exact kw1 [(0,some 0),(1,some 9000010),(2,some 9000011),(3,some 9000012),(4,some 9000013),(5,some 9000014),(6,some 9000015),(7,some 9000016),(8,some 9000017),(9,some 9000018)] (an @rnM.eq_1 (an @rnB.eq_1 @rows.eq_1))
  rintro⟨k,els,pre,last,wds,rls,beh,sgl⟩ hI;simp only at hI;have hen:=hI.st.en;have hel:=hI.st.el;have hkl:=hI.st.kl;have hrl:=hI.st.rl;have hle:=hen.le;have hlp:=hen.wd.lp;have hll:=hen.wd.ll;have hbl:=hI.bl;have hsl:=hI.sl;refine rg1 (an @rnM.eq_1 @rnB.eq_1) ?_;refine zA ?_;by_cases hlt:k<gs.length
  ·have hlk:=h.zI5 hlt;have hgk:=h.tr gs[k] (by simp);have hall:=zCa txT (P:=Tryz.prog) (K:=9) zCf els 0;have helt: ∀e∈els,TrN n e:=fun e he=>by
    obtain⟨i,hi,rfl⟩:=Qb he;exact(hen.val i wds[i] els[i] (by simp) (by simp)).2.1
   have hfn:=zM4 (f:=gs[k]) (by omega) helt hgk;have htx:=zIq (e:=gs[k]) (fun v hv=>by have:=hgk.2 v hv;omega) (by have:=hgk.1;omega);have henc:Utf8.encode (IntKind.i32.wrap (97+(k:Int)))=zAZ [k]:=by
    rw[show IntKind.i32.wrap (97+(k:Int))=97+k by rw[IntKind.wrap_i32];omega];exact zFw (by omega)
   have hz1:zCH Tryz.prog 3=some (.int .i64 0):=by kernel_rfl
   refine cK1 @hlt ?_;refine zA ?_;refine zB ?_;refine rg1 @hlt ?_;refine rg1 @henc ?_
   cases hix:ixA gs[k] els with
   |some j=>
    have hj:=zC9 hix;have hjl:=zQl hix;have hjw:j<wds.length:=by omega
    have hje:=zCg txT els 0 j _ hj;have hwj:(wsT wds)[j]? =some (.str (zAZ wds[j])):=by simp[wsT,hjw]
    refine zg (by kernel_rfl) (fun K hK=>?_);simp(maxSteps:=2000000)(disch:=omega)
    (repeat' apply And.intro)
    all_goals (try omega)
    refine zM (caps:=[]) (htx) [] [] 2 rfl rfl rfl rfl (by kernel_rfl) (by simp) ?_ trivial trivial rfl trivial trivial (by simp) ?_
    ·simp[scal,ints]
    simp(maxSteps:=2000000)(disch:=omega)[scal,hfn,hix,hall,zCf,hz1,hje];and_intros<;>try first|apply hK|(show zAY _ _=true;kernel_rfl)|(show okH _ _ _=true;kernel_rfl)|omega|rfl|simp<;>omega
    refine zA ?_;refine rg0 ?_;refine cT0 ?_;refine zAW (by kernel_rfl) (fun K hK=>?_);simp(maxSteps:=2000000)(disch:=omega)[hwj,hjw];and_intros<;>try first|apply hK|(show zAY _ _=true;kernel_rfl)|(show okH _ _ _=true;kernel_rfl)|omega|rfl|simp<;>omega
    refine zAT fun K hK=>?_
    simp(maxSteps:=2000000)(disch:=omega);and_intros<;>try first|apply hK|omega|rfl|simp<;>omega
    refine zAT fun K hK=>?_
    simp(maxSteps:=2000000)(disch:=omega)[zBs]
    (repeat' first|apply hK|apply And.intro)<;>try first|omega|rfl|(simp<;>omega)
    refine⟨(k+1,els,pre,last,wds,rls++[.str (zAZ [k]),.str (zAZ wds[j])],beh,sgl++[(j:Int)]),⟨⟨hen,by omega,by simp;omega,by simp;omega,fun i hi hk=>?_⟩,hbl,hI.bt,by simp[hsl]⟩,by simp;omega,?_⟩
    ·by_cases e:i=k
     ·subst e;exact Qc hj
     ·exact hI.st.has i hi (by omega)
    exact kw1 [(0,some 0),(1,some 1),(2,some 2),(3,some 3),(4,some 4),(5,some 5),(6,some 6),(7,some 7),(8,some 8),(9,some 9)] (an @rnM.eq_1 (an @rnB.eq_1 @rows.eq_1))
   |none=>
    have hnot:=zDd hix;have hE:=hen.add h.tr (p:=0) (x:=k) hen.one.2 hen.one.1 (Qj hlt) (by rw[zAz hgk];exact fun i hi e=>hnot (e▸by simp)) 0 rfl (hI.st.bef h.tr);rw[zAz hgk]at hE;have hadd:=zJL (right:=[]) (rls:=rls) (dn:=0) (sgl:=sgl) (gs:=gs) (0:Int) (k:Int) [k] (0:Int) (by omega) helt hgk hix (by omega) (show pre.length=els.length by omega) (show last.length=els.length by omega) hle.symm hbl;refine zg (by kernel_rfl) (fun K hK=>?_);simp(maxSteps:=2000000)(disch:=omega)
    (repeat' apply And.intro)
    all_goals (try omega)
    refine zM (caps:=[]) (htx) [] [] 2 rfl rfl rfl rfl (by kernel_rfl) (by simp) ?_ trivial trivial rfl trivial trivial (by simp) ?_
    ·simp[scal,ints]
    simp(maxSteps:=2000000)(disch:=omega)[scal,hfn,hix,hall,zCf,hz1];and_intros<;>try first|apply hK|(show zAY _ _=true;kernel_rfl)|(show okH _ _ _=true;kernel_rfl)|omega|rfl|simp<;>omega
    refine zA ?_;refine rg0 ?_;refine cF0 ?_;refine zAT fun K hK=>?_
    simp(maxSteps:=2000000)(disch:=omega)
    (repeat' apply And.intro)
    all_goals (try omega)
    refine zD (caps:=[]) (zGC gs[k] (by omega) (by omega)) [] [] 2 rfl rfl rfl rfl (by kernel_rfl) (by simp) ?_ trivial trivial rfl trivial trivial (by simp) ?_
    ·simp[scal,ints]
    simp(maxSteps:=2000000)(disch:=omega)[ints,scal]
    (repeat' apply And.intro)
    all_goals (try omega)
    refine zD (caps:=[]) (hadd) [0,1,2,3,4,5,6,7,8,9] [0,31000010,31000011,31000012,31000013,31000014,31000015,31000016,31000017,31000018] 1 rfl rfl rfl rfl (by kernel_rfl) (by simp) ?_ ?_ (by simp) rfl (by simp) ⟨.inr ⟨rfl,0,_,_,_,_,_,rfl,rfl,(by first|rfl|simp[rnO,rnB]),rfl,(by first|rfl|simp[rnO,rnB])⟩,.inl ⟨by omega,by omega⟩,.inl ⟨by omega,by omega⟩,.inl ⟨by omega,by omega⟩,.inl ⟨by omega,by omega⟩,.inl ⟨by omega,by omega⟩,.inl ⟨by omega,by omega⟩,.inl ⟨by omega,by omega⟩,.inl ⟨by omega,by omega⟩,.inl ⟨by omega,by omega⟩,trivial⟩ (by simp[rnO,rnB]) ?_
    ·simp[scal,ints]
    ·simp[scal,rows,rnO,rnB]
    simp(maxSteps:=2000000)(disch:=omega)[ints,rows,scal,rnO,rnB];and_intros<;>try first|apply hK|omega|rfl|simp<;>omega
    refine rr0 ?_;refine rr0 ?_;refine⟨(k+1,els++[gs[k]],pre++[0],last++[(k:Int)],wds++[[k]],rls,beh++[0],sgl++[(els.length:Int)]),⟨⟨hE,by omega,by simp;omega,by simp;omega,fun i hi hk=>?_⟩,by simp[hbl],fun t h1 h2=>?_,by simp[hsl]⟩,by simp;omega,?_⟩
    ·by_cases e:i=k
     ·subst e;simp
     ·exact List.mem_append_left _ (hI.st.has i hi (by omega))
    ·by_cases ht:t<els.length
     ·rw[Qw (by omega)];exact hI.bt t h1 ht
     ·simp at h2;have:t=beh.length:=by omega
      subst this;simp
    exact kw1 [(0,some 0),(1,some 31000010),(2,some 31000011),(3,some 31000012),(4,some 31000013),(5,some 31000014),(6,some 31000015),(7,some 31000016),(8,some 31000017),(9,some 31000018)] (an @rnM.eq_1 (an @rnB.eq_1 @rows.eq_1))
  ·obtain rfl:k=gs.length:=by omega
   refine cF0 ?_;refine zE ?_;refine rg0 ?_;refine zC ?_;refine⟨⟨_,_,⟨els,pre,last,wds,rls,beh,sgl,rfl,rfl,⟨⟨hen,by omega,by omega,rfl,fun i r hr=>by simp at hr,fun g hg=>?_⟩,hbl,fun t h1 h2=>⟨0,by simpa using hI.bt t h1 h2,h1⟩⟩,by omega⟩,?_⟩,by simp⟩
   ·obtain⟨i,hi,rfl⟩:=Qb hg;exact hI.st.has i hi hi
   refine zA7 ?_;refine⟨.inr rfl,_,[(0,some 0),(1,some 1),(2,some 2),(3,some 3),(4,some 4),(5,some 5),(6,some 6),(7,some 7),(8,some 8),(9,some 9)],(by first|(simp;rfl)|rfl),?_,?_,?_,?_⟩
   all_goals try simp +contextual (disch:=omega)[zL,zJ,zW,zAN,rows,rnO,rnB]
def BuE(n:Nat)(gs:List (List Int))(res:AV):Prop:=res= .tup [.agg [.t 2 (.int .i64 0),.t 2 (.bool false),.t 2 (.sl 0 []),.t 2 (.sl 0 []),.t 2 (.sl 0 []),.t 2 (.sl 0 []),.t 2 (.sl 0 []),.t 2 (.sl 0 []),.t 2 (.int .i64 0)],.t 2 (.int .i64 3)]/\Big n gs∨
 ∃els pre last wds right rls,res= .tup [enT 1 n gs els pre last (rows right) rls els.length,.t 2 (.int .i64 0)]/\PrI n gs els pre last wds right els.length
theorem zOK{n:Nat}{gs:List (List Int)}(h:zIM n gs): ∃res,BuE n gs res/\FnS Tryz.prog 159 [.t 0 (rows gs),.t 2 (.bool true)] [] res []:=by
 obtain⟨_,_,⟨els0,pre0,last0,wds0,rls0,beh0,sgl,rfl,rfl,hI0,hr0⟩,hbeg⟩:=zNK h;refine zh Tryz.func159 rfl (by simp[Tryz.f159]) ?_;rw[show Tryz.f159.ntmps=32 from rfl,show Tryz.f159.results= #[.cell 4 105,.tmp 5]from rfl];refine rg0 ?_;refine zF fun K hK=>?_
 simp(maxSteps:=2000000)(disch:=omega)
 (repeat' apply And.intro)
 all_goals (try omega)
 refine zD (caps:=[]) (hbeg) [] [4000000,4000001,4000002,4000003,4000004,4000005,4000006,4000007,4000008,4000009] 1 rfl rfl rfl rfl (by kernel_rfl) (by simp) ?_ ?_ (by simp) rfl (by simp) ⟨.inl ⟨by omega,by omega⟩,.inl ⟨by omega,by omega⟩,.inl ⟨by omega,by omega⟩,.inl ⟨by omega,by omega⟩,.inl ⟨by omega,by omega⟩,.inl ⟨by omega,by omega⟩,.inl ⟨by omega,by omega⟩,.inl ⟨by omega,by omega⟩,.inl ⟨by omega,by omega⟩,.inl ⟨by omega,by omega⟩,trivial⟩ (by simp[rnO,rnB]) ?_
 ·simp[scal,rows]
 ·trivial
 simp(maxSteps:=2000000)(disch:=omega)[rows,scal,rnO,rnB];and_intros<;>try first|apply hK|omega|rfl|simp<;>omega
 refine zA ?_;refine rg0 ?_;refine cS0 ?_;refine zA ?_;refine zB ?_;refine awp_loop (fun y:Nat×List (List Int)×List Int×List Int×List (List Nat)×List (List Int)×List T×List Int=>mkS [(4,.ptr 10 0 9),(6,.ptr 0 0 13)]
   (rnM n gs y.2.1 y.2.2.1 y.2.2.2.1 y.2.2.2.2.1 y.2.2.2.2.2.1 y.2.2.2.2.2.2.1 y.1 y.2.2.2.2.2.2.2 sgl++[(10,.box 105 [.any,.any,.any,.any,.any,.any,.any,.any,.any])]) 11 32 [.any,.any])
  (fun y=>RnI n gs y.2.1 y.2.2.1 y.2.2.2.1 y.2.2.2.2.1 y.2.2.2.2.2.1 y.1 y.2.2.2.2.2.2.2/\y.2.2.2.2.2.2.1.length<=12+12*y.1) (fun y=>2001-y.1) ?_ ?_
 ·refine⟨(0,els0,pre0,last0,wds0,[],rls0,beh0),⟨hI0,by simp;omega⟩,?_⟩;exact kw1 [(0,some 4000000),(1,some 4000001),(2,some 4000002),(3,some 4000003),(4,some 4000004),(5,some 4000005),(6,some 4000006),(7,some 4000007),(8,some 4000008),(9,some 4000009),(10,some 0)] (an @rnM.eq_1 (an @rnB.eq_1 @rows.eq_1))
 clear hI0 hr0 hbeg;rintro⟨d,els,pre,last,wds,right,rls,beh⟩ ⟨hI,hrl⟩;simp only at hI hrl;have hel:=hI.pr.el;have hdl:=hI.pr.dl;have hfi:=zHr (n:=n) (gs:=gs) (els:=els) (pre:=pre) (last:=last) (wds:=wds) (right:=right) (rls:=rls) (dn:=d) (beh:=beh) (sgl:=sgl);refine zA ?_;by_cases hd:d=els.length
 ·subst hd;rw[show decide (els.length=els.length)=true by simp]at hfi;refine zF fun K hK=>?_
  simp(maxSteps:=2000000)(disch:=omega)[rows,rnM,rnB]
  (repeat' apply And.intro)
  all_goals (try omega)
  refine zD (caps:=[]) (hfi) [0,1,2,3,4,5,6,7,8,9] [0,1000011,1000012,1000013,1000014,1000015,1000016,1000017,1000018,1000019] 1 rfl rfl rfl rfl (by kernel_rfl) (by simp) ?_ ?_ (by simp) rfl (by simp) ⟨.inr ⟨rfl,0,_,_,_,_,_,rfl,rfl,(by first|rfl|simp[rnO,rnB]),rfl,(by first|rfl|simp[rnO,rnB])⟩,.inl ⟨by omega,by omega⟩,.inl ⟨by omega,by omega⟩,.inl ⟨by omega,by omega⟩,.inl ⟨by omega,by omega⟩,.inl ⟨by omega,by omega⟩,.inl ⟨by omega,by omega⟩,.inl ⟨by omega,by omega⟩,.inl ⟨by omega,by omega⟩,.inl ⟨by omega,by omega⟩,trivial⟩ (by simp[rnO,rnB]) ?_
  ·simp
  ·simp[scal,rows,rnO,rnB]
  simp(maxSteps:=2000000)(disch:=omega)[rows,scal,rnO,rnB]
  (repeat' first|apply hK|apply And.intro)<;>try first|omega|rfl|(simp<;>omega)
  refine cF0 ?_;refine zE ?_;refine rg0 ?_;refine zC ?_;refine⟨_,.inr ⟨els,pre,last,wds,right,rls,rfl,hI.pr⟩,?_⟩;refine⟨⟨.inr rfl,_,[],(by simp;rfl),trivial,trivial,by simp,?_⟩,by simp[rows]⟩;simp[ints,rows,enT,rows]
 ·have hd2:d<els.length:=by omega
  rw[show decide (d=els.length)=false by simp[hd]]at hfi;obtain⟨res,H',⟨els',pre',last',wds',right',rls',d',beh',rfl,hr⟩,hpc⟩:=zJE sgl h hI hd2 hrl;refine zF fun K hK=>?_
  simp(maxSteps:=2000000)(disch:=omega)[rows,rnM,rnB]
  (repeat' apply And.intro)
  all_goals (try omega)
  refine zD (caps:=[]) (hfi) [0,1,2,3,4,5,6,7,8,9] [0,1000011,1000012,1000013,1000014,1000015,1000016,1000017,1000018,1000019] 1 rfl rfl rfl rfl (by kernel_rfl) (by simp) ?_ ?_ (by simp) rfl (by simp) ⟨.inr ⟨rfl,0,_,_,_,_,_,rfl,rfl,(by first|rfl|simp[rnO,rnB]),rfl,(by first|rfl|simp[rnO,rnB])⟩,.inl ⟨by omega,by omega⟩,.inl ⟨by omega,by omega⟩,.inl ⟨by omega,by omega⟩,.inl ⟨by omega,by omega⟩,.inl ⟨by omega,by omega⟩,.inl ⟨by omega,by omega⟩,.inl ⟨by omega,by omega⟩,.inl ⟨by omega,by omega⟩,.inl ⟨by omega,by omega⟩,trivial⟩ (by simp[rnO,rnB]) ?_
  ·simp
  ·simp[scal,rows,rnO,rnB]
  simp(maxSteps:=2000000)(disch:=omega)[rows,scal,rnO,rnB]
  (repeat' first|apply hK|apply And.intro)<;>try first|omega|rfl|(simp<;>omega)
  refine cK0 ?_;refine zB ?_;rcases hr with⟨rfl,hbig⟩|⟨rfl,rfl,hI',hrl'⟩
  ·refine zF fun K hK=>?_
   simp(maxSteps:=2000000)(disch:=omega)
   (repeat' apply And.intro)
   all_goals (try omega)
   refine zD (caps:=[]) (hpc) [0,1000011,1000012,1000013,1000014,1000015,1000016,1000017,1000018,1000019] [0,4000011,4000012,4000013,4000014,4000015,4000016,4000017,4000018,4000019] 1 rfl rfl rfl rfl (by kernel_rfl) (by simp) ?_ ?_ (by simp) rfl (by simp) ⟨.inr ⟨rfl,0,_,_,_,_,_,rfl,rfl,(by first|rfl|simp[rnO,rnB]),rfl,(by first|rfl|simp[rnO,rnB])⟩,.inl ⟨by omega,by omega⟩,.inl ⟨by omega,by omega⟩,.inl ⟨by omega,by omega⟩,.inl ⟨by omega,by omega⟩,.inl ⟨by omega,by omega⟩,.inl ⟨by omega,by omega⟩,.inl ⟨by omega,by omega⟩,.inl ⟨by omega,by omega⟩,.inl ⟨by omega,by omega⟩,trivial⟩ (by simp[rnO,rnB]) ?_
   ·simp
   ·simp[scal,rows,rnO,rnB]
   simp(maxSteps:=2000000)(disch:=omega)[rows,scal,rnO,rnB]
   (repeat' first|apply hK|apply And.intro)<;>try first|omega|rfl|(simp<;>omega)
   refine rg0 ?_;refine cT0 ?_;refine rg0 ?_;refine zC ?_;refine⟨_,.inl ⟨rfl,hbig⟩,?_⟩;refine⟨⟨.inr rfl,_,[],(by simp;rfl),trivial,trivial,by simp,?_⟩,by simp⟩;simp
  ·refine zF fun K hK=>?_
   simp(maxSteps:=2000000)(disch:=omega)
   (repeat' apply And.intro)
   all_goals (try omega)
   refine zD (caps:=[]) (hpc) [0,1000011,1000012,1000013,1000014,1000015,1000016,1000017,1000018,1000019] [0,4000011,4000012,4000013,4000014,4000015,4000016,4000017,4000018,4000019] 1 rfl rfl rfl rfl (by kernel_rfl) (by simp) ?_ ?_ (by simp) rfl (by simp) ⟨.inr ⟨rfl,0,_,_,_,_,_,rfl,rfl,(by first|rfl|simp[rnO,rnB]),rfl,(by first|rfl|simp[rnO,rnB])⟩,.inl ⟨by omega,by omega⟩,.inl ⟨by omega,by omega⟩,.inl ⟨by omega,by omega⟩,.inl ⟨by omega,by omega⟩,.inl ⟨by omega,by omega⟩,.inl ⟨by omega,by omega⟩,.inl ⟨by omega,by omega⟩,.inl ⟨by omega,by omega⟩,.inl ⟨by omega,by omega⟩,trivial⟩ (by simp[rnO,rnB]) ?_
   ·simp
   ·simp[scal,rows,rnO,rnB]
   simp(maxSteps:=2000000)(disch:=omega)[rows,scal,rnO,rnB]
   (repeat' first|apply hK|apply And.intro)<;>try first|omega|rfl|(simp<;>omega)
   refine rg0 ?_;refine cF0 ?_;refine zQ ?_;refine⟨(d+1,els',pre',last',wds',right',rls',beh'),⟨hI',hrl'⟩,by have:=hI'.pr.el;have:=hI'.pr.dl;simp;omega,?_⟩;exact kw1 [(0,some 0),(1,some 4000011),(2,some 4000012),(3,some 4000013),(4,some 4000014),(5,some 4000015),(6,some 4000016),(7,some 4000017),(8,some 4000018),(9,some 4000019),(10,some 10)] (an @rnM.eq_1 (an @rnB.eq_1 @rows.eq_1))
def zHC(n:Nat)(nx:List (List Int))(x q j:Nat):List Int:=if j<x then lets n nx j else if j=x then(lets n nx x).take q else []
theorem zMR(n:Nat)(nx:List (List Int))(j:Nat):zHC n nx 0 0 j=[]:=by
 unfold zHC;rw[if_neg (by omega)];split<;>simp
@[simp] theorem zUF(n:Nat)(nx:List (List Int))(x:Nat):(lets n nx x).length=n:=by simp[lets]
theorem zNd(n:Nat)(nx:List (List Int))(x j:Nat):zHC n nx x n j=zHC n nx (x+1) 0 j:=by
 unfold zHC;by_cases h:j<x
 ·rw[if_pos h,if_pos (by omega)]
 ·rw[if_neg h];by_cases e:j=x
  ·subst e;rw[if_pos rfl,if_pos (by omega),Qn (by simp)]
  ·rw[if_neg e,if_neg (by omega)];split<;>simp
theorem zOa(n:Nat)(nx:List (List Int)){L j:Nat}(h:j<L):zHC n nx L 0 j=lets n nx j:=by
 unfold zHC;rw[if_pos h]
theorem zPC{n:Nat}(nx:List (List Int))(x:Nat){q:Nat}(hq:q<=n)(j:Nat):(zHC n nx x q j).length<=n:=by
 unfold zHC;split
 ·simp
 ·split<;>simp<;>omega
theorem zLB{n:Nat}(nx:List (List Int))(x:Nat){q:Nat}(hq:q<n)(j:Nat):zHC n nx x (q+1) j=if j=x then zHC n nx x q j++[(zR nx q x:Int)]else zHC n nx x q j:=by
 unfold zHC;by_cases e:j=x
 ·subst e;rw[if_neg (by omega),if_pos rfl,if_pos rfl,if_neg (by omega),if_pos rfl];have hl:q<(lets n nx j).length:=by simpa using hq
  rw[Qf hl];simp[lets,zBK]
 ·simp only[if_neg e]
def zNm(L s:Nat)(bs:List Bool)(nxt:List (List Int)):AObj:=.box 34 [.t 2 (.int .i64 L),.t 2 (.int .i64 s),.t 1 (zG bs),.t 1 (rows nxt)]
def syO(L n:Nat)(bs:List Bool)(nx:List (List Int)):AObj:=.box 178 [.t 1 (rows (tab L (lets n nx))),.t 1 (.sl 3 [.int .i64 0,zG bs,.int .i64 0]),.t 2 (.int .i64 n)]
def syZ:AObj:=.box 178 [.t 1 (.sl 0 []),.t 1 (.sl 0 []),.t 2 (.int .i64 0)]
theorem zSY{L n:Nat}{bs:List Bool}{nx:List (List Int)}(h:DfL L n 0 bs nx)(hL:1<=L)(hL2:L<=6)(hn:n<=32):FnS Tryz.prog 106 [.ptr 0 0 3,dfT 1 L 0 bs nx] [syZ] (.t 2 (.int .i64 0)) [syO L n bs nx]:=by
 have hnl:=h.nl;have hbl:=h.bl;have c1: ¬32<(n:Int):=by omega
 refine fI 102 #[.tmp 4] Tryz.func106 rfl ?_;refine rg1 (an @syZ.eq_1 (an @dfT.eq_1 @zG.eq_1)) ?_;refine rg1 @hbl ?_;refine zA ?_;refine rg1 @c1 ?_;refine cS0 ?_;refine zA ?_;refine rg0 ?_;refine cT0 ?_;refine rr0 ?_;refine zA ?_;refine rg0 ?_;refine zB ?_;refine awp_loop (fun x:Nat=>mkF [(0,.ptr 0 0 3),(3,.ptr 2 0 4),(5,.t 2 (.int .i64 n)),(33,.t 2 (.int .i64 L)),(34,.t 2 (.int .i64 x))]
   [(0,.box 178 [.own 1 L,.t 1 (.sl 0 []),.t 2 (.int .i64 0)]),(1,.vec 22 1 2 (tab L fun j=>.own (100+j) (zHC n nx x 0 j).length)),(2,zNm L 0 bs nx)] 100 L (fun j=>.row 3 1 2 ((zHC n nx x 0 j).map (.int .i64))) 1000 102 [.ptr 0 0 3,.any])
  (fun x=>x<=L) (fun x=>L-x) ?_ ?_
 ·refine⟨0,by omega,?_⟩;refine zIw [(0,some 0),(1,some 21000001),(2,some 1)] rfl ?_ ?_ ?_ ?_ ?_
  all_goals try simp +contextual (disch:=omega)[zL,zJ,ze,zW,zAN,Ql,Qd,zI,rows,zG,zNm,zz,zT,zOZ,zMR]
  all_goals (try omega)
 intro x hx;refine rg0 ?_;refine zA ?_;by_cases hxL:x<L
 ·refine cK1 @hxL ?_;refine zA ?_;refine zB ?_;refine rg0 ?_;refine rg0 ?_;refine zB ?_;refine awp_loop (fun q:Nat=>mkF [(0,.ptr 0 0 3),(3,.ptr 2 0 4),(5,.t 2 (.int .i64 n)),(6,.t 2 (.int .i64 x)),(33,.t 2 (.int .i64 L)),(34,.t 2 (.int .i64 x)),(37,.t 2 (.int .i64 n)),(38,.t 2 (.int .i64 q))]
    [(0,.box 178 [.own 1 L,.t 1 (.sl 0 []),.t 2 (.int .i64 0)]),(1,.vec 22 1 2 (tab L fun j=>.own (100+j) (zHC n nx x q j).length)),(2,zNm L 0 bs nx)] 100 L (fun j=>.row 3 1 2 ((zHC n nx x q j).map (.int .i64))) 1000 102 [.ptr 0 0 3,.any])
   (fun q=>q<=n) (fun q=>n-q) ?_ ?_
  ·refine⟨0,by omega,?_⟩;exact kf1 [(0,some 0),(1,some 1),(2,some 2)] (fun j=>100+j) (an @rows.eq_1 @zNm.eq_1)
  intro q hq;refine rg0 ?_;refine zA ?_;by_cases hqn:q<n
  ·obtain⟨s1,s2,s3,s4⟩:=h.rt.step hqn hxL;have hqx:q<nx.length:=by omega
   have hlen:=zPC nx x hq;have hlx:=hlen x;have hw:IntKind.i64.wrap (0+(zR nx q x:Int))=zR nx q x:=by rw[Int.zero_add];exact zBs _ (by omega) (by omega)
   refine cK1 @hqn ?_;refine zA ?_;refine zB ?_;refine rg0 ?_;refine zAW (by kernel_rfl) (fun K hK=>?_);simp(maxSteps:=2000000)(disch:=omega)[ints,rows,zBs,zNm,rows,hqx,s3,s4,hxL,zb,zJ,zL]
   (repeat' first|apply hK|apply And.intro)<;>try first|(show zAY _ _=true;(rcases(by omega:x=0\/x=1\/x=2\/x=3\/x=4\/x=5)with rfl|rfl|rfl|rfl|rfl|rfl)<;>kernel_rfl)|(show okH _ _ _=true;kernel_rfl)|omega|rfl|(simp<;>omega)
   refine rr0 ?_;refine⟨q+1,by omega,by omega,?_⟩;refine zAQ [(0,some 0),(1,some 1),(2,some 2)] (fun j=>100+j) rfl ?_ ?_ ?_ ?_ ?_ ?_
   all_goals try simp +contextual (disch:=omega)[zL,zJ,ze,zW,zAN,zI,rows,zNm]
   all_goals (try omega)
   ·intro j hj;rw[zLB nx x hqn];by_cases e:j=x
    ·subst e;simp +contextual (disch:=omega)[zAN]
    ·simp +contextual (disch:=omega)[zAN,e]
   ·intro j hj;rw[zLB nx x hqn];by_cases e:j=x
    ·subst e;simp +contextual (disch:=omega)
    ·simp +contextual (disch:=omega)[e,zC4 (show 100+j≠100+x by omega)]
  ·obtain rfl:q=n:=by omega
   refine cF0 ?_;refine zE ?_;refine rr0 ?_;refine⟨x+1,by omega,by omega,?_⟩;exact kf1 [(0,some 0),(1,some 1),(2,some 2)] (fun j=>100+j) (an @rows.eq_1 (an @zNm.eq_1 @zNd))
 ·obtain rfl:x=L:=by omega
  refine cF0 ?_;refine zE ?_;refine zS (σ':=mkS [(0,.ptr 0 0 3),(3,.ptr 2 0 4),(5,.t 2 (.int .i64 n))]
   [(0,.box 178 [.own 1 x,.t 1 (.sl 0 []),.t 2 (.int .i64 0)]),(1,.row 22 1 2 (tab x fun j=>ints (lets n nx j))),(2,zNm x 0 bs nx)] 3 102 [.ptr 0 0 3,.any]) ?_ ?_
  ·refine zH [(0,some 0),(1,some 1),(2,some 2)] rfl ?_ ?_ ?_ ?_
   all_goals try simp[ints,rows,zG,zNm,zCT,wk1]
   intro j hj;have hcf:=zOa n nx hj;simp +contextual (disch:=omega)[ze,hcf]
  have hrow:T.sl 1 (tab x fun j=>ints (lets n nx j))=rows (tab x (lets n nx)):=by
   unfold rows;rw[zT]
  refine rd1 @zNm.eq_1 ?_;refine rg0 ?_;refine rg0 ?_;refine zC ?_;refine⟨⟨.inr rfl,_,[(0,some 0)],(by first|rfl|(simp[ints,rows,scal,tpO,syO,dfT,zNm];rfl)),?_,?_,?_,?_⟩,?_⟩
  all_goals try simp[rows,syO,dfT]
  refine⟨by rw[zT];rfl,zEn _⟩
theorem zN5(xs:List Int)(v:Int)(hl:xs.length<=100000): ∃res,(∃r:Int,(0<=r↔v∈xs)/\res= .t 2 (.int .i64 r))/\FnS Tryz.prog 184 [.t 0 (ints xs),.t 2 (.int .i64 v)] [] res []:=by
 refine zh Tryz.func184 rfl (by simp[Tryz.f184]) ?_;rw[show Tryz.f184.ntmps=19 from rfl,show Tryz.f184.results= #[.tmp 4]from rfl];refine rg0 ?_;refine zA ?_;refine rg0 ?_;refine zB ?_;refine awp_loop (fun k:Nat=>mkS [(0,.t 0 (ints xs)),(1,.t 2 (.int .i64 v)),(7,.t 2 (.int .i64 xs.length)),(8,.t 2 (.int .i64 k))] [] 0 19 [.any,.any]) (fun k=>k<=xs.length/\ ∀j (h:j<xs.length),j<k->xs[j]≠v) (fun k=>xs.length-k) ?_ ?_
 ·refine⟨0,⟨by omega,fun j h hj=>by omega⟩,?_⟩;exact kw0 []
 rintro k ⟨hk,hno⟩;refine rg0 ?_;refine zA ?_;by_cases hlt:k<xs.length
 ·refine cK1 @hlt ?_;refine zA ?_;refine zB ?_;refine rg0 ?_;by_cases e:v=xs[k]
  ·refine rg1 (an @hlt @e) ?_;refine cT0 ?_;refine rg0 ?_;refine zC ?_;refine⟨_,⟨(k:Int),⟨fun _=>by rw[e];simp,fun _=>by omega⟩,rfl⟩,?_⟩;exact rt0
  ·have e2:(v==xs[k])=false:=by simpa using e
   refine rg1 (an @hlt @e2) ?_;refine cY0 ?_;refine rr0 ?_;refine⟨k+1,⟨by omega,fun j h hj=>?_⟩,by omega,?_⟩
   ·by_cases c:j=k
    ·subst c;exact fun g=>e g.symm
    ·exact hno j h (by omega)
   exact kw0 []
 ·have hnm:v∉xs:=fun h=>by
   obtain⟨i,hi,he⟩:=Qb h;exact hno i hi (by omega) he
  refine cF1 @hlt ?_;refine zE ?_;refine rg0 ?_;refine zC ?_;refine⟨_,⟨-1,⟨fun h=>by omega,fun h=>absurd h hnm⟩,rfl⟩,?_⟩;exact rt0
theorem zPU(xs:List Int)(v:Int)(hl:xs.length<=100000): ∃r:Int,(0<=r↔v∈xs)/\FnA Tryz.prog 184 [.t 0 (ints xs),.t 2 (.int .i64 v)] (.t 2 (.int .i64 r)):=by
 obtain⟨_,⟨r,h1,rfl⟩,h2⟩:=zN5 xs v hl;exact⟨r,h1,h2⟩
theorem zJH(xs:List Int)(v:Int)(hl:xs.length<=100000):FnA Tryz.prog 161 [.t 0 (ints xs),.t 2 (.int .i64 v)] (.t 2 (.bool (decide (v∈xs)))):=by
 obtain⟨r,hr,hidx⟩:=zPU xs v hl;have hd:decide (0<=r)=decide (v∈xs):=by simp only[hr]
 refine fI 9 #[.tmp 4] Tryz.func161 rfl ?_;refine rg0 ?_;refine rc0 hidx ?_;exact zC (rt1 @hd)
theorem zLV{n:Nat}{bs:List Bool}{f:List Int}(hb:bs.length=n)(hf:TrN n f)(hn:1<=n)(hn2:n<=1000):FnA Tryz.prog 162 [.agg [.t 2 (.int .i64 0),.t 0 (zG bs),.t 2 (.int .i64 0)],.t 0 (ints f)] (.t 2 (.bool (bs.getD (f.getD 0 0).toNat false))):=by
 have h0:0<f.length:=by rw[hf.1];omega
 obtain⟨v1,v2⟩:=hf.2 f[0] (by simp);obtain⟨m,hm⟩: ∃m:Nat,f[0]=(m:Int):=⟨f[0].toNat,by omega⟩;have hml:m<bs.length:=by omega
 have e1:(f.getD 0 0).toNat=m:=by rw[Qv,Qj h0,Qd,hm];rfl
 have e2:bs.getD m false=bs[m]:=by rw[Qv,Qj hml];rfl
 rw[e1,e2];refine fI 17 #[.tmp 4] Tryz.func162 rfl ?_;refine rg1 @zG.eq_1 ?_;refine rd1 (an @h0 (an @hm (an @hml @Int.sub_zero))) ?_;exact zC rt0
def wdC(N:Nat)(wds:List (List Nat))(k:Nat):List T:=tab N fun j=>.str (if j<k then zAZ (wds.getD j [])else zAZ [])
@[simp] theorem zVQ(N:Nat)(wds:List (List Nat))(k:Nat):(wdC N wds k).length=N:=by simp[wdC]
theorem zRg{N:Nat}{wds:List (List Nat)}{k:Nat}{w:List Nat}(h:wds[k]? =some w):(wdC N wds k).set k (.str (zAZ w))=wdC N wds (k+1):=by
 unfold wdC;rw[zb];refine zK fun i hi=>?_
 by_cases c:i=k
 ·subst c;rw[if_pos rfl,if_pos (by omega),Qv,h];rfl
 ·rw[if_neg c];by_cases c2:i<k
  ·rw[if_pos c2,if_pos (by omega)]
  ·rw[if_neg c2,if_neg (by omega)]
theorem zS0{N:Nat}{wds:List (List Nat)}{k p:Nat}{u:List Nat}(hp:p<k)(hN:p<N)(h:wds[p]? =some u):(wdC N wds k)[p]? =some (.str (zAZ u)):=by
 unfold wdC;rw[zO _ hN,if_pos hp,Qv,h];rfl
theorem zQE{N:Nat}{wds:List (List Nat)}(h:N=wds.length):wdC N wds N=wsT wds:=by
 apply List.ext_getElem?;intro i;by_cases hi:i<N
 ·unfold wdC wsT;rw[zO _ hi,if_pos hi,Qi,Qv,Qj (by omega)];rfl
 ·rw[Qh (by simp;omega),Qh (by simp;omega)]
theorem zRk{N:Nat}{wds:List (List Nat)}(h:wds[0]? =some []):(tab N fun _=>T.str ⟨#[]⟩)=wdC N wds 1:=by
 unfold wdC;refine zK fun i hi=>?_
 by_cases c:i<1
 ·obtain rfl:i=0:=by omega
  rw[if_pos c,Qv,h];rfl
 ·rw[if_neg c];rfl
def psC(N k:Nat)(b:Bool):List T:=tab N fun j=>.bool (if j=0 then b else decide (j<k))
@[simp] theorem zUQ(N k:Nat)(b:Bool):(psC N k b).length=N:=by simp[psC]
theorem zR6(N:Nat):(tab N fun _=>T.bool false)=psC N 1 false:=by
 unfold psC;refine zK fun i hi=>?_
 by_cases c:i=0
 ·rw[if_pos c]
 ·rw[if_neg c,show decide (i<1)=false by simp;omega]
theorem zRf{N k:Nat}{b:Bool}(h:0<k):(psC N k b).set k (.bool true)=psC N (k+1) b:=by
 unfold psC;rw[zb];refine zK fun i hi=>?_
 by_cases c:i=k
 ·subst c;rw[if_pos rfl,if_neg (by omega),show decide (i<i+1)=true by simp]
 ·rw[if_neg c];by_cases c2:i=0
  ·rw[if_pos c2,if_pos c2]
  ·rw[if_neg c2,if_neg c2];congr 2;apply propext;omega
theorem zKr(N k:Nat)(b c:Bool):(psC N k b).set 0 (.bool c)=psC N k c:=by
 unfold psC;rw[zb];refine zK fun i hi=>?_
 by_cases e:i=0
 ·rw[if_pos e,if_pos e]
 ·rw[if_neg e,if_neg e,if_neg e]
theorem zSI{N k:Nat}{b:Bool}(h:0<N):(psC N k b)[0]? =some (.bool b):=by
 unfold psC;rw[zO _ h,if_pos rfl]
def zQa(right:List (List Int))(wds:List (List Nat))(N i:Nat):List Int:=tab N fun y=>(zo right i (wds.getD y []):Int)
def rpC(right:List (List Int))(wds:List (List Nat))(N i k:Nat):List T:=tab N fun y=>.int .i64 (if y<k then(zo right i (wds.getD y []):Int)else 0)
@[simp] theorem zUk(right:List (List Int))(wds:List (List Nat))(N i k:Nat):(rpC right wds N i k).length=N:=by simp[rpC]
@[simp] theorem zT0(right:List (List Int))(wds:List (List Nat))(N i:Nat):(zQa right wds N i).length=N:=by simp[zQa]
theorem zRP{right:List (List Int)}{wds:List (List Nat)}{N i:Nat}(h:wds[0]? =some []):(tab N fun _=>T.int .i64 0).set 0 (.int .i64 (i:Int))=rpC right wds N i 1:=by
 unfold rpC;rw[zb];refine zK fun y hy=>?_
 by_cases c:y=0
 ·subst c;rw[if_pos rfl,if_pos (by omega),Qv,h];rfl
 ·rw[if_neg c,if_neg (by omega)]
theorem zTq{right:List (List Int)}{wds:List (List Nat)}{N i k p:Nat}{u:List Nat}(hp:p<k)(hN:p<N)(h:wds[p]? =some u):(rpC right wds N i k)[p]? =some (.int .i64 (zo right i u:Nat)):=by
 unfold rpC;rw[zO _ hN,if_pos hp,Qv,h];rfl
theorem zRQ{right:List (List Int)}{wds:List (List Nat)}{N i k x:Nat}{u:List Nat}(h:wds[k]? =some (u++[x])):(rpC right wds N i k).set k (.int .i64 (zR right (zo right i u) x:Nat))=rpC right wds N i (k+1):=by
 unfold rpC;rw[zb];refine zK fun y hy=>?_
 by_cases c:y=k
 ·subst c;rw[if_pos rfl,if_pos (by omega),Qv,h];simp[zo]
 ·rw[if_neg c];by_cases c2:y<k
  ·rw[if_pos c2,if_pos (by omega)]
  ·rw[if_neg c2,if_neg (by omega)]
theorem zQC(right:List (List Int))(wds:List (List Nat))(N i:Nat):rpC right wds N i N=(zQa right wds N i).map (.int .i64):=by
 unfold rpC zQa;rw[zT];exact zK fun y hy=>by rw[if_pos hy]
theorem zNP(right:List (List Int))(wds:List (List Nat))(N:Nat):zBq right wds N=tab N (zQa right wds N):=rfl
def tbC(right:List (List Int))(wds:List (List Nat))(N k j:Nat):AV:=if j<k then .t 1 (ints (zQa right wds N j))else .t 2 (.sl 0 [])
theorem zOD{H:Nat->Option AObj}{m:Nat->Option Nat}{un:Nat->Prop}{nx:Nat}{right:List (List Int)}{wds:List (List Nat)}{N k:Nat}:wkPs H m un nx (tab N (tbC right wds N k)) (tab N (tbC right wds N k)):=by
 rw[zI];intro j hj;unfold tbC;split<;>simp
def zFM(bs:List Bool)(e:List Int):Bool:=bs.getD (e.getD 0 0).toNat false
def acC(bs:List Bool)(els:List (List Int))(k:Nat):List T:=tab els.length fun y=>.bool (if y<k then zFM bs (els.getD y [])else false)
@[simp] theorem zUi(bs:List Bool)(els:List (List Int))(k:Nat):(acC bs els k).length=els.length:=by simp[acC]
theorem zQG(bs:List Bool)(els:List (List Int)):(tab els.length fun _=>T.bool false)=acC bs els 0:=rfl
theorem zSN{bs:List Bool}{els:List (List Int)}{k:Nat}(h:k<els.length):(acC bs els k).set k (.bool (zFM bs els[k]))=acC bs els (k+1):=by
 unfold acC;rw[zb];refine zK fun y hy=>?_
 by_cases c:y=k
 ·subst c;rw[if_pos rfl,if_pos (by omega),Qv,Qj h];rfl
 ·rw[if_neg c];by_cases c2:y<k
  ·rw[if_pos c2,if_pos (by omega)]
  ·rw[if_neg c2,if_neg (by omega)]
theorem zO0(bs:List Bool)(els:List (List Int)):acC bs els els.length=(els.map (zFM bs)).map .bool:=by
 apply List.ext_getElem?;intro i;by_cases h:i<els.length
 ·unfold acC;rw[zO _ h,if_pos h,Qi,Qi,Qv,Qj h];rfl
 ·rw[Qh (by simp;omega),Qh (by simp;omega)]
def MnG(n:Nat)(gs:List (List Int))(bs:List Bool)(res:AV):Prop:=(res= .tup [zL0,.t 2 (.sl 0 []),.t 2 (.int .i64 3)]/\(Big n gs\/ ∃els pre last wds right,PrI n gs els pre last wds right els.length/\400<els.length))∨
 ∃els pre last wds right r0,PrI n gs els pre last wds right els.length/\els.length<=400/\right[0]? =some r0/\res= .tup [.agg [.t 2 (.int .i64 gs.length),.t 1 (rows (zBq right wds els.length)),.t 1 (.sl 1 (wsT wds)),.t 1 (ints r0),.t 2 (.sl 0 []),.t 1 (.sl 1 (psC els.length els.length (right.any fun r=>decide ((0:Int)∈r))))],.t 1 (.sl 1 [zG (els.map (zFM bs))]),.t 2 (.int .i64 0)]
theorem zLq{n:Nat}{gs:List (List Int)}{bs:List Bool}(h:zIM n gs)(hb:bs.length=n): ∃res,MnG n gs bs res/\FnS Tryz.prog 108 [.pt 0 [rows gs,.sl 3 [.int .i64 0,zG bs,.int .i64 0],.int .i64 n]] [] res []:=by
 have hg1:=h.g1;have hg2:=h.g2;have hn1:=h.n1;have hn2:=h.n2;obtain⟨res1,hB,hbuild⟩:=zOK h;refine zh Tryz.func108 rfl (by simp[Tryz.f108]) ?_;rw[show Tryz.f108.ntmps=195 from rfl,show Tryz.f108.results= #[.cell 2 29,.tmp 3,.tmp 4]from rfl];refine rg0 ?_;rcases hB with⟨rfl,hbig⟩|⟨els,pre,last,wds,right,rls,rfl,hP⟩
 ·refine rc0 hbuild ?_;refine zA ?_;refine rg0 ?_;refine cT0 ?_;refine rg0 ?_;refine zC ?_;refine⟨_,.inl ⟨rfl,.inl hbig⟩,?_⟩;refine⟨⟨.inr rfl,_,[],(by simp;rfl),trivial,trivial,by simp,?_⟩,by simp⟩;simp[zL0]
 have hen:=hP.en;have hel:=hP.el;have hle:=hen.le;have hlp:=hen.wd.lp;have hll:=hen.wd.ll;have hrd:=hP.rd;have hrt:=hP.rt;have hN0:0<els.length:=(Qq.1 hen.one.1).1;have hw0:=hen.one.2;refine rc1 hbuild @enT.eq_1 ?_;refine zA ?_;refine rg0 ?_;refine cS0 ?_;refine rg0 ?_;refine zA ?_;by_cases h400:400<els.length
 ·have c1:(400:Int)<els.length:=by omega
  refine rg1 @c1 ?_;refine cT0 ?_;refine rg0 ?_;refine zC ?_;refine⟨_,.inl ⟨rfl,.inr ⟨els,pre,last,wds,right,hP,h400⟩⟩,?_⟩;refine⟨⟨.inr rfl,_,[],(by simp;rfl),trivial,trivial,by simp,?_⟩,by simp⟩;simp[zL0]
 have c1: ¬(400:Int)<els.length:=by omega
 have hr0l:0<right.length:=by omega
 obtain⟨hrl0,-⟩:=hP.rg 0 right[0] (by simp);refine rg1 @c1 ?_;refine cS0 ?_;refine rq1 (zGC right[0] (by omega) (by omega)) @hr0l ?_;refine zA ?_;refine rg0 ?_;refine zB ?_;refine awp_loop (fun i:Nat=>mkS [(0,.pt 0 [rows gs,.sl 3 [.int .i64 0,zG bs,.int .i64 0],.int .i64 n]),(2,.ptr 0 0 6),(5,.ptr 1 0 9),(7,.t 2 (.int .i64 els.length)),(8,.ptr 2 0 6),(9,.t 2 (.int .i64 i))]
   [(0,.box 29 [.any,.any,.any,.any,.any,.any]),(1,.box 105 [.any,.any,.any,.t 1 (rows els),.t 1 (ints pre),.t 1 (ints last),.t 1 (rows right),.any,.any]),
    (2,.box 29 [.t 2 (.int .i64 gs.length),.own 3 els.length,.own 4 els.length,.t 2 (ints right[0]),.t 2 (.sl 0 []),.own 5 els.length]),
    (3,.row 22 1 2 (tab els.length fun _=>.sl 0 [])),(4,.row 9 1 2 (wdC els.length wds i)),(5,.row 4 1 2 (psC els.length i false))] 6 195 [.any])
  (fun i=>1<=i/\i<=els.length) (fun i=>els.length-i) ?_ ?_
 ·refine⟨1,⟨by omega,by omega⟩,?_⟩;refine zH [(0,some 0),(1,some 11000000),(2,some 39000000),(3,some 28000000),(4,some 30000000),(5,some 37000000)] rfl ?_ ?_ ?_ ?_
  all_goals try simp[ints,rows,zG,zz,zRk hw0,zR6]
 rintro i ⟨hi1,hi2⟩;refine zA ?_;refine rg0 ?_;by_cases hlt:i<els.length
 ·obtain⟨p,x,u,p1,p2,p3,p4,p5,p6,-⟩:=hen.cn i (by omega) hlt;obtain⟨hpl,p3⟩:=Qq.1 p3;obtain⟨hlal,p4⟩:=Qq.1 p4;have hpN:p<els.length:=by omega
  have hwp:=zS0 (N:=els.length) (k:=i) p1 hpN p5;have hws:=zRg (N:=els.length) p6;have hps:=zRf (N:=els.length) (b:=false) (k:=i) (by omega);have hul:=hen.wd.len p u p5;have hx8:IntKind.u8.wrap (97+(x:Int))=97+x:=wr8 _ (by omega) (by omega);have hs1:=zEM (x:=x) (by omega);refine cK1 @hlt ?_;refine zA ?_;refine zB ?_;refine rd1 (an @hlt (an @hpl (an @p3 (an @hlal (an @p4 (an @hpN (an @hwp (an @hx8 (an @hs1 (an @zAa @hws)))))))))) ?_;refine rr1 (an @hlt @hps) ?_;refine rr0 ?_;refine⟨i+1,⟨by omega,by omega⟩,by omega,?_⟩;exact kw1 [(0,some 0),(1,some 1),(2,some 2),(3,some 3),(4,some 4),(5,some 5)] (an @rows.eq_1 @zG.eq_1)
 ·obtain rfl:i=els.length:=by omega
  have hwf:=zQE hle;refine cF0 ?_;refine zE ?_;refine zA ?_;refine rg1 @hrd ?_;refine zB ?_;refine awp_loop (fun k:Nat=>mkS [(0,.pt 0 [rows gs,.sl 3 [.int .i64 0,zG bs,.int .i64 0],.int .i64 n]),(2,.ptr 0 0 6),(5,.ptr 1 0 9),(7,.t 2 (.int .i64 els.length)),(8,.ptr 2 0 6),(86,.t 1 (rows right)),(87,.t 2 (.int .i64 els.length)),(88,.t 2 (.int .i64 k))]
    [(0,.box 29 [.any,.any,.any,.any,.any,.any]),(1,.box 105 [.any,.any,.any,.t 1 (rows els),.t 1 (ints pre),.t 1 (ints last),.t 1 (rows right),.any,.any]),
     (2,.box 29 [.t 2 (.int .i64 gs.length),.own 3 els.length,.own 4 els.length,.t 2 (ints right[0]),.t 2 (.sl 0 []),.own 5 els.length]),
     (3,.vec 22 1 2 (tab els.length (tbC right wds els.length k))),(4,.row 9 1 2 (wsT wds)),(5,.row 4 1 2 (psC els.length els.length ((right.take k).any fun r=>decide ((0:Int)∈r))))] 6 195 [.any])
   (fun k=>k<=els.length) (fun k=>els.length-k) ?_ ?_
  ·refine⟨0,by omega,?_⟩;exact kw1 [(0,some 0),(1,some 1),(2,some 2),(3,some 3),(4,some 4),(5,some 5)] (an @rows.eq_1 (an @zG.eq_1 (an @hwf (an @zT (an @zI @tbC.eq_1)))))
  intro k hk;refine rg0 ?_;refine zA ?_;by_cases hkl:k<els.length
  ·have hkr:k<right.length:=by omega
   have hp0: ∀b,(psC els.length els.length b)[0]? =some (.bool b):=fun b=>zSI hN0
   have htk:((right.take (k+1)).any fun r=>decide ((0:Int)∈r))=(((right.take k).any fun r=>decide ((0:Int)∈r))||decide ((0:Int)∈right[k])):=by
    rw[Qf hkr,List.any_append];simp
   obtain⟨hrlk,-⟩:=hP.rg k right[k] (by simp);have hco:=zJH right[k] 0 (by omega);generalize((right.take k).any fun r=>decide ((0:Int)∈r))=b at htk ⊢;generalize decide ((0:Int)∈right[k])=c at htk hco;refine cK1 @hkl ?_;refine zA ?_;refine zB ?_;refine rg1 @hkr ?_;refine zDX (fun σ'=>Wk σ' (mkS [(0,.pt 0 [rows gs,.sl 3 [.int .i64 0,zG bs,.int .i64 0],.int .i64 n]),(2,.ptr 0 0 6),(5,.ptr 1 0 9),(7,.t 2 (.int .i64 els.length)),(8,.ptr 2 0 6),(10,.t 2 (.int .i64 k)),(86,.t 1 (rows right)),(87,.t 2 (.int .i64 els.length)),(88,.t 2 (.int .i64 k))]
    [(0,.box 29 [.any,.any,.any,.any,.any,.any]),(1,.box 105 [.any,.any,.any,.t 1 (rows els),.t 1 (ints pre),.t 1 (ints last),.t 1 (rows right),.any,.any]),
     (2,.box 29 [.t 2 (.int .i64 gs.length),.own 3 els.length,.own 4 els.length,.t 2 (ints right[0]),.t 2 (.sl 0 []),.own 5 els.length]),
     (3,.vec 22 1 2 (tab els.length (tbC right wds els.length k))),(4,.row 9 1 2 (wsT wds)),(5,.row 4 1 2 (psC els.length els.length (b||c)))] 6 195 [.any])) ?_ ?_
   ·intro σ' hw;refine zS hw ?_;clear hw;rw[←htk];generalize hb2:((right.take (k+1)).any fun r=>decide ((0:Int)∈r))=b2;have hr1:=zRP (right:=right) (wds:=wds) (N:=els.length) (i:=k) hw0;refine rd1 (an @hkl (an @zb @zz)) ?_;refine rg1 (an @hkl (an @hN0 @hr1)) ?_;refine rg0 ?_;refine zB ?_;refine awp_loop (fun j:Nat=>mkS [(0,.pt 0 [rows gs,.sl 3 [.int .i64 0,zG bs,.int .i64 0],.int .i64 n]),(2,.ptr 0 0 6),(5,.ptr 1 0 9),(7,.t 2 (.int .i64 els.length)),(8,.ptr 2 0 6),(10,.t 2 (.int .i64 k)),(12,.t 2 (.int .i64 j)),(86,.t 1 (rows right)),(87,.t 2 (.int .i64 els.length)),(88,.t 2 (.int .i64 k))]
      [(0,.box 29 [.any,.any,.any,.any,.any,.any]),(1,.box 105 [.any,.any,.any,.t 1 (rows els),.t 1 (ints pre),.t 1 (ints last),.t 1 (rows right),.any,.any]),
       (2,.box 29 [.t 2 (.int .i64 gs.length),.own 3 els.length,.own 4 els.length,.t 2 (ints right[0]),.t 2 (.sl 0 []),.own 5 els.length]),
       (3,.vec 22 1 2 (tab els.length fun y=>if y=k then .own 6 els.length else tbC right wds els.length k y)),(4,.row 9 1 2 (wsT wds)),(5,.row 4 1 2 (psC els.length els.length b2)),(6,.row 3 1 2 (rpC right wds els.length k j))] 7 195 [.any])
     (fun j=>1<=j/\j<=els.length) (fun j=>els.length-j) ?_ ?_
    ·refine⟨1,⟨by omega,by omega⟩,?_⟩;refine zH [(0,some 0),(1,some 1),(2,some 2),(3,some 3),(4,some 4),(5,some 5),(6,some 4000006)] rfl ?_ ?_ ?_ ?_
     all_goals try simp[ints,rows,zG,zI]
     intro j hj;by_cases e:j=k
     ·subst e;simp +contextual (disch:=omega)[zL]
     ·simp only[if_neg e];unfold tbC;split<;>simp
    rintro j ⟨hj1,hj2⟩;refine zA ?_;refine rg0 ?_;by_cases hjl:j<els.length
    ·obtain⟨p,x,u,p1,p2,p3,p4,p5,p6,-⟩:=hen.cn j (by omega) hjl;obtain⟨hpl,p3⟩:=Qq.1 p3;obtain⟨hlal,p4⟩:=Qq.1 p4;have hpN:p<els.length:=by omega
     have hrp:=zTq (right:=right) (i:=k) p1 hpN p5;have hrs:=zRQ (right:=right) (N:=els.length) (i:=k) p6;have hwN:zo right k u<els.length:=hrt.walk (fun y hy=>hP.wl u (Qc p5) y hy) hkl;obtain⟨s1,s2,s3,s4⟩:=hrt.step hwN p2;refine cK1 @hjl ?_;refine zA ?_;refine zB ?_;refine re1 (an @hkl (an @hjl (an @hpl (an @p3 (an @hlal (an @p4 (an @hpN (an @hrp (an @s2 (an @s3 (an @s4 @hrs))))))))))) ?_;refine rr0 ?_;refine⟨j+1,⟨by omega,by omega⟩,by omega,?_⟩;refine zH [(0,some 0),(1,some 1),(2,some 2),(3,some 3),(4,some 4),(5,some 5),(6,some 6)] rfl ?_ ?_ ?_ ?_
     all_goals try simp[ints,rows,zG,zI]
     intro y hy;by_cases e:y=k
     ·subst e;simp +contextual (disch:=omega)[zL]
     ·simp only[if_neg e];unfold tbC;split<;>simp
    ·obtain rfl:j=els.length:=by omega
     refine cF0 ?_;refine zE ?_;refine rr0 ?_;refine⟨k+1,by omega,by omega,?_⟩;refine zH [(0,some 0),(1,some 1),(2,some 2),(3,some 3),(4,some 4),(5,some 5)] rfl ?_ ?_ ?_ ?_
     all_goals try simp[ints,rows,zG,zI]
     refine⟨fun y hy=>?_,by rw[hb2]⟩;by_cases e:y=k
     ·subst e;simp +contextual (disch:=omega)[zL,ze,ints,tbC,zQC]
     ·simp only[if_neg e];unfold tbC;by_cases c:y<k
      ·rw[if_pos c,if_pos (by omega)];simp
      ·rw[if_neg c,if_neg (by omega)];simp
   ·cases b with
    |true=>
     refine re1 (an @hp0 (an @zKr @hN0)) ?_;exact kw1 [(0,some 0),(1,some 1),(2,some 2),(3,some 3),(4,some 4),(5,some 5)] (an @rows.eq_1 (an @zG.eq_1 @zOD))
    |false=>
     refine zAW (by kernel_rfl) (fun K hK=>?_);simp(maxSteps:=2000000)(disch:=omega)[hp0,hN0]
     (repeat' apply And.intro)
     all_goals (try omega)
     refine zM (caps:=[]) (hco) [] [] 2 (by simp) rfl rfl rfl (by kernel_rfl) (by simp) ?_ trivial trivial rfl trivial trivial (by simp) ?_
     ·simp[scal,ints]
     simp(maxSteps:=2000000)(disch:=omega)[scal,zKr,hN0]
     (repeat' first|apply hK|apply And.intro)<;>try first|(show zAY _ _=true;kernel_rfl)|(show okH _ _ _=true;kernel_rfl)|omega|rfl|(simp<;>omega)
     exact kw1 [(0,some 0),(1,some 1),(2,some 2),(3,some 3),(4,some 4),(5,some 5)] (an @rows.eq_1 (an @zG.eq_1 @zOD))
  ·obtain rfl:k=els.length:=by omega
   have hta:right.take els.length=right:=Qn (by omega);refine cF0 ?_;refine zE ?_;refine rg0 ?_;refine zA ?_;refine rg0 ?_;refine zB ?_;rw[hta];generalize hb0:(right.any fun r=>decide ((0:Int)∈r))=b0;refine awp_loop (fun k:Nat=>mkS [(2,.ptr 0 0 6),(5,.ptr 1 0 9),(7,.t 2 (.int .i64 els.length)),(8,.ptr 2 0 6),(13,.own 6 1),(162,.t 0 (.sl 3 [.int .i64 0,zG bs,.int .i64 0])),(163,.t 2 (.int .i64 1)),(164,.t 2 (.int .i64 k))]
     [(0,.box 29 [.any,.any,.any,.any,.any,.any]),(1,.box 105 [.any,.any,.any,.t 1 (rows els),.any,.any,.any,.any,.any]),
      (2,.box 29 [.t 2 (.int .i64 gs.length),.own 3 els.length,.own 4 els.length,.t 2 (ints right[0]),.t 2 (.sl 0 []),.own 5 els.length]),
      (3,.row 22 1 1 (tab els.length fun j=>ints (zQa right wds els.length j))),(4,.row 9 1 2 (wsT wds)),(5,.row 4 1 2 (psC els.length els.length b0)),(6,.vec 27 1 2 [if k=0 then .t 2 (.sl 0 [])else .t 1 (zG (els.map (zFM bs)))])] 7 195 [.any])
    (fun k=>k<=1) (fun k=>1-k) ?_ ?_
   ·refine⟨0,by omega,?_⟩;refine zH [(0,some 0),(1,some 1),(2,some 2),(3,some 3),(4,some 4),(5,some 5),(6,some 6000006)] rfl ?_ ?_ ?_ ?_
    all_goals try simp[ints,rows,zG,zCT]
    intro j hj;unfold tbC;rw[if_pos hj];simp[wk1];rfl
   intro k hk;refine rg0 ?_;refine zA ?_;by_cases hk0:k=0
   ·subst hk0;refine cK0 ?_;refine zA ?_;refine zB ?_;refine rg0 ?_;refine rg0 ?_;refine rg0 ?_;refine zB ?_;refine awp_loop (fun i:Nat=>mkS [(2,.ptr 0 0 6),(5,.ptr 1 0 9),(7,.t 2 (.int .i64 els.length)),(8,.ptr 2 0 6),(13,.own 6 1),(14,.t 2 (.int .i64 0)),(15,.ptr 8 0 3),(162,.t 0 (.sl 3 [.int .i64 0,zG bs,.int .i64 0])),(163,.t 2 (.int .i64 1)),(164,.t 2 (.int .i64 0)),(175,.t 1 (rows els)),(176,.t 2 (.int .i64 els.length)),(177,.t 2 (.int .i64 i))]
      [(0,.box 29 [.any,.any,.any,.any,.any,.any]),(1,.box 105 [.any,.any,.any,.t 1 (rows els),.any,.any,.any,.any,.any]),
       (2,.box 29 [.t 2 (.int .i64 gs.length),.own 3 els.length,.own 4 els.length,.t 2 (ints right[0]),.t 2 (.sl 0 []),.own 5 els.length]),
       (3,.row 22 1 1 (tab els.length fun j=>ints (zQa right wds els.length j))),(4,.row 9 1 2 (wsT wds)),(5,.row 4 1 2 (psC els.length els.length b0)),(6,.vec 27 1 2 [.own 7 els.length]),(7,.row 4 1 2 (acC bs els i)),(8,.box 236 [.t 2 (.int .i64 0),.t 0 (zG bs),.t 2 (.int .i64 0)])] 9 195 [.any])
     (fun i=>i<=els.length) (fun i=>els.length-i) ?_ ?_
    ·refine⟨0,by omega,?_⟩;refine zH [(0,some 0),(1,some 1),(2,some 2),(3,some 3),(4,some 4),(5,some 5),(6,some 6),(7,some 10000007),(8,some 4000007)] rfl ?_ ?_ ?_ ?_
     all_goals try simp[ints,rows,zG,zz]
     exact zQG bs els
    intro i hi;refine rg0 ?_;refine zA ?_;by_cases hil:i<els.length
    ·have hst:=zSN (bs:=bs) hil;obtain⟨-,v2,-⟩:=hen.val i (wds[i]'(by omega)) els[i] (by simp) (by simp);have hac:=zLV (bs:=bs) hb v2 hn1 (by omega);refine cK1 @hil ?_;refine zA ?_;refine zB ?_;refine rg1 @hil ?_;refine zAW (by kernel_rfl) (fun K hK=>?_);simp(maxSteps:=2000000)(disch:=omega)
     (repeat' apply And.intro)
     all_goals (try omega)
     refine zM (caps:=[]) (hac) [] [] 2 rfl rfl rfl rfl (by kernel_rfl) (by simp) ?_ trivial trivial rfl trivial trivial (by simp) ?_
     ·simp[scal,ints,zG]
     simp(maxSteps:=2000000)(disch:=omega)[scal,hil];and_intros<;>try first|apply hK|(show zAY _ _=true;kernel_rfl)|(show okH _ _ _=true;kernel_rfl)|omega|rfl|simp<;>omega
     refine rr0 ?_;refine⟨i+1,by omega,by omega,?_⟩;refine zH [(0,some 0),(1,some 1),(2,some 2),(3,some 3),(4,some 4),(5,some 5),(6,some 6),(7,some 7),(8,some 8)] rfl ?_ ?_ ?_ ?_
     all_goals try simp[ints,rows,zG]
     exact hst
    ·obtain rfl:i=els.length:=by omega
     refine cF0 ?_;refine zE ?_;refine rr0 ?_;refine⟨1,by omega,by omega,?_⟩;exact kw1 [(0,some 0),(1,some 1),(2,some 2),(3,some 3),(4,some 4),(5,some 5),(6,some 6)] (an @rows.eq_1 (an @zG.eq_1 @zO0))
   ·obtain rfl:k=1:=by omega
    refine cF0 ?_;refine zE ?_;refine rg0 ?_;refine zC ?_;refine⟨_,.inr ⟨els,pre,last,wds,right,right[0],hP,by omega,by simp,rfl⟩,?_⟩;refine⟨⟨.inr rfl,_,[],(by simp;rfl),trivial,trivial,by simp,?_⟩,by simp[rows,zG]⟩;simp[ints,rows,rows,zG,zNP,zT,zRI,wk1];exact⟨hle.symm,by rw[hb0]⟩
def zLy(p L:Nat)(bs:List Bool)(els:List (List Int))(wds:List (List Nat))(right:List (List Int))(r0:List Int):AV:=.agg [.t 2 (.int .i64 L),.t p (rows (zBq right wds els.length)),.t p (.sl 1 (wsT wds)),.t p (ints r0),.t p (zG (els.map (zFM bs))),.t p (.sl 1 (psC els.length els.length (right.any fun r=>decide ((0:Int)∈r))))]
structure SyX(L m:Nat)(nx els:List (List Int))(pre last:List Int)(wds:List (List Nat))(right:List (List Int))(r0:List Int):Prop where
 m32:m<=32
 pr:PrI m (tab L (lets m nx)) els pre last wds right els.length
 el:els.length<=400
 r0:right[0]? =some r0
def SyF(L m:Nat)(nx:List (List Int)):Prop:=Big m (tab L (lets m nx))\/ ∃els pre last wds right,PrI m (tab L (lets m nx)) els pre last wds right els.length/\400<els.length
def OfX(L n s:Nat)(bs:List Bool)(nxt:List (List Int))(res:AV):Prop:=∃m bs' nx',MiX L n s bs nxt m bs' nx'/\((res= .tup [zL0,.t 2 (.int .i64 3)]/\SyF L m nx')\/ ∃els pre last wds right r0,SyX L m nx' els pre last wds right r0/\res= .tup [zLy 1 L bs' els wds right r0,.t 2 (.int .i64 0)])
theorem zS5{L n s:Nat}{bs:List Bool}{nxt:List (List Int)}(h:DfL L n s bs nxt)(hL:1<=L)(hL2:L<=6)(hn:n<=512)(hm32: ∀m bs' nx',MiX L n s bs nxt m bs' nx'->m<=32): ∃res,OfX L n s bs nxt res/\FnS Tryz.prog 58 [dfT 0 L s bs nxt] [] res []:=by
 have hval:=zBh h hL hL2 hn;obtain⟨_,⟨m,b2,nx,hX,rfl⟩,hmin⟩:=zHc h hL hL2 hn;have hm:=hm32 m b2 nx hX;have hD:=hX.mn.df;have hadd:=zSY hD hL hL2 hm;obtain⟨res1,hM,hmon⟩:=zLq (hD.gn hL hL2 hm) hD.bl;refine zh Tryz.func58 rfl (by simp[Tryz.f58]) ?_;rw[show Tryz.f58.ntmps=37 from rfl,show Tryz.f58.results= #[.cell 2 29,.tmp 3]from rfl];refine rg1 (an @dfT.eq_1 @zG.eq_1) ?_;refine zA ?_;refine rc1 hval (an @dfT.eq_1 @zG.eq_1) ?_;refine rg0 ?_;refine cS0 ?_;refine rg0 ?_;refine zA ?_;refine zF fun K hK=>?_
 simp(maxSteps:=2000000)(disch:=omega)
 (repeat' apply And.intro)
 all_goals (try omega)
 refine zD (caps:=[]) (hmin) [] [] 2 rfl rfl rfl rfl (by kernel_rfl) (by simp) ?_ trivial trivial rfl trivial trivial (by simp) ?_
 ·simp[scal,rows,dfT,zG]
 simp(maxSteps:=2000000)(disch:=omega)[rows,scal,dfT,zG]
 (repeat' apply And.intro)
 all_goals (try omega)
 refine zD (caps:=[]) (hadd) [8000000] [8000000] 1 rfl rfl rfl rfl (by kernel_rfl) (by simp) ?_ ?_ (by simp) rfl (by simp) ⟨.inr ⟨rfl,0,_,_,_,_,_,rfl,rfl,(by first|rfl|simp[syZ,syO,dfT,zG]),rfl,(by first|rfl|simp[syZ,syO,dfT,zG])⟩,trivial⟩ (by simp[syO,zG]) ?_
 ·simp[scal,rows,dfT,zG]
 ·simp[scal,syZ]
 simp(maxSteps:=2000000)(disch:=omega)[rows,scal,syO]
 (repeat' first|apply hK|apply And.intro)<;>try first|omega|rfl|(simp<;>omega)
 refine rg0 ?_;refine cS0 ?_;rcases hM with⟨rfl,hF⟩|⟨els,pre,last,wds,right,r0,hP,h400,hr0,rfl⟩
 ·refine rc1 hmon @zL0.eq_1 ?_;refine zA ?_;refine rg0 ?_;refine cT0 ?_;refine rg0 ?_;refine zC ?_;refine⟨_,⟨m,b2,nx,hX,.inl ⟨rfl,hF⟩⟩,?_⟩;refine⟨⟨.inr rfl,_,[],(by simp;rfl),trivial,trivial,by simp,?_⟩,by simp[dfT,zG]⟩;simp[zL0]
 ·refine rc0 hmon ?_;refine zA ?_;refine rg0 ?_;refine cS0 ?_;refine rg0 ?_;refine rg0 ?_;refine zC ?_;refine⟨_,⟨m,b2,nx,hX,.inr ⟨els,pre,last,wds,right,r0,⟨hm,hP,h400,hr0⟩,rfl⟩⟩,?_⟩;refine⟨⟨.inr rfl,_,[],(by simp;rfl),trivial,trivial,by simp,?_⟩,by simp[dfT,zG]⟩;simp[ints,rows,zLy,zG]
theorem zGb{α:Type}{P:List α->Prop}(h0:P [])(h1: ∀w x,P w->P (w++[x]))(w:List α):P w:=by
 have key: ∀k (w:List α),w.length=k->P w:=by
  intro k
  induction k with
  |zero=>intro w hw;rw[List.length_eq_zero_iff.1 hw];exact h0
  |succ k ih=>
   intro w hw;have hne:w≠[]:=by intro e;subst e;simp at hw
   rw[←List.dropLast_concat_getLast hne];exact h1 _ _ (ih _ (by simp[hw]))
 exact key _ w rfl
section
variable{n:Nat}{gs els els':List (List Int)}{pre last pre' last':List Int}{wds wds':List (List Nat)}{right right':List (List Int)}
theorem PrI.clo(h:PrI n gs els pre last wds right els.length):ClE gs els:=fun e he g hg=>by
 obtain⟨i,hi,rfl⟩:=Qb he;obtain⟨y,hy,rfl⟩:=Qb hg;have hrd:=h.rd;obtain⟨h1,h2⟩:=h.rg i (right[i]'(by omega)) (by simp);exact h2.mem (by omega) (Qj hi) (Qj hy)
theorem PrI.eqE(h:PrI n gs els pre last wds right els.length)(h':PrI n gs els' pre' last' wds' right' els'.length):els=els'/\pre=pre'/\last=last'/\wds=wds'/\right=right':=by
 obtain⟨e1,e2,e3,e4⟩:=h.en.eq h'.en h.clo h'.clo;subst e1 e2 e3 e4;refine⟨rfl,rfl,rfl,rfl,?_⟩;have hr:=h.rd;have hr':=h'.rd;refine List.ext_getElem (by omega) fun i h1 h2=>?_
 obtain⟨a1,a2⟩:=h.rg i right[i] (by simp);obtain⟨b1,b2⟩:=h'.rg i right'[i] (by simp);refine List.ext_getElem (by omega) fun y g1 g2=>?_
 obtain⟨m,e,g,c1,c2,c3,c4⟩:=a2 y right[i][y] (by simp);obtain⟨m',e',g',d1,d2,d3,d4⟩:=b2 y right'[i][y] (by simp);rw[c2]at d2;rw[c3]at d3;injection d2 with d2;injection d3 with d3;subst d2 d3;rw[c1,d1,h.en.nd m m' _ c4 d4]
theorem PrI.zTE(h:PrI n gs els pre last wds right els.length): ∀(w:List Nat),(∀a∈w,a<gs.length)->act n gs w∈els:=by
 intro w;refine zGb (P:=fun w=>(∀a∈w,a<gs.length)->act n gs w∈els) ?_ ?_ w
 ·intro _;exact Qc (show els[0]? =some (act n gs [])from h.en.one.1)
 ·intro w x ih hw;have hx:x<gs.length:=hw x (by simp);rw[zCs,Qv,Qj hx];exact h.clo _ (ih fun a ha=>hw a (by simp[ha])) _ (by simp)
theorem zDY{α:Type}[DecidableEq α]: ∀{l k:List α},l.Nodup->(∀a∈l,a∈k)->l.length<=k.length
 |[],_,_,_=>by simp
 |a::l,k,hn,hs=>by
  have hn':=List.nodup_cons.1 hn;have ha:=hs a (by simp);have:=zDY (l:=l) (k:=k.erase a) hn'.2 (fun b hb=>(List.mem_erase_of_ne (fun e=>hn'.1 (by rw[←e];exact hb))).2 (hs b (by simp[hb])));rw[List.length_erase_of_mem ha]at this;have:=List.length_pos_of_mem ha;simp;omega
theorem PrI.zVP(h:PrI n gs els pre last wds right els.length)(hb:Big n gs):False:=by
 obtain⟨l,h1,h2,h3⟩:=hb;have:=zDY h1 (fun e he=>by
  obtain⟨w,w1,rfl⟩:=h3 e he;exact h.zTE w w1)
 have:=h.el;omega
end
section
variable{L m:Nat}{bs:List Bool}{nx els:List (List Int)}{pre last:List Int}{wds:List (List Nat)}{right:List (List Int)}{r0:List Int}
theorem zGW(hD:DfL L m 0 bs nx): ∀(w:List Nat),(∀a∈w,a<L)-> ∀q,q<m->(act m (tab L (lets m nx)) w)[q]? =some (zo nx q w:Int):=by
 intro w;refine zGb (P:=fun w=>(∀a∈w,a<L)-> ∀q,q<m->(act m (tab L (lets m nx)) w)[q]? =some (zo nx q w:Int)) ?_ ?_ w
 ·intro _ q hq;show(idL m)[q]? =_;unfold idL;rw[zO _ hq];rfl
 ·intro w x ih hw q hq;have hx:x<L:=hw x (by simp);have hwl: ∀a∈w,a<L:=fun a ha=>hw a (by simp[ha])
  have h1:=ih hwl q hq;have h2:zo nx q w<m:=hD.rt.walk hwl hq;rw[zCs];unfold zn;rw[Qi,h1,Qg,Qv (l:=tab L (lets m nx)),zO _ hx,Qd,Qv,Int.toNat_natCast];unfold lets;rw[zO _ h2,Qd];simp[zo]
theorem SyX.pos(h:SyX L m nx els pre last wds right r0):0<els.length:=(Qq.1 h.pr.en.one.1).1
theorem SyX.df(h:SyX L m nx els pre last wds right r0):DfL L els.length 0 (els.map (zFM bs)) right:=by
 have hp:=h.pos;have hrd:=h.pr.rd;refine⟨hp,hp,by simp,hrd,fun r hr=>?_⟩;obtain⟨i,hi,rfl⟩:=Qb hr;obtain⟨h1,h2⟩:=h.pr.rg i right[i] (by simp);rw[zAD]at h1;refine⟨h1,fun v hv=>?_⟩;obtain⟨y,hy,rfl⟩:=Qb hv;obtain⟨k,e,g,c1,c2,c3,c4⟩:=h2 y right[i][y] (by simp);have:=(Qq.1 c4).1;omega
theorem SyX.elW(h:SyX L m nx els pre last wds right r0)(hD:DfL L m 0 bs nx)(hg: ∀g∈tab L (lets m nx),TrN m g){w:List Nat}(hw: ∀a∈w,a<L){x:Nat}(hx:x<els.length):els[zo right x w]? =some (zn els[x] (act m (tab L (lets m nx)) w)):=by
 have hw': ∀a∈w,a<(tab L (lets m nx)).length:=fun a ha=>by rw[zAD];exact hw a ha
 rw[h.pr.zHG w hx hw'];obtain⟨h1,h2,h3,h4⟩:=h.pr.wl' hx;rw[zMd hg h3 hw']
theorem SyX.zOu(h:SyX L m nx els pre last wds right r0)(hD:DfL L m 0 bs nx)(hg: ∀g∈tab L (lets m nx),TrN m g){w:List Nat}(hw: ∀a∈w,a<L):zCF (els.map (zFM bs)) right 0 w=zCF bs nx 0 w:=by
 have hp:=h.pos;have h1:=h.elW hD hg hw hp;have h0:els[0]=idL m:=by
  have:=h.pr.en.one.1;rw[Qj hp]at this;exact Option.some.inj this
 have hact:TrN m (act m (tab L (lets m nx)) w):=by
  obtain⟨i,hi,e⟩:=Qb (h.pr.zTE w (fun a ha=>by rw[zAD];exact hw a ha));obtain⟨h1,h2,h3,h4⟩:=h.pr.wl' hi;rw[←e];exact h3
 rw[h0,zAz hact]at h1;have h2:=zGW hD w hw 0 hD.n1;unfold zCF;rw[Qv,Qi,h1,Qg,Qd];unfold zFM;rw[Qv (l:=act m _ w),h2,Qd,Int.toNat_natCast]
end
theorem zHi(xs ys:List Int)(hl:xs.length<=100000)(hl2:ys.length<=100000):FnA Tryz.prog 60 [.t 0 (ints xs),.t 0 (ints ys)] (.t 2 (.bool (decide (xs=ys)))):=by
 refine fI 26 #[.tmp 4] Tryz.func60 rfl ?_;refine rg0 ?_;refine zA ?_;by_cases hlen:xs.length=ys.length
 ·refine rg1 @hlen ?_;refine cS0 ?_;refine zA ?_;refine rg0 ?_;refine zB ?_;refine awp_loop (fun k:Nat=>mkS [(0,.t 0 (ints xs)),(1,.t 0 (ints ys)),(12,.t 2 (.int .i64 xs.length)),(13,.t 2 (.int .i64 k))] [] 0 26 [.any,.any]) (fun k=>k<=xs.length/\ ∀j (h1:j<xs.length) (h2:j<ys.length),j<k->xs[j]=ys[j]) (fun k=>xs.length-k) ?_ ?_
  ·refine⟨0,⟨by omega,fun j h1 h2 hj=>by omega⟩,?_⟩;exact kw0 []
  rintro k ⟨hk,hsame⟩;refine rg0 ?_;refine zA ?_;by_cases hlt:k<xs.length
  ·have hlt2:k<ys.length:=by omega
   refine cK1 @hlt ?_;refine zA ?_;refine zB ?_;refine rg0 ?_;by_cases e:xs[k]=ys[k]
   ·refine rd1 (an @hlt (an @hlt2 @e)) ?_;refine cY0 ?_;refine rr0 ?_;refine⟨k+1,⟨by omega,fun j h1 h2 hj=>?_⟩,by omega,?_⟩
    ·by_cases c:j=k
     ·subst c;exact e
     ·exact hsame j h1 h2 (by omega)
    exact kw0 []
   ·have hne:decide (xs=ys)=false:=by
     simp only[decide_eq_false_iff_not];intro c;subst c;exact e rfl
    have e2:(xs[k]==ys[k])=false:=by simpa using e
    refine rd1 (an @hlt (an @hlt2 @e2)) ?_;refine cT0 ?_;refine rg0 ?_;exact zC (rt1 @hne)
  ·have heq:decide (xs=ys)=true:=by
    simp only[decide_eq_true_eq];exact List.ext_getElem hlen fun j h1 h2=>hsame j h1 h2 (by omega)
   refine cF1 @hlt ?_;refine zE ?_;refine rg0 ?_;exact zC (rt1 @heq)
 ·have hne:decide (xs=ys)=false:=by
   simp only[decide_eq_false_iff_not];intro c;subst c;exact hlen rfl
  have hli: ¬(xs.length:Int)=ys.length:=by omega
  have hli2:((xs.length:Int)==ys.length)=false:=by simpa using hli
  refine rg1 @hli2 ?_;refine cT0 ?_;refine rg0 ?_;exact zC (rt1 @hne)
theorem zNB(xs ys:List Bool)(hl:xs.length<=100000)(hl2:ys.length<=100000):FnA Tryz.prog 62 [.t 0 (zG xs),.t 0 (zG ys)] (.t 2 (.bool (decide (xs=ys)))):=by
 refine fI 26 #[.tmp 4] Tryz.func62 rfl ?_;refine rg1 @zG.eq_1 ?_;refine zA ?_;by_cases hlen:xs.length=ys.length
 ·refine rg1 (an @hlen @zG.eq_1) ?_;refine cS0 ?_;refine zA ?_;refine rg1 @zG.eq_1 ?_;refine zB ?_;refine awp_loop (fun k:Nat=>mkS [(0,.t 0 (zG xs)),(1,.t 0 (zG ys)),(12,.t 2 (.int .i64 xs.length)),(13,.t 2 (.int .i64 k))] [] 0 26 [.any,.any]) (fun k=>k<=xs.length/\ ∀j (h1:j<xs.length) (h2:j<ys.length),j<k->xs[j]=ys[j]) (fun k=>xs.length-k) ?_ ?_
  ·refine⟨0,⟨by omega,fun j h1 h2 hj=>by omega⟩,?_⟩;exact kw1 [] @zG.eq_1
  rintro k ⟨hk,hsame⟩;refine rg0 ?_;refine zA ?_;by_cases hlt:k<xs.length
  ·have hlt2:k<ys.length:=by omega
   refine cK1 @hlt ?_;refine zA ?_;refine zB ?_;refine rg0 ?_;by_cases e:xs[k]=ys[k]
   ·refine rd1 (an @hlt (an @hlt2 (an @e @zG.eq_1))) ?_;refine cY0 ?_;refine rr0 ?_;refine⟨k+1,⟨by omega,fun j h1 h2 hj=>?_⟩,by omega,?_⟩
    ·by_cases c:j=k
     ·subst c;exact e
     ·exact hsame j h1 h2 (by omega)
    exact kw1 [] @zG.eq_1
   ·have hne:decide (xs=ys)=false:=by
     simp only[decide_eq_false_iff_not];intro c;subst c;exact e rfl
    have e2:(xs[k]==ys[k])=false:=by simpa using e
    refine rd1 (an @hlt (an @hlt2 (an @e2 @zG.eq_1))) ?_;refine cT0 ?_;refine rg0 ?_;exact zC (rt1 @hne)
  ·have heq:decide (xs=ys)=true:=by
    simp only[decide_eq_true_eq];exact List.ext_getElem hlen fun j h1 h2=>hsame j h1 h2 (by omega)
   refine cF1 @hlt ?_;refine zE ?_;refine rg0 ?_;exact zC (rt1 @heq)
 ·have hne:decide (xs=ys)=false:=by
   simp only[decide_eq_false_iff_not];intro c;subst c;exact hlen rfl
  have hli: ¬(xs.length:Int)=ys.length:=by omega
  have hli2:((xs.length:Int)==ys.length)=false:=by simpa using hli
  refine rg1 (an @hli2 @zG.eq_1) ?_;refine cT0 ?_;refine rg0 ?_;exact zC (rt1 @hne)
theorem zSk:slB Tryz.prog 27=true:=by kernel_rfl
theorem zMa(xs:List Bool)(hx:0<xs.length)(hl:xs.length<=100000):FnA Tryz.prog 109 [.t 0 (zG xs)] (.t 2 (zG xs)):=by
 have hne: ¬xs=[]:=fun e=>by rw[e]at hx;simp at hx
 refine fI 8 #[.tmp 2] Tryz.func109 rfl ?_;refine rg1 @zG.eq_1 ?_;refine zA ?_;refine rg1 (an @zSk (an @hx @zG.eq_1)) ?_;refine cS1 @hne ?_;refine rg1 @zG.eq_1 ?_;exact zC (rt1 @zG.eq_1)
section
variable{L m:Nat}{bs:List Bool}{nx els:List (List Int)}{pre last:List Int}{wds:List (List Nat)}{right:List (List Int)}{r0:List Int}
theorem SyX.img(h:SyX L m nx els pre last wds right r0)(hg: ∀g∈tab L (lets m nx),TrN m g){a:Nat}(ha:a<L): ∃j:Nat,r0[a]? =some (j:Int)/\j<els.length/\els[j]? =some (lets m nx a):=by
 obtain⟨h1,h2⟩:=h.pr.rg 0 r0 h.r0;rw[zAD]at h1;obtain⟨k,e,g,c1,c2,c3,c4⟩:=h2 a r0[a] (by simp);rw[zO _ ha]at c3;injection c3 with c3;subst c3;rw[h.pr.en.one.1]at c2;injection c2 with c2;subst c2;rw[zAz (hg _ (Qc (zO _ ha)))]at c4;exact⟨k,by rw[Qj (by omega),c1],(Qq.1 c4).1,c4⟩
theorem SyX.zSz(h:SyX L m nx els pre last wds right r0)(hD:DfL L m 0 bs nx)(hg: ∀g∈tab L (lets m nx),TrN m g){x a j:Nat}(hx:x<els.length)(ha:a<L)(hj:els[j]? =some (lets m nx a)):zo right x (wds.getD j [])=zR right x a:=by
 have hjl:=(Qq.1 hj).1;obtain⟨w1,w2,w3,w4⟩:=h.pr.wl' hjl;have hwj:wds.getD j []=wds[j]:=by rw[Qv,Qj w1];rfl
 rw[hwj];have e1:=h.elW hD hg (w:=wds[j]) (fun y hy=>by have:=w4 y hy;rwa [zAD]at this) hx;rw[←w2]at e1;have e2:=h.pr.zJw hx (c:=a) (by rw[zAD];exact ha);obtain⟨hjx,hj2⟩:=Qq.1 hj;rw[hj2]at e1;have e3:(tab L (lets m nx))[a]'(by rw[zAD];exact ha)=lets m nx a:=by simp[zBK]
 rw[e3]at e2;exact h.pr.en.nd _ _ _ e1 e2
theorem SyX.mix(h:SyX L m nx els pre last wds right r0)(hM:MnD L m bs nx)(hL:1<=L)(hg: ∀g∈tab L (lets m nx),TrN m g){m':Nat}{bs':List Bool}{nx':List (List Int)}(hX:MiX L els.length 0 (els.map (zFM bs)) right m' bs' nx'):m'=m/\bs'=bs/\nx'=nx:=
 hX.mn.eq (by omega) hM fun w hw=>by rw[hX.zOu w hw,h.zOu hM.df hg hw]
theorem SyX.of(h:SyX L m nx els pre last wds right r0)(hM:MnD L m bs nx)(hL:1<=L)(hg: ∀g∈tab L (lets m nx),TrN m g){res:AV}(hO:OfX L els.length 0 (els.map (zFM bs)) right res):res= .tup [zLy 1 L bs els wds right r0,.t 2 (.int .i64 0)]:=by
 obtain⟨m',bs',nx',hX,hc⟩:=hO;obtain⟨rfl,rfl,rfl⟩:=h.mix hM hL hg hX;rcases hc with⟨-,hF⟩|⟨els',pre',last',wds',right',r0',h',rfl⟩
 ·rcases hF with hF|⟨els',pre',last',wds',right',hP,hl⟩
  ·exact(h.pr.zVP hF).elim
  ·obtain⟨e,-⟩:=h.pr.eqE hP;have:=h.el;rw[e]at this;omega
 ·obtain⟨rfl,rfl,rfl,rfl,rfl⟩:=h.pr.eqE h'.pr;have e:=h.r0.symm.trans h'.r0;injection e with e;subst e;rfl
end
structure zSy(L N:Nat)(tb:List (List Int))(ws:List (List Nat))(im:List Int)(ac pl:List Bool):Prop where
 l1:1<=L
 l2:L<=6
 n1:1<=N
 n2:N<=400
 tl:tb.length=N
 tr: ∀r∈tb,r.length=N/\ ∀v∈r,0<=v/\v<(N:Int)
 wl:ws.length=N
 il:im.length=L
 ir: ∀v∈im,0<=v/\v<(N:Int)
 al:ac.length=N
 pll:pl.length=N
def syV(p L:Nat)(tb:List (List Int))(ws:List (List Nat))(im:List Int)(ac pl:List Bool):AV:=.agg [.t 2 (.int .i64 L),.t p (rows tb),.t p (.sl 1 (wsT ws)),.t p (ints im),.t p (zG ac),.t p (zG pl)]
theorem zFe{N:Nat}{xs:List Int}(hx: ∀v∈xs,0<=v/\v<(N:Int))(hl:xs.length<=100000):FnA Tryz.prog 104 [.t 0 (ints xs),.t 2 (.int .i64 N)] (.t 2 (.bool true)):=by
 refine fI 21 #[.tmp 4] Tryz.func104 rfl ?_;refine rg0 ?_;refine zA ?_;refine rg0 ?_;refine zB ?_;refine awp_loop (fun k:Nat=>mkS [(1,.t 2 (.int .i64 N)),(7,.t 0 (ints xs)),(8,.t 2 (.int .i64 xs.length)),(9,.t 2 (.int .i64 k))] [] 0 21 [.any,.any]) (fun k=>k<=xs.length) (fun k=>xs.length-k) ?_ ?_
 ·refine⟨0,by omega,?_⟩;exact kw0 []
 intro k hk;refine rg0 ?_;refine zA ?_;by_cases hlt:k<xs.length
 ·have hv:=hx xs[k] (by simp);have d1: ¬xs[k]<0:=by omega
  have d2: ¬(N:Int)<=xs[k]:=by omega
  refine cK1 @hlt ?_;refine zA ?_;refine zB ?_;refine rg1 @hlt ?_;refine rg1 (an @d1 @d2) ?_;refine cY0 ?_;refine rr0 ?_;refine⟨k+1,by omega,by omega,?_⟩;exact kw0 []
 ·refine cF1 @hlt ?_;refine zE ?_;refine rg0 ?_;exact zC rt0
theorem zOQ{L N:Nat}{tb:List (List Int)}{ws:List (List Nat)}{im:List Int}{ac pl:List Bool}(h:zSy L N tb ws im ac pl):FnA Tryz.prog 57 [syV 0 L tb ws im ac pl] (.t 2 (.bool true)):=by
 have hl1:=h.l1;have hl2:=h.l2;have hn1:=h.n1;have hn2:=h.n2;have htl:=h.tl;have hwl:=h.wl;have hil:=h.il;have hal:=h.al;have hpl:=h.pll;have d1: ¬(L:Int)<1:=by omega
 have d2: ¬6<(L:Int):=by omega
 have d3: ¬(N:Int)<1:=by omega
 have d4: ¬400<(N:Int):=by omega
 refine fI 74 #[.tmp 2] Tryz.func57 rfl ?_;refine rg1 (an @syV.eq_1 @zG.eq_1) ?_;refine rg1 @htl ?_;refine zA ?_;refine rg1 (an @d1 (an @d2 (an @d3 @d4))) ?_;refine cS0 ?_;refine zA ?_;refine rg1 (an @hwl (an @hal (an @hpl @hil))) ?_;refine cS0 ?_;refine zA ?_;refine rg1 @htl ?_;refine zB ?_;refine awp_loop (fun k:Nat=>mkS [(1,.ptr 0 0 6),(3,.t 2 (.int .i64 N)),(53,.t 0 (rows tb)),(54,.t 2 (.int .i64 N)),(55,.t 2 (.int .i64 k))] [(0,.box 29 [.any,.any,.any,.t 0 (ints im),.any,.any])] 1 74 [.any]) (fun k=>k<=N) (fun k=>N-k) ?_ ?_
 ·refine⟨0,by omega,?_⟩;exact kw1 [(0,some 0)] (an @rows.eq_1 @zG.eq_1)
 intro k hk;refine rg0 ?_;refine zA ?_;by_cases hlt:k<N
 ·have hkt:k<tb.length:=by omega
  obtain⟨hr1,hr2⟩:=h.tr tb[k] (by simp);have hwi:=zFe hr2 (by omega);refine cK1 @hlt ?_;refine zA ?_;refine zB ?_;refine rg1 @hkt ?_;refine rc1 hwi @hr1 ?_;refine cY0 ?_;refine rr0 ?_;refine⟨k+1,by omega,by omega,?_⟩;exact kw1 [(0,some 0)] @rows.eq_1
 ·have hwi:=zFe h.ir (by omega);refine cF1 @hlt ?_;refine zE ?_;refine rc0 hwi ?_;exact zC (rt1 @syV.eq_1)
def auR(tb:List (List Int))(im:List Int)(x:Nat):List Int:=im.map fun y=>(tb.getD x []).getD y.toNat 0
@[simp] theorem zVR(tb:List (List Int))(im:List Int)(x:Nat):(auR tb im x).length=im.length:=by simp[auR]
def auP(tb:List (List Int))(im:List Int)(x a:Nat):List T:=tab im.length fun y=>.int .i64 (if y<a then(auR tb im x).getD y 0 else 0)
@[simp] theorem zUg(tb:List (List Int))(im:List Int)(x a:Nat):(auP tb im x a).length=im.length:=by simp[auP]
theorem zO3(tb:List (List Int))(im:List Int)(x:Nat):(tab im.length fun _=>T.int .i64 0)=auP tb im x 0:=rfl
theorem zSZ{tb:List (List Int)}{im:List Int}{x a:Nat}{v:Int}(ha:a<im.length)(hv:(tb.getD x []).getD im[a].toNat 0=v):(auP tb im x a).set a (.int .i64 v)=auP tb im x (a+1):=by
 unfold auP;rw[zb];refine zK fun y hy=>?_
 by_cases c:y=a
 ·subst c;rw[if_pos rfl,if_pos (by omega)];unfold auR;rw[Qv (l:=List.map _ _),Qi,Qj ha,Qg,Qd,hv]
 ·rw[if_neg c];by_cases c2:y<a
  ·rw[if_pos c2,if_pos (by omega)]
  ·rw[if_neg c2,if_neg (by omega)]
theorem zO6(tb:List (List Int))(im:List Int)(x:Nat):auP tb im x im.length=(auR tb im x).map (.int .i64):=by
 apply List.ext_getElem?;intro i;by_cases h:i<im.length
 ·unfold auP;rw[zO _ h,if_pos h,Qi,Qv,Qj (show i<(auR tb im x).length by simpa using h)];rfl
 ·rw[Qh (by simp;omega),Qh (by simp;omega)]
def auC(tb:List (List Int))(im:List Int)(k j:Nat):AV:=if j<k then .t 1 (ints (auR tb im j))else .t 2 (.sl 0 [])
theorem zG6{L N:Nat}{tb:List (List Int)}{ws:List (List Nat)}{im:List Int}{ac pl:List Bool}(h:zSy L N tb ws im ac pl):FnA Tryz.prog 59 [syV 0 L tb ws im ac pl] (dfT 1 L 0 ac (tab N (auR tb im))):=by
 have hl1:=h.l1;have hl2:=h.l2;have hn1:=h.n1;have hn2:=h.n2;have htl:=h.tl;have hil:=h.il;have hal:=h.al;refine fI 55 #[.cell 2 34] Tryz.func59 rfl ?_;refine rg1 (an @syV.eq_1 @zG.eq_1) ?_;refine rq1 (zMa ac (by omega) (by omega)) (an @zG.eq_1 @htl) ?_;refine zA ?_;refine rg1 @htl ?_;refine zB ?_;refine awp_loop (fun x:Nat=>mkS [(1,.ptr 0 0 6),(2,.ptr 1 0 4),(3,.ptr 2 0 4),(19,.t 0 (rows tb)),(20,.t 2 (.int .i64 N)),(21,.t 2 (.int .i64 x))]
   [(0,.box 29 [.t 2 (.int .i64 L),.any,.any,.t 0 (ints im),.any,.any]),(1,.box 34 [.any,.any,.any,.any]),(2,.box 34 [.t 2 (.int .i64 L),.t 2 (.int .i64 0),.t 2 (zG ac),.own 3 N]),(3,.vec 22 1 2 (tab N (auC tb im x)))] 4 55 [.any])
  (fun x=>x<=N) (fun x=>N-x) ?_ ?_
 ·refine⟨0,by omega,?_⟩;exact kw1 [(0,some 0),(1,some 1000000),(2,some 12000000),(3,some 10000000)] (an @rows.eq_1 (an @zG.eq_1 (an @zz (an @zT (an @zI @auC.eq_1)))))
 intro x hx;refine rg0 ?_;refine zA ?_;by_cases hxn:x<N
 ·have hxt:x<tb.length:=by omega
  obtain⟨hr1,hr2⟩:=h.tr tb[x] (by simp);refine cK1 @hxn ?_;refine zA ?_;refine zB ?_;refine rg1 @hxt ?_;refine rd1 (an @hxn (an @zb @zz)) ?_;refine rg1 @hil ?_;refine zB ?_;refine awp_loop (fun a:Nat=>mkS [(1,.ptr 0 0 6),(2,.ptr 1 0 4),(3,.ptr 2 0 4),(4,.t 2 (.int .i64 x)),(5,.t 0 (ints tb[x])),(19,.t 0 (rows tb)),(20,.t 2 (.int .i64 N)),(21,.t 2 (.int .i64 x)),(34,.t 0 (ints im)),(35,.t 2 (.int .i64 L)),(36,.t 2 (.int .i64 a))]
    [(0,.box 29 [.t 2 (.int .i64 L),.any,.any,.t 0 (ints im),.any,.any]),(1,.box 34 [.any,.any,.any,.any]),(2,.box 34 [.t 2 (.int .i64 L),.t 2 (.int .i64 0),.t 2 (zG ac),.own 3 N]),(3,.vec 22 1 2 (tab N fun y=>if y=x then .own 4 L else auC tb im x y)),(4,.row 3 1 2 (auP tb im x a))] 5 55 [.any])
   (fun a=>a<=L) (fun a=>L-a) ?_ ?_
  ·refine⟨0,by omega,?_⟩;refine zH [(0,some 0),(1,some 1),(2,some 2),(3,some 3),(4,some 11000004)] rfl ?_ ?_ ?_ ?_
   all_goals try simp[ints,rows,zG,zI]
   refine⟨fun y hy=>?_,?_⟩
   ·by_cases e:y=x
    ·subst e;simp +contextual (disch:=omega)[zL]
    ·simp only[if_neg e];unfold auC;split<;>simp
   ·rw[←hil];exact zO3 tb im x
  intro a ha;refine rg0 ?_;refine zA ?_;by_cases hal:a<L
  ·have haL:a<im.length:=by omega
   obtain⟨v1,v2⟩:=h.ir im[a] (by simp);obtain⟨k,hk⟩: ∃k:Nat,im[a]=(k:Int):=⟨im[a].toNat,by omega⟩;have hkr:k<tb[x].length:=by omega
   have hst:=zSZ (tb:=tb) (x:=x) haL (v:=tb[x][k]) (by rw[hk,Qv,Qv,Qj hxt,Qd,Int.toNat_natCast,Qj hkr];rfl);refine cK1 @hal ?_;refine zA ?_;refine zB ?_;refine rg1 (an @haL @hk) ?_;refine re1 (an @hxn (an @hkr (an @hst @haL))) ?_;refine rr0 ?_;refine⟨a+1,by omega,by omega,?_⟩;refine zH [(0,some 0),(1,some 1),(2,some 2),(3,some 3),(4,some 4)] rfl ?_ ?_ ?_ ?_
   all_goals try simp[ints,rows,zG,zI]
   intro y hy;by_cases e:y=x
   ·subst e;simp +contextual (disch:=omega)[zL]
   ·simp only[if_neg e];unfold auC;split<;>simp
  ·obtain rfl:a=L:=by omega
   refine cF0 ?_;refine zE ?_;refine rr0 ?_;refine⟨x+1,by omega,by omega,?_⟩;refine zH [(0,some 0),(1,some 1),(2,some 2),(3,some 3)] rfl ?_ ?_ ?_ ?_
   all_goals try simp[ints,rows,zG,zI]
   have hfu:auP tb im x a=(auR tb im x).map (.int .i64):=hil▸zO6 tb im x;intro y hy;by_cases e:y=x
   ·subst e;simp +contextual (disch:=omega)[zL,ze,ints,auC,hfu,hil]
   ·simp only[if_neg e];unfold auC;by_cases c:y<x
    ·rw[if_pos c,if_pos (by omega)];simp
    ·rw[if_neg c,if_neg (by omega)];simp
 ·obtain rfl:x=N:=by omega
  refine cF0 ?_;refine zE ?_;refine rg0 ?_;refine zC ?_;refine⟨⟨.inr rfl,_,[],(by simp;rfl),trivial,trivial,by simp,?_⟩,by simp[rows,zG,syV]⟩;simp[ints,rows,dfT,rows,zG,zT,zCT];intro j hj;unfold auC;rw[if_pos hj];simp[wk1];rfl
theorem zNf(ws:List (List Nat))(hl:ws.length<=100000):FnA Tryz.prog 61 [.t 0 (.sl 1 (wsT ws)),.t 0 (.sl 1 (wsT ws))] (.t 2 (.bool true)):=by
 refine fI 26 #[.tmp 4] Tryz.func61 rfl ?_;refine rg0 ?_;refine zA ?_;refine rg0 ?_;refine cS0 ?_;refine zA ?_;refine rg0 ?_;refine zB ?_;refine awp_loop (fun k:Nat=>mkS [(0,.t 0 (.sl 1 (wsT ws))),(1,.t 0 (.sl 1 (wsT ws))),(12,.t 2 (.int .i64 ws.length)),(13,.t 2 (.int .i64 k))] [] 0 26 [.any,.any]) (fun k=>k<=ws.length) (fun k=>ws.length-k) ?_ ?_
 ·refine⟨0,by omega,?_⟩;exact kw0 []
 intro k hk;refine rg0 ?_;refine zA ?_;by_cases hlt:k<ws.length
 ·have hwk:(wsT ws)[k]? =some (.str (zAZ ws[k])):=by simp[wsT,hlt]
  refine cK1 @hlt ?_;refine zA ?_;refine zB ?_;refine rg0 ?_;refine rd1 (an @hwk @hlt) ?_;refine cY0 ?_;refine rr0 ?_;refine⟨k+1,by omega,by omega,?_⟩;exact kw0 []
 ·refine cF1 @hlt ?_;refine zE ?_;refine rg0 ?_;exact zC rt0
def psB(N:Nat)(b:Bool):List Bool:=tab N fun j=>if j=0 then b else decide (j<N)
theorem zU8(N:Nat)(b:Bool):psC N N b=(psB N b).map .bool:=by
 unfold psC psB;rw[zT]
theorem zK6(p L:Nat)(bs:List Bool)(els:List (List Int))(wds:List (List Nat))(right:List (List Int))(r0:List Int):zLy p L bs els wds right r0=syV p L (zBq right wds els.length) wds r0 (els.map (zFM bs)) (psB els.length (right.any fun r=>decide ((0:Int)∈r))):=by
 unfold zLy syV;rw[zU8];rfl
section
variable{L m:Nat}{bs:List Bool}{nx els:List (List Int)}{pre last:List Int}{wds:List (List Nat)}{right:List (List Int)}{r0:List Int}
theorem SyX.sh(h:SyX L m nx els pre last wds right r0)(hL:1<=L)(hL2:L<=6)(ac:List Bool)(ha:ac.length=els.length)(pl:List Bool)(hp:pl.length=els.length):zSy L els.length (zBq right wds els.length) wds r0 ac pl:=by
 have hpos:=h.pos;have hle:=h.pr.en.le;have hrt:=zM5 h.pr.rt hle h.pr.wl;have hd:DfL L els.length 0 (els.map (zFM [])) right:=h.df;obtain⟨hi,hi2⟩:=hd.row r0 (Qc h.r0);refine⟨hL,hL2,hpos,h.el,by simp,fun r hr=>?_,hle.symm,hi,hi2,ha,hp⟩;obtain⟨i,hi,rfl⟩:=Qb hr;obtain⟨h1,h2⟩:=hrt.row i _ (Qj hi);refine⟨h1,fun v hv=>?_⟩;obtain⟨y,hy,rfl⟩:=Qb hv;obtain⟨k,e,hk⟩:=h2 y _ (Qj hy);rw[e];omega
theorem SyX.next(h:SyX L m nx els pre last wds right r0)(hD:DfL L m 0 bs nx)(hg: ∀g∈tab L (lets m nx),TrN m g):tab els.length (auR (zBq right wds els.length) r0)=right:=by
 have hrd:=h.pr.rd;have hd:DfL L els.length 0 (els.map (zFM [])) right:=h.df;obtain⟨hi,hi2⟩:=hd.row r0 (Qc h.r0);refine List.ext_getElem (by simp[hrd]) fun x h1 h2=>?_
 have hx:x<els.length:=by omega
 rw[zBK];obtain⟨hr1,-⟩:=hd.row right[x] (by simp);refine List.ext_getElem (by simp[hi,hr1]) fun a g1 g2=>?_
 have ha:a<L:=by omega
 obtain⟨j,j1,j2,j3⟩:=h.img hg ha;have e1:(auR (zBq right wds els.length) r0 x)[a]? =some (((zBq right wds els.length).getD x []).getD j 0):=by
  unfold auR;rw[Qi,j1,Qg,Int.toNat_natCast]
 rw[Qj g1]at e1;rw[Option.some.inj e1];have e2:((zBq right wds els.length).getD x []).getD j 0=(zo right x (wds.getD j []):Int):=by
  unfold zBq;rw[Qv (l:=tab _ _),zO _ hx,Qd,Qv (l:=tab _ _),zO _ j2,Qd]
 rw[e2,h.zSz hD hg hx ha j3];obtain⟨-,s2,s3,s4⟩:=hd.rt.step hx ha;exact s4.symm
end
theorem zGg{L N:Nat}{tb:List (List Int)}{ws:List (List Nat)}{im:List Int}{ac pl:List Bool}(hS:zSy L N tb ws im ac pl)(hof:FnA Tryz.prog 58 [dfT 0 L 0 ac (tab N (auR tb im))] (.tup [syV 1 L tb ws im ac pl,.t 2 (.int .i64 0)])):FnA Tryz.prog 32 [syV 0 L tb ws im ac pl] (.t 2 (.int .i64 0)):=by
 have hsh:=zOQ hS;have hau:=zG6 hS;have hn2:=hS.n2;have hl2:=hS.l2;have htl:=hS.tl;have hwl:=hS.wl;have hil:=hS.il;have hal:=hS.al;have hpl:=hS.pll;generalize tab N (auR tb im)=nx at hof hau;have hq1: ∀r∈tb,FnA Tryz.prog 60 [.t 0 (ints r),.t 0 (ints r)] (.t 2 (.bool true)):=fun r hr=>by
  have h1:=(hS.tr r hr).1;have:=zHi r r (by omega) (by omega)
  rwa [show decide (r=r)=true by simp]at this
 have hq2:FnA Tryz.prog 60 [.t 0 (ints im),.t 0 (ints im)] (.t 2 (.bool true)):=by
  have:=zHi im im (by omega) (by omega)
  rwa [show decide (im=im)=true by simp]at this
 have hq3: ∀b:List Bool,b.length<=100000->FnA Tryz.prog 62 [.t 0 (zG b),.t 0 (zG b)] (.t 2 (.bool true)):=fun b hb=>by
  have:=zNB b b hb hb
  rwa [show decide (b=b)=true by simp]at this
 have hq4:=zNf ws (by omega);refine fI 74 #[.tmp 2] Tryz.func32 rfl ?_;refine rg1 (an @syV.eq_1 @zG.eq_1) ?_;refine zA ?_;refine rc1 hsh (an @syV.eq_1 @zG.eq_1) ?_;refine cS0 ?_;refine zF fun K hK=>?_
 simp(maxSteps:=2000000)(disch:=omega)
 (repeat' apply And.intro)
 all_goals (try omega)
 refine zD (caps:=[]) (hau) [] [] 2 rfl rfl rfl rfl (by kernel_rfl) (by simp) ?_ trivial trivial rfl trivial trivial (by simp) ?_
 ·simp[scal,rows,ints,syV,zG]
 simp(maxSteps:=2000000)(disch:=omega)[rows,scal,dfT]
 (repeat' apply And.intro)
 all_goals (try omega)
 refine zD (caps:=[]) (hof) [] [] 2 rfl rfl rfl rfl (by kernel_rfl) (by simp) ?_ trivial trivial rfl trivial trivial (by simp) ?_
 ·simp[scal,rows,dfT]
 simp(maxSteps:=2000000)(disch:=omega)[ints,rows,scal,syV,zG];and_intros<;>try first|apply hK|omega|rfl|simp<;>omega
 refine zA ?_;refine rg1 @htl ?_;refine cS0 ?_;refine zA ?_;refine rg1 @htl ?_;refine zB ?_;refine awp_loop (fun k:Nat=>mkS [(1,.ptr 0 0 6),(3,.ptr 1 0 6),(28,.t 1 (rows tb)),(29,.t 2 (.int .i64 N)),(30,.t 2 (.int .i64 k))]
   [(0,.box 29 [.t 2 (.int .i64 L),.t 0 (rows tb),.t 0 (.sl 1 (wsT ws)),.t 0 (ints im),.t 0 (zG ac),.t 0 (zG pl)]),(1,.box 29 [.t 2 (.int .i64 L),.t 1 (rows tb),.t 1 (.sl 1 (wsT ws)),.t 1 (ints im),.t 1 (zG ac),.t 1 (zG pl)])] 2 74 [.any]) (fun k=>k<=N) (fun k=>N-k) ?_ ?_
 ·refine⟨0,by omega,?_⟩;exact kw1 [(0,some 0),(1,some 11000000)] (an @rows.eq_1 @zG.eq_1)
 intro k hk;refine rg0 ?_;refine zA ?_;by_cases hlt:k<N
 ·have hkt:k<tb.length:=by omega
  have hq:=hq1 tb[k] (by simp);refine cK1 @hlt ?_;refine zA ?_;refine zB ?_;refine rg1 @hkt ?_;refine rc1 hq @hkt ?_;refine cY0 ?_;refine rr0 ?_;refine⟨k+1,by omega,by omega,?_⟩;exact kw1 [(0,some 0),(1,some 1)] (an @rows.eq_1 @zG.eq_1)
 ·have hqa:=hq3 ac (by omega);have hqp:=hq3 pl (by omega);refine cF1 @hlt ?_;refine zE ?_;refine zA ?_;refine zF fun K hK=>?_
  simp(maxSteps:=2000000)(disch:=omega)
  (repeat' apply And.intro)
  all_goals (try omega)
  refine zD (caps:=[]) (hq4) [] [] 2 rfl rfl rfl rfl (by kernel_rfl) (by simp) ?_ trivial trivial rfl trivial trivial (by simp) ?_
  ·simp[scal]
  simp(maxSteps:=2000000)(disch:=omega)[scal]
  (repeat' apply And.intro)
  all_goals (try omega)
  refine zD (caps:=[]) (hq2) [] [] 2 (by simp) rfl rfl rfl (by kernel_rfl) (by simp) ?_ trivial trivial rfl trivial trivial (by simp) ?_
  ·simp[scal,ints]
  simp(maxSteps:=2000000)(disch:=omega)[scal]
  (repeat' apply And.intro)
  all_goals (try omega)
  refine zD (caps:=[]) (hqa) [] [] 2 (by simp[zG]) rfl rfl rfl (by kernel_rfl) (by simp) ?_ trivial trivial rfl trivial trivial (by simp) ?_
  ·simp[scal,zG]
  simp(maxSteps:=2000000)(disch:=omega)[scal]
  (repeat' apply And.intro)
  all_goals (try omega)
  refine zD (caps:=[]) (hqp) [] [] 2 (by simp[zG]) rfl rfl rfl (by kernel_rfl) (by simp) ?_ trivial trivial rfl trivial trivial (by simp) ?_
  ·simp[scal,zG]
  simp(maxSteps:=2000000)(disch:=omega)[scal]
  (repeat' first|apply hK|apply And.intro)<;>try first|omega|rfl|(simp<;>omega)
  refine cS0 ?_;refine rg0 ?_;exact zC (rt1 @syV.eq_1)
theorem zD7{L m:Nat}{bs:List Bool}{nx els:List (List Int)}{pre last:List Int}{wds:List (List Nat)}{right:List (List Int)}{r0:List Int}(h:SyX L m nx els pre last wds right r0)(hM:MnD L m bs nx)(hL:1<=L)(hL2:L<=6):FnA Tryz.prog 32 [zLy 0 L bs els wds right r0] (.t 2 (.int .i64 0)):=by
 have hg: ∀g∈tab L (lets m nx),TrN m g:=(hM.df.gn hL hL2 h.m32).tr;have hN:=h.el;have hS:=h.sh hL hL2 (els.map (zFM bs)) (by simp) (psB els.length (right.any fun r=>decide ((0:Int)∈r))) (by simp[psB]);obtain⟨res,hO,hof⟩:=zS5 (h.df (bs:=bs)) hL hL2 (by omega) (fun m' bs' nx' hX=>by rw[(h.mix hM hL hg hX).1];exact h.m32);rw[h.of hM hL hg hO,zK6]at hof;rw[zK6];refine zGg hS ?_;rw[h.next hM.df hg];exact hof
def lstT(m:Nat):Nat->List (List Int)
 |0=>[[]]
 |k+1=>(List.range m).flatMap fun(v:Nat)=>(lstT m k).map fun l=>(v:Int)::l
theorem zJx(m:Nat): ∀k,(lstT m k).length=m^k
 |0=>rfl
 |k+1=>by
  have: ∀n,((List.range n).flatMap fun(v:Nat)=>(lstT m k).map fun l=>(v:Int)::l).length=n*m^k:=fun n=>by
   induction n with
   |zero=>simp
   |succ n ih=>
    rw[List.range_succ,List.flatMap_append,List.length_append,ih];simp only[List.flatMap_cons,List.flatMap_nil,List.append_nil,List.length_map,zJx m k];rw[Nat.succ_mul]
  show((List.range m).flatMap fun(v:Nat)=>(lstT m k).map fun l=>(v:Int)::l).length=m^(k+1);rw[this m,Nat.pow_succ,Nat.mul_comm]
theorem zKE(m:Nat): ∀(k:Nat) (l:List Int),l.length=k->(∀v∈l,0<=v/\v<(m:Int))->l∈lstT m k
 |0,l,h,_=>by rw[List.length_eq_zero_iff.1 h];simp[lstT]
 |k+1,[],h,_=>by simp at h
 |k+1,v::l,h,hv=>by
  obtain⟨h1,h2⟩:=hv v (by simp);have ih:=zKE m k l (by simpa using h) (fun u hu=>hv u (by simp[hu]));simp only[lstT,List.mem_flatMap,List.mem_range,List.mem_map];exact⟨v.toNat,by omega,l,ih,by congr 1;omega⟩
section
variable{L m:Nat}{bs:List Bool}{nx:List (List Int)}
theorem zQi(hg: ∀g∈tab L (lets m nx),TrN m g)(w:List Nat):(∀a∈w,a<L)->TrN m (act m (tab L (lets m nx)) w):=by
 refine zGb (P:=fun w=>(∀a∈w,a<L)->TrN m (act m (tab L (lets m nx)) w)) ?_ ?_ w
 ·intro _;exact zFh m
 ·intro w x ih hw;have hx:x<L:=hw x (by simp);rw[zCs,Qv,zO _ hx];exact(ih fun a ha=>hw a (by simp[ha])).comp (hg _ (Qc (zO _ hx)))
theorem zSx{K:List (List Int)}(hK:K.length<=400)(h: ∀w:List Nat,(∀a∈w,a<L)->act m (tab L (lets m nx)) w∈K): ¬SyF L m nx:=by
 rintro(⟨l,h1,h2,h3⟩|⟨els,pre,last,wds,right,hP,hl⟩)
 ·have:=zDY h1 (k:=K) (fun e he=>by
   obtain⟨w,w1,rfl⟩:=h3 e he;exact h w (fun a ha=>by have:=w1 a ha;rwa [zAD]at this))
  omega
 ·have:=zDY hP.en.nodup (k:=K) (fun e he=>by
   obtain⟨i,hi,rfl⟩:=Qb he;obtain⟨g1,g2,g3,g4⟩:=hP.wl' hi;rw[g2];exact h _ (fun a ha=>by have:=g4 a ha;rwa [zAD]at this))
  omega
theorem zQc(hg: ∀g∈tab L (lets m nx),TrN m g)(hm:m<=4): ¬SyF L m nx:=by
 refine zSx (K:=lstT m m) ?_ (fun w hw=>?_)
 ·rw[zJx];rcases(by omega:m=0\/m=1\/m=2\/m=3\/m=4)with rfl|rfl|rfl|rfl|rfl<;>decide
 ·obtain⟨h1,h2⟩:=zQi hg w hw;exact zKE m m _ h1 h2
def zUY(L m:Nat)(nx:List (List Int)):Prop:=∀q a b,q<m->a<L->b<L->zo nx q [a,b]=zo nx 0 [a,b]
def zUA(L:Nat):List (List Nat):=[[]]++((List.range L).map fun a=>[a])++(List.range L).flatMap fun a=>(List.range L).map fun b=>[a,b]
theorem zPR(hL:L<=2):(zUA L).length<=7:=by
 rcases(by omega:L=0\/L=1\/L=2)with rfl|rfl|rfl<;>decide
theorem zUZ(hD:DfL L m 0 bs nx)(hc:zUY L m nx)(w:List Nat)(hw: ∀a∈w,a<L): ∃u∈zUA L,act m (tab L (lets m nx)) w=act m (tab L (lets m nx)) u:=by
 by_cases h0:w.length<=2
 ·refine⟨w,?_,rfl⟩
  match w,h0,hw with
  |[],_,_=>simp[zUA]
  |[a],_,hw=>exact List.mem_append_left _ (List.mem_append_right _ (List.mem_map.2 ⟨a,List.mem_range.2 (hw a (by simp)),rfl⟩))
  |[a,b],_,hw=>exact List.mem_append_right _ (List.mem_flatMap.2 ⟨a,List.mem_range.2 (hw a (by simp)),List.mem_map.2 ⟨b,List.mem_range.2 (hw b (by simp)),rfl⟩⟩)
  |_::_::_::_,h,_=>simp at h
 ·obtain⟨v,a,b,rfl⟩: ∃v a b,w=v++[a,b]:=by
   refine⟨w.take (w.length-2),w[w.length-2],w[w.length-1],?_⟩;refine List.ext_getElem (by simp;omega) fun i h1 h2=>?_
   rw[List.getElem_append];split
   ·rw[List.getElem_take]
   ·rename_i c;simp at c;rcases(by omega:i=w.length-2\/i=w.length-1)with rfl|rfl
    ·simp[show min (w.length-2) w.length=w.length-2 by omega]
    ·simp[show min (w.length-2) w.length=w.length-2 by omega,show w.length-1-(w.length-2)=1 by omega]
  have ha:=hw a (by simp);have hb:=hw b (by simp);refine⟨[a,b],List.mem_append_right _ (List.mem_flatMap.2 ⟨a,List.mem_range.2 ha,List.mem_map.2 ⟨b,List.mem_range.2 hb,rfl⟩⟩),?_⟩;have hab: ∀x∈[a,b],x<L:=fun x hx=>by simp at hx;rcases hx with rfl|rfl<;>assumption
  have hv: ∀x∈v,x<L:=fun x hx=>hw x (by simp[hx])
  have len: ∀w:List Nat,(∀x∈w,x<L)->(act m (tab L (lets m nx)) w).length=m:=fun w hw=>(zQi (fun g hg=>by
   simp only[tab,List.mem_map,List.mem_range]at hg;obtain⟨x,hx,rfl⟩:=hg;refine⟨by simp,fun u hu=>?_⟩;simp only[lets,tab,List.mem_map,List.mem_range]at hu;obtain⟨q,hq,rfl⟩:=hu;have:=(hD.rt.step hq hx).1;omega) w hw).1
  refine List.ext_getElem? fun q=>?_
  by_cases hq:q<m
  ·rw[zGW hD _ hw q hq,zGW hD _ hab q hq];congr 2;have e:zo nx q (v++[a,b])=zo nx (zo nx q v) [a,b]:=by simp[zo]
   rw[e,hc _ a b (hD.rt.walk hv hq) ha hb,←hc q a b hq ha hb]
  ·rw[Qh (by rw[len _ hw];omega),Qh (by rw[len _ hab];omega)]
theorem zTO(hD:DfL L m 0 bs nx)(hc:zUY L m nx)(hL:L<=2): ¬SyF L m nx:=by
 refine zSx (K:=(zUA L).map (act m (tab L (lets m nx)))) ?_ (fun w hw=>?_)
 ·have:=zPR hL;simp;omega
 ·obtain⟨u,hu,e⟩:=zUZ hD hc w hw;rw[e];exact List.mem_map.2 ⟨u,hu,rfl⟩
end
def zKu(k:Nat)(w:List Nat):List Nat:=w.drop (w.length-k)
def zE9(ws:List (List Nat))(w:List Nat)(t:Nat):Prop:=ws[t]? =some w/\ ∀i,t<i->ws[i]? ≠some w
theorem zE9.eq{ws:List (List Nat)}{w:List Nat}{t u:Nat}(h:zE9 ws w t)(g:zE9 ws w u):t=u:=by
 rcases Nat.lt_trichotomy t u with c|c|c
 ·exact absurd g.1 (h.2 u c)
 ·exact c
 ·exact absurd h.1 (g.2 t c)
theorem zBv(k:Nat)(w:List Nat)(x:Nat):zKu (k+1) (w++[x])=zKu k w++[x]:=by
 unfold zKu;rw[List.length_append,List.length_singleton,show w.length+1-(k+1)=w.length-k by omega,List.drop_append_of_le_length (by omega)]
theorem zEq(w:List Nat):zKu 0 w=[]:=by simp[zKu]
def SuR(most:Nat)(ws:List (List Nat))(w:List Nat)(r:List Int):Prop:=∀(x:Nat) v,r[x]? =some v-> ∃t:Nat,v=(t:Int)/\zE9 ws (zKu most (w++[x])) t
theorem zSl{most j:Nat}{v W:List Nat}(h:v=W.drop j)(hj:j=0\/most<W.length-(j-1))(hl:v.length<=most):v=zKu most W:=by
 subst h;rw[List.length_drop]at hl;unfold zKu;by_cases c:W.length<=j
 ·rw[List.drop_of_length_le c,List.drop_of_length_le];rcases hj with rfl|hj<;>omega
 ·congr 1;rcases hj with rfl|hj<;>omega
theorem zMp{a b:List Nat}(ha: ∀x∈a,x<=20)(hb: ∀x∈b,x<=20)(h:(zAZ a).toList=(zAZ b).toList):a=b:=by
 rw[ByteArray.toList_eq,ByteArray.toList_eq]at h;simp only[zAZ]at h
 induction a generalizing b with
 |nil=>cases b with
  |nil=>rfl
  |cons y b=>simp at h
 |cons x a ih=>
  cases b with
  |nil=>simp at h
  |cons y b=>
   simp only[List.map_cons,List.cons.injEq]at h;have hx:=ha x (by simp);have hy:=hb y (by simp);have h5:=congrArg UInt8.toNat h.1;simp only[UInt8.toNat_ofNat']at h5;rw[ih (fun z hz=>ha z (by simp[hz])) (fun z hz=>hb z (by simp[hz])) h.2];congr 1;omega
def DeG(L:Nat)(xs:List Int)(res:AV)(H':List AObj):Prop:=∃n s b bs nxt,n<=9/\b<=xs.length/\DfL L n s bs nxt/\(∀p q a b,p<n->q<n->a<L->b<L->zo nxt p [a,b]=zo nxt q [a,b])/\res=dfT 2 L s bs nxt/\H'=[tpO 1 xs b]
theorem zQ7{L most:Nat}{ws:List (List Nat)}{nxt:List (List Int)}(hW:WsG L most ws)(hm:most=1\/most=2)(hl:nxt.length=ws.length)(hr: ∀r∈nxt,r.length=L)(h: ∀(j:Nat) r,nxt[j]? =some r->SuR most ws (ws.getD j []) r): ∀p q a b,p<ws.length->q<ws.length->a<L->b<L->zo nxt p [a,b]=zo nxt q [a,b]:=by
 have st: ∀p a,p<ws.length->a<L->zE9 ws (zKu most (ws.getD p []++[a])) (zR nxt p a):=fun p a hp ha=>by
  have hpn:p<nxt.length:=by omega
  have hal:a<nxt[p].length:=by rw[hr _ (by simp)];exact ha
  obtain⟨t,h1,h2⟩:=h p nxt[p] (Qj hpn) a nxt[p][a] (Qj hal);have e:zR nxt p a=t:=by
   unfold zR;rw[Qv (l:=nxt),Qj hpn,Qd,Qv,Qj hal,Qd,h1,Int.toNat_natCast]
  rw[e];exact h2
 have key: ∀p a b,p<ws.length->a<L->b<L->zE9 ws (zKu most ([a]++[b])) (zo nxt p [a,b]):=fun p a b hp ha hb=>by
  have h1:=st p a hp ha;have hs:=(Qq.1 h1.1).1;have h2:=st _ b hs hb;rw[Qv,h1.1,Qd]at h2;have e:zKu most (zKu most (ws.getD p []++[a])++[b])=zKu most ([a]++[b]):=by
   rcases hm with rfl|rfl
   ·rw[zBv,zEq];rfl
   ·rw[zBv,zBv 1 (ws.getD p []),zBv,zEq,zBv,show([a]:List Nat)=[]++[a]from rfl,zBv,zEq];simp
  rw[e]at h2;exact h2
 exact fun p q a b hp hq ha hb=>(key p a b hp ha hb).eq (key q a b hq ha hb)
theorem zIJ(xs:List Int)(a L:Nat)(ha:a<=xs.length)(hl:xs.length<=80)(hL:L=1\/L=2): ∃res H',DeG L xs res H'∧
  FnS Tryz.prog 26 [.ptr 0 0 2,.t 2 (.int .i64 L)] [tpO 1 xs a] res H':=by
 obtain⟨v1,a1,hv1,ha1,hN1⟩:=zBQ xs a 2 ha hl (by omega);have hv1:=hv1 (by omega);obtain⟨most,hmo⟩: ∃m,m=1+v1:=⟨_,rfl⟩;have hm:most=1\/most=2:=by omega
 have hmm:(1:Int)+v1=most:=by omega
 obtain⟨res,⟨ws,hW,rfl⟩,hN2⟩:=zPB L most hL hm;have hwl:=hW.len;have hwp:=hW.pos;refine zAw Tryz.func26 rfl (by simp[Tryz.f26]) ?_;rw[show Tryz.f26.ntmps=76 from rfl,show Tryz.f26.results= #[.cell 4 34]from rfl];refine rg0 ?_;refine rg0 ?_;refine zF fun K hK=>?_
 simp(maxSteps:=2000000)(disch:=omega)
 (repeat' apply And.intro)
 all_goals (try omega)
 refine zD (caps:=[]) (hN1) [0] [0] 1 rfl rfl rfl rfl (by kernel_rfl) (by simp) ?_ ?_ (by simp) rfl (by simp) ⟨.inr ⟨rfl,0,_,_,_,_,_,rfl,rfl,rfl,rfl,rfl⟩,trivial⟩ (by simp[tpO]) ?_
 ·simp[scal,ints,tpO]
 ·simp[scal,ints,tpO]
 simp(maxSteps:=2000000)(disch:=omega)[scal,zBs,hmm]
 (repeat' apply And.intro)
 all_goals (try omega)
 refine zD (caps:=[]) (hN2) [] [] 2 rfl rfl rfl rfl (by kernel_rfl) (by simp) ?_ trivial trivial rfl trivial trivial (by simp) ?_
 ·simp[scal,ints,tpO]
 simp(maxSteps:=2000000)(disch:=omega)[scal];and_intros<;>try first|apply hK|omega|rfl|simp<;>omega
 refine zA ?_;refine rg1 @wsT.eq_1 ?_;refine zB ?_;refine awp_loop (fun y:Nat×Nat×List Bool×List (List Int)=>mkS [(0,.ptr 0 0 2),(1,.t 2 (.int .i64 L)),(4,.ptr 1 0 4),(5,.ptr 2 0 4),(6,.t 2 (.sl 1 (wsT ws))),(22,.t 2 (.sl 1 (wsT ws))),(23,.t 2 (.int .i64 ws.length)),(24,.t 2 (.int .i64 y.1))]
   [(0,tpO 1 xs y.2.1),(1,.box 34 [.any,.any,.any,.any]),(2,.box 34 [.t 2 (.int .i64 L),.t 2 (.int .i64 0),.own 3 y.1,.own 4 y.1]),(3,.row 4 1 2 (y.2.2.1.map .bool)),(4,.row 22 1 2 (y.2.2.2.map ints))] 5 76 [.ptr 0 0 2,.any])
  (fun y=>y.1<=ws.length/\y.2.1<=xs.length/\y.2.2.1.length=y.1/\y.2.2.2.length=y.1/\(∀r∈y.2.2.2,r.length=L/\ ∀v∈r,0<=v/\v<(ws.length:Int))/\ ∀(j:Nat) r,y.2.2.2[j]? =some r->SuR most ws (ws.getD j []) r) (fun y=>ws.length-y.1) ?_ ?_
 ·refine⟨(0,a1,[],[]),⟨by simp,ha1,rfl,rfl,fun r hr=>by simp at hr,fun j r hr=>by simp at hr⟩,?_⟩;refine zH [(0,some 0),(1,some 1),(2,some 3000001),(3,none),(4,none)] rfl ?_ ?_ ?_ ?_
  all_goals try simp[ints,tpO,scal,wsT]
 ·rintro⟨q,a3,bs,nxt⟩ ⟨hq,ha3,hbl,hnl,hrow,hsu⟩;simp only at hq ha3 hbl hnl hrow hsu;refine rg0 ?_;refine zA ?_;by_cases hqn:q<ws.length
  ·have hwq:=hW.lt ws[q] (by simp);have hwql:=hW.ln ws[q] (by simp);refine cK1 @hqn ?_;refine zA ?_;refine zB ?_;obtain⟨v4,a4,hv4,ha4,hN4⟩:=zBQ xs a3 2 ha3 hl (by omega);refine rg1 (an @wsT.eq_1 @hqn) ?_;refine zg (by kernel_rfl) (fun K hK=>?_);simp(maxSteps:=2000000)(disch:=omega)
   (repeat' apply And.intro)
   all_goals (try omega)
   refine zM (caps:=[]) (hN4) [0] [0] 1 rfl rfl rfl rfl (by kernel_rfl) (by simp) ?_ ?_ (by simp) rfl (by simp) ⟨.inr ⟨rfl,0,_,_,_,_,_,rfl,rfl,rfl,rfl,rfl⟩,trivial⟩ (by simp[tpO]) ?_
   ·simp[scal,ints,tpO]
   ·simp[scal,ints,tpO]
   simp(maxSteps:=2000000)(disch:=omega)[ints,scal,tpO]
   (repeat' first|apply hK|apply And.intro)<;>try first|(show zAY _ _=true;kernel_rfl)|(show okH _ _ _=true;kernel_rfl)|omega|rfl|(simp<;>omega)
   refine rg0 ?_;refine zA ?_;refine rg0 ?_;refine zB ?_;refine awp_loop (fun y:Nat×List Int=>mkS [(0,.ptr 0 0 2),(1,.t 2 (.int .i64 L)),(4,.ptr 1 0 4),(5,.ptr 2 0 4),(6,.t 2 (.sl 1 (wsT ws))),(8,.t 2 (.str (zAZ ws[q]))),(9,.own 5 y.1),(10,.t 2 (.int .i64 y.1)),(22,.t 2 (.sl 1 (wsT ws))),(23,.t 2 (.int .i64 ws.length)),(24,.t 2 (.int .i64 q))]
     [(0,tpO 1 xs a4),(1,.box 34 [.any,.any,.any,.any]),(2,.box 34 [.t 2 (.int .i64 L),.t 2 (.int .i64 0),.own 3 (q+1),.own 4 q]),(3,.row 4 1 2 ((bs++[(v4:Int)==1]).map .bool)),(4,.row 22 1 2 (nxt.map ints)),(5,.row 3 1 2 (y.2.map (.int .i64)))] 6 76 [.ptr 0 0 2,.any])
    (fun y=>y.1<=L/\y.2.length=y.1/\(∀v∈y.2,0<=v/\v<(ws.length:Int))/\SuR most ws ws[q] y.2) (fun y=>L-y.1) ?_ ?_
   ·refine⟨(0,[]),⟨by simp,rfl,fun v hv=>by simp at hv,fun x v hx=>by simp at hx⟩,?_⟩;refine zH [(0,some 0),(1,some 1),(2,some 2),(3,some 3),(4,some 4),(5,none)] rfl ?_ ?_ ?_ ?_
    all_goals try simp[ints,tpO,wsT,hbl]
   ·rintro⟨x,r⟩ ⟨hx,hrl,hrv,hrs⟩;simp only at hx hrl hrv hrs;refine zA ?_;refine rg0 ?_;by_cases hxl:x<L
    ·refine cK1 @hxl ?_;refine zA ?_;refine zB ?_;refine zF fun K hK=>?_
     simp(maxSteps:=2000000)(disch:=omega)[zBs,wr8,isU8,zEM (show x<=20 by omega),zAa]
     (repeat' first|apply hK|apply And.intro)<;>try first|omega|rfl|(simp<;>omega)
     refine rg0 ?_;refine zA ?_;refine zB ?_;refine awp_loop (fun y:List Nat×Int=>mkS [(0,.ptr 0 0 2),(1,.t 2 (.int .i64 L)),(4,.ptr 1 0 4),(5,.ptr 2 0 4),(6,.t 2 (.sl 1 (wsT ws))),(8,.t 2 (.str (zAZ ws[q]))),(9,.own 5 x),(10,.t 2 (.int .i64 x)),(11,.t 2 (.str (zAZ y.1))),(12,.t 2 (.int .i64 y.2)),(22,.t 2 (.sl 1 (wsT ws))),(23,.t 2 (.int .i64 ws.length)),(24,.t 2 (.int .i64 q))]
       [(0,tpO 1 xs a4),(1,.box 34 [.any,.any,.any,.any]),(2,.box 34 [.t 2 (.int .i64 L),.t 2 (.int .i64 0),.own 3 (q+1),.own 4 q]),(3,.row 4 1 2 ((bs++[(v4:Int)==1]).map .bool)),(4,.row 22 1 2 (nxt.map ints)),(5,.row 3 1 2 (r.map (.int .i64)))] 6 76 [.ptr 0 0 2,.any])
      (fun y=>(y.2= -1/\1<=y.1.length/\y.1.length<=most+1/\(∀z∈y.1,z<L)/\ ∃j,y.1=(ws[q]++[x]).drop j/\(j=0\/most<(ws[q]++[x]).length-(j-1)))\/(0<=y.2/\y.2<(ws.length:Int)/\ ∃t:Nat,y.2=(t:Int)/\zE9 ws (zKu most (ws[q]++[x])) t)) (fun y=>y.1.length) ?_ ?_
     ·refine⟨(ws[q]++[x],-1),.inl ⟨rfl,by simp,by simp;omega,fun z hz=>?_,0,rfl,.inl rfl⟩,?_⟩
      ·rcases List.mem_append.1 hz with hz|hz
       ·exact hwq z hz
       ·simp at hz;omega
      ·refine zH [(0,some 0),(1,some 1),(2,some 2),(3,some 3),(4,some 4),(5,some 5)] rfl ?_ ?_ ?_ ?_
       all_goals try simp[ints,tpO,wsT]
     ·rintro⟨v,to⟩ hto;simp only at hto;refine zA ?_;refine rg0 ?_;rcases hto with⟨rfl,hv1',hv2',hvx,jj,hjj,hjm⟩|⟨ht1,ht2,tt,ht3,ht4⟩
      ·refine cK0 ?_;refine zB ?_;refine zA ?_;refine rg1 @wsT.eq_1 ?_;refine zB ?_;refine awp_loop (fun y:Nat×Int=>mkS [(0,.ptr 0 0 2),(1,.t 2 (.int .i64 L)),(4,.ptr 1 0 4),(5,.ptr 2 0 4),(6,.t 2 (.sl 1 (wsT ws))),(8,.t 2 (.str (zAZ ws[q]))),(9,.own 5 x),(10,.t 2 (.int .i64 x)),(11,.t 2 (.str (zAZ v))),(12,.t 2 (.int .i64 y.2)),(22,.t 2 (.sl 1 (wsT ws))),(23,.t 2 (.int .i64 ws.length)),(24,.t 2 (.int .i64 q)),(50,.t 2 (.sl 1 (wsT ws))),(51,.t 2 (.int .i64 ws.length)),(52,.t 2 (.int .i64 y.1))]
         [(0,tpO 1 xs a4),(1,.box 34 [.any,.any,.any,.any]),(2,.box 34 [.t 2 (.int .i64 L),.t 2 (.int .i64 0),.own 3 (q+1),.own 4 q]),(3,.row 4 1 2 ((bs++[(v4:Int)==1]).map .bool)),(4,.row 22 1 2 (nxt.map ints)),(5,.row 3 1 2 (r.map (.int .i64)))] 6 76 [.ptr 0 0 2,.any])
        (fun y=>y.1<=ws.length/\((y.2= -1/\ ∀i (hi:i<ws.length),i<y.1->ws[i]≠v)\/(0<=y.2/\y.2<(ws.length:Int)/\ ∃t:Nat,y.2=(t:Int)/\ws[t]? =some v/\ ∀i,t<i->i<y.1->ws[i]? ≠some v))) (fun y=>ws.length-y.1) ?_ ?_
       ·refine⟨(0,-1),⟨by simp,.inl ⟨rfl,fun i _ h=>by simp at h⟩⟩,?_⟩;refine zH [(0,some 0),(1,some 1),(2,some 2),(3,some 3),(4,some 4),(5,some 5)] rfl ?_ ?_ ?_ ?_
        all_goals try simp[ints,tpO,wsT]
       ·rintro⟨k,to⟩ ⟨hk,hto⟩;simp only at hk hto;refine rg0 ?_;refine zA ?_;by_cases hkl:k<ws.length
        ·refine cK1 @hkl ?_;refine zA ?_;refine zB ?_;refine rg1 (an @wsT.eq_1 @hkl) ?_;by_cases he:(zAZ ws[k]).toList=(zAZ v).toList
         ·refine rg1 @he ?_;refine cT0 ?_;refine rr0 ?_;refine rr0 ?_;refine⟨(k+1,(k:Int)),⟨by omega,.inr ⟨by omega,by omega,k,rfl,by rw[Qj hkl,zMp (fun z hz=>by have:=hW.lt ws[k] (by simp) z hz;omega) (fun z hz=>by have:=hvx z hz;omega) he],fun i h1 h2=>by simp at h2;omega⟩⟩,by simp;omega,?_⟩;refine zH [(0,some 0),(1,some 1),(2,some 2),(3,some 3),(4,some 4),(5,some 5)] rfl ?_ ?_ ?_ ?_
          all_goals try simp[ints,tpO,wsT]
         ·refine rg1 @he ?_;refine cY1 @he ?_;refine rr0 ?_;refine⟨(k+1,to),⟨by omega,?_⟩,by simp;omega,?_⟩
          ·rcases hto with⟨h1,h2⟩|h1
           ·refine .inl ⟨h1,fun i hi hik=>?_⟩;by_cases e:i=k
            ·subst e;intro h;exact he (by rw[h])
            ·exact h2 i hi (by simp at hik;omega)
           ·obtain⟨g1,g2,g3,g4,g5,g6⟩:=h1;refine .inr ⟨g1,g2,g3,g4,g5,fun i c1 c2=>?_⟩;by_cases e:i=k
            ·subst e;rw[Qj hkl];intro e2;injection e2 with e2;exact he (by rw[e2])
            ·exact g6 i c1 (by simp at c2;omega)
          ·refine zH [(0,some 0),(1,some 1),(2,some 2),(3,some 3),(4,some 4),(5,some 5)] rfl ?_ ?_ ?_ ?_
           all_goals try simp[ints,tpO,wsT]
        ·refine cF1 @hkl ?_;refine zE ?_;refine rr1 @zOe ?_;refine⟨(v.drop 1,to),?_,by simp;omega,?_⟩
         ·rcases hto with⟨h1,h2⟩|h1
          ·have hvm:most<v.length:=by
            refine Nat.lt_of_not_le fun hvl=>?_
            obtain⟨i,hi,e⟩:=Qb (hW.all v hvx hvl);exact h2 i hi (by omega) e
           have hvl2:=congrArg List.length hjj;rw[List.length_drop]at hvl2;refine .inl ⟨h1,by simp;omega,by simp;omega,fun z hz=>hvx z (List.mem_of_mem_drop hz),jj+1,?_,.inr (by simp only[Nat.add_sub_cancel];omega)⟩;show v.drop 1=_;rw[hjj,List.drop_drop]
          ·obtain⟨g1,g2,g3,g4,g5,g6⟩:=h1;refine .inr ⟨g1,g2,g3,g4,?_⟩;rw[←zSl hjj hjm (hW.ln v (Qc g5))];refine⟨g5,fun i hi=>?_⟩;by_cases hil:i<ws.length
           ·exact g6 i hi (by omega)
           ·rw[Qh (by omega)];simp
         ·refine zH [(0,some 0),(1,some 1),(2,some 2),(3,some 3),(4,some 4),(5,some 5)] rfl ?_ ?_ ?_ ?_
          all_goals try simp[ints,tpO,wsT]
      ·refine cF0 ?_;refine zE ?_;refine rr0 ?_;refine rr0 ?_;refine⟨(x+1,r++[to]),⟨by omega,by simp[hrl],fun u hu=>?_,fun y v hy=>?_⟩,by simp;omega,?_⟩
       ·rcases List.mem_append.1 hu with hu|hu
        ·exact hrv u hu
        ·simp at hu;omega
       ·by_cases c:y<r.length
        ·rw[Qw c]at hy;exact hrs y v hy
        ·have:=(Qq.1 hy).1;simp at this;obtain rfl:y=r.length:=by omega
         simp at hy;subst hy;rw[hrl];exact⟨tt,ht3,ht4⟩
       ·refine zH [(0,some 0),(1,some 1),(2,some 2),(3,some 3),(4,some 4),(5,some 5)] rfl ?_ ?_ ?_ ?_
        all_goals try simp[ints,tpO,wsT,hrl]
    ·have hxe:x=L:=by omega
     refine cF1 @hxl ?_;refine zE ?_;refine rr0 ?_;refine rr0 ?_;refine⟨(q+1,a4,bs++[(v4:Int)==1],nxt++[r]),⟨by simp;omega,ha4,by simp[hbl],by simp[hnl],fun u hu=>?_,fun j u hj=>?_⟩,by simp;omega,?_⟩
     ·rcases List.mem_append.1 hu with hu|hu
      ·exact hrow u hu
      ·simp at hu;subst hu;exact⟨by omega,hrv⟩
     ·by_cases c:j<nxt.length
      ·rw[Qw c]at hj;exact hsu j u hj
      ·have:=(Qq.1 hj).1;simp at this;obtain rfl:j=nxt.length:=by omega
       simp at hj;subst hj;rw[hnl,Qv,Qj hqn];exact hrs
     ·refine zH [(0,some 0),(1,some 1),(2,some 2),(3,some 3),(4,some 4)] rfl ?_ ?_ ?_ ?_
      all_goals try simp[ints,tpO,wsT,hnl]
  ·have hqe:q=ws.length:=by omega
   refine cF1 @hqn ?_;refine zE ?_;refine rg0 ?_;refine zC ?_;subst hqe;refine⟨⟨_,_,⟨ws.length,0,a3,bs,nxt,hwl,ha3,⟨hwp,by omega,hbl,hnl,hrow⟩,zQ7 hW hm hnl (fun r hr=>(hrow r hr).1) hsu,rfl,rfl⟩,zA7 ?_⟩,by simp⟩;refine⟨.inr rfl,_,[(0,some 0)],(by first|(simp;rfl)|rfl),?_,?_,?_,?_⟩
   all_goals try simp +contextual (disch:=omega)[zL,zJ,ze,ints,tpO,rows,zG,dfT,hbl,hnl]
def zUa(L n:Nat)(nxt:List (List Int)):Prop:=n<=4\/ ∀p q a b,p<n->q<n->a<L->b<L->zo nxt p [a,b]=zo nxt q [a,b]
def AnG(L:Nat)(xs:List Int)(res:AV)(H':List AObj):Prop:=∃n s b bs nxt,n<=9/\b<=xs.length/\DfL L n s bs nxt/\zUa L n nxt/\res=dfT 2 L s bs nxt/\H'=[tpO 1 xs b]
theorem zNF{L m:Nat}{nx:List (List Int)}(hL:0<L)(hc:Can L m nx): ∀t,t<m-> ∃u:List Nat,(∀a∈u,a<L)/\zo nx 0 u=t:=by
 intro t
 induction t using Nat.strongRecOn with
 |_ t ih=>
  intro ht;by_cases h0:t=0
  ·subst h0;exact⟨[],by simp,rfl⟩
  ·obtain⟨k,k1,k2,-⟩:=hc t (by omega) ht;obtain⟨u,u1,u2⟩:=ih (k/L) k1 (by omega);refine⟨u++[k%L],fun a ha=>?_,?_⟩
   ·rcases List.mem_append.1 ha with ha|ha
    ·exact u1 a ha
    ·simp only[List.mem_singleton]at ha;subst ha;exact Nat.mod_lt _ hL
   ·simp only[zo,List.foldl_append,List.foldl_cons,List.foldl_nil]at u2 ⊢;rw[u2,k2]
theorem zCk{bs:List Bool}{nx:List (List Int)}(s:Nat)(u v:List Nat):zCF bs nx s (u++v)=zCF bs nx (zo nx s u) v:=by
 simp[zCF,zo]
theorem MiX.con{L n s m:Nat}{bs bs':List Bool}{nxt nx':List (List Int)}(hL:1<=L)(hD:DfL L n s bs nxt)(hX:MiX L n s bs nxt m bs' nx')(hc: ∀p q a b,p<n->q<n->a<L->b<L->zo nxt p [a,b]=zo nxt q [a,b]):zUY L m nx':=by
 intro q a b hq ha hb;have hM:=hX.mn;have hm0:0<m:=hM.df.n1;have hab: ∀x∈[a,b],x<L:=fun x hx=>by simp at hx;rcases hx with rfl|rfl<;>assumption
 obtain⟨u,u1,u2⟩:=zNF hL hM.can q hq;refine hM.dis _ _ (hM.df.rt.walk hab hq) (hM.df.rt.walk hab hm0) fun w hw=>?_
 have h1: ∀x∈u++([a,b]++w),x<L:=fun x hx=>by
  rcases List.mem_append.1 hx with hx|hx
  ·exact u1 x hx
  ·rcases List.mem_append.1 hx with hx|hx
   ·exact hab x hx
   ·exact hw x hx
 have h2: ∀x∈[a,b]++w,x<L:=fun x hx=>h1 x (List.mem_append_right _ hx)
 have e1:zCF bs' nx' (zo nx' q [a,b]) w=zCF bs' nx' 0 (u++([a,b]++w)):=by rw[zCk,u2,zCk]
 have e2:zCF bs' nx' (zo nx' 0 [a,b]) w=zCF bs' nx' 0 ([a,b]++w):=by rw[zCk]
 rw[e1,e2,hX.zOu _ h1,hX.zOu _ h2,zCk,zCk,zCk,hc _ s a b (hD.rt.walk u1 hD.st) hD.st ha hb]
theorem zUa.noF{L n s m:Nat}{bs bs':List Bool}{nxt nx':List (List Int)}(hL:L=1\/L=2)(hD:DfL L n s bs nxt)(hX:MiX L n s bs nxt m bs' nx')(hn:n<=9)(hc:zUa L n nxt): ¬SyF L m nx':=by
 have hmn:=hX.le;rcases hc with hc|hc
 ·exact zQc (hX.mn.df.gn (by omega) (by omega) (by omega)).tr (by omega)
 ·exact zTO hX.mn.df (hX.con (by omega) hD hc) (by omega)
theorem zSG(xs:List Int)(a L most:Nat)(ha:a<=xs.length)(hl:xs.length<=80)(hL:L=1\/L=2)(hm:1<=most)(hm4:most<=4): ∃res H',AnG L xs res H'∧
  FnS Tryz.prog 7 [.ptr 0 0 2,.t 2 (.int .i64 L),.t 2 (.int .i64 most)] [tpO 1 xs a] res H':=by
 obtain⟨v,a1,hv,ha1,hN⟩:=zBQ xs a 6 ha hl (by omega);have hv:=hv (by omega);refine zAw Tryz.func7 rfl (by simp[Tryz.f7]) ?_;rw[show Tryz.f7.ntmps=31 from rfl,show Tryz.f7.results= #[.cell 6 34]from rfl];refine rg0 ?_;refine zA ?_;refine zF fun K hK=>?_
 simp(maxSteps:=2000000)(disch:=omega)
 (repeat' apply And.intro)
 all_goals (try omega)
 refine zD (caps:=[]) (hN) [0] [0] 1 rfl rfl rfl rfl (by kernel_rfl) (by simp) ?_ ?_ (by simp) rfl (by simp) ⟨.inr ⟨rfl,0,_,_,_,_,_,rfl,rfl,rfl,rfl,rfl⟩,trivial⟩ (by simp[tpO]) ?_
 ·simp[scal,ints,tpO]
 ·simp[scal,ints,tpO]
 simp(maxSteps:=2000000)(disch:=omega)[scal];and_intros<;>try first|apply hK|omega|rfl|simp<;>omega
 refine zB ?_;by_cases h1:(v:Int)=1
 ·obtain⟨res,H',⟨n,s,b,bs,nxt,hn,hb,hD,rfl,rfl⟩,hO⟩:=zLL xs a1 L most ha1 hl (by omega) (by omega) hm (by omega);refine rg1 @h1 ?_;refine cT0 ?_;refine zF fun K hK=>?_
  simp(maxSteps:=2000000)(disch:=omega)
  (repeat' apply And.intro)
  all_goals (try omega)
  refine zD (caps:=[]) (hO) [0] [0] 1 rfl rfl rfl rfl (by kernel_rfl) (by simp) ?_ ?_ (by simp) rfl (by simp) ⟨.inr ⟨rfl,0,_,_,_,_,_,rfl,rfl,rfl,rfl,rfl⟩,trivial⟩ (by simp[tpO]) ?_
  ·simp[scal,ints,tpO]
  ·simp[scal,ints,tpO]
  simp(maxSteps:=2000000)(disch:=omega)[ints,rows,scal,dfT,zG,tpO];and_intros<;>try first|apply hK|omega|rfl|simp<;>omega
  refine zC ?_;refine⟨⟨_,_,⟨n,s,b,bs,nxt,by omega,hb,hD,.inl (by omega),rfl,rfl⟩,zA7 ?_⟩,by simp⟩;refine⟨.inr rfl,_,[(0,some 0)],(by first|(simp;rfl)|rfl),?_,?_,?_,?_⟩
  all_goals try simp +contextual (disch:=omega)[zJ,ints,tpO,rows,zG,dfT]
 by_cases h2:(v:Int)=2
 ·obtain⟨m4,hm4⟩: ∃m4:Nat,(m4:Int)=if(4:Int)<most then 4 else(most:Int):=⟨if 4<most then 4 else most,by split<;>split<;>omega⟩
  have hm5:1<=m4/\m4<=100/\m4<=4:=by split at hm4<;>omega
  obtain⟨res,H',⟨n,s,b,bs,nxt,hn,hb,hD,rfl,rfl⟩,hO⟩:=zEf xs a1 L m4 ha1 hl (by omega) (by omega) hm5.1 hm5.2.1;refine rg1 @h1 ?_;refine cF0 ?_;refine rg1 @h2 ?_;refine cT0 ?_;refine zF fun K hK=>?_
  simp(maxSteps:=2000000)(disch:=omega)[←hm4]
  (repeat' apply And.intro)
  all_goals (try omega)
  refine zD (caps:=[]) (hO) [0] [0] 1 rfl rfl rfl rfl (by kernel_rfl) (by simp) ?_ ?_ (by simp) rfl (by simp) ⟨.inr ⟨rfl,0,_,_,_,_,_,rfl,rfl,rfl,rfl,rfl⟩,trivial⟩ (by simp[tpO]) ?_
  ·simp[scal,ints,tpO]
  ·simp[scal,ints,tpO]
  simp(maxSteps:=2000000)(disch:=omega)[ints,rows,scal,dfT,zG,tpO];and_intros<;>try first|apply hK|omega|rfl|simp<;>omega
  refine zC ?_;refine⟨⟨_,_,⟨n,s,b,bs,nxt,by omega,hb,hD,.inl (by omega),rfl,rfl⟩,zA7 ?_⟩,by simp⟩;refine⟨.inr rfl,_,[(0,some 0)],(by first|(simp;rfl)|rfl),?_,?_,?_,?_⟩
  all_goals try simp +contextual (disch:=omega)[zJ,ints,tpO,rows,zG,dfT]
 by_cases h3:(v:Int)=3
 ·obtain⟨res,H',⟨n,s,b,bs,nxt,hn,hb,hD,hcon,rfl,rfl⟩,hO⟩:=zIJ xs a1 L ha1 hl hL;refine rg1 @h1 ?_;refine cF0 ?_;refine rg1 @h2 ?_;refine cF0 ?_;refine rg1 @h3 ?_;refine cT0 ?_;refine zF fun K hK=>?_
  simp(maxSteps:=2000000)(disch:=omega)
  (repeat' apply And.intro)
  all_goals (try omega)
  refine zD (caps:=[]) (hO) [0] [0] 1 rfl rfl rfl rfl (by kernel_rfl) (by simp) ?_ ?_ (by simp) rfl (by simp) ⟨.inr ⟨rfl,0,_,_,_,_,_,rfl,rfl,rfl,rfl,rfl⟩,trivial⟩ (by simp[tpO]) ?_
  ·simp[scal,ints,tpO]
  ·simp[scal,ints,tpO]
  simp(maxSteps:=2000000)(disch:=omega)[ints,rows,scal,dfT,zG,tpO];and_intros<;>try first|apply hK|omega|rfl|simp<;>omega
  refine zC ?_;refine⟨⟨_,_,⟨n,s,b,bs,nxt,by omega,hb,hD,.inr hcon,rfl,rfl⟩,zA7 ?_⟩,by simp⟩;refine⟨.inr rfl,_,[(0,some 0)],(by first|(simp;rfl)|rfl),?_,?_,?_,?_⟩
  all_goals try simp +contextual (disch:=omega)[zJ,ints,tpO,rows,zG,dfT]
 ·obtain⟨res,H',⟨n,s,b,bs,nx,hnm,hb,hD,rfl,rfl⟩,hspec⟩:=zQu xs a1 L most ha1 hl (by omega) (by omega) hm (by omega);have hbl:=hD.bl;refine rg1 @h1 ?_;refine cF0 ?_;refine rg1 @h2 ?_;refine cF0 ?_;refine rg1 @h3 ?_;refine cY0 ?_;refine zF fun K hK=>?_
  simp(maxSteps:=2000000)(disch:=omega)
  (repeat' apply And.intro)
  all_goals (try omega)
  refine zFX (caps:=[]) hspec [0] [0,12000001,12000002] 12000003 1 rfl rfl rfl rfl (by kernel_rfl) (by simp) ?_ ?_ (by simp) rfl (by simp) ⟨.inr ⟨rfl,0,_,_,_,_,_,rfl,rfl,rfl,rfl,rfl⟩,.inl (by omega),.inl (by omega),trivial⟩ (by omega) (by intro k hk;simp at hk;omega) (by simp[tpO,dfH]) (fun j hj=>rfl) ?_
  ·simp[scal,tpO]
  ·simp[tpO,scal,ints]
  have q1:(poF [0,12000001,12000002] 12000003 n)[1]?.getD 0=12000001:=by simp[poF]
  have q2:(poF [0,12000001,12000002] 12000003 n)[2]?.getD 0=12000002:=by simp[poF]
  simp(maxSteps:=2000000)(disch:=omega)[zP4,zEU,zDF,awpOp,gd,aop,ASt.eval,zAt,ASt.app,Eff.heap,dels,zCK,aStore,avCells,putL,outV,outVs,outO,addL,delL,ints,scal,callF,q1,q2,zG2 (show 3=[0,12000001,12000002].length from rfl),dfH,tpO,zBk];and_intros<;>try first|apply hK|omega|rfl|simp<;>omega
  refine zC ?_;refine⟨⟨_,_,⟨n,s,b,bs,tab n nx,by omega,hb,hD.list,.inl (by omega),rfl,rfl⟩,zA7 ?_⟩,by simp⟩;refine⟨.inr rfl,_,[(0,some 0)],(by first|(simp;rfl)|rfl),?_,?_,?_,?_⟩
  all_goals try simp +contextual (disch:=omega)[zL,zJ,ze,Ql,ints,tpO,zCT,wk1,rows,zG,dfT,zT,hbl]
  exact fun j hj=>(hD.row j hj).1
section
variable{L m:Nat}{bs:List Bool}{nx:List (List Int)}
theorem zJv(q:Nat)(u v:List Nat):zo nx q (u++v)=zo nx (zo nx q u) v:=by simp[zo]
end
structure zJP where
 nm:ByteArray
 mon:Bool
 form:Int
 kind:Int
 fst:ByteArray
 snd:ByteArray
def zJP.cells(e:zJP):List T:=[.str e.nm,.bool e.mon,.int .i64 e.form,.int .i64 e.kind,.str e.fst,.str e.snd]
def zDT:List zJP:=[⟨⟨#[116,114,105,118,105,97,108]⟩,true,1,0,⟨#[120,32,61,32,49]⟩,⟨#[]⟩⟩,
 ⟨⟨#[99,111,109,109,117,116,97,116,105,118,101]⟩,true,4,0,⟨#[120,121,32,61,32,121,120]⟩,⟨#[]⟩⟩,
 ⟨⟨#[99,111,109,109,117,116,97,116,105,118,101,45,97,112,101,114,105,111,100,105,99]⟩,true,4,0,⟨#[120,121,32,61,32,121,120]⟩,⟨#[120,94,40,119,43,49,41,32,61,32,120,94,119]⟩⟩,
 ⟨⟨#[97,98,101,108,105,97,110]⟩,true,4,0,⟨#[120,121,32,61,32,121,120]⟩,⟨#[120,94,119,32,61,32,49]⟩⟩,
 ⟨⟨#[115,101,109,105,108,97,116,116,105,99,101]⟩,true,2,6,⟨#[120,121,32,61,32,121,120]⟩,⟨#[120,120,32,61,32,120]⟩⟩,
 ⟨⟨#[97,112,101,114,105,111,100,105,99]⟩,true,1,0,⟨#[120,94,40,119,43,49,41,32,61,32,120,94,119]⟩,⟨#[]⟩⟩,
 ⟨⟨#[103,114,111,117,112]⟩,true,5,0,⟨#[120,94,119,32,61,32,49]⟩,⟨#[]⟩⟩,
 ⟨⟨#[106,45,116,114,105,118,105,97,108]⟩,true,2,6,⟨#[40,120,121,41,94,119,120,32,61,32,40,120,121,41,94,119]⟩,⟨#[121,40,120,121,41,94,119,32,61,32,40,120,121,41,94,119]⟩⟩,
 ⟨⟨#[114,45,116,114,105,118,105,97,108]⟩,true,3,1,⟨#[40,120,121,41,94,119,120,32,61,32,40,120,121,41,94,119]⟩,⟨#[]⟩⟩,
 ⟨⟨#[108,45,116,114,105,118,105,97,108]⟩,true,3,2,⟨#[121,40,120,121,41,94,119,32,61,32,40,120,121,41,94,119]⟩,⟨#[]⟩⟩,
 ⟨⟨#[100,97]⟩,true,3,3,⟨#[40,120,121,41,94,119,120,40,120,121,41,94,119,32,61,32,40,120,121,41,94,119]⟩,⟨#[]⟩⟩,
 ⟨⟨#[102,105,110,105,116,101,45,111,114,45,99,111,102,105,110,105,116,101]⟩,false,2,1,⟨#[120,94,119,121,32,61,32,120,94,119]⟩,⟨#[121,120,94,119,32,61,32,120,94,119]⟩⟩,
 ⟨⟨#[100,101,102,105,110,105,116,101]⟩,false,2,3,⟨#[121,120,94,119,32,61,32,120,94,119]⟩,⟨#[]⟩⟩,
 ⟨⟨#[114,101,118,101,114,115,101,45,100,101,102,105,110,105,116,101]⟩,false,2,2,⟨#[120,94,119,121,32,61,32,120,94,119]⟩,⟨#[]⟩⟩,
 ⟨⟨#[103,101,110,101,114,97,108,105,115,101,100,45,100,101,102,105,110,105,116,101]⟩,false,2,4,⟨#[120,94,119,121,120,94,119,32,61,32,120,94,119]⟩,⟨#[]⟩⟩,
 ⟨⟨#[108,111,99,97,108,108,121,45,116,101,115,116,97,98,108,101]⟩,false,2,5,⟨#[120,94,119,121,120,94,119,121,120,94,119,32,61,32,120,94,119,121,120,94,119]⟩,⟨#[120,94,119,121,120,94,119,122,120,94,119,32,61,32,120,94,119,122,120,94,119,121,120,94,119]⟩⟩,
 ⟨⟨#[100,111,116,45,100,101,112,116,104,45,111,110,101]⟩,false,2,7,⟨#[40,120,94,119,122,121,94,119,117,120,94,119,41,94,119,120,94,119,122,121,94,119,116,120,94,119,40,120,94,119,118,121,94,119,116,120,94,119,41,94,119,32,61,32,40,120,94,119,122,121,94,119,117,120,94,119,41,94,119,40,120,94,119,118,121,94,119,116,120,94,119,41,94,119]⟩,⟨#[]⟩⟩]
def zTa:List T:=zDT.flatMap zJP.cells
theorem zD0:FnA Tryz.prog 29 [] (.t 2 (.sl 6 zTa)):=by
 refine fI 19 #[.tmp 0] Tryz.func29 rfl ?_;refine rg0 ?_;refine rg0 ?_;refine zC ?_;refine⟨⟨.inr rfl,_,[],rfl,trivial,trivial,by simp,?_⟩,by simp⟩;simp;rfl
theorem zKD: ∀(l:List zJP) (k:Nat) (h:k<l.length),((l.flatMap zJP.cells).drop (k*6)).take 6=zJP.cells l[k]
 |[],k,h=>by simp at h
 |e::l,0,h=>rfl
 |e::l,k+1,h=>by
  have h':k<l.length:=by simpa using h
  have ih:=zKD l k h';rw[List.flatMap_cons,show(k+1)*6=(zJP.cells e).length+k*6 by simp[zJP.cells];omega,List.drop_length_add_append];exact ih
theorem zIt{k:Nat}(h:k<17):(zTa.drop (k*6)).take 6=zJP.cells (zDT[k]'h):=zKD zDT k h
theorem zDE:zTa.length=102:=rfl
theorem zPt(nm:ByteArray){k:Nat}(hk:k<17)(h1:(zDT[k]'hk).nm=nm)(h2: ∀j (h:j<17),j<k-> ¬(zDT[j]'h).nm.toList=nm.toList):FnA Tryz.prog 10 [.t 2 (.str nm)] (.t 2 (.int .i64 k)):=by
 refine fI 18 #[.tmp 2] Tryz.func10 rfl ?_;refine rg0 ?_;refine zA ?_;refine rc1 zD0 @zDE ?_;refine zB ?_;refine awp_loop (fun i:Nat=>mkS [(0,.t 2 (.str nm)),(5,.t 2 (.sl 6 zTa)),(6,.t 2 (.int .i64 17)),(7,.t 2 (.int .i64 i))] [] 0 18 [.any]) (fun i=>i<=k) (fun i=>17-i) ?_ ?_
 ·refine⟨0,by omega,?_⟩;exact kw0 []
 intro i hi;have hi17:i<17:=by omega
 have hat:=zIt hi17;have hin:i*6+6<=102:=by omega
 refine rg0 ?_;refine zA ?_;refine cK1 @hi17 ?_;refine zA ?_;refine zB ?_;refine rg1 (an @hat (an @hin (an @zDE @zJP.cells.eq_1))) ?_;by_cases e:i=k
 ·subst e;refine rg1 @h1 ?_;refine cT0 ?_;refine rg0 ?_;exact zC rt0
 ·have hne:=h2 i hi17 (by omega);refine rg1 @hne ?_;refine cY1 @hne ?_;refine rr0 ?_;refine⟨i+1,by omega,by omega,?_⟩;exact kw0 []
