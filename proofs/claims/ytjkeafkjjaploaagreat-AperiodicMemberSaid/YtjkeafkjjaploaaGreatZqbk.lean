/- Lemmas for the law AperiodicMember. No conditions. -/
import Derived.Test.YtjkeafkjjaploaaGreatZqbg
import Derived.Test.YtjkeafkjjaploaaGreatZqbj
set_option linter.all false
namespace Go.Proofs.YtjkeafkjjaploaaGreat.M
open Go.RowKit
set_option maxRecDepth 100000
set_option maxHeartbeats 32000000

def viA:Tm:=.mk 4 1 [viX]
def viB:Tm:=.mk 4 0 [viX]
theorem zUT(T:Nat->Nat->Nat)(set:List Int):zEG T set viA viB=[set]:=by
 have e:zN1 T set viA viB 0=set:=by
  unfold zN1;rw[List.filter_eq_self];intro x _;have:viA.els 0 (0,0)=true:=by kernel_rfl
  rw[this];simp
 have g:max viA.gr viB.gr=1:=by kernel_rfl
 unfold zEG;rw[g];show [zN1 T set viA viB 0]=_;rw[e]
theorem zN0{n:Nat}{X:List Nat}:NOk [idL n] X↔ ∃i,i<n/\X=[i]:=by
 have hl:(idL n).length=n:=by simp[idL]
 constructor
 ·intro h;obtain⟨i,Y,rfl⟩:=h.ex;obtain⟨h1,h2⟩:=h.cons;obtain rfl:=h2.nil;exact⟨i,by omega,rfl⟩
 ·rintro⟨i,hi,rfl⟩;refine⟨rfl,fun k hk=>?_⟩;have hk:k<1:=hk;obtain rfl:k=0:=by omega
  simpa[hl]using hi
theorem zUl{tb:List (List Int)}{n:Nat}(hn:tb.length=n)(h100:n<=100)(h1:1<=n)(v1:zC1 tb=0)(hA:zAz n (zQ tb)):
  (zF2 tb (idL n) viA viB (100:Nat)).2.1<=100/\(((zF2 tb (idL n) viA viB (100:Nat)).2.2=9/\ ∀x,x<n->ApX (zQ tb) x)\/((zF2 tb (idL n) viA viB (100:Nat)).2.2=0/\ ¬ ∀x,x<n->ApX (zQ tb) x)):=by
 have hl:(idL n).length=n:=by simp[idL]
 have ht:TbL tb n (zQ tb):=hn▸TbL.of v1;have hR:=(zUT (zQ tb) (idL n)).symm;have hv:viA.val=true/\viB.val=true:=⟨by kernel_rfl,by kernel_rfl⟩;have h6:(viA.zCS||viB.zCS)=false:=by kernel_rfl
 have hp:prR [idL n]<=100:=by
  show(idL n).length*1<=100;omega
 have he:zL7 [idL n]=false:=by
  unfold zL7;rw[List.any_eq_false];intro l hx;simp only[List.mem_cons,List.not_mem_nil,or_false]at hx;subst hx;simp[hl];omega
 have hF:=zQW hn v1 hv (fun h=>by rw[h6]at h;cases h.2) (B:=100) (by omega) (by omega) hR hp he;have hev: ∀x,x<n->asV (zQ tb) n [idL n] viA [x]=zQ tb (omT (zQ tb) n x) x/\asV (zQ tb) n [idL n] viB [x]=omT (zQ tb) n x:=fun x hx=>by
  have e0:(zFx [idL n] [x] 0).toNat=x:=by
   show((idL n).getD x 0).toNat=x;simp[idL,tab,Qv,hx]
  have g1:asV (zQ tb) n [idL n] viA [x]=zQ tb (omT (zQ tb) n (zFx [idL n] [x] 0).toNat) (zFx [idL n] [x] 0).toNat:=rfl;have g2:asV (zQ tb) n [idL n] viB [x]=omT (zQ tb) n (zFx [idL n] [x] 0).toNat:=rfl;rw[e0]at g1 g2;exact⟨g1,g2⟩
 obtain⟨k1,k2⟩:=hF;refine⟨k1,?_⟩;rcases k2 with⟨k2,k3⟩|⟨k2,X,k3,k4⟩
 ·refine .inl ⟨k2,fun x hx=>(zPR ht.lt hA hx).2 ?_⟩;have:=k3 [x] (zN0.2 ⟨x,hx,rfl⟩)
  rwa [(hev x hx).1,(hev x hx).2]at this
 ·obtain⟨x,hx,rfl⟩:=zN0.1 k3;refine .inr ⟨k2,fun h=>k4 ?_⟩;rw[(hev x hx).1,(hev x hx).2];exact(zPR ht.lt hA hx).1 (h x hx)
theorem zWK:zMG (zDZ[5]'(by decide)).fst=(viA,viB,-1,0):=by kernel_rfl
theorem zWo:(zDZ[5]'(by decide)).fst.size<=1000:=by decide
theorem zKr:FnA Tryz.prog 22 [.t 2 (.str ⟨#[97,112,101,114,105,111,100,105,99]⟩)] (.t 2 (.int .i64 5)):=zPk _ (k:=5) (by omega) rfl (fun j h hj=>by
 have e: ∀j:Fin 17,j.1<5-> ¬(zDZ[j.1]'j.2).nm.toList=(⟨#[97,112,101,114,105,111,100,105,99]⟩:ByteArray).toList:=by decide +kernel
 exact e ⟨j,h⟩ hj)
theorem zTY.drV{most:Nat}{xs:List Int}{res:AV}{H':List AObj}(h:zTY most xs res H'): ∃L N tb ws im ac pl b,(zXH most L N tb ws im ac pl/\zC1 tb=0)/\b<=xs.length/\res=syV 2 L tb ws im ac pl/\H'=[tpO 1 xs b]:=by
 obtain⟨L,m,bs,nx,els,pre,last,wds,right,r0,b,hL,hM,hS,hn,hb,rfl,rfl⟩:=h;have hg: ∀g∈tab L (lets m nx),TrN m g:=(hM.df.gn (by omega) (by omega) hS.m32).tr;have hv:=zEH hS hM (by omega) (by omega);rw[zF5]at hv;refine⟨L,els.length,_,wds,r0,_,_,b,⟨⟨hL,hS.zWv hM hL,hv,?_,?_,fun ha=>?_⟩,hS.pr.vE hg hS.el⟩,hb,zF5 2 L bs els wds right r0,rfl⟩
 ·intro w hw x hx;have:=hS.pr.wl w hw x hx;rw[zq]at this;omega
 ·rcases hn with h|⟨rfl,h⟩
  ·exact .inl h
  ·exact .inr (hS.zXB hM.df hg h)
 ·rcases hn with h|⟨rfl,h⟩
  ·exact .inl h
  ·exact .inr (hS.zWF hM.df hg h ha)
theorem zG3(l:List Int):FnA Tryz.prog 6 [.t 1 (ints l)] (.t 2 (.bool true)):=by
 have hnew:=zUG l;obtain⟨xs,hxs⟩: ∃xs,xs=l.take 80:=⟨_,rfl⟩;have hxl:xs.length<=80:=by rw[hxs];simp;omega
 rw[←hxs]at hnew;obtain⟨_,_,hG,hmon⟩:=zNw xs hxl 12 (by omega);obtain⟨L,N,tb,ws,im,ac,pl,b,⟨hDr,hvE⟩,hb,rfl,rfl⟩:=hG.drV;clear hG;have hMD:=hDr.hMD;have hv:=hDr.hv;have hL:=hDr.hL;have hn15:=hDr.n15;have htl:=hMD.ht.len;have hpl:=hMD.hS.pll;have hn1:=hMD.hS.n1;have hkn:=zLc;obtain⟨s1,k1⟩:=zUl htl (by omega) hn1 hvE hMD.hA;obtain⟨_,⟨i1,t1,v1,rfl⟩,hm1⟩:=zLe (c:=5) viA viB hpl (by omega) hv (by omega) rfl zWo zWK rfl (B:=100) (by omega) (by omega) (by
  rcases k1 with⟨k,-⟩|⟨k,-⟩
  ·exact .inr k
  ·exact .inl k) (by omega)
 refine fI 41 #[.tmp 2] Tryz.func6 rfl ?_;refine rg0 ?_;refine zO fun K hK=>?_
 simp(maxSteps:=2000000)(disch:=omega)
 (repeat' apply And.intro)
 all_goals (try omega)
 refine zJ (caps:=[]) (hnew) [] [2000000] 1 rfl rfl rfl rfl (by kernel_rfl) (by simp) ?_ ?_ (by simp) rfl (by simp) ⟨.inl ⟨by omega,by omega⟩,trivial⟩ (by simp[tpO]) ?_
 ·simp[scal,ints]
 ·trivial
 simp(maxSteps:=2000000)(disch:=omega)[ints,scal,tpO]
 (repeat' apply And.intro)
 all_goals (try omega)
 refine zJ (caps:=[]) (hmon) [2000000] [2000000] 1 rfl rfl rfl rfl (by kernel_rfl) (by simp) ?_ ?_ (by simp) rfl (by simp) ⟨.inr ⟨rfl,0,_,_,_,_,_,rfl,rfl,rfl,rfl,rfl⟩,trivial⟩ (by simp[tpO]) ?_
 ·simp[scal]
 ·simp[scal,ints,tpO]
 simp(maxSteps:=2000000)(disch:=omega)[ints,rows,scal,syV,zH,tpO];and_intros<;>try first|apply hK|omega|rfl|simp<;>omega
 refine zd (σ':=mkS [(3,.ptr 0 0 6)] [(0,.box 27 [.t 2 (.int .i64 L),.t 2 (rows tb),.t 2 (.sl 1 (wsT ws)),.t 2 (ints im),.t 2 (zH ac),.t 2 (zH pl)])] 1 41 [.any]) ?_ ?_
 ·exact kw1 [(0,some 4000000)] (an @rows.eq_1 @zH.eq_1)
 rcases k1 with⟨k,ha⟩|⟨k,ha⟩
 ·rw[decide_eq_true k]at hm1;obtain⟨ns,root,of,hSf,hof⟩:=zNt hMD hL (by have:=hDr.few ha;omega) ha hv;refine zo (by kernel_rfl) (fun K hK=>?_);simp(maxSteps:=2000000)(disch:=omega)[ints,rows]
  (repeat' apply And.intro)
  all_goals (try omega)
  refine zV (caps:=[]) (zKr) [] [] 2 rfl rfl rfl rfl (by kernel_rfl) (by simp) ?_ trivial trivial rfl trivial trivial (by simp) ?_
  ·simp[scal]
  simp(maxSteps:=2000000)(disch:=omega)[scal]
  (repeat' apply And.intro)
  all_goals (try omega)
  refine zV (caps:=[]) (hm1) [] [] 2 rfl rfl rfl rfl (by kernel_rfl) (by simp) ?_ trivial trivial rfl trivial trivial (by simp) ?_
  ·simp[scal,rows,ints,syV,zH]
  simp(maxSteps:=2000000)(disch:=omega)[scal]
  (repeat' first|apply hK|apply And.intro)<;>try first|(show zAf _ _=true;kernel_rfl)|(show okH _ _ _=true;kernel_rfl)|omega|rfl|(simp<;>omega)
  refine rc1 hof (an @syV.eq_1 (an @zH.eq_1 @zHE.eq_1)) ?_;refine rc0 hkn ?_;exact zI rt0
 ·rw[show decide ((zF2 tb (idL N) viA viB (100:Nat)).2.2=9)=false by rw[k];rfl]at hm1;have hof:=zVA hMD ha hv;refine zo (by kernel_rfl) (fun K hK=>?_);simp(maxSteps:=2000000)(disch:=omega)[ints,rows]
  (repeat' apply And.intro)
  all_goals (try omega)
  refine zV (caps:=[]) (zKr) [] [] 2 rfl rfl rfl rfl (by kernel_rfl) (by simp) ?_ trivial trivial rfl trivial trivial (by simp) ?_
  ·simp[scal]
  simp(maxSteps:=2000000)(disch:=omega)[scal]
  (repeat' apply And.intro)
  all_goals (try omega)
  refine zV (caps:=[]) (hm1) [] [] 2 rfl rfl rfl rfl (by kernel_rfl) (by simp) ?_ trivial trivial rfl trivial trivial (by simp) ?_
  ·simp[scal,rows,ints,syV,zH]
  simp(maxSteps:=2000000)(disch:=omega)[scal]
  (repeat' first|apply hK|apply And.intro)<;>try first|(show zAf _ _=true;kernel_rfl)|(show okH _ _ _=true;kernel_rfl)|omega|rfl|(simp<;>omega)
  refine rc1 hof (an @syV.eq_1 (an @zH.eq_1 @zVX.eq_1)) ?_;refine rc0 hkn ?_;exact zI rt0
