/- Lemmas for the law unambiguousClass. No conditions. -/
import Derived.Test.YtgmcbpjplcjmdaaGreatZual
set_option linter.all false
namespace Go.Proofs.YtgmcbpjplcjmdaaGreat.M
open Go.RowKit
set_option maxRecDepth 100000
set_option maxHeartbeats 32000000

def kents{α:Type}(f:α->T)(j:Nat):List α->List (T×T)
 |[]=>[]
 |a::r=>(f a,.int .i64 (j:Int))::kents f (j+1) r
def ixA{α:Type}[DecidableEq α](x:α):List α->Option Nat
 |[]=>none
 |a::r=>if x=a then some 0 else(ixA x r).map (· +1)
theorem zCv{α:Type}[DecidableEq α]{f:α->T}{x:α}: ∀(cl:List α) (j:Nat),(∀y∈cl,kEq (f x) (f y)=decide (x=y))->fndT (f x) (kents f j cl)=ixA x cl
 |[],j,_=>rfl
 |a::r,j,h=>by
  unfold kents fndT ixA;rw[h a (by simp),zCv r (j+1) (fun y hy=>h y (by simp[hy]))];by_cases e:x=a<;>simp[e]
theorem zCO{α:Type}(f:α->T): ∀(cl:List α) (j:Nat),(kents f j cl).length=cl.length
 |[],j=>rfl
 |a::r,j=>by simp[kents,zCO f r (j+1)]
theorem zCg{α:Type}(f:α->T): ∀(cl:List α) (j i:Nat) (x:α),cl[i]? =some x->(kents f j cl)[i]? =some (f x,.int .i64 ((j+i:Nat):Int))
 |[],j,i,x,h=>by simp at h
 |a::r,j,i,x,h=>by
  cases i with
  |zero=>simp at h;subst h;simp[kents]
  |succ i=>
   have:=zCg f r (j+1) i x (by simpa using h);simp only[kents,Ql,this];congr 4;omega
theorem zBt{α:Type}(f:α->T): ∀(cl:List α) (j:Nat) (x:α),kents f j (cl++[x])=kents f j cl++[(f x,.int .i64 ((j+cl.length:Nat):Int))]
 |[],j,x=>by simp[kents]
 |a::r,j,x=>by
  simp only[List.cons_append,kents,zBt f r (j+1) x,List.length_cons];congr 5;omega
theorem zC9{α:Type}[DecidableEq α]{x:α}: ∀{cl:List α} {i:Nat},ixA x cl=some i->cl[i]? =some x
 |[],i,h=>by simp[ixA]at h
 |a::r,i,h=>by
  unfold ixA at h;by_cases e:x=a
  ·rw[if_pos e]at h;injection h with h;subst h;simp[e]
  ·rw[if_neg e]at h
   cases hq:ixA x r with
   |none=>rw[hq]at h;cases h
   |some j=>rw[hq]at h;simp at h;subst h;simpa using zC9 hq
theorem zQl{α:Type}[DecidableEq α]{x:α}{cl:List α}{i:Nat}(h:ixA x cl=some i):i<cl.length:=(Qq.1 (zC9 h)).1
theorem zDd{α:Type}[DecidableEq α]{x:α}: ∀{cl:List α},ixA x cl=none->x∉cl
 |[],_=>by simp
 |a::r,h=>by
  unfold ixA at h;by_cases e:x=a
  ·rw[if_pos e]at h;cases h
  ·rw[if_neg e]at h;have h2:ixA x r=none:=by
    cases hq:ixA x r with
    |none=>rfl
    |some j=>rw[hq]at h;cases h
   simp[e,zDd h2]
theorem zCa{α:Type}(f:α->T){P:Program}{K:TypeId}(h: ∀a,kOK P K (f a)=true): ∀(cl:List α) (j:Nat),((kents f j cl).all fun e=>kOK P K e.1)=true
 |[],j=>rfl
 |a::r,j=>by simp[kents,h,zCa f h r (j+1)]
structure NuA{α:Type}(f:Nat->α)(cl:List α)(r:Nat->Nat)(k:Nat):Prop where
 at_: ∀(i:Nat),i<k->cl[r i]? =some (f i)
 nd: ∀(a b:Nat) v,cl[a]? =some v->cl[b]? =some v->a=b
 cnt:cv r k=cl.length
 ok:POK r k
theorem NuA.start{α:Type}{f:Nat->α}:NuA f [] (fun _=>0) 0:=⟨fun i h=>by omega,fun a b v h=>by simp at h,rfl,fun q h=>by omega⟩
theorem NuA.hit{α:Type}{f:Nat->α}{cl:List α}{r:Nat->Nat}{k:Nat}(h:NuA f cl r k){j:Nat}(hj:cl[j]? =some (f k)):NuA f cl (fun i=>if i=k then j else r i) (k+1):=by
 have e:cv (fun i=>if i=k then j else r i) k=cv r k:=zBJ (fun i hi=>by simp[show i≠k by omega]);have hjl:=(Qq.1 hj).1;have hcnt:=h.cnt;refine⟨fun i hi=>?_,h.nd,?_,fun q hq=>?_⟩
 ·by_cases eq:i=k
  ·subst eq;simp only[if_true];exact hj
  ·simp only[if_neg eq];exact h.at_ i (by omega)
 ·show(if(if k=k then j else r k)=cv _ k then cv _ k+1 else cv _ k)=_;rw[e];simp only[if_true];rw[if_neg (by omega)];exact hcnt
 ·by_cases eq:q=k
  ·subst eq;rw[e];simp only[if_true];omega
  ·rw[zBJ (q:=r) (fun i hi=>by simp[show i≠k by omega])];simp only[if_neg eq];exact h.ok q (by omega)
theorem NuA.zUw{α:Type}{f:Nat->α}{cl:List α}{r:Nat->Nat}{k:Nat}(h:NuA f cl r k)(hn:f k∉cl):NuA f (cl++[f k]) (fun i=>if i=k then cl.length else r i) (k+1):=by
 have e:cv (fun i=>if i=k then cl.length else r i) k=cv r k:=zBJ (fun i hi=>by simp[show i≠k by omega]);have hcnt:=h.cnt;have key: ∀(a:Nat) v,(cl++[f k])[a]? =some v->(a<cl.length/\cl[a]? =some v)\/(a=cl.length/\v=f k):=fun a v ha=>by
  by_cases hl:a<cl.length
  ·rw[Qw hl]at ha;exact .inl ⟨hl,ha⟩
  ·have:=(Qq.1 ha).1;simp at this;have e:a=cl.length:=by omega
   subst e;simp at ha;exact .inr ⟨rfl,ha.symm⟩
 refine⟨fun i hi=>?_,fun a b v ha hb=>?_,?_,fun q hq=>?_⟩
 ·by_cases eq:i=k
  ·subst eq;simp
  ·simp only[if_neg eq];have:=h.at_ i (by omega);rw[Qw (Qq.1 this).1];exact this
 ·rcases key a v ha with⟨a1,a2⟩|⟨a1,a2⟩<;>rcases key b v hb with⟨b1,b2⟩|⟨b1,b2⟩
  ·exact h.nd a b v a2 b2
  ·exact absurd (b2▸Qc a2) hn
  ·exact absurd (a2▸Qc b2) hn
  ·omega
 ·show(if(if k=k then cl.length else r k)=cv _ k then cv _ k+1 else cv _ k)=_;rw[e];simp only[if_true];rw[if_pos (by omega)];simp;omega
 ·by_cases eq:q=k
  ·subst eq;rw[e];simp only[if_true];omega
  ·rw[zBJ (q:=r) (fun i hi=>by simp[show i≠k by omega])];simp only[if_neg eq];exact h.ok q (by omega)
theorem NuA.eq{α:Type}{f:Nat->α}{cl:List α}{r:Nat->Nat}{k:Nat}(h:NuA f cl r k){i j:Nat}(hi:i<k)(hj:j<k):r i=r j↔f i=f j:=by
 have h1:=h.at_ i hi;have h2:=h.at_ j hj;constructor
 ·intro e;rw[e,h2]at h1;injection h1 with h1;exact h1.symm
 ·intro e;rw[e]at h1;exact h.nd _ _ _ h1 h2
structure MnI(L n:Nat)(bs:List Bool)(nxt:List (List Int))(p:Nat->Nat):Prop where
 ok:POK p n
 fin: ∀i j,i<n->j<n->p i=p j->bs[i]? =bs[j]?
 co: ∀i j,i<n->j<n->LQ L bs nxt i j->p i=p j
def zFO(L:Nat)(nxt:List (List Int))(p:Nat->Nat)(q:Nat):List Int:=tab 7 fun j=>if j=0 then(p q:Int)else if j<=L then(p (zR nxt q (j-1)):Int)else 0
theorem zOk{L:Nat}{nxt:List (List Int)}{p:Nat->Nat}{i j:Nat}(h:zFO L nxt p i=zFO L nxt p j)(hL:L<=6):p i=p j/\ ∀x,x<L->p (zR nxt i x)=p (zR nxt j x):=by
 have key: ∀k,k<7->(if k=0 then(p i:Int)else if k<=L then(p (zR nxt i (k-1)):Int)else 0)=(if k=0 then(p j:Int)else if k<=L then(p (zR nxt j (k-1)):Int)else 0):=fun k hk=>by
  have h1:(zFO L nxt p i)[k]? =(zFO L nxt p j)[k]?:=by rw[h]
  rw[zFO,zFO,zO _ hk,zO _ hk]at h1;injection h1
 refine⟨?_,fun x hx=>?_⟩
 ·have:=key 0 (by omega);simp only[if_true]at this;omega
 ·have:=key (x+1) (by omega);rw[if_neg (by omega),if_pos (by omega),if_neg (by omega),if_pos (by omega)]at this;simp only[Nat.add_sub_cancel]at this;omega
theorem zRp{L:Nat}{nxt:List (List Int)}{p:Nat->Nat}{i j:Nat}(h:p i=p j)(hs: ∀x,x<L->p (zR nxt i x)=p (zR nxt j x)):zFO L nxt p i=zFO L nxt p j:=by
 unfold zFO;refine zK (fun k hk=>?_);by_cases h0:k=0
 ·simp[h0,h]
 ·by_cases h1:k<=L
  ·simp[h0,h1,hs (k-1) (by omega)]
  ·simp[h0,h1]
theorem NuA.zSK{L n s:Nat}{bs:List Bool}{nxt:List (List Int)}{p r:Nat->Nat}{cl:List (List Int)}(hD:DfL L n s bs nxt)(hL:L<=6)(hp:MnI L n bs nxt p)(h:NuA (zFO L nxt p) cl r n):
  MnI L n bs nxt r/\(∀i j,i<n->j<n->r i=r j->p i=p j):=by
 have hf: ∀i j,i<n->j<n->r i=r j->p i=p j:=fun i j hi hj e=>(zOk ((h.eq hi hj).1 e) hL).1
 exact⟨⟨h.ok,fun i j hi hj e=>hp.fin i j hi hj (hf i j hi hj e),fun i j hi hj e=>(h.eq hi hj).2 (zRp (hp.co i j hi hj e) fun x hx=>hp.co _ _ (hD.rt.step hi hx).1 (hD.rt.step hj hx).1 (e.step hx))⟩,hf⟩
theorem NuA.more{L n s:Nat}{bs:List Bool}{nxt:List (List Int)}{p r:Nat->Nat}{cl:List (List Int)}(hD:DfL L n s bs nxt)(hL:L<=6)(hp:MnI L n bs nxt p)(h:NuA (zFO L nxt p) cl r n)(hne:cl.length≠cv p n):cv p n<cl.length:=by
 obtain⟨h1,hf⟩:=h.zSK hD hL hp;rcases zIi hp.ok h1.ok hf with g|g
 ·exfalso;have:=zBJ (p:=r) (q:=p) (k:=n) g;rw[h.cnt]at this;exact hne this
 ·rw[h.cnt]at g;exact g
theorem NuA.end_{L n s:Nat}{bs:List Bool}{nxt:List (List Int)}{p r:Nat->Nat}{cl:List (List Int)}(hD:DfL L n s bs nxt)(hL:L<=6)(hp:MnI L n bs nxt p)(h:NuA (zFO L nxt p) cl r n)(he:cl.length=cv p n):ClG L n bs nxt r:=by
 obtain⟨h1,hf⟩:=h.zSK hD hL hp;have hg: ∀i,i<n->r i=p i:=by
  rcases zIi hp.ok h1.ok hf with g|g
  ·exact g
  ·rw[h.cnt]at g;omega
 refine⟨h.ok,fun i j hi hj e=>⟨h1.fin i j hi hj e,fun x hx=>?_⟩,h1.co⟩;have h2:=(zOk ((h.eq hi hj).1 e) hL).2 x hx;rw[hg _ (hD.rt.step hi hx).1,hg _ (hD.rt.step hj hx).1,h2]
def zBo(bs:List Bool)(q:Nat):Nat:=if bs[q]? =bs[0]? then 0 else 1
theorem zGm(bs:List Bool): ∀k,1<=cv (zBo bs) (k+1)/\cv (zBo bs) (k+1)<=2
 |0=>by simp[cv,zBo]
 |k+1=>by
  obtain⟨h1,h2⟩:=zGm bs k;have h3:cv (zBo bs) (k+1+1)=if zBo bs (k+1)=cv (zBo bs) (k+1)then cv (zBo bs) (k+1)+1 else cv (zBo bs) (k+1):=rfl
  have h4:zBo bs (k+1)<=1:=by unfold zBo;split<;>omega
  split at h3<;>omega
theorem zRo(L n:Nat)(bs:List Bool)(nxt:List (List Int))(hb:bs.length=n):MnI L n bs nxt (zBo bs):=by
 refine⟨fun q hq=>?_,fun i j hi hj e=>?_,fun i j hi hj e=>by unfold zBo;rw[e.fin (by omega) (by omega)]⟩
 ·cases q with
  |zero=>simp[zBo]
  |succ q=>
   have h1:=(zGm bs q).1;have h4:zBo bs (q+1)<=1:=by unfold zBo;split<;>omega
   omega
 ·have hi':i<bs.length:=by omega
  have hj':j<bs.length:=by omega
  have h0:0<bs.length:=by omega
  simp only[zBo,Qj hi',Qj hj',Qj h0,Qx]at e ⊢
  cases h1:bs[i]<;>cases h2:bs[j]<;>cases h3:bs[0]<;>simp[h1,h2,h3]at e ⊢
def inT(x:Nat):T:=.int .i64 (x:Int)
def nbO(ds:List Nat):List AObj:=[.box 275 [.own 1 ds.length,.own 2 0],.row 3 1 1 ((nI ds).map (.int .i64)),.map 3 3 (kents inT 0 ds)]
def ofX(x:Nat)(ds:List Nat):List Nat×Nat:=match ixA x ds with
 |some i=>(ds,i)
 |none=>(ds++[x],ds.length)
theorem zTc(x y:Nat):kEq (inT x) (inT y)=decide (x=y):=by
 simp only[inT,kEq];rw[Bool.eq_iff_iff];simp;omega
theorem zPn(x:Nat):FnS Tryz.prog 204 [.ptr 0 0 2,.t 2 (.int .i64 x)] [.box 275 [.t 1 (.sl 0 []),.t 1 .zFJ]] (.t 2 (.int .i64 0)) (nbO [x]):=by
 have hz1:zCH Tryz.prog 3=some (.int .i64 0):=by kernel_rfl
 refine fI 49 #[.tmp 4] Tryz.func204 rfl ?_;refine rg0 ?_;refine zF fun K hK=>?_
 simp(maxSteps:=2000000)(disch:=omega)[scal,hz1];and_intros<;>try first|apply hK|omega|rfl|simp<;>omega
 refine zA ?_;refine rg0 ?_;refine cT0 ?_;refine zA ?_;refine rg0 ?_;refine cT0 ?_;refine rr0 ?_;refine rg0 ?_;refine zF fun K hK=>?_
 simp(maxSteps:=2000000)(disch:=omega)[scal,fndT]
 (repeat' first|apply hK|apply And.intro)<;>try first|omega|rfl|(simp<;>omega)
 refine rr0 ?_;refine rg0 ?_;refine zC ?_;refine⟨⟨.inr rfl,_,[(0,some 0),(1,some 44000001),(2,some 20000001)],(by first|rfl|(simp[ints,rows,scal,tpO,nbO,kents,inT,nI];rfl)),?_,?_,?_,?_⟩,?_⟩
 all_goals try simp[nbO,kents,inT,nI]
theorem zRG(x:Nat)(ds:List Nat)(hn:ds.length<=100000):FnS Tryz.prog 204 [.ptr 0 0 2,.t 2 (.int .i64 x)] (nbO ds) (.t 2 (.int .i64 ((ofX x ds).2:Nat))) (nbO (ofX x ds).1):=by
 have hz1:zCH Tryz.prog 3=some (.int .i64 0):=by kernel_rfl
 have hfn:fndT (.int .i64 (x:Int)) (kents inT 0 ds)=ixA x ds:=zCv (f:=inT) ds 0 (fun y _=>zTc x y);have hall:=zCa inT (P:=Tryz.prog) (K:=3) (fun x=>zRc x) ds 0;refine fI 49 #[.tmp 4] Tryz.func204 rfl ?_;refine rg1 @nbO.eq_1 ?_
 cases hx:ixA x ds with
 |some j=>
  have hj:=zC9 hx;have hje:=zCg inT ds 0 j _ hj;have hof:ofX x ds=(ds,j):=by simp[ofX,hx]
  refine zF fun K hK=>?_
  simp(maxSteps:=2000000)(disch:=omega)[scal,hfn,hx,hall,hz1,hje];and_intros<;>try first|apply hK|omega|rfl|simp<;>omega
  refine zA ?_;refine rg0 ?_;refine cS0 ?_;refine rg0 ?_;refine zC ?_;exact zSe (an @nbO.eq_1 @hof)
 |none=>
  have hof:ofX x ds=(ds++[x],ds.length):=by simp[ofX,hx]
  refine zF fun K hK=>?_
  simp(maxSteps:=2000000)(disch:=omega)[scal,hfn,hx,hall,hz1];and_intros<;>try first|apply hK|omega|rfl|simp<;>omega
  refine zA ?_;refine rg0 ?_;refine cT0 ?_;refine zA ?_;refine rg0 ?_;refine cS0 ?_;refine rg0 ?_;refine zF fun K hK=>?_
  simp(maxSteps:=2000000)(disch:=omega)[scal,hfn,hx,hall]
  (repeat' first|apply hK|apply And.intro)<;>try first|omega|rfl|(simp<;>omega)
  refine rr0 ?_;refine rg0 ?_;refine zC ?_;exact zSe (an @nbO.eq_1 (an @hof (an @zBt (an @zN3 @inT.eq_1))))
def dfC(L s:Nat)(bs:List Bool)(nxt:List (List Int)):List T:=[.int .i64 L,.int .i64 s,zG bs,rows nxt]
def dfO(L s:Nat)(bs:List Bool)(nxt:List (List Int)):AObj:=.box 34 [.t 2 (.int .i64 L),.t 2 (.int .i64 s),.t 0 (zG bs),.t 0 (rows nxt)]
theorem zPa{L n s:Nat}{bs:List Bool}{nxt:List (List Int)}(h:DfL L n s bs nxt){q x:Nat}(hq:q<n)(hx:x<L):FnA Tryz.prog 192 [.t 2 (.int .i64 q),.t 2 (.int .i64 x),.pt 0 (dfC L s bs nxt)] (.t 2 (.int .i64 (zR nxt q x:Nat))):=by
 obtain⟨s1,s2,s3,s4⟩:=h.rt.step hq hx;refine fI 14 #[.tmp 5] Tryz.func192 rfl ?_;refine rg1 @dfC.eq_1 ?_;refine rg1 (an @s2 (an @s3 @s4)) ?_;exact zC rt0
theorem zP5{L n s:Nat}{bs:List Bool}{nxt:List (List Int)}(h:DfL L n s bs nxt){q:Nat}(hq:q<n):FnA Tryz.prog 193 [.t 2 (.int .i64 q),.pt 0 (dfC L s bs nxt)] (.t 2 (.bool (bs.getD q false))):=by
 have hqb:q<bs.length:=by rw[h.bl];exact hq
 have hv:bs.getD q false=bs[q]:=by simp[Qv,hqb]
 rw[hv];refine fI 9 #[.tmp 3] Tryz.func193 rfl ?_;refine rg1 (an @dfC.eq_1 @zG.eq_1) ?_;refine rg1 @hqb ?_;exact zC rt0
theorem zQD{L n s:Nat}{bs:List Bool}{nxt:List (List Int)}{ss:List Nat}{bs':List Bool}{nx':List (List Int)}{i:Nat}(h:ExI L n s bs nxt ss bs' nx' i){q:Nat}(hq:q<n):ExI L n s bs nxt (ofX q ss).1 bs' nx' i/\(ofX q ss).1[(ofX q ss).2]? =some q/\ ∃ys,(ofX q ss).1=ss++ys:=by
 unfold ofX
 cases hx:ixA q ss with
 |some j=>exact⟨h,zC9 hx,[],by simp⟩
 |none=>exact⟨h.app hq (zDd hx),by simp,[q],rfl⟩
theorem zTL{L n s:Nat}{bs:List Bool}{nxt:List (List Int)}{ss:List Nat}{bs':List Bool}{nx':List (List Int)}{i x q v:Nat}{r:List Int}(hF:FO L nxt ss (i*L+x))(hE:ExI L n s bs nxt ss bs' nx' i)(hq:ss[i]? =some q)(hR:zIK nxt ss q r x)(hx:x<L)(hv:zR nxt q x=v):FO L nxt (ofX v ss).1 (i*L+(x+1)):=by
 unfold ofX
 cases hi:ixA v ss with
 |some j=>exact hF.mono (by omega)
 |none=>
  rw[←hv];refine hF.add hx hq (fun j y p hj hp hy=>?_) (fun y p hy hp=>?_)
  ·obtain⟨-,r',h2,h3,h4⟩:=hE.row j p hj hp;obtain⟨t,-,g⟩:=h4 y hy;exact Qc g
  ·rw[hq]at hp;injection hp with hp;subst hp;obtain⟨t,-,g⟩:=hR y hy;exact Qc g
theorem zLg{L n s:Nat}{bs:List Bool}{nxt:List (List Int)}(h:DfL L n s bs nxt)(hL:1<=L)(hL2:L<=6)(hn:n<=512): ∃res,(∃ss bs' nx',ExI L n s bs nxt ss bs' nx' ss.length/\FO L nxt ss (ss.length*L)/\res= .tup [dfT 2 L 0 bs' nx',.t 2 (ints (nI ss)),.t 2 (.int .i64 0)])∧
  FnS Tryz.prog 191 [.t 2 (.int .i64 L),.t 2 (.int .i64 s),.fn 192 [.pt 0 (dfC L s bs nxt)],.fn 193 [.pt 0 (dfC L s bs nxt)]] [] res []:=by
 have hst:=h.st;refine zh Tryz.func191 rfl (by simp[Tryz.f191]) ?_;rw[show Tryz.f191.ntmps=71 from rfl,show Tryz.f191.results= #[.cell 8 34,.tmp 9,.tmp 10]from rfl];refine rg0 ?_;refine rg0 ?_;refine zF fun K hK=>?_
 simp(maxSteps:=2000000)(disch:=omega)
 (repeat' apply And.intro)
 all_goals (try omega)
 refine zD (caps:=[]) (zPn s) [3000000] [3000000,5000000,5000001] 2 rfl rfl rfl rfl (by kernel_rfl) (by simp) ?_ ?_ (by simp) rfl (by simp) ⟨.inr ⟨rfl,0,_,_,_,_,_,rfl,rfl,(by first|rfl|simp[nbO]),rfl,(by first|rfl|simp[nbO])⟩,.inl ⟨by omega,by omega⟩,.inl ⟨by omega,by omega⟩,trivial⟩ (by simp[nbO]) ?_
 ·simp[scal]
 ·simp[scal]
 simp(maxSteps:=2000000)(disch:=omega)[scal,nbO]
 (repeat' first|apply hK|apply And.intro)<;>try first|omega|rfl|(simp<;>omega)
 refine rg0 ?_;refine zA ?_;refine rg0 ?_;refine zB ?_;refine awp_loop (fun y:Nat×List Nat×List Bool×List (List Int)=>mkS [(0,.t 2 (.int .i64 L)),(2,.fn 192 [.pt 0 (dfC L s bs nxt)]),(3,.fn 193 [.pt 0 (dfC L s bs nxt)]),(8,.ptr 1 0 4),(11,.ptr 2 0 2),(12,.ptr 3 0 4),(13,.t 2 (.int .i64 y.1))]
  [(1,.box 34 [.any,.any,.any,.any]),(2,.box 275 [.own 4 y.2.1.length,.own 5 0]),(3,.box 34 [.t 2 (.int .i64 L),.t 2 (.int .i64 0),.own 6 y.1,.own 7 y.1]),(4,.row 3 1 2 ((nI y.2.1).map (.int .i64))),(5,.map 3 3 (kents inT 0 y.2.1)),(6,.row 4 1 2 (y.2.2.1.map .bool)),(7,.row 22 1 2 (y.2.2.2.map ints))]
  8 71 [.any,.any,.any,.any]) (fun y=>ExI L n s bs nxt y.2.1 y.2.2.1 y.2.2.2 y.1/\FO L nxt y.2.1 (y.1*L)) (fun y=>n-y.1) ?_ ?_
 ·refine⟨(0,[s],[],[]),⟨ExI.start hst,FO.start⟩,?_⟩;refine zH [(1,some 0),(2,some 3000000),(3,some 8000000),(4,some 5000000),(5,some 5000001),(6,none),(7,none)] rfl ?_ ?_ ?_ ?_
  all_goals try simp[dfC,rows,zG,nI,kents,inT]
 rintro⟨i,ss,bs',nx'⟩ ⟨hE,hF⟩;simp only at hE hF;have hbl:=hE.bl;have hnl:=hE.nl;have hsl:=hE.len;have hile:=hE.le;refine zA ?_;refine rg0 ?_;by_cases hil:i<ss.length
 ·refine cT1 @hil ?_;obtain⟨q,hq⟩: ∃q,ss[i]? =some q:=⟨_,Qj hil⟩;have hqn:=hE.lt q (Qc hq);have hqg:(nI ss)[i]? =some (q:Int):=by rw[nI,Qi,hq];rfl
  refine zQ ?_;refine zA ?_;refine zB ?_;refine rg1 @hqg ?_;refine rg0 ?_;refine zA ?_;refine rg0 ?_;refine zB ?_;refine awp_loop (fun y:Nat×List Nat×List Int=>mkS [(0,.t 2 (.int .i64 L)),(2,.fn 192 [.pt 0 (dfC L s bs nxt)]),(3,.fn 193 [.pt 0 (dfC L s bs nxt)]),(8,.ptr 1 0 4),(11,.ptr 2 0 2),(12,.ptr 3 0 4),(13,.t 2 (.int .i64 i)),(14,.t 2 (.int .i64 q)),(15,.own 8 L),(36,.t 2 (.int .i64 L)),(37,.t 2 (.int .i64 y.1))]
   [(1,.box 34 [.any,.any,.any,.any]),(2,.box 275 [.own 4 y.2.1.length,.own 5 0]),(3,.box 34 [.t 2 (.int .i64 L),.t 2 (.int .i64 0),.own 6 i,.own 7 i]),(4,.row 3 1 2 ((nI y.2.1).map (.int .i64))),(5,.map 3 3 (kents inT 0 y.2.1)),(6,.row 4 1 2 (bs'.map .bool)),(7,.row 22 1 2 (nx'.map ints)),(8,.row 3 1 2 (y.2.2.map (.int .i64)))]
   9 71 [.any,.any,.any,.any]) (fun y=>ExI L n s bs nxt y.2.1 bs' nx' i/\y.2.1[i]? =some q/\y.2.2.length=L/\zIK nxt y.2.1 q y.2.2 y.1/\y.1<=L/\FO L nxt y.2.1 (i*L+y.1)) (fun y=>L-y.1) ?_ ?_
  ·refine⟨(0,ss,List.replicate L 0),⟨hE,hq,by simp,fun y hy=>by omega,by simp,hF⟩,?_⟩;exact kw1 [(1,some 1),(2,some 2),(3,some 3),(4,some 4),(5,some 5),(6,some 6),(7,some 7),(8,some 12000008)] (an @dfC.eq_1 (an @zG.eq_1 @rows.eq_1))
  clear hE hF hq hqg hil hsl hile;rintro⟨x,ss,r⟩ ⟨hE,hq,hrl,hR,hx,hF⟩;simp only at hE hq hrl hR hx hF;have hsl:=hE.len;have hil:=(Qq.1 hq).1;refine rg0 ?_;refine zA ?_;by_cases hxl:x<L
  ·refine cT1 @hxl ?_;have h1:=zPa h hqn hxl;obtain⟨s1,-⟩:=h.rt.step hqn hxl;generalize hv:zR nxt q x=v at h1 s1;obtain⟨hE2,ht,ys,hys⟩:=zQD hE s1;have h2:=zRG v ss (by omega);have hF2:=zTL hF hE hq hR hxl hv;generalize ofX v ss=p at hE2 ht hys h2 hF2;obtain⟨ss2,t⟩:=p;simp only at hE2 ht hys h2 hF2;have hq2:ss2[i]? =some q:=by rw[hys,Qw hil];exact hq
   have hR2:zIK nxt ss2 q (r.set x (t:Int)) (x+1):=by
    refine zIK.set (by rw[hys];exact hR.app ys) (by omega) ?_;rw[hv];exact ht
   refine zQ ?_;refine zA ?_;refine zB ?_;refine rg0 ?_;refine zAT fun K hK=>?_
   simp(maxSteps:=2000000)(disch:=omega)
   (repeat' apply And.intro)
   all_goals (try omega)
   refine zD (caps:=[.pt 0 (dfC L s bs nxt)]) (h1) [] [] 1 rfl rfl rfl (by simp) (by first|assumption|kernel_rfl) (by simp) ?_ ?_ (by simp) rfl (by simp) trivial (by simp) ?_
   ·simp[scal,rows,dfC]
   ·simp
   simp(maxSteps:=2000000)(disch:=omega)[scal]
   (repeat' apply And.intro)
   all_goals (try omega)
   refine zD (caps:=[]) (h2) [2,4,5] [2,9000009,9000010] 2 rfl rfl rfl rfl (by kernel_rfl) (by simp) ?_ ?_ (by simp) rfl (by simp) ⟨.inr ⟨rfl,0,_,_,_,_,_,rfl,rfl,(by first|rfl|simp[nbO]),rfl,(by first|rfl|simp[nbO])⟩,.inl ⟨by omega,by omega⟩,.inl ⟨by omega,by omega⟩,trivial⟩ (by simp[nbO]) ?_
   ·simp[scal]
   ·simp[nbO]
   simp(maxSteps:=2000000)(disch:=omega)[scal,nbO,hrl,hxl];and_intros<;>try first|apply hK|omega|rfl|simp<;>omega
   refine rr0 ?_;refine⟨(x+1,ss2,r.set x (t:Int)),⟨hE2,hq2,by simpa using hrl,hR2,by omega,hF2⟩,by simp only;omega,?_⟩;exact kw1 [(1,some 1),(2,some 2),(3,some 3),(4,some 9000009),(5,some 9000010),(6,some 6),(7,some 7),(8,some 8)] (an @dfC.eq_1 @nbO.eq_1)
  ·obtain rfl:x=L:=by omega
   have h3:=zP5 h hqn;have hqb:bs[q]? =some (bs.getD q false):=by
    rw[Qv,Qj (by rw[h.bl];exact hqn)];rfl
   have h512: ¬(512:Int)<(ss.length:Int):=by omega
   refine cF0 ?_;refine zE ?_;refine zA ?_;refine rg1 @h512 ?_;refine cS0 ?_;refine rg0 ?_;refine zAW (by kernel_rfl) (fun K hK=>?_);simp(maxSteps:=2000000)(disch:=omega)
   (repeat' apply And.intro)
   all_goals (try omega)
   refine zM (caps:=[.pt 0 (dfC x s bs nxt)]) (h3) [] [] 1 rfl rfl rfl (by simp) (by first|assumption|kernel_rfl) (by simp) ?_ ?_ (by simp) rfl (by simp) trivial (by simp) ?_
   ·simp[scal,rows,dfC]
   ·simp
   simp(maxSteps:=2000000)(disch:=omega)[scal];and_intros<;>try first|apply hK|(show zAY _ _=true;kernel_rfl)|(show okH _ _ _=true;kernel_rfl)|omega|rfl|simp<;>omega
   refine rr0 ?_;refine⟨(i+1,ss,bs'++[bs.getD q false],nx'++[r]),⟨hE.done hq hqb hrl hR,by simp only;rw[Nat.add_mul,Nat.one_mul];exact hF⟩,by simp only;omega,?_⟩;exact kw1 [(1,some 1),(2,some 2),(3,some 3),(4,some 4),(5,some 5),(6,some 6),(7,some 7)] (an @dfC.eq_1 (an @hbl @hnl))
 ·have hi:i=ss.length:=by omega
  subst hi;refine cF0 ?_;refine zE ?_;refine rd0 ?_;refine zC ?_;refine⟨_,⟨ss,bs',nx',hE,hF,rfl⟩,?_⟩;refine⟨⟨.inr rfl,_,[],(by simp;rfl),trivial,trivial,by simp,?_⟩,by simp⟩;simp[ints,rows,dfT,zG,hbl,hnl]
def TrX(L n s:Nat)(bs:List Bool)(nxt:List (List Int))(res:AV):Prop:=∃m bs' nx' pl,m<=n/\DfL L m 0 bs' nx'/\(∀w,(∀a∈w,a<L)->zCF bs' nx' 0 w=zCF bs nxt s w)/\(∀i,i<n->pl i<(m:Int))/\(∃ss,ss.length=m/\ExI L n s bs nxt ss bs' nx' ss.length/\FO L nxt ss (ss.length*L))/\res= .tup [dfT 2 L 0 bs' nx',.t 2 (ints (tab n pl))]
theorem zKx{L n s:Nat}{bs:List Bool}{nxt:List (List Int)}(h:DfL L n s bs nxt)(hL:1<=L)(hL2:L<=6)(hn:n<=512): ∃res,TrX L n s bs nxt res/\FnS Tryz.prog 179 [dfT 0 L s bs nxt] [] res []:=by
 obtain⟨_,⟨ss,bs',nx',hE,hFO,rfl⟩,hexp⟩:=zLg h hL hL2 hn;obtain⟨hD',hlang⟩:=hE.fin;have hbl:=h.bl;have hsl:=hE.len;refine zh Tryz.func179 rfl (by simp[Tryz.f179]) ?_;rw[show Tryz.f179.ntmps=53 from rfl,show Tryz.f179.results= #[.cell 2 34,.tmp 3]from rfl];refine rg1 (an @dfT.eq_1 @zG.eq_1) ?_;refine zA ?_;refine rc1 (zBh h hL hL2 hn) (an @dfT.eq_1 @zG.eq_1) ?_;refine cS0 ?_;refine rc1 hexp (an @dfC.eq_1 (an @dfT.eq_1 (an @zG.eq_1 @dfO.eq_1))) ?_;refine rg1 @hbl ?_;refine zA ?_;refine rg0 ?_;refine zB ?_;refine awp_loop (fun y:Nat=>mkS [(2,.ptr 0 0 4),(4,.ptr 1 0 4),(5,.t 2 (ints (nI ss))),(7,.own 2 n),(31,.t 2 (.int .i64 n)),(32,.t 2 (.int .i64 y))] [(0,.box 34 [.any,.any,.any,.any]),(1,.box 34 [.t 2 (.int .i64 L),.t 2 (.int .i64 0),.t 2 (zG bs'),.t 2 (rows nx')]),(2,.row 3 1 2 (tab n fun i=>.int .i64 (if i<y then -1 else 0)))] 3 53 [.any]) (fun y=>y<=n) (fun y=>n-y) ?_ ?_
 ·refine⟨0,by omega,?_⟩;exact kw1 [(0,some 1000000),(1,some 17000000),(2,some 24000000)] (an @rows.eq_1 (an @zG.eq_1 (an @dfT.eq_1 (an @dfO.eq_1 (an @hbl @zz)))))
 intro k hk;refine rg0 ?_;refine zA ?_;by_cases hkn:k<n
 ·refine cK1 @hkn ?_;refine zA ?_;refine zB ?_;refine rg0 ?_;refine rr1 @hkn ?_;refine rr0 ?_;refine⟨k+1,by omega,by omega,?_⟩;refine zH [(0,some 0),(1,some 1),(2,some 2)] rfl ?_ ?_ ?_ ?_
  all_goals try simp[ints,rows,zG,zb]
  refine zK (fun i hi=>?_);by_cases e:i=k
  ·simp[e]
  ·rw[if_neg e];by_cases e2:i<k
   ·rw[if_pos e2,if_pos (by omega)]
   ·rw[if_neg e2,if_neg (by omega)]
 ·have hke:n=k:=by omega
  subst k;refine cF0 ?_;refine zE ?_;refine zA ?_;refine rg0 ?_;refine zB ?_;refine awp_loop (fun y:Nat×(Nat->Int)=>mkS [(2,.ptr 0 0 4),(4,.ptr 1 0 4),(7,.own 2 n),(39,.t 2 (ints (nI ss))),(40,.t 2 (.int .i64 ss.length)),(41,.t 2 (.int .i64 y.1))] [(0,.box 34 [.any,.any,.any,.any]),(1,.box 34 [.t 2 (.int .i64 L),.t 2 (.int .i64 0),.t 2 (zG bs'),.t 2 (rows nx')]),(2,.row 3 1 2 (tab n fun i=>.int .i64 (y.2 i)))] 3 53 [.any]) (fun y=>y.1<=ss.length/\ ∀i,i<n->y.2 i<(ss.length:Int)) (fun y=>ss.length-y.1) ?_ ?_
  ·refine⟨(0,fun i=>if i<n then -1 else 0),⟨by simp,fun i hi=>by simp only[if_pos hi];omega⟩,?_⟩;exact kw1 [(0,some 0),(1,some 1),(2,some 2)] (an @rows.eq_1 @zG.eq_1)
  rintro⟨i,pl⟩ ⟨hi,hpl⟩;simp only at hi hpl;refine rg0 ?_;refine zA ?_;by_cases hil:i<ss.length
  ·refine cT1 @hil ?_;have hsn:=hE.lt ss[i] (by simp);have hg:=zTB hil;refine zQ ?_;refine zA ?_;refine zB ?_;refine rg1 @hg ?_;refine rr1 @hsn ?_;refine rr0 ?_;refine⟨(i+1,fun q=>if q=ss[i]then(i:Int)else pl q),⟨by simp only;omega,fun j hj=>?_⟩,by simp only;omega,?_⟩
   ·by_cases e:j=ss[i]
    ·simp only[if_pos e];omega
    ·simp only[if_neg e];exact hpl j hj
   ·refine zH [(0,some 0),(1,some 1),(2,some 2)] rfl ?_ ?_ ?_ ?_
    all_goals try simp[ints,rows,zG,zb]
    refine zK (fun j hj=>?_);by_cases e:j=ss[i]<;>simp[e]
  ·refine cF0 ?_;refine zE ?_;refine rg0 ?_;refine zC ?_;refine⟨_,⟨ss.length,bs',nx',pl,hsl,hD',hlang,hpl,⟨ss,rfl,hE,hFO⟩,rfl⟩,?_⟩;refine⟨⟨.inr rfl,_,[],(by simp;rfl),trivial,trivial,by simp,?_⟩,by simp[dfT,zG]⟩;simp[ints,rows,dfT,zG,zT]
