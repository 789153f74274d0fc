/- Lemmas for the law AperiodicMember. No conditions. -/
import Derived.Test.YtjkeafkjjaploaaGreatZqas
set_option linter.all false
namespace Go.Proofs.YtjkeafkjjaploaaGreat.M
open Go.RowKit
set_option maxRecDepth 100000
set_option maxHeartbeats 32000000

section
variable{L m m2:Nat}{bs b2:List Bool}{nx nx2 els:List (List Int)}{pre last:List Int}{wds:List (List Nat)}{right:List (List Int)}{r0:List Int}
def Rp(L m:Nat)(nx els:List (List Int))(x:Nat)(w:List Nat):Prop:=els[x]? =some (act m (tab L (lets m nx)) w)
theorem Rp.lt{x:Nat}{w:List Nat}(h:Rp L m nx els x w):x<els.length:=(Qq.1 h).1
theorem SyX.tr(h:SyX L m nx els pre last wds right r0){w:List Nat}(hw: ∀a∈w,a<L):TrN m (act m (tab L (lets m nx)) w):=by
 obtain⟨i,hi,e⟩:=Qb (h.pr.zMi w (fun a ha=>by rw[zq];exact hw a ha));obtain⟨h1,h2,h3,h4⟩:=h.pr.wl' hi;rw[←e];exact h3
theorem SyX.rp(h:SyX L m nx els pre last wds right r0){x:Nat}(hx:x<els.length): ∃w,(∀a∈w,a<L)/\Rp L m nx els x w:=by
 obtain⟨h1,h2,h3,h4⟩:=h.pr.wl' hx;refine⟨wds[x],fun a ha=>by have:=h4 a ha;rwa [zq]at this,?_⟩;unfold Rp;rw[Qj hx,h2]
theorem SyX.zWy(h:SyX L m nx els pre last wds right r0){w:List Nat}(hw: ∀a∈w,a<L): ∃x,Rp L m nx els x w:=by
 obtain⟨i,hi,e⟩:=Qb (h.pr.zMi w (fun a ha=>by rw[zq];exact hw a ha));exact⟨i,by unfold Rp;rw[Qj hi,e]⟩
theorem SyX.zUD(h:SyX L m nx els pre last wds right r0)(hg: ∀g∈tab L (lets m nx),TrN m g){x y:Nat}{u v:List Nat}(hu: ∀a∈u,a<L)(hv: ∀a∈v,a<L)(h1:Rp L m nx els x u)(h2:Rp L m nx els y v):Rp L m nx els (zQ (zBO right wds els.length) x y) (u++v):=by
 have hx:=h1.lt;have hy:=h2.lt;have h3:=h.pr.elm hg hx hy;unfold Rp at h1 h2 ⊢;rw[Qj hx]at h1;rw[Qj hy]at h2;rw[h3,Option.some.inj h1,Option.some.inj h2];congr 1;unfold act;rw[List.foldl_append];exact(zLM hg (h.tr hu) (fun a ha=>by rw[zq];exact hv a ha)).symm
theorem SyX.zVg(h:SyX L m nx els pre last wds right r0)(hD:DfL L m 0 bs nx){x y:Nat}{u v:List Nat}(hu: ∀a∈u,a<L)(hv: ∀a∈v,a<L)(h1:Rp L m nx els x u)(h2:Rp L m nx els y v):x=y↔ ∀q,q<m->zj nx q u=zj nx q v:=by
 constructor
 ·rintro rfl q hq;unfold Rp at h1 h2;rw[h1]at h2;have e:=Option.some.inj h2;have a1:=zB9 hD u hu q hq;have a2:=zB9 hD v hv q hq;rw[e,a2]at a1;have:=Option.some.inj a1;omega
 ·intro hq;unfold Rp at h1 h2;refine h.pr.en.nd _ _ _ h1 ?_;rw[h2];congr 1;have l1:=(h.tr hu).1;have l2:=(h.tr hv).1;refine List.ext_getElem (by omega) fun q g1 g2=>?_
  have a1:=zB9 hD u hu q (by omega);have a2:=zB9 hD v hv q (by omega);rw[Qj g2]at a1;rw[Qj g1]at a2;have b1:=Option.some.inj a1;have b2:=Option.some.inj a2;rw[b1,b2,hq q (by omega)]
end
def f4(a b c d x:Fin 4):Fin 4:=if x=0 then a else if x=1 then b else if x=2 then c else d
def it4(a b c d:Fin 4):Nat->Fin 4->Fin 4
 |0,x=>x
 |k+1,x=>f4 a b c d (it4 a b c d k x)
theorem zUY: ∀a b c d x:Fin 4,it4 a b c d 15 x=it4 a b c d 3 x:=by decide +kernel
section
variable{L m:Nat}{bs:List Bool}{nx els:List (List Int)}{pre last:List Int}{wds:List (List Nat)}{right:List (List Int)}{r0:List Int}
theorem zBV(q:Nat): ∀k,zj nx q (List.replicate (k+1) 0)=zb nx (zj nx q (List.replicate k 0)) 0:=fun k=>by
 rw[List.replicate_succ',zGh];rfl
theorem zOu(hD:DfL 1 m 0 bs nx)(hm:m<=4){q:Nat}(hq:q<m):zj nx q (List.replicate 15 0)=zj nx q (List.replicate 3 0):=by
 have hs: ∀p,p<m->zb nx p 0<m:=fun p hp=>(hD.rt.step hp (by omega)).1
 obtain⟨g,hg⟩: ∃g:Nat->Fin 4,∀p,p<m->(g p).1=zb nx p 0:=⟨fun p=>if h:p<m then⟨zb nx p 0,by have:=hs p h;omega⟩else 0,fun p hp=>by simp[hp]⟩;have key: ∀k,zj nx q (List.replicate k 0)<m/\zj nx q (List.replicate k 0)=(it4 (g 0) (g 1) (g 2) (g 3) k ⟨q,by omega⟩).1:=by
  intro k
  induction k with
  |zero=>exact⟨hq,rfl⟩
  |succ k ih=>
   obtain⟨h1,h2⟩:=ih;rw[zBV];refine⟨hs _ h1,?_⟩;show _=(f4 (g 0) (g 1) (g 2) (g 3) (it4 (g 0) (g 1) (g 2) (g 3) k ⟨q,by omega⟩)).1;generalize it4 (g 0) (g 1) (g 2) (g 3) k ⟨q,by omega⟩=y at h2;rw[h2]at h1 ⊢;unfold f4;obtain⟨y,hy⟩:=y;simp only at h1 ⊢;rcases(by omega:y=0\/y=1\/y=2\/y=3)with rfl|rfl|rfl|rfl
   ·exact(hg 0 h1).symm
   ·exact(hg 1 h1).symm
   ·exact(hg 2 h1).symm
   ·exact(hg 3 h1).symm
 rw[(key 15).2,(key 3).2,zUY]
theorem SyX.zXB(h:SyX 1 m nx els pre last wds right r0)(hD:DfL 1 m 0 bs nx)(hg: ∀g∈tab 1 (lets m nx),TrN m g)(hm:m<=4):els.length<=15:=by
 have hz: ∀k,∀a∈List.replicate k 0,a<1:=fun k a ha=>by rw[(List.mem_replicate.1 ha).2];omega
 have red: ∀k,∃j,j<15/\ ∀q,q<m->zj nx q (List.replicate k 0)=zj nx q (List.replicate j 0):=by
  intro k
  induction k with
  |zero=>exact⟨0,by omega,fun q hq=>rfl⟩
  |succ k ih=>
   obtain⟨j,hj,e⟩:=ih;by_cases c:j=14
   ·subst c;refine⟨3,by omega,fun q hq=>?_⟩;rw[zBV,e q hq,←zBV,zOu hD hm hq]
   ·refine⟨j+1,by omega,fun q hq=>?_⟩;rw[zBV,e q hq,←zBV]
 have hnd:els.Nodup:=by
  rw[List.nodup_iff_pairwise_ne,List.pairwise_iff_getElem];intro i j hi hj hij e;have:=h.pr.en.nd i j els[i] (by simp) (by simp[e]);omega
 have:=zBK (l:=els) (k:=(List.range 15).map fun k=>act m (tab 1 (lets m nx)) (List.replicate k 0)) hnd (fun a ha=>by
  obtain⟨x,hx,rfl⟩:=Qb ha;obtain⟨w,hw,hr⟩:=h.rp hx;have hw0:w=List.replicate w.length 0:=List.eq_replicate_iff.2 ⟨rfl,fun b hb=>by have:=hw b hb;omega⟩;obtain⟨j,hj,e⟩:=red w.length;rw[←hw0]at e;obtain⟨y,hy⟩:=h.zWy (w:=List.replicate j 0) (hz j);have hxy:=(h.zVg hD hw (hz j) hr hy).2 e;subst hxy;unfold Rp at hy;rw[Qj hx]at hy;rw[Option.some.inj hy];exact List.mem_map.2 ⟨j,List.mem_range.2 hj,rfl⟩)
 simpa using this
theorem SyX.value(h:SyX L m nx els pre last wds right r0)(hD:DfL L m 0 bs nx)(hg: ∀g∈tab L (lets m nx),TrN m g){w:List Nat}(hw: ∀a∈w,a<L):Rp L m nx els (zj right 0 w) w:=by
 have h1:=h.elW hD hg hw h.pos;have h0:els[0]'h.pos=idL m:=by
  have:=h.pr.en.one.1;rw[Qj h.pos]at this;exact Option.some.inj this
 rw[h0,zAn (h.tr hw)]at h1;exact h1
theorem SyX.one(h:SyX L m nx els pre last wds right r0)(hg: ∀g∈tab L (lets m nx),TrN m g): ∀x,x<els.length->zQ (zBO right wds els.length) 0 x=x/\zQ (zBO right wds els.length) x 0=x:=fun x hx=>by
 have h0:=h.pos;obtain⟨_,_,t1,_⟩:=h.pr.wl' hx;have e0:els[0]=idL m:=by have:=h.pr.en.one.1;rw[Qj h0]at this;exact Option.some.inj this
 have e1:=h.pr.elm hg h0 hx;have e2:=h.pr.elm hg hx h0;rw[e0]at e1 e2;rw[zAn t1]at e1;rw[zHL t1]at e2;exact⟨h.pr.en.nd _ x _ e1 (Qj hx),h.pr.en.nd _ x _ e2 (Qj hx)⟩
end
def ApX(T:Nat->Nat->Nat)(x:Nat):Prop:=∃k,pw T x (k+1)=pw T x k
theorem ApX.apM{n:Nat}{T:Nat->Nat->Nat}(n0:0<n)(hT: ∀r c,r<n->c<n->T r c<n)(hA:zAz n T)(h1: ∀x,x<n->T 0 x=x/\T x 0=x)(ha: ∀x,x<n->ApX T x):ApM n T:=by
 refine⟨n0,hT,fun x y z hx hy hz=>hA x y z hx hy hz,fun x hx=>(h1 x hx).1,fun x hx=>(h1 x hx).2,fun x hx=>?_⟩;obtain⟨k,hk⟩:=ha x hx;have e: ∀j,itT T x (j+1) 0=pw T x j:=fun j=>by
  induction j with
  |zero=>exact(h1 x hx).1
  |succ j ih=>show T (itT T x (j+1) 0) x=T (pw T x j) x;rw[ih]
 exact⟨k+1,by rw[e,e,hk]⟩
theorem zPR{n:Nat}{T:Nat->Nat->Nat}(hT: ∀r c,r<n->c<n->T r c<n)(hA:zAz n T){x:Nat}(hx:x<n):ApX T x↔T (omT T n x) x=omT T n x:=by
 obtain⟨k,hk,e,hi,-⟩:=zCA hT hA hx;constructor
 ·rintro⟨j,hj⟩
  -- x^(i+1) = x^i for all i >= j
  have up: ∀i,j<=i->pw T x (i+1)=pw T x i:=fun i hi=>by
   induction i with
   |zero=>
    obtain rfl:j=0:=by omega
    exact hj
   |succ i ih=>
    by_cases c:j=i+1
    ·rw[←c];exact hj
    ·show T (pw T x (i+1)) x=T (pw T x i) x;rw[ih (by omega)]
  -- the idempotent is a power aS great aS one likes
  have big: ∀d,∃i,d<=i/\pw T x i=pw T x k:=fun d=>by
   induction d with
   |zero=>exact⟨k,by omega,rfl⟩
   |succ d ih=>
    obtain⟨i,h1,h2⟩:=ih;refine⟨i+k+1,by omega,?_⟩;rw[←zRT hT hA hx,h2,hi]
  obtain⟨i,h1,h2⟩:=big j;rw[e];have:=up i h1;rw[zDG,h2]at this;exact this
 ·intro h;exact⟨k,by rw[zDG,←e,h]⟩
theorem zRR{xss:List (List Int)}{f:List Int}(h:f∈xss): ∃k:Nat,zMH xss f=(k:Int)/\xss[k]? =some f:=by
 unfold zMH
 cases e:xss.findIdx? (fun x=>decide (x=f))with
 |none=>
  rw[List.findIdx?_eq_none_iff]at e;have:=e f h;simp at this
 |some i=>
  rw[List.findIdx?_eq_some_iff_getElem]at e;obtain⟨h1,h2,-⟩:=e;exact⟨i,rfl,by rw[Qj h1];simpa using h2⟩
theorem zIF{right:List (List Int)}{wds:List (List Nat)}{m x y:Nat}(hx:x<m)(hy:y<m):zb (zBO right wds m) x y=zj right x (wds.getD y []):=by
 simp[zb,zBO,tab,hx,hy,Qv]
section
variable{n:Nat}{gs els:List (List Int)}{pre last:List Int}{wds:List (List Nat)}{right:List (List Int)}
theorem PrI.pos(h:PrI n gs els pre last wds right els.length):0<els.length:=(Qq.1 h.en.one.1).1
theorem PrI.zero(h:PrI n gs els pre last wds right els.length):els[0]'h.pos=idL n:=by
 have:=h.en.one.1;rw[Qj h.pos]at this;exact Option.some.inj this
theorem PrI.zXG(h:PrI n gs els pre last wds right els.length)(hg: ∀g∈gs,TrN n g){a:Nat}(ha:a<gs.length):zb right 0 a<els.length/\els[zb right 0 a]? =some gs[a]:=by
 have h1:=h.zKk h.pos ha;rw[h.zero,zAn (hg _ (by simp))]at h1;exact⟨(Qq.1 h1).1,h1⟩
theorem PrI.zUe(h:PrI n gs els pre last wds right els.length)(hg: ∀g∈gs,TrN n g){r0:List Int}(h0:right[0]? =some r0):zIf gs els=r0:=by
 obtain⟨h1,h2⟩:=h.rg 0 r0 h0;refine List.ext_getElem (by simp[h1]) fun a g1 g2=>?_
 obtain⟨k,e,g,c1,c2,c3,c4⟩:=h2 a r0[a] (by simp);have ha:a<gs.length:=by simpa using g1
 rw[Qj ha]at c3;injection c3 with c3;subst c3;rw[h.en.one.1]at c2;injection c2 with c2;subst c2;rw[zAn (hg _ (by simp))]at c4;obtain⟨j,j1,j2⟩:=zRR (h.gn gs[a] (by simp));have:(zIf gs els)[a]=zMH els gs[a]:=by simp[zIf]
 rw[this,j1,c1,h.en.nd _ _ _ j2 c4]
theorem PrI.zWn(h:PrI n gs els pre last wds right els.length)(hg: ∀g∈gs,TrN n g){x:Nat}(hx:x<els.length):zj right 0 (wds.getD x [])=x:=by
 obtain⟨hw,e1,e2,e3⟩:=h.wl' hx;have h1:=h.zIM wds[x] h.pos e3;rw[h.zero]at h1;have hd:wds.getD x []=wds[x]:=by simp[Qv,hw]
 rw[hd];refine h.en.nd _ _ _ h1 ?_;rw[Qj hx,e1];rfl
theorem PrI.stepT(h:PrI n gs els pre last wds right els.length)(hg: ∀g∈gs,TrN n g){x a:Nat}(hx:x<els.length)(ha:a<gs.length):zb (zBO right wds els.length) x (zb right 0 a)=zb right x a:=by
 obtain⟨k1,k2⟩:=h.zXG hg ha;rw[zIF hx k1];obtain⟨hw,e1,e2,e3⟩:=h.wl' k1;have hd:wds.getD (zb right 0 a) []=wds[zb right 0 a]:=by simp[Qv,hw]
 rw[hd];have h1:=h.zIM wds[zb right 0 a] hx e3;obtain⟨_,_,t1,_⟩:=h.wl' hx;rw[zLM hg t1 e3,←e1]at h1;have h2:=h.zKk hx ha;rw[Qj k1]at k2;rw[Option.some.inj k2]at h1;exact h.en.nd _ _ _ h1 h2
theorem PrI.ne0(h:PrI n gs els pre last wds right els.length){x:Nat}(hx:x<els.length)(h0:x≠0): ∃u a,wds.getD x []=u++[a]/\a<gs.length/\ ∀y∈u,y<gs.length:=by
 obtain⟨hw,e1,e2,e3⟩:=h.wl' hx;have hd:wds.getD x []=wds[x]:=by simp[Qv,hw]
 rw[hd];by_cases c:wds[x]=[]
 ·rw[c]at e1;have:els[x]=els[0]'h.pos:=by rw[e1,h.zero];rfl
  exact absurd (h.en.nd x 0 els[x] (by simp) (by rw[this];simp)) h0
 ·have:=List.dropLast_concat_getLast c;exact⟨wds[x].dropLast,wds[x].getLast c,this.symm,e3 _ (List.getLast_mem c),fun y hy=>e3 y ((List.dropLast_sublist _).subset hy)⟩
theorem PrI.rlt(h:PrI n gs els pre last wds right els.length){x:Nat}(hx:x<els.length){w:List Nat}(hw: ∀a∈w,a<gs.length):zj right x w<els.length:=h.rt.walk hw hx
theorem PrI.plus(h:PrI n gs els pre last wds right els.length)(hg: ∀g∈gs,TrN n g){g:Nat->Bool}(hG:GeG els.length (zBO right wds els.length) (zIf gs els) g){x:Nat}(hx:x<els.length):g x=(if x=0 then right.any (fun r=>decide ((0:Int)∈r))else decide (x<els.length)):=by
 have h0:=h.pos;have hrd:=h.rd;have hr0:right[0]? =some (right[0]'(by omega)):=by simp
 have him:=h.zUe hg hr0;obtain⟨l0,-⟩:=h.rg 0 _ hr0;have hst: ∀{x a:Nat},x<els.length->a<gs.length-> ∃(r:List Int),right[x]? =some r/\r[a]? =some ((zb right x a:Nat):Int)/\zb right x a<els.length:=fun {x a} hx ha=>by
  obtain⟨s1,s2,s3,s4⟩:=h.rt.step hx ha;have hxr:x<right.length:=by omega
  exact⟨right[x],by simp,Qq.2 ⟨_,s4⟩,s1⟩
 have hgen: ∀a,a<gs.length->((zb right 0 a:Nat):Int)∈zIf gs els:=fun a ha=>by
  obtain⟨r,r1,r2,-⟩:=hst h0 ha;rw[hr0]at r1;rw[him,Option.some.inj r1];exact Qc r2
 -- all words but the empty one
 have key: ∀w:List Nat,(∀a∈w,a<gs.length)->w≠[]->g (zj right 0 w)=true:=by
  intro w;refine zBC (P:=fun w=>(∀a∈w,a<gs.length)->w≠[]->g (zj right 0 w)=true) (fun _ hn=>absurd rfl hn) (fun u a ih hw _=>?_) w;have ha:a<gs.length:=hw a (by simp);have hu: ∀b∈u,b<gs.length:=fun b hb=>hw b (by simp[hb])
  rw[zGh];show g (zb right (zj right 0 u) a)=true;obtain⟨r,r1,r2,r3⟩:=hst h0 ha;by_cases c:u=[]
  ·subst c;exact hG.has _ r3 (hgen a ha)
  ·have h1:=h.rlt h0 hu;rw[←h.stepT hg h1 ha];exact hG.clo _ _ h1 r3 (ih hu c) (hG.has _ r3 (hgen a ha))
 have big: ∀y,y<els.length->y≠0->g y=true:=fun y hy hy0=>by
  obtain⟨u,a,e,ha,hu⟩:=h.ne0 hy hy0;rw[←h.zWn hg hy,e];exact key _ (fun b hb=>by
   rcases List.mem_append.1 hb with hb|hb
   ·exact hu b hb
   ·simp at hb;omega) (by simp)
 by_cases e:x=0
 ·subst e;rw[if_pos rfl,Bool.eq_iff_iff];constructor
  ·intro hg0;have:=hG.min (fun x=>decide (x≠0)||right.any (fun r=>decide ((0:Int)∈r))) (fun i hi hm=>?_) (fun a b ha hb ca cb=>?_) 0 h0 hg0
   ·simpa using this
   ·by_cases c:i=0
    ·subst c;rw[him]at hm;simp only[Bool.or_eq_true,List.any_eq_true,decide_eq_true_eq];exact .inr ⟨_,Qc hr0,by simpa using hm⟩
    ·simp[c]
   ·by_cases c:right.any (fun r=>decide ((0:Int)∈r))=true
    ·simp[c]
    ·have c2:right.any (fun r=>decide ((0:Int)∈r))=false:=by simpa using c
     rw[c2]at ca cb ⊢;simp only[Bool.or_false,decide_eq_true_eq]at ca cb ⊢;obtain⟨u,z,e1,hz,hu⟩:=h.ne0 hb cb;rw[zIF ha hb,e1,zGh];intro hz0;have h1:=h.rlt ha hu;obtain⟨r,r1,r2,r3⟩:=hst h1 hz;have hz0:zb right (zj right a u) z=0:=hz0;rw[hz0]at r2;refine c (List.any_eq_true.2 ⟨r,Qc r1,?_⟩);simpa using Qc r2
  ·intro ha;obtain⟨r,hr,hr2⟩:=List.any_eq_true.1 ha;have hr2:(0:Int)∈r:=by simpa using hr2
   obtain⟨i,hi,rfl⟩:=Qb hr;obtain⟨a,hal,ea⟩:=Qb hr2;obtain⟨l1,-⟩:=h.rg i right[i] (by simp);have ha:a<gs.length:=by omega
   have hil:i<els.length:=by omega
   obtain⟨r',r1,r2,r3⟩:=hst hil ha;have hs0:zb right i a=0:=by
    rw[Qj hi]at r1;rw[←Option.some.inj r1,Qj hal,ea]at r2;have:=Option.some.inj r2;omega
   by_cases c:i=0
   ·subst c;have:=hG.has _ r3 (hgen a ha)
    rwa [hs0]at this
   ·obtain⟨r'',q1,q2,q3⟩:=hst h0 ha;have:=hG.clo i _ hil q3 (big i hil c) (hG.has _ q3 (hgen a ha))
    rwa [h.stepT hg hil ha,hs0]at this
 ·rw[if_neg e,big x hx e];simp[hx]
end
theorem zQX{n:Nat}{gs:List (List Int)}(h:zIi n gs)(fin:List Bool)(hst:0<n)(hfin:fin.length=n): ∃res,((res= .tup [zMI,.t 2 (.int .i64 3)]/\(Big n gs\/ ∃els pre last wds right,PrI n gs els pre last wds right els.length/\400<els.length))\/ ∃els pre last wds right r0,PrI n gs els pre last wds right els.length/\els.length<=400/\right[0]? =some r0/\res= .tup [zHm 2 gs.length fin els wds right r0,.t 2 (.int .i64 0)])/\FnS Tryz.prog 53 [.t 0 (rows gs),.t 2 (.int .i64 0),.t 0 (zH fin)] [] res []:=by
 obtain⟨res1,hB,hbuild⟩:=zPh h;have hg1:=h.g1;have hg2:=h.g2;have hn2:=h.n2;refine zm Tryz.func53 rfl (by simp[Tryz.f53]) ?_;rw[show Tryz.f53.ntmps=101 from rfl,show Tryz.f53.results= #[.cell 6 27,.tmp 7]from rfl];refine rg0 ?_;rcases hB with⟨rfl,hbig⟩|⟨els,pre,last,wds,right,rls,rfl,hP⟩
 ·refine rc0 hbuild ?_;refine zD ?_;refine rg0 ?_;refine cT0 ?_;refine rg0 ?_;refine zI ?_;refine⟨_,.inl ⟨rfl,.inl hbig⟩,?_⟩;refine⟨⟨.inr rfl,_,[],(by simp;rfl),trivial,trivial,by simp,?_⟩,by simp⟩;simp[zMI]
 have hen:=hP.en;have hel:=hP.el;have hle:=hen.le;have hlp:=hen.wd.lp;have hll:=hen.wd.ll;have hwn:wds.length<=1000000:=by omega
 have hg20:gs.length<=20:=by omega
 have hrt:=hP.rt;refine rc1 hbuild @enT.eq_1 ?_;refine zD ?_;by_cases h400:400<els.length
 ·have d1:decide ((els.length:Int)>400)=true:=by simp;omega
  refine rg1 @d1 ?_;refine cT1 @d1 ?_;refine rg0 ?_;refine zI ?_;refine⟨_,.inl ⟨rfl,.inr ⟨els,pre,last,wds,right,hP,h400⟩⟩,?_⟩;refine⟨⟨.inr rfl,_,[],(by simp;rfl),trivial,trivial,by simp,?_⟩,by simp⟩;simp[zMI]
 have d1:decide ((els.length:Int)>400)=false:=by simp;omega
 refine rg1 @d1 ?_;refine cS1 @d1 ?_;refine rq1 (zL4 (p:=0) (n:=n) (gs:=gs) (pre:=pre) (last:=last) (rls:=rls) (done:=els.length) hrt hen.wd hle hg20 (by omega) hP.wl) @enT.eq_1 ?_;refine zD ?_;refine rg0 ?_;refine zG ?_;refine awp_loop (fun y:Nat×List Bool=>mkS [(0,.t 0 (rows gs)),(1,.t 2 (.int .i64 0)),(2,.t 0 (zH fin)),(6,.ptr 0 0 6),(8,.ptr 1 0 9),(10,.ptr 2 0 6),(41,.t 2 (rows els)),(42,.t 2 (.int .i64 els.length)),(43,.t 2 (.int .i64 y.1))]
   [(0,.box 27 [.any,.any,.any,.any,.any,.any]),(1,.box 141 [.any,.any,.any,.t 2 (rows els),.t 2 (ints pre),.t 2 (ints last),.any,.any,.any]),(2,.box 27 [.t 2 (.int .i64 gs.length),.t 2 (rows (zBO right wds els.length)),.own 3 y.1,.t 2 (.sl 0 []),.own 4 y.1,.own 5 els.length]),(3,.row 9 1 2 (wsT (wds.take y.1))),(4,.row 4 1 2 (y.2.map .bool)),(5,.row 4 1 2 (zAR els.length fun _=>false))] 6 101 [.any,.any,.any])
  (fun y=>y.1<=els.length/\y.2.length=y.1/\y.2=(els.take y.1).map (zFA fin)) (fun y=>els.length-y.1) ?_ ?_
 ·refine⟨(0,[]),⟨by simp,rfl,rfl⟩,?_⟩;exact kw1 [(0,some 0),(1,some 7000000),(2,some 27000000),(3,none),(4,none),(5,some 25000000)] (an @rows.eq_1 (an @zH.eq_1 (an @enT.eq_1 (an @zAR.eq_1 (an @zr @wsT.eq_1)))))
 ·rintro⟨k,ac⟩ ⟨hk,hac,hace⟩;simp only at hk hac hace;refine rg0 ?_;refine zD ?_;by_cases hkn:k<els.length
  ·have hkw:k<wds.length:=by omega
   obtain⟨v1,v2,v3⟩:=hen.val k wds[k] els[k] (by simp) (by simp);have hes:0<els[k].length:=by have:=v2.1;omega
   obtain⟨w1,w2⟩:=v2.2 els[k][0] (by simp);obtain⟨z,hz⟩: ∃z:Nat,els[k][0]=(z:Int):=⟨els[k][0].toNat,by omega⟩;have hzf:z<fin.length:=by omega
   have hacz:fin[z]=zFA fin els[k]:=by
    unfold zFA;simp[Qv,hes,hz,hzf]
   refine cK1 @hkn ?_;refine zD ?_;refine zG ?_;refine rg1 @hkn ?_;refine rq1 (zGL hen.wd hg20 hwn (i:=k) (w:=wds[k]) (by simp)) (an @enW.eq_1 @wsT.eq_1) ?_;refine re1 (an @hes (an @hz (an @hzf @zH.eq_1))) ?_;refine rr0 ?_;refine⟨(k+1,ac++[fin[z]]),⟨by omega,by simp[hac],by
    rw[Qe hkn,List.map_append,←hace,hacz];rfl⟩,by simp;omega,?_⟩
   refine zP [(0,some 0),(1,some 1),(2,some 2),(3,some 3),(4,some 4),(5,some 5)] rfl ?_ ?_ ?_ ?_
   all_goals try simp[ints,rows,zH,wsT,hac]
   rw[Qe (by simpa using hkw)];simp
  ·have hke:k=els.length:=by omega
   have hacf:ac=els.map (zFA fin):=by rw[hace,hke,List.take_length]
   refine cF1 @hkn ?_;refine zK ?_;refine zD ?_;refine rg0 ?_;refine zG ?_;refine awp_loop (fun y:Nat=>mkS [(6,.ptr 0 0 6),(8,.ptr 1 0 9),(10,.ptr 2 0 6),(69,.t 0 (rows gs)),(70,.t 2 (.int .i64 gs.length)),(71,.t 2 (.int .i64 y))]
     [(0,.box 27 [.any,.any,.any,.any,.any,.any]),(1,.box 141 [.any,.any,.any,.t 2 (rows els),.any,.any,.any,.any,.any]),(2,.box 27 [.t 2 (.int .i64 gs.length),.t 2 (rows (zBO right wds els.length)),.t 2 (.sl 1 (wsT wds)),.own 3 y,.t 2 (zH ac),.own 5 els.length]),(3,.row 3 1 2 ((zIf (gs.take y) els).map (.int .i64))),(5,.row 4 1 2 (zAR els.length fun _=>false))] 6 101 [.any,.any,.any])
    (fun y=>y<=gs.length) (fun y=>gs.length-y) ?_ ?_
   ·refine⟨0,by omega,?_⟩;refine zP [(0,some 0),(1,some 1),(2,some 2),(3,none),(5,some 5)] rfl ?_ ?_ ?_ ?_
    all_goals try simp[rows,zH,zIf,hac,hke,wsT]
    exact⟨by omega,by rw[Qm (by simp;omega)]⟩
   ·intro x hx;refine rg0 ?_;refine zD ?_;by_cases hxg:x<gs.length
    ·have hels: ∀e∈els,e.length<=1000000:=fun e he=>by
      obtain⟨i,hi,rfl⟩:=Qb he;obtain⟨h1,h2,h3⟩:=hen.val i (wds[i]'(by omega)) els[i] (by simp) (by simp);have:=h2.1;omega
     refine cK1 @hxg ?_;refine zD ?_;refine zG ?_;refine rg1 @hxg ?_;refine zAW (by kernel_rfl) (fun K hK=>?_);simp
     (repeat' apply And.intro)
     all_goals (try omega)
     refine zV (caps:=[]) (zJn els gs[x] (by omega) hels) [] [] 2 rfl rfl rfl rfl (by kernel_rfl) (by simp) ?_ trivial trivial rfl trivial trivial (by simp) ?_
     ·simp[scal,rows,ints]
     simp[scal];and_intros<;>try first|apply hK|(show zAf _ _=true;kernel_rfl)|(show okH _ _ _=true;kernel_rfl)|omega|rfl|simp<;>omega
     refine rr0 ?_;refine⟨x+1,by omega,by omega,?_⟩;refine zP [(0,some 0),(1,some 1),(2,some 2),(3,some 3),(5,some 5)] rfl ?_ ?_ ?_ ?_
     all_goals try simp[rows,zH,zIf]
     rw[Qe (by simpa using hxg)];simp
    ·have hxe:x=gs.length:=by omega
     have htb:=zNL hrt hle hP.wl;obtain⟨res3,⟨gg,hG,rfl⟩,hgen⟩:=zHa (zIf gs els) htb (by omega) (by simp[zIf];omega);have hml:((List.range els.length).filter gg).length<=els.length:=Nat.le_trans (List.length_filter_le _ _) (by simp);refine cF1 @hxg ?_;refine zK ?_;subst hxe;refine zD ?_;refine rc1 hgen @zIf.eq_1 ?_;refine zG ?_;refine awp_loop (fun y:Nat×(Nat->Bool)=>mkS [(6,.ptr 0 0 6),(10,.ptr 2 0 6),(89,.t 2 (.sl 1 (zAZ ((List.range els.length).filter gg)))),(90,.t 2 (.int .i64 ((List.range els.length).filter gg).length)),(91,.t 2 (.int .i64 y.1))]
       [(0,.box 27 [.any,.any,.any,.any,.any,.any]),(2,.box 27 [.t 2 (.int .i64 gs.length),.t 2 (rows (zBO right wds els.length)),.t 2 (.sl 1 (wsT wds)),.t 2 (ints (zIf gs els)),.t 2 (zH ac),.own 5 els.length]),(5,.row 4 1 2 (zAR els.length y.2))] 6 101 [.any,.any,.any])
      (fun y=>y.1<=((List.range els.length).filter gg).length/\ ∀i,y.2 i=decide (i∈((List.range els.length).filter gg).take y.1)) (fun y=>((List.range els.length).filter gg).length-y.1) ?_ ?_
     ·refine⟨(0,fun _=>false),⟨by simp,fun i=>by simp⟩,?_⟩;exact kw1 [(0,some 0),(2,some 2),(5,some 5)] (an @rows.eq_1 (an @zH.eq_1 @zIf.eq_1))
     ·rintro⟨y,pl⟩ ⟨hy,hpl⟩;simp only at hy hpl;refine rg0 ?_;refine zD ?_;by_cases hyl:y<((List.range els.length).filter gg).length
      ·have hym:((List.range els.length).filter gg)[y]<els.length:=by
        have:=List.getElem_mem hyl;simp only[List.mem_filter,List.mem_range]at this;exact this.1
       refine cK1 @hyl ?_;refine zD ?_;refine zG ?_;obtain⟨z,hz⟩: ∃z,z=((List.range els.length).filter gg)[y]:=⟨_,rfl⟩;rw[←hz]at hym;refine rg1 (an @zAZ.eq_1 (an @hyl hz.symm)) ?_;refine rr1 (an @zAR.eq_1 @hym) ?_;refine rr0 ?_;refine⟨(y+1,fun i=>if i=z then true else pl i),⟨by simp;omega,fun i=>?_⟩,by simp;omega,?_⟩
       ·show(if i=z then true else pl i)=_;rw[hpl i,Qe hyl,←hz];by_cases e:i=z<;>simp[e]
       refine zP [(0,some 0),(2,some 2),(5,some 5)] rfl ?_ ?_ ?_ ?_
       all_goals try simp[ints,rows,zH,zAR,zg,zAZ]
       refine zT (fun i hi=>?_);by_cases e:i=z<;>simp[e]
      ·refine cF1 @hyl ?_;refine zK ?_;refine rg0 ?_;refine zI ?_;have hfin:zAR els.length pl=psC els.length els.length (right.any fun r=>decide ((0:Int)∈r)):=by
        unfold zAR psC;refine zT fun i hi=>?_
        congr 1;rw[hpl i,Qm (by omega),←hP.plus h.tr hG hi]
        cases e:gg i<;>simp[e,hi]
       have hr0:0<right.length:=by have:=hP.rd;have:=hP.pos;omega
       have hsy:zHm 2 gs.length fin els wds right (right[0]'hr0)= .agg [.t 2 (.int .i64 gs.length),.t 2 (rows (zBO right wds els.length)),.t 2 (.sl 1 (wsT wds)),.t 2 (ints (zIf gs els)),.t 2 (zH ac),.t 2 (.sl 1 (zAR els.length pl))]:=by
        unfold zHm;rw[hfin,hP.zUe h.tr (Qj hr0),hacf]
       refine⟨_,.inr ⟨els,pre,last,wds,right,right[0]'hr0,hP,by omega,by simp,rfl⟩,?_⟩;rw[hsy];refine⟨⟨.inr rfl,_,[],(by simp;rfl),trivial,trivial,by simp,?_⟩,by simp[zH]⟩;simp[ints,rows,zH]
theorem zG0{L n s:Nat}{bs:List Bool}{nxt:List (List Int)}(h:DfL L n s bs nxt)(hL:1<=L)(hL2:L<=6)(hn:n<=512)(hm32: ∀m bs' nx',MiX L n s bs nxt m bs' nx'->m<=32): ∃res,(∃m bs' nx',MiX L n s bs nxt m bs' nx'/\((res= .tup [zMI,.t 2 (.int .i64 3)]/\SyF L m nx')\/ ∃els pre last wds right r0,SyX L m nx' els pre last wds right r0/\res= .tup [zHm 2 L bs' els wds right r0,.t 2 (.int .i64 0)]))/\FnS Tryz.prog 23 [dfT 0 L s bs nxt] [] res []:=by
 obtain⟨res1,⟨m,bs1,nx1,hX,rfl⟩,hmin⟩:=zJb h hL hL2 hn;have hm:=hm32 m bs1 nx1 hX;have hD:=hX.mn.df;have hbl:=hD.bl;refine zm Tryz.func23 rfl (by simp[Tryz.f23]) ?_;rw[show Tryz.f23.ntmps=28 from rfl,show Tryz.f23.results= #[.cell 2 27,.tmp 3]from rfl];refine rg1 (an @dfT.eq_1 @zH.eq_1) ?_;refine zD ?_;refine rc1 (zHD h hL hL2 hn) (an @dfT.eq_1 @zH.eq_1) ?_;refine rg0 ?_;refine cS0 ?_;refine rc1 hmin (an @dfT.eq_1 @zH.eq_1) ?_;refine zD ?_;refine rg1 @hbl ?_;have h32: ¬(32:Int)<m:=by omega
 obtain⟨res2,hO,hof⟩:=zQX (hD.gn hL hL2 (by omega)) bs1 hD.n1 hbl;rw[zq]at hO;refine cS1 @h32 ?_;rcases hO with⟨rfl,hF⟩|⟨els,pre,last,wds,right,r0,hP,h400,h0,rfl⟩
 ·refine zo (by kernel_rfl) (fun K hK=>?_);simp
  (repeat' apply And.intro)
  all_goals (try omega)
  refine zV (caps:=[]) (zKL hD hL hL2 (by omega)) [] [] 2 rfl rfl rfl rfl (by kernel_rfl) (by simp) ?_ trivial trivial rfl trivial trivial (by simp) ?_
  ·simp[scal,rows,dfT,zH]
  simp[rows,scal]
  (repeat' apply And.intro)
  all_goals (try omega)
  refine zV (caps:=[]) (hof) [] [] 2 rfl rfl rfl rfl (by kernel_rfl) (by simp) ?_ trivial trivial rfl trivial trivial (by simp) ?_
  ·simp[scal,rows,zH]
  simp[scal,zMI];and_intros<;>try first|apply hK|(show zAf _ _=true;kernel_rfl)|(show okH _ _ _=true;kernel_rfl)|omega|rfl|simp<;>omega
  refine zI ?_;refine⟨_,⟨m,bs1,nx1,hX,.inl ⟨rfl,hF⟩⟩,?_⟩;refine⟨⟨.inr rfl,_,[],(by simp;rfl),trivial,trivial,by simp,?_⟩,by simp[dfT,zH]⟩;simp[zMI]
 ·refine zo (by kernel_rfl) (fun K hK=>?_);simp
  (repeat' apply And.intro)
  all_goals (try omega)
  refine zV (caps:=[]) (zKL hD hL hL2 (by omega)) [] [] 2 rfl rfl rfl rfl (by kernel_rfl) (by simp) ?_ trivial trivial rfl trivial trivial (by simp) ?_
  ·simp[scal,rows,dfT,zH]
  simp[rows,scal]
  (repeat' apply And.intro)
  all_goals (try omega)
  refine zV (caps:=[]) (hof) [] [] 2 rfl rfl rfl rfl (by kernel_rfl) (by simp) ?_ trivial trivial rfl trivial trivial (by simp) ?_
  ·simp[scal,rows,zH]
  simp[ints,rows,scal,zHm,zH];and_intros<;>try first|apply hK|(show zAf _ _=true;kernel_rfl)|(show okH _ _ _=true;kernel_rfl)|omega|rfl|simp<;>omega
  refine zI ?_;refine⟨_,⟨m,bs1,nx1,hX,.inr ⟨els,pre,last,wds,right,r0,⟨hm,hP,h400,h0⟩,rfl⟩⟩,?_⟩;refine⟨⟨.inr rfl,_,[],(by simp;rfl),trivial,trivial,by simp,?_⟩,by simp[dfT,zH]⟩;simp[ints,rows,zHm,zH]
