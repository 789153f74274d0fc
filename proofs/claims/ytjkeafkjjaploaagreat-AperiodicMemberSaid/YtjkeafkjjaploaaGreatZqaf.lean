/- Lemmas for the law AperiodicMember. No conditions. -/
import Derived.Test.YtjkeafkjjaploaaGreatZqad
import Derived.Test.YtjkeafkjjaploaaGreatZqae
set_option linter.all false
namespace Go.Proofs.YtjkeafkjjaploaaGreat.M
open Go.RowKit
set_option maxRecDepth 100000
set_option maxHeartbeats 32000000

theorem zR4{m:Mem}{w:World}{v:Value}{z:Nat}{cs:List T}(hm: ∀b o u,m b o=some u->w.cell? ⟨b,o,none⟩=some u)(h:Rep m v (.sl z cs))(hz1:z=1):
  ∃a cap,v= .slice a cs.length cap/\cs.length<=cap/\cap<=9223372036854775807/\(0<cs.length-> ∃b o,a=some ⟨b,o,none⟩/\ ∀i c,cs[i]? =some c-> ∃u,w.cell? ⟨b,o+i,none⟩=some u/\Rep m u c):=by
 cases h with
 |nil=>exact⟨none,0,rfl,by simp,by omega,fun h=>by simp at h⟩
 |emp a=>exact⟨some a,0,rfl,by simp,by omega,fun h=>by simp at h⟩
 |sl b o n cap z cs vs hz hn h1 h2 hc hr=>
  subst hz1;have hn:cs.length=n:=by omega
  subst hn;exact⟨_,cap,rfl,h1,h2,fun _=>⟨b,o,rfl,fun i c hi=>⟨vs i,hm _ _ _ (hc i c hi),hr i c hi⟩⟩⟩
theorem zRF{m:Mem}{w:World}{v:Value}{xs:List Int}(hm: ∀b o u,m b o=some u->w.cell? ⟨b,o,none⟩=some u)(h:Rep m v (ints xs)):zRc w v xs:=by
 obtain⟨a,cap,rfl,h1,h2,h3⟩:=zR4 hm h rfl;simp only[List.length_map]at h1 h3 ⊢;refine⟨a,cap,rfl,h1,h2,fun h0=>?_⟩;obtain⟨b,o,rfl,hc⟩:=h3 h0;refine⟨b,o,rfl,fun i hi=>?_⟩;have hi:i<xs.length:=hi;obtain⟨u,hu,hr⟩:=hc i (.int .i64 xs[i]) (by simp[hi]);rw[hu]
 cases hr;simp[zAP,hi]
theorem zQl{m:Mem}{w:World}{v:Value}{t:List (List Int)}(hm: ∀b o u,m b o=some u->w.cell? ⟨b,o,none⟩=some u)(h:Rep m v (rows t)):zP6 w v t:=by
 obtain⟨a,cap,rfl,h1,h2,h3⟩:=zR4 hm h rfl;simp only[List.length_map]at h1 h3 ⊢;refine⟨a,cap,rfl,h1,h2,fun h0=>?_⟩;obtain⟨b,o,rfl,hc⟩:=h3 h0;refine⟨b,o,rfl,fun i hi=>?_⟩;have hi:i<t.length:=hi;obtain⟨u,hu,hr⟩:=hc i (ints t[i]) (by simp[hi]);refine⟨u,hu,?_⟩;have:=zRF hm hr;simpa[zAP,hi]using this
def zOE(v:Value):Prop:=v= .slice none 0 0\/ ∃b o l c,v= .slice (some ⟨b,o,none⟩) l c
theorem zQN{m:Mem}{w:World}{v:Value}{xs:List Int}(h:zRc w v xs)(hp:zOE v)(hm: ∀b o l c u k,v= .slice (some ⟨b,o,none⟩) l c->w.cell? ⟨b,k,none⟩=some u->m b k=some u):Rep m v (ints xs):=by
 obtain⟨a,cap,rfl,h1,h2,h3⟩:=h;rcases hp with hp|⟨b,o,l,c,hp⟩
 ·injection hp with e1 e2 e3;have:xs=[]:=List.length_eq_zero_iff.1 e2;subst this e1 e3;exact .nil 1
 ·injection hp with e1 e2 e3;subst e1 e2 e3;refine .sl b o (lnx xs) cap 1 _ (fun i=>.int .i64 (zAP xs i)) (by omega) (by simp[lnx]) h1 h2 (fun i c hi=>?_) (fun i c hi=>?_)
  all_goals
   have hl:i<xs.length:=by have:=(Qq.1 hi).1;simpa using this
  ·obtain⟨b',o',e,hc⟩:=h3 (by show 0<xs.length;omega);injection e with e;injection e with e1 e2;subst e1 e2;exact hm _ _ _ _ _ _ rfl (hc i hl)
  ·simp[hl]at hi;subst hi;rw[show zAP xs i=xs[i] by simp[zAP,hl]];exact .int .i64 _
theorem zQG{lo:Nat}{V:Nat->Prop}{ob:Nat->Option (Value×Nat)}{w:World}{p:Nat}: ∀b o u,zFu lo V ob w p b o=some u->w.cell? ⟨b,o,none⟩=some u:=fun b o u h=>zCX h
theorem MR.after{w w':World}{V U:Nat->Prop}{ob:Nat->Option (Value×Nat)}(h:MR w V (OB ob) U (fun k=>([]:List AObj)[k]?) ob w)(hb:Below w.heap.size w w'):MR w V (OB ob) U (fun k=>([]:List AObj)[k]?) ob w':=
 ⟨h.live,fun id o hi=>by simp at hi,h.sep,h.new,Onl.zQm hb,h.gl⟩
theorem zNT{P:Program}{f:FuncId}{args:List AV}{vs:Array Value}{w:World}(hgl:GlW (fun _=>False) w)(h:FnA P f args (.t 2 (.bool true)))(hn:vs.size=args.length)(hv: ∀(i:Nat) c,args[i]? =some c->VR (zh w.heap.size (fun _=>True) (fun _=>none) (fun k=>k<0) w) (vs.getD i undef) c):Calls P f vs w (fun e w'=>e= .returned (.bool true)/\Below w.heap.size w w'):=by
 have hob: ∀k,¬OB (fun _=>none) k:=fun k ⟨id,u,n,h1,_⟩=>by cases h1
 refine(h w (fun _=>True) (fun _=>none) vs ⟨fun id u n e=>(by cases e),fun id o e=>(by simp at e),fun id id' u u' n n' k _ e=>(by cases e),fun id u n k e=>(by cases e),Onl.refl _ _,fun g cs hg=>⟨(hgl g cs hg).1,hob g,(hgl g cs hg).2.2⟩⟩ hn hv).mono ?_;rintro e w' ⟨v,ob',rfl,hm,hr,-⟩;rw[hr.bool];exact⟨rfl,hm.only.below fun k _=>hob k⟩
theorem zSR{w:World}{v:Value}{xs:List Int}(h:zRc w v xs)(hp:zOE v):VR (zh w.heap.size (fun _=>True) (fun _=>none) (fun k=>k<0) w) v (.t 1 (ints xs)):=
 .t _ _ _ (zQN h hp fun b o l c u k _ hc=>zk.2 ⟨fun⟨id,u,n,h1,_⟩=>(by cases h1),.inr (.inr ⟨rfl,trivial⟩),hc⟩)
theorem vs1{vs:Array Value}(hn:vs.size=1):vs= #[vs.getD 0 undef]:=by
 apply Array.ext
 ·simpa using hn
 ·intro i h1 h2;have:i<1:=by simpa using h2
  obtain rfl:i=0:=by omega
  simp[Array.getD,h1]
theorem zUb{E:Ev}{f:Nat->Value}: ∀{l:List AV},(∀a∈l,ghA1 a= .any)->GhR E f (ghA l):=fun {l} h i c hi=>by
 unfold ghA at hi;rw[Qh]at hi
 cases e:l[i]? with
 |none=>rw[e]at hi;cases hi
 |some a=>
  rw[e]at hi;simp only[Qf,Qx]at hi;rw[h a (Qc e)]at hi;subst hi;exact .any _
structure TbL(t:List (List Int))(n:Nat)(T:Nat->Nat->Nat):Prop where
 len:t.length=n
 row: ∀r (h:r<t.length),t[r].length=n
 val: ∀r c (h:r<t.length) (h2:c<t[r].length),t[r][c]=(T r c:Int)
 lt: ∀r c,r<n->c<n->T r c<n
theorem zG9{α:Type}[Inhabited α]{l:List α}{i:Nat}(h:i<l.length):zAP l i=l[i]:=by simp[zAP,h]
theorem TbL.of{t:List (List Int)}(h:zC1 t=0):TbL t t.length (zQ t):=by
 obtain⟨h0,h4,hr⟩:=zBz (zEb h).1;refine⟨rfl,fun r h=>?_,fun r c h h2=>?_,fun r c h h2=>?_⟩
 ·have:=(hr r h).1;rw[zG9 h]at this;exact this
 ·have:=(hr r h).2 c (by rw[zG9 h];exact h2);unfold zQ;rw[zG9 h]at this ⊢;rw[zG9 h2]at this ⊢;omega
 ·have:=(hr r h).2 c (by have:=(hr r h).1;simp only[lnx]at this ⊢;omega);unfold zQ;simp only[lnx]at this;omega
theorem zG7{t:List (List Int)}(h:zC1 t=0):zAz t.length (zQ t):=(zEb h).2
theorem zCt{t:List (List Int)}(h:zC1 t=0):0<t.length/\t.length<=400:=⟨(zBz (zEb h).1).1,(zBz (zEb h).1).2.1⟩
def omF(T:Nat->Nat->Nat)(x:Nat):Nat->Nat->Nat
 |0,e=>e
 |f+1,e=>if T e e=e then e else omF T x f (T e x)
def omT(T:Nat->Nat->Nat)(n x:Nat):Nat:=omF T x n x
def zU7(T:Nat->Nat->Nat)(e g:Nat):Nat->Nat->Nat
 |0,y=>y
 |f+1,y=>if T y g=e then y else zU7 T e g f (T y g)
def itT(T:Nat->Nat->Nat)(x:Nat):Nat->Nat->Nat
 |0,y=>y
 |k+1,y=>T (itT T x k y) x
def zIh(T:Nat->Nat->Nat)(n x:Nat)(m:Int):Nat:=if m<0 then zU7 T (omT T n x) (T (omT T n x) x) n (omT T n x)else itT T x m.toNat (omT T n x)
def pw(T:Nat->Nat->Nat)(x:Nat)(k:Nat):Nat:=itT T x k x
section
variable{T:Nat->Nat->Nat}{n:Nat}
theorem zDG(x k:Nat):pw T x (k+1)=T (pw T x k) x:=rfl
theorem zFe(hT: ∀r c,r<n->c<n->T r c<n){x y:Nat}(hx:x<n)(hy:y<n): ∀k,itT T x k y<n
 |0=>hy
 |k+1=>hT _ _ (zFe hT hx hy k) hx
theorem zLr(hT: ∀r c,r<n->c<n->T r c<n){x:Nat}(hx:x<n)(k:Nat):pw T x k<n:=zFe hT hx hx k
theorem zGB(hT: ∀r c,r<n->c<n->T r c<n)(hA:zAz n T){x y:Nat}(hx:x<n)(hy:y<n): ∀k,T y (pw T x k)=itT T x (k+1) y
 |0=>rfl
 |k+1=>by
  rw[zDG,←hA y _ x hy (zLr hT hx k) hx,zGB hT hA hx hy k];rfl
theorem zJm(x y:Nat)(j:Nat): ∀k,itT T x k (itT T x j y)=itT T x (j+k) y
 |0=>rfl
 |k+1=>by
  show T (itT T x k (itT T x j y)) x=T (itT T x (j+k) y) x;rw[zJm x y j k]
theorem zRT(hT: ∀r c,r<n->c<n->T r c<n)(hA:zAz n T){x:Nat}(hx:x<n)(j k:Nat):T (pw T x j) (pw T x k)=pw T x (j+k+1):=by
 rw[zGB hT hA hx (zLr hT hx j)];exact zJm x x j (k+1)
theorem zUu(x j k:Nat):itT T x k (pw T x j)=pw T x (j+k):=zJm x x j k
theorem zMA{l:List Nat}:l.Nodup->(∀x∈l,x<n)->l.length<=n:=by
 induction n generalizing l with
 |zero=>
  intro _ h
  cases l with
  |nil=>simp
  |cons a r=>exact absurd (h a (by simp)) (by omega)
 |succ m ih=>
  intro hd h;by_cases hm:m∈l
  ·have h1:=ih (l:=l.erase m) (hd.erase m) (fun x hx=>by
    have h2:=h x (List.mem_of_mem_erase hx);have h3:x≠m:=fun e=>by
     subst e;exact(List.Nodup.not_mem_erase hd) hx
    omega)
   rw[List.length_erase_of_mem hm]at h1;omega
  ·have h1:=ih (l:=l) hd (fun x hx=>by
    have h2:=h x hx;have h3:x≠m:=fun e=>hm (e▸hx)
    omega)
   omega
theorem zVI(hT: ∀r c,r<n->c<n->T r c<n){x:Nat}(hx:x<n): ∃i j,i<j/\j<=n/\pw T x i=pw T x j:=by
 refine Classical.byContradiction fun hno=>?_
 have hd:((List.range (n+1)).map (pw T x)).Nodup:=by
  rw[List.nodup_iff_pairwise_ne,List.pairwise_map];refine List.Pairwise.imp_of_mem (R:=fun a b=>a<b) (fun {a b} ha hb hlt e=>hno ⟨a,b,hlt,?_,e⟩) List.pairwise_lt_range;have:=List.mem_range.1 hb;omega
 have:=zMA (n:=n) hd (fun y hy=>by
  obtain⟨k,_,rfl⟩:=List.mem_map.1 hy;exact zLr hT hx k)
 simp at this;omega
theorem zSZ(hT: ∀r c,r<n->c<n->T r c<n)(hA:zAz n T){x:Nat}(hx:x<n): ∃k,k<n/\T (pw T x k) (pw T x k)=pw T x k:=by
 obtain⟨i,j,hij,hj,he⟩:=zVI hT hx;have hper: ∀m,i<=m->pw T x (m+(j-i))=pw T x m:=fun m hm=>by
  have h1:=zUu (T:=T) x i (m-i);have h2:=zUu (T:=T) x j (m-i);rw[he,h2]at h1;rw[show m+(j-i)=j+(m-i) by omega,h1,show i+(m-i)=m by omega]
 have hperq: ∀q m,i<=m->pw T x (m+q*(j-i))=pw T x m:=fun q=>by
  induction q with
  |zero=>intro m _;simp
  |succ q ih=>
   intro m hm;rw[show m+(q+1)*(j-i)=(m+q*(j-i))+(j-i) by rw[Nat.add_mul];omega,hper _ (by omega),ih m hm]
 obtain⟨p,hp⟩: ∃p,p=j-i:=⟨_,rfl⟩;rw[←hp]at hperq;have hp0:0<p:=by omega
 obtain⟨q,hq⟩: ∃q,q=(i+p)/p:=⟨_,rfl⟩;have h1:q*p<=i+p:=by rw[hq];exact Nat.div_mul_le_self _ _
 have h2:i+p<(q+1)*p:=by rw[hq,←Nat.div_lt_iff_lt_mul hp0];omega
 rw[Nat.add_mul]at h2;refine⟨q*p-1,by omega,?_⟩;rw[zRT hT hA hx,show q*p-1+(q*p-1)+1=(q*p-1)+q*p by omega];exact hperq q _ (by omega)
theorem zCA(hT: ∀r c,r<n->c<n->T r c<n)(hA:zAz n T){x:Nat}(hx:x<n): ∃k,k<n/\omT T n x=pw T x k/\T (pw T x k) (pw T x k)=pw T x k/\ ∀j,j<k->T (pw T x j) (pw T x j)≠pw T x j:=by
 obtain⟨k0,hk0,hi0⟩:=zSZ hT hA hx;have key: ∀f i,i+f=n->(∀j,j<i->T (pw T x j) (pw T x j)≠pw T x j)-> ∃k,k<n/\omF T x f (pw T x i)=pw T x k/\T (pw T x k) (pw T x k)=pw T x k/\ ∀j,j<k->T (pw T x j) (pw T x j)≠pw T x j:=by
  intro f
  induction f with
  |zero=>
   intro i hi hno;exact absurd hi0 (hno k0 (by omega))
  |succ f ih=>
   intro i hi hno;rw[omF];by_cases h:T (pw T x i) (pw T x i)=pw T x i
   ·rw[if_pos h];exact⟨i,by omega,rfl,h,hno⟩
   ·rw[if_neg h,←zDG (T:=T) x i];refine ih (i+1) (by omega) (fun j hj=>?_);by_cases hji:j=i
    ·rw[hji];exact h
    ·exact hno j (by omega)
 exact key n 0 (by omega) (fun j hj=>by omega)
theorem zKy(hT: ∀r c,r<n->c<n->T r c<n)(hA:zAz n T){x:Nat}(hx:x<n):omT T n x<n:=by
 obtain⟨k,_,h,_⟩:=zCA hT hA hx;rw[h];exact zLr hT hx k
theorem zKe(hT: ∀r c,r<n->c<n->T r c<n)(hA:zAz n T){x:Nat}(hx:x<n):T (omT T n x) (omT T n x)=omT T n x:=by
 obtain⟨k,_,h,h2,_⟩:=zCA hT hA hx;rw[h];exact h2
theorem zKX(hT: ∀r c,r<n->c<n->T r c<n)(hA:zAz n T){x:Nat}(hx:x<n): ∃k,k<n/\zU7 T (omT T n x) (T (omT T n x) x) n (omT T n x)=itT T x k (omT T n x)/\T (itT T x k (omT T n x)) x=omT T n x/\ ∀j,j<k->T (itT T x j (omT T n x)) x≠omT T n x:=by
 obtain⟨k0,hk0,h1,h2,-⟩:=zCA hT hA hx;have he:=zKy hT hA hx;have hi:=zKe hT hA hx;generalize omT T n x=e at h1 he hi ⊢;have hk:T (itT T x k0 e) x=e:=by
  have:=zGB hT hA hx he k0;rw[←h1,hi]at this;exact this.symm
 -- right multiplication by e keeps e x^j
 have hr: ∀j,T (itT T x j e) e=itT T x j e:=fun j=>by
  have hc:T (itT T x j e) e=itT T x (k0+1+j) e:=by
   have h3:=zGB hT hA hx (zFe hT hx he j) k0;rw[←h1]at h3;rw[h3,zJm];congr 1;omega
  rw[hc];have h4:itT T x (k0+1) e=e:=hk;have h5:=zJm (T:=T) x e (k0+1) j;rw[h4]at h5;exact h5.symm
 have hg: ∀j,T (itT T x j e) (T e x)=T (itT T x j e) x:=fun j=>by
  rw[←hA _ e x (zFe hT hx he j) he hx,hr j]
 have key: ∀f i,i+f=n->(∀j,j<i->T (itT T x j e) x≠e)-> ∃k,k<n/\zU7 T e (T e x) f (itT T x i e)=itT T x k e/\T (itT T x k e) x=e/\ ∀j,j<k->T (itT T x j e) x≠e:=by
  intro f
  induction f with
  |zero=>
   intro i hi hno;exact absurd hk (hno k0 (by omega))
  |succ f ih=>
   intro i hi hno;rw[zU7,hg i];by_cases h:T (itT T x i e) x=e
   ·rw[if_pos h];exact⟨i,by omega,rfl,h,hno⟩
   ·rw[if_neg h];refine ih (i+1) (by omega) (fun j hj=>?_);by_cases hji:j=i
    ·rw[hji];exact h
    ·exact hno j (by omega)
 exact key n 0 (by omega) (fun j hj=>by omega)
theorem zVv(hT: ∀r c,r<n->c<n->T r c<n)(hA:zAz n T){x:Nat}(hx:x<n)(j:Nat):T (itT T x j (omT T n x)) (T (omT T n x) x)=T (itT T x j (omT T n x)) x:=by
 obtain⟨k0,hk0,h1,h2,-⟩:=zCA hT hA hx;have he:=zKy hT hA hx;have hi:=zKe hT hA hx;generalize omT T n x=e at h1 he hi ⊢;have hk:itT T x (k0+1) e=e:=by
  have:=zGB hT hA hx he k0;rw[←h1,hi]at this;exact this.symm
 have hr:T (itT T x j e) e=itT T x j e:=by
  have h3:=zGB hT hA hx (zFe hT hx he j) k0;rw[←h1]at h3;rw[h3,zJm];have h5:=zJm (T:=T) x e (k0+1) j;rw[hk]at h5;rw[h5];congr 1;omega
 rw[←hA _ e x (zFe hT hx he j) he hx,hr]
theorem zTm(hT: ∀r c,r<n->c<n->T r c<n)(hA:zAz n T){x:Nat}(hx:x<n)(m:Int):zIh T n x m<n:=by
 unfold zIh;have he:=zKy hT hA hx;split
 ·obtain⟨k,_,h,_⟩:=zKX hT hA hx;rw[h];exact zFe hT hx he k
 ·exact zFe hT hx he _
end
mutual
def Tm.ev(T:Nat->Nat->Nat)(n one:Nat)(v:Nat->Nat):Tm->Nat
 | .mk o m l=>if o=1 then one else if o=2 then v m.toNat else if o=4 then zIh T n (evL T n one v none l) m else evL T n one v none l
def evL(T:Nat->Nat->Nat)(n one:Nat)(v:Nat->Nat):Option Nat->List Tm->Nat
 |acc,[]=>acc.getD 0
 |none,a::r=>evL T n one v (some (a.ev T n one v)) r
 |some y,a::r=>evL T n one v (some (T y (a.ev T n one v))) r
end
structure ApM(n:Nat)(T:Nat->Nat->Nat):Prop where
 n0:0<n
 lt: ∀x y,x<n->y<n->T x y<n
 asc: ∀x y z,x<n->y<n->z<n->T (T x y) z=T x (T y z)
 idl: ∀x,x<n->T 0 x=x
 idr: ∀x,x<n->T x 0=x
 ap: ∀x,x<n-> ∃k,itT T x (k+1) 0=itT T x k 0
def RLe(n:Nat)(T:Nat->Nat->Nat)(x y:Nat):Prop:=∃s,s<n/\T x s=y
def LLe(n:Nat)(T:Nat->Nat->Nat)(x y:Nat):Prop:=∃s,s<n/\T s x=y
def JLe(n:Nat)(T:Nat->Nat->Nat)(x y:Nat):Prop:=∃s t,s<n/\t<n/\T (T s x) t=y
section
variable{n:Nat}{T:Nat->Nat->Nat}
theorem ApM.zJf(h:ApM n T){x y:Nat}(hx:x<n)(hy:y<n): ∀k,itT T x k y<n
 |0=>hy
 |k+1=>h.lt _ _ (h.zJf hx hy k) hx
theorem ApM.zQ8(h:ApM n T){x y:Nat}(hx:x<n)(hy:y<n): ∀k,itT T x k y=T y (itT T x k 0)
 |0=>(h.idr y hy).symm
 |k+1=>by
  show T (itT T x k y) x=T y (T (itT T x k 0) x);rw[h.zQ8 hx hy k,h.asc _ _ _ hy (h.zJf hx h.n0 k) hx]
theorem ApM.zCG(h:ApM n T){u v x:Nat}(hu:u<n)(hv:v<n)(hx:x<n)(e:T (T u x) v=x): ∀k,T (T (itT T u k 0) x) (itT T v k 0)=x
 |0=>by
  show T (T 0 x) 0=x;rw[h.idl x hx,h.idr x hx]
 |k+1=>by
  have ih:=h.zCG hu hv hx e k;have huk:=h.zJf hu h.n0 k;have hvk:=h.zJf hv h.n0 k;have e1:T (itT T u k 0) u=T u (itT T u k 0):=by
   have h1:=h.zQ8 hu hu k;have h2:itT T u (k+1) 0=itT T u k (T 0 u):=by
    clear ih e h1
    induction k with
    |zero=>rfl
    |succ k ih=>show T (itT T u (k+1) 0) u=T (itT T u k (T 0 u)) u;rw[ih (h.zJf hu h.n0 k) (h.zJf hv h.n0 k)]
   rw[h.idl u hu]at h2;show itT T u (k+1) 0=_;rw[h2,h1]
  show T (T (T (itT T u k 0) u) x) (T (itT T v k 0) v)=x;rw[e1];have hux:=h.lt _ _ hu hx;have h3:T (T (T u (itT T u k 0)) x) (T (itT T v k 0) v)=T (T u (T (T (itT T u k 0) x) (itT T v k 0))) v:=by
   rw[←h.asc _ _ _ (h.lt _ _ (h.lt _ _ hu huk) hx) hvk hv,h.asc u _ _ hu huk hx,h.asc u _ _ hu (h.lt _ _ huk hx) hvk]
  rw[h3,ih,e]
theorem ApM.zVs(h:ApM n T){x s:Nat}(hx:x<n)(hs:s<n)(hj:JLe n T (T x s) x):RLe n T (T x s) x:=by
 obtain⟨u,v,hu,hv,e⟩:=hj;have hxs:=h.lt _ _ hx hs
 -- u x (s v) = x
 have e0:T (T u (T x s)) v=T (T u x) (T s v):=by rw[←h.asc _ _ _ hu hx hs,h.asc _ _ _ (h.lt _ _ hu hx) hs hv]
 have e1:T (T u x) (T s v)=x:=by rw[←e0];exact e
 have hsv:=h.lt _ _ hs hv;obtain⟨k,hk⟩:=h.ap u hu;have h1:=h.zCG hu hsv hx e1 k;have h2:=h.zCG hu hsv hx e1 (k+1);rw[hk]at h2
 -- u^k x (sv)^(k+1) = x = u^k x (sv)^k,hence x (sv) = x
 have huk:=h.zJf hu h.n0 k;have hvk:=h.zJf hsv h.n0 k;have h3:T x (T s v)=x:=by
  have:T (T (itT T u k 0) x) (itT T (T s v) (k+1) 0)=T (T (T (itT T u k 0) x) (itT T (T s v) k 0)) (T s v):=by
   show T (T (itT T u k 0) x) (T (itT T (T s v) k 0) (T s v))=_;rw[h.asc _ _ _ (h.lt _ _ huk hx) hvk hsv]
  rw[this,h1]at h2;exact h2
 exact⟨v,hv,by rw[h.asc _ _ _ hx hs hv,h3]⟩
theorem ApM.zSt(h:ApM n T){x s:Nat}(hx:x<n)(hs:s<n)(hj:JLe n T (T s x) x):LLe n T (T s x) x:=by
 obtain⟨u,v,hu,hv,e⟩:=hj;have hsx:=h.lt _ _ hs hx;have hus:=h.lt _ _ hu hs;have e1:T (T (T u s) x) v=x:=by rw[h.asc _ _ _ hu hs hx,e]
 obtain⟨k,hk⟩:=h.ap v hv;have h1:=h.zCG hus hv hx e1 k;have h2:=h.zCG hus hv hx e1 (k+1);rw[hk]at h2;have huk:=h.zJf hus h.n0 k;have hvk:=h.zJf hv h.n0 k;have h4:itT T (T u s) (k+1) 0=T (T u s) (itT T (T u s) k 0):=by
  have h5: ∀j,itT T (T u s) (j+1) 0=itT T (T u s) j (T 0 (T u s)):=fun j=>by
   induction j with
   |zero=>rfl
   |succ j ih=>show T (itT T (T u s) (j+1) 0) _=T (itT T (T u s) j _) _;rw[ih]
  rw[h5,h.idl _ hus,h.zQ8 hus hus]
 have h3:T (T u s) x=x:=by
  rw[h4]at h2;have:T (T (T (T u s) (itT T (T u s) k 0)) x) (itT T v k 0)=T (T u s) (T (T (itT T (T u s) k 0) x) (itT T v k 0)):=by
   rw[h.asc _ _ _ hus huk hx,h.asc _ _ _ hus (h.lt _ _ huk hx) hvk]
  rw[this,h1]at h2;exact h2
 exact⟨u,hu,by rw[←h.asc _ _ _ hu hs hx,h3]⟩
theorem RLe.trans(h:ApM n T){x y z:Nat}(hx:x<n)(h1:RLe n T x y)(h2:RLe n T y z):RLe n T x z:=by
 obtain⟨s,hs,rfl⟩:=h1;obtain⟨t,ht,rfl⟩:=h2;exact⟨T s t,h.lt _ _ hs ht,(h.asc _ _ _ hx hs ht).symm⟩
theorem LLe.trans(h:ApM n T){x y z:Nat}(hx:x<n)(h1:LLe n T x y)(h2:LLe n T y z):LLe n T x z:=by
 obtain⟨s,hs,rfl⟩:=h1;obtain⟨t,ht,rfl⟩:=h2;exact⟨T t s,h.lt _ _ ht hs,h.asc _ _ _ ht hs hx⟩
theorem RLe.refl(h:ApM n T){x:Nat}(hx:x<n):RLe n T x x:=⟨0,h.n0,h.idr x hx⟩
theorem LLe.refl(h:ApM n T){x:Nat}(hx:x<n):LLe n T x x:=⟨0,h.n0,h.idl x hx⟩
theorem JLe.refl(h:ApM n T){x:Nat}(hx:x<n):JLe n T x x:=⟨0,0,h.n0,h.n0,by rw[h.idl x hx,h.idr x hx]⟩
theorem RLe.j(h:ApM n T){x y:Nat}(hx:x<n)(h1:RLe n T x y):JLe n T x y:=by
 obtain⟨s,hs,rfl⟩:=h1;exact⟨0,s,h.n0,hs,by rw[h.idl x hx]⟩
theorem LLe.j(h:ApM n T){x y:Nat}(hx:x<n)(h1:LLe n T x y):JLe n T x y:=by
 obtain⟨s,hs,rfl⟩:=h1;exact⟨s,0,hs,h.n0,h.idr _ (h.lt _ _ hs hx)⟩
theorem JLe.trans(h:ApM n T){x y z:Nat}(hx:x<n)(h1:JLe n T x y)(h2:JLe n T y z):JLe n T x z:=by
 obtain⟨s,t,hs,ht,rfl⟩:=h1;obtain⟨u,v,hu,hv,rfl⟩:=h2;refine⟨T u s,T t v,h.lt _ _ hu hs,h.lt _ _ ht hv,?_⟩;rw[h.asc _ _ _ hu hs hx,←h.asc _ _ _ (h.lt _ _ hu (h.lt _ _ hs hx)) ht hv,h.asc u _ _ hu (h.lt _ _ hs hx) ht]
theorem ApM.zWf(h:ApM n T){x y:Nat}(hx:x<n)(hy:y<n)(r1:RLe n T x y)(l1:LLe n T y x):x=y:=by
 -- y = x s,x = t y = t x s
 obtain⟨s,hs,e1⟩:=r1;obtain⟨t,ht,e2⟩:=l1;have e3:T (T t x) s=x:=by rw[h.asc _ _ _ ht hx hs,e1,e2]
 obtain⟨k,hk⟩:=h.ap s hs;have h1:=h.zCG ht hs hx e3 k;have htk:=h.zJf ht h.n0 k;have hsk:=h.zJf hs h.n0 k;have h2:T x s=x:=by
  conv=>lhs;rw[←h1]
  rw[h.asc _ _ _ (h.lt _ _ htk hx) hsk hs];show T (T (itT T t k 0) x) (itT T s (k+1) 0)=x;rw[hk,h1]
 rw[←e1,h2]
theorem ApM.unit(h:ApM n T){x:Nat}(hx:x<n)(hj:JLe n T x 0):x=0:=by
 obtain⟨s,t,hs,ht,e⟩:=hj;have hsx:=h.lt _ _ hs hx;have r1:RLe n T (T s x) 0:=⟨t,ht,e⟩;have hz: ∀y,y<n->RLe n T y 0->y=0:=fun y hy hr=>by
  obtain⟨t,ht,e⟩:=hr;obtain⟨k,hk⟩:=h.ap y hy;have this: ∀k,T (itT T y k 0) (itT T t k 0)=0:=fun k=>by
   have:=h.zCG hy ht h.n0 (by rw[h.idr y hy,e]) k
   rwa [h.idr _ (h.zJf hy h.n0 k)]at this
  have h1:=this k;have hyk:=h.zJf hy h.n0 k;have htk:=h.zJf ht h.n0 k;have h5: ∀j,itT T y (j+1) 0=itT T y j (T 0 y):=fun j=>by
   induction j with
   |zero=>rfl
   |succ j ih=>show T (itT T y (j+1) 0) _=T (itT T y j _) _;rw[ih]
  have h6:itT T y (k+1) 0=T y (itT T y k 0):=by rw[h5,h.idl y hy,h.zQ8 hy hy]
  have h2:T y (T (itT T y k 0) (itT T t k 0))=T (itT T y k 0) (itT T t k 0):=by
   rw[←h.asc _ _ _ hy hyk htk,←h6,hk]
  rw[h1,h.idr y hy]at h2;exact h2
 have h0:=hz _ hsx r1
 -- s x = 0,so x s' = 0 aS well
 have h3:LLe n T x 0:=⟨s,hs,h0⟩;have h4:s=0:=hz s hs ⟨x,hx,h0⟩;rw[h4,h.idl x hx]at h0;exact h0
end
def vlW(T:Nat->Nat->Nat)(im:Nat->Nat)(w:List Nat):Nat:=w.foldl (fun x a=>T x (im a)) 0
def zW1(n:Nat)(T:Nat->Nat->Nat)(im:Nat->Nat)(ab:Nat->Prop)(m:Nat)(w:List Nat):Prop:=∃u a s,w=u++a::s/\ab (vlW T im u)/\RLe n T m (T (vlW T im u) (im a))/\RLe n T (T (vlW T im u) (im a)) m/\ ¬RLe n T m (vlW T im u)
def zW3(n:Nat)(T:Nat->Nat->Nat)(im:Nat->Nat)(ab:Nat->Prop)(m:Nat)(w:List Nat):Prop:=∃p a v,w=p++a::v/\ab (vlW T im v)/\LLe n T m (T (im a) (vlW T im v))/\LLe n T (T (im a) (vlW T im v)) m/\ ¬LLe n T m (vlW T im v)
def zWs(n:Nat)(T:Nat->Nat->Nat)(im:Nat->Nat)(ab:Nat->Prop)(m:Nat)(w:List Nat):Prop:=(∃p a s,w=p++a::s/\ ¬JLe n T (im a) m)\/ ∃p a u c s,w=p++(a::(u++c::s))/\ab (vlW T im u)/\JLe n T (T (im a) (vlW T im u)) m/\JLe n T (T (vlW T im u) (im c)) m/\ ¬JLe n T (T (T (im a) (vlW T im u)) (im c)) m
theorem zI4{α:Type}{P:List α->Prop}(h0: ¬P [])(w:List α):P w-> ∃u a s,w=u++a::s/\ ¬P u/\P (u++[a]):=by
 have key: ∀k (w:List α),w.length=k->P w-> ∃u a s,w=u++a::s/\ ¬P u/\P (u++[a]):=by
  intro k
  induction k with
  |zero=>
   intro w hw h;rw[List.length_eq_zero_iff.1 hw]at h;exact absurd h h0
  |succ k ih=>
   intro w hw h;have hne:w≠[]:=by intro e;subst e;simp at hw
   have hd:=List.dropLast_concat_getLast hne;by_cases c:P w.dropLast
   ·obtain⟨u,a,s,e1,e2,e3⟩:=ih w.dropLast (by simp[hw]) c;refine⟨u,a,s++[w.getLast hne],?_,e2,e3⟩;have:=hd.symm;rw[e1]at this;exact this.trans (by simp)
   ·exact⟨w.dropLast,w.getLast hne,[],hd.symm,c,by rw[hd];exact h⟩
 exact key _ w rfl
theorem zGG{α:Type}{P:List α->Prop}(h0: ¬P []): ∀w:List α,P w-> ∃p a v,w=p++a::v/\ ¬P v/\P (a::v)
 |[],h=>absurd h h0
 |a::w,h=>by
  by_cases c:P w
  ·obtain⟨p,b,v,e1,e2,e3⟩:=zGG h0 w c;exact⟨a::p,b,v,by rw[e1];rfl,e2,e3⟩
  ·exact⟨[],a,w,rfl,c,h⟩
section
variable{n L:Nat}{T:Nat->Nat->Nat}{im:Nat->Nat}
theorem zEx(h:ApM n T)(hi: ∀a,a<L->im a<n): ∀(w:List Nat) (x:Nat),x<n->(∀a∈w,a<L)->w.foldl (fun x a=>T x (im a)) x<n/\w.foldl (fun x a=>T x (im a)) x=T x (vlW T im w)
 |[],x,hx,_=>⟨hx,(h.idr x hx).symm⟩
 |a::w,x,hx,hw=>by
  have ha:=hi a (hw a (by simp));have hw': ∀b∈w,b<L:=fun b hb=>hw b (by simp[hb])
  obtain⟨e1,e2⟩:=zEx h hi w (T x (im a)) (h.lt _ _ hx ha) hw';obtain⟨e3,e4⟩:=zEx h hi w (T 0 (im a)) (h.lt _ _ h.n0 ha) hw';obtain⟨e5,e6⟩:=zEx h hi w 0 h.n0 hw';refine⟨e1,?_⟩;show w.foldl _ (T x (im a))=T x (w.foldl _ (T 0 (im a)));rw[e2,e4,h.idl _ ha];exact h.asc _ _ _ hx ha e5
theorem zCN(h:ApM n T)(hi: ∀a,a<L->im a<n){w:List Nat}(hw: ∀a∈w,a<L):vlW T im w<n:=(zEx h hi w 0 h.n0 hw).1
theorem zDL(h:ApM n T)(hi: ∀a,a<L->im a<n){u v:List Nat}(hu: ∀a∈u,a<L)(hv: ∀a∈v,a<L):vlW T im (u++v)=T (vlW T im u) (vlW T im v):=by
 have:=(zEx h hi v (vlW T im u) (zCN h hi hu) hv).2;unfold vlW at this ⊢;rw[List.foldl_append];exact this
theorem zNd(h:ApM n T)(hi: ∀a,a<L->im a<n){a:Nat}(ha:a<L):vlW T im [a]=im a:=h.idl _ (hi a ha)
theorem zBb(h:ApM n T)(hi: ∀a,a<L->im a<n){a:Nat}{v:List Nat}(ha:a<L)(hv: ∀a∈v,a<L):vlW T im (a::v)=T (im a) (vlW T im v):=by
 have:=zDL h hi (u:=[a]) (fun b hb=>by simp at hb;omega) hv
 rwa [zNd h hi ha]at this
theorem zJo(h:ApM n T)(hi: ∀a,a<L->im a<n){a:Nat}{v:List Nat}(hv: ∀a∈v,a<L)(ha:a<L):vlW T im (v++[a])=T (vlW T im v) (im a):=by
 have:=zDL h hi hv (v:=[a]) (fun b hb=>by simp at hb;omega)
 rwa [zNd h hi ha]at this
theorem ApM.zTM(h:ApM n T){m:Nat}(hm:m<n):JLe n T 0 m:=⟨m,0,hm,h.n0,by rw[h.idr m hm,h.idr m hm]⟩
theorem zTQ(h:ApM n T)(hi: ∀a,a<L->im a<n){ab:Nat->Prop}{m:Nat}(hm:m<n)(hm0:m≠0)(hab: ∀x,x<n->JLe n T x m-> ¬JLe n T m x->ab x){w:List Nat}(hw: ∀a∈w,a<L):
  vlW T im w=m↔zW1 n T im ab m w/\zW3 n T im ab m w/\ ¬zWs n T im ab m w:=by
 have hmono: ¬JLe n T m 0:=fun hj=>hm0 (h.unit hm hj)
 constructor
 ·intro e;refine⟨?_,?_,?_⟩
  ·obtain⟨u,a,s,e1,e2,e3⟩:=zI4 (P:=fun u=>(∀a∈u,a<L)->RLe n T m (vlW T im u)) (fun hn=>hmono (RLe.j h hm (hn (by simp)))) w (fun _=>by rw[e];exact RLe.refl h hm);subst e1;have hu: ∀a∈u,a<L:=fun b hb=>hw b (by simp[hb])
   have ha:a<L:=hw a (by simp);have hs: ∀a∈s,a<L:=fun b hb=>hw b (by simp[hb])
   have hul:=zCN h hi hu;have hsl:=zCN h hi hs;have hia:=hi a ha;have hn2: ¬RLe n T m (vlW T im u):=fun hr=>e2 fun _=>hr
   have e3:=e3 (fun b hb=>by
    rcases List.mem_append.1 hb with hb|hb
    ·exact hu b hb
    ·simp at hb;omega)
   rw[zJo h hi hu ha]at e3;have e4:T (T (vlW T im u) (im a)) (vlW T im s)=m:=by
    rw[←e,zDL h hi hu (fun b hb=>by
     rcases List.mem_cons.1 hb with rfl|hb
     ·exact ha
     ·exact hs b hb),zBb h hi ha hs,h.asc _ _ _ hul hia hsl]
   have e5:RLe n T (vlW T im u) m:=⟨T (im a) (vlW T im s),h.lt _ _ hia hsl,by rw[←h.asc _ _ _ hul hia hsl,e4]⟩;refine⟨u,a,s,rfl,hab _ hul (RLe.j h hul e5) (fun hj=>hn2 ?_),e3,⟨_,hsl,e4⟩,hn2⟩;obtain⟨t,ht,e6⟩:=e5;have:=h.zVs hul ht (by rw[e6];exact hj)
   rwa [e6]at this
  ·obtain⟨p,a,v,e1,e2,e3⟩:=zGG (P:=fun u=>(∀a∈u,a<L)->LLe n T m (vlW T im u)) (fun hn=>hmono (LLe.j h hm (hn (by simp)))) w (fun _=>by rw[e];exact LLe.refl h hm);subst e1;have hp: ∀a∈p,a<L:=fun b hb=>hw b (by simp[hb])
   have ha:a<L:=hw a (by simp);have hv: ∀a∈v,a<L:=fun b hb=>hw b (by simp[hb])
   have hvl:=zCN h hi hv;have hpl:=zCN h hi hp;have hia:=hi a ha;have hn2: ¬LLe n T m (vlW T im v):=fun hr=>e2 fun _=>hr
   have hav: ∀b∈a::v,b<L:=fun b hb=>by
    rcases List.mem_cons.1 hb with rfl|hb
    ·exact ha
    ·exact hv b hb
   have e3:=e3 hav;rw[zBb h hi ha hv]at e3;have e4:T (vlW T im p) (T (im a) (vlW T im v))=m:=by
    rw[←e,zDL h hi hp hav,zBb h hi ha hv]
   have e5:LLe n T (vlW T im v) m:=⟨T (vlW T im p) (im a),h.lt _ _ hpl hia,by rw[h.asc _ _ _ hpl hia hvl,e4]⟩;refine⟨p,a,v,rfl,hab _ hvl (LLe.j h hvl e5) (fun hj=>hn2 ?_),e3,⟨_,hpl,e4⟩,hn2⟩;obtain⟨t,ht,e6⟩:=e5;have:=h.zSt hvl ht (by rw[e6];exact hj)
   rwa [e6]at this
  ·rintro(⟨p,a,s,rfl,hn⟩|⟨p,a,u,c,s,rfl,-,-,-,hn⟩)
   ·have hp: ∀a∈p,a<L:=fun b hb=>hw b (by simp[hb])
    have ha:a<L:=hw a (by simp);have hs: ∀a∈s,a<L:=fun b hb=>hw b (by simp[hb])
    have hpl:=zCN h hi hp;have hsl:=zCN h hi hs;refine hn ⟨vlW T im p,vlW T im s,hpl,hsl,?_⟩;rw[←e,zDL h hi hp (fun b hb=>hw b (List.mem_append_right _ hb)),zBb h hi ha hs,h.asc _ _ _ hpl (hi a ha) hsl]
   ·have hp: ∀a∈p,a<L:=fun b hb=>hw b (by simp[hb])
    have ha:a<L:=hw a (by simp);have hu: ∀a∈u,a<L:=fun b hb=>hw b (by simp[hb])
    have hc:c<L:=hw c (by simp);have hs: ∀a∈s,a<L:=fun b hb=>hw b (by simp[hb])
    have hpl:=zCN h hi hp;have hul:=zCN h hi hu;have hsl:=zCN h hi hs;have hia:=hi a ha;have hic:=hi c hc;have hcs: ∀b∈c::s,b<L:=fun b hb=>by
     rcases List.mem_cons.1 hb with rfl|hb
     ·exact hc
     ·exact hs b hb
    have hucs: ∀b∈u++c::s,b<L:=fun b hb=>by
     rcases List.mem_append.1 hb with hb|hb
     ·exact hu b hb
     ·exact hcs b hb
    refine hn ⟨vlW T im p,vlW T im s,hpl,hsl,?_⟩;rw[←e,zDL h hi hp (fun b hb=>hw b (List.mem_append_right _ hb)),zBb h hi ha hucs,zDL h hi hu hcs,zBb h hi hc hs];have hau:=h.lt _ _ hia hul;rw[h.asc _ _ _ hpl (h.lt _ _ hau hic) hsl,h.asc _ _ _ hau hic hsl,h.asc _ _ _ hia hul (h.lt _ _ hic hsl)]
 ·rintro⟨hB,hE,hF⟩
  -- all factors are zD3 m
  have fac: ∀k,∀p f s:List Nat,f.length=k->w=p++(f++s)->JLe n T (vlW T im f) m:=by
   intro k
   induction k using Nat.strongRecOn with
   |_ k ih=>
    intro p f s hk hws;have hwl: ∀b∈p++(f++s),b<L:=hws▸hw
    match f,hk,hws with
    |[],_,_=>exact h.zTM hm
    |[a],_,hws=>
     have ha:a<L:=hwl a (by simp);refine Classical.byContradiction fun hn=>hF (.inl ⟨p,a,s,by rw[hws];rfl,?_⟩)
     rwa [zNd h hi ha]at hn
    |a::b::f',hk,hws=>
     obtain⟨u,c,e⟩: ∃u c,b::f'=u++[c]:=⟨(b::f').dropLast,(b::f').getLast (by simp),(List.dropLast_concat_getLast _).symm⟩;rw[e]at hws hk hwl ⊢;have ha:a<L:=hwl a (by simp);have hc:c<L:=hwl c (by simp);have hu: ∀a∈u,a<L:=fun x hx=>hwl x (by simp[hx])
     have hul:=zCN h hi hu;have hia:=hi a ha;have hic:=hi c hc;have hau:=h.lt _ _ hia hul;have huc:=h.lt _ _ hul hic;have k1:=ih (a::u).length (by simp at hk ⊢;omega) p (a::u) ([c]++s) rfl (by rw[hws];simp);have k2:=ih (u++[c]).length (by simp at hk ⊢;omega) (p++[a]) (u++[c]) s rfl (by rw[hws];simp);have k3:=ih u.length (by simp at hk ⊢;omega) (p++[a]) u ([c]++s) rfl (by rw[hws];simp);rw[zBb h hi ha hu]at k1;rw[zJo h hi hu hc]at k2;have e5:vlW T im (a::(u++[c]))=T (T (im a) (vlW T im u)) (im c):=by
      rw[zBb h hi ha (fun x hx=>by
       rcases List.mem_append.1 hx with hx|hx
       ·exact hu x hx
       ·simp at hx;omega),zJo h hi hu hc,h.asc _ _ _ hia hul hic]
     rw[e5];refine Classical.byContradiction fun hn=>hF (.inr ⟨p,a,u,c,s,by rw[hws];simp,hab _ hul k3 (fun hj=>hn ?_),k1,k2,hn⟩)
     obtain⟨t,ht,e6⟩:=h.zSt hul hia (JLe.trans h hau k1 hj);refine JLe.trans h (h.lt _ _ hau hic) ?_ k2;refine LLe.j h (h.lt _ _ hau hic) ⟨t,ht,?_⟩;rw[←h.asc _ _ _ ht hau hic,e6]
  have hJ:=fac _ [] w [] rfl (by simp);obtain⟨u,a,s,e1,-,e2,-,-⟩:=hB;obtain⟨p,b,v,e3,-,e4,-,-⟩:=hE;have hwl:=zCN h hi hw;have hR:RLe n T m (vlW T im w):=by
   have hw1:=hw;rw[e1]at hw1;have hu: ∀a∈u,a<L:=fun x hx=>hw1 x (by simp[hx])
   have ha:a<L:=hw1 a (by simp);have hs: ∀a∈s,a<L:=fun x hx=>hw1 x (by simp[hx])
   refine RLe.trans h hm e2 ⟨vlW T im s,zCN h hi hs,?_⟩;rw[e1,zDL h hi hu (fun x hx=>hw1 x (List.mem_append_right _ hx)),zBb h hi ha hs,h.asc _ _ _ (zCN h hi hu) (hi a ha) (zCN h hi hs)]
  have hLl:LLe n T m (vlW T im w):=by
   have hw1:=hw;rw[e3]at hw1;have hp: ∀a∈p,a<L:=fun x hx=>hw1 x (by simp[hx])
   have hb:b<L:=hw1 b (by simp);have hv: ∀a∈v,a<L:=fun x hx=>hw1 x (by simp[hx])
   refine LLe.trans h hm e4 ⟨vlW T im p,zCN h hi hp,?_⟩;rw[e3,zDL h hi hp (fun x hx=>hw1 x (List.mem_append_right _ hx)),zBb h hi hb hv]
  have hLm:LLe n T (vlW T im w) m:=by
   obtain⟨t,ht,e5⟩:=hLl;rw[←e5]at hJ ⊢;exact h.zSt hm ht hJ
  exact(h.zWf hm hwl hR hLm).symm
end
