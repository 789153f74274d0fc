/- Lemmas for the law unambiguousClass. No conditions. -/
import Derived.Test.YtgmcbpjplcjmdaaGreatZuae
import Derived.Test.YtgmcbpjplcjmdaaGreatZuaf
set_option linter.all false
namespace Go.Proofs.YtgmcbpjplcjmdaaGreat.M
open Go.RowKit
set_option maxRecDepth 100000
set_option maxHeartbeats 32000000

theorem zQq{m:Mem}{w:World}{v:Value}{z:Nat}{cs:List T}(hm: ∀b o u,m b o=some u->w.cell? ⟨b,o,none⟩=some u)(h:Rep m v (.sl z cs))(hz1:z=1):
  ∃a cap,v= .slice a cs.length cap/\cs.length<=cap/\cap<=9223372036854775807/\(0<cs.length-> ∃b o,a=some ⟨b,o,none⟩/\ ∀i c,cs[i]? =some c-> ∃u,w.cell? ⟨b,o+i,none⟩=some u/\Rep m u c):=by
 cases h with
 |nil=>exact⟨none,0,rfl,by simp,by omega,fun h=>by simp at h⟩
 |emp a=>exact⟨some a,0,rfl,by simp,by omega,fun h=>by simp at h⟩
 |sl b o n cap z cs vs hz hn h1 h2 hc hr=>
  subst hz1;have hn:cs.length=n:=by omega
  subst hn;exact⟨_,cap,rfl,h1,h2,fun _=>⟨b,o,rfl,fun i c hi=>⟨vs i,hm _ _ _ (hc i c hi),hr i c hi⟩⟩⟩
theorem zPi{m:Mem}{w:World}{v:Value}{xs:List Int}(hm: ∀b o u,m b o=some u->w.cell? ⟨b,o,none⟩=some u)(h:Rep m v (ints xs)):Ints w v xs:=by
 obtain⟨a,cap,rfl,h1,h2,h3⟩:=zQq hm h rfl;simp only[List.length_map]at h1 h3 ⊢;refine⟨a,cap,rfl,h1,h2,fun h0=>?_⟩;obtain⟨b,o,rfl,hc⟩:=h3 h0;refine⟨b,o,rfl,fun i hi=>?_⟩;have hi:i<xs.length:=hi;obtain⟨u,hu,hr⟩:=hc i (.int .i64 xs[i]) (by simp[hi]);rw[hu]
 cases hr;simp[zAI,hi]
theorem zPl{m:Mem}{w:World}{v:Value}{t:List (List Int)}(hm: ∀b o u,m b o=some u->w.cell? ⟨b,o,none⟩=some u)(h:Rep m v (rows t)):zPG w v t:=by
 obtain⟨a,cap,rfl,h1,h2,h3⟩:=zQq hm h rfl;simp only[List.length_map]at h1 h3 ⊢;refine⟨a,cap,rfl,h1,h2,fun h0=>?_⟩;obtain⟨b,o,rfl,hc⟩:=h3 h0;refine⟨b,o,rfl,fun i hi=>?_⟩;have hi:i<t.length:=hi;obtain⟨u,hu,hr⟩:=hc i (ints t[i]) (by simp[hi]);refine⟨u,hu,?_⟩;have:=zPi hm hr;simpa[zAI,hi]using this
def zOj(v:Value):Prop:=v= .slice none 0 0\/ ∃b o l c,v= .slice (some ⟨b,o,none⟩) l c
theorem zP0{m:Mem}{w:World}{v:Value}{xs:List Int}(h:Ints w v xs)(hp:zOj v)(hm: ∀b o l c u k,v= .slice (some ⟨b,o,none⟩) l c->w.cell? ⟨b,k,none⟩=some u->m b k=some u):Rep m v (ints xs):=by
 obtain⟨a,cap,rfl,h1,h2,h3⟩:=h;rcases hp with hp|⟨b,o,l,c,hp⟩
 ·injection hp with e1 e2 e3;have:xs=[]:=List.length_eq_zero_iff.1 e2;subst this e1 e3;exact .nil 1
 ·injection hp with e1 e2 e3;subst e1 e2 e3;refine .sl b o (lnx xs) cap 1 _ (fun i=>.int .i64 (zAI xs i)) (by omega) (by simp[lnx]) h1 h2 (fun i c hi=>?_) (fun i c hi=>?_)
  all_goals
   have hl:i<xs.length:=by have:=(Qq.1 hi).1;simpa using this
  ·obtain⟨b',o',e,hc⟩:=h3 (by show 0<xs.length;omega);injection e with e;injection e with e1 e2;subst e1 e2;exact hm _ _ _ _ _ _ rfl (hc i hl)
  ·simp[hl]at hi;subst hi;rw[show zAI xs i=xs[i] by simp[zAI,hl]];exact .int .i64 _
theorem zOx{lo:Nat}{V:Nat->Prop}{ob:Nat->Option (Value×Nat)}{w:World}{p:Nat}: ∀b o u,zFf lo V ob w p b o=some u->w.cell? ⟨b,o,none⟩=some u:=fun b o u h=>zCh h
theorem MR.after{w w':World}{V U:Nat->Prop}{ob:Nat->Option (Value×Nat)}(h:MR w V (OB ob) U (fun k=>([]:List AObj)[k]?) ob w)(hb:Below w.heap.size w w'):MR w V (OB ob) U (fun k=>([]:List AObj)[k]?) ob w':=
 ⟨h.live,fun id o hi=>by simp at hi,h.sep,h.new,Onl.zOz hb,h.gl⟩
theorem zOL{P:Program}{f:FuncId}{args:List AV}{vs:Array Value}{w:World}(hgl:GlW (fun _=>False) w)(h:FnA P f args (.t 2 (.bool true)))(hn:vs.size=args.length)(hv: ∀(i:Nat) c,args[i]? =some c->VR (zV w.heap.size (fun _=>True) (fun _=>none) (fun k=>k<0) w) (vs.getD i undef) c):Calls P f vs w (fun e w'=>e= .returned (.bool true)/\Below w.heap.size w w'):=by
 have hob: ∀k,¬OB (fun _=>none) k:=fun k ⟨id,u,n,h1,_⟩=>by cases h1
 refine(h w (fun _=>True) (fun _=>none) vs ⟨fun id u n e=>(by cases e),fun id o e=>(by simp at e),fun id id' u u' n n' k _ e=>(by cases e),fun id u n k e=>(by cases e),Onl.refl _ _,fun g cs hg=>⟨(hgl g cs hg).1,hob g,(hgl g cs hg).2.2⟩⟩ hn hv).mono ?_;rintro e w' ⟨v,ob',rfl,hm,hr,-⟩;rw[hr.bool];exact⟨rfl,hm.only.below fun k _=>hob k⟩
theorem zRi{w:World}{v:Value}{xs:List Int}(h:Ints w v xs)(hp:zOj v):VR (zV w.heap.size (fun _=>True) (fun _=>none) (fun k=>k<0) w) v (.t 1 (ints xs)):=
 .t _ _ _ (zP0 h hp fun b o l c u k _ hc=>zZ.2 ⟨fun⟨id,u,n,h1,_⟩=>(by cases h1),.inr (.inr ⟨rfl,trivial⟩),hc⟩)
theorem vs1{vs:Array Value}(hn:vs.size=1):vs= #[vs.getD 0 undef]:=by
 apply Array.ext
 ·simpa using hn
 ·intro i h1 h2;have:i<1:=by simpa using h2
  obtain rfl:i=0:=by omega
  simp[Array.getD,h1]
theorem zTF{E:Ev}{f:Nat->Value}: ∀{l:List AV},(∀a∈l,ghA1 a= .any)->GhR E f (ghA l):=fun {l} h i c hi=>by
 unfold ghA at hi;rw[Qi]at hi
 cases e:l[i]? with
 |none=>rw[e]at hi;cases hi
 |some a=>
  rw[e]at hi;simp only[Qg,Qx]at hi;rw[h a (Qc e)]at hi;subst hi;exact .any _
structure TbL(t:List (List Int))(n:Nat)(T:Nat->Nat->Nat):Prop where
 len:t.length=n
 row: ∀r (h:r<t.length),t[r].length=n
 val: ∀r c (h:r<t.length) (h2:c<t[r].length),t[r][c]=(T r c:Int)
 lt: ∀r c,r<n->c<n->T r c<n
theorem zGN{α:Type}[Inhabited α]{l:List α}{i:Nat}(h:i<l.length):zAI l i=l[i]:=by simp[zAI,h]
theorem TbL.of{t:List (List Int)}(h:zCQ t=0):TbL t t.length (zP t):=by
 obtain⟨h0,h4,hr⟩:=zBu (zEK h).1;refine⟨rfl,fun r h=>?_,fun r c h h2=>?_,fun r c h h2=>?_⟩
 ·have:=(hr r h).1;rw[zGN h]at this;exact this
 ·have:=(hr r h).2 c (by rw[zGN h];exact h2);unfold zP;rw[zGN h]at this ⊢;rw[zGN h2]at this ⊢;omega
 ·have:=(hr r h).2 c (by have:=(hr r h).1;simp only[lnx]at this ⊢;omega);unfold zP;simp only[lnx]at this;omega
theorem zGB{t:List (List Int)}(h:zCQ t=0):zBA t.length (zP t):=(zEK h).2
theorem zC1{t:List (List Int)}(h:zCQ t=0):0<t.length/\t.length<=400:=⟨(zBu (zEK h).1).1,(zBu (zEK h).1).2.1⟩
def omF(T:Nat->Nat->Nat)(x:Nat):Nat->Nat->Nat
 |0,e=>e
 |f+1,e=>if T e e=e then e else omF T x f (T e x)
def omT(T:Nat->Nat->Nat)(n x:Nat):Nat:=omF T x n x
def zTS(T:Nat->Nat->Nat)(e g:Nat):Nat->Nat->Nat
 |0,y=>y
 |f+1,y=>if T y g=e then y else zTS T e g f (T y g)
def itT(T:Nat->Nat->Nat)(x:Nat):Nat->Nat->Nat
 |0,y=>y
 |k+1,y=>T (itT T x k y) x
def zIV(T:Nat->Nat->Nat)(n x:Nat)(m:Int):Nat:=if m<0 then zTS T (omT T n x) (T (omT T n x) x) n (omT T n x)else itT T x m.toNat (omT T n x)
def pw(T:Nat->Nat->Nat)(x:Nat)(k:Nat):Nat:=itT T x k x
section
variable{T:Nat->Nat->Nat}{n:Nat}
theorem zEg(x k:Nat):pw T x (k+1)=T (pw T x k) x:=rfl
theorem zFP(hT: ∀r c,r<n->c<n->T r c<n){x y:Nat}(hx:x<n)(hy:y<n): ∀k,itT T x k y<n
 |0=>hy
 |k+1=>hT _ _ (zFP hT hx hy k) hx
theorem zM0(hT: ∀r c,r<n->c<n->T r c<n){x:Nat}(hx:x<n)(k:Nat):pw T x k<n:=zFP hT hx hx k
theorem zFj(hT: ∀r c,r<n->c<n->T r c<n)(hA:zBA n T){x y:Nat}(hx:x<n)(hy:y<n): ∀k,T y (pw T x k)=itT T x (k+1) y
 |0=>rfl
 |k+1=>by
  rw[zEg,←hA y _ x hy (zM0 hT hx k) hx,zFj hT hA hx hy k];rfl
theorem zIu(x y:Nat)(j:Nat): ∀k,itT T x k (itT T x j y)=itT T x (j+k) y
 |0=>rfl
 |k+1=>by
  show T (itT T x k (itT T x j y)) x=T (itT T x (j+k) y) x;rw[zIu x y j k]
theorem zS4(hT: ∀r c,r<n->c<n->T r c<n)(hA:zBA n T){x:Nat}(hx:x<n)(j k:Nat):T (pw T x j) (pw T x k)=pw T x (j+k+1):=by
 rw[zFj hT hA hx (zM0 hT hx j)];exact zIu x x j (k+1)
theorem zS6(x j k:Nat):itT T x k (pw T x j)=pw T x (j+k):=zIu x x j k
theorem zLl{l:List Nat}:l.Nodup->(∀x∈l,x<n)->l.length<=n:=by
 induction n generalizing l with
 |zero=>
  intro _ h
  cases l with
  |nil=>simp
  |cons a r=>exact absurd (h a (by simp)) (by omega)
 |succ m ih=>
  intro hd h;by_cases hm:m∈l
  ·have h1:=ih (l:=l.erase m) (hd.erase m) (fun x hx=>by
    have h2:=h x (List.mem_of_mem_erase hx);have h3:x≠m:=fun e=>by
     subst e;exact(List.Nodup.not_mem_erase hd) hx
    omega)
   rw[List.length_erase_of_mem hm]at h1;omega
  ·have h1:=ih (l:=l) hd (fun x hx=>by
    have h2:=h x hx;have h3:x≠m:=fun e=>hm (e▸hx)
    omega)
   omega
theorem zSj(hT: ∀r c,r<n->c<n->T r c<n){x:Nat}(hx:x<n): ∃i j,i<j/\j<=n/\pw T x i=pw T x j:=by
 refine Classical.byContradiction fun hno=>?_
 have hd:((List.range (n+1)).map (pw T x)).Nodup:=by
  rw[List.nodup_iff_pairwise_ne,List.pairwise_map];refine List.Pairwise.imp_of_mem (R:=fun a b=>a<b) (fun {a b} ha hb hlt e=>hno ⟨a,b,hlt,?_,e⟩) List.pairwise_lt_range;have:=List.mem_range.1 hb;omega
 have:=zLl (n:=n) hd (fun y hy=>by
  obtain⟨k,_,rfl⟩:=List.mem_map.1 hy;exact zM0 hT hx k)
 simp at this;omega
theorem zNl(hT: ∀r c,r<n->c<n->T r c<n)(hA:zBA n T){x:Nat}(hx:x<n): ∃k,k<n/\T (pw T x k) (pw T x k)=pw T x k:=by
 obtain⟨i,j,hij,hj,he⟩:=zSj hT hx;have hper: ∀m,i<=m->pw T x (m+(j-i))=pw T x m:=fun m hm=>by
  have h1:=zS6 (T:=T) x i (m-i);have h2:=zS6 (T:=T) x j (m-i);rw[he,h2]at h1;rw[show m+(j-i)=j+(m-i) by omega,h1,show i+(m-i)=m by omega]
 have hperq: ∀q m,i<=m->pw T x (m+q*(j-i))=pw T x m:=fun q=>by
  induction q with
  |zero=>intro m _;simp
  |succ q ih=>
   intro m hm;rw[show m+(q+1)*(j-i)=(m+q*(j-i))+(j-i) by rw[Nat.add_mul];omega,hper _ (by omega),ih m hm]
 obtain⟨p,hp⟩: ∃p,p=j-i:=⟨_,rfl⟩;rw[←hp]at hperq;have hp0:0<p:=by omega
 obtain⟨q,hq⟩: ∃q,q=(i+p)/p:=⟨_,rfl⟩;have h1:q*p<=i+p:=by rw[hq];exact Nat.div_mul_le_self _ _
 have h2:i+p<(q+1)*p:=by rw[hq,←Nat.div_lt_iff_lt_mul hp0];omega
 rw[Nat.add_mul]at h2;refine⟨q*p-1,by omega,?_⟩;rw[zS4 hT hA hx,show q*p-1+(q*p-1)+1=(q*p-1)+q*p by omega];exact hperq q _ (by omega)
theorem zC0(hT: ∀r c,r<n->c<n->T r c<n)(hA:zBA n T){x:Nat}(hx:x<n): ∃k,k<n/\omT T n x=pw T x k/\T (pw T x k) (pw T x k)=pw T x k/\ ∀j,j<k->T (pw T x j) (pw T x j)≠pw T x j:=by
 obtain⟨k0,hk0,hi0⟩:=zNl hT hA hx;have key: ∀f i,i+f=n->(∀j,j<i->T (pw T x j) (pw T x j)≠pw T x j)-> ∃k,k<n/\omF T x f (pw T x i)=pw T x k/\T (pw T x k) (pw T x k)=pw T x k/\ ∀j,j<k->T (pw T x j) (pw T x j)≠pw T x j:=by
  intro f
  induction f with
  |zero=>
   intro i hi hno;exact absurd hi0 (hno k0 (by omega))
  |succ f ih=>
   intro i hi hno;rw[omF];by_cases h:T (pw T x i) (pw T x i)=pw T x i
   ·rw[if_pos h];exact⟨i,by omega,rfl,h,hno⟩
   ·rw[if_neg h,←zEg (T:=T) x i];refine ih (i+1) (by omega) (fun j hj=>?_);by_cases hji:j=i
    ·rw[hji];exact h
    ·exact hno j (by omega)
 exact key n 0 (by omega) (fun j hj=>by omega)
theorem zLC(hT: ∀r c,r<n->c<n->T r c<n)(hA:zBA n T){x:Nat}(hx:x<n):omT T n x<n:=by
 obtain⟨k,_,h,_⟩:=zC0 hT hA hx;rw[h];exact zM0 hT hx k
theorem zK8(hT: ∀r c,r<n->c<n->T r c<n)(hA:zBA n T){x:Nat}(hx:x<n):T (omT T n x) (omT T n x)=omT T n x:=by
 obtain⟨k,_,h,h2,_⟩:=zC0 hT hA hx;rw[h];exact h2
theorem zKG(hT: ∀r c,r<n->c<n->T r c<n)(hA:zBA n T){x:Nat}(hx:x<n): ∃k,k<n/\zTS T (omT T n x) (T (omT T n x) x) n (omT T n x)=itT T x k (omT T n x)/\T (itT T x k (omT T n x)) x=omT T n x/\ ∀j,j<k->T (itT T x j (omT T n x)) x≠omT T n x:=by
 obtain⟨k0,hk0,h1,h2,-⟩:=zC0 hT hA hx;have he:=zLC hT hA hx;have hi:=zK8 hT hA hx;generalize omT T n x=e at h1 he hi ⊢;have hk:T (itT T x k0 e) x=e:=by
  have:=zFj hT hA hx he k0;rw[←h1,hi]at this;exact this.symm
 -- right multiplication by e keeps e x^j
 have hr: ∀j,T (itT T x j e) e=itT T x j e:=fun j=>by
  have hc:T (itT T x j e) e=itT T x (k0+1+j) e:=by
   have h3:=zFj hT hA hx (zFP hT hx he j) k0;rw[←h1]at h3;rw[h3,zIu];congr 1;omega
  rw[hc];have h4:itT T x (k0+1) e=e:=hk;have h5:=zIu (T:=T) x e (k0+1) j;rw[h4]at h5;exact h5.symm
 have hg: ∀j,T (itT T x j e) (T e x)=T (itT T x j e) x:=fun j=>by
  rw[←hA _ e x (zFP hT hx he j) he hx,hr j]
 have key: ∀f i,i+f=n->(∀j,j<i->T (itT T x j e) x≠e)-> ∃k,k<n/\zTS T e (T e x) f (itT T x i e)=itT T x k e/\T (itT T x k e) x=e/\ ∀j,j<k->T (itT T x j e) x≠e:=by
  intro f
  induction f with
  |zero=>
   intro i hi hno;exact absurd hk (hno k0 (by omega))
  |succ f ih=>
   intro i hi hno;rw[zTS,hg i];by_cases h:T (itT T x i e) x=e
   ·rw[if_pos h];exact⟨i,by omega,rfl,h,hno⟩
   ·rw[if_neg h];refine ih (i+1) (by omega) (fun j hj=>?_);by_cases hji:j=i
    ·rw[hji];exact h
    ·exact hno j (by omega)
 exact key n 0 (by omega) (fun j hj=>by omega)
theorem zVL(hT: ∀r c,r<n->c<n->T r c<n)(hA:zBA n T){x:Nat}(hx:x<n)(j:Nat):T (itT T x j (omT T n x)) (T (omT T n x) x)=T (itT T x j (omT T n x)) x:=by
 obtain⟨k0,hk0,h1,h2,-⟩:=zC0 hT hA hx;have he:=zLC hT hA hx;have hi:=zK8 hT hA hx;generalize omT T n x=e at h1 he hi ⊢;have hk:itT T x (k0+1) e=e:=by
  have:=zFj hT hA hx he k0;rw[←h1,hi]at this;exact this.symm
 have hr:T (itT T x j e) e=itT T x j e:=by
  have h3:=zFj hT hA hx (zFP hT hx he j) k0;rw[←h1]at h3;rw[h3,zIu];have h5:=zIu (T:=T) x e (k0+1) j;rw[hk]at h5;rw[h5];congr 1;omega
 rw[←hA _ e x (zFP hT hx he j) he hx,hr]
theorem zRU(hT: ∀r c,r<n->c<n->T r c<n)(hA:zBA n T){x:Nat}(hx:x<n)(m:Int):zIV T n x m<n:=by
 unfold zIV;have he:=zLC hT hA hx;split
 ·obtain⟨k,_,h,_⟩:=zKG hT hA hx;rw[h];exact zFP hT hx he k
 ·exact zFP hT hx he _
end
mutual
def Tm.ev(T:Nat->Nat->Nat)(n one:Nat)(v:Nat->Nat):Tm->Nat
 | .mk o m l=>if o=1 then one else if o=2 then v m.toNat else if o=4 then zIV T n (evL T n one v none l) m else evL T n one v none l
def evL(T:Nat->Nat->Nat)(n one:Nat)(v:Nat->Nat):Option Nat->List Tm->Nat
 |acc,[]=>acc.getD 0
 |none,a::r=>evL T n one v (some (a.ev T n one v)) r
 |some y,a::r=>evL T n one v (some (T y (a.ev T n one v))) r
end
def vlW(T:Nat->Nat->Nat)(im:Nat->Nat)(w:List Nat):Nat:=w.foldl (fun x a=>T x (im a)) 0
section
variable{n L:Nat}{T:Nat->Nat->Nat}{im:Nat->Nat}
end
section
variable{α:Type}{m:α->α->α}
theorem zQV(asc: ∀x y z,m (m x y) z=m x (m y z))(P: ∀e x y,m e e=e->m x y=e->m e (m x e)=e){e x y:α}(he:m e e=e)(hxy:m x y=e):m e (m y e)=e:=by
 have hxyz: ∀z,m x (m y z)=m e z:=fun z=>by rw[←asc,hxy]
 have hee: ∀z,m e (m e z)=m e z:=fun z=>by rw[←asc,he]
 obtain⟨g,hg⟩: ∃g,g=m y (m e x):=⟨_,rfl⟩;have g1:m g g=g:=by rw[hg];simp only[asc,hxyz,hee]
 have g2:m y (m x g)=g:=by rw[hg];simp only[hxyz,hee]
 have g3:m x (m g y)=e:=by rw[hg];simp only[asc,hxyz,hxy,he]
 have g4:m g (m y g)=g:=P g y (m e x) g1 hg.symm;have g5: ∀z,m y (m x (m g z))=m g z:=fun z=>by rw[←asc,←asc,asc y x g,g2]
 have g6: ∀z,m g (m y (m g z))=m g z:=fun z=>by rw[←asc,←asc,asc g y g,g4]
 calc m e (m y e)=m (m x (m g y)) (m y (m x (m g y))):=by rw[g3]
  _=m x (m g (m y (m y (m x (m g y))))):=by simp only[asc]
  _=e:=by rw[g5,g6,g3]
theorem zU7(asc: ∀x y z,m (m x y) z=m x (m y z))(P: ∀e x y,m e e=e->m x y=e->m e (m x e)=e){e p t q:α}(he:m e e=e)(h:m p (m t q)=e):m e (m t e)=e:=by
 have h1:m e (m (m t q) e)=e:=zQV asc P he h;have h2:m (m e t) (m q e)=e:=by
  have h4:=h1;simp only[asc]at h4 ⊢;exact h4
 have h3:=P e (m e t) (m q e) he h2;rw[asc,←asc e e,he]at h3;exact h3
def zUx(m:α->α->α)(S:α->Prop)(e:α):Prop:=m e e=e/\ ∀b,S b-> ∃p q,m p (m b q)=e
theorem zE7(asc: ∀x y z,m (m x y) z=m x (m y z))(u:List α)(e t:α):u.foldr m (m e t)=m (u.foldr m e) t:=by
 induction u with
 |nil=>rfl
 |cons a u ih=>rw[List.foldr_cons,List.foldr_cons,ih,asc]
theorem zR0(asc: ∀x y z,m (m x y) z=m x (m y z))(P: ∀e x y,m e e=e->m x y=e->m e (m x e)=e){S:α->Prop}: ∀(u:List α),(∀a∈u,S a)-> ∀e,zUx m S e->m e (u.foldr m e)=e
 |[],_,e,h=>h.1
 |t::u,hu,e,h=>by
  obtain⟨p,q,hpq⟩:=h.2 t (hu t (by simp));have h1:m e (m t e)=e:=zU7 asc P h.1 hpq;have hf:zUx m S (m e t):=by
   refine⟨by rw[asc,←asc t e t,←asc e (m t e) t,h1],fun b hb=>?_⟩;obtain⟨p,q,hpq⟩:=h.2 b hb;exact⟨p,m q t,by rw[←hpq];simp only[asc]⟩
  have ih:=zR0 asc P u (fun a ha=>hu a (by simp[ha])) _ hf;rw[zE7 asc]at ih;have e2:m (u.foldr m e) (m t e)=u.foldr m e:=by
   rw[←asc,←zE7 asc,←zE7 asc,asc,h1]
  have:=congrArg (fun z=>m z e) ih;simp only[asc]at this;rw[e2,h1]at this;exact this
def pwr(m:α->α->α)(s:α):Nat->α
 |0=>s
 |k+1=>m (pwr m s k) s
theorem zMZ{M:α->Prop}(cl: ∀x y,M x->M y->M (m x y)){s:α}(hs:M s): ∀k,M (pwr m s k)
 |0=>hs
 |k+1=>cl _ _ (zMZ cl hs k) hs
theorem zNz(asc: ∀x y z,m (m x y) z=m x (m y z)){x s:α}(h:m x s=x): ∀k,m x (pwr m s k)=x
 |0=>h
 |k+1=>by show m x (m (pwr m s k) s)=x;rw[←asc,zNz asc h k,h]
theorem zDS(asc: ∀x y z,m (m x y) z=m x (m y z))(s:α): ∀k,pwr m s (k+1)=m s (pwr m s k)
 |0=>rfl
 |k+1=>by
  show m (pwr m s (k+1)) s=m s (m (pwr m s k) s);rw[zDS asc s k,asc]
variable{M:α->Prop}
theorem zQs(asc: ∀x y z,m (m x y) z=m x (m y z))(P: ∀e x y,m e e=e->m x y=e->m e (m x e)=e)(idm: ∀s,∃k,m (pwr m s k) (pwr m s k)=pwr m s k)(cl: ∀x y,M x->M y->M (m x y)){x:α}:
  ∀(u:List α),u≠[]->(∀a∈u,M a/\ ∃z,M z/\m x (m a z)=x)-> ∃e,M e/\m x e=x/\zUx m (fun a=>a∈u) e:=by
 have key: ∀(u:List α),u≠[]->(∀a∈u,M a/\ ∃z,M z/\m x (m a z)=x)-> ∃s,M s/\m x s=x/\ ∀b∈u,(∃q,m b q=s)\/ ∃p q,m p (m b q)=s:=by
  intro u
  induction u with
  |nil=>intro h;exact absurd rfl h
  |cons a u ih=>
   intro _ hu;obtain⟨ha,z,hz,hxz⟩:=hu a (by simp);by_cases c:u=[]
   ·subst c;exact⟨m a z,cl _ _ ha hz,hxz,fun b hb=>by simp at hb;subst hb;exact .inl ⟨z,rfl⟩⟩
   ·obtain⟨s,hs,hxs,hb⟩:=ih c fun b hb=>hu b (by simp[hb])
    refine⟨m (m a z) s,cl _ _ (cl _ _ ha hz) hs,by rw[←asc,hxz,hxs],fun b hbm=>?_⟩;rcases List.mem_cons.1 hbm with rfl|hbm
    ·exact .inl ⟨m z s,by rw[asc]⟩
    ·rcases hb b hbm with⟨q,hq⟩|⟨p,q,hq⟩
     ·exact .inr ⟨m a z,q,by rw[hq]⟩
     ·exact .inr ⟨m (m a z) p,q,by rw[asc (m a z) p,hq]⟩
 intro u h0 hu;obtain⟨s,hs,hxs,hb⟩:=key u h0 hu;obtain⟨k,hk⟩:=idm s;refine⟨pwr m s k,zMZ cl hs k,zNz asc hxs k,hk,fun b hbu=>?_⟩;have e3:m (pwr m s k) (m s (pwr m s k))=pwr m s k:=by
  have e1:m (pwr m s k) (m (pwr m s k) s)=m (pwr m s k) s:=by rw[←asc,hk]
  have e2:=P (pwr m s k) (m s (pwr m s k)) (pwr m s k);have e4:m s (pwr m s k)=m (pwr m s k) s:=(zDS asc s k).symm
  -- the power absorbs s: from the idempotent power of s itself
  have h5: ∃t,m (pwr m s k) t=pwr m s k/\(t=pwr m s k):=⟨_,hk,rfl⟩
  cases k with
  |zero=>show m s (m s s)=s;rw[show m s s=s from hk,show m s s=s from hk]
  |succ k=>
   have h6:m s (pwr m s k)=pwr m s (k+1):=(zDS asc s k).symm;exact P _ s (pwr m s k) hk h6
 rcases hb b hbu with⟨q,hq⟩|⟨p,q,hq⟩
 ·refine⟨pwr m s k,m q (pwr m s k),?_⟩;rw[←asc b,hq,e3]
 ·refine⟨m (pwr m s k) p,m q (pwr m s k),?_⟩;rw[asc,←asc b,←asc p,hq,e3]
end
structure DaM(n:Nat)(T:Nat->Nat->Nat)(im:Nat->Nat):Prop where
 n0:0<n
 lt: ∀x y,x<n->y<n->T x y<n
 asc:zBA n T
 idl: ∀x,x<n->T 0 x=x
 idr: ∀x,x<n->T x 0=x
 da: ∀x y,x<n->y<n->T (T (omT T n (T x y)) x) (omT T n (T x y))=omT T n (T x y)
 him: ∀a,im a<n
def ClS(T:Nat->Nat->Nat)(im:Nat->Nat)(S:Nat->Prop)(x b:Nat):Prop:=S b/\ ∃w:List Nat,(∀a∈w,S a)/\T (T x (im b)) (vlW T im w)=x
def DlS(T:Nat->Nat->Nat)(im:Nat->Nat)(S:Nat->Prop)(y b:Nat):Prop:=S b/\ ∃w:List Nat,(∀a∈w,S a)/\T (vlW T im w) (T (im b) y)=y
section
variable{n:Nat}{T:Nat->Nat->Nat}{im:Nat->Nat}
theorem DaM.apply(h:DaM n T im)(w:List Nat): ∀x,x<n->w.foldl (fun x a=>T x (im a)) x<n/\w.foldl (fun x a=>T x (im a)) x=T x (vlW T im w):=by
 induction w with
 |nil=>intro x hx;exact⟨hx,(h.idr x hx).symm⟩
 |cons a w ih=>
  intro x hx;obtain⟨i1,i2⟩:=ih (T x (im a)) (h.lt _ _ hx (h.him a));obtain⟨i3,i4⟩:=ih (im a) (h.him a);obtain⟨i5,-⟩:=ih 0 h.n0;have e:vlW T im (a::w)=T (im a) (vlW T im w):=by
   unfold vlW;rw[List.foldl_cons,h.idl _ (h.him a)];exact i4
  refine⟨i1,?_⟩;rw[List.foldl_cons,i2,e];exact h.asc _ _ _ hx (h.him a) i5
theorem DaM.vlt(h:DaM n T im)(w:List Nat):vlW T im w<n:=(h.apply w 0 h.n0).1
theorem DaM.zN7(h:DaM n T im)(u v:List Nat):vlW T im (u++v)=T (vlW T im u) (vlW T im v):=by
 have:=(h.apply v (vlW T im u) (h.vlt u)).2;rw[←this];unfold vlW;rw[List.foldl_append]
theorem DaM.zUh(h:DaM n T im)(a:Nat):vlW T im [a]=im a:=h.idl _ (h.him a)
theorem DaM.zIp(h:DaM n T im)(a:Nat)(u:List Nat):vlW T im (a::u)=T (im a) (vlW T im u):=by
 have:=h.zN7 [a] u
 rwa [h.zUh]at this
def mE(h:DaM n T im)(a b:{x:Nat//x<n}):{x:Nat//x<n}:=⟨T a.1 b.1,h.lt _ _ a.2 b.2⟩
def mO(h:DaM n T im)(a b:{x:Nat//x<n}):{x:Nat//x<n}:=mE h b a
def lE(h:DaM n T im)(a:Nat):{x:Nat//x<n}:=⟨im a,h.him a⟩
theorem zFr(h:DaM n T im)(x y z:{x:Nat//x<n}):mE h (mE h x y) z=mE h x (mE h y z):=Subtype.ext (h.asc _ _ _ x.2 y.2 z.2)
theorem zQg(h:DaM n T im)(x y z:{x:Nat//x<n}):mO h (mO h x y) z=mO h x (mO h y z):=(zFr h z y x).symm
theorem zUf(h:DaM n T im)(e x y:{x:Nat//x<n})(he:mE h e e=e)(hxy:mE h x y=e):mE h e (mE h x e)=e:=by
 have hx:T x.1 y.1=e.1:=congrArg Subtype.val hxy;have hee:T e.1 e.1=e.1:=congrArg Subtype.val he;have ho:omT T n e.1=e.1:=by
  obtain⟨k,-,hk,-⟩:=zC0 h.lt h.asc e.2;have key: ∀k,pw T e.1 k=e.1:=fun k=>by
   induction k with
   |zero=>rfl
   |succ k ih=>rw[zEg,ih,hee]
  rw[hk,key]
 have:=h.da x.1 y.1 x.2 y.2;rw[hx,ho]at this;exact Subtype.ext ((h.asc _ _ _ e.2 x.2 e.2).symm.trans this)
theorem zVY(h:DaM n T im)(e x y:{x:Nat//x<n})(he:mO h e e=e)(hxy:mO h x y=e):mO h e (mO h x e)=e:=by
 have:=zQV (zFr h) (zUf h) (e:=e) (x:=y) (y:=x) he hxy;rw[←zFr]at this;exact this
theorem zSp(h:DaM n T im)(s:{x:Nat//x<n}): ∀k,(pwr (mE h) s k).1=pw T s.1 k
 |0=>rfl
 |k+1=>by show T (pwr (mE h) s k).1 s.1=T (pw T s.1 k) s.1;rw[zSp h s k]
theorem zTh(h:DaM n T im)(s:{x:Nat//x<n}): ∃k,mE h (pwr (mE h) s k) (pwr (mE h) s k)=pwr (mE h) s k:=by
 obtain⟨k,-,hk⟩:=zNl h.lt h.asc s.2;refine⟨k,Subtype.ext ?_⟩;show T (pwr (mE h) s k).1 (pwr (mE h) s k).1=(pwr (mE h) s k).1;rw[zSp h s k,hk]
theorem zSm(h:DaM n T im)(s:{x:Nat//x<n}): ∀k,pwr (mO h) s k=pwr (mE h) s k
 |0=>rfl
 |k+1=>by
  show mE h s (pwr (mO h) s k)=mE h (pwr (mE h) s k) s;rw[zSm h s k];exact(zDS (zFr h) s k).symm
theorem zU4(h:DaM n T im)(s:{x:Nat//x<n}): ∃k,mO h (pwr (mO h) s k) (pwr (mO h) s k)=pwr (mO h) s k:=by
 obtain⟨k,hk⟩:=zTh h s;exact⟨k,by rw[zSm h s k];exact hk⟩
def MS(T:Nat->Nat->Nat)(im:Nat->Nat)(S:Nat->Prop)(x:Nat):Prop:=∃w:List Nat,(∀a∈w,S a)/\vlW T im w=x
theorem MS.mul(h:DaM n T im){S:Nat->Prop}{x y:Nat}(hx:MS T im S x)(hy:MS T im S y):MS T im S (T x y):=by
 obtain⟨u,hu,rfl⟩:=hx;obtain⟨v,hv,rfl⟩:=hy;exact⟨u++v,fun a ha=>(List.mem_append.1 ha).elim (hu a) (hv a),h.zN7 u v⟩
theorem MS.let(h:DaM n T im){S:Nat->Prop}{a:Nat}(ha:S a):MS T im S (im a):=⟨[a],fun b hb=>by simp at hb;exact hb▸ha,h.zUh a⟩
theorem zUo(h:DaM n T im)(u:List Nat)(e:{x:Nat//x<n}):((u.map (lE h)).foldr (mE h) e).1=T (vlW T im u) e.1:=by
 induction u with
 |nil=>exact(h.idl _ e.2).symm
 |cons a u ih=>
  show T (im a) ((u.map (lE h)).foldr (mE h) e).1=_;rw[ih,h.zIp];exact(h.asc _ _ _ (h.him a) (h.vlt u) e.2).symm
theorem zTX(h:DaM n T im)(e:{x:Nat//x<n}): ∀(u:List Nat),((u.map (lE h)).foldr (mO h) e).1=T e.1 (vlW T im u.reverse)
 |[]=>(h.idr _ e.2).symm
 |a::u=>by
  show T ((u.map (lE h)).foldr (mO h) e).1 (im a)=_;rw[zTX h e u,List.reverse_cons,h.zN7,h.zUh];exact h.asc _ _ _ e.2 (h.vlt _) (h.him a)
variable{S:Nat->Prop}
theorem ClS.el(h:DaM n T im){x:Nat}(hx:x<n){u:List Nat}(hu: ∀a∈u,ClS T im S x a): ∀a∈u.map (lE h),MS T im S a.1/\ ∃z:{x:Nat//x<n},MS T im S z.1/\mE h ⟨x,hx⟩ (mE h a z)=⟨x,hx⟩:=fun a ha=>by
 obtain⟨b,hb,rfl⟩:=List.mem_map.1 ha;obtain⟨h1,w,h2,h3⟩:=hu b hb;refine⟨MS.let h h1,⟨_,h.vlt w⟩,⟨w,h2,rfl⟩,Subtype.ext ?_⟩;show T x (T (im b) (vlW T im w))=x;rw[←h.asc _ _ _ hx (h.him b) (h.vlt w),h3]
theorem DlS.el(h:DaM n T im){y:Nat}(hy:y<n){u:List Nat}(hu: ∀a∈u,DlS T im S y a): ∀a∈u.map (lE h),MS T im S a.1/\ ∃z:{x:Nat//x<n},MS T im S z.1/\mO h ⟨y,hy⟩ (mO h a z)=⟨y,hy⟩:=fun a ha=>by
 obtain⟨b,hb,rfl⟩:=List.mem_map.1 ha;obtain⟨h1,w,h2,h3⟩:=hu b hb;refine⟨MS.let h h1,⟨_,h.vlt w⟩,⟨w,h2,rfl⟩,Subtype.ext ?_⟩;show T (T (vlW T im w) (im b)) y=y;rw[h.asc _ _ _ (h.vlt w) (h.him b) hy,h3]
theorem clE(h:DaM n T im): ∀x y:{x:Nat//x<n},MS T im S x.1->MS T im S y.1->MS T im S (mE h x y).1:=fun x y hx hy=>MS.mul h hx hy
theorem clO(h:DaM n T im): ∀x y:{x:Nat//x<n},MS T im S x.1->MS T im S y.1->MS T im S (mO h x y).1:=fun x y hx hy=>MS.mul h hy hx
theorem zMj(h:DaM n T im){x y:Nat}(hx:x<n)(hy:y<n){ls:List Nat}(hls: ∀b,S b↔b∈ls)(hC: ∀b,S b->ClS T im S x b)(hD: ∀b,S b->DlS T im S y b){m:List Nat}(hm: ∀a∈m,S a):T x (T (vlW T im m) y)=T x y:=by
 cases m with
 |nil=>show T x (T 0 y)=_;rw[h.idl y hy]
 |cons a m=>
  have h0:ls≠[]:=fun e=>by
   have:=(hls a).1 (hm a (by simp));rw[e]at this
   cases this
  obtain⟨e,⟨we,hwe,hee⟩,hxe,hce⟩:=zQs (zFr h) (zUf h) (zTh h) (M:=fun z=>MS T im S z.1) (clE h) (ls.map (lE h)) (by simpa using h0) (ClS.el h hx fun b hb=>hC b ((hls b).2 hb));obtain⟨f,⟨wf,hwf,hff⟩,hyf,hcf⟩:=zQs (zQg h) (zVY h) (zU4 h) (M:=fun z=>MS T im S z.1) (clO h) (ls.map (lE h)) (by simpa using h0) (DlS.el h hy fun b hb=>hD b ((hls b).2 hb));have hxe:T x e.1=x:=congrArg Subtype.val hxe;have hyf:T f.1 y=y:=congrArg Subtype.val hyf;have key: ∀v:List Nat,(∀a∈v,S a)->T e.1 (T (vlW T im v) e.1)=e.1:=fun v hv=>by
   have:=zR0 (zFr h) (zUf h) (v.map (lE h)) (fun b hb=>by
    obtain⟨c,hc,rfl⟩:=List.mem_map.1 hb;exact List.mem_map.2 ⟨c,(hls c).1 (hv c hc),rfl⟩) e hce
   have h2:=congrArg Subtype.val this;rw[←zUo h];exact h2
  have keyf: ∀v:List Nat,(∀a∈v,S a)->T f.1 (T (vlW T im v) f.1)=f.1:=fun v hv=>by
   have:=zR0 (zQg h) (zVY h) (v.reverse.map (lE h)) (fun b hb=>by
    obtain⟨c,hc,rfl⟩:=List.mem_map.1 hb;exact List.mem_map.2 ⟨c,(hls c).1 (hv c (List.mem_reverse.1 hc)),rfl⟩) f hcf
   have h2:T ((v.reverse.map (lE h)).foldr (mO h) f).1 f.1=f.1:=congrArg Subtype.val this;rw[zTX,List.reverse_reverse,h.asc _ _ _ f.2 (h.vlt v) f.2]at h2;exact h2
  have hv:=h.vlt (a::m);have k1:T e.1 (T (T (vlW T im (a::m)) f.1) e.1)=e.1:=by
   have:=key ((a::m)++wf) fun b hb=>(List.mem_append.1 hb).elim (hm b) (hwf b)
   rwa [h.zN7,hff]at this
  have k2:T f.1 (T e.1 f.1)=f.1:=by
   have:=keyf we hwe
   rwa [hee]at this
  generalize vlW T im (a::m)=v at*
  have lt:=h.lt;have e2:=e.2;have f2:=f.2;generalize e.1=e at*
  generalize f.1=f at*
  have k3:T e (T v f)=T e f:=by
   have e1:T e (T v (T f (T e f)))=T e (T v f):=by rw[k2]
   rw[←e1,←h.asc v f _ hv f2 (lt _ _ e2 f2),←h.asc (T v f) e f (lt _ _ hv f2) e2 f2,←h.asc e _ f e2 (lt _ _ (lt _ _ hv f2) e2) f2,k1]
  have s1:T x (T v y)=T x (T (T e (T v f)) y):=by
   conv=>lhs;rw[←hxe,←hyf]
   rw[h.asc x e _ hx e2 (lt _ _ hv (lt _ _ f2 hy)),←h.asc v f y hv f2 hy,←h.asc e _ y e2 (lt _ _ hv f2) hy]
  have s2:T x y=T x (T (T e f) y):=by
   conv=>lhs;rw[←hxe,←hyf]
   rw[h.asc x e _ hx e2 (lt _ _ f2 hy),←h.asc e f y e2 f2 hy]
  rw[s1,s2,k3]
end
def zAp(L B a:Nat):Prop:=a<L/\B.testBit a=true
structure zJk(n:Nat)(T:Nat->Nat->Nat)(im:Nat->Nat)(L:Nat)(C D:Nat->Nat->Nat):Prop where
 da:DaM n T im
 c: ∀B x,x<n-> ∀b,zAp L (C B x) b↔ClS T im (zAp L B) x b
 d: ∀B x,x<n-> ∀b,zAp L (D B x) b↔DlS T im (zAp L B) x b
 cl: ∀B x,x<n->C B x<=B
 dl: ∀B x,x<n->D B x<=B
inductive Prw(T:Nat->Nat->Nat)(im:Nat->Nat)(L:Nat)(C D:Nat->Nat->Nat):Nat->Nat->Nat->List Nat->List Nat->List (List Nat)->Prop
 |fin {B x:Nat} {w t:List Nat} {r:List (List Nat)}:C B x=B->Prw T im L C D 1 B 0 w t r->Prw T im L C D 0 B x w t ([]::r)
 |lend {B x:Nat} {w t:List Nat} {r:List (List Nat)}:C B x≠B->(∀a∈w,zAp L (C B x) a)->Prw T im L C D 0 (C B x) 0 w t r->Prw T im L C D 0 B x w t [t]
 |lgo {B x a:Nat} {p w t1 t2:List Nat} {r1 r2:List (List Nat)}:C B x≠B->(∀b∈p,zAp L (C B x) b)->zAp L B a-> ¬zAp L (C B x) a->Prw T im L C D 0 (C B x) 0 p t1 r1->Prw T im L C D 0 B (T (T x (vlW T im p)) (im a)) w t2 r2->Prw T im L C D 0 B x (p++a::w) (t1++a::t2) (t1::[a]::r2)
 |rfull {B y:Nat} {w:List Nat}:D B y=B->(∀a∈w,zAp L B a)->Prw T im L C D 1 B y w [B] [[]]
 |rend {B y:Nat} {w t:List Nat} {r:List (List Nat)}:D B y≠B->(∀a∈w,zAp L (D B y) a)->Prw T im L C D 0 (D B y) 0 w t r->Prw T im L C D 1 B y w t [t]
 |rgo {B y a:Nat} {q w t1 t2:List Nat} {r1 r2:List (List Nat)}:D B y≠B->(∀b∈q,zAp L (D B y) b)->zAp L B a-> ¬zAp L (D B y) a->Prw T im L C D 0 (D B y) 0 q t1 r1->Prw T im L C D 1 B (T (im a) (T (vlW T im q) y)) w t2 r2->Prw T im L C D 1 B y (w++a::q) (t2++a::t1) (t1::[a]::r2)
theorem zEW{P:Nat->Prop}: ∀{p p' w w':List Nat} {a a':Nat},(∀b∈p,P b)-> ¬P a->(∀b∈p',P b)-> ¬P a'->p++a::w=p'++a'::w'->p=p'/\a=a'/\w=w'
 |[],[],w,w',a,a',_,_,_,_,e=>by
  simp only[List.nil_append,List.cons.injEq]at e;exact⟨rfl,e.1,e.2⟩
 |[],b::p',w,w',a,a',_,h2,h3,_,e=>by
  simp only[List.nil_append,List.cons_append,List.cons.injEq]at e;exact absurd (e.1▸h3 b (by simp)) h2
 |b::p,[],w,w',a,a',h1,_,_,h4,e=>by
  simp only[List.nil_append,List.cons_append,List.cons.injEq]at e;exact absurd (e.1▸h1 b (by simp)) h4
 |b::p,c::p',w,w',a,a',h1,h2,h3,h4,e=>by
  simp only[List.cons_append,List.cons.injEq]at e;obtain⟨e1,e2⟩:=e;obtain⟨e3,e4,e5⟩:=zEW (fun b hb=>h1 b (by simp[hb])) h2 (fun b hb=>h3 b (by simp[hb])) h4 e2;exact⟨by rw[e1,e3],e4,e5⟩
theorem zHf{P:Nat->Prop}{q q' w w':List Nat}{a a':Nat}(h1: ∀b∈q,P b)(h2: ¬P a)(h3: ∀b∈q',P b)(h4: ¬P a')(e:w++a::q=w'++a'::q'):q=q'/\a=a'/\w=w':=by
 have e2:q.reverse++a::w.reverse=q'.reverse++a'::w'.reverse:=by simpa using congrArg List.reverse e
 obtain⟨k1,k2,k3⟩:=zEW (P:=P) (fun b hb=>h1 b (List.mem_reverse.1 hb)) h2 (fun b hb=>h3 b (List.mem_reverse.1 hb)) h4 e2;exact⟨List.reverse_inj.1 k1,k2,List.reverse_inj.1 k3⟩
instance(L B a:Nat):Decidable (zAp L B a):=by unfold zAp;infer_instance
inductive zIS:List Nat->Prop
 |one (s:Nat):zIS [s]
 |cons (s a:Nat) {t:List Nat}:zIS t->zIS (s::a::t)
inductive Fac(L:Nat):List Nat->List Nat->List (List Nat)->Prop
 |one {s:Nat} {u:List Nat}:(∀a∈u,zAp L s a)->Fac L [s] u [u]
 |cons {s a:Nat} {t u w:List Nat} {us:List (List Nat)}:(∀b∈u,zAp L s b)->Fac L t w us->Fac L (s::a::t) (u++a::w) (u::us)
theorem zIS.app{t1 t2:List Nat}{a:Nat}(h1:zIS t1)(h2:zIS t2):zIS (t1++a::t2):=by
 induction h1 with
 |one s=>exact .cons s a h2
 |cons s b _ ih=>exact .cons s b ih
theorem Fac.app{L a:Nat}{t1 t2 u v:List Nat}{us vs:List (List Nat)}(h1:Fac L t1 u us)(h2:Fac L t2 v vs):Fac L (t1++a::t2) (u++a::v) (us++vs):=by
 induction h1 with
 |one h=>exact .cons h h2
 |cons h _ ih=>
  rw[List.append_assoc];exact .cons h ih
theorem Fac.split{L a:Nat}{t1 t2:List Nat}(h1:zIS t1): ∀{w:List Nat} {us:List (List Nat)},Fac L (t1++a::t2) w us-> ∃u v us1 us2,w=u++a::v/\us=us1++us2/\Fac L t1 u us1/\Fac L t2 v us2:=by
 induction h1 with
 |one s=>
  intro w us h
  cases h with
  |cons h h2=>exact⟨_,_,[_],_,rfl,rfl,.one h,h2⟩
 |cons s b _ ih=>
  intro w us h
  cases h with
  |cons h h2=>
   obtain⟨u,v,us1,us2,rfl,rfl,h3,h4⟩:=ih h2;exact⟨_,v,_::us1,us2,by rw[List.append_assoc];rfl,rfl,.cons h h3,h4⟩
section
variable{n:Nat}{T:Nat->Nat->Nat}{im:Nat->Nat}{L:Nat}{C D:Nat->Nat->Nat}
theorem Prw.alt{k B x:Nat}{w t:List Nat}{r:List (List Nat)}(h:Prw T im L C D k B x w t r):zIS t:=by
 induction h with
 |fin _ _ ih=>exact ih
 |lend _ _ _ ih=>exact ih
 |lgo _ _ _ _ _ _ ih1 ih2=>exact ih1.app ih2
 |rfull=>exact .one _
 |rend _ _ _ ih=>exact ih
 |rgo _ _ _ _ _ _ ih1 ih2=>exact ih2.app ih1
theorem Prw.own{k B x:Nat}{w t:List Nat}{r:List (List Nat)}(h:Prw T im L C D k B x w t r): ∃us,Fac L t w us:=by
 induction h with
 |fin _ _ ih=>exact ih
 |lend _ _ _ ih=>exact ih
 |lgo _ _ _ _ _ _ ih1 ih2=>
  obtain⟨us,h1⟩:=ih1;obtain⟨vs,h2⟩:=ih2;exact⟨_,h1.app h2⟩
 |rfull _ h=>exact⟨_,.one h⟩
 |rend _ _ _ ih=>exact ih
 |rgo _ _ _ _ _ _ ih1 ih2=>
  obtain⟨us,h1⟩:=ih1;obtain⟨vs,h2⟩:=ih2;exact⟨_,h2.app h1⟩
theorem Prw.det{k B x:Nat}{w t:List Nat}{r:List (List Nat)}(h:Prw T im L C D k B x w t r): ∀{t' r'},Prw T im L C D k B x w t' r'->t=t'/\r=r':=by
 induction h with
 |fin hc _ ih=>
  intro t' r' h'
  cases h' with
  |fin _ h=>
   obtain⟨e1,e2⟩:=ih h;exact⟨e1,by rw[e2]⟩
  |lend hn=>exact absurd hc hn
  |lgo hn=>exact absurd hc hn
 |lend hn hw _ ih=>
  intro t' r' h'
  cases h' with
  |fin hc=>exact absurd hc hn
  |lend _ _ h=>exact⟨(ih h).1,by rw[(ih h).1]⟩
  |lgo _ _ _ ha=>exact absurd (hw _ (by simp)) ha
 | @lgo B x a p w t1 t2 r1 r2 hn hp hab ha _ _ ih1 ih2=>
  intro t' r' h';generalize hwe:p++a::w=w0 at h'
  cases h' with
  |fin hc=>exact absurd hc hn
  |lend _ hw=>subst hwe;exact absurd (hw _ (by simp)) ha
  |lgo _ hp' _ ha' h1 h2=>
   obtain⟨rfl,rfl,rfl⟩:=zEW hp ha hp' ha' hwe;obtain⟨e1,-⟩:=ih1 h1;obtain⟨e3,e4⟩:=ih2 h2;exact⟨by rw[e1,e3],by rw[e1,e4]⟩
 |rfull hd hw=>
  intro t' r' h'
  cases h' with
  |rfull=>exact⟨rfl,rfl⟩
  |rend hn=>exact absurd hd hn
  |rgo hn=>exact absurd hd hn
 |rend hn hw _ ih=>
  intro t' r' h'
  cases h' with
  |rfull hd=>exact absurd hd hn
  |rend _ _ h=>exact⟨(ih h).1,by rw[(ih h).1]⟩
  |rgo _ _ _ ha=>exact absurd (hw _ (by simp)) ha
 | @rgo B y a q w t1 t2 r1 r2 hn hq hab ha _ _ ih1 ih2=>
  intro t' r' h';generalize hwe:w++a::q=w0 at h'
  cases h' with
  |rfull hd=>exact absurd hd hn
  |rend _ hw=>subst hwe;exact absurd (hw _ (by simp)) ha
  |rgo _ hq' _ ha' h1 h2=>
   obtain⟨rfl,rfl,rfl⟩:=zHf hq ha hq' ha' hwe;obtain⟨e1,-⟩:=ih1 h1;obtain⟨e3,e4⟩:=ih2 h2;exact⟨by rw[e1,e3],by rw[e1,e4]⟩
theorem Prw.over(h:zJk n T im L C D){k B x:Nat}{w t:List Nat}{r:List (List Nat)}(hx:x<n)(hp:Prw T im L C D k B x w t r): ∀a∈w,zAp L B a:=by
 induction hp with
 |fin _ _ ih=>exact ih h.da.n0
 |lend _ hw _ _=>exact fun a ha=>((h.c _ _ hx a).1 (hw a ha)).1
 |lgo _ hp hab _ _ _ _ ih2=>
  intro b hb;rcases List.mem_append.1 hb with hb|hb
  ·exact((h.c _ _ hx b).1 (hp b hb)).1
  ·rcases List.mem_cons.1 hb with rfl|hb
   ·exact hab
   ·exact ih2 (h.da.lt _ _ (h.da.lt _ _ hx (h.da.vlt _)) (h.da.him _)) b hb
 |rfull _ hw=>exact hw
 |rend _ hw _ _=>exact fun a ha=>((h.d _ _ hx a).1 (hw a ha)).1
 |rgo _ hq hab _ _ _ _ ih2=>
  intro b hb;rcases List.mem_append.1 hb with hb|hb
  ·exact ih2 (h.da.lt _ _ (h.da.him _) (h.da.lt _ _ (h.da.vlt _) hx)) b hb
  ·rcases List.mem_cons.1 hb with rfl|hb
   ·exact hab
   ·exact((h.d _ _ hx b).1 (hq b hb)).1
theorem Prw.main(h:zJk n T im L C D){k B x:Nat}{w0 t:List Nat}{r:List (List Nat)}(hx:x<n)(hp:Prw T im L C D k B x w0 t r): ∀{w:List Nat} {us:List (List Nat)},Fac L t w us→
  Prw T im L C D k B x w t r/\(k=0->T x (vlW T im w)=T x (vlW T im w0))/\(k=1-> ∀z,z<n->C B z=B->T z (T (vlW T im w) x)=T z (T (vlW T im w0) x))/\ ∀us',Fac L t w us'->us'=us:=by
 have hd:=h.da
 induction hp with
 | @fin B x w0 t r hc _ ih=>
  intro w us hf;obtain⟨i1,-,i3,i4⟩:=ih hd.n0 hf;refine⟨.fin hc i1,fun _=>?_,fun e=>by omega,i4⟩;have:=i3 rfl x hx hc
  rwa [hd.idr _ (hd.vlt _),hd.idr _ (hd.vlt _)]at this
 | @lend B x w0 t r hn hw hq ih=>
  intro w us hf;obtain⟨i1,i2,-,i4⟩:=ih hd.n0 hf;refine⟨.lend hn (i1.over h hd.n0) i1,fun _=>?_,fun e=>by omega,i4⟩;have:=i2 rfl;rw[hd.idl _ (hd.vlt _),hd.idl _ (hd.vlt _)]at this;rw[this]
 | @lgo B x a p w0 t1 t2 r1 r2 hn hp hab ha h1 h2 ih1 ih2=>
  intro w us hf;obtain⟨u,v,us1,us2,rfl,rfl,f1,f2⟩:=hf.split h1.alt;obtain⟨i1,i2,-,i4⟩:=ih1 hd.n0 f1;have hy:T (T x (vlW T im p)) (im a)<n:=hd.lt _ _ (hd.lt _ _ hx (hd.vlt _)) (hd.him _);obtain⟨j1,j2,-,j4⟩:=ih2 hy f2;have hv:=i2 rfl;rw[hd.idl _ (hd.vlt _),hd.idl _ (hd.vlt _)]at hv;have hu:=i1.over h hd.n0;refine⟨.lgo hn hu hab ha i1 (by rw[hv];exact j1),fun _=>?_,fun e=>by omega,fun us' hf'=>?_⟩
  ·have key: ∀q s:List Nat,T x (vlW T im (q++a::s))=T (T (T x (vlW T im q)) (im a)) (vlW T im s):=fun q s=>by
    rw[hd.zN7,hd.zIp,←hd.asc _ _ _ hx (hd.vlt _) (hd.lt _ _ (hd.him _) (hd.vlt _)),←hd.asc _ _ _ (hd.lt _ _ hx (hd.vlt _)) (hd.him _) (hd.vlt _)]
   rw[key,key,hv];exact j2 rfl
  ·obtain⟨u',v',us1',us2',e1,rfl,f1',f2'⟩:=hf'.split h1.alt;have hu': ∀b∈u',zAp L (C B x) b:=((ih1 hd.n0 f1').1).over h hd.n0;obtain⟨rfl,-,rfl⟩:=zEW hu ha hu' ha e1;rw[i4 _ f1',j4 _ f2']
 | @rfull B y w0 hdB hw=>
  intro w us hf
  cases hf with
  |one hf=>
   refine⟨.rfull hdB hf,fun e=>by omega,fun _ z hz hcz=>?_,fun us' hf'=>?_⟩
   ·have hls: ∀b,zAp L B b↔b∈(List.range L).filter fun b=>B.testBit b:=fun b=>by simp[zAp]
    have hC: ∀b,zAp L B b->ClS T im (zAp L B) z b:=fun b hb=>(h.c B z hz b).1 (by rw[hcz];exact hb)
    have hD: ∀b,zAp L B b->DlS T im (zAp L B) y b:=fun b hb=>(h.d B y hx b).1 (by rw[hdB];exact hb)
    rw[zMj hd hz hx hls hC hD hf,zMj hd hz hx hls hC hD hw]
   ·cases hf' with
    |one=>rfl
 | @rend B y w0 t r hn hw hq ih=>
  intro w us hf;obtain⟨i1,i2,-,i4⟩:=ih hd.n0 hf;refine⟨.rend hn (i1.over h hd.n0) i1,fun e=>by omega,fun _ z hz hcz=>?_,i4⟩;have:=i2 rfl;rw[hd.idl _ (hd.vlt _),hd.idl _ (hd.vlt _)]at this;rw[this]
 | @rgo B y a q w0 t1 t2 r1 r2 hn hq hab ha h1 h2 ih1 ih2=>
  intro w us hf;obtain⟨v,u,us2,us1,rfl,rfl,f2,f1⟩:=hf.split h2.alt;obtain⟨i1,i2,-,i4⟩:=ih1 hd.n0 f1;have hy:T (im a) (T (vlW T im q) y)<n:=hd.lt _ _ (hd.him _) (hd.lt _ _ (hd.vlt _) hx);obtain⟨j1,-,j3,j4⟩:=ih2 hy f2;have hv:=i2 rfl;rw[hd.idl _ (hd.vlt _),hd.idl _ (hd.vlt _)]at hv;have hu:=i1.over h hd.n0;refine⟨.rgo hn hu hab ha i1 (by rw[hv];exact j1),fun e=>by omega,fun _ z hz hcz=>?_,fun us' hf'=>?_⟩
  ·have key: ∀q s:List Nat,T (vlW T im (s++a::q)) y=T (vlW T im s) (T (im a) (T (vlW T im q) y)):=fun q s=>by
    rw[hd.zN7,hd.zIp,hd.asc _ _ _ (hd.vlt _) (hd.lt _ _ (hd.him _) (hd.vlt _)) hx,hd.asc _ _ _ (hd.him _) (hd.vlt _) hx]
   rw[key,key,hv];exact j3 rfl z hz hcz
  ·obtain⟨v',u',us2',us1',e1,rfl,f2',f1'⟩:=hf'.split h2.alt;have hu': ∀b∈u',zAp L (D B y) b:=((ih1 hd.n0 f1').1).over h hd.n0;obtain⟨rfl,-,rfl⟩:=zHf hu ha hu' ha e1;rw[i4 _ f1',j4 _ f2']
end
theorem zUM{n:Nat}: ∀{l:List Nat},l.Nodup->(∀x∈l,x<n)->l.length<=n:=by
 induction n with
 |zero=>
  intro l _ h
  cases l with
  |nil=>simp
  |cons a l=>have:=h a (by simp);omega
 |succ n ih=>
  intro l hd h;by_cases hm:n∈l
  ·have h1:=ih (hd.erase n) (fun x hx=>by
    have:=h x (List.mem_of_mem_erase hx);have hne:x≠n:=fun e=>by subst e;exact(hd.not_mem_erase) hx
    omega)
   have:=List.length_erase_of_mem hm;have:0<l.length:=List.length_pos_of_mem hm;omega
  ·have:=ih hd (fun x hx=>by
    have:=h x hx;have hne:x≠n:=fun e=>hm (e▸hx)
    omega)
   omega
def maskN:Nat->(Nat->Bool)->Nat
 |0,_=>0
 |L+1,P=>if P L then maskN L P|||1<<<L else maskN L P
theorem zDU(P:Nat->Bool)(b:Nat): ∀L,(maskN L P).testBit b=(decide (b<L)&&P b)
 |0=>by simp[maskN]
 |L+1=>by
  have ih:=zDU P b L;unfold maskN;by_cases hP:P L=true
  ·rw[if_pos hP,Nat.testBit_or,ih,Nat.testBit_shiftLeft];by_cases e:b=L
   ·subst e;simp[hP]
   ·by_cases hb:b<L
    ·have:b<L+1:=by omega
     simp[hb,this];intro _;omega
    ·have h1: ¬b<L+1:=by omega
     have h2:(decide (b≥L)&&Nat.testBit 1 (b-L))=false:=by
      have:0<b-L:=by omega
      obtain⟨k,hk⟩: ∃k,b-L=k+1:=⟨b-L-1,by omega⟩;rw[hk];simp[Nat.testBit_succ]
     rw[h2];simp[hb,h1]
  ·rw[if_neg hP,ih];by_cases e:b=L
   ·subst e;simp[hP]
   ·by_cases hb:b<L
    ·have:b<L+1:=by omega
     simp[hb,this]
    ·have h1: ¬b<L+1:=by omega
     simp[hb,h1]
theorem zOU{a b:Nat}(h: ∀i,a.testBit i=true->b.testBit i=true):a<=b:=by
 have:a&&&b=a:=by
  apply Nat.eq_of_testBit_eq;intro i;rw[Nat.testBit_and]
  cases e:a.testBit i with
  |false=>rfl
  |true=>rw[h i e];rfl
 rw[←this];exact Nat.and_le_right
def zLz(T:Nat->Nat->Nat)(im:Nat->Nat)(B x:Nat)(l:List Nat)(a:Nat):List Nat:=if B.testBit a&& !(l.contains (T x (im a)))then l++[T x (im a)]else l
def zHu(T:Nat->Nat->Nat)(im:Nat->Nat)(B x k:Nat)(l:List Nat):List Nat:=(List.range k).foldl (zLz T im B x) l
def genF(T:Nat->Nat->Nat)(im:Nat->Nat)(L B:Nat):Nat->Nat->List Nat->List Nat
 |0,_,l=>l
 |f+1,i,l=>if i<l.length then genF T im L B f (i+1) (zHu T im B (l.getD i 0) L l)else l
def zIN(n:Nat)(T:Nat->Nat->Nat)(im:Nat->Nat)(L B:Nat):List Nat:=genF T im L B (n+1) 0 [0]
theorem zHD(T:Nat->Nat->Nat)(im:Nat->Nat)(B x k:Nat)(l:List Nat):zHu T im B x (k+1) l=zLz T im B x (zHu T im B x k l) k:=by
 unfold zHu;rw[List.range_succ,List.foldl_append];rfl
structure zEm(n:Nat)(T:Nat->Nat->Nat)(im:Nat->Nat)(L B:Nat)(l:List Nat)(i k:Nat):Prop where
 nd:l.Nodup
 ms: ∀z∈l,z<n/\MS T im (zAp L B) z
 z0:0∈l
 dn: ∀j (h:j<l.length),j<i-> ∀a,zAp L B a->T l[j] (im a)∈l
 cu: ∀a,a<k-> ∀h:i<l.length,zAp L B a->T l[i] (im a)∈l
section
variable{n:Nat}{T:Nat->Nat->Nat}{im:Nat->Nat}{L B:Nat}{l:List Nat}{i k:Nat}
theorem zEm.len(h:zEm n T im L B l i k):l.length<=n:=zUM h.nd fun x hx=>(h.ms x hx).1
theorem zEm.step(hd:DaM n T im)(h:zEm n T im L B l i k)(hi:i<l.length)(hk:k<L):zEm n T im L B (zLz T im B l[i] l k) i (k+1)/\ ∀j (h1:j<l.length),∃h2:j<(zLz T im B l[i] l k).length,(zLz T im B l[i] l k)[j]=l[j]:=by
 have hil:=h.ms l[i] (by simp);have hz:T l[i] (im k)<n:=hd.lt _ _ hil.1 (hd.him k);unfold zLz;by_cases c:(B.testBit k&& !(l.contains (T l[i] (im k))))=true
 ·rw[if_pos c];simp only[Qz,Bool.not_eq_true']at c;obtain⟨c1,c2⟩:=c;have c3:T l[i] (im k)∉l:=by simpa using c2
  have hkS:zAp L B k:=⟨hk,c1⟩;have key: ∀j (h1:j<l.length),∃h2:j<(l++[T l[i] (im k)]).length,(l++[T l[i] (im k)])[j]=l[j]:=fun j h1=>⟨by simp;omega,by rw[List.getElem_append_left h1]⟩
  refine⟨⟨?_,fun z hz'=>?_,by simp[h.z0],fun j h1 hj a ha=>?_,fun a ha h1 haS=>?_⟩,key⟩
  ·rw[List.nodup_append];exact⟨h.nd,by simp,fun a ha b hb=>by simp at hb;subst hb;exact fun e=>c3 (e▸ha)⟩
  ·rcases List.mem_append.1 hz' with hz'|hz'
   ·exact h.ms z hz'
   ·simp at hz';subst hz';exact⟨hz,MS.mul hd hil.2 (MS.let hd hkS)⟩
  ·obtain⟨_,e⟩:=key j (by omega);rw[e];exact List.mem_append_left _ (h.dn j (by omega) hj a ha)
  ·obtain⟨_,e⟩:=key i hi;rw[e];by_cases ea:a=k
   ·subst ea;simp
   ·exact List.mem_append_left _ (h.cu a (by omega) hi haS)
 ·rw[if_neg c];refine⟨⟨h.nd,h.ms,h.z0,h.dn,fun a ha h1 haS=>?_⟩,fun j h1=>⟨h1,rfl⟩⟩;by_cases ea:a=k
  ·subst ea;have hb:B.testBit a=true:=haS.2;rw[hb]at c;simpa using c
  ·exact h.cu a (by omega) h1 haS
theorem zEm.all(hd:DaM n T im)(h:zEm n T im L B l i 0)(hi:i<l.length): ∀k,k<=L->zEm n T im L B (zHu T im B l[i] k l) i k/\ ∀j (h1:j<l.length),∃h2:j<(zHu T im B l[i] k l).length,(zHu T im B l[i] k l)[j]=l[j]
 |0,_=>⟨h,fun j h1=>⟨h1,rfl⟩⟩
 |k+1,hk=>by
  obtain⟨i1,i2⟩:=h.all hd hi k (by omega);obtain⟨h2,e⟩:=i2 i hi;obtain⟨j1,j2⟩:=i1.step hd h2 (by omega);rw[e]at j1 j2;rw[zHD];refine⟨j1,fun j h1=>?_⟩;obtain⟨h3,e3⟩:=i2 j h1;obtain⟨h4,e4⟩:=j2 j h3;exact⟨h4,by rw[e4,e3]⟩
theorem zEm.next(hd:DaM n T im)(h:zEm n T im L B l i 0)(hi:i<l.length):zEm n T im L B (zHu T im B l[i] L l) (i+1) 0/\i+1<=(zHu T im B l[i] L l).length:=by
 obtain⟨h1,h2⟩:=h.all hd hi L (Qy _);obtain⟨h3,e⟩:=h2 i hi;refine⟨⟨h1.nd,h1.ms,h1.z0,fun j hj hji a ha=>?_,fun a ha=>by omega⟩,h3⟩;by_cases c:j=i
 ·subst c;exact h1.cu a ha.1 h3 ha
 ·exact h1.dn j hj (by omega) a ha
theorem zEm.run(hd:DaM n T im): ∀(f i:Nat) (l:List Nat),zEm n T im L B l i 0->i<=l.length->n<f+i-> ∃i',zEm n T im L B (genF T im L B f i l) i' 0/\(genF T im L B f i l).length<=i'
 |0,i,l,h,hi,hf=>by
  have:=h.len;exact⟨i,h,by show l.length<=i;omega⟩
 |f+1,i,l,h,hi,hf=>by
  unfold genF;by_cases c:i<l.length
  ·rw[if_pos c];have e:l.getD i 0=l[i]:=by simp[Qv,c]
   rw[e];obtain⟨h1,h2⟩:=h.next hd c
   exact zEm.run hd f (i+1) _ h1 h2 (by omega)
  ·rw[if_neg c];exact⟨i,h,by omega⟩
theorem zEm.start(hd:DaM n T im):zEm n T im L B [0] 0 0:=
 ⟨by simp,fun z hz=>by simp at hz;subst hz;exact⟨hd.n0,[],by simp,rfl⟩,by simp,fun j h hj=>by omega,fun a ha=>by omega⟩
theorem zDZ(hd:DaM n T im){z:Nat}:z∈zIN n T im L B↔MS T im (zAp L B) z:=by
 obtain⟨i,h1,h2⟩:=zEm.run (L:=L) (B:=B) hd (n+1) 0 [0] (zEm.start hd) (by simp) (by omega);constructor
 ·intro hz;exact(h1.ms z hz).2
 ·rintro⟨w,hw,rfl⟩;have key: ∀(w:List Nat),(∀a∈w,zAp L B a)-> ∀x∈zIN n T im L B,w.foldl (fun x a=>T x (im a)) x∈zIN n T im L B:=by
   intro w
   induction w with
   |nil=>intro _ x hx;exact hx
   |cons a w ih=>
    intro hw x hx;refine ih (fun b hb=>hw b (by simp[hb])) _ ?_;obtain⟨j,hj,rfl⟩:=Qb hx;exact h1.dn j hj (by have:j<(genF T im L B (n+1) 0 [0]).length:=hj;omega) a (hw a (by simp))
  exact key w hw 0 h1.z0
theorem zMl(hd:DaM n T im){z:Nat}(hz:z∈zIN n T im L B):z<n:=by
 obtain⟨w,-,rfl⟩:=(zDZ hd).1 hz;exact hd.vlt w
def zFT(n:Nat)(T:Nat->Nat->Nat)(im:Nat->Nat)(L B x:Nat):Nat:=maskN L fun a=>B.testBit a&&(zIN n T im L B).any fun z=>decide (T (T x (im a)) z=x)
def zFW(n:Nat)(T:Nat->Nat->Nat)(im:Nat->Nat)(L B x:Nat):Nat:=maskN L fun a=>B.testBit a&&(zIN n T im L B).any fun z=>decide (T z (T (im a) x)=x)
theorem zNM(hd:DaM n T im)(L:Nat):zJk n T im L (zFT n T im L) (zFW n T im L):=by
 refine⟨hd,fun B x hx b=>?_,fun B x hx b=>?_,fun B x hx=>zOU fun i hi=>?_,fun B x hx=>zOU fun i hi=>?_⟩
 ·unfold zAp zFT;rw[zDU];constructor
  ·rintro⟨h1,h2⟩;simp only[Qz,decide_eq_true_eq,List.any_eq_true]at h2;obtain⟨-,h3,z,hz,h4⟩:=h2;obtain⟨w,hw,rfl⟩:=(zDZ hd).1 hz;exact⟨⟨h1,h3⟩,w,hw,h4⟩
  ·rintro⟨⟨h1,h2⟩,w,hw,h3⟩;refine⟨h1,?_⟩;simp only[Qz,decide_eq_true_eq,List.any_eq_true];exact⟨h1,h2,_,(zDZ hd).2 ⟨w,hw,rfl⟩,h3⟩
 ·unfold zAp zFW;rw[zDU];constructor
  ·rintro⟨h1,h2⟩;simp only[Qz,decide_eq_true_eq,List.any_eq_true]at h2;obtain⟨-,h3,z,hz,h4⟩:=h2;obtain⟨w,hw,rfl⟩:=(zDZ hd).1 hz;exact⟨⟨h1,h3⟩,w,hw,h4⟩
  ·rintro⟨⟨h1,h2⟩,w,hw,h3⟩;refine⟨h1,?_⟩;simp only[Qz,decide_eq_true_eq,List.any_eq_true];exact⟨h1,h2,_,(zDZ hd).2 ⟨w,hw,rfl⟩,h3⟩
 ·unfold zFT at hi;rw[zDU]at hi;simp only[Qz]at hi;exact hi.2.1
 ·unfold zFW at hi;rw[zDU]at hi;simp only[Qz]at hi;exact hi.2.1
end
def loopO{α β:Type}(f:β->α->Option β):β->List α->Option β
 |b,[]=>some b
 |b,a::l=>match f b a with
  |none=>none
  |some b'=>loopO f b' l
theorem zEb{α β:Type}(f:β->α->Option β): ∀(l l':List α) (b:β),loopO f b (l++l')=(loopO f b l).bind fun b'=>loopO f b' l'
 |[],l',b=>rfl
 |a::l,l',b=>by
  rw[List.cons_append]
  cases e:f b a with
  |none=>simp only[loopO,e];rfl
  |some b'=>
   have:=zEb f l l' b';simp only[loopO,e];exact this
theorem zB0{α β:Type}(f:β->α->Option β){l:List α}{k:Nat}(hk:k<l.length)(b:β):loopO f b (l.take (k+1))=(loopO f b (l.take k)).bind fun b'=>f b' l[k]:=by
 rw[Qf hk,zEb];congr 1;funext b';show(match f b' l[k]with|none=>none|some b''=>some b'')=_
 cases f b' l[k]<;>rfl
theorem zDs{α β:Type}(f:β->α->Option β){l:List α}{k:Nat}{b:β}(h:loopO f b (l.take k)=none):loopO f b l=none:=by
 have:=zEb f (l.take k) (l.drop k) b;rw[List.take_append_drop,h]at this;exact this
theorem zAh{α β γ:Type}{f:β->α->Option β}(ap:β->List γ->β)(h0: ∀b,ap b []=b)(h2: ∀b g g',ap (ap b g) g'=ap b (g++g')){Q:α->List γ->Prop}: ∀{l:List α} {b b':β},(∀b a b',a∈l->f b a=some b'-> ∃g,Q a g/\b'=ap b g)->loopO f b l=some b'→
  ∃gs:List (α×List γ),gs.map Prod.fst=l/\(∀x∈gs,Q x.1 x.2)/\b'=ap b (gs.flatMap Prod.snd)
 |[],b,b',_,h=>⟨[],rfl,by simp,by injection h with h;rw[←h];exact(h0 b).symm⟩
 |a::l,b,b',hs,h=>by
  unfold loopO at h
  cases e:f b a with
  |none=>rw[e]at h;cases h
  |some b1=>
   rw[e]at h;obtain⟨g,hg,rfl⟩:=hs b a b1 (by simp) e;obtain⟨gs,k1,k2,k3⟩:=zAh ap h0 h2 (fun b a b' ha=>hs b a b' (by simp[ha])) h;refine⟨(a,g)::gs,by simp[k1],fun x hx=>?_,?_⟩
   ·rcases List.mem_cons.1 hx with rfl|hx
    ·exact hg
    ·exact k2 x hx
   ·rw[k3,h2];rfl
def zCj(st:List (List (List Nat)))(v:Nat)(t:List Nat):List (List (List Nat)):=st.set v (st.getD v []++[t])
def zBO(st:List (List (List Nat)))(t:List Nat)(v:Nat):Option (List (List (List Nat))):=if(st.getD v []).length+1<=400/\t.length/2<=60 then some (zCj st v t)else none
def zE5(n cnt:Nat)(t:List Nat):Prop:=cnt<=n*400/\t.length/2<=60
instance(n cnt:Nat)(t:List Nat):Decidable (zE5 n cnt t):=by unfold zE5;infer_instance
abbrev LSt:=List (List (List Nat))×List (List Nat×Nat)
def leftF(n:Nat)(T:Nat->Nat->Nat)(im:Nat->Nat)(L:Nat)(fam:Nat->Option (List (List (List Nat))))(C:Nat->Nat)(B:Nat):Nat->LSt->List Nat->Nat->Option LSt
 |0,_,_,_=>none
 |f+1,st,t,x=>
  if C x=B then(if zE5 n (st.2.length+1) t then some (st.1,st.2++[(t,x)])else none)
  else match fam (C x)with
   |none=>none
   |some F=>loopO (fun st v=>loopO (fun st p=>match zBO st.1 (t++p) (T x v)with
     |none=>none
     |some l1=>loopO (fun st a=>if B.testBit a&& !(C x).testBit a then leftF n T im L fam C B f st (t++p++[a]) (T (T x v) (im a))else some st) (l1,st.2) (List.range L)) st (F.getD v [])) st (List.range n)
def rightF(n:Nat)(T:Nat->Nat->Nat)(im:Nat->Nat)(L:Nat)(fam:Nat->Option (List (List (List Nat))))(D:Nat->Nat)(B:Nat):Nat->List (List Nat×Nat)->List Nat->Nat->Option (List (List Nat×Nat))
 |0,_,_,_=>none
 |f+1,rs,t,y=>
  if D y=B then(if zE5 n (rs.length+1) (D y::t)then some (rs++[(D y::t,y)])else none)
  else match fam (D y)with
   |none=>none
   |some F=>loopO (fun rs v=>loopO (fun rs q=>if zE5 n (rs.length+1) (q++t)then loopO (fun rs a=>if B.testBit a&& !(D y).testBit a then rightF n T im L fam D B f rs (a::(q++t)) (T (im a) (T v y))else some rs) (rs++[(q++t,T v y)]) (List.range L)else none) rs (F.getD v [])) rs (List.range n)
def zFS(T:Nat->Nat->Nat)(st:List (List (List Nat)))(lefts rights:List (List Nat×Nat)):Option (List (List (List Nat))):=loopO (fun st l=>loopO (fun st r=>zBO st (l.1++r.1) (T l.2 r.2)) st rights) st lefts
def famF(n:Nat)(T:Nat->Nat->Nat)(im:Nat->Nat)(L:Nat):Nat->Nat->Option (List (List (List Nat)))
 |0,_=>none
 |f+1,B=>match leftF n T im L (famF n T im L f) (zFT n T im L B) B 130 (List.replicate n [],[]) [] 0 with
  |none=>none
  |some st=>match rightF n T im L (famF n T im L f) (zFW n T im L B) B 130 [] [] 0 with
   |none=>none
   |some rs=>zFS T st.1 st.2 rs
section
variable{n:Nat}{T:Nat->Nat->Nat}{im:Nat->Nat}{L:Nat}{C D:Nat->Nat->Nat}
structure zNY(n:Nat)(T:Nat->Nat->Nat)(im:Nat->Nat)(L:Nat)(C D:Nat->Nat->Nat)(B:Nat)(F:List (List (List Nat))):Prop where
 len:F.length=n
 nd: ∀v,(F.getD v []).Nodup
 iff: ∀v,v<n-> ∀t,t∈F.getD v []↔ ∃w r,Prw T im L C D 0 B 0 w t r/\vlW T im w=v
theorem Prw.txt(h:zJk n T im L C D){B x:Nat}{w w' t:List Nat}{r r':List (List Nat)}(hx:x<n)(h1:Prw T im L C D 0 B x w t r)(h2:Prw T im L C D 0 B x w' t r'):r=r'/\T x (vlW T im w)=T x (vlW T im w'):=by
 obtain⟨us,hu⟩:=h1.own;obtain⟨k1,k2,-,-⟩:=h2.main h hx hu;exact⟨(h1.det k1).2,k2 rfl⟩
structure Evt where
 fin:Bool
 txt:List Nat
 val:Nat
 path:List (List Nat)
def zIQ(t:List Nat)(st:LSt)(g:List Evt):LSt:=g.foldl (fun st e=>if e.fin then(st.1,st.2++[(t++e.txt,e.val)])else(zCj st.1 e.val (t++e.txt),st.2)) st
theorem zGf(t:List Nat)(st:LSt)(g g':List Evt):zIQ t (zIQ t st g) g'=zIQ t st (g++g'):=by unfold zIQ;rw[List.foldl_append]
def Evt.pre(p:List Nat)(a:Nat)(e:Evt):Evt:=⟨e.fin,p++a::e.txt,e.val,p::[a]::e.path⟩
theorem zQM(t p:List Nat)(a:Nat)(g:List Evt): ∀st:LSt,zIQ (t++p++[a]) st g=zIQ t st (g.map (Evt.pre p a)):=by
 induction g with
 |nil=>intro st;rfl
 |cons e g ih=>
  intro st;have e1:t++p++[a]++e.txt=t++(p++a::e.txt):=by simp
  show zIQ (t++p++[a]) (if e.fin then(st.1,st.2++[(t++p++[a]++e.txt,e.val)])else(zCj st.1 e.val (t++p++[a]++e.txt),st.2)) g=_;rw[ih,e1];rfl
structure LSp(T:Nat->Nat->Nat)(im:Nat->Nat)(L:Nat)(C D:Nat->Nat->Nat)(B x:Nat)(g:List Evt):Prop where
 snd: ∀e∈g,e.fin=false-> ∃w,Prw T im L C D 0 B x w e.txt e.path/\T x (vlW T im w)=e.val
 snf: ∀e∈g,e.fin=true->C B e.val=B/\ ∃u,T x (vlW T im u)=e.val/\ ∀s t r,Prw T im L C D 1 B 0 s t r->Prw T im L C D 0 B x (u++s) (e.txt++t) (e.path++[]::r)
 cmp: ∀w t r,Prw T im L C D 0 B x w t r->(∃e∈g,e.fin=false/\e.txt=t/\e.path=r)\/ ∃e∈g,e.fin=true/\ ∃s ts rs,Prw T im L C D 1 B 0 s ts rs/\t=e.txt++ts/\r=e.path++[]::rs/\T x (vlW T im w)=T e.val (vlW T im s)
 nd:(g.map Evt.path).Nodup
 ne: ∀e∈g,[]∉e.path
theorem zDg{α β:Type}{f:α->List β}: ∀{l:List α},l.Nodup->(∀a∈l,(f a).Nodup)->(∀a∈l,∀b∈l,a≠b-> ∀x∈f a,x∉f b)->(l.flatMap f).Nodup
 |[],_,_,_=>by simp
 |a::l,h1,h2,h3=>by
  rw[List.flatMap_cons,List.nodup_append];obtain⟨h4,h5⟩:=List.nodup_cons.1 h1;refine⟨h2 a (by simp),zDg h5 (fun b hb=>h2 b (by simp[hb])) (fun b hb c hc=>h3 b (by simp[hb]) c (by simp[hc])),fun x hx y hy e=>?_⟩;subst e;obtain⟨b,hb,hxb⟩:=List.mem_flatMap.1 hy;exact h3 a (by simp) b (by simp[hb]) (fun e=>h4 (e▸hb)) x hx hxb
theorem zJp{α β γ:Type}(f:β->γ)(g:α->List β)(l:List α):(l.flatMap g).map f=l.flatMap fun a=>(g a).map f:=by
 induction l with
 |nil=>rfl
 |cons a l ih=>simp[List.flatMap_cons,ih]
end
theorem zSt{α β:Type}{gs:List (α×β)}(h:(gs.map Prod.fst).Nodup): ∀a∈gs,∀b∈gs,a≠b->a.1≠b.1:=by
 induction gs with
 |nil=>intro a ha;cases ha
 |cons x gs ih=>
  rw[List.map_cons,List.nodup_cons]at h;intro a ha b hb hne e;rcases List.mem_cons.1 ha with h1|ha
  ·rcases List.mem_cons.1 hb with h2|hb
   ·exact hne (h1.trans h2.symm)
   ·exact h.1 (List.mem_map.2 ⟨b,hb,by rw[←e,h1]⟩)
  ·rcases List.mem_cons.1 hb with h2|hb
   ·exact h.1 (List.mem_map.2 ⟨a,ha,by rw[e,h2]⟩)
   ·exact ih h.2 a ha b hb hne e
theorem zHF{α β:Type}{gs:List (α×β)}(h:(gs.map Prod.fst).Nodup):gs.Nodup:=by
 induction gs with
 |nil=>simp
 |cons x gs ih=>
  rw[List.map_cons,List.nodup_cons]at h;exact List.nodup_cons.2 ⟨fun hx=>h.1 (List.mem_map.2 ⟨x,hx,rfl⟩),ih h.2⟩
theorem zCn{α β γ:Type}{gs:List (α×List β)}{f:β->γ}(h:(gs.map Prod.fst).Nodup)(h1: ∀x∈gs,(x.2.map f).Nodup)(h2: ∀x∈gs,∀y∈gs,x.1≠y.1-> ∀e∈x.2,∀e'∈y.2,f e≠f e'):((gs.flatMap Prod.snd).map f).Nodup:=by
 rw[zJp];refine zDg (zHF h) h1 fun x hx y hy hne z hz hz'=>?_
 obtain⟨e,he,rfl⟩:=List.mem_map.1 hz;obtain⟨e',he',e2⟩:=List.mem_map.1 hz';exact h2 x hx y hy (zSt h x hx y hy hne) e he e' he' e2.symm
theorem zDr{α β:Type}{gs:List (α×β)}{l:List α}(h:gs.map Prod.fst=l){a:α}(ha:a∈l): ∃b,(a,b)∈gs:=by
 rw[←h]at ha;obtain⟨x,hx,rfl⟩:=List.mem_map.1 ha;exact⟨x.2,hx⟩
theorem zQ2{α β:Type}{gs:List (α×β)}{l:List α}(h:gs.map Prod.fst=l){x:α×β}(hx:x∈gs):x.1∈l:=by
 rw[←h];exact List.mem_map.2 ⟨x,hx,rfl⟩
section
variable{n:Nat}{T:Nat->Nat->Nat}{im:Nat->Nat}{L:Nat}{C D:Nat->Nat->Nat}{B:Nat}
structure PcE(T:Nat->Nat->Nat)(im:Nat->Nat)(L:Nat)(C D:Nat->Nat->Nat)(B x v:Nat)(p:List Nat)(g:List Evt):Prop where
 inv: ∀e∈g,e=⟨false,p,T x v,[p]⟩\/ ∃a g' e',zAp L B a/\ ¬zAp L (C B x) a/\LSp T im L C D B (T (T x v) (im a)) g'/\e'∈g'/\e=Evt.pre p a e'
 own:(⟨false,p,T x v,[p]⟩:Evt)∈g
 sub: ∀a,zAp L B a-> ¬zAp L (C B x) a-> ∃g',LSp T im L C D B (T (T x v) (im a)) g'/\ ∀e'∈g',Evt.pre p a e'∈g
 nd:(g.map Evt.path).Nodup
theorem zEQ{c a:Nat}(ha:a<L):(B.testBit a&& !(c.testBit a))=true↔zAp L B a/\ ¬zAp L c a:=by
 unfold zAp;simp only[Qz,Bool.not_eq_true'];constructor
 ·rintro⟨h1,h2⟩;exact⟨⟨ha,h1⟩,fun h=>by rw[h.2]at h2;cases h2⟩
 ·rintro⟨⟨-,h1⟩,h2⟩;refine⟨h1,?_⟩
  cases e:c.testBit a with
  |false=>rfl
  |true=>exact absurd ⟨ha,e⟩ h2
theorem zIH(h:zJk n T im L C D){fam:Nat->Option (List (List (List Nat)))}(hfam: ∀c,c<B-> ∀F,fam c=some F->zNY n T im L C D c F): ∀(f:Nat) (st:LSt) (t:List Nat) (x:Nat) (st':LSt),x<n->leftF n T im L fam (C B) B f st t x=some st'-> ∃g,LSp T im L C D B x g/\st'=zIQ t st g
 |0,st,t,x,st',_,he=>by cases he
 |f+1,st,t,x,st',hx,he=>by
  have hd:=h.da;unfold leftF at he;by_cases hc:C B x=B
  ·rw[if_pos hc]at he;by_cases hf:zE5 n (st.2.length+1) t
   ·rw[if_pos hf]at he;injection he with he;refine⟨[⟨true,[],x,[]⟩],⟨fun e hm hfin=>?_,fun e hm _=>?_,fun w t r hp=>?_,by simp,by simp⟩,?_⟩
    ·simp only[List.mem_singleton]at hm;subst hm;cases hfin
    ·simp only[List.mem_singleton]at hm;subst hm;exact⟨hc,[],hd.idr x hx,fun s t r hs=>.fin hc hs⟩
    ·cases hp with
     |fin _ hp=>exact .inr ⟨⟨true,[],x,[]⟩,by simp,rfl,w,t,_,hp,rfl,rfl,rfl⟩
     |lend hn=>exact absurd hc hn
     |lgo hn=>exact absurd hc hn
    ·rw[←he];show _=(st.1,st.2++[(t++[],x)]);rw[List.append_nil]
   ·rw[if_neg hf]at he;cases he
  rw[if_neg hc]at he
  cases hF:fam (C B x)with
  |none=>rw[hF]at he;cases he
  |some F=>
   rw[hF]at he;have hFam:=hfam _ (by have:=h.cl B x hx;omega) F hF
   -- one text of the family
   have piece: ∀(v:Nat),v<n-> ∀(st:LSt) (p:List Nat) (st':LSt),(match zBO st.1 (t++p) (T x v)with
     |none=>none
     |some l1=>loopO (fun st a=>if B.testBit a&& !(C B x).testBit a then leftF n T im L fam (C B) B f st (t++p++[a]) (T (T x v) (im a))else some st) (l1,st.2) (List.range L))=some st'-> ∃g,PcE T im L C D B x v p g/\st'=zIQ t st g:=by
    intro v hv st p st' hs;have hy: ∀a,T (T x v) (im a)<n:=fun a=>hd.lt _ _ (hd.lt _ _ hx hv) (hd.him a)
    unfold zBO at hs;by_cases hl:(st.1.getD (T x v) []).length+1<=400/\(t++p).length/2<=60
    ·rw[if_pos hl]at hs;obtain⟨gs,k1,k2,k3⟩:=zAh (zIQ t) (fun b=>rfl) (fun b g g'=>zGf t b g g') (Q:=fun a g=>(zAp L B a/\ ¬zAp L (C B x) a-> ∃g',LSp T im L C D B (T (T x v) (im a)) g'/\g=g'.map (Evt.pre p a))/\(¬(zAp L B a/\ ¬zAp L (C B x) a)->g=[])) (fun b a b' ha hb=>by
      have haL:a<L:=List.mem_range.1 ha;by_cases c:(B.testBit a&& !((C B x).testBit a))=true
      ·rw[if_pos c]at hb;obtain⟨g',h1,h2⟩:=zIH h hfam f _ _ _ _ (hy a) hb;exact⟨g'.map (Evt.pre p a),⟨fun _=>⟨g',h1,rfl⟩,fun hn=>absurd ((zEQ haL).1 c) hn⟩,by rw[h2,zQM]⟩
      ·rw[if_neg c]at hb;injection hb with hb;exact⟨[],⟨fun hh=>absurd ((zEQ haL).2 hh) c,fun _=>rfl⟩,hb.symm⟩) hs
     have inv: ∀y∈gs,∀e∈y.2,zAp L B y.1/\ ¬zAp L (C B x) y.1/\ ∃g' e',LSp T im L C D B (T (T x v) (im y.1)) g'/\y.2=g'.map (Evt.pre p y.1)/\e'∈g'/\e=Evt.pre p y.1 e':=fun y hy e hey=>by
      obtain⟨q1,q2⟩:=k2 y hy;by_cases c:zAp L B y.1/\ ¬zAp L (C B x) y.1
      ·obtain⟨g',q3,q4⟩:=q1 c;rw[q4]at hey;obtain⟨e',q5,q6⟩:=List.mem_map.1 hey;exact⟨c.1,c.2,g',e',q3,q4,q5,q6.symm⟩
      ·rw[q2 c]at hey;cases hey
     refine⟨⟨false,p,T x v,[p]⟩::gs.flatMap Prod.snd,⟨fun e hm=>?_,by simp,fun a ha hna=>?_,?_⟩,?_⟩
     ·rcases List.mem_cons.1 hm with hm|hm
      ·exact .inl hm
      ·obtain⟨y,hy,hey⟩:=List.mem_flatMap.1 hm;obtain⟨i1,i2,g',e',i3,-,i4,i5⟩:=inv y hy e hey;exact .inr ⟨y.1,g',e',i1,i2,i3,i4,i5⟩
     ·obtain⟨g,hg⟩:=zDr k1 (List.mem_range.2 ha.1);obtain⟨g',q3,q4⟩:=(k2 _ hg).1 ⟨ha,hna⟩;exact⟨g',q3,fun e' he'=>List.mem_cons_of_mem _ (List.mem_flatMap.2 ⟨_,hg,by show _∈g;rw[show g=_ from q4];exact List.mem_map.2 ⟨e',he',rfl⟩⟩)⟩
     ·rw[List.map_cons,List.nodup_cons];refine⟨fun hm=>?_,zCn (by rw[k1];exact List.nodup_range) (fun y hy=>?_) (fun y hy y' hy' hne e he e' he' hee=>?_)⟩
      ·obtain⟨e,he,hee⟩:=List.mem_map.1 hm;obtain⟨y,hy,hey⟩:=List.mem_flatMap.1 he;obtain⟨-,-,g',e',-,-,-,rfl⟩:=inv y hy e hey;simp[Evt.pre]at hee
      ·obtain⟨q1,q2⟩:=k2 y hy;by_cases c:zAp L B y.1/\ ¬zAp L (C B x) y.1
       ·obtain⟨g',q3,q4⟩:=q1 c;rw[q4,List.map_map];have hp:Evt.path∘Evt.pre p y.1=(fun r=>p::[y.1]::r)∘Evt.path:=rfl;rw[hp,←List.map_map];rw[List.nodup_iff_pairwise_ne,List.pairwise_map];exact(List.nodup_iff_pairwise_ne.1 q3.nd).imp fun hne e=>hne (by injection e with _ e;injection e)
       ·rw[q2 c];simp
      ·obtain⟨-,-,g1,e1,-,-,-,rfl⟩:=inv y hy e he;obtain⟨-,-,g2,e2,-,-,-,rfl⟩:=inv y' hy' e' he';simp only[Evt.pre,List.cons.injEq]at hee;exact hne hee.2.1.1
     ·rw[k3];rfl
    ·rw[if_neg hl]at hs;cases hs
   -- all texts of one value
   have value: ∀(v:Nat),v<n-> ∀(st st':LSt),loopO (fun st p=>match zBO st.1 (t++p) (T x v)with
     |none=>none
     |some l1=>loopO (fun st a=>if B.testBit a&& !(C B x).testBit a then leftF n T im L fam (C B) B f st (t++p++[a]) (T (T x v) (im a))else some st) (l1,st.2) (List.range L)) st (F.getD v [])=some st'-> ∃g,(∃gs:List (List Nat×List Evt),gs.map Prod.fst=F.getD v []/\(∀y∈gs,PcE T im L C D B x v y.1 y.2)/\g=gs.flatMap Prod.snd)/\st'=zIQ t st g:=by
    intro v hv st st' hs;obtain⟨gs,k1,k2,k3⟩:=zAh (zIQ t) (fun b=>rfl) (fun b g g'=>zGf t b g g') (Q:=fun p g=>PcE T im L C D B x v p g) (fun b p b' _ hb=>piece v hv b p b' hb) hs;exact⟨_,⟨gs,k1,k2,rfl⟩,k3⟩
   obtain⟨gs,k1,k2,k3⟩:=zAh (zIQ t) (fun b=>rfl) (fun b g g'=>zGf t b g g') (Q:=fun v g=>v<n/\ ∃gs:List (List Nat×List Evt),gs.map Prod.fst=F.getD v []/\(∀y∈gs,PcE T im L C D B x v y.1 y.2)/\g=gs.flatMap Prod.snd) (fun b v b' hv hb=>by
    obtain⟨g,h1,h2⟩:=value v (List.mem_range.1 hv) b b' hb;exact⟨g,⟨List.mem_range.1 hv,h1⟩,h2⟩) he
   -- an event: its text of the family
   have head: ∀y∈gs,∀e∈y.2,y.1<n/\ ∃p g,p∈F.getD y.1 []/\PcE T im L C D B x y.1 p g/\e∈g:=fun y hy e hey=>by
    obtain⟨q0,gs',q1,q2,q3⟩:=k2 y hy;rw[q3]at hey;obtain⟨z,hz,hez⟩:=List.mem_flatMap.1 hey;exact⟨q0,z.1,z.2,zQ2 q1 hz,q2 z hz,hez⟩
   have first: ∀{v p g e},PcE T im L C D B x v p g->e∈g->e.path.head? =some p:=fun hg he=>by
    rcases hg.inv _ he with rfl|⟨a,g',e',-,-,-,-,rfl⟩<;>rfl
   refine⟨gs.flatMap Prod.snd,⟨fun e hm hfin=>?_,fun e hm hfin=>?_,fun w t r hp=>?_,?_,fun e hm=>?_⟩,k3⟩
   ·obtain⟨y,hy,hey⟩:=List.mem_flatMap.1 hm;obtain⟨hv,p,g,hp,hg,heg⟩:=head y hy e hey;obtain⟨w,r,hw,hvw⟩:=(hFam.iff _ hv p).1 hp;rcases hg.inv e heg with rfl|⟨a,g',e',ha,hna,hl,he',rfl⟩
    ·exact⟨w,.lend hc (hw.over h hd.n0) hw,by rw[hvw]⟩
    ·obtain⟨w',i1,i2⟩:=hl.snd e' he' hfin;refine⟨w++a::w',.lgo hc (hw.over h hd.n0) ha hna hw (by rw[hvw];exact i1),?_⟩;rw[hd.zN7,hd.zIp,←hd.asc _ _ _ hx (hd.vlt _) (hd.lt _ _ (hd.him _) (hd.vlt _)),←hd.asc _ _ _ (hd.lt _ _ hx (hd.vlt _)) (hd.him _) (hd.vlt _),hvw];exact i2
   ·obtain⟨y,hy,hey⟩:=List.mem_flatMap.1 hm;obtain⟨hv,p,g,hp,hg,heg⟩:=head y hy e hey;obtain⟨w,r,hw,hvw⟩:=(hFam.iff _ hv p).1 hp;rcases hg.inv e heg with rfl|⟨a,g',e',ha,hna,hl,he',rfl⟩
    ·cases hfin
    ·obtain⟨i0,u,i1,i2⟩:=hl.snf e' he' hfin;refine⟨i0,w++a::u,?_,fun s t r hs=>?_⟩
     ·rw[hd.zN7,hd.zIp,←hd.asc _ _ _ hx (hd.vlt _) (hd.lt _ _ (hd.him _) (hd.vlt _)),←hd.asc _ _ _ (hd.lt _ _ hx (hd.vlt _)) (hd.him _) (hd.vlt _),hvw];exact i1
     ·have:=Prw.lgo hc (hw.over h hd.n0) ha hna hw (t2:=e'.txt++t) (r2:=e'.path++[]::r) (w:=u++s) (by rw[hvw];exact i2 s t r hs);simpa[Evt.pre]using this
   ·have find: ∀{p w r},Prw T im L C D 0 (C B x) 0 w p r-> ∃g,PcE T im L C D B x (vlW T im w) p g/\ ∀e∈g,e∈gs.flatMap Prod.snd:=fun {p w r} hw=>by
     have hv:=hd.vlt w;have hpF:=(hFam.iff _ hv p).2 ⟨w,r,hw,rfl⟩;obtain⟨g,hg⟩:=zDr k1 (List.mem_range.2 hv);obtain⟨-,gs',q1,q2,q3⟩:=k2 _ hg;obtain⟨g',hg'⟩:=zDr q1 hpF;exact⟨g',q2 _ hg',fun e he=>List.mem_flatMap.2 ⟨_,hg,by show e∈g;rw[show g=_ from q3];exact List.mem_flatMap.2 ⟨_,hg',he⟩⟩⟩
    cases hp with
    |fin hcB=>exact absurd hcB hc
    |lend _ hw hq=>
     obtain⟨g,hg,hsub⟩:=find hq;exact .inl ⟨_,hsub _ hg.own,rfl,rfl,rfl⟩
    | @lgo _ _ a p w2 t1 t2 r1 r2 _ hp ha hna h1 h2=>
     obtain⟨g,hg,hsub⟩:=find h1;obtain⟨g',hl,hg'⟩:=hg.sub a ha hna;rcases hl.cmp _ _ _ h2 with⟨e,he,i1,rfl,rfl⟩|⟨e,he,i1,s,ts,rs,i2,rfl,rfl,i3⟩
     ·exact .inl ⟨_,hsub _ (hg' e he),i1,rfl,rfl⟩
     ·refine .inr ⟨_,hsub _ (hg' e he),i1,s,ts,rs,i2,by simp[Evt.pre],by simp[Evt.pre],?_⟩;show T x (vlW T im (p++a::w2))=T e.val (vlW T im s);rw[←i3,hd.zN7,hd.zIp,←hd.asc _ _ _ hx (hd.vlt _) (hd.lt _ _ (hd.him _) (hd.vlt _)),←hd.asc _ _ _ (hd.lt _ _ hx (hd.vlt _)) (hd.him _) (hd.vlt _)]
   ·refine zCn (by rw[k1];exact List.nodup_range) (fun y hy=>?_) (fun y hy y' hy' hne e he e' he' hee=>?_)
    ·obtain⟨q0,gs',q1,q2,q3⟩:=k2 y hy;rw[q3];refine zCn (by rw[q1];exact hFam.nd _) (fun z hz=>(q2 z hz).nd) fun z hz z' hz' hne e he e' he' hee=>?_
     have e1:=first (q2 z hz) he
     have e2:=first (q2 z' hz') he'
     rw[hee,e2]at e1;exact hne (Option.some.inj e1).symm
    ·obtain⟨hv,p,g,hp,hg,heg⟩:=head y hy e he;obtain⟨hv',p',g',hp',hg',heg'⟩:=head y' hy' e' he';have e1:=first hg heg
     have e2:=first hg' heg'
     rw[hee,e2]at e1;obtain rfl:=Option.some.inj e1;obtain⟨w,r,hw,hvw⟩:=(hFam.iff _ hv p').1 hp;obtain⟨w',r',hw',hvw'⟩:=(hFam.iff _ hv' p').1 hp';have:=(Prw.txt h hd.n0 hw hw').2;rw[hd.idl _ (hd.vlt _),hd.idl _ (hd.vlt _),hvw,hvw']at this;exact hne this
   ·obtain⟨y,hy,hey⟩:=List.mem_flatMap.1 hm;obtain⟨hv,p,g,hp,hg,heg⟩:=head y hy e hey;obtain⟨w,r,hw,hvw⟩:=(hFam.iff _ hv p).1 hp;have hpn:p≠[]:=fun e=>by
     have:=hw.alt;rw[e]at this
     cases this
    rcases hg.inv e heg with rfl|⟨a,g',e',ha,hna,hl,he',rfl⟩
    ·simp only[List.mem_singleton];exact fun e=>hpn e.symm
    ·simp only[Evt.pre,List.mem_cons,not_or];exact⟨fun e=>hpn e.symm,by simp,hl.ne e' he'⟩
end
structure RSp(T:Nat->Nat->Nat)(im:Nat->Nat)(L:Nat)(C D:Nat->Nat->Nat)(B y:Nat)(g:List Evt):Prop where
 snd: ∀e∈g,∃w,Prw T im L C D 1 B y w e.txt e.path/\T (vlW T im w) y=e.val
 cmp: ∀w t r,Prw T im L C D 1 B y w t r-> ∃e∈g,e.txt=t/\e.path=r
 nd:(g.map Evt.path).Nodup
def evR(t:List Nat)(rs:List (List Nat×Nat))(g:List Evt):List (List Nat×Nat):=rs++g.map fun e=>(e.txt++t,e.val)
theorem zJO(t:List Nat)(rs:List (List Nat×Nat))(g g':List Evt):evR t (evR t rs g) g'=evR t rs (g++g'):=by unfold evR;rw[List.map_append,List.append_assoc]
def Evt.zNe(q:List Nat)(a:Nat)(e:Evt):Evt:=⟨false,e.txt++a::q,e.val,q::[a]::e.path⟩
theorem zRj(t q:List Nat)(a:Nat)(g:List Evt)(rs:List (List Nat×Nat)):evR (a::(q++t)) rs g=evR t rs (g.map (Evt.zNe q a)):=by
 unfold evR;rw[List.map_map];congr 1;refine List.map_congr_left fun e _=>?_
 simp[Evt.zNe]
section
variable{n:Nat}{T:Nat->Nat->Nat}{im:Nat->Nat}{L:Nat}{C D:Nat->Nat->Nat}{B:Nat}
structure PcR(T:Nat->Nat->Nat)(im:Nat->Nat)(L:Nat)(C D:Nat->Nat->Nat)(B y v:Nat)(q:List Nat)(g:List Evt):Prop where
 inv: ∀e∈g,e=⟨false,q,T v y,[q]⟩\/ ∃a g' e',zAp L B a/\ ¬zAp L (D B y) a/\RSp T im L C D B (T (im a) (T v y)) g'/\e'∈g'/\e=Evt.zNe q a e'
 own:(⟨false,q,T v y,[q]⟩:Evt)∈g
 sub: ∀a,zAp L B a-> ¬zAp L (D B y) a-> ∃g',RSp T im L C D B (T (im a) (T v y)) g'/\ ∀e'∈g',Evt.zNe q a e'∈g
 nd:(g.map Evt.path).Nodup
theorem zFk(h:zJk n T im L C D){fam:Nat->Option (List (List (List Nat)))}(hfam: ∀c,c<B-> ∀F,fam c=some F->zNY n T im L C D c F): ∀(f:Nat) (rs:List (List Nat×Nat)) (t:List Nat) (y:Nat) (rs':List (List Nat×Nat)),y<n->rightF n T im L fam (D B) B f rs t y=some rs'-> ∃g,RSp T im L C D B y g/\rs'=evR t rs g
 |0,rs,t,y,rs',_,he=>by cases he
 |f+1,rs,t,y,rs',hy,he=>by
  have hd:=h.da;unfold rightF at he;by_cases hc:D B y=B
  ·rw[if_pos hc]at he;by_cases hf:zE5 n (rs.length+1) (D B y::t)
   ·rw[if_pos hf]at he;injection he with he;refine⟨[⟨false,[B],y,[[]]⟩],⟨fun e hm=>?_,fun w t r hp=>?_,by simp⟩,?_⟩
    ·simp only[List.mem_singleton]at hm;subst hm;exact⟨[],.rfull hc (by simp),hd.idl y hy⟩
    ·cases hp with
     |rfull _ _=>exact⟨⟨false,[B],y,[[]]⟩,by simp,rfl,rfl⟩
     |rend hn=>exact absurd hc hn
     |rgo hn=>exact absurd hc hn
    ·rw[←he,hc];rfl
   ·rw[if_neg hf]at he;cases he
  rw[if_neg hc]at he
  cases hF:fam (D B y)with
  |none=>rw[hF]at he;cases he
  |some F=>
   rw[hF]at he;have hFam:=hfam _ (by have:=h.dl B y hy;omega) F hF;have piece: ∀(v:Nat),v<n-> ∀(rs:List (List Nat×Nat)) (q:List Nat) (rs':List (List Nat×Nat)),(if zE5 n (rs.length+1) (q++t)then loopO (fun rs a=>if B.testBit a&& !(D B y).testBit a then rightF n T im L fam (D B) B f rs (a::(q++t)) (T (im a) (T v y))else some rs) (rs++[(q++t,T v y)]) (List.range L)else none)=some rs'-> ∃g,PcR T im L C D B y v q g/\rs'=evR t rs g:=by
    intro v hv rs q rs' hs;have hyy: ∀a,T (im a) (T v y)<n:=fun a=>hd.lt _ _ (hd.him a) (hd.lt _ _ hv hy)
    by_cases hl:zE5 n (rs.length+1) (q++t)
    ·rw[if_pos hl]at hs;obtain⟨gs,k1,k2,k3⟩:=zAh (evR t) (fun b=>by unfold evR;simp) (fun b g g'=>zJO t b g g') (Q:=fun a g=>(zAp L B a/\ ¬zAp L (D B y) a-> ∃g',RSp T im L C D B (T (im a) (T v y)) g'/\g=g'.map (Evt.zNe q a))/\(¬(zAp L B a/\ ¬zAp L (D B y) a)->g=[])) (fun b a b' ha hb=>by
      have haL:a<L:=List.mem_range.1 ha;by_cases c:(B.testBit a&& !((D B y).testBit a))=true
      ·rw[if_pos c]at hb;obtain⟨g',h1,h2⟩:=zFk h hfam f _ _ _ _ (hyy a) hb;exact⟨g'.map (Evt.zNe q a),⟨fun _=>⟨g',h1,rfl⟩,fun hn=>absurd ((zEQ haL).1 c) hn⟩,by rw[h2,zRj]⟩
      ·rw[if_neg c]at hb;injection hb with hb;exact⟨[],⟨fun hh=>absurd ((zEQ haL).2 hh) c,fun _=>rfl⟩,by rw[←hb];unfold evR;simp⟩) hs
     have inv: ∀z∈gs,∀e∈z.2,zAp L B z.1/\ ¬zAp L (D B y) z.1/\ ∃g' e',RSp T im L C D B (T (im z.1) (T v y)) g'/\z.2=g'.map (Evt.zNe q z.1)/\e'∈g'/\e=Evt.zNe q z.1 e':=fun z hz e hez=>by
      obtain⟨q1,q2⟩:=k2 z hz;by_cases c:zAp L B z.1/\ ¬zAp L (D B y) z.1
      ·obtain⟨g',q3,q4⟩:=q1 c;rw[q4]at hez;obtain⟨e',q5,q6⟩:=List.mem_map.1 hez;exact⟨c.1,c.2,g',e',q3,q4,q5,q6.symm⟩
      ·rw[q2 c]at hez;cases hez
     refine⟨⟨false,q,T v y,[q]⟩::gs.flatMap Prod.snd,⟨fun e hm=>?_,by simp,fun a ha hna=>?_,?_⟩,?_⟩
     ·rcases List.mem_cons.1 hm with hm|hm
      ·exact .inl hm
      ·obtain⟨z,hz,hez⟩:=List.mem_flatMap.1 hm;obtain⟨i1,i2,g',e',i3,-,i4,i5⟩:=inv z hz e hez;exact .inr ⟨z.1,g',e',i1,i2,i3,i4,i5⟩
     ·obtain⟨g,hg⟩:=zDr k1 (List.mem_range.2 ha.1);obtain⟨g',q3,q4⟩:=(k2 _ hg).1 ⟨ha,hna⟩;exact⟨g',q3,fun e' he'=>List.mem_cons_of_mem _ (List.mem_flatMap.2 ⟨_,hg,by show _∈g;rw[show g=_ from q4];exact List.mem_map.2 ⟨e',he',rfl⟩⟩)⟩
     ·rw[List.map_cons,List.nodup_cons];refine⟨fun hm=>?_,zCn (by rw[k1];exact List.nodup_range) (fun z hz=>?_) (fun z hz z' hz' hne e he e' he' hee=>?_)⟩
      ·obtain⟨e,he,hee⟩:=List.mem_map.1 hm;obtain⟨z,hz,hez⟩:=List.mem_flatMap.1 he;obtain⟨-,-,g',e',-,-,-,rfl⟩:=inv z hz e hez;simp[Evt.zNe]at hee
      ·obtain⟨q1,q2⟩:=k2 z hz;by_cases c:zAp L B z.1/\ ¬zAp L (D B y) z.1
       ·obtain⟨g',q3,q4⟩:=q1 c;rw[q4,List.map_map];have hp:Evt.path∘Evt.zNe q z.1=(fun r=>q::[z.1]::r)∘Evt.path:=rfl;rw[hp,←List.map_map];rw[List.nodup_iff_pairwise_ne,List.pairwise_map];exact(List.nodup_iff_pairwise_ne.1 q3.nd).imp fun hne e=>hne (by injection e with _ e;injection e)
       ·rw[q2 c];simp
      ·obtain⟨-,-,g1,e1,-,-,-,rfl⟩:=inv z hz e he;obtain⟨-,-,g2,e2,-,-,-,rfl⟩:=inv z' hz' e' he';simp only[Evt.zNe,List.cons.injEq]at hee;exact hne hee.2.1.1
     ·rw[k3];unfold evR;simp
    ·rw[if_neg hl]at hs;cases hs
   obtain⟨gs,k1,k2,k3⟩:=zAh (evR t) (fun b=>by unfold evR;simp) (fun b g g'=>zJO t b g g') (Q:=fun v g=>v<n/\ ∃gs:List (List Nat×List Evt),gs.map Prod.fst=F.getD v []/\(∀z∈gs,PcR T im L C D B y v z.1 z.2)/\g=gs.flatMap Prod.snd) (fun b v b' hv hb=>by
    obtain⟨gs,q1,q2,q3⟩:=zAh (evR t) (fun b=>by unfold evR;simp) (fun b g g'=>zJO t b g g') (Q:=fun q g=>PcR T im L C D B y v q g) (fun b q b' _ hb=>piece v (List.mem_range.1 hv) b q b' hb) hb;exact⟨_,⟨List.mem_range.1 hv,gs,q1,q2,rfl⟩,q3⟩) he
   have head: ∀z∈gs,∀e∈z.2,z.1<n/\ ∃q g,q∈F.getD z.1 []/\PcR T im L C D B y z.1 q g/\e∈g:=fun z hz e hez=>by
    obtain⟨q0,gs',q1,q2,q3⟩:=k2 z hz;rw[q3]at hez;obtain⟨z',hz',hez'⟩:=List.mem_flatMap.1 hez;exact⟨q0,z'.1,z'.2,zQ2 q1 hz',q2 z' hz',hez'⟩
   have first: ∀{v q g e},PcR T im L C D B y v q g->e∈g->e.path.head? =some q:=fun hg he=>by
    rcases hg.inv _ he with rfl|⟨a,g',e',-,-,-,-,rfl⟩<;>rfl
   refine⟨gs.flatMap Prod.snd,⟨fun e hm=>?_,fun w t r hp=>?_,?_⟩,k3⟩
   ·obtain⟨z,hz,hez⟩:=List.mem_flatMap.1 hm;obtain⟨hv,q,g,hq,hg,heg⟩:=head z hz e hez;obtain⟨w,r,hw,hvw⟩:=(hFam.iff _ hv q).1 hq;rcases hg.inv e heg with rfl|⟨a,g',e',ha,hna,hl,he',rfl⟩
    ·exact⟨w,.rend hc (hw.over h hd.n0) hw,by rw[hvw]⟩
    ·obtain⟨w',i1,i2⟩:=hl.snd e' he';refine⟨w'++a::w,.rgo hc (hw.over h hd.n0) ha hna hw (by rw[hvw];exact i1),?_⟩;rw[hd.zN7,hd.zIp,hd.asc _ _ _ (hd.vlt _) (hd.lt _ _ (hd.him _) (hd.vlt _)) hy,hd.asc _ _ _ (hd.him _) (hd.vlt _) hy,hvw];exact i2
   ·have find: ∀{q w r},Prw T im L C D 0 (D B y) 0 w q r-> ∃g,PcR T im L C D B y (vlW T im w) q g/\ ∀e∈g,e∈gs.flatMap Prod.snd:=fun {q w r} hw=>by
     have hv:=hd.vlt w;have hpF:=(hFam.iff _ hv q).2 ⟨w,r,hw,rfl⟩;obtain⟨g,hg⟩:=zDr k1 (List.mem_range.2 hv);obtain⟨-,gs',q1,q2,q3⟩:=k2 _ hg;obtain⟨g',hg'⟩:=zDr q1 hpF;exact⟨g',q2 _ hg',fun e he=>List.mem_flatMap.2 ⟨_,hg,by show e∈g;rw[show g=_ from q3];exact List.mem_flatMap.2 ⟨_,hg',he⟩⟩⟩
    cases hp with
    |rfull hcB=>exact absurd hcB hc
    |rend _ hw hq=>
     obtain⟨g,hg,hsub⟩:=find hq;exact⟨_,hsub _ hg.own,rfl,rfl⟩
    | @rgo _ _ a q w2 t1 t2 r1 r2 _ hq ha hna h1 h2=>
     obtain⟨g,hg,hsub⟩:=find h1;obtain⟨g',hl,hg'⟩:=hg.sub a ha hna;obtain⟨e,he,rfl,rfl⟩:=hl.cmp _ _ _ h2;exact⟨_,hsub _ (hg' e he),rfl,rfl⟩
   ·refine zCn (by rw[k1];exact List.nodup_range) (fun z hz=>?_) (fun z hz z' hz' hne e he e' he' hee=>?_)
    ·obtain⟨q0,gs',q1,q2,q3⟩:=k2 z hz;rw[q3];refine zCn (by rw[q1];exact hFam.nd _) (fun z hz=>(q2 z hz).nd) fun z hz z' hz' hne e he e' he' hee=>?_
     have e1:=first (q2 z hz) he
     have e2:=first (q2 z' hz') he'
     rw[hee,e2]at e1;exact hne (Option.some.inj e1).symm
    ·obtain⟨hv,p,g,hp,hg,heg⟩:=head z hz e he;obtain⟨hv',p',g',hp',hg',heg'⟩:=head z' hz' e' he';have e1:=first hg heg
     have e2:=first hg' heg'
     rw[hee,e2]at e1;obtain rfl:=Option.some.inj e1;obtain⟨w,r,hw,hvw⟩:=(hFam.iff _ hv p').1 hp;obtain⟨w',r',hw',hvw'⟩:=(hFam.iff _ hv' p').1 hp';have:=(Prw.txt h hd.n0 hw hw').2;rw[hd.idl _ (hd.vlt _),hd.idl _ (hd.vlt _),hvw,hvw']at this;exact hne this
end
theorem zCr(st:List (List (List Nat)))(v:Nat)(t:List Nat):(zCj st v t).length=st.length:=by simp[zCj]
def zIP(A:List (Nat×List Nat))(st:List (List (List Nat))):List (List (List Nat)):=A.foldl (fun st e=>zCj st e.1 e.2) st
theorem zGo(A A':List (Nat×List Nat))(st:List (List (List Nat))):zIP (A++A') st=zIP A' (zIP A st):=by unfold zIP;rw[List.foldl_append]
theorem zK0(v:Nat): ∀(A:List (Nat×List Nat)) (st:List (List (List Nat))),v<st.length->(zIP A st).getD v []=st.getD v []++(A.filter fun e=>decide (e.1=v)).map Prod.snd
 |[],st,_=>by simp[zIP]
 |e::A,st,hv=>by
  show(zIP A (zCj st e.1 e.2)).getD v []=_;rw[zK0 v A _ (by rw[zCr];exact hv)];by_cases c:e.1=v
  ·subst c;have e1:(zCj st e.1 e.2).getD e.1 []=st.getD e.1 []++[e.2]:=by simp[zCj,Qv,hv]
   rw[e1];simp
  ·have e1:(zCj st e.1 e.2).getD v []=st.getD v []:=by
    unfold zCj;rw[Qv,List.getElem?_set_ne c,←Qv]
   rw[e1];simp[c]
theorem zKV: ∀(A:List (Nat×List Nat)) (st:List (List (List Nat))),(zIP A st).length=st.length
 |[],st=>rfl
 |e::A,st=>by
  show(zIP A (zCj st e.1 e.2)).length=_;rw[zKV A,zCr]
theorem zEs{α β:Type}{gs:List (α×List β)}{k:α->List β}(h: ∀x∈gs,x.2=k x.1):gs.flatMap Prod.snd=(gs.map Prod.fst).flatMap k:=by
 induction gs with
 |nil=>rfl
 |cons x gs ih=>
  rw[List.flatMap_cons,List.map_cons,List.flatMap_cons,h x (by simp),ih fun y hy=>h y (by simp[hy])]
theorem zLI(g:List Evt): ∀st:LSt,zIQ [] st g=(zIP ((g.filter fun e=>!e.fin).map fun e=>(e.val,e.txt)) st.1,st.2++(g.filter fun e=>e.fin).map fun e=>(e.txt,e.val)):=by
 induction g with
 |nil=>intro st;simp[zIQ,zIP]
 |cons e g ih=>
  intro st;show zIQ [] (if e.fin then(st.1,st.2++[([]++e.txt,e.val)])else(zCj st.1 e.val ([]++e.txt),st.2)) g=_;rw[ih]
  cases hf:e.fin with
  |true=>simp[hf]
  |false=>simp[hf,zIP]
theorem zQK{α β:Type}(k:α->β)(l:List α):(l.flatMap fun r=>[k r])=l.map k:=by
 induction l with
 |nil=>rfl
 |cons r l ih=>rw[List.flatMap_cons,ih];rfl
theorem zD6{α β:Type}{f:α->β}: ∀{l:List α},(l.map f).Nodup-> ∀a∈l,∀b∈l,f a=f b->a=b
 |[],_,a,ha=>by cases ha
 |c::l,h,a,ha=>by
  rw[List.map_cons,List.nodup_cons]at h;intro b hb e;rcases List.mem_cons.1 ha with h1|h1
  ·rcases List.mem_cons.1 hb with h2|h2
   ·exact h1.trans h2.symm
   ·exact absurd (List.mem_map.2 ⟨b,h2,by rw[←e,h1]⟩) h.1
  ·rcases List.mem_cons.1 hb with h2|h2
   ·exact absurd (List.mem_map.2 ⟨a,h1,by rw[e,h2]⟩) h.1
   ·exact zD6 h.2 a h1 b h2 e
theorem zMS{T:Nat->Nat->Nat}{st:List (List (List Nat))}{lefts rights:List (List Nat×Nat)}{F:List (List (List Nat))}(h:zFS T st lefts rights=some F):F=zIP (lefts.flatMap fun l=>rights.map fun r=>(T l.2 r.2,l.1++r.1)) st:=by
 obtain⟨gs,k1,k2,k3⟩:=zAh (fun st A=>zIP A st) (fun b=>rfl) (fun b g g'=>(zGo g g' b).symm) (Q:=fun l g=>g=rights.map fun r=>(T l.2 r.2,l.1++r.1)) (fun st l st' _ hs=>by
  obtain⟨gs,k1,k2,k3⟩:=zAh (fun st A=>zIP A st) (fun b=>rfl) (fun b g g'=>(zGo g g' b).symm) (Q:=fun r g=>g=[(T l.2 r.2,l.1++r.1)]) (fun st r st' _ hs=>by
   refine⟨_,rfl,?_⟩;unfold zBO at hs;split at hs
   ·injection hs with hs;exact hs.symm
   ·cases hs) hs
  refine⟨_,?_,k3⟩;rw[zEs (k:=fun r=>[(T l.2 r.2,l.1++r.1)]) k2,k1];exact zQK (fun r:List Nat×Nat=>(T l.2 r.2,l.1++r.1)) rights) h
 rw[k3,zEs (k:=fun l=>rights.map fun r=>(T l.2 r.2,l.1++r.1)) k2,k1]
theorem zEu{α β γ:Type}{f:α->β}{k:α->γ}: ∀{l:List α},(l.map f).Nodup->(∀a∈l,∀b∈l,k a=k b->f a=f b)->(l.map k).Nodup
 |[],_,_=>by simp
 |a::l,h,hk=>by
  rw[List.map_cons,List.nodup_cons]at h ⊢;refine⟨fun hm=>?_,zEu h.2 fun x hx y hy=>hk x (by simp[hx]) y (by simp[hy])⟩;obtain⟨b,hb,e⟩:=List.mem_map.1 hm;exact h.1 (List.mem_map.2 ⟨b,hb,hk b (by simp[hb]) a (by simp) e⟩)
theorem zJm{α:Type}{z:α}: ∀{p p' w w':List α},z∉p->z∉p'->p++z::w=p'++z::w'->p=p'/\w=w'
 |[],[],w,w',_,_,e=>⟨rfl,by simpa using e⟩
 |[],b::p',w,w',_,h,e=>by
  simp only[List.nil_append,List.cons_append,List.cons.injEq]at e;exact absurd (by rw[e.1];simp) h
 |b::p,[],w,w',h,_,e=>by
  simp only[List.nil_append,List.cons_append,List.cons.injEq]at e;exact absurd (by rw[←e.1];simp) h
 |b::p,c::p',w,w',h1,h2,e=>by
  simp only[List.cons_append,List.cons.injEq]at e;obtain⟨e3,e4⟩:=zJm (fun h=>h1 (by simp[h])) (fun h=>h2 (by simp[h])) e.2;exact⟨by rw[e.1,e3],e4⟩
section
variable{n:Nat}{T:Nat->Nat->Nat}{im:Nat->Nat}{L:Nat}
theorem zKJ(hd:DaM n T im): ∀(f B:Nat) (F:List (List (List Nat))),famF n T im L f B=some F->zNY n T im L (zFT n T im L) (zFW n T im L) B F
 |0,B,F,h=>by cases h
 |f+1,B,F,h=>by
  have hP:=zNM hd L;have hfam: ∀c,c<B-> ∀F,famF n T im L f c=some F->zNY n T im L (zFT n T im L) (zFW n T im L) c F:=fun c _ F hF=>zKJ hd f c F hF
  unfold famF at h
  cases hl:leftF n T im L (famF n T im L f) (zFT n T im L B) B 130 (List.replicate n [],[]) [] 0 with
  |none=>rw[hl]at h;cases h
  |some st=>
   rw[hl]at h
   cases hr:rightF n T im L (famF n T im L f) (zFW n T im L B) B 130 [] [] 0 with
   |none=>rw[hr]at h;cases h
   |some rs=>
    rw[hr]at h;obtain⟨g,hg,e1⟩:=zIH hP hfam 130 _ _ _ _ hd.n0 hl;obtain⟨g2,hg2,e2⟩:=zFk hP hfam 130 _ _ _ _ hd.n0 hr;have h3:=zMS h;rw[zLI]at e1;have e2:rs=g2.map fun e=>(e.txt,e.val):=by rw[e2];unfold evR;simp
    obtain⟨A,hA⟩: ∃A,A=((g.filter fun e=>!e.fin).map fun e=>(e.val,e.txt))++((g.filter fun e=>e.fin).flatMap fun e=>g2.map fun e'=>(T e.val e'.val,e.txt++e'.txt)):=⟨_,rfl⟩;have hF:F=zIP A (List.replicate n []):=by
     rw[h3,e1,e2,hA,zGo];congr 1;simp only[List.nil_append,List.flatMap_map,List.map_map];rfl
    -- what stands in the family
    have inA: ∀x∈A,∃w r,Prw T im L (zFT n T im L) (zFW n T im L) 0 B 0 w x.2 r/\vlW T im w=x.1:=fun x hx=>by
     rw[hA]at hx;rcases List.mem_append.1 hx with hx|hx
     ·obtain⟨e,he,rfl⟩:=List.mem_map.1 hx;obtain⟨he1,he2⟩:=List.mem_filter.1 he;obtain⟨w,hw,hv⟩:=hg.snd e he1 (by simpa using he2);rw[hd.idl _ (hd.vlt _)]at hv;exact⟨w,_,hw,hv⟩
     ·obtain⟨e,he,hx⟩:=List.mem_flatMap.1 hx;obtain⟨e',he',rfl⟩:=List.mem_map.1 hx;obtain⟨he1,he2⟩:=List.mem_filter.1 he;obtain⟨-,u,hu,hru⟩:=hg.snf e he1 he2;obtain⟨s,hs,hv⟩:=hg2.snd e' he';rw[hd.idl _ (hd.vlt _)]at hu;rw[hd.idr _ (hd.vlt _)]at hv;exact⟨u++s,_,hru s _ _ hs,by rw[hd.zN7,hu,hv]⟩
    have toA: ∀w t r,Prw T im L (zFT n T im L) (zFW n T im L) 0 B 0 w t r->(vlW T im w,t)∈A:=fun w t r hw=>by
     have key: ∃v,(v,t)∈A:=by
      rw[hA];rcases hg.cmp w t r hw with⟨e,he,i1,i2,-⟩|⟨e,he,i1,s,ts,rs,i2,i3,-,-⟩
      ·exact⟨e.val,List.mem_append_left _ (List.mem_map.2 ⟨e,List.mem_filter.2 ⟨he,by simp[i1]⟩,by rw[i2]⟩)⟩
      ·obtain⟨e',he',i4,-⟩:=hg2.cmp _ _ _ i2;exact⟨T e.val e'.val,List.mem_append_right _ (List.mem_flatMap.2 ⟨e,List.mem_filter.2 ⟨he,i1⟩,List.mem_map.2 ⟨e',he',by rw[i4,←i3]⟩⟩)⟩
     obtain⟨v,hv⟩:=key;obtain⟨w',r',hw',hv'⟩:=inA _ hv;have:=(Prw.txt hP hd.n0 hw hw').2;rw[hd.idl _ (hd.vlt _),hd.idl _ (hd.vlt _),hv']at this;rw[this];exact hv
    have path: ∀{w w' t t' r r'},Prw T im L (zFT n T im L) (zFW n T im L) 0 B 0 w t r->Prw T im L (zFT n T im L) (zFW n T im L) 0 B 0 w' t' r'->t=t'->r=r':=fun {w w' t t' r r'} h1 h2 e=>by
     subst e;exact(Prw.txt hP hd.n0 h1 h2).1
    have pE: ∀e∈g,e.fin=false-> ∃w,Prw T im L (zFT n T im L) (zFW n T im L) 0 B 0 w e.txt e.path:=fun e he hf=>by
     obtain⟨w,hw,-⟩:=hg.snd e he hf;exact⟨w,hw⟩
    have pJ: ∀e∈g,e.fin=true-> ∀e'∈g2,∃w,Prw T im L (zFT n T im L) (zFW n T im L) 0 B 0 w (e.txt++e'.txt) (e.path++[]::e'.path):=fun e he hf e' he'=>by
     obtain⟨-,u,-,hru⟩:=hg.snf e he hf;obtain⟨s,hs,-⟩:=hg2.snd e' he';exact⟨_,hru s _ _ hs⟩
    have ndA:(A.map Prod.snd).Nodup:=by
     rw[hA,List.map_append,List.nodup_append];refine⟨?_,?_,fun x hx y hy hxy=>?_⟩
     ·rw[List.map_map];refine zEu (f:=Evt.path) ((List.filter_sublist (l:=g)).map Evt.path|>.nodup hg.nd) fun e he e' he' hee=>?_
      obtain⟨he1,he2⟩:=List.mem_filter.1 he;obtain⟨he1',he2'⟩:=List.mem_filter.1 he';obtain⟨w,hw⟩:=pE e he1 (by simpa using he2);obtain⟨w',hw'⟩:=pE e' he1' (by simpa using he2');exact path hw hw' hee
     ·rw[zJp];have hndg:g.Nodup:=(List.pairwise_map.1 (List.nodup_iff_pairwise_ne.1 hg.nd)).imp fun hne e=>hne (by rw[e])
      refine zDg ((List.filter_sublist (l:=g)).nodup hndg) (fun e he=>?_) (fun e he e' he' hne x hx hx'=>?_)
      ·rw[List.map_map];obtain⟨he1,he2⟩:=List.mem_filter.1 he;refine zEu (f:=Evt.path) hg2.nd fun a ha b hb hab=>?_
       obtain⟨w,hw⟩:=pJ e he1 he2 a ha;obtain⟨w',hw'⟩:=pJ e he1 he2 b hb;have:=path hw hw' hab;exact(zJm (hg.ne e he1) (hg.ne e he1) this).2
      ·obtain⟨he1,he2⟩:=List.mem_filter.1 he;obtain⟨he1',he2'⟩:=List.mem_filter.1 he';obtain⟨y,hy,rfl⟩:=List.mem_map.1 hx;obtain⟨a,ha,rfl⟩:=List.mem_map.1 hy;obtain⟨y',hy',e4⟩:=List.mem_map.1 hx';obtain⟨b,hb,rfl⟩:=List.mem_map.1 hy';obtain⟨w,hw⟩:=pJ e he1 he2 a ha;obtain⟨w',hw'⟩:=pJ e' he1' he2' b hb;have:=path hw' hw e4;have e5:=(zJm (hg.ne e' he1') (hg.ne e he1) this).1;exact hne (zD6 hg.nd e he1 e' he1' e5.symm)
     ·obtain⟨z,hz,rfl⟩:=List.mem_map.1 hx;obtain⟨e,he,rfl⟩:=List.mem_map.1 hz;obtain⟨he1,he2⟩:=List.mem_filter.1 he;obtain⟨z',hz',rfl⟩:=List.mem_map.1 hy;obtain⟨e',he',hz'⟩:=List.mem_flatMap.1 hz';obtain⟨a,ha,rfl⟩:=List.mem_map.1 hz';obtain⟨he1',he2'⟩:=List.mem_filter.1 he';obtain⟨w,hw⟩:=pE e he1 (by simpa using he2);obtain⟨w',hw'⟩:=pJ e' he1' he2' a ha;have:=path hw hw' hxy;exact hg.ne e he1 (by rw[this];simp)
    have hlen:F.length=n:=by rw[hF,zKV];simp
    have hget: ∀v,v<n->F.getD v []=(A.filter fun e=>decide (e.1=v)).map Prod.snd:=fun v hv=>by
     rw[hF,zK0 v A _ (by simpa using hv)];simp[Qv,hv]
    refine⟨hlen,fun v=>?_,fun v hv t=>?_⟩
    ·by_cases hv:v<n
     ·rw[hget v hv];exact((List.filter_sublist (l:=A)).map Prod.snd).nodup ndA
     ·have:F.getD v []=[]:=by simp[Qv,show F.length<=v by omega]
      rw[this];simp
    ·rw[hget v hv];constructor
     ·intro ht;obtain⟨x,hx,rfl⟩:=List.mem_map.1 ht;obtain⟨hx1,hx2⟩:=List.mem_filter.1 hx;obtain⟨w,r,hw,hwv⟩:=inA x hx1;exact⟨w,r,hw,hwv.trans (by simpa using hx2)⟩
     ·rintro⟨w,r,hw,rfl⟩;exact List.mem_map.2 ⟨_,List.mem_filter.2 ⟨toA w t r hw,by simp⟩,rfl⟩
end
theorem zAr{α β:Type}{f g:β->α->Option β}: ∀{l:List α} (b:β),(∀b,∀a∈l,f b a=g b a)->loopO f b l=loopO g b l
 |[],b,_=>rfl
 |a::l,b,h=>by
  unfold loopO;rw[h b a (by simp)]
  cases g b a with
  |none=>rfl
  |some b'=>exact zAr b' fun b x hx=>h b x (by simp[hx])
section
variable{n:Nat}{T:Nat->Nat->Nat}{im:Nat->Nat}{L:Nat}
theorem zDl(hd:DaM n T im){C:Nat->Nat}{B:Nat}(hC: ∀x,x<n->C x<=B){fam fam':Nat->Option (List (List (List Nat)))}(h: ∀c,c<B->fam c=fam' c): ∀(f:Nat) (st:LSt) (t:List Nat) (x:Nat),x<n->leftF n T im L fam C B f st t x=leftF n T im L fam' C B f st t x
 |0,_,_,_,_=>rfl
 |f+1,st,t,x,hx=>by
  unfold leftF;by_cases c:C x=B
  ·rw[if_pos c,if_pos c]
  ·rw[if_neg c,if_neg c,h _ (by have:=hC x hx;omega)]
   cases fam' (C x)with
   |none=>rfl
   |some F=>
    refine zAr _ fun st v hv=>zAr _ fun st p _=>?_
    have hv:v<n:=List.mem_range.1 hv
    cases zBO st.1 (t++p) (T x v)with
    |none=>rfl
    |some l1=>
     refine zAr _ fun st a _=>?_
     rw[zDl hd hC h f _ _ _ (hd.lt _ _ (hd.lt _ _ hx hv) (hd.him a))]
theorem zC6(hd:DaM n T im){D:Nat->Nat}{B:Nat}(hD: ∀x,x<n->D x<=B){fam fam':Nat->Option (List (List (List Nat)))}(h: ∀c,c<B->fam c=fam' c): ∀(f:Nat) (rs:List (List Nat×Nat)) (t:List Nat) (y:Nat),y<n->rightF n T im L fam D B f rs t y=rightF n T im L fam' D B f rs t y
 |0,_,_,_,_=>rfl
 |f+1,rs,t,y,hy=>by
  unfold rightF;by_cases c:D y=B
  ·rw[if_pos c,if_pos c]
  ·rw[if_neg c,if_neg c,h _ (by have:=hD y hy;omega)]
   cases fam' (D y)with
   |none=>rfl
   |some F=>
    refine zAr _ fun rs v hv=>zAr _ fun rs q _=>?_
    have hv:v<n:=List.mem_range.1 hv;by_cases c2:zE5 n (rs.length+1) (q++t)
    ·rw[if_pos c2,if_pos c2];refine zAr _ fun rs a _=>?_
     rw[zC6 hd hD h f _ _ _ (hd.lt _ _ (hd.him a) (hd.lt _ _ hv hy))]
    ·rw[if_neg c2,if_neg c2]
theorem zPp(hd:DaM n T im)(f B:Nat)(h: ∀c,c<B->famF n T im L f c=famF n T im L (f+1) c):famF n T im L (f+1) B=famF n T im L (f+1+1) B:=by
 have hP:=zNM hd L;have e1:=fun st t x hx=>zDl (L:=L) hd (C:=zFT n T im L B) (hP.cl B) h 130 st t x hx
 have e2:=fun rs t x hx=>zC6 (L:=L) hd (D:=zFW n T im L B) (hP.dl B) h 130 rs t x hx
 show(match leftF n T im L (famF n T im L f) (zFT n T im L B) B 130 (List.replicate n [],[]) [] 0 with
  |none=>none
  |some st=>match rightF n T im L (famF n T im L f) (zFW n T im L B) B 130 [] [] 0 with
   |none=>none
   |some rs=>zFS T st.1 st.2 rs)=match leftF n T im L (famF n T im L (f+1)) (zFT n T im L B) B 130 (List.replicate n [],[]) [] 0 with
  |none=>none
  |some st=>match rightF n T im L (famF n T im L (f+1)) (zFW n T im L B) B 130 [] [] 0 with
   |none=>none
   |some rs=>zFS T st.1 st.2 rs
 rw[e1 _ _ _ hd.n0,e2 _ _ _ hd.n0]
theorem zQH(hd:DaM n T im): ∀(B f:Nat),B<f->famF n T im L f B=famF n T im L (f+1) B:=by
 intro B
 induction B using Nat.strongRecOn with
 |ind B ih=>
  intro f hf;obtain⟨f,rfl⟩: ∃k,f=k+1:=⟨f-1,by omega⟩;exact zPp hd f B fun c hc=>ih c hc f (by omega)
def zEc(n:Nat)(T:Nat->Nat->Nat)(im:Nat->Nat)(L B:Nat):Option (List (List (List Nat))):=famF n T im L (B+1) B
theorem zPF(hd:DaM n T im){B f:Nat}(h:B<f):famF n T im L f B=zEc n T im L B:=by
 obtain⟨k,rfl⟩: ∃k,f=B+1+k:=⟨f-(B+1),by omega⟩;clear h
 induction k with
 |zero=>rfl
 |succ k ih=>rw[←Nat.add_assoc,←zQH hd B (B+1+k) (by omega)];exact ih
theorem zJB(hd:DaM n T im)(B:Nat):zEc n T im L B=match leftF n T im L (zEc n T im L) (zFT n T im L B) B 130 (List.replicate n [],[]) [] 0 with
  |none=>none
  |some st=>match rightF n T im L (zEc n T im L) (zFW n T im L B) B 130 [] [] 0 with
   |none=>none
   |some rs=>zFS T st.1 st.2 rs:=by
 have hP:=zNM hd L;have h: ∀c,c<B->famF n T im L B c=zEc n T im L c:=fun c hc=>zPF hd hc
 rw[←zDl (L:=L) hd (C:=zFT n T im L B) (hP.cl B) h 130 _ _ _ hd.n0,←zC6 (L:=L) hd (D:=zFW n T im L B) (hP.dl B) h 130 _ _ _ hd.n0];rfl
theorem zRY(hd:DaM n T im){B:Nat}{F:List (List (List Nat))}(h:zEc n T im L B=some F):zNY n T im L (zFT n T im L) (zFW n T im L) B F:=zKJ hd _ _ _ h
end
