/- Lemmas for the law AperiodicMember. No conditions. -/
import Derived.Test.YtjkeafkjjaploaaGreatZqab
set_option linter.all false
namespace Go.Proofs.YtjkeafkjjaploaaGreat.M
open Go.RowKit
set_option maxRecDepth 100000
set_option maxHeartbeats 32000000

def KL(P:Program)(ops:Array Oper)(N:Nat)(r:List Oper)(k:Nat)(K:ASt->Prop):ASt->Prop:=fun σ=>awpL P ops N r k σ K
def KD(P:Program)(ops:Array Oper)(N:Nat)(r:List Oper)(k:Nat)(sm:List (List Nat×List Nat))(K:ASt->Prop):ASt->List Nat×List Nat->Prop:=fun σ s=>zJO P ops N r k σ (sm++[s]) K
theorem zQq(P:Program)(ops:Array Oper)(N:Nat)(r:List Oper)(k:Nat)(K:ASt->Prop)(σ:ASt):KL P ops N r k K σ=awpL P ops N r k σ K:=rfl
theorem zVr(P:Program)(ops:Array Oper)(N:Nat)(r:List Oper)(k:Nat)(sm:List (List Nat×List Nat))(K:ASt->Prop)(σ:ASt)(s:List Nat×List Nat):KD P ops N r k sm K σ s=zJO P ops N r k σ (sm++[s]) K:=rfl
theorem zES(P:Program)(ops:Array Oper)(N k:Nat)(σ:ASt)(K:ASt->Prop):awpL P ops N [] k σ K=K { σ with nxt:=N+k }:=rfl
theorem zDV(P:Program)(ops:Array Oper)(N k:Nat)(o:Oper)(r:List Oper)(σ:ASt)(K:ASt->Prop):awpL P ops N (o::r) k σ K=awpOp P ops (N+k) o σ (KL P ops N r (k+1000000) K):=rfl
theorem zQa(P:Program)(ops:Array Oper)(N k:Nat)(σ:ASt)(sm:List (List Nat×List Nat))(K:ASt->Prop):zJO P ops N [] k σ sm K=(zAf ops sm=true/\K { σ with nxt:=N+k }):=rfl
theorem zNZ(P:Program)(ops:Array Oper)(N k:Nat)(o:Oper)(r:List Oper)(σ:ASt)(sm:List (List Nat×List Nat))(K:ASt->Prop):zJO P ops N (o::r) k σ sm K=awpOpD P ops (N+k) o σ (KD P ops N r (k+1000000) sm K):=rfl
theorem zCC{α:Type}(f:Nat->α)(i:Nat)(x:α)(j:Nat):upd f i x j=bif (j==i)then x else f j:=by
 by_cases h:j=i
 ·subst h;simp[upd]
 ·simp[upd,h,beq_eq_false_iff_ne.2 h]
theorem zAN(t:Nat):envOf [] t= .any:=rfl
theorem zAF(k:Nat)(v:AV)(r:List (Nat×AV))(t:Nat):envOf ((k,v)::r) t=bif (t==k)then v else envOf r t:=by
 by_cases h:t=k
 ·subst h;simp[envOf]
 ·simp[envOf,h,beq_eq_false_iff_ne.2 h]
theorem zAH(t:Nat):heapOf [] t=none:=rfl
theorem zz(k:Nat)(v:AObj)(r:List (Nat×AObj))(t:Nat):heapOf ((k,v)::r) t=bif (t==k)then some v else heapOf r t:=by
 by_cases h:t=k
 ·subst h;simp[heapOf]
 ·simp[heapOf,h,beq_eq_false_iff_ne.2 h]
theorem zAd(t:Nat):mpOf [] t=none:=rfl
theorem zAL(k:Nat)(v:Option Nat)(r:List (Nat×Option Nat))(t:Nat):mpOf ((k,v)::r) t=bif (t==k)then v else mpOf r t:=by
 by_cases h:t=k
 ·subst h;simp[mpOf]
 ·simp[mpOf,h,beq_eq_false_iff_ne.2 h]
/-! ## Many own objects that come back from a call -/
def tab{α:Type}(n:Nat)(F:Nat->α):List α:=(List.range n).map F
@[simp] theorem zq{α:Type}(n:Nat)(F:Nat->α):(tab n F).length=n:=by simp[tab]
@[simp] theorem zX{α:Type}{n:Nat}(F:Nat->α){k:Nat}(h:k<n):(tab n F)[k]? =some (F k):=by simp[tab,h]
theorem zCW{α:Type}{n:Nat}(F:Nat->α){k:Nat}(h:n<=k):(tab n F)[k]? =none:=by simp[tab,h]
def ovr(b n:Nat)(G:Nat->AObj)(H:Nat->Option AObj)(k:Nat):Option AObj:=if k<b then H k else if k-b<n then some (G (k-b))else H k
theorem zBd(b n:Nat)(G:Nat->AObj)(H:Nat->Option AObj){k:Nat}(h:k<b):ovr b n G H k=H k:=by unfold ovr;rw[if_pos h]
theorem zBy(b n:Nat)(G:Nat->AObj)(H:Nat->Option AObj){j:Nat}(h:j<n):ovr b n G H (b+j)=some (G j):=by
 unfold ovr;rw[if_neg (by omega),if_pos (by omega)];congr 2;omega
theorem zBG(hl:List (Nat×AObj))(base n:Nat)(F:Nat->AObj){k:Nat}(h:k<base):zDy hl base n F k=heapOf hl k:=by unfold zDy;rw[if_pos h]
theorem zA8(hl:List (Nat×AObj))(base n:Nat)(F:Nat->AObj){j:Nat}(h:j<n):zDy hl base n F (base+j)=some (F j):=by
 unfold zDy;rw[if_neg (by omega),if_pos (by omega)];congr 2;omega
theorem zA3(mp:List (Nat×Option Nat))(base n:Nat)(g:Nat->Nat){k:Nat}(h:k<base):zBj mp base n g k=mpOf mp k:=by unfold zBj;rw[if_pos h]
theorem zAw(mp:List (Nat×Option Nat))(base n:Nat)(g:Nat->Nat){j:Nat}(h:j<n):zBj mp base n g (base+j)=some (g j):=by
 unfold zBj;rw[if_neg (by omega),if_pos (by omega)];congr 2;omega
def poF(ph:List Nat)(b n:Nat):List Nat:=ph++tab n fun j=>b+j
theorem zUL{ph:List Nat}{b n j:Nat}(h:j<n):(poF ph b n).getD (ph.length+j) 0=b+j:=by
 unfold poF;rw[Qv,Qa (by omega),show ph.length+j-ph.length=j by omega,zX _ h];rfl
theorem zD6{ph:List Nat}{b n j k:Nat}(h:(poF ph b n)[j]? =some k):(j<ph.length/\ph[j]? =some k)\/(ph.length<=j/\j-ph.length<n/\k=b+(j-ph.length)):=by
 unfold poF at h;by_cases hj:j<ph.length
 ·rw[Qw hj]at h;exact .inl ⟨hj,h⟩
 ·rw[Qa (by omega)]at h;have h2:=(Qq.1 h).1;rw[zq]at h2;rw[zX _ h2]at h;injection h with h;exact .inr ⟨by omega,h2,h.symm⟩
theorem zLH: ∀{l:List Nat},(∀(i j:Nat) k,l[i]? =some k->l[j]? =some k->i=j)->ndL l
 |[],_=>trivial
 |a::r,h=>by
  refine⟨fun ha=>?_,zLH (fun i j k hi hj=>?_)⟩
  ·obtain⟨i,hi,e⟩:=Qb ha;have:=h 0 (i+1) a rfl (by simp[hi,e]);omega
  ·have:=h (i+1) (j+1) k (by simpa using hi) (by simpa using hj);omega
theorem zIo{i:Nat}{pi:List Nat}{args:List AV}{H H':List AObj}: ∀{po:List Nat} {j0:Nat},(∀(j:Nat) k,po[j]? =some k->(i<=k/\k<i+1000000)\/(pi[j0+j]? =some k/\ ∃(t c ty:Nat) (cs:List AV) (ty':Nat) (cs':List AV),args[t]? =some (AV.ptr (j0+j) 0 c)/\H[j0+j]? =some (AObj.box ty cs)/\cs.length=c/\H'[j0+j]? =some (AObj.box ty' cs')/\cs'.length=c))->zRk i pi args H H' j0 po
 |[],j0,_=>trivial
 |a::r,j0,h=>by
  refine⟨h 0 a rfl,zIo (fun j k hj=>?_)⟩;have:=h (j+1) k (by simpa using hj);rw[show j0+(j+1)=j0+1+j by omega]at this;exact this
def callF(σ:ASt)(dst:Option Tmp)(pi ph:List Nat)(b n q:Nat)(res:AV)(hd:List AObj)(F:Nat->AObj):ASt:={ σ with env:=match dst with|some d=>upd σ.env d (outV (poF ph b n) q res)|none=>σ.env,heap:=ovr b n (fun j=>outO (poF ph b n) q (F j)) (addL (delL σ.heap pi) (ph.zip (hd.map (outO (poF ph b n) q)))) }
theorem zLL{σ:ASt}{dst:Option Tmp}{pi ph:List Nat}{b n q:Nat}{res:AV}{hd:List AObj}{F:Nat->AObj}(hl:ph.length=hd.length)(hb: ∀k,k∈ph->k<b):callS σ dst pi (poF ph b n) q res (hd++tab n F)=callF σ dst pi ph b n q res hd F:=by
 have hnd: ∀(m:Nat) (k:Nat) (f:Nat->Option AObj) (G:Nat->AObj),addL f ((tab m fun j=>b+j).zip (tab m G)) k=if k<b then f k else if k-b<m then some (G (k-b))else f k:=fun m k f G=>by
  have hnd2:ndL (tab m fun j=>b+j):=zLH (fun i j k hi hj=>by
   have a1:=(Qq.1 hi).1;have a2:=(Qq.1 hj).1;rw[zq]at a1 a2;rw[zX _ a1]at hi;rw[zX _ a2]at hj;injection hi with hi;injection hj with hj;omega)
  rw[addL_zip _ _ _ _ (by simp)]
  cases hq:idx (tab m fun j=>b+j) k with
  |none=>
   by_cases h1:k<b
   ·rw[if_pos h1]
   ·rw[if_neg h1];by_cases h2:k-b<m
    ·have:=zHf hnd2 (k:=k) (j:=k-b) (by rw[zX _ h2];congr 1;omega);rw[hq]at this;cases this
    ·rw[if_neg h2]
  |some j=>
   have hj:=zD4 hq;have a1:=(Qq.1 hj).1;rw[zq]at a1;rw[zX _ a1]at hj;injection hj with hj;show(tab m G)[j]? =_;rw[zX _ a1,if_neg (by omega),if_pos (by omega)];congr 2;omega
 have hzip: ∀(po:List Nat) (q':Nat),(poF ph b n).zip ((hd++tab n F).map (outO po q'))=ph.zip (hd.map (outO po q'))++(tab n fun j=>b+j).zip (tab n fun j=>outO po q' (F j)):=fun po q'=>by
  unfold poF;rw[List.map_append,List.zip_append (by simpa using hl)];congr 2;unfold tab;simp[Function.comp_def]
 have hadd: ∀(l1 l2:List (Nat×AObj)) (f:Nat->Option AObj),addL f (l1++l2)=addL (addL f l2) l1:=fun l1=>by
  induction l1 with
  |nil=>intro l2 f;rfl
  |cons x r ih=>intro l2 f;obtain⟨k,y⟩:=x;simp only[List.cons_append,addL,ih]
 refine ASt.ext' (fun t=>rfl) (fun k=>?_) rfl rfl rfl;show zBg σ.heap (hd++tab n F) pi (poF ph b n) q k=ovr b n (fun j=>outO (poF ph b n) q (F j)) (addL (delL σ.heap pi) (ph.zip (hd.map (outO (poF ph b n) q)))) k;unfold zBg;have hP:=addL_zip (delL σ.heap pi) ph (hd.map (outO (poF ph b n) q)) k (by simp[hl]);rw[hzip,hadd,addL_zip _ _ _ _ (by simp[hl])];unfold ovr;rw[hP]
 cases hq:idx ph k with
 |none=>
  rw[hq]at hP;simp only;exact hnd n k _ _
 |some j=>
  have:=hb k (Qc (zD4 hq));simp only;rw[if_pos this]
theorem zF9{P:Program}{ops:Array Oper}{i:Nat}{o:Oper}{σ:ASt}{K:ASt->Prop}{cl:Call}{fo:Operand}{f:FuncId}{caps:List AV}{args:List AV}{H hd:List AObj}{n:Nat}{F:Nat->AObj}{res:AV}(hspec:FnS P f args H res (hd++tab n F))(pi ph:List Nat)(b q:Nat)
  (hg:gd ops σ o=some true) (hop:o.op= .call cl) (hc:cl.callee= .value fo) (hfo:σ.eval fo= .fn f caps) (hb:zCM P f=true) (hd':zAv σ o=true)
  (hargs:inPs σ.heap pi q (cl.args.toList.map σ.eval++caps) args) (hobj:inOs σ.heap pi q pi H) (hndi:ndL pi) (hlen:ph.length=hd.length) (hndo:ndL ph) (hpo:zRk i pi args H hd 0 ph) (hbb:i<=b/\b+n<=i+1000000) (hlt: ∀k,k∈ph->k<b) (hok:hd.all okO=true) (hok2: ∀j,j<n->okO (F j)=true)
  (hK:K (callF σ o.dst pi ph b n q res hd F)):zEp P ops i o σ K:=by
 refine zJ (K:=K) hspec pi (poF ph b n) q hg hop hc hfo hb hd' hargs hobj hndi (by simp[poF,hlen]) (zLH (fun x y k hx hy=>?_)) (zIo (fun j k hj=>?_)) ?_ (by rw[zLL hlen hlt];exact hK)
 ·rcases zD6 hx with⟨a1,a2⟩|⟨a1,a2,a3⟩<;>rcases zD6 hy with⟨b1,b2⟩|⟨b1,b2,b3⟩
  ·exact zHC hndo a2 b2
  ·have:=hlt k (Qc a2);omega
  ·have:=hlt k (Qc b2);omega
  ·omega
 ·rcases zD6 hj with⟨a1,a2⟩|⟨a1,a2,a3⟩
  ·rcases zEO hpo j k a2 with g|⟨g,t,c,ty,cs,ty',cs',g1,g2,g3,g4,g5⟩
   ·exact .inl g
   ·exact .inr ⟨g,t,c,ty,cs,ty',cs',g1,g2,g3,by rw[Qw (by omega)];exact g4,g5⟩
  ·exact .inl (by omega)
 ·rw[List.all_append,Qz];refine⟨hok,List.all_eq_true.2 fun x hx=>?_⟩;obtain⟨j,hj,rfl⟩:=Qb hx;rw[zq]at hj;have:=zX F hj;rw[Qj (by simpa using hj)]at this;injection this with this;rw[this];exact hok2 j hj
theorem zW4{P:Program}{rs:List ResultVar}{res:AV}{hd:List AObj}{n:Nat}{F:Nat->AObj}{e:Exit}{σ:ASt}(mp:List (Nat×Option Nat))(g:Nat->Nat)(he:e= .normal\/e= .ret)(hh:wkH σ (zBj mp hd.length n g) (zCQ mp n g) (hd.length+n) (idxF 0 hd) mp)(hn:keysNd mp)(hg:wkPs σ.heap (zBj mp hd.length n g) (zCQ mp n g) (hd.length+n) σ.gh σ.gh)
  (hF: ∀j,j<n->unm mp (g j)/\wkO σ.heap (zBj mp hd.length n g) (zCQ mp n g) (hd.length+n) (some (g j)) (F j)) (hi: ∀i j,i<n->j<n->g i=g j->i=j) (l:List AV)
  (hm:match l,res with
   |[a],r=>wkP σ.heap (zBj mp hd.length n g) (zCQ mp n g) (hd.length+n) a r
   |l,.tup bs=>l.length≠1/\wkPs σ.heap (zBj mp hd.length n g) (zCQ mp n g) (hd.length+n) l bs
   |_,_=>False) (hl:resV P σ rs=some l): ∃m un,resG P rs res (hd++tab n F) m un e σ:=by
 have hlen:(hd++tab n F).length=hd.length+n:=by simp
 have hheap: ∀id,(hd++tab n F)[id]? =zDy (idxF 0 hd) hd.length n F id:=fun id=>by
  unfold zDy;rw[zD1];by_cases h1:id<hd.length
  ·rw[if_pos h1,Qw h1];simp
  ·rw[if_neg h1,Qa (by omega)];by_cases h2:id-hd.length<n
   ·rw[if_pos h2,zX _ h2]
   ·rw[if_neg h2,zCW _ (by omega)]
 have key:=zH2 (σ:=σ) (hl:=idxF 0 hd) (base:=hd.length) (n:=n) (F:=F) (nx:=hd.length+n) mp g hh hn (fun j hj=>⟨by omega,hF j hj⟩) hi;refine⟨zBj mp hd.length n g,zCQ mp n g,he,fun id o ho=>?_,⟨fun h1 h2=>key.2.inj h1 h2,fun h=>key.2.un h,fun {id} h=>?_⟩,by rw[hlen];exact hg,l,hl,by rw[hlen];exact hm⟩
 ·rw[hlen];rw[hheap]at ho;exact(key.1 id o ho).2
 ·have h:(hd++tab n F)[id]? =none:=h;rw[hheap]at h;exact key.2.no h
def FnK(P:Program)(f:FuncId)(args:List AV)(H:List AObj)(res:AV)(H':List AObj)(kp:List Nat):Prop:=∀(w:World) (V:Nat->Prop) (ob:Nat->Option (Value×Nat)) (vs:Array Value),MR w V (OB ob) (fun k=>k<H.length) (fun k=>H[k]?) ob w->vs.size=args.length→
 (∀(i:Nat) c,args[i]? =some c->VR (zh w.heap.size V ob (fun k=>k<H.length) w) (vs.getD i undef) c)→
 Calls P f vs w (fun e w'=>∃v ob',e= .returned v/\MR w V (OB ob) (fun k=>k<H'.length) (fun k=>H'[k]?) ob' w'/\VR (zh w.heap.size V ob' (fun k=>k<H'.length) w') v res/\GhR (zh w.heap.size V ob' (fun k=>k<H'.length) w') (fun i=>vs.getD i undef) (ghA args)/\ ∀j,j∈kp->ob' j=ob j)
theorem zFK{P:Program}{f:FuncId}{fn:Func}{c:Code}{args:List AV}{H H':List AObj}{res:AV}(k n:Nat){e0 z0 p0 e1 z1 p1:Nat}{cs0 cs1:List T}(hk:H[k]? =some (.row e0 z0 p0 cs0))(hk':H'[k]? =some (.row e1 z1 p1 cs1))(hn0:cs0.length=n)(hn1:cs1.length=n)
  (hf:P.funcs[f]? =some fn) (hb:fn.body=some c) (hle:args.length<=fn.ntmps) (h:awp P c (fun e σ=>zN6 P fn.results.toList res H' e σ/\σ.gh=ghA args++[.own k n]) { zC3 args H fn.ntmps with gh:=ghA args++[.own k n] }):FnK P f args H res H' [k]:=by
 intro w V ob vs hm hn hv;refine calls_of_wp hf hb ?_;obtain⟨e,σ',h1,hq,hga⟩:=h;obtain⟨m,un,he,hwh,hmp,hgh,l,hl,hmm⟩:=zBT hq;obtain⟨-,u,hob,hor⟩:=hm.obj k _ hk;have hu1:u.oneCell'=true:=by
  obtain⟨-,-,m',vs',how,-⟩:=hor;rcases how.2 with⟨rfl,-⟩|⟨g,cap,cur,rfl,-⟩<;>rfl
 have hga0:(ghA args).length=args.length:=by simp[ghA]
 obtain⟨gv,hgv⟩: ∃gv:Nat->Value,gv=fun i=>if i<args.length then vs.getD i undef else u:=⟨_,rfl⟩
 have hrel:Rel w V (OB ob) gv { zC3 args H fn.ntmps with gh:=ghA args++[.own k n] } { tmps:=vs++Array.replicate (fn.ntmps-vs.size) undef,defers:=[] } w:=by
  refine⟨ob,hm,fun t=>?_,rfl,by simp[zC3];omega,fun i c hi=>?_⟩
  ·show VR _ _ (args.getD t .any)
   cases hq:args[t]? with
   |none=>simp[hq];exact .any _
   |some c=>
    have hlt:t<vs.size:=by rw[hn];exact(Qq.1 hq).1
    have h1:=hv t c hq;have e:(vs++Array.replicate (fn.ntmps-vs.size) undef).getD t undef=vs.getD t undef:=by
     simp only[Array.getD,Array.size_append,Array.size_replicate,hlt,dif_pos,show t<vs.size+(fn.ntmps-vs.size) by omega];exact Array.getElem_append_left hlt
    rw[e];simp only[hq,Qv,Qd];exact h1
  ·have hi:(ghA args++[AV.own k n])[i]? =some c:=hi;by_cases hlt:i<args.length
   ·rw[Qw (by omega)]at hi;rw[hgv];simp only[hlt,if_true];unfold ghA at hi;rw[Qh]at hi
    cases hq:args[i]? with
    |none=>rw[hq]at hi;cases hi
    |some a=>
     rw[hq]at hi;simp only[Qf,Qx]at hi;subst hi;have h1:=hv i a hq
     cases a<;>first|exact h1|exact .any _
   ·rw[Qa (by omega)]at hi;obtain⟨d,hd⟩: ∃d,d=i-(ghA args).length:=⟨_,rfl⟩;rw[←hd]at hi;rcases d with _|d
    ·simp at hi;subst hi;rw[hgv];simp only[hlt,if_false];refine .own u k n hu1 (Qq.1 hk).1 (fun u' n' hu'=>?_);have hu':ob k=some (u',n'):=hu';rw[hob]at hu';simp only[Qx,Qk,AObj.cnt]at hu';obtain⟨rfl,rfl⟩:=hu';exact⟨by omega,fun _=>rfl⟩
    ·simp at hi
 refine wp_mono (h1 w V _ _ _ w hrel) ?_;rintro e' a w' ⟨rfl,ob2,m1,m2,m3,m4,m5⟩;obtain⟨rs,r1,r2,r3⟩:=zA9 (P:=P) m1 m2 fn.results.toList l hl;have hm2:=m1.wk (nx:=H'.length) (fun id o ho=>⟨(Qq.1 ho).1,hwh id o ho⟩) hmp;have hgall: ∀(i:Nat) c,(ghA args++[AV.own k n])[i]? =some c->VR (zh w.heap.size V (obW ob2 (fun k=>H'[k]?) m) (fun k=>k<H'.length) w') (gv i) c:=fun i c hi=>by
  obtain⟨a',ha,hac⟩:=(zAK hgh).2 i c (by rw[hga];exact hi);exact(m5 i a' ha).wk m1 hmp c hac
 have hkeep:obW ob2 (fun k=>H'[k]?) m k=ob k:=by
  have q:=hgall args.length (.own k n) (by rw[Qa (by omega)];simp[hga0]);obtain⟨-,u',g1,-⟩:=hm2.obj k _ hk';have e1:gv args.length=u:=by rw[hgv];simp
  rw[e1]at q
  cases q with
  |own v id c g2 hU hh=>
   have:=(hh u' _ g1).2 (by simp[AObj.cnt,hn1]);rw[g1,hob,this];simp[AObj.cnt,hn0,hn1]
 have fin:a.defers=[]/\ ∃v,(results fn a.tmps).run P w'= .ok v w'/\ ∃v' ob',Ending.returned v= .returned v'/\MR w V (OB ob) (fun k=>k<H'.length) (fun k=>H'[k]?) ob' w'/\VR (zh w.heap.size V ob' (fun k=>k<H'.length) w') v' res/\GhR (zh w.heap.size V ob' (fun k=>k<H'.length) w') (fun i=>vs.getD i undef) (ghA args)/\ ∀j,j∈[k]->ob' j=ob j:=by
  refine⟨m3,?_⟩;have hrun:(results fn a.tmps).run P w'= .ok (if h:rs.toArray.size=1 then rs.toArray[0]else .tuple rs.toArray) w':=by
   rw[zCl,Array.mapM_eq_mapM_toList];simp[r1]
  refine⟨_,hrun,_,_,rfl,hm2,?_,fun i c hi=>?_,fun j hj=>?_⟩
  ·split at hmm
   ·rename_i x;have hl1:rs.length=1:=by simpa using r2
    obtain⟨v,rfl⟩: ∃v,rs=[v]:=by
     cases rs with
     |nil=>simp at hl1
     |cons v r=>cases r with
      |nil=>exact⟨v,rfl⟩
      |cons _ _=>simp at hl1
    exact(r3 0 v x rfl rfl).wk m1 hmp res hmm
   ·rename_i l' bs hne;obtain⟨e1,e2⟩:=zAK hmm.2;have hl1: ¬rs.toArray.size=1:=by simp;omega
    rw[dif_neg hl1];refine .tup _ _ (by simp;omega) (fun i b hi=>?_);obtain⟨x,hx,hxb⟩:=e2 i b hi;have hlt:i<rs.length:=by rw[r2];exact(Qq.1 hx).1
    have:=(r3 i rs[i] x (by simp) hx).wk m1 hmp b hxb;have e:rs.toArray.getD i undef=rs[i]:=by simp[Array.getD,hlt]
    rw[e];exact this
   ·exact hmm.elim
  ·have hlt:i<args.length:=by rw[←hga0];exact(Qq.1 hi).1
   have:=hgall i c (by rw[Qw (by omega)];exact hi);rw[hgv]at this;simpa[hlt]using this
  ·obtain rfl:j=k:=by simpa using hj
   exact hkeep
 rcases he with rfl|rfl<;>exact fin
def zPN(kp:List Nat)(i:Nat)(pi:List Nat)(args:List AV)(H H':List AObj):Nat->List Nat->Prop
 |_,[]=>True
 |j,k::r=>((i<=k/\k<i+1000000)\/(pi[j]? =some k/\ ∃(t c ty:Nat) (cs:List AV) (ty':Nat) (cs':List AV),args[t]? =some (AV.ptr j 0 c)/\H[j]? =some (AObj.box ty cs)/\cs.length=c/\H'[j]? =some (AObj.box ty' cs')/\cs'.length=c)\/(pi[j]? =some k/\j∈kp/\j<H.length))/\zPN kp i pi args H H' (j+1) r
theorem zIT{kp:List Nat}{i:Nat}{pi:List Nat}{args:List AV}{H H':List AObj}: ∀{po:List Nat} {j0:Nat},zPN kp i pi args H H' j0 po-> ∀(j:Nat) k,po[j]? =some k->(i<=k/\k<i+1000000)\/(pi[j0+j]? =some k/\ ∃(t c ty:Nat) (cs:List AV) (ty':Nat) (cs':List AV),args[t]? =some (AV.ptr (j0+j) 0 c)/\H[j0+j]? =some (AObj.box ty cs)/\cs.length=c/\H'[j0+j]? =some (AObj.box ty' cs')/\cs'.length=c)\/(pi[j0+j]? =some k/\j0+j∈kp/\j0+j<H.length)
 |[],j0,_,j,k,h=>by simp at h
 |a::r,j0,hp,j,k,h=>by
  cases j with
  |zero=>simp at h;subst h;exact hp.1
  |succ j=>
   have:=zIT hp.2 j k (by simpa using h);rw[show j0+(j+1)=j0+1+j by omega];exact this
theorem zKq{P:Program}{ops:Array Oper}{i:Nat}{o:Oper}{σ:ASt}{cl:Call}{fo:Operand}{f:FuncId}{caps:List AV}{args:List AV}{H H':List AObj}{res:AV}{kp:List Nat}(pi po:List Nat)(q:Nat)
  (hg:gd ops σ o=some true) (hop:o.op= .call cl) (hc:cl.callee= .value fo) (hfo:σ.eval fo= .fn f caps) (hb:zCM P f=true) (hspec:FnK P f args H res H' kp) (hd:zAv σ o=true)
  (hargs:inPs σ.heap pi q (cl.args.toList.map σ.eval++caps) args) (hobj:inOs σ.heap pi q pi H) (hndi:ndL pi) (hlen:po.length=H'.length) (hndo:ndL po) (hpo:zPN kp i pi args H H' 0 po) (hok:H'.all okO=true):
  OpS P ops i o σ (callS σ o.dst pi po q res H'):=by
 intro w0 V S0 gv U a w hR hnew K Q hK;obtain⟨ob,m1,m2,m3,m4,m5⟩:=hR;have hw:Region.wanted o (yielded ops a.tmps)=true:=zA7 hg m2 m4;rw[if_pos hw];have hfv:=VR.eval m1.glE m2 fo;rw[hfo]at hfv;obtain⟨cvs,hcv,hcn,hcr⟩: ∃cvs:Array Value,a.eval fo= .func (.func f) #[] cvs/\cvs.size=caps.length/\ ∀(j:Nat) c,caps[j]? =some c->VR (zh w0.heap.size V ob U w) (cvs.getD j undef) c:=by
  generalize a.eval fo=v at hfv
  cases hfv with
  |fn f vs cs hn hr=>exact⟨vs,rfl,hn,hr⟩
 have hmi:=m1.in_ hobj hndi;have hpl:=(zCp hobj).1;obtain⟨hal,hag⟩:=zB8 hargs;obtain⟨vs,hvs⟩: ∃vs,vs=cl.args.map a.eval++cvs:=⟨_,rfl⟩;have hvn:vs.size=args.length:=by rw[hvs,←hal];simp[hcn]
 have hvv: ∀(j:Nat) c,args[j]? =some c->VR (zh w.heap.size (V1 w0 V ob pi q) (obI ob pi) (fun k=>k<H.length) w) (vs.getD j undef) c:=fun j c hj=>by
  obtain⟨x,hx,hxc⟩:=hag j c hj;refine VR.in_ m1 hpl ?_ c hxc;rw[hvs];by_cases hlt:j<cl.args.size
  ·rw[Qw (by simpa using hlt),Qh]at hx;have e1:cl.args.toList[j]? =some cl.args[j]:=by simp[hlt]
   rw[e1]at hx;simp only[Qf,Qx]at hx;subst hx;have e2:(cl.args.map a.eval++cvs).getD j undef=a.eval cl.args[j]:=by
    have h3:j<(cl.args.map a.eval++cvs).size:=by simp;omega
    simp only[Array.getD,h3,dif_pos];show(cl.args.map a.eval++cvs)[j]=_;rw[Array.getElem_append_left (by simpa using hlt)];simp
   rw[e2];exact VR.eval m1.glE m2 _
  ·rw[Qa (by simp;omega)]at hx;have hx:caps[j-cl.args.size]? =some x:=by simpa using hx
   have hlt2:=(Qq.1 hx).1;have e2:(cl.args.map a.eval++cvs).getD j undef=cvs.getD (j-cl.args.size) undef:=by
    have h3:j<(cl.args.map a.eval++cvs).size:=by simp;omega
    have h4:j-cl.args.size<cvs.size:=by omega
    simp only[Array.getD,h3,h4,dif_pos];show(cl.args.map a.eval++cvs)[j]=cvs[j-cl.args.size];rw[Array.getElem_append_right (by simp;omega)];simp
   rw[e2];exact hcr _ x hx
 have hcall:=hspec w (V1 w0 V ob pi q) (obI ob pi) vs hmi hvn hvv;unfold Oper.wp execOp;simp only[hop,resolve,hc,invoke,Sem.run_bind];rw[hcv];simp only[Deferred.ofValue,Sem.run_pure,Result.andThen_ok,Array.empty_append];rw[←hvs,zKm hb];show Calls P f vs w _;refine hcall.mono ?_;rintro e w' ⟨v,ob1,rfl,hm2,hv2,hgh2,hkp⟩;have hret:Ret w0 w w' V S0 U σ.heap ob ob1 pi po q i H':=by
  refine⟨m1,hm2,hlen,hndo,hnew,fun k hk=>?_,fun j k hj=>?_,fun j o' ho'=>List.all_eq_true.1 hok o' (Qc ho')⟩
  ·obtain⟨j,hj,hjk⟩:=Qb hk;obtain⟨k',e1,e2⟩:=(zCp hobj).2 j (H[j]'(by omega)) (by simp);have hkk:k'=k:=by
    rw[Qj hj,hjk]at e1;injection e1 with e1;exact e1.symm
   subst hkk
   cases hH:σ.heap k' with
   |none=>rw[hH]at e2;exact e2.elim
   |some ob0=>exact(m1.obj k' ob0 hH).1
  ·have:=zIT hpo j k hj;rw[Nat.zero_add]at this;rcases this with g|⟨g,t,c,ty,cs,ty',cs',h1,h2,h3,h4,h5⟩|⟨g,g1,g2⟩
   ·exact .inl g
   ·refine .inr ⟨Qc g,?_⟩;obtain⟨-,u,e1,b,bs,rfl,-,-⟩:=hmi.obj j _ h2;obtain⟨-,u',e2,b',bs',rfl,-,-⟩:=hm2.obj j _ h4;have e1':ob k=some (.pointer (some ⟨b,0,none⟩),cs.length):=by
     have:obI ob pi j=ob k:=by unfold obI;rw[g];rfl
     rw[←this];exact e1
    have q1:=hvv t _ h1;have q2:VR (zh w.heap.size (V1 w0 V ob pi q) ob1 (fun k=>k<H'.length) w') (vs.getD t undef) (.ptr j 0 c):=hgh2 t (.ptr j 0 c) (by simp[ghA,h1,ghA1]);have r1: ∃b0,blk (.pointer (some ⟨b,0,none⟩))=some b0/\vs.getD t undef= .pointer (some ⟨b0,0,none⟩):=by
     generalize vs.getD t undef=x at q1
     cases q1 with
     |ptr v id off c h1 hU hh=>exact(hh _ _ e1).2 (by simp[AObj.cnt,h3])
    have r2: ∃b0,blk (.pointer (some ⟨b',0,none⟩))=some b0/\vs.getD t undef= .pointer (some ⟨b0,0,none⟩):=by
     generalize vs.getD t undef=x at q2
     cases q2 with
     |ptr v id off c h1 hU hh=>exact(hh _ _ e2).2 (by simp[AObj.cnt,h5])
    obtain⟨b0,x1,x2⟩:=r1;obtain⟨b1,x3,x4⟩:=r2;rw[x2]at x4;have:b=b':=by
     simp only[blk,Qx]at x1 x3;simp only[Value.pointer.injEq,Qx,Addr.mk.injEq]at x4;omega
    subst this;refine⟨_,_,e2,?_⟩;rw[e1'];simp[AObj.cnt,h3,h5]
   ·refine .inr ⟨Qc g,?_⟩;obtain⟨-,u,e1,-⟩:=hmi.obj j H[j] (by simp[g2]);have e1':obI ob pi j=ob k:=by unfold obI;rw[g];rfl
    have e2:ob1 j=obI ob pi j:=hkp j g1;exact⟨_,_,e2.trans e1,e1'.symm.trans e1⟩
 refine hK _ _ ?_;have hx:=hret.ext;exact zEc.zSd (σ:=σ) hret.mr (fun t=>(m2 t).ext hx) m3 m4 (m5.ext hx) hd (VR.out hret hv2)
theorem za{P:Program}{ops:Array Oper}{i:Nat}{o:Oper}{σ:ASt}{K:ASt->Prop}{cl:Call}{fo:Operand}{f:FuncId}{caps:List AV}{args:List AV}{H H':List AObj}{res:AV}{kp:List Nat}(hspec:FnK P f args H res H' kp)(pi po:List Nat)(q:Nat)
  (hg:gd ops σ o=some true) (hop:o.op= .call cl) (hc:cl.callee= .value fo) (hfo:σ.eval fo= .fn f caps) (hb:zCM P f=true) (hd:zAv σ o=true)
  (hargs:inPs σ.heap pi q (cl.args.toList.map σ.eval++caps) args) (hobj:inOs σ.heap pi q pi H) (hndi:ndL pi) (hlen:po.length=H'.length) (hndo:ndL po) (hpo:zPN kp i pi args H H' 0 po) (hok:H'.all okO=true)
  (hK:K (callS σ o.dst pi po q res H')):zEp P ops i o σ K:=
 ⟨_,zKq pi po q hg hop hc hfo hb hspec hd hargs hobj hndi hlen hndo hpo hok,rfl,hK⟩
def zW5(H H':List AObj)(k:Nat)(g:AV):Prop:=
 (∃(c ty:Nat) (cs:List AV) (ty':Nat) (cs':List AV),g= .ptr k 0 c/\H[k]? =some (.box ty cs)/\cs.length=c/\H'[k]? =some (.box ty' cs')/\cs'.length=c)∨
 (∃(n e0 z0 p0:Nat) (cs0:List T) (e1 z1 p1:Nat) (cs1:List T),g= .own k n/\H[k]? =some (.row e0 z0 p0 cs0)/\cs0.length=n/\H'[k]? =some (.row e1 z1 p1 cs1)/\cs1.length=n)
theorem zAb{P:Program}{f:FuncId}{fn:Func}{cd:Code}{args:List AV}{H H':List AObj}{res:AV}(gs:List (Nat×AV))
  (hk: ∀(j:Nat) p,gs[j]? =some p->zW5 H H' p.1 p.2)
  (hf:P.funcs[f]? =some fn) (hb:fn.body=some cd) (hle:args.length<=fn.ntmps) (h:awp P cd (fun e σ=>zN6 P fn.results.toList res H' e σ/\σ.gh=ghA args++gs.map (·.2)) { zC3 args H fn.ntmps with gh:=ghA args++gs.map (·.2) }):FnK P f args H res H' (gs.map (·.1)):=by
 intro w V ob vs hm hn hv;refine calls_of_wp hf hb ?_;obtain⟨e,σ',h1,hq,hga⟩:=h;obtain⟨mm,un,he,hwh,hmp,hgh,l,hl,hmm⟩:=zBT hq;have hga0:(ghA args).length=args.length:=by simp[ghA]
 obtain⟨gv,hgv⟩: ∃gv:Nat->Value,gv=fun i=>if i<args.length then vs.getD i undef else(((gs[i-args.length]?).bind fun p=>ob p.1).map Prod.fst).getD undef:=⟨_,rfl⟩
 have hrel:Rel w V (OB ob) gv { zC3 args H fn.ntmps with gh:=ghA args++gs.map (·.2) } { tmps:=vs++Array.replicate (fn.ntmps-vs.size) undef,defers:=[] } w:=by
  refine⟨ob,hm,fun t=>?_,rfl,by simp[zC3];omega,fun i d hi=>?_⟩
  ·show VR _ _ (args.getD t .any)
   cases hq:args[t]? with
   |none=>simp[hq];exact .any _
   |some c=>
    have hlt:t<vs.size:=by rw[hn];exact(Qq.1 hq).1
    have h1:=hv t c hq;have e:(vs++Array.replicate (fn.ntmps-vs.size) undef).getD t undef=vs.getD t undef:=by
     simp only[Array.getD,Array.size_append,Array.size_replicate,hlt,dif_pos,show t<vs.size+(fn.ntmps-vs.size) by omega];exact Array.getElem_append_left hlt
    rw[e];simp only[hq,Qv,Qd];exact h1
  ·have hi:(ghA args++gs.map (·.2))[i]? =some d:=hi;by_cases hlt:i<args.length
   ·rw[Qw (by omega)]at hi;rw[hgv];simp only[hlt,if_true];unfold ghA at hi;rw[Qh]at hi
    cases hq:args[i]? with
    |none=>rw[hq]at hi;cases hi
    |some a=>
     rw[hq]at hi;simp only[Qf,Qx]at hi;subst hi;have h1:=hv i a hq
     cases a<;>first|exact h1|exact .any _
   ·rw[Qa (by omega),hga0,Qh]at hi
    cases hp:gs[i-args.length]? with
    |none=>rw[hp]at hi;cases hi
    |some p=>
     rw[hp]at hi;simp only[Qf,Qx]at hi;subst hi;rw[hgv];simp only[hlt,if_false,hp,Option.bind_some];rcases hk _ p hp with⟨c,ty,cs,ty',cs',e0,e1,e2,-,-⟩|⟨n,q0,z0,p0,cs0,q1,z1,p1,cs1,e0,e1,e2,-,-⟩
     ·obtain⟨-,u,e3,b,bs,rfl,-,-⟩:=hm.obj p.1 _ e1;have e3:ob p.1=some (.pointer (some ⟨b,0,none⟩),cs.length):=e3;rw[e0,e3];simp only[Qf,Qd];refine .ptr _ _ 0 _ rfl (Qq.1 e1).1 (fun u' n' hu'=>?_);have hu':ob p.1=some (u',n'):=hu';rw[e3]at hu';simp only[Qx,Qk]at hu';obtain⟨rfl,rfl⟩:=hu';exact⟨by omega,fun _=>⟨b,rfl,rfl⟩⟩
     ·obtain⟨-,u,hob,hor⟩:=hm.obj p.1 _ e1;have hu1:u.oneCell'=true:=by
       obtain⟨-,-,m',vs',how,-⟩:=hor;rcases how.2 with⟨rfl,-⟩|⟨g,cap,cur,rfl,-⟩<;>rfl
      have hob:ob p.1=some (u,cs0.length):=hob;rw[e0,hob];simp only[Qf,Qd];refine .own u p.1 n hu1 (Qq.1 e1).1 (fun u' n' hu'=>?_);have hu':ob p.1=some (u',n'):=hu';rw[hob]at hu';simp only[Qx,Qk]at hu';obtain⟨rfl,rfl⟩:=hu';exact⟨by omega,fun _=>rfl⟩
 refine wp_mono (h1 w V _ _ _ w hrel) ?_;rintro e' a w' ⟨rfl,ob2,m1,m2,m3,m4,m5⟩;obtain⟨rs,r1,r2,r3⟩:=zA9 (P:=P) m1 m2 fn.results.toList l hl;have hm2:=m1.wk (nx:=H'.length) (fun id o ho=>⟨(Qq.1 ho).1,hwh id o ho⟩) hmp;have hgall: ∀(i:Nat) d,(ghA args++gs.map (·.2))[i]? =some d->VR (zh w.heap.size V (obW ob2 (fun k=>H'[k]?) mm) (fun k=>k<H'.length) w') (gv i) d:=fun i d hi=>by
  obtain⟨a',ha,hac⟩:=(zAK hgh).2 i d (by rw[hga];exact hi);exact(m5 i a' ha).wk m1 hmp d hac
 have hkeep: ∀(j:Nat) p,gs[j]? =some p->obW ob2 (fun k=>H'[k]?) mm p.1=ob p.1:=fun j p hp=>by
  have q:=hgall (args.length+j) p.2 (by rw[Qa (by omega),hga0,Nat.add_sub_cancel_left,Qh,hp];rfl);have e3:gv (args.length+j)=((ob p.1).map Prod.fst).getD undef:=by
   rw[hgv];simp only[show ¬(args.length+j<args.length) by omega,if_false,Nat.add_sub_cancel_left,hp];rfl
  rw[e3]at q;rcases hk _ p hp with⟨c,ty,cs,ty',cs',e0,e1,e2,e4,e5⟩|⟨n,q0,z0,p0,cs0,q1,z1,p1,cs1,e0,e1,e2,e4,e5⟩
  ·obtain⟨-,u,hb,b,bs,rfl,-,-⟩:=hm.obj p.1 _ e1;have hb:ob p.1=some (.pointer (some ⟨b,0,none⟩),cs.length):=hb;obtain⟨-,u',g1,b',bs',rfl,-,-⟩:=hm2.obj p.1 _ e4;rw[hb,e0]at q;simp only[Qf,Qd]at q;generalize hv0:Value.pointer (some ⟨b,0,none⟩)=v0 at q
   cases q with
   |ptr v id off c' g0 hU hh=>
    obtain⟨b0,x1,x2⟩:=(hh _ _ g1).2 (by simp[AObj.cnt,e5]);rw[←hv0]at x2;simp only[blk,Qx]at x1;simp only[Value.pointer.injEq,Qx,Addr.mk.injEq]at x2;rw[g1,hb];have:b'=b:=by omega
    rw[this];simp[AObj.cnt,e5,e2]
  ·obtain⟨-,u,hob,-⟩:=hm.obj p.1 _ e1;have hob:ob p.1=some (u,cs0.length):=hob;obtain⟨-,u',g1,-⟩:=hm2.obj p.1 _ e4;rw[hob,e0]at q;simp only[Qf,Qd]at q
   cases q with
   |own v id c g2 hU hh=>
    have:=(hh u' _ g1).2 (by simp[AObj.cnt,e5]);rw[g1,hob,this];simp[AObj.cnt,e5,e2]
 have fin:a.defers=[]/\ ∃v,(results fn a.tmps).run P w'= .ok v w'/\ ∃v' ob',Ending.returned v= .returned v'/\MR w V (OB ob) (fun k=>k<H'.length) (fun k=>H'[k]?) ob' w'/\VR (zh w.heap.size V ob' (fun k=>k<H'.length) w') v' res/\GhR (zh w.heap.size V ob' (fun k=>k<H'.length) w') (fun i=>vs.getD i undef) (ghA args)/\ ∀j,j∈gs.map (·.1)->ob' j=ob j:=by
  refine⟨m3,?_⟩;have hrun:(results fn a.tmps).run P w'= .ok (if h:rs.toArray.size=1 then rs.toArray[0]else .tuple rs.toArray) w':=by
   rw[zCl,Array.mapM_eq_mapM_toList];simp[r1]
  refine⟨_,hrun,_,_,rfl,hm2,?_,fun i d hi=>?_,fun j hj=>by
   obtain⟨p,hp,rfl⟩:=List.mem_map.1 hj;obtain⟨t,ht,e⟩:=Qb hp;exact hkeep t p (by rw[Qj ht,e])⟩
  ·split at hmm
   ·rename_i x;have hl1:rs.length=1:=by simpa using r2
    obtain⟨v,rfl⟩: ∃v,rs=[v]:=by
     cases rs with
     |nil=>simp at hl1
     |cons v r=>cases r with
      |nil=>exact⟨v,rfl⟩
      |cons _ _=>simp at hl1
    exact(r3 0 v x rfl rfl).wk m1 hmp res hmm
   ·rename_i l' bs hne;obtain⟨e1,e2⟩:=zAK hmm.2;have hl1: ¬rs.toArray.size=1:=by simp;omega
    rw[dif_neg hl1];refine .tup _ _ (by simp;omega) (fun i b hi=>?_);obtain⟨x,hx,hxb⟩:=e2 i b hi;have hlt:i<rs.length:=by rw[r2];exact(Qq.1 hx).1
    have:=(r3 i rs[i] x (by simp) hx).wk m1 hmp b hxb;have e:rs.toArray.getD i undef=rs[i]:=by simp[Array.getD,hlt]
    rw[e];exact this
   ·exact hmm.elim
  ·have hlt:i<args.length:=by rw[←hga0];exact(Qq.1 hi).1
   have:=hgall i d (by rw[Qw (by omega)];exact hi);rw[hgv]at this;simpa[hlt]using this
 rcases he with rfl|rfl<;>exact fin
theorem zEU{P:Program}{a b:Code}{Q:Exit->ASt->Prop}{σ:ASt}(R:ASt->Prop)(h1: ∀σ',R σ'->awp P b Q σ')(h2:awp P a (fun e σ'=>match e with| .normal=>R σ'|e=>Q e σ') σ):awp P (.seq a b) Q σ:=by
 refine zD (zCE h2 ?_);intro e σ' h
 cases e<;>first|exact h1 σ' h|exact h
theorem zU3{ph:List Nat}{b n:Nat}(h:ndL ph)(hb: ∀k,k∈ph->k<b):ndL (poF ph b n):=zLH (fun x y k hx hy=>by
 rcases zD6 hx with⟨a1,a2⟩|⟨a1,a2,a3⟩<;>rcases zD6 hy with⟨b1,b2⟩|⟨b1,b2,b3⟩
 ·exact zHC h a2 b2
 ·have:=hb k (Qc a2);omega
 ·have:=hb k (Qc b2);omega
 ·omega)
theorem zDF{P:Program}{ops:Array Oper}{i:Nat}{o:Oper}{σ:ASt}{K:ASt->List Nat×List Nat->Prop}{cl:Call}{fo:Operand}{f:FuncId}{caps:List AV}{args:List AV}{H hd:List AObj}{n:Nat}{F:Nat->AObj}{res:AV}(hspec:FnS P f args H res (hd++tab n F))(pi ph:List Nat)(b q:Nat)
  (hg:gd ops σ o=some true) (hop:o.op= .call cl) (hc:cl.callee= .value fo) (hfo:σ.eval fo= .fn f caps) (hb:zCM P f=true) (hd':zAv σ o=true)
  (hargs:inPs σ.heap pi q (cl.args.toList.map σ.eval++caps) args) (hobj:inOs σ.heap pi q pi H) (hndi:ndL pi) (hlen:ph.length=hd.length) (hndo:ndL ph) (hpo:zRk i pi args H hd 0 ph) (hbb:i<=b/\b+n<=i+1000000) (hlt: ∀k,k∈ph->k<b) (hok:hd.all okO=true) (hok2: ∀j,j<n->okO (F j)=true)
  (hK:K (callF σ o.dst pi ph b n q res hd F) ((pi++poF ph b n++refsVs (cl.args.toList.map σ.eval++caps)++pi.flatMap (zFS σ.heap))++(poF ph b n++pi),poF ph b n++pi)):zCH P ops i o σ K:=by
 refine zV (K:=K) hspec pi (poF ph b n) q hg hop hc hfo hb hd' hargs hobj hndi (by simp[poF,hlen]) (zU3 hndo hlt) (zIo (fun j k hj=>?_)) ?_ (by rw[zLL hlen hlt];exact hK)
 ·rcases zD6 hj with⟨a1,a2⟩|⟨a1,a2,a3⟩
  ·rcases zEO hpo j k a2 with g|⟨g,t,c,ty,cs,ty',cs',g1,g2,g3,g4,g5⟩
   ·exact .inl g
   ·exact .inr ⟨g,t,c,ty,cs,ty',cs',g1,g2,g3,by rw[Qw (by omega)];exact g4,g5⟩
  ·exact .inl (by omega)
 ·rw[List.all_append,Qz];refine⟨hok,List.all_eq_true.2 fun x hx=>?_⟩;obtain⟨j,hj,rfl⟩:=Qb hx;rw[zq]at hj;have:=zX F hj;rw[Qj (by simpa using hj)]at this;injection this with this;rw[this];exact hok2 j hj
