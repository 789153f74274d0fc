/- Lemmas for the law AperiodicMember. No conditions. -/
import Derived.Test.YtjkeafkjjaploaaGreatZqad
set_option linter.all false
namespace Go.Proofs.YtjkeafkjjaploaaGreat.M
open Go.RowKit
set_option maxRecDepth 100000
set_option maxHeartbeats 32000000

def cellH(o:Option AObj)(c:Nat):Option AV:=match o with
 |some (.box _ cs)=>cs[c]?
 |_=>none
def okF:List (Nat×Nat)->(Nat->Option AObj)->(Nat->Option AObj)->Prop
 |[],_,_=>True
 |(k,c)::r,H,H'=>cellH (H' k) c=cellH (H k) c/\okF r H H'
theorem zFL{F:List (Nat×Nat)}{H H':Nat->Option AObj}(h:okF F H H'){p:Nat×Nat}(hp:p∈F):cellH (H' p.1) p.2=cellH (H p.1) p.2:=by
 induction F with
 |nil=>cases hp
 |cons a r ih=>
  obtain⟨k,c⟩:=a;rcases List.mem_cons.1 hp with rfl|hp
  ·exact h.1
  ·exact ih h.2 hp
theorem zM0{F:List (Nat×Nat)}{H H':Nat->Option AObj}(h: ∀p∈F,cellH (H' p.1) p.2=cellH (H p.1) p.2):okF F H H':=by
 induction F with
 |nil=>trivial
 |cons a r ih=>exact⟨h a (by simp),ih fun p hp=>h p (by simp[hp])⟩
def fixL(P:Program)(S:List Nat)(F:List (Nat×Nat))(op:Op)(ev:Operand->AV):Bool:=match op with
 | .load t x=>match aggB P t,ev x with
  |some false,.ptr id off _=>S.contains id&&F.contains (id,off)
  |_,_=>false
 |_=>false
def zNY(P:Program)(S:List Nat)(F:List (Nat×Nat))(op:Op)(ev:Operand->AV)(tch:List Nat):List Nat:=if(isShO op||fixL P S F op ev)=true then zPY S tch else tch
theorem zTy{P:Program}{i:Nat}{H H2:Nat->Option AObj}{c:Bool}{eff:Eff}{S:List Nat}{F:List (Nat×Nat)}{op:Op}{ev ev2:Operand->AV}(he:aop P i op ev H=some (c,eff))(hf:fixL P S F op ev=true)(hev: ∀x,x∈op.operands->ev2 x=ev x)(hS: ∀k,k∈S->sameB (H k) (H2 k)=true)(hF: ∀p∈F,cellH (H2 p.1) p.2=cellH (H p.1) p.2):aop P i op ev2 H2=some (c,eff):=by
 unfold fixL at hf;split at hf
 ·rename_i t x;split at hf
  ·rename_i id off n hag hx;rw[Qz]at hf;obtain⟨ty,cs,ds,g1,g2,g3⟩:=zBs (hS id (by simpa using hf.1));have g4:=hF (id,off) (by simpa using hf.2);simp only[g1,g2,cellH]at g4;simp only[aop]at he ⊢;rw[hev x (by simp[Op.operands]),hx];rw[hx]at he;unfold aLoad at he ⊢;rw[hag]at he ⊢
   cases hs:zA2 P t with
   |none=>rw[hs]at he;cases he
   |some s=>
    rw[hs]at he;simp only[g1,g2]at he ⊢;rw[g4,←g3];exact he
  ·cases hf
 ·cases hf
def JF(S:List Nat)(F:List (Nat×Nat))(H:Nat->Option AObj)(σ:ASt):Prop:=(∀k,k∈S->sameB (H k) (σ.heap k)=true)/\okF F H σ.heap
def KJF(S:List Nat)(F:List (Nat×Nat))(H:Nat->Option AObj)(K:ASt->List Nat×List Nat->Prop)(σ':ASt)(s:List Nat×List Nat):Prop:=(okH S H σ'.heap=true/\okF F H σ'.heap)/\K σ' s
theorem zUO(S:List Nat)(F:List (Nat×Nat))(H:Nat->Option AObj)(K:ASt->List Nat×List Nat->Prop)(σ':ASt)(s:List Nat×List Nat):KJF S F H K σ' s=((okH S H σ'.heap=true/\okF F H σ'.heap)/\K σ' s):=rfl
def awpOpDF(P:Program)(ops:Array Oper)(S:List Nat)(F:List (Nat×Nat))(i:Nat)(o:Oper)(σ:ASt)(K:ASt->List Nat×List Nat->Prop):Prop:=match gd ops σ o with
 |some true=>match aop P i o.op σ.eval σ.heap with
  |some (c,eff)=>c=true/\zAv σ o=true/\(okH S σ.heap (σ.app o.dst eff).heap=true/\okF F σ.heap (σ.app o.dst eff).heap)/\K (σ.app o.dst eff) (zNY P S F o.op σ.eval eff.tch++wrE eff,wrE eff)
  |none=>zCH P ops i o σ (KJF S F σ.heap K)
 |some false=>zAv σ o=true/\(okH S σ.heap σ.heap=true/\okF F σ.heap σ.heap)/\K (σ.app o.dst { val:=.tup [] }) ([],[])
 |none=>False
def zIB(P:Program)(ops:Array Oper)(S:List Nat)(F:List (Nat×Nat))(N:Nat):List Oper->Nat->ASt->List (List Nat×List Nat)->(ASt->Prop)->Prop
 |[],k,σ,sm,K=>zAf ops sm=true/\K { σ with nxt:=N+k }
 |o::r,k,σ,sm,K=>awpOpDF P ops S F (N+k) o σ (fun σ' s=>zIB P ops S F N r (k+1000000) σ' (sm++[s]) K)
theorem zG2{P:Program}{ops:Array Oper}{S:List Nat}{F:List (Nat×Nat)}{i:Nat}{o:Oper}{σ:ASt}{H0:Nat->Option AObj}{K:ASt->List Nat×List Nat->Prop}(hJ:JF S F H0 σ)(h:awpOpDF P ops S F i o σ K): ∃l,zSN (JF S F H0) P ops i o σ l/\(okH S σ.heap (zB4 σ o.dst l).heap=true/\okF F σ.heap (zB4 σ o.dst l).heap)/\K (zB4 σ o.dst l) (l.tch++l.ups.map (·.1),l.ups.map (·.1)):=by
 unfold awpOpDF at h;split at h
 ·rename_i hg;split at h
  ·rename_i c eff he;obtain⟨h1,h2,h3,h4⟩:=h;refine⟨⟨eff.val,effU eff,zNY P S F o.op σ.eval eff.tch⟩,fun σ2 q0 q1 q2 q3=>?_,?_,?_⟩
   ·have he2:aop P i o.op σ2.eval σ2.heap=some (c,eff):=by
     by_cases hsh:isShO o.op=true
     ·refine zMt (S:=S) he hsh (zBZ q1) (fun k hk=>zC7 (zFt (hJ.1 k hk)) (q0.1 k hk)) (fun k hk=>q2 k ?_);show k∈zNY P S F o.op σ.eval eff.tch;unfold zNY;rw[hsh,Bool.true_or,if_pos rfl];exact hk
     ·by_cases hfx:fixL P S F o.op σ.eval=true
      ·exact zTy he hfx (zBZ q1) (fun k hk=>zC7 (zFt (hJ.1 k hk)) (q0.1 k hk)) (fun p hp=>by rw[zFL q0.2 hp,zFL hJ.2 hp])
      ·refine zIO he (zBZ q1) (fun k hk=>q2 k ?_);show k∈zNY P S F o.op σ.eval eff.tch;unfold zNY;rw[if_neg (by rw[Bool.or_eq_true];exact fun h=>h.elim hsh hfx)];exact hk
    have hap:zB4 σ2 o.dst ⟨eff.val,effU eff,zNY P S F o.op σ.eval eff.tch⟩=σ2.app o.dst eff:=by rw[zBU];rfl
    rw[hap];intro w0 V S0 gv U a w hR hi K' Q hK;have hR':=hR;obtain⟨ob,m1,m2,m3,m4,m5⟩:=hR';rw[if_pos (zA7 (by rw[zCm q1 q3];exact hg) m2 m4)];exact hR.zVt (by rw[zBF q3];exact h2) (fun ob m1 m2=>zPD he2 h1 m1 (hi i (Qy _) (by omega)) (fun x=>VR.eval m1.glE m2 x)) hK
   ·have hap:zB4 σ o.dst ⟨eff.val,effU eff,zNY P S F o.op σ.eval eff.tch⟩=σ.app o.dst eff:=by rw[zBU];rfl
    rw[hap];exact h3
   ·have hap:zB4 σ o.dst ⟨eff.val,effU eff,zNY P S F o.op σ.eval eff.tch⟩=σ.app o.dst eff:=by rw[zBU];rfl
    rw[hap];show K _ (zNY P S F o.op σ.eval eff.tch++(effU eff).map (·.1),(effU eff).map (·.1));rw[zII];exact h4
  ·obtain⟨l,h1,h2,h3⟩:=h;exact⟨l,h1.J,h2,h3⟩
 ·rename_i hg;have hc:awpOpD P ops i o σ (fun σ' s=>K σ' s):=by
   unfold awpOpD;rw[hg];exact⟨h.1,h.2.2⟩
  refine⟨⟨.tup [],[],[]⟩,fun σ2 q0 q1 q2 q3=>?_,?_,?_⟩
  ·have e:zB4 σ2 o.dst ⟨.tup [],[],[]⟩=σ2.app o.dst { val:=.tup [] }:=by rw[zBU];rfl
   rw[e];intro w0 V S0 gv U a w hR hi K' Q hK;obtain⟨ob,m1,m2,m3,m4,m5⟩:=hR;rw[if_neg (by rw[zA7 (by rw[zCm q1 q3];exact hg) m2 m4];simp)];refine hK _ _ ?_;obtain⟨h5,h6⟩:=m1.used (U':=fun k=>U k\/(i<=k/\k<i+1000000)) (fun k hk=>.inl hk);exact zEc.zSd (σ:=σ2) (o:=o) (v:=undef) (x:=.tup []) h5 (fun t=>(m2 t).ext h6) m3 m4 (m5.ext h6) (by rw[zBF q3];exact h.1) (.tup #[] [] rfl (fun i c h=>by simp at h))
  ·exact h.2.1
  ·have e:zB4 σ o.dst ⟨.tup [],[],[]⟩=σ.app o.dst { val:=.tup [] }:=by rw[zBU];rfl
   rw[e];exact h.2.2
 ·exact h.elim
theorem zRd{S:List Nat}{F:List (Nat×Nat)}{H0:Nat->Option AObj}{σ σ2:ASt}{d d2:Option Tmp}{l:LE}(hJ:JF S F H0 σ)(hok:okH S σ.heap (zB4 σ d l).heap=true/\okF F σ.heap (zB4 σ d l).heap)(h2:JF S F H0 σ2):JF S F H0 (zB4 σ2 d2 l):=by
 refine⟨fun k hk=>?_,zM0 fun p hp=>?_⟩
 ·show sameB _ ((lk l.ups k).getD (σ2.heap k))=true
  cases hq:lk l.ups k with
  |none=>exact h2.1 k hk
  |some x=>
   have h3:=zMU hok.1 hk;have h3:sameB (σ.heap k) ((lk l.ups k).getD (σ.heap k))=true:=h3;rw[hq]at h3;exact zC7 (hJ.1 k hk) h3
 ·show cellH ((lk l.ups p.1).getD (σ2.heap p.1)) p.2=_
  cases hq:lk l.ups p.1 with
  |none=>exact zFL h2.2 hp
  |some x=>
   have h3:=zFL hok.2 hp;have h3:cellH ((lk l.ups p.1).getD (σ.heap p.1)) p.2=cellH (σ.heap p.1) p.2:=h3;rw[hq]at h3;show cellH x p.2=_;have h4:cellH x p.2=cellH (σ.heap p.1) p.2:=h3;rw[h4,zFL hJ.2 hp]
theorem zED{P:Program}{ops:Array Oper}{S:List Nat}{F:List (Nat×Nat)}{N:Nat}{σ0:ASt}{H0:Nat->Option AObj}{K:ASt->Prop}: ∀(l:List Oper) (les:List LE) (sm:List (List Nat×List Nat)) (σ:ASt),zIB P ops S F N l (1000000*les.length) σ sm K->les.length<=ops.size->(∀j,ops[les.length+j]? =l[j]?)->σ=foldS ops (leL les) σ0 (fun _=>true) les.length->JF S F H0 σ→
  (∀j,j<les.length-> ∀σ2 d,JF S F H0 σ2->JF S F H0 (zB4 σ2 d (leL les j)))→
  (∀j o,j<les.length->ops[j]? =some o->zSN (JF S F H0) P ops (N+1000000*j) o (foldS ops (leL les) σ0 (fun _=>true) j) (leL les j))->sm.length=les.length->(∀j,j<les.length->sm.getD j ([],[])=((leL les j).tch++(leL les j).ups.map (·.1),(leL les j).ups.map (·.1)))→
  ∃les' sm',les'.length=ops.size/\K { foldS ops (leL les') σ0 (fun _=>true) ops.size with nxt:=N+1000000*ops.size }/\zAf ops sm'=true/\(∀j,j<ops.size->sm'.getD j ([],[])=((leL les' j).tch++(leL les' j).ups.map (·.1),(leL les' j).ups.map (·.1)))/\(∀j,j<ops.size-> ∀σ2 d,JF S F H0 σ2->JF S F H0 (zB4 σ2 d (leL les' j)))/\ ∀j o,ops[j]? =some o->zSN (JF S F H0) P ops (N+1000000*j) o (foldS ops (leL les') σ0 (fun _=>true) j) (leL les' j)
 |[],les,sm,σ,h,hle,hops,hσ,hJ,hap,hloc,hsl,hsm=>by
  have hsz:les.length=ops.size:=by
   have h1:=hops 0;simp at h1;omega
  obtain⟨h1,h2⟩:=h;refine⟨les,sm,hsz,?_,h1,fun j hj=>hsm j (by omega),fun j hj=>hap j (by omega),fun j o ho=>hloc j o (by rw[hsz];exact(Array.getElem?_eq_some_iff.1 ho).1) ho⟩;rw[←hsz,←hσ];exact h2
 |o::r,les,sm,σ,h,hle,hops,hσ,hJ,hap,hloc,hsl,hsm=>by
  obtain⟨l,h1,hok,h2⟩:=zG2 hJ h;have ho:ops[les.length]? =some o:=by simpa using hops 0
  have hlen:(les++[l]).length=les.length+1:=by simp
  have hfold: ∀n,n<=les.length->foldS ops (leL (les++[l])) σ0 (fun _=>true) n=foldS ops (leL les) σ0 (fun _=>true) n:=fun n hn=>zGR n (fun j hj=>zDC (by omega))
  have hlt:=(Array.getElem?_eq_some_iff.1 ho).1;refine zED r (les++[l]) (sm++[(l.tch++l.ups.map (·.1),l.ups.map (·.1))]) (zB4 σ o.dst l) ?_ (by rw[hlen];omega) (fun j=>?_) ?_ (zRd hJ hok hJ) (fun j hj=>?_) (fun j o' hj hoj=>?_) (by simp[hsl]) (fun j hj=>?_)
  ·rw[hlen,show 1000000*(les.length+1)=1000000*les.length+1000000 by omega];exact h2
  ·rw[hlen,show les.length+1+j=les.length+(j+1) by omega,hops (j+1)];simp
  ·rw[hlen];show _=if true=true then _ else _
   rw[if_pos rfl,hfold _ (Qy _),zDE,←hσ];unfold zEE;rw[ho];rfl
  ·rw[hlen]at hj;by_cases e:j<les.length
   ·rw[zDC e];exact hap j e
   ·obtain rfl:j=les.length:=by omega
    rw[zDE];exact fun σ2 d h2=>zRd hJ hok h2
  ·rw[hlen]at hj;rw[hfold j (by omega)];by_cases e:j<les.length
   ·rw[zDC e];exact hloc j o' e hoj
   ·obtain rfl:j=les.length:=by omega
    rw[ho]at hoj;injection hoj with hoj;subst hoj;rw[zDE,←hσ];exact h1
  ·rw[hlen]at hj;by_cases e:j<les.length
   ·rw[zDC e,Qv,Qw (by omega),←Qv];exact hsm j e
   ·obtain rfl:j=les.length:=by omega
    rw[zDE,Qv,Qa (by omega)];simp[hsl]
theorem zHQ{P:Program}{Q:Exit->ASt->Prop}{σ:ASt}{id:Nat}{ops:Array Oper}(S:List Nat)(F:List (Nat×Nat))(hm:P.follows .mixedOrders=true)(hS:okH S σ.heap σ.heap=true)(h:zIB P ops S F σ.nxt ops.toList 0 σ [] (Q .normal)):awp P (.region id ops true) Q σ:=by
 obtain⟨les,sm,h1,h2,h3,h4,h6,h5⟩:=zED (σ0:=σ) (H0:=σ.heap) ops.toList [] [] σ h (by simp) (fun j=>by simp) rfl ⟨zPB hS,zM0 fun p hp=>rfl⟩ (fun j hj=>by simp at hj) (fun j o hj=>by simp at hj) rfl (fun j hj=>by simp at hj);refine zHY hm h2 h3 h4 (J:=JF S F σ.heap) (fun L=>?_) h5;have H: ∀n,n<=ops.size->JF S F σ.heap (foldS ops (leL les) σ L n):=by
  intro n
  induction n with
  |zero=>intro _;exact⟨zPB hS,zM0 fun p hp=>rfl⟩
  |succ n ih=>
   intro hn;unfold foldS;split
   ·exact h6 n (by omega) _ _ (ih (by omega))
   ·exact ih (by omega)
 exact H _ (Qy _)
theorem zE4{P:Program}{Q:Exit->ASt->Prop}{σ:ASt}{id:Nat}{ops:Array Oper}(S:List Nat)(F:List (Nat×Nat))(hm:P.follows .mixedOrders=true)(hS:okH S σ.heap σ.heap=true)(h: ∀K:ASt->Prop,(∀σ',Q .normal σ'->K σ')->zIB P ops S F σ.nxt ops.toList 0 σ [] K):awp P (.region id ops true) Q σ:=
 zHQ S F hm hS (h _ (fun _ h=>h))
def KDF(P:Program)(ops:Array Oper)(S:List Nat)(F:List (Nat×Nat))(N:Nat)(r:List Oper)(k:Nat)(sm:List (List Nat×List Nat))(K:ASt->Prop):ASt->List Nat×List Nat->Prop:=fun σ s=>zIB P ops S F N r k σ (sm++[s]) K
theorem zUU(P:Program)(ops:Array Oper)(S:List Nat)(F:List (Nat×Nat))(N:Nat)(r:List Oper)(k:Nat)(sm:List (List Nat×List Nat))(K:ASt->Prop)(σ:ASt)(s:List Nat×List Nat):KDF P ops S F N r k sm K σ s=zIB P ops S F N r k σ (sm++[s]) K:=rfl
theorem zNX(P:Program)(ops:Array Oper)(S:List Nat)(F:List (Nat×Nat))(N k:Nat)(σ:ASt)(sm:List (List Nat×List Nat))(K:ASt->Prop):zIB P ops S F N [] k σ sm K=(zAf ops sm=true/\K { σ with nxt:=N+k }):=rfl
theorem zLd(P:Program)(ops:Array Oper)(S:List Nat)(F:List (Nat×Nat))(N k:Nat)(o:Oper)(r:List Oper)(σ:ASt)(sm:List (List Nat×List Nat))(K:ASt->Prop):zIB P ops S F N (o::r) k σ sm K=awpOpDF P ops S F (N+k) o σ (KDF P ops S F N r (k+1000000) sm K):=rfl
def sameK(Hc:Nat->Option AObj)(ke:List Nat):List Nat->List AObj->Prop
 |k::r,x::xs=>(ke.contains k=true->Hc k=some x)/\sameK Hc ke r xs
 |_,_=>True
theorem zH9{Hc:Nat->Option AObj}{ke:List Nat}: ∀{po:List Nat} {xs:List AObj},sameK Hc ke po xs->po.length=xs.length-> ∀(j k:Nat),po[j]? =some k->ke.contains k=true->Hc k=xs[j]?
 |[],_,_,_,j,k,h,_=>by simp at h
 |a::r,[],_,hl,j,k,_,_=>by simp at hl
 |a::r,x::xs,h,hl,0,k,hk,he=>by
  simp only[Ql,Qx]at hk ⊢;subst hk;exact h.1 he
 |a::r,x::xs,h,hl,j+1,k,hk,he=>by
  simp only[Qi]at hk ⊢;exact zH9 h.2 (by simpa using hl) j k hk he
def zUW(ke:List Nat)(l:List Nat):List Nat:=l.filter fun k=>!ke.contains k
theorem zRm(ke:List Nat): ∀(l:List (Nat×Option AObj)) (k:Nat),lk (l.filter fun p=>!ke.contains p.1) k=if ke.contains k=true then none else lk l k
 |[],k=>by simp[lk]
 |(a,x)::l,k=>by
  have ih:=zRm ke l k;by_cases h:ke.contains a=true
  ·rw[List.filter_cons_of_neg (by simpa using h),ih];by_cases hk:ke.contains k=true
   ·rw[if_pos hk,if_pos hk]
   ·rw[if_neg hk,if_neg hk];have hne:k≠a:=fun e=>hk (e▸h)
    simp only[lk,hne,if_false]
  ·rw[List.filter_cons_of_pos (by simpa using h)];simp only[lk,ih];by_cases e:k=a
   ·subst e;simp only[if_true];rw[if_neg h]
   ·simp only[e,if_false]
theorem zAQ{P:Program}{ops:Array Oper}{i:Nat}{o:Oper}{σ:ASt}{K:ASt->List Nat×List Nat->Prop}{cl:Call}{fo:Operand}{f:FuncId}{caps:List AV}{args:List AV}{H H':List AObj}{res:AV}{kp:List Nat}(hspec:FnK P f args H res H' kp)(pi po:List Nat)(q:Nat)(ke:List Nat)
  (hg:gd ops σ o=some true) (hop:o.op= .call cl) (hc:cl.callee= .value fo) (hfo:σ.eval fo= .fn f caps) (hb:zCM P f=true) (hd:zAv σ o=true)
  (hargs:inPs σ.heap pi q (cl.args.toList.map σ.eval++caps) args) (hobj:inOs σ.heap pi q pi H) (hndi:ndL pi) (hlen:po.length=H'.length) (hndo:ndL po) (hpo:zPN kp i pi args H H' 0 po) (hok:H'.all okO=true)
  (hke: ∀k,ke.contains k=true->k∈pi/\k∈po) (hsame:sameK σ.heap ke po (H'.map (outO po q)))
  (hK:K (callS σ o.dst pi po q res H') ((pi++po++refsVs (cl.args.toList.map σ.eval++caps)++pi.flatMap (zFS σ.heap))++zUW ke (po++pi),zUW ke (po++pi))):zCH P ops i o σ K:=by
 have hkeys:(cU pi po q H').map (·.1)=po++pi:=by
  unfold cU;rw[List.map_append,List.map_map,List.map_map];congr 1
  ·have:((·.1)∘fun(p:Nat×AObj)=>(p.1,some p.2))=Prod.fst:=rfl;show List.map ((fun x=>x.1)∘fun(p:Nat×AObj)=>(p.1,some p.2)) _=po;rw[show((fun(x:Nat×Option AObj)=>x.1)∘fun(p:Nat×AObj)=>(p.1,some p.2))=Prod.fst from rfl];exact List.map_fst_zip (by simpa using Nat.le_of_eq hlen)
  ·exact List.map_id _
 have hoff:((cU pi po q H').filter fun p=>!ke.contains p.1).map (·.1)=zUW ke (po++pi):=by
  unfold zUW;rw[←hkeys,List.filter_map];rfl
 have heq: ∀σ2:ASt,(∀k,k∈pi->σ2.heap k=σ.heap k)->callS σ2 o.dst pi po q res H'=zB4 σ2 o.dst ⟨outV po q res,(cU pi po q H').filter fun p=>!ke.contains p.1,pi++po++refsVs (cl.args.toList.map σ.eval++caps)++pi.flatMap (zFS σ.heap)⟩:=fun σ2 h2=>by
  have h0:callS σ2 o.dst pi po q res H'=zB4 σ2 o.dst ⟨outV po q res,cU pi po q H',pi++po++refsVs (cl.args.toList.map σ.eval++caps)++pi.flatMap (zFS σ.heap)⟩:=by rw[←zD5 hlen]
  refine ASt.ext' (fun t=>by rw[h0];rfl) (fun k=>?_) rfl rfl rfl;show(callS σ2 o.dst pi po q res H').heap k=(lk ((cU pi po q H').filter fun p=>!ke.contains p.1) k).getD (σ2.heap k);rw[zRm];by_cases hk:ke.contains k=true
  ·rw[if_pos hk];obtain⟨p1,p2⟩:=hke k hk;show zBg σ2.heap H' pi po q k=σ2.heap k;rw[zEM hlen];obtain⟨j,hj,e⟩:=Qb p2;have hpj:po[j]? =some k:=by rw[Qj hj,e]
   rw[zHf hndo hpj,h2 k p1,zH9 hsame (by simpa using hlen) j k hpj hk,Qh]
  ·rw[if_neg hk,h0];rfl
 refine⟨⟨outV po q res,(cU pi po q H').filter fun p=>!ke.contains p.1,pi++po++refsVs (cl.args.toList.map σ.eval++caps)++pi.flatMap (zFS σ.heap)⟩,fun σ2 q1 q2 q3=>?_,?_⟩
 ·have hev:=zBZ q1;rw[←heq σ2 (fun k hk=>q2 k (by simp only[List.mem_append];exact .inl (.inl (.inl hk))))];have hops: ∀x,x∈cl.args.toList->σ2.eval x=σ.eval x:=fun x hx=>hev x (by rw[hop];simp[Op.operands,Call.operands];exact .inr (by simpa using hx))
  have hmap:cl.args.toList.map σ2.eval=cl.args.toList.map σ.eval:=List.map_congr_left hops;have hfo2:σ2.eval fo= .fn f caps:=by rw[hev fo (by rw[hop];simp[Op.operands,Call.operands,hc])];exact hfo
  refine zKq pi po q (by rw[zCm q1 q3];exact hg) hop hc hfo2 hb hspec (by rw[zBF q3];exact hd) ?_ ?_ hndi hlen hndo hpo hok
  ·rw[hmap];exact zBB _ _ hargs (fun k hk=>q2 k (by simp only[List.mem_append];exact .inl (.inr hk)))
  ·exact zDz hobj (fun k hk=>q2 k (by simp only[List.mem_append];exact .inl (.inl (.inl hk)))) (fun k hk j hj=>q2 j (by simp only[List.mem_append,List.mem_flatMap];exact .inr ⟨k,hk,hj⟩))
 ·rw[←heq σ (fun k _=>rfl)];show K _ (_++((cU pi po q H').filter fun p=>!ke.contains p.1).map (·.1),((cU pi po q H').filter fun p=>!ke.contains p.1).map (·.1));rw[hoff];exact hK
attribute [simp] zUO zNX zLd zUU awpOpDF zNY fixL okF cellH zUW zPY isShO
