/- Lemmas for the law unambiguousClass. No conditions. -/
import Derived.Test.YtgmcbpjplcjmdaaGreatZuac
set_option linter.all false
namespace Go.Proofs.YtgmcbpjplcjmdaaGreat.M
open Go.RowKit
set_option maxRecDepth 100000
set_option maxHeartbeats 32000000

def sameB:Option AObj->Option AObj->Bool
 |some (.box ty cs),some (.box ty' ds)=>decide (ty=ty')&&decide (cs.length=ds.length)
 |_,_=>false
def okH:List Nat->(Nat->Option AObj)->(Nat->Option AObj)->Bool
 |[],_,_=>true
 |k::r,H,H'=>sameB (H k) (H' k)&&okH r H H'
theorem zL5{S:List Nat}{H H':Nat->Option AObj}(h:okH S H H'=true){k:Nat}(hk:k∈S):sameB (H k) (H' k)=true:=by
 induction S with
 |nil=>cases hk
 |cons a r ih=>
  simp only[okH,Qz]at h;rcases List.mem_cons.1 hk with rfl|hk
  ·exact h.1
  ·exact ih h.2 hk
theorem zCd{a b:Option AObj}(h:sameB a b=true): ∃ty cs ds,a=some (.box ty cs)/\b=some (.box ty ds)/\cs.length=ds.length:=by
 unfold sameB at h;split at h
 ·simp only[Qz,decide_eq_true_eq]at h;obtain⟨rfl,h2⟩:=h;exact⟨_,_,_,rfl,rfl,h2⟩
 ·cases h
theorem zEo{a b c:Option AObj}(h:sameB a b=true)(k:sameB b c=true):sameB a c=true:=by
 obtain⟨ty,cs,ds,rfl,rfl,h1⟩:=zCd h;obtain⟨ty',cs',ds',h2,rfl,h3⟩:=zCd k;simp only[Qx,AObj.box.injEq]at h2;obtain⟨rfl,rfl⟩:=h2;simp[sameB,h1,h3]
theorem zLF{a b:Option AObj}(h:sameB a b=true):sameB b a=true:=by
 obtain⟨ty,cs,ds,rfl,rfl,h1⟩:=zCd h;simp[sameB,h1]
def isShO:Op->Bool
 | .nilCheck _=>true
 | .fieldAddr _ _ _=>true
 | .indexAddr _ _ _=>true
 |_=>false
def zOp(S tch:List Nat):List Nat:=tch.filter fun k=>!S.contains k
def zOi(S:List Nat)(op:Op)(tch:List Nat):List Nat:=if isShO op=true then zOp S tch else tch
section
variable{P:Program}{i:Nat}{H H2:Nat->Option AObj}{c:Bool}{eff:Eff}{S:List Nat}
theorem zGY{id:Nat}(hS: ∀k,k∈S->sameB (H k) (H2 k)=true)(hH:id∉S->H2 id=H id):(∃o,H id=some o)-> ∃o o2,H id=some o/\H2 id=some o2/\o.cnt=o2.cnt/\(id∉S->o2=o)/\(id∈S-> ∃ty cs,o= .box ty cs):=by
 rintro⟨o,ho⟩;by_cases h:id∈S
 ·obtain⟨ty,cs,ds,h1,h2,h3⟩:=zCd (hS id h);rw[ho]at h1;injection h1 with h1;subst h1;exact⟨_,_,ho,h2,by simp[AObj.cnt,h3],fun hn=>absurd h hn,fun _=>⟨ty,cs,rfl⟩⟩
 ·exact⟨o,o,ho,by rw[hH h];exact ho,rfl,fun _=>rfl,fun hn=>absurd hn h⟩
theorem zF4{k:Nat}{tch:List Nat}(h1:k∈tch)(h2:k∉S):k∈zOp S tch:=by
 unfold zOp;rw[List.mem_filter];exact⟨h1,by simpa using h2⟩
theorem zLu{x:AV}(he:aNil x H=some (c,eff))(hS: ∀k,k∈S->sameB (H k) (H2 k)=true)(hH: ∀k,k∈zOp S eff.tch->H2 k=H k):aNil x H2=some (c,eff):=by
 unfold aNil at he ⊢;split at he
 ·rename_i id off c';split at he
  ·rename_i o ho;simp only[Qx,Qk]at he;obtain⟨h1,rfl⟩:=he;obtain⟨o1,o2,g1,g2,g3,-,-⟩:=zGY hS (fun hn=>hH id (zF4 (by simp) hn)) ⟨o,ho⟩;rw[ho]at g1;injection g1 with g1;subst g1;simp only[g2,←g3,h1]
  ·cases he
 ·exact he
 ·exact he
 ·cases he
theorem zHw{s f:Nat}{x:AV}(he:aField P s f x H=some (c,eff))(hS: ∀k,k∈S->sameB (H k) (H2 k)=true)(hH: ∀k,k∈zOp S eff.tch->H2 k=H k):aField P s f x H2=some (c,eff):=by
 unfold aField at he ⊢;split at he
 ·rename_i o sz a id off c' hf;split at he
  ·rename_i ob ho;simp only[Qx,Qk]at he;obtain⟨h1,rfl⟩:=he;obtain⟨o1,o2,g1,g2,g3,-,-⟩:=zGY hS (fun hn=>hH id (zF4 (by simp) hn)) ⟨ob,ho⟩;rw[ho]at g1;injection g1 with g1;subst g1;simp only[g2,←g3,h1]
  ·cases he
 ·exact he
 ·cases he
theorem zEE{t:TypeId}{x ix:AV}(he:aIndexAddr P t x ix H=some (c,eff))(hS: ∀k,k∈S->sameB (H k) (H2 k)=true)(hH: ∀k,k∈zOp S eff.tch->H2 k=H k):aIndexAddr P t x ix H2=some (c,eff):=by
 by_cases hq: ∀k,k∈eff.tch->k∉S
 ·exact zCG he (fun k hk=>hH k (zF4 hk (hq k hk)))
 ·unfold aIndexAddr at he ⊢;split at he
  ·rename_i e hel;exfalso;apply hq;intro k hk hkS;obtain⟨ty,cs,ds,g1,g2,g3⟩:=zCd (hS k hkS);split at he
   ·split at he
    ·simp only[Qx,Qk]at he;obtain⟨-,rfl⟩:=he;simp at hk
    ·simp only[Qx,Qk]at he;obtain⟨-,rfl⟩:=he;simp at hk
   ·split at he
    ·rename_i hh;simp only[Qx,Qk]at he;obtain⟨-,rfl⟩:=he;simp only[List.mem_singleton]at hk;subst hk;rw[g1]at hh;cases hh
    ·rename_i hh;split at he
     ·simp only[Qx,Qk]at he;obtain⟨-,rfl⟩:=he;simp only[List.mem_singleton]at hk;subst hk;rw[g1]at hh;cases hh
     ·simp only[Qx,Qk]at he;obtain⟨-,rfl⟩:=he;simp only[List.mem_singleton]at hk;subst hk;rw[g1]at hh;cases hh
    ·cases he
   ·split at he
    ·rename_i hh;simp only[Qx,Qk]at he;obtain⟨-,rfl⟩:=he;simp only[List.mem_singleton]at hk;subst hk;rw[g1]at hh;cases hh
    ·cases he
   ·cases he
  ·rename_i hel;split at he
   ·rename_i n e har;split at he
    ·rename_i s id off c' q k j hs;split at he
     ·rename_i ob ho;simp only[Qx,Qk]at he;obtain⟨h1,rfl⟩:=he;obtain⟨o1,o2,g1,g2,g3,-,-⟩:=zGY hS (fun hn=>hH id (zF4 (by simp) hn)) ⟨ob,ho⟩;rw[ho]at g1;injection g1 with g1;subst g1;simp only[g2,←g3,h1]
     ·cases he
    ·exact he
    ·cases he
   ·cases he
theorem zMF{op:Op}{ev ev2:Operand->AV}(he:aop P i op ev H=some (c,eff))(hop:isShO op=true)(hev: ∀x,x∈op.operands->ev2 x=ev x)(hS: ∀k,k∈S->sameB (H k) (H2 k)=true)(hH: ∀k,k∈zOp S eff.tch->H2 k=H k):aop P i op ev2 H2=some (c,eff):=by
 cases op<;>simp only[isShO]at hop<;>first|(cases hop;done)|skip
 case nilCheck x=>
  simp only[aop]at he ⊢;rw[hev x (by simp[Op.operands])];exact zLu he hS hH
 case fieldAddr s x f=>
  simp only[aop]at he ⊢;rw[hev x (by simp[Op.operands])];exact zHw he hS hH
 case indexAddr t x ix=>
  simp only[aop]at he ⊢;rw[hev x (by simp[Op.operands]),hev ix (by simp[Op.operands])];exact zEE he hS hH
end
def JS(S:List Nat)(H:Nat->Option AObj)(σ:ASt):Prop:=∀k,k∈S->sameB (H k) (σ.heap k)=true
def awpOpDS(P:Program)(ops:Array Oper)(S:List Nat)(i:Nat)(o:Oper)(σ:ASt)(K:ASt->List Nat×List Nat->Prop):Prop:=match gd ops σ o with
 |some true=>match aop P i o.op σ.eval σ.heap with
  |some (c,eff)=>c=true/\zAt σ o=true/\okH S σ.heap (σ.app o.dst eff).heap=true/\K (σ.app o.dst eff) (zOi S o.op eff.tch++wrE eff,wrE eff)
  |none=>zCB P ops i o σ (fun σ' s=>okH S σ.heap σ'.heap=true/\K σ' s)
 |some false=>zAt σ o=true/\okH S σ.heap σ.heap=true/\K (σ.app o.dst { val:=.tup [] }) ([],[])
 |none=>False
def zHa(P:Program)(ops:Array Oper)(S:List Nat)(N:Nat):List Oper->Nat->ASt->List (List Nat×List Nat)->(ASt->Prop)->Prop
 |[],k,σ,sm,K=>zAY ops sm=true/\K { σ with nxt:=N+k }
 |o::r,k,σ,sm,K=>awpOpDS P ops S (N+k) o σ (fun σ' s=>zHa P ops S N r (k+1000000) σ' (sm++[s]) K)
theorem zMf{S:List Nat}{H H':Nat->Option AObj}(h:okH S H H'=true): ∀k,k∈S->sameB (H k) (H' k)=true:=fun k hk=>zL5 h hk
theorem zGL{P:Program}{ops:Array Oper}{S:List Nat}{i:Nat}{o:Oper}{σ:ASt}{H0:Nat->Option AObj}{K:ASt->List Nat×List Nat->Prop}(hJ:JS S H0 σ)(h:awpOpDS P ops S i o σ K): ∃l,zRA (JS S H0) P ops i o σ l/\okH S σ.heap (zCW σ o.dst l).heap=true/\K (zCW σ o.dst l) (l.tch++l.ups.map (·.1),l.ups.map (·.1)):=by
 unfold awpOpDS at h;split at h
 ·rename_i hg;split at h
  ·rename_i c eff he;obtain⟨h1,h2,h3,h4⟩:=h;refine⟨⟨eff.val,effU eff,zOi S o.op eff.tch⟩,fun σ2 q0 q1 q2 q3=>?_,?_,?_⟩
   ·have he2:aop P i o.op σ2.eval σ2.heap=some (c,eff):=by
     by_cases hsh:isShO o.op=true
     ·refine zMF (S:=S) he hsh (zBw q1) (fun k hk=>zEo (zLF (hJ k hk)) (q0 k hk)) (fun k hk=>q2 k ?_);show k∈zOi S o.op eff.tch;unfold zOi;rw[if_pos hsh];exact hk
     ·refine zHe he (zBw q1) (fun k hk=>q2 k ?_);show k∈zOi S o.op eff.tch;unfold zOi;rw[if_neg hsh];exact hk
    have hap:zCW σ2 o.dst ⟨eff.val,effU eff,zOi S o.op eff.tch⟩=σ2.app o.dst eff:=by rw[zBT];rfl
    rw[hap];intro w0 V S0 gv U a w hR hi K' Q hK;have hR':=hR;obtain⟨ob,m1,m2,m3,m4,m5⟩:=hR';rw[if_pos (zA0 (by rw[zCq q1 q3];exact hg) m2 m4)];exact hR.zUW (by rw[zBG q3];exact h2) (fun ob m1 m2=>zME he2 h1 m1 (hi i (Qy _) (by omega)) (fun x=>VR.eval m1.glE m2 x)) hK
   ·have hap:zCW σ o.dst ⟨eff.val,effU eff,zOi S o.op eff.tch⟩=σ.app o.dst eff:=by rw[zBT];rfl
    rw[hap];exact h3
   ·have hap:zCW σ o.dst ⟨eff.val,effU eff,zOi S o.op eff.tch⟩=σ.app o.dst eff:=by rw[zBT];rfl
    rw[hap];show K _ (zOi S o.op eff.tch++(effU eff).map (·.1),(effU eff).map (·.1));rw[zHx];exact h4
  ·obtain⟨l,h1,h2,h3⟩:=h;exact⟨l,h1.J,h2,h3⟩
 ·rename_i hg;have hc:awpOpD P ops i o σ (fun σ' s=>K σ' s):=by
   unfold awpOpD;rw[hg];exact⟨h.1,h.2.2⟩
  refine⟨⟨.tup [],[],[]⟩,fun σ2 q0 q1 q2 q3=>?_,?_,?_⟩
  ·have e:zCW σ2 o.dst ⟨.tup [],[],[]⟩=σ2.app o.dst { val:=.tup [] }:=by rw[zBT];rfl
   rw[e];intro w0 V S0 gv U a w hR hi K' Q hK;obtain⟨ob,m1,m2,m3,m4,m5⟩:=hR;rw[if_neg (by rw[zA0 (by rw[zCq q1 q3];exact hg) m2 m4];simp)];refine hK _ _ ?_;obtain⟨h5,h6⟩:=m1.used (U':=fun k=>U k\/(i<=k/\k<i+1000000)) (fun k hk=>.inl hk);exact zEN.zRl (σ:=σ2) (o:=o) (v:=undef) (x:=.tup []) h5 (fun t=>(m2 t).ext h6) m3 m4 (m5.ext h6) (by rw[zBG q3];exact h.1) (.tup #[] [] rfl (fun i c h=>by simp at h))
  ·exact h.2.1
  ·have e:zCW σ o.dst ⟨.tup [],[],[]⟩=σ.app o.dst { val:=.tup [] }:=by rw[zBT];rfl
   rw[e];exact h.2.2
 ·exact h.elim
theorem zQW{S:List Nat}{H0:Nat->Option AObj}{σ σ2:ASt}{d d2:Option Tmp}{l:LE}(hJ:JS S H0 σ)(hok:okH S σ.heap (zCW σ d l).heap=true)(h2:JS S H0 σ2):JS S H0 (zCW σ2 d2 l):=fun k hk=>by
 show sameB _ ((lk l.ups k).getD (σ2.heap k))=true
 cases hq:lk l.ups k with
 |none=>exact h2 k hk
 |some x=>
  have h3:=zL5 hok hk;have h3:sameB (σ.heap k) ((lk l.ups k).getD (σ.heap k))=true:=h3;rw[hq]at h3;exact zEo (hJ k hk) h3
theorem zEB{P:Program}{ops:Array Oper}{S:List Nat}{N:Nat}{σ0:ASt}{H0:Nat->Option AObj}{K:ASt->Prop}: ∀(l:List Oper) (les:List LE) (sm:List (List Nat×List Nat)) (σ:ASt),zHa P ops S N l (1000000*les.length) σ sm K->les.length<=ops.size->(∀j,ops[les.length+j]? =l[j]?)->σ=foldS ops (leL les) σ0 (fun _=>true) les.length->JS S H0 σ→
  (∀j,j<les.length-> ∀σ2 d,JS S H0 σ2->JS S H0 (zCW σ2 d (leL les j)))→
  (∀j o,j<les.length->ops[j]? =some o->zRA (JS S H0) P ops (N+1000000*j) o (foldS ops (leL les) σ0 (fun _=>true) j) (leL les j))->sm.length=les.length->(∀j,j<les.length->sm.getD j ([],[])=((leL les j).tch++(leL les j).ups.map (·.1),(leL les j).ups.map (·.1)))→
  ∃les' sm',les'.length=ops.size/\K { foldS ops (leL les') σ0 (fun _=>true) ops.size with nxt:=N+1000000*ops.size }/\zAY ops sm'=true/\(∀j,j<ops.size->sm'.getD j ([],[])=((leL les' j).tch++(leL les' j).ups.map (·.1),(leL les' j).ups.map (·.1)))/\(∀j,j<ops.size-> ∀σ2 d,JS S H0 σ2->JS S H0 (zCW σ2 d (leL les' j)))/\ ∀j o,ops[j]? =some o->zRA (JS S H0) P ops (N+1000000*j) o (foldS ops (leL les') σ0 (fun _=>true) j) (leL les' j)
 |[],les,sm,σ,h,hle,hops,hσ,hJ,hap,hloc,hsl,hsm=>by
  have hsz:les.length=ops.size:=by
   have h1:=hops 0;simp at h1;omega
  obtain⟨h1,h2⟩:=h;refine⟨les,sm,hsz,?_,h1,fun j hj=>hsm j (by omega),fun j hj=>hap j (by omega),fun j o ho=>hloc j o (by rw[hsz];exact(Array.getElem?_eq_some_iff.1 ho).1) ho⟩;rw[←hsz,←hσ];exact h2
 |o::r,les,sm,σ,h,hle,hops,hσ,hJ,hap,hloc,hsl,hsm=>by
  obtain⟨l,h1,hok,h2⟩:=zGL hJ h;have ho:ops[les.length]? =some o:=by simpa using hops 0
  have hlen:(les++[l]).length=les.length+1:=by simp
  have hfold: ∀n,n<=les.length->foldS ops (leL (les++[l])) σ0 (fun _=>true) n=foldS ops (leL les) σ0 (fun _=>true) n:=fun n hn=>zGZ n (fun j hj=>zC7 (by omega))
  have hlt:=(Array.getElem?_eq_some_iff.1 ho).1;refine zEB r (les++[l]) (sm++[(l.tch++l.ups.map (·.1),l.ups.map (·.1))]) (zCW σ o.dst l) ?_ (by rw[hlen];omega) (fun j=>?_) ?_ (zQW hJ hok hJ) (fun j hj=>?_) (fun j o' hj hoj=>?_) (by simp[hsl]) (fun j hj=>?_)
  ·rw[hlen,show 1000000*(les.length+1)=1000000*les.length+1000000 by omega];exact h2
  ·rw[hlen,show les.length+1+j=les.length+(j+1) by omega,hops (j+1)];simp
  ·rw[hlen];show _=if true=true then _ else _
   rw[if_pos rfl,hfold _ (Qy _),zC5,←hσ];unfold zEA;rw[ho];rfl
  ·rw[hlen]at hj;by_cases e:j<les.length
   ·rw[zC7 e];exact hap j e
   ·obtain rfl:j=les.length:=by omega
    rw[zC5];exact fun σ2 d h2=>zQW hJ hok h2
  ·rw[hlen]at hj;rw[hfold j (by omega)];by_cases e:j<les.length
   ·rw[zC7 e];exact hloc j o' e hoj
   ·obtain rfl:j=les.length:=by omega
    rw[ho]at hoj;injection hoj with hoj;subst hoj;rw[zC5,←hσ];exact h1
  ·rw[hlen]at hj;by_cases e:j<les.length
   ·rw[zC7 e,Qv,Qw (by omega),←Qv];exact hsm j e
   ·obtain rfl:j=les.length:=by omega
    rw[zC5,Qv,Qa (by omega)];simp[hsl]
theorem zG4{P:Program}{Q:Exit->ASt->Prop}{σ:ASt}{id:Nat}{ops:Array Oper}(S:List Nat)(hm:P.follows .mixedOrders=true)(hS:okH S σ.heap σ.heap=true)(h:zHa P ops S σ.nxt ops.toList 0 σ [] (Q .normal)):awp P (.region id ops true) Q σ:=by
 obtain⟨les,sm,h1,h2,h3,h4,h6,h5⟩:=zEB (σ0:=σ) (H0:=σ.heap) ops.toList [] [] σ h (by simp) (fun j=>by simp) rfl (zMf hS) (fun j hj=>by simp at hj) (fun j o hj=>by simp at hj) rfl (fun j hj=>by simp at hj);refine zHN hm h2 h3 h4 (J:=JS S σ.heap) (fun L=>?_) h5;have H: ∀n,n<=ops.size->JS S σ.heap (foldS ops (leL les) σ L n):=by
  intro n
  induction n with
  |zero=>intro _;exact zMf hS
  |succ n ih=>
   intro hn;unfold foldS;split
   ·exact h6 n (by omega) _ _ (ih (by omega))
   ·exact ih (by omega)
 exact H _ (Qy _)
theorem zMM{P:Program}{Q:Exit->ASt->Prop}{σ:ASt}{id:Nat}{ops:Array Oper}{y:Code}(S:List Nat)(hm:P.follows .mixedOrders=true)(hS:okH S σ.heap σ.heap=true)(h: ∀K:ASt->Prop,(∀σ',awp P y Q σ'->K σ')->zHa P ops S σ.nxt ops.toList 0 σ [] K):awp P (.seq (.region id ops true) y) Q σ:=
 zA (zG4 S hm hS (h _ (fun _ h=>h)))
def KDS(P:Program)(ops:Array Oper)(S:List Nat)(N:Nat)(r:List Oper)(k:Nat)(sm:List (List Nat×List Nat))(K:ASt->Prop):ASt->List Nat×List Nat->Prop:=fun σ s=>zHa P ops S N r k σ (sm++[s]) K
theorem zTG(P:Program)(ops:Array Oper)(S:List Nat)(N:Nat)(r:List Oper)(k:Nat)(sm:List (List Nat×List Nat))(K:ASt->Prop)(σ:ASt)(s:List Nat×List Nat):KDS P ops S N r k sm K σ s=zHa P ops S N r k σ (sm++[s]) K:=rfl
theorem zMe(P:Program)(ops:Array Oper)(S:List Nat)(N k:Nat)(σ:ASt)(sm:List (List Nat×List Nat))(K:ASt->Prop):zHa P ops S N [] k σ sm K=(zAY ops sm=true/\K { σ with nxt:=N+k }):=rfl
theorem zLH(P:Program)(ops:Array Oper)(S:List Nat)(N k:Nat)(o:Oper)(r:List Oper)(σ:ASt)(sm:List (List Nat×List Nat))(K:ASt->Prop):zHa P ops S N (o::r) k σ sm K=awpOpDS P ops S (N+k) o σ (KDS P ops S N r (k+1000000) sm K):=rfl
end Go.Proofs.YtgmcbpjplcjmdaaGreat.M

namespace Go.Proofs.YtgmcbpjplcjmdaaGreat.M
attribute [simp] zP4 zVJ zEU zDF zP7 zOP Nat.blt_eq Qm awpOp awpOpD wrE gd aop aBuiltin aNil aMin aMin3 ASt.eval AV.ofV zAt ASt.app Eff.heap dels zCK aLoad aStore aField aFieldV aIndexAddr aIndex aSlice aSliceO aLen aBin iB sB aUn aConv aAlloc aBox aBuild afill avCells AV.leaf zUU aBuildSlice frz frzL isOwn vecOf tsOf aMake srcOf aAppend aMkMap aMapUpd aLookup oint cut putL AObj.cnt mkS zAH zAA zAC zx zCJ callS outV outVs outO zBn addL delL
attribute [simp] wkE wkP wkPs wkH wkO keysNd unm zAi zAL ghA ghA1 resV idxF inPs inP pf1 pfx inOs inO ndL okO mkF zA5 zBE zCI zAu zBF zB3 zBk
attribute [simp] aMapNil zMe zLH zTG awpOpDS zOi zOp isShO
end Go.Proofs.YtgmcbpjplcjmdaaGreat.M
