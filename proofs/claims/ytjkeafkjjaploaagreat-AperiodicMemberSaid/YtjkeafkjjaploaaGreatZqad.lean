/- Lemmas for the law AperiodicMember. No conditions. -/
import Derived.Test.YtjkeafkjjaploaaGreatZqac
set_option linter.all false
namespace Go.Proofs.YtjkeafkjjaploaaGreat.M
open Go.RowKit
set_option maxRecDepth 100000
set_option maxHeartbeats 32000000

def sameB:Option AObj->Option AObj->Bool
 |some (.box ty cs),some (.box ty' ds)=>decide (ty=ty')&&decide (cs.length=ds.length)
 |_,_=>false
def okH:List Nat->(Nat->Option AObj)->(Nat->Option AObj)->Bool
 |[],_,_=>true
 |k::r,H,H'=>sameB (H k) (H' k)&&okH r H H'
theorem zMU{S:List Nat}{H H':Nat->Option AObj}(h:okH S H H'=true){k:Nat}(hk:k∈S):sameB (H k) (H' k)=true:=by
 induction S with
 |nil=>cases hk
 |cons a r ih=>
  simp only[okH,Qz]at h;rcases List.mem_cons.1 hk with rfl|hk
  ·exact h.1
  ·exact ih h.2 hk
theorem zBs{a b:Option AObj}(h:sameB a b=true): ∃ty cs ds,a=some (.box ty cs)/\b=some (.box ty ds)/\cs.length=ds.length:=by
 unfold sameB at h;split at h
 ·simp only[Qz,decide_eq_true_eq]at h;obtain⟨rfl,h2⟩:=h;exact⟨_,_,_,rfl,rfl,h2⟩
 ·cases h
theorem zC7{a b c:Option AObj}(h:sameB a b=true)(k:sameB b c=true):sameB a c=true:=by
 obtain⟨ty,cs,ds,rfl,rfl,h1⟩:=zBs h;obtain⟨ty',cs',ds',h2,rfl,h3⟩:=zBs k;simp only[Qx,AObj.box.injEq]at h2;obtain⟨rfl,rfl⟩:=h2;simp[sameB,h1,h3]
theorem zFt{a b:Option AObj}(h:sameB a b=true):sameB b a=true:=by
 obtain⟨ty,cs,ds,rfl,rfl,h1⟩:=zBs h;simp[sameB,h1]
def isShO:Op->Bool
 | .nilCheck _=>true
 | .fieldAddr _ _ _=>true
 | .indexAddr _ _ _=>true
 |_=>false
def zPY(S tch:List Nat):List Nat:=tch.filter fun k=>!S.contains k
def zWp(S:List Nat)(op:Op)(tch:List Nat):List Nat:=if isShO op=true then zPY S tch else tch
section
variable{P:Program}{i:Nat}{H H2:Nat->Option AObj}{c:Bool}{eff:Eff}{S:List Nat}
theorem zGq{id:Nat}(hS: ∀k,k∈S->sameB (H k) (H2 k)=true)(hH:id∉S->H2 id=H id):(∃o,H id=some o)-> ∃o o2,H id=some o/\H2 id=some o2/\o.cnt=o2.cnt/\(id∉S->o2=o)/\(id∈S-> ∃ty cs,o= .box ty cs):=by
 rintro⟨o,ho⟩;by_cases h:id∈S
 ·obtain⟨ty,cs,ds,h1,h2,h3⟩:=zBs (hS id h);rw[ho]at h1;injection h1 with h1;subst h1;exact⟨_,_,ho,h2,by simp[AObj.cnt,h3],fun hn=>absurd h hn,fun _=>⟨ty,cs,rfl⟩⟩
 ·exact⟨o,o,ho,by rw[hH h];exact ho,rfl,fun _=>rfl,fun hn=>absurd hn h⟩
theorem zGc{k:Nat}{tch:List Nat}(h1:k∈tch)(h2:k∉S):k∈zPY S tch:=by
 unfold zPY;rw[List.mem_filter];exact⟨h1,by simpa using h2⟩
theorem zLf{x:AV}(he:aNil x H=some (c,eff))(hS: ∀k,k∈S->sameB (H k) (H2 k)=true)(hH: ∀k,k∈zPY S eff.tch->H2 k=H k):aNil x H2=some (c,eff):=by
 unfold aNil at he ⊢;split at he
 ·rename_i id off c';split at he
  ·rename_i o ho;simp only[Qx,Qk]at he;obtain⟨h1,rfl⟩:=he;obtain⟨o1,o2,g1,g2,g3,-,-⟩:=zGq hS (fun hn=>hH id (zGc (by simp) hn)) ⟨o,ho⟩;rw[ho]at g1;injection g1 with g1;subst g1;simp only[g2,←g3,h1]
  ·cases he
 ·exact he
 ·exact he
 ·cases he
theorem zH3{s f:Nat}{x:AV}(he:aField P s f x H=some (c,eff))(hS: ∀k,k∈S->sameB (H k) (H2 k)=true)(hH: ∀k,k∈zPY S eff.tch->H2 k=H k):aField P s f x H2=some (c,eff):=by
 unfold aField at he ⊢;split at he
 ·rename_i o sz a id off c' hf;split at he
  ·rename_i ob ho;simp only[Qx,Qk]at he;obtain⟨h1,rfl⟩:=he;obtain⟨o1,o2,g1,g2,g3,-,-⟩:=zGq hS (fun hn=>hH id (zGc (by simp) hn)) ⟨ob,ho⟩;rw[ho]at g1;injection g1 with g1;subst g1;simp only[g2,←g3,h1]
  ·cases he
 ·exact he
 ·cases he
theorem zEJ{t:TypeId}{x ix:AV}(he:aIndexAddr P t x ix H=some (c,eff))(hS: ∀k,k∈S->sameB (H k) (H2 k)=true)(hH: ∀k,k∈zPY S eff.tch->H2 k=H k):aIndexAddr P t x ix H2=some (c,eff):=by
 by_cases hq: ∀k,k∈eff.tch->k∉S
 ·exact zCL he (fun k hk=>hH k (zGc hk (hq k hk)))
 ·unfold aIndexAddr at he ⊢;split at he
  ·rename_i e hel;exfalso;apply hq;intro k hk hkS;obtain⟨ty,cs,ds,g1,g2,g3⟩:=zBs (hS k hkS);split at he
   ·split at he
    ·simp only[Qx,Qk]at he;obtain⟨-,rfl⟩:=he;simp at hk
    ·simp only[Qx,Qk]at he;obtain⟨-,rfl⟩:=he;simp at hk
   ·split at he
    ·rename_i hh;simp only[Qx,Qk]at he;obtain⟨-,rfl⟩:=he;simp only[List.mem_singleton]at hk;subst hk;rw[g1]at hh;cases hh
    ·rename_i hh;split at he
     ·simp only[Qx,Qk]at he;obtain⟨-,rfl⟩:=he;simp only[List.mem_singleton]at hk;subst hk;rw[g1]at hh;cases hh
     ·simp only[Qx,Qk]at he;obtain⟨-,rfl⟩:=he;simp only[List.mem_singleton]at hk;subst hk;rw[g1]at hh;cases hh
    ·cases he
   ·split at he
    ·rename_i hh;simp only[Qx,Qk]at he;obtain⟨-,rfl⟩:=he;simp only[List.mem_singleton]at hk;subst hk;rw[g1]at hh;cases hh
    ·cases he
   ·cases he
  ·rename_i hel;split at he
   ·rename_i n e har;split at he
    ·rename_i s id off c' q k j hs;split at he
     ·rename_i ob ho;simp only[Qx,Qk]at he;obtain⟨h1,rfl⟩:=he;obtain⟨o1,o2,g1,g2,g3,-,-⟩:=zGq hS (fun hn=>hH id (zGc (by simp) hn)) ⟨ob,ho⟩;rw[ho]at g1;injection g1 with g1;subst g1;simp only[g2,←g3,h1]
     ·cases he
    ·exact he
    ·cases he
   ·cases he
theorem zMt{op:Op}{ev ev2:Operand->AV}(he:aop P i op ev H=some (c,eff))(hop:isShO op=true)(hev: ∀x,x∈op.operands->ev2 x=ev x)(hS: ∀k,k∈S->sameB (H k) (H2 k)=true)(hH: ∀k,k∈zPY S eff.tch->H2 k=H k):aop P i op ev2 H2=some (c,eff):=by
 cases op<;>simp only[isShO]at hop<;>first|(cases hop;done)|skip
 case nilCheck x=>
  simp only[aop]at he ⊢;rw[hev x (by simp[Op.operands])];exact zLf he hS hH
 case fieldAddr s x f=>
  simp only[aop]at he ⊢;rw[hev x (by simp[Op.operands])];exact zH3 he hS hH
 case indexAddr t x ix=>
  simp only[aop]at he ⊢;rw[hev x (by simp[Op.operands]),hev ix (by simp[Op.operands])];exact zEJ he hS hH
end
def awpOpDS(P:Program)(ops:Array Oper)(S:List Nat)(i:Nat)(o:Oper)(σ:ASt)(K:ASt->List Nat×List Nat->Prop):Prop:=match gd ops σ o with
 |some true=>match aop P i o.op σ.eval σ.heap with
  |some (c,eff)=>c=true/\zAv σ o=true/\okH S σ.heap (σ.app o.dst eff).heap=true/\K (σ.app o.dst eff) (zWp S o.op eff.tch++wrE eff,wrE eff)
  |none=>zCH P ops i o σ (fun σ' s=>okH S σ.heap σ'.heap=true/\K σ' s)
 |some false=>zAv σ o=true/\okH S σ.heap σ.heap=true/\K (σ.app o.dst { val:=.tup [] }) ([],[])
 |none=>False
def zOJ(P:Program)(ops:Array Oper)(S:List Nat)(N:Nat):List Oper->Nat->ASt->List (List Nat×List Nat)->(ASt->Prop)->Prop
 |[],k,σ,sm,K=>zAf ops sm=true/\K { σ with nxt:=N+k }
 |o::r,k,σ,sm,K=>awpOpDS P ops S (N+k) o σ (fun σ' s=>zOJ P ops S N r (k+1000000) σ' (sm++[s]) K)
theorem zPB{S:List Nat}{H H':Nat->Option AObj}(h:okH S H H'=true): ∀k,k∈S->sameB (H k) (H' k)=true:=fun k hk=>zMU h hk
def KDS(P:Program)(ops:Array Oper)(S:List Nat)(N:Nat)(r:List Oper)(k:Nat)(sm:List (List Nat×List Nat))(K:ASt->Prop):ASt->List Nat×List Nat->Prop:=fun σ s=>zOJ P ops S N r k σ (sm++[s]) K
theorem zU0(P:Program)(ops:Array Oper)(S:List Nat)(N:Nat)(r:List Oper)(k:Nat)(sm:List (List Nat×List Nat))(K:ASt->Prop)(σ:ASt)(s:List Nat×List Nat):KDS P ops S N r k sm K σ s=zOJ P ops S N r k σ (sm++[s]) K:=rfl
theorem zNl(P:Program)(ops:Array Oper)(S:List Nat)(N k:Nat)(σ:ASt)(sm:List (List Nat×List Nat))(K:ASt->Prop):zOJ P ops S N [] k σ sm K=(zAf ops sm=true/\K { σ with nxt:=N+k }):=rfl
theorem zLv(P:Program)(ops:Array Oper)(S:List Nat)(N k:Nat)(o:Oper)(r:List Oper)(σ:ASt)(sm:List (List Nat×List Nat))(K:ASt->Prop):zOJ P ops S N (o::r) k σ sm K=awpOpDS P ops S (N+k) o σ (KDS P ops S N r (k+1000000) sm K):=rfl
end Go.Proofs.YtjkeafkjjaploaaGreat.M

namespace Go.Proofs.YtjkeafkjjaploaaGreat.M
attribute [simp] zQq zVr zES zDV zQa zNZ Nat.blt_eq Ql awpOp awpOpD wrE gd aop aBuiltin aNil aMin aMin3 ASt.eval AV.ofV zAv ASt.app Eff.heap dels zCC aLoad aStore aField aFieldV aIndexAddr aIndex aSlice aSliceO aLen aBin iB sB aUn aConv aAlloc aBox aBuild afill avCells AV.leaf zWi aBuildSlice frz frzL isOwn vecOf tsOf aMake srcOf aAppend aMkMap aMapUpd aLookup oint cut putL AObj.cnt mkS zAN zAF zAH zz zC3 callS outV outVs outO zBg addL delL
attribute [simp] wkE wkP wkPs wkH wkO keysNd unm zAd zAL ghA ghA1 resV idxF inPs inP pf1 pfx inOs inO ndL okO mkF zAw zA3 zCQ zA8 zBG zBy zBd
attribute [simp] aMapNil zNl zLv zU0 awpOpDS zWp zPY isShO
end Go.Proofs.YtjkeafkjjaploaaGreat.M

namespace Go.Proofs.YtjkeafkjjaploaaGreat.M
open Go.RowKit
set_option maxRecDepth 100000
set_option maxHeartbeats 32000000

section
variable{P:Program}{Q Q':Exit->ASt->Prop}{σ σ':ASt}{id:Nat}{ops:Array Oper}{x y:Code}{c:Operand}{A1 A2 A3 A4 A5 A6:Prop}
theorem rg0(h:awp P y Q σ')(hv: ∀K:ASt->Prop,K σ'->awpL P ops σ.nxt ops.toList 0 σ K:=by
 intro K hK;simp(disch:=omega)[ints,rows,scal,zBh,wr8]
 (repeat' first|exact hK|apply And.intro)<;>try first|omega|rfl|(simp;done)|(simp;omega)):awp P (.seq (.region id ops false) y) Q σ:=zO fun K hK=>hv K (hK _ h)
theorem rr0(h:Q .normal σ')(hv: ∀K:ASt->Prop,K σ'->awpL P ops σ.nxt ops.toList 0 σ K:=by
 intro K hK;simp(disch:=omega)[ints,rows,scal,zBh,wr8]
 (repeat' first|exact hK|apply And.intro)<;>try first|omega|rfl|(simp;done)|(simp;omega)):awp P (.region id ops false) Q σ:=zAE fun K hK=>hv K (hK _ h)
theorem rd0(h:awp P y Q σ')(hv: ∀K:ASt->Prop,K σ'->zJO P ops σ.nxt ops.toList 0 σ [] K:=by
 intro K hK;simp(disch:=omega)[ints,rows,scal,zBh,wr8]
 (repeat' first|exact hK|apply And.intro)<;>try first|(show zAf _ _=true;kernel_rfl)|(show okH _ _ _=true;kernel_rfl)|omega|rfl|(simp;done)|(simp;omega)) (hm:P.follows .mixedOrders=true:=by kernel_rfl):awp P (.seq (.region id ops true) y) Q σ:=zo hm fun K hK=>hv K (hK _ h)
theorem re0(h:Q .normal σ')(hv: ∀K:ASt->Prop,K σ'->zJO P ops σ.nxt ops.toList 0 σ [] K:=by
 intro K hK;simp(disch:=omega)[ints,rows,scal,zBh,wr8]
 (repeat' first|exact hK|apply And.intro)<;>try first|(show zAf _ _=true;kernel_rfl)|(show okH _ _ _=true;kernel_rfl)|omega|rfl|(simp;done)|(simp;omega)) (hm:P.follows .mixedOrders=true:=by kernel_rfl):awp P (.region id ops true) Q σ:=zAW hm fun K hK=>hv K (hK _ h)
theorem rc0{f:FuncId}{args:List AV}{res:AV}(s:FnS P f args [] res [])(h:awp P y Q σ')(hv:let s:=s;∀K:ASt->Prop,K σ'->awpL P ops σ.nxt ops.toList 0 σ K:=by
 intro s K hK;simp(disch:=omega)[ints,rows,scal,zBh,wr8]
 (repeat' apply And.intro)
 all_goals (try omega)
 refine zJ (caps:=[]) s [] [] 2 (by first|rfl|simp[gd]) rfl rfl rfl (by kernel_rfl) (by simp[zAv]) ?_ trivial trivial rfl trivial trivial (by simp[okO]) ?_
 ·simp[scal,rows,ints]
 simp(disch:=omega)[ints,rows,scal,zBh,wr8]
 (repeat' first|exact hK|apply And.intro)<;>try first|omega|rfl|(simp;done)|(simp;omega)):awp P (.seq (.region id ops false) y) Q σ:=zO fun K hK=>hv K (hK _ h)
theorem rq0{f:FuncId}{args:List AV}{res:AV}(s:FnS P f args [] res [])(h:awp P y Q σ')(hv:let s:=s;∀K:ASt->Prop,K σ'->zJO P ops σ.nxt ops.toList 0 σ [] K:=by
 intro s K hK;simp(disch:=omega)[ints,rows,scal,zBh,wr8]
 (repeat' apply And.intro)
 all_goals (try omega)
 refine zV (caps:=[]) s [] [] 2 (by first|rfl|simp[gd]) rfl rfl rfl (by kernel_rfl) (by simp[zAv]) ?_ trivial trivial rfl trivial trivial (by simp[okO]) ?_
 ·simp[scal,rows,ints]
 simp(disch:=omega)[ints,rows,scal,zBh,wr8]
 (repeat' first|exact hK|apply And.intro)<;>try first|(show zAf _ _=true;kernel_rfl)|(show okH _ _ _=true;kernel_rfl)|omega|rfl|(simp;done)|(simp;omega)) (hm:P.follows .mixedOrders=true:=by kernel_rfl):awp P (.seq (.region id ops true) y) Q σ:=zo hm fun K hK=>hv K (hK _ h)
theorem cF0(h:awp P y Q σ)(hb:σ.eval c= .t 2 (.bool false):=by
 simp[scal]<;>omega):awp P (.cond c x y) Q σ:=zu hb h
theorem cT0(h:awp P x Q σ)(hb:σ.eval c= .t 2 (.bool true):=by
 simp[scal]<;>omega):awp P (.cond c x y) Q σ:=zu hb h
theorem cS0(h:awp P y Q σ)(hb:σ.eval c= .t 2 (.bool false):=by
 simp[scal]<;>omega):awp P (.cond c x .skip) (zMW (awp P y Q) Q) σ:=zu (b:=false) hb (zY h)
theorem cK0(h:awp P y Q σ)(hb:σ.eval c= .t 2 (.bool true):=by
 simp[scal]<;>omega):awp P (.cond c .skip x) (zMW (awp P y Q) Q) σ:=zu (b:=true) hb (zY h)
theorem cY0(h:Q .normal σ)(hb:σ.eval c= .t 2 (.bool false):=by
 simp[scal]<;>omega):awp P (.cond c x .skip) Q σ:=zu (b:=false) hb (zY h)
theorem cZ0(h:Q .normal σ)(hb:σ.eval c= .t 2 (.bool true):=by
 simp[scal]<;>omega):awp P (.cond c .skip x) Q σ:=zu (b:=true) hb (zY h)
theorem rt0{B:Prop}(h:B:=by
 refine⟨⟨.inr rfl,_,[],rfl,trivial,trivial,by simp[ghA,ghA1,wkPs,wkP,mkS,zC3],?_⟩,by simp[ghA,ghA1,mkS,zC3]⟩;simp[wkP,wkPs,zCC,unm,mkS]):B:=h
theorem kw0{el:List (Nat×AV)}{hl:List (Nat×AObj)}{nx nt:Nat}{gh:List AV}(mp:List (Nat×Option Nat))(he:wkE σ (mpOf mp) (unm mp) nx el:=by
 simp[ints]) (hh:wkH σ (mpOf mp) (unm mp) nx hl mp:=by
 simp[ints]) (hn:keysNd mp:=by
 simp[ints]) (hg:wkPs σ.heap (mpOf mp) (unm mp) nx σ.gh gh:=by
 simp[ints]) (hnt:nt=σ.nt:=by rfl):Wk σ (mkS el hl nx nt gh):=zP mp hnt he hh hn hg
theorem rg1(a1:A1)(h:awp P y Q σ')(hv:let b1:=a1;∀K:ASt->Prop,K σ'->awpL P ops σ.nxt ops.toList 0 σ K:=by
 intro b1 K hK;simp(disch:=omega)[b1,ints,rows,scal,zBh,wr8]
 (repeat' first|exact hK|apply And.intro)<;>try first|omega|rfl|(simp;done)|(simp;omega)):awp P (.seq (.region id ops false) y) Q σ:=zO fun K hK=>hv K (hK _ h)
theorem rr1(a1:A1)(h:Q .normal σ')(hv:let b1:=a1;∀K:ASt->Prop,K σ'->awpL P ops σ.nxt ops.toList 0 σ K:=by
 intro b1 K hK;simp(disch:=omega)[b1,ints,rows,scal,zBh,wr8]
 (repeat' first|exact hK|apply And.intro)<;>try first|omega|rfl|(simp;done)|(simp;omega)):awp P (.region id ops false) Q σ:=zAE fun K hK=>hv K (hK _ h)
theorem rd1(a1:A1)(h:awp P y Q σ')(hv:let b1:=a1;∀K:ASt->Prop,K σ'->zJO P ops σ.nxt ops.toList 0 σ [] K:=by
 intro b1 K hK;simp(disch:=omega)[b1,ints,rows,scal,zBh,wr8]
 (repeat' first|exact hK|apply And.intro)<;>try first|(show zAf _ _=true;kernel_rfl)|(show okH _ _ _=true;kernel_rfl)|omega|rfl|(simp;done)|(simp;omega)) (hm:P.follows .mixedOrders=true:=by kernel_rfl):awp P (.seq (.region id ops true) y) Q σ:=zo hm fun K hK=>hv K (hK _ h)
theorem re1(a1:A1)(h:Q .normal σ')(hv:let b1:=a1;∀K:ASt->Prop,K σ'->zJO P ops σ.nxt ops.toList 0 σ [] K:=by
 intro b1 K hK;simp(disch:=omega)[b1,ints,rows,scal,zBh,wr8]
 (repeat' first|exact hK|apply And.intro)<;>try first|(show zAf _ _=true;kernel_rfl)|(show okH _ _ _=true;kernel_rfl)|omega|rfl|(simp;done)|(simp;omega)) (hm:P.follows .mixedOrders=true:=by kernel_rfl):awp P (.region id ops true) Q σ:=zAW hm fun K hK=>hv K (hK _ h)
theorem rc1{f:FuncId}{args:List AV}{res:AV}(s:FnS P f args [] res [])(a1:A1)(h:awp P y Q σ')(hv:let s:=s;let b1:=a1;∀K:ASt->Prop,K σ'->awpL P ops σ.nxt ops.toList 0 σ K:=by
 intro s b1 K hK;simp(disch:=omega)[b1,ints,rows,scal,zBh,wr8]
 (repeat' apply And.intro)
 all_goals (try omega)
 refine zJ (caps:=[]) s [] [] 2 (by first|rfl|simp[b1,gd]) rfl rfl rfl (by kernel_rfl) (by simp[zAv]) ?_ trivial trivial rfl trivial trivial (by simp[okO]) ?_
 ·simp[b1,scal,rows,ints]
 simp(disch:=omega)[b1,ints,rows,scal,zBh,wr8]
 (repeat' first|exact hK|apply And.intro)<;>try first|omega|rfl|(simp;done)|(simp;omega)):awp P (.seq (.region id ops false) y) Q σ:=zO fun K hK=>hv K (hK _ h)
theorem rq1{f:FuncId}{args:List AV}{res:AV}(s:FnS P f args [] res [])(a1:A1)(h:awp P y Q σ')(hv:let s:=s;let b1:=a1;∀K:ASt->Prop,K σ'->zJO P ops σ.nxt ops.toList 0 σ [] K:=by
 intro s b1 K hK;simp(disch:=omega)[b1,ints,rows,scal,zBh,wr8]
 (repeat' apply And.intro)
 all_goals (try omega)
 refine zV (caps:=[]) s [] [] 2 (by first|rfl|simp[b1,gd]) rfl rfl rfl (by kernel_rfl) (by simp[zAv]) ?_ trivial trivial rfl trivial trivial (by simp[okO]) ?_
 ·simp[b1,scal,rows,ints]
 simp(disch:=omega)[b1,ints,rows,scal,zBh,wr8]
 (repeat' first|exact hK|apply And.intro)<;>try first|(show zAf _ _=true;kernel_rfl)|(show okH _ _ _=true;kernel_rfl)|omega|rfl|(simp;done)|(simp;omega)) (hm:P.follows .mixedOrders=true:=by kernel_rfl):awp P (.seq (.region id ops true) y) Q σ:=zo hm fun K hK=>hv K (hK _ h)
theorem cF1(a1:A1)(h:awp P y Q σ)(hb:let b1:=a1;σ.eval c= .t 2 (.bool false):=by
 intro b1;simp[b1,scal]<;>omega):awp P (.cond c x y) Q σ:=zu hb h
theorem cT1(a1:A1)(h:awp P x Q σ)(hb:let b1:=a1;σ.eval c= .t 2 (.bool true):=by
 intro b1;simp[b1,scal]<;>omega):awp P (.cond c x y) Q σ:=zu hb h
theorem cS1(a1:A1)(h:awp P y Q σ)(hb:let b1:=a1;σ.eval c= .t 2 (.bool false):=by
 intro b1;simp[b1,scal]<;>omega):awp P (.cond c x .skip) (zMW (awp P y Q) Q) σ:=zu (b:=false) hb (zY h)
theorem cK1(a1:A1)(h:awp P y Q σ)(hb:let b1:=a1;σ.eval c= .t 2 (.bool true):=by
 intro b1;simp[b1,scal]<;>omega):awp P (.cond c .skip x) (zMW (awp P y Q) Q) σ:=zu (b:=true) hb (zY h)
theorem cY1(a1:A1)(h:Q .normal σ)(hb:let b1:=a1;σ.eval c= .t 2 (.bool false):=by
 intro b1;simp[b1,scal]<;>omega):awp P (.cond c x .skip) Q σ:=zu (b:=false) hb (zY h)
theorem rt1{B:Prop}(a1:A1)(h:let b1:=a1;B:=by
 intro b1;refine⟨⟨.inr rfl,_,[],rfl,trivial,trivial,by simp[b1,ghA,ghA1,wkPs,wkP,mkS,zC3],?_⟩,by simp[b1,ghA,ghA1,mkS,zC3]⟩;simp[b1,wkP,wkPs,zCC,unm,mkS]):B:=h
theorem kw1{el:List (Nat×AV)}{hl:List (Nat×AObj)}{nx nt:Nat}{gh:List AV}(mp:List (Nat×Option Nat))(a1:A1)(he:let b1:=a1;wkE σ (mpOf mp) (unm mp) nx el:=by
 intro b1;simp[b1,ints]) (hh:let b1:=a1;wkH σ (mpOf mp) (unm mp) nx hl mp:=by
 intro b1;simp[b1,ints]) (hn:let b1:=a1;keysNd mp:=by
 intro b1;simp[b1,ints]) (hg:let b1:=a1;wkPs σ.heap (mpOf mp) (unm mp) nx σ.gh gh:=by
 intro b1;simp[b1,ints]) (hnt:nt=σ.nt:=by rfl):Wk σ (mkS el hl nx nt gh):=zP mp hnt he hh hn hg
theorem zXK{B:Prop}(h:B:=by
 refine⟨⟨.inr rfl,_,[(0,some 0)],(by first|rfl|(simp[ints,rows,scal];rfl)),?_,?_,?_,?_⟩,?_⟩<;>first|(simp[ints,rows,scal];done)|rfl|trivial|omega):B:=h
theorem zCx{B:Prop}(a1:A1)(h:let b1:=a1;B:=by
 intro b1;refine⟨⟨.inr rfl,_,[(0,some 0)],(by first|rfl|(simp[b1,ints,rows,scal];rfl)),?_,?_,?_,?_⟩,?_⟩<;>first|(simp[b1,ints,rows,scal];done)|rfl|trivial|omega):B:=h
theorem zT8{B:Prop}(a1:A1)(h:let b1:=a1;B:=by
 intro b1;refine⟨⟨.inr rfl,_,[(0,some 0),(1,some 1),(2,some 2)],(by first|rfl|(simp[b1,ints,rows,scal];rfl)),?_,?_,?_,?_⟩,?_⟩<;>first|(simp[b1,ints,rows,scal];done)|rfl|trivial|omega):B:=h
theorem kf1{el:List (Nat×AV)}{hl:List (Nat×AObj)}{base n:Nat}{F:Nat->AObj}{nx nt:Nat}{gh:List AV}(mp:List (Nat×Option Nat))(g:Nat->Nat)(a1:A1)(he:let b1:=a1;wkE σ (zBj mp base n g) (zCQ mp n g) nx el:=by
 intro b1;first|(simp +contextual (disch:=omega)[b1,wkE,wkP,wkPs,wkH,wkO,keysNd,unm,zAd,zAL,dels,zCC,mkS,mkF,zAN,zAF,zAH,zz,zAw,zA3,zCQ,zA8,zBG,zBy,zBd,zc,zf,zAC,zAA,zBS,Ql,Qi,Qd,zC3,callS,callF,zBg,addL,delL,outV,outVs,outO,ghA,ghA1,ints,scal,zAJ,zZ];done)|omega|(simp +contextual (disch:=omega)[b1,wkE,wkP,wkPs,wkH,wkO,keysNd,unm,zAd,zAL,dels,zCC,mkS,mkF,zAN,zAF,zAH,zz,zAw,zA3,zCQ,zA8,zBG,zBy,zBd,zc,zf,zAC,zAA,zBS,Ql,Qi,Qd,zC3,callS,callF,zBg,addL,delL,outV,outVs,outO,ghA,ghA1,ints,scal,zAJ,zZ]<;>omega)) (hh:let b1:=a1;wkH σ (zBj mp base n g) (zCQ mp n g) nx hl mp:=by
 intro b1;first|(simp +contextual (disch:=omega)[b1,wkE,wkP,wkPs,wkH,wkO,keysNd,unm,zAd,zAL,dels,zCC,mkS,mkF,zAN,zAF,zAH,zz,zAw,zA3,zCQ,zA8,zBG,zBy,zBd,zc,zf,zAC,zAA,zBS,Ql,Qi,Qd,zC3,callS,callF,zBg,addL,delL,outV,outVs,outO,ghA,ghA1,ints,scal,zAJ,zZ];done)|omega|(simp +contextual (disch:=omega)[b1,wkE,wkP,wkPs,wkH,wkO,keysNd,unm,zAd,zAL,dels,zCC,mkS,mkF,zAN,zAF,zAH,zz,zAw,zA3,zCQ,zA8,zBG,zBy,zBd,zc,zf,zAC,zAA,zBS,Ql,Qi,Qd,zC3,callS,callF,zBg,addL,delL,outV,outVs,outO,ghA,ghA1,ints,scal,zAJ,zZ]<;>omega)) (hn:let b1:=a1;keysNd mp:=by
 intro b1;first|(simp +contextual (disch:=omega)[b1,wkE,wkP,wkPs,wkH,wkO,keysNd,unm,zAd,zAL,dels,zCC,mkS,mkF,zAN,zAF,zAH,zz,zAw,zA3,zCQ,zA8,zBG,zBy,zBd,zc,zf,zAC,zAA,zBS,Ql,Qi,Qd,zC3,callS,callF,zBg,addL,delL,outV,outVs,outO,ghA,ghA1,ints,scal,zAJ,zZ];done)|omega|(simp +contextual (disch:=omega)[b1,wkE,wkP,wkPs,wkH,wkO,keysNd,unm,zAd,zAL,dels,zCC,mkS,mkF,zAN,zAF,zAH,zz,zAw,zA3,zCQ,zA8,zBG,zBy,zBd,zc,zf,zAC,zAA,zBS,Ql,Qi,Qd,zC3,callS,callF,zBg,addL,delL,outV,outVs,outO,ghA,ghA1,ints,scal,zAJ,zZ]<;>omega)) (hg:let b1:=a1;wkPs σ.heap (zBj mp base n g) (zCQ mp n g) nx σ.gh gh:=by
 intro b1;first|(simp +contextual (disch:=omega)[b1,wkE,wkP,wkPs,wkH,wkO,keysNd,unm,zAd,zAL,dels,zCC,mkS,mkF,zAN,zAF,zAH,zz,zAw,zA3,zCQ,zA8,zBG,zBy,zBd,zc,zf,zAC,zAA,zBS,Ql,Qi,Qd,zC3,callS,callF,zBg,addL,delL,outV,outVs,outO,ghA,ghA1,ints,scal,zAJ,zZ];done)|omega|(simp +contextual (disch:=omega)[b1,wkE,wkP,wkPs,wkH,wkO,keysNd,unm,zAd,zAL,dels,zCC,mkS,mkF,zAN,zAF,zAH,zz,zAw,zA3,zCQ,zA8,zBG,zBy,zBd,zc,zf,zAC,zAA,zBS,Ql,Qi,Qd,zC3,callS,callF,zBg,addL,delL,outV,outVs,outO,ghA,ghA1,ints,scal,zAJ,zZ]<;>omega)) (hF:let b1:=a1;∀j,j<n->base+j<nx/\unm mp (g j)/\wkO σ.heap (zBj mp base n g) (zCQ mp n g) nx (some (g j)) (F j):=by
 intro b1;first|(simp +contextual (disch:=omega)[b1,wkE,wkP,wkPs,wkH,wkO,keysNd,unm,zAd,zAL,dels,zCC,mkS,mkF,zAN,zAF,zAH,zz,zAw,zA3,zCQ,zA8,zBG,zBy,zBd,zc,zf,zAC,zAA,zBS,Ql,Qi,Qd,zC3,callS,callF,zBg,addL,delL,outV,outVs,outO,ghA,ghA1,ints,scal,zAJ,zZ];done)|omega|(simp +contextual (disch:=omega)[b1,wkE,wkP,wkPs,wkH,wkO,keysNd,unm,zAd,zAL,dels,zCC,mkS,mkF,zAN,zAF,zAH,zz,zAw,zA3,zCQ,zA8,zBG,zBy,zBd,zc,zf,zAC,zAA,zBS,Ql,Qi,Qd,zC3,callS,callF,zBg,addL,delL,outV,outVs,outO,ghA,ghA1,ints,scal,zAJ,zZ]<;>omega)) (hi:let b1:=a1;∀i j,i<n->j<n->g i=g j->i=j:=by
 intro b1;first|(simp +contextual (disch:=omega)[b1,wkE,wkP,wkPs,wkH,wkO,keysNd,unm,zAd,zAL,dels,zCC,mkS,mkF,zAN,zAF,zAH,zz,zAw,zA3,zCQ,zA8,zBG,zBy,zBd,zc,zf,zAC,zAA,zBS,Ql,Qi,Qd,zC3,callS,callF,zBg,addL,delL,outV,outVs,outO,ghA,ghA1,ints,scal,zAJ,zZ];done)|omega|(simp +contextual (disch:=omega)[b1,wkE,wkP,wkPs,wkH,wkO,keysNd,unm,zAd,zAL,dels,zCC,mkS,mkF,zAN,zAF,zAH,zz,zAw,zA3,zCQ,zA8,zBG,zBy,zBd,zc,zf,zAC,zAA,zBS,Ql,Qi,Qd,zC3,callS,callF,zBg,addL,delL,outV,outVs,outO,ghA,ghA1,ints,scal,zAJ,zZ]<;>omega)) (hnt:nt=σ.nt:=by rfl):Wk σ (mkF el hl base n F nx nt gh):=zAO mp g hnt he hh hn hg hF hi
theorem an{A B:Prop}(a:A)(b:B):A/\B:=⟨a,b⟩
theorem fI{f:FuncId}{fn:Func}{c:Code}{args:List AV}{H H':List AObj}{res:AV}(n:Nat)(r:Array ResultVar)(hf:P.funcs[f]? =some fn)(hb:fn.body=some c)(h:awp P c (fun e σ=>zN6 P r.toList res H' e σ/\σ.gh=ghA args) (zC3 args H n))(hn:fn.ntmps=n:=by rfl)(hr:fn.results=r:=by rfl)(hle:args.length<=n:=by simp):FnS P f args H res H':=zKo hf hb (by rw[hn];exact hle) (by rw[hn,hr];exact h)
end
def ints(xs:List Int):T:=.sl 1 (xs.map (.int .i64))
def rows(xss:List (List Int)):T:=.sl 1 (xss.map ints)
theorem zBh(x:Int)(h1: -9223372036854775808<=x)(h2:x<=9223372036854775807):IntKind.i64.wrap x=x:=by rw[IntKind.wrap_i64];omega
theorem wr8(x:Int)(h1:0<=x)(h2:x<=255):IntKind.u8.wrap x=x:=by rw[IntKind.wrap_u8];omega
def zAU(ls:List Nat):ByteArray:=⟨(ls.map fun x=>UInt8.ofNat (97+x)).toArray⟩
theorem zFR(x:Nat)(hx:x<=20):FnA Tryz.prog 129 [.t 2 (.int .i64 x)] (.t 2 (.str (zAU [x]))):=by
 refine fI 8 #[.tmp 2] Tryz.func129 rfl ?_;refine rg0 ?_;refine zO fun K hK=>?_
 simp(maxSteps:=2000000)(disch:=omega)[zBh,wr8,isU8];and_intros<;>try first|apply hK|omega|rfl|simp<;>omega
 refine zI ?_;refine⟨⟨.inr rfl,_,[],rfl,trivial,trivial,by simp,?_⟩,by simp⟩;simp;have:(97+(x:Int)).toNat=97+x:=by omega
 try rw[zBh _ (by omega) (by omega),wr8 _ (by omega) (by omega)]
 simp[zDR,u8n,zAU,this];rfl
theorem zO4(xs ys:List Int)(hx:xs.length<=1000000):FnA Tryz.prog 79 [.t 0 (ints xs),.t 0 (ints ys)] (.t 2 (.bool (decide (xs=ys)))):=by
 refine fI 26 #[.tmp 4] Tryz.func79 rfl ?_;refine rg0 ?_;refine zD ?_;by_cases hl:xs.length=ys.length
 case neg=>
  refine rg0 ?_;refine cT0 ?_;refine rg0 ?_;refine zI ?_;refine⟨⟨.inr rfl,_,[],rfl,trivial,trivial,by simp,?_⟩,by simp⟩;simp;intro h;exact hl (by rw[h])
 refine rg0 ?_;refine cF0 ?_;refine zY ?_;refine zD ?_;refine rg0 ?_;refine zG ?_;refine awp_loop (fun k:Nat=>mkS [(0,.t 0 (ints xs)),(1,.t 0 (ints ys)),(12,.t 2 (.int .i64 xs.length)),(13,.t 2 (.int .i64 k))] [] 0 26 [.any,.any]) (fun k=>k<=xs.length/\ ∀i (h1:i<xs.length) (h2:i<ys.length),i<k->xs[i]=ys[i]) (fun k=>xs.length-k) ?_ ?_
 ·refine⟨0,⟨by omega,fun i h1 h2 h=>by omega⟩,?_⟩;exact kw0 []
 ·intro k hk;obtain⟨hk,hall⟩:=hk;refine rg0 ?_;by_cases hlt:k<xs.length
  ·have hlt2:k<ys.length:=by omega
   refine zD ?_;refine cT1 @hlt ?_;refine zY ?_;refine zD ?_;refine zG ?_;refine rg0 ?_;by_cases he:xs[k]=ys[k]
   ·refine rd1 (an @hlt (an @hlt2 @he)) ?_;refine cY0 ?_;refine rr0 ?_;refine⟨k+1,⟨by omega,fun i h1 h2 h=>?_⟩,by omega,?_⟩
    ·by_cases e:i=k
     ·subst e;exact he
     ·exact hall i h1 h2 (by omega)
    ·exact kw0 []
   ·refine rd1 (an @hlt (an @hlt2 @he)) ?_;refine cT0 ?_;refine rg0 ?_;refine zI ?_;show zN6 _ _ _ _ _ _/\_;refine⟨⟨.inr rfl,_,[],rfl,trivial,trivial,by simp,?_⟩,by simp⟩;simp;intro h;exact he (by simp only[h])
  ·refine zD ?_;refine cF1 @hlt ?_;refine zK ?_;refine rg0 ?_;refine zI ?_;refine⟨⟨.inr rfl,_,[],rfl,trivial,trivial,by simp,?_⟩,by simp⟩;simp;exact List.ext_getElem hl (fun i h1 h2=>hall i h1 h2 (by omega))
def zMH(xss:List (List Int))(f:List Int):Int:=match xss.findIdx? (fun x=>decide (x=f))with
 |some i=>i
 |none=>-1
theorem zSq{xss:List (List Int)}{f:List Int}{k:Nat}(hk:k<xss.length)(he:xss[k]=f)(hn: ∀i (h:i<xss.length),i<k->xss[i]≠f):zMH xss f=k:=by
 unfold zMH;have:xss.findIdx? (fun x=>decide (x=f))=some k:=by
  rw[List.findIdx?_eq_some_iff_getElem];refine⟨hk,by simpa using he,fun j hj=>by simpa using hn j (by omega) hj⟩
 rw[this]
theorem zR9{xss:List (List Int)}{f:List Int}(hn: ∀i (h:i<xss.length),xss[i]≠f):zMH xss f= -1:=by
 unfold zMH;have:xss.findIdx? (fun x=>decide (x=f))=none:=by
  rw[List.findIdx?_eq_none_iff];intro x hx;obtain⟨i,hi,rfl⟩:=Qb hx;simpa using hn i hi
 rw[this]
theorem zJn(xss:List (List Int))(f:List Int)(hx:xss.length<=1000000)(hl: ∀x∈xss,x.length<=1000000):FnA Tryz.prog 98 [.t 0 (rows xss),.t 0 (ints f)] (.t 2 (.int .i64 (zMH xss f))):=by
 refine fI 19 #[.tmp 4] Tryz.func98 rfl ?_;refine rg0 ?_;refine zD ?_;refine rg0 ?_;refine zG ?_;refine awp_loop (fun k:Nat=>mkS [(0,.t 0 (rows xss)),(1,.t 0 (ints f)),(7,.t 2 (.int .i64 xss.length)),(8,.t 2 (.int .i64 k))] [] 0 19 [.any,.any]) (fun k=>k<=xss.length/\ ∀i (h:i<xss.length),i<k->xss[i]≠f) (fun k=>xss.length-k) ?_ ?_
 ·refine⟨0,⟨by omega,fun i h1 h=>by omega⟩,?_⟩;exact kw1 [] @rows.eq_1
 ·intro k hk;obtain⟨hk,hall⟩:=hk;refine rg0 ?_;by_cases hlt:k<xss.length
  ·refine zD ?_;refine cT1 @hlt ?_;refine zY ?_;refine zD ?_;refine zG ?_;refine rg0 ?_;refine zO fun K hK=>?_
   simp(maxSteps:=2000000)(disch:=omega)[ints,hlt]
   (repeat' apply And.intro)
   all_goals (try omega)
   refine zJ (caps:=[]) (zO4 xss[k] f (hl _ (by simp))) [] [] 2 rfl rfl rfl rfl (by kernel_rfl) (by simp) ?_ ?_ ?_ rfl ?_ ?_ (by simp) ?_
   ·simp[ints]
   ·trivial
   ·trivial
   ·trivial
   ·trivial
   simp(maxSteps:=2000000)(disch:=omega)[scal]
   (repeat' first|apply hK|apply And.intro)<;>try first|omega|rfl|(simp<;>omega)
   by_cases he:xss[k]=f
   ·refine cT1 @he ?_;refine rg0 ?_;refine zI ?_;show zN6 _ _ _ _ _ _/\_;refine⟨⟨.inr rfl,_,[],rfl,trivial,trivial,by simp,?_⟩,by simp⟩;simp;exact(zSq hlt he hall).symm
   ·refine cY1 @he ?_;refine rr0 ?_;refine⟨k+1,⟨by omega,fun i h1 h=>?_⟩,by omega,?_⟩
    ·by_cases e:i=k
     ·subst e;exact he
     ·exact hall i h1 (by omega)
    ·exact kw1 [] @rows.eq_1
  ·refine zD ?_;refine cF1 @hlt ?_;refine zK ?_;refine rg0 ?_;refine zI ?_;refine⟨⟨.inr rfl,_,[],rfl,trivial,trivial,by simp,?_⟩,by simp⟩;simp;exact(zR9 (fun i hi=>hall i hi (by omega))).symm
@[simp] theorem zBH{α:Type}{n:Nat}(F:Nat->α){k:Nat}(h:k<(tab n F).length):(tab n F)[k]=F k:=by simp[tab]
theorem ze{α β:Type}(n:Nat)(F:Nat->α)(g:α->β):(tab n F).map g=tab n (fun i=>g (F i)):=by simp[tab,Function.comp_def]
theorem zg{α:Type}{n:Nat}(F:Nat->α)(k:Nat)(x:α):(tab n F).set k x=tab n (fun i=>if i=k then x else F i):=by
 apply List.ext_getElem?;intro i;rw[List.getElem?_set];by_cases hi:i<n
 ·rw[zX _ hi];by_cases e:k=i
  ·subst e;rw[if_pos rfl,if_pos (by simpa using hi),zX _ hi,if_pos rfl]
  ·rw[if_neg e,zX _ hi,if_neg (Ne.symm e)]
 ·rw[Qg (by simp;omega)];by_cases e:k=i
  ·subst e;simp[hi]
  ·rw[if_neg e,Qg (by simp;omega)]
theorem zT{α:Type}{n:Nat}{F G:Nat->α}(h: ∀i,i<n->F i=G i):tab n F=tab n G:=by
 unfold tab;exact List.map_congr_left (fun i hi=>h i (List.mem_range.1 hi))
theorem zr{α:Type}(n:Nat)(x:α):List.replicate n x=tab n (fun _=>x):=by
 apply List.ext_getElem?;intro i;by_cases h:i<n
 ·rw[zX _ h];simp[h]
 ·rw[Qg (by simp;omega),Qg (by simp;omega)]
theorem zBk{α:Type}(n:Nat)(F:Nat->α):tab (n+1) F=tab n F++[F n]:=by simp[tab,List.range_succ]
theorem zJH(n:Nat)(hn:n<=1000000):FnA Tryz.prog 167 [.t 2 (.int .i64 n)] (.t 2 (ints (tab n fun i=>(i:Int)))):=by
 refine fI 18 #[.tmp 2] Tryz.func167 rfl ?_;refine rg0 ?_;refine rg0 ?_;refine zD ?_;refine rg0 ?_;refine zG ?_;refine awp_loop (fun k:Nat=>mkS [(3,.own 0 n),(8,.t 2 (.int .i64 n)),(9,.t 2 (.int .i64 k))] [(0,.row 3 1 2 (tab n fun i=>.int .i64 (if i<k then(i:Int)else 0)))] 1 18 [.any]) (fun k=>k<=n) (fun k=>n-k) ?_ ?_
 ·refine⟨0,by omega,?_⟩;exact kw1 [(0,some 2000000)] @zr
 ·intro k hk;refine rg0 ?_;by_cases hlt:k<n
  ·refine zD ?_;refine cT1 @hlt ?_;refine zY ?_;refine zD ?_;refine zG ?_;refine rg0 ?_;refine rr1 @hlt ?_;refine rr0 ?_;refine⟨k+1,by omega,by omega,?_⟩;refine zP [(0,some 0)] rfl ?_ ?_ ?_ ?_
   all_goals try simp
   rw[zg];refine zT (fun i hi=>?_);by_cases e:i=k
   ·simp[e]
   ·rw[if_neg e];by_cases e2:i<k
    ·rw[if_pos e2,if_pos (by omega)]
    ·rw[if_neg e2,if_neg (by omega)]
  ·refine zD ?_;refine cF1 @hlt ?_;refine zK ?_;refine rg0 ?_;refine zI ?_;refine⟨⟨.inr rfl,_,[],rfl,trivial,trivial,by simp,?_⟩,by simp⟩;simp[ints];rw[ze];exact zT (fun i hi=>by rw[if_pos (by omega)])
theorem zL5(n:Nat)(f:Nat->Nat)(m:Nat)(g:Nat->Int)(hn:n<=1000000)(hf: ∀i,i<n->f i<m):FnA Tryz.prog 168 [.t 0 (ints (tab n fun i=>(f i:Int))),.t 0 (ints (tab m g))] (.t 2 (ints (tab n fun i=>g (f i)))):=by
 refine fI 27 #[.tmp 4] Tryz.func168 rfl ?_;refine rg0 ?_;refine rg0 ?_;refine zD ?_;refine rg0 ?_;refine zG ?_;refine awp_loop (fun k:Nat=>mkS [(1,.t 0 (ints (tab m g))),(5,.own 0 n),(11,.t 0 (ints (tab n fun i=>(f i:Int)))),(12,.t 2 (.int .i64 n)),(13,.t 2 (.int .i64 k))] [(0,.row 3 1 2 (tab n fun i=>.int .i64 (if i<k then g (f i)else 0)))] 1 27 [.any,.any]) (fun k=>k<=n) (fun k=>n-k) ?_ ?_
 ·refine⟨0,by omega,?_⟩;exact kw1 [(0,some 3000000)] @zr
 ·intro k hk;refine rg0 ?_;by_cases hlt:k<n
  ·refine zD ?_;refine cT1 @hlt ?_;refine zY ?_;refine zD ?_;refine zG ?_;refine rg1 (an @hlt @zBH) ?_;have hfk:=hf k hlt;refine rr1 (an @hlt (an @hfk @zBH)) ?_;refine rr0 ?_;refine⟨k+1,by omega,by omega,?_⟩;refine zP [(0,some 0)] rfl ?_ ?_ ?_ ?_
   all_goals try simp[ints]
   rw[zg];refine zT (fun i hi=>?_);by_cases e:i=k
   ·simp[e]
   ·rw[if_neg e];by_cases e2:i<k
    ·rw[if_pos e2,if_pos (by omega)]
    ·rw[if_neg e2,if_neg (by omega)]
  ·refine zD ?_;refine cF1 @hlt ?_;refine zK ?_;refine rg0 ?_;refine zI ?_;refine⟨⟨.inr rfl,_,[],rfl,trivial,trivial,by simp,?_⟩,by simp[ints]⟩;simp[ints];rw[ze];exact zT (fun i hi=>by rw[if_pos (by omega)])
theorem zm{P:Program}{f:FuncId}{fn:Func}{c:Code}{args:List AV}{H H':List AObj}{G:AV->Prop}(hf:P.funcs[f]? =some fn)(hb:fn.body=some c)(hle:args.length<=fn.ntmps)(h:awp P c (fun e σ=>∃res,G res/\zN6 P fn.results.toList res H' e σ/\σ.gh=ghA args) (zC3 args H fn.ntmps)): ∃res,G res/\FnS P f args H res H':=by
 obtain⟨e,σ',h1,res,hG,h2⟩:=h;exact⟨res,hG,zKo hf hb hle ⟨e,σ',h1,h2⟩⟩
theorem zS6(xss:List (List Int))(hn:xss.length<=1000000)(hl: ∀x∈xss,x.length<=1000000):FnA Tryz.prog 166 [.t 0 (rows xss)] (.t 2 (rows xss)):=by
 refine fI 20 #[.tmp 2] Tryz.func166 rfl ?_;refine rg0 ?_;refine rg0 ?_;refine zD ?_;refine rg0 ?_;refine zG ?_;refine awp_loop (fun k:Nat=>mkS [(3,.own 0 k),(6,.t 0 (rows xss)),(7,.t 2 (.int .i64 xss.length)),(8,.t 2 (.int .i64 k))] [(0,.row 22 1 2 ((xss.take k).map ints))] 1 20 [.any]) (fun k=>k<=xss.length) (fun k=>xss.length-k) ?_ ?_
 ·refine⟨0,by omega,?_⟩;exact kw1 [(0,none)] @rows.eq_1
 ·intro k hk;refine rg0 ?_;by_cases hlt:k<xss.length
  ·have hlk:=hl xss[k] (by simp);refine zD ?_;refine cT1 @hlt ?_;refine zY ?_;refine zD ?_;refine zG ?_;refine rg1 @hlt ?_;refine rr1 @hlt ?_;refine rr0 ?_;refine⟨k+1,by omega,by omega,?_⟩;refine zP [(0,some 0)] rfl ?_ ?_ ?_ ?_
   all_goals try simp[rows]
   rw[Qe (by simpa using hlt)];simp[ints]
  ·refine zD ?_;refine cF1 @hlt ?_;refine zK ?_;refine rg0 ?_;refine zI ?_;refine⟨⟨.inr rfl,_,[],rfl,trivial,trivial,by simp,?_⟩,by simp[rows]⟩;simp[rows];have:k=xss.length:=by omega
   subst this;simp;rw[Qm (by simp)]
inductive Tm where
 |mk (op n:Int) (args:List Tm)
instance:Inhabited Tm:=⟨.mk 0 0 []⟩
def Tm.op:Tm->Int
 | .mk o _ _=>o
def Tm.n:Tm->Int
 | .mk _ n _=>n
def Tm.args:Tm->List Tm
 | .mk _ _ a=>a
mutual
def Tm.cells:Tm->List T
 | .mk o n l=>[.int .i64 o,.int .i64 n,.sl 3 (cellsL l)]
def cellsL:List Tm->List T
 |[]=>[]
 |a::r=>a.cells++cellsL r
end
mutual
def Tm.sz:Tm->Nat
 | .mk _ _ l=>1+szL l
def szL:List Tm->Nat
 |[]=>0
 |a::r=>a.sz+szL r
end
theorem Tm.zAt(t:Tm):t.cells=[.int .i64 t.op,.int .i64 t.n,.sl 3 (cellsL t.args)]:=by
 cases t;rfl
@[simp] theorem Tm.zNN(t:Tm):t.cells.length=3:=by rw[Tm.zAt];rfl
@[simp] theorem zMD: ∀l:List Tm,(cellsL l).length=l.length*3
 |[]=>rfl
 |a::r=>by
  show(a.cells++cellsL r).length=_;rw[List.length_append,Tm.zNN,zMD r,List.length_cons];omega
theorem zFw: ∀l r:List Tm,cellsL (l++r)=cellsL l++cellsL r
 |[],r=>rfl
 |a::l,r=>by
  show a.cells++cellsL (l++r)=(a.cells++cellsL l)++cellsL r;rw[zFw l r,List.append_assoc]
theorem zBA: ∀(l:List Tm) (i:Nat) (h:i<l.length),((cellsL l).drop (i*3)).take 3=l[i].cells
 |a::l,0,h=>by
  show((a.cells++cellsL l).drop 0).take 3=a.cells;rw[List.drop_zero];exact List.take_left' (by simp)
 |a::l,i+1,h=>by
  show((a.cells++cellsL l).drop ((i+1)*3)).take 3=(l[i]'(by simpa using h)).cells;rw[show(i+1)*3=a.cells.length+i*3 by simp;omega,List.drop_append];simp only[List.drop_eq_nil_of_le (show a.cells.length<=a.cells.length+i*3 by omega),List.nil_append,Nat.add_sub_cancel_left];exact zBA l i (by simpa using h)
theorem zJ0(t:Tm):t.sz=1+szL t.args:=by cases t;rfl
theorem zPK: ∀{l:List Tm} {a:Tm},a∈l->a.sz<=szL l
 |b::l,a,h=>by
  show a.sz<=b.sz+szL l;rcases List.mem_cons.1 h with rfl|h
  ·omega
  ·have:=zPK h;omega
theorem zJc: ∀l r:List Tm,szL (l++r)=szL l+szL r
 |[],r=>by show szL r=0+szL r;omega
 |a::l,r=>by
  show a.sz+szL (l++r)=(a.sz+szL l)+szL r;rw[zJc l r];omega
theorem zKQ{t a:Tm}(h:a∈t.args):a.sz<t.sz:=by
 have:=zPK h;rw[zJ0 t];omega
theorem zNV(t:Tm):0<t.sz:=by rw[zJ0];omega
def Tm.wf(t:Tm):Bool:=decide ((t.op=1/\t.n=0/\t.args.length=0)\/(t.op=2/\0<=t.n/\t.n<6/\t.args.length=0)\/(t.op=3/\t.n=0/\2<=t.args.length)\/(t.op=4/\ -1<=t.n/\t.n<=9/\t.args.length=1))
mutual
def Tm.ok:Tm->Bool
 | .mk o n l=>Tm.wf (.mk o n l)&&zCO l
def zCO:List Tm->Bool
 |[]=>true
 |a::r=>a.ok&&zCO r
end
theorem ok_eq(t:Tm):t.ok=(t.wf&&zCO t.args):=by cases t;rfl
theorem zKG: ∀l r:List Tm,zCO (l++r)=(zCO l&&zCO r)
 |[],r=>by show zCO r=(true&&zCO r);simp
 |a::l,r=>by
  show(a.ok&&zCO (l++r))=((a.ok&&zCO l)&&zCO r);rw[zKG l r,Bool.and_assoc]
def tmV(p:Nat)(t:Tm):AV:=.agg [.t 2 (.int .i64 t.op),.t 2 (.int .i64 t.n),.t p (.sl 3 (cellsL t.args))]
def Tm.val(t:Tm):Bool:=t.ok&&decide (t.sz<=60)
theorem zG1(t:Tm):FnA Tryz.prog 199 [tmV 0 t] (.t 2 (.bool t.wf)):=by
 obtain⟨o,n,as_⟩:=t;refine fI 59 #[.tmp 2] Tryz.func199 rfl ?_;refine zO fun K hK=>?_
 simp(maxSteps:=2000000)(disch:=omega)[tmV,Tm.op,Tm.n,Tm.args];and_intros<;>try first|apply hK|omega|rfl|simp<;>omega
 refine zD ?_;refine rg0 ?_;refine zG ?_;refine rg0 ?_;by_cases h1:o=1
 ·refine cT1 @h1 ?_;by_cases hn:n=0
  ·refine rg1 @hn ?_
   all_goals (refine zI ?_;refine⟨⟨.inr rfl,_,[],rfl,trivial,trivial,by simp,?_⟩,by simp[tmV,Tm.op,Tm.n,Tm.args,h1,hn]⟩;simp[Tm.wf,Tm.op,Tm.n,Tm.args,h1,hn])
   cases as_<;>simp;omega
  ·have hb:(n==0)=false:=by simpa using hn
   refine rg1 @hb ?_
   all_goals (refine zI ?_;refine⟨⟨.inr rfl,_,[],rfl,trivial,trivial,by simp,?_⟩,by simp[tmV,Tm.op,Tm.n,Tm.args,h1]⟩;simp[Tm.wf,Tm.op,Tm.n,Tm.args,h1,hn])
 refine cF1 @h1 ?_;refine rg0 ?_;by_cases h2:o=2
 ·refine cT1 @h2 ?_;by_cases hn:0<=n
  all_goals by_cases hn2:n<6
  all_goals
   refine rg1 (an @hn @hn2) ?_
   all_goals (refine zI ?_;refine⟨⟨.inr rfl,_,[],rfl,trivial,trivial,by simp,?_⟩,by simp[tmV,Tm.op,Tm.n,Tm.args,h2]⟩;simp[Tm.wf,Tm.op,Tm.n,Tm.args,h2,hn,hn2])
  cases as_<;>simp;omega
 refine cF1 @h2 ?_;refine rg0 ?_;by_cases h3:o=3
 ·refine cT1 @h3 ?_;by_cases hn:n=0
  ·refine rg1 @hn ?_
   all_goals (refine zI ?_;refine⟨⟨.inr rfl,_,[],rfl,trivial,trivial,by simp,?_⟩,by simp[tmV,Tm.op,Tm.n,Tm.args,h3,hn]⟩;simp[Tm.wf,Tm.op,Tm.n,Tm.args,h3,hn])
   omega
  ·have hb:(n==0)=false:=by simpa using hn
   refine rg1 @hb ?_
   all_goals (refine zI ?_;refine⟨⟨.inr rfl,_,[],rfl,trivial,trivial,by simp,?_⟩,by simp[tmV,Tm.op,Tm.n,Tm.args,h3]⟩;simp[Tm.wf,Tm.op,Tm.n,Tm.args,h3,hn])
 refine cF1 @h3 ?_;refine rg0 ?_;by_cases h4:o=4
 ·refine cT1 @h4 ?_;by_cases hn: -1<=n
  all_goals by_cases hn2:n<=9
  all_goals
   refine rg1 (an @hn @hn2) ?_
   all_goals (refine zI ?_;refine⟨⟨.inr rfl,_,[],rfl,trivial,trivial,by simp,?_⟩,by simp[tmV,Tm.op,Tm.n,Tm.args,h4]⟩;simp[Tm.wf,Tm.op,Tm.n,Tm.args,h4,hn,hn2])
  by_cases e:as_.length=1<;>simp[e];omega
 refine cY1 @h4 ?_;refine rg0 ?_;refine zI ?_;refine⟨⟨.inr rfl,_,[],rfl,trivial,trivial,by simp,?_⟩,by simp[tmV,Tm.op,Tm.n,Tm.args]⟩;simp[Tm.wf,Tm.op,Tm.n,Tm.args,h1,h2,h3,h4]
theorem zDf: ∀{l:List Tm},zCO l=true↔ ∀a∈l,a.ok=true
 |[]=>by simp[zCO]
 |a::l=>by
  show(a.ok&&zCO l)=true↔_;rw[Qz,zDf];simp
def zHl(t:Tm)(lim:Int):Int:=if t.ok=true/\(t.sz:Int)<=lim then(t.sz:Int)else lim+1
theorem zSy{l:List Tm}{k:Nat}(h:k<l.length):szL (l.take (k+1))=szL (l.take k)+l[k].sz:=by
 rw[Qe h,zJc];show _+(l[k].sz+0)=_;omega
theorem zTN{l:List Tm}{k:Nat}(h:k<l.length):zCO (l.take (k+1))=(zCO (l.take k)&&l[k].ok):=by
 rw[Qe h,zKG];show _=_;simp[zCO]
theorem zEw(l:List Tm)(k:Nat):szL (l.take k)<=szL l:=by
 have:=zJc (l.take k) (l.drop k);rw[List.take_append_drop]at this;omega
theorem zIS: ∀l:List Tm,l.length<=szL l
 |[]=>Qy _
 |a::l=>by
  have:=zIS l;have:=zNV a;show l.length+1<=a.sz+szL l;omega
def zEL(t:Tm)(k:Nat):Nat:=1+szL (t.args.take k)
theorem zMz{t:Tm}{k:Nat}(h:k<t.args.length):zEL t (k+1)=zEL t k+t.args[k].sz:=by
 unfold zEL;rw[zSy h];omega
theorem zSa(t:Tm)(k:Nat):zEL t k<=t.sz:=by
 unfold zEL;rw[zJ0];have:=zEw t.args k;omega
theorem zKJ(t:Tm):zEL t t.args.length=t.sz:=by
 unfold zEL;rw[List.take_length,zJ0]
theorem zRH: ∀(t:Tm) (lim:Int),0<=lim->lim<=1000000->FnA Tryz.prog 183 [tmV 0 t,.t 2 (.int .i64 lim)] (.t 2 (.int .i64 (zHl t lim))):=by
 intro t
 induction hsz:t.sz using Nat.strongRecOn generalizing t with
 |_ q ih=>
 intro lim hl0 hl1;have hW:=zG1 t;have hszp:=zNV t;refine fI 36 #[.tmp 4] Tryz.func183 rfl ?_;refine rg1 @tmV.eq_1 ?_;refine zD ?_;by_cases hlim:lim<1
 ·have hn:zHl t lim=lim+1:=by unfold zHl;rw[if_neg (by omega)]
  refine rg1 @hlim ?_;refine cT1 @hlim ?_;refine rg0 ?_
  all_goals (refine zI ?_;refine⟨⟨.inr rfl,_,[],rfl,trivial,trivial,by simp,?_⟩,by simp[tmV]⟩;simp[hn])
 by_cases hwf:t.wf=true
 case neg=>
  have hwf':t.wf=false:=by simpa using hwf
  have hok:t.ok=false:=by rw[ok_eq,hwf'];rfl
  have hn:zHl t lim=lim+1:=by unfold zHl;rw[if_neg (by simp[hok])]
  rw[hwf']at hW;refine rc1 hW (an @hlim @tmV.eq_1) ?_;refine cT0 ?_;refine rg0 ?_
  all_goals (refine zI ?_;refine⟨⟨.inr rfl,_,[],rfl,trivial,trivial,by simp,?_⟩,by simp[tmV]⟩;simp[hn])
 rw[hwf]at hW;refine rc1 hW (an @hlim @tmV.eq_1) ?_;refine cS0 ?_;refine rg0 ?_;refine zD ?_;refine rg0 ?_;refine zG ?_;refine awp_loop (fun k:Nat=>mkS [(1,.t 2 (.int .i64 lim)),(5,.t 2 (.int .i64 (zEL t k:Int))),(18,.t 0 (.sl 3 (cellsL t.args))),(19,.t 2 (.int .i64 t.args.length)),(20,.t 2 (.int .i64 k))] [] 0 36 [.any,.any]) (fun k=>k<=t.args.length/\zCO (t.args.take k)=true/\(zEL t k:Int)<=lim) (fun k=>t.args.length-k) ?_ ?_
 ·refine⟨0,⟨by omega,rfl,by simp[zEL,szL];omega⟩,?_⟩;refine zP [] rfl ?_ ?_ ?_ ?_
  all_goals try simp[zEL,szL]
 rintro k ⟨hk,hok,hn1⟩;refine rg0 ?_;refine zD ?_;by_cases hkl:k<t.args.length
 ·obtain⟨a,ha⟩: ∃a,a=t.args[k]:=⟨_,rfl⟩;have hcut:=zBA t.args k hkl;rw[←ha,Tm.zAt]at hcut;have ham:a∈t.args:=by rw[ha];exact List.getElem_mem hkl
  have hlt:=zKQ ham;have hIH:=ih a.sz (by omega) a rfl (lim-(zEL t k:Int)) (by omega) (by omega);have hts:=zMz hkl;have hkb:k<=zEL t k:=by
   have:=zIS (t.args.take k);rw[List.length_take]at this;unfold zEL;omega
  have hto:=zTN hkl;rw[←ha]at hts hto;rw[hok,Bool.true_and]at hto;refine cK1 @hkl ?_;refine zD ?_;refine zG ?_;refine rg1 (an @hcut @hkl) ?_;by_cases hgood:a.ok=true/\(a.sz:Int)<=lim-(zEL t k:Int)
  ·have hnd:zHl a (lim-(zEL t k:Int))=(a.sz:Int):=by unfold zHl;rw[if_pos hgood]
   rw[hnd]at hIH;have hle: ¬lim<(zEL t k:Int)+(a.sz:Int):=by omega
   refine rc1 hIH @tmV.eq_1 ?_;refine rg0 ?_;refine cY1 @hle ?_;refine rr0 ?_;refine⟨k+1,⟨by omega,by rw[hto];exact hgood.1,by omega⟩,by omega,?_⟩;exact kw1 [] @hts
  ·have hnd:zHl a (lim-(zEL t k:Int))=lim-(zEL t k:Int)+1:=by unfold zHl;rw[if_neg hgood]
   have hres:zHl t lim=lim+1:=by
    unfold zHl;rw[if_neg];rintro⟨h1,h2⟩;rw[ok_eq,Qz]at h1;have h3:=zDf.1 h1.2 a ham;have h4:=zSa t (k+1);exact hgood ⟨h3,by omega⟩
   rw[hnd]at hIH;have hgt:lim<(zEL t k:Int)+(lim-(zEL t k:Int)+1):=by omega
   have heq:(zEL t k:Int)+(lim-(zEL t k:Int)+1)=lim+1:=by omega
   refine rc1 hIH @tmV.eq_1 ?_;refine rg0 ?_;refine cT1 @hgt ?_;refine zK ?_;refine rg0 ?_
   all_goals (refine zI ?_;refine⟨⟨.inr rfl,_,[],rfl,trivial,trivial,by simp,?_⟩,by simp[tmV]⟩;simp[hres,heq])
 obtain rfl:k=t.args.length:=by omega
 rw[List.take_length]at hok;have hres:zHl t lim=(zEL t t.args.length:Int):=by
  unfold zHl;rw[if_pos ⟨by rw[ok_eq,hwf,hok];rfl,by rw[←zKJ];exact hn1⟩,zKJ]
 refine cF0 ?_;refine zK ?_;refine rg0 ?_
 all_goals (refine zI ?_;refine⟨⟨.inr rfl,_,[],rfl,trivial,trivial,by simp,?_⟩,by simp[tmV]⟩;simp[hres])
def vTm(t:Tm):Int:=if t.val=true then 0 else 21
theorem zSJ(t:Tm):(60<zHl t 60)=(t.val=false):=by
 apply propext;unfold zHl Tm.val;by_cases h:t.ok=true/\(t.sz:Int)<=60
 ·rw[if_pos h];have h2:t.sz<=60:=by omega
  simp[h.1,h2];omega
 ·rw[if_neg h];have h2: ¬(t.ok=true/\t.sz<=60):=fun h3=>h ⟨h3.1,by omega⟩
  constructor
  ·intro _;by_cases h4:t.ok=true
   ·have: ¬t.sz<=60:=fun h5=>h2 ⟨h4,h5⟩
    simp[this]
   ·simp[h4]
  ·intro _;omega
theorem zEF(t:Tm):FnA Tryz.prog 151 [tmV 0 t] (.t 2 (.int .i64 (vTm t))):=by
 have hN:=zRH t 60 (by omega) (by omega);have h60:=zSJ t;refine fI 6 #[.tmp 2] Tryz.func151 rfl ?_;refine rg1 @tmV.eq_1 ?_;refine zD ?_;refine rc1 hN @tmV.eq_1 ?_;by_cases hv:t.val=true
 ·have h1: ¬60<zHl t 60:=by rw[h60,hv];simp
  refine cS1 @h1 ?_;refine rg0 ?_
  all_goals (refine zI ?_;refine⟨⟨.inr rfl,_,[],rfl,trivial,trivial,by simp,?_⟩,by simp[tmV]⟩;simp[vTm,hv])
 ·have h1:60<zHl t 60:=by rw[h60];simpa using hv
  refine cT1 @h1 ?_;refine rg0 ?_
  all_goals (refine zI ?_;refine⟨⟨.inr rfl,_,[],rfl,trivial,trivial,by simp,?_⟩,by simp[tmV]⟩;simp[vTm,hv])
def idV(p:Nat)(a b:Tm):AV:=.agg [.t 2 (.int .i64 a.op),.t 2 (.int .i64 a.n),.t p (.sl 3 (cellsL a.args)),.t 2 (.int .i64 b.op),.t 2 (.int .i64 b.n),.t p (.sl 3 (cellsL b.args))]
def vId(a b:Tm):Int:=if a.val=true then vTm b else 21
theorem zBa(a b:Tm):FnA Tryz.prog 112 [idV 0 a b] (.t 2 (.int .i64 (vId a b))):=by
 have hA:=zEF a;have hB:=zEF b;refine fI 13 #[.tmp 2] Tryz.func112 rfl ?_;refine rg1 @idV.eq_1 ?_;refine zD ?_;refine rc1 hA @tmV.eq_1 ?_;by_cases hv:a.val=true
 ·have h0:vTm a=0:=by unfold vTm;rw[if_pos hv]
  refine rg1 @h0 ?_;refine cS1 @h0 ?_;refine rc1 hB @tmV.eq_1 ?_
  all_goals (refine zI ?_;refine⟨⟨.inr rfl,_,[],rfl,trivial,trivial,by simp,?_⟩,by simp[idV]⟩;simp[vId,hv])
 ·have h0:vTm a=21:=by unfold vTm;rw[if_neg hv]
  refine rg1 @h0 ?_;refine cT1 @h0 ?_;refine rg0 ?_
  all_goals (refine zI ?_;refine⟨⟨.inr rfl,_,[],rfl,trivial,trivial,by simp,?_⟩,by simp[idV]⟩;simp[vId,hv])
end Go.Proofs.YtjkeafkjjaploaaGreat.M
