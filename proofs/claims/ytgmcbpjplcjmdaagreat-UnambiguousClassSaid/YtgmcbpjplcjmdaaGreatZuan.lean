/- Lemmas for the law unambiguousClass. No conditions. -/
import Derived.Test.YtgmcbpjplcjmdaaGreatZuad
set_option linter.all false
namespace Go.Proofs.YtgmcbpjplcjmdaaGreat.M
open Go.RowKit
set_option maxRecDepth 100000
set_option maxHeartbeats 32000000

def cellH(o:Option AObj)(c:Nat):Option AV:=match o with
 |some (.box _ cs)=>cs[c]?
 |_=>none
def okF:List (Nat×Nat)->(Nat->Option AObj)->(Nat->Option AObj)->Prop
 |[],_,_=>True
 |(k,c)::r,H,H'=>cellH (H' k) c=cellH (H k) c/\okF r H H'
def fixL(P:Program)(S:List Nat)(F:List (Nat×Nat))(op:Op)(ev:Operand->AV):Bool:=match op with
 | .load t x=>match aggB P t,ev x with
  |some false,.ptr id off _=>S.contains id&&F.contains (id,off)
  |_,_=>false
 |_=>false
def zVX(P:Program)(S:List Nat)(F:List (Nat×Nat))(op:Op)(ev:Operand->AV)(tch:List Nat):List Nat:=if(isShO op||fixL P S F op ev)=true then zOp S tch else tch
def KJF(S:List Nat)(F:List (Nat×Nat))(H:Nat->Option AObj)(K:ASt->List Nat×List Nat->Prop)(σ':ASt)(s:List Nat×List Nat):Prop:=(okH S H σ'.heap=true/\okF F H σ'.heap)/\K σ' s
theorem zS3(S:List Nat)(F:List (Nat×Nat))(H:Nat->Option AObj)(K:ASt->List Nat×List Nat->Prop)(σ':ASt)(s:List Nat×List Nat):KJF S F H K σ' s=((okH S H σ'.heap=true/\okF F H σ'.heap)/\K σ' s):=rfl
def awpOpDF(P:Program)(ops:Array Oper)(S:List Nat)(F:List (Nat×Nat))(i:Nat)(o:Oper)(σ:ASt)(K:ASt->List Nat×List Nat->Prop):Prop:=match gd ops σ o with
 |some true=>match aop P i o.op σ.eval σ.heap with
  |some (c,eff)=>c=true/\zAt σ o=true/\(okH S σ.heap (σ.app o.dst eff).heap=true/\okF F σ.heap (σ.app o.dst eff).heap)/\K (σ.app o.dst eff) (zVX P S F o.op σ.eval eff.tch++wrE eff,wrE eff)
  |none=>zCB P ops i o σ (KJF S F σ.heap K)
 |some false=>zAt σ o=true/\(okH S σ.heap σ.heap=true/\okF F σ.heap σ.heap)/\K (σ.app o.dst { val:=.tup [] }) ([],[])
 |none=>False
def zN8(P:Program)(ops:Array Oper)(S:List Nat)(F:List (Nat×Nat))(N:Nat):List Oper->Nat->ASt->List (List Nat×List Nat)->(ASt->Prop)->Prop
 |[],k,σ,sm,K=>zAY ops sm=true/\K { σ with nxt:=N+k }
 |o::r,k,σ,sm,K=>awpOpDF P ops S F (N+k) o σ (fun σ' s=>zN8 P ops S F N r (k+1000000) σ' (sm++[s]) K)
def KDF(P:Program)(ops:Array Oper)(S:List Nat)(F:List (Nat×Nat))(N:Nat)(r:List Oper)(k:Nat)(sm:List (List Nat×List Nat))(K:ASt->Prop):ASt->List Nat×List Nat->Prop:=fun σ s=>zN8 P ops S F N r k σ (sm++[s]) K
theorem zTr(P:Program)(ops:Array Oper)(S:List Nat)(F:List (Nat×Nat))(N:Nat)(r:List Oper)(k:Nat)(sm:List (List Nat×List Nat))(K:ASt->Prop)(σ:ASt)(s:List Nat×List Nat):KDF P ops S F N r k sm K σ s=zN8 P ops S F N r k σ (sm++[s]) K:=rfl
theorem zNt(P:Program)(ops:Array Oper)(S:List Nat)(F:List (Nat×Nat))(N k:Nat)(σ:ASt)(sm:List (List Nat×List Nat))(K:ASt->Prop):zN8 P ops S F N [] k σ sm K=(zAY ops sm=true/\K { σ with nxt:=N+k }):=rfl
theorem zLi(P:Program)(ops:Array Oper)(S:List Nat)(F:List (Nat×Nat))(N k:Nat)(o:Oper)(r:List Oper)(σ:ASt)(sm:List (List Nat×List Nat))(K:ASt->Prop):zN8 P ops S F N (o::r) k σ sm K=awpOpDF P ops S F (N+k) o σ (KDF P ops S F N r (k+1000000) sm K):=rfl
def zVu(ke:List Nat)(l:List Nat):List Nat:=l.filter fun k=>!ke.contains k
attribute [simp] zS3 zNt zLi zTr awpOpDF zVX fixL okF cellH zVu zOp isShO
