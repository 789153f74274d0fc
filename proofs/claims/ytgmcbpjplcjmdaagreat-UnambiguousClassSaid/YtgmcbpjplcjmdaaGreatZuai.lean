/- Lemmas for the law unambiguousClass. No conditions. -/
import Derived.Test.YtgmcbpjplcjmdaaGreatZuah
set_option linter.all false
namespace Go.Proofs.YtgmcbpjplcjmdaaGreat.M
open Go.RowKit
set_option maxRecDepth 100000
set_option maxHeartbeats 32000000

def wc(L most:Nat):Nat:=if most=1 then 1 else 1+L
structure WsI(L most:Nat)(ws:List (List Nat))(i a:Nat):Prop where
 le:i<=ws.length
 len:ws.length=1+L*min i (wc L most)+a
 ln: ∀(j:Nat) w,ws[j]? =some w->w.length=if j=0 then 0 else if j<=L then 1 else 2
 lt: ∀w∈ws,∀x∈w,x<L
 zero:ws[0]? =some []
 cl: ∀(j:Nat) w,j<i->ws[j]? =some w->w.length<most-> ∀x,x<L->w++[x]∈ws
theorem WsI.start{L most:Nat}:WsI L most [[]] 0 0:=
 ⟨by simp,by simp,fun j w h=>by cases j<;>simp at h;subst h;rfl,fun w hw x hx=>by simp at hw;subst hw;simp at hx,rfl,fun j w h=>by omega⟩
def wsT(ws:List (List Nat)):List T:=ws.map fun w=>.str (zAZ w)
theorem zKo:zAZ []=⟨#[]⟩:=rfl
theorem zEM{x:Nat}(hx:x<=20):zBa [T.int IntKind.u8 (97+(x:Int))]=zAZ [x]:=by
 have:(97+(x:Int)).toNat=97+x:=by omega
 simp[zBa,u8n,zAZ,this];rfl
theorem WsI.add{L most:Nat}{ws:List (List Nat)}{i a:Nat}(hL:L=1\/L=2)(hm:most=1\/most=2)(h:WsI L most ws i a){w:List Nat}(hw:ws[i]? =some w)(hl:w.length<most)(ha:a<L):WsI L most (ws++[w++[a]]) i (a+1):=by
 have hil:=(Qq.1 hw).1;have hlen:=h.len;have hwl:=h.ln i w hw;have hic:i<wc L most:=by
  unfold wc;rcases hm with rfl|rfl
  ·by_cases e:i=0
   ·simp[e]
   ·rw[if_neg e]at hwl;split at hwl<;>omega
  ·simp only[show ¬(2=1) by omega,if_false];by_cases e:i=0
   ·omega
   ·rw[if_neg e]at hwl;split at hwl<;>omega
 have hmin:min i (wc L most)=i:=by omega
 rw[hmin]at hlen;refine⟨by simp;omega,by simp[hmin,hlen];omega,fun j u hu=>?_,fun u hu x hx=>?_,by rw[Qw (by omega)];exact h.zero,fun j u hj hu hul x hx=>?_⟩
 ·by_cases hjl:j<ws.length
  ·rw[Qw hjl]at hu;exact h.ln j u hu
  ·have hj2:=(Qq.1 hu).1;simp at hj2;have:j=ws.length:=by omega
   subst this;simp at hu;subst hu;simp only[List.length_append,List.length_cons,List.length_nil];rw[if_neg (by omega)];by_cases e:i=0
   ·subst e;rw[if_pos rfl]at hwl;rw[if_pos (by omega)];omega
   ·rw[if_neg e]at hwl;have hiL:i<=L:=by
     unfold wc at hic;split at hic<;>omega
    rw[if_pos hiL]at hwl;have:L*i≥L:=Nat.le_mul_of_pos_right L (by omega);rw[if_neg (by omega)];omega
 ·rcases List.mem_append.1 hu with hu|hu
  ·exact h.lt u hu x hx
  ·simp at hu;subst hu;simp at hx;rcases hx with hx|rfl
   ·exact h.lt w (Qc hw) x hx
   ·exact ha
 ·rw[Qw (by omega)]at hu;exact List.mem_append_left _ (h.cl j u hj hu hul x hx)
theorem WsI.next{L most:Nat}{ws:List (List Nat)}{i a:Nat}(hL:L=1\/L=2)(hm:most=1\/most=2)(h:WsI L most ws i a){w:List Nat}(hw:ws[i]? =some w)(hex:(¬w.length<most/\a=0)\/(w.length<most/\a=L/\ ∀x,x<L->w++[x]∈ws)):WsI L most ws (i+1) 0:=by
 have hil:=(Qq.1 hw).1;have hlen:=h.len;have hwl:=h.ln i w hw;refine⟨by omega,?_,h.ln,h.lt,h.zero,fun j u hj hu hul x hx=>?_⟩
 ·rw[hlen];unfold wc;rcases hL with rfl|rfl<;>rcases hm with rfl|rfl<;>rcases hex with⟨h1,rfl⟩|⟨h1,rfl,-⟩<;>simp at hwl ⊢ <;>(repeat' split at hwl)<;>omega
 ·by_cases e:j=i
  ·subst e;rw[hw]at hu;injection hu with hu;subst hu;rcases hex with⟨h1,-⟩|⟨-,-,h1⟩
   ·omega
   ·exact h1 x hx
  ·exact h.cl j u (by omega) hu hul x hx
theorem WsI.bound{L most:Nat}{ws:List (List Nat)}{i a:Nat}(hL:L=1\/L=2)(h:WsI L most ws i a)(ha:a<=L):ws.length<=9:=by
 have hlen:=h.len;have:min i (wc L most)<=3:=by
  unfold wc;split<;>omega
 rcases hL with rfl|rfl<;>omega
structure WsG(L most:Nat)(ws:List (List Nat)):Prop where
 len:ws.length<=9
 pos:1<=ws.length
 ln: ∀w∈ws,w.length<=most
 lt: ∀w∈ws,∀x∈w,x<L
 all: ∀w:List Nat,(∀x∈w,x<L)->w.length<=most->w∈ws
theorem WsI.fin{L most:Nat}{ws:List (List Nat)}(hL:L=1\/L=2)(hm:most=1\/most=2)(h:WsI L most ws ws.length 0):WsG L most ws:=by
 have hz:=h.zero;have hz1:=(Qq.1 hz).1;refine⟨h.bound hL (by omega),by omega,fun w hw=>?_,h.lt,fun w=>?_⟩
 ·obtain⟨j,hj,rfl⟩:=Qb hw;have h1:=h.ln j ws[j] (by simp);have hlen:=h.len;unfold wc at hlen;rcases hL with rfl|rfl<;>rcases hm with rfl|rfl<;>simp at hlen h1<;>(repeat' split at h1)<;>omega
 ·induction hn:w.length generalizing w with
  |zero=>
   intro _ _;have:w=[]:=List.eq_nil_of_length_eq_zero hn;subst this;exact Qc hz
  |succ n ih=>
   intro hx hl;obtain⟨u,x,rfl⟩: ∃u x,w=u++[x]:=⟨w.dropLast,w.getLast (by intro e;simp[e]at hn),(List.dropLast_concat_getLast _).symm⟩;simp at hn;have hu:=ih u hn (fun y hy=>hx y (by simp[hy])) (by omega);obtain⟨j,hj,e⟩:=Qb hu;exact h.cl j u hj (by simp[←e]) (by omega) x (hx x (by simp))
theorem zPB(L most:Nat)(hL:L=1\/L=2)(hm:most=1\/most=2): ∃res,(∃ws,WsG L most ws/\res= .t 2 (.sl 1 (wsT ws)))/\FnS Tryz.prog 51 [.t 2 (.int .i64 L),.t 2 (.int .i64 most)] [] res []:=by
 refine zh Tryz.func51 rfl (by simp[Tryz.f51]) ?_;rw[show Tryz.f51.ntmps=43 from rfl,show Tryz.f51.results= #[.tmp 4]from rfl];refine rg0 ?_;refine rg0 ?_;refine zA ?_;refine rg0 ?_;refine zB ?_;refine awp_loop (fun y:Nat×List (List Nat)=>mkS [(0,.t 2 (.int .i64 L)),(1,.t 2 (.int .i64 most)),(5,.own 0 y.2.length),(6,.t 2 (.int .i64 y.1))] [(0,.row 9 1 2 (wsT y.2))] 1 43 [.any,.any]) (fun y=>WsI L most y.2 y.1 0) (fun y=>10-y.1) ?_ ?_
 ·refine⟨(0,[[]]),WsI.start,?_⟩;exact kw1 [(0,some 1000000)] (an @wsT.eq_1 @zKo)
 ·rintro⟨i,ws⟩ hI;simp only at hI;have hb:=hI.bound hL (by omega);refine zA ?_;refine rg1 @wsT.eq_1 ?_;by_cases hil:i<ws.length
  ·refine cK1 @hil ?_;refine zA ?_;refine zB ?_;refine rg0 ?_;refine zB ?_;refine awp_loop (fun y:Nat×List (List Nat)=>mkS [(0,.t 2 (.int .i64 L)),(1,.t 2 (.int .i64 most)),(5,.own 0 y.2.length),(6,.t 2 (.int .i64 i)),(7,.t 2 (.int .i64 y.1))] [(0,.row 9 1 2 (wsT y.2))] 1 43 [.any,.any]) (fun y=>WsI L most y.2 i y.1/\y.2[i]? =some ws[i]/\(y.1=0\/ws[i].length<most)/\y.1<=L/\ ∀x,x<y.1->ws[i]++[x]∈y.2) (fun y=>L-y.1) ?_ ?_
   ·refine⟨(0,ws),⟨hI,by simp,.inl rfl,by simp,fun x hx=>by simp at hx⟩,?_⟩;exact kw1 [(0,some 0)] @wsT.eq_1
   ·rintro⟨a,us⟩ ⟨hJ,hui,hal,haL,hin⟩;simp only at hJ hui hal haL hin;have hbu:=hJ.bound hL (by omega);have hiu:=(Qq.1 hui).1;have hue:=(Qq.1 hui).2;refine zA ?_;by_cases haa:a<L
    ·by_cases hwm:ws[i].length<most
     ·refine rg1 (an @wsT.eq_1 (an @haa (an @hwm (an @hiu @hue)))) ?_;refine cK1 (an @haa @hwm) ?_;refine zA ?_;refine zB ?_;refine zAW (by kernel_rfl) (fun K hK=>?_);simp(maxSteps:=2000000)(disch:=omega)[zBs,wr8,isU8,hiu,hue,zEM (show a<=20 by omega),zAa];and_intros<;>try first|apply hK|(show zAY _ _=true;kernel_rfl)|(show okH _ _ _=true;kernel_rfl)|omega|rfl|simp<;>omega
      refine rr0 ?_;refine⟨(a+1,us++[ws[i]++[a]]),⟨hJ.add hL hm hui hwm haa,by rw[Qw hiu];exact hui,.inr hwm,by omega,fun x hx=>?_⟩,by simp;omega,?_⟩
      ·by_cases e:x=a
       ·subst e;simp
       ·exact List.mem_append_left _ (hin x (by omega))
      ·exact kw1 [(0,some 0)] @wsT.eq_1
     ·refine rg1 (an @wsT.eq_1 (an @haa (an @hwm (an @hiu @hue)))) ?_;refine cF1 (an @haa @hwm) ?_;refine zE ?_;refine rr0 ?_;refine⟨(i+1,us),hJ.next hL hm hui (.inl ⟨hwm,by rcases hal with h|h;exact h;omega⟩),by simp;omega,?_⟩;exact kw1 [(0,some 0)] @wsT.eq_1
    ·refine rg1 (an @wsT.eq_1 @haa) ?_;refine cF1 @haa ?_;refine zE ?_;refine rr0 ?_;refine⟨(i+1,us),hJ.next hL hm hui (.inr ⟨by rcases hal with h|h;omega;exact h,by omega,fun x hx=>hin x (by omega)⟩),by simp;omega,?_⟩;exact kw1 [(0,some 0)] @wsT.eq_1
  ·have hie:i=ws.length:=by have:=hI.le;omega
   refine cF1 @hil ?_;refine zE ?_;refine rg0 ?_;refine zC ?_;subst hie;refine⟨_,⟨ws,hI.fin hL hm,rfl⟩,?_⟩;exact rt1 @wsT.eq_1
theorem zOe(v:List Nat):(zAZ v).extract 1 v.length=zAZ (v.drop 1):=by
 apply ByteArray.ext;simp[zAZ,ByteArray.data_extract];rw[Qn (by simp)]
def cv(p:Nat->Nat):Nat->Nat
 |0=>0
 |k+1=>if p k=cv p k then cv p k+1 else cv p k
def POK(p:Nat->Nat)(n:Nat):Prop:=∀q,q<n->p q<=cv p q
theorem zBJ{p q:Nat->Nat}: ∀{k:Nat},(∀i,i<k->p i=q i)->cv p k=cv q k
 |0,_=>rfl
 |k+1,h=>by
  unfold cv;rw[zBJ (k:=k) (fun i hi=>h i (by omega)),h k (by omega)]
theorem zL8(p:Nat->Nat)(k:Nat):cv p k<=cv p (k+1)/\cv p (k+1)<=cv p k+1:=by
 show cv p k<=(if p k=cv p k then cv p k+1 else cv p k)/\(if p k=cv p k then cv p k+1 else cv p k)<=cv p k+1;split<;>omega
theorem zMs(p:Nat->Nat){a b:Nat}(h:a<=b):cv p a<=cv p b:=by
 induction b with
 |zero=>
      have:a=0:=by omega
      subst this;exact Qy _
 |succ b ih=>
  by_cases e:a=b+1
  ·subst e;exact Qy _
  ·exact Nat.le_trans (ih (by omega)) (zL8 p b).1
theorem zEY(p:Nat->Nat)(k:Nat):cv p k<=k:=by
 induction k with
 |zero=>exact Qy _
 |succ k ih=>have:=(zL8 p k).2;omega
theorem POK.lt{p:Nat->Nat}{n i k:Nat}(h:POK p n)(hi:i<k)(hk:i<n):p i<cv p k:=by
 have h1:=h i hk;have h2:=zMs p (show i+1<=k by omega);have h3:cv p (i+1)=if p i=cv p i then cv p i+1 else cv p i:=rfl
 split at h3<;>omega
theorem zKq{p:Nat->Nat}{c:Nat}: ∀{k:Nat},c<cv p k-> ∃x,x<k/\p x=c
 |0,h=>by simp[cv]at h
 |k+1,h=>by
  have h3:cv p (k+1)=if p k=cv p k then cv p k+1 else cv p k:=rfl
  by_cases hc:c<cv p k
  ·obtain⟨x,h1,h2⟩:=zKq hc;exact⟨x,by omega,h2⟩
  ·split at h3
   ·exact⟨k,by omega,by omega⟩
   ·omega
section
variable{p q:Nat->Nat}{n:Nat}
theorem zSn(hp:POK p n)(hq:POK q n)(hk: ∀i j,i<n->j<n->q i=q j->p i=p j){m:Nat}(hm:m<n)(h:p m=cv p m):q m=cv q m:=by
 have h1:=hq m hm;by_cases e:q m=cv q m
 ·exact e
 ·obtain⟨x,hx,ex⟩:=zKq (p:=q) (c:=q m) (k:=m) (by omega);have h2:=hk x m (by omega) hm ex;have h3:=hp.lt (k:=m) hx (by omega);omega
theorem zRR(hp:POK p n)(hq:POK q n)(hk: ∀i j,i<n->j<n->q i=q j->p i=p j){m:Nat}(hm:m<n):cv p (m+1)+cv q m<=cv q (m+1)+cv p m:=by
 have h1:=zSn hp hq hk hm;have h3:cv p (m+1)=if p m=cv p m then cv p m+1 else cv p m:=rfl
 have h4:cv q (m+1)=if q m=cv q m then cv q m+1 else cv q m:=rfl
 by_cases e:p m=cv p m
 ·rw[if_pos e]at h3;rw[if_pos (h1 e)]at h4;omega
 ·rw[if_neg e]at h3;split at h4<;>omega
theorem zRL(hp:POK p n)(hq:POK q n)(hk: ∀i j,i<n->j<n->q i=q j->p i=p j)(m:Nat): ∀d,m+d<=n->cv p (m+d)+cv q m<=cv q (m+d)+cv p m
 |0,_=>by simp;omega
 |d+1,h=>by
  have a:=zRL hp hq hk m d (by omega);have b:=zRR hp hq hk (m:=m+d) (by omega);rw[←Nat.add_assoc];omega
theorem zIi(hp:POK p n)(hq:POK q n)(hk: ∀i j,i<n->j<n->q i=q j->p i=p j):(∀i,i<n->q i=p i)\/cv p n<cv q n:=by
 by_cases hc:cv p n<cv q n
 ·exact .inr hc
 ·left;have hcnt: ∀m,m<=n->cv p m=cv q m:=fun m hm=>by
   have a:=zRL hp hq hk 0 m (by omega);have b:=zRL hp hq hk m (n-m) (by omega);rw[show m+(n-m)=n by omega]at b;rw[Nat.zero_add]at a;have:cv p 0=0/\cv q 0=0:=⟨rfl,rfl⟩;omega
  intro i
  induction i using Nat.strongRecOn with
  |_ i ih=>
   intro hi;have h1:=hcnt i (by omega);have h2:=hcnt (i+1) (by omega);have h3:cv p (i+1)=if p i=cv p i then cv p i+1 else cv p i:=rfl
   have h4:cv q (i+1)=if q i=cv q i then cv q i+1 else cv q i:=rfl
   by_cases e:q i=cv q i
   ·rw[if_pos e]at h4;split at h3<;>omega
   ·have hqi:=hq i hi;obtain⟨x,hx,ex⟩:=zKq (p:=q) (c:=q i) (k:=i) (by omega);rw[←ex,ih x hx (by omega)];exact hk x i (by omega) hi ex
end
def ixL(x:Int):List Int->Option Nat
 |[]=>none
 |a::r=>if x=a then some 0 else(ixL x r).map (· +1)
def zIR(j:Nat):List Int->List (T×T)
 |[]=>[]
 |a::r=>(.int .i64 a,.int .i64 (j:Int))::zIR (j+1) r
theorem zDV(x:Int): ∀(cl:List Int) (j:Nat),fndT (.int .i64 x) (zIR j cl)=ixL x cl
 |[],j=>rfl
 |a::r,j=>by
  unfold zIR fndT ixL;by_cases e:x=a
  ·simp[kEq,e]
  ·simp[kEq,e,zDV x r (j+1)]
theorem zKm: ∀(cl:List Int) (j:Nat),(zIR j cl).length=cl.length
 |[],j=>rfl
 |a::r,j=>by simp[zIR,zKm r (j+1)]
theorem zJu: ∀(cl:List Int) (j i:Nat) (x:Int),cl[i]? =some x->(zIR j cl)[i]? =some (.int .i64 x,.int .i64 ((j+i:Nat):Int))
 |[],j,i,x,h=>by simp at h
 |a::r,j,i,x,h=>by
  cases i with
  |zero=>simp at h;subst h;simp[zIR]
  |succ i=>
   have:=zJu r (j+1) i x (by simpa using h);simp only[zIR,Ql,this];congr 4;omega
theorem zHQ: ∀(cl:List Int) (j:Nat) (x:Int),zIR j (cl++[x])=zIR j cl++[(.int .i64 x,.int .i64 ((j+cl.length:Nat):Int))]
 |[],j,x=>by simp[zIR]
 |a::r,j,x=>by
  simp only[List.cons_append,zIR,zHQ r (j+1) x,List.length_cons];congr 5;omega
theorem zOW{x:Int}: ∀{cl:List Int} {i:Nat},ixL x cl=some i->cl[i]? =some x
 |[],i,h=>by simp[ixL]at h
 |a::r,i,h=>by
  unfold ixL at h;by_cases e:x=a
  ·rw[if_pos e]at h;injection h with h;subst h;simp[e]
  ·rw[if_neg e]at h
   cases hq:ixL x r with
   |none=>rw[hq]at h;cases h
   |some j=>rw[hq]at h;simp at h;subst h;simpa using zOW hq
theorem zK3{x:Int}: ∀{cl:List Int},ixL x cl=none-> ∀(i:Nat),cl[i]? ≠some x
 |[],_,i=>by simp
 |a::r,h,i=>by
  unfold ixL at h;by_cases e:x=a
  ·rw[if_pos e]at h;cases h
  ·rw[if_neg e]at h;have h2:ixL x r=none:=by
    cases hq:ixL x r with
    |none=>rfl
    |some j=>rw[hq]at h;cases h
   cases i with
   |zero=>simp;exact Ne.symm e
   |succ i=>simpa using zK3 h2 i
@[simp] theorem zU9:mpTy Tryz.prog 209=some (3,3):=by kernel_rfl
@[simp] theorem zVa:mpB Tryz.prog 209=true:=by kernel_rfl
@[simp] theorem zUN:elOf Tryz.prog 209=none:=by kernel_rfl
@[simp] theorem zRc(x:Int):kOK Tryz.prog 3 (.int .i64 x)=true:=by
 show decide (intB Tryz.prog 3=some .i64)=true;kernel_rfl
theorem zEX: ∀(cl:List Int) (j:Nat),((zIR j cl).all fun e=>kOK Tryz.prog 3 e.1)=true
 |[],j=>rfl
 |a::r,j=>by simp[zIR,zEX r (j+1)]
structure NuI(xs:List Int)(cl:List Int)(r:Nat->Nat)(k:Nat):Prop where
 kl:k<=xs.length
 at_: ∀(i:Nat) v,i<k->xs[i]? =some v->cl[r i]? =some v
 nd: ∀(a b:Nat) v,cl[a]? =some v->cl[b]? =some v->a=b
 cnt:cv r k=cl.length
 ok:POK r k
theorem NuI.start{xs:List Int}:NuI xs [] (fun _=>0) 0:=⟨by simp,fun i v h=>by omega,fun a b v h=>by simp at h,rfl,fun q h=>by omega⟩
theorem NuI.hit{xs cl:List Int}{r:Nat->Nat}{k:Nat}(h:NuI xs cl r k)(hk:k<xs.length){j:Nat}(hj:cl[j]? =some xs[k]):NuI xs cl (fun i=>if i=k then j else r i) (k+1):=by
 have e:cv (fun i=>if i=k then j else r i) k=cv r k:=zBJ (fun i hi=>by simp[show i≠k by omega]);have hjl:=(Qq.1 hj).1;have hcnt:=h.cnt;refine⟨by omega,fun i v hi hv=>?_,h.nd,?_,fun q hq=>?_⟩
 ·by_cases eq:i=k
  ·subst eq;rw[Qj hk]at hv;injection hv with hv;simp only[if_true];rw[hj,hv]
  ·simp only[if_neg eq];exact h.at_ i v (by omega) hv
 ·show(if(if k=k then j else r k)=cv _ k then cv _ k+1 else cv _ k)=_;rw[e];simp only[if_true];rw[if_neg (by omega)];exact hcnt
 ·by_cases eq:q=k
  ·subst eq;rw[e];simp only[if_true];omega
  ·rw[zBJ (q:=r) (fun i hi=>by simp[show i≠k by omega])];simp only[if_neg eq];exact h.ok q (by omega)
theorem NuI.zUw{xs cl:List Int}{r:Nat->Nat}{k:Nat}(h:NuI xs cl r k)(hk:k<xs.length)(hn: ∀(i:Nat),cl[i]? ≠some xs[k]):NuI xs (cl++[xs[k]]) (fun i=>if i=k then cl.length else r i) (k+1):=by
 have e:cv (fun i=>if i=k then cl.length else r i) k=cv r k:=zBJ (fun i hi=>by simp[show i≠k by omega]);have hcnt:=h.cnt;have key: ∀(a:Nat) v,(cl++[xs[k]])[a]? =some v->(a<cl.length/\cl[a]? =some v)\/(a=cl.length/\v=xs[k]):=fun a v ha=>by
  by_cases hl:a<cl.length
  ·rw[Qw hl]at ha;exact .inl ⟨hl,ha⟩
  ·have:=(Qq.1 ha).1;simp at this;have e:a=cl.length:=by omega
   subst e;simp at ha;exact .inr ⟨rfl,ha.symm⟩
 refine⟨by omega,fun i v hi hv=>?_,fun a b v ha hb=>?_,?_,fun q hq=>?_⟩
 ·by_cases eq:i=k
  ·subst eq;rw[Qj hk]at hv;injection hv with hv;simp[hv]
  ·simp only[if_neg eq];have:=h.at_ i v (by omega) hv;rw[Qw (Qq.1 this).1];exact this
 ·rcases key a v ha with⟨a1,a2⟩|⟨a1,a2⟩<;>rcases key b v hb with⟨b1,b2⟩|⟨b1,b2⟩
  ·exact h.nd a b v a2 b2
  ·exact absurd (b2▸a2) (hn a)
  ·exact absurd (a2▸b2) (hn b)
  ·omega
 ·show(if(if k=k then cl.length else r k)=cv _ k then cv _ k+1 else cv _ k)=_;rw[e];simp only[if_true];rw[if_pos (by omega)];simp;omega
 ·by_cases eq:q=k
  ·subst eq;rw[e];simp only[if_true];omega
  ·rw[zBJ (q:=r) (fun i hi=>by simp[show i≠k by omega])];simp only[if_neg eq];exact h.ok q (by omega)
def zCM(n:Nat)(r:Nat->Nat):List Int:=tab n fun i=>(r i:Int)
theorem zHp(xs:List Int)(hl:xs.length<=1000000): ∃res,(∃r,POK r xs.length/\(∀(i j:Nat) a b,xs[i]? =some a->xs[j]? =some b->(r i=r j↔a=b))/\res= .t 2 (ints (zCM xs.length r)))/\FnS Tryz.prog 82 [.t 0 (ints xs)] [] res []:=by
 refine zh Tryz.func82 rfl (by simp[Tryz.f82]) ?_;rw[show Tryz.f82.ntmps=39 from rfl,show Tryz.f82.results= #[.tmp 2]from rfl];refine rg0 ?_;refine rg0 ?_;refine rg0 ?_;refine zA ?_;refine rg0 ?_;refine zB ?_;refine awp_loop (fun y:Nat×List Int×(Nat->Nat)=>mkS [(3,.own 0 0),(4,.own 1 xs.length),(13,.t 0 (ints xs)),(14,.t 2 (.int .i64 xs.length)),(15,.t 2 (.int .i64 y.1))] [(0,.map 3 3 (zIR 0 y.2.1)),(1,.row 3 1 2 (tab xs.length fun i=>.int .i64 (if i<y.1 then(y.2.2 i:Int)else 0)))] 2 39 [.any]) (fun y=>NuI xs y.2.1 y.2.2 y.1) (fun y=>xs.length-y.1) ?_ ?_
 ·refine⟨(0,[],fun _=>0),NuI.start,?_⟩;refine zH [(0,some 1000000),(1,some 5000000)] rfl ?_ ?_ ?_ ?_
  all_goals try simp[ints,zz,zIR]
 ·rintro⟨k,cl,r⟩ hI;simp only at hI;have hkl:=hI.kl;have hcl:=zEY r k;rw[hI.cnt]at hcl;refine rg0 ?_;refine zA ?_;by_cases hk:k<xs.length
  ·refine cK1 @hk ?_;refine zA ?_;refine zB ?_;refine rg1 @hk ?_
   cases hx:ixL xs[k] cl with
   |none=>
    refine rg1 (an @zDV (an @hx (an @zEX @zIE))) ?_;refine zA ?_;refine rg0 ?_;refine cT0 ?_;refine rg1 @zKm ?_;refine rr1 (an @zDV (an @hx @zEX)) ?_;refine rr1 @hk ?_;refine rr0 ?_;refine⟨(k+1,cl++[xs[k]],fun i=>if i=k then cl.length else r i),hI.zUw hk (zK3 hx),by simp;omega,?_⟩;refine zH [(0,some 0),(1,some 1)] rfl ?_ ?_ ?_ ?_
    all_goals try simp[ints,zHQ,zb]
    refine zK (fun i hi=>?_);by_cases e:i=k
    ·simp[e]
    ·simp[e,show i<k+1↔i<k by omega]
   |some j=>
    have hj:=zOW hx;have hje:=zJu cl 0 j _ hj;refine rg1 (an @zDV (an @hx (an @zEX (an @zIE @hje)))) ?_;refine zA ?_;refine rg0 ?_;refine cS0 ?_;refine rr1 @hk ?_;refine rr0 ?_;refine⟨(k+1,cl,fun i=>if i=k then j else r i),hI.hit hk hj,by simp;omega,?_⟩;refine zH [(0,some 0),(1,some 1)] rfl ?_ ?_ ?_ ?_
    all_goals try simp[ints,zb]
    refine zK (fun i hi=>?_);by_cases e:i=k
    ·simp[e]
    ·simp[e,show i<k+1↔i<k by omega]
  ·have hke:k=xs.length:=by omega
   refine cF1 @hk ?_;refine zE ?_;refine rg0 ?_;refine zC ?_;subst hke;refine⟨_,⟨r,hI.ok,fun i j a b hi hj=>⟨fun e=>?_,fun e=>?_⟩,rfl⟩,?_⟩
   ·have h1:=hI.at_ i a (Qq.1 hi).1 hi;have h2:=hI.at_ j b (Qq.1 hj).1 hj;rw[e,h2]at h1;injection h1 with h1;exact h1.symm
   ·have h1:=hI.at_ i a (Qq.1 hi).1 hi;have h2:=hI.at_ j b (Qq.1 hj).1 hj;subst e;exact hI.nd _ _ _ h1 h2
   ·refine⟨⟨.inr rfl,_,[],rfl,trivial,trivial,by simp,?_⟩,by simp[ints]⟩;simp[zCM,ints,zT];exact zK (fun i hi=>by rw[if_pos hi])
