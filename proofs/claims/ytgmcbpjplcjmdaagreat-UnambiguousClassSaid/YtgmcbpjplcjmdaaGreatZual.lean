/- Lemmas for the law unambiguousClass. No conditions. -/
import Derived.Test.YtgmcbpjplcjmdaaGreatZuak
import Derived.Test.YtgmcbpjplcjmdaaGreatZuaa
import Derived.StillTailTactics
set_option linter.all false
namespace Go.Proofs.YtgmcbpjplcjmdaaGreat.M
open Go.RowKit
set_option maxRecDepth 100000
set_option maxHeartbeats 32000000

def nrm(f s:Nat):Nat:=bif (s&&&f)==0 then s else s/2^(s&&&f).log2*2^(s&&&f).log2
abbrev Mk:=Nat×Nat×Nat×Nat×Nat
def Mk.s0(k:Mk):Nat:=k.1
def Mk.p0(k:Mk):Nat:=k.2.1
def Mk.s1(k:Mk):Nat:=k.2.2.1
def Mk.p1(k:Mk):Nat:=k.2.2.2.1
def Mk.f(k:Mk):Nat:=k.2.2.2.2
def n0(k:Mk)(s:Nat):Nat:=nrm k.f ((s&&&k.s0)|||(s&&&k.p0)*2)
def n1(k:Mk)(s:Nat):Nat:=nrm k.f ((s&&&k.s1)|||(s&&&k.p1)*2)
def bfs(f g:Nat->Nat):Nat->List Nat->List Nat->Nat->List Nat
 |0,_,done,_=>done
 |_+1,[],done,_=>done
 |n+1,x::todo,done,V=>
  bif V.testBit (f x)then
   bif V.testBit (g x)then bfs f g n todo (x::done) V
   else bfs f g n (g x::todo) (x::done) (V|||2^g x)
  else
   bif (V|||2^f x).testBit (g x)then bfs f g n (f x::todo) (x::done) (V|||2^f x)
   else bfs f g n (g x::f x::todo) (x::done) (V|||2^f x|||2^g x)
def zVV(l:List Nat):Nat:=l.foldl (fun v x=>v|||2^x) 0
def cl(f g:Nat->Nat)(s:Nat)(l:List Nat):Bool:=let V:=zVV l;V.testBit s&&l.all fun x=>V.testBit (f x)&&V.testBit (g x)
def r1(k:Mk):List Nat:=bfs (n0 k) (n1 k) 16 [nrm k.f 1] [] (2^nrm k.f 1)
def q0(k l:Mk)(p:Nat):Nat:=n0 k (p/16)*16+n0 l (p%16)
def q1(k l:Mk)(p:Nat):Nat:=n1 k (p/16)*16+n1 l (p%16)
def r2(k l:Mk):List Nat:=bfs (q0 k l) (q1 k l) 121 [nrm k.f 1*16+nrm l.f 1] [] (2^(nrm k.f 1*16+nrm l.f 1))
def lists(n:Nat):Nat->List (List Nat)
 |0=>[[]]
 |k+1=>(lists n k).flatMap fun l=>(List.range n).map fun x=>x::l
def moT:List Nat->Mo
 |[]=>([],[])
 |[s]=>([s],[])
 |s::a::t=>(s::(moT t).1,a::(moT t).2)
theorem zIS.mo{t:List Nat}(h:zIS t):(moT t).1.length=(moT t).2.length+1/\t.length=2*(moT t).2.length+1:=by
 induction h with
 |one s=>exact⟨rfl,rfl⟩
 |cons s a _ ih=>simp only[moT,List.length_cons];omega
section
variable{n:Nat}{T:Nat->Nat->Nat}{im:Nat->Nat}{L:Nat}{C D:Nat->Nat->Nat}
end
theorem zJN{w:List Nat}{k:Nat}(h:k<w.length)(hx:w[k]<256):zC2 (zAg w) k=(w[k]:Int):=by
 have e:(zAg w)[k]? =some (UInt8.ofNat w[k]):=by
  rw[getElem?_pos _ _ (by rw[zNL];exact h)];congr 1;show(zAg w).data[k]'(by simpa[zAg]using h)=_;simp[zAg]
 unfold zC2;rw[e];simp;omega
theorem zRm{t:List Nat}(h:zIS t): ∀k,(moT t).1[k]? =t[2*k]? /\(moT t).2[k]? =t[2*k+1]?:=by
 induction h with
 |one s=>
  intro k
  cases k with
  |zero=>exact⟨rfl,rfl⟩
  |succ k=>
   rw[show 2*(k+1)=2*k+1+1 by omega];exact⟨by simp[moT],by simp[moT]⟩
 | @cons s a t _ ih=>
  intro k
  cases k with
  |zero=>exact⟨rfl,rfl⟩
  |succ k=>
   obtain⟨i1,i2⟩:=ih k;rw[show 2*(k+1)=2*k+1+1 by omega];exact⟨by simpa[moT]using i1,by simpa[moT]using i2⟩
def zGz(t:List Nat)(i:Nat):List Nat:=tab ((i+1)/2) fun k=>t.getD (2*k) 0
def zGy(t:List Nat)(i:Nat):List Nat:=tab (i/2) fun k=>t.getD (2*k+1) 0
theorem zU5{t:List Nat}(h:zIS t):(zGz t t.length,zGy t t.length)=moT t:=by
 obtain⟨h1,h2⟩:=h.mo;have key:=zRm h;refine Prod.ext (List.ext_getElem (by simp[zGz];omega) fun k k1 k2=>?_) (List.ext_getElem (by simp[zGy];omega) fun k k1 k2=>?_)
 ·have e:=(key k).1;rw[Qj k2]at e;have:(zGz t t.length)[k]=t.getD (2*k) 0:=by simp[zGz,tab]
  rw[this,Qv,←e];rfl
 ·have e:=(key k).2;rw[Qj k2]at e;have:(zGy t t.length)[k]=t.getD (2*k+1) 0:=by simp[zGy,tab]
  rw[this,Qv,←e];rfl
theorem zNE(t:List Nat){i:Nat}(h:i%2=0)(hi:i<t.length):zGz t (i+1)=zGz t i++[t[i]]/\zGy t (i+1)=zGy t i:=by
 obtain⟨k,rfl⟩: ∃k,i=2*k:=⟨i/2,by omega⟩;constructor
 ·unfold zGz;rw[show(2*k+1+1)/2=(2*k+1)/2+1 by omega,zBI];congr 1;rw[show(2*k+1)/2=k by omega];simp[Qv,hi]
 ·unfold zGy;rw[show(2*k+1)/2=2*k/2 by omega]
theorem zM7(t:List Nat){i:Nat}(h:i%2=1)(hi:i<t.length):zGz t (i+1)=zGz t i/\zGy t (i+1)=zGy t i++[t[i]]:=by
 obtain⟨k,rfl⟩: ∃k,i=2*k+1:=⟨i/2,by omega⟩;constructor
 ·unfold zGz;rw[show(2*k+1+1+1)/2=(2*k+1+1)/2 by omega]
 ·unfold zGy;rw[show(2*k+1+1)/2=(2*k+1)/2+1 by omega,zBI];congr 1;rw[show(2*k+1)/2=k by omega];simp[Qv,hi]
theorem zGR{t:List Nat}(h:zIS t)(hb: ∀x∈t,x<256)(hl:t.length<=1000):FnA Tryz.prog 34 [.t 2 (.str (zAg t))] (moV 2 (moT t)):=by
 refine fI 33 #[.cell 2 85] Tryz.func34 rfl ?_;refine rg0 ?_;refine rg0 ?_;refine zA ?_;refine rg0 ?_;refine zB ?_;refine awp_loop (fun y:Nat=>mkS [(0,.t 2 (.str (zAg t))),(2,.ptr 0 0 2),(3,.ptr 1 0 2),(6,.t 2 (.int .i64 t.length)),(7,.t 2 (.int .i64 y))]
   [(0,.box 85 [.any,.any]),(1,.box 85 [.own 2 (zGz t y).length,.own 3 (zGy t y).length]),(2,.row 3 1 2 ((nI (zGz t y)).map (.int .i64))),(3,.row 3 1 2 ((nI (zGy t y)).map (.int .i64)))] 4 33 [.any]) (fun y=>y<=t.length) (fun y=>t.length-y) ?_ ?_
 ·refine⟨0,by omega,?_⟩;exact kw1 [(0,some 0),(1,some 1000000),(2,none),(3,none)] (an @zGz.eq_1 (an @zGy.eq_1 (an @tab.eq_1 @nI.eq_1)))
 intro y hy;refine rg0 ?_;refine zA ?_;by_cases hc:y<t.length
 ·have hx:=hb t[y] (by simp);have e0:=zJN hc hx;have hle:(nI (zGz t y)).length=(zGz t y).length:=by simp
  have hlo:(nI (zGy t y)).length=(zGy t y).length:=by simp
  have q1:(y:Int).tmod 2=((y%2:Nat):Int):=by rw[Int.tmod_eq_emod_of_nonneg (by omega)];omega
  have hev:(zGz t y).length<=1000:=by simp[zGz];omega
  have hod:(zGy t y).length<=1000:=by simp[zGy];omega
  refine cK1 @hc ?_;refine zA ?_;refine zB ?_;refine rg0 ?_;rcases(by omega:y%2=0\/y%2=1)with hp|hp
  ·obtain⟨s1,s2⟩:=zNE t hp hc;refine zF fun K hK=>?_
   simp(maxSteps:=2000000)(disch:=omega)[q1,hp]
   (repeat' first|apply hK|apply And.intro)<;>try first|omega|rfl|(simp<;>omega)
   refine cT0 ?_;refine re1 (an @e0 (an @hc (an @hle @hlo))) ?_;refine rr0 ?_;refine⟨y+1,by omega,by omega,?_⟩;rw[s1,s2];exact kw1 [(0,some 0),(1,some 1),(2,some 2),(3,some 3)] @nI.eq_1
  ·obtain⟨s1,s2⟩:=zM7 t hp hc;refine zF fun K hK=>?_
   simp(maxSteps:=2000000)(disch:=omega)[q1,hp]
   (repeat' first|apply hK|apply And.intro)<;>try first|omega|rfl|(simp<;>omega)
   refine cF0 ?_;refine re1 (an @e0 (an @hc (an @hle @hlo))) ?_;refine rr0 ?_;refine⟨y+1,by omega,by omega,?_⟩;rw[s1,s2];exact kw1 [(0,some 0),(1,some 1),(2,some 2),(3,some 3)] @nI.eq_1
 ·obtain rfl:y=t.length:=by omega
  have hmo:=zU5 h;have m1:(moT t).1=zGz t t.length:=by rw[←hmo]
  have m2:(moT t).2=zGy t t.length:=by rw[←hmo]
  refine cF0 ?_;refine zE ?_;refine rg0 ?_;refine zC ?_;refine⟨⟨.inr rfl,_,[],(by simp;rfl),trivial,trivial,by simp,?_⟩,by simp⟩;simp[ints,moV,m1,m2]
end Go.Proofs.YtgmcbpjplcjmdaaGreat.M

namespace Go.Proofs.YtgmcbpjplcjmdaaGreat.M
open Go.RowKit Go.Shelf Go.Lib Go.Sort

def zFL(x y:Int):Int:=if x<y then -1 else if y<x then 1 else 0
def orZ(a b c:Int):Int:=if a≠0 then a else if b≠0 then b else c
def cmpLs:List Int->List Int->Int
 |[],[]=>0
 |[],_::_=>-1
 |_::_,[]=>1
 |a::r,b::s=>if zFL a b≠0 then zFL a b else cmpLs r s
theorem zIC(x y:Int)(w:World):Calls Tryz.prog 70 #[.int .i64 x,.int .i64 y] w fun e w'=>e= .returned (.int .i64 (zFL x y))/\w'=w:=
 (show Calls Tryz.prog 70 #[.int .i64 x,.int .i64 y] w _ from AnyG.cmp_Compare_int zUm x y w).mono fun e w' ⟨h1,h2⟩=>⟨by rw[h1];unfold Lib.compareInt zFL;rfl,h2⟩
set_option maxHeartbeats 1000000 in
theorem zV0(F:Nat->Int)(b:Nat)(w:World)(hc: ∀j,j<3->w.cell? ⟨b,j,none⟩=some (.int .i64 (F j))):
  Calls Tryz.prog 69 #[.slice (some ⟨b,0,none⟩) 3 3] w fun e w'=>e= .returned (.int .i64 (orZ (F 0) (F 1) (F 2)))/\w'=w:=by
 have HC:=Lib.hid hc;clear hc
 go_enter Tryz.func69,Tryz.ntmps69
 go_wp2
 go_loop [8] (fun i=>∃k:Nat,k<=3/\i= .int .i64 k/\(∀r,r<k->F r=0)) (fun i=>3-(intOf i).toNat)
 case atStart=>exact⟨0,by omega,rfl,by omega⟩
 case round=>
  obtain⟨k,hk,rfl,hr⟩:=hrel;have HR:=Lib.hid hr;clear hr;by_cases hlt:k<3
  ·have hcj:=HC.out k hlt;by_cases hz:F k=0
   ·have hb:(F k !=0)=false:=by simp[hz]
    go_wp2
    go_round
    case rel=>exact⟨k+1,by omega,by go_num,fun r hr=>by
     by_cases e:r=k
     ·subst e;exact hz
     ·exact HR.out r (by omega)⟩
    case measure=>simp[intOf];omega
   ·have hb:(F k !=0)=true:=by simp[hz]
    go_wp2
    go_ret
    refine⟨?_,rfl⟩;have hr:=HR.out;rcases(by omega:k=0\/k=1\/k=2)with rfl|rfl|rfl
    ·simp[orZ,hz]
    ·simp[orZ,hr 0 (by omega),hz]
    ·simp[orZ,hr 0 (by omega),hr 1 (by omega)]
  ·go_wp2
   go_ret
   refine⟨?_,rfl⟩;have hr:=HR.out;simp[orZ,hr 0 (by omega),hr 1 (by omega),hr 2 (by omega)]
theorem zLW{xs ys:List Int}{k:Nat}(h1:k<xs.length)(h2:k<ys.length)(h:cmpLs xs ys=cmpLs (xs.drop k) (ys.drop k)):cmpLs xs ys=if zFL xs[k] ys[k]≠0 then zFL xs[k] ys[k]else cmpLs (xs.drop (k+1)) (ys.drop (k+1)):=by
 rw[h,List.drop_eq_getElem_cons h1,List.drop_eq_getElem_cons h2];rfl
theorem zNq(ys:List Int):cmpLs [] ys=if 0<ys.length then -1 else 0:=by cases ys<;>simp[cmpLs]
theorem zLj{xs:List Int}(h:0<xs.length):cmpLs xs []=1:=by
 cases xs with
 |nil=>simp at h
 |cons a r=>rfl
set_option maxHeartbeats 4000000 in
theorem zTM(p q:Option Addr)(b1 o1 b2 o2:Nat)(xs ys:List Int)(c1 c2:Nat)(w:World)(hp:0<xs.length->p=some ⟨b1,o1,none⟩)(hq:0<ys.length->q=some ⟨b2,o2,none⟩)(hl1:xs.length<=1000000)(hl2:ys.length<=1000000)(hc1: ∀j (h:j<xs.length),w.cell? ⟨b1,o1+j,none⟩=some (.int .i64 xs[j]))(hc2: ∀j (h:j<ys.length),w.cell? ⟨b2,o2+j,none⟩=some (.int .i64 ys[j])):
  Calls Tryz.prog 71 #[.slice p xs.length c1,.slice q ys.length c2] w fun e w'=>e= .returned (.int .i64 (cmpLs xs ys))/\w'=w:=by
 have HC1:=Lib.hid hc1;have HC2:=Lib.hid hc2;have HP:=Lib.hid hp;have HQ:=Lib.hid hq;clear hc1 hc2 hp hq
 go_enter Tryz.func71,Tryz.ntmps71
 go_wp2
 go_loop [11] (fun i=>∃k:Nat,k<=xs.length/\k<=ys.length/\i= .int .i64 k/\cmpLs xs ys=cmpLs (xs.drop k) (ys.drop k)) (fun i=>xs.length-(intOf i).toNat)
 case atStart=>exact⟨0,by omega,by omega,rfl,rfl⟩
 case round=>
  obtain⟨k,hk1,hk2,rfl,hr⟩:=hrel;have HR:=Lib.hid hr;clear hr;by_cases h1:k<xs.length
  ·have hcx:=HC1.out k h1;obtain rfl:=HP.out (by omega);by_cases h2:k<ys.length
   ·have hcy:=HC2.out k h2;obtain rfl:=HQ.out (by omega);have hst:=zLW h1 h2 HR.out;have hcc:=Lib.hid fun W=>zIC xs[k] ys[k] W
    generalize xs[k]=x at*
    generalize ys[k]=y at*
    have hn: ¬(ys.length:Int)<=(k:Int):=by omega
    by_cases hz:zFL x y=0
    ·have hb:(zFL x y !=0)=false:=by simp[hz]
     rw[if_neg (by simp[hz])]at hst
     go_wp2_with fail
     refine(hcc.out _).mono ?_;rintro e w' ⟨rfl,rfl⟩
     go_wp2
     go_round
     case rel=>exact⟨k+1,by omega,by omega,by go_num,hst⟩
     case measure=>simp[intOf];omega
    ·have hb:(zFL x y !=0)=true:=by simp[hz]
     rw[if_pos hz]at hst
     go_wp2_with fail
     refine(hcc.out _).mono ?_;rintro e w' ⟨rfl,rfl⟩
     go_wp2
     go_ret
     exact⟨by simp[hst],rfl⟩
   ·have hst:=HR.out;obtain rfl:k=ys.length:=by omega
    rw[List.drop_length,zLj (by simp;omega)]at hst
    go_wp2
    go_ret
    exact⟨by simp,rfl⟩
  ·have hst:=HR.out;obtain rfl:k=xs.length:=by omega
   rw[List.drop_length,zNq]at hst;by_cases h2:xs.length<ys.length
   ·have h2i:(xs.length:Int)<(ys.length:Int):=by omega
    rw[if_pos (by simp;omega)]at hst
    go_wp2
    go_ret
    exact⟨by simp,rfl⟩
   ·have h2i: ¬(xs.length:Int)<(ys.length:Int):=by omega
    rw[if_neg (by simp;omega)]at hst
    go_wp2
    go_ret
    exact⟨by simp,rfl⟩
def SlR(W:World)(v:Value)(xs:List Int):Prop:=∃(p:Option Addr) (c b o:Nat),v= .slice p xs.length c/\(0<xs.length->p=some ⟨b,o,none⟩)/\ ∀j (h:j<xs.length),W.cell? ⟨b,o+j,none⟩=some (.int .i64 xs[j])
theorem SlR.of{m:Mem}{W:World}{v:Value}{xs:List Int}(h:Rep m v (ints xs))(hm: ∀b o u,m b o=some u->W.cell? ⟨b,o,none⟩=some u):SlR W v xs:=by
 obtain⟨z,hz⟩: ∃z,ints xs=z:=⟨_,rfl⟩;rw[hz]at h;unfold ints at hz
 cases h with
 |nil z=>
  simp only[T.sl.injEq,List.map_eq_nil_iff]at hz;obtain⟨-,rfl⟩:=hz;exact⟨none,0,0,0,rfl,fun h=>absurd h (by simp),fun j h=>absurd h (by simp)⟩
 |emp a z _=>
  simp only[T.sl.injEq,List.map_eq_nil_iff]at hz;obtain⟨-,rfl⟩:=hz;exact⟨some a,0,0,0,rfl,fun h=>absurd h (by simp),fun j h=>absurd h (by simp)⟩
 |sl b o n cap z cs vs _ hn _ _ hc hr=>
  simp only[T.sl.injEq]at hz;obtain⟨rfl,rfl⟩:=hz;have hl:xs.length=n:=by simpa using hn
  subst hl;refine⟨_,cap,b,o,rfl,fun _=>rfl,fun j hj=>?_⟩;have e1:(xs.map (T.int .i64))[j]? =some (.int .i64 xs[j]):=by simp[hj]
  have e2:=hr j _ e1;have e3:=hc j _ e1;generalize vs j=y at e2 e3
  cases e2;exact hm _ _ _ e3
 |_=>cases hz
def zJU(m n:Mo):Int:=orZ (zFL (m.2.length:Int) (n.2.length:Int)) (cmpLs (nI m.2) (nI n.2)) (cmpLs (nI m.1) (nI n.1))
theorem zLe(W:World)(t:TypeId)(x1 x2 y1 y2:Value): ∃W2,W2=(W.alloc (.cells #[x1,x2] t)).alloc (.cells #[y1,y2] t)/\W2=grow W #[.cells #[x1,x2] t,.cells #[y1,y2] t]∧
  W2.cell? ⟨W.heap.size,0,none⟩=some x1/\W2.cell? ⟨W.heap.size,1,none⟩=some x2/\W2.cell? ⟨W.heap.size+1,0,none⟩=some y1/\W2.cell? ⟨W.heap.size+1,1,none⟩=some y2/\ ∀a x,W.cell? a=some x->W2.cell? a=some x:=by
 obtain⟨W1,hW1⟩: ∃W1,W1=W.alloc (.cells #[x1,x2] t):=⟨_,rfl⟩;obtain⟨W2,hW2⟩: ∃W2,W2=W1.alloc (.cells #[y1,y2] t):=⟨_,rfl⟩;have s1:W1.heap.size=W.heap.size+1:=by rw[hW1,World.size_alloc]
 have h0:W1.heap[W.heap.size]? =some (.cells #[x1,x2] t (0,0)):=by rw[hW1];exact heap_alloc_new W _
 have h1:W2.heap[W.heap.size]? =some (.cells #[x1,x2] t (0,0)):=by
  rw[hW2,Below.heap_alloc W1 _ _ (by omega)];exact h0
 have h2:W2.heap[W.heap.size+1]? =some (.cells #[y1,y2] t (0,0)):=by
  rw[←s1,hW2];exact heap_alloc_new W1 _
 have key: ∀(b:Nat) (cs:Array Value) (j:Nat) v,W2.heap[b]? =some (.cells cs t (0,0))->cs[j]? =some v->W2.cell? ⟨b,j,none⟩=some v:=fun b cs j v e1 e2=>by
  unfold World.cell?;simp only[e1];exact e2
 refine⟨W2,by rw[hW2,hW1],?_,key _ _ _ _ h1 rfl,key _ _ _ _ h1 rfl,key _ _ _ _ h2 rfl,key _ _ _ _ h2 rfl,fun a x hx=>?_⟩
 ·rw[hW2,hW1,alloc_eq_grow,alloc_eq_grow,grow_grow];rfl
 ·have hlt:=World.block_lt_of_cell? W _ hx;rw[World.cell?_of_block (w:=W) (w':=W2) (a:=a) (by rw[hW2,Below.heap_alloc W1 _ _ (by omega),hW1,Below.heap_alloc W _ _ hlt])];exact hx
set_option maxRecDepth 100000 in
set_option maxHeartbeats 8000000 in
theorem zMk(m n:Mo)(v1 v2 u1 u2:Value)(W:World)(hm1:SlR W v1 (nI m.1))(hm2:SlR W v2 (nI m.2))(hn1:SlR W u1 (nI n.1))(hn2:SlR W u2 (nI n.2))(lm1:m.1.length<=1000000)(lm2:m.2.length<=1000000)(ln1:n.1.length<=1000000)(ln2:n.2.length<=1000000):
  Calls Tryz.prog 36 #[.agg #[v1,v2],.agg #[u1,u2]] W fun e w'=>e= .returned (.int .i64 (zJU m n))/\ ∃q os',w'=grow (W.drewN q) os':=by
 have he:zJU m n=orZ (zFL ((nI m.2).length:Int) ((nI n.2).length:Int)) (cmpLs (nI m.2) (nI n.2)) (cmpLs (nI m.1) (nI n.1)):=by simp[zJU,nI]
 have lm1:(nI m.1).length<=1000000:=by simpa[nI]using lm1
 have lm2:(nI m.2).length<=1000000:=by simpa[nI]using lm2
 have ln1:(nI n.1).length<=1000000:=by simpa[nI]using ln1
 have ln2:(nI n.2).length<=1000000:=by simpa[nI]using ln2
 rw[he];clear he;generalize nI m.1=a1 at*
 generalize nI m.2=a2 at*
 generalize nI n.1=d1 at*
 generalize nI n.2=d2 at*
 obtain⟨p1,c1,x1,y1,rfl,hm1,hm1c⟩:=hm1;obtain⟨p2,c2,x2,y2,rfl,hm2,hm2c⟩:=hm2;obtain⟨p3,c3,x3,y3,rfl,hn1,hn1c⟩:=hn1;obtain⟨p4,c4,x4,y4,rfl,hn2,hn2c⟩:=hn2;have HM:=Lib.hid (And.intro (And.intro hm1 hm1c) (And.intro (And.intro hm2 hm2c) (And.intro (And.intro hn1 hn1c) (And.intro hn2 hn2c))));clear hm1 hm1c hm2 hm2c hn1 hn1c hn2 hn2c;generalize e1:zFL (a2.length:Int) (d2.length:Int)=r1;generalize e2:cmpLs a2 d2=r2;generalize e3:cmpLs a1 d1=r3;have E1:=Lib.hid e1;have E2:=Lib.hid e2;have E3:=Lib.hid e3;clear e1 e2 e3
 go_enter Tryz.func36,Tryz.ntmps36
 go_upto_region 1 with(fail)
 obtain⟨W2,hW,hg,k1,k2,k4,k5,k7⟩:=zLe W 85 (.slice p1 a1.length c1) (.slice p2 a2.length c2) (.slice p3 d1.length c3) (.slice p4 d2.length c4);rw[←hW];have HG:=Lib.hid hg;obtain⟨⟨hm1,hm1c⟩,⟨hm2,hm2c⟩,⟨hn1,hn1c⟩,hn2,hn2c⟩:=HM.out;have h1:=Lib.hid fun W'=>zIC (a2.length:Int) (d2.length:Int) W'
 have h2:=Lib.hid fun(W':World) (hc: ∀a,W'.cell? a=W2.cell? a)=>zTM p2 p4 x2 y2 x4 y4 a2 d2 c2 c4 W' hm2 hn2 lm2 ln2 (fun j hj=>by rw[hc];exact k7 _ _ (hm2c j hj)) (fun j hj=>by rw[hc];exact k7 _ _ (hn2c j hj))
 have h3:=Lib.hid fun(W':World) (hc: ∀a,W'.cell? a=W2.cell? a)=>zTM p1 p3 x1 y1 x3 y3 a1 d1 c1 c3 W' hm1 hn1 lm1 ln1 (fun j hj=>by rw[hc];exact k7 _ _ (hm1c j hj)) (fun j hj=>by rw[hc];exact k7 _ _ (hn1c j hj))
 clear hm1 hm1c hm2 hm2c hn1 hn1c hn2 hn2c k7 HM lm1 lm2 ln1 ln2;clear hW hg;rw[E1.out]at h1;rw[E2.out]at h2;rw[E3.out]at h3;clear E1 E2 E3;refine wp_region_still_tail 17 (by kernel_rfl) (by kernel_rfl) ?_;simp only[List.take_succ_cons,List.take_zero,List.drop_succ_cons,List.drop_zero]
 repeat still_step
 still_call (h1.out _)
 repeat still_step
 still_call (h2.out _ (fun _=>rfl))
 repeat still_step
 still_call (h3.out _ (fun _=>rfl))
 try refine wpStill_nil ?_
 change wpList _ _ _ _ _ W2.drew;have hor:=fun(W':World) (b:Nat) hc=>zV0 (fun j=>if j=0 then r1 else if j=1 then r2 else r3) b W' hc
 have HOR:=Lib.hid hor;clear hor
 go_wp2_with fail
 refine(HOR.out _ _ (fun j hj=>?_)).mono ?_
 ·have h9:(W2.alloc (Obj.cells #[Value.int IntKind.i64 r1,Value.int IntKind.i64 r2,Value.int IntKind.i64 r3] 3)).heap[W2.heap.size]? =some (Obj.cells #[Value.int IntKind.i64 r1,Value.int IntKind.i64 r2,Value.int IntKind.i64 r3] 3 (0,0)):=heap_alloc_new W2 _;show(W2.alloc (Obj.cells #[Value.int IntKind.i64 r1,Value.int IntKind.i64 r2,Value.int IntKind.i64 r3] 3)).cell? ⟨W2.heap.size,j,none⟩=_;unfold World.cell?;simp only[h9];rcases(by omega:j=0\/j=1\/j=2)with rfl|rfl|rfl<;>rfl
 rintro e w' ⟨rfl,rfl⟩
 go_wp2
 go_ret
 refine⟨rfl,1,#[Obj.cells #[.slice p1 a1.length c1,.slice p2 a2.length c2] 85,Obj.cells #[.slice p3 d1.length c3,.slice p4 d2.length c4] 85]++ #[Obj.cells #[Value.int IntKind.i64 r1,Value.int IntKind.i64 r2,Value.int IntKind.i64 r3] 3],?_⟩;rw[HG.out,alloc_eq_grow,grow_grow];rfl
end Go.Proofs.YtgmcbpjplcjmdaaGreat.M
