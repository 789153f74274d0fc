/- Lemmas for the law AperiodicMember. No conditions. -/
import Derived.Test.YtjkeafkjjaploaaGreatZqao
import Derived.Test.YtjkeafkjjaploaaGreatZqaq
set_option linter.all false
namespace Go.Proofs.YtjkeafkjjaploaaGreat.M
open Go.RowKit
set_option maxRecDepth 100000
set_option maxHeartbeats 32000000

def zHN(n:Nat)(nx:List (List Int))(x q j:Nat):List Int:=if j<x then lets n nx j else if j=x then(lets n nx x).take q else []
theorem zPM(n:Nat)(nx:List (List Int))(j:Nat):zHN n nx 0 0 j=[]:=by
 unfold zHN;rw[if_neg (by omega)];split<;>simp
@[simp] theorem zVj(n:Nat)(nx:List (List Int))(x:Nat):(lets n nx x).length=n:=by simp[lets]
theorem zOb(n:Nat)(nx:List (List Int))(x j:Nat):zHN n nx x n j=zHN n nx (x+1) 0 j:=by
 unfold zHN;by_cases h:j<x
 ·rw[if_pos h,if_pos (by omega)]
 ·rw[if_neg h];by_cases e:j=x
  ·subst e;rw[if_pos rfl,if_pos (by omega),Qm (by simp)]
  ·rw[if_neg e,if_neg (by omega)];split<;>simp
theorem zOy(n:Nat)(nx:List (List Int)){L j:Nat}(h:j<L):zHN n nx L 0 j=lets n nx j:=by
 unfold zHN;rw[if_pos h]
theorem zQi{n:Nat}(nx:List (List Int))(x:Nat){q:Nat}(hq:q<=n)(j:Nat):(zHN n nx x q j).length<=n:=by
 unfold zHN;split
 ·simp
 ·split<;>simp<;>omega
theorem zKp{n:Nat}(nx:List (List Int))(x:Nat){q:Nat}(hq:q<n)(j:Nat):zHN n nx x (q+1) j=if j=x then zHN n nx x q j++[(zb nx q x:Int)]else zHN n nx x q j:=by
 unfold zHN;by_cases e:j=x
 ·subst e;rw[if_neg (by omega),if_pos rfl,if_pos rfl,if_neg (by omega),if_pos rfl];have hl:q<(lets n nx j).length:=by simpa using hq
  rw[Qe hl];simp[lets,zBH]
 ·simp only[if_neg e]
def zMN(L s:Nat)(bs:List Bool)(nxt:List (List Int)):AObj:=.box 56 [.t 2 (.int .i64 L),.t 2 (.int .i64 s),.t 1 (zH bs),.t 1 (rows nxt)]
def syO(L n:Nat)(bs:List Bool)(nx:List (List Int)):AObj:=.box 151 [.t 1 (rows (tab L (lets n nx))),.t 1 (.sl 3 [.int .i64 0,zH bs,.int .i64 0]),.t 2 (.int .i64 n)]
def syZ:AObj:=.box 151 [.t 1 (.sl 0 []),.t 1 (.sl 0 []),.t 2 (.int .i64 0)]
theorem zTO{L n:Nat}{bs:List Bool}{nx:List (List Int)}(h:DfL L n 0 bs nx)(hL:1<=L)(hL2:L<=6)(hn:n<=32):FnS Tryz.prog 102 [.ptr 0 0 3,dfT 1 L 0 bs nx] [syZ] (.t 2 (.int .i64 0)) [syO L n bs nx]:=by
 have hnl:=h.nl;have hbl:=h.bl;have c1: ¬32<(n:Int):=by omega
 refine fI 102 #[.tmp 4] Tryz.func102 rfl ?_;refine rg1 (an @syZ.eq_1 (an @dfT.eq_1 @zH.eq_1)) ?_;refine rg1 @hbl ?_;refine zD ?_;refine rg1 @c1 ?_;refine cS0 ?_;refine zD ?_;refine rg0 ?_;refine cT0 ?_;refine rr0 ?_;refine zD ?_;refine rg0 ?_;refine zG ?_;refine awp_loop (fun x:Nat=>mkF [(0,.ptr 0 0 3),(3,.ptr 2 0 4),(5,.t 2 (.int .i64 n)),(33,.t 2 (.int .i64 L)),(34,.t 2 (.int .i64 x))]
   [(0,.box 151 [.own 1 L,.t 1 (.sl 0 []),.t 2 (.int .i64 0)]),(1,.vec 22 1 2 (tab L fun j=>.own (100+j) (zHN n nx x 0 j).length)),(2,zMN L 0 bs nx)] 100 L (fun j=>.row 3 1 2 ((zHN n nx x 0 j).map (.int .i64))) 1000 102 [.ptr 0 0 3,.any])
  (fun x=>x<=L) (fun x=>L-x) ?_ ?_
 ·refine⟨0,by omega,?_⟩;refine zSB [(0,some 0),(1,some 21000001),(2,some 1)] rfl ?_ ?_ ?_ ?_ ?_
  all_goals try simp +contextual (disch:=omega)[zc,zf,zAC,zAA,zBS,Qi,Qd,zZ,rows,zH,zMN,zr,ze,zTX,zPM]
  all_goals (try omega)
 intro x hx;refine rg0 ?_;refine zD ?_;by_cases hxL:x<L
 ·refine cK1 @hxL ?_;refine zD ?_;refine zG ?_;refine rg0 ?_;refine rg0 ?_;refine zG ?_;refine awp_loop (fun q:Nat=>mkF [(0,.ptr 0 0 3),(3,.ptr 2 0 4),(5,.t 2 (.int .i64 n)),(6,.t 2 (.int .i64 x)),(33,.t 2 (.int .i64 L)),(34,.t 2 (.int .i64 x)),(37,.t 2 (.int .i64 n)),(38,.t 2 (.int .i64 q))]
    [(0,.box 151 [.own 1 L,.t 1 (.sl 0 []),.t 2 (.int .i64 0)]),(1,.vec 22 1 2 (tab L fun j=>.own (100+j) (zHN n nx x q j).length)),(2,zMN L 0 bs nx)] 100 L (fun j=>.row 3 1 2 ((zHN n nx x q j).map (.int .i64))) 1000 102 [.ptr 0 0 3,.any])
   (fun q=>q<=n) (fun q=>n-q) ?_ ?_
  ·refine⟨0,by omega,?_⟩;exact kf1 [(0,some 0),(1,some 1),(2,some 2)] (fun j=>100+j) (an @rows.eq_1 @zMN.eq_1)
  intro q hq;refine rg0 ?_;refine zD ?_;by_cases hqn:q<n
  ·obtain⟨s1,s2,s3,s4⟩:=h.rt.step hqn hxL;have hqx:q<nx.length:=by omega
   have hlen:=zQi nx x hq;have hlx:=hlen x;have hw:IntKind.i64.wrap (0+(zb nx q x:Int))=zb nx q x:=by rw[Int.zero_add];exact zBh _ (by omega) (by omega)
   refine cK1 @hqn ?_;refine zD ?_;refine zG ?_;refine rg0 ?_;refine zAW (by kernel_rfl) (fun K hK=>?_);simp(maxSteps:=2000000)(disch:=omega)[ints,rows,zBh,zMN,rows,hqx,s3,s4,hxL,zg,zf,zc]
   (repeat' first|apply hK|apply And.intro)<;>try first|(show zAf _ _=true;(rcases(by omega:x=0\/x=1\/x=2\/x=3\/x=4\/x=5)with rfl|rfl|rfl|rfl|rfl|rfl)<;>kernel_rfl)|(show okH _ _ _=true;kernel_rfl)|omega|rfl|(simp<;>omega)
   refine rr0 ?_;refine⟨q+1,by omega,by omega,?_⟩;refine zAO [(0,some 0),(1,some 1),(2,some 2)] (fun j=>100+j) rfl ?_ ?_ ?_ ?_ ?_ ?_
   all_goals try simp +contextual (disch:=omega)[zc,zf,zAC,zAA,zBS,zZ,rows,zMN]
   all_goals (try omega)
   ·intro j hj;rw[zKp nx x hqn];by_cases e:j=x
    ·subst e;simp +contextual (disch:=omega)[zBS]
    ·simp +contextual (disch:=omega)[zBS,e]
   ·intro j hj;rw[zKp nx x hqn];by_cases e:j=x
    ·subst e;simp +contextual (disch:=omega)
    ·simp +contextual (disch:=omega)[e,zFo (show 100+j≠100+x by omega)]
  ·obtain rfl:q=n:=by omega
   refine cF0 ?_;refine zK ?_;refine rr0 ?_;refine⟨x+1,by omega,by omega,?_⟩;exact kf1 [(0,some 0),(1,some 1),(2,some 2)] (fun j=>100+j) (an @rows.eq_1 (an @zMN.eq_1 @zOb))
 ·obtain rfl:x=L:=by omega
  refine cF0 ?_;refine zK ?_;refine zd (σ':=mkS [(0,.ptr 0 0 3),(3,.ptr 2 0 4),(5,.t 2 (.int .i64 n))]
   [(0,.box 151 [.own 1 x,.t 1 (.sl 0 []),.t 2 (.int .i64 0)]),(1,.row 22 1 2 (tab x fun j=>ints (lets n nx j))),(2,zMN x 0 bs nx)] 3 102 [.ptr 0 0 3,.any]) ?_ ?_
  ·refine zP [(0,some 0),(1,some 1),(2,some 2)] rfl ?_ ?_ ?_ ?_
   all_goals try simp[ints,rows,zH,zMN,zC8,wk1]
   intro j hj;have hcf:=zOy n nx hj;simp +contextual (disch:=omega)[zAC,hcf]
  have hrow:T.sl 1 (tab x fun j=>ints (lets n nx j))=rows (tab x (lets n nx)):=by
   unfold rows;rw[ze]
  refine rd1 @zMN.eq_1 ?_;refine rg0 ?_;refine rg0 ?_;refine zI ?_;refine⟨⟨.inr rfl,_,[(0,some 0)],(by first|rfl|(simp[ints,rows,scal,tpO,syO,dfT,zMN];rfl)),?_,?_,?_,?_⟩,?_⟩
  all_goals try simp[rows,syO,dfT]
  refine⟨by rw[ze];rfl,zEi _⟩
theorem zM6(xs:List Int)(v:Int)(hl:xs.length<=100000): ∃res,(∃r:Int,(0<=r↔v∈xs)/\res= .t 2 (.int .i64 r))/\FnS Tryz.prog 174 [.t 0 (ints xs),.t 2 (.int .i64 v)] [] res []:=by
 refine zm Tryz.func174 rfl (by simp[Tryz.f174]) ?_;rw[show Tryz.f174.ntmps=19 from rfl,show Tryz.f174.results= #[.tmp 4]from rfl];refine rg0 ?_;refine zD ?_;refine rg0 ?_;refine zG ?_;refine awp_loop (fun k:Nat=>mkS [(0,.t 0 (ints xs)),(1,.t 2 (.int .i64 v)),(7,.t 2 (.int .i64 xs.length)),(8,.t 2 (.int .i64 k))] [] 0 19 [.any,.any]) (fun k=>k<=xs.length/\ ∀j (h:j<xs.length),j<k->xs[j]≠v) (fun k=>xs.length-k) ?_ ?_
 ·refine⟨0,⟨by omega,fun j h hj=>by omega⟩,?_⟩;exact kw0 []
 rintro k ⟨hk,hno⟩;refine rg0 ?_;refine zD ?_;by_cases hlt:k<xs.length
 ·refine cK1 @hlt ?_;refine zD ?_;refine zG ?_;refine rg0 ?_;by_cases e:v=xs[k]
  ·refine rg1 (an @hlt @e) ?_;refine cT0 ?_;refine rg0 ?_;refine zI ?_;refine⟨_,⟨(k:Int),⟨fun _=>by rw[e];simp,fun _=>by omega⟩,rfl⟩,?_⟩;exact rt0
  ·have e2:(v==xs[k])=false:=by simpa using e
   refine rg1 (an @hlt @e2) ?_;refine cY0 ?_;refine rr0 ?_;refine⟨k+1,⟨by omega,fun j h hj=>?_⟩,by omega,?_⟩
   ·by_cases c:j=k
    ·subst c;exact fun g=>e g.symm
    ·exact hno j h (by omega)
   exact kw0 []
 ·have hnm:v∉xs:=fun h=>by
   obtain⟨i,hi,he⟩:=Qb h;exact hno i hi (by omega) he
  refine cF1 @hlt ?_;refine zK ?_;refine rg0 ?_;refine zI ?_;refine⟨_,⟨-1,⟨fun h=>by omega,fun h=>absurd h hnm⟩,rfl⟩,?_⟩;exact rt0
theorem zQZ(xs:List Int)(v:Int)(hl:xs.length<=100000): ∃r:Int,(0<=r↔v∈xs)/\FnA Tryz.prog 174 [.t 0 (ints xs),.t 2 (.int .i64 v)] (.t 2 (.int .i64 r)):=by
 obtain⟨_,⟨r,h1,rfl⟩,h2⟩:=zM6 xs v hl;exact⟨r,h1,h2⟩
theorem zJJ(xs:List Int)(v:Int)(hl:xs.length<=100000):FnA Tryz.prog 135 [.t 0 (ints xs),.t 2 (.int .i64 v)] (.t 2 (.bool (decide (v∈xs)))):=by
 obtain⟨r,hr,hidx⟩:=zQZ xs v hl;have hd:decide (0<=r)=decide (v∈xs):=by simp only[hr]
 refine fI 9 #[.tmp 4] Tryz.func135 rfl ?_;refine rg0 ?_;refine rc0 hidx ?_;exact zI (rt1 @hd)
theorem zLn{n:Nat}{bs:List Bool}{f:List Int}(hb:bs.length=n)(hf:TrN n f)(hn:1<=n)(hn2:n<=1000):FnA Tryz.prog 136 [.agg [.t 2 (.int .i64 0),.t 0 (zH bs),.t 2 (.int .i64 0)],.t 0 (ints f)] (.t 2 (.bool (bs.getD (f.getD 0 0).toNat false))):=by
 have h0:0<f.length:=by rw[hf.1];omega
 obtain⟨v1,v2⟩:=hf.2 f[0] (by simp);obtain⟨m,hm⟩: ∃m:Nat,f[0]=(m:Int):=⟨f[0].toNat,by omega⟩;have hml:m<bs.length:=by omega
 have e1:(f.getD 0 0).toNat=m:=by rw[Qv,Qj h0,Qd,hm];rfl
 have e2:bs.getD m false=bs[m]:=by rw[Qv,Qj hml];rfl
 rw[e1,e2];refine fI 17 #[.tmp 4] Tryz.func136 rfl ?_;refine rg1 @zH.eq_1 ?_;refine rd1 (an @h0 (an @hm (an @hml @Int.sub_zero))) ?_;exact zI rt0
def wdC(N:Nat)(wds:List (List Nat))(k:Nat):List T:=tab N fun j=>.str (if j<k then zAU (wds.getD j [])else zAU [])
@[simp] theorem zWJ(N:Nat)(wds:List (List Nat))(k:Nat):(wdC N wds k).length=N:=by simp[wdC]
theorem zS2{N:Nat}{wds:List (List Nat)}{k:Nat}{w:List Nat}(h:wds[k]? =some w):(wdC N wds k).set k (.str (zAU w))=wdC N wds (k+1):=by
 unfold wdC;rw[zg];refine zT fun i hi=>?_
 by_cases c:i=k
 ·subst c;rw[if_pos rfl,if_pos (by omega),Qv,h];rfl
 ·rw[if_neg c];by_cases c2:i<k
  ·rw[if_pos c2,if_pos (by omega)]
  ·rw[if_neg c2,if_neg (by omega)]
theorem zUM{N:Nat}{wds:List (List Nat)}{k p:Nat}{u:List Nat}(hp:p<k)(hN:p<N)(h:wds[p]? =some u):(wdC N wds k)[p]? =some (.str (zAU u)):=by
 unfold wdC;rw[zX _ hN,if_pos hp,Qv,h];rfl
theorem zQO{N:Nat}{wds:List (List Nat)}(h:N=wds.length):wdC N wds N=wsT wds:=by
 apply List.ext_getElem?;intro i;by_cases hi:i<N
 ·unfold wdC wsT;rw[zX _ hi,if_pos hi,Qh,Qv,Qj (by omega)];rfl
 ·rw[Qg (by simp;omega),Qg (by simp;omega)]
theorem zTI{N:Nat}{wds:List (List Nat)}(h:wds[0]? =some []):(tab N fun _=>T.str ⟨#[]⟩)=wdC N wds 1:=by
 unfold wdC;refine zT fun i hi=>?_
 by_cases c:i<1
 ·obtain rfl:i=0:=by omega
  rw[if_pos c,Qv,h];rfl
 ·rw[if_neg c];rfl
def psC(N k:Nat)(b:Bool):List T:=tab N fun j=>.bool (if j=0 then b else decide (j<k))
@[simp] theorem zWg(N k:Nat)(b:Bool):(psC N k b).length=N:=by simp[psC]
theorem zSX(N:Nat):(tab N fun _=>T.bool false)=psC N 1 false:=by
 unfold psC;refine zT fun i hi=>?_
 by_cases c:i=0
 ·rw[if_pos c]
 ·rw[if_neg c,show decide (i<1)=false by simp;omega]
theorem zSV{N k:Nat}{b:Bool}(h:0<k):(psC N k b).set k (.bool true)=psC N (k+1) b:=by
 unfold psC;rw[zg];refine zT fun i hi=>?_
 by_cases c:i=k
 ·subst c;rw[if_pos rfl,if_neg (by omega),show decide (i<i+1)=true by simp]
 ·rw[if_neg c];by_cases c2:i=0
  ·rw[if_pos c2,if_pos c2]
  ·rw[if_neg c2,if_neg c2];congr 2;apply propext;omega
theorem zKu(N k:Nat)(b c:Bool):(psC N k b).set 0 (.bool c)=psC N k c:=by
 unfold psC;rw[zg];refine zT fun i hi=>?_
 by_cases e:i=0
 ·rw[if_pos e,if_pos e]
 ·rw[if_neg e,if_neg e,if_neg e]
theorem zSE{N k:Nat}{b:Bool}(h:0<N):(psC N k b)[0]? =some (.bool b):=by
 unfold psC;rw[zX _ h,if_pos rfl]
def zR3(right:List (List Int))(wds:List (List Nat))(N i:Nat):List Int:=tab N fun y=>(zj right i (wds.getD y []):Int)
def rpC(right:List (List Int))(wds:List (List Nat))(N i k:Nat):List T:=tab N fun y=>.int .i64 (if y<k then(zj right i (wds.getD y []):Int)else 0)
@[simp] theorem zV5(right:List (List Int))(wds:List (List Nat))(N i k:Nat):(rpC right wds N i k).length=N:=by simp[rpC]
@[simp] theorem zVe(right:List (List Int))(wds:List (List Nat))(N i:Nat):(zR3 right wds N i).length=N:=by simp[zR3]
theorem zTV{right:List (List Int)}{wds:List (List Nat)}{N i:Nat}(h:wds[0]? =some []):(tab N fun _=>T.int .i64 0).set 0 (.int .i64 (i:Int))=rpC right wds N i 1:=by
 unfold rpC;rw[zg];refine zT fun y hy=>?_
 by_cases c:y=0
 ·subst c;rw[if_pos rfl,if_pos (by omega),Qv,h];rfl
 ·rw[if_neg c,if_neg (by omega)]
theorem zUR{right:List (List Int)}{wds:List (List Nat)}{N i k p:Nat}{u:List Nat}(hp:p<k)(hN:p<N)(h:wds[p]? =some u):(rpC right wds N i k)[p]? =some (.int .i64 (zj right i u:Nat)):=by
 unfold rpC;rw[zX _ hN,if_pos hp,Qv,h];rfl
theorem zTq{right:List (List Int)}{wds:List (List Nat)}{N i k x:Nat}{u:List Nat}(h:wds[k]? =some (u++[x])):(rpC right wds N i k).set k (.int .i64 (zb right (zj right i u) x:Nat))=rpC right wds N i (k+1):=by
 unfold rpC;rw[zg];refine zT fun y hy=>?_
 by_cases c:y=k
 ·subst c;rw[if_pos rfl,if_pos (by omega),Qv,h];simp[zj]
 ·rw[if_neg c];by_cases c2:y<k
  ·rw[if_pos c2,if_pos (by omega)]
  ·rw[if_neg c2,if_neg (by omega)]
theorem zQp(right:List (List Int))(wds:List (List Nat))(N i:Nat):rpC right wds N i N=(zR3 right wds N i).map (.int .i64):=by
 unfold rpC zR3;rw[ze];exact zT fun y hy=>by rw[if_pos hy]
theorem zOn(right:List (List Int))(wds:List (List Nat))(N:Nat):zBO right wds N=tab N (zR3 right wds N):=rfl
def tbC(right:List (List Int))(wds:List (List Nat))(N k j:Nat):AV:=if j<k then .t 1 (ints (zR3 right wds N j))else .t 2 (.sl 0 [])
theorem zOC{H:Nat->Option AObj}{m:Nat->Option Nat}{un:Nat->Prop}{nx:Nat}{right:List (List Int)}{wds:List (List Nat)}{N k:Nat}:wkPs H m un nx (tab N (tbC right wds N k)) (tab N (tbC right wds N k)):=by
 rw[zZ];intro j hj;unfold tbC;split<;>simp
def zFA(bs:List Bool)(e:List Int):Bool:=bs.getD (e.getD 0 0).toNat false
def acC(bs:List Bool)(els:List (List Int))(k:Nat):List T:=tab els.length fun y=>.bool (if y<k then zFA bs (els.getD y [])else false)
@[simp] theorem zWV(bs:List Bool)(els:List (List Int))(k:Nat):(acC bs els k).length=els.length:=by simp[acC]
theorem zQo(bs:List Bool)(els:List (List Int)):(tab els.length fun _=>T.bool false)=acC bs els 0:=rfl
theorem zTa{bs:List Bool}{els:List (List Int)}{k:Nat}(h:k<els.length):(acC bs els k).set k (.bool (zFA bs els[k]))=acC bs els (k+1):=by
 unfold acC;rw[zg];refine zT fun y hy=>?_
 by_cases c:y=k
 ·subst c;rw[if_pos rfl,if_pos (by omega),Qv,Qj h];rfl
 ·rw[if_neg c];by_cases c2:y<k
  ·rw[if_pos c2,if_pos (by omega)]
  ·rw[if_neg c2,if_neg (by omega)]
theorem zPs(bs:List Bool)(els:List (List Int)):acC bs els els.length=(els.map (zFA bs)).map .bool:=by
 apply List.ext_getElem?;intro i;by_cases h:i<els.length
 ·unfold acC;rw[zX _ h,if_pos h,Qh,Qh,Qv,Qj h];rfl
 ·rw[Qg (by simp;omega),Qg (by simp;omega)]
def MnG(n:Nat)(gs:List (List Int))(bs:List Bool)(res:AV):Prop:=(res= .tup [zMI,.t 2 (.sl 0 []),.t 2 (.int .i64 3)]/\(Big n gs\/ ∃els pre last wds right,PrI n gs els pre last wds right els.length/\400<els.length))∨
 ∃els pre last wds right r0,PrI n gs els pre last wds right els.length/\els.length<=400/\right[0]? =some r0/\res= .tup [.agg [.t 2 (.int .i64 gs.length),.t 1 (rows (zBO right wds els.length)),.t 1 (.sl 1 (wsT wds)),.t 1 (ints r0),.t 2 (.sl 0 []),.t 1 (.sl 1 (psC els.length els.length (right.any fun r=>decide ((0:Int)∈r))))],.t 1 (.sl 1 [zH (els.map (zFA bs))]),.t 2 (.int .i64 0)]
theorem zLj{n:Nat}{gs:List (List Int)}{bs:List Bool}(h:zIi n gs)(hb:bs.length=n): ∃res,MnG n gs bs res/\FnS Tryz.prog 104 [.pt 0 [rows gs,.sl 3 [.int .i64 0,zH bs,.int .i64 0],.int .i64 n]] [] res []:=by
 have hg1:=h.g1;have hg2:=h.g2;have hn1:=h.n1;have hn2:=h.n2;obtain⟨res1,hB,hbuild⟩:=zOa h;refine zm Tryz.func104 rfl (by simp[Tryz.f104]) ?_;rw[show Tryz.f104.ntmps=195 from rfl,show Tryz.f104.results= #[.cell 2 27,.tmp 3,.tmp 4]from rfl];refine rg0 ?_;rcases hB with⟨rfl,hbig⟩|⟨els,pre,last,wds,right,rls,rfl,hP⟩
 ·refine rc0 hbuild ?_;refine zD ?_;refine rg0 ?_;refine cT0 ?_;refine rg0 ?_;refine zI ?_;refine⟨_,.inl ⟨rfl,.inl hbig⟩,?_⟩;refine⟨⟨.inr rfl,_,[],(by simp;rfl),trivial,trivial,by simp,?_⟩,by simp⟩;simp[zMI]
 have hen:=hP.en;have hel:=hP.el;have hle:=hen.le;have hlp:=hen.wd.lp;have hll:=hen.wd.ll;have hrd:=hP.rd;have hrt:=hP.rt;have hN0:0<els.length:=(Qq.1 hen.one.1).1;have hw0:=hen.one.2;refine rc1 hbuild @enT.eq_1 ?_;refine zD ?_;refine rg0 ?_;refine cS0 ?_;refine rg0 ?_;refine zD ?_;by_cases h400:400<els.length
 ·have c1:(400:Int)<els.length:=by omega
  refine rg1 @c1 ?_;refine cT0 ?_;refine rg0 ?_;refine zI ?_;refine⟨_,.inl ⟨rfl,.inr ⟨els,pre,last,wds,right,hP,h400⟩⟩,?_⟩;refine⟨⟨.inr rfl,_,[],(by simp;rfl),trivial,trivial,by simp,?_⟩,by simp⟩;simp[zMI]
 have c1: ¬(400:Int)<els.length:=by omega
 have hr0l:0<right.length:=by omega
 obtain⟨hrl0,-⟩:=hP.rg 0 right[0] (by simp);refine rg1 @c1 ?_;refine cS0 ?_;refine rq1 (zG6 right[0] (by omega) (by omega)) @hr0l ?_;refine zD ?_;refine rg0 ?_;refine zG ?_;refine awp_loop (fun i:Nat=>mkS [(0,.pt 0 [rows gs,.sl 3 [.int .i64 0,zH bs,.int .i64 0],.int .i64 n]),(2,.ptr 0 0 6),(5,.ptr 1 0 9),(7,.t 2 (.int .i64 els.length)),(8,.ptr 2 0 6),(9,.t 2 (.int .i64 i))]
   [(0,.box 27 [.any,.any,.any,.any,.any,.any]),(1,.box 141 [.any,.any,.any,.t 1 (rows els),.t 1 (ints pre),.t 1 (ints last),.t 1 (rows right),.any,.any]),
    (2,.box 27 [.t 2 (.int .i64 gs.length),.own 3 els.length,.own 4 els.length,.t 2 (ints right[0]),.t 2 (.sl 0 []),.own 5 els.length]),
    (3,.row 22 1 2 (tab els.length fun _=>.sl 0 [])),(4,.row 9 1 2 (wdC els.length wds i)),(5,.row 4 1 2 (psC els.length i false))] 6 195 [.any])
  (fun i=>1<=i/\i<=els.length) (fun i=>els.length-i) ?_ ?_
 ·refine⟨1,⟨by omega,by omega⟩,?_⟩;refine zP [(0,some 0),(1,some 11000000),(2,some 39000000),(3,some 28000000),(4,some 30000000),(5,some 37000000)] rfl ?_ ?_ ?_ ?_
  all_goals try simp[ints,rows,zH,zr,zTI hw0,zSX]
 rintro i ⟨hi1,hi2⟩;refine zD ?_;refine rg0 ?_;by_cases hlt:i<els.length
 ·obtain⟨p,x,u,p1,p2,p3,p4,p5,p6,-⟩:=hen.cn i (by omega) hlt;obtain⟨hpl,p3⟩:=Qq.1 p3;obtain⟨hlal,p4⟩:=Qq.1 p4;have hpN:p<els.length:=by omega
  have hwp:=zUM (N:=els.length) (k:=i) p1 hpN p5;have hws:=zS2 (N:=els.length) p6;have hps:=zSV (N:=els.length) (b:=false) (k:=i) (by omega);have hul:=hen.wd.len p u p5;have hx8:IntKind.u8.wrap (97+(x:Int))=97+x:=wr8 _ (by omega) (by omega);have hs1:=zEY (x:=x) (by omega);refine cK1 @hlt ?_;refine zD ?_;refine zG ?_;refine rd1 (an @hlt (an @hpl (an @p3 (an @hlal (an @p4 (an @hpN (an @hwp (an @hx8 (an @hs1 (an @zAj @hws)))))))))) ?_;refine rr1 (an @hlt @hps) ?_;refine rr0 ?_;refine⟨i+1,⟨by omega,by omega⟩,by omega,?_⟩;exact kw1 [(0,some 0),(1,some 1),(2,some 2),(3,some 3),(4,some 4),(5,some 5)] (an @rows.eq_1 @zH.eq_1)
 ·obtain rfl:i=els.length:=by omega
  have hwf:=zQO hle;refine cF0 ?_;refine zK ?_;refine zD ?_;refine rg1 @hrd ?_;refine zG ?_;refine awp_loop (fun k:Nat=>mkS [(0,.pt 0 [rows gs,.sl 3 [.int .i64 0,zH bs,.int .i64 0],.int .i64 n]),(2,.ptr 0 0 6),(5,.ptr 1 0 9),(7,.t 2 (.int .i64 els.length)),(8,.ptr 2 0 6),(86,.t 1 (rows right)),(87,.t 2 (.int .i64 els.length)),(88,.t 2 (.int .i64 k))]
    [(0,.box 27 [.any,.any,.any,.any,.any,.any]),(1,.box 141 [.any,.any,.any,.t 1 (rows els),.t 1 (ints pre),.t 1 (ints last),.t 1 (rows right),.any,.any]),
     (2,.box 27 [.t 2 (.int .i64 gs.length),.own 3 els.length,.own 4 els.length,.t 2 (ints right[0]),.t 2 (.sl 0 []),.own 5 els.length]),
     (3,.vec 22 1 2 (tab els.length (tbC right wds els.length k))),(4,.row 9 1 2 (wsT wds)),(5,.row 4 1 2 (psC els.length els.length ((right.take k).any fun r=>decide ((0:Int)∈r))))] 6 195 [.any])
   (fun k=>k<=els.length) (fun k=>els.length-k) ?_ ?_
  ·refine⟨0,by omega,?_⟩;exact kw1 [(0,some 0),(1,some 1),(2,some 2),(3,some 3),(4,some 4),(5,some 5)] (an @rows.eq_1 (an @zH.eq_1 (an @hwf (an @ze (an @zZ @tbC.eq_1)))))
  intro k hk;refine rg0 ?_;refine zD ?_;by_cases hkl:k<els.length
  ·have hkr:k<right.length:=by omega
   have hp0: ∀b,(psC els.length els.length b)[0]? =some (.bool b):=fun b=>zSE hN0
   have htk:((right.take (k+1)).any fun r=>decide ((0:Int)∈r))=(((right.take k).any fun r=>decide ((0:Int)∈r))||decide ((0:Int)∈right[k])):=by
    rw[Qe hkr,List.any_append];simp
   obtain⟨hrlk,-⟩:=hP.rg k right[k] (by simp);have hco:=zJJ right[k] 0 (by omega);generalize((right.take k).any fun r=>decide ((0:Int)∈r))=b at htk ⊢;generalize decide ((0:Int)∈right[k])=c at htk hco;refine cK1 @hkl ?_;refine zD ?_;refine zG ?_;refine rg1 @hkr ?_;refine zEU (fun σ'=>Wk σ' (mkS [(0,.pt 0 [rows gs,.sl 3 [.int .i64 0,zH bs,.int .i64 0],.int .i64 n]),(2,.ptr 0 0 6),(5,.ptr 1 0 9),(7,.t 2 (.int .i64 els.length)),(8,.ptr 2 0 6),(10,.t 2 (.int .i64 k)),(86,.t 1 (rows right)),(87,.t 2 (.int .i64 els.length)),(88,.t 2 (.int .i64 k))]
    [(0,.box 27 [.any,.any,.any,.any,.any,.any]),(1,.box 141 [.any,.any,.any,.t 1 (rows els),.t 1 (ints pre),.t 1 (ints last),.t 1 (rows right),.any,.any]),
     (2,.box 27 [.t 2 (.int .i64 gs.length),.own 3 els.length,.own 4 els.length,.t 2 (ints right[0]),.t 2 (.sl 0 []),.own 5 els.length]),
     (3,.vec 22 1 2 (tab els.length (tbC right wds els.length k))),(4,.row 9 1 2 (wsT wds)),(5,.row 4 1 2 (psC els.length els.length (b||c)))] 6 195 [.any])) ?_ ?_
   ·intro σ' hw;refine zd hw ?_;clear hw;rw[←htk];generalize hb2:((right.take (k+1)).any fun r=>decide ((0:Int)∈r))=b2;have hr1:=zTV (right:=right) (wds:=wds) (N:=els.length) (i:=k) hw0;refine rd1 (an @hkl (an @zg @zr)) ?_;refine rg1 (an @hkl (an @hN0 @hr1)) ?_;refine rg0 ?_;refine zG ?_;refine awp_loop (fun j:Nat=>mkS [(0,.pt 0 [rows gs,.sl 3 [.int .i64 0,zH bs,.int .i64 0],.int .i64 n]),(2,.ptr 0 0 6),(5,.ptr 1 0 9),(7,.t 2 (.int .i64 els.length)),(8,.ptr 2 0 6),(10,.t 2 (.int .i64 k)),(12,.t 2 (.int .i64 j)),(86,.t 1 (rows right)),(87,.t 2 (.int .i64 els.length)),(88,.t 2 (.int .i64 k))]
      [(0,.box 27 [.any,.any,.any,.any,.any,.any]),(1,.box 141 [.any,.any,.any,.t 1 (rows els),.t 1 (ints pre),.t 1 (ints last),.t 1 (rows right),.any,.any]),
       (2,.box 27 [.t 2 (.int .i64 gs.length),.own 3 els.length,.own 4 els.length,.t 2 (ints right[0]),.t 2 (.sl 0 []),.own 5 els.length]),
       (3,.vec 22 1 2 (tab els.length fun y=>if y=k then .own 6 els.length else tbC right wds els.length k y)),(4,.row 9 1 2 (wsT wds)),(5,.row 4 1 2 (psC els.length els.length b2)),(6,.row 3 1 2 (rpC right wds els.length k j))] 7 195 [.any])
     (fun j=>1<=j/\j<=els.length) (fun j=>els.length-j) ?_ ?_
    ·refine⟨1,⟨by omega,by omega⟩,?_⟩;refine zP [(0,some 0),(1,some 1),(2,some 2),(3,some 3),(4,some 4),(5,some 5),(6,some 4000006)] rfl ?_ ?_ ?_ ?_
     all_goals try simp[ints,rows,zH,zZ]
     intro j hj;by_cases e:j=k
     ·subst e;simp +contextual [zc]
     ·simp only[if_neg e];unfold tbC;split<;>simp
    rintro j ⟨hj1,hj2⟩;refine zD ?_;refine rg0 ?_;by_cases hjl:j<els.length
    ·obtain⟨p,x,u,p1,p2,p3,p4,p5,p6,-⟩:=hen.cn j (by omega) hjl;obtain⟨hpl,p3⟩:=Qq.1 p3;obtain⟨hlal,p4⟩:=Qq.1 p4;have hpN:p<els.length:=by omega
     have hrp:=zUR (right:=right) (i:=k) p1 hpN p5;have hrs:=zTq (right:=right) (N:=els.length) (i:=k) p6;have hwN:zj right k u<els.length:=hrt.walk (fun y hy=>hP.wl u (Qc p5) y hy) hkl;obtain⟨s1,s2,s3,s4⟩:=hrt.step hwN p2;refine cK1 @hjl ?_;refine zD ?_;refine zG ?_;refine re1 (an @hkl (an @hjl (an @hpl (an @p3 (an @hlal (an @p4 (an @hpN (an @hrp (an @s2 (an @s3 (an @s4 @hrs))))))))))) ?_;refine rr0 ?_;refine⟨j+1,⟨by omega,by omega⟩,by omega,?_⟩;refine zP [(0,some 0),(1,some 1),(2,some 2),(3,some 3),(4,some 4),(5,some 5),(6,some 6)] rfl ?_ ?_ ?_ ?_
     all_goals try simp[ints,rows,zH,zZ]
     intro y hy;by_cases e:y=k
     ·subst e;simp +contextual [zc]
     ·simp only[if_neg e];unfold tbC;split<;>simp
    ·obtain rfl:j=els.length:=by omega
     refine cF0 ?_;refine zK ?_;refine rr0 ?_;refine⟨k+1,by omega,by omega,?_⟩;refine zP [(0,some 0),(1,some 1),(2,some 2),(3,some 3),(4,some 4),(5,some 5)] rfl ?_ ?_ ?_ ?_
     all_goals try simp[ints,rows,zH,zZ]
     refine⟨fun y hy=>?_,by rw[hb2]⟩;by_cases e:y=k
     ·subst e;simp +contextual [zc,zAC,ints,tbC,zQp]
     ·simp only[if_neg e];unfold tbC;by_cases c:y<k
      ·rw[if_pos c,if_pos (by omega)];simp
      ·rw[if_neg c,if_neg (by omega)];simp
   ·cases b with
    |true=>
     refine re1 (an @hp0 (an @zKu @hN0)) ?_;exact kw1 [(0,some 0),(1,some 1),(2,some 2),(3,some 3),(4,some 4),(5,some 5)] (an @rows.eq_1 (an @zH.eq_1 @zOC))
    |false=>
     refine zAW (by kernel_rfl) (fun K hK=>?_);simp(maxSteps:=2000000)(disch:=omega)[hp0,hN0]
     (repeat' apply And.intro)
     all_goals (try omega)
     refine zV (caps:=[]) (hco) [] [] 2 (by simp) rfl rfl rfl (by kernel_rfl) (by simp) ?_ trivial trivial rfl trivial trivial (by simp) ?_
     ·simp[scal,ints]
     simp[scal,zKu,hN0]
     (repeat' first|apply hK|apply And.intro)<;>try first|(show zAf _ _=true;kernel_rfl)|(show okH _ _ _=true;kernel_rfl)|omega|rfl|(simp<;>omega)
     exact kw1 [(0,some 0),(1,some 1),(2,some 2),(3,some 3),(4,some 4),(5,some 5)] (an @rows.eq_1 (an @zH.eq_1 @zOC))
  ·obtain rfl:k=els.length:=by omega
   have hta:right.take els.length=right:=Qm (by omega);refine cF0 ?_;refine zK ?_;refine rg0 ?_;refine zD ?_;refine rg0 ?_;refine zG ?_;rw[hta];generalize hb0:(right.any fun r=>decide ((0:Int)∈r))=b0;refine awp_loop (fun k:Nat=>mkS [(2,.ptr 0 0 6),(5,.ptr 1 0 9),(7,.t 2 (.int .i64 els.length)),(8,.ptr 2 0 6),(13,.own 6 1),(162,.t 0 (.sl 3 [.int .i64 0,zH bs,.int .i64 0])),(163,.t 2 (.int .i64 1)),(164,.t 2 (.int .i64 k))]
     [(0,.box 27 [.any,.any,.any,.any,.any,.any]),(1,.box 141 [.any,.any,.any,.t 1 (rows els),.any,.any,.any,.any,.any]),
      (2,.box 27 [.t 2 (.int .i64 gs.length),.own 3 els.length,.own 4 els.length,.t 2 (ints right[0]),.t 2 (.sl 0 []),.own 5 els.length]),
      (3,.row 22 1 1 (tab els.length fun j=>ints (zR3 right wds els.length j))),(4,.row 9 1 2 (wsT wds)),(5,.row 4 1 2 (psC els.length els.length b0)),(6,.vec 25 1 2 [if k=0 then .t 2 (.sl 0 [])else .t 1 (zH (els.map (zFA bs)))])] 7 195 [.any])
    (fun k=>k<=1) (fun k=>1-k) ?_ ?_
   ·refine⟨0,by omega,?_⟩;refine zP [(0,some 0),(1,some 1),(2,some 2),(3,some 3),(4,some 4),(5,some 5),(6,some 6000006)] rfl ?_ ?_ ?_ ?_
    all_goals try simp[ints,rows,zH,zC8]
    intro j hj;unfold tbC;rw[if_pos hj];simp[wk1];rfl
   intro k hk;refine rg0 ?_;refine zD ?_;by_cases hk0:k=0
   ·subst hk0;refine cK0 ?_;refine zD ?_;refine zG ?_;refine rg0 ?_;refine rg0 ?_;refine rg0 ?_;refine zG ?_;refine awp_loop (fun i:Nat=>mkS [(2,.ptr 0 0 6),(5,.ptr 1 0 9),(7,.t 2 (.int .i64 els.length)),(8,.ptr 2 0 6),(13,.own 6 1),(14,.t 2 (.int .i64 0)),(15,.ptr 8 0 3),(162,.t 0 (.sl 3 [.int .i64 0,zH bs,.int .i64 0])),(163,.t 2 (.int .i64 1)),(164,.t 2 (.int .i64 0)),(175,.t 1 (rows els)),(176,.t 2 (.int .i64 els.length)),(177,.t 2 (.int .i64 i))]
      [(0,.box 27 [.any,.any,.any,.any,.any,.any]),(1,.box 141 [.any,.any,.any,.t 1 (rows els),.any,.any,.any,.any,.any]),
       (2,.box 27 [.t 2 (.int .i64 gs.length),.own 3 els.length,.own 4 els.length,.t 2 (ints right[0]),.t 2 (.sl 0 []),.own 5 els.length]),
       (3,.row 22 1 1 (tab els.length fun j=>ints (zR3 right wds els.length j))),(4,.row 9 1 2 (wsT wds)),(5,.row 4 1 2 (psC els.length els.length b0)),(6,.vec 25 1 2 [.own 7 els.length]),(7,.row 4 1 2 (acC bs els i)),(8,.box 190 [.t 2 (.int .i64 0),.t 0 (zH bs),.t 2 (.int .i64 0)])] 9 195 [.any])
     (fun i=>i<=els.length) (fun i=>els.length-i) ?_ ?_
    ·refine⟨0,by omega,?_⟩;refine zP [(0,some 0),(1,some 1),(2,some 2),(3,some 3),(4,some 4),(5,some 5),(6,some 6),(7,some 10000007),(8,some 4000007)] rfl ?_ ?_ ?_ ?_
     all_goals try simp[ints,rows,zH,zr]
     exact zQo bs els
    intro i hi;refine rg0 ?_;refine zD ?_;by_cases hil:i<els.length
    ·have hst:=zTa (bs:=bs) hil;obtain⟨-,v2,-⟩:=hen.val i (wds[i]'(by omega)) els[i] (by simp) (by simp);have hac:=zLn (bs:=bs) hb v2 hn1 (by omega);refine cK1 @hil ?_;refine zD ?_;refine zG ?_;refine rg1 @hil ?_;refine zAW (by kernel_rfl) (fun K hK=>?_);simp
     (repeat' apply And.intro)
     all_goals (try omega)
     refine zV (caps:=[]) (hac) [] [] 2 rfl rfl rfl rfl (by kernel_rfl) (by simp) ?_ trivial trivial rfl trivial trivial (by simp) ?_
     ·simp[scal,ints,zH]
     simp[scal,hil];and_intros<;>try first|apply hK|(show zAf _ _=true;kernel_rfl)|(show okH _ _ _=true;kernel_rfl)|omega|rfl|simp<;>omega
     refine rr0 ?_;refine⟨i+1,by omega,by omega,?_⟩;refine zP [(0,some 0),(1,some 1),(2,some 2),(3,some 3),(4,some 4),(5,some 5),(6,some 6),(7,some 7),(8,some 8)] rfl ?_ ?_ ?_ ?_
     all_goals try simp[ints,rows,zH]
     exact hst
    ·obtain rfl:i=els.length:=by omega
     refine cF0 ?_;refine zK ?_;refine rr0 ?_;refine⟨1,by omega,by omega,?_⟩;exact kw1 [(0,some 0),(1,some 1),(2,some 2),(3,some 3),(4,some 4),(5,some 5),(6,some 6)] (an @rows.eq_1 (an @zH.eq_1 @zPs))
   ·obtain rfl:k=1:=by omega
    refine cF0 ?_;refine zK ?_;refine rg0 ?_;refine zI ?_;refine⟨_,.inr ⟨els,pre,last,wds,right,right[0],hP,by omega,by simp,rfl⟩,?_⟩;refine⟨⟨.inr rfl,_,[],(by simp;rfl),trivial,trivial,by simp,?_⟩,by simp[rows,zH]⟩;simp[ints,rows,rows,zH,zOn,ze,zTF,wk1];exact⟨hle.symm,by rw[hb0]⟩
def zHm(p L:Nat)(bs:List Bool)(els:List (List Int))(wds:List (List Nat))(right:List (List Int))(r0:List Int):AV:=.agg [.t 2 (.int .i64 L),.t p (rows (zBO right wds els.length)),.t p (.sl 1 (wsT wds)),.t p (ints r0),.t p (zH (els.map (zFA bs))),.t p (.sl 1 (psC els.length els.length (right.any fun r=>decide ((0:Int)∈r))))]
structure SyX(L m:Nat)(nx els:List (List Int))(pre last:List Int)(wds:List (List Nat))(right:List (List Int))(r0:List Int):Prop where
 m32:m<=32
 pr:PrI m (tab L (lets m nx)) els pre last wds right els.length
 el:els.length<=400
 r0:right[0]? =some r0
def SyF(L m:Nat)(nx:List (List Int)):Prop:=Big m (tab L (lets m nx))\/ ∃els pre last wds right,PrI m (tab L (lets m nx)) els pre last wds right els.length/\400<els.length
def OfX(L n s:Nat)(bs:List Bool)(nxt:List (List Int))(res:AV):Prop:=∃m bs' nx',MiX L n s bs nxt m bs' nx'/\((res= .tup [zMI,.t 2 (.int .i64 3)]/\SyF L m nx')\/ ∃els pre last wds right r0,SyX L m nx' els pre last wds right r0/\res= .tup [zHm 1 L bs' els wds right r0,.t 2 (.int .i64 0)])
theorem zUP{L n s:Nat}{bs:List Bool}{nxt:List (List Int)}(h:DfL L n s bs nxt)(hL:1<=L)(hL2:L<=6)(hn:n<=512)(hm32: ∀m bs' nx',MiX L n s bs nxt m bs' nx'->m<=32): ∃res,OfX L n s bs nxt res/\FnS Tryz.prog 59 [dfT 0 L s bs nxt] [] res []:=by
 have hval:=zBm h hL hL2 hn;obtain⟨_,⟨m,b2,nx,hX,rfl⟩,hmin⟩:=zIP h hL hL2 hn;have hm:=hm32 m b2 nx hX;have hD:=hX.mn.df;have hadd:=zTO hD hL hL2 hm;obtain⟨res1,hM,hmon⟩:=zLj (hD.gn hL hL2 hm) hD.bl;refine zm Tryz.func59 rfl (by simp[Tryz.f59]) ?_;rw[show Tryz.f59.ntmps=37 from rfl,show Tryz.f59.results= #[.cell 2 27,.tmp 3]from rfl];refine rg1 (an @dfT.eq_1 @zH.eq_1) ?_;refine zD ?_;refine rc1 hval (an @dfT.eq_1 @zH.eq_1) ?_;refine rg0 ?_;refine cS0 ?_;refine rg0 ?_;refine zD ?_;refine zO fun K hK=>?_
 simp(maxSteps:=2000000)(disch:=omega)
 (repeat' apply And.intro)
 all_goals (try omega)
 refine zJ (caps:=[]) (hmin) [] [] 2 rfl rfl rfl rfl (by kernel_rfl) (by simp) ?_ trivial trivial rfl trivial trivial (by simp) ?_
 ·simp[scal,rows,dfT,zH]
 simp(maxSteps:=2000000)(disch:=omega)[rows,scal,dfT,zH]
 (repeat' apply And.intro)
 all_goals (try omega)
 refine zJ (caps:=[]) (hadd) [8000000] [8000000] 1 rfl rfl rfl rfl (by kernel_rfl) (by simp) ?_ ?_ (by simp) rfl (by simp) ⟨.inr ⟨rfl,0,_,_,_,_,_,rfl,rfl,(by first|rfl|simp[syZ,syO,dfT,zH]),rfl,(by first|rfl|simp[syZ,syO,dfT,zH])⟩,trivial⟩ (by simp[syO,zH]) ?_
 ·simp[scal,rows,dfT,zH]
 ·simp[scal,syZ]
 simp(maxSteps:=2000000)(disch:=omega)[rows,scal,syO]
 (repeat' first|apply hK|apply And.intro)<;>try first|omega|rfl|(simp<;>omega)
 refine rg0 ?_;refine cS0 ?_;rcases hM with⟨rfl,hF⟩|⟨els,pre,last,wds,right,r0,hP,h400,hr0,rfl⟩
 ·refine rc1 hmon @zMI.eq_1 ?_;refine zD ?_;refine rg0 ?_;refine cT0 ?_;refine rg0 ?_;refine zI ?_;refine⟨_,⟨m,b2,nx,hX,.inl ⟨rfl,hF⟩⟩,?_⟩;refine⟨⟨.inr rfl,_,[],(by simp;rfl),trivial,trivial,by simp,?_⟩,by simp[dfT,zH]⟩;simp[zMI]
 ·refine rc0 hmon ?_;refine zD ?_;refine rg0 ?_;refine cS0 ?_;refine rg0 ?_;refine rg0 ?_;refine zI ?_;refine⟨_,⟨m,b2,nx,hX,.inr ⟨els,pre,last,wds,right,r0,⟨hm,hP,h400,hr0⟩,rfl⟩⟩,?_⟩;refine⟨⟨.inr rfl,_,[],(by simp;rfl),trivial,trivial,by simp,?_⟩,by simp[dfT,zH]⟩;simp[ints,rows,zHm,zH]
theorem zBC{α:Type}{P:List α->Prop}(h0:P [])(h1: ∀w x,P w->P (w++[x]))(w:List α):P w:=by
 have key: ∀k (w:List α),w.length=k->P w:=by
  intro k
  induction k with
  |zero=>intro w hw;rw[List.length_eq_zero_iff.1 hw];exact h0
  |succ k ih=>
   intro w hw;have hne:w≠[]:=by intro e;subst e;simp at hw
   rw[←List.dropLast_concat_getLast hne];exact h1 _ _ (ih _ (by simp[hw]))
 exact key _ w rfl
section
variable{n:Nat}{gs els els':List (List Int)}{pre last pre' last':List Int}{wds wds':List (List Nat)}{right right':List (List Int)}
theorem PrI.clo(h:PrI n gs els pre last wds right els.length):ClE gs els:=fun e he g hg=>by
 obtain⟨i,hi,rfl⟩:=Qb he;obtain⟨y,hy,rfl⟩:=Qb hg;have hrd:=h.rd;obtain⟨h1,h2⟩:=h.rg i (right[i]'(by omega)) (by simp);exact h2.mem (by omega) (Qj hi) (Qj hy)
theorem PrI.eqE(h:PrI n gs els pre last wds right els.length)(h':PrI n gs els' pre' last' wds' right' els'.length):els=els'/\pre=pre'/\last=last'/\wds=wds'/\right=right':=by
 obtain⟨e1,e2,e3,e4⟩:=h.en.eq h'.en h.clo h'.clo;subst e1 e2 e3 e4;refine⟨rfl,rfl,rfl,rfl,?_⟩;have hr:=h.rd;have hr':=h'.rd;refine List.ext_getElem (by omega) fun i h1 h2=>?_
 obtain⟨a1,a2⟩:=h.rg i right[i] (by simp);obtain⟨b1,b2⟩:=h'.rg i right'[i] (by simp);refine List.ext_getElem (by omega) fun y g1 g2=>?_
 obtain⟨m,e,g,c1,c2,c3,c4⟩:=a2 y right[i][y] (by simp);obtain⟨m',e',g',d1,d2,d3,d4⟩:=b2 y right'[i][y] (by simp);rw[c2]at d2;rw[c3]at d3;injection d2 with d2;injection d3 with d3;subst d2 d3;rw[c1,d1,h.en.nd m m' _ c4 d4]
theorem PrI.zMi(h:PrI n gs els pre last wds right els.length): ∀(w:List Nat),(∀a∈w,a<gs.length)->act n gs w∈els:=by
 intro w;refine zBC (P:=fun w=>(∀a∈w,a<gs.length)->act n gs w∈els) ?_ ?_ w
 ·intro _;exact Qc (show els[0]? =some (act n gs [])from h.en.one.1)
 ·intro w x ih hw;have hx:x<gs.length:=hw x (by simp);rw[zCD,Qv,Qj hx];exact h.clo _ (ih fun a ha=>hw a (by simp[ha])) _ (by simp)
theorem zBK{α:Type}[DecidableEq α]: ∀{l k:List α},l.Nodup->(∀a∈l,a∈k)->l.length<=k.length
 |[],_,_,_=>by simp
 |a::l,k,hn,hs=>by
  have hn':=List.nodup_cons.1 hn;have ha:=hs a (by simp);have:=zBK (l:=l) (k:=k.erase a) hn'.2 (fun b hb=>(List.mem_erase_of_ne (fun e=>hn'.1 (by rw[←e];exact hb))).2 (hs b (by simp[hb])));rw[List.length_erase_of_mem ha]at this;have:=List.length_pos_of_mem ha;simp;omega
theorem PrI.zWm(h:PrI n gs els pre last wds right els.length)(hb:Big n gs):False:=by
 obtain⟨l,h1,h2,h3⟩:=hb;have:=zBK h1 (fun e he=>by
  obtain⟨w,w1,rfl⟩:=h3 e he;exact h.zMi w w1)
 have:=h.el;omega
end
section
variable{L m:Nat}{bs:List Bool}{nx els:List (List Int)}{pre last:List Int}{wds:List (List Nat)}{right:List (List Int)}{r0:List Int}
theorem zB9(hD:DfL L m 0 bs nx): ∀(w:List Nat),(∀a∈w,a<L)-> ∀q,q<m->(act m (tab L (lets m nx)) w)[q]? =some (zj nx q w:Int):=by
 intro w;refine zBC (P:=fun w=>(∀a∈w,a<L)-> ∀q,q<m->(act m (tab L (lets m nx)) w)[q]? =some (zj nx q w:Int)) ?_ ?_ w
 ·intro _ q hq;show(idL m)[q]? =_;unfold idL;rw[zX _ hq];rfl
 ·intro w x ih hw q hq;have hx:x<L:=hw x (by simp);have hwl: ∀a∈w,a<L:=fun a ha=>hw a (by simp[ha])
  have h1:=ih hwl q hq;have h2:zj nx q w<m:=hD.rt.walk hwl hq;rw[zCD];unfold zt;rw[Qh,h1,Qf,Qv (l:=tab L (lets m nx)),zX _ hx,Qd,Qv,Int.toNat_natCast];unfold lets;rw[zX _ h2,Qd];simp[zj]
theorem SyX.pos(h:SyX L m nx els pre last wds right r0):0<els.length:=(Qq.1 h.pr.en.one.1).1
theorem SyX.df(h:SyX L m nx els pre last wds right r0):DfL L els.length 0 (els.map (zFA bs)) right:=by
 have hp:=h.pos;have hrd:=h.pr.rd;refine⟨hp,hp,by simp,hrd,fun r hr=>?_⟩;obtain⟨i,hi,rfl⟩:=Qb hr;obtain⟨h1,h2⟩:=h.pr.rg i right[i] (by simp);rw[zq]at h1;refine⟨h1,fun v hv=>?_⟩;obtain⟨y,hy,rfl⟩:=Qb hv;obtain⟨k,e,g,c1,c2,c3,c4⟩:=h2 y right[i][y] (by simp);have:=(Qq.1 c4).1;omega
theorem SyX.elW(h:SyX L m nx els pre last wds right r0)(hD:DfL L m 0 bs nx)(hg: ∀g∈tab L (lets m nx),TrN m g){w:List Nat}(hw: ∀a∈w,a<L){x:Nat}(hx:x<els.length):els[zj right x w]? =some (zt els[x] (act m (tab L (lets m nx)) w)):=by
 have hw': ∀a∈w,a<(tab L (lets m nx)).length:=fun a ha=>by rw[zq];exact hw a ha
 rw[h.pr.zIM w hx hw'];obtain⟨h1,h2,h3,h4⟩:=h.pr.wl' hx;rw[zLM hg h3 hw']
theorem SyX.zMu(h:SyX L m nx els pre last wds right r0)(hD:DfL L m 0 bs nx)(hg: ∀g∈tab L (lets m nx),TrN m g){w:List Nat}(hw: ∀a∈w,a<L):zB3 (els.map (zFA bs)) right 0 w=zB3 bs nx 0 w:=by
 have hp:=h.pos;have h1:=h.elW hD hg hw hp;have h0:els[0]=idL m:=by
  have:=h.pr.en.one.1;rw[Qj hp]at this;exact Option.some.inj this
 have hact:TrN m (act m (tab L (lets m nx)) w):=by
  obtain⟨i,hi,e⟩:=Qb (h.pr.zMi w (fun a ha=>by rw[zq];exact hw a ha));obtain⟨h1,h2,h3,h4⟩:=h.pr.wl' hi;rw[←e];exact h3
 rw[h0,zAn hact]at h1;have h2:=zB9 hD w hw 0 hD.n1;unfold zB3;rw[Qv,Qh,h1,Qf,Qd];unfold zFA;rw[Qv (l:=act m _ w),h2,Qd,Int.toNat_natCast]
end
abbrev Nd:=Nat×Nat×Nat×Nat
def ndB(f:Nat->List Nat->Bool)(nd:Nd)(w:List Nat):Bool:=
 if nd.1=2 then decide (w=[])
 else if nd.1=3 then decide (w=[nd.2.1])
 else if nd.1=4 then true
 else if nd.1=5 then f nd.2.2.1 w||f nd.2.2.2 w
 else if nd.1=6 then f nd.2.2.1 w&&f nd.2.2.2 w
 else if nd.1=7 then(List.range (w.length+1)).any fun c=>f nd.2.2.1 (w.take c)&&f nd.2.2.2 (w.drop c)
 else if nd.1=8 then !f nd.2.2.1 w
 else false
def zUA(ns:List Nd):List (List Nat->Bool):=ns.foldl (fun acc nd=>acc++[ndB (fun i=>acc.getD i fun _=>false) nd]) []
def zBq(ns:List Nd)(i:Nat):List Nat->Bool:=(zUA ns).getD i fun _=>false
theorem zFG(ns:List Nd)(nd:Nd):zUA (ns++[nd])=zUA ns++[ndB (zBq ns) nd]:=by
 unfold zUA;rw[List.foldl_append];rfl
theorem zLC(ns:List Nd):(zUA ns).length=ns.length:=by
 refine zBC (P:=fun ns=>(zUA ns).length=ns.length) rfl (fun w x ih=>?_) ns;rw[zFG];simp[ih]
theorem zCz(ns r:List Nd){i:Nat}(h:i<ns.length):zBq (ns++r) i=zBq ns i:=by
 refine zBC (P:=fun r=>zBq (ns++r) i=zBq ns i) (by rw[List.append_nil]) (fun w x ih=>?_) r;rw[←ih,←List.append_assoc];unfold zBq;rw[zFG,Qv,Qw (by rw[zLC];simp;omega),←Qv]
theorem zHn(ns:List Nd)(nd:Nd):zBq (ns++[nd]) ns.length=ndB (zBq ns) nd:=by
 have:=zLC ns
 conv=>lhs;unfold zBq
 rw[zFG,Qv,Qa (by omega),this];simp
theorem zMw{f g:Nat->List Nat->Bool}{nd:Nd}(ha:5<=nd.1->f nd.2.2.1=g nd.2.2.1)(hb:5<=nd.1->nd.1<=7->f nd.2.2.2=g nd.2.2.2):ndB f nd=ndB g nd:=by
 funext w;unfold ndB;by_cases h5:5<=nd.1
 ·have ha:=ha h5;by_cases h7:nd.1<=7
  ·have hb:=hb h5 h7;rw[ha,hb]
  ·rw[ha,if_neg (by omega),if_neg (by omega),if_neg (by omega),if_neg (by omega),if_neg (by omega),if_neg (by omega)];rw[if_neg (show ¬nd.1=2 by omega),if_neg (show ¬nd.1=3 by omega),if_neg (show ¬nd.1=4 by omega),if_neg (show ¬nd.1=5 by omega),if_neg (show ¬nd.1=6 by omega),if_neg (show ¬nd.1=7 by omega)]
 ·have e5: ¬nd.1=5:=by omega
  have e6: ¬nd.1=6:=by omega
  have e7: ¬nd.1=7:=by omega
  have e8: ¬nd.1=8:=by omega
  simp only[if_neg e5,if_neg e6,if_neg e7,if_neg e8]
structure zVV(L i:Nat)(nd:Nd):Prop where
 op:1<=nd.1/\nd.1<=8
 l3:nd.1=3->nd.2.1<L
 ln:nd.1≠3->nd.2.1=0
 a5:5<=nd.1->nd.2.2.1<i
 an:nd.1<5->nd.2.2.1=0
 b5:5<=nd.1->nd.1<=7->nd.2.2.2<i
 bn:nd.1<5\/nd.1=8->nd.2.2.2=0
def GV(L:Nat)(ns:List Nd):Prop:=∀(i:Nat) nd,ns[i]? =some nd->zVV L i nd
theorem GV.nil{L:Nat}:GV L []:=fun i nd h=>by simp at h
theorem GV.snoc{L:Nat}{ns:List Nd}{nd:Nd}(h:GV L ns)(hn:zVV L ns.length nd):GV L (ns++[nd]):=fun i x hx=>by
 by_cases hi:i<ns.length
 ·rw[Qw hi]at hx;exact h i x hx
 ·have hl:=(Qq.1 hx).1;simp at hl;obtain rfl:i=ns.length:=by omega
  rw[Qa (by omega)]at hx;simp at hx;subst hx;exact hn
theorem GV.take{L:Nat}{ns r:List Nd}(h:GV L (ns++r)):GV L ns:=fun i nd hi=>h i nd (by rw[Qw (Qq.1 hi).1];exact hi)
theorem zMQ{L:Nat}{ns:List Nd}:GV L ns-> ∀{i:Nat} {nd:Nd},ns[i]? =some nd->zBq ns i=ndB (zBq ns) nd:=by
 refine zBC (P:=fun ns=>GV L ns-> ∀{i:Nat} {nd:Nd},ns[i]? =some nd->zBq ns i=ndB (zBq ns) nd) (fun _ i nd h=>by simp at h) (fun ns x ih=>?_) ns;intro hv i nd hi;have hn:=hv i nd hi;have hl:=(Qq.1 hi).1;simp at hl;have hc:ndB (zBq (ns++[x])) nd=ndB (zBq ns) nd:=zMw (fun h=>zCz _ _ (by have:=hn.a5 h;omega)) (fun h h7=>zCz _ _ (by have:=hn.b5 h h7;omega));rw[hc];by_cases h:i<ns.length
 ·rw[Qw h]at hi;rw[zCz _ _ h,ih hv.take hi]
 ·obtain rfl:i=ns.length:=by omega
  rw[Qa (by omega)]at hi;simp at hi;subst hi;exact zHn ns x
def zCo(k:Nat)(ns ns':List Nd):Prop:=∃r,ns'=ns++r/\r.length<=k
theorem zCo.refl(k:Nat)(ns:List Nd):zCo k ns ns:=⟨[],by simp,by simp⟩
theorem zCo.trans{j k:Nat}{a b c:List Nd}(h1:zCo j a b)(h2:zCo k b c):zCo (j+k) a c:=by
 obtain⟨r,rfl,h1⟩:=h1;obtain⟨s,rfl,h2⟩:=h2;exact⟨r++s,by simp,by simp;omega⟩
theorem zCo.mono{j k:Nat}{a b:List Nd}(h1:zCo j a b)(h:j<=k):zCo k a b:=by
 obtain⟨r,e,h1⟩:=h1;exact⟨r,e,by omega⟩
theorem zCo.le{k:Nat}{a b:List Nd}(h:zCo k a b):a.length<=b.length/\b.length<=a.length+k:=by
 obtain⟨r,rfl,h⟩:=h;simp;omega
def Sm(L:Nat)(ns:List Nd)(i:Nat)(P:List Nat->Prop):Prop:=i<ns.length/\ ∀w,(∀a∈w,a<L)->(zBq ns i w=true↔P w)
theorem Sm.ext{L k:Nat}{ns ns':List Nd}{i:Nat}{P:List Nat->Prop}(h:Sm L ns i P)(he:zCo k ns ns'):Sm L ns' i P:=by
 obtain⟨r,rfl,-⟩:=he;exact⟨by have:=h.1;simp;omega,fun w hw=>by rw[zCz _ _ h.1];exact h.2 w hw⟩
theorem Sm.iff{L:Nat}{ns:List Nd}{i:Nat}{P Q:List Nat->Prop}(h:Sm L ns i P)(hq: ∀w,(∀a∈w,a<L)->(P w↔Q w)):Sm L ns i Q:=⟨h.1,fun w hw=>(h.2 w hw).trans (hq w hw)⟩
def UB(L:Nat)(ns:List Nd)(l:List Nat)(P:List Nat->Prop):Prop:=(∀i∈l,i<ns.length)/\ ∀w,(∀a∈w,a<L)->((∃i∈l,zBq ns i w=true)↔P w)
theorem UB.nil{L:Nat}{ns:List Nd}:UB L ns [] fun _=>False:=⟨by simp,fun w _=>by simp⟩
theorem UB.ext{L k:Nat}{ns ns':List Nd}{l:List Nat}{P:List Nat->Prop}(h:UB L ns l P)(he:zCo k ns ns'):UB L ns' l P:=by
 obtain⟨r,rfl,-⟩:=he;refine⟨fun i hi=>by have:=h.1 i hi;simp;omega,fun w hw=>?_⟩;rw[←h.2 w hw];exact⟨fun⟨i,hi,e⟩=>⟨i,hi,by rwa [zCz _ _ (h.1 i hi)]at e⟩,fun⟨i,hi,e⟩=>⟨i,hi,by rwa [zCz _ _ (h.1 i hi)]⟩⟩
theorem UB.iff{L:Nat}{ns:List Nd}{l:List Nat}{P Q:List Nat->Prop}(h:UB L ns l P)(hq: ∀w,(∀a∈w,a<L)->(P w↔Q w)):UB L ns l Q:=⟨h.1,fun w hw=>(h.2 w hw).trans (hq w hw)⟩
theorem UB.add{L:Nat}{ns:List Nd}{l:List Nat}{i:Nat}{P Q:List Nat->Prop}(h:UB L ns l P)(h2:Sm L ns i Q):UB L ns (l++[i]) fun w=>P w\/Q w:=by
 refine⟨fun j hj=>?_,fun w hw=>?_⟩
 ·rcases List.mem_append.1 hj with hj|hj
  ·exact h.1 j hj
  ·simp at hj;subst hj;exact h2.1
 ·show _↔P w\/Q w;rw[←h.2 w hw,←h2.2 w hw];constructor
  ·rintro⟨j,hj,e⟩;rcases List.mem_append.1 hj with hj|hj
   ·exact .inl ⟨j,hj,e⟩
   ·simp at hj;subst hj;exact .inr e
  ·rintro(⟨j,hj,e⟩|e)
   ·exact⟨j,by simp[hj],e⟩
   ·exact⟨i,by simp,e⟩
def addG(ns:List Nd)(nd:Nd):List Nd×Nat:=match ixA nd ns with
 |some i=>(ns,i)
 |none=>(ns++[nd],ns.length)
theorem zDH{L:Nat}{ns:List Nd}{nd:Nd}(h:GV L ns)(hn:zVV L ns.length nd):GV L (addG ns nd).1/\zCo 1 ns (addG ns nd).1/\Sm L (addG ns nd).1 (addG ns nd).2 (fun w=>ndB (zBq ns) nd w=true):=by
 unfold addG
 cases e:ixA nd ns with
 |some i=>
  have h1:=zB7 e;exact⟨h,.refl _ _,(Qq.1 h1).1,fun w _=>by rw[zMQ h h1]⟩
 |none=>
  exact⟨h.snoc hn,⟨[nd],rfl,by simp⟩,by simp,fun w _=>by rw[zHn]⟩
section
variable{L:Nat}{ns:List Nd}{x y:Nat}{P Q:List Nat->Prop}
def zFY(P Q:List Nat->Prop)(w:List Nat):Prop:=∃u v,w=u++v/\P u/\Q v
theorem zMY(h:GV L ns):GV L (addG ns (1,0,0,0)).1/\zCo 1 ns (addG ns (1,0,0,0)).1/\Sm L (addG ns (1,0,0,0)).1 (addG ns (1,0,0,0)).2 (fun _=>False):=by
 obtain⟨h1,h2,h3⟩:=zDH h (nd:=(1,0,0,0)) ⟨by simp,by simp,by simp,by simp,by simp,by simp,by simp⟩;exact⟨h1,h2,h3.iff fun w _=>by simp[ndB]⟩
theorem zDg(h:GV L ns):GV L (addG ns (4,0,0,0)).1/\zCo 1 ns (addG ns (4,0,0,0)).1/\Sm L (addG ns (4,0,0,0)).1 (addG ns (4,0,0,0)).2 (fun _=>True):=by
 obtain⟨h1,h2,h3⟩:=zDH h (nd:=(4,0,0,0)) ⟨by simp,by simp,by simp,by simp,by simp,by simp,by simp⟩;exact⟨h1,h2,h3.iff fun w _=>by simp[ndB]⟩
theorem zCs(h:GV L ns){a:Nat}(ha:a<L):GV L (addG ns (3,a,0,0)).1/\zCo 1 ns (addG ns (3,a,0,0)).1/\Sm L (addG ns (3,a,0,0)).1 (addG ns (3,a,0,0)).2 (fun w=>w=[a]):=by
 obtain⟨h1,h2,h3⟩:=zDH h (nd:=(3,a,0,0)) ⟨by simp,fun _=>ha,by simp,by simp,by simp,by simp,by simp⟩;exact⟨h1,h2,h3.iff fun w _=>by simp[ndB]⟩
theorem zTd(h:GV L ns)(hx:Sm L ns x P)(hy:Sm L ns y Q):GV L (addG ns (5,0,x,y)).1/\zCo 1 ns (addG ns (5,0,x,y)).1/\Sm L (addG ns (5,0,x,y)).1 (addG ns (5,0,x,y)).2 (fun w=>P w\/Q w):=by
 obtain⟨h1,h2,h3⟩:=zDH h (nd:=(5,0,x,y)) ⟨by simp,by simp,by simp,fun _=>hx.1,by simp,fun _ _=>hy.1,by simp⟩;exact⟨h1,h2,h3.iff fun w hw=>by simp[ndB,←hx.2 w hw,←hy.2 w hw]⟩
theorem zLN(h:GV L ns)(hx:Sm L ns x P)(hy:Sm L ns y Q):GV L (addG ns (6,0,x,y)).1/\zCo 1 ns (addG ns (6,0,x,y)).1/\Sm L (addG ns (6,0,x,y)).1 (addG ns (6,0,x,y)).2 (fun w=>P w/\Q w):=by
 obtain⟨h1,h2,h3⟩:=zDH h (nd:=(6,0,x,y)) ⟨by simp,by simp,by simp,fun _=>hx.1,by simp,fun _ _=>hy.1,by simp⟩;exact⟨h1,h2,h3.iff fun w hw=>by simp[ndB,←hx.2 w hw,←hy.2 w hw]⟩
theorem zQ6(h:GV L ns)(hx:Sm L ns x P):GV L (addG ns (8,0,x,0)).1/\zCo 1 ns (addG ns (8,0,x,0)).1/\Sm L (addG ns (8,0,x,0)).1 (addG ns (8,0,x,0)).2 (fun w=>¬P w):=by
 obtain⟨h1,h2,h3⟩:=zDH h (nd:=(8,0,x,0)) ⟨by simp,by simp,by simp,fun _=>hx.1,by simp,by simp,by simp⟩;exact⟨h1,h2,h3.iff fun w hw=>by simp[ndB,←hx.2 w hw]⟩
theorem zBl(h:GV L ns)(hx:Sm L ns x P)(hy:Sm L ns y Q):GV L (addG ns (7,0,x,y)).1/\zCo 1 ns (addG ns (7,0,x,y)).1/\Sm L (addG ns (7,0,x,y)).1 (addG ns (7,0,x,y)).2 (zFY P Q):=by
 obtain⟨h1,h2,h3⟩:=zDH h (nd:=(7,0,x,y)) ⟨by simp,by simp,by simp,fun _=>hx.1,by simp,fun _ _=>hy.1,by simp⟩;refine⟨h1,h2,h3.iff fun w hw=>?_⟩;have e:ndB (zBq ns) (7,0,x,y) w=(List.range (w.length+1)).any fun c=>zBq ns x (w.take c)&&zBq ns y (w.drop c):=rfl
 rw[e,List.any_eq_true];constructor
 ·rintro⟨c,hc,e⟩;rw[Qz]at e;exact⟨w.take c,w.drop c,(List.take_append_drop c w).symm,(hx.2 _ (fun a ha=>hw a (List.mem_of_mem_take ha))).1 e.1,(hy.2 _ (fun a ha=>hw a (List.mem_of_mem_drop ha))).1 e.2⟩
 ·rintro⟨u,v,rfl,hu,hv⟩;refine⟨u.length,List.mem_range.2 (by simp;omega),?_⟩;rw[List.take_left,List.drop_left,Qz];exact⟨(hx.2 _ (fun a ha=>hw a (by simp[ha]))).2 hu,(hy.2 _ (fun a ha=>hw a (by simp[ha]))).2 hv⟩
end
def zEQ(ns:List Nd):List Nat->List Nd×Nat
 |[]=>addG ns (1,0,0,0)
 |x::r=>r.foldl (fun s y=>addG s.1 (5,0,s.2,y)) (ns,x)
theorem zOp{L:Nat}: ∀(r:List Nat) (ns:List Nd) (x:Nat) (P Q:List Nat->Prop),GV L ns->Sm L ns x P->UB L ns r Q→
  GV L (r.foldl (fun s y=>addG s.1 (5,0,s.2,y)) (ns,x)).1/\zCo r.length ns (r.foldl (fun s y=>addG s.1 (5,0,s.2,y)) (ns,x)).1/\Sm L (r.foldl (fun s y=>addG s.1 (5,0,s.2,y)) (ns,x)).1 (r.foldl (fun s y=>addG s.1 (5,0,s.2,y)) (ns,x)).2 (fun w=>P w\/Q w)
 |[],ns,x,P,Q,h,hx,hr=>⟨h,.refl _ _,hx.iff fun w hw=>by have:=hr.2 w hw;simp at this;simp[this]⟩
 |y::r,ns,x,P,Q,h,hx,hr=>by
  have hy:Sm L ns y (fun w=>zBq ns y w=true):=⟨hr.1 y (by simp),fun w _=>Iff.rfl⟩;obtain⟨h1,h2,h3⟩:=zTd h hx hy;have hr2:UB L ns r (fun w=>∃i∈r,zBq ns i w=true):=⟨fun i hi=>hr.1 i (by simp[hi]),fun w _=>Iff.rfl⟩;obtain⟨k1,k2,k3⟩:=zOp r (addG ns (5,0,x,y)).1 (addG ns (5,0,x,y)).2 _ _ h1 h3 (hr2.ext h2);refine⟨k1,(h2.trans k2).mono (by simp;omega),k3.iff fun w hw=>?_⟩;rw[←hr.2 w hw];constructor
  ·rintro((a|a)|⟨i,hi,a⟩)
   ·exact .inl a
   ·exact .inr ⟨y,by simp,a⟩
   ·exact .inr ⟨i,by simp[hi],a⟩
  ·rintro(a|⟨i,hi,a⟩)
   ·exact .inl (.inl a)
   ·rcases List.mem_cons.1 hi with rfl|hi
    ·exact .inl (.inr a)
    ·exact .inr ⟨i,hi,a⟩
theorem zGX{L:Nat}{ns:List Nd}{l:List Nat}{P:List Nat->Prop}(h:GV L ns)(hl:UB L ns l P):GV L (zEQ ns l).1/\zCo (l.length+1) ns (zEQ ns l).1/\Sm L (zEQ ns l).1 (zEQ ns l).2 P:=by
 cases l with
 |nil=>
  obtain⟨h1,h2,h3⟩:=zMY h;exact⟨h1,h2,h3.iff fun w hw=>by have:=hl.2 w hw;simp at this;simp[this]⟩
 |cons x r=>
  have hx:Sm L ns x (fun w=>zBq ns x w=true):=⟨hl.1 x (by simp),fun w _=>Iff.rfl⟩;have hr:UB L ns r (fun w=>∃i∈r,zBq ns i w=true):=⟨fun i hi=>hl.1 i (by simp[hi]),fun w _=>Iff.rfl⟩;obtain⟨k1,k2,k3⟩:=zOp r ns x _ _ h hx hr;refine⟨k1,k2.mono (by simp;omega),k3.iff fun w hw=>?_⟩;rw[←hl.2 w hw];simp
def WoW(P:List Nat->Prop)(w:List Nat):Prop:=¬ ∃p f s,w=p++(f++s)/\P f
def zFF(ns:List Nd)(l:List Nat):List Nd×Nat:=
 if l=[]then addG ns (4,0,0,0)else
  let s1:=addG ns (4,0,0,0)
  let s2:=zEQ s1.1 l
  let s3:=addG s2.1 (4,0,0,0)
  let s4:=addG s3.1 (7,0,s2.2,s3.2)
  let s5:=addG s4.1 (7,0,s1.2,s4.2)
  addG s5.1 (8,0,s5.2,0)
theorem zO3{L:Nat}{ns:List Nd}{l:List Nat}{P:List Nat->Prop}(h:GV L ns)(hl:UB L ns l P):GV L (zFF ns l).1/\zCo (l.length+6) ns (zFF ns l).1/\Sm L (zFF ns l).1 (zFF ns l).2 (WoW P):=by
 unfold zFF;by_cases e:l=[]
 ·rw[if_pos e];obtain⟨h1,h2,h3⟩:=zDg h;refine⟨h1,h2.mono (by omega),h3.iff fun w hw=>⟨fun _=>?_,fun _=>trivial⟩⟩;subst e;rintro⟨p,f,s,rfl,hp⟩;have:=(hl.2 f (fun a ha=>hw a (by simp[ha]))).2 hp;simp at this
 ·rw[if_neg e];obtain⟨a1,a2,a3⟩:=zDg h;obtain⟨b1,b2,b3⟩:=zGX a1 (hl.ext a2);obtain⟨c1,c2,c3⟩:=zDg b1;obtain⟨d1,d2,d3⟩:=zBl c1 (b3.ext c2) c3;obtain⟨e1,e2,e3⟩:=zBl d1 (((a3.ext b2).ext c2).ext d2) d3;obtain⟨f1,f2,f3⟩:=zQ6 e1 e3;refine⟨f1,(((((a2.trans b2).trans c2).trans d2).trans e2).trans f2).mono (by omega),f3.iff fun w hw=>?_⟩;unfold WoW zFY;constructor
  ·rintro hn ⟨p,f,s,rfl,hp⟩;exact hn ⟨p,f++s,rfl,trivial,f,s,rfl,hp,trivial⟩
  ·rintro hn ⟨p,fs,rfl,-,f,s,rfl,hp,-⟩;exact hn ⟨p,f,s,rfl,hp⟩
def BgP(T:Nat->Nat->Nat)(im:Nat->Nat)(R:Nat->Nat->Prop)(w:List Nat):Prop:=∃x a,R x a/\zFY (fun u=>vlW T im u=x) (fun v=>v=[a]) w
def EnP(T:Nat->Nat->Nat)(im:Nat->Nat)(R:Nat->Nat->Prop)(w:List Nat):Prop:=∃x a,R x a/\zFY (fun v=>v=[a]) (fun u=>vlW T im u=x) w
def FbP(T:Nat->Nat->Nat)(im:Nat->Nat)(R1:Nat->Prop)(R:Nat->Nat->Nat->Prop)(w:List Nat):Prop:=(∃a,R1 a/\w=[a])\/ ∃x a c,R x a c/\zFY (zFY (fun v=>v=[a]) (fun u=>vlW T im u=x)) (fun v=>v=[c]) w
def BgC(n:Nat)(T:Nat->Nat->Nat)(im:Nat->Nat)(m x a:Nat):Prop:=RLe n T m (T x (im a))/\RLe n T (T x (im a)) m/\ ¬RLe n T m x
def EnC(n:Nat)(T:Nat->Nat->Nat)(im:Nat->Nat)(m x a:Nat):Prop:=LLe n T m (T (im a) x)/\LLe n T (T (im a) x) m/\ ¬LLe n T m x
def FbC(n:Nat)(T:Nat->Nat->Nat)(im:Nat->Nat)(m x a c:Nat):Prop:=JLe n T (T (im a) x) m/\JLe n T (T x (im c)) m/\ ¬JLe n T (T (T (im a) x) (im c)) m
section
variable{n L:Nat}{T:Nat->Nat->Nat}{im:Nat->Nat}
theorem elem_iff(h:ApM n T)(hi: ∀a,a<L->im a<n){zD3:List Nat}{m:Nat}(hm:m<n)(hm0:m≠0)(hab: ∀x,x<n->JLe n T x m-> ¬JLe n T m x->x∈zD3){w:List Nat}(hw: ∀a∈w,a<L):
  ((
   zFY (BgP T im fun x a=>x∈zD3/\a<L/\BgC n T im m x a) (fun _=>True) w/\zFY (fun _=>True) (EnP T im fun x a=>x∈zD3/\a<L/\EnC n T im m x a) w)∧
   WoW (FbP T im (fun a=>a<L/\ ¬JLe n T (im a) m) fun x a c=>x∈zD3/\a<L/\c<L/\FbC n T im m x a c) w)↔vlW T im w=m:=by
 rw[zTQ h hi hm hm0 hab hw];have e1:zFY (BgP T im fun x a=>x∈zD3/\a<L/\BgC n T im m x a) (fun _=>True) w↔zW1 n T im (fun x=>x∈zD3) m w:=by
  constructor
  ·rintro⟨_,s,rfl,⟨x,a,⟨h1,h2,h3,h4,h5⟩,u,_,rfl,rfl,rfl⟩,-⟩;exact⟨u,a,s,by simp,h1,h3,h4,h5⟩
  ·rintro⟨u,a,s,rfl,h1,h3,h4,h5⟩;exact⟨u++[a],s,by simp,⟨_,a,⟨h1,hw a (by simp),h3,h4,h5⟩,u,[a],rfl,rfl,rfl⟩,trivial⟩
 have e2:zFY (fun _=>True) (EnP T im fun x a=>x∈zD3/\a<L/\EnC n T im m x a) w↔zW3 n T im (fun x=>x∈zD3) m w:=by
  constructor
  ·rintro⟨p,_,rfl,-,x,a,⟨h1,h2,h3,h4,h5⟩,_,v,rfl,rfl,rfl⟩;exact⟨p,a,v,rfl,h1,h3,h4,h5⟩
  ·rintro⟨p,a,v,rfl,h1,h3,h4,h5⟩;exact⟨p,a::v,rfl,trivial,_,a,⟨h1,hw a (by simp),h3,h4,h5⟩,[a],v,rfl,rfl,rfl⟩
 have e3:WoW (FbP T im (fun a=>a<L/\ ¬JLe n T (im a) m) fun x a c=>x∈zD3/\a<L/\c<L/\FbC n T im m x a c) w↔ ¬zWs n T im (fun x=>x∈zD3) m w:=by
  unfold WoW;refine not_congr ?_;constructor
  ·rintro⟨p,f,s,rfl,⟨a,⟨h1,h2⟩,rfl⟩|⟨x,a,c,⟨h1,h2,h3,h4,h5,h6⟩,_,_,rfl,⟨_,u,rfl,rfl,rfl⟩,rfl⟩⟩
   ·exact .inl ⟨p,a,s,rfl,h2⟩
   ·exact .inr ⟨p,a,u,c,s,by simp,h1,h4,h5,h6⟩
  ·rintro(⟨p,a,s,rfl,h2⟩|⟨p,a,u,c,s,rfl,h1,h4,h5,h6⟩)
   ·exact⟨p,[a],s,rfl,.inl ⟨a,⟨hw a (by simp),h2⟩,rfl⟩⟩
   ·exact⟨p,a::(u++[c]),s,by simp,.inr ⟨_,a,c,⟨h1,hw a (by simp),hw c (by simp),h4,h5,h6⟩,a::u,[c],by simp,⟨[a],u,rfl,rfl,rfl⟩,rfl⟩⟩
 rw[e1,e2,e3,and_assoc]
theorem zS9(h:ApM n T)(hi: ∀a,a<L->im a<n): ∀{w:List Nat},(∀a∈w,a<L)->(WoW (fun f=>∃a,(a<L/\im a≠0)/\f=[a]) w↔vlW T im w=0):=by
 have key: ∀w:List Nat,(∀a∈w,a<L)->((∀a∈w,im a=0)↔vlW T im w=0):=by
  intro w
  induction w with
  |nil=>intro _;exact⟨fun _=>rfl,fun _ a ha=>by simp at ha⟩
  |cons a w ih=>
   intro hw;have ha:=hw a (by simp);have hw': ∀b∈w,b<L:=fun b hb=>hw b (by simp[hb])
   have hl:=zCN h hi hw';rw[zBb h hi ha hw'];constructor
   ·intro hz;rw[hz a (by simp),(ih hw').1 (fun b hb=>hz b (by simp[hb])),h.idl 0 h.n0]
   ·intro e b hb;have e1:im a=0:=h.unit (hi a ha) ⟨0,vlW T im w,h.n0,hl,by rw[h.idl _ (hi a ha),e]⟩;rcases List.mem_cons.1 hb with rfl|hb
    ·exact e1
    ·rw[e1,h.idl _ hl]at e;exact(ih hw').2 e b hb
 intro w hw;rw[←key w hw];unfold WoW;constructor
 ·intro hn a ha;refine Classical.byContradiction fun hc=>hn ?_
  obtain⟨p,s,e⟩:=List.append_of_mem ha;exact⟨p,[a],s,by rw[e];rfl,a,⟨hw a ha,hc⟩,rfl⟩
 ·rintro hz ⟨p,f,s,rfl,a,⟨h1,h2⟩,rfl⟩;exact h2 (hz a (by simp))
end
section
variable{n:Nat}{T:Nat->Nat->Nat}
noncomputable def zVh(n:Nat)(T:Nat->Nat->Nat)(x y:Nat):Bool:=@decide (JLe n T x y) (Classical.propDecidable _)
theorem zCy{x y:Nat}:zVh n T x y=true↔JLe n T x y:=by unfold zVh;exact @decide_eq_true_iff _ (Classical.propDecidable _)
noncomputable def szJ(n:Nat)(T:Nat->Nat->Nat)(x:Nat):Nat:=((List.range n).filter fun y=>zVh n T x y).length
theorem zDT{α:Type}{p q:α->Bool}: ∀(l:List α),(∀a∈l,p a=true->q a=true)->(∃a∈l,q a=true/\p a=false)->(l.filter p).length<(l.filter q).length
 |[],_,h=>by obtain⟨a,ha,-⟩:=h;simp at ha
 |a::r,h1,h2=>by
  have hle:(r.filter p).length<=(r.filter q).length:=by
   have: ∀l:List α,(∀a∈l,p a=true->q a=true)->(l.filter p).length<=(l.filter q).length:=by
    intro l
    induction l with
    |nil=>intro _;exact Qy _
    |cons b l ih=>
     intro hb;have h3:=ih fun a ha=>hb a (by simp[ha])
     have h4:=hb b (by simp)
     cases hp:p b<;>cases hq:q b<;>simp[hp,hq]<;>simp_all<;>omega
   exact this r fun a ha=>h1 a (by simp[ha])
  obtain⟨b,hb,e1,e2⟩:=h2;rcases List.mem_cons.1 hb with rfl|hb
  ·simp[e1,e2];omega
  ·have h3:=zDT r (fun a ha=>h1 a (by simp[ha])) ⟨b,hb,e1,e2⟩;have h4:=h1 a (by simp)
   cases hp:p a<;>cases hq:q a<;>simp[hp,hq]<;>simp_all<;>omega
theorem zRw(h:ApM n T){x m:Nat}(hx:x<n)(hm:m<n)(h1:JLe n T x m)(h2: ¬JLe n T m x):szJ n T m<szJ n T x:=by
 unfold szJ;refine zDT _ (fun y hy hj=>?_) ⟨x,List.mem_range.2 hx,zCy.2 (.refl h hx),?_⟩
 ·exact zCy.2 (JLe.trans h hx h1 (zCy.1 hj))
 ·cases e:zVh n T m x with
  |false=>rfl
  |true=>exact absurd (zCy.1 e) h2
theorem zI5(h:ApM n T):szJ n T 0=n:=by
 unfold szJ;rw[List.filter_eq_self.2 (fun y hy=>zCy.2 (h.zTM (List.mem_range.1 hy)))];simp
theorem zPA(h:ApM n T){x:Nat}(hx:x<n)(hx0:x≠0):szJ n T x<n:=by
 have:=zRw h h.n0 hx (h.zTM hx) (fun hj=>hx0 (h.unit hx hj))
 rwa [zI5 h]at this
def zAq(sz:Nat->Nat)(x y:Nat):Prop:=sz y<sz x\/(sz x=sz y/\x<y)
structure zT9(n:Nat)(sz:Nat->Nat)(o:List Nat):Prop where
 len:o.length=n
 nd:o.Nodup
 lt: ∀x∈o,x<n
 all: ∀x,x<n->x∈o
 srt:o.Pairwise (zAq sz)
theorem zT9.zD3(h:ApM n T){o:List Nat}(ho:zT9 n (szJ n T) o){i:Nat}(hi:i<o.length):(∀x,x<n->JLe n T x o[i]-> ¬JLe n T o[i] x->x∈o.take i)/\(o[i]=0↔i=0):=by
 have hlt:=ho.lt o[i] (by simp);have key: ∀x,x<n->szJ n T o[i]<szJ n T x->x∈o.take i:=fun x hx hs=>by
  obtain⟨j,hj,rfl⟩:=Qb (ho.all x hx);rcases Nat.lt_trichotomy j i with c|c|c
  ·rw[List.mem_take_iff_getElem];exact⟨j,by omega,rfl⟩
  ·subst c;omega
  ·have:=List.pairwise_iff_getElem.1 ho.srt i j hi hj c;unfold zAq at this;omega
 refine⟨fun x hx h1 h2=>key x hx (zRw h hx hlt h1 h2),?_,?_⟩
 ·intro e;refine Classical.byContradiction fun hi0=>?_
  have hz:=List.pairwise_iff_getElem.1 ho.srt 0 i (by omega) hi (by omega);have h0:o[0]≠0:=fun e2=>by
   have:=(List.nodup_iff_pairwise_ne.1 ho.nd);have:=List.pairwise_iff_getElem.1 this 0 i (by omega) hi (by omega);exact this (by rw[e,e2])
  have h1:=zPA h (ho.lt o[0] (by simp)) h0;have h2:=zI5 h;rw[e]at hz;unfold zAq at hz;omega
 ·rintro rfl;refine Classical.byContradiction fun h0=>?_
  have h1:=zPA h hlt h0;have h2:=zI5 h;have:=key 0 h.n0 (by omega);simp at this
end
def zFX(pre:List Nat)(x j:Nat)(rest:List Nat):List Nat:=pre.take j++x::(pre.drop j++rest)
theorem zKv{pre:List Nat}{x j:Nat}{rest:List Nat}(hj:j<=pre.length):(zFX pre x j rest).length=pre.length+1+rest.length:=by
 unfold zFX;simp;omega
theorem zEN{pre:List Nat}{x j:Nat}{rest:List Nat}(hj:j<=pre.length)(k:Nat):(zFX pre x j rest)[k]? =if k<j then pre[k]? else if k=j then some x else(pre++rest)[k-1]?:=by
 unfold zFX;by_cases h:k<j
 ·rw[if_pos h,Qw (by simp;omega),List.getElem?_take,if_pos h]
 rw[if_neg h,Qa (by simp;omega)];have hl:(pre.take j).length=j:=by simp;omega
 rw[hl];by_cases e:k=j
 ·subst e;rw[if_pos rfl,Nat.sub_self];rfl
 ·rw[if_neg e];obtain⟨d,rfl⟩: ∃d,k=j+1+d:=⟨k-j-1,by omega⟩;rw[show j+1+d-j=d+1 by omega,Qi,show j+1+d-1=j+d by omega];by_cases hd:d<(pre.drop j).length
  ·rw[Qw hd,List.getElem?_drop,Qw (by simp at hd;omega)]
  ·rw[Qa (by omega),Qa (by simp at hd;omega)];congr 1;simp;omega
theorem zOI(pre:List Nat)(x:Nat)(rest:List Nat):zFX pre x pre.length rest=pre++x::rest:=by
 unfold zFX;simp
theorem zOh{pre:List Nat}{x j:Nat}{rest:List Nat}(h0:0<j)(hj:j<=pre.length):((zFX pre x j rest).set j (pre[j-1]'(by omega))).set (j-1) x=zFX pre x (j-1) rest:=by
 refine List.ext_getElem? fun k=>?_
 have hl:=zKv (x:=x) (rest:=rest) hj;rw[List.getElem?_set,List.getElem?_set,zEN hj,zEN (by omega)];simp only[List.length_set,hl];by_cases e1:j-1=k
 ·subst e1;rw[if_pos rfl,if_pos (by omega),if_neg (by omega),if_pos rfl]
 ·rw[if_neg e1];by_cases e2:j=k
  ·subst e2;rw[if_pos rfl,if_pos (by omega),if_neg (by omega),if_neg (by omega),Qw (by omega),Qj (by omega)]
  ·rw[if_neg e2];by_cases h:k<j
   ·rw[if_pos h,if_pos (by omega)]
   ·rw[if_neg h,if_neg (by omega),if_neg (by omega),if_neg (by omega)]
theorem zMd(pre:List Nat)(x j:Nat)(rest:List Nat):(zFX pre x j rest).Perm (pre++x::rest):=by
 unfold zFX;have h1:(pre.take j++x::(pre.drop j++rest)).Perm (x::(pre.take j++(pre.drop j++rest))):=List.perm_middle;have h2:(pre++x::rest).Perm (x::(pre++rest)):=List.perm_middle;refine h1.trans (List.Perm.trans ?_ h2.symm);rw[←List.append_assoc,List.take_append_drop]
theorem zJd{R:Nat->Nat->Prop}(tr: ∀a b c,R a b->R b c->R a c){pre:List Nat}{x j:Nat}(hj:j<=pre.length)(hp:pre.Pairwise R)(hx: ∀y∈pre.drop j,R x y)(hl: ∀h:0<j,R (pre[j-1]'(by omega)) x):(pre.take j++x::pre.drop j).Pairwise R:=by
 have h0:=hp;rw[←List.take_append_drop j pre,List.pairwise_append]at h0;obtain⟨p1,p2,p3⟩:=h0;rw[List.pairwise_append];refine⟨p1,List.pairwise_cons.2 ⟨hx,p2⟩,fun a ha b hb=>?_⟩;rcases List.mem_cons.1 hb with rfl|hb
 ·obtain⟨k,hk,e⟩:=List.mem_take_iff_getElem.1 ha;have h:=hl (by omega);by_cases c:k=j-1
  ·subst c;rw[←e];exact h
  ·rw[←e];exact tr _ _ _ (List.pairwise_iff_getElem.1 hp k (j-1) (by omega) (by omega) (by omega)) h
 ·exact p3 a ha b hb
theorem zQQ(sz:Nat->Nat)(a b c:Nat):zAq sz a b->zAq sz b c->zAq sz a c:=by
 unfold zAq;omega
theorem zMx(sz:Nat->Nat){a b:Nat}(h:a≠b):zAq sz a b\/zAq sz b a:=by
 unfold zAq;omega
theorem zT9.of{n:Nat}{sz:Nat->Nat}{o:List Nat}(hp:o.Perm (List.range n))(hs:o.Pairwise (zAq sz)):zT9 n sz o:=by
 refine⟨by rw[hp.length_eq];simp,hp.nodup_iff.2 List.nodup_range,fun x hx=>List.mem_range.1 (hp.mem_iff.1 hx),fun x hx=>hp.mem_iff.2 (List.mem_range.2 hx),hs⟩
