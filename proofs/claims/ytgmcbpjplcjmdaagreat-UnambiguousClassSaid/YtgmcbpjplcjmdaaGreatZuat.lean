/- Lemmas for the law unambiguousClass. No conditions. -/
import Derived.Test.YtgmcbpjplcjmdaaGreatZuas
import Derived.Test.YtgmcbpjplcjmdaaGreatZuap
set_option linter.all false
namespace Go.Proofs.YtgmcbpjplcjmdaaGreat.M
open Go.RowKit
set_option maxRecDepth 100000
set_option maxHeartbeats 32000000

def txB(e:List Int):ByteArray:=zBa (e.map (.int .u8))
def txT(e:List Int):T:=.str (txB e)
theorem zFH: ∀(cs:List T) (r:ByteArray),cs.foldl (fun r c=>r.push (UInt8.ofNat (u8n c).toNat)) r=⟨r.data++(cs.map fun c=>UInt8.ofNat (u8n c).toNat).toArray⟩
 |[],r=>by simp
 |c::cs,r=>by
  rw[List.foldl_cons,zFH cs];congr 1;simp[ByteArray.push]
theorem zRa{e f:List Int}(he: ∀v∈e,0<=v/\v<256)(hf: ∀v∈f,0<=v/\v<256)(h:txB e=txB f):e=f:=by
 unfold txB zBa at h;rw[zFH,zFH]at h;have h1:=congrArg (fun b:ByteArray=>b.data.toList) h;simp only[Array.toList_append,List.map_map]at h1;have h2:=List.append_cancel_left h1;clear h h1
 induction e generalizing f with
 |nil=>cases f with
  |nil=>rfl
  |cons b f=>simp at h2
 |cons a e ih=>
  cases f with
  |nil=>simp at h2
  |cons b f=>
   simp only[List.map_cons,List.cons.injEq]at h2;obtain⟨h3,h4⟩:=h2;have ha:=he a (by simp);have hb:=hf b (by simp);have h5:=congrArg UInt8.toNat h3;simp only[Function.comp,u8n,UInt8.toNat_ofNat']at h5;rw[ih (fun v hv=>he v (by simp[hv])) (fun v hv=>hf v (by simp[hv])) h4];congr 1;omega
theorem zSo{e f:List Int}(he: ∀v∈e,0<=v/\v<256)(hf: ∀v∈f,0<=v/\v<256):kEq (txT e) (txT f)=decide (e=f):=by
 rw[Bool.eq_iff_iff];simp only[txT,kEq,decide_eq_true_eq];rw[zOf];exact⟨zRa he hf,fun h=>by rw[h]⟩
theorem zM4{n:Nat}{els:List (List Int)}{f:List Int}(hn:n<=256)(he: ∀e∈els,TrN n e)(hf:TrN n f):fndT (txT f) (kents txT 0 els)=ixA f els:=
 zCv els 0 fun y hy=>zSo (fun v hv=>by have:=hf.2 v hv;omega) (fun v hv=>by have:=(he y hy).2 v hv;omega)
theorem zFw{x:Nat}(hx:x<=20):Utf8.encode (97+(x:Int))=zAZ [x]:=by
 rcases(by omega:x=0\/x=1\/x=2\/x=3\/x=4\/x=5\/x=6\/x=7\/x=8\/x=9\/x=10\/x=11\/x=12\/x=13\/x=14\/x=15\/x=16\/x=17\/x=18\/x=19\/x=20)with rfl|rfl|rfl|rfl|rfl|rfl|rfl|rfl|rfl|rfl|rfl|rfl|rfl|rfl|rfl|rfl|rfl|rfl|rfl|rfl|rfl<;>rfl
def txC(e:List Int)(k:Nat):List T:=tab e.length fun i=>.int .u8 (if i<k then e.getD i 0 else 0)
theorem zPf(e:List Int):List.replicate e.length (T.int .u8 0)=txC e 0:=by
 rw[zz];rfl
theorem zSa{e:List Int}{k:Nat}(h:k<e.length):(txC e k).set k (.int .u8 e[k])=txC e (k+1):=by
 unfold txC;rw[zb];refine zK fun i hi=>?_
 by_cases c:i=k
 ·subst c;rw[if_pos rfl,if_pos (by omega),Qv,Qj h];rfl
 ·rw[if_neg c];by_cases c2:i<k
  ·rw[if_pos c2,if_pos (by omega)]
  ·rw[if_neg c2,if_neg (by omega)]
theorem zQI(e:List Int):txC e e.length=e.map (.int .u8):=by
 apply List.ext_getElem?;intro i;by_cases h:i<e.length
 ·unfold txC;rw[zO _ h,if_pos h,Qi,Qv,Qj h];rfl
 ·rw[Qh (by simp[txC];omega),Qh (by simp;omega)]
theorem zSO(e:List Int)(k:Nat):(txC e k).all isU8=true:=by
 rw[List.all_eq_true];intro x hx;simp only[txC,tab,List.mem_map]at hx;obtain⟨i,-,rfl⟩:=hx;rfl
@[simp] theorem zVK(e:List Int)(k:Nat):(txC e k).length=e.length:=by simp[txC]
theorem zIq{e:List Int}(he: ∀v∈e,0<=v/\v<256)(hl:e.length<=100000):FnA Tryz.prog 197 [.t 0 (ints e)] (.t 2 (txT e)):=by
 refine fI 24 #[.tmp 2] Tryz.func197 rfl ?_;refine rg0 ?_;refine rg1 @zPf ?_;refine zA ?_;refine rg0 ?_;refine zB ?_;refine awp_loop (fun y:Nat=>mkS [(3,.own 0 e.length),(9,.t 0 (ints e)),(10,.t 2 (.int .i64 e.length)),(11,.t 2 (.int .i64 y))] [(0,.row 5 1 2 (txC e y))] 1 24 [.any]) (fun y=>y<=e.length) (fun y=>e.length-y) ?_ ?_
 ·refine⟨0,by omega,?_⟩;exact kw0 [(0,some 3000000)]
 intro y hy;refine rg0 ?_;refine zA ?_;by_cases hc:y<e.length
 ·have hv:=he e[y] (by simp);have hw:IntKind.u8.wrap e[y]=e[y]:=wr8 _ hv.1 (by omega);have hset:=zSa hc;refine cK1 @hc ?_;refine zA ?_;refine zB ?_;refine rg1 @hc ?_;refine rr1 (an @hw (an @hset @hc)) ?_;refine rr0 ?_;refine⟨y+1,by omega,by omega,?_⟩;exact kw0 [(0,some 0)]
 ·obtain rfl:y=e.length:=by omega
  have hall:=zSO e e.length;refine cF0 ?_;refine zE ?_;refine rg1 @hall ?_;exact zC (rt1 (an @txT.eq_1 (an @txB.eq_1 @zQI)))
def rnB(n:Nat)(gs:List (List Int))(a b c d e:Nat)(dn:Nat)(f g h:Nat):AObj:=.box 257 [.t 2 (.int .i64 n),.t 2 (.bool true),.t 1 (rows gs),.own 1 a,.own 2 b,.own 3 c,.own 4 d,.own 5 e,.t 2 (.int .i64 dn),.own 6 0,.own 7 f,.own 8 g,.own 9 h]
def rnO(n:Nat)(gs els:List (List Int))(pre last:List Int)(wds:List (List Nat))(right:List (List Int))(rls:List T)(dn:Nat)(beh sgl:List Int):List AObj:=
 [rnB n gs els.length pre.length last.length right.length rls.length dn wds.length beh.length sgl.length,
  .row 22 1 1 (els.map ints),.row 3 1 1 (pre.map (.int .i64)),.row 3 1 1 (last.map (.int .i64)),.row 22 1 1 (right.map ints),.row 214 2 1 rls,
  .map 9 3 (kents txT 0 els),.row 9 1 1 (wsT wds),.row 3 1 1 (beh.map (.int .i64)),.row 3 1 1 (sgl.map (.int .i64))]
@[simp] theorem zUs(ws:List (List Nat)):(wsT ws).length=ws.length:=by simp[wsT]
theorem zCf(e:List Int):kOK Tryz.prog 9 (txT e)=true:=zRd _
theorem zJL{n:Nat}{gs els:List (List Int)}{pre last:List Int}{wds:List (List Nat)}{right:List (List Int)}{rls:List T}{dn:Nat}{beh sgl:List Int}{f:List Int}(p x:Int)(w:List Nat)(b:Int)(hn:n<=256)(he: ∀e∈els,TrN n e)(hf:TrN n f)(hnew:ixA f els=none)(hl:els.length<=100000)(h1:pre.length=els.length)(h2:last.length=els.length)(h3:wds.length=els.length)(h4:beh.length=els.length):
  FnS Tryz.prog 195 [.ptr 0 0 13,.t 1 (ints f),.t 2 (.int .i64 p),.t 2 (.int .i64 x),.t 2 (.str (zAZ w)),.t 2 (.int .i64 b)] (rnO n gs els pre last wds right rls dn beh sgl) (.t 2 (.int .i64 els.length)) (rnO n gs (els++[f]) (pre++[p]) (last++[x]) (wds++[w]) right rls dn (beh++[b]) sgl):=by
 have hfn:=zM4 hn he hf;have hall:=zCa txT (P:=Tryz.prog) (K:=9) zCf els 0;have htx:=zIq (e:=f) (fun v hv=>by have:=hf.2 v hv;omega) (by have:=hf.1;omega);refine fI 84 #[.tmp 12] Tryz.func195 rfl ?_;refine rg1 (an @rnO.eq_1 @rnB.eq_1) ?_;refine rg0 ?_;refine rq1 htx (an @hfn (an @hnew (an @hall @zCf))) ?_;refine rg0 ?_;refine rg0 ?_;refine rg0 ?_;refine rg0 ?_;refine rg0 ?_;refine rg0 ?_;refine zC ?_;refine⟨⟨.inr rfl,_,[(0,some 0),(1,some 1),(2,some 2),(3,some 3),(4,some 4),(5,some 5),(6,some 6),(7,some 7),(8,some 8),(9,some 9)],(by first|rfl|(simp[ints,rows,scal,tpO,rnO,rnB,zBt,wsT];rfl)),?_,?_,?_,?_⟩,?_⟩
 all_goals try simp[ints,rows,rnO,rnB,zBt,wsT]
 exact Nat.le_min.2 ⟨Qy 1,zEn _⟩
theorem zH3{n:Nat}{gs els:List (List Int)}{pre last:List Int}{wds:List (List Nat)}{right:List (List Int)}{rls:List T}{dn:Nat}{beh sgl:List Int}{b x:Nat}(hb:b<right.length)(hx:x<right[b].length):
  FnS Tryz.prog 199 [.ptr 0 0 13,.t 2 (.int .i64 b),.t 2 (.int .i64 x)] (rnO n gs els pre last wds right rls dn beh sgl) (.t 2 (.int .i64 right[b][x])) (rnO n gs els pre last wds right rls dn beh sgl):=by
 have hb0: ¬(b:Int)= -1:=by omega
 refine fI 27 #[.tmp 6] Tryz.func199 rfl ?_;refine rg1 (an @rnO.eq_1 @rnB.eq_1) ?_;refine zA ?_;refine rg1 @hb0 ?_;refine cS0 ?_;refine rg1 (an @hb @hx) ?_;refine zC ?_;refine⟨⟨.inr rfl,_,[(0,some 0),(1,some 1),(2,some 2),(3,some 3),(4,some 4),(5,some 5),(6,some 6),(7,some 7),(8,some 8),(9,some 9)],(by first|rfl|(simp[ints,rows,scal,tpO,rnO,rnB];rfl)),?_,?_,?_,?_⟩,?_⟩
 all_goals try simp[rows,rnO,rnB]
theorem zHr{n:Nat}{gs els:List (List Int)}{pre last:List Int}{wds:List (List Nat)}{right:List (List Int)}{rls:List T}{dn:Nat}{beh sgl:List Int}:
  FnS Tryz.prog 182 [.ptr 0 0 13] (rnO n gs els pre last wds right rls dn beh sgl) (.t 2 (.bool (decide (dn=els.length)))) (rnO n gs els pre last wds right rls dn beh sgl):=by
 have he:((dn:Int)==(els.length:Int))=decide (dn=els.length):=by
  rw[Bool.eq_iff_iff];simp[Int.ofNat_inj]
 refine fI 15 #[.tmp 2] Tryz.func182 rfl ?_;refine rg1 (an @rnO.eq_1 @rnB.eq_1) ?_;refine rd0 ?_;refine zC ?_;refine⟨⟨.inr rfl,_,[(0,some 0),(1,some 1),(2,some 2),(3,some 3),(4,some 4),(5,some 5),(6,some 6),(7,some 7),(8,some 8),(9,some 9)],(by first|rfl|(simp[ints,rows,scal,tpO,rnO,rnB,he];rfl)),?_,?_,?_,?_⟩,?_⟩
 all_goals try simp[rows,rnO,rnB,he]
theorem zEa{n:Nat}{f:List Int}(hf:TrN n f)(hn1:1<=n)(hn:n<=32):FnA Tryz.prog 194 [.t 0 (ints f)] (.t 2 (.bool true)):=by
 have hl:=hf.1;have c1: ¬(f.length:Int)<1:=by omega
 have c2: ¬32<(f.length:Int):=by omega
 refine fI 28 #[.tmp 2] Tryz.func194 rfl ?_;refine rg0 ?_;refine zA ?_;refine rg1 (an @c1 @c2) ?_;refine cS0 ?_;refine zA ?_;refine rg0 ?_;refine zB ?_;refine awp_loop (fun k:Nat=>mkS [(0,.t 0 (ints f)),(13,.t 0 (ints f)),(14,.t 2 (.int .i64 f.length)),(15,.t 2 (.int .i64 k))] [] 0 28 [.any]) (fun k=>k<=f.length) (fun k=>f.length-k) ?_ ?_
 ·refine⟨0,by omega,?_⟩;exact kw0 []
 intro k hk;refine rg0 ?_;refine zA ?_;by_cases hlt:k<f.length
 ·have hv:=hf.2 f[k] (by simp);have d1: ¬f[k]<0:=by omega
  have d2: ¬(f.length:Int)<=f[k]:=by omega
  refine cK1 @hlt ?_;refine zA ?_;refine zB ?_;refine rg1 @hlt ?_;refine rg1 (an @d1 @d2) ?_;refine cY0 ?_;refine rr0 ?_;refine⟨k+1,by omega,by omega,?_⟩;exact kw0 []
 ·refine cF1 @hlt ?_;refine zE ?_;refine rg0 ?_;exact zC rt0
theorem zN2{n:Nat}(hn1:1<=n)(hn:n<=32):FnA Tryz.prog 196 [.t 2 (.int .i64 n)] (.t 2 (ints (idL n))):=by
 have c1: ¬(n:Int)<1:=by omega
 have c2: ¬32<(n:Int):=by omega
 refine fI 24 #[.tmp 2] Tryz.func196 rfl ?_;refine rg0 ?_;refine zA ?_;refine rg1 (an @c1 @c2) ?_;refine cS0 ?_;refine rg0 ?_;refine zA ?_;refine rg0 ?_;refine zB ?_;refine awp_loop (fun k:Nat=>mkS [(3,.own 0 n),(14,.t 2 (.int .i64 n)),(15,.t 2 (.int .i64 k))] [(0,.row 3 1 2 (tab n fun i=>.int .i64 (if i<k then(i:Int)else 0)))] 1 24 [.any]) (fun k=>k<=n) (fun k=>n-k) ?_ ?_
 ·refine⟨0,by omega,?_⟩;exact kw1 [(0,some 8000000)] @zz
 intro k hk;refine rg0 ?_;refine zA ?_;by_cases hlt:k<n
 ·refine cT1 @hlt ?_;refine zQ ?_;refine zA ?_;refine zB ?_;refine rg0 ?_;refine rr1 @hlt ?_;refine rr0 ?_;refine⟨k+1,by omega,by omega,?_⟩;refine zH [(0,some 0)] rfl ?_ ?_ ?_ ?_
  all_goals try simp
  rw[zb];refine zK (fun i hi=>?_);by_cases e:i=k
  ·simp[e]
  ·rw[if_neg e];by_cases e2:i<k
   ·rw[if_pos e2,if_pos (by omega)]
   ·rw[if_neg e2,if_neg (by omega)]
 ·refine cF1 @hlt ?_;refine zE ?_;refine rg0 ?_;refine zC ?_;refine⟨⟨.inr rfl,_,[],rfl,trivial,trivial,by simp,?_⟩,by simp⟩;simp[ints,idL];rw[zT];exact zK (fun i hi=>by rw[if_pos (by omega)])
def cmC(f g:List Int)(k:Nat):List T:=tab f.length fun i=>.int .i64 (if i<k then g.getD (f.getD i 0).toNat 0 else 0)
theorem zSP{f g:List Int}{k:Nat}(h:k<f.length)(v:Int)(hv:g.getD f[k].toNat 0=v):(cmC f g k).set k (.int .i64 v)=cmC f g (k+1):=by
 unfold cmC;rw[zb];refine zK fun i hi=>?_
 by_cases c:i=k
 ·subst c;rw[if_pos rfl,if_pos (by omega),Qv (l:=f),Qj h,←hv];rfl
 ·rw[if_neg c];by_cases c2:i<k
  ·rw[if_pos c2,if_pos (by omega)]
  ·rw[if_neg c2,if_neg (by omega)]
theorem zPX(f g:List Int):List.replicate f.length (T.int .i64 0)=cmC f g 0:=by
 rw[zz];rfl
theorem zQT(f g:List Int):cmC f g f.length=(zn f g).map (.int .i64):=by
 apply List.ext_getElem?;intro i;by_cases h:i<f.length
 ·unfold cmC zn;rw[zO _ h,if_pos h,Qi,Qi,Qv (l:=f),Qj h];rfl
 ·rw[Qh (by simp[cmC];omega),Qh (by simp[zn];omega)]
@[simp] theorem zUy(f g:List Int)(k:Nat):(cmC f g k).length=f.length:=by simp[cmC]
theorem zIe{n:Nat}{f g:List Int}(hf:TrN n f)(hg:TrN n g)(hn1:1<=n)(hn:n<=32):FnA Tryz.prog 198 [.t 0 (ints f),.t 0 (ints g)] (.t 2 (ints (zn f g))):=by
 have hfl:=hf.1;have hgl:=hg.1;refine fI 42 #[.tmp 4] Tryz.func198 rfl ?_;refine rg0 ?_;refine zA ?_;refine zF fun K hK=>?_
 simp(maxSteps:=2000000)(disch:=omega)[hfl,hgl]
 (repeat' apply And.intro)
 all_goals (try omega)
 refine zD (caps:=[]) (zEa hf hn1 hn) [] [] 2 (by simp) rfl rfl rfl (by kernel_rfl) (by simp) ?_ trivial trivial rfl trivial trivial (by simp) ?_
 ·simp[scal,ints]
 simp(maxSteps:=2000000)(disch:=omega)[scal]
 (repeat' apply And.intro)
 all_goals (try omega)
 refine zD (caps:=[]) (zEa hg hn1 hn) [] [] 2 (by simp) rfl rfl rfl (by kernel_rfl) (by simp) ?_ trivial trivial rfl trivial trivial (by simp) ?_
 ·simp[scal,ints]
 simp(maxSteps:=2000000)(disch:=omega)[scal]
 (repeat' first|apply hK|apply And.intro)<;>try first|omega|rfl|(simp<;>omega)
 refine cS0 ?_;refine rg0 ?_;refine zA ?_;refine rg0 ?_;refine zB ?_;refine awp_loop (fun k:Nat=>mkS [(1,.t 0 (ints g)),(5,.own 0 f.length),(26,.t 0 (ints f)),(27,.t 2 (.int .i64 f.length)),(28,.t 2 (.int .i64 k))] [(0,.row 3 1 2 (cmC f g k))] 1 42 [.any,.any]) (fun k=>k<=f.length) (fun k=>f.length-k) ?_ ?_
 ·refine⟨0,by omega,?_⟩;refine zH [(0,some 18000000)] rfl ?_ ?_ ?_ ?_
  all_goals try simp[ints,←zPX]
 intro k hk;refine rg0 ?_;refine zA ?_;by_cases hlt:k<f.length
 ·have hv:=hf.2 f[k] (by simp);obtain⟨m,hm⟩: ∃m:Nat,f[k]=(m:Int):=⟨f[k].toNat,by omega⟩;have hml:m<g.length:=by omega
  have hst:=zSP (g:=g) hlt g[m] (by rw[hm,Qv,Int.toNat_natCast,Qj hml];rfl);refine cT1 @hlt ?_;refine zQ ?_;refine zA ?_;refine zB ?_;refine rg1 (an @hlt @hm) ?_;refine rr1 (an @hml (an @hst @hlt)) ?_;refine rr0 ?_;refine⟨k+1,by omega,by omega,?_⟩;exact kw0 [(0,some 0)]
 ·obtain rfl:k=f.length:=by omega
  refine cF0 ?_;refine zE ?_;refine rg0 ?_;refine zC ?_;refine⟨⟨.inr rfl,_,[],rfl,trivial,trivial,by simp,?_⟩,by simp⟩;simp[zQT];exact⟨by simp[zn],rfl⟩
theorem zIo{n:Nat}{gs els:List (List Int)}{pre last:List Int}{wds:List (List Nat)}{right:List (List Int)}{rls:List T}{dn:Nat}{beh sgl:List Int}{b x m:Nat}(hb:b<right.length)(hx:x<right[b].length)(hm:right[b][x]=(m:Int))(h1:m<pre.length)(h2:m<last.length):
  ∃c:Bool,FnS Tryz.prog 200 [.ptr 0 0 13,.t 2 (.int .i64 b),.t 2 (.int .i64 x)] (rnO n gs els pre last wds right rls dn beh sgl) (.t 2 (.bool c)) (rnO n gs els pre last wds right rls dn beh sgl):=by
 have haf:=zH3 (n:=n) (gs:=gs) (els:=els) (pre:=pre) (last:=last) (wds:=wds) (rls:=rls) (dn:=dn) (beh:=beh) (sgl:=sgl) hb hx;rw[hm]at haf;by_cases c1:pre[m]=(b:Int)
 ·by_cases c2:last[m]=(x:Int)
  ·refine⟨true,?_⟩;refine fI 34 #[.tmp 6] Tryz.func200 rfl ?_;refine rg1 (an @rnO.eq_1 @rnB.eq_1) ?_;refine zF fun K hK=>?_
   simp(maxSteps:=2000000)(disch:=omega)
   (repeat' apply And.intro)
   all_goals (try omega)
   refine zD (caps:=[]) (haf) [0,1,2,3,4,5,6,7,8,9] [0,4000010,4000011,4000012,4000013,4000014,4000015,4000016,4000017,4000018] 1 rfl rfl rfl rfl (by kernel_rfl) (by simp) ?_ ?_ (by simp) rfl (by simp) ⟨.inr ⟨rfl,0,_,_,_,_,_,rfl,rfl,(by first|rfl|simp[rnO,rnB]),rfl,(by first|rfl|simp[rnO,rnB])⟩,.inl ⟨by omega,by omega⟩,.inl ⟨by omega,by omega⟩,.inl ⟨by omega,by omega⟩,.inl ⟨by omega,by omega⟩,.inl ⟨by omega,by omega⟩,.inl ⟨by omega,by omega⟩,.inl ⟨by omega,by omega⟩,.inl ⟨by omega,by omega⟩,.inl ⟨by omega,by omega⟩,trivial⟩ (by simp[rnO,rnB]) ?_
   ·simp[scal]
   ·simp[scal,rows,rnO,rnB]
   simp(maxSteps:=2000000)(disch:=omega)[rows,scal,rnO,rnB]
   (repeat' first|apply hK|apply And.intro)<;>try first|omega|rfl|(simp<;>omega)
   refine rg1 (an @h1 (an @h2 (an @c1 @c2))) ?_;refine zC ?_;refine⟨⟨.inr rfl,_,[(0,some 0),(1,some 4000010),(2,some 4000011),(3,some 4000012),(4,some 4000013),(5,some 4000014),(6,some 4000015),(7,some 4000016),(8,some 4000017),(9,some 4000018)],(by first|rfl|(simp[ints,rows,scal,tpO,rnO,rnB];rfl)),?_,?_,?_,?_⟩,?_⟩
   all_goals try simp[rows,rnO,rnB]
  ·refine⟨false,?_⟩;refine fI 34 #[.tmp 6] Tryz.func200 rfl ?_;refine rg1 (an @rnO.eq_1 @rnB.eq_1) ?_;refine zF fun K hK=>?_
   simp(maxSteps:=2000000)(disch:=omega)
   (repeat' apply And.intro)
   all_goals (try omega)
   refine zD (caps:=[]) (haf) [0,1,2,3,4,5,6,7,8,9] [0,4000010,4000011,4000012,4000013,4000014,4000015,4000016,4000017,4000018] 1 rfl rfl rfl rfl (by kernel_rfl) (by simp) ?_ ?_ (by simp) rfl (by simp) ⟨.inr ⟨rfl,0,_,_,_,_,_,rfl,rfl,(by first|rfl|simp[rnO,rnB]),rfl,(by first|rfl|simp[rnO,rnB])⟩,.inl ⟨by omega,by omega⟩,.inl ⟨by omega,by omega⟩,.inl ⟨by omega,by omega⟩,.inl ⟨by omega,by omega⟩,.inl ⟨by omega,by omega⟩,.inl ⟨by omega,by omega⟩,.inl ⟨by omega,by omega⟩,.inl ⟨by omega,by omega⟩,.inl ⟨by omega,by omega⟩,trivial⟩ (by simp[rnO,rnB]) ?_
   ·simp[scal]
   ·simp[scal,rows,rnO,rnB]
   simp(maxSteps:=2000000)(disch:=omega)[rows,scal,rnO,rnB]
   (repeat' first|apply hK|apply And.intro)<;>try first|omega|rfl|(simp<;>omega)
   refine rg1 (an @h1 (an @h2 (an @c1 @c2))) ?_;refine zC ?_;refine⟨⟨.inr rfl,_,[(0,some 0),(1,some 4000010),(2,some 4000011),(3,some 4000012),(4,some 4000013),(5,some 4000014),(6,some 4000015),(7,some 4000016),(8,some 4000017),(9,some 4000018)],(by first|rfl|(simp[ints,rows,scal,tpO,rnO,rnB];rfl)),?_,?_,?_,?_⟩,?_⟩
   all_goals try simp[rows,rnO,rnB]
   exact c2
 ·refine⟨false,?_⟩;have c3:(pre[m]==(b:Int))=false:=by simpa using c1
  refine fI 34 #[.tmp 6] Tryz.func200 rfl ?_;refine rg1 (an @rnO.eq_1 @rnB.eq_1) ?_;refine zF fun K hK=>?_
  simp(maxSteps:=2000000)(disch:=omega)
  (repeat' apply And.intro)
  all_goals (try omega)
  refine zD (caps:=[]) (haf) [0,1,2,3,4,5,6,7,8,9] [0,4000010,4000011,4000012,4000013,4000014,4000015,4000016,4000017,4000018] 1 rfl rfl rfl rfl (by kernel_rfl) (by simp) ?_ ?_ (by simp) rfl (by simp) ⟨.inr ⟨rfl,0,_,_,_,_,_,rfl,rfl,(by first|rfl|simp[rnO,rnB]),rfl,(by first|rfl|simp[rnO,rnB])⟩,.inl ⟨by omega,by omega⟩,.inl ⟨by omega,by omega⟩,.inl ⟨by omega,by omega⟩,.inl ⟨by omega,by omega⟩,.inl ⟨by omega,by omega⟩,.inl ⟨by omega,by omega⟩,.inl ⟨by omega,by omega⟩,.inl ⟨by omega,by omega⟩,.inl ⟨by omega,by omega⟩,trivial⟩ (by simp[rnO,rnB]) ?_
  ·simp[scal]
  ·simp[scal,rows,rnO,rnB]
  simp(maxSteps:=2000000)(disch:=omega)[rows,scal,rnO,rnB]
  (repeat' first|apply hK|apply And.intro)<;>try first|omega|rfl|(simp<;>omega)
  refine rg1 (an @h1 (an @h2 @c3)) ?_;refine zC ?_;refine⟨⟨.inr rfl,_,[(0,some 0),(1,some 4000010),(2,some 4000011),(3,some 4000012),(4,some 4000013),(5,some 4000014),(6,some 4000015),(7,some 4000016),(8,some 4000017),(9,some 4000018)],(by first|rfl|(simp[ints,rows,scal,tpO,rnO,rnB];rfl)),?_,?_,?_,?_⟩,?_⟩
  all_goals try simp[rows,rnO,rnB]
structure RnI(n:Nat)(gs els:List (List Int))(pre last:List Int)(wds:List (List Nat))(right:List (List Int))(d:Nat)(beh:List Int):Prop where
 pr:PrI n gs els pre last wds right d
 bl:beh.length=els.length
 bt: ∀t,0<t->t<els.length-> ∃b:Nat,beh[t]? =some (b:Int)/\b<t
theorem RnI.app{n:Nat}{gs els els':List (List Int)}{pre last pre' last':List Int}{wds wds':List (List Nat)}{right:List (List Int)}{d:Nat}{beh:List Int}(h:RnI n gs els pre last wds right d beh)(h':PrI n gs els' pre' last' wds' right d)(hl:els'.length=els.length+1){m:Nat}(hm:m<els.length):RnI n gs els' pre' last' wds' right d (beh++[(m:Int)]):=by
 have hb:=h.bl;refine⟨h',by simp[hb,hl],fun t h1 h2=>?_⟩;by_cases ht:t<els.length
 ·obtain⟨b,b1,b2⟩:=h.bt t h1 ht;exact⟨b,by rw[Qw (by omega)];exact b1,b2⟩
 ·have:t=els.length:=by omega
  subst this;exact⟨m,by rw[Qa (by omega),hb];simp,hm⟩
def rwC(L:Nat)(rw:List Int):List T:=rw.map (.int .i64)++List.replicate (L-rw.length) (.int .i64 0)
theorem zNc{L:Nat}{rw:List Int}(h:rw.length<=L):(rwC L rw).length=L:=by simp[rwC];omega
theorem zRC(L:Nat):List.replicate L (T.int .i64 0)=rwC L []:=by simp[rwC]
theorem zPN{L:Nat}{rw:List Int}(h:rw.length=L):rwC L rw=rw.map (.int .i64):=by simp[rwC,h]
theorem zN9{L:Nat}{rw:List Int}(h:rw.length<L)(v:Int):(rwC L rw).set rw.length (.int .i64 v)=rwC L (rw++[v]):=by
 unfold rwC;obtain⟨k,hk⟩: ∃k,L-rw.length=k+1:=⟨L-rw.length-1,by omega⟩;rw[hk,List.set_append_right _ _ (by simp)];simp only[List.length_map,Nat.sub_self,List.replicate_succ,List.set_cons_zero,List.map_append,List.map_cons,List.map_nil,List.append_assoc,List.singleton_append];rw[show L-(rw++[v]).length=k by simp;omega]
def rnM(n:Nat)(gs els:List (List Int))(pre last:List Int)(wds:List (List Nat))(right:List (List Int))(rls:List T)(dn:Nat)(beh sgl:List Int):List (Nat×AObj):=
 [(0,rnB n gs els.length pre.length last.length right.length rls.length dn wds.length beh.length sgl.length),
  (1,.row 22 1 1 (els.map ints)),(2,.row 3 1 1 (pre.map (.int .i64))),(3,.row 3 1 1 (last.map (.int .i64))),(4,.row 22 1 1 (right.map ints)),(5,.row 214 2 1 rls),
  (6,.map 9 3 (kents txT 0 els)),(7,.row 9 1 1 (wsT wds)),(8,.row 3 1 1 (beh.map (.int .i64))),(9,.row 3 1 1 (sgl.map (.int .i64)))]
def PcG(n:Nat)(gs:List (List Int))(sgl:List Int)(d:Nat)(res:AV)(H':List AObj):Prop:=∃els pre last wds right rls d' beh,H'=rnO n gs els pre last wds right rls d' beh sgl/\((res= .t 2 (.int .i64 3)/\Big n gs)\/(res= .t 2 (.int .i64 0)/\d'=d+1/\RnI n gs els pre last wds right (d+1) beh/\rls.length<=12+12*(d+1)))
theorem zJE{n:Nat}{gs els:List (List Int)}{pre last:List Int}{wds:List (List Nat)}{right:List (List Int)}{rls:List T}{d:Nat}{beh:List Int}(sgl:List Int)(h:zIM n gs)(hI:RnI n gs els pre last wds right d beh)(hd:d<els.length)(hrl:rls.length<=12+12*d):
  ∃res H',PcG n gs sgl d res H'/\FnS Tryz.prog 183 [.ptr 0 0 13] (rnO n gs els pre last wds right rls d beh sgl) res H':=by
 have hg1:=h.g1;have hg2:=h.g2;have hn1:=h.n1;have hn2:=h.n2;have hel:=hI.pr.el;have hdl:=hI.pr.dl;have hrd:=hI.pr.rd;refine zAw Tryz.func183 rfl (by simp[Tryz.f183]) ?_;rw[show Tryz.f183.ntmps=164 from rfl,show Tryz.f183.results= #[.tmp 2]from rfl];refine rg1 (an @rnO.eq_1 @rnB.eq_1) ?_;refine rg0 ?_;refine rg0 ?_;refine zA ?_;refine rg0 ?_;refine zB ?_;refine awp_loop (fun y:Nat×List (List Int)×List Int×List Int×List (List Nat)×List T×List Int×List Int=>mkS [(0,.ptr 0 0 13),(3,.t 2 (.int .i64 d)),(4,.own 10 gs.length),(27,.t 1 (rows gs)),(28,.t 2 (.int .i64 gs.length)),(29,.t 2 (.int .i64 y.1))]
   (rnM n gs y.2.1 y.2.2.1 y.2.2.2.1 y.2.2.2.2.1 right y.2.2.2.2.2.1 d y.2.2.2.2.2.2.1 sgl++[(10,.row 3 1 2 (rwC gs.length y.2.2.2.2.2.2.2))]) 11 164 [.ptr 0 0 13])
  (fun y=>y.1<=gs.length/\RnI n gs y.2.1 y.2.2.1 y.2.2.2.1 y.2.2.2.2.1 right d y.2.2.2.2.2.2.1/\d<y.2.1.length/\y.2.2.2.2.2.1.length<=12+12*d+2*y.1/\y.2.2.2.2.2.2.2.length=y.1/\zCZ gs y.2.1 d y.2.2.2.2.2.2.2) (fun y=>gs.length-y.1) ?_ ?_
 ·refine⟨(0,els,pre,last,wds,rls,beh,[]),⟨by simp,hI,hd,by simp;omega,rfl,fun x j hx=>by simp at hx⟩,?_⟩;exact kw1 [(0,some 0),(1,some 1),(2,some 2),(3,some 3),(4,some 4),(5,some 5),(6,some 6),(7,some 7),(8,some 8),(9,some 9),(10,some 13000010)] (an @rnM.eq_1 (an @rnB.eq_1 (an @zRC @rows.eq_1)))
 clear hI hd hrl hel hdl;rintro⟨x,els,pre,last,wds,rls,beh,rw'⟩ ⟨hx,hI,hd,hrl,hrwl,hrow⟩;simp only at hx hI hd hrl hrwl hrow;have hen:=hI.pr.en;have hel:=hI.pr.el;have hle:=hen.le;have hlp:=hen.wd.lp;have hll:=hen.wd.ll;have hbl:=hI.bl;have hdw:d<wds.length:=by omega
 have hdb:d<beh.length:=by omega
 refine rg1 (an @rnM.eq_1 @rnB.eq_1) ?_;refine zA ?_;by_cases hlt:x<gs.length
 ·obtain⟨v1,v2,v3⟩:=hen.val d wds[d] els[d] (by simp) (by simp);have hgx:=h.tr gs[x] (by simp);have hft:=v2.comp hgx;have hall:=zCa txT (P:=Tryz.prog) (K:=9) zCf els 0;have helt: ∀e∈els,TrN n e:=fun e he=>by
   obtain⟨i,hi,rfl⟩:=Qb he;exact(hen.val i wds[i] els[i] (by simp) (by simp)).2.1
  have hfn:=zM4 (f:=zn els[d] gs[x]) (by omega) helt hft;have htx:=zIq (e:=zn els[d] gs[x]) (fun v hv=>by have:=hft.2 v hv;omega) (by have:=hft.1;omega);have henc:Utf8.encode (IntKind.i32.wrap (97+(x:Int)))=zAZ [x]:=by
   rw[show IntKind.i32.wrap (97+(x:Int))=97+x by rw[IntKind.wrap_i32];omega];exact zFw (by omega)
  have hwd:(wsT wds)[d]? =some (.str (zAZ wds[d])):=by simp[wsT,hdw]
  have hwlen:=hen.wd.len d wds[d] (by simp);refine cT1 @hlt ?_;refine zQ ?_;refine zA ?_;refine zB ?_;refine rg1 @hlt ?_;refine rc1 (zIe v2 hgx (by omega) (by omega)) @hd ?_
  cases hix:ixA (zn els[d] gs[x]) els with
  |some j=>
   have hj:=zC9 hix;have hjl:=zQl hix;have hjw:j<wds.length:=by omega
   have hje:=zCg txT els 0 j _ hj;have hz1:zCH Tryz.prog 3=some (.int .i64 0):=by kernel_rfl
   refine zg (by kernel_rfl) (fun K hK=>?_);simp(maxSteps:=2000000)(disch:=omega)
   (repeat' apply And.intro)
   all_goals (try omega)
   refine zM (caps:=[]) (htx) [] [] 2 rfl rfl rfl rfl (by kernel_rfl) (by simp) ?_ trivial trivial rfl trivial trivial (by simp) ?_
   ·simp[scal,ints]
   simp(maxSteps:=2000000)(disch:=omega)[scal,hfn,hix,hall,zCf,hz1,hje]
   (repeat' first|apply hK|apply And.intro)<;>try first|(show zAY _ _=true;kernel_rfl)|(show okH _ _ _=true;kernel_rfl)|omega|rfl|(simp<;>omega)
   refine rg1 (an @hwd (an @hdw (an @henc @zAa))) ?_;refine zS (σ':=mkS [(0,.ptr 0 0 13),(3,.t 2 (.int .i64 d)),(4,.own 10 gs.length),(5,.t 2 (.int .i64 x)),(8,.t 2 (.int .i64 j)),(9,.t 2 (.bool true)),(10,.t 2 (.str (zAZ (wds[d]++[x])))),(27,.t 1 (rows gs)),(28,.t 2 (.int .i64 gs.length)),(29,.t 2 (.int .i64 x))]
    (rnM n gs els pre last wds right rls d beh sgl++[(10,.row 3 1 2 (rwC gs.length rw'))]) 11 164 [.ptr 0 0 13]) ?_ ?_
   ·exact kw1 [(0,some 0),(1,some 1),(2,some 2),(3,some 3),(4,some 4),(5,some 5),(6,some 6),(7,some 7),(8,some 8),(9,some 9),(10,some 10)] (an @rnM.eq_1 (an @rnB.eq_1 @rows.eq_1))
   refine zDX (fun σ'=>∃els' pre' last' wds' rls' beh',∃m:Nat,RnI n gs els' pre' last' wds' right d beh'/\d<els'.length/\rls'.length<=12+12*d+2*(x+1)/\zCZ gs els' d (rw'++[(m:Int)])/\Wk σ' (mkS [(0,.ptr 0 0 13),(3,.t 2 (.int .i64 d)),(4,.own 10 gs.length),(5,.t 2 (.int .i64 x)),(8,.t 2 (.int .i64 m)),(27,.t 1 (rows gs)),(28,.t 2 (.int .i64 gs.length)),(29,.t 2 (.int .i64 x))]
    (rnM n gs els' pre' last' wds' right rls' d beh' sgl++[(10,.row 3 1 2 (rwC gs.length rw'))]) 11 164 [.ptr 0 0 13])) ?_ ?_
   ·rintro σ' ⟨els',pre',last',wds',rls',beh',m,hI',hd',hrl',hrow',hw⟩;refine zS hw ?_;clear hw;have hst:=zN9 (L:=gs.length) (rw:=rw') (by omega) m;rw[hrwl]at hst;have hrcl:=zNc (L:=gs.length) (rw:=rw') (by omega);refine rr1 (an @rnM.eq_1 (an @rnB.eq_1 (an @hst (an @hrcl @hlt)))) ?_;refine rr0 ?_;refine⟨(x+1,els',pre',last',wds',rls',beh',rw'++[(m:Int)]),⟨by simp;omega,hI',hd',by simp;omega,by simp[hrwl],hrow'⟩,by simp;omega,?_⟩;exact kw1 [(0,some 0),(1,some 1),(2,some 2),(3,some 3),(4,some 4),(5,some 5),(6,some 6),(7,some 7),(8,some 8),(9,some 9),(10,some 10)] (an @rnM.eq_1 (an @rnB.eq_1 @rows.eq_1))
   have hrow':zCZ gs els d (rw'++[(j:Int)]):=hrow.put (Qj hd) (by rw[hrwl];exact Qj hlt) hj;have hwj:(wsT wds)[j]? =some (.str (zAZ wds[j])):=by simp[wsT,hjw]
   refine zB ?_;refine rg1 (an @rnM.eq_1 @rnB.eq_1) ?_;refine cF0 ?_;refine rg0 ?_;refine cF0 ?_;by_cases hu0:(zAZ wds[d]).toList.isEmpty=true
   ·refine rg1 (an @hwd (an @hdw @hu0)) ?_;refine cF0 ?_;refine zQ ?_;refine⟨_,_,_,_,rls,_,j,hI,hd,by omega,hrow',?_⟩;exact kw1 [(0,some 0),(1,some 1),(2,some 2),(3,some 3),(4,some 4),(5,some 5),(6,some 6),(7,some 7),(8,some 8),(9,some 9),(10,some 10)] (an @rnM.eq_1 (an @rnB.eq_1 @rows.eq_1))
   ·have hd0:0<d:=by
     refine Nat.pos_of_ne_zero fun e=>hu0 ?_
     subst e;have h0:=hen.one.2;rw[Qj hdw]at h0;injection h0 with h0;rw[h0];unfold ByteArray.toList ByteArray.toList.loop;simp[zAZ,ByteArray.size]
    obtain⟨b,hb1,hb2⟩:=hI.bt d hd0 hd;obtain⟨hbx,hb3⟩:=Qq.1 hb1;have hbr:b<right.length:=by omega
    obtain⟨hr1,hr2⟩:=hI.pr.rg b right[b] (by simp);have hxr:x<right[b].length:=by omega
    obtain⟨m,e,g,hm,-,-,hme⟩:=hr2 x right[b][x] (by simp);have hml:=(Qq.1 hme).1;obtain⟨c,hre⟩:=zIo (n:=n) (gs:=gs) (els:=els) (pre:=pre) (last:=last) (wds:=wds) (rls:=rls) (dn:=d) (beh:=beh) (sgl:=sgl) hbr hxr hm (by omega) (by omega);refine zF fun K hK=>?_
    simp(maxSteps:=2000000)(disch:=omega)[hwd,hdw,hu0,hdb,hb3]
    (repeat' apply And.intro)
    all_goals (try omega)
    refine zD (caps:=[]) (hre) [0,1,2,3,4,5,6,7,8,9] [0,33000011,33000012,33000013,33000014,33000015,33000016,33000017,33000018,33000019] 1 (by simp) rfl rfl rfl (by kernel_rfl) (by simp) ?_ ?_ (by simp) rfl (by simp) ⟨.inr ⟨rfl,0,_,_,_,_,_,rfl,rfl,(by first|rfl|simp[rnO,rnB]),rfl,(by first|rfl|simp[rnO,rnB])⟩,.inl ⟨by omega,by omega⟩,.inl ⟨by omega,by omega⟩,.inl ⟨by omega,by omega⟩,.inl ⟨by omega,by omega⟩,.inl ⟨by omega,by omega⟩,.inl ⟨by omega,by omega⟩,.inl ⟨by omega,by omega⟩,.inl ⟨by omega,by omega⟩,.inl ⟨by omega,by omega⟩,trivial⟩ (by simp[rnO,rnB]) ?_
    ·simp[scal]
    ·simp[scal,rows,rnO,rnB]
    simp(maxSteps:=2000000)(disch:=omega)[rows,scal,rnO,rnB]
    (repeat' first|apply hK|apply And.intro)<;>try first|omega|rfl|(simp<;>omega)
    cases c with
    |false=>
     refine cF0 ?_;refine zQ ?_;refine⟨_,_,_,_,rls,_,j,hI,hd,by omega,hrow',?_⟩;exact kw1 [(0,some 0),(1,some 33000011),(2,some 33000012),(3,some 33000013),(4,some 33000014),(5,some 33000015),(6,some 33000016),(7,some 33000017),(8,some 33000018),(9,some 33000019),(10,some 10)] (an @rnM.eq_1 (an @rnB.eq_1 @rows.eq_1))
    |true=>
     refine cT0 ?_;refine zAW (by kernel_rfl) (fun K hK=>?_);simp(maxSteps:=2000000)(disch:=omega)[hwj,hjw]
     (repeat' first|apply hK|apply And.intro)<;>try first|(show zAY _ _=true;kernel_rfl)|(show okH _ _ _=true;kernel_rfl)|omega|rfl|(simp<;>omega)
     refine⟨_,_,_,_,rls++[.str (zAZ (wds[d]++[x])),.str (zAZ wds[j])],_,j,hI,hd,by simp;omega,hrow',?_⟩;refine zH [(0,some 0),(1,some 33000011),(2,some 33000012),(3,some 33000013),(4,some 33000014),(5,some 33000015),(6,some 33000016),(7,some 33000017),(8,some 33000018),(9,some 33000019),(10,some 10)] rfl ?_ ?_ ?_ ?_
     all_goals try simp[rnM,rnB,rows]
  |none=>
   have hnot:=zDd hix;have hd0:0<d:=by
    refine Nat.pos_of_ne_zero fun e=>hnot ?_
    subst e;have h0:=hen.one.1;rw[Qj hd]at h0;injection h0 with h0;rw[h0,zAz hgx];exact hI.pr.gn _ (by simp)
   have hz1:zCH Tryz.prog 3=some (.int .i64 0):=by kernel_rfl
   refine zg (by kernel_rfl) (fun K hK=>?_);simp(maxSteps:=2000000)(disch:=omega)
   (repeat' apply And.intro)
   all_goals (try omega)
   refine zM (caps:=[]) (htx) [] [] 2 rfl rfl rfl rfl (by kernel_rfl) (by simp) ?_ trivial trivial rfl trivial trivial (by simp) ?_
   ·simp[scal,ints]
   simp(maxSteps:=2000000)(disch:=omega)[scal,hfn,hix,hall,zCf,hz1]
   (repeat' first|apply hK|apply And.intro)<;>try first|(show zAY _ _=true;kernel_rfl)|(show okH _ _ _=true;kernel_rfl)|omega|rfl|(simp<;>omega)
   refine rg1 (an @hwd (an @hdw (an @henc @zAa))) ?_;refine zS (σ':=mkS [(0,.ptr 0 0 13),(3,.t 2 (.int .i64 d)),(4,.own 10 gs.length),(5,.t 2 (.int .i64 x)),(7,.t 2 (ints (zn els[d] gs[x]))),(9,.t 2 (.bool false)),(10,.t 2 (.str (zAZ (wds[d]++[x])))),(27,.t 1 (rows gs)),(28,.t 2 (.int .i64 gs.length)),(29,.t 2 (.int .i64 x))]
    (rnM n gs els pre last wds right rls d beh sgl++[(10,.row 3 1 2 (rwC gs.length rw'))]) 11 164 [.ptr 0 0 13]) ?_ ?_
   ·exact kw1 [(0,some 0),(1,some 1),(2,some 2),(3,some 3),(4,some 4),(5,some 5),(6,some 6),(7,some 7),(8,some 8),(9,some 9),(10,some 10)] (an @rnM.eq_1 (an @rnB.eq_1 @rows.eq_1))
   refine zDX (fun σ'=>∃els' pre' last' wds' rls' beh',∃m:Nat,RnI n gs els' pre' last' wds' right d beh'/\d<els'.length/\rls'.length<=12+12*d+2*(x+1)/\zCZ gs els' d (rw'++[(m:Int)])/\Wk σ' (mkS [(0,.ptr 0 0 13),(3,.t 2 (.int .i64 d)),(4,.own 10 gs.length),(5,.t 2 (.int .i64 x)),(8,.t 2 (.int .i64 m)),(27,.t 1 (rows gs)),(28,.t 2 (.int .i64 gs.length)),(29,.t 2 (.int .i64 x))]
    (rnM n gs els' pre' last' wds' right rls' d beh' sgl++[(10,.row 3 1 2 (rwC gs.length rw'))]) 11 164 [.ptr 0 0 13])) ?_ ?_
   ·rintro σ' ⟨els',pre',last',wds',rls',beh',m,hI',hd',hrl',hrow',hw⟩;refine zS hw ?_;clear hw;have hst:=zN9 (L:=gs.length) (rw:=rw') (by omega) m;rw[hrwl]at hst;have hrcl:=zNc (L:=gs.length) (rw:=rw') (by omega);refine rr1 (an @rnM.eq_1 (an @rnB.eq_1 (an @hst (an @hrcl @hlt)))) ?_;refine rr0 ?_;refine⟨(x+1,els',pre',last',wds',rls',beh',rw'++[(m:Int)]),⟨by simp;omega,hI',hd',by simp;omega,by simp[hrwl],hrow'⟩,by simp;omega,?_⟩;exact kw1 [(0,some 0),(1,some 1),(2,some 2),(3,some 3),(4,some 4),(5,some 5),(6,some 6),(7,some 7),(8,some 8),(9,some 9),(10,some 10)] (an @rnM.eq_1 (an @rnB.eq_1 @rows.eq_1))
   refine zB ?_;by_cases h2k:els.length=2000
   ·have h2ki:(els.length:Int)=2000:=by omega
    have hbig:Big n gs:=hen.big h2k hd hlt (fun i hi e=>hnot (e▸by simp));refine rg1 (an @rnM.eq_1 (an @rnB.eq_1 @h2ki)) ?_;refine cT0 ?_;refine rg0 ?_;refine zC ?_;refine⟨⟨_,_,⟨els,pre,last,wds,right,rls,d,beh,rfl,.inl ⟨rfl,hbig⟩⟩,?_⟩,by simp⟩;refine zA7 ?_;refine⟨.inr rfl,_,[(0,some 0),(1,some 1),(2,some 2),(3,some 3),(4,some 4),(5,some 5),(6,some 6),(7,some 7),(8,some 8),(9,some 9)],(by first|(simp;rfl)|rfl),?_,?_,?_,?_⟩
    all_goals try simp +contextual (disch:=omega)[zL,zJ,zW,zAN,rows,rnO,rnB]
   ·have h2ki: ¬(els.length:Int)=2000:=by omega
    have h0:0<d:=hd0;obtain⟨b,hb1,hb2⟩:=hI.bt d h0 hd;obtain⟨hbx,hb3⟩:=Qq.1 hb1;have hbr:b<right.length:=by omega
    obtain⟨hr1,hr2⟩:=hI.pr.rg b right[b] (by simp);have hxr:x<right[b].length:=by omega
    obtain⟨m,e,g,hm,-,-,hme⟩:=hr2 x right[b][x] (by simp);have hml:=(Qq.1 hme).1;have haf:=zH3 (n:=n) (gs:=gs) (els:=els) (pre:=pre) (last:=last) (wds:=wds) (rls:=rls) (dn:=d) (beh:=beh) (sgl:=sgl) hbr hxr;rw[hm]at haf;have hadd:=zJL (right:=right) (rls:=rls) (dn:=d) (sgl:=sgl) (gs:=gs) (d:Int) (x:Int) (wds[d]++[x]) (m:Int) (by omega) helt hft hix (by omega) (show pre.length=els.length by omega) (show last.length=els.length by omega) hle.symm hbl;have hP:=hI.pr.add h.tr hd hdw hlt (fun i hi e=>hnot (e▸by simp)) h2k hrow hrwl;have hR:=hI.app hP (by simp) hml;refine rg1 (an @rnM.eq_1 (an @rnB.eq_1 @h2ki)) ?_;refine cF0 ?_;refine rg0 ?_;refine cT0 ?_;refine zAT fun K hK=>?_
    simp(maxSteps:=2000000)(disch:=omega)[hdb,hb3]
    (repeat' apply And.intro)
    all_goals (try omega)
    refine zD (caps:=[]) (haf) [0,1,2,3,4,5,6,7,8,9] [0,29000011,29000012,29000013,29000014,29000015,29000016,29000017,29000018,29000019] 1 rfl rfl rfl rfl (by kernel_rfl) (by simp) ?_ ?_ (by simp) rfl (by simp) ⟨.inr ⟨rfl,0,_,_,_,_,_,rfl,rfl,(by first|rfl|simp[rnO,rnB]),rfl,(by first|rfl|simp[rnO,rnB])⟩,.inl ⟨by omega,by omega⟩,.inl ⟨by omega,by omega⟩,.inl ⟨by omega,by omega⟩,.inl ⟨by omega,by omega⟩,.inl ⟨by omega,by omega⟩,.inl ⟨by omega,by omega⟩,.inl ⟨by omega,by omega⟩,.inl ⟨by omega,by omega⟩,.inl ⟨by omega,by omega⟩,trivial⟩ (by simp[rnO,rnB]) ?_
    ·simp[scal]
    ·simp[scal,rows,rnO,rnB]
    simp(maxSteps:=2000000)(disch:=omega)[rows,scal,rnO,rnB]
    (repeat' apply And.intro)
    all_goals (try omega)
    refine zD (caps:=[]) (hadd) [0,29000011,29000012,29000013,29000014,29000015,29000016,29000017,29000018,29000019] [0,30000011,30000012,30000013,30000014,30000015,30000016,30000017,30000018,30000019] 1 rfl rfl rfl rfl (by kernel_rfl) (by simp) ?_ ?_ (by simp) rfl (by simp) ⟨.inr ⟨rfl,0,_,_,_,_,_,rfl,rfl,(by first|rfl|simp[rnO,rnB]),rfl,(by first|rfl|simp[rnO,rnB])⟩,.inl ⟨by omega,by omega⟩,.inl ⟨by omega,by omega⟩,.inl ⟨by omega,by omega⟩,.inl ⟨by omega,by omega⟩,.inl ⟨by omega,by omega⟩,.inl ⟨by omega,by omega⟩,.inl ⟨by omega,by omega⟩,.inl ⟨by omega,by omega⟩,.inl ⟨by omega,by omega⟩,trivial⟩ (by simp[rnO,rnB]) ?_
    ·simp[scal,ints]
    ·simp[scal,rows,rnO,rnB]
    simp(maxSteps:=2000000)(disch:=omega)[ints,rows,scal,rnO,rnB]
    (repeat' first|apply hK|apply And.intro)<;>try first|omega|rfl|(simp<;>omega)
    refine⟨_,_,_,_,rls,_,els.length,hR,by simp;omega,by omega,(hrow.more _).put (by rw[Qw hd];exact Qj hd) (by rw[hrwl];exact Qj hlt) (by simp),?_⟩;exact kw1 [(0,some 0),(1,some 30000011),(2,some 30000012),(3,some 30000013),(4,some 30000014),(5,some 30000015),(6,some 30000016),(7,some 30000017),(8,some 30000018),(9,some 30000019),(10,some 10)] (an @rnM.eq_1 (an @rnB.eq_1 @rows.eq_1))
 ·obtain rfl:x=gs.length:=by omega
  have hfu:=zPN hrwl;have hPr:=hI.pr.row hd hrwl hrow;refine cF0 ?_;refine zE ?_;refine rg1 (an @rnM.eq_1 (an @rnB.eq_1 (an @hfu @hrwl))) ?_;refine rg0 ?_;refine rg0 ?_;refine zC ?_;refine⟨⟨_,_,⟨els,pre,last,wds,right++[rw'],rls,d+1,beh,rfl,.inr ⟨rfl,rfl,⟨hPr,hbl,hI.bt⟩,by omega⟩⟩,?_⟩,by simp⟩;refine zA7 ?_;refine⟨.inr rfl,_,[(0,some 0),(1,some 1),(2,some 2),(3,some 3),(4,some 4),(5,some 5),(6,some 6),(7,some 7),(8,some 8),(9,some 9)],(by first|(simp;rfl)|rfl),?_,?_,?_,?_⟩
  all_goals try simp +contextual (disch:=omega)[zL,zJ,zW,zAN,ints,rows,rnO,rnB]
