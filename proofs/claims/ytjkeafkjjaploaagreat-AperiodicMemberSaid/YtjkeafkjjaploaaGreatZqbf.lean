/- Lemmas for the law AperiodicMember. No conditions. -/
import Derived.Test.YtjkeafkjjaploaaGreatZqbe
import Derived.Test.YtjkeafkjjaploaaGreatZqaz
set_option linter.all false
namespace Go.Proofs.YtjkeafkjjaploaaGreat.M
open Go.RowKit
set_option maxRecDepth 100000
set_option maxHeartbeats 32000000

theorem zLI{x y:Nat}(h:x<y):zHp (x:Int) (y:Int)= -1:=by
 have:(x:Int)<y:=by omega
 simp[zHp,this]
theorem zK5(x:Int):zHp x x=0:=by simp[zHp]
theorem zKS{x y:Nat}(h:y<x):zHp (x:Int) (y:Int)=1:=by
 have h1:(y:Int)<x:=by omega
 have h2: ¬(x:Int)<y:=by omega
 simp[zHp,h1,h2]
theorem zQA:List.range 2=[0,1]:=rfl
def szC(sz:List Nat):List T:=[ints (nI sz)]
def szF(sz:List Nat)(x:Nat):Nat:=sz.getD x 0
def cfS(sz:List Nat)(x y:Nat):Int:=orL [zHp (szF sz y:Int) (szF sz x:Int),zHp (x:Int) (y:Int)]
theorem zTw{sz:List Nat}{x y:Nat}:cfS sz x y<0↔zAq (szF sz) x y:=by
 unfold cfS zAq;rcases Nat.lt_trichotomy (szF sz y) (szF sz x)with g|g|g
 ·rw[zLI g];simp[orL,g]
 ·rw[g,zK5];rcases Nat.lt_trichotomy x y with h|h|h
  ·rw[zLI h];simp[orL,h]
  ·subst h;rw[zK5];simp[orL]
  ·rw[zKS h];simp[orL];omega
 ·rw[zKS g];simp[orL];omega
theorem zTj(sz:List Nat){x y:Nat}(hx:x<sz.length)(hy:y<sz.length):FnA Tryz.prog 66 [.t 2 (.int .i64 x),.t 2 (.int .i64 y),.pt 0 (szC sz)] (.t 2 (.int .i64 (cfS sz x y))):=by
 have hc1:=zFs (szF sz y:Int) (szF sz x:Int);have hc2:=zFs (x:Int) (y:Int);have ho:=zWN [zHp (szF sz y:Int) (szF sz x:Int),zHp (x:Int) (y:Int)] (by simp);have g1: ∀h,(nI sz)[y]'h=(szF sz y:Int):=fun h=>by simp[nI,szF,hy]
 have g2: ∀h,(nI sz)[x]'h=(szF sz x:Int):=fun h=>by simp[nI,szF,hx]
 have hl:(nI sz).length=sz.length:=zEg sz;refine fI 20 #[.tmp 5] Tryz.func66 rfl ?_;unfold cfS;refine rg0 ?_;refine zo (by kernel_rfl) (fun K hK=>?_);simp(maxSteps:=2000000)(disch:=omega)[ints,szC,hl,hx,hy,g1,g2]
 (repeat' apply And.intro)
 all_goals (try omega)
 refine zV (caps:=[]) (hc1) [] [] 2 rfl rfl rfl rfl (by kernel_rfl) (by simp) ?_ trivial trivial rfl trivial trivial (by simp) ?_
 ·simp[scal]
 simp(maxSteps:=2000000)(disch:=omega)[scal]
 (repeat' apply And.intro)
 all_goals (try omega)
 refine zV (caps:=[]) (hc2) [] [] 2 rfl rfl rfl rfl (by kernel_rfl) (by simp) ?_ trivial trivial rfl trivial trivial (by simp) ?_
 ·simp[scal]
 simp(maxSteps:=2000000)(disch:=omega)[scal,zQA]
 (repeat' apply And.intro)
 all_goals (try omega)
 refine zV (caps:=[]) (ho) [] [] 2 rfl rfl rfl rfl (by kernel_rfl) (by simp) ?_ trivial trivial rfl trivial trivial (by simp) ?_
 ·simp[ints]
 simp(maxSteps:=2000000)(disch:=omega)[scal]
 (repeat' first|apply hK|apply And.intro)<;>try first|(show zAf _ _=true;kernel_rfl)|(show okH _ _ _=true;kernel_rfl)|omega|rfl|(simp<;>omega)
 exact zI rt0
theorem zLt(sz:Nat->Nat){a b:Nat}:zAq sz a b-> ¬zAq sz b a:=by
 unfold zAq;omega
theorem zKw{sz:Nat->Nat}: ∀{d e:List Nat},d.Perm e->d.Pairwise (zAq sz)->e.Pairwise (zAq sz)->d=e
 |[],e,h,_,_=>(List.nil_perm.1 h).symm
 |a::r,[],h,_,_=>absurd h (by simp)
 |a::r,b::s,h,h1,h2=>by
  have p1:=List.pairwise_cons.1 h1;have p2:=List.pairwise_cons.1 h2;have hab:a=b:=by
   refine Classical.byContradiction fun hne=>?_
   have ha:a∈b::s:=h.mem_iff.1 (by simp);have hb:b∈a::r:=h.mem_iff.2 (by simp);rcases List.mem_cons.1 ha with c|ha
   ·exact hne c
   ·rcases List.mem_cons.1 hb with c|hb
    ·exact hne c.symm
    ·exact zLt sz (p1.1 b hb) (p2.1 a ha)
  subst hab;rw[zKw (List.perm_cons a|>.1 h) p1.2 p2.2]
open Classical in
noncomputable def zFz(sz:Nat->Nat)(l:List Nat):List Nat:=if h: ∃d:List Nat,d.Perm l/\d.Pairwise (zAq sz)then h.choose else l
theorem zTT{sz:Nat->Nat}{l d:List Nat}(h1:d.Perm l)(h2:d.Pairwise (zAq sz)):zFz sz l=d:=by
 have h: ∃d:List Nat,d.Perm l/\d.Pairwise (zAq sz):=⟨d,h1,h2⟩;unfold zFz;rw[dif_pos h];obtain⟨g1,g2⟩:=h.choose_spec;exact zKw (g1.trans h1.symm) g2 h2
theorem zGT(l:List Nat)(j x:Nat):(idT l).set j (.int .i64 (x:Nat))=idT (l.set j x):=by
 unfold idT;rw[List.map_set]
theorem zR1{l:List Nat}{j x:Nat}(h:l[j]? =some x):(idT l)[j]? =some (.int .i64 (x:Nat)):=by
 unfold idT;rw[Qh,h];rfl
theorem zLY(sz l:List Nat)(hn:1<=l.length)(hl:l.length<=1000)(hnd:l.Nodup)(hlt: ∀x∈l,x<sz.length):FnK Tryz.prog 137 [.own 0 l.length,.t 2 (.int .i64 0),.t 2 (.int .i64 l.length),.fn 66 [.pt 0 (szC sz)]] [.row 3 1 1 (idT l)] (.tup []) [.row 3 1 1 (idT (zFz (szF sz) l))] [0]:=by
 obtain⟨n,hnl⟩: ∃n,n=l.length:=⟨_,rfl⟩;have hso:(idT (zFz (szF sz) l)).length=n->True:=fun _=>trivial
 have hlen0:(zFz (szF sz) l).length=l.length:=by
  unfold zFz;split
  ·rename_i h;exact h.choose_spec.1.length_eq
  ·rfl
 refine zFK 0 l.length rfl rfl (by simp[idT]) (by simp[idT,hlen0]) Tryz.func137 rfl (by simp[Tryz.f137]) ?_;rw[show Tryz.f137.ntmps=53 from rfl,show Tryz.f137.results= #[]from rfl];rw[←hnl];refine rg0 ?_;refine zG ?_;refine awp_loop (fun y:List Nat×List Nat=>mkS [(0,.own 0 n),(1,.t 2 (.int .i64 0)),(2,.t 2 (.int .i64 n)),(3,.fn 66 [.pt 0 (szC sz)]),(8,.t 2 (.int .i64 y.1.length))]
   [(0,.row 3 1 1 (idT (y.1++y.2)))] 1 53 [.any,.any,.any,.any,.own 0 n]) (fun y=>1<=y.1.length/\y.1.length+y.2.length=n/\(y.1++y.2).Perm l/\y.1.Pairwise (zAq (szF sz))) (fun y=>y.2.length) ?_ ?_
 ·have ht:(l.take 1).length=1:=by simp;omega
  refine⟨(l.take 1,l.drop 1),⟨by simp;omega,by simp;omega,by rw[List.take_append_drop],?_⟩,?_⟩
  ·obtain⟨a,ha⟩: ∃a,l.take 1=[a]:=List.length_eq_one_iff.1 ht;simp only[ha];exact List.pairwise_singleton _ _
  ·have htd:l.take 1++l.tail=l:=by rw[←List.drop_one];exact List.take_append_drop 1 l
   exact kw1 [(0,some 0)] (an @htd @ht)
 rintro⟨pre,rest⟩ ⟨h1,h2,h3,h4⟩;simp only at h1 h2 h3 h4;refine zD ?_
 cases rest with
 |nil=>
  have hpn:pre.length=n:=by simpa using h2
  have hfin:zFz (szF sz) l=pre:=zTT (by simpa using h3) h4;refine rg1 @hpn ?_;refine cF0 ?_;refine zK ?_;refine⟨⟨.inl rfl,_,[(0,some 0)],(by first|rfl|(simp[ints,rows,scal,tpO,hfin];rfl)),?_,?_,?_,?_⟩,?_⟩
  all_goals try simp[hfin]
 |cons x rest=>
  have hpn:pre.length<n:=by simp at h2;omega
  have hxs:x<sz.length:=hlt x (h3.mem_iff.1 (by simp));have hps: ∀y∈pre,y<sz.length:=fun y hy=>hlt y (h3.mem_iff.1 (by simp[hy]))
  have hnd2:(pre++x::rest).Nodup:=h3.nodup_iff.2 hnd;refine rg1 @hpn ?_;refine cK1 @hpn ?_;refine zD ?_;refine zG ?_;refine rg0 ?_;refine zG ?_;refine awp_loop (fun j:Nat=>mkS [(0,.own 0 n),(1,.t 2 (.int .i64 0)),(2,.t 2 (.int .i64 n)),(3,.fn 66 [.pt 0 (szC sz)]),(8,.t 2 (.int .i64 pre.length)),(9,.t 2 (.int .i64 j))]
    [(0,.row 3 1 1 (idT (zFX pre x j rest)))] 1 53 [.any,.any,.any,.any,.own 0 n]) (fun j=>j<=pre.length/\ ∀y∈pre.drop j,zAq (szF sz) x y) (fun j=>j) ?_ ?_
  ·have hfu:=zOI pre x rest;refine⟨pre.length,⟨by omega,fun y hy=>by simp at hy⟩,?_⟩;exact kw1 [(0,some 0)] @hfu
  rintro j ⟨hj,hjx⟩;have hlen:(zFX pre x j rest).length=n:=by rw[zKv hj];simp at h2;omega
  have hil:(idT (zFX pre x j rest)).length=n:=by simp[hlen]
  have hnext: ∀hl:(∀h:0<j,zAq (szF sz) (pre[j-1]'(by omega)) x),1<=(pre.take j++x::pre.drop j).length/\(pre.take j++x::pre.drop j).length+rest.length=n/\((pre.take j++x::pre.drop j)++rest).Perm l/\(pre.take j++x::pre.drop j).Pairwise (zAq (szF sz)):=fun hl=>by
   refine⟨by simp;omega,by simp at h2 ⊢;omega,?_,zJd (zQQ _) hj h4 hjx hl⟩;have:=zMd pre x j rest;unfold zFX at this;simpa using this.trans h3
  have hrow:zFX pre x j rest=(pre.take j++x::pre.drop j)++rest:=by unfold zFX;simp
  have hpl:(pre.take j++x::pre.drop j).length=pre.length+1:=by simp;omega
  refine zD ?_;by_cases hj0:j=0
  ·subst hj0;refine rd0 ?_;refine cF0 ?_;refine zK ?_;refine rr0 ?_;refine⟨(pre.take 0++x::pre.drop 0,rest),hnext (fun h=>by omega),by simp,?_⟩;exact kw1 [(0,some 0)] (an @hrow @hpl)
  ·have hjp:0<j:=by omega
   have hjn:j<n:=by omega
   have hj1n:j-1<n:=by omega
   have hj1:(j:Int)-1=((j-1:Nat):Int):=by omega
   obtain⟨p,hp⟩: ∃p,p=pre[j-1]'(by omega):=⟨_,rfl⟩;have hpm:p∈pre:=by rw[hp];exact List.getElem_mem _
   have e1:(zFX pre x j rest)[j]? =some x:=by rw[zEN hj,if_neg (by omega),if_pos rfl]
   have e2:(zFX pre x j rest)[j-1]? =some p:=by rw[zEN hj,if_pos (by omega),hp];simp
   have g1:=zR1 e1;have g2:=zR1 e2;have g1': ∀h,(idT (zFX pre x j rest))[j]'h= .int .i64 (x:Nat):=fun h=>(Qq.1 g1).2
   have g2': ∀h,(idT (zFX pre x j rest))[j-1]'h= .int .i64 (p:Nat):=fun h=>(Qq.1 g2).2
   have hcm:=zTj sz hxs (hps p hpm);have hcn:=zTw (sz:=sz) (x:=x) (y:=p);by_cases hc:zAq (szF sz) x p
   ·have hcl:cfS sz x p<0:=hcn.2 hc;have hsw:=zOh (pre:=pre) (x:=x) (j:=j) (rest:=rest) hjp hj;rw[←hp]at hsw;have hsw2:(((idT (zFX pre x j rest)).set j (.int .i64 (p:Nat))).set (j-1) (.int .i64 (x:Nat)))=idT (zFX pre x (j-1) rest):=by rw[zGT,zGT,hsw]
    refine zo (by kernel_rfl) (fun K hK=>?_);simp(maxSteps:=2000000)(disch:=omega)[scal,zBh,hjp,hil,hjn,hj1,hj1n,g1',g2',lvT,scal]
    (repeat' apply And.intro)
    all_goals (try omega)
    refine zV (caps:=[.pt 0 (szC sz)]) (hcm) [] [] 2 rfl rfl rfl (by simp) (by first|assumption|kernel_rfl) (by simp) ?_ ?_ (by simp) rfl (by simp) trivial (by simp) ?_
    ·simp[scal]
    ·simp
    simp(maxSteps:=2000000)(disch:=omega)[scal,hcl]
    (repeat' first|apply hK|apply And.intro)<;>try first|(show zAf _ _=true;kernel_rfl)|(show okH _ _ _=true;kernel_rfl)|omega|rfl|(simp<;>omega)
    refine cK0 ?_;refine zD ?_;refine zG ?_;refine re1 (an @hil (an @hjn (an @hj1 (an @hj1n (an @g1' (an @g2' (an @lvT.eq_1 @hsw2))))))) ?_;refine rr0 ?_;refine⟨j-1,⟨by omega,fun y hy=>?_⟩,by omega,?_⟩
    ·have hd:pre.drop (j-1)=p::pre.drop j:=by
      rw[List.drop_eq_getElem_cons (by omega),←hp,show j-1+1=j by omega]
     rw[hd]at hy;rcases List.mem_cons.1 hy with rfl|hy
     ·exact hc
     ·exact hjx y hy
    exact kw1 [(0,some 0)] @hj1
   ·have hcl: ¬cfS sz x p<0:=fun h=>hc (hcn.1 h)
    have hne:x≠p:=fun e=>by
     have:=List.nodup_append.1 hnd2;exact this.2.2 p hpm x (by simp) e.symm
    refine zo (by kernel_rfl) (fun K hK=>?_);simp(maxSteps:=2000000)(disch:=omega)[scal,zBh,hjp,hil,hjn,hj1,hj1n,g1',g2',lvT,scal]
    (repeat' apply And.intro)
    all_goals (try omega)
    refine zV (caps:=[.pt 0 (szC sz)]) (hcm) [] [] 2 rfl rfl rfl (by simp) (by first|assumption|kernel_rfl) (by simp) ?_ ?_ (by simp) rfl (by simp) trivial (by simp) ?_
    ·simp[scal]
    ·simp
    simp(maxSteps:=2000000)(disch:=omega)[scal,hcl]
    (repeat' first|apply hK|apply And.intro)<;>try first|(show zAf _ _=true;kernel_rfl)|(show okH _ _ _=true;kernel_rfl)|omega|rfl|(simp<;>omega)
    refine cF0 ?_;refine zK ?_;refine rr0 ?_;refine⟨(pre.take j++x::pre.drop j,rest),hnext (fun h=>?_),by simp,?_⟩
    ·rw[←hp];rcases zMx (szF sz) hne with c|c
     ·exact absurd c hc
     ·exact c
    exact kw1 [(0,some 0)] (an @hrow @hpl)
end Go.Proofs.YtjkeafkjjaploaaGreat.M

namespace Go.Proofs.YtjkeafkjjaploaaGreat.M
open Go.RowKit
set_option maxRecDepth 100000
set_option maxHeartbeats 32000000

@[simp] theorem zVm(r:Nat->Nat)(l:List Nat):(zFz r l).length=l.length:=by
 unfold zFz;split
 ·rename_i h;exact h.choose_spec.1.length_eq
 ·rfl
@[simp] theorem zVd(l:List Nat):(idT l).length=l.length:=by simp[idT]
theorem zRA(x:Nat)(hx:x<=200): ∃res,(∃k:Int,res= .t 2 (.int .i64 k))/\FnS Tryz.prog 146 [.t 2 (.int .u64 (x:Nat))] [] res []:=by
 have d1: ¬(4294967296:Int)<=(x:Int):=by omega
 have d2: ¬(65536:Int)<=(x:Int):=by omega
 have d3: ¬(256:Int)<=(x:Int):=by omega
 have h256:x<256:=by omega
 refine zm Tryz.func146 rfl (by simp[Tryz.f146]) ?_;rw[show Tryz.f146.ntmps=25 from rfl,show Tryz.f146.results= #[.tmp 2]from rfl];refine rg0 ?_;refine zD ?_;refine rg1 @d1 ?_;refine cS1 @d1 ?_;refine zD ?_;refine rg1 @d2 ?_;refine cS1 @d2 ?_;refine zD ?_;refine rg1 @d3 ?_;refine cS1 @d3 ?_;refine zO fun K hK=>?_
 simp(maxSteps:=2000000)(disch:=omega)[wr8]
 (repeat' first|apply hK|apply And.intro)<;>try first|omega|rfl|(simp<;>omega)
 ·exact h256
 generalize IntKind.i64.wrap (IntKind.i64.wrap _)=k;refine zI ?_;refine⟨_,⟨k,rfl⟩,?_⟩;exact rt0
theorem zVR(x:Nat)(hx:x<=200): ∃res,(∃k:Int,res= .t 2 (.int .i64 k))/\FnS Tryz.prog 107 [.t 2 (.int .u64 (x:Nat))] [] res []:=by
 obtain⟨_,⟨k,rfl⟩,h⟩:=zRA x hx;refine zm Tryz.func107 rfl (by simp[Tryz.f107]) ?_;rw[show Tryz.f107.ntmps=8 from rfl,show Tryz.f107.results= #[.tmp 2]from rfl];refine rg0 ?_;refine zD ?_;refine cS0 ?_;refine rc0 h ?_;refine zI ?_;refine⟨_,⟨k,rfl⟩,?_⟩;exact rt0
theorem zUH(sz l:List Nat)(k:Int)(hn:1<=l.length)(hl:l.length<=12)(hnd:l.Nodup)(hlt: ∀x∈l,x<sz.length):FnK Tryz.prog 106 [.own 0 l.length,.t 2 (.int .i64 0),.t 2 (.int .i64 l.length),.t 2 (.int .i64 k),.fn 66 [.pt 0 (szC sz)]] [.row 3 1 1 (idT l)] (.tup []) [.row 3 1 1 (idT (zFz (szF sz) l))] [0]:=by
 have hins:=zLY sz l hn (by omega) hnd hlt;have hlen0:(zFz (szF sz) l).length=l.length:=by
  unfold zFz;split
  ·rename_i h;exact h.choose_spec.1.length_eq
  ·rfl
 have h12:(l.length:Int)<=12:=by omega
 refine zFK 0 l.length rfl rfl (by simp[idT]) (by simp[idT,hlen0]) Tryz.func106 rfl (by simp[Tryz.f106]) ?_;rw[show Tryz.f106.ntmps=148 from rfl,show Tryz.f106.results= #[]from rfl];refine rg0 ?_;refine rg0 ?_;refine zG ?_;refine awp_loop (fun _:Unit=>mkS [(0,.own 0 l.length),(1,.t 2 (.int .i64 0)),(2,.t 2 (.int .i64 l.length)),(4,.fn 66 [.pt 0 (szC sz)])]
   [(0,.row 3 1 1 (idT l))] 1 148 [.any,.any,.any,.any,.any,.own 0 l.length]) (fun _=>True) (fun _=>0) ?_ ?_
 ·refine⟨(),trivial,?_⟩;exact kw0 [(0,some 0)]
 intro _ _;refine zG ?_;refine rg0 ?_;refine zD ?_;refine rg1 @h12 ?_;refine cT1 @h12 ?_;refine zO fun K hK=>?_
 simp(maxSteps:=2000000)(disch:=omega)
 (repeat' apply And.intro)
 all_goals (try omega)
 refine za (caps:=[]) (hins) [0] [0] 1 rfl rfl rfl rfl (by kernel_rfl) (by simp) ?_ ?_ (by simp) rfl (by simp) ⟨.inr (.inr ⟨rfl,by simp,by simp⟩),trivial⟩ (by simp) ?_
 ·simp[scal]
 ·simp
 simp(maxSteps:=2000000)(disch:=omega);and_intros<;>try first|apply hK|omega|rfl|simp<;>omega
 refine zI ?_;exact zXK
theorem zP3(sz l:List Nat)(hn:1<=l.length)(hl:l.length<=12)(hnd:l.Nodup)(hlt: ∀x∈l,x<sz.length):FnK Tryz.prog 65 [.own 0 l.length,.fn 66 [.pt 0 (szC sz)]] [.row 3 1 1 (idT l)] (.tup []) [.row 3 1 1 (idT (zFz (szF sz) l))] [0]:=by
 obtain⟨_,⟨k,rfl⟩,hlen⟩:=zVR l.length (by omega);have hpd:=zUH sz l k hn hl hnd hlt;have hwu:IntKind.u64.wrap (l.length:Int)=l.length:=by rw[IntKind.wrap_u64];omega
 have hlen0:(zFz (szF sz) l).length=l.length:=by
  unfold zFz;split
  ·rename_i h;exact h.choose_spec.1.length_eq
  ·rfl
 refine zFK 0 l.length rfl rfl (by simp[idT]) (by simp[idT,hlen0]) Tryz.func65 rfl (by simp[Tryz.f65]) ?_;rw[show Tryz.f65.ntmps=14 from rfl,show Tryz.f65.results= #[]from rfl];refine rg0 ?_;refine zAE fun K hK=>?_
 simp(maxSteps:=2000000)(disch:=omega)[hwu]
 (repeat' apply And.intro)
 all_goals (try omega)
 refine zJ (caps:=[]) (hlen) [] [] 2 rfl rfl rfl rfl (by kernel_rfl) (by simp) ?_ trivial trivial rfl trivial trivial (by simp) ?_
 ·simp[scal]
 simp(maxSteps:=2000000)(disch:=omega)[scal]
 (repeat' apply And.intro)
 all_goals (try omega)
 refine za (caps:=[]) (hpd) [0] [0] 1 rfl rfl rfl rfl (by kernel_rfl) (by simp) ?_ ?_ (by simp) rfl (by simp) ⟨.inr (.inr ⟨rfl,by simp,by simp⟩),trivial⟩ (by simp) ?_
 ·simp[scal]
 ·simp
 simp(maxSteps:=2000000)(disch:=omega)
 (repeat' first|apply hK|apply And.intro)<;>try first|omega|rfl|(simp<;>omega)
 refine⟨_,[(0,some 0)],(by first|rfl|(simp[ints,rows,scal,tpO];rfl)),?_,?_,?_,?_⟩
 all_goals try simp
def zBR(n:Nat)(f:Nat->Bool):List T:=tab n fun y=>.bool (f y)
theorem zK4(n:Nat)(f:Nat->Bool):(zBR n f).length=n:=by simp[zBR]
theorem zNB(n:Nat):zBR n (fun _=>false)=List.replicate n (.bool false):=by
 unfold zBR;rw[←zr]
theorem zGU{n:Nat}{f g:Nat->Bool}{i:Nat}(h: ∀y,y<n->g y=(f y||(i==y))):(zBR n f).set i (.bool true)=zBR n g:=by
 refine List.ext_getElem? fun y=>?_
 unfold zBR;by_cases hy:y<n
 ·rw[zX _ hy];by_cases e:i=y
  ·subst e;rw[List.getElem?_set_self (by simpa using hy),h _ hy];simp
  ·rw[List.getElem?_set_ne e,zX _ hy,h _ hy];simp[e]
 ·rw[Qg (by simp;omega),Qg (by simp;omega)]
theorem zNy(n:Nat)(hn:n<=1000):FnS Tryz.prog 64 [.t 2 (.int .i64 n)] [] (.own 0 n) ([.vec 25 1 2 (tab n fun j=>.own (1+j) n)]++tab n fun j=>.row 4 1 2 (zBR n fun _=>false)):=by
 have hz:=zNB n;have h2: ∃res H',(res=AV.own 0 n/\H'=[AObj.vec 25 1 2 (tab n fun j=>.own (1+j) n)]++tab n fun j=>AObj.row 4 1 2 (zBR n fun _=>false))/\FnS Tryz.prog 64 [.t 2 (.int .i64 n)] [] res H':=by
  refine zAp Tryz.func64 rfl (by simp[Tryz.f64]) ?_;rw[show Tryz.f64.ntmps=19 from rfl,show Tryz.f64.results= #[.tmp 2]from rfl];refine rg0 ?_;refine rg0 ?_;refine zD ?_;refine rg0 ?_;refine zG ?_;refine awp_loop (fun i:Nat=>mkF [(0,.t 2 (.int .i64 n)),(3,.own 0 n),(8,.t 2 (.int .i64 n)),(9,.t 2 (.int .i64 i))]
    [(0,.vec 25 1 2 (tab n fun y=>if y<i then .own (100+y) n else .t 2 (.sl 0 [])))]
    100 i (fun _=>.row 4 1 2 (zBR n fun _=>false)) 2000 19 [.any]) (fun i=>i<=n) (fun i=>n-i) ?_ ?_
  ·refine⟨0,by omega,?_⟩;exact kf1 [(0,some 2000000)] (fun j=>j) (an @zr @ze)
  intro i hi;refine rg0 ?_;refine zD ?_;by_cases hlt:i<n
  ·refine cK1 @hlt ?_;refine zD ?_;refine zG ?_;refine rg0 ?_;refine rr1 (an @hlt @zg) ?_;refine rr0 ?_;refine⟨i+1,by omega,by omega,?_⟩;refine zAO [(0,some 0)] (fun j=>if j<i then 100+j else 6002000) rfl ?_ ?_ ?_ ?_ ?_ ?_
   all_goals try simp +contextual (disch:=omega)[zc,zf,zBS,zZ,hz,zr]
   all_goals (try omega)
   ·intro j hj;by_cases h1:j=i
    ·subst h1;simp +contextual (disch:=omega)[zBS]
    ·by_cases h2:j<i
     ·have h3:j<i+1:=by omega
      simp +contextual (disch:=omega)[zBS,h1,h2,h3]
     ·have h3: ¬j<i+1:=by omega
      simp +contextual (disch:=omega)[h1,h2,h3]
   ·intro j hj;by_cases h1:j<i
    ·simp +contextual (disch:=omega)[zc,zf,zAC,h1]
    ·simp +contextual (disch:=omega)[zc,zAC,h1]
   ·intro i1 j hi hj h;split at h<;>split at h<;>omega
  ·obtain rfl:i=n:=by omega
   refine cF0 ?_;refine zK ?_;refine rg0 ?_;refine zI ?_;refine⟨⟨_,_,⟨rfl,rfl⟩,?_⟩,by simp⟩;refine zW4 [(0,some 0)] (fun j=>100+j) (.inr rfl) ?_ ?_ ?_ ?_ ?_ _ ?_ (by first|(simp;rfl)|rfl)
   all_goals try simp +contextual (disch:=omega)[zAC,zBS,zZ]
   all_goals (trace_state;sorry)
 obtain⟨_,_,⟨rfl,rfl⟩,h⟩:=h2;exact h
def rBt(tb:List (List Int))(x k y:Nat):Bool:=(List.range k).any fun s=>zQ tb x s==y
def lBt(tb:List (List Int))(x k y:Nat):Bool:=(List.range k).any fun s=>zQ tb s x==y
def wBt(tb:List (List Int))(n x j y:Nat):Bool:=(List.range j).any fun z=>rBt tb x n z&&lBt tb z n y
theorem any_succ(k:Nat)(p:Nat->Bool):(List.range (k+1)).any p=((List.range k).any p||p k):=by
 rw[List.range_succ,List.any_append];simp
theorem zRJ(tb:List (List Int))(x k y:Nat):rBt tb x (k+1) y=(rBt tb x k y||(zQ tb x k==y)):=any_succ _ _
theorem zKc(tb:List (List Int))(x k y:Nat):lBt tb x (k+1) y=(lBt tb x k y||(zQ tb k x==y)):=any_succ _ _
theorem zRM(tb:List (List Int))(n x j y:Nat):wBt tb n x (j+1) y=(wBt tb n x j y||(rBt tb x n j&&lBt tb j n y)):=any_succ _ _
def zFZ(f:Nat->Bool)(k:Nat):Nat:=((List.range k).filter f).length
theorem zMZ(f:Nat->Bool)(k:Nat):zFZ f (k+1)=if f k=true then zFZ f k+1 else zFZ f k:=by
 unfold zFZ;rw[List.range_succ,List.filter_append]
 cases h:f k<;>simp[h]
theorem zTo(f:Nat->Bool)(k:Nat):zFZ f k<=k:=by
 unfold zFZ;exact Nat.le_trans (List.length_filter_le _ _) (by simp)
section
variable{tb:List (List Int)}{n:Nat}
theorem zOs{x y:Nat}:rBt tb x n y=true↔RLe n (zQ tb) x y:=by
 unfold rBt RLe;simp
theorem zPJ{x y:Nat}:lBt tb x n y=true↔LLe n (zQ tb) x y:=by
 unfold lBt LLe;simp
theorem zPQ(h:ApM n (zQ tb)){x y:Nat}(hx:x<n):wBt tb n x n y=true↔JLe n (zQ tb) x y:=by
 unfold wBt JLe;simp only[List.any_eq_true,List.mem_range,Qz,zOs,zPJ];unfold RLe LLe;constructor
 ·rintro⟨z,hz,⟨t,ht,rfl⟩,s,hs,rfl⟩;exact⟨s,t,hs,ht,h.asc s x t hs hx ht⟩
 ·rintro⟨s,t,hs,ht,rfl⟩;exact⟨zQ tb x t,h.lt _ _ hx ht,⟨t,ht,rfl⟩,s,hs,(h.asc s x t hs hx ht).symm⟩
end
theorem zE3(sz:Nat->Nat){l:List Nat}(hnd:l.Nodup):(zFz sz l).Perm l/\(zFz sz l).Pairwise (zAq sz):=by
 have hex: ∃d:List Nat,d.Perm l/\d.Pairwise (zAq sz):=by
  induction l with
  |nil=>exact⟨[],.refl _,.nil⟩
  |cons x l ih=>
   obtain⟨d,d1,d2⟩:=ih (List.nodup_cons.1 hnd).2;have hx:x∉d:=fun h=>(List.nodup_cons.1 hnd).1 (d1.mem_iff.1 h)
   -- x goes before those that stand behind it
   refine⟨d.filter (fun y=>decide (sz x<sz y\/(sz y=sz x/\y<x)))++x::d.filter (fun y=>!decide (sz x<sz y\/(sz y=sz x/\y<x))),?_,?_⟩
   ·refine List.perm_middle.trans (List.Perm.cons x ?_);exact(List.filter_append_perm _ d).trans d1
   ·rw[List.pairwise_append];refine⟨d2.filter _,?_,?_⟩
    ·rw[List.pairwise_cons];refine⟨fun y hy=>?_,d2.filter _⟩;obtain⟨y1,y2⟩:=List.mem_filter.1 hy;have hne:y≠x:=fun e=>hx (e▸y1)
     simp only[Bool.not_eq_true',decide_eq_false_iff_not]at y2;unfold zAq;omega
    ·intro a ha b hb;obtain⟨a1,a2⟩:=List.mem_filter.1 ha;simp only[decide_eq_true_eq]at a2;have hax:zAq sz a x:=by unfold zAq;omega
     rcases List.mem_cons.1 hb with rfl|hb
     ·exact hax
     ·obtain⟨b1,b2⟩:=List.mem_filter.1 hb;have hne:b≠x:=fun e=>hx (e▸b1)
      simp only[Bool.not_eq_true',decide_eq_false_iff_not]at b2;unfold zAq at hax ⊢;omega
 unfold zFz;rw[dif_pos hex];exact hex.choose_spec
def idC(n x b:Nat)(f:Nat->Nat->Bool)(y:Nat):AV:=if y<x then .t 2 (.sl 1 (zBR n (f y)))else .own (100+(3*(y-x)+b)) n
def idD(n x o b:Nat)(f:Nat->Nat->Bool)(y:Nat):AV:=if y<x then .t 2 (.sl 1 (zBR n (f y)))else if y=x then .own o n else .own (100+(3*(y-x-1)+b)) n
theorem zSG(n x o b:Nat)(f:Nat->Nat->Bool):idD n x o b f x= .own o n:=by simp[idD]
section
variable{H:Nat->Option AObj}{m:Nat->Option Nat}{un:Nat->Prop}{nx n x o b:Nat}{f:Nat->Nat->Bool}
theorem zJG(hn:n<=12)(hm:m o=some (100+b))(ho:o<nx)(hf: ∀k,k<3*(n-x-1)->m (100+k)=some (103+k))(hnx:200<=nx)(hb:b<=2): ∀y,y<n->wkP H m un nx (idC n x b f y) (idD n x o b f y):=fun y hy=>by
 unfold idC idD;by_cases h1:y<x
 ·rw[if_pos h1,if_pos h1];simp
 ·rw[if_neg h1,if_neg h1];by_cases h2:y=x
  ·subst h2;rw[if_pos rfl];simp[hm,ho]
  ·rw[if_neg h2];have:=hf (3*(y-x-1)+b) (by omega);simp only[wkP,this,Qx,and_true];omega
theorem zAB(hn:n<=12)(hx:x<n)(hm:m o=some o)(ho:o<nx)(hf: ∀k,k<3*(n-x-1)->m (100+k)=some (100+k))(hnx:200<=nx)(hb:b<=2): ∀y,y<n->wkP H m un nx (idD n x o b f y) (idD n x o b f y):=fun y hy=>by
 unfold idD;by_cases h1:y<x
 ·rw[if_pos h1];simp
 ·rw[if_neg h1];by_cases h2:y=x
  ·rw[if_pos h2];simp[hm,ho]
  ·rw[if_neg h2];have:=hf (3*(y-x-1)+b) (by omega);simp only[wkP,this,and_true,true_and];omega
theorem zI3(hn:n<=12){e:TypeId}(hH:H o=some (.row e 1 2 (zBR n (f x))))(hu:un o)(hf: ∀k,k<3*(n-(x+1))->m (100+k)=some (100+k))(hnx:200<=nx)(hb:b<=2): ∀y,y<n->wkP H m un nx (idD n x o b f y) (idC n (x+1) b f y):=fun y hy=>by
 unfold idD idC;by_cases h1:y<x
 ·rw[if_pos h1,if_pos (by omega)];simp
 ·rw[if_neg h1];by_cases h2:y=x
  ·subst h2;rw[if_pos rfl,if_pos (by omega)];simp[hH,hu,zK4]
  ·rw[if_neg h2,if_neg (by omega)];have:=hf (3*(y-(x+1))+b) (by omega);simp only[wkP,this,Qx,and_true];omega
end
theorem zNS{n:Nat}{f:Nat->Bool}{y:Nat}(h:y<n): ∀d,(zBR n f)[y]?.getD d= .bool (f y):=fun d=>by
 unfold zBR;rw[zX _ h];rfl
def zK0(n x:Nat):List T:=tab n fun y=>.int .i64 ((if y<x then y else 0:Nat):Nat)
theorem zN5(n:Nat):zK0 n 0=List.replicate n (.int .i64 0):=by
 unfold zK0;rw[zr];simp
theorem zQB(n x:Nat):(zK0 n x).length=n:=by simp[zK0]
theorem zDA{α:Type}{n:Nat}{f g:Nat->α}(h: ∀y,y<n->f y=g y):tab n f=tab n g:=by
 refine List.ext_getElem? fun y=>?_
 by_cases hy:y<n
 ·rw[zX _ hy,zX _ hy,h y hy]
 ·rw[Qg (by simp;omega),Qg (by simp;omega)]
theorem zRG(n x:Nat):(zK0 n x).set x (.int .i64 (x:Nat))=zK0 n (x+1):=by
 unfold zK0;rw[zg];refine zDA fun y _=>?_
 by_cases c:y=x
 ·subst c;simp
 ·rw[if_neg c];by_cases d:y<x
  ·rw[if_pos d,if_pos (by omega)]
  ·rw[if_neg d,if_neg (by omega)]
theorem zM8(n:Nat):zK0 n n=idT (List.range n):=by
 unfold zK0 idT;refine List.ext_getElem? fun y=>?_
 by_cases hy:y<n
 ·rw[zX _ hy,if_pos hy];simp[hy]
 ·rw[Qg (by simp;omega),Qg (by simp;omega)]
def zEk(n x:Nat)(S:Nat->Nat)(c:Nat):List T:=tab n fun y=>.int .i64 ((if y<x then S y else if y=x then c else 0:Nat):Nat)
theorem zQh(n x:Nat)(S:Nat->Nat)(c:Nat):(zEk n x S c).length=n:=by simp[zEk]
theorem zMv(n:Nat)(S:Nat->Nat):zEk n 0 S 0=List.replicate n (.int .i64 0):=by
 unfold zEk;rw[zr];refine zDA fun y _=>?_
 simp
theorem zQc{n x:Nat}{S:Nat->Nat}{c:Nat}(h:x<n): ∀hh,(zEk n x S c)[x]'hh= .int .i64 (c:Nat):=fun hh=>by
 have:=zX (fun y=>T.int .i64 ((if y<x then S y else if y=x then c else 0:Nat):Nat)) h;unfold zEk at hh ⊢;rw[Qj hh]at this;rw[Option.some.inj this];simp
theorem zQJ{n x:Nat}{S:Nat->Nat}{c d:Nat}:(zEk n x S c).set x (.int .i64 (d:Nat))=zEk n x S d:=by
 unfold zEk;rw[zg];refine zDA fun y _=>?_
 by_cases e:y=x
 ·subst e;simp
 ·rw[if_neg e,if_neg e,if_neg e]
theorem zOL(n x:Nat)(S:Nat->Nat):zEk n x S (S x)=zEk n (x+1) S 0:=by
 unfold zEk;refine zDA fun y _=>?_
 by_cases e:y=x
 ·subst e;simp
 ·by_cases d:y<x
  ·rw[if_pos d,if_pos (by omega)]
  ·rw[if_neg d,if_neg e,if_neg (by omega)];simp
theorem zSu(hl:List (Nat×AObj))(base n:Nat)(F:Nat->AObj){k:Nat}(h1:base<=k)(h2:k-base<n):zDy hl base n F k=some (F (k-base)):=by
 unfold zDy;rw[if_neg (by omega),if_pos h2]
theorem zVO{a B n:Nat}:(poF [a] B n)[0]?.getD 0=a:=rfl
def zT4(tb:List (List Int))(n:Nat):List (List Bool):=tab n fun x=>tab n fun y=>rBt tb x n y
def zT5(tb:List (List Int))(n:Nat):List (List Bool):=tab n fun x=>tab n fun y=>lBt tb x n y
def zT7(tb:List (List Int))(n:Nat):List (List Bool):=tab n fun x=>tab n fun y=>wBt tb n x n y
def zN9(tb:List (List Int))(n:Nat):List Nat:=tab n fun x=>zFZ (wBt tb n x n) n
noncomputable def zC4(tb:List (List Int))(n:Nat):List Nat:=zFz (szF (zN9 tb n)) (List.range n)
theorem zOF(tb:List (List Int))(n:Nat)(ht:TbL tb n (zQ tb))(hn0:1<=n)(hn:n<=12):FnA Tryz.prog 29 [.t 0 (rows tb)] (.agg [.t 1 (zM (zT4 tb n)),.t 1 (zM (zT5 tb n)),.t 1 (zM (zT7 tb n)),.t 1 (ints (nI (zC4 tb n)))]):=by
 have htl:=ht.len;have hn12:n=1\/n=2\/n=3\/n=4\/n=5\/n=6\/n=7\/n=8\/n=9\/n=10\/n=11\/n=12:=by omega
 have hsq:=zNy n (by omega);refine fI 121 #[.cell 2 64] Tryz.func29 rfl ?_;refine rg0 ?_;refine rg1 @htl ?_;refine zo (by kernel_rfl) (fun K hK=>?_);simp(maxSteps:=2000000)(disch:=omega)
 (repeat' apply And.intro)
 all_goals (try omega)
 refine zDF (caps:=[]) (hsq) [] [5000000] 5000010 2 rfl rfl rfl rfl (by kernel_rfl) (by simp) ?_ ?_ (by simp) rfl (by simp) ⟨.inl ⟨by omega,by omega⟩,trivial⟩ (by omega) (by intro k hk;simp at hk;omega) (by simp) (fun j hj=>rfl) ?_
 ·simp +contextual (disch:=omega)[zc,zAA,Qi,scal,scal]
 ·trivial
 simp(maxSteps:=2000000)(disch:=omega)[callF]
 (repeat' apply And.intro)
 all_goals (try omega)
 refine zDF (caps:=[]) (hsq) [] [7000000] 7000010 2 rfl rfl rfl rfl (by kernel_rfl) (by simp) ?_ ?_ (by simp) rfl (by simp) ⟨.inl ⟨by omega,by omega⟩,trivial⟩ (by omega) (by intro k hk;simp at hk;omega) (by simp) (fun j hj=>rfl) ?_
 ·simp +contextual (disch:=omega)[zc,zAA,Qi,Qd,scal,poF,scal]
 ·trivial
 simp(maxSteps:=2000000)(disch:=omega)[callF]
 (repeat' apply And.intro)
 all_goals (try omega)
 refine zDF (caps:=[]) (hsq) [] [9000000] 9000010 2 rfl rfl rfl rfl (by kernel_rfl) (by simp) ?_ ?_ (by simp) rfl (by simp) ⟨.inl ⟨by omega,by omega⟩,trivial⟩ (by omega) (by intro k hk;simp at hk;omega) (by simp) (fun j hj=>rfl) ?_
 ·simp +contextual (disch:=omega)[zc,zAA,Qi,Qd,scal,poF,scal]
 ·trivial
 simp(maxSteps:=2000000)(disch:=omega)[callF,zVO]
 (repeat' first|apply hK|apply And.intro)<;>try first|(show zAf _ _=true;(rcases hn12 with rfl|rfl|rfl|rfl|rfl|rfl|rfl|rfl|rfl|rfl|rfl|rfl)<;>kernel_rfl)|(show okH _ _ _=true;kernel_rfl)|omega|rfl|(simp<;>omega)
 refine rg0 ?_;obtain⟨zR,hzR⟩: ∃zR:Nat->Nat->Bool,zR=fun x=>rBt tb x n:=⟨_,rfl⟩
 obtain⟨zL,hzL⟩: ∃zL:Nat->Nat->Bool,zL=fun x=>lBt tb x n:=⟨_,rfl⟩
 obtain⟨zW,hzW⟩: ∃zW:Nat->Nat->Bool,zW=fun x=>wBt tb n x n:=⟨_,rfl⟩
 obtain⟨zS,hzS⟩: ∃zS:Nat->Nat,zS=fun x=>zFZ (zW x) n:=⟨_,rfl⟩
 have hsz0:=zMv n zS;have hor0:=zN5 n;refine zD ?_;refine rg0 ?_;refine zG ?_;refine awp_loop (fun x:Nat=>mkF [(0,.t 0 (rows tb)),(2,.ptr 0 0 4),(3,.t 2 (.int .i64 n)),(4,.ptr 1 0 4),(5,.ptr 6 0 1),(25,.t 2 (.int .i64 n)),(26,.t 2 (.int .i64 x))]
   [(0,.box 64 [.any,.any,.any,.any]),(1,.box 64 [.own 2 n,.own 3 n,.own 4 n,.own 5 n]),(2,.vec 25 1 2 (tab n (idC n x 0 zR))),(3,.vec 25 1 2 (tab n (idC n x 1 zL))),(4,.vec 25 1 2 (tab n (idC n x 2 zW))),(5,.row 3 1 2 (zK0 n x)),(6,.box 22 [.own 7 n]),(7,.row 3 1 2 (zEk n x zS 0))] 100 (3*(n-x)) (fun _=>.row 4 1 2 (zBR n fun _=>false)) 1000 121 [.any]) (fun x=>x<=n) (fun x=>n-x) ?_ ?_
 ·refine⟨0,by omega,?_⟩;refine zAO [(0,some 0),(1,some 13000000),(2,some 5000000),(3,some 7000000),(4,some 9000000),(5,some 11000000),(6,some 17000000),(7,some 16000000)] (fun j=>if j%3=0 then 5000010+j/3 else if j%3=1 then 7000010+j/3 else 9000010+j/3) rfl ?_ ?_ ?_ ?_ ?_ ?_
  all_goals try simp +contextual (disch:=omega)[wkE,wkP,wkPs,wkH,wkO,keysNd,unm,zAd,zAL,zCC,zAw,zA3,zBd,zc,zf,zAC,zAA,zBS,Ql,Qi,Qd,zZ,zCb (show 1=[5000000].length from rfl),zCb (show 1=[7000000].length from rfl),zCb (show 1=[9000000].length from rfl),hsz0,hor0,idC,rows,zr]
  all_goals (try omega)
  ·exact⟨fun j _=>by omega,fun j _=>by omega⟩
  ·intro j hj;rcases(by omega:j%3=0\/j%3=1\/j%3=2)with h|h|h
   ·simp +contextual (disch:=omega)[zf,zAC,zAA,h]
   ·simp +contextual (disch:=omega)[zf,zAC,zAA,h]
   ·simp +contextual (disch:=omega)[zf,zAC,zAA,h]
  ·intro i j hi hj h
   (repeat' split at h)<;>omega
 intro x hx;refine rg0 ?_;refine zD ?_;by_cases hlt:x<n
 ·refine cK1 @hlt ?_;refine zD ?_;refine zG ?_;have hos:=zRG n x;have hol:=zQB n x;refine rg1 (an @hlt (an @hos @hol)) ?_;refine rg1 (an @hlt (an @hos @hol)) ?_;refine zD ?_;refine rg0 ?_;refine zG ?_;refine awp_loop (fun k:Nat=>mkF [(0,.t 0 (rows tb)),(2,.ptr 0 0 4),(3,.t 2 (.int .i64 n)),(4,.ptr 1 0 4),(5,.ptr 6 0 1),(6,.t 2 (.int .i64 x)),(25,.t 2 (.int .i64 n)),(26,.t 2 (.int .i64 x)),(34,.t 2 (.int .i64 n)),(35,.t 2 (.int .i64 k))]
     [(0,.box 64 [.any,.any,.any,.any]),(1,.box 64 [.own 2 n,.own 3 n,.own 4 n,.own 5 n]),(2,.vec 25 1 2 (tab n (idD n x 8 0 zR))),(3,.vec 25 1 2 (tab n (idD n x 9 1 zL))),(4,.vec 25 1 2 (tab n (idD n x 10 2 zW))),(5,.row 3 1 2 (zK0 n (x+1))),(6,.box 22 [.own 7 n]),(7,.row 3 1 2 (zEk n x zS 0)),(8,.row 4 1 2 (zBR n (rBt tb x k))),(9,.row 4 1 2 (zBR n (lBt tb x k))),(10,.row 4 1 2 (zBR n (fun _=>false)))] 100 (3*(n-x-1)) (fun _=>.row 4 1 2 (zBR n fun _=>false)) 1000 121 [.any]) (fun k=>k<=n) (fun k=>n-k) ?_ ?_
  ·refine⟨0,by omega,?_⟩;have e1:rBt tb x 0=fun _=>false:=rfl
   have e2:lBt tb x 0=fun _=>false:=rfl
   rw[e1,e2];refine zAO [(0,some 0),(1,some 1),(2,some 2),(3,some 3),(4,some 4),(5,some 5),(6,some 6),(7,some 7),(8,some 100),(9,some 101),(10,some 102)] (fun j=>103+j) rfl ?_ ?_ ?_ ?_ ?_ ?_
   all_goals try simp +contextual (disch:=omega)[zc,zf,zAC,zAA,zBS,zZ,rows,zSu]
   all_goals (try omega)
   ·refine⟨zJG hn ?_ (by omega) ?_ (by omega) (by omega),zJG hn ?_ (by omega) ?_ (by omega) (by omega),zJG hn ?_ (by omega) ?_ (by omega) (by omega)⟩
    ·simp +contextual (disch:=omega)[zc,zf]
    ·intro k hk;simp +contextual (disch:=omega)
    ·simp +contextual (disch:=omega)[zc,zf]
    ·intro k hk;simp +contextual (disch:=omega)
    ·simp +contextual (disch:=omega)[zc]
    ·intro k hk;simp +contextual (disch:=omega)
  intro k hk;have hx8:=zSG n x 8 0 zR;have hx9:=zSG n x 9 1 zL;have hx10:=zSG n x 10 2 zW;have hrl:=fun f=>zK4 n f
  have hrg:=fun(f:Nat->Bool) (y:Nat) (hy:y<n)=>zNS (f:=f) hy
  refine rg0 ?_;refine zD ?_;by_cases hlk:k<n
  ·obtain⟨g1,g2,g3⟩:=ht.get hlt hlk;obtain⟨i1,i2,i3⟩:=ht.get hlk hlt;have hT1:=ht.lt _ _ hlt hlk;have hT2:=ht.lt _ _ hlk hlt;have hs1:(zBR n (rBt tb x k)).set (zQ tb x k) (.bool true)=zBR n (rBt tb x (k+1)):=zGU fun y _=>zRJ tb x k y
   have hs2:(zBR n (lBt tb x k)).set (zQ tb k x) (.bool true)=zBR n (lBt tb x (k+1)):=zGU fun y _=>zKc tb x k y
   refine cK1 @hlk ?_;refine zD ?_;refine zG ?_;refine rg0 ?_;refine rd1 (an @hlt (an @hlk (an @hx8 (an @hrl (an @g1 (an @g2 (an @g3 (an @hT1 @hs1)))))))) ?_;refine re1 (an @hlt (an @hlk (an @hx9 (an @hrl (an @i1 (an @i2 (an @i3 (an @hT2 @hs2)))))))) ?_;refine rr0 ?_;refine⟨k+1,by omega,by omega,?_⟩;refine zAO [(0,some 0),(1,some 1),(2,some 2),(3,some 3),(4,some 4),(5,some 5),(6,some 6),(7,some 7),(8,some 8),(9,some 9),(10,some 10)] (fun j=>100+j) rfl ?_ ?_ ?_ ?_ ?_ ?_
   all_goals try simp +contextual (disch:=omega)[zc,zf,zAC,zAA,zBS,zZ,rows]
   all_goals (try omega)
   all_goals (exact⟨zAB hn hlt (by simp) (by omega) (fun k hk=>by simp[hk]) (by omega) (by omega),zAB hn hlt (by simp) (by omega) (fun k hk=>by simp[hk]) (by omega) (by omega),zAB hn hlt (by simp) (by omega) (fun k hk=>by simp[hk]) (by omega) (by omega)⟩)
  ·obtain rfl:n=k:=by omega
   refine cF0 ?_;refine zK ?_;refine zD ?_;refine rg0 ?_;refine zG ?_;refine awp_loop (fun j:Nat=>mkF [(0,.t 0 (rows tb)),(2,.ptr 0 0 4),(3,.t 2 (.int .i64 n)),(4,.ptr 1 0 4),(5,.ptr 6 0 1),(6,.t 2 (.int .i64 x)),(25,.t 2 (.int .i64 n)),(26,.t 2 (.int .i64 x)),(65,.t 2 (.int .i64 n)),(66,.t 2 (.int .i64 j))]
     [(0,.box 64 [.any,.any,.any,.any]),(1,.box 64 [.own 2 n,.own 3 n,.own 4 n,.own 5 n]),(2,.vec 25 1 2 (tab n (idD n x 8 0 zR))),(3,.vec 25 1 2 (tab n (idD n x 9 1 zL))),(4,.vec 25 1 2 (tab n (idD n x 10 2 zW))),(5,.row 3 1 2 (zK0 n (x+1))),(6,.box 22 [.own 7 n]),(7,.row 3 1 2 (zEk n x zS 0)),(8,.row 4 1 2 (zBR n (rBt tb x n))),(9,.row 4 1 2 (zBR n (lBt tb x n))),(10,.row 4 1 2 (zBR n (wBt tb n x j)))] 100 (3*(n-x-1)) (fun _=>.row 4 1 2 (zBR n fun _=>false)) 1000 121 [.any]) (fun j=>j<=n) (fun j=>n-j) ?_ ?_
   ·refine⟨0,by omega,?_⟩;have e1:wBt tb n x 0=fun _=>false:=rfl
    rw[e1];refine zAO [(0,some 0),(1,some 1),(2,some 2),(3,some 3),(4,some 4),(5,some 5),(6,some 6),(7,some 7),(8,some 8),(9,some 9),(10,some 10)] (fun j=>100+j) rfl ?_ ?_ ?_ ?_ ?_ ?_
    all_goals try simp +contextual (disch:=omega)[zc,zf,zAC,zAA,zBS,zZ,rows]
    all_goals (try omega)
    all_goals (exact⟨zAB hn hlt (by simp) (by omega) (fun k hk=>by simp[hk]) (by omega) (by omega),zAB hn hlt (by simp) (by omega) (fun k hk=>by simp[hk]) (by omega) (by omega),zAB hn hlt (by simp) (by omega) (fun k hk=>by simp[hk]) (by omega) (by omega)⟩)
   intro j hj;refine rg0 ?_;refine zD ?_;by_cases hlj:j<n
   ·have hrj:=hrg (rBt tb x n) j hlj;have hws: ∀y,wBt tb n x (j+1) y=(wBt tb n x j y||(rBt tb x n j&&lBt tb j n y)):=fun y=>zRM tb n x j y
    refine cK1 @hlj ?_;refine zD ?_;refine zG ?_;refine rg0 ?_;refine zD ?_
    cases hb:rBt tb x n j with
    |false=>
     rw[hb]at hrj;have hw1:wBt tb n x (j+1)=wBt tb n x j:=by
      funext y;rw[hws y,hb];simp
     refine rg1 (an @hlt (an @hlj (an @hx8 (an @hrl @hrj)))) ?_;refine cT0 ?_;refine zK ?_;refine rr0 ?_;refine⟨j+1,by omega,by omega,?_⟩;rw[hw1];refine zAO [(0,some 0),(1,some 1),(2,some 2),(3,some 3),(4,some 4),(5,some 5),(6,some 6),(7,some 7),(8,some 8),(9,some 9),(10,some 10)] (fun j=>100+j) rfl ?_ ?_ ?_ ?_ ?_ ?_
     all_goals try simp +contextual (disch:=omega)[zc,zf,zAC,zAA,zBS,zZ,rows]
     all_goals (try omega)
     all_goals (exact⟨zAB hn hlt (by simp) (by omega) (fun k hk=>by simp[hk]) (by omega) (by omega),zAB hn hlt (by simp) (by omega) (fun k hk=>by simp[hk]) (by omega) (by omega),zAB hn hlt (by simp) (by omega) (fun k hk=>by simp[hk]) (by omega) (by omega)⟩)
    |true=>
     rw[hb]at hrj;refine rg1 (an @hlt (an @hlj (an @hx8 (an @hrl @hrj)))) ?_;refine cS0 ?_;refine rg0 ?_;refine zG ?_;refine awp_loop (fun k:Nat=>mkF [(0,.t 0 (rows tb)),(2,.ptr 0 0 4),(3,.t 2 (.int .i64 n)),(4,.ptr 1 0 4),(5,.ptr 6 0 1),(6,.t 2 (.int .i64 x)),(8,.t 2 (.int .i64 j)),(25,.t 2 (.int .i64 n)),(26,.t 2 (.int .i64 x)),(65,.t 2 (.int .i64 n)),(66,.t 2 (.int .i64 j)),(78,.t 2 (.int .i64 n)),(79,.t 2 (.int .i64 k))]
     [(0,.box 64 [.any,.any,.any,.any]),(1,.box 64 [.own 2 n,.own 3 n,.own 4 n,.own 5 n]),(2,.vec 25 1 2 (tab n (idD n x 8 0 zR))),(3,.vec 25 1 2 (tab n (idD n x 9 1 zL))),(4,.vec 25 1 2 (tab n (idD n x 10 2 zW))),(5,.row 3 1 2 (zK0 n (x+1))),(6,.box 22 [.own 7 n]),(7,.row 3 1 2 (zEk n x zS 0)),(8,.row 4 1 2 (zBR n (rBt tb x n))),(9,.row 4 1 2 (zBR n (lBt tb x n))),(10,.row 4 1 2 (zBR n (fun y=>wBt tb n x j y||lBt tb j k y)))] 100 (3*(n-x-1)) (fun _=>.row 4 1 2 (zBR n fun _=>false)) 1000 121 [.any]) (fun k=>k<=n) (fun k=>n-k) ?_ ?_
     ·refine⟨0,by omega,?_⟩;have e1:(fun y=>wBt tb n x j y||lBt tb j 0 y)=wBt tb n x j:=by
       funext y;simp[lBt]
      rw[e1];refine zAO [(0,some 0),(1,some 1),(2,some 2),(3,some 3),(4,some 4),(5,some 5),(6,some 6),(7,some 7),(8,some 8),(9,some 9),(10,some 10)] (fun j=>100+j) rfl ?_ ?_ ?_ ?_ ?_ ?_
      all_goals try simp +contextual (disch:=omega)[zc,zf,zAC,zAA,zBS,zZ,rows]
      all_goals (try omega)
      all_goals (exact⟨zAB hn hlt (by simp) (by omega) (fun k hk=>by simp[hk]) (by omega) (by omega),zAB hn hlt (by simp) (by omega) (fun k hk=>by simp[hk]) (by omega) (by omega),zAB hn hlt (by simp) (by omega) (fun k hk=>by simp[hk]) (by omega) (by omega)⟩)
     intro k hk;refine rg0 ?_;refine zD ?_;by_cases hlk:k<n
     ·obtain⟨i1,i2,i3⟩:=ht.get hlk hlj;have hT2:=ht.lt _ _ hlk hlj;have hs2:(zBR n (fun y=>wBt tb n x j y||lBt tb j k y)).set (zQ tb k j) (.bool true)=zBR n (fun y=>wBt tb n x j y||lBt tb j (k+1) y):=zGU fun y _=>by
       rw[zKc,Bool.or_assoc]
      refine cK1 @hlk ?_;refine zD ?_;refine zG ?_;refine rg0 ?_;refine re1 (an @hlt (an @hlk (an @hlj (an @hx10 (an @hrl (an @i1 (an @i2 (an @i3 (an @hT2 @hs2))))))))) ?_;refine rr0 ?_;refine⟨k+1,by omega,by omega,?_⟩;refine zAO [(0,some 0),(1,some 1),(2,some 2),(3,some 3),(4,some 4),(5,some 5),(6,some 6),(7,some 7),(8,some 8),(9,some 9),(10,some 10)] (fun j=>100+j) rfl ?_ ?_ ?_ ?_ ?_ ?_
      all_goals try simp +contextual (disch:=omega)[zc,zf,zAC,zAA,zBS,zZ,rows]
      all_goals (try omega)
      all_goals (exact⟨zAB hn hlt (by simp) (by omega) (fun k hk=>by simp[hk]) (by omega) (by omega),zAB hn hlt (by simp) (by omega) (fun k hk=>by simp[hk]) (by omega) (by omega),zAB hn hlt (by simp) (by omega) (fun k hk=>by simp[hk]) (by omega) (by omega)⟩)
     ·obtain rfl:n=k:=by omega
      have hw1:wBt tb n x (j+1)=(fun y=>wBt tb n x j y||lBt tb j n y):=by
       funext y;rw[hws y,hb];simp
      refine cF0 ?_;refine zK ?_;refine rr0 ?_;refine⟨j+1,by omega,by omega,?_⟩;rw[hw1];refine zAO [(0,some 0),(1,some 1),(2,some 2),(3,some 3),(4,some 4),(5,some 5),(6,some 6),(7,some 7),(8,some 8),(9,some 9),(10,some 10)] (fun j=>100+j) rfl ?_ ?_ ?_ ?_ ?_ ?_
      all_goals try simp +contextual (disch:=omega)[zc,zf,zAC,zAA,zBS,zZ,rows]
      all_goals (try omega)
      all_goals (exact⟨zAB hn hlt (by simp) (by omega) (fun k hk=>by simp[hk]) (by omega) (by omega),zAB hn hlt (by simp) (by omega) (fun k hk=>by simp[hk]) (by omega) (by omega),zAB hn hlt (by simp) (by omega) (fun k hk=>by simp[hk]) (by omega) (by omega)⟩)
   ·obtain rfl:n=j:=by omega
    have hzw:wBt tb n x n=zW x:=by rw[hzW]
    rw[hzw];refine cF0 ?_;refine zK ?_;refine rg1 (an @hlt (an @hx10 @hrl)) ?_;refine zG ?_;refine awp_loop (fun i:Nat=>mkF [(0,.t 0 (rows tb)),(2,.ptr 0 0 4),(3,.t 2 (.int .i64 n)),(4,.ptr 1 0 4),(5,.ptr 6 0 1),(6,.t 2 (.int .i64 x)),(25,.t 2 (.int .i64 n)),(26,.t 2 (.int .i64 x)),(101,.own 10 n),(102,.t 2 (.int .i64 n)),(103,.t 2 (.int .i64 i))]
     [(0,.box 64 [.any,.any,.any,.any]),(1,.box 64 [.own 2 n,.own 3 n,.own 4 n,.own 5 n]),(2,.vec 25 1 2 (tab n (idD n x 8 0 zR))),(3,.vec 25 1 2 (tab n (idD n x 9 1 zL))),(4,.vec 25 1 2 (tab n (idD n x 10 2 zW))),(5,.row 3 1 2 (zK0 n (x+1))),(6,.box 22 [.own 7 n]),(7,.row 3 1 2 (zEk n x zS (zFZ (zW x) i))),(8,.row 4 1 2 (zBR n (rBt tb x n))),(9,.row 4 1 2 (zBR n (lBt tb x n))),(10,.row 4 1 2 (zBR n (zW x)))] 100 (3*(n-x-1)) (fun _=>.row 4 1 2 (zBR n fun _=>false)) 1000 121 [.any]) (fun i=>i<=n) (fun i=>n-i) ?_ ?_
    ·refine⟨0,by omega,?_⟩;have e1:zFZ (zW x) 0=0:=rfl;rw[e1];refine zAO [(0,some 0),(1,some 1),(2,some 2),(3,some 3),(4,some 4),(5,some 5),(6,some 6),(7,some 7),(8,some 8),(9,some 9),(10,some 10)] (fun j=>100+j) rfl ?_ ?_ ?_ ?_ ?_ ?_
     all_goals try simp +contextual (disch:=omega)[zc,zf,zAC,zAA,zBS,zZ,rows]
     all_goals (try omega)
     all_goals (exact⟨zAB hn hlt (by simp) (by omega) (fun k hk=>by simp[hk]) (by omega) (by omega),zAB hn hlt (by simp) (by omega) (fun k hk=>by simp[hk]) (by omega) (by omega),zAB hn hlt (by simp) (by omega) (fun k hk=>by simp[hk]) (by omega) (by omega)⟩)
    intro i hi;refine rg0 ?_;refine zD ?_;by_cases hli:i<n
    ·have hri:=hrg (zW x) i hli;have hcs:=zMZ (zW x) i;have hcl:=zTo (zW x) i;have hsg:=zQc (S:=zS) (c:=zFZ (zW x) i) hlt;have hsl:=zQh n x zS (zFZ (zW x) i);have hss:(zEk n x zS (zFZ (zW x) i)).set x (.int .i64 ((zFZ (zW x) i:Int)+1))=zEk n x zS (zFZ (zW x) i+1):=by
      have:=zQJ (n:=n) (x:=x) (S:=zS) (c:=zFZ (zW x) i) (d:=zFZ (zW x) i+1);simpa using this
     refine cK1 @hli ?_;refine zD ?_;refine zG ?_;refine rg1 (an @hli (an @hrl @hri)) ?_;generalize zFZ (zW x) i=c at*
     cases hb:zW x i with
     |true=>
      rw[hb,if_pos rfl]at hcs;refine rg1 @hb ?_;refine cT0 ?_;refine rr1 (an @hlt (an @hsg (an @hsl @hss))) ?_;refine rr0 ?_;refine⟨i+1,by omega,by omega,?_⟩;rw[hcs];refine zAO [(0,some 0),(1,some 1),(2,some 2),(3,some 3),(4,some 4),(5,some 5),(6,some 6),(7,some 7),(8,some 8),(9,some 9),(10,some 10)] (fun j=>100+j) rfl ?_ ?_ ?_ ?_ ?_ ?_
      all_goals try simp +contextual (disch:=omega)[zc,zf,zAC,zAA,zBS,zZ,rows]
      all_goals (try omega)
      all_goals (exact⟨zAB hn hlt (by simp) (by omega) (fun k hk=>by simp[hk]) (by omega) (by omega),zAB hn hlt (by simp) (by omega) (fun k hk=>by simp[hk]) (by omega) (by omega),zAB hn hlt (by simp) (by omega) (fun k hk=>by simp[hk]) (by omega) (by omega)⟩)
     |false=>
      rw[hb,if_neg (by simp)]at hcs;refine rg1 @hb ?_;refine cY0 ?_;refine rr0 ?_;refine⟨i+1,by omega,by omega,?_⟩;rw[hcs];refine zAO [(0,some 0),(1,some 1),(2,some 2),(3,some 3),(4,some 4),(5,some 5),(6,some 6),(7,some 7),(8,some 8),(9,some 9),(10,some 10)] (fun j=>100+j) rfl ?_ ?_ ?_ ?_ ?_ ?_
      all_goals try simp +contextual (disch:=omega)[zc,zf,zAC,zAA,zBS,zZ,rows]
      all_goals (try omega)
      all_goals (exact⟨zAB hn hlt (by simp) (by omega) (fun k hk=>by simp[hk]) (by omega) (by omega),zAB hn hlt (by simp) (by omega) (fun k hk=>by simp[hk]) (by omega) (by omega),zAB hn hlt (by simp) (by omega) (fun k hk=>by simp[hk]) (by omega) (by omega)⟩)
    ·obtain rfl:n=i:=by omega
     have hsn:zEk n x zS (zFZ (zW x) n)=zEk n (x+1) zS 0:=by
      have:=zOL n x zS
      rwa [show zS x=zFZ (zW x) n by rw[hzS]]at this
     rw[hsn];have hr1:rBt tb x n=zR x:=by rw[hzR]
     have hr2:lBt tb x n=zL x:=by rw[hzL]
     rw[hr1,hr2];refine cF0 ?_;refine zK ?_;refine rr0 ?_;refine⟨x+1,by omega,by omega,?_⟩;refine zAO [(0,some 0),(1,some 1),(2,some 2),(3,some 3),(4,some 4),(5,some 5),(6,some 6),(7,some 7)] (fun j=>100+j) rfl ?_ ?_ ?_ ?_ ?_ ?_
     all_goals try simp +contextual (disch:=omega)[zc,zf,zAC,zAA,zBS,zZ,rows]
     all_goals (try omega)
     ·refine⟨zI3 hn (e:=4) ?_ ?_ ?_ (by omega) (by omega),zI3 hn (e:=4) ?_ ?_ ?_ (by omega) (by omega),zI3 hn (e:=4) ?_ ?_ ?_ (by omega) (by omega)⟩
      ·simp +contextual (disch:=omega)[zc,zf]
      ·simp +contextual (disch:=omega)[zAC,zAA]
       try omega
      ·intro k hk;simp +contextual (disch:=omega)
      ·simp +contextual (disch:=omega)[zc,zf]
      ·simp +contextual (disch:=omega)[zAC,zAA]
       try omega
      ·intro k hk;simp +contextual (disch:=omega)
      ·simp +contextual (disch:=omega)[zc]
      ·simp +contextual (disch:=omega)[zAC,zAA]
       try omega
      ·intro k hk;simp +contextual (disch:=omega)
 ·obtain rfl:n=x:=by omega
  have eV: ∀(b:Nat) (f:Nat->Nat->Bool),tab n (idC n n b f)=tab n fun y=>.t 2 (.sl 1 (zBR n (f y))):=fun b f=>zDA fun y hy=>by
   unfold idC;rw[if_pos hy]
  have eM: ∀f:Nat->Nat->Bool,zM (tab n fun x=>tab n fun y=>f x y)= .sl 1 (tab n fun y=>.sl 1 (zBR n (f y))):=fun f=>by
   unfold zM;rw[ze];congr 1;refine zDA fun y _=>?_
   unfold zH zBR;rw[ze]
  have eS:zEk n n zS 0=idT (zN9 tb n):=by
   unfold zEk idT zN9;rw[ze];refine zDA fun y hy=>?_
   rw[if_pos hy,hzS,hzW]
  have hrt:zM (zT4 tb n)= .sl 1 (tab n fun y=>.sl 1 (zBR n (zR y))):=by rw[hzR];exact eM fun x=>rBt tb x n
  have hlf:zM (zT5 tb n)= .sl 1 (tab n fun y=>.sl 1 (zBR n (zL y))):=by rw[hzL];exact eM fun x=>lBt tb x n
  have htw:zM (zT7 tb n)= .sl 1 (tab n fun y=>.sl 1 (zBR n (zW y))):=by rw[hzW];exact eM fun x=>wBt tb n x n
  have hsl:(zN9 tb n).length=n:=by simp[zN9]
  have hsort:=zP3 (zN9 tb n) (List.range n) (by simpa using hn0) (by simpa using hn) List.nodup_range (fun y hy=>by rw[hsl];exact List.mem_range.1 hy);rw[List.length_range]at hsort;have hod:zC4 tb n=zFz (szF (zN9 tb n)) (List.range n):=rfl;have hol:(zC4 tb n).length=n:=by
   rw[hod,(zE3 _ List.nodup_range).1.length_eq,List.length_range]
  rw[←hod]at hsort;rw[hrt,hlf,htw];have hor:=zM8 n;refine cF0 ?_;refine zK ?_;refine zd (σ':=mkS [(2,.ptr 0 0 4),(4,.ptr 1 0 4),(5,.ptr 2 0 1)]
   [(0,.box 64 [.any,.any,.any,.any]),(1,.box 64 [.t 2 (.sl 1 (tab n fun y=>.sl 1 (zBR n (zR y)))),.t 2 (.sl 1 (tab n fun y=>.sl 1 (zBR n (zL y)))),.t 2 (.sl 1 (tab n fun y=>.sl 1 (zBR n (zW y)))),.own 3 n]),(2,.box 22 [.t 2 (ints (nI (zN9 tb n)))]),(3,.row 3 1 2 (idT (List.range n)))] 4 121 [.any]) ?_ ?_
  ·rw[eV,eV,eV,eS,hor];refine zP [(0,some 0),(1,some 1),(2,some 6),(3,some 5)] rfl ?_ ?_ ?_ ?_
   all_goals try simp[ints,nI,idT,zC8,wk1,hsl]
  refine zO fun K hK=>?_
  simp[ints]
  (repeat' apply And.intro)
  all_goals (try omega)
  refine za (caps:=[]) (hsort) [3] [3] 2 rfl rfl rfl rfl (by kernel_rfl) (by simp) ?_ ?_ (by simp) rfl (by simp) ⟨.inr (.inr ⟨rfl,by simp,by simp⟩),trivial⟩ (by simp) ?_
  ·simp[ints,szC,nI]
  ·simp[nI]
  simp;and_intros<;>try first|apply hK|omega|rfl|simp<;>omega
  refine zd (σ':=mkS [(2,.ptr 0 0 4),(4,.ptr 1 0 4)]
   [(0,.box 64 [.any,.any,.any,.any]),(1,.box 64 [.t 2 (.sl 1 (tab n fun y=>.sl 1 (zBR n (zR y)))),.t 2 (.sl 1 (tab n fun y=>.sl 1 (zBR n (zL y)))),.t 2 (.sl 1 (tab n fun y=>.sl 1 (zBR n (zW y)))),.t 2 (ints (nI (zC4 tb n)))])] 2 121 [.any]) ?_ ?_
  ·exact kw1 [(0,some 0),(1,some 1)] (an @rows.eq_1 (an @nI.eq_1 (an @idT.eq_1 @hol)))
  refine rg0 ?_;refine zI ?_;refine⟨⟨.inr rfl,_,[],(by simp;rfl),trivial,trivial,by simp,?_⟩,by simp[rows]⟩;simp[ints]
end Go.Proofs.YtjkeafkjjaploaaGreat.M
