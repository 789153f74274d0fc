/- Lemmas for the law unambiguousClass. No conditions. -/
import Derived.Test.YtgmcbpjplcjmdaaGreatZuai
set_option linter.all false
namespace Go.Proofs.YtgmcbpjplcjmdaaGreat.M
open Go.RowKit
set_option maxRecDepth 100000
set_option maxHeartbeats 32000000

theorem zGl(x:Int):FnA Tryz.prog 42 [.t 2 (.int .i64 x)] (.t 2 (.bool (decide (1<=x/\x<=6)))):=by
 refine fI 9 #[.tmp 2] Tryz.func42 rfl ?_;refine rg0 ?_;by_cases h1:1<=x
 ·refine rg1 @h1 ?_;refine zC ?_;refine⟨⟨.inr rfl,_,[],rfl,trivial,trivial,by simp,?_⟩,by simp⟩;simp;simp[h1]
 ·refine rg1 @h1 ?_;refine zC ?_;refine⟨⟨.inr rfl,_,[],rfl,trivial,trivial,by simp,?_⟩,by simp⟩;simp;omega
theorem DfL.rt{L n s:Nat}{bs:List Bool}{nxt:List (List Int)}(h:DfL L n s bs nxt):zOt L n nxt:=
 ⟨h.nl,fun i r hr=>by
  obtain⟨h1,h2⟩:=h.row r (Qc hr);refine⟨h1,fun x j hx=>?_⟩;obtain⟨h3,h4⟩:=h2 j (Qc hx);exact⟨j.toNat,by omega,by omega⟩⟩
theorem zGO{L n s:Nat}{bs:List Bool}{nxt:List (List Int)}(h:DfL L n s bs nxt)(hL:1<=L)(hL2:L<=6)(hn:n<=512):FnA Tryz.prog 19 [dfT 0 L s bs nxt] (.t 2 (.int .i64 0)):=by
 have hn1:=h.n1;have hst:=h.st;have hbl:=h.bl;have hnl:=h.nl;refine fI 64 #[.tmp 2] Tryz.func19 rfl ?_;refine rg1 (an @dfT.eq_1 @zG.eq_1) ?_;refine rg1 @hbl ?_;refine zA ?_;refine rc1 (zGl (L:Int)) (show(1:Int)<=L/\(L:Int)<=6 from⟨by omega,by omega⟩) ?_;refine cS0 ?_;refine zA ?_;refine rg0 ?_;refine cS0 ?_;refine zA ?_;have d1:((n:Int)==0)=false:=by simp;omega
 have d4:decide ((s:Int)≥n)=false:=by simp;omega
 have d3:decide ((s:Int)<0)=false:=by simp
 refine rg1 (an @d1 (an @d3 (an @d4 @hnl))) ?_;refine cS0 ?_;refine zA ?_;refine rg0 ?_;refine zB ?_;refine awp_loop (fun y:Nat=>mkS [(1,.ptr 0 0 4),(3,.t 2 (.int .i64 n)),(38,.t 0 (rows nxt)),(39,.t 2 (.int .i64 n)),(40,.t 2 (.int .i64 y))] [(0,.box 34 [.t 2 (.int .i64 L),.t 2 (.int .i64 s),.t 0 (zG bs),.t 0 (rows nxt)])] 1 64 [.any]) (fun y=>y<=n) (fun y=>n-y) ?_ ?_
 ·refine⟨0,by omega,?_⟩;exact kw1 [(0,some 0)] (an @rows.eq_1 (an @zG.eq_1 (an @hbl (an @hnl @dfT.eq_1))))
 ·intro q hq;refine rg0 ?_;refine zA ?_;by_cases hqn:q<n
  ·have hqx:q<nxt.length:=by omega
   obtain⟨hrl,hrv⟩:=h.row nxt[q] (by simp);refine cK1 @hqn ?_;refine zA ?_;refine zB ?_;refine rg1 @hqx ?_;refine zA ?_;refine rg1 @hrl ?_;refine cS0 ?_;refine rg1 @hrl ?_;refine zB ?_;refine awp_loop (fun y:Nat=>mkS [(1,.ptr 0 0 4),(3,.t 2 (.int .i64 n)),(38,.t 0 (rows nxt)),(39,.t 2 (.int .i64 n)),(40,.t 2 (.int .i64 q)),(49,.t 0 (ints nxt[q])),(50,.t 2 (.int .i64 L)),(51,.t 2 (.int .i64 y))] [(0,.box 34 [.t 2 (.int .i64 L),.t 2 (.int .i64 s),.t 0 (zG bs),.t 0 (rows nxt)])] 1 64 [.any]) (fun y=>y<=L) (fun y=>L-y) ?_ ?_
   ·refine⟨0,by omega,?_⟩;exact kw1 [(0,some 0)] (an @rows.eq_1 @zG.eq_1)
   ·intro x hx;refine rg0 ?_;refine zA ?_;by_cases hxl:x<L
    ·have hxr:x<nxt[q].length:=by omega
     obtain⟨e1,e2⟩:=hrv nxt[q][x] (by simp);have e3: ¬nxt[q][x]<0:=by omega
     have e4: ¬(n:Int)<=nxt[q][x]:=by omega
     refine cK1 @hxl ?_;refine zA ?_;refine zB ?_;refine rg1 @hxr ?_;refine rg1 (an @e3 @e4) ?_;refine cY0 ?_;refine rr0 ?_;refine⟨x+1,by omega,by omega,?_⟩;exact kw1 [(0,some 0)] (an @rows.eq_1 @zG.eq_1)
    ·refine cF1 @hxl ?_;refine zE ?_;refine rr0 ?_;refine⟨q+1,by omega,by omega,?_⟩;exact kw1 [(0,some 0)] (an @rows.eq_1 @zG.eq_1)
  ·refine cF1 @hqn ?_;refine zE ?_;refine rg0 ?_;exact zC (rt1 @dfT.eq_1)
def lets(n:Nat)(nxt:List (List Int))(x:Nat):List Int:=tab n fun q=>(zR nxt q x:Int)
theorem zJ2{L n s:Nat}{bs:List Bool}{nxt:List (List Int)}(h:DfL L n s bs nxt)(hL:1<=L)(hL2:L<=6)(hn:n<=512):FnA Tryz.prog 22 [dfT 0 L s bs nxt] (.t 2 (rows (tab L (lets n nxt)))):=by
 have hnl:=h.nl;have hrt:=h.rt;refine fI 36 #[.tmp 2] Tryz.func22 rfl ?_;refine rg1 (an @dfT.eq_1 @zG.eq_1) ?_;refine rg0 ?_;refine zA ?_;refine rg0 ?_;refine zB ?_;refine awp_loop (fun y:Nat=>mkS [(1,.ptr 0 0 4),(3,.own 1 y),(4,.t 2 (.int .i64 y))] [(0,.box 34 [.t 2 (.int .i64 L),.t 2 (.int .i64 s),.t 0 (zG bs),.t 0 (rows nxt)]),(1,.row 22 1 2 ((tab y (lets n nxt)).map ints))] 2 36 [.any]) (fun y=>y<=L) (fun y=>L-y) ?_ ?_
 ·refine⟨0,by omega,?_⟩;exact kw1 [(0,some 0),(1,none)] (an @rows.eq_1 (an @zG.eq_1 @dfT.eq_1))
 ·intro x hx;refine zA ?_;refine rg0 ?_;by_cases hxl:x<L
  ·refine cK1 @hxl ?_;refine zA ?_;refine zB ?_;refine rg0 ?_;refine zA ?_;refine rg0 ?_;refine zB ?_;refine awp_loop (fun y:Nat=>mkS [(1,.ptr 0 0 4),(3,.own 1 x),(4,.t 2 (.int .i64 x)),(5,.own 2 y),(15,.t 2 (.int .i64 n)),(16,.t 2 (.int .i64 y))] [(0,.box 34 [.t 2 (.int .i64 L),.t 2 (.int .i64 s),.t 0 (zG bs),.t 0 (rows nxt)]),(1,.row 22 1 2 ((tab x (lets n nxt)).map ints)),(2,.row 3 1 2 ((tab y fun q=>(zR nxt q x:Int)).map (.int .i64)))] 3 36 [.any]) (fun y=>y<=n) (fun y=>n-y) ?_ ?_
   ·refine⟨0,by omega,?_⟩;exact kw1 [(0,some 0),(1,some 1),(2,none)] (an @rows.eq_1 (an @zG.eq_1 @hnl))
   ·intro q hq;refine rg0 ?_;refine zA ?_;by_cases hqn:q<n
    ·obtain⟨s1,s2,s3,s4⟩:=hrt.step hqn hxl;refine cK1 @hqn ?_;refine zA ?_;refine zB ?_;refine rg0 ?_;refine rr1 (an @s2 (an @s3 @s4)) ?_;refine rr0 ?_;refine⟨q+1,by omega,by omega,?_⟩;exact kw1 [(0,some 0),(1,some 1),(2,some 2)] (an @rows.eq_1 (an @zG.eq_1 @zBI))
    ·have hqe:q=n:=by omega
     subst hqe;refine cF0 ?_;refine zE ?_;refine rr0 ?_;refine rr0 ?_;refine⟨x+1,by omega,by omega,?_⟩;refine zH [(0,some 0),(1,some 1)] rfl ?_ ?_ ?_ ?_
     all_goals try simp[ints,rows,zG,zBI]
     rfl
  ·have hxe:x=L:=by omega
   subst hxe;refine cF0 ?_;refine zE ?_;refine rg0 ?_;exact zC (rt1 (an @dfT.eq_1 @rows.eq_1))
theorem DfL.gn{L n s:Nat}{bs:List Bool}{nxt:List (List Int)}(h:DfL L n s bs nxt)(hL:1<=L)(hL2:L<=6)(hn:n<=32):zIM n (tab L (lets n nxt)):=by
 refine⟨h.n1,hn,by simpa using hL,by simpa using hL2,fun g hg=>?_⟩;simp only[tab,List.mem_map,List.mem_range]at hg;obtain⟨x,hx,rfl⟩:=hg;refine⟨by simp[lets],fun v hv=>?_⟩;simp only[lets,tab,List.mem_map,List.mem_range]at hv;obtain⟨q,hq,rfl⟩:=hv;have:=(h.rt.step hq hx).1;omega
theorem zJV{n:Nat}: ∀{l:List Nat},l.Nodup->(∀x∈l,x<n)->l.length<=n:=by
 induction n with
 |zero=>
  intro l _ h
  cases l with
  |nil=>simp
  |cons a l=>have:=h a (by simp);omega
 |succ n ih=>
  intro l hd h;by_cases hm:n∈l
  ·have h1:=ih (hd.erase n) (fun x hx=>by
    have:=h x (List.mem_of_mem_erase hx);have hne:x≠n:=fun e=>by subst e;exact(hd.not_mem_erase) hx
    omega)
   have:=List.length_erase_of_mem hm;have:0<l.length:=List.length_pos_of_mem hm;omega
  ·have:=ih hd (fun x hx=>by
    have:=h x hx;have hne:x≠n:=fun e=>hm (e▸hx)
    omega)
   omega
def zOY(L:Nat)(nxt:List (List Int))(ss:List Nat)(k:Nat):Nat:=zR nxt (ss.getD (k/L) 0) (k%L)
def FO(L:Nat)(nxt:List (List Int))(ss:List Nat)(p:Nat):Prop:=∀t,0<t->t<ss.length-> ∃k,k<p/\k/L<t/\zOY L nxt ss k=ss.getD t 0/\ ∀j,j<k->zOY L nxt ss j∈ss.take t
theorem FO.start{L s p:Nat}{nxt:List (List Int)}:FO L nxt [s] p:=fun t h1 h2=>by simp at h2;omega
theorem FO.mono{L p p':Nat}{nxt:List (List Int)}{ss:List Nat}(h:FO L nxt ss p)(hp:p<=p'):FO L nxt ss p':=fun t h1 h2=>by
 obtain⟨k,a,b⟩:=h t h1 h2;exact⟨k,by omega,b⟩
theorem FO.fin{L p:Nat}{nxt:List (List Int)}{ss:List Nat}(h:FO L nxt ss p)(hL:0<L):FO L nxt ss (ss.length*L):=fun t h1 h2=>by
 obtain⟨k,a,b,c⟩:=h t h1 h2;exact⟨k,(Nat.div_lt_iff_lt_mul hL).1 (by omega),b,c⟩
theorem zEF{L k q:Nat}{nxt:List (List Int)}{ss:List Nat}(h:k/L<ss.length):zOY L nxt (ss++[q]) k=zOY L nxt ss k:=by
 unfold zOY;rw[Qv,Qv,Qw h]
theorem zMg{L i x a:Nat}{nxt:List (List Int)}{ss:List Nat}(hx:x<L)(hi:ss[i]? =some a):zOY L nxt ss (i*L+x)=zR nxt a x:=by
 have h1:(i*L+x)/L=i:=by rw[Nat.mul_comm,Nat.mul_add_div (by omega),Nat.div_eq_of_lt hx,Nat.add_zero]
 have h2:(i*L+x)%L=x:=by rw[Nat.mul_comm,Nat.mul_add_mod,Nat.mod_eq_of_lt hx]
 unfold zOY;rw[h1,h2,Qv,hi];rfl
theorem FO.add{L i x a:Nat}{nxt:List (List Int)}{ss:List Nat}(h:FO L nxt ss (i*L+x))(hx:x<L)(hi:ss[i]? =some a)
  (done: ∀(j y:Nat) q,j<i->ss[j]? =some q->y<L->zR nxt q y∈ss) (row: ∀(y:Nat) q,y<x->ss[i]? =some q->zR nxt q y∈ss):FO L nxt (ss++[zR nxt a x]) (i*L+(x+1)):=by
 have hil:=(Qq.1 hi).1;have hpos:0<L:=by omega
 intro t h1 h2;simp only[List.length_append,List.length_singleton]at h2;by_cases e:t=ss.length
 ·subst e;have hd:(i*L+x)/L=i:=by rw[Nat.mul_comm,Nat.mul_add_div hpos,Nat.div_eq_of_lt hx,Nat.add_zero]
  refine⟨i*L+x,by omega,by rw[hd];exact hil,?_,fun j hj=>?_⟩
  ·rw[zEF (by rw[hd];exact hil),zMg hx hi];simp
  ·have hjd:j/L<=i:=by rw[←hd];exact Nat.div_le_div_right (by omega)
   have hjm:j%L<L:=Nat.mod_lt _ hpos;have hje:j/L*L+j%L=j:=by rw[Nat.mul_comm];exact Nat.div_add_mod j L
   rw[zEF (by omega),List.take_append_of_le_length (Qy _),List.take_length];obtain⟨v,hg⟩: ∃v,ss[j/L]? =some v:=⟨_,Qj (by omega)⟩;have hs:zOY L nxt ss j=zR nxt v (j%L):=by
    rw[←zMg hjm hg,hje]
   rw[hs];by_cases ei:j/L=i
   ·rw[ei]at hje;exact row _ _ (by omega) (ei▸hg)
   ·exact done _ _ _ (by omega) hg hjm
 ·obtain⟨k,k1,k2,k3,k4⟩:=h t h1 (by omega);refine⟨k,by omega,k2,?_,fun j hj=>?_⟩
  ·rw[zEF (by omega),k3,Qv,Qv,Qw (by omega)]
  ·have hjd:j/L<=k/L:=Nat.div_le_div_right (by omega);rw[zEF (by omega),List.take_append_of_le_length (by omega)];exact k4 j hj
structure AcI(n L s:Nat)(nxt:List (List Int))(ss:List Nat)(wds:List (List Nat))(met:Nat->Bool)(i x:Nat):Prop where
 nod:ss.Nodup
 rng: ∀q∈ss,q<n
 fst:ss[0]? =some s
 met: ∀q,q<n->(met q=true↔q∈ss)
 done: ∀(j y:Nat) q,j<i->ss[j]? =some q->y<L->zR nxt q y∈ss
 row: ∀(y:Nat) q,y<x->ss[i]? =some q->zR nxt q y∈ss
 wl:wds.length=ss.length
 wn: ∀(j:Nat) w,wds[j]? =some w->w.length<=j
 fo:FO L nxt ss (i*L+x)
section
variable{n L s:Nat}{nxt:List (List Int)}{ss:List Nat}{wds:List (List Nat)}{met:Nat->Bool}{i x:Nat}
theorem AcI.start(hs:s<n):AcI n L s nxt [s] [[]] (fun j=>decide (j=s)) 0 0:=
 ⟨by simp,fun q hq=>by simp at hq;omega,rfl,fun q _=>by simp,fun j y q h=>by omega,fun y q h=>by omega,rfl,fun j w h=>by cases j<;>simp at h;subst h;simp,FO.start⟩
theorem AcI.len(h:AcI n L s nxt ss wds met i x):ss.length<=n:=zJV h.nod h.rng
theorem AcI.old(h:AcI n L s nxt ss wds met i x){p:Nat}(hi:ss[i]? =some p)(hq:zR nxt p x<n)(hm:met (zR nxt p x)=true):AcI n L s nxt ss wds met i (x+1):=
 ⟨h.nod,h.rng,h.fst,h.met,h.done,fun y q hy hq2=>by
  by_cases e:y=x
  ·subst e;rw[hi]at hq2;injection hq2 with hq2;subst hq2;exact(h.met _ hq).1 hm
  ·exact h.row y q (by omega) hq2,h.wl,h.wn,h.fo.mono (by omega)⟩
theorem AcI.add(h:AcI n L s nxt ss wds met i x){p:Nat}(hx:x<L)(hi:ss[i]? =some p)(hq:zR nxt p x<n)(hm:met (zR nxt p x)=false){w:List Nat}(hw:wds[i]? =some w):AcI n L s nxt (ss++[zR nxt p x]) (wds++[w++[x]]) (fun j=>if j=zR nxt p x then true else met j) i (x+1):=by
 have hni:zR nxt p x∉ss:=fun hc=>by rw[(h.met _ hq).2 hc]at hm;cases hm
 have hil:=(Qq.1 hi).1;have key: ∀(j:Nat) q,j<=i->(ss++[zR nxt p x])[j]? =some q->ss[j]? =some q:=fun j q hj hq=>by rwa [Qw (by omega)]at hq
 refine⟨?_,fun q hqm=>?_,by rw[Qw (by omega)];exact h.fst,fun q hqn=>?_,fun j y q hj hjl hy=>List.mem_append_left _ (h.done j y q hj (key j q (by omega) hjl) hy),fun y q hy hiq=>?_,by simp[h.wl],fun j u hu=>?_,h.fo.add hx hi h.done h.row⟩
 ·rw[List.nodup_append];exact⟨h.nod,by simp,fun a ha b hb=>by simp at hb;subst hb;exact fun e=>hni (e▸ha)⟩
 ·rcases List.mem_append.1 hqm with hqm|hqm
  ·exact h.rng q hqm
  ·simp at hqm;omega
 ·by_cases e:q=zR nxt p x
  ·simp[e]
  ·simp[e,h.met q hqn]
 ·have hiq2:=key i q (Qy _) hiq;by_cases e:y=x
  ·subst e;rw[hi]at hiq2;injection hiq2 with hiq2;rw[←hiq2];simp
  ·exact List.mem_append_left _ (h.row y q (by omega) hiq2)
 ·by_cases hjl:j<wds.length
  ·rw[Qw hjl]at hu;exact h.wn j u hu
  ·have:=(Qq.1 hu).1;simp at this;have e:j=wds.length:=by omega
   subst e;simp at hu;subst hu;have:=h.wn i w hw;have:=h.wl;simp;omega
theorem AcI.next(h:AcI n L s nxt ss wds met i L):AcI n L s nxt ss wds met (i+1) 0:=
 ⟨h.nod,h.rng,h.fst,h.met,fun j y q hj hjl hy=>by
  by_cases e:j=i
  ·subst e;exact h.row y q hy hjl
  ·exact h.done j y q (by omega) hjl hy,fun y q hy=>by omega,h.wl,h.wn,h.fo.mono (by rw[Nat.add_mul];omega)⟩
end
structure AcG(n L s:Nat)(nxt:List (List Int))(ss:List Nat):Prop where
 nod:ss.Nodup
 rng: ∀q∈ss,q<n
 fst:ss[0]? =some s
 cl: ∀q∈ss,∀y,y<L->zR nxt q y∈ss
 fo:FO L nxt ss (ss.length*L)
def zAS(ss:List Nat):List T:=ss.map fun(q:Nat)=>.int .i64 (q:Int)
theorem zNT{L n s:Nat}{bs:List Bool}{nxt:List (List Int)}(h:DfL L n s bs nxt)(hL:1<=L)(hL2:L<=6)(hn:n<=512): ∃res,(∃ss wds,AcG n L s nxt ss/\res= .tup [.t 2 (.sl 1 (zAS ss)),.t 2 (.sl 1 (wsT wds))])/\FnS Tryz.prog 84 [dfT 0 L s bs nxt] [] res []:=by
 have hnl:=h.nl;have hbl:=h.bl;have hst:=h.st;have hrt:=h.rt;refine zh Tryz.func84 rfl (by simp[Tryz.f84]) ?_;rw[show Tryz.f84.ntmps=72 from rfl,show Tryz.f84.results= #[.tmp 2,.tmp 3]from rfl];refine rg1 (an @dfT.eq_1 @zG.eq_1) ?_;refine rg0 ?_;refine rg0 ?_;refine rg1 @hbl ?_;refine zA ?_;refine rg0 ?_;refine zB ?_;refine awp_loop (fun y:Nat×List Nat×List (List Nat)×(Nat->Bool)=>mkS [(1,.ptr 0 0 4),(4,.own 1 y.2.1.length),(5,.own 2 y.2.2.1.length),(6,.own 3 n),(7,.t 2 (.int .i64 y.1))] [(0,.box 34 [.t 2 (.int .i64 L),.t 2 (.int .i64 s),.t 0 (zG bs),.t 0 (rows nxt)]),(1,.row 3 1 2 (zAS y.2.1)),(2,.row 9 1 2 (wsT y.2.2.1)),(3,.row 4 1 2 (tab n fun j=>.bool (y.2.2.2 j)))] 4 72 [.any]) (fun y=>AcI n L s nxt y.2.1 y.2.2.1 y.2.2.2 y.1 0) (fun y=>n-y.1) ?_ ?_
 ·refine⟨(0,[s],[[]],fun j=>decide (j=s)),AcI.start hst,?_⟩;refine zH [(0,some 0),(1,some 5000000),(2,some 6000000),(3,some 12000000)] rfl ?_ ?_ ?_ ?_
  all_goals try simp[rows,zG,zAS,wsT,zKo]
  rw[zz,zb];refine zK (fun i hi=>?_);by_cases e:i=s<;>simp[e]
 ·rintro⟨i,ss,wds,met⟩ hI;simp only at hI;have hlen:=hI.len;refine zA ?_;refine rg1 @zAS.eq_1 ?_;by_cases hil:i<ss.length
  ·refine cK1 @hil ?_;refine zA ?_;refine zB ?_;refine rg0 ?_;refine zB ?_;refine awp_loop (fun y:Nat×List Nat×List (List Nat)×(Nat->Bool)=>mkS [(1,.ptr 0 0 4),(4,.own 1 y.2.1.length),(5,.own 2 y.2.2.1.length),(6,.own 3 n),(7,.t 2 (.int .i64 i)),(8,.t 2 (.int .i64 y.1))] [(0,.box 34 [.t 2 (.int .i64 L),.t 2 (.int .i64 s),.t 0 (zG bs),.t 0 (rows nxt)]),(1,.row 3 1 2 (zAS y.2.1)),(2,.row 9 1 2 (wsT y.2.2.1)),(3,.row 4 1 2 (tab n fun j=>.bool (y.2.2.2 j)))] 4 72 [.any]) (fun y=>y.1<=L/\i<y.2.1.length/\AcI n L s nxt y.2.1 y.2.2.1 y.2.2.2 i y.1) (fun y=>L-y.1) ?_ ?_
   ·refine⟨(0,ss,wds,met),⟨by simp,hil,hI⟩,?_⟩;exact kw1 [(0,some 0),(1,some 1),(2,some 2),(3,some 3)] (an @rows.eq_1 (an @zG.eq_1 @zAS.eq_1))
   ·clear hI hlen hil;rintro⟨x,ss,wds,met⟩ ⟨hx,hil,hI⟩;simp only at hx hil hI;have hlen:=hI.len;have hwl:=hI.wl;have hiw:i<wds.length:=by omega
    have hwn:=hI.wn i wds[i] (by simp);refine zA ?_;refine rg0 ?_;by_cases hxl:x<L
    ·have hpn:=hI.rng ss[i] (by simp);obtain⟨s1,s2,s3,s4⟩:=hrt.step hpn hxl;refine cK1 @hxl ?_;refine zA ?_;refine zB ?_;refine rd1 (an @zAS.eq_1 (an @hil (an @s2 (an @s3 @s4)))) ?_;refine rg1 @s1 ?_
     cases hm:met (zR nxt ss[i] x)with
     |false=>
      refine cT1 @hm ?_;refine rg1 @s1 ?_;refine zAW (by kernel_rfl) (fun K hK=>?_);simp(maxSteps:=2000000)(disch:=omega)[zBs,wr8,isU8,wsT,hiw,zEM (show x<=20 by omega),zAa];and_intros<;>try first|apply hK|(show zAY _ _=true;kernel_rfl)|(show okH _ _ _=true;kernel_rfl)|omega|rfl|simp<;>omega
      refine rr0 ?_;refine⟨(x+1,ss++[zR nxt ss[i] x],wds++[wds[i]++[x]],fun j=>if j=zR nxt ss[i] x then true else met j),⟨by omega,by simp;omega,hI.add hxl (by simp) s1 hm (by simp)⟩,by simp;omega,?_⟩;refine zH [(0,some 0),(1,some 1),(2,some 2),(3,some 3)] rfl ?_ ?_ ?_ ?_
      all_goals try simp[rows,zG,zAS,wsT,zb]
      refine zK (fun j hj=>?_);by_cases e:j=zR nxt ss[i] x<;>simp[e]
     |true=>
      refine cY1 @hm ?_;refine rr0 ?_;refine⟨(x+1,ss,wds,met),⟨by omega,hil,hI.old (by simp) s1 hm⟩,by simp;omega,?_⟩;exact kw1 [(0,some 0),(1,some 1),(2,some 2),(3,some 3)] (an @rows.eq_1 (an @zG.eq_1 @zAS.eq_1))
    ·have hxe:x=L:=by omega
     subst hxe;refine cF0 ?_;refine zE ?_;refine rr0 ?_;refine⟨(i+1,ss,wds,met),hI.next,by simp;omega,?_⟩;exact kw1 [(0,some 0),(1,some 1),(2,some 2),(3,some 3)] (an @rows.eq_1 (an @zG.eq_1 @zAS.eq_1))
  ·refine cF1 @hil ?_;refine zE ?_;refine rg0 ?_;refine zC ?_;refine⟨_,⟨ss,wds,⟨hI.nod,hI.rng,hI.fst,fun q hq y hy=>?_,?_⟩,rfl⟩,?_⟩
   ·obtain⟨j,hj,e⟩:=Qb hq;exact hI.done j y q (by omega) (by simp[←e]) hy
   ·exact hI.fo.fin (by omega)
   ·exact rt1 (an @dfT.eq_1 (an @zAS.eq_1 @wsT.eq_1))
def zCF(bs:List Bool)(nxt:List (List Int))(s:Nat)(w:List Nat):Bool:=bs.getD (zo nxt s w) false
theorem zEG{nx:List (List Int)}{j y t:Nat}{r:List Int}(h1:nx[j]? =some r)(h2:r[y]? =some (t:Int)):zR nx j y=t:=by
 simp[zR,Qv,h1,h2]
theorem zDJ{L:Nat}{bs bs':List Bool}{nxt nx':List (List Int)}(f:Nat->Nat->Prop)
  (h1: ∀i q,f i q->bs'.getD i false=bs.getD q false) (h2: ∀i q x,f i q->x<L->f (zR nx' i x) (zR nxt q x)):
  ∀(w:List Nat),(∀a∈w,a<L)-> ∀i q,f i q->zCF bs' nx' i w=zCF bs nxt q w
 |[],_,i,q,h=>h1 i q h
 |a::w,hw,i,q,h=>zDJ f h1 h2 w (fun b hb=>hw b (by simp[hb])) _ _ (h2 i q a h (hw a (by simp)))
def zIK(nxt:List (List Int))(ss:List Nat)(q:Nat)(r:List Int)(x:Nat):Prop:=∀y,y<x-> ∃t:Nat,r[y]? =some (t:Int)/\ss[t]? =some (zR nxt q y)
theorem zIK.app{nxt:List (List Int)}{ss:List Nat}{q:Nat}{r:List Int}{x:Nat}(h:zIK nxt ss q r x)(ys:List Nat):zIK nxt (ss++ys) q r x:=fun y hy=>by
 obtain⟨t,h1,h2⟩:=h y hy;exact⟨t,h1,by rw[Qw (Qq.1 h2).1];exact h2⟩
theorem zIK.set{nxt:List (List Int)}{ss:List Nat}{q:Nat}{r:List Int}{x t:Nat}(h:zIK nxt ss q r x)(hx:x<r.length)(ht:ss[t]? =some (zR nxt q x)):zIK nxt ss q (r.set x (t:Int)) (x+1):=fun y hy=>by
 by_cases e:y=x
 ·subst e;exact⟨t,by rw[List.getElem?_set_self hx],ht⟩
 ·obtain⟨u,h1,h2⟩:=h y (by omega);exact⟨u,by rw[List.getElem?_set_ne (by omega)];exact h1,h2⟩
structure ExI(L n s:Nat)(bs:List Bool)(nxt:List (List Int))(ss:List Nat)(bs':List Bool)(nx':List (List Int))(i:Nat):Prop where
 nd:ss.Nodup
 z:ss[0]? =some s
 lt: ∀q∈ss,q<n
 bl:bs'.length=i
 nl:nx'.length=i
 le:i<=ss.length
 row: ∀(j:Nat) q,j<i->ss[j]? =some q->bs'[j]? =bs[q]? /\ ∃r,nx'[j]? =some r/\r.length=L/\zIK nxt ss q r L
theorem ExI.start{L n s:Nat}{bs:List Bool}{nxt:List (List Int)}(h:s<n):ExI L n s bs nxt [s] [] [] 0:=
 ⟨by simp,rfl,fun q hq=>by simp only[List.mem_singleton]at hq;rw[hq];exact h,rfl,rfl,by simp,fun j q hj=>by omega⟩
theorem ExI.app{L n s:Nat}{bs:List Bool}{nxt:List (List Int)}{ss:List Nat}{bs':List Bool}{nx':List (List Int)}{i:Nat}(h:ExI L n s bs nxt ss bs' nx' i){q:Nat}(hq:q<n)(hn:q∉ss):ExI L n s bs nxt (ss++[q]) bs' nx' i:=by
 refine⟨List.nodup_append.2 ⟨h.nd,by simp,fun x hx y hy=>by
  simp only[List.mem_singleton]at hy;subst hy;intro e;exact hn (e▸hx)⟩,by rw[Qw (Qq.1 h.z).1];exact h.z,fun x hx=>?_,h.bl,h.nl,by have:=h.le;simp;omega,fun j p hj hp=>?_⟩
 ·rcases List.mem_append.1 hx with hx|hx
  ·exact h.lt x hx
  ·simp only[List.mem_singleton]at hx;rw[hx];exact hq
 ·rw[Qw (by have:=h.le;omega)]at hp;obtain⟨h1,r,h2,h3,h4⟩:=h.row j p hj hp;exact⟨h1,r,h2,h3,h4.app _⟩
theorem ExI.done{L n s:Nat}{bs:List Bool}{nxt:List (List Int)}{ss:List Nat}{bs':List Bool}{nx':List (List Int)}{i q:Nat}{r:List Int}{b:Bool}(h:ExI L n s bs nxt ss bs' nx' i)(hq:ss[i]? =some q)(hb:bs[q]? =some b)(hr:r.length=L)(hR:zIK nxt ss q r L):
  ExI L n s bs nxt ss (bs'++[b]) (nx'++[r]) (i+1):=by
 refine⟨h.nd,h.z,h.lt,by simp[h.bl],by simp[h.nl],(Qq.1 hq).1,fun j p hj hp=>?_⟩;by_cases e:j=i
 ·subst e;rw[hq]at hp;injection hp with hp;subst hp;refine⟨?_,r,?_,hr,hR⟩
  ·rw[hb,Qa (by rw[h.bl];exact Qy _),h.bl,Nat.sub_self];rfl
  ·rw[Qa (by rw[h.nl];exact Qy _),h.nl,Nat.sub_self];rfl
 ·obtain⟨h1,r',h2,h3,h4⟩:=h.row j p (by omega) hp;refine⟨?_,r',?_,h3,h4⟩
  ·rw[Qw (by rw[h.bl];omega)];exact h1
  ·rw[Qw (by rw[h.nl];omega)];exact h2
theorem ExI.len{L n s:Nat}{bs:List Bool}{nxt:List (List Int)}{ss:List Nat}{bs':List Bool}{nx':List (List Int)}{i:Nat}(h:ExI L n s bs nxt ss bs' nx' i):ss.length<=n:=zJV h.nd h.lt
theorem ExI.fin{L n s:Nat}{bs:List Bool}{nxt:List (List Int)}{ss:List Nat}{bs':List Bool}{nx':List (List Int)}(h:ExI L n s bs nxt ss bs' nx' ss.length):DfL L ss.length 0 bs' nx'/\ ∀w,(∀a∈w,a<L)->zCF bs' nx' 0 w=zCF bs nxt s w:=by
 have hp:0<ss.length:=(Qq.1 h.z).1;refine⟨⟨hp,hp,h.bl,h.nl,fun r hr=>?_⟩,fun w hw=>?_⟩
 ·obtain⟨j,hj,e⟩:=Qb hr;have hj':j<ss.length:=by have:=h.nl;omega
  obtain⟨h1,r',h2,h3,h4⟩:=h.row j ss[j] hj' (by simp);rw[Qj hj]at h2;injection h2 with h2;rw[e]at h2;subst h2;refine⟨h3,fun v hv=>?_⟩;obtain⟨y,hy,e⟩:=Qb hv;obtain⟨t,g1,g2⟩:=h4 y (by omega);rw[Qj hy]at g1;injection g1 with g1;have:=(Qq.1 g2).1;omega
 ·refine zDJ (fun i q=>ss[i]? =some q) (fun i q e=>?_) (fun i q x e hx=>?_) w hw 0 s h.z
  ·have:=(h.row i q (Qq.1 e).1 e).1;simp only[Qv,this]
  ·obtain⟨-,r,h2,h3,h4⟩:=h.row i q (Qq.1 e).1 e;obtain⟨t,g1,g2⟩:=h4 x hx;rw[zEG h2 g1];exact g2
theorem zIK.snoc{nxt:List (List Int)}{ss:List Nat}{q:Nat}{r:List Int}{x t:Nat}(h:zIK nxt ss q r x)(hx:r.length=x)(ht:ss[t]? =some (zR nxt q x)):zIK nxt ss q (r++[(t:Int)]) (x+1):=fun y hy=>by
 by_cases e:y=x
 ·subst e;exact⟨t,by rw[Qa (by omega),hx,Nat.sub_self];rfl,ht⟩
 ·obtain⟨u,h1,h2⟩:=h y (by omega);exact⟨u,by rw[Qw (by omega)];exact h1,h2⟩
theorem ExI.all{L n s:Nat}{bs:List Bool}{nxt:List (List Int)}{ss:List Nat}(hn:ss.Nodup)(hz:ss[0]? =some s)(hl: ∀q∈ss,q<n):ExI L n s bs nxt ss [] [] 0:=
 ⟨hn,hz,hl,rfl,rfl,by omega,fun j q hj=>by omega⟩
theorem ExI.zOu{L n s:Nat}{bs bs':List Bool}{nxt nx':List (List Int)}{ss:List Nat}(h:ExI L n s bs nxt ss bs' nx' ss.length){i q:Nat}(hi:ss[i]? =some q): ∀w,(∀a∈w,a<L)->zCF bs' nx' i w=zCF bs nxt q w:=fun w hw=>by
 refine zDJ (fun i q=>ss[i]? =some q) (fun i q e=>?_) (fun i q x e hx=>?_) w hw i q hi
 ·have:=(h.row i q (Qq.1 e).1 e).1;simp only[Qv,this]
 ·obtain⟨-,r,h2,h3,h4⟩:=h.row i q (Qq.1 e).1 e;obtain⟨t,g1,g2⟩:=h4 x hx;rw[zEG h2 g1];exact g2
theorem zUO{l:List Nat}(h:l.Nodup){i j a:Nat}(hi:l[i]? =some a)(hj:l[j]? =some a):i=j:=by
 obtain⟨hi1,hi2⟩:=Qq.1 hi;obtain⟨hj1,hj2⟩:=Qq.1 hj;rcases Nat.lt_trichotomy i j with g|g|g
 ·exact absurd (hi2.trans hj2.symm) (List.pairwise_iff_getElem.1 h i j hi1 hj1 g)
 ·exact g
 ·exact absurd (hj2.trans hi2.symm) (List.pairwise_iff_getElem.1 h j i hj1 hi1 g)
def Can(L m:Nat)(nx:List (List Int)):Prop:=∀t,0<t->t<m-> ∃k,k/L<t/\zR nx (k/L) (k%L)=t/\ ∀j,j<k->zR nx (j/L) (j%L)<t
theorem ExI.can{L n s p:Nat}{bs bs':List Bool}{nxt nx':List (List Int)}{ss:List Nat}(h:ExI L n s bs nxt ss bs' nx' ss.length)(hL:0<L)(hf:FO L nxt ss p):Can L ss.length nx':=fun t h1 h2=>by
 obtain⟨k,-,k2,k3,k4⟩:=hf t h1 h2;have key: ∀j,j/L<ss.length->ss[zR nx' (j/L) (j%L)]? =some (zOY L nxt ss j):=fun j hj=>by
  obtain⟨v,hv⟩: ∃v,ss[j/L]? =some v:=⟨_,Qj hj⟩;obtain⟨-,r,g2,g3,g4⟩:=h.row _ _ hj hv;obtain⟨u,u1,u2⟩:=g4 _ (Nat.mod_lt j hL);rw[zEG g2 u1,u2];unfold zOY;rw[Qv,hv];rfl
 refine⟨k,k2,?_,fun j hj=>?_⟩
 ·have g:=key k (by omega);rw[k3,Qv,Qj h2]at g;exact zUO h.nd g (by simp)
 ·have hjk:j/L<=k/L:=Nat.div_le_div_right (by omega);have g:=key j (by omega);obtain⟨u,hu,e⟩:=Qb (k4 j hj);simp only[List.length_take]at hu;rw[List.getElem_take]at e;have g2:ss[u]? =some (zOY L nxt ss j):=by rw[Qj (by omega),e]
  rw[zUO h.nd g g2];omega
def LQ(L:Nat)(bs:List Bool)(nxt:List (List Int))(i j:Nat):Prop:=∀w,(∀a∈w,a<L)->zCF bs nxt i w=zCF bs nxt j w
theorem LQ.step{L i j x:Nat}{bs:List Bool}{nxt:List (List Int)}(h:LQ L bs nxt i j)(hx:x<L):LQ L bs nxt (zR nxt i x) (zR nxt j x):=fun w hw=>h (x::w) (fun a ha=>by
 rcases List.mem_cons.1 ha with e|e
 ·omega
 ·exact hw a e)
theorem LQ.fin{L i j:Nat}{bs:List Bool}{nxt:List (List Int)}(h:LQ L bs nxt i j)(hi:i<bs.length)(hj:j<bs.length):bs[i]? =bs[j]?:=by
 have:=h [] (by simp);simp only[zCF,zo,List.foldl_nil,Qv,Qj hi,Qj hj,Qd]at this;rw[Qj hi,Qj hj,this]
def Dis(L m:Nat)(bs:List Bool)(nx:List (List Int)):Prop:=∀i j,i<m->j<m->(∀w,(∀a∈w,a<L)->zCF bs nx i w=zCF bs nx j w)->i=j
structure MnD(L m:Nat)(bs:List Bool)(nx:List (List Int)):Prop where
 df:DfL L m 0 bs nx
 can:Can L m nx
 dis:Dis L m bs nx
theorem MnD.of{L m s p:Nat}{bs bs':List Bool}{nxt nx':List (List Int)}{ss:List Nat}(hL:0<L)(h:ExI L m s bs nxt ss bs' nx' ss.length)(hf:FO L nxt ss p)(hd:Dis L m bs nxt):MnD L ss.length bs' nx':=by
 refine⟨h.fin.1,h.can hL hf,fun i j hi hj e=>?_⟩;have h1:ss[i]? =some ss[i]:=by simp
 have h2:ss[j]? =some ss[j]:=by simp
 have e2:ss[i]=ss[j]:=hd _ _ (h.lt _ (by simp)) (h.lt _ (by simp)) (fun w hw=>by rw[←h.zOu h1 w hw,←h.zOu h2 w hw,e w hw]);rw[e2]at h1;exact zUO h.nd h1 h2
structure MiX(L n s:Nat)(bs:List Bool)(nxt:List (List Int))(m:Nat)(bs':List Bool)(nx':List (List Int)):Prop where
 le:m<=n
 mn:MnD L m bs' nx'
 zOu: ∀w,(∀a∈w,a<L)->zCF bs' nx' 0 w=zCF bs nxt s w
theorem MnD.lt{L m m':Nat}{bs bs':List Bool}{nx nx':List (List Int)}(hL:0<L)(hA:MnD L m bs nx)(hB:MnD L m' bs' nx')(h: ∀w,(∀a∈w,a<L)->zCF bs nx 0 w=zCF bs' nx' 0 w):
  ∀k,k<m->k<m'/\ ∀w,(∀a∈w,a<L)->zCF bs nx k w=zCF bs' nx' k w:=by
 intro k
 induction k using Nat.strongRecOn with
 |_ k ih=>
  intro hk;by_cases hz:k=0
  ·subst hz;exact⟨hB.df.st,h⟩
  have st: ∀(q x:Nat) w,(∀a∈w,a<L)->x<L->q<k->zCF bs nx (zR nx q x) w=zCF bs' nx' (zR nx' q x) w:=fun q x w hw hx hq=>
   (ih q hq (by omega)).2 (x::w) (fun a ha=>by
    rcases List.mem_cons.1 ha with e|e
    ·omega
    ·exact hw a e)
  obtain⟨p,p1,p2,p3⟩:=hA.can k (by omega) hk;have hpm:=Nat.mod_lt p hL;obtain⟨j1,-⟩:=ih (p/L) p1 (by omega);have hk':=(hB.df.rt.step j1 hpm).1;have hLE: ∀w,(∀a∈w,a<L)->zCF bs nx k w=zCF bs' nx' (zR nx' (p/L) (p%L)) w:=fun w hw=>by
   have:=st _ _ w hw hpm p1
   rwa [p2]at this
  generalize hg:zR nx' (p/L) (p%L)=k' at hk' hLE;rcases Nat.lt_trichotomy k k' with g|g|g
  ·exfalso;obtain⟨r,r1,r2,r3⟩:=hB.can k (by omega) (by omega);have hrp:r<p:=by
    rcases Nat.lt_trichotomy p r with q|q|q
    ·have:=r3 p q;omega
    ·subst q;omega
    ·exact q
   have hi:=p3 r hrp;have hrm:=Nat.mod_lt r hL;obtain⟨i1,i2⟩:=ih _ hi (by omega);have:zR nx (r/L) (r%L)=k:=hB.dis _ _ i1 (by omega) (fun w hw=>by
    rw[←i2 w hw];have:=st _ _ w hw hrm r1
    rwa [r2]at this)
   omega
  ·subst g;exact⟨hk',hLE⟩
  ·exfalso;obtain⟨i1,i2⟩:=ih _ g (by omega);have:k=k':=hA.dis _ _ hk (by omega) (fun w hw=>by rw[hLE w hw,i2 w hw]);omega
theorem MnD.eq{L m m':Nat}{bs bs':List Bool}{nx nx':List (List Int)}(hL:0<L)(hA:MnD L m bs nx)(hB:MnD L m' bs' nx')(h: ∀w,(∀a∈w,a<L)->zCF bs nx 0 w=zCF bs' nx' 0 w):m=m'/\bs=bs'/\nx=nx':=by
 have h1:=hA.lt hL hB h;have h2:=hB.lt hL hA (fun w hw=>(h w hw).symm);have ha:=hA.df.n1;have hb:=hB.df.n1;have hm:m=m':=by
  have g1:=(h1 (m-1) (by omega)).1;have g2:=(h2 (m'-1) (by omega)).1;omega
 subst hm;have b1:=hA.df.bl;have b2:=hB.df.bl;have n1:=hA.df.nl;have n2:=hB.df.nl;refine⟨rfl,List.ext_getElem (by omega) (fun i hi hi'=>?_),List.ext_getElem (by omega) (fun i hi hi'=>List.ext_getElem ?_ (fun x hx hx'=>?_))⟩
 ·have:=(h1 i (by omega)).2 [] (by simp);simpa[zCF,zo,Qv,hi,hi']using this
 ·rw[(hA.df.row nx[i] (by simp)).1,(hB.df.row nx'[i] (by simp)).1]
 ·have hxl:x<L:=by have:=(hA.df.row nx[i] (by simp)).1;omega
  have him:i<m:=by omega
  obtain⟨c1,d1,e1,f1⟩:=hA.df.rt.step him hxl;obtain⟨c2,d2,e2,f2⟩:=hB.df.rt.step him hxl;rw[f1,f2];have:zR nx i x=zR nx' i x:=hB.dis _ _ c1 c2 (fun w hw=>by
   rw[←(h1 _ c1).2 w hw];exact(h1 i him).2 (x::w) (fun a ha=>by
    rcases List.mem_cons.1 ha with e|e
    ·omega
    ·exact hw a e))
  rw[this]
theorem zDR{n:Nat}{r:Nat->Nat}{i:Nat}(h:i<n):(zCM n r)[i]? =some (r i:Int):=zO _ h
@[simp] theorem zT2(n:Nat)(r:Nat->Nat):(zCM n r).length=n:=by simp[zCM]
theorem zMQ{a n b:Nat}(ha:a<=512)(hb:b<=512)(hn:n<=512):(a:Int)*((n:Int)+1)<=262656/\0<=(a:Int)*((n:Int)+1):=by
 have h1:a*(n+1)<=512*513:=Nat.mul_le_mul ha (by omega);have e:(a:Int)*((n:Int)+1)=((a*(n+1):Nat):Int):=by push_cast;rfl
 rw[e];omega
theorem zPy{a b c d n:Nat}(hb:b<=n)(hd:d<=n)(h:(a:Int)*((n:Int)+1)+b=(c:Int)*((n:Int)+1)+d):a=c/\b=d:=by
 have e:a*(n+1)+b=c*(n+1)+d:=by
  have:=h;have e1:(a:Int)*((n:Int)+1)+b=((a*(n+1)+b:Nat):Int):=by push_cast;rfl
  have e2:(c:Int)*((n:Int)+1)+d=((c*(n+1)+d:Nat):Int):=by push_cast;rfl
  rw[e1,e2]at this;omega
 have h1:(a*(n+1)+b)/(n+1)=a:=by rw[Nat.mul_comm,Nat.mul_add_div (by omega),Nat.div_eq_of_lt (by omega)];rfl
 have h2:(c*(n+1)+d)/(n+1)=c:=by rw[Nat.mul_comm,Nat.mul_add_div (by omega),Nat.div_eq_of_lt (by omega)];rfl
 have:a=c:=by rw[←h1,←h2,e]
 subst this;exact⟨rfl,by omega⟩
theorem zR5(n:Nat)(p q:Nat->Nat)(hn:n<=512)(hp: ∀i,i<n->p i<=n)(hq: ∀i,i<n->q i<=n): ∃res,(∃r,POK r n/\(∀i j,i<n->j<n->(r i=r j↔(p i=p j/\q i=q j)))/\res= .t 2 (ints (zCM n r)))/\FnS Tryz.prog 83 [.t 0 (ints (zCM n p)),.t 0 (ints (zCM n q))] [] res []:=by
 obtain⟨res,⟨r,hr1,hr2,rfl⟩,hnum⟩:=zHp (tab n fun i=>(p i:Int)*((n:Int)+1)+q i) (by simp;omega);simp only[zAD]at hr1 hr2;refine zh Tryz.func83 rfl (by simp[Tryz.f83]) ?_;rw[show Tryz.f83.ntmps=34 from rfl,show Tryz.f83.results= #[.tmp 4]from rfl];refine rg0 ?_;refine rg0 ?_;refine zA ?_;refine rg0 ?_;refine zB ?_;refine awp_loop (fun k:Nat=>mkS [(0,.t 0 (ints (zCM n p))),(1,.t 0 (ints (zCM n q))),(5,.own 0 n),(11,.t 2 (.int .i64 n)),(12,.t 2 (.int .i64 k))] [(0,.row 3 1 2 (tab n fun i=>.int .i64 (if i<k then(p i:Int)*((n:Int)+1)+q i else 0)))] 1 34 [.any,.any]) (fun k=>k<=n) (fun k=>n-k) ?_ ?_
 ·refine⟨0,by omega,?_⟩;exact kw1 [(0,some 3000000)] @zz
 ·intro k hk;refine rg0 ?_;refine zA ?_;by_cases hkn:k<n
  ·obtain⟨m1,m2⟩:=zMQ (a:=p k) (b:=q k) (Nat.le_trans (hp k hkn) hn) (Nat.le_trans (hq k hkn) hn) hn;have hpk:=hp k hkn;have hqk:=hq k hkn;have g1:=zDR (r:=p) hkn;have g2:=zDR (r:=q) hkn;refine cK1 @hkn ?_;refine zA ?_;refine zB ?_;refine rg0 ?_;refine re1 (an @hkn (an @zCM.eq_1 @zT)) ?_;refine rr0 ?_;refine⟨k+1,by omega,by omega,?_⟩;refine zH [(0,some 0)] rfl ?_ ?_ ?_ ?_
   all_goals try simp[ints,zb,zCM,zT]
   refine zK (fun i hi=>?_);by_cases e:i=k
   ·simp[e]
   ·simp[e,show i<k+1↔i<k by omega]
  ·have hke:k=n:=by omega
   refine cF1 @hkn ?_;refine zE ?_;subst hke;have he:(tab k fun i=>T.int IntKind.i64 (if i<k then(p i:Int)*((k:Int)+1)+q i else 0))=tab k fun i=>T.int IntKind.i64 ((p i:Int)*((k:Int)+1)+q i):=zK (fun i hi=>by rw[if_pos hi])
   refine rc1 hnum (an @zT @he) ?_;refine zC ?_;refine⟨_,⟨r,hr1,fun i j hi hj=>?_,rfl⟩,?_⟩
   ·rw[hr2 i j _ _ (zO _ hi) (zO _ hj)];constructor
    ·intro h;exact zPy (hq i hi) (hq j hj) h
    ·rintro⟨h1,h2⟩;rw[h1,h2]
   ·exact rt1 @ints.eq_1
structure ClG(L n:Nat)(bs:List Bool)(nxt:List (List Int))(r:Nat->Nat):Prop where
 ok:POK r n
 st: ∀i j,i<n->j<n->r i=r j->bs[i]? =bs[j]? /\ ∀x,x<L->r (zR nxt i x)=r (zR nxt j x)
 co: ∀i j,i<n->j<n->LQ L bs nxt i j->r i=r j
theorem zLJ{L n s:Nat}{bs:List Bool}{nxt:List (List Int)}(h:DfL L n s bs nxt)(hL:1<=L)(hL2:L<=6)(hn:n<=512): ∃res,(∃r,ClG L n bs nxt r/\res= .t 2 (ints (zCM n r)))/\FnS Tryz.prog 43 [dfT 0 L s bs nxt] [] res []:=by
 have hnl:=h.nl;have hbl:=h.bl;have hrt:=h.rt;obtain⟨f,hf⟩: ∃f:Nat->Int,f=fun i=>if bs[i]? =some true then 1 else 0:=⟨_,rfl⟩
 obtain⟨res0,⟨r0,hr1,hr2,rfl⟩,hnum⟩:=zHp (tab n f) (by simp;omega);simp only[zAD]at hr1 hr2;have hr3: ∀i j,i<n->j<n->r0 i=r0 j->bs[i]? =bs[j]?:=fun i j hi hj e=>by
  have:=(hr2 i j _ _ (zO _ hi) (zO _ hj)).1 e;rw[hf]at this;have hi2:i<bs.length:=by omega
  have hj2:j<bs.length:=by omega
  simp only[Qj hi2,Qj hj2,Qx]at this ⊢
  cases h1:bs[i]<;>cases h2:bs[j]<;>simp[h1,h2]at this ⊢
 have hr4: ∀i j,i<n->j<n->LQ L bs nxt i j->r0 i=r0 j:=fun i j hi hj e=>by
  refine(hr2 i j _ _ (zO _ hi) (zO _ hj)).2 ?_;simp only[hf,e.fin (show i<bs.length by omega) (show j<bs.length by omega)]
 refine zh Tryz.func43 rfl (by simp[Tryz.f43]) ?_;rw[show Tryz.f43.ntmps=64 from rfl,show Tryz.f43.results= #[.tmp 2]from rfl];refine rg1 (an @dfT.eq_1 @zG.eq_1) ?_;refine rg1 @hbl ?_;refine zA ?_;refine rg0 ?_;refine zB ?_;refine awp_loop (fun k:Nat=>mkS [(1,.ptr 0 0 4),(3,.own 1 n),(14,.t 2 (.int .i64 n)),(15,.t 2 (.int .i64 k))] [(0,.box 34 [.t 2 (.int .i64 L),.t 2 (.int .i64 s),.t 0 (zG bs),.t 0 (rows nxt)]),(1,.row 3 1 2 (tab n fun i=>.int .i64 (if i<k then f i else 0)))] 2 64 [.any]) (fun k=>k<=n) (fun k=>n-k) ?_ ?_
 ·refine⟨0,by omega,?_⟩;exact kw1 [(0,some 0),(1,some 5000000)] (an @zz (an @rows.eq_1 (an @zG.eq_1 @dfT.eq_1)))
 ·intro k hk;refine rg0 ?_;refine zA ?_;by_cases hkn:k<n
  ·have hkb:k<bs.length:=by omega
   refine cK1 @hkn ?_;refine zA ?_;refine zB ?_;refine rg0 ?_
   cases hb:bs[k]with
   |true=>
    have hfk:f k=1:=by rw[hf];simp[hkb,hb]
    refine rg1 (an @zG.eq_1 (an @hkb @hb)) ?_;refine cT0 ?_;refine rr1 @hkn ?_;refine rr0 ?_;refine⟨k+1,by omega,by omega,?_⟩;refine zH [(0,some 0),(1,some 1)] rfl ?_ ?_ ?_ ?_
    all_goals try simp[zb,rows,zG]
    refine zK (fun i hi=>?_);by_cases e:i=k
    ·subst e;simp[hfk]
    ·simp[e,show i<k+1↔i<k by omega]
   |false=>
    have hfk:f k=0:=by rw[hf];simp[hkb,hb]
    refine rg1 (an @zG.eq_1 (an @hkb @hb)) ?_;refine cY0 ?_;refine rr0 ?_;refine⟨k+1,by omega,by omega,?_⟩;refine zH [(0,some 0),(1,some 1)] rfl ?_ ?_ ?_ ?_
    all_goals try simp[rows,zG]
    refine zK (fun i hi=>?_);by_cases e:i=k
    ·subst e;simp[hfk]
    ·simp[show i<k+1↔i<k by omega]
  ·have hke:k=n:=by omega
   refine cF1 @hkn ?_;refine zE ?_;subst hke;have he:(tab k fun i=>T.int IntKind.i64 (if i<k then f i else 0))=tab k fun i=>T.int IntKind.i64 (f i):=zK (fun i hi=>by rw[if_pos hi])
   refine rc1 hnum (an @zT @he) ?_;refine zB ?_;refine awp_loop (fun p:Nat->Nat=>mkS [(1,.ptr 0 0 4),(3,.t 2 (ints (zCM k p)))] [(0,.box 34 [.t 2 (.int .i64 L),.t 2 (.int .i64 s),.t 0 (zG bs),.t 0 (rows nxt)])] 1 64 [.any]) (fun p=>POK p k/\(∀i j,i<k->j<k->p i=p j->bs[i]? =bs[j]?)/\ ∀i j,i<k->j<k->LQ L bs nxt i j->p i=p j) (fun p=>k-cv p k) ?_ ?_
   ·refine⟨r0,⟨hr1,hr3,hr4⟩,?_⟩;exact kw1 [(0,some 0)] (an @rows.eq_1 @zG.eq_1)
   ·rintro p ⟨hp,hpf,hpc⟩;have hpk: ∀i,i<k->p i<=k:=fun i hi=>Nat.le_trans (hp i hi) (Nat.le_trans (zEY p i) (by omega))
    refine zB ?_;refine rg0 ?_;refine zA ?_;refine rg0 ?_;refine zB ?_;refine awp_loop (fun y:Nat×(Nat->Nat)=>mkS [(1,.ptr 0 0 4),(3,.t 2 (ints (zCM k p))),(5,.t 2 (ints (zCM k y.2))),(6,.t 2 (.int .i64 y.1))] [(0,.box 34 [.t 2 (.int .i64 L),.t 2 (.int .i64 s),.t 0 (zG bs),.t 0 (rows nxt)])] 1 64 [.any]) (fun y=>y.1<=L/\POK y.2 k/\(∀i j,i<k->j<k->y.2 i=y.2 j->p i=p j/\ ∀x,x<y.1->p (zR nxt i x)=p (zR nxt j x))/\ ∀i j,i<k->j<k->LQ L bs nxt i j->y.2 i=y.2 j) (fun y=>L-y.1) ?_ ?_
    ·refine⟨(0,p),⟨by simp,hp,fun i j _ _ e=>⟨e,fun x hx=>by simp at hx⟩,hpc⟩,?_⟩;exact kw1 [(0,some 0)] (an @rows.eq_1 @zG.eq_1)
    ·rintro⟨x,nx⟩ ⟨hx,hnx,hfine,hco⟩;simp only at hx hnx hfine hco;refine zA ?_;refine rg0 ?_;by_cases hxl:x<L
     ·obtain⟨res1,⟨r1,ha1,ha2,rfl⟩,hboth⟩:=zR5 k nx (fun q=>p (zR nxt q x)) hn (fun i hi=>Nat.le_trans (hnx i hi) (Nat.le_trans (zEY nx i) (by omega))) (fun i hi=>hpk _ (hrt.step hi hxl).1);refine cK1 @hxl ?_;refine zA ?_;refine zB ?_;refine rg0 ?_;refine zA ?_;refine rg0 ?_;refine zB ?_;refine awp_loop (fun q:Nat=>mkS [(1,.ptr 0 0 4),(3,.t 2 (ints (zCM k p))),(5,.t 2 (ints (zCM k nx))),(6,.t 2 (.int .i64 x)),(7,.own 1 q),(37,.t 2 (.int .i64 k)),(38,.t 2 (.int .i64 q))] [(0,.box 34 [.t 2 (.int .i64 L),.t 2 (.int .i64 s),.t 0 (zG bs),.t 0 (rows nxt)]),(1,.row 3 1 2 (tab q fun j=>.int .i64 (p (zR nxt j x))))] 2 64 [.any]) (fun q=>q<=k) (fun q=>k-q) ?_ ?_
      ·refine⟨0,by omega,?_⟩;exact kw1 [(0,some 0),(1,none)] (an @rows.eq_1 @zG.eq_1)
      ·intro q hq;refine rg0 ?_;refine zA ?_;by_cases hqk:q<k
       ·obtain⟨s1,s2,s3,s4⟩:=hrt.step hqk hxl;refine cK1 @hqk ?_;refine zA ?_;refine zB ?_;refine rg0 ?_;refine rr1 (an @s2 (an @s3 (an @s4 (an @zCM.eq_1 (an @zT @s1))))) ?_;refine rr0 ?_;refine⟨q+1,by omega,by omega,?_⟩;exact kw1 [(0,some 0),(1,some 1)] (an @rows.eq_1 (an @zG.eq_1 (an @zBI (an @zCM.eq_1 @zT))))
       ·have hqe:q=k:=by omega
        refine cF1 @hqk ?_;refine zE ?_;subst hqe;refine zAT fun K hK=>?_
        simp(maxSteps:=2000000)(disch:=omega)
        (repeat' apply And.intro)
        all_goals (try omega)
        refine zD (caps:=[]) (hboth) [] [] 2 rfl rfl rfl rfl (by kernel_rfl) (by simp) ?_ trivial trivial rfl trivial trivial (by simp) ?_
        ·simp[scal,ints,zCM,zT]
        simp(maxSteps:=2000000)(disch:=omega)[ints,scal];and_intros<;>try first|apply hK|omega|rfl|simp<;>omega
        refine rr0 ?_;refine⟨(x+1,r1),⟨by omega,ha1,fun i j hi hj e=>?_,fun i j hi hj e=>(ha2 i j hi hj).2 ⟨hco i j hi hj e,hpc _ _ (hrt.step hi hxl).1 (hrt.step hj hxl).1 (e.step hxl)⟩⟩,by simp;omega,?_⟩
        ·obtain⟨e1,e2⟩:=(ha2 i j hi hj).1 e;obtain⟨e3,e4⟩:=hfine i j hi hj e1;refine⟨e3,fun y hy=>?_⟩;by_cases eq:y=x
         ·subst eq;exact e2
         ·exact e4 y (by simp at hy;omega)
        ·exact kw1 [(0,some 0)] (an @rows.eq_1 @zG.eq_1)
     ·have hxe:x=L:=by omega
      subst hxe;refine cF0 ?_;refine zE ?_;refine zA ?_;refine rc0 (zGj (zCM k nx) (zCM k p) (by simp;omega)) ?_;by_cases hs:zCM k nx=zCM k p
      ·have hsi: ∀i,i<k->nx i=p i:=fun i hi=>by
        have h1:=zDR (r:=nx) hi;rw[hs,zDR hi]at h1;simp at h1;omega
       refine cT1 @hs ?_;refine rg0 ?_;refine zC ?_;refine⟨_,⟨p,⟨hp,fun i j hi hj e=>?_,hpc⟩,rfl⟩,?_⟩
       ·obtain⟨e1,e2⟩:=hfine i j hi hj (by rw[hsi i hi,hsi j hj,e]);exact⟨hpf i j hi hj e,e2⟩
       ·exact rt1 (an @ints.eq_1 @dfT.eq_1)
      ·refine cS1 @hs ?_;refine rr0 ?_;have hg:cv p k<cv nx k:=by
        rcases zIi hp hnx (fun i j hi hj e=>(hfine i j hi hj e).1)with g|g
        ·exfalso;apply hs;exact zK (fun i hi=>by rw[g i hi])
        ·exact g
       have hcl:=zEY nx k;refine⟨nx,⟨hnx,fun i j hi hj e=>hpf i j hi hj (hfine i j hi hj e).1,hco⟩,by omega,?_⟩;exact kw1 [(0,some 0)] (an @rows.eq_1 @zG.eq_1)
structure QuI(L:Nat)(bs:List Bool)(nxt:List (List Int))(p:Nat->Nat)(bs':List Bool)(nx':List (List Int))(k:Nat):Prop where
 bl:bs'.length=cv p k
 nl:nx'.length=cv p k
 cls: ∀c,c<cv p k-> ∃q,q<k/\p q=c/\bs'[c]? =bs[q]? /\nx'[c]? =some (tab L fun x=>(p (zR nxt q x):Int))
theorem QuI.start{L:Nat}{bs:List Bool}{nxt:List (List Int)}{p:Nat->Nat}:QuI L bs nxt p [] [] 0:=⟨rfl,rfl,fun c hc=>by simp[cv]at hc⟩
theorem QuI.old{L:Nat}{bs:List Bool}{nxt:List (List Int)}{p:Nat->Nat}{bs':List Bool}{nx':List (List Int)}{k:Nat}(h:QuI L bs nxt p bs' nx' k)(hk:p k≠cv p k):QuI L bs nxt p bs' nx' (k+1):=by
 have e:cv p (k+1)=cv p k:=by
  show(if p k=cv p k then cv p k+1 else cv p k)=_;rw[if_neg hk]
 exact⟨by rw[e];exact h.bl,by rw[e];exact h.nl,fun c hc=>by
  rw[e]at hc;obtain⟨q,h1,h2⟩:=h.cls c hc;exact⟨q,by omega,h2⟩⟩
theorem QuI.new{L:Nat}{bs:List Bool}{nxt:List (List Int)}{p:Nat->Nat}{bs':List Bool}{nx':List (List Int)}{k:Nat}{b:Bool}(h:QuI L bs nxt p bs' nx' k)(hk:p k=cv p k)(hb:bs[k]? =some b):QuI L bs nxt p (bs'++[b]) (nx'++[tab L fun x=>(p (zR nxt k x):Int)]) (k+1):=by
 have e:cv p (k+1)=cv p k+1:=by
  show(if p k=cv p k then cv p k+1 else cv p k)=_;rw[if_pos hk]
 refine⟨by simp[e,h.bl],by simp[e,h.nl],fun c hc=>?_⟩;by_cases ec:c=cv p k
 ·refine⟨k,by omega,by omega,?_,?_⟩
  ·rw[hb,Qa (by rw[h.bl];omega),h.bl,ec,Nat.sub_self];rfl
  ·rw[Qa (by rw[h.nl];omega),h.nl,ec,Nat.sub_self];rfl
 ·obtain⟨q,h1,h2,h3,h4⟩:=h.cls c (by omega);refine⟨q,by omega,h2,?_,?_⟩
  ·rw[Qw (by rw[h.bl];omega)];exact h3
  ·rw[Qw (by rw[h.nl];omega)];exact h4
theorem QuI.fin{L n s:Nat}{bs:List Bool}{nxt:List (List Int)}{p:Nat->Nat}{bs':List Bool}{nx':List (List Int)}(hD:DfL L n s bs nxt)(hC:ClG L n bs nxt p)(h:QuI L bs nxt p bs' nx' n):
  (∀q,q<n->DfL L (cv p n) (p q) bs' nx')/\ ∀w,(∀a∈w,a<L)-> ∀q,q<n->zCF bs' nx' (p q) w=zCF bs nxt q w:=by
 refine⟨fun q hq=>⟨by have:=hC.ok.lt hq hq;omega,hC.ok.lt hq hq,h.bl,h.nl,fun r hr=>?_⟩,fun w hw q hq=>?_⟩
 ·obtain⟨j,hj,e⟩:=Qb hr;obtain⟨q',h1,h2,h3,h4⟩:=h.cls j (by have:=h.nl;omega);rw[Qj hj]at h4;injection h4 with h4;rw[e]at h4;subst h4;refine⟨by simp,fun v hv=>?_⟩;simp only[tab,List.mem_map,List.mem_range]at hv;obtain⟨x,hx,rfl⟩:=hv;have:=(hD.rt.step h1 hx).1;have:=hC.ok.lt this this;omega
 ·refine zDJ (fun i q=>q<n/\p q=i) (fun i q e=>?_) (fun i q x e hx=>?_) w hw (p q) q ⟨hq,rfl⟩
  ·obtain⟨e1,rfl⟩:=e;obtain⟨q',h1,h2,h3,h4⟩:=h.cls (p q) (hC.ok.lt e1 e1);have:=(hC.st q' q h1 e1 h2).1;simp only[Qv,h3,this]
  ·obtain⟨e1,rfl⟩:=e;obtain⟨q',h1,h2,h3,h4⟩:=h.cls (p q) (hC.ok.lt e1 e1);have h5:=(hC.st q' q h1 e1 h2).2 x hx;have h6:zR nx' (p q) x=p (zR nxt q' x):=zEG h4 (zO _ hx);exact⟨(hD.rt.step e1 hx).1,by rw[h6,h5]⟩
theorem QuI.dis{L n s:Nat}{bs:List Bool}{nxt:List (List Int)}{p:Nat->Nat}{bs':List Bool}{nx':List (List Int)}(hD:DfL L n s bs nxt)(hC:ClG L n bs nxt p)(h:QuI L bs nxt p bs' nx' n):Dis L (cv p n) bs' nx':=fun i j hi hj e=>by
 obtain⟨q,h1,rfl,-⟩:=h.cls i hi;obtain⟨r,h3,rfl,-⟩:=h.cls j hj;have hl:=(h.fin hD hC).2;exact hC.co q r h1 h3 (fun w hw=>by rw[←hl w hw q h1,←hl w hw r h3,e w hw])
