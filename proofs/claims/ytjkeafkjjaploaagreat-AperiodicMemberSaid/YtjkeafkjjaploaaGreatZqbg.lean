/- Lemmas for the law AperiodicMember. No conditions. -/
import Derived.Test.YtjkeafkjjaploaaGreatZqbd
import Derived.Test.YtjkeafkjjaploaaGreatZqbf
import Derived.Test.YtjkeafkjjaploaaGreatZqba
set_option linter.all false
namespace Go.Proofs.YtjkeafkjjaploaaGreat.M
open Go.RowKit
set_option maxRecDepth 100000
set_option maxHeartbeats 32000000

noncomputable def zDN(L:Nat)(tb:List (List Int))(ws:List (List Nat))(im:List Int)(ac pl:List Bool):zDd:=⟨L,tb,ws,im,ac,pl,zT4 tb tb.length,zT5 tb tb.length,zT7 tb tb.length,nI (zC4 tb tb.length)⟩
theorem zGz{n:Nat}{f:Nat->Nat->Bool}{x y:Nat}(hx:x<n)(hy:y<n):zCT (tab n fun x=>tab n fun y=>f x y) x y=f x y:=by
 have e1:(tab n fun x=>tab n fun y=>f x y).getD x []=tab n fun y=>f x y:=by rw[Qv,zX _ hx];rfl
 unfold zCT;rw[e1,Qv,zX _ hy];rfl
theorem zJT(n:Nat)(f:Nat->Nat->Bool):SqB n (tab n fun x=>tab n fun y=>f x y):=⟨by simp,fun x hx=>⟨_,zX _ hx,by simp⟩⟩
section
variable{L N:Nat}{tb:List (List Int)}{ws:List (List Nat)}{im:List Int}{ac pl:List Bool}
theorem zPo.img(hS:zPo L N tb ws im ac pl){a:Nat}(ha:a<im.length):im[a]? =some (imN im a:Int)/\imN im a<N:=by
 have h:=hS.ir im[a] (by simp);have e:imN im a=im[a].toNat:=by
  unfold imN;rw[Qv,Qj ha];rfl
 rw[e,Qj ha];exact⟨by rw[Int.toNat_of_nonneg h.1],by omega⟩
theorem zTg(hS:zPo L N tb ws im ac pl)(ht:TbL tb N (zQ tb))(hn:N<=12):BOk (zDN L tb ws im ac pl):=by
 have hl:=ht.len;have hL:=hS.l2;have hil:=hS.il;refine⟨fun x hx=>?_,fun a ha=>?_,zJT _ _,zJT _ _,zJT _ _,?_,?_⟩
 ·show ∃r,tb[x]? =some r/\r.length=tb.length/\ ∀y,y<tb.length->r[y]? =some (zQ tb x y:Int)/\zQ tb x y<tb.length;have hx:x<tb.length:=hx;refine⟨tb[x],Qj hx,by rw[ht.row x hx,hl],fun y hy=>?_⟩;have hy2:y<tb[x].length:=by rw[ht.row x hx];omega
  exact⟨by rw[Qj hy2,ht.val x y hx hy2],by rw[hl];exact ht.lt x y (by omega) (by omega)⟩
 ·show im[a]? =some (imN im a:Int)/\imN im a<tb.length;rw[hl];exact hS.img ha
 ·show tb.length<=60;omega
 ·show im.length<=6;omega
theorem zFD(tb:List (List Int))(n:Nat):(zC4 tb n).Perm (List.range n):=(zE3 _ List.nodup_range).1
theorem zKC(h:ApM N (zQ tb)){x:Nat}(hx:x<N):szF (zN9 tb N) x=szJ N (zQ tb) x:=by
 unfold szF zN9 szJ zFZ;rw[Qv,zX _ hx];show((List.range N).filter fun y=>wBt tb N x N y).length=_;congr 1;refine List.filter_congr fun y _=>?_
 rw[Bool.eq_iff_iff,zPQ h hx,zCy]
theorem zK2(ht:TbL tb N (zQ tb))(h:ApM N (zQ tb)):zVU (zDN L tb ws im ac pl) (zC4 tb N):=by
 have hl:=ht.len;subst hl;refine⟨fun x y hx hy=>?_,fun x y hx hy=>?_,fun x y hx hy=>?_,?_⟩
 ·show zCT (zT4 tb tb.length) x y=true↔_;have hx:x<tb.length:=hx;have hy:y<tb.length:=hy;unfold zT4;rw[zGz hx hy];exact zOs
 ·show zCT (zT5 tb tb.length) x y=true↔_;have hx:x<tb.length:=hx;have hy:y<tb.length:=hy;unfold zT5;rw[zGz hx hy];exact zPJ
 ·show zCT (zT7 tb tb.length) x y=true↔_;have hx:x<tb.length:=hx;have hy:y<tb.length:=hy;unfold zT7;rw[zGz hx hy];exact zPQ h hx
 ·refine zT9.of (zFD tb _) ?_;refine(zE3 (szF (zN9 tb tb.length)) List.nodup_range).2.imp_of_mem fun {a b} ha hb hab=>?_
  have ha:=List.mem_range.1 ((zFD tb _).mem_iff.1 ha);have hb:=List.mem_range.1 ((zFD tb _).mem_iff.1 hb);unfold zAq at hab ⊢;rw[zKC h ha,zKC h hb]at hab;exact hab
end
def zHE(p:Nat)(ns:List Nd)(root:Nat):AV:=.agg [.t p (.sl 4 (zCR ns)),.t 2 (.int .i64 (root:Nat))]
def zVX:AV:=.agg [.t 2 (.sl 0 []),.t 2 (.int .i64 0)]
theorem zQt{L:Nat}{tb:List (List Int)}{ws:List (List Nat)}{im:List Int}{ac pl:List Bool}(hv:FnA Tryz.prog 27 [syV 0 L tb ws im ac pl] (.t 2 (.int .i64 0)))(ha:FnA Tryz.prog 28 [syV 0 L tb ws im ac pl] (.t 2 (.bool false))):FnA Tryz.prog 9 [syV 1 L tb ws im ac pl] (.tup [zVX,.t 2 (.sl 0 []),.t 2 (.int .i64 20)]):=by
 refine fI 125 #[.cell 2 33,.tmp 3,.tmp 4] Tryz.func9 rfl ?_;refine rg1 (an @syV.eq_1 @zH.eq_1) ?_;refine zD ?_;refine rc1 hv (an @syV.eq_1 @zH.eq_1) ?_;refine rg0 ?_;refine cS0 ?_;refine zD ?_;refine rc1 ha (an @syV.eq_1 @zH.eq_1) ?_;refine cT0 ?_;refine rg0 ?_;refine zI ?_;refine⟨⟨.inr rfl,_,[],(by simp;rfl),trivial,trivial,by simp,?_⟩,by simp[syV]⟩;simp[zVX]
theorem zM7{L N:Nat}{tb:List (List Int)}{ws:List (List Nat)}{im:List Int}{ac pl:List Bool}(hS:zPo L N tb ws im ac pl)(ht:TbL tb N (zQ tb))(hM:ApM N (zQ tb))(hn:N<=12)(hL3:L<=3)(hlim:8*(N+2)*(N+2)*(L+1)*(L+1)<=20000)
  (hv:FnA Tryz.prog 27 [syV 0 L tb ws im ac pl] (.t 2 (.int .i64 0))) (ha:FnA Tryz.prog 28 [syV 0 L tb ws im ac pl] (.t 2 (.bool true))):
  FnA Tryz.prog 9 [syV 1 L tb ws im ac pl] (.tup [zHE 1 (zPt (zDN L tb ws im ac pl) (zC4 tb N)).1 (zPt (zDN L tb ws im ac pl) (zC4 tb N)).2,.t 1 (ints (nI (runD (zDN L tb ws im ac pl) (zC4 tb N) N).2)),.t 2 (.int .i64 0)]):=by
 have htl:=ht.len;have hil:=hS.il;have hal:=hS.al;have hD:=zTg hS ht hn;have hI:=zK2 (L:=L) (ws:=ws) (im:=im) (ac:=ac) (pl:=pl) ht hM;have hid:=zOF tb N ht hS.n1 hn;have hrun: ∀i,i<=N->(runD (zDN L tb ws im ac pl) (zC4 tb N) i).1.length<=9400:=fun i hi=>by
  have h2:=(zJS (D:=zDN L tb ws im ac pl) (o:=zC4 tb N) (by show ApM tb.length (zQ tb);rw[htl];exact hM) (fun a ha=>by show imN im a<tb.length;rw[htl];exact(hS.img ha).2) (fun a ha=>by show im.getD a 0=(imN im a:Int);rw[Qv,(hS.img ha).1];rfl) hI i (by show i<=tb.length;omega)).2.1;have hb:zPV tb.length im.length<=776:=by
   unfold zPV;have k1:tb.length*im.length<=12*3:=Nat.mul_le_mul (by omega) (by omega);have k2:im.length*im.length<=3*3:=Nat.mul_le_mul (by omega) (by omega);have k3:tb.length*(im.length*im.length)<=12*9:=Nat.mul_le_mul (by omega) k2;omega
  have h3:(runD (zDN L tb ws im ac pl) (zC4 tb N) i).1.length<=i*zPV tb.length im.length:=h2;have h4:i*zPV tb.length im.length<=12*776:=Nat.mul_le_mul (by omega) hb;omega
 have hofl: ∀i,(runD (zDN L tb ws im ac pl) (zC4 tb N) i).2.length=N:=fun i=>by rw[zGW];exact htl
 have hsucc: ∀i,runD (zDN L tb ws im ac pl) (zC4 tb N) (i+1)=((zHF (zDN L tb ws im ac pl) (zC4 tb N) i (runD (zDN L tb ws im ac pl) (zC4 tb N) i)).1,(runD (zDN L tb ws im ac pl) (zC4 tb N) i).2.set ((zC4 tb N).getD i 0) (zHF (zDN L tb ws im ac pl) (zC4 tb N) i (runD (zDN L tb ws im ac pl) (zC4 tb N) i)).2):=fun i=>rfl
 have hr0:runD (zDN L tb ws im ac pl) (zC4 tb N) 0=([],List.replicate N 0):=by rw[←htl];rfl
 have hgr:zPt (zDN L tb ws im ac pl) (zC4 tb N)=zEQ (runD (zDN L tb ws im ac pl) (zC4 tb N) N).1 (zIg ac (runD (zDN L tb ws im ac pl) (zC4 tb N) N).2 N):=by
  show zEQ (runD _ _ tb.length).1 (zIg ac (runD _ _ tb.length).2 tb.length)=_;rw[htl]
 have hol:(zC4 tb N).length=N:=hI.od.len.trans htl;have hlt: ∀x∈zC4 tb N,x<N:=fun x hx=>by have:=hI.od.lt x hx;rw[←htl];exact this
 have hDb: ∀n m,bdB (zDN L tb ws im ac pl) n m= .box 68 [.t 2 (.int .i64 L),.t 1 (rows tb),.t 1 (.sl 1 (wsT ws)),.t 1 (ints im),.t 1 (zH ac),.t 1 (zH pl),.t 1 (zM (zT4 tb N)),.t 1 (zM (zT5 tb N)),.t 1 (zM (zT7 tb N)),.t 1 (ints (nI (zC4 tb N))),.own 1 (n*4),.own 2 0,.own 3 m]:=fun n m=>by
  unfold bdB zDN;rw[htl]
 have hDim:(zDN L tb ws im ac pl).im=im:=rfl;have hDtb:(zDN L tb ws im ac pl).tb.length=N:=htl;have hDod:(zDN L tb ws im ac pl).od=nI (zC4 tb N):=by
  show nI (zC4 tb tb.length)=_;rw[htl]
 generalize zDN L tb ws im ac pl=D at*
 generalize zC4 tb N=o at*
 rw[hgr];clear hgr hI;obtain⟨zA,hA,hA2⟩: ∃A:Nat,8*((N:Int)+2)*((N:Int)+2)=A/\A<=1568:=⟨8*(N+2)*(N+2),by push_cast;rfl,Nat.mul_le_mul (show 8*(N+2)<=112 by omega) (show N+2<=14 by omega)⟩;obtain⟨zB,hB,hB2⟩: ∃B:Nat,(zA:Int)*((L:Int)+1)=B/\B<=6272:=⟨zA*(L+1),by push_cast;rfl,Nat.mul_le_mul hA2 (show L+1<=4 by omega)⟩;obtain⟨zC,hC,hC2⟩: ∃C:Nat,(zB:Int)*((L:Int)+1)=C/\C<=20000:=⟨zB*(L+1),by push_cast;rfl,by
  have e1:zA=8*(N+2)*(N+2):=by have:=hA.symm;exact Int.ofNat.inj (by push_cast;exact this)
  have e2:zB=zA*(L+1):=by have:=hB.symm;push_cast at this;exact Int.ofNat.inj (by push_cast;exact this)
  rw[e2,e1];exact hlim⟩
 have hC3: ¬(20000:Int)<(zC:Int):=by omega
 refine fI 125 #[.cell 2 33,.tmp 3,.tmp 4] Tryz.func9 rfl ?_;refine rg1 (an @syV.eq_1 @zH.eq_1) ?_;refine zD ?_;refine rc1 hv (an @syV.eq_1 @zH.eq_1) ?_;refine rg0 ?_;refine cS0 ?_;refine zD ?_;refine rc1 ha (an @syV.eq_1 @zH.eq_1) ?_;refine cS0 ?_;refine rd1 @htl ?_;refine zD ?_;refine rg1 (an @hA (an @hB (an @hC @hC3))) ?_;refine cS0 ?_;refine zd (σ':=mkS [(1,.ptr 0 0 6),(2,.ptr 1 0 2),(6,.t 2 (.int .i64 N)),(7,.t 2 (.int .i64 L))] [(0,.box 27 [.t 2 (.int .i64 L),.t 1 (rows tb),.t 1 (.sl 1 (wsT ws)),.t 1 (ints im),.t 1 (zH ac),.t 1 (zH pl)]),(1,.box 33 [.any,.any])] 2 125 [.any]) ?_ ?_
 ·exact kw1 [(0,some 0),(1,some 1000000)] (an @rows.eq_1 @zH.eq_1)
 clear hA hB hC hC2 hC3 hA2 hB2;refine rq0 hid ?_;refine zD ?_;refine rg1 @hol ?_;refine zG ?_;refine awp_loop (fun i:Nat=>mkS [(1,.ptr 4 0 6),(2,.ptr 5 0 2),(8,.ptr 0 0 13),(57,.t 1 (ints (nI o))),(58,.t 2 (.int .i64 N)),(59,.t 2 (.int .i64 i))]
   [(0,bdB D (runD D o i).1.length (runD D o i).2.length),(1,.row 78 4 1 (zCR (runD D o i).1)),(2,.map 78 3 (kents ndK 0 (runD D o i).1)),(3,.row 3 1 1 (idT (runD D o i).2)),(4,.box 27 [.t 2 (.int .i64 L),.t 1 (rows tb),.t 1 (.sl 1 (wsT ws)),.t 1 (ints im),.t 1 (zH ac),.t 1 (zH pl)]),(5,.box 33 [.any,.any])] 6 125 [.any]) (fun i=>i<=N) (fun i=>N-i) ?_ ?_
 ·refine⟨0,by omega,?_⟩;rw[hr0,hDb];refine zP [(0,some 8000002),(1,none),(2,some 4000002),(3,some 6000002),(4,some 0),(5,some 1)] rfl ?_ ?_ ?_ ?_
  all_goals try simp[ints,rows,zH,idT,zM,zCR,kents]
 intro i hi;have hrl:=hrun i hi;have hfl:=hofl i;have hsi:=hsucc i;refine rg0 ?_;refine zD ?_;by_cases hlt2:i<N
 ·obtain⟨m,hm⟩: ∃m,m=o[i]'(by omega):=⟨_,rfl⟩;have hmN:m<N:=hm▸hlt _ (by simp);have hgt: ∀h,(nI o)[i]'h=(m:Int):=fun h=>by simp[nI,hm]
  have hnl:(nI o).length=N:=by rw[zEg,hol]
  have hod:o.getD i 0=m:=by rw[Qv,Qj (by omega),hm];rfl
  have hxs: ∀x∈o.take i,x<D.tb.length:=fun x hx=>by rw[hDtb];exact hlt x (List.mem_of_mem_take hx)
  have htk:(nI o).take i=nI (o.take i):=by simp[nI,List.map_take]
  have htk2:(List.map (T.int .i64) (nI o)).take i=List.map (T.int .i64) (nI (o.take i)):=by rw[←List.map_take,htk]
  rw[hod]at hsi;clear hm;have hnod:zHF D o i (runD D o i)=if i=0 then zVz D m (runD D o i).1 else zU6 D (runD D o i).2 m (o.take i) (runD D o i).1:=by unfold zHF;rw[hod]
  generalize runD D o i=s at*
  refine cK1 @hlt2 ?_;refine zD ?_;refine zG ?_;refine rg1 (an @hnl (an @hlt2 @hgt)) ?_;by_cases c0:i=0
  ·rw[if_pos c0]at hnod;have c1:=zTH D s.1 s.2 (m:Int) (by rw[hDim];omega) (by omega);have c1:FnK Tryz.prog 30 [.ptr 0 0 13,.t 2 (.int .i64 m)] (bdO D s.1 s.2) (.t 2 (.int .i64 ((zHF D o i s).2:Nat))) (bdO D (zHF D o i s).1 s.2) [3]:=by rw[hnod];exact c1
   generalize zHF D o i s=r at*
   clear hnod;subst c0;refine rg0 ?_;refine cT0 ?_;refine zE4 [0] [(0,12)] (by kernel_rfl) (by kernel_rfl) (fun K hK=>?_);simp[ints,rows,bdB]
   (repeat' apply And.intro)
   all_goals (try first|omega|(show okH _ _ _=true;kernel_rfl))
   refine zAQ (caps:=[]) (c1) [0,1,2,3] [0,15000006,15000007,3] 1 [3] rfl rfl rfl rfl (by kernel_rfl) (by simp) ?_ ?_ (by simp) rfl (by simp) ⟨.inr (.inl ⟨rfl,0,_,_,_,_,_,rfl,rfl,(by first|rfl|simp[bdO,bdB,zM,zH]),rfl,(by first|rfl|simp[bdO,bdB,zM,zH])⟩),.inl ⟨by omega,by omega⟩,.inl ⟨by omega,by omega⟩,.inr (.inr ⟨rfl,by simp,by simp[bdO,bdB,zM,zH]⟩),trivial⟩ (by simp[bdO,bdB,zM,zH]) (by intro k hk;simp at hk;simp[hk]) ?_ ?_
   ·simp[scal,zM,zH]
   ·simp[scal,rows,ints,bdO,bdB,zM,zH]
   ·simp[sameK,scal,rows,ints,bdO,bdB,zM,zH]
   simp[ints,rows,scal,bdO,bdB,zM,zH,hfl,hmN,zGT];and_intros<;>try first|apply hK|(show zAf _ _=true;kernel_rfl)|(show okH _ _ _=true;kernel_rfl)|omega|rfl|simp<;>omega
   refine rr0 ?_;refine⟨0+1,by omega,by omega,?_⟩;rw[hsi];exact kw1 [(0,some 0),(1,some 15000006),(2,some 15000007),(3,some 3),(4,some 4),(5,some 5)] (an @bdB.eq_1 (an @rows.eq_1 (an @zH.eq_1 (an @zM.eq_1 @hfl))))
  ·rw[if_neg c0]at hnod;have c1:=zSA D hD s.1 s.2 m (o.take i) (by rw[hDtb];exact hmN) (by rw[hDtb];exact hfl) hxs (by simp;omega) (by omega);rw[←hnod]at c1;generalize zHF D o i s=r at*
   clear hnod;have c0i:((i:Int)==0)=false:=by
    have: ¬(i:Int)=0:=by omega
    simpa using this
   refine rg1 @c0i ?_;refine cF0 ?_;refine zE4 [0] [(0,12)] (by kernel_rfl) (by kernel_rfl) (fun K hK=>?_);simp[ints,rows,bdB,hnl,hDod]
   (repeat' apply And.intro)
   all_goals (try first|omega|(show okH _ _ _=true;kernel_rfl))
   refine zAQ (caps:=[]) (c1) [0,1,2,3] [0,22000006,22000007,3] 1 [3] rfl rfl rfl rfl (by kernel_rfl) (by simp) ?_ ?_ (by simp) rfl (by simp) ⟨.inr (.inl ⟨rfl,0,_,_,_,_,_,rfl,rfl,(by first|rfl|simp[bdO,bdB,zM,zH,htk2,hDod]),rfl,(by first|rfl|simp[bdO,bdB,zM,zH,htk2,hDod])⟩),.inl ⟨by omega,by omega⟩,.inl ⟨by omega,by omega⟩,.inr (.inr ⟨rfl,by simp,by simp[bdO,bdB,zM,zH,hDod]⟩),trivial⟩ (by simp[bdO,bdB,zM,zH,hDod]) (by intro k hk;simp at hk;simp[hk]) ?_ ?_
   ·simp[scal,ints,zM,zH,htk2]
   ·simp[scal,rows,ints,bdO,bdB,zM,zH,hDod]
   ·simp[sameK,scal,rows,ints,bdO,bdB,zM,zH,hDod]
   simp[ints,rows,scal,bdO,bdB,zM,zH,hfl,hmN,zGT];and_intros<;>try first|apply hK|(show zAf _ _=true;kernel_rfl)|(show okH _ _ _=true;kernel_rfl)|omega|rfl|simp<;>omega
   refine rr0 ?_;refine⟨i+1,by omega,by omega,?_⟩;rw[hsi];exact kw1 [(0,some 0),(1,some 22000006),(2,some 22000007),(3,some 3),(4,some 4),(5,some 5)] (an @bdB.eq_1 (an @rows.eq_1 (an @zH.eq_1 (an @zM.eq_1 @hfl))))
 ·obtain rfl:N=i:=by omega
  clear hsi hsucc hr0;generalize runD D o N=s at*
  refine cF0 ?_;refine zK ?_;refine zd (σ':=mkS [(1,.ptr 4 0 6),(2,.ptr 5 0 2),(8,.ptr 0 0 13)] [(0,bdB D s.1.length s.2.length),(1,.row 78 4 1 (zCR s.1)),(2,.map 78 3 (kents ndK 0 s.1)),(3,.row 3 1 1 (idT s.2)),(4,.box 27 [.t 2 (.int .i64 L),.t 1 (rows tb),.t 1 (.sl 1 (wsT ws)),.t 1 (ints im),.t 1 (zH ac),.t 1 (zH pl)]),(5,.box 33 [.any,.any])] 6 125 [.any]) ?_ ?_
  ·exact kw1 [(0,some 0),(1,some 1),(2,some 2),(3,some 3),(4,some 4),(5,some 5)] (an @bdB.eq_1 (an @rows.eq_1 @zH.eq_1))
  refine rg0 ?_;refine zD ?_;refine rg1 (an @zH.eq_1 @hal) ?_;refine zG ?_;refine awp_loop (fun k:Nat=>mkS [(2,.ptr 4 0 2),(8,.ptr 0 0 13),(11,.own 5 (zIg ac s.2 k).length),(93,.t 1 (zH ac)),(94,.t 2 (.int .i64 N)),(95,.t 2 (.int .i64 k))]
   [(0,bdB D s.1.length s.2.length),(1,.row 78 4 1 (zCR s.1)),(2,.map 78 3 (kents ndK 0 s.1)),(3,.row 3 1 1 (idT s.2)),(4,.box 33 [.any,.any]),(5,.row 3 1 2 (idT (zIg ac s.2 k)))] 6 125 [.any]) (fun k=>k<=N) (fun k=>N-k) ?_ ?_
  ·refine⟨0,by omega,?_⟩;refine zP [(0,some 0),(1,some 1),(2,some 2),(3,some 3),(4,some 5),(5,none)] rfl ?_ ?_ ?_ ?_
   all_goals try simp[ints,bdB,rows,zH,zIg,idT]
  intro k hk;have hal2:=zGK ac s.2 k;refine rg0 ?_;refine zD ?_;by_cases hkN:k<N
  ·have hkl:k<ac.length:=by omega
   obtain⟨b,hb⟩: ∃b,b=ac.getD k false:=⟨_,rfl⟩;have hacb: ∀hh,ac[k]'hh=b:=fun hh=>by rw[hb,Qv,Qj hh];rfl
   have hstep:zIg ac s.2 (k+1)=if b=true then zIg ac s.2 k++[s.2.getD k 0]else zIg ac s.2 k:=by rw[hb];rfl
   have hofx:=zJs (of:=s.2) (x:=k) (by omega);clear hb;refine cK1 @hkN ?_;refine zD ?_;refine zG ?_;refine rg1 (an @zH.eq_1 (an @hkl @hacb)) ?_
   cases b with
   |true=>
    rw[if_pos rfl]at hstep;generalize s.2.getD k 0=q at hstep hofx;refine rg0 ?_;refine cT0 ?_;refine rr1 (an @bdB.eq_1 (an @hofx (an @hfl @hkN))) ?_;refine rr0 ?_;refine⟨k+1,by omega,by omega,?_⟩;rw[hstep];exact kw1 [(0,some 0),(1,some 1),(2,some 2),(3,some 3),(4,some 4),(5,some 5)] (an @bdB.eq_1 (an @rows.eq_1 (an @zH.eq_1 (an @idT.eq_1 @hfl))))
   |false=>
    rw[if_neg (by simp)]at hstep;refine rg0 ?_;refine cY0 ?_;refine rr0 ?_;refine⟨k+1,by omega,by omega,?_⟩;rw[hstep];exact kw1 [(0,some 0),(1,some 1),(2,some 2),(3,some 3),(4,some 4),(5,some 5)] (an @bdB.eq_1 (an @rows.eq_1 (an @zH.eq_1 (an @idT.eq_1 @hfl))))
  ·obtain rfl:N=k:=by omega
   generalize zIg ac s.2 N=acc at*
   refine cF0 ?_;refine zK ?_;have c1:=zGs D s.1 s.2 acc (by omega);generalize zEQ s.1 acc=g at*
   refine zd (σ':=mkS [(2,.ptr 4 0 2),(8,.ptr 0 0 13),(11,.t 1 (ints (nI acc)))] [(0,bdB D s.1.length s.2.length),(1,.row 78 4 1 (zCR s.1)),(2,.map 78 3 (kents ndK 0 s.1)),(3,.row 3 1 1 (idT s.2)),(4,.box 33 [.any,.any])] 5 125 [.any]) ?_ ?_
   ·exact kw1 [(0,some 0),(1,some 1),(2,some 2),(3,some 3),(4,some 4)] (an @bdB.eq_1 (an @rows.eq_1 (an @zH.eq_1 (an @idT.eq_1 @nI.eq_1))))
   refine zO fun K hK=>?_
   simp[ints]
   (repeat' apply And.intro)
   all_goals (try omega)
   refine za (caps:=[]) (c1) [0,1,2,3] [0,2000005,2000006,3] 1 rfl rfl rfl rfl (by kernel_rfl) (by simp) ?_ ?_ (by simp) rfl (by simp) ⟨.inr (.inl ⟨rfl,0,_,_,_,_,_,rfl,rfl,(by first|rfl|simp[bdO,bdB,zM,zH]),rfl,(by first|rfl|simp[bdO,bdB,zM,zH])⟩),.inl ⟨by omega,by omega⟩,.inl ⟨by omega,by omega⟩,.inr (.inr ⟨rfl,by simp,by simp[bdO,bdB,zM,zH]⟩),trivial⟩ (by simp[bdO,bdB,zM,zH]) ?_
   ·simp[scal,rows,ints,bdB,zM,zH]
   ·simp[scal,rows,ints,bdO,bdB,zM,zH]
   simp[ints,rows,scal,bdO,bdB,zM,zH];and_intros<;>try first|apply hK|omega|rfl|simp<;>omega
   refine zd (σ':=mkS [(2,.ptr 1 0 2),(8,.ptr 0 0 13),(14,.t 2 (.int .i64 g.2))] [(0,.box 68 [.any,.any,.any,.any,.any,.any,.any,.any,.any,.any,.t 1 (.sl 4 (zCR g.1)),.any,.t 1 (ints (nI s.2))]),(1,.box 33 [.any,.any])] 2 125 [.any]) ?_ ?_
   ·exact kw1 [(0,some 0),(1,some 4)] (an @bdB.eq_1 (an @rows.eq_1 (an @zH.eq_1 (an @idT.eq_1 (an @nI.eq_1 @hfl)))))
   refine rd0 ?_;refine zI ?_;refine⟨⟨.inr rfl,_,[],(by simp;rfl),trivial,trivial,by simp,?_⟩,by simp[syV,rows]⟩;simp[ints,zHE,nI]
def zGn(op:Nat):Nat:=if op=5\/op=6\/op=7 then 2 else if op=8 then 1 else 0
theorem zOB{ns:List Nd}{k:Nat}{nd:Nd}(h:ns[k]? =some nd):List.take 4 (List.drop (k*4) (zCR ns))=ndC nd:=by
 obtain⟨hk,e⟩:=Qq.1 h;have hd:(zCR ns).drop (k*4)=zCR (ns.drop k):=by
  conv=>lhs;rw[←List.take_append_drop k ns]
  unfold zCR;rw[List.flatMap_append,List.drop_left' (by have:=zQD (ns.take k);unfold zCR at this;rw[this];simp;omega)]
 rw[hd,List.drop_eq_getElem_cons hk,e];unfold zCR;rw[List.flatMap_cons];rfl
theorem zKP{op:Nat}(h1:1<=op)(h8:op<=8):FnA Tryz.prog 82 [.t 2 (.int .i64 op)] (.t 2 (.int .i64 (zGn op:Nat))):=by
 refine fI 10 #[.tmp 2] Tryz.func82 rfl ?_;rcases(by omega:op=1\/op=2\/op=3\/op=4\/op=5\/op=6\/op=7\/op=8)with rfl|rfl|rfl|rfl|rfl|rfl|rfl|rfl
 ·refine rg0 ?_;refine zD ?_;refine rg0 ?_;refine zG ?_;refine zD ?_;refine rg0 ?_;refine cF0 ?_;refine rg0 ?_;refine cF0 ?_;refine rr0 ?_;refine cF0 ?_;refine rg0 ?_;refine cY0 ?_;refine rg0 ?_;exact zI (rt1 @zGn.eq_1)
 ·refine rg0 ?_;refine zD ?_;refine rg0 ?_;refine zG ?_;refine zD ?_;refine rg0 ?_;refine cF0 ?_;refine rg0 ?_;refine cF0 ?_;refine rr0 ?_;refine cF0 ?_;refine rg0 ?_;refine cY0 ?_;refine rg0 ?_;exact zI (rt1 @zGn.eq_1)
 ·refine rg0 ?_;refine zD ?_;refine rg0 ?_;refine zG ?_;refine zD ?_;refine rg0 ?_;refine cF0 ?_;refine rg0 ?_;refine cF0 ?_;refine rr0 ?_;refine cF0 ?_;refine rg0 ?_;refine cY0 ?_;refine rg0 ?_;exact zI (rt1 @zGn.eq_1)
 ·refine rg0 ?_;refine zD ?_;refine rg0 ?_;refine zG ?_;refine zD ?_;refine rg0 ?_;refine cF0 ?_;refine rg0 ?_;refine cF0 ?_;refine rr0 ?_;refine cF0 ?_;refine rg0 ?_;refine cY0 ?_;refine rg0 ?_;exact zI (rt1 @zGn.eq_1)
 ·refine rg0 ?_;refine zD ?_;refine rg0 ?_;refine zG ?_;refine zD ?_;refine rg0 ?_;refine cK0 ?_;refine cT0 ?_;refine rg0 ?_;exact zI (rt1 @zGn.eq_1)
 ·refine rg0 ?_;refine zD ?_;refine rg0 ?_;refine zG ?_;refine zD ?_;refine rg0 ?_;refine cF0 ?_;refine rg0 ?_;refine cK0 ?_;refine cT0 ?_;refine rg0 ?_;exact zI (rt1 @zGn.eq_1)
 ·refine rg0 ?_;refine zD ?_;refine rg0 ?_;refine zG ?_;refine zD ?_;refine rg0 ?_;refine cF0 ?_;refine rg0 ?_;refine cF0 ?_;refine rr0 ?_;refine cT0 ?_;refine rg0 ?_;exact zI (rt1 @zGn.eq_1)
 ·refine rg0 ?_;refine zD ?_;refine rg0 ?_;refine zG ?_;refine zD ?_;refine rg0 ?_;refine cF0 ?_;refine rg0 ?_;refine cF0 ?_;refine rr0 ?_;refine cF0 ?_;refine rg0 ?_;refine cT0 ?_;refine rg0 ?_;exact zI (rt1 @zGn.eq_1)
theorem zD9{p i:Nat}{nd:Bool}(h:if nd=true then p<i else p=0):FnA Tryz.prog 81 [.t 2 (.int .i64 p),.t 2 (.int .i64 i),.t 2 (.bool nd)] (.t 2 (.bool true)):=by
 refine fI 17 #[.tmp 6] Tryz.func81 rfl ?_
 cases nd with
 |true=>
  have h:p<i:=h;refine rg0 ?_;refine zD ?_;refine rg0 ?_;refine cT0 ?_;refine rg1 @h ?_;exact zI (rt1 @h)
 |false=>
  have h:p=0:=h;subst h;refine rg0 ?_;refine zD ?_;refine rg0 ?_;refine cS0 ?_;refine rg0 ?_;exact zI rt0
theorem zHu{L i:Nat}{nd:Nd}(h:zVV L i nd)(hL:L<=6):FnA Tryz.prog 39 [.agg [.t 2 (.int .i64 nd.1),.t 2 (.int .i64 nd.2.1),.t 2 (.int .i64 nd.2.2.1),.t 2 (.int .i64 nd.2.2.2)],.t 2 (.int .i64 i),.t 2 (.int .i64 L)] (.t 2 (.bool true)):=by
 obtain⟨op,l,a,b⟩:=nd;obtain⟨⟨h1,h8⟩,h3,hn,ha,han,hb,hbn⟩:=h;simp only at h1 h8 h3 hn ha han hb hbn;simp only;have hp:=zKP h1 h8;have hva:FnA Tryz.prog 81 [.t 2 (.int .i64 a),.t 2 (.int .i64 i),.t 2 (.bool (decide (1<=zGn op)))] (.t 2 (.bool true)):=zD9 (by
  by_cases c:5<=op
  ·have e:decide (1<=zGn op)=true:=by
    rcases(by omega:op=5\/op=6\/op=7\/op=8)with rfl|rfl|rfl|rfl<;>rfl
   rw[if_pos e];exact ha c
  ·have e:decide (1<=zGn op)=false:=by
    rcases(by omega:op=1\/op=2\/op=3\/op=4)with rfl|rfl|rfl|rfl<;>rfl
   rw[if_neg (by rw[e];simp)];exact han (by omega))
 have hvb:FnA Tryz.prog 81 [.t 2 (.int .i64 b),.t 2 (.int .i64 i),.t 2 (.bool (decide (zGn op=2)))] (.t 2 (.bool true)):=zD9 (by
  by_cases c:5<=op/\op<=7
  ·have e:decide (zGn op=2)=true:=by
    rcases(by omega:op=5\/op=6\/op=7)with rfl|rfl|rfl<;>rfl
   rw[if_pos e];exact hb c.1 c.2
  ·have e:decide (zGn op=2)=false:=by
    rcases(by omega:op=1\/op=2\/op=3\/op=4\/op=8)with rfl|rfl|rfl|rfl|rfl<;>rfl
   rw[if_neg (by rw[e];simp)];exact hbn (by omega))
 generalize zGn op=q at hp hva hvb;have e1:decide ((1:Int)<=(q:Int))=decide (1<=q):=by rw[decide_eq_decide];omega
 have e2:(((q:Nat):Int)==2)=decide (q=2):=by rw[Bool.eq_iff_iff];simp;omega
 have e3:decide (((q:Nat):Int)=2)=decide (q=2):=by rw[decide_eq_decide];omega
 have d1: ¬(op:Int)<1:=by omega
 have d2: ¬(8:Int)<(op:Int):=by omega
 refine fI 48 #[.tmp 6] Tryz.func39 rfl ?_;refine rg0 ?_;refine zD ?_;refine rg1 (an @d1 @d2) ?_;refine cS0 ?_;refine zD ?_;by_cases c3:op=3
 ·have hl:=h3 c3;have d3: ¬(l:Int)<0:=by omega
  have d4: ¬(L:Int)<=(l:Int):=by omega
  subst c3;refine rg0 ?_;refine cT0 ?_;refine rg1 (an @d3 @d4) ?_;refine cS0 ?_;generalize decide (1<=q)=b1 at*
  generalize decide (q=2)=b2 at*
  refine zo (by kernel_rfl) (fun K hK=>?_);simp
  (repeat' apply And.intro)
  all_goals (try omega)
  refine zV (caps:=[]) (hp) [] [] 2 rfl rfl rfl rfl (by kernel_rfl) (by simp) ?_ trivial trivial rfl trivial trivial (by simp) ?_
  ·simp[scal]
  simp[scal,e1]
  (repeat' apply And.intro)
  all_goals (try omega)
  refine zV (caps:=[]) (hva) [] [] 2 rfl rfl rfl rfl (by kernel_rfl) (by simp) ?_ trivial trivial rfl trivial trivial (by simp) ?_
  ·simp[scal]
  simp[scal]
  (repeat' apply And.intro)
  all_goals (try omega)
  refine zV (caps:=[]) (hp) [] [] 2 (by simp) rfl rfl rfl (by kernel_rfl) (by simp) ?_ trivial trivial rfl trivial trivial (by simp) ?_
  ·simp[scal]
  simp[scal,e2]
  (repeat' apply And.intro)
  all_goals (try omega)
  refine zV (caps:=[]) (hvb) [] [] 2 (by simp) rfl rfl rfl (by kernel_rfl) (by simp) ?_ trivial trivial rfl trivial trivial (by simp) ?_
  ·simp[scal]
  simp[scal]
  (repeat' first|apply hK|apply And.intro)<;>try first|(show zAf _ _=true;kernel_rfl)|(show okH _ _ _=true;kernel_rfl)|omega|rfl|(simp<;>omega)
  exact zI rt0
 ·have hl:=hn c3;subst hl;have c3i: ¬(op:Int)=3:=by omega
  have c3b:((op:Int)==3)=false:=by simpa using c3i
  refine rg1 (an @c3i @c3b) ?_;refine cF1 @c3i ?_;refine rg0 ?_;refine cS0 ?_;generalize decide (1<=q)=b1 at*
  generalize decide (q=2)=b2 at*
  refine zo (by kernel_rfl) (fun K hK=>?_);simp
  (repeat' apply And.intro)
  all_goals (try omega)
  refine zV (caps:=[]) (hp) [] [] 2 rfl rfl rfl rfl (by kernel_rfl) (by simp) ?_ trivial trivial rfl trivial trivial (by simp) ?_
  ·simp[scal]
  simp[scal,e1]
  (repeat' apply And.intro)
  all_goals (try omega)
  refine zV (caps:=[]) (hva) [] [] 2 rfl rfl rfl rfl (by kernel_rfl) (by simp) ?_ trivial trivial rfl trivial trivial (by simp) ?_
  ·simp[scal]
  simp[scal]
  (repeat' apply And.intro)
  all_goals (try omega)
  refine zV (caps:=[]) (hp) [] [] 2 (by simp) rfl rfl rfl (by kernel_rfl) (by simp) ?_ trivial trivial rfl trivial trivial (by simp) ?_
  ·simp[scal]
  simp[scal,e2]
  (repeat' apply And.intro)
  all_goals (try omega)
  refine zV (caps:=[]) (hvb) [] [] 2 (by simp) rfl rfl rfl (by kernel_rfl) (by simp) ?_ trivial trivial rfl trivial trivial (by simp) ?_
  ·simp[scal]
  simp[scal]
  (repeat' first|apply hK|apply And.intro)<;>try first|(show zAf _ _=true;kernel_rfl)|(show okH _ _ _=true;kernel_rfl)|omega|rfl|(simp<;>omega)
  exact zI rt0
theorem GV.le{L M:Nat}{ns:List Nd}(h:GV L ns)(hm:L<=M):GV M ns:=fun i nd hi=>by
 have:=h i nd hi;exact⟨this.op,fun e=>by have:=this.l3 e;omega,this.ln,this.a5,this.an,this.b5,this.bn⟩
def grO(p:Nat)(ns:List Nd)(root:Nat):AObj:=.box 33 [.t p (.sl 4 (zCR ns)),.t 2 (.int .i64 (root:Nat))]
theorem zGY{L root:Nat}{ns:List Nd}(h:GV L ns)(hL1:1<=L)(hL:L<=6)(hr:root<ns.length)(hn:ns.length<=20000):FnA Tryz.prog 14 [zHE 0 ns root,.t 2 (.int .i64 L)] (.t 2 (.int .i64 0)):=by
 have hdv:=zGy ns;have d1: ¬(L:Int)<1:=by omega
 have d2: ¬(6:Int)<(L:Int):=by omega
 have d3: ¬(20000:Int)<(ns.length:Int):=by omega
 have d4: ¬(root:Int)<0:=by omega
 have d5: ¬(ns.length:Int)<=(root:Int):=by omega
 refine fI 42 #[.tmp 4] Tryz.func14 rfl ?_;refine rg1 @zHE.eq_1 ?_;refine zD ?_;refine rg1 (an @d1 @d2) ?_;refine cS0 ?_;refine zD ?_;refine rg1 (an @hdv @d3) ?_;refine cS0 ?_;refine zD ?_;refine rg1 @hdv ?_;refine zG ?_;refine awp_loop (fun i:Nat=>mkS [(1,.t 2 (.int .i64 L)),(2,.ptr 0 0 2),(18,.t 0 (.sl 4 (zCR ns))),(19,.t 2 (.int .i64 ns.length)),(20,.t 2 (.int .i64 i))] [(0,grO 0 ns root)] 1 42 [.any,.any]) (fun i=>i<=ns.length) (fun i=>ns.length-i) ?_ ?_
 ·refine⟨0,by omega,?_⟩;exact kw1 [(0,some 0)] @grO.eq_1
 intro i hi;refine rg0 ?_;refine zD ?_;by_cases hlt:i<ns.length
 ·obtain⟨nd,hnd⟩: ∃nd,ns[i]? =some nd:=⟨_,Qj hlt⟩;have hat:=zOB hnd;have hin:i*4+4<=ns.length*4:=by omega
  have hv:=zHu (h i nd hnd) hL;refine cK1 @hlt ?_;refine zD ?_;refine zG ?_;refine rg1 (an @hat (an @hin @ndC.eq_1)) ?_;refine rc0 hv ?_;refine cY0 ?_;refine rr0 ?_;refine⟨i+1,by omega,by omega,?_⟩;exact kw1 [(0,some 0)] @grO.eq_1
 ·obtain rfl:i=ns.length:=by omega
  refine cF0 ?_;refine zK ?_;refine zD ?_;refine rg1 (an @grO.eq_1 (an @hdv (an @d4 @d5))) ?_;refine cS0 ?_;refine rg0 ?_;exact zI (rt1 @zHE.eq_1)
structure RcI(ns:List Nd)(root i:Nat)(ms:List Bool):Prop where
 len:ms.length=ns.length
 rt:ms.getD root false=true
 cl: ∀(j:Nat) nd,i<=j->ns[j]? =some nd->ms.getD j false=true->(5<=nd.1->ms.getD nd.2.2.1 false=true)/\(5<=nd.1->nd.1<=7->ms.getD nd.2.2.2 false=true)
theorem zA1{ms:List Bool}{i j:Nat}(h:i<ms.length):(ms.set i true).getD j false=if j=i then true else ms.getD j false:=by
 by_cases c:j=i
 ·subst c;rw[if_pos rfl,Qv,List.getElem?_set_self h];rfl
 ·rw[if_neg c,Qv,List.getElem?_set_ne (Ne.symm c),←Qv]
theorem RcI.start{ns:List Nd}{root:Nat}(hr:root<ns.length):RcI ns root (root+1) ((List.replicate ns.length false).set root true):=⟨by simp,by rw[zA1 (by simpa using hr),if_pos rfl],fun j nd hj hn hm=>by
 rw[zA1 (by simpa using hr),if_neg (by omega),Qv,List.getElem?_replicate]at hm;exfalso;split at hm<;>simp at hm⟩
theorem RcI.old{ns:List Nd}{root i:Nat}{ms:List Bool}(h:RcI ns root (i+1) ms)(hm:ms.getD i false=false):RcI ns root i ms:=⟨h.len,h.rt,fun j nd hj hn hj2=>by
 by_cases c:j=i
 ·subst c;rw[hm]at hj2;cases hj2
 ·exact h.cl j nd (by omega) hn hj2⟩
theorem RcI.mark{ns:List Nd}{root i a:Nat}{ms:List Bool}(h:RcI ns root (i+1) ms)(ha:a<i)(hi:i<ns.length):RcI ns root (i+1) (ms.set a true)/\(ms.set a true).getD i false=ms.getD i false/\(ms.set a true).getD a false=true:=by
 have hl:a<ms.length:=by rw[h.len];omega
 refine⟨⟨by simp[h.len],by rw[zA1 hl];split<;>first|rfl|exact h.rt,fun j nd hj hn hm=>?_⟩,by rw[zA1 hl,if_neg (by omega)],by rw[zA1 hl,if_pos rfl]⟩;rw[zA1 hl,if_neg (by omega)]at hm;obtain⟨h1,h2⟩:=h.cl j nd hj hn hm;exact⟨fun e=>by rw[zA1 hl];split<;>first|rfl|exact h1 e,fun e e2=>by rw[zA1 hl];split<;>first|rfl|exact h2 e e2⟩
theorem RcI.next{ns:List Nd}{root i:Nat}{ms:List Bool}{nd:Nd}(h:RcI ns root (i+1) ms)(hn:ns[i]? =some nd)(h1:5<=nd.1->ms.getD nd.2.2.1 false=true)(h2:5<=nd.1->nd.1<=7->ms.getD nd.2.2.2 false=true):RcI ns root i ms:=⟨h.len,h.rt,fun j nd' hj hn' hm=>by
 by_cases c:j=i
 ·subst c;rw[hn]at hn';injection hn' with hn';subst hn';exact⟨h1,h2⟩
 ·exact h.cl j nd' (by omega) hn' hm⟩
theorem zLw{L root:Nat}{ns:List Nd}(h:GV L ns)(hr:root<ns.length)(hn:ns.length<=20000): ∃res,(∃ms,RcI ns root 0 ms/\res= .t 2 (zH ms))/\FnA Tryz.prog 44 [zHE 0 ns root] res:=by
 have hdv:=zGy ns;refine zm Tryz.func44 rfl (by simp[Tryz.f44]) ?_;rw[show Tryz.f44.ntmps=47 from rfl,show Tryz.f44.results= #[.tmp 2]from rfl];refine zO fun K hK=>?_
 simp(maxSteps:=2000000)(disch:=omega)[zHE];and_intros<;>try first|apply hK|omega|rfl|simp<;>omega
 refine zO fun K hK=>?_
 simp(maxSteps:=2000000)(disch:=omega)[hdv];and_intros<;>try first|apply hK|omega|rfl|simp<;>omega
 refine zO fun K hK=>?_
 simp(maxSteps:=2000000)(disch:=omega)[hr];and_intros<;>try first|apply hK|omega|rfl|simp<;>omega
 refine zD ?_;refine zO fun K hK=>?_
 simp(maxSteps:=2000000)(disch:=omega);and_intros<;>try first|apply hK|omega|rfl|simp<;>omega
 refine zG ?_;refine awp_loop (fun y:Nat×List Bool=>mkS [(1,.ptr 0 0 2),(3,.own 1 ns.length),(4,.t 2 (.int .i64 ((y.1:Int)-1)))] [(0,grO 0 ns root),(1,.row 4 1 2 (y.2.map .bool))] 2 47 [.any]) (fun y=>y.1<=root+1/\RcI ns root y.1 y.2) (fun y=>y.1) ?_ ?_
 ·refine⟨(root+1,(List.replicate ns.length false).set root true),⟨by simp,RcI.start hr⟩,?_⟩;refine zP [(0,some 0),(1,some 5000000)] rfl ?_ ?_ ?_ ?_
  all_goals try simp[grO]
  all_goals (trace_state;sorry)
 rintro⟨i,ms⟩ ⟨hi,hI⟩;simp only at hi hI;have hml:=hI.len;refine zD ?_
 cases i with
 |zero=>
  refine zO fun K hK=>?_
  simp(maxSteps:=2000000)(disch:=omega);and_intros<;>try first|apply hK|omega|rfl|simp<;>omega
  refine zu (b:=false) (p:=2) (by simp<;>omega) ?_;refine zK ?_;refine zO fun K hK=>?_
  simp(maxSteps:=2000000)(disch:=omega);and_intros<;>try first|apply hK|omega|rfl|simp<;>omega
  refine zI ?_;refine⟨_,⟨ms,hI,rfl⟩,?_⟩;refine⟨⟨.inr rfl,_,[],rfl,trivial,trivial,by simp,?_⟩,by simp[zHE]⟩;simp[zH,hml]
 |succ i=>
  obtain⟨nd,hnd⟩: ∃nd,ns[i]? =some nd:=⟨_,Qj (by omega)⟩;have hiN:i<ns.length:=by omega
  have him:i<ms.length:=by omega
  have hsub:(((i+1:Nat):Int)-1)=(i:Int):=by omega
  have hge:(0:Int)<=(i:Int):=by omega
  refine zd (σ':=mkS [(1,.ptr 0 0 2),(3,.own 1 ns.length),(4,.t 2 (.int .i64 (i:Nat)))] [(0,grO 0 ns root),(1,.row 4 1 2 (ms.map .bool))] 2 47 [.any]) ?_ ?_
  ·refine zP [(0,some 0),(1,some 1)] rfl ?_ ?_ ?_ ?_
   all_goals try simp[grO]
  refine zO fun K hK=>?_
  simp(maxSteps:=2000000)(disch:=omega)[hge];and_intros<;>try first|apply hK|omega|rfl|simp<;>omega
  refine zu (b:=true) (p:=2) (by simp<;>omega) ?_;refine zY ?_;refine zD ?_;refine zG ?_;refine zD ?_;have hmg:ms.getD i false=ms[i]:=by rw[Qv,Qj him];rfl
  obtain⟨mb,hmb⟩: ∃mb,mb=ms.getD i false:=⟨_,rfl⟩;have hmh: ∀hh,ms[i]'hh=mb:=fun hh=>by rw[hmb,hmg]
  clear hmg
  cases mb with
  |false=>
   refine zO fun K hK=>?_
   simp(maxSteps:=2000000)(disch:=omega)[hmh,hml,hiN];and_intros<;>try first|apply hK|omega|rfl|simp<;>omega
   refine zu (b:=true) (p:=2) (by simp<;>omega) ?_;refine zK ?_;refine zAE fun K hK=>?_
   simp(maxSteps:=2000000)(disch:=omega)[zBh]
   (repeat' first|apply hK|apply And.intro)<;>try first|omega|rfl|(simp<;>omega)
   refine⟨(i,ms),⟨by simp only;omega,hI.old hmb.symm⟩,by simp only;omega,?_⟩;refine zP [(0,some 0),(1,some 1)] rfl ?_ ?_ ?_ ?_
   all_goals try simp[grO]
  |true=>
   have hat:=zOB hnd;have hin:i*4+4<=ns.length*4:=by omega
   have hok:=h i nd hnd;obtain⟨op,l,a,b⟩:=nd;have h1:=hok.op.1;have h8:=hok.op.2;simp only at h1 h8;have hp:=zKP h1 h8;refine zO fun K hK=>?_
   simp(maxSteps:=2000000)(disch:=omega)[hmh,hml,hiN];and_intros<;>try first|apply hK|omega|rfl|simp<;>omega
   refine zu (b:=false) (p:=2) (by simp<;>omega) ?_;refine zY ?_;refine zO fun K hK=>?_
   simp(maxSteps:=2000000)(disch:=omega)[grO,hat,hin,ndC];and_intros<;>try first|apply hK|omega|rfl|simp<;>omega
   refine zD ?_;rcases(by omega:op<=4\/op=8\/(5<=op/\op<=7))with c|c|c
   ·have hq:zGn op=0:=by rcases(by omega:op=1\/op=2\/op=3\/op=4)with rfl|rfl|rfl|rfl<;>rfl
    rw[hq]at hp;refine zO fun K hK=>?_
    simp(maxSteps:=2000000)(disch:=omega)
    (repeat' apply And.intro)
    all_goals (try omega)
    refine zJ (caps:=[]) (hp) [] [] 2 rfl rfl rfl rfl (by kernel_rfl) (by simp) ?_ trivial trivial rfl trivial trivial (by simp) ?_
    ·simp[scal]
    simp(maxSteps:=2000000)(disch:=omega)[scal];and_intros<;>try first|apply hK|omega|rfl|simp<;>omega
    refine zu (b:=false) (p:=2) (by simp<;>omega) ?_;refine zY ?_;refine zO fun K hK=>?_
    simp(maxSteps:=2000000)(disch:=omega)
    (repeat' apply And.intro)
    all_goals (try omega)
    refine zJ (caps:=[]) (hp) [] [] 2 rfl rfl rfl rfl (by kernel_rfl) (by simp) ?_ trivial trivial rfl trivial trivial (by simp) ?_
    ·simp[scal]
    simp(maxSteps:=2000000)(disch:=omega)[scal];and_intros<;>try first|apply hK|omega|rfl|simp<;>omega
    refine zu (b:=false) (p:=2) (by simp<;>omega) ?_;refine zY ?_;refine zAE fun K hK=>?_
    simp(maxSteps:=2000000)(disch:=omega)[zBh]
    (repeat' first|apply hK|apply And.intro)<;>try first|omega|rfl|(simp<;>omega)
    refine⟨(i,ms),⟨by simp only;omega,hI.next hnd (fun e=>by simp only at e;omega) (fun e=>by simp only at e;omega)⟩,by simp only;omega,?_⟩;refine zP [(0,some 0),(1,some 1)] rfl ?_ ?_ ?_ ?_
    all_goals try simp[grO]
   ·have hq:zGn op=1:=by subst c;rfl
    have ha:=hok.a5 (by simp only;omega);simp only at ha;have hal:a<ms.length:=by omega
    obtain⟨m1,m2,m3⟩:=hI.mark ha hiN;rw[hq]at hp;refine zO fun K hK=>?_
    simp(maxSteps:=2000000)(disch:=omega)
    (repeat' apply And.intro)
    all_goals (try omega)
    refine zJ (caps:=[]) (hp) [] [] 2 rfl rfl rfl rfl (by kernel_rfl) (by simp) ?_ trivial trivial rfl trivial trivial (by simp) ?_
    ·simp[scal]
    simp(maxSteps:=2000000)(disch:=omega)[scal];and_intros<;>try first|apply hK|omega|rfl|simp<;>omega
    refine zu (b:=true) (p:=2) (by simp<;>omega) ?_;refine zAE fun K hK=>?_
    simp(maxSteps:=2000000)(disch:=omega)[hml];and_intros<;>try first|apply hK|omega|rfl|simp<;>omega
    refine zO fun K hK=>?_
    simp(maxSteps:=2000000)(disch:=omega)
    (repeat' apply And.intro)
    all_goals (try omega)
    refine zJ (caps:=[]) (hp) [] [] 2 rfl rfl rfl rfl (by kernel_rfl) (by simp) ?_ trivial trivial rfl trivial trivial (by simp) ?_
    ·simp[scal]
    simp(maxSteps:=2000000)(disch:=omega)[scal];and_intros<;>try first|apply hK|omega|rfl|simp<;>omega
    refine zu (b:=false) (p:=2) (by simp<;>omega) ?_;refine zY ?_;refine zAE fun K hK=>?_
    simp(maxSteps:=2000000)(disch:=omega)[zBh]
    (repeat' first|apply hK|apply And.intro)<;>try first|omega|rfl|(simp<;>omega)
    refine⟨(i,ms.set a true),⟨by simp only;omega,m1.next hnd (fun _=>m3) (fun _ e=>by simp only at e;omega)⟩,by simp only;omega,?_⟩;refine zP [(0,some 0),(1,some 1)] rfl ?_ ?_ ?_ ?_
    all_goals try simp[grO,List.map_set]
   ·have hq:zGn op=2:=by rcases(by omega:op=5\/op=6\/op=7)with rfl|rfl|rfl<;>rfl
    have ha:=hok.a5 (by simp only;omega);have hb:=hok.b5 (by simp only;omega) (by simp only;omega);simp only at ha hb;have hal:a<ms.length:=by omega
    have hbl:b<ms.length:=by omega
    obtain⟨m1,m2,m3⟩:=hI.mark ha hiN;obtain⟨p1,p2,p3⟩:=m1.mark hb hiN;have m4:((ms.set a true).set b true).getD a false=true:=by
     rw[zA1 (by simpa using hbl)];split
     ·rfl
     ·exact m3
    rw[hq]at hp;refine zO fun K hK=>?_
    simp(maxSteps:=2000000)(disch:=omega)
    (repeat' apply And.intro)
    all_goals (try omega)
    refine zJ (caps:=[]) (hp) [] [] 2 rfl rfl rfl rfl (by kernel_rfl) (by simp) ?_ trivial trivial rfl trivial trivial (by simp) ?_
    ·simp[scal]
    simp(maxSteps:=2000000)(disch:=omega)[scal];and_intros<;>try first|apply hK|omega|rfl|simp<;>omega
    refine zu (b:=true) (p:=2) (by simp<;>omega) ?_;refine zAE fun K hK=>?_
    simp(maxSteps:=2000000)(disch:=omega)[hml];and_intros<;>try first|apply hK|omega|rfl|simp<;>omega
    refine zO fun K hK=>?_
    simp(maxSteps:=2000000)(disch:=omega)
    (repeat' apply And.intro)
    all_goals (try omega)
    refine zJ (caps:=[]) (hp) [] [] 2 rfl rfl rfl rfl (by kernel_rfl) (by simp) ?_ trivial trivial rfl trivial trivial (by simp) ?_
    ·simp[scal]
    simp(maxSteps:=2000000)(disch:=omega)[scal];and_intros<;>try first|apply hK|omega|rfl|simp<;>omega
    refine zu (b:=true) (p:=2) (by simp<;>omega) ?_;refine zAE fun K hK=>?_
    simp(maxSteps:=2000000)(disch:=omega)[hml];and_intros<;>try first|apply hK|omega|rfl|simp<;>omega
    refine zAE fun K hK=>?_
    simp(maxSteps:=2000000)(disch:=omega)[zBh]
    (repeat' first|apply hK|apply And.intro)<;>try first|omega|rfl|(simp<;>omega)
    refine⟨(i,(ms.set a true).set b true),⟨by simp only;omega,p1.next hnd (fun _=>m4) (fun _ _=>p3)⟩,by simp only;omega,?_⟩;refine zP [(0,some 0),(1,some 1)] rfl ?_ ?_ ?_ ?_
    all_goals try simp[grO,List.map_set]
def zIw(ns:List Nd)(ms:List Bool)(w:List Nat)(i:Nat):List T:=tab ns.length fun j=>if j<i/\ms.getD j false=true then .sl 2 (zAY (zDn (zBq ns j) w))else .sl 0 []
theorem zQ4(ns:List Nd)(ms:List Bool)(w:List Nat)(i:Nat):(zIw ns ms w i).length=ns.length:=by simp[zIw]
theorem zNb(ns:List Nd)(ms:List Bool)(w:List Nat):zIw ns ms w 0=List.replicate ns.length (.sl 0 []):=by
 unfold zIw;rw[zr];refine zT fun j _=>?_
 rw[if_neg (by omega)]
theorem zQy{ns:List Nd}{ms:List Bool}{w:List Nat}{i:Nat}(hm:ms.getD i false=true):(zIw ns ms w i).set i (.sl 2 (zAY (zDn (zBq ns i) w)))=zIw ns ms w (i+1):=by
 unfold zIw;rw[zg];refine zT fun j _=>?_
 by_cases c:j=i
 ·subst c;rw[if_pos rfl,if_pos ⟨by omega,hm⟩]
 ·rw[if_neg c];by_cases d:j<i/\ms.getD j false=true
  ·rw[if_pos d,if_pos ⟨by omega,d.2⟩]
  ·rw[if_neg d,if_neg (fun g=>d ⟨by omega,g.2⟩)]
theorem zOQ{ns:List Nd}{ms:List Bool}{w:List Nat}{i:Nat}(hm:ms.getD i false=false):zIw ns ms w (i+1)=zIw ns ms w i:=by
 unfold zIw;refine zT fun j _=>?_
 by_cases c:j=i
 ·subst c;rw[hm,if_neg (by simp),if_neg (by simp)]
 ·by_cases d:j<i/\ms.getD j false=true
  ·rw[if_pos d,if_pos ⟨by omega,d.2⟩]
  ·rw[if_neg d,if_neg (fun g=>d ⟨by omega,g.2⟩)]
theorem zJI{ns:List Nd}{ms:List Bool}{w:List Nat}{i j:Nat}(hj:j<ns.length)(h:j<i)(hm:ms.getD j false=true):(zIw ns ms w i)[j]? =some (.sl 2 (zAY (zDn (zBq ns j) w))):=by
 unfold zIw;rw[zX _ hj,if_pos ⟨h,hm⟩]
theorem zKH{L root:Nat}{ns:List Nd}{w:List Nat}(h:GV L ns)(hL:L<=6)(hr:root<ns.length)(hn:ns.length<=20000)(hw: ∀x∈w,x<6)(hl:w.length<=50):FnA Tryz.prog 20 [zHE 0 ns root,.t 2 (.str (zAU w))] (.t 2 (.bool (zBq ns root w))):=by
 have hdv:=zGy ns;have hval:=zGY (h.le hL) (by omega) (Qy 6) hr hn;have hwv:=zH4 hw (by omega) (Qy 6) (by omega);obtain⟨_,⟨ms,hI,rfl⟩,hrc⟩:=zLw h hr hn;have hml:=hI.len;have d1: ¬(64:Int)<(w.length:Int):=by omega
 refine fI 56 #[.tmp 4] Tryz.func20 rfl ?_;refine rg1 @zHE.eq_1 ?_;refine zD ?_;refine zO fun K hK=>?_
 simp(maxSteps:=2000000)(disch:=omega)
 (repeat' apply And.intro)
 all_goals (try omega)
 refine zJ (caps:=[]) (hval) [] [] 2 rfl rfl rfl rfl (by kernel_rfl) (by simp) ?_ trivial trivial rfl trivial trivial (by simp) ?_
 ·simp[scal,zHE]
 simp(maxSteps:=2000000)(disch:=omega)[scal]
 (repeat' apply And.intro)
 all_goals (try omega)
 refine zJ (caps:=[]) (hwv) [] [] 2 (by simp) rfl rfl rfl (by kernel_rfl) (by simp) ?_ trivial trivial rfl trivial trivial (by simp) ?_
 ·simp[scal]
 simp(maxSteps:=2000000)(disch:=omega)[scal,d1]
 (repeat' first|apply hK|apply And.intro)<;>try first|omega|rfl|(simp<;>omega)
 refine cS0 ?_;refine rg1 @hdv ?_;refine zD ?_;refine rc1 hrc (an @zHE.eq_1 (an @zH.eq_1 @hml)) ?_;refine zG ?_;refine awp_loop (fun i:Nat=>mkS [(1,.t 2 (.str (zAU w))),(2,.ptr 0 0 2),(5,.own 1 ns.length),(26,.t 2 (zH ms)),(27,.t 2 (.int .i64 ns.length)),(28,.t 2 (.int .i64 i))] [(0,grO 0 ns root),(1,.row 86 1 1 (zIw ns ms w i))] 2 56 [.any,.any]) (fun i=>i<=ns.length) (fun i=>ns.length-i) ?_ ?_
 ·refine⟨0,by omega,?_⟩;rw[zNb];refine zP [(0,some 0),(1,some 18000000)] rfl ?_ ?_ ?_ ?_
  all_goals try simp[grO,zH,zr]
  all_goals (trace_state;sorry)
 intro i hi;have hal:=zQ4 ns ms w i;refine rg0 ?_;refine zD ?_;by_cases hlt:i<ns.length
 ·obtain⟨nd,hnd⟩: ∃nd,ns[i]? =some nd:=⟨_,Qj hlt⟩;have him:i<ms.length:=by omega
  obtain⟨mb,hmb⟩: ∃mb,mb=ms.getD i false:=⟨_,rfl⟩;have hmh: ∀hh,ms[i]'hh=mb:=fun hh=>by rw[hmb,Qv,Qj hh];rfl
  refine cK1 @hlt ?_;refine zD ?_;refine zG ?_;refine rg1 (an @zH.eq_1 (an @him @hmh)) ?_
  cases mb with
  |true=>
   have hat:=zOB hnd;have hin:i*4+4<=ns.length*4:=by omega
   have hok:=h i nd hnd;obtain⟨c1,c2⟩:=hI.cl i nd (by omega) hnd hmb.symm;have hsem:=zMQ h hnd;obtain⟨op,l,a,b⟩:=nd;simp only at c1 c2;have hev:=zTB (op:=op) (l:=l) (a:=a) (b:=b) (tcs:=zIw ns ms w i) (f:=zBq ns) hw hl hok.op.1 hok.op.2 (by
    by_cases c:op=3
    ·have:=hok.l3 c;simp only at this;omega
    ·have:=hok.ln c;simp only at this;omega) (by omega)
    (fun e=>by have:=hok.a5 e;simp only at this;exact zJI (by omega) this (c1 e))
    (fun e e2=>by have:=hok.b5 e e2;simp only at this;exact zJI (by omega) this (c2 e e2))
   rw[←hsem]at hev;have hset:=zQy (ns:=ns) (w:=w) hmb.symm;refine rg0 ?_;refine cT0 ?_;refine zAE fun K hK=>?_
   simp(maxSteps:=2000000)(disch:=omega)[grO,hat,hin,ndC,hlt]
   (repeat' apply And.intro)
   all_goals (try omega)
   refine zJ (caps:=[]) (hev) [] [] 2 rfl rfl rfl rfl (by kernel_rfl) (by simp) ?_ trivial trivial rfl trivial trivial (by simp) ?_
   ·simp[scal,hal]
   simp(maxSteps:=2000000)(disch:=omega)[scal,hal,hlt,hset];and_intros<;>try first|apply hK|omega|rfl|simp<;>omega
   refine rr0 ?_;refine⟨i+1,by omega,by omega,?_⟩;exact kw1 [(0,some 0),(1,some 1)] (an @grO.eq_1 @zH.eq_1)
  |false=>
   have hsk:=zOQ (ns:=ns) (w:=w) hmb.symm;refine rg0 ?_;refine cY0 ?_;refine rr0 ?_;refine⟨i+1,by omega,by omega,?_⟩;rw[hsk];exact kw1 [(0,some 0),(1,some 1)] (an @grO.eq_1 @zH.eq_1)
 ·obtain rfl:i=ns.length:=by omega
  obtain⟨hax,hae⟩:=Qq.1 (zJI (ms:=ms) (w:=w) hr hr hI.rt);have hag: ∀hh,(zIw ns ms w ns.length)[root]'hh= .sl 2 (zAY (zDn (zBq ns root) w)):=fun _=>hae
  have har:=zBp (zCV (zBq ns root) w (i:=0) (by omega));have har0:List.take 2 (zAY (zDn (zBq ns root) w))=[T.int .u64 (zB2 (zBq ns root) w 0:Nat),.int .u64 0]:=by simpa using har
  have hal2:(zAY (zDn (zBq ns root) w)).length=(w.length+1)*2:=by rw[zn,zDn,zq]
  have hq:=zNP (zNx (zBq ns root) hl 0) (i:=w.length) (by omega);have hb:(zB2 (zBq ns root) w 0).testBit w.length=zBq ns root w:=by
   rw[zAM,decide_eq_true (by omega),decide_eq_true (by omega),zSx];rfl
  rw[hb]at hq;generalize zB2 (zBq ns root) w 0=m at*
  refine cF0 ?_;refine zK ?_;refine rc1 hq (an @grO.eq_1 (an @hax (an @hag (an @har (an @har0 (an @hal2 (an @hal (an @hr @zBf.eq_1)))))))) ?_;exact zI (rt1 @zHE.eq_1)
structure SfX(L N:Nat)(tb:List (List Int))(im:List Int)(ac:List Bool)(ns:List Nd)(root:Nat)(of:List Nat):Prop where
 gv:GV L ns
 rt:root<ns.length
 bd:ns.length<=8*(N+2)*(N+2)*(L+1)*(L+1)
 n2:ns.length<=20000
 ol:of.length=N
 el: ∀x,x<N->Sm L ns (of.getD x 0) fun w=>vlW (zQ tb) (imN im) w=x
 ro:Sm L ns root fun w=>ac.getD (vlW (zQ tb) (imN im) w) false=true
theorem zUQ{L N:Nat}(hL:L=1\/L=2)(hN:N<=12):8*(N+2)*(N+2)*(L+1)*(L+1)<=20000:=by
 have h1:8*(N+2)*(N+2)<=8*14*14:=Nat.mul_le_mul (Nat.mul_le_mul (Qy 8) (by omega)) (by omega);have h2:8*(N+2)*(N+2)*(L+1)<=8*14*14*3:=Nat.mul_le_mul h1 (by omega);have h3:8*(N+2)*(N+2)*(L+1)*(L+1)<=8*14*14*3*3:=Nat.mul_le_mul h2 (by omega);omega
section
variable{L N:Nat}{tb:List (List Int)}{ws:List (List Nat)}{im:List Int}{ac pl:List Bool}
theorem zNt(h:zT1 L N tb ws im ac pl)(hL:L=1\/L=2)(hN:N<=12)(ha: ∀x,x<N->ApX (zQ tb) x)(hv:FnA Tryz.prog 27 [syV 0 L tb ws im ac pl] (.t 2 (.int .i64 0))):
  ∃ns root of,SfX L N tb im ac ns root of/\FnA Tryz.prog 9 [syV 1 L tb ws im ac pl] (.tup [zHE 1 ns root,.t 1 (ints (nI of)),.t 2 (.int .i64 0)]):=by
 have hM:=h.apM ha;have htl:=h.ht.len;have hil:=h.hS.il;have hap:=zKZ h.ht h.hA (by omega) hv;rw[zUf ha]at hap;have hof:=zM7 h.hS h.ht hM hN (by omega) (zUQ hL hN) hv hap;have hI:=zK2 (L:=L) (ws:=ws) (im:=im) (ac:=ac) (pl:=pl) h.ht hM;obtain⟨g1,g2,g3,g4⟩:=zTE (D:=zDN L tb ws im ac pl) (o:=zC4 tb N) (by show ApM tb.length (zQ tb);rw[htl];exact hM) (fun a ha=>by show imN im a<tb.length;rw[htl];exact(h.hS.img ha).2) (fun a ha=>by show im.getD a 0=(imN im a:Int);rw[Qv,(h.hS.img ha).1];rfl) hI;have hr:=zGW (zDN L tb ws im ac pl) (zC4 tb N) N;have e1:(zDN L tb ws im ac pl).tb.length=N:=htl;have e2:(zDN L tb ws im ac pl).im.length=L:=hil;rw[e2]at g1 g4;rw[e1,e2]at g2 g3;rw[e1]at hr;exact⟨_,_,_,⟨g1,g4.1,g2,Nat.le_trans g2 (zUQ hL hN),hr,g3,g4⟩,hof⟩
theorem zVA(h:zT1 L N tb ws im ac pl)(hn: ¬ ∀x,x<N->ApX (zQ tb) x)(hv:FnA Tryz.prog 27 [syV 0 L tb ws im ac pl] (.t 2 (.int .i64 0))):
  FnA Tryz.prog 9 [syV 1 L tb ws im ac pl] (.tup [zVX,.t 2 (.sl 0 []),.t 2 (.int .i64 20)]):=by
 have hap:=zKZ h.ht h.hA h.hS.n2 hv;have:apB N (zQ tb)=false:=by
  cases e:apB N (zQ tb)with
  |false=>rfl
  |true=>exact absurd (zJy.1 e) hn
 rw[this]at hap;exact zQt hv hap
end
theorem zO8:List.range 3=[0,1,2]:=rfl
theorem zR7:zAU [1,0,1]={ data:=#[98,97,98] }:=rfl
theorem zUo:zAU [1,0]={ data:=#[98,97] }:=rfl
theorem zUn{els:List (List Int)}{pre last:List Int}{wds:List (List Nat)}{right:List (List Int)}{r0:List Int}(h:SyX 2 3 kNx els pre last wds right r0): ∀x,x<els.length->ApX (zQ (zBO right wds els.length)) x:=fun x hx=>by
 have hg: ∀g∈tab 2 (lets 3 kNx),TrN 3 g:=(zEn.gn (by omega) (by omega) (by omega)).tr;have hin:els[x]∈zPZ:=by
  obtain⟨w,hw,hr⟩:=h.rp hx;unfold Rp at hr;rw[Qj hx]at hr;rw[Option.some.inj hr];exact zNs w hw
 have key: ∀e∈zPZ,zt (zt e e) e=zt e e:=by decide
 have e1:=h.pr.elm hg hx hx;obtain⟨h2,e2⟩:=Qq.1 e1;have e3:=h.pr.elm hg h2 hx;rw[e2,key _ hin]at e3;exact⟨1,h.pr.en.nd _ _ _ e3 e1⟩
theorem zLc:FnA Tryz.prog 13 [] (.t 2 (.bool true)):=by
 obtain⟨_,⟨m,bs',nx',hX,hr⟩,hof⟩:=zG0 zEn (by omega) (by omega) (by omega) (fun m bs' nx' hX=>by have:=hX.le;omega);obtain⟨rfl,rfl,rfl⟩:=hX.mn.eq (by omega) zRZ.mn fun w hw=>by rw[hX.zMu w hw,zRZ.zMu w hw]
 rcases hr with⟨-,hbad⟩|⟨els,pre,last,wds,right,r0,hS,rfl⟩
 ·exact absurd hbad (zN2 ((zEn.gn (by omega) (by omega) (by omega)).tr) (by omega))
 have hg: ∀g∈tab 2 (lets 3 kNx),TrN 3 g:=(zEn.gn (by omega) (by omega) (by omega)).tr;have h5:=zQC hS;have hMD:=hS.zWv zPC (.inr rfl);have hv:=zEH hS zPC (by omega) (by omega);rw[zF5]at hv;obtain⟨ns,root,of,hSf,hofs⟩:=zNt hMD (.inr rfl) (by omega) (zUn hS) hv;rw[zF5]at hof;have acc: ∀w:List Nat,(∀a∈w,a<2)->zBq ns root w=zB3 kBs kNx 0 w:=fun w hw=>by
  have h1:zBq ns root w=true↔(els.map (zFA kBs)).getD (vlW (zQ (zBO right wds els.length)) (imN r0) w) false=true:=hSf.ro.2 w hw;have h2:=hS.zMu zEn hg hw;have h3:=hS.zW8 zEn hg hw;rw[h3]at h1;have h4:(els.map (zFA kBs)).getD (zj right 0 w) false=zB3 kBs kNx 0 w:=h2;rw[h4]at h1;exact Bool.eq_iff_iff.2 h1
 have a1:zBq ns root [1,0,1]=true:=by rw[acc [1,0,1] (by decide)];decide
 have a2:zBq ns root [1,0]=false:=by rw[acc [1,0] (by decide)];decide
 have c1:=zKH (w:=[1,0,1]) hSf.gv (by omega) hSf.rt hSf.n2 (by decide) (by decide);have c2:=zKH (w:=[1,0]) hSf.gv (by omega) hSf.rt hSf.n2 (by decide) (by decide);rw[a1,zR7]at c1;rw[a2,zUo]at c2;have htl:=hMD.ht.len;have hol:=hSf.ol;generalize zBO right wds els.length=tb at*
 generalize psB els.length (right.any fun r=>decide ((0:Int)∈r))=pl at*
 generalize els.map (zFA kBs)=ac at*
 rw[h5]at htl hol;refine fI 48 #[.tmp 0] Tryz.func13 rfl ?_;refine rg0 ?_;refine zNf 6 fun K hK=>?_
 simp(maxSteps:=2000000)(disch:=omega)
 (repeat' first|apply hK|apply And.intro)<;>try first|omega|rfl|(simp<;>omega)
 refine⟨mkS [(0,.t 2 (.bool false)),(12,.agg [.t 2 (.int .i64 2),.t 2 (.int .i64 0),.t 2 (zH [false,false,true]),.t 2 (rows [[1,0],[1,2],[2,2]])])] [] 0 48 [],?_,fun K hK=>?_⟩
 ·refine zP [] rfl ?_ ?_ ?_ ?_
  all_goals try simp[ints,rows,ints,zH,zMl,zP7,wk1,zO8]
 simp(maxSteps:=2000000)(disch:=omega)[ints,rows]
 (repeat' apply And.intro)
 all_goals (try omega)
 refine zJ (caps:=[]) (hof) [] [] 2 rfl rfl rfl rfl (by kernel_rfl) (by simp) ?_ trivial trivial rfl trivial trivial (by simp) ?_
 ·simp[scal,rows,ints,dfT,zH,kBs,kNx]
 simp(maxSteps:=2000000)(disch:=omega)[ints,rows,scal,syV,zH]
 (repeat' first|apply hK|apply And.intro)<;>try first|omega|rfl|(simp<;>omega)
 refine rc1 hofs (an @syV.eq_1 (an @zH.eq_1 @zHE.eq_1)) ?_;refine zO fun K hK=>?_
 simp(maxSteps:=2000000)(disch:=omega)[htl,hol]
 (repeat' apply And.intro)
 all_goals (try omega)
 refine zJ (caps:=[]) (c1) [] [] 2 (by simp) rfl rfl rfl (by kernel_rfl) (by simp) ?_ trivial trivial rfl trivial trivial (by simp) ?_
 ·simp[scal,zHE]
 simp(maxSteps:=2000000)(disch:=omega)[scal]
 (repeat' apply And.intro)
 all_goals (try omega)
 refine zJ (caps:=[]) (c2) [] [] 2 (by simp) rfl rfl rfl (by kernel_rfl) (by simp) ?_ trivial trivial rfl trivial trivial (by simp) ?_
 ·simp[scal,zHE]
 simp(maxSteps:=2000000)(disch:=omega)[scal]
 (repeat' first|apply hK|apply And.intro)<;>try first|omega|rfl|(simp<;>omega)
 exact zI rt0
structure zXH(most L N:Nat)(tb:List (List Int))(ws:List (List Nat))(im:List Int)(ac pl:List Bool):Prop where
 hL:L=1\/L=2
 hMD:zT1 L N tb ws im ac pl
 hv:FnA Tryz.prog 27 [syV 0 L tb ws im ac pl] (.t 2 (.int .i64 0))
 wo:zW6 ws
 n15:N<=most\/N<=15
 few:(∀x,x<N->ApX (zQ tb) x)->N<=most\/N<=4
