/- Lemmas for the law unambiguousClass. No conditions. -/
import Derived.Test.YtgmcbpjplcjmdaaGreatZuax
set_option linter.all false
namespace Go.Proofs.YtgmcbpjplcjmdaaGreat.M
open Go.RowKit
set_option maxRecDepth 100000
set_option maxHeartbeats 32000000

def f4(a b c d x:Fin 4):Fin 4:=if x=0 then a else if x=1 then b else if x=2 then c else d
section
variable{L m:Nat}{bs:List Bool}{nx els:List (List Int)}{pre last:List Int}{wds:List (List Nat)}{right:List (List Int)}{r0:List Int}
theorem SyX.one(h:SyX L m nx els pre last wds right r0)(hg: ∀g∈tab L (lets m nx),TrN m g): ∀x,x<els.length->zP (zBq right wds els.length) 0 x=x/\zP (zBq right wds els.length) x 0=x:=fun x hx=>by
 have h0:=h.pos;obtain⟨_,_,t1,_⟩:=h.pr.wl' hx;have e0:els[0]=idL m:=by have:=h.pr.en.one.1;rw[Qj h0]at this;exact Option.some.inj this
 have e1:=h.pr.elm hg h0 hx;have e2:=h.pr.elm hg hx h0;rw[e0]at e1 e2;rw[zAz t1]at e1;rw[zHs t1]at e2;exact⟨h.pr.en.nd _ x _ e1 (Qj hx),h.pr.en.nd _ x _ e2 (Qj hx)⟩
end
theorem zPT{xss:List (List Int)}{f:List Int}(h:f∈xss): ∃k:Nat,zL1 xss f=(k:Int)/\xss[k]? =some f:=by
 unfold zL1
 cases e:xss.findIdx? (fun x=>decide (x=f))with
 |none=>
  rw[List.findIdx?_eq_none_iff]at e;have:=e f h;simp at this
 |some i=>
  rw[List.findIdx?_eq_some_iff_getElem]at e;obtain⟨h1,h2,-⟩:=e;exact⟨i,rfl,by rw[Qj h1];simpa using h2⟩
theorem zHZ{right:List (List Int)}{wds:List (List Nat)}{m x y:Nat}(hx:x<m)(hy:y<m):zR (zBq right wds m) x y=zo right x (wds.getD y []):=by
 simp[zR,zBq,tab,hx,hy,Qv]
section
variable{n:Nat}{gs els:List (List Int)}{pre last:List Int}{wds:List (List Nat)}{right:List (List Int)}
theorem PrI.pos(h:PrI n gs els pre last wds right els.length):0<els.length:=(Qq.1 h.en.one.1).1
theorem PrI.zero(h:PrI n gs els pre last wds right els.length):els[0]'h.pos=idL n:=by
 have:=h.en.one.1;rw[Qj h.pos]at this;exact Option.some.inj this
theorem PrI.zVk(h:PrI n gs els pre last wds right els.length)(hg: ∀g∈gs,TrN n g){a:Nat}(ha:a<gs.length):zR right 0 a<els.length/\els[zR right 0 a]? =some gs[a]:=by
 have h1:=h.zJw h.pos ha;rw[h.zero,zAz (hg _ (by simp))]at h1;exact⟨(Qq.1 h1).1,h1⟩
theorem PrI.zSv(h:PrI n gs els pre last wds right els.length)(hg: ∀g∈gs,TrN n g){r0:List Int}(h0:right[0]? =some r0):zIU gs els=r0:=by
 obtain⟨h1,h2⟩:=h.rg 0 r0 h0;refine List.ext_getElem (by simp[h1]) fun a g1 g2=>?_
 obtain⟨k,e,g,c1,c2,c3,c4⟩:=h2 a r0[a] (by simp);have ha:a<gs.length:=by simpa using g1
 rw[Qj ha]at c3;injection c3 with c3;subst c3;rw[h.en.one.1]at c2;injection c2 with c2;subst c2;rw[zAz (hg _ (by simp))]at c4;obtain⟨j,j1,j2⟩:=zPT (h.gn gs[a] (by simp));have:(zIU gs els)[a]=zL1 els gs[a]:=by simp[zIU]
 rw[this,j1,c1,h.en.nd _ _ _ j2 c4]
theorem PrI.zUj(h:PrI n gs els pre last wds right els.length)(hg: ∀g∈gs,TrN n g){x:Nat}(hx:x<els.length):zo right 0 (wds.getD x [])=x:=by
 obtain⟨hw,e1,e2,e3⟩:=h.wl' hx;have h1:=h.zHG wds[x] h.pos e3;rw[h.zero]at h1;have hd:wds.getD x []=wds[x]:=by simp[Qv,hw]
 rw[hd];refine h.en.nd _ _ _ h1 ?_;rw[Qj hx,e1];rfl
theorem PrI.stepT(h:PrI n gs els pre last wds right els.length)(hg: ∀g∈gs,TrN n g){x a:Nat}(hx:x<els.length)(ha:a<gs.length):zR (zBq right wds els.length) x (zR right 0 a)=zR right x a:=by
 obtain⟨k1,k2⟩:=h.zVk hg ha;rw[zHZ hx k1];obtain⟨hw,e1,e2,e3⟩:=h.wl' k1;have hd:wds.getD (zR right 0 a) []=wds[zR right 0 a]:=by simp[Qv,hw]
 rw[hd];have h1:=h.zHG wds[zR right 0 a] hx e3;obtain⟨_,_,t1,_⟩:=h.wl' hx;rw[zMd hg t1 e3,←e1]at h1;have h2:=h.zJw hx ha;rw[Qj k1]at k2;rw[Option.some.inj k2]at h1;exact h.en.nd _ _ _ h1 h2
theorem PrI.ne0(h:PrI n gs els pre last wds right els.length){x:Nat}(hx:x<els.length)(h0:x≠0): ∃u a,wds.getD x []=u++[a]/\a<gs.length/\ ∀y∈u,y<gs.length:=by
 obtain⟨hw,e1,e2,e3⟩:=h.wl' hx;have hd:wds.getD x []=wds[x]:=by simp[Qv,hw]
 rw[hd];by_cases c:wds[x]=[]
 ·rw[c]at e1;have:els[x]=els[0]'h.pos:=by rw[e1,h.zero];rfl
  exact absurd (h.en.nd x 0 els[x] (by simp) (by rw[this];simp)) h0
 ·have:=List.dropLast_concat_getLast c;exact⟨wds[x].dropLast,wds[x].getLast c,this.symm,e3 _ (List.getLast_mem c),fun y hy=>e3 y ((List.dropLast_sublist _).subset hy)⟩
theorem PrI.rlt(h:PrI n gs els pre last wds right els.length){x:Nat}(hx:x<els.length){w:List Nat}(hw: ∀a∈w,a<gs.length):zo right x w<els.length:=h.rt.walk hw hx
theorem PrI.plus(h:PrI n gs els pre last wds right els.length)(hg: ∀g∈gs,TrN n g){g:Nat->Bool}(hG:GeG els.length (zBq right wds els.length) (zIU gs els) g){x:Nat}(hx:x<els.length):g x=(if x=0 then right.any (fun r=>decide ((0:Int)∈r))else decide (x<els.length)):=by
 have h0:=h.pos;have hrd:=h.rd;have hr0:right[0]? =some (right[0]'(by omega)):=by simp
 have him:=h.zSv hg hr0;obtain⟨l0,-⟩:=h.rg 0 _ hr0;have hst: ∀{x a:Nat},x<els.length->a<gs.length-> ∃(r:List Int),right[x]? =some r/\r[a]? =some ((zR right x a:Nat):Int)/\zR right x a<els.length:=fun {x a} hx ha=>by
  obtain⟨s1,s2,s3,s4⟩:=h.rt.step hx ha;have hxr:x<right.length:=by omega
  exact⟨right[x],by simp,Qq.2 ⟨_,s4⟩,s1⟩
 have hgen: ∀a,a<gs.length->((zR right 0 a:Nat):Int)∈zIU gs els:=fun a ha=>by
  obtain⟨r,r1,r2,-⟩:=hst h0 ha;rw[hr0]at r1;rw[him,Option.some.inj r1];exact Qc r2
 -- all words but the empty one
 have key: ∀w:List Nat,(∀a∈w,a<gs.length)->w≠[]->g (zo right 0 w)=true:=by
  intro w;refine zGb (P:=fun w=>(∀a∈w,a<gs.length)->w≠[]->g (zo right 0 w)=true) (fun _ hn=>absurd rfl hn) (fun u a ih hw _=>?_) w;have ha:a<gs.length:=hw a (by simp);have hu: ∀b∈u,b<gs.length:=fun b hb=>hw b (by simp[hb])
  rw[zJv];show g (zR right (zo right 0 u) a)=true;obtain⟨r,r1,r2,r3⟩:=hst h0 ha;by_cases c:u=[]
  ·subst c;exact hG.has _ r3 (hgen a ha)
  ·have h1:=h.rlt h0 hu;rw[←h.stepT hg h1 ha];exact hG.clo _ _ h1 r3 (ih hu c) (hG.has _ r3 (hgen a ha))
 have big: ∀y,y<els.length->y≠0->g y=true:=fun y hy hy0=>by
  obtain⟨u,a,e,ha,hu⟩:=h.ne0 hy hy0;rw[←h.zUj hg hy,e];exact key _ (fun b hb=>by
   rcases List.mem_append.1 hb with hb|hb
   ·exact hu b hb
   ·simp at hb;omega) (by simp)
 by_cases e:x=0
 ·subst e;rw[if_pos rfl,Bool.eq_iff_iff];constructor
  ·intro hg0;have:=hG.min (fun x=>decide (x≠0)||right.any (fun r=>decide ((0:Int)∈r))) (fun i hi hm=>?_) (fun a b ha hb ca cb=>?_) 0 h0 hg0
   ·simpa using this
   ·by_cases c:i=0
    ·subst c;rw[him]at hm;simp only[Bool.or_eq_true,List.any_eq_true,decide_eq_true_eq];exact .inr ⟨_,Qc hr0,by simpa using hm⟩
    ·simp[c]
   ·by_cases c:right.any (fun r=>decide ((0:Int)∈r))=true
    ·simp[c]
    ·have c2:right.any (fun r=>decide ((0:Int)∈r))=false:=by simpa using c
     rw[c2]at ca cb ⊢;simp only[Bool.or_false,decide_eq_true_eq]at ca cb ⊢;obtain⟨u,z,e1,hz,hu⟩:=h.ne0 hb cb;rw[zHZ ha hb,e1,zJv];intro hz0;have h1:=h.rlt ha hu;obtain⟨r,r1,r2,r3⟩:=hst h1 hz;have hz0:zR right (zo right a u) z=0:=hz0;rw[hz0]at r2;refine c (List.any_eq_true.2 ⟨r,Qc r1,?_⟩);simpa using Qc r2
  ·intro ha;obtain⟨r,hr,hr2⟩:=List.any_eq_true.1 ha;have hr2:(0:Int)∈r:=by simpa using hr2
   obtain⟨i,hi,rfl⟩:=Qb hr;obtain⟨a,hal,ea⟩:=Qb hr2;obtain⟨l1,-⟩:=h.rg i right[i] (by simp);have ha:a<gs.length:=by omega
   have hil:i<els.length:=by omega
   obtain⟨r',r1,r2,r3⟩:=hst hil ha;have hs0:zR right i a=0:=by
    rw[Qj hi]at r1;rw[←Option.some.inj r1,Qj hal,ea]at r2;have:=Option.some.inj r2;omega
   by_cases c:i=0
   ·subst c;have:=hG.has _ r3 (hgen a ha)
    rwa [hs0]at this
   ·obtain⟨r'',q1,q2,q3⟩:=hst h0 ha;have:=hG.clo i _ hil q3 (big i hil c) (hG.has _ q3 (hgen a ha))
    rwa [h.stepT hg hil ha,hs0]at this
 ·rw[if_neg e,big x hx e];simp[hx]
end
theorem zPY{n:Nat}{gs:List (List Int)}(h:zIM n gs)(fin:List Bool)(hst:0<n)(hfin:fin.length=n): ∃res,((res= .tup [zL0,.t 2 (.int .i64 3)]/\(Big n gs\/ ∃els pre last wds right,PrI n gs els pre last wds right els.length/\400<els.length))\/ ∃els pre last wds right r0,PrI n gs els pre last wds right els.length/\els.length<=400/\right[0]? =some r0/\res= .tup [zLy 2 gs.length fin els wds right r0,.t 2 (.int .i64 0)])/\FnS Tryz.prog 21 [.t 0 (rows gs),.t 2 (.int .i64 0),.t 0 (zG fin)] [] res []:=by
 obtain⟨res1,hB,hbuild⟩:=zO7 h;have hg1:=h.g1;have hg2:=h.g2;have hn2:=h.n2;refine zh Tryz.func21 rfl (by simp[Tryz.f21]) ?_;rw[show Tryz.f21.ntmps=101 from rfl,show Tryz.f21.results= #[.cell 6 29,.tmp 7]from rfl];refine rg0 ?_;rcases hB with⟨rfl,hbig⟩|⟨els,pre,last,wds,right,rls,rfl,hP⟩
 ·refine rc0 hbuild ?_;refine zA ?_;refine rg0 ?_;refine cT0 ?_;refine rg0 ?_;refine zC ?_;refine⟨_,.inl ⟨rfl,.inl hbig⟩,?_⟩;refine⟨⟨.inr rfl,_,[],(by simp;rfl),trivial,trivial,by simp,?_⟩,by simp⟩;simp[zL0]
 have hen:=hP.en;have hel:=hP.el;have hle:=hen.le;have hlp:=hen.wd.lp;have hll:=hen.wd.ll;have hwn:wds.length<=1000000:=by omega
 have hg20:gs.length<=20:=by omega
 have hrt:=hP.rt;refine rc1 hbuild @enT.eq_1 ?_;refine zA ?_;by_cases h400:400<els.length
 ·have d1:decide ((els.length:Int)>400)=true:=by simp;omega
  refine rg1 @d1 ?_;refine cT1 @d1 ?_;refine rg0 ?_;refine zC ?_;refine⟨_,.inl ⟨rfl,.inr ⟨els,pre,last,wds,right,hP,h400⟩⟩,?_⟩;refine⟨⟨.inr rfl,_,[],(by simp;rfl),trivial,trivial,by simp,?_⟩,by simp⟩;simp[zL0]
 have d1:decide ((els.length:Int)>400)=false:=by simp;omega
 refine rg1 @d1 ?_;refine cS1 @d1 ?_;refine rq1 (zLU (p:=0) (n:=n) (gs:=gs) (pre:=pre) (last:=last) (rls:=rls) (done:=els.length) hrt hen.wd hle hg20 (by omega) hP.wl) @enT.eq_1 ?_;refine zA ?_;refine rg0 ?_;refine zB ?_;refine awp_loop (fun y:Nat×List Bool=>mkS [(0,.t 0 (rows gs)),(1,.t 2 (.int .i64 0)),(2,.t 0 (zG fin)),(6,.ptr 0 0 6),(8,.ptr 1 0 9),(10,.ptr 2 0 6),(41,.t 2 (rows els)),(42,.t 2 (.int .i64 els.length)),(43,.t 2 (.int .i64 y.1))]
   [(0,.box 29 [.any,.any,.any,.any,.any,.any]),(1,.box 105 [.any,.any,.any,.t 2 (rows els),.t 2 (ints pre),.t 2 (ints last),.any,.any,.any]),(2,.box 29 [.t 2 (.int .i64 gs.length),.t 2 (rows (zBq right wds els.length)),.own 3 y.1,.t 2 (.sl 0 []),.own 4 y.1,.own 5 els.length]),(3,.row 9 1 2 (wsT (wds.take y.1))),(4,.row 4 1 2 (y.2.map .bool)),(5,.row 4 1 2 (zAJ els.length fun _=>false))] 6 101 [.any,.any,.any])
  (fun y=>y.1<=els.length/\y.2.length=y.1/\y.2=(els.take y.1).map (zFM fin)) (fun y=>els.length-y.1) ?_ ?_
 ·refine⟨(0,[]),⟨by simp,rfl,rfl⟩,?_⟩;exact kw1 [(0,some 0),(1,some 7000000),(2,some 27000000),(3,none),(4,none),(5,some 25000000)] (an @rows.eq_1 (an @zG.eq_1 (an @enT.eq_1 (an @zAJ.eq_1 (an @zz @wsT.eq_1)))))
 ·rintro⟨k,ac⟩ ⟨hk,hac,hace⟩;simp only at hk hac hace;refine rg0 ?_;refine zA ?_;by_cases hkn:k<els.length
  ·have hkw:k<wds.length:=by omega
   obtain⟨v1,v2,v3⟩:=hen.val k wds[k] els[k] (by simp) (by simp);have hes:0<els[k].length:=by have:=v2.1;omega
   obtain⟨w1,w2⟩:=v2.2 els[k][0] (by simp);obtain⟨z,hz⟩: ∃z:Nat,els[k][0]=(z:Int):=⟨els[k][0].toNat,by omega⟩;have hzf:z<fin.length:=by omega
   have hacz:fin[z]=zFM fin els[k]:=by
    unfold zFM;simp[Qv,hes,hz,hzf]
   refine cK1 @hkn ?_;refine zA ?_;refine zB ?_;refine rg1 @hkn ?_;refine rq1 (zGp hen.wd hg20 hwn (i:=k) (w:=wds[k]) (by simp)) (an @enW.eq_1 @wsT.eq_1) ?_;refine re1 (an @hes (an @hz (an @hzf @zG.eq_1))) ?_;refine rr0 ?_;refine⟨(k+1,ac++[fin[z]]),⟨by omega,by simp[hac],by
    rw[Qf hkn,List.map_append,←hace,hacz];rfl⟩,by simp;omega,?_⟩
   refine zH [(0,some 0),(1,some 1),(2,some 2),(3,some 3),(4,some 4),(5,some 5)] rfl ?_ ?_ ?_ ?_
   all_goals try simp[ints,rows,zG,wsT,hac]
   rw[Qf (by simpa using hkw)];simp
  ·have hke:k=els.length:=by omega
   have hacf:ac=els.map (zFM fin):=by rw[hace,hke,List.take_length]
   refine cF1 @hkn ?_;refine zE ?_;refine zA ?_;refine rg0 ?_;refine zB ?_;refine awp_loop (fun y:Nat=>mkS [(6,.ptr 0 0 6),(8,.ptr 1 0 9),(10,.ptr 2 0 6),(69,.t 0 (rows gs)),(70,.t 2 (.int .i64 gs.length)),(71,.t 2 (.int .i64 y))]
     [(0,.box 29 [.any,.any,.any,.any,.any,.any]),(1,.box 105 [.any,.any,.any,.t 2 (rows els),.any,.any,.any,.any,.any]),(2,.box 29 [.t 2 (.int .i64 gs.length),.t 2 (rows (zBq right wds els.length)),.t 2 (.sl 1 (wsT wds)),.own 3 y,.t 2 (zG ac),.own 5 els.length]),(3,.row 3 1 2 ((zIU (gs.take y) els).map (.int .i64))),(5,.row 4 1 2 (zAJ els.length fun _=>false))] 6 101 [.any,.any,.any])
    (fun y=>y<=gs.length) (fun y=>gs.length-y) ?_ ?_
   ·refine⟨0,by omega,?_⟩;refine zH [(0,some 0),(1,some 1),(2,some 2),(3,none),(5,some 5)] rfl ?_ ?_ ?_ ?_
    all_goals try simp[rows,zG,zIU,hac,hke,wsT]
    exact⟨by omega,by rw[Qn (by simp;omega)]⟩
   ·intro x hx;refine rg0 ?_;refine zA ?_;by_cases hxg:x<gs.length
    ·have hels: ∀e∈els,e.length<=1000000:=fun e he=>by
      obtain⟨i,hi,rfl⟩:=Qb he;obtain⟨h1,h2,h3⟩:=hen.val i (wds[i]'(by omega)) els[i] (by simp) (by simp);have:=h2.1;omega
     refine cK1 @hxg ?_;refine zA ?_;refine zB ?_;refine rg1 @hxg ?_;refine zAW (by kernel_rfl) (fun K hK=>?_);simp(maxSteps:=2000000)(disch:=omega)
     (repeat' apply And.intro)
     all_goals (try omega)
     refine zM (caps:=[]) (zIl els gs[x] (by omega) hels) [] [] 2 rfl rfl rfl rfl (by kernel_rfl) (by simp) ?_ trivial trivial rfl trivial trivial (by simp) ?_
     ·simp[scal,rows,ints]
     simp(maxSteps:=2000000)(disch:=omega)[scal];and_intros<;>try first|apply hK|(show zAY _ _=true;kernel_rfl)|(show okH _ _ _=true;kernel_rfl)|omega|rfl|simp<;>omega
     refine rr0 ?_;refine⟨x+1,by omega,by omega,?_⟩;refine zH [(0,some 0),(1,some 1),(2,some 2),(3,some 3),(5,some 5)] rfl ?_ ?_ ?_ ?_
     all_goals try simp[rows,zG,zIU]
     rw[Qf (by simpa using hxg)];simp
    ·have hxe:x=gs.length:=by omega
     have htb:=zM5 hrt hle hP.wl;obtain⟨res3,⟨gg,hG,rfl⟩,hgen⟩:=zHj (zIU gs els) htb (by omega) (by simp[zIU];omega);have hml:((List.range els.length).filter gg).length<=els.length:=Nat.le_trans (List.length_filter_le _ _) (by simp);refine cF1 @hxg ?_;refine zE ?_;subst hxe;refine zA ?_;refine rc1 hgen @zIU.eq_1 ?_;refine zB ?_;refine awp_loop (fun y:Nat×(Nat->Bool)=>mkS [(6,.ptr 0 0 6),(10,.ptr 2 0 6),(89,.t 2 (.sl 1 (zAS ((List.range els.length).filter gg)))),(90,.t 2 (.int .i64 ((List.range els.length).filter gg).length)),(91,.t 2 (.int .i64 y.1))]
       [(0,.box 29 [.any,.any,.any,.any,.any,.any]),(2,.box 29 [.t 2 (.int .i64 gs.length),.t 2 (rows (zBq right wds els.length)),.t 2 (.sl 1 (wsT wds)),.t 2 (ints (zIU gs els)),.t 2 (zG ac),.own 5 els.length]),(5,.row 4 1 2 (zAJ els.length y.2))] 6 101 [.any,.any,.any])
      (fun y=>y.1<=((List.range els.length).filter gg).length/\ ∀i,y.2 i=decide (i∈((List.range els.length).filter gg).take y.1)) (fun y=>((List.range els.length).filter gg).length-y.1) ?_ ?_
     ·refine⟨(0,fun _=>false),⟨by simp,fun i=>by simp⟩,?_⟩;exact kw1 [(0,some 0),(2,some 2),(5,some 5)] (an @rows.eq_1 (an @zG.eq_1 @zIU.eq_1))
     ·rintro⟨y,pl⟩ ⟨hy,hpl⟩;simp only at hy hpl;refine rg0 ?_;refine zA ?_;by_cases hyl:y<((List.range els.length).filter gg).length
      ·have hym:((List.range els.length).filter gg)[y]<els.length:=by
        have:=List.getElem_mem hyl;simp only[List.mem_filter,List.mem_range]at this;exact this.1
       refine cK1 @hyl ?_;refine zA ?_;refine zB ?_;obtain⟨z,hz⟩: ∃z,z=((List.range els.length).filter gg)[y]:=⟨_,rfl⟩;rw[←hz]at hym;refine rg1 (an @zAS.eq_1 (an @hyl hz.symm)) ?_;refine rr1 (an @zAJ.eq_1 @hym) ?_;refine rr0 ?_;refine⟨(y+1,fun i=>if i=z then true else pl i),⟨by simp;omega,fun i=>?_⟩,by simp;omega,?_⟩
       ·show(if i=z then true else pl i)=_;rw[hpl i,Qf hyl,←hz];by_cases e:i=z<;>simp[e]
       refine zH [(0,some 0),(2,some 2),(5,some 5)] rfl ?_ ?_ ?_ ?_
       all_goals try simp[ints,rows,zG,zAJ,zb,zAS]
       refine zK (fun i hi=>?_);by_cases e:i=z<;>simp[e]
      ·refine cF1 @hyl ?_;refine zE ?_;refine rg0 ?_;refine zC ?_;have hfin:zAJ els.length pl=psC els.length els.length (right.any fun r=>decide ((0:Int)∈r)):=by
        unfold zAJ psC;refine zK fun i hi=>?_
        congr 1;rw[hpl i,Qn (by omega),←hP.plus h.tr hG hi]
        cases e:gg i<;>simp[e,hi]
       have hr0:0<right.length:=by have:=hP.rd;have:=hP.pos;omega
       have hsy:zLy 2 gs.length fin els wds right (right[0]'hr0)= .agg [.t 2 (.int .i64 gs.length),.t 2 (rows (zBq right wds els.length)),.t 2 (.sl 1 (wsT wds)),.t 2 (ints (zIU gs els)),.t 2 (zG ac),.t 2 (.sl 1 (zAJ els.length pl))]:=by
        unfold zLy;rw[hfin,hP.zSv h.tr (Qj hr0),hacf]
       refine⟨_,.inr ⟨els,pre,last,wds,right,right[0]'hr0,hP,by omega,by simp,rfl⟩,?_⟩;rw[hsy];refine⟨⟨.inr rfl,_,[],(by simp;rfl),trivial,trivial,by simp,?_⟩,by simp[zG]⟩;simp[ints,rows,zG]
theorem zJr{L n s:Nat}{bs:List Bool}{nxt:List (List Int)}(h:DfL L n s bs nxt)(hL:1<=L)(hL2:L<=6)(hn:n<=512)(hm32: ∀m bs' nx',MiX L n s bs nxt m bs' nx'->m<=32): ∃res,(∃m bs' nx',MiX L n s bs nxt m bs' nx'/\((res= .tup [zL0,.t 2 (.int .i64 3)]/\SyF L m nx')\/ ∃els pre last wds right r0,SyX L m nx' els pre last wds right r0/\res= .tup [zLy 2 L bs' els wds right r0,.t 2 (.int .i64 0)]))/\FnS Tryz.prog 6 [dfT 0 L s bs nxt] [] res []:=by
 obtain⟨res1,⟨m,bs1,nx1,hX,rfl⟩,hmin⟩:=zJc h hL hL2 hn;have hm:=hm32 m bs1 nx1 hX;have hD:=hX.mn.df;have hbl:=hD.bl;refine zh Tryz.func6 rfl (by simp[Tryz.f6]) ?_;rw[show Tryz.f6.ntmps=28 from rfl,show Tryz.f6.results= #[.cell 2 29,.tmp 3]from rfl];refine rg1 (an @dfT.eq_1 @zG.eq_1) ?_;refine zA ?_;refine rc1 (zGO h hL hL2 hn) (an @dfT.eq_1 @zG.eq_1) ?_;refine rg0 ?_;refine cS0 ?_;refine rc1 hmin (an @dfT.eq_1 @zG.eq_1) ?_;refine zA ?_;refine rg1 @hbl ?_;have h32: ¬(32:Int)<m:=by omega
 obtain⟨res2,hO,hof⟩:=zPY (hD.gn hL hL2 (by omega)) bs1 hD.n1 hbl;rw[zAD]at hO;refine cS1 @h32 ?_;rcases hO with⟨rfl,hF⟩|⟨els,pre,last,wds,right,r0,hP,h400,h0,rfl⟩
 ·refine zg (by kernel_rfl) (fun K hK=>?_);simp(maxSteps:=2000000)(disch:=omega)
  (repeat' apply And.intro)
  all_goals (try omega)
  refine zM (caps:=[]) (zJ2 hD hL hL2 (by omega)) [] [] 2 rfl rfl rfl rfl (by kernel_rfl) (by simp) ?_ trivial trivial rfl trivial trivial (by simp) ?_
  ·simp[scal,rows,dfT,zG]
  simp(maxSteps:=2000000)(disch:=omega)[rows,scal]
  (repeat' apply And.intro)
  all_goals (try omega)
  refine zM (caps:=[]) (hof) [] [] 2 rfl rfl rfl rfl (by kernel_rfl) (by simp) ?_ trivial trivial rfl trivial trivial (by simp) ?_
  ·simp[scal,rows,zG]
  simp(maxSteps:=2000000)(disch:=omega)[scal,zL0];and_intros<;>try first|apply hK|(show zAY _ _=true;kernel_rfl)|(show okH _ _ _=true;kernel_rfl)|omega|rfl|simp<;>omega
  refine zC ?_;refine⟨_,⟨m,bs1,nx1,hX,.inl ⟨rfl,hF⟩⟩,?_⟩;refine⟨⟨.inr rfl,_,[],(by simp;rfl),trivial,trivial,by simp,?_⟩,by simp[dfT,zG]⟩;simp[zL0]
 ·refine zg (by kernel_rfl) (fun K hK=>?_);simp(maxSteps:=2000000)(disch:=omega)
  (repeat' apply And.intro)
  all_goals (try omega)
  refine zM (caps:=[]) (zJ2 hD hL hL2 (by omega)) [] [] 2 rfl rfl rfl rfl (by kernel_rfl) (by simp) ?_ trivial trivial rfl trivial trivial (by simp) ?_
  ·simp[scal,rows,dfT,zG]
  simp(maxSteps:=2000000)(disch:=omega)[rows,scal]
  (repeat' apply And.intro)
  all_goals (try omega)
  refine zM (caps:=[]) (hof) [] [] 2 rfl rfl rfl rfl (by kernel_rfl) (by simp) ?_ trivial trivial rfl trivial trivial (by simp) ?_
  ·simp[scal,rows,zG]
  simp(maxSteps:=2000000)(disch:=omega)[ints,rows,scal,zLy,zG];and_intros<;>try first|apply hK|(show zAY _ _=true;kernel_rfl)|(show okH _ _ _=true;kernel_rfl)|omega|rfl|simp<;>omega
  refine zC ?_;refine⟨_,⟨m,bs1,nx1,hX,.inr ⟨els,pre,last,wds,right,r0,⟨hm,hP,h400,h0⟩,rfl⟩⟩,?_⟩;refine⟨⟨.inr rfl,_,[],(by simp;rfl),trivial,trivial,by simp,?_⟩,by simp[dfT,zG]⟩;simp[ints,rows,zLy,zG]
