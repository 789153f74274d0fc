/- Lemmas for the law AperiodicMember. No conditions. -/
import Derived.Test.YtjkeafkjjaploaaGreatZqaw
import Derived.Test.YtjkeafkjjaploaaGreatZqbb
import Derived.Test.YtjkeafkjjaploaaGreatZqbc
set_option linter.all false
namespace Go.Proofs.YtjkeafkjjaploaaGreat.M
open Go.RowKit
set_option maxRecDepth 100000
set_option maxHeartbeats 32000000

def cbD(D:zDd)(m x a:Nat):Bool:=zVZ D.rt m x (zQ D.tb x (imN D.im a))
def ceD(D:zDd)(m x a:Nat):Bool:=zVZ D.lf m x (zQ D.tb (imN D.im a) x)
def c1D(D:zDd)(m a:Nat):Bool:=!zCT D.tw (imN D.im a) m
def c3D(D:zDd)(m x a c:Nat):Bool:=zCT D.tw (zQ D.tb (imN D.im a) x) m&&zCT D.tw (zQ D.tb x (imN D.im c)) m&& !zCT D.tw (zQ D.tb (zQ D.tb (imN D.im a) x) (imN D.im c)) m
def zU6(D:zDd)(of:List Nat)(m:Nat)(xs:List Nat)(ns:List Nd):List Nd×Nat:=zT0 (fun x=>of.getD x 0) (cbD D m) (ceD D m) (c1D D m) (c3D D m) D.im.length xs ns
def zVz(D:zDd)(m:Nat)(ns:List Nd):List Nd×Nat:=zFF (idnS D.im (m:Int) ns D.im.length).1 (idnS D.im (m:Int) ns D.im.length).2
def zHF(D:zDd)(o:List Nat)(i:Nat)(s:FbS):List Nd×Nat:=if i=0 then zVz D (o.getD i 0) s.1 else zU6 D s.2 (o.getD i 0) (o.take i) s.1
def runD(D:zDd)(o:List Nat):Nat->FbS
 |0=>([],List.replicate D.tb.length 0)
 |i+1=>((zHF D o i (runD D o i)).1,(runD D o i).2.set (o.getD i 0) (zHF D o i (runD D o i)).2)
theorem zGW(D:zDd)(o:List Nat): ∀i,(runD D o i).2.length=D.tb.length
 |0=>by simp[runD]
 |i+1=>by simp[runD,zGW D o i]
def zIg(ac:List Bool)(of:List Nat):Nat->List Nat
 |0=>[]
 |k+1=>if ac.getD k false=true then zIg ac of k++[of.getD k 0]else zIg ac of k
theorem zGK(ac:List Bool)(of:List Nat): ∀k,(zIg ac of k).length<=k
 |0=>Qy _
 |k+1=>by
  have:=zGK ac of k;unfold zIg;split
  ·simp;omega
  ·omega
def zPt(D:zDd)(o:List Nat):List Nd×Nat:=zEQ (runD D o D.tb.length).1 (zIg D.ac (runD D o D.tb.length).2 D.tb.length)
structure zVU(D:zDd)(o:List Nat):Prop where
 rt: ∀x y,x<D.tb.length->y<D.tb.length->(zCT D.rt x y=true↔RLe D.tb.length (zQ D.tb) x y)
 lf: ∀x y,x<D.tb.length->y<D.tb.length->(zCT D.lf x y=true↔LLe D.tb.length (zQ D.tb) x y)
 tw: ∀x y,x<D.tb.length->y<D.tb.length->(zCT D.tw x y=true↔JLe D.tb.length (zQ D.tb) x y)
 od:zT9 D.tb.length (szJ D.tb.length (zQ D.tb)) o
def zPV(n L:Nat):Nat:=6*(n*L)+5*(n*(L*L))+2*L+14
section
variable{D:zDd}{o:List Nat}
theorem zTp(h:ApM D.tb.length (zQ D.tb))(hi: ∀a,a<D.im.length->imN D.im a<D.tb.length)(hnn: ∀a,a<D.im.length->D.im.getD a 0=(imN D.im a:Int))(hI:zVU D o){s:FbS}{i:Nat}(hin:i<D.tb.length)(hg:GV D.im.length s.1)(hs: ∀x∈o.take i,Sm D.im.length s.1 (s.2.getD x 0) fun w=>vlW (zQ D.tb) (imN D.im) w=x):
  GV D.im.length (zHF D o i s).1/\zCo (zPV D.tb.length D.im.length) s.1 (zHF D o i s).1/\Sm D.im.length (zHF D o i s).1 (zHF D o i s).2 fun w=>vlW (zQ D.tb) (imN D.im) w=o.getD i 0:=by
 have hio:i<o.length:=by rw[hI.od.len];exact hin
 have ho:o.getD i 0=o[i]:=by rw[Qv,Qj hio];rfl
 obtain⟨hab,h0⟩:=hI.od.zD3 h hio;have hm:o[i]<D.tb.length:=hI.od.lt _ (by simp);unfold zHF;rw[ho];by_cases c:i=0
 ·rw[if_pos c];have e0:=h0.2 c;rw[e0];unfold zVz;obtain⟨g1,g2,g3⟩:=zPO (im:=D.im) (one:=((0:Nat):Int)) hg D.im.length (Qy _);obtain⟨l1,l2⟩:=zG8 D.im ((0:Nat):Int) s.1 D.im.length;generalize idnS D.im ((0:Nat):Int) s.1 D.im.length=q at g1 g2 g3 l1 l2 ⊢;obtain⟨w1,w2,w3⟩:=zO3 g1 g3;refine⟨w1,(g2.trans w2).mono (by unfold zPV;generalize D.tb.length*D.im.length=A;generalize D.tb.length*(D.im.length*D.im.length)=B;omega),w3.iff fun w hw=>?_⟩;rw[←zS9 h hi hw];have e:(fun w=>∃a,(a<D.im.length/\D.im.getD a 0≠((0:Nat):Int))/\w=[a])=fun f=>∃a,(a<D.im.length/\imN D.im a≠0)/\f=[a]:=by
   funext f;refine propext ⟨?_,?_⟩
   ·rintro⟨a,⟨a1,a2⟩,e⟩;exact⟨a,⟨a1,fun e2=>a2 (by rw[hnn a a1,e2])⟩,e⟩
   ·rintro⟨a,⟨a1,a2⟩,e⟩;exact⟨a,⟨a1,fun e2=>a2 (by rw[hnn a a1]at e2;omega)⟩,e⟩
  rw[e]
 ·rw[if_neg c];have hxs: ∀x∈o.take i,x<D.tb.length:=fun x hx=>hI.od.lt x (List.mem_of_mem_take hx)
  obtain⟨e1,e2,e3⟩:=zTv (of:=fun x=>s.2.getD x 0) (cB:=cbD D o[i]) (cE:=ceD D o[i]) (c1:=c1D D o[i]) (c3:=c3D D o[i]) h hi hm (fun e=>c (h0.1 e)) hab
   (fun x a hx ha=>by
    have hx:=hxs x hx;have hp:=h.lt _ _ hx (hi a ha);unfold cbD zVZ BgC;simp only[Qz,Bool.not_eq_true'];rw[hI.rt _ _ hm hp,hI.rt _ _ hp hm,←hI.rt _ _ hm hx,Bool.not_eq_true,and_assoc])
   (fun x a hx ha=>by
    have hx:=hxs x hx;have hp:=h.lt _ _ (hi a ha) hx;unfold ceD zVZ EnC;simp only[Qz,Bool.not_eq_true'];rw[hI.lf _ _ hm hp,hI.lf _ _ hp hm,←hI.lf _ _ hm hx,Bool.not_eq_true,and_assoc])
   (fun a ha=>by
    unfold c1D;simp only[Bool.not_eq_true'];rw[←hI.tw _ _ (hi a ha) hm,Bool.not_eq_true])
   (fun x a d hx ha hd=>by
    have hx:=hxs x hx;have p1:=h.lt _ _ (hi a ha) hx;have p2:=h.lt _ _ hx (hi d hd);have p3:=h.lt _ _ p1 (hi d hd);unfold c3D FbC;simp only[Qz,Bool.not_eq_true'];rw[hI.tw _ _ p1 hm,hI.tw _ _ p2 hm,←hI.tw _ _ p3 hm,Bool.not_eq_true,and_assoc])
   hg hs
  refine⟨e1,e2.mono ?_,e3⟩;have hl:(o.take i).length<=D.tb.length:=by simp;omega
  have k1:=Nat.mul_le_mul_right D.im.length hl;have k2:=Nat.mul_le_mul_right (D.im.length*D.im.length) hl;unfold zPV;omega
theorem zJS(h:ApM D.tb.length (zQ D.tb))(hi: ∀a,a<D.im.length->imN D.im a<D.tb.length)(hnn: ∀a,a<D.im.length->D.im.getD a 0=(imN D.im a:Int))(hI:zVU D o): ∀i,i<=D.tb.length→
  GV D.im.length (runD D o i).1/\(runD D o i).1.length<=i*zPV D.tb.length D.im.length/\ ∀x∈o.take i,Sm D.im.length (runD D o i).1 ((runD D o i).2.getD x 0) fun w=>vlW (zQ D.tb) (imN D.im) w=x
 |0,_=>⟨GV.nil,by simp[runD],by simp⟩
 |i+1,hin=>by
  obtain⟨i1,i2,i3⟩:=zJS h hi hnn hI i (by omega);have hio:i<o.length:=by rw[hI.od.len];omega
  have ho:o.getD i 0=o[i]:=by rw[Qv,Qj hio];rfl
  have hm:o[i]<D.tb.length:=hI.od.lt _ (by simp);obtain⟨n1,n2,n3⟩:=zTp h hi hnn hI (by omega) i1 i3;have hlen:=n2.le;have hofl:=zGW D o i;refine⟨n1,?_,fun x hx=>?_⟩
  ·show(zHF D o i (runD D o i)).1.length<=_;rw[Nat.succ_mul];omega
  ·show Sm _ (zHF D o i (runD D o i)).1 (((runD D o i).2.set (o.getD i 0) (zHF D o i (runD D o i)).2).getD x 0) _;rw[ho]at n3 ⊢;rw[Qe hio]at hx;by_cases c:x=o[i]
   ·subst c;rw[Qv,List.getElem?_set_self (by omega)];exact n3
   ·rw[Qv,List.getElem?_set_ne (Ne.symm c),←Qv];rcases List.mem_append.1 hx with hx|hx
    ·exact(i3 x hx).ext n2
    ·simp at hx;exact absurd hx c
theorem zPS{L:Nat}{ns:List Nd}{ac:List Bool}{of:List Nat}{P:Nat->List Nat->Prop}: ∀k,(∀x,x<k->Sm L ns (of.getD x 0) (P x))->UB L ns (zIg ac of k) fun w=>∃x,x<k/\ac.getD x false=true/\P x w
 |0,_=>(UB.nil (ns:=ns)).iff fun w _=>⟨fun hf=>hf.elim,fun⟨x,hx,_⟩=>by omega⟩
 |k+1,h=>by
  have ih:=zPS (ac:=ac) k fun x hx=>h x (by omega)
  unfold zIg;by_cases c:ac.getD k false=true
  ·rw[if_pos c];refine(ih.add (h k (by omega))).iff fun w _=>⟨?_,?_⟩
   ·rintro(⟨x,a,b,e⟩|e)
    ·exact⟨x,by omega,b,e⟩
    ·exact⟨k,by omega,c,e⟩
   ·rintro⟨x,a,b,e⟩;by_cases e2:x=k
    ·subst e2;exact .inr e
    ·exact .inl ⟨x,by omega,b,e⟩
  ·rw[if_neg c];refine ih.iff fun w _=>⟨?_,?_⟩
   ·rintro⟨x,a,b,e⟩;exact⟨x,by omega,b,e⟩
   ·rintro⟨x,a,b,e⟩;refine⟨x,?_,b,e⟩;have:x≠k:=fun e2=>c (e2▸b)
    omega
theorem zTE(h:ApM D.tb.length (zQ D.tb))(hi: ∀a,a<D.im.length->imN D.im a<D.tb.length)(hnn: ∀a,a<D.im.length->D.im.getD a 0=(imN D.im a:Int))(hI:zVU D o):
  GV D.im.length (zPt D o).1/\(zPt D o).1.length<=8*(D.tb.length+2)*(D.tb.length+2)*(D.im.length+1)*(D.im.length+1)∧
  (∀x,x<D.tb.length->Sm D.im.length (zPt D o).1 ((runD D o D.tb.length).2.getD x 0) fun w=>vlW (zQ D.tb) (imN D.im) w=x)∧
  Sm D.im.length (zPt D o).1 (zPt D o).2 fun w=>D.ac.getD (vlW (zQ D.tb) (imN D.im) w) false=true:=by
 obtain⟨r1,r2,r3⟩:=zJS h hi hnn hI D.tb.length (Qy _);have hall: ∀x,x<D.tb.length->Sm D.im.length (runD D o D.tb.length).1 ((runD D o D.tb.length).2.getD x 0) fun w=>vlW (zQ D.tb) (imN D.im) w=x:=fun x hx=>r3 x (by rw[Qm (by rw[hI.od.len];exact Qy _)];exact hI.od.all x hx)
 have hac:=zPS (ac:=D.ac) D.tb.length hall;have hal:=zGK D.ac (runD D o D.tb.length).2 D.tb.length;obtain⟨u1,u2,u3⟩:=zGX r1 hac;have hul:=u2.le;unfold zPt;refine⟨u1,?_,fun x hx=>(hall x hx).ext u2,u3.iff fun w hw=>⟨fun⟨x,a,b,e⟩=>by rw[e];exact b,fun e=>⟨_,zCN h hi hw,e,rfl⟩⟩⟩;have e1:D.tb.length*zPV D.tb.length D.im.length=6*(D.tb.length*D.tb.length*D.im.length)+5*(D.tb.length*D.tb.length*(D.im.length*D.im.length))+2*(D.tb.length*D.im.length)+14*D.tb.length:=by
  unfold zPV;generalize D.tb.length=n;generalize D.im.length=L;rw[Nat.mul_add,Nat.mul_add,Nat.mul_add,Nat.mul_left_comm n 6,Nat.mul_left_comm n 5,Nat.mul_left_comm n 2,←Nat.mul_assoc n n,←Nat.mul_assoc n n,Nat.mul_comm n 14]
 have e2:8*(D.tb.length+2)*(D.tb.length+2)*(D.im.length+1)*(D.im.length+1)=8*(D.tb.length*D.tb.length*(D.im.length*D.im.length)+2*(D.tb.length*D.tb.length*D.im.length)+D.tb.length*D.tb.length+4*(D.tb.length*(D.im.length*D.im.length)+2*(D.tb.length*D.im.length)+D.tb.length)+4*(D.im.length*D.im.length+2*D.im.length+1)):=by
  generalize D.tb.length=n;generalize D.im.length=L;have m1:(n+2)*(n+2)=n*n+4*n+4:=by simp only[Nat.add_mul,Nat.mul_add];omega
  have m2:(L+1)*(L+1)=L*L+2*L+1:=by simp only[Nat.add_mul,Nat.mul_add];omega
  have k1: ∀z:Nat,z*(L*L+2*L+1)=z*(L*L)+2*(z*L)+z:=fun z=>by rw[Nat.mul_add,Nat.mul_add,Nat.mul_left_comm z 2,Nat.mul_one]
  rw[←k1 n,←k1 (n*n),←Nat.mul_assoc 4 n,←Nat.add_mul,←Nat.add_mul,←m1,←m2];simp only[Nat.mul_assoc]
 rw[e1]at r2;rw[e2];generalize D.tb.length*D.tb.length*(D.im.length*D.im.length)=A1 at*
 generalize D.tb.length*D.tb.length*D.im.length=A2 at*
 generalize D.tb.length*(D.im.length*D.im.length)=A3 at*
 generalize D.tb.length*D.im.length=A4 at*
 omega
end
def SqB(n:Nat)(m:List (List Bool)):Prop:=m.length=n/\ ∀x,x<n-> ∃r,m[x]? =some r/\r.length=n
theorem SqB.row{n:Nat}{m:List (List Bool)}(h:SqB n m){x:Nat}(hx:x<n): ∃r:List Bool,x<m.length/\(∀hh,m[x]'hh=r)/\r.length=n/\ ∀y,y<n-> ∀hh,r[y]'hh=zCT m x y:=by
 obtain⟨r,e,hl⟩:=h.2 x hx;refine⟨r,(Qq.1 e).1,fun hh=>?_,hl,fun y hy hh=>?_⟩
 ·rw[Qj hh]at e;exact Option.some.inj e
 ·have e2:m.getD x []=r:=by rw[Qv,e];rfl
  show _=(m.getD x []).getD y false;rw[e2,Qv,Qj hh];rfl
structure BOk(D:zDd):Prop where
 tl: ∀x,x<D.tb.length-> ∃r,D.tb[x]? =some r/\r.length=D.tb.length/\ ∀y,y<D.tb.length->r[y]? =some (zQ D.tb x y:Int)/\zQ D.tb x y<D.tb.length
 il: ∀a,a<D.im.length->D.im[a]? =some (imN D.im a:Int)/\imN D.im a<D.tb.length
 rt:SqB D.tb.length D.rt
 lf:SqB D.tb.length D.lf
 tw:SqB D.tb.length D.tw
 n60:D.tb.length<=60
 L6:D.im.length<=6
section
variable{D:zDd}
theorem BOk.row(h:BOk D){x:Nat}(hx:x<D.tb.length): ∃r:List Int,(∀hh,D.tb[x]'hh=r)/\r.length=D.tb.length/\ ∀y,y<D.tb.length->(∀hh,r[y]'hh=(zQ D.tb x y:Int))/\zQ D.tb x y<D.tb.length:=by
 obtain⟨r,e,hl,hr⟩:=h.tl x hx;refine⟨r,fun hh=>?_,hl,fun y hy=>⟨fun hh=>?_,(hr y hy).2⟩⟩
 ·rw[Qj hh]at e;exact Option.some.inj e
 ·have:=(hr y hy).1;rw[Qj hh]at this;exact Option.some.inj this
theorem BOk.img(h:BOk D){a:Nat}(ha:a<D.im.length):(∀hh,D.im[a]'hh=(imN D.im a:Int))/\imN D.im a<D.tb.length:=by
 obtain⟨e,hl⟩:=h.il a ha;refine⟨fun hh=>?_,hl⟩;rw[Qj hh]at e;exact Option.some.inj e
end
theorem zUx{a L:Nat}(ha:a<=L)(hL:L<=6):a*L<=36:=by
 have:=Nat.mul_le_mul ha hL;omega
theorem zRo{L:Nat}(hL:L<=6)(xs:List Nat)(i:Nat)(hi:i<=60):(trP L (xs.take i)).length<=36*i:=by
 rw[zNG];have h1:(xs.take i).length<=i:=by simp;omega
 have h2:=zUx (Qy L) hL
 calc(xs.take i).length*(L*L)<=i*36:=Nat.mul_le_mul h1 h2
  _=36*i:=Nat.mul_comm _ _
theorem zJs{of:List Nat}{x:Nat}(hx:x<of.length): ∀d,(idT of)[x]?.getD d= .int .i64 (of.getD x 0:Nat):=fun d=>by
 simp[idT,hx]
theorem zR8(D:zDd)(hD:BOk D)(ns:List Nd)(of:List Nat)(m:Nat)(xs:List Nat)(hm:m<D.tb.length)(hof:of.length=D.tb.length)(hxs: ∀x∈xs,x<D.tb.length)(hxl:xs.length<=60)(hn:ns.length<=50000):FnK Tryz.prog 74 [.ptr 0 0 13,.t 2 (.int .i64 m),.t 0 (ints (nI xs))] (bdO D ns of) (.t 2 (ints (nI (fb3 (fun x=>of.getD x 0) (c3D D m) (trP D.im.length xs) (fb1 (c1D D m) ns D.im.length)).2))) (bdO D (fb3 (fun x=>of.getD x 0) (c3D D m) (trP D.im.length xs) (fb1 (c1D D m) ns D.im.length)).1 of) [3]:=by
 have hL:=hD.L6;have hN:=hD.n60;have hl:(nI xs).length=xs.length:=zEg xs;refine zAb [(3,.own 3 of.length)] (fun j p hp=>zPX j p hp) Tryz.func74 rfl (by simp[Tryz.f74]) ?_;rw[show Tryz.f74.ntmps=154 from rfl,show Tryz.f74.results= #[.tmp 6]from rfl];refine rg1 (an @bdO.eq_1 (an @bdB.eq_1 (an @zM.eq_1 @zH.eq_1))) ?_;refine rd0 ?_;refine rg0 ?_;refine zD ?_;refine rg0 ?_;refine zG ?_;refine awp_loop (fun k:Nat=>mkS [(0,.ptr 0 0 13),(1,.t 2 (.int .i64 m)),(2,.t 0 (ints (nI xs))),(7,.t 1 (rows D.tb)),(8,.t 1 (zM D.tw)),(9,.own 4 (fb1 (c1D D m) ns k).2.length),(34,.t 1 (ints D.im)),(35,.t 2 (.int .i64 D.im.length)),(36,.t 2 (.int .i64 k))]
   [(0,bdB D (fb1 (c1D D m) ns k).1.length of.length),(1,.row 78 4 1 (zCR (fb1 (c1D D m) ns k).1)),(2,.map 78 3 (kents ndK 0 (fb1 (c1D D m) ns k).1)),(3,.row 3 1 1 (idT of)),(4,.row 3 1 2 (idT (fb1 (c1D D m) ns k).2))] 5 154 [.ptr 0 0 13,.any,.any,.own 3 of.length]) (fun k=>k<=D.im.length) (fun k=>D.im.length-k) ?_ ?_
 ·refine⟨0,by omega,?_⟩;refine zP [(0,some 0),(1,some 1),(2,some 2),(3,some 3),(4,none)] rfl ?_ ?_ ?_ ?_
  all_goals try simp[ints,bdB,rows,zH,zM,zH,fb1,idT]
 intro k hk;obtain⟨hl1,hl2⟩:=zGg (c1D D m) ns k;refine rg0 ?_;refine zD ?_;by_cases hlt:k<D.im.length
 ·obtain⟨hgt,hv⟩:=hD.img hlt;obtain⟨q,hqx,hq,hql,hqm⟩:=hD.tw.row hv;have hqm:=hqm m hm;have hc1:c1D D m k= !zCT D.tw (imN D.im k) m:=rfl;generalize imN D.im k=v at hgt hv hq hqx hqm hc1;have hs:fb1 (c1D D m) ns (k+1)=zRp (c1D D m k) k (fb1 (c1D D m) ns k):=rfl;rw[hc1]at hs;clear hc1;refine cK1 @hlt ?_;refine zD ?_;refine zG ?_;refine rg1 (an @hlt @hgt) ?_
  cases hb:zCT D.tw v m with
  |true=>
   rw[hb]at hs hqm;refine rg1 (an @zM.eq_1 (an @zH.eq_1 (an @hqx (an @hq (an @hql (an @hqm @hm)))))) ?_;refine cY0 ?_;refine rr0 ?_;refine⟨k+1,by omega,by omega,?_⟩;rw[hs];exact kw1 [(0,some 0),(1,some 1),(2,some 2),(3,some 3),(4,some 4)] (an @bdB.eq_1 (an @rows.eq_1 (an @zH.eq_1 (an @zM.eq_1 @zRp.eq_1))))
  |false=>
   rw[hb]at hs hqm;have hlet:=zDw D (fb1 (c1D D m) ns k).1 of k (by omega);have hs:fb1 (c1D D m) ns (k+1)=((addG (fb1 (c1D D m) ns k).1 (3,k,0,0)).1,(fb1 (c1D D m) ns k).2++[(addG (fb1 (c1D D m) ns k).1 (3,k,0,0)).2]):=by rw[hs];rfl
   obtain⟨t,ht⟩: ∃t,t=addG (fb1 (c1D D m) ns k).1 (3,k,0,0):=⟨_,rfl⟩;rw[←ht]at hs hlet;refine rg1 (an @zM.eq_1 (an @zH.eq_1 (an @hqx (an @hq (an @hql (an @hqm @hm)))))) ?_;refine cT0 ?_;refine zAE fun K hK=>?_
   simp
   (repeat' apply And.intro)
   all_goals (try omega)
   refine za (caps:=[]) (hlet) [0,1,2,3] [0,17000005,17000006,3] 1 rfl rfl rfl rfl (by kernel_rfl) (by simp) ?_ ?_ (by simp) rfl (by simp) ⟨.inr (.inl ⟨rfl,0,_,_,_,_,_,rfl,rfl,(by first|rfl|simp[bdO,bdB,zM,zH]),rfl,(by first|rfl|simp[bdO,bdB,zM,zH])⟩),.inl ⟨by omega,by omega⟩,.inl ⟨by omega,by omega⟩,.inr (.inr ⟨rfl,by simp,by simp[bdO,bdB,zM,zH]⟩),trivial⟩ (by simp[bdO,bdB,zM,zH]) ?_
   ·simp[scal,rows,ints,bdB,zM,zH]
   ·simp[scal,rows,ints,bdO,bdB,zM,zH]
   simp[ints,rows,scal,bdO,bdB,zM,zH];and_intros<;>try first|apply hK|omega|rfl|simp<;>omega
   refine rr0 ?_;refine⟨k+1,by omega,by omega,?_⟩;rw[hs];exact kw1 [(0,some 0),(1,some 17000005),(2,some 17000006),(3,some 3),(4,some 4)] (an @bdB.eq_1 (an @rows.eq_1 (an @zH.eq_1 (an @zM.eq_1 @idT.eq_1))))
 ·obtain rfl:k=D.im.length:=by omega
  refine cF0 ?_;refine zK ?_;refine zD ?_;refine rg1 @hl ?_;refine zG ?_;obtain⟨s1,hs1⟩: ∃s1,s1=fb1 (c1D D m) ns D.im.length:=⟨_,rfl⟩;rw[←hs1]at hl1 hl2 ⊢;clear hs1;obtain⟨zF,hzF⟩: ∃zF:List (Nat×Nat×Nat)->FbS,zF=fun ts=>fb3 (fun x=>of.getD x 0) (c3D D m) ts s1:=⟨_,rfl⟩
  have z0:zF []=s1:=by rw[hzF];rfl
  have zS: ∀ts x a d,zF (ts++[(x,a,d)])=zOc (fun x=>of.getD x 0) (c3D D m x a d) x a d (zF ts):=fun ts x a d=>by rw[hzF];exact zGb _ _ _ _ _
  have zL: ∀ts,(zF ts).1.length<=s1.1.length+4*ts.length/\(zF ts).2.length<=s1.2.length+ts.length:=fun ts=>by rw[hzF];exact zIn _ _ _ _
  have zE:fb3 (fun x=>of.getD x 0) (c3D D m) (trP D.im.length xs) s1=zF (trP D.im.length xs):=by rw[hzF]
  rw[zE];clear hzF zE;refine awp_loop (fun i:Nat=>mkS [(0,.ptr 0 0 13),(1,.t 2 (.int .i64 m)),(7,.t 1 (rows D.tb)),(8,.t 1 (zM D.tw)),(9,.own 4 (zF (trP D.im.length (xs.take i))).2.length),(56,.t 0 (ints (nI xs))),(57,.t 2 (.int .i64 xs.length)),(58,.t 2 (.int .i64 i))]
   [(0,bdB D (zF (trP D.im.length (xs.take i))).1.length of.length),(1,.row 78 4 1 (zCR (zF (trP D.im.length (xs.take i))).1)),(2,.map 78 3 (kents ndK 0 (zF (trP D.im.length (xs.take i))).1)),(3,.row 3 1 1 (idT of)),(4,.row 3 1 2 (idT (zF (trP D.im.length (xs.take i))).2))] 5 154 [.ptr 0 0 13,.any,.any,.own 3 of.length]) (fun i=>i<=xs.length) (fun i=>xs.length-i) ?_ ?_
  ·refine⟨0,by omega,?_⟩;have e0:trP D.im.length (xs.take 0)=[]:=rfl;rw[e0,z0];exact kw1 [(0,some 0),(1,some 1),(2,some 2),(3,some 3),(4,some 4)] (an @bdB.eq_1 (an @rows.eq_1 (an @zH.eq_1 @zM.eq_1)))
  intro i hi;refine rg0 ?_;refine zD ?_;by_cases hlt:i<xs.length
  ·obtain⟨x,hx⟩: ∃x,x=xs[i]:=⟨_,rfl⟩;have hxn:x<D.tb.length:=hx▸hxs _ (by simp);have hgt: ∀h,(nI xs)[i]'h=(x:Int):=fun h=>by simp[nI,hx]
   have hPl:=zRo hL xs i (by omega);have hPn:trP D.im.length (xs.take (i+1))=trP D.im.length (xs.take i)++trA D.im.length x D.im.length:=by rw[zQU _ _ hlt,hx]
   clear hx;refine cK1 @hlt ?_;refine zD ?_;refine zG ?_;refine rg1 (an @hl (an @hlt @hgt)) ?_;refine rg0 ?_;refine zG ?_;generalize trP D.im.length (xs.take i)=P at hPl hPn;refine awp_loop (fun a:Nat=>mkS [(0,.ptr 0 0 13),(1,.t 2 (.int .i64 m)),(7,.t 1 (rows D.tb)),(8,.t 1 (zM D.tw)),(9,.own 4 (zF (P++trA D.im.length x a)).2.length),(13,.t 2 (.int .i64 x)),(56,.t 0 (ints (nI xs))),(57,.t 2 (.int .i64 xs.length)),(58,.t 2 (.int .i64 i)),(66,.t 1 (ints D.im)),(67,.t 2 (.int .i64 D.im.length)),(68,.t 2 (.int .i64 a))]
    [(0,bdB D (zF (P++trA D.im.length x a)).1.length of.length),(1,.row 78 4 1 (zCR (zF (P++trA D.im.length x a)).1)),(2,.map 78 3 (kents ndK 0 (zF (P++trA D.im.length x a)).1)),(3,.row 3 1 1 (idT of)),(4,.row 3 1 2 (idT (zF (P++trA D.im.length x a)).2))] 5 154 [.ptr 0 0 13,.any,.any,.own 3 of.length]) (fun a=>a<=D.im.length) (fun a=>D.im.length-a) ?_ ?_
   ·refine⟨0,by omega,?_⟩;have e0:P++trA D.im.length x 0=P:=by rw[zQf,List.append_nil]
    rw[e0];exact kw1 [(0,some 0),(1,some 1),(2,some 2),(3,some 3),(4,some 4)] (an @bdB.eq_1 (an @rows.eq_1 (an @zH.eq_1 @zM.eq_1)))
   intro a ha;refine rg0 ?_;refine zD ?_;by_cases hla:a<D.im.length
   ·obtain⟨hga,hv⟩:=hD.img hla;have hAl:=zIs D.im.length x a;have hAm:=zUx (Nat.le_of_lt hla) hL;have hAn:P++trA D.im.length x (a+1)=(P++trA D.im.length x a)++trQ x a D.im.length:=by rw[zLO,List.append_assoc]
    have hQl:(P++trA D.im.length x a).length<=36*i+36:=by rw[List.length_append,hAl];omega
    refine cK1 @hla ?_;refine zD ?_;refine zG ?_;refine rg1 (an @hla @hga) ?_;refine rg0 ?_;refine zG ?_;generalize P++trA D.im.length x a=Q at hQl hAn;refine awp_loop (fun d:Nat=>mkS [(0,.ptr 0 0 13),(1,.t 2 (.int .i64 m)),(7,.t 1 (rows D.tb)),(8,.t 1 (zM D.tw)),(9,.own 4 (zF (Q++trQ x a d)).2.length),(13,.t 2 (.int .i64 x)),(14,.t 2 (.int .i64 a)),(15,.t 2 (.int .i64 (imN D.im a:Nat))),(56,.t 0 (ints (nI xs))),(57,.t 2 (.int .i64 xs.length)),(58,.t 2 (.int .i64 i)),(66,.t 1 (ints D.im)),(67,.t 2 (.int .i64 D.im.length)),(68,.t 2 (.int .i64 a)),(77,.t 1 (ints D.im)),(78,.t 2 (.int .i64 D.im.length)),(79,.t 2 (.int .i64 d))]
     [(0,bdB D (zF (Q++trQ x a d)).1.length of.length),(1,.row 78 4 1 (zCR (zF (Q++trQ x a d)).1)),(2,.map 78 3 (kents ndK 0 (zF (Q++trQ x a d)).1)),(3,.row 3 1 1 (idT of)),(4,.row 3 1 2 (idT (zF (Q++trQ x a d)).2))] 5 154 [.ptr 0 0 13,.any,.any,.own 3 of.length]) (fun d=>d<=D.im.length) (fun d=>D.im.length-d) ?_ ?_
    ·refine⟨0,by omega,?_⟩;have e0:Q++trQ x a 0=Q:=by rw[zQd,List.append_nil]
     rw[e0];exact kw1 [(0,some 0),(1,some 1),(2,some 2),(3,some 3),(4,some 4)] (an @bdB.eq_1 (an @rows.eq_1 (an @zH.eq_1 @zM.eq_1)))
    intro d hd;refine rg0 ?_;refine zD ?_;by_cases hld:d<D.im.length
    ·obtain⟨hgd,hz⟩:=hD.img hld;have hdl:=zNA x a d;have hlQ:(Q++trQ x a d).length<=36*i+42:=by rw[List.length_append,hdl];omega
     obtain⟨zl1,zl2⟩:=zL (Q++trQ x a d);have hsn:zF (Q++trQ x a (d+1))=zOc (fun x=>of.getD x 0) (c3D D m x a d) x a d (zF (Q++trQ x a d)):=by rw[zQj,←List.append_assoc,zS]
     have hlen1:(zF (Q++trQ x a d)).1.length<=60000:=by omega
     have hlen2:(zF (Q++trQ x a d)).2.length<=60000:=by omega
     generalize zF (Q++trQ x a d)=s at hsn hlen1 hlen2;clear zl1 zl2 hlQ hdl;have hc3:c3D D m x a d=(zCT D.tw (zQ D.tb (imN D.im a) x) m&&zCT D.tw (zQ D.tb x (imN D.im d)) m&& !zCT D.tw (zQ D.tb (zQ D.tb (imN D.im a) x) (imN D.im d)) m):=rfl;rw[hc3]at hsn;clear hc3;obtain⟨r1,hr1,hr1l,hr1f⟩:=hD.row hv;obtain⟨hr1e,hyx⟩:=hr1f x hxn;clear hr1f;obtain⟨r2,hr2,hr2l,hr2f⟩:=hD.row hxn;obtain⟨hr2e,hxz⟩:=hr2f _ hz;clear hr2f;obtain⟨r3,hr3,hr3l,hr3f⟩:=hD.row hyx;obtain⟨hr3e,hyz⟩:=hr3f _ hz;clear hr3f;obtain⟨q1,hq1x,hq1,hq1l,hq1f⟩:=hD.tw.row hyx;have hq1m:=hq1f m hm;clear hq1f;obtain⟨q2,hq2x,hq2,hq2l,hq2f⟩:=hD.tw.row hxz;have hq2m:=hq2f m hm;clear hq2f;obtain⟨q3,hq3x,hq3,hq3l,hq3f⟩:=hD.tw.row hyz;have hq3m:=hq3f m hm;clear hq3f;generalize zQ D.tb (zQ D.tb (imN D.im a) x) (imN D.im d)=yz at*
     generalize zQ D.tb (imN D.im a) x=yx at*
     generalize zQ D.tb x (imN D.im d)=xz at*
     generalize zCT D.tw yx m=b1 at*
     generalize zCT D.tw xz m=b2 at*
     generalize zCT D.tw yz m=b3 at*
     generalize imN D.im d=z at*
     generalize imN D.im a=v at*
     refine cK1 @hld ?_;refine zD ?_;refine zG ?_;refine rg1 (an @hld @hgd) ?_;refine rd1 (an @hr1 (an @hr1l (an @hr1e (an @hr2 (an @hr2l (an @hr2e (an @hv (an @hxn @hz)))))))) ?_
     cases b1 with
     |false=>
      refine rg1 (an @zM.eq_1 (an @zH.eq_1 (an @hq1x (an @hq1 (an @hq1l (an @hq1m (an @hq2x (an @hq2 (an @hq2l (an @hq2m (an @hq3x (an @hq3 (an @hq3l (an @hq3m (an @hr3 (an @hr3l (an @hr3e (an @hm (an @hyx (an @hxz (an @hyz @hz))))))))))))))))))))) ?_;refine cY0 ?_;refine rr0 ?_;refine⟨d+1,by omega,by omega,?_⟩;rw[hsn];exact kw1 [(0,some 0),(1,some 1),(2,some 2),(3,some 3),(4,some 4)] (an @bdB.eq_1 (an @rows.eq_1 (an @zH.eq_1 (an @zM.eq_1 @zOc.eq_1))))
     |true=>
     cases b2 with
     |false=>
      refine rg1 (an @zM.eq_1 (an @zH.eq_1 (an @hq1x (an @hq1 (an @hq1l (an @hq1m (an @hq2x (an @hq2 (an @hq2l (an @hq2m (an @hq3x (an @hq3 (an @hq3l (an @hq3m (an @hr3 (an @hr3l (an @hr3e (an @hm (an @hyx (an @hxz (an @hyz @hz))))))))))))))))))))) ?_;refine cY0 ?_;refine rr0 ?_;refine⟨d+1,by omega,by omega,?_⟩;rw[hsn];exact kw1 [(0,some 0),(1,some 1),(2,some 2),(3,some 3),(4,some 4)] (an @bdB.eq_1 (an @rows.eq_1 (an @zH.eq_1 (an @zM.eq_1 @zOc.eq_1))))
     |true=>
     cases b3 with
     |true=>
      refine rg1 (an @zM.eq_1 (an @zH.eq_1 (an @hq1x (an @hq1 (an @hq1l (an @hq1m (an @hq2x (an @hq2 (an @hq2l (an @hq2m (an @hq3x (an @hq3 (an @hq3l (an @hq3m (an @hr3 (an @hr3l (an @hr3e (an @hm (an @hyx (an @hxz (an @hyz @hz))))))))))))))))))))) ?_;refine cY0 ?_;refine rr0 ?_;refine⟨d+1,by omega,by omega,?_⟩;rw[hsn];exact kw1 [(0,some 0),(1,some 1),(2,some 2),(3,some 3),(4,some 4)] (an @bdB.eq_1 (an @rows.eq_1 (an @zH.eq_1 (an @zM.eq_1 @zOc.eq_1))))
     |false=>
      have hofx:=zJs (of:=of) (x:=x) (by omega);have hxo:x<of.length:=by omega
      have hst:zF (Q++trQ x a (d+1))=((f3D (fun x=>of.getD x 0) s.1 x a d).1,s.2++[(f3D (fun x=>of.getD x 0) s.1 x a d).2]):=hsn;unfold f3D at hst;have l1:=zl s.1 (3,a,0,0);have k1:=zDw D s.1 of a (by omega);have ea:f3A s.1 a=addG s.1 (3,a,0,0):=rfl;rw[←ea]at l1 k1;have eb:f3B (fun x=>of.getD x 0) s.1 x a=addG (f3A s.1 a).1 (7,0,(f3A s.1 a).2,of.getD x 0):=rfl;have ec:f3C (fun x=>of.getD x 0) s.1 x a d=addG (f3B (fun x=>of.getD x 0) s.1 x a).1 (3,d,0,0):=rfl;clear ea;generalize f3A s.1 a=s1' at l1 k1 eb;have l2:=zl s1'.1 (7,0,s1'.2,of.getD x 0);have k2:=zCe D s1'.1 of s1'.2 (of.getD x 0) (by omega);rw[←eb]at l2 k2;clear eb;generalize f3B (fun x=>of.getD x 0) s.1 x a=s2' at l2 k2 ec hst;have l3:=zl s2'.1 (3,d,0,0);have k3:=zDw D s2'.1 of d (by omega);rw[←ec]at l3 k3;clear ec;generalize f3C (fun x=>of.getD x 0) s.1 x a d=s3' at l3 k3 hst;have k4:=zCe D s3'.1 of s2'.2 s3'.2 (by omega);generalize addG s3'.1 (7,0,s2'.2,s3'.2)=s4' at k4 hst;generalize of.getD x 0=nx at*
      clear hsn;refine rg1 (an @zM.eq_1 (an @zH.eq_1 (an @hq1x (an @hq1 (an @hq1l (an @hq1m (an @hq2x (an @hq2 (an @hq2l (an @hq2m (an @hq3x (an @hq3 (an @hq3l (an @hq3m (an @hr3 (an @hr3l (an @hr3e (an @hm (an @hyx (an @hxz (an @hyz @hz))))))))))))))))))))) ?_;refine cT0 ?_;refine zd (σ':=mkS [(0,.ptr 0 0 13),(1,.t 2 (.int .i64 m)),(7,.t 1 (rows D.tb)),(8,.t 1 (zM D.tw)),(9,.own 4 s.2.length),(13,.t 2 (.int .i64 x)),(14,.t 2 (.int .i64 a)),(15,.t 2 (.int .i64 v)),(16,.t 2 (.int .i64 d)),(56,.t 0 (ints (nI xs))),(57,.t 2 (.int .i64 xs.length)),(58,.t 2 (.int .i64 i)),(66,.t 1 (ints D.im)),(67,.t 2 (.int .i64 D.im.length)),(68,.t 2 (.int .i64 a)),(77,.t 1 (ints D.im)),(78,.t 2 (.int .i64 D.im.length)),(79,.t 2 (.int .i64 d))]
        [(0,bdB D s.1.length of.length),(1,.row 78 4 1 (zCR s.1)),(2,.map 78 3 (kents ndK 0 s.1)),(3,.row 3 1 1 (idT of)),(4,.row 3 1 2 (idT s.2))] 5 154 [.ptr 0 0 13,.any,.any,.own 3 of.length]) ?_ ?_
      ·exact kw1 [(0,some 0),(1,some 1),(2,some 2),(3,some 3),(4,some 4)] (an @bdB.eq_1 (an @rows.eq_1 (an @zH.eq_1 @zM.eq_1)))
      refine zE4 [0] [(0,12)] (by kernel_rfl) (by kernel_rfl) (fun K hK=>?_);simp[ints,rows,bdB]
      (repeat' apply And.intro)
      all_goals (try first|omega|(show okH _ _ _=true;kernel_rfl))
      refine zAQ (caps:=[]) (k1) [0,1,2,3] [0,5000005,5000006,3] 1 [3] rfl rfl rfl rfl (by kernel_rfl) (by simp) ?_ ?_ (by simp) rfl (by simp) ⟨.inr (.inl ⟨rfl,0,_,_,_,_,_,rfl,rfl,(by first|rfl|simp[bdO,bdB,zM,zH]),rfl,(by first|rfl|simp[bdO,bdB,zM,zH])⟩),.inl ⟨by omega,by omega⟩,.inl ⟨by omega,by omega⟩,.inr (.inr ⟨rfl,by simp,by simp[bdO,bdB,zM,zH]⟩),trivial⟩ (by simp[bdO,bdB,zM,zH]) (by intro k hk;simp at hk;simp[hk]) ?_ ?_
      ·simp[scal,zM,zH]
      ·simp[scal,rows,ints,bdO,bdB,zM,zH]
      ·simp[sameK,scal,rows,ints,bdO,bdB,zM,zH]
      simp(maxSteps:=2000000)(disch:=omega)[ints,rows,scal,hofx,hxo,bdO,bdB]
      (repeat' apply And.intro)
      all_goals (try first|omega|(show okH _ _ _=true;kernel_rfl))
      refine zAQ (caps:=[]) (k2) [0,5000005,5000006,3] [0,13000005,13000006,3] 1 [3] rfl rfl rfl rfl (by kernel_rfl) (by simp) ?_ ?_ (by simp) rfl (by simp) ⟨.inr (.inl ⟨rfl,0,_,_,_,_,_,rfl,rfl,(by first|rfl|simp[bdO,bdB,zM,zH]),rfl,(by first|rfl|simp[bdO,bdB,zM,zH])⟩),.inl ⟨by omega,by omega⟩,.inl ⟨by omega,by omega⟩,.inr (.inr ⟨rfl,by simp,by simp[bdO,bdB,zM,zH]⟩),trivial⟩ (by simp[bdO,bdB,zM,zH]) (by intro k hk;simp at hk;simp[hk]) ?_ ?_
      ·simp[scal,zM,zH]
      ·simp[scal,rows,ints,bdO,bdB,zM,zH]
      ·simp[sameK,scal,rows,ints,bdO,bdB,zM,zH]
      simp[ints,rows,scal,bdO,bdB]
      (repeat' apply And.intro)
      all_goals (try first|omega|(show okH _ _ _=true;kernel_rfl))
      refine zAQ (caps:=[]) (k3) [0,13000005,13000006,3] [0,16000005,16000006,3] 1 [3] rfl rfl rfl rfl (by kernel_rfl) (by simp) ?_ ?_ (by simp) rfl (by simp) ⟨.inr (.inl ⟨rfl,0,_,_,_,_,_,rfl,rfl,(by first|rfl|simp[bdO,bdB,zM,zH]),rfl,(by first|rfl|simp[bdO,bdB,zM,zH])⟩),.inl ⟨by omega,by omega⟩,.inl ⟨by omega,by omega⟩,.inr (.inr ⟨rfl,by simp,by simp[bdO,bdB,zM,zH]⟩),trivial⟩ (by simp[bdO,bdB,zM,zH]) (by intro k hk;simp at hk;simp[hk]) ?_ ?_
      ·simp[scal,zM,zH]
      ·simp[scal,rows,ints,bdO,bdB,zM,zH]
      ·simp[sameK,scal,rows,ints,bdO,bdB,zM,zH]
      simp[ints,rows,scal,bdO,bdB]
      (repeat' apply And.intro)
      all_goals (try first|omega|(show okH _ _ _=true;kernel_rfl))
      refine zAQ (caps:=[]) (k4) [0,16000005,16000006,3] [0,17000005,17000006,3] 1 [3] rfl rfl rfl rfl (by kernel_rfl) (by simp) ?_ ?_ (by simp) rfl (by simp) ⟨.inr (.inl ⟨rfl,0,_,_,_,_,_,rfl,rfl,(by first|rfl|simp[bdO,bdB,zM,zH]),rfl,(by first|rfl|simp[bdO,bdB,zM,zH])⟩),.inl ⟨by omega,by omega⟩,.inl ⟨by omega,by omega⟩,.inr (.inr ⟨rfl,by simp,by simp[bdO,bdB,zM,zH]⟩),trivial⟩ (by simp[bdO,bdB,zM,zH]) (by intro k hk;simp at hk;simp[hk]) ?_ ?_
      ·simp[scal,zM,zH]
      ·simp[scal,rows,ints,bdO,bdB,zM,zH]
      ·simp[sameK,scal,rows,ints,bdO,bdB,zM,zH]
      simp[ints,rows,scal,bdO,bdB,zM,zH];and_intros<;>try first|apply hK|(show zAf _ _=true;kernel_rfl)|(show okH _ _ _=true;kernel_rfl)|omega|rfl|simp<;>omega
      refine rr0 ?_;refine⟨d+1,by omega,by omega,?_⟩;rw[hst];exact kw1 [(0,some 0),(1,some 17000005),(2,some 17000006),(3,some 3),(4,some 4)] (an @bdB.eq_1 (an @rows.eq_1 (an @zH.eq_1 (an @zM.eq_1 @idT.eq_1))))
    ·obtain rfl:d=D.im.length:=by omega
     refine cF0 ?_;refine zK ?_;refine rr0 ?_;refine⟨a+1,by omega,by omega,?_⟩;rw[hAn];exact kw1 [(0,some 0),(1,some 1),(2,some 2),(3,some 3),(4,some 4)] (an @bdB.eq_1 (an @rows.eq_1 (an @zH.eq_1 @zM.eq_1)))
   ·obtain rfl:a=D.im.length:=by omega
    refine cF0 ?_;refine zK ?_;refine rr0 ?_;refine⟨i+1,by omega,by omega,?_⟩;rw[hPn];exact kw1 [(0,some 0),(1,some 1),(2,some 2),(3,some 3),(4,some 4)] (an @bdB.eq_1 (an @rows.eq_1 (an @zH.eq_1 @zM.eq_1)))
  ·obtain rfl:i=xs.length:=by omega
   have ef:xs.take xs.length=xs:=List.take_length;rw[ef];refine cF0 ?_;refine zK ?_;refine rg0 ?_;refine zI ?_;refine⟨⟨.inr rfl,_,[(0,some 0),(1,some 1),(2,some 2),(3,some 3)],(by first|rfl|(simp[ints,rows,scal,tpO,bdO,bdB,zM,zH,nI,idT];rfl)),?_,?_,?_,?_⟩,?_⟩
   all_goals try simp[ints,rows,bdO,bdB,zM,zH,nI,idT]
theorem zRa{L:Nat}(hL:L<=6)(xs:List Nat)(i:Nat):(elP L (xs.take i)).length<=6*i:=by
 rw[zOr];have h1:(xs.take i).length<=i:=by simp;omega
 calc(xs.take i).length*L<=i*6:=Nat.mul_le_mul h1 hL
  _=6*i:=Nat.mul_comm _ _
theorem zRD(ns:List Nd)(l:List Nat):(zFF ns l).1.length<=ns.length+l.length+6:=by
 unfold zFF;split
 ·have:=zl ns (4,0,0,0);omega
 ·simp only;have h1:=zl ns (4,0,0,0);generalize addG ns (4,0,0,0)=s1 at h1 ⊢;have h2:=zEa s1.1 l;generalize zEQ s1.1 l=s2 at h2 ⊢;have h3:=zl s2.1 (4,0,0,0);generalize addG s2.1 (4,0,0,0)=s3 at h3 ⊢;have h4:=zl s3.1 (7,0,s2.2,s3.2);generalize addG s3.1 (7,0,s2.2,s3.2)=s4 at h4 ⊢;have h5:=zl s4.1 (7,0,s1.2,s4.2);generalize addG s4.1 (7,0,s1.2,s4.2)=s5 at h5 ⊢;have h6:=zl s5.1 (8,0,s5.2,0);omega
def zDu(D:zDd):AObj:=.box 64 [.t 1 (zM D.rt),.t 1 (zM D.lf),.t 1 (zM D.tw),.t 1 (ints D.od)]
theorem zSA(D:zDd)(hD:BOk D)(ns:List Nd)(of:List Nat)(m:Nat)(xs:List Nat)(hm:m<D.tb.length)(hof:of.length=D.tb.length)(hxs: ∀x∈xs,x<D.tb.length)(hxl:xs.length<=60)(hn:ns.length<=30000):FnK Tryz.prog 31 [.ptr 0 0 13,.t 2 (.int .i64 m),.t 0 (ints (nI xs))] (bdO D ns of) (.t 2 (.int .i64 ((zU6 D of m xs ns).2:Nat))) (bdO D (zU6 D of m xs ns).1 of) [3]:=by
 have hL:=hD.L6;have hN:=hD.n60;have hl:(nI xs).length=xs.length:=zEg xs;refine zAb [(3,.own 3 of.length)] (fun j p hp=>zPX j p hp) Tryz.func31 rfl (by simp[Tryz.f31]) ?_;rw[show Tryz.f31.ntmps=183 from rfl,show Tryz.f31.results= #[.tmp 6]from rfl];refine rg1 (an @bdO.eq_1 (an @bdB.eq_1 (an @zM.eq_1 @zH.eq_1))) ?_;refine rd0 ?_;refine rg0 ?_;refine zD ?_;refine rg1 @hl ?_;refine zG ?_;obtain⟨zF,hzF⟩: ∃zF:List (Nat×Nat)->ElS,zF=fun ps=>elF (fun x=>of.getD x 0) (cbD D m) (ceD D m) ps (ns,[],[]):=⟨_,rfl⟩
 have z0:zF []=(ns,[],[]):=by rw[hzF];rfl
 have zS: ∀ps x a,zF (ps++[(x,a)])=stE (fun x=>of.getD x 0) (ceD D m x a) x a (stB (fun x=>of.getD x 0) (cbD D m x a) x a (zF ps)):=fun ps x a=>by rw[hzF];exact zGH _ _ _ _ _ _
 have zL: ∀ps,(zF ps).1.length<=ns.length+4*ps.length/\(zF ps).2.1.length<=ps.length/\(zF ps).2.2.length<=ps.length:=fun ps=>by
  rw[hzF];have:=zOe (fun x=>of.getD x 0) (cbD D m) (ceD D m) ps (ns,[],[]);simpa using this
 have zE:zU6 D of m xs ns=(if(fb3 (fun x=>of.getD x 0) (c3D D m) (trP D.im.length xs) (fb1 (c1D D m) (zIj (zF (elP D.im.length xs))).1 D.im.length)).2=[]then((fb3 (fun x=>of.getD x 0) (c3D D m) (trP D.im.length xs) (fb1 (c1D D m) (zIj (zF (elP D.im.length xs))).1 D.im.length)).1,(zIj (zF (elP D.im.length xs))).2)else addG (zFF (fb3 (fun x=>of.getD x 0) (c3D D m) (trP D.im.length xs) (fb1 (c1D D m) (zIj (zF (elP D.im.length xs))).1 D.im.length)).1 (fb3 (fun x=>of.getD x 0) (c3D D m) (trP D.im.length xs) (fb1 (c1D D m) (zIj (zF (elP D.im.length xs))).1 D.im.length)).2).1 (6,0,(zIj (zF (elP D.im.length xs))).2,(zFF (fb3 (fun x=>of.getD x 0) (c3D D m) (trP D.im.length xs) (fb1 (c1D D m) (zIj (zF (elP D.im.length xs))).1 D.im.length)).1 (fb3 (fun x=>of.getD x 0) (c3D D m) (trP D.im.length xs) (fb1 (c1D D m) (zIj (zF (elP D.im.length xs))).1 D.im.length)).2).2)):=by rw[hzF];rfl
 rw[zE];clear hzF zE;refine awp_loop (fun i:Nat=>mkS [(0,.ptr 0 0 13),(1,.t 2 (.int .i64 m)),(2,.t 0 (ints (nI xs))),(7,.t 1 (rows D.tb)),(8,.ptr 4 0 4),(9,.own 5 (zF (elP D.im.length (xs.take i))).2.1.length),(10,.own 6 (zF (elP D.im.length (xs.take i))).2.2.length),(30,.t 0 (ints (nI xs))),(31,.t 2 (.int .i64 xs.length)),(32,.t 2 (.int .i64 i))]
   [(0,bdB D (zF (elP D.im.length (xs.take i))).1.length of.length),(1,.row 78 4 1 (zCR (zF (elP D.im.length (xs.take i))).1)),(2,.map 78 3 (kents ndK 0 (zF (elP D.im.length (xs.take i))).1)),(3,.row 3 1 1 (idT of)),(4,zDu D),(5,.row 3 1 2 (idT (zF (elP D.im.length (xs.take i))).2.1)),(6,.row 3 1 2 (idT (zF (elP D.im.length (xs.take i))).2.2))] 7 183 [.ptr 0 0 13,.any,.any,.own 3 of.length]) (fun i=>i<=xs.length) (fun i=>xs.length-i) ?_ ?_
 ·refine⟨0,by omega,?_⟩;have e0:elP D.im.length (xs.take 0)=[]:=rfl;rw[e0,z0];exact kw1 [(0,some 0),(1,some 1),(2,some 2),(3,some 3),(4,some 10000004),(5,none),(6,none)] (an @bdB.eq_1 (an @rows.eq_1 (an @zH.eq_1 (an @zM.eq_1 (an @zDu.eq_1 @idT.eq_1)))))
 intro i hi;refine rg0 ?_;refine zD ?_;by_cases hlt:i<xs.length
 ·obtain⟨x,hx⟩: ∃x,x=xs[i]:=⟨_,rfl⟩;have hxn:x<D.tb.length:=hx▸hxs _ (by simp);have hgt: ∀h,(nI xs)[i]'h=(x:Int):=fun h=>by simp[nI,hx]
  have hPl:=zRa hL xs i;have hPn:elP D.im.length (xs.take (i+1))=elP D.im.length (xs.take i)++elQ x D.im.length:=by rw[zP1 _ _ hlt,hx]
  clear hx;refine cK1 @hlt ?_;refine zD ?_;refine zG ?_;refine rg1 (an @hl (an @hlt @hgt)) ?_;refine rg1 (an @bdB.eq_1 (an @zH.eq_1 @zM.eq_1)) ?_;refine zG ?_;generalize elP D.im.length (xs.take i)=P at hPl hPn;refine awp_loop (fun a:Nat=>mkS [(0,.ptr 0 0 13),(1,.t 2 (.int .i64 m)),(2,.t 0 (ints (nI xs))),(7,.t 1 (rows D.tb)),(8,.ptr 4 0 4),(9,.own 5 (zF (P++elQ x a)).2.1.length),(10,.own 6 (zF (P++elQ x a)).2.2.length),(12,.t 2 (.int .i64 x)),(30,.t 0 (ints (nI xs))),(31,.t 2 (.int .i64 xs.length)),(32,.t 2 (.int .i64 i)),(40,.t 1 (ints D.im)),(41,.t 2 (.int .i64 D.im.length)),(42,.t 2 (.int .i64 a))]
   [(0,bdB D (zF (P++elQ x a)).1.length of.length),(1,.row 78 4 1 (zCR (zF (P++elQ x a)).1)),(2,.map 78 3 (kents ndK 0 (zF (P++elQ x a)).1)),(3,.row 3 1 1 (idT of)),(4,zDu D),(5,.row 3 1 2 (idT (zF (P++elQ x a)).2.1)),(6,.row 3 1 2 (idT (zF (P++elQ x a)).2.2))] 7 183 [.ptr 0 0 13,.any,.any,.own 3 of.length]) (fun a=>a<=D.im.length) (fun a=>D.im.length-a) ?_ ?_
  ·refine⟨0,by omega,?_⟩;have e0:P++elQ x 0=P:=by rw[zP0,List.append_nil]
   rw[e0];exact kw1 [(0,some 0),(1,some 1),(2,some 2),(3,some 3),(4,some 4),(5,some 5),(6,some 6)] (an @bdB.eq_1 (an @rows.eq_1 (an @zH.eq_1 (an @zM.eq_1 @zDu.eq_1))))
  intro a ha;refine rg0 ?_;refine zD ?_;by_cases hla:a<D.im.length
  ·obtain⟨hga,hv⟩:=hD.img hla;have hAl:=zMs x a;have hQl:(P++elQ x a).length<=6*i+6:=by rw[List.length_append,hAl];omega
   obtain⟨zl1,zl2,zl3⟩:=zL (P++elQ x a);have hsn:zF (P++elQ x (a+1))=stE (fun x=>of.getD x 0) (ceD D m x a) x a (stB (fun x=>of.getD x 0) (cbD D m x a) x a (zF (P++elQ x a))):=by rw[zPb,←List.append_assoc,zS]
   have hlen1:(zF (P++elQ x a)).1.length<=40000:=by omega
   have hlen2:(zF (P++elQ x a)).2.1.length<=40000:=by omega
   have hlen3:(zF (P++elQ x a)).2.2.length<=40000:=by omega
   generalize zF (P++elQ x a)=s at hsn hlen1 hlen2 hlen3;clear zl1 zl2 zl3 hAl hQl;have hcb:cbD D m x a=(zCT D.rt m (zQ D.tb x (imN D.im a))&&zCT D.rt (zQ D.tb x (imN D.im a)) m&& !zCT D.rt m x):=rfl;have hce:ceD D m x a=(zCT D.lf m (zQ D.tb (imN D.im a) x)&&zCT D.lf (zQ D.tb (imN D.im a) x) m&& !zCT D.lf m x):=rfl;rw[hcb,hce]at hsn;clear hcb hce;obtain⟨r1,hr1,hr1l,hr1f⟩:=hD.row hv;obtain⟨hr1e,hyx⟩:=hr1f x hxn;clear hr1f;obtain⟨r2,hr2,hr2l,hr2f⟩:=hD.row hxn;obtain⟨hr2e,hxy⟩:=hr2f _ hv;clear hr2f;generalize zQ D.tb (imN D.im a) x=yx at*
   generalize zQ D.tb x (imN D.im a)=xy at*
   generalize imN D.im a=v at*
   obtain⟨q1,hq1x,hq1,hq1l,hq1f⟩:=hD.rt.row hm;have hq1y:=hq1f xy hxy;have hq1m:=hq1f x hxn;clear hq1f;obtain⟨q2,hq2x,hq2,hq2l,hq2f⟩:=hD.rt.row hxy;have hq2m:=hq2f m hm;clear hq2f;obtain⟨p1,hp1x,hp1,hp1l,hp1f⟩:=hD.lf.row hm;have hp1y:=hp1f yx hyx;have hp1m:=hp1f x hxn;clear hp1f;obtain⟨p2,hp2x,hp2,hp2l,hp2f⟩:=hD.lf.row hyx;have hp2m:=hp2f m hm;clear hp2f;generalize zCT D.rt m xy=b1 at*
   generalize zCT D.rt xy m=b2 at*
   generalize zCT D.rt m x=b3 at*
   generalize zCT D.lf m yx=d1 at*
   generalize zCT D.lf yx m=d2 at*
   generalize zCT D.lf m x=d3 at*
   have hlb:=(zI1 (fun x=>of.getD x 0) (b1&&b2&& !b3) x a s).1;refine cK1 @hla ?_;refine zD ?_;refine zG ?_;refine rg1 (an @hla @hga) ?_;refine rd1 (an @hr1 (an @hr1l (an @hr1e (an @hr2 (an @hr2l (an @hr2e (an @hv @hxn))))))) ?_;obtain⟨s1,hs1⟩: ∃s1,s1=stB (fun x=>of.getD x 0) (b1&&b2&& !b3) x a s:=⟨_,rfl⟩;rw[←hs1]at hsn hlb;have hlb2:s1.2.1.length<=s.2.1.length+1/\s1.2.2=s.2.2:=hs1▸(zI1 (fun x=>of.getD x 0) (b1&&b2&& !b3) x a s).2;have hlb3:s1.2.2.length<=50000:=by rw[hlb2.2];omega
   have hofx:=zJs (of:=of) (x:=x) (by omega);have hxo:x<of.length:=by omega
   refine zEU (fun σ'=>Wk σ' (mkS [(0,.ptr 0 0 13),(1,.t 2 (.int .i64 m)),(2,.t 0 (ints (nI xs))),(7,.t 1 (rows D.tb)),(8,.ptr 4 0 4),(9,.own 5 s1.2.1.length),(10,.own 6 s1.2.2.length),(12,.t 2 (.int .i64 x)),(13,.t 2 (.int .i64 a)),(16,.t 2 (.int .i64 yx)),(30,.t 0 (ints (nI xs))),(31,.t 2 (.int .i64 xs.length)),(32,.t 2 (.int .i64 i)),(40,.t 1 (ints D.im)),(41,.t 2 (.int .i64 D.im.length)),(42,.t 2 (.int .i64 a))]
     [(0,bdB D s1.1.length of.length),(1,.row 78 4 1 (zCR s1.1)),(2,.map 78 3 (kents ndK 0 s1.1)),(3,.row 3 1 1 (idT of)),(4,zDu D),(5,.row 3 1 2 (idT s1.2.1)),(6,.row 3 1 2 (idT s1.2.2))] 7 183 [.ptr 0 0 13,.any,.any,.own 3 of.length])) ?_ ?_
   ·intro σ' hw;refine zd hw ?_;clear hw hs1 hq1x hq1 hq1l hq1m hq1y hq2x hq2 hq2l hq2m hxy
    cases d1 with
    |false=>
     refine rg1 (an @zDu.eq_1 (an @zM.eq_1 (an @zH.eq_1 (an @hp1x (an @hp1 (an @hp1l (an @hp1m (an @hp1y (an @hp2x (an @hp2 (an @hp2l (an @hp2m (an @hm (an @hyx @hxn)))))))))))))) ?_;refine cY0 ?_;refine rr0 ?_;refine⟨a+1,by omega,by omega,?_⟩;rw[hsn];exact kw1 [(0,some 0),(1,some 1),(2,some 2),(3,some 3),(4,some 4),(5,some 5),(6,some 6)] (an @bdB.eq_1 (an @rows.eq_1 (an @zH.eq_1 (an @zM.eq_1 (an @zDu.eq_1 @stE.eq_1)))))
    |true=>
    cases d2 with
    |false=>
     refine rg1 (an @zDu.eq_1 (an @zM.eq_1 (an @zH.eq_1 (an @hp1x (an @hp1 (an @hp1l (an @hp1m (an @hp1y (an @hp2x (an @hp2 (an @hp2l (an @hp2m (an @hm (an @hyx @hxn)))))))))))))) ?_;refine cY0 ?_;refine rr0 ?_;refine⟨a+1,by omega,by omega,?_⟩;rw[hsn];exact kw1 [(0,some 0),(1,some 1),(2,some 2),(3,some 3),(4,some 4),(5,some 5),(6,some 6)] (an @bdB.eq_1 (an @rows.eq_1 (an @zH.eq_1 (an @zM.eq_1 (an @zDu.eq_1 @stE.eq_1)))))
    |true=>
    cases d3 with
    |true=>
     refine rg1 (an @zDu.eq_1 (an @zM.eq_1 (an @zH.eq_1 (an @hp1x (an @hp1 (an @hp1l (an @hp1m (an @hp1y (an @hp2x (an @hp2 (an @hp2l (an @hp2m (an @hm (an @hyx @hxn)))))))))))))) ?_;refine cY0 ?_;refine rr0 ?_;refine⟨a+1,by omega,by omega,?_⟩;rw[hsn];exact kw1 [(0,some 0),(1,some 1),(2,some 2),(3,some 3),(4,some 4),(5,some 5),(6,some 6)] (an @bdB.eq_1 (an @rows.eq_1 (an @zH.eq_1 (an @zM.eq_1 (an @zDu.eq_1 @stE.eq_1)))))
    |false=>
     have k1:=zDw D s1.1 of a (by omega);have l1:=zl s1.1 (3,a,0,0);have hst:zF (P++elQ x (a+1))=((addG (addG s1.1 (3,a,0,0)).1 (7,0,(addG s1.1 (3,a,0,0)).2,of.getD x 0)).1,s1.2.1,s1.2.2++[(addG (addG s1.1 (3,a,0,0)).1 (7,0,(addG s1.1 (3,a,0,0)).2,of.getD x 0)).2]):=hsn;clear hsn;generalize addG s1.1 (3,a,0,0)=s2 at k1 l1 hst;have k2:=zCe D s2.1 of s2.2 (of.getD x 0) (by omega);generalize addG s2.1 (7,0,s2.2,of.getD x 0)=s3 at k2 hst;generalize of.getD x 0=nx at*
     refine rg1 (an @zDu.eq_1 (an @zM.eq_1 (an @zH.eq_1 (an @hp1x (an @hp1 (an @hp1l (an @hp1m (an @hp1y (an @hp2x (an @hp2 (an @hp2l (an @hp2m (an @hm (an @hyx @hxn)))))))))))))) ?_;refine cT0 ?_;refine zd (σ':=mkS [(0,.ptr 0 0 13),(1,.t 2 (.int .i64 m)),(2,.t 0 (ints (nI xs))),(7,.t 1 (rows D.tb)),(8,.ptr 4 0 4),(9,.own 5 s1.2.1.length),(10,.own 6 s1.2.2.length),(12,.t 2 (.int .i64 x)),(13,.t 2 (.int .i64 a)),(16,.t 2 (.int .i64 yx)),(30,.t 0 (ints (nI xs))),(31,.t 2 (.int .i64 xs.length)),(32,.t 2 (.int .i64 i)),(40,.t 1 (ints D.im)),(41,.t 2 (.int .i64 D.im.length)),(42,.t 2 (.int .i64 a))]
     [(0,bdB D s1.1.length of.length),(1,.row 78 4 1 (zCR s1.1)),(2,.map 78 3 (kents ndK 0 s1.1)),(3,.row 3 1 1 (idT of)),(4,zDu D),(5,.row 3 1 2 (idT s1.2.1)),(6,.row 3 1 2 (idT s1.2.2))] 7 183 [.ptr 0 0 13,.any,.any,.own 3 of.length]) ?_ ?_
     ·exact kw1 [(0,some 0),(1,some 1),(2,some 2),(3,some 3),(4,some 4),(5,some 5),(6,some 6)] (an @bdB.eq_1 (an @rows.eq_1 (an @zH.eq_1 (an @zM.eq_1 @zDu.eq_1))))
     refine zE4 [0] [(0,12)] (by kernel_rfl) (by kernel_rfl) (fun K hK=>?_);simp[ints,rows,bdB]
     (repeat' apply And.intro)
     all_goals (try first|omega|(show okH _ _ _=true;kernel_rfl))
     refine zAQ (caps:=[]) (k1) [0,1,2,3] [0,4000007,4000008,3] 1 [3] rfl rfl rfl rfl (by kernel_rfl) (by simp) ?_ ?_ (by simp) rfl (by simp) ⟨.inr (.inl ⟨rfl,0,_,_,_,_,_,rfl,rfl,(by first|rfl|simp[bdO,bdB,zM,zH]),rfl,(by first|rfl|simp[bdO,bdB,zM,zH])⟩),.inl ⟨by omega,by omega⟩,.inl ⟨by omega,by omega⟩,.inr (.inr ⟨rfl,by simp,by simp[bdO,bdB,zM,zH]⟩),trivial⟩ (by simp[bdO,bdB,zM,zH]) (by intro k hk;simp at hk;simp[hk]) ?_ ?_
     ·simp[scal,zM,zH]
     ·simp[scal,rows,ints,bdO,bdB,zM,zH]
     ·simp[sameK,scal,rows,ints,bdO,bdB,zM,zH]
     simp(maxSteps:=2000000)(disch:=omega)[ints,rows,scal,hofx,hxo,bdO,bdB]
     (repeat' apply And.intro)
     all_goals (try first|omega|(show okH _ _ _=true;kernel_rfl))
     refine zAQ (caps:=[]) (k2) [0,4000007,4000008,3] [0,12000007,12000008,3] 1 [3] rfl rfl rfl rfl (by kernel_rfl) (by simp) ?_ ?_ (by simp) rfl (by simp) ⟨.inr (.inl ⟨rfl,0,_,_,_,_,_,rfl,rfl,(by first|rfl|simp[bdO,bdB,zM,zH]),rfl,(by first|rfl|simp[bdO,bdB,zM,zH])⟩),.inl ⟨by omega,by omega⟩,.inl ⟨by omega,by omega⟩,.inr (.inr ⟨rfl,by simp,by simp[bdO,bdB,zM,zH]⟩),trivial⟩ (by simp[bdO,bdB,zM,zH]) (by intro k hk;simp at hk;simp[hk]) ?_ ?_
     ·simp[scal,zM,zH]
     ·simp[scal,rows,ints,bdO,bdB,zM,zH]
     ·simp[sameK,scal,rows,ints,bdO,bdB,zM,zH]
     simp[ints,rows,scal,bdO,bdB,zM,zH];and_intros<;>try first|apply hK|(show zAf _ _=true;kernel_rfl)|(show okH _ _ _=true;kernel_rfl)|omega|rfl|simp<;>omega
     refine rr0 ?_;refine⟨a+1,by omega,by omega,?_⟩;rw[hst];exact kw1 [(0,some 0),(1,some 12000007),(2,some 12000008),(3,some 3),(4,some 4),(5,some 5),(6,some 6)] (an @bdB.eq_1 (an @rows.eq_1 (an @zH.eq_1 (an @zM.eq_1 (an @zDu.eq_1 @idT.eq_1)))))
   ·clear hsn hp1x hp1 hp1l hp1m hp1y hp2x hp2 hp2l hp2m hlb hlb2 hlb3
    cases b1 with
    |false=>
     refine rg1 (an @zDu.eq_1 (an @zM.eq_1 (an @zH.eq_1 (an @hq1x (an @hq1 (an @hq1l (an @hq1m (an @hq1y (an @hq2x (an @hq2 (an @hq2l (an @hq2m (an @hm (an @hxy @hxn)))))))))))))) ?_;refine cF0 ?_;refine zY ?_;show Wk _ _;rw[hs1];exact kw1 [(0,some 0),(1,some 1),(2,some 2),(3,some 3),(4,some 4),(5,some 5),(6,some 6)] (an @bdB.eq_1 (an @rows.eq_1 (an @zH.eq_1 (an @zM.eq_1 (an @zDu.eq_1 @stB.eq_1)))))
    |true=>
    cases b2 with
    |false=>
     refine rg1 (an @zDu.eq_1 (an @zM.eq_1 (an @zH.eq_1 (an @hq1x (an @hq1 (an @hq1l (an @hq1m (an @hq1y (an @hq2x (an @hq2 (an @hq2l (an @hq2m (an @hm (an @hxy @hxn)))))))))))))) ?_;refine cF0 ?_;refine zY ?_;show Wk _ _;rw[hs1];exact kw1 [(0,some 0),(1,some 1),(2,some 2),(3,some 3),(4,some 4),(5,some 5),(6,some 6)] (an @bdB.eq_1 (an @rows.eq_1 (an @zH.eq_1 (an @zM.eq_1 (an @zDu.eq_1 @stB.eq_1)))))
    |true=>
    cases b3 with
    |true=>
     refine rg1 (an @zDu.eq_1 (an @zM.eq_1 (an @zH.eq_1 (an @hq1x (an @hq1 (an @hq1l (an @hq1m (an @hq1y (an @hq2x (an @hq2 (an @hq2l (an @hq2m (an @hm (an @hxy @hxn)))))))))))))) ?_;refine cF0 ?_;refine zY ?_;show Wk _ _;rw[hs1];exact kw1 [(0,some 0),(1,some 1),(2,some 2),(3,some 3),(4,some 4),(5,some 5),(6,some 6)] (an @bdB.eq_1 (an @rows.eq_1 (an @zH.eq_1 (an @zM.eq_1 (an @zDu.eq_1 @stB.eq_1)))))
    |false=>
     have k1:=zDw D s.1 of a (by omega);have l1:=zl s.1 (3,a,0,0);have hst:s1=((addG (addG s.1 (3,a,0,0)).1 (7,0,of.getD x 0,(addG s.1 (3,a,0,0)).2)).1,s.2.1++[(addG (addG s.1 (3,a,0,0)).1 (7,0,of.getD x 0,(addG s.1 (3,a,0,0)).2)).2],s.2.2):=hs1;clear hs1;generalize addG s.1 (3,a,0,0)=s2 at k1 l1 hst;have k2:=zCe D s2.1 of (of.getD x 0) s2.2 (by omega);generalize addG s2.1 (7,0,of.getD x 0,s2.2)=s3 at k2 hst;generalize of.getD x 0=nx at*
     refine rg1 (an @zDu.eq_1 (an @zM.eq_1 (an @zH.eq_1 (an @hq1x (an @hq1 (an @hq1l (an @hq1m (an @hq1y (an @hq2x (an @hq2 (an @hq2l (an @hq2m (an @hm (an @hxy @hxn)))))))))))))) ?_;refine cT0 ?_;refine zd (σ':=mkS [(0,.ptr 0 0 13),(1,.t 2 (.int .i64 m)),(2,.t 0 (ints (nI xs))),(7,.t 1 (rows D.tb)),(8,.ptr 4 0 4),(9,.own 5 s.2.1.length),(10,.own 6 s.2.2.length),(12,.t 2 (.int .i64 x)),(13,.t 2 (.int .i64 a)),(16,.t 2 (.int .i64 yx)),(30,.t 0 (ints (nI xs))),(31,.t 2 (.int .i64 xs.length)),(32,.t 2 (.int .i64 i)),(40,.t 1 (ints D.im)),(41,.t 2 (.int .i64 D.im.length)),(42,.t 2 (.int .i64 a))]
     [(0,bdB D s.1.length of.length),(1,.row 78 4 1 (zCR s.1)),(2,.map 78 3 (kents ndK 0 s.1)),(3,.row 3 1 1 (idT of)),(4,zDu D),(5,.row 3 1 2 (idT s.2.1)),(6,.row 3 1 2 (idT s.2.2))] 7 183 [.ptr 0 0 13,.any,.any,.own 3 of.length]) ?_ ?_
     ·exact kw1 [(0,some 0),(1,some 1),(2,some 2),(3,some 3),(4,some 4),(5,some 5),(6,some 6)] (an @bdB.eq_1 (an @rows.eq_1 (an @zH.eq_1 (an @zM.eq_1 @zDu.eq_1))))
     refine zE4 [0] [(0,12)] (by kernel_rfl) (by kernel_rfl) (fun K hK=>?_);simp(maxSteps:=2000000)(disch:=omega)[ints,rows,bdB,hofx,hxo]
     (repeat' apply And.intro)
     all_goals (try first|omega|(show okH _ _ _=true;kernel_rfl))
     refine zAQ (caps:=[]) (k1) [0,1,2,3] [0,11000007,11000008,3] 1 [3] rfl rfl rfl rfl (by kernel_rfl) (by simp) ?_ ?_ (by simp) rfl (by simp) ⟨.inr (.inl ⟨rfl,0,_,_,_,_,_,rfl,rfl,(by first|rfl|simp[bdO,bdB,zM,zH]),rfl,(by first|rfl|simp[bdO,bdB,zM,zH])⟩),.inl ⟨by omega,by omega⟩,.inl ⟨by omega,by omega⟩,.inr (.inr ⟨rfl,by simp,by simp[bdO,bdB,zM,zH]⟩),trivial⟩ (by simp[bdO,bdB,zM,zH]) (by intro k hk;simp at hk;simp[hk]) ?_ ?_
     ·simp[scal,zM,zH]
     ·simp[scal,rows,ints,bdO,bdB,zM,zH]
     ·simp[sameK,scal,rows,ints,bdO,bdB,zM,zH]
     simp(maxSteps:=2000000)(disch:=omega)[ints,rows,scal,bdO,bdB]
     (repeat' apply And.intro)
     all_goals (try first|omega|(show okH _ _ _=true;kernel_rfl))
     refine zAQ (caps:=[]) (k2) [0,11000007,11000008,3] [0,12000007,12000008,3] 1 [3] rfl rfl rfl rfl (by kernel_rfl) (by simp) ?_ ?_ (by simp) rfl (by simp) ⟨.inr (.inl ⟨rfl,0,_,_,_,_,_,rfl,rfl,(by first|rfl|simp[bdO,bdB,zM,zH]),rfl,(by first|rfl|simp[bdO,bdB,zM,zH])⟩),.inl ⟨by omega,by omega⟩,.inl ⟨by omega,by omega⟩,.inr (.inr ⟨rfl,by simp,by simp[bdO,bdB,zM,zH]⟩),trivial⟩ (by simp[bdO,bdB,zM,zH]) (by intro k hk;simp at hk;simp[hk]) ?_ ?_
     ·simp[scal,zM,zH]
     ·simp[scal,rows,ints,bdO,bdB,zM,zH]
     ·simp[sameK,scal,rows,ints,bdO,bdB,zM,zH]
     simp[ints,rows,scal,bdO,bdB,zM,zH]
     (repeat' first|apply hK|apply And.intro)<;>try first|(show zAf _ _=true;kernel_rfl)|(show okH _ _ _=true;kernel_rfl)|omega|rfl|(simp<;>omega)
     rw[hst];exact kw1 [(0,some 0),(1,some 12000007),(2,some 12000008),(3,some 3),(4,some 4),(5,some 5),(6,some 6)] (an @bdB.eq_1 (an @rows.eq_1 (an @zH.eq_1 (an @zM.eq_1 (an @zDu.eq_1 @idT.eq_1)))))
  ·obtain rfl:a=D.im.length:=by omega
   refine cF0 ?_;refine zK ?_;refine rr0 ?_;refine⟨i+1,by omega,by omega,?_⟩;rw[hPn];exact kw1 [(0,some 0),(1,some 1),(2,some 2),(3,some 3),(4,some 4),(5,some 5),(6,some 6)] (an @bdB.eq_1 (an @rows.eq_1 (an @zH.eq_1 (an @zM.eq_1 @zDu.eq_1))))
 ·obtain rfl:i=xs.length:=by omega
  have ef:xs.take xs.length=xs:=List.take_length;have hPl:=zRa hL xs xs.length;rw[ef]at hPl ⊢;obtain⟨zl1,zl2,zl3⟩:=zL (elP D.im.length xs);obtain⟨s,hs⟩: ∃s,s=zF (elP D.im.length xs):=⟨_,rfl⟩;have g1:s.1.length<=31440:=by rw[hs];omega
  have g2:s.2.1.length<=360:=by rw[hs];omega
  have g3:s.2.2.length<=360:=by rw[hs];omega
  rw[←hs];clear zl1 zl2 zl3 hPl ef hs z0 zS zL;refine cF0 ?_;refine zK ?_;obtain⟨n0,bg,en⟩:=s;simp only at g1 g2 g3;refine zd (σ':=mkS [(0,.ptr 0 0 13),(1,.t 2 (.int .i64 m)),(2,.t 0 (ints (nI xs))),(9,.t 1 (ints (nI bg))),(10,.t 1 (ints (nI en)))]
   [(0,bdB D n0.length of.length),(1,.row 78 4 1 (zCR n0)),(2,.map 78 3 (kents ndK 0 n0)),(3,.row 3 1 1 (idT of))] 4 183 [.ptr 0 0 13,.any,.any,.own 3 of.length]) ?_ ?_
  ·exact kw1 [(0,some 0),(1,some 1),(2,some 2),(3,some 3)] (an @bdB.eq_1 (an @rows.eq_1 (an @zH.eq_1 (an @zM.eq_1 (an @idT.eq_1 (an @nI.eq_1 @zDu.eq_1))))))
  have c1:=zGs D n0 of bg (by omega);have l1:=zEa n0 bg;have hfr:zIj (n0,bg,en)=(let u1:=zEQ n0 bg;let a1:=addG u1.1 (4,0,0,0);let b1:=addG a1.1 (7,0,u1.2,a1.2);let a2:=addG b1.1 (4,0,0,0);let u2:=zEQ a2.1 en;let b2:=addG u2.1 (7,0,a2.2,u2.2);addG b2.1 (6,0,b1.2,b2.2)):=rfl;simp only at hfr;generalize zEQ n0 bg=u1 at c1 l1 hfr;have c2:=zEs D u1.1 of (by omega);have l2:=zl u1.1 (4,0,0,0);generalize addG u1.1 (4,0,0,0)=a1 at c2 l2 hfr;have c3:=zCe D a1.1 of u1.2 a1.2 (by omega);have l3:=zl a1.1 (7,0,u1.2,a1.2);generalize addG a1.1 (7,0,u1.2,a1.2)=b1 at c3 l3 hfr;have c4:=zEs D b1.1 of (by omega);have l4:=zl b1.1 (4,0,0,0);generalize addG b1.1 (4,0,0,0)=a2 at c4 l4 hfr;have c5:=zGs D a2.1 of en (by omega);have l5:=zEa a2.1 en;generalize zEQ a2.1 en=u2 at c5 l5 hfr;have c6:=zCe D u2.1 of a2.2 u2.2 (by omega);have l6:=zl u2.1 (7,0,a2.2,u2.2);generalize addG u2.1 (7,0,a2.2,u2.2)=b2 at c6 l6 hfr;have c7:=zOl D b2.1 of b1.2 b2.2 (by omega);have l7:=zl b2.1 (6,0,b1.2,b2.2);generalize addG b2.1 (6,0,b1.2,b2.2)=f at c7 l7 hfr;rw[hfr];clear hfr;have c8:=zR8 D hD f.1 of m xs hm hof hxs hxl (by omega);obtain⟨g1',g2'⟩:=zGg (c1D D m) f.1 D.im.length;obtain⟨g3',g4'⟩:=zIn (fun x=>of.getD x 0) (c3D D m) (trP D.im.length xs) (fb1 (c1D D m) f.1 D.im.length);have g5':=zRo hL xs xs.length (by omega);rw[List.take_length]at g5';generalize fb3 (fun x=>of.getD x 0) (c3D D m) (trP D.im.length xs) (fb1 (c1D D m) f.1 D.im.length)=g at c8 g3' g4' ⊢;have hgl:(nI g.2).length=g.2.length:=zEg g.2;have hg1:g.1.length<=60000:=by omega
  have hg2:g.2.length<=10000:=by omega
  clear g1' g2' g3' g4' g5' l1 l2 l3 l4 l5 l6 l7;refine zO fun K hK=>?_
  simp[ints]
  (repeat' apply And.intro)
  all_goals (try omega)
  refine za (caps:=[]) (c1) [0,1,2,3] [0,3000004,3000005,3] 1 rfl rfl rfl rfl (by kernel_rfl) (by simp) ?_ ?_ (by simp) rfl (by simp) ⟨.inr (.inl ⟨rfl,0,_,_,_,_,_,rfl,rfl,(by first|rfl|simp[bdO,bdB,zM,zH]),rfl,(by first|rfl|simp[bdO,bdB,zM,zH])⟩),.inl ⟨by omega,by omega⟩,.inl ⟨by omega,by omega⟩,.inr (.inr ⟨rfl,by simp,by simp[bdO,bdB,zM,zH]⟩),trivial⟩ (by simp[bdO,bdB,zM,zH]) ?_
  ·simp[scal,rows,ints,bdB,zM,zH]
  ·simp[scal,rows,ints,bdO,bdB,zM,zH]
  simp[ints,rows,scal,bdO,bdB,zM,zH]
  (repeat' apply And.intro)
  all_goals (try omega)
  refine za (caps:=[]) (c2) [0,3000004,3000005,3] [0,5000004,5000005,3] 1 rfl rfl rfl rfl (by kernel_rfl) (by simp) ?_ ?_ (by simp) rfl (by simp) ⟨.inr (.inl ⟨rfl,0,_,_,_,_,_,rfl,rfl,(by first|rfl|simp[bdO,bdB,zM,zH]),rfl,(by first|rfl|simp[bdO,bdB,zM,zH])⟩),.inl ⟨by omega,by omega⟩,.inl ⟨by omega,by omega⟩,.inr (.inr ⟨rfl,by simp,by simp[bdO,bdB,zM,zH]⟩),trivial⟩ (by simp[bdO,bdB,zM,zH]) ?_
  ·simp
  ·simp[scal,rows,ints,bdO,bdB,zM,zH]
  simp[ints,rows,scal,bdO,bdB,zM,zH]
  (repeat' apply And.intro)
  all_goals (try omega)
  refine za (caps:=[]) (c3) [0,5000004,5000005,3] [0,6000004,6000005,3] 1 rfl rfl rfl rfl (by kernel_rfl) (by simp) ?_ ?_ (by simp) rfl (by simp) ⟨.inr (.inl ⟨rfl,0,_,_,_,_,_,rfl,rfl,(by first|rfl|simp[bdO,bdB,zM,zH]),rfl,(by first|rfl|simp[bdO,bdB,zM,zH])⟩),.inl ⟨by omega,by omega⟩,.inl ⟨by omega,by omega⟩,.inr (.inr ⟨rfl,by simp,by simp[bdO,bdB,zM,zH]⟩),trivial⟩ (by simp[bdO,bdB,zM,zH]) ?_
  ·simp[scal]
  ·simp[scal,rows,ints,bdO,bdB,zM,zH]
  simp[ints,rows,scal,bdO,bdB,zM,zH];and_intros<;>try first|apply hK|omega|rfl|simp<;>omega
  refine zO fun K hK=>?_
  simp
  (repeat' apply And.intro)
  all_goals (try omega)
  refine za (caps:=[]) (c4) [0,6000004,6000005,3] [0,10000004,10000005,3] 1 rfl rfl rfl rfl (by kernel_rfl) (by simp) ?_ ?_ (by simp) rfl (by simp) ⟨.inr (.inl ⟨rfl,0,_,_,_,_,_,rfl,rfl,(by first|rfl|simp[bdO,bdB,zM,zH]),rfl,(by first|rfl|simp[bdO,bdB,zM,zH])⟩),.inl ⟨by omega,by omega⟩,.inl ⟨by omega,by omega⟩,.inr (.inr ⟨rfl,by simp,by simp[bdO,bdB,zM,zH]⟩),trivial⟩ (by simp[bdO,bdB,zM,zH]) ?_
  ·simp
  ·simp[scal,rows,ints,bdO,bdB,zM,zH]
  simp[ints,rows,scal,bdO,bdB,zM,zH]
  (repeat' apply And.intro)
  all_goals (try omega)
  refine za (caps:=[]) (c5) [0,10000004,10000005,3] [0,13000004,13000005,3] 1 rfl rfl rfl rfl (by kernel_rfl) (by simp) ?_ ?_ (by simp) rfl (by simp) ⟨.inr (.inl ⟨rfl,0,_,_,_,_,_,rfl,rfl,(by first|rfl|simp[bdO,bdB,zM,zH]),rfl,(by first|rfl|simp[bdO,bdB,zM,zH])⟩),.inl ⟨by omega,by omega⟩,.inl ⟨by omega,by omega⟩,.inr (.inr ⟨rfl,by simp,by simp[bdO,bdB,zM,zH]⟩),trivial⟩ (by simp[bdO,bdB,zM,zH]) ?_
  ·simp[scal,ints]
  ·simp[scal,rows,ints,bdO,bdB,zM,zH]
  simp[ints,rows,scal,bdO,bdB,zM,zH]
  (repeat' apply And.intro)
  all_goals (try omega)
  refine za (caps:=[]) (c6) [0,13000004,13000005,3] [0,14000004,14000005,3] 1 rfl rfl rfl rfl (by kernel_rfl) (by simp) ?_ ?_ (by simp) rfl (by simp) ⟨.inr (.inl ⟨rfl,0,_,_,_,_,_,rfl,rfl,(by first|rfl|simp[bdO,bdB,zM,zH]),rfl,(by first|rfl|simp[bdO,bdB,zM,zH])⟩),.inl ⟨by omega,by omega⟩,.inl ⟨by omega,by omega⟩,.inr (.inr ⟨rfl,by simp,by simp[bdO,bdB,zM,zH]⟩),trivial⟩ (by simp[bdO,bdB,zM,zH]) ?_
  ·simp[scal]
  ·simp[scal,rows,ints,bdO,bdB,zM,zH]
  simp[ints,rows,scal,bdO,bdB,zM,zH];and_intros<;>try first|apply hK|omega|rfl|simp<;>omega
  refine zO fun K hK=>?_
  simp
  (repeat' apply And.intro)
  all_goals (try omega)
  refine za (caps:=[]) (c7) [0,14000004,14000005,3] [0,19000004,19000005,3] 1 rfl rfl rfl rfl (by kernel_rfl) (by simp) ?_ ?_ (by simp) rfl (by simp) ⟨.inr (.inl ⟨rfl,0,_,_,_,_,_,rfl,rfl,(by first|rfl|simp[bdO,bdB,zM,zH]),rfl,(by first|rfl|simp[bdO,bdB,zM,zH])⟩),.inl ⟨by omega,by omega⟩,.inl ⟨by omega,by omega⟩,.inr (.inr ⟨rfl,by simp,by simp[bdO,bdB,zM,zH]⟩),trivial⟩ (by simp[bdO,bdB,zM,zH]) ?_
  ·simp[scal]
  ·simp[scal,rows,ints,bdO,bdB,zM,zH]
  simp[ints,rows,scal,bdO,bdB,zM,zH];and_intros<;>try first|apply hK|omega|rfl|simp<;>omega
  refine zO fun K hK=>?_
  simp
  (repeat' apply And.intro)
  all_goals (try omega)
  refine za (caps:=[]) (c8) [0,19000004,19000005,3] [0,24000004,24000005,3] 1 rfl rfl rfl rfl (by kernel_rfl) (by simp) ?_ ?_ (by simp) rfl (by simp) ⟨.inr (.inl ⟨rfl,0,_,_,_,_,_,rfl,rfl,(by first|rfl|simp[bdO,bdB,zM,zH]),rfl,(by first|rfl|simp[bdO,bdB,zM,zH])⟩),.inl ⟨by omega,by omega⟩,.inl ⟨by omega,by omega⟩,.inr (.inr ⟨rfl,by simp,by simp[bdO,bdB,zM,zH]⟩),trivial⟩ (by simp[bdO,bdB,zM,zH]) ?_
  ·simp[scal,ints]
  ·simp[scal,rows,ints,bdO,bdB,zM,zH]
  simp[ints,rows,scal,bdO,bdB,zM,zH];and_intros<;>try first|apply hK|omega|rfl|simp<;>omega
  refine zD ?_;by_cases he:g.2=[]
  ·have hz:g.2.length=0:=by rw[he];rfl
   rw[if_pos he];refine rg1 (an @hgl @hz) ?_;refine cT0 ?_;refine rg0 ?_;refine zI ?_;refine⟨⟨.inr rfl,_,[(0,some 0),(1,some 24000004),(2,some 24000005),(3,some 3)],(by first|rfl|(simp[ints,rows,scal,tpO,bdO,bdB,zM,zH];rfl)),?_,?_,?_,?_⟩,?_⟩
   all_goals try simp[ints,rows,bdO,bdB,zM,zH]
  ·have hpos:0<g.2.length:=List.length_pos_iff.2 he;have hneb:((g.2.length:Int)==0)=false:=by
    have: ¬((g.2.length:Int)=0):=by omega
    simpa using this
   rw[if_neg he];have c9:=zMo D g.1 of g.2 (by omega);have l9:(zFF g.1 g.2).1.length<=90000:=by
    have:=(zRD g.1 g.2);omega
   generalize zFF g.1 g.2=w at c9 l9 ⊢;have c10:=zOl D w.1 of f.2 w.2 (by omega);generalize addG w.1 (6,0,f.2,w.2)=r at c10 ⊢;refine rg1 (an @hgl @hneb) ?_;refine cS0 ?_;refine zO fun K hK=>?_
   simp
   (repeat' apply And.intro)
   all_goals (try omega)
   refine za (caps:=[]) (c9) [0,24000004,24000005,3] [0,33000004,33000005,3] 1 rfl rfl rfl rfl (by kernel_rfl) (by simp) ?_ ?_ (by simp) rfl (by simp) ⟨.inr (.inl ⟨rfl,0,_,_,_,_,_,rfl,rfl,(by first|rfl|simp[bdO,bdB,zM,zH]),rfl,(by first|rfl|simp[bdO,bdB,zM,zH])⟩),.inl ⟨by omega,by omega⟩,.inl ⟨by omega,by omega⟩,.inr (.inr ⟨rfl,by simp,by simp[bdO,bdB,zM,zH]⟩),trivial⟩ (by simp[bdO,bdB,zM,zH]) ?_
   ·simp[scal,ints]
   ·simp[scal,rows,ints,bdO,bdB,zM,zH]
   simp[ints,rows,scal,bdO,bdB,zM,zH]
   (repeat' apply And.intro)
   all_goals (try omega)
   refine za (caps:=[]) (c10) [0,33000004,33000005,3] [0,34000004,34000005,3] 1 rfl rfl rfl rfl (by kernel_rfl) (by simp) ?_ ?_ (by simp) rfl (by simp) ⟨.inr (.inl ⟨rfl,0,_,_,_,_,_,rfl,rfl,(by first|rfl|simp[bdO,bdB,zM,zH]),rfl,(by first|rfl|simp[bdO,bdB,zM,zH])⟩),.inl ⟨by omega,by omega⟩,.inl ⟨by omega,by omega⟩,.inr (.inr ⟨rfl,by simp,by simp[bdO,bdB,zM,zH]⟩),trivial⟩ (by simp[bdO,bdB,zM,zH]) ?_
   ·simp[scal]
   ·simp[scal,rows,ints,bdO,bdB,zM,zH]
   simp[ints,rows,scal,bdO,bdB,zM,zH];and_intros<;>try first|apply hK|omega|rfl|simp<;>omega
   refine zI ?_;refine⟨⟨.inr rfl,_,[(0,some 0),(1,some 34000004),(2,some 34000005),(3,some 3)],(by first|rfl|(simp[ints,rows,scal,tpO,bdO,bdB,zM,zH];rfl)),?_,?_,?_,?_⟩,?_⟩
   all_goals try simp[ints,rows,bdO,bdB,zM,zH]
