/- Lemmas for the law unambiguousClass. No conditions. -/
import Derived.Test.YtgmcbpjplcjmdaaGreatZuar
import Derived.Test.YtgmcbpjplcjmdaaGreatZubg
import Derived.Test.YtgmcbpjplcjmdaaGreatZubh
set_option linter.all false
namespace Go.Proofs.YtgmcbpjplcjmdaaGreat.M
open Go.RowKit
set_option maxRecDepth 100000
set_option maxHeartbeats 32000000

theorem zQw.zUP{L N:Nat}{tb:List (List Int)}{ws:List (List Nat)}{im:List Int}{ac pl:List Bool}(h:zQw L N tb ws im ac pl)(hN:N<=400)(hL:L<=6):zFQ N (zP tb) (imN im) L tb im:=by
 refine⟨h.ht,h.hS.n1,hN,h.hS.il,hL,fun a ha=>?_⟩;have ha2:a<im.length:=by rw[h.hS.il];exact ha
 have h0:=h.hS.ir _ (List.getElem_mem ha2);have e:imN im a=(im[a]).toNat:=by
  show(im.getD a 0).toNat=_;rw[Qv,Qj ha2,Qd]
 rw[e,Qj ha2];exact⟨by congr 1;omega,by omega⟩
def mlF(F:List (List (List Nat)))(x:Nat):List Mo:=(fmA F x).map moT
def zPr(N:Nat)(F:List (List (List Nat))):T:=.sl 1 (tab N fun x=>.sl 2 (zBb (zFV (mlF F x))))
section
variable{L N:Nat}{tb:List (List Int)}{ws:List (List Nat)}{im:List Int}{ac pl:List Bool}
theorem zRZ(h:zQw L N tb ws im ac pl)(v1:zCQ tb=0)(hN:N<=400)(hval:FnA Tryz.prog 32 [syV 0 L tb ws im ac pl] (.t 2 (.int .i64 0)))(hda: ¬daP N (zP tb)):
  FnA Tryz.prog 11 [syV 1 L tb ws im ac pl] (.tup [.t 2 (.sl 0 []),.t 2 (.int .i64 20)]):=by
 have hNN:N*N<=400*400:=Nat.mul_le_mul hN hN;obtain⟨i1,t1,vl,hm1⟩:=zDA h v1 hval (B:=1048576) (by omega) (by omega);have hb:daB N (zP tb)=false:=by
  cases e:daB N (zP tb)with
  |false=>rfl
  |true=>exact absurd (zDw.1 e) hda
 rw[hb]at hm1;refine fI 87 #[.tmp 2,.tmp 3] Tryz.func11 rfl ?_;refine rg1 (an @syV.eq_1 @zG.eq_1) ?_;refine zA ?_;refine rc1 hval (an @syV.eq_1 @zG.eq_1) ?_;refine rg0 ?_;refine cS0 ?_;refine zg (by kernel_rfl) (fun K hK=>?_);simp(maxSteps:=2000000)(disch:=omega)
 (repeat' apply And.intro)
 all_goals (try omega)
 refine zM (caps:=[]) (zCb) [] [] 1 rfl rfl rfl rfl (by kernel_rfl) (by simp) ?_ ?_ (by simp) rfl (by simp) trivial (by simp) ?_
 ·simp[scal]
 ·trivial
 simp(maxSteps:=2000000)(disch:=omega)[scal]
 (repeat' apply And.intro)
 all_goals (try omega)
 refine zM (caps:=[]) (hm1) [] [] 1 rfl rfl rfl rfl (by kernel_rfl) (by simp) ?_ ?_ (by simp) rfl (by simp) trivial (by simp) ?_
 ·simp[scal,rows,ints,syV,zG]
 ·trivial
 simp(maxSteps:=2000000)(disch:=omega)[scal];and_intros<;>try first|apply hK|(show zAY _ _=true;kernel_rfl)|(show okH _ _ _=true;kernel_rfl)|omega|rfl|simp<;>omega
 refine zA ?_;refine rg0 ?_;refine cS0 ?_;refine zA ?_;refine rg0 ?_;refine cT0 ?_;refine rg0 ?_;exact zC (rt1 @syV.eq_1)
theorem EsOK.nil(n:Nat)(T:Nat->Nat->Nat)(im:Nat->Nat)(L:Nat):EsOK n T im L []:=fun p hp=>by cases hp
theorem zMn(h:zQw L N tb ws im ac pl)(v1:zCQ tb=0)(hN:N<=400)(hL:L<=6)(hval:FnA Tryz.prog 32 [syV 0 L tb ws im ac pl] (.t 2 (.int .i64 0)))(hda:daP N (zP tb)):
  ∃res,((zEc N (zP tb) (imN im) L (2^L-1)=none/\res= .tup [.t 2 (.sl 0 []),.t 2 (.int .i64 3)])\/ ∃F,zEc N (zP tb) (imN im) L (2^L-1)=some F/\res= .tup [.t 1 (zPr N F),.t 2 (.int .i64 0)])∧
  FnS Tryz.prog 11 [syV 1 L tb ws im ac pl] [] res []:=by
 have hNN:N*N<=400*400:=Nat.mul_le_mul hN hN;obtain⟨i1,t1,vl,hm1⟩:=zDA h v1 hval (B:=1048576) (by omega) (by omega);rw[zDw.2 hda]at hm1;have hFin:=h.zUP hN hL;have hD:=h.daM hda;have hp2:2^L<=64:=by have:=Nat.pow_le_pow_right (n:=2) (by omega) (show L<=6 by omega);omega
 have hp1:=Nat.two_pow_pos L;have hshl:=zVH (L:=L) (by omega);obtain⟨B,hB⟩: ∃B,B=2^L-1:=⟨_,rfl⟩;have hB64:B<64:=by omega
 have hsub:IntKind.i64.wrap (((2^L:Nat):Int)-1)=(B:Int):=by rw[show((2^L:Nat):Int)-1=((B:Nat):Int) by omega];exact zJG (by omega)
 rw[←hB];generalize 2^L=p2 at hshl hsub hp2 hp1 hB;obtain⟨_,_,⟨ok,F,v0,es2,q1,q2,rfl,rfl⟩,hfc⟩:=zNu hFin hD B hB64 [] (EsOK.nil _ _ _ _);refine zh Tryz.func11 rfl (by simp[Tryz.f11]) ?_;rw[show Tryz.f11.ntmps=87 from rfl,show Tryz.f11.results= #[.tmp 2,.tmp 3]from rfl];refine rg1 (an @syV.eq_1 @zG.eq_1) ?_;refine zA ?_;refine rc1 hval (an @syV.eq_1 @zG.eq_1) ?_;refine rg0 ?_;refine cS0 ?_;refine zg (by kernel_rfl) (fun K hK=>?_);simp(maxSteps:=2000000)(disch:=omega)
 (repeat' apply And.intro)
 all_goals (try omega)
 refine zM (caps:=[]) (zCb) [] [] 1 rfl rfl rfl rfl (by kernel_rfl) (by simp) ?_ ?_ (by simp) rfl (by simp) trivial (by simp) ?_
 ·simp[scal]
 ·trivial
 simp(maxSteps:=2000000)(disch:=omega)[scal]
 (repeat' apply And.intro)
 all_goals (try omega)
 refine zM (caps:=[]) (hm1) [] [] 1 rfl rfl rfl rfl (by kernel_rfl) (by simp) ?_ ?_ (by simp) rfl (by simp) trivial (by simp) ?_
 ·simp[scal,rows,ints,syV,zG]
 ·trivial
 simp(maxSteps:=2000000)(disch:=omega)[scal];and_intros<;>try first|apply hK|(show zAY _ _=true;kernel_rfl)|(show okH _ _ _=true;kernel_rfl)|omega|rfl|simp<;>omega
 refine zA ?_;refine rg0 ?_;refine cS0 ?_;refine zA ?_;refine rg0 ?_;refine cS0 ?_;refine rg0 ?_;refine zS (σ':=mkS [(1,.ptr 0 0 6),(10,.ptr 1 0 7)] [(0,.box 29 [.t 2 (.int .i64 L),.t 1 (rows tb),.any,.t 1 (ints im),.any,.any]),(1,zAy tb im 2),(2,.tmap 3 81 [])] 3 87 [.any]) ?_ ?_
 ·exact kw1 [(0,some 0),(1,some 29000000),(2,some 27000000)] (an @rows.eq_1 (an @zAy.eq_1 (an @syV.eq_1 @zG.eq_1)))
 cases ok with
 |false=>
  obtain⟨q3,rfl⟩:=q2 rfl;refine zF fun K hK=>?_
  simp(maxSteps:=2000000)(disch:=omega)[ints,rows,hshl,hsub]
  (repeat' apply And.intro)
  all_goals (try omega)
  refine zD (caps:=[]) (hfc) [1,2] [1,5000004] 1 rfl rfl rfl rfl (by kernel_rfl) (by simp) ?_ ?_ (by simp) rfl (by simp) ⟨.inr ⟨rfl,0,_,_,_,_,_,rfl,rfl,(by first|rfl|simp[zAy,rows,ints]),rfl,(by first|rfl|simp[zAy,rows,ints])⟩,.inl ⟨by omega,by omega⟩,trivial⟩ (by simp[zAy,rows,ints]) ?_
  ·simp[scal,rows,ints,zAy,rows,ints]
  ·simp[scal,rows,ints,zAy,rows,ints]
  simp(maxSteps:=2000000)(disch:=omega)[scal];and_intros<;>try first|apply hK|omega|rfl|simp<;>omega
  refine zA ?_;refine rg0 ?_;refine cT0 ?_;refine rg0 ?_;refine zC ?_;refine⟨_,.inl ⟨q3,rfl⟩,?_⟩;exact rt1 @syV.eq_1
 |true=>
  obtain⟨q3,-,rfl⟩:=q1 rfl;refine zF fun K hK=>?_
  simp(maxSteps:=2000000)(disch:=omega)[ints,rows,hshl,hsub]
  (repeat' apply And.intro)
  all_goals (try omega)
  refine zD (caps:=[]) (hfc) [1,2] [1,5000004] 1 rfl rfl rfl rfl (by kernel_rfl) (by simp) ?_ ?_ (by simp) rfl (by simp) ⟨.inr ⟨rfl,0,_,_,_,_,_,rfl,rfl,(by first|rfl|simp[zAy,rows,ints]),rfl,(by first|rfl|simp[zAy,rows,ints])⟩,.inl ⟨by omega,by omega⟩,trivial⟩ (by simp[zAy,rows,ints]) ?_
  ·simp[scal,rows,ints,zAy,rows,ints]
  ·simp[scal,rows,ints,zAy,rows,ints]
  simp(maxSteps:=2000000)(disch:=omega)[scal];and_intros<;>try first|apply hK|omega|rfl|simp<;>omega
  refine zA ?_;refine rg0 ?_;refine cS0 ?_;refine zS (σ':=mkS [(11,.t 1 (zBj F))] [] 0 87 [.any]) ?_ ?_
  ·exact kw1 [] (an @zAy.eq_1 @zBj.eq_1)
  have hFB:=zF7 q3;have hFl:=hFB.1;have htx: ∀x,x<N-> ∀t∈fmA F x,zIS t/\(∀b∈t,b<64)/\t.length<=121:=fun x hx t ht=>zNw hD hL hB64 q3 hx ht
  clear hfc q1 q2;refine rg1 (an @zBj.eq_1 @hFl) ?_;refine zA ?_;refine rg1 (an @zBj.eq_1 @hFl) ?_;refine zB ?_;refine awp_loop (fun y:Nat×(Nat->List Mo)=>mkF [(13,.own 0 N),(55,.t 0 (zBj F)),(56,.t 2 (.int .i64 N)),(57,.t 2 (.int .i64 y.1))]
    [(0,.vec 46 1 1 (tab N fun j=>.own (100+j) ((y.2 j).length*2)))] 100 N (fun j=>.row 85 2 1 (zBb (y.2 j))) 2000 87 [.any])
   (fun y=>y.1<=N/\ ∀j,j<N->y.2 j=if j<y.1 then zFV (mlF F j)else []) (fun y=>N-y.1) ?_ ?_
  ·refine⟨(0,fun _=>[]),⟨by simp,fun j hj=>by simp⟩,?_⟩;refine zIw [(0,some 2000000)] rfl ?_ ?_ ?_ ?_ ?_
   all_goals try simp +contextual (disch:=omega)[zL,zJ,zAN,ints,zI,zz,zT,zOZ,zBj,zBb]
   all_goals (try omega)
  rintro⟨i,G⟩ ⟨hi,hG⟩;simp only at hi hG;refine rg0 ?_;refine zA ?_;by_cases hiN:i<N
  ·have hiF:i<F.length:=by omega
   have hFi: ∀hh,F[i]'hh=fmA F i:=fun hh=>by unfold fmA;rw[Qv,Qj hh];rfl
   have hti:=htx i hiN;have hGi:G i=[]:=by rw[hG i hiN,if_neg (by omega)]
   have h400:=(hFB.2 i).1;have hml:mlF F i=(fmA F i).map moT:=rfl;refine cK1 @hiN ?_;refine zA ?_;refine zB ?_;refine rg1 (an @zBj.eq_1 (an @hiF @hFi)) ?_;refine zA ?_;generalize fmA F i=tx at*
   refine rg0 ?_;refine zB ?_;refine awp_loop (fun z:Nat×(Nat->List Mo)=>mkF [(13,.own 0 N),(14,.t 2 (.int .i64 i)),(55,.t 0 (zBj F)),(56,.t 2 (.int .i64 N)),(57,.t 2 (.int .i64 i)),(62,.t 0 (.sl 1 (zFI tx))),(63,.t 2 (.int .i64 tx.length)),(64,.t 2 (.int .i64 z.1))]
     [(0,.vec 46 1 1 (tab N fun j=>.own (100+j) ((z.2 j).length*2)))] 100 N (fun j=>.row 85 2 1 (zBb (z.2 j))) 2000 87 [.any])
    (fun z=>z.1<=tx.length/\z.2 i=(tx.take z.1).map moT/\ ∀j,j<N->j≠i->z.2 j=G j) (fun z=>tx.length-z.1) ?_ ?_
   ·refine⟨(0,G),⟨by simp,by simp only;rw[hGi];rfl,fun j _ _=>rfl⟩,?_⟩;exact kf1 [(0,some 0)] (fun j=>100+j) @zBj.eq_1
   rintro⟨k,G1⟩ ⟨hk,hG1,hG2⟩;simp only at hk hG1 hG2;refine rg0 ?_;refine zA ?_;by_cases hkl:k<tx.length
   ·obtain⟨a1,a2,a3⟩:=hti tx[k] (by simp);have hmo:=zGR a1 (fun b hb=>by have:=a2 b hb;omega) (by omega);have hkx:(zFI tx)[k]? =some (.str (zAg (tx[k]'hkl))):=by unfold zFI;rw[Qi,Qj hkl];rfl
    have hkx2:lvT 0 (M.T.str (zAg (tx[k]'hkl)))=2:=by simp[lvT,scal]
    have hst:(tx.take (k+1)).map moT=G1 i++[moT (tx[k]'hkl)]:=by rw[hG1,Qf hkl,List.map_append];rfl
    have hgl:(G1 i).length<=400:=by rw[hG1];simp;omega
    unfold moV ints at hmo;generalize tx[k]=t at*
    generalize moT t=m at*
    obtain⟨G3,hG3⟩: ∃G3:Nat->List Mo,G3=fun j=>if j=i then G1 i++[m]else G1 j:=⟨_,rfl⟩
    have hG3i:G3 i=G1 i++[m]:=by rw[hG3];simp
    have hG3j: ∀j,j≠i->G3 j=G1 j:=fun j hj=>by rw[hG3];simp[hj]
    clear hG3;have hms:zBb (G1 i++[m])=zBb (G1 i)++[ints (nI m.1),ints (nI m.2)]:=by simp[zBb]
    refine cK1 @hkl ?_;refine zA ?_;refine zB ?_;refine rg1 (an @hkl (an @hkx @hkx2)) ?_;refine zAW (by kernel_rfl) (fun K hK=>?_);simp(maxSteps:=2000000)(disch:=omega)[hiN]
    (repeat' apply And.intro)
    all_goals (try omega)
    refine zM (caps:=[]) (hmo) [] [] 1 rfl rfl rfl rfl (by kernel_rfl) (by simp) ?_ ?_ (by simp) rfl (by simp) trivial (by simp) ?_
    ·simp[scal]
    ·trivial
    simp(maxSteps:=2000000)(disch:=omega)[scal,hiN,zb,zJ,zL,zP6];and_intros<;>try first|apply hK|(show zAY _ _=true;(refine zKa _ 99 (100+i) ?_;simp(disch:=omega) only[zSi,List.map_cons,List.map_nil,zTo,zTp])<;>kernel_rfl)|(show okH _ _ _=true;kernel_rfl)|omega|rfl|simp<;>omega
    refine rr0 ?_;refine⟨(k+1,G3),⟨by simp only;omega,by simp only;rw[hG3i,hst],fun j hj hji=>by simp only;rw[hG3j j hji];exact hG2 j hj hji⟩,by simp only;omega,?_⟩;refine zAQ [(0,some 0)] (fun j=>100+j) rfl ?_ ?_ ?_ ?_ ?_ ?_
    all_goals try simp +contextual (disch:=omega)[zL,zJ,ze,zAN,zI,zBj]
    all_goals (try omega)
    ·intro j hj;by_cases e:j=i
     ·subst e;simp +contextual (disch:=omega)[zAN,hG3i];omega
     ·simp +contextual (disch:=omega)[zAN,e,hG3j j e]
    ·intro j hj;by_cases e:j=i
     ·subst e;simp +contextual (disch:=omega)[ints,hG3i,hms,ints]
     ·simp +contextual (disch:=omega)[hG3j j e,zC4 (show 100+j≠100+i by omega)]
   ·obtain rfl:k=tx.length:=by omega
    rw[List.take_length,←hml]at hG1;have hgl:(G1 i).length<=400:=by rw[hG1,hml];simp;omega
    have hsort:=zPE (ms:=G1 i) (by omega) (fun m hm=>by
     rw[hG1,hml]at hm;obtain⟨t,ht,rfl⟩:=List.mem_map.1 hm;obtain⟨a1,-,a3⟩:=hti t ht;have:=a1.mo;omega)
    obtain⟨G3,hG3⟩: ∃G3:Nat->List Mo,G3=fun j=>if j=i then zFV (G1 i)else G1 j:=⟨_,rfl⟩
    have hG3i:G3 i=zFV (G1 i):=by rw[hG3];simp
    have hG3j: ∀j,j≠i->G3 j=G1 j:=fun j hj=>by rw[hG3];simp[hj]
    clear hG3;have hfat:=fun hl (H:Nat->AObj)=>zAu hl 100 N H hiN
    refine cF0 ?_;refine zE ?_;refine zAT fun K hK=>?_
    simp(maxSteps:=2000000)(disch:=omega)[hiN]
    (repeat' apply And.intro)
    all_goals (try omega)
    refine zAk (caps:=[]) (hsort) [100+i] [100+i] 1 rfl rfl rfl rfl (by kernel_rfl) (by simp) ?_ ?_ (by simp) rfl (by simp) ⟨.inr (.inr ⟨rfl,by simp,by simp⟩),trivial⟩ (by simp) ?_
    ·simp
    ·simp[hfat]
    simp(maxSteps:=2000000)(disch:=omega);and_intros<;>try first|apply hK|omega|rfl|simp<;>omega
    refine rr0 ?_;refine⟨(i+1,G3),⟨by simp only;omega,fun j hj=>?_⟩,by simp only;omega,?_⟩
    ·simp only;by_cases e:j=i
     ·subst e;rw[hG3i,hG1,if_pos (by omega)]
     ·rw[hG3j j e,hG2 j hj e,hG j hj];by_cases c:j<i
      ·rw[if_pos c,if_pos (by omega)]
      ·rw[if_neg c,if_neg (by omega)]
    refine zAQ [(0,some 0)] (fun j=>100+j) rfl ?_ ?_ ?_ ?_ ?_ ?_
    all_goals try simp +contextual (disch:=omega)[zL,zJ,ze,zAN,zI,zBj]
    all_goals (try omega)
    ·intro j hj;by_cases e:j=i
     ·subst e;simp +contextual (disch:=omega)[hG3i]
     ·simp +contextual (disch:=omega)[hG3j j e]
    ·intro j hj;by_cases e:j=i
     ·subst e;simp +contextual (disch:=omega)[hG3i]
     ·simp +contextual (disch:=omega)[hG3j j e,zC4 (show 100+j≠100+i by omega)]
  ·obtain rfl:i=N:=by omega
   have hG2: ∀j,j<i->G j=zFV (mlF F j):=fun j hj=>by rw[hG j hj,if_pos hj]
   clear hG;refine cF0 ?_;refine zE ?_;refine rg0 ?_;refine zC ?_;refine⟨_,.inr ⟨F,q3,rfl⟩,?_,by simp[syV]⟩;refine⟨.inr rfl,_,[],(by first|(simp;rfl)|rfl),?_,?_,?_,?_⟩
   all_goals try simp +contextual (disch:=omega)[zCT,wk1,zPr,hG2]
end
end Go.Proofs.YtgmcbpjplcjmdaaGreat.M

namespace Go.Proofs.YtgmcbpjplcjmdaaGreat.M
open Go.RowKit Go.Shelf Go.Lib Go.Sort

def zL2:List (List Int):=[[1],[2],[2]]
def zSS:List (List Int):=[[0,1,2],[1,2,2],[2,2,2]]
def zQz:List (List Int):=[[1],[2],[2]]
def zUC:List (List Nat):=[[],[0],[0,0]]
def zUz:List (List Int):=[[0,1,2],[1,2,2],[2,2,2]]
theorem zM9:DfL 1 3 0 [false,false,true] zL2:=⟨by omega,by omega,rfl,rfl,fun r hr=>by
 simp only[zL2,List.mem_cons,List.not_mem_nil,or_false]at hr;rcases hr with rfl|rfl|rfl<;>refine⟨rfl,fun v hv=>?_⟩<;>simp at hv<;>omega⟩
theorem zOg:MnD 1 3 [false,false,true] zL2:=by
 refine⟨zM9,fun t h1 h2=>?_,fun i j hi hj h=>?_⟩
 ·rcases(by omega:t=1\/t=2)with rfl|rfl
  ·exact⟨0,by decide,rfl,fun j hj=>by omega⟩
  ·refine⟨1,by decide,rfl,fun j hj=>?_⟩;rcases(by omega:j=0)with rfl;decide
 ·have e1:=h [] (by simp);have e2:=h [0] (by simp);rcases(by omega:i=0\/i=1\/i=2)with rfl|rfl|rfl<;>rcases(by omega:j=0\/j=1\/j=2)with rfl|rfl|rfl<;>first|rfl|(exact absurd e1 (by decide))|(exact absurd e2 (by decide))
theorem zQe:MiX 1 3 0 [false,false,true] zL2 3 [false,false,true] zL2:=⟨Qy _,zOg,fun w _=>rfl⟩
theorem zFi:tab 1 (lets 3 zL2)=[[1,2,2]]:=by decide
theorem zLA: ∀g∈tab 1 (lets 3 zL2),TrN 3 g:=(zM9.gn (by omega) (by omega) (by omega)).tr
theorem zTz:EnL 3 (tab 1 (lets 3 zL2)) zSS [-1,0,1] [-1,0,0] zUC:=by
 have h0:EnL 3 (tab 1 (lets 3 zL2)) [idL 3] [-1] [-1] [[]]:=EnL.start;have h1:=h0.add zLA (p:=0) (x:=0) (u:=[]) (e:=idL 3) (g:=[1,2,2]) rfl rfl (by rw[zFi];rfl) (fun i hi=>by
  have:i=0:=by simpa using hi
  subst this;show idL 3≠zn (idL 3) [1,2,2];decide) 0 rfl (fun j y hj=>by omega)
 have h2:=h1.add zLA (p:=1) (x:=0) (u:=[0]) (e:=[1,2,2]) (g:=[1,2,2]) rfl rfl (by rw[zFi];rfl) (fun i hi=>by
  have:i=0\/i=1:=by simp at hi;omega
  rcases this with rfl|rfl
  ·show idL 3≠zn [1,2,2] [1,2,2];decide
  ·show zn (idL 3) [1,2,2]≠zn [1,2,2] [1,2,2];decide) 1 rfl (fun j y hj e g he hg=>by
  have hj0:j=0/\y=0:=by rw[zFi]at hj;simp at hj;omega
  obtain⟨rfl,rfl⟩:=hj0;rw[zFi]at hg;simp at he hg;subst he hg;decide)
 exact h2
theorem zTg:PrI 3 (tab 1 (lets 3 zL2)) zSS [-1,0,1] [-1,0,0] zUC zQz zSS.length:=by
 refine⟨zTz,by decide,by decide,rfl,fun i r hr=>?_,fun g hg=>?_⟩
 ·have hi:i<3:=(Qq.1 hr).1;rw[zFi];rcases(by omega:i=0\/i=1\/i=2)with rfl|rfl|rfl
  ·simp[zQz]at hr;subst hr;refine⟨rfl,fun x j hx=>?_⟩;obtain rfl:x=0:=by have:=(Qq.1 hx).1;simpa using this
   simp at hx;subst hx;exact⟨1,[0,1,2],[1,2,2],rfl,rfl,rfl,by decide⟩
  ·simp[zQz]at hr;subst hr;refine⟨rfl,fun x j hx=>?_⟩;obtain rfl:x=0:=by have:=(Qq.1 hx).1;simpa using this
   simp at hx;subst hx;exact⟨2,[1,2,2],[1,2,2],rfl,rfl,rfl,by decide⟩
  ·simp[zQz]at hr;subst hr;refine⟨rfl,fun x j hx=>?_⟩;obtain rfl:x=0:=by have:=(Qq.1 hx).1;simpa using this
   simp at hx;subst hx;exact⟨2,[2,2,2],[1,2,2],rfl,rfl,rfl,by decide⟩
 ·rw[zFi]at hg;simp at hg;subst hg;decide
theorem zTl{els:List (List Int)}{pre last:List Int}{wds:List (List Nat)}{right:List (List Int)}{r0:List Int}(h:SyX 1 3 zL2 els pre last wds right r0):els=zSS/\wds=zUC/\right=zQz/\r0=[1]:=by
 obtain⟨e1,e2,e3,e4,e5⟩:=h.pr.eqE zTg;subst e5;have:=h.r0;simp[zQz]at this;exact⟨e1,e4,rfl,this.symm⟩
theorem zRb:zBq zQz zUC zSS.length=zUz:=by decide
theorem zSq:daP 3 (zP zUz):=by
 intro x y hx hy;rcases(by omega:x=0\/x=1\/x=2)with rfl|rfl|rfl<;>rcases(by omega:y=0\/y=1\/y=2)with rfl|rfl|rfl<;>decide
theorem zNo:zEc 3 (zP zUz) (imN [1]) 1 (2^1-1)=some [[[0]],[[0,0,0]],[[0,0,0,0,0],[0,0,0,0,0,0,0],[0,0,0,0,1,0,0,0,0]]]:=by kernel_rfl
def zIj(x:Nat):List Mo:=if x=0 then [([0],[])]else if x=1 then [([0,0],[0])]else [([0,0,0],[0,0]),([0,0,0,0],[0,0,0]),([0,0,1,0,0],[0,0,0,0])]
theorem zJQ{ms:List Mo}(h:ms.Pairwise fun x y=>(!(ltOf zJU) y x)=true):zFV ms=ms:=List.mergeSort_of_pairwise h
theorem zRe:zPr 3 [[[0]],[[0,0,0]],[[0,0,0,0,0],[0,0,0,0,0,0,0],[0,0,0,0,1,0,0,0,0]]]= .sl 1 [.sl 2 (zBb (zIj 0)),.sl 2 (zBb (zIj 1)),.sl 2 (zBb (zIj 2))]:=by
 have e0:zFV (mlF [[[0]],[[0,0,0]],[[0,0,0,0,0],[0,0,0,0,0,0,0],[0,0,0,0,1,0,0,0,0]]] 0)=zIj 0:=zJQ (ms:=zIj 0) (by decide);have e1:zFV (mlF [[[0]],[[0,0,0]],[[0,0,0,0,0],[0,0,0,0,0,0,0],[0,0,0,0,1,0,0,0,0]]] 1)=zIj 1:=zJQ (ms:=zIj 1) (by decide);have e2:zFV (mlF [[[0]],[[0,0,0]],[[0,0,0,0,0],[0,0,0,0,0,0,0],[0,0,0,0,1,0,0,0,0]]] 2)=zIj 2:=zJQ (ms:=zIj 2) (by decide);show T.sl 1 [T.sl 2 (zBb (zFV (mlF _ 0))),T.sl 2 (zBb (zFV (mlF _ 1))),T.sl 2 (zBb (zFV (mlF _ 2)))]=_;rw[e0,e1,e2]
theorem zVq:List.range 1=[0]/\List.range 2=[0,1]/\List.range 3=[0,1,2]/\List.range 4=[0,1,2,3]/\List.range 5=[0,1,2,3,4]/\List.range 6=[0,1,2,3,4,5]:=⟨rfl,rfl,rfl,rfl,rfl,rfl⟩
theorem zQ6:zBb (zIj 0)=[ints [0],ints []]/\zBb (zIj 1)=[ints [0,0],ints [0]]/\zBb (zIj 2)=[ints [0,0,0],ints [0,0],ints [0,0,0,0],ints [0,0,0],ints [0,0,1,0,0],ints [0,0,0,0]]:=⟨rfl,rfl,rfl⟩
set_option maxRecDepth 100000 in
set_option maxHeartbeats 16000000 in
theorem zLN:FnA Tryz.prog 12 [] (.t 2 (.bool true)):=by
 obtain⟨_,⟨m,bs',nx',hX,hr⟩,hof⟩:=zJr zM9 (by omega) (by omega) (by omega) (fun m bs' nx' hX=>by have:=hX.le;omega);obtain⟨rfl,rfl,rfl⟩:=hX.mn.eq (by omega) zQe.mn fun w hw=>by rw[hX.zOu w hw,zQe.zOu w hw]
 rcases hr with⟨-,hbad⟩|⟨els,pre,last,wds,right,r0,hS,rfl⟩
 ·exact absurd hbad (zQc zLA (by omega))
 obtain⟨rfl,rfl,rfl,rfl⟩:=zTl hS;have hMD:=hS.zVh zOg (.inl rfl);have hv:=zD7 hS zOg (by omega) (by omega);have hvE:=hS.pr.vE zLA hS.el;rw[zK6]at hv hof;have hN:zSS.length=3:=rfl;rw[zRb]at hMD hv hof hvE;rw[hN]at hMD hv hof;generalize psB 3 (zQz.any fun r=>decide ((0:Int)∈r))=pl at*
 generalize zSS.map (zFM [false,false,true])=ac at*
 obtain⟨_,hres,hofs⟩:=zMn hMD hvE (by omega) (by omega) hv zSq;rcases hres with⟨hno,-⟩|⟨F,hF,rfl⟩
 ·rw[zNo]at hno;cases hno
 rw[zNo]at hF;obtain rfl:=Option.some.inj hF;rw[zRe]at hofs;have hs0:=zDk (zIj 0) (by decide) (by decide);have hs1:=zDk (zIj 1) (by decide) (by decide);have hs2:=zDk (zIj 2) (by decide) (by decide);obtain⟨m0,m1,m2⟩:=zQ6;obtain⟨g1,g2,g3,g4,g5,g6⟩:=zVq;rw[m0,m1,m2]at hofs;rw[m0]at hs0;rw[m1]at hs1;rw[m2]at hs2;refine fI 66 #[.tmp 0] Tryz.func12 rfl ?_;refine rg0 ?_;refine zOT 6 fun K hK=>?_
 simp(maxSteps:=2000000)(disch:=omega)
 (repeat' first|apply hK|apply And.intro)<;>try first|omega|rfl|(simp<;>omega)
 refine⟨mkS [(0,.t 2 (.bool false)),(11,.agg [.t 2 (.int .i64 1),.t 2 (.int .i64 0),.t 2 (zG [false,false,true]),.t 2 (rows [[1],[2],[2]])])] [] 0 66 [],?_,fun K hK=>?_⟩
 ·refine zH [] rfl ?_ ?_ ?_ ?_
  all_goals try simp[ints,rows,ints,zG,zDH,zET,wk1,g3]
 simp(maxSteps:=2000000)(disch:=omega)[ints,rows]
 (repeat' apply And.intro)
 all_goals (try omega)
 refine zD (caps:=[]) (hof) [] [] 2 rfl rfl rfl rfl (by kernel_rfl) (by simp) ?_ trivial trivial rfl trivial trivial (by simp) ?_
 ·simp[scal,rows,ints,dfT,zG,zL2]
 simp(maxSteps:=2000000)(disch:=omega)[ints,rows,scal,syV,zG]
 (repeat' first|apply hK|apply And.intro)<;>try first|omega|rfl|(simp<;>omega)
 refine rc1 hofs (an @syV.eq_1 @zG.eq_1) ?_;refine zS (σ':=mkS [(2,.t 2 (.int .i64 0)),(3,.t 0 (.sl 1 [.sl 2 [ints [0],ints []],.sl 2 [ints [0,0],ints [0]],.sl 2 [ints [0,0,0],ints [0,0],ints [0,0,0,0],ints [0,0,0],ints [0,0,1,0,0],ints [0,0,0,0]]])),(4,.t 2 (.int .i64 0))] [] 0 66 []) ?_ ?_
 ·exact kw0 []
 refine zP8 ?_;refine zKy 18 (fun K hK=>?_);simp(maxSteps:=2000000)(disch:=omega)[ints,g1,g2]
 (repeat' first|apply hK|apply And.intro)<;>try first|omega|rfl|(simp<;>omega)
 refine⟨mkS [(3,.t 0 (.sl 1 [.sl 2 [ints [0],ints []],.sl 2 [ints [0,0],ints [0]],.sl 2 [ints [0,0,0],ints [0,0],ints [0,0,0,0],ints [0,0,0],ints [0,0,1,0,0],ints [0,0,0,0]]])),(31,.t 2 (.bool true)),(34,.t 0 (.sl 2 [ints [0],ints []])),(37,.own 2 2)] [(0,.row 3 1 1 [.int .i64 0]),(1,.row 3 1 1 []),(2,.vec 85 2 1 [.own 0 1,.own 1 0])] 3 66 [],?_,?_⟩
 ·exact kw0 [(0,some 15000000),(1,none),(2,some 17000000)]
 refine zKy 0 (fun K hK=>?_);simp(maxSteps:=2000000)(disch:=omega)[ints]
 (repeat' first|apply hK|apply And.intro)<;>try first|omega|rfl|(simp<;>omega)
 refine⟨mkS [(3,.t 0 (.sl 1 [.sl 2 [ints [0],ints []],.sl 2 [ints [0,0],ints [0]],.sl 2 [ints [0,0,0],ints [0,0],ints [0,0,0,0],ints [0,0,0],ints [0,0,1,0,0],ints [0,0,0,0]]])),(31,.t 2 (.bool true)),(34,.t 0 (.sl 2 [ints [0],ints []])),(37,.t 0 (.sl 2 [ints [0],ints []]))] [] 0 66 [],?_,?_⟩
 ·refine zH [] rfl ?_ ?_ ?_ ?_
  all_goals try simp[ints,ints,zDH,zET,wk1]
 refine zKy 10 (fun K hK=>?_);simp(maxSteps:=2000000)(disch:=omega)[ints]
 (repeat' apply And.intro)
 all_goals (try omega)
 refine zD (caps:=[]) (hs0) [] [] 2 (by simp) rfl rfl rfl (by kernel_rfl) (by simp) ?_ trivial trivial rfl trivial trivial (by simp) ?_
 ·simp[scal,ints,ints]
 simp(maxSteps:=2000000)(disch:=omega)[scal,g1,g2]
 (repeat' first|apply hK|apply And.intro)<;>try first|omega|rfl|(simp<;>omega)
 refine⟨mkS [(3,.t 0 (.sl 1 [.sl 2 [ints [0],ints []],.sl 2 [ints [0,0],ints [0]],.sl 2 [ints [0,0,0],ints [0,0],ints [0,0,0,0],ints [0,0,0],ints [0,0,1,0,0],ints [0,0,0,0]]])),(40,.t 2 (.bool true)),(43,.t 0 (.sl 2 [ints [0,0],ints [0]])),(47,.t 0 (.sl 2 [ints [0,0],ints [0]]))] [] 0 66 [],?_,?_⟩
 ·refine zH [] rfl ?_ ?_ ?_ ?_
  all_goals try simp[ints,ints,zDH,zET,wk1]
 refine zKy 16 (fun K hK=>?_);simp(maxSteps:=2000000)(disch:=omega)[ints]
 (repeat' apply And.intro)
 all_goals (try omega)
 refine zD (caps:=[]) (hs1) [] [] 2 (by simp) rfl rfl rfl (by kernel_rfl) (by simp) ?_ trivial trivial rfl trivial trivial (by simp) ?_
 ·simp[scal,ints,ints]
 simp(maxSteps:=2000000)(disch:=omega)[scal,g2,g3,g4,g5,g6]
 (repeat' first|apply hK|apply And.intro)<;>try first|omega|rfl|(simp<;>omega)
 refine⟨mkS [(50,.t 2 (.bool true)),(53,.t 0 (.sl 2 [ints [0,0,0],ints [0,0],ints [0,0,0,0],ints [0,0,0],ints [0,0,1,0,0],ints [0,0,0,0]])),(63,.t 0 (.sl 2 [ints [0,0,0],ints [0,0],ints [0,0,0,0],ints [0,0,0],ints [0,0,1,0,0],ints [0,0,0,0]]))] [] 0 66 [],?_,?_⟩
 ·refine zH [] rfl ?_ ?_ ?_ ?_
  all_goals try simp[ints,ints,zDH,zET,wk1]
 refine zTx (fun K hK=>?_);simp(maxSteps:=2000000)(disch:=omega)[ints]
 (repeat' apply And.intro)
 all_goals (try omega)
 refine zD (caps:=[]) (hs2) [] [] 2 (by simp) rfl rfl rfl (by kernel_rfl) (by simp) ?_ trivial trivial rfl trivial trivial (by simp) ?_
 ·simp[scal,ints,ints]
 simp(maxSteps:=2000000)(disch:=omega)[scal]
 (repeat' first|apply hK|apply And.intro)<;>try first|omega|rfl|(simp<;>omega)
 exact zC rt0
set_option maxRecDepth 100000 in
set_option maxHeartbeats 16000000 in
theorem zJb(l:List Int):FnA Tryz.prog 3 [.t 1 (ints l)] (.t 2 (.bool true)):=by
 have hnew:=zTC l;obtain⟨xs,hxs⟩: ∃xs,xs=l.take 80:=⟨_,rfl⟩;have hxl:xs.length<=80:=by rw[hxs];simp;omega
 rw[←hxs]at hnew;obtain⟨L,b,hL,hb,hlet⟩:=zHM xs 0 (by omega) hxl;obtain⟨_,_,⟨n,s,b1,bs,nxt,hn,hb1,hD,hF,rfl,rfl⟩,hany⟩:=zSG xs b L 3 hb hxl hL (by omega) (by omega);obtain⟨_,⟨m,bs',nx',hX,hr⟩,hof⟩:=zJr hD (by omega) (by omega) (by omega) (fun m bs' nx' hX=>by have:=hX.le;omega);rcases hr with⟨-,hbad⟩|⟨els,pre,last,wds,right,r0,hS,rfl⟩
 ·exact absurd hbad (hF.noF hL hD hX hn)
 have hml:=hX.le;have hkn:=zLN;have hg: ∀g∈tab L (lets m nx'),TrN m g:=(hX.mn.df.gn (by omega) (by omega) (by omega)).tr;have hMD:=hS.zVh hX.mn hL;have hv:=zD7 hS hX.mn (by omega) (by omega);have hvE:=hS.pr.vE hg hS.el;have htl:=hMD.ht.len;have hN4:=hS.el;rw[zK6]at hv hof;generalize zBq right wds els.length=tb at*
 generalize psB els.length (right.any fun r=>decide ((0:Int)∈r))=pl at*
 generalize els.map (zFM bs')=ac at*
 generalize els.length=N at*
 refine fI 69 #[.tmp 2] Tryz.func3 rfl ?_;refine rg0 ?_;refine zF fun K hK=>?_
 simp(maxSteps:=2000000)(disch:=omega)
 (repeat' apply And.intro)
 all_goals (try omega)
 refine zD (caps:=[]) (hnew) [] [2000000] 1 rfl rfl rfl rfl (by kernel_rfl) (by simp) ?_ ?_ (by simp) rfl (by simp) ⟨.inl ⟨by omega,by omega⟩,trivial⟩ (by simp[tpO]) ?_
 ·simp[scal,ints]
 ·trivial
 simp(maxSteps:=2000000)(disch:=omega)[ints,scal,tpO];and_intros<;>try first|apply hK|omega|rfl|simp<;>omega
 refine zS (σ':=mkS [(3,.ptr 0 0 2)] [(0,tpO 1 xs 0)] 1 69 [.any]) ?_ ?_
 ·exact kw1 [(0,some 2000000)] @tpO.eq_1
 refine zF fun K hK=>?_
 simp(maxSteps:=2000000)(disch:=omega)
 (repeat' apply And.intro)
 all_goals (try omega)
 refine zD (caps:=[]) (hlet) [0] [0] 1 rfl rfl rfl rfl (by kernel_rfl) (by simp) ?_ ?_ (by simp) rfl (by simp) ⟨.inr ⟨rfl,0,_,_,_,_,_,rfl,rfl,rfl,rfl,rfl⟩,trivial⟩ (by simp[tpO]) ?_
 ·simp[ints,tpO]
 ·simp[scal,ints,tpO]
 simp(maxSteps:=2000000)(disch:=omega)[ints,scal,tpO]
 (repeat' apply And.intro)
 all_goals (try omega)
 refine zD (caps:=[]) (hany) [0] [0] 1 rfl rfl rfl rfl (by kernel_rfl) (by simp) ?_ ?_ (by simp) rfl (by simp) ⟨.inr ⟨rfl,0,_,_,_,_,_,rfl,rfl,rfl,rfl,rfl⟩,trivial⟩ (by simp[tpO]) ?_
 ·simp[scal]
 ·simp[scal,ints,tpO]
 simp(maxSteps:=2000000)(disch:=omega)[ints,rows,scal,dfT,tpO]
 (repeat' apply And.intro)
 all_goals (try omega)
 refine zD (caps:=[]) (hof) [] [] 2 rfl rfl rfl rfl (by kernel_rfl) (by simp) ?_ trivial trivial rfl trivial trivial (by simp) ?_
 ·simp[scal,rows,dfT]
 simp(maxSteps:=2000000)(disch:=omega)[ints,rows,scal,syV];and_intros<;>try first|apply hK|omega|rfl|simp<;>omega
 refine zS (σ':=mkS [(4,.ptr 0 0 6),(5,.t 2 (.int .i64 0))] [(0,.box 29 [.t 2 (.int .i64 L),.t 1 (rows tb),.t 1 (.sl 1 (wsT wds)),.t 1 (ints r0),.t 1 (zG ac),.t 1 (zG pl)])] 1 69 [.any]) ?_ ?_
 ·exact kw1 [(0,some 8000001)] (an @rows.eq_1 @zG.eq_1)
 refine zA ?_;by_cases h9:N<=9
 ·have h9i: ¬(9:Int)<(N:Int):=by omega
  refine rg1 (an @htl @h9i) ?_;refine cS0 ?_;have hNN:N*N<=9*9:=Nat.mul_le_mul h9 h9;obtain⟨i1,t1,vl,hm1⟩:=zDA hMD hvE hv (B:=1000) (by omega) (by omega);by_cases hda:daP N (zP tb)
  ·rw[zDw.2 hda]at hm1;obtain⟨_,hres,hofs⟩:=zMn hMD hvE (by omega) (by omega) hv hda;rcases hres with⟨-,rfl⟩|⟨F,-,rfl⟩
   ·refine zg (by kernel_rfl) (fun K hK=>?_);simp(maxSteps:=2000000)(disch:=omega)
    (repeat' apply And.intro)
    all_goals (try omega)
    refine zM (caps:=[]) (zCb) [] [] 1 rfl rfl rfl rfl (by kernel_rfl) (by simp) ?_ ?_ (by simp) rfl (by simp) trivial (by simp) ?_
    ·simp[scal]
    ·trivial
    simp(maxSteps:=2000000)(disch:=omega)[scal]
    (repeat' apply And.intro)
    all_goals (try omega)
    refine zM (caps:=[]) (hm1) [] [] 1 rfl rfl rfl rfl (by kernel_rfl) (by simp) ?_ ?_ (by simp) rfl (by simp) trivial (by simp) ?_
    ·simp[scal,rows,ints,syV,zG]
    ·trivial
    simp(maxSteps:=2000000)(disch:=omega)[scal];and_intros<;>try first|apply hK|(show zAY _ _=true;kernel_rfl)|(show okH _ _ _=true;kernel_rfl)|omega|rfl|simp<;>omega
    refine zF fun K hK=>?_
    simp(maxSteps:=2000000)(disch:=omega)
    (repeat' apply And.intro)
    all_goals (try omega)
    refine zD (caps:=[]) (hofs) [] [] 1 rfl rfl rfl rfl (by kernel_rfl) (by simp) ?_ ?_ (by simp) rfl (by simp) trivial (by simp) ?_
    ·simp[scal,rows,ints,syV,zG]
    ·trivial
    simp(maxSteps:=2000000)(disch:=omega)[scal]
    (repeat' first|apply hK|apply And.intro)<;>try first|omega|rfl|(simp<;>omega)
    refine rc0 hkn ?_;exact zC rt0
   ·refine zg (by kernel_rfl) (fun K hK=>?_);simp(maxSteps:=2000000)(disch:=omega)
    (repeat' apply And.intro)
    all_goals (try omega)
    refine zM (caps:=[]) (zCb) [] [] 1 rfl rfl rfl rfl (by kernel_rfl) (by simp) ?_ ?_ (by simp) rfl (by simp) trivial (by simp) ?_
    ·simp[scal]
    ·trivial
    simp(maxSteps:=2000000)(disch:=omega)[scal]
    (repeat' apply And.intro)
    all_goals (try omega)
    refine zM (caps:=[]) (hm1) [] [] 1 rfl rfl rfl rfl (by kernel_rfl) (by simp) ?_ ?_ (by simp) rfl (by simp) trivial (by simp) ?_
    ·simp[scal,rows,ints,syV,zG]
    ·trivial
    simp(maxSteps:=2000000)(disch:=omega)[scal];and_intros<;>try first|apply hK|(show zAY _ _=true;kernel_rfl)|(show okH _ _ _=true;kernel_rfl)|omega|rfl|simp<;>omega
    refine zF fun K hK=>?_
    simp(maxSteps:=2000000)(disch:=omega)
    (repeat' apply And.intro)
    all_goals (try omega)
    refine zD (caps:=[]) (hofs) [] [] 1 rfl rfl rfl rfl (by kernel_rfl) (by simp) ?_ ?_ (by simp) rfl (by simp) trivial (by simp) ?_
    ·simp[scal,rows,ints,syV,zG]
    ·trivial
    simp(maxSteps:=2000000)(disch:=omega)[scal,zPr]
    (repeat' first|apply hK|apply And.intro)<;>try first|omega|rfl|(simp<;>omega)
    refine rc0 hkn ?_;exact zC rt0
  ·have hb:daB N (zP tb)=false:=by
    cases e:daB N (zP tb)with
    |false=>rfl
    |true=>exact absurd (zDw.1 e) hda
   rw[hb]at hm1;have hofs:=zRZ hMD hvE (by omega) hv hda;refine zg (by kernel_rfl) (fun K hK=>?_);simp(maxSteps:=2000000)(disch:=omega)
   (repeat' apply And.intro)
   all_goals (try omega)
   refine zM (caps:=[]) (zCb) [] [] 1 rfl rfl rfl rfl (by kernel_rfl) (by simp) ?_ ?_ (by simp) rfl (by simp) trivial (by simp) ?_
   ·simp[scal]
   ·trivial
   simp(maxSteps:=2000000)(disch:=omega)[scal]
   (repeat' apply And.intro)
   all_goals (try omega)
   refine zM (caps:=[]) (hm1) [] [] 1 rfl rfl rfl rfl (by kernel_rfl) (by simp) ?_ ?_ (by simp) rfl (by simp) trivial (by simp) ?_
   ·simp[scal,rows,ints,syV,zG]
   ·trivial
   simp(maxSteps:=2000000)(disch:=omega)[scal];and_intros<;>try first|apply hK|(show zAY _ _=true;kernel_rfl)|(show okH _ _ _=true;kernel_rfl)|omega|rfl|simp<;>omega
   refine zF fun K hK=>?_
   simp(maxSteps:=2000000)(disch:=omega)
   (repeat' apply And.intro)
   all_goals (try omega)
   refine zD (caps:=[]) (hofs) [] [] 1 rfl rfl rfl rfl (by kernel_rfl) (by simp) ?_ ?_ (by simp) rfl (by simp) trivial (by simp) ?_
   ·simp[scal,rows,ints,syV,zG]
   ·trivial
   simp(maxSteps:=2000000)(disch:=omega)[scal]
   (repeat' first|apply hK|apply And.intro)<;>try first|omega|rfl|(simp<;>omega)
   refine rc0 hkn ?_;exact zC rt0
 ·have h9i:(9:Int)<(N:Int):=by omega
  refine rg1 (an @htl @h9i) ?_;refine cT0 ?_;refine rg0 ?_;exact zC rt0
end Go.Proofs.YtgmcbpjplcjmdaaGreat.M
