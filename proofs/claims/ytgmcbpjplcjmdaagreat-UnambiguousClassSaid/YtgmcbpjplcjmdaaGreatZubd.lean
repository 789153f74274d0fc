/- Lemmas for the law unambiguousClass. No conditions. -/
import Derived.Test.YtgmcbpjplcjmdaaGreatZuax
import Derived.Test.YtgmcbpjplcjmdaaGreatZubb
set_option linter.all false
namespace Go.Proofs.YtgmcbpjplcjmdaaGreat.M
open Go.RowKit
set_option maxRecDepth 100000
set_option maxHeartbeats 32000000

def zPk(a b:Tm):List T:=[.int .i64 a.op,.int .i64 a.n,.sl 3 (cellsL a.args),.int .i64 b.op,.int .i64 b.n,.sl 3 (cellsL b.args)]
def zUG(e:zJP):AV:=.agg [.t 2 (.str e.nm),.t 2 (.bool e.mon),.t 2 (.int .i64 e.form),.t 2 (.int .i64 e.kind),.t 2 (.str e.fst),.t 2 (.str e.snd)]
def zVM(p:Nat)(e:zJP)(a b:Tm):AV:=.agg [.t 2 (.str e.nm),.t 2 (.bool e.mon),.t p (.sl 6 (zPk a b)),.t 2 (.int .i64 e.form),.t 2 (.int .i64 e.kind)]
theorem zGX(h:73<Tryz.prog.types.size):(Tryz.prog.types[73]'h).size=6:=by rfl
theorem zPK(e:zJP)(a b:Tm)(hz:e.fst.size<=1000)(h1:zL3 e.fst=(a,b,-1,0))(h2:e.snd=⟨#[]⟩):FnA Tryz.prog 30 [zUG e] (zVM 1 e a b):=by
 have hp1:=zFY e.fst (by omega);rw[h1]at hp1;obtain⟨p0,hp0⟩: ∃p0,zL3 ⟨#[]⟩=(.zero,.zero,p0,2):=⟨0,by kernel_rfl⟩;have hp2:=zFY e.snd (by rw[h2];decide);rw[h2,hp0]at hp2;refine fI 42 #[.cell 2 63] Tryz.func30 rfl ?_;refine rg1 (an @zUG.eq_1 @h2) ?_;refine rg0 ?_;refine zA ?_;refine rg0 ?_;refine zB ?_;refine awp_loop (fun k:Nat=>mkS [(2,.ptr 0 0 5),(3,.ptr 1 0 5),(22,.agg [.t 2 (.str e.fst),.t 2 (.str ⟨#[]⟩)]),(23,.t 2 (.int .i64 k))]
   [(0,.box 63 [.any,.any,.any,.any,.any]),(1,.box 63 [.t 2 (.str e.nm),.t 2 (.bool e.mon),if k=0 then .t 2 (.sl 0 [])else .t 1 (.sl 6 (zPk a b)),.t 2 (.int .i64 e.form),.t 2 (.int .i64 e.kind)])] 2 42 [.any]) (fun k=>k<=2) (fun k=>2-k) ?_ ?_
 ·refine⟨0,by omega,?_⟩;exact kw0 [(0,some 1000000),(1,some 11000000)]
 intro k hk;refine rg0 ?_;refine zA ?_;rcases(by omega:k=0\/k=1\/k=2)with rfl|rfl|rfl
 ·refine cK0 ?_;refine zA ?_;refine zB ?_;refine rg0 ?_;refine rc1 hp1 (an @zVW.eq_1 (an @idV.eq_1 @zGX)) ?_;refine rg0 ?_;refine cT0 ?_;refine rr1 @zGX ?_;refine rr0 ?_;refine⟨1,by omega,by omega,?_⟩;exact kw1 [(0,some 0),(1,some 1)] @zPk.eq_1
 ·refine cK0 ?_;refine zA ?_;refine zB ?_;refine rg0 ?_;refine rc1 hp2 (an @zVW.eq_1 (an @idV.eq_1 @zGX)) ?_;refine rg0 ?_;refine cY0 ?_;refine rr0 ?_;refine⟨2,by omega,by omega,?_⟩;exact kw1 [(0,some 0),(1,some 1)] @zPk.eq_1
 ·refine cF0 ?_;refine zE ?_;refine rg0 ?_;refine zC ?_;refine⟨⟨.inr rfl,_,[],(by simp;rfl),trivial,trivial,by simp,?_⟩,by simp[zUG]⟩;simp[zVM]
theorem zG5{L N c:Nat}{tb:List (List Int)}{ws:List (List Nat)}{im:List Int}{ac pl:List Bool}(hpl:pl.length=N)(hN:N<=400)(hval:FnA Tryz.prog 32 [syV 0 L tb ws im ac pl] (.t 2 (.int .i64 0)))(hc:c<17)(hm:(zDT[c]'hc).mon=true):FnA Tryz.prog 28 [syV 0 L tb ws im ac pl,.t 2 (.int .i64 c)] (.tup [.t 2 (ints (idL N)),.t 2 (.int .i64 0)]):=by
 have hat:=zIt hc;have d1: ¬(c:Int)<0:=by omega
 have d2: ¬(17:Int)<=c:=by omega
 refine fI 47 #[.tmp 4,.tmp 5] Tryz.func28 rfl ?_;refine rg1 (an @syV.eq_1 @zG.eq_1) ?_;refine zA ?_;refine rc1 hval (an @syV.eq_1 @zG.eq_1) ?_;refine rg0 ?_;refine cS0 ?_;refine rc0 zD0 ?_;refine zA ?_;refine rg1 (an @zDE (an @d1 @d2)) ?_;refine cS0 ?_;refine rg0 ?_;refine zA ?_;refine rg1 @hpl ?_;refine zB ?_;refine awp_loop (fun k:Nat=>mkS [(1,.t 2 (.int .i64 c)),(7,.t 2 (.sl 6 zTa)),(8,.own 0 k),(26,.t 0 (zG pl)),(27,.t 2 (.int .i64 N)),(28,.t 2 (.int .i64 k))] [(0,.row 3 1 2 ((idL N).take k|>.map (.int .i64)))] 1 47 [.any,.any]) (fun k=>k<=N) (fun k=>N-k) ?_ ?_
 ·refine⟨0,by omega,?_⟩;exact kw1 [(0,none)] @zG.eq_1
 intro k hk;refine rg0 ?_;refine zA ?_;by_cases hlt:k<N
 ·have hkp:k<pl.length:=by omega
  have hil:k<(idL N).length:=by simp[idL,hlt]
  have htk:(idL N).take (k+1)=(idL N).take k++[(k:Int)]:=by
   rw[Qf hil];simp[idL,zBK]
  have hlen:((idL N).take k).length=k:=by simp[idL];omega
  refine cK1 @hlt ?_;refine zA ?_;refine zB ?_;refine rg1 (an @hkp @zG.eq_1) ?_;generalize pl[k]=b
  cases b with
  |true=>
   refine rg0 ?_;refine cT0 ?_;refine rr1 @hlen ?_;refine rr0 ?_;refine⟨k+1,by omega,by omega,?_⟩;rw[htk];exact kw1 [(0,some 0)] @zG.eq_1
  |false=>
   refine rg1 (an @hat (an @zDE @hm)) ?_;refine cT0 ?_;refine rr1 @hlen ?_;refine rr0 ?_;refine⟨k+1,by omega,by omega,?_⟩;rw[htk];exact kw1 [(0,some 0)] @zG.eq_1
 ·obtain rfl:k=N:=by omega
  have hfu:(idL k).take k=idL k:=Qn (by simp[idL]);refine cF0 ?_;refine zE ?_;refine rg0 ?_;refine zC ?_;refine⟨⟨.inr rfl,_,[],rfl,trivial,trivial,by simp,?_⟩,by simp[syV]⟩;simp;exact⟨by simp[idL],by rw[Qn (by simp[idL])];rfl⟩
theorem zLM{L N c B:Nat}{tb:List (List Int)}{ws:List (List Nat)}{im:List Int}{ac pl:List Bool}(a b:Tm)(hpl:pl.length=N)(hN:N<=400)(hval:FnA Tryz.prog 32 [syV 0 L tb ws im ac pl] (.t 2 (.int .i64 0)))(hc:c<17)(hm:(zDT[c]'hc).mon=true)
  (hz:(zDT[c]'hc).fst.size<=1000) (h1:zL3 (zDT[c]'hc).fst=(a,b,-1,0)) (h2:(zDT[c]'hc).snd=⟨#[]⟩) (hB1:1<=B) (hB2:B<=1048576) (herr:(zFa tb (idL N) a b B).2.2=0\/(zFa tb (idL N) a b B).2.2=9) (hst:(zFa tb (idL N) a b B).2.1<=1000000000):
  ∃res,(∃(i st:Int) (vl:T),res= .tup [.t 2 (.bool (decide ((zFa tb (idL N) a b B).2.2=9))),.t 2 (.int .i64 i),.t 1 vl,.t 2 (.int .i64 st),.t 2 (.int .i64 0)])/\FnS Tryz.prog 9 [syV 1 L tb ws im ac pl,.t 2 (.int .i64 c),.t 2 (.int .i64 B)] [] res []:=by
 have hat:=zIt hc;have hin:c*6+6<=102:=by omega
 have hel:=zG5 hpl hN hval hc hm;have hcl:=zPK _ a b hz h1 h2;generalize zDT[c]'hc=e at hat hcl;have hvi:=zJa tb (idL N) a b (by simp[idL];omega) (B:Int);generalize zFa tb (idL N) a b B=vio at herr hst hvi;obtain⟨vl,st,er⟩:=vio;simp only at herr hst;have d1: ¬(B:Int)<1:=by omega
 have d2: ¬1048576<(B:Int):=by omega
 have d3:((0:Int)==B)=false:=by
  have: ¬(0:Int)=B:=by omega
  simpa using this
 refine zh Tryz.func9 rfl (by simp[Tryz.f9]) ?_;rw[show Tryz.f9.ntmps=75 from rfl,show Tryz.f9.results= #[.tmp 6,.tmp 7,.tmp 8,.tmp 9,.tmp 10]from rfl];refine rg1 (an @syV.eq_1 @zG.eq_1) ?_;refine rc1 hel (an @syV.eq_1 @zG.eq_1) ?_;refine zA ?_;refine rg0 ?_;refine cS0 ?_;refine zA ?_;refine rg1 (an @d1 @d2) ?_;refine cS0 ?_;refine rg0 ?_;refine zA ?_;refine zF fun K hK=>?_
 simp(maxSteps:=2000000)(disch:=omega)
 (repeat' apply And.intro)
 all_goals (try omega)
 refine zD (caps:=[]) (zD0) [] [] 2 rfl rfl rfl rfl (by kernel_rfl) (by simp) ?_ trivial trivial rfl trivial trivial (by simp) ?_
 ·simp
 simp(maxSteps:=2000000)(disch:=omega)[scal,zDE,hat,hin,zJP.cells]
 (repeat' apply And.intro)
 all_goals (try omega)
 refine zD (caps:=[]) (hcl) [] [] 2 rfl rfl rfl rfl (by kernel_rfl) (by simp) ?_ trivial trivial rfl trivial trivial (by simp) ?_
 ·simp[scal,zUG]
 simp(maxSteps:=2000000)(disch:=omega)[scal,zVM,zPk];and_intros<;>try first|apply hK|omega|rfl|simp<;>omega
 refine zB ?_;refine awp_loop (fun k:Nat=>mkS [(2,.t 2 (.int .i64 B)),(3,.ptr 0 0 6),(11,.t 2 (ints (idL N))),(13,.t 2 (.int .i64 (if k=0 then 0 else(st:Int)))),(39,.t 1 (.sl 6 (zPk a b))),(40,.t 2 (.int .i64 1)),(41,.t 2 (.int .i64 k))]
   [(0,.box 29 [.any,.t 1 (rows tb),.any,.any,.any,.any])] 1 75 [.any,.any,.any]) (fun k=>k<=1/\(k=1->er=9)) (fun k=>1-k) ?_ ?_
 ·refine⟨0,⟨by omega,fun h=>by omega⟩,?_⟩;exact kw1 [(0,some 0)] (an @zG.eq_1 (an @rows.eq_1 @zPk.eq_1))
 rintro k ⟨hk,hk9⟩;refine rg0 ?_;refine zA ?_;rcases(by omega:k=0\/k=1)with rfl|rfl
 ·refine cK0 ?_;refine zA ?_;refine zB ?_;refine rg1 @zPk.eq_1 ?_;refine zA ?_;refine rg1 @d3 ?_;refine cS0 ?_;refine zF fun K hK=>?_
  simp(maxSteps:=2000000)(disch:=omega)[zBs,Int.sub_zero]
  (repeat' apply And.intro)
  all_goals (try omega)
  refine zD (caps:=[]) (hvi) [] [] 1 rfl rfl rfl rfl (by kernel_rfl) (by simp) ?_ ?_ (by simp) rfl (by simp) trivial (by simp) ?_
  ·simp[scal,rows,ints,idV]
  ·trivial
  simp(maxSteps:=2000000)(disch:=omega)[ints,scal,zVb]
  (repeat' first|apply hK|apply And.intro)<;>try first|omega|rfl|(simp<;>omega)
  refine rg0 ?_;refine rg0 ?_;refine zB ?_;rcases herr with rfl|rfl
  ·refine rg0 ?_;refine cT0 ?_;refine rg0 ?_;refine zC ?_;refine⟨_,⟨0,st,ints vl,rfl⟩,?_⟩;exact rt1 (an @syV.eq_1 @ints.eq_1)
  ·refine rg0 ?_;refine cF0 ?_;refine rg0 ?_;refine cZ0 ?_;refine rr0 ?_;refine⟨1,⟨by omega,fun _=>rfl⟩,by omega,?_⟩;exact kw1 [(0,some 0)] (an @zG.eq_1 (an @rows.eq_1 @zPk.eq_1))
 ·obtain rfl:=hk9 rfl;refine cF0 ?_;refine zE ?_;refine rg0 ?_;refine zC ?_;refine⟨_,⟨-1,st,.sl 0 [],rfl⟩,?_⟩;exact rt1 @syV.eq_1
