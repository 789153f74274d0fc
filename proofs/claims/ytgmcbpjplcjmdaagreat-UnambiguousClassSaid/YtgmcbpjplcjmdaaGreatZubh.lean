/- Lemmas for the law unambiguousClass. No conditions. -/
import Derived.Test.YtgmcbpjplcjmdaaGreatZuak
set_option linter.all false
namespace Go.Proofs.YtgmcbpjplcjmdaaGreat.M
open Go.RowKit
set_option maxRecDepth 100000
set_option maxHeartbeats 32000000

theorem zPS{l:List Mo}{i:Nat}(h:i<l.length):List.take 2 (List.drop (i*2) (zBb l))=[ints (nI l[i].1),ints (nI l[i].2)]:=by
 have hd: ∀(l:List Mo) (k:Nat),(zBb l).drop (k*2)=zBb (l.drop k):=fun l=>by
  induction l with
  |nil=>intro k;simp[zBb]
  |cons m l ih=>
   intro k
   cases k with
   |zero=>simp
   |succ k=>
    have:=ih k;rw[show(k+1)*2=k*2+2 by omega];simpa[zBb]using this
 rw[hd,List.drop_eq_getElem_cons h];rfl
theorem zRr{l:List Mo}{k:Nat}(h:k<l.length):k*2+2<=l.length*2:=by omega
theorem zDk(l:List Mo)(h1:l.length<=400)(h2: ∀p∈l,p.1.length<=61/\p.2.length<=61):FnA Tryz.prog 18 [.t 0 (.sl 2 (zBb l)),.t 0 (.sl 2 (zBb l))] (.t 2 (.bool true)):=by
 refine fI 43 #[.tmp 4] Tryz.func18 rfl ?_;refine rg0 ?_;refine zA ?_;refine rg0 ?_;refine cS0 ?_;refine zA ?_;refine rg0 ?_;refine zB ?_;refine awp_loop (fun k:Nat=>mkS [(0,.t 0 (.sl 2 (zBb l))),(1,.t 0 (.sl 2 (zBb l))),(12,.t 2 (.int .i64 l.length)),(13,.t 2 (.int .i64 k))] [] 0 43 [.any,.any]) (fun k=>k<=l.length) (fun k=>l.length-k) ?_ ?_
 ·refine⟨0,by omega,?_⟩;exact kw0 []
 intro k hk;refine rg0 ?_;refine zA ?_;by_cases hkl:k<l.length
 ·have hat:=zPS hkl;have hin:=zRr hkl;have hsp:=h2 l[k] (by simp);have hs1:=zGj (nI l[k].1) (nI l[k].1) (by simp;omega);have hs2:=zGj (nI l[k].2) (nI l[k].2) (by simp;omega);refine cK1 @hkl ?_;refine zA ?_;refine zB ?_;refine rg0 ?_;refine zg (by kernel_rfl) (fun K hK=>?_);simp(maxSteps:=2000000)(disch:=omega)[ints,hat,hin]
  (repeat' apply And.intro)
  all_goals (try omega)
  refine zM (caps:=[]) (hs1) [] [] 2 rfl rfl rfl rfl (by kernel_rfl) (by simp) ?_ trivial trivial rfl trivial trivial (by simp) ?_
  ·simp[scal,ints]
  simp(maxSteps:=2000000)(disch:=omega)[ints,scal,hat,hin]
  (repeat' apply And.intro)
  all_goals (try omega)
  refine zM (caps:=[]) (hs2) [] [] 2 (by simp) rfl rfl rfl (by kernel_rfl) (by simp) ?_ trivial trivial rfl trivial trivial (by simp) ?_
  ·simp[scal,ints]
  simp(maxSteps:=2000000)(disch:=omega)[scal]
  (repeat' first|apply hK|apply And.intro)<;>try first|(show zAY _ _=true;kernel_rfl)|(show okH _ _ _=true;kernel_rfl)|omega|rfl|(simp<;>omega)
  refine cY0 ?_;refine rr0 ?_;refine⟨k+1,by omega,by omega,?_⟩;exact kw0 []
 ·refine cF1 @hkl ?_;refine zE ?_;refine rg0 ?_;exact zC rt0
