/-
  Walks in my logic: the tape (Mod, New, Next), Dfa.
  Walks in my logic: Ordered, Permutations.
  Walk in my logic: Permutations.
-/
import Derived.Test.YtgelfgpcnaeecaaGreatDoorZsad
namespace Go.Proofs.YtgelfgpcnaeecaaGreatDoor.M
open Go.RowKit
set_option linter.unusedVariables false
set_option linter.unusedSimpArgs false
set_option maxRecDepth 100000
set_option maxHeartbeats 32000000

def zE (bs : List Bool) : T:=.sl 1 (bs.map .bool)
@[simp] theorem zSa (p : Nat) (bs : List Bool) : lvs p (bs.map T.bool) = 2:=by
 unfold lvs; rw [if_pos]; simp [scal]
def zJ8 (x n : Int) : Int:=if n < 1 then 0 else x.emod n
theorem zLt {x n : Int} (h : 1 <= n) : 0 <= zJ8 x n /\ zJ8 x n < n:=by
 unfold zJ8
 rw [if_neg (by omega)]
 exact ⟨Int.emod_nonneg _ (by omega),Int.emod_lt_of_pos _ (by omega)⟩
theorem zKu {x n : Int} (h : 1 <= n) : (x.tmod n < 0 -> x.tmod n + n = zJ8 x n) /\ (¬ x.tmod n < 0 -> x.tmod n = zJ8 x n):=by
 have e : zJ8 x n = x % n:=by unfold zJ8; rw [if_neg (by omega)]; rfl
 rw [e]
 have h3:=Int.emod_nonneg x (show n ≠ 0 by omega)
 have h4:=Int.emod_lt_of_pos x (show 0 < n by omega)
 have h5 : x.tmod n = x % n - if 0 <= x \/ n ∣ x then 0 else n.natAbs:=Int.tmod_eq_emod
 by_cases hc : 0 <= x \/ n ∣ x
 ·rw [if_pos hc] at h5
  constructor <;> intro <;> omega
 ·rw [if_neg hc] at h5
  constructor <;> intro <;> omega
theorem zSR (x n : Int) (hn : n <= 1000000) : FnA Tryz.prog 32 [.t 2 (.int .i64 x),.t 2 (.int .i64 n)] (.t 2 (.int .i64 (zJ8 x n))):=by
 refine fI 16 #[.tmp 4] Tryz.func32 rfl ?_
 refine rg0 ?_
 refine zA ?_
 refine rg0 ?_
 by_cases h1 : n < 1
 ·refine cT1 @h1 ?_
  refine rg0 ?_
  refine zC ?_
  refine ⟨⟨.inr rfl,_,[],rfl,trivial,trivial,by simp,?_⟩,by simp⟩
  simp
  simp [zJ8,h1]
 ·have hmm:=zKu (x:=x) (show 1 <= n by omega)
  have hb1:=Int.tmod_lt_of_pos x (show 0 < n by omega)
  have hb2 : -n < x.tmod n:=Int.lt_tmod_of_pos x (show 0 < n by omega)
  have hn0 : ¬ n = 0:=by omega
  refine cS1 @h1 ?_
  refine rg1 @hn0 ?_
  refine zA ?_
  refine rg0 ?_
  by_cases h2 : x.tmod n < 0
  ·have hmm:=hmm.1 h2
   refine cT1 @h2 ?_
   refine rr0 ?_
   show awp _ _ _ _
   refine rg0 ?_
   refine zC ?_
   refine ⟨⟨.inr rfl,_,[],rfl,trivial,trivial,by simp,?_⟩,by simp⟩
   simp
   exact hmm
  ·have hmm:=hmm.2 h2
   refine cS1 @h2 ?_
   refine rg0 ?_
   refine zC ?_
   refine ⟨⟨.inr rfl,_,[],rfl,trivial,trivial,by simp,?_⟩,by simp⟩
   simp
   exact hmm
def tpO (p : Nat) (xs : List Int) (a : Nat) : AObj:=.box 46 [.t p (ints xs),.t 2 (.int .i64 a)]
theorem zR9 (xs : List Int) : FnS Tryz.prog 4 [.t 1 (ints xs)] [] (.ptr 0 0 2) [tpO 1 (xs.take 80) 0]:=by
 refine fI 11 #[.tmp 2] Tryz.func4 rfl ?_
 refine rg0 ?_
 refine zA ?_
 refine rg0 ?_
 by_cases h : 80 < (xs.length : Int)
 ·refine cT1 @h ?_
  refine rr0 ?_
  show awp _ _ _ _
  refine rg0 ?_
  refine zC ?_
  refine ⟨⟨.inr rfl,_,[(0,some 9000000)],(by first | rfl | (simp [ints,rows,scal,tpO]; rfl)),?_,?_,?_,?_⟩,?_⟩
  all_goals try simp [ints,rows,scal,tpO]
 ·refine cS1 @h ?_
  refine rg0 ?_
  refine zC ?_
  refine ⟨⟨.inr rfl,_,[(0,some 6000000)],(by first | rfl | (simp [ints,rows,scal,tpO]; rfl)),?_,?_,?_,?_⟩,?_⟩
  all_goals try simp [ints,rows,scal,tpO]
  rw [List.take_of_length_le (by simp; omega)]
theorem zA9 (xs : List Int) (a : Nat) (n : Int) (ha : a <= xs.length) (hl : xs.length <= 80) (hn : n <= 1000000) : ∃ v b : Nat,(1 <= n -> (v : Int) < n) /\ b <= xs.length /\ FnS Tryz.prog 13 [.ptr 0 0 2,.t 2 (.int .i64 n)] [tpO 1 xs a] (.t 2 (.int .i64 v)) [tpO 1 xs b]:=by
 by_cases hlt : a < xs.length
 case neg =>
  refine ⟨0,a,by omega,ha,?_⟩
  refine fI 35 #[.tmp 4] Tryz.func13 rfl ?_
  refine rg0 ?_
  refine zA ?_
  refine rd1 @tpO.eq_1 ?_
  refine cT0 ?_
  refine rg0 ?_
  refine zC ?_
  refine ⟨⟨.inr rfl,_,[(0,some 0)],(by first | rfl | (simp [ints,rows,scal,tpO]; rfl)),?_,?_,?_,?_⟩,?_⟩
  all_goals try simp [ints,rows,scal,tpO]
 refine ⟨(zJ8 xs[a] n).toNat,a + 1,?_,by omega,?_⟩
 ·intro h1
  have:=zLt (x:=xs[a]) h1
  omega
 have hmi : ((zJ8 xs[a] n).toNat : Int) = zJ8 xs[a] n:=by
  by_cases h1 : 1 <= n
  ·have:=zLt (x:=xs[a]) h1
   omega
  ·simp [zJ8,show n < 1 by omega]
 rw [hmi]
 refine fI 35 #[.tmp 4] Tryz.func13 rfl ?_
 refine rg0 ?_
 refine zA ?_
 refine rd1 @tpO.eq_1 ?_
 refine cS0 ?_
 refine rg0 ?_
 refine rq1 (zSR xs[a] n hn) @hlt ?_
 refine zC ?_
 refine ⟨⟨.inr rfl,_,[(0,some 0)],(by first | rfl | (simp [ints,rows,scal,tpO]; rfl)),?_,?_,?_,?_⟩,?_⟩
 all_goals try simp [ints,rows,scal,tpO]
theorem zL {a b : Nat} (h : b < a) : (a == b) = false:=by simp; omega
theorem zM {a b : Nat} (h : a < b) : (a == b) = false:=by simp; omega
theorem zV {a b : Nat} (h : a < b) : (a = b) = False:=by simp; omega
theorem zW {a b : Nat} (h : b < a) : (a = b) = False:=by simp; omega
theorem zw {a b : Nat} (h : a < b) : (a < b) = True:=by simp [h]
theorem zF {H : Nat -> Option AObj} {m : Nat -> Option Nat} {un : Nat -> Prop} {nx : Nat} : ∀ {us vs : List AV} {a b : AV},wkPs H m un nx (us ++ [a]) (vs ++ [b]) = (wkPs H m un nx us vs /\ wkP H m un nx a b)
 | [],[],a,b=>by simp
 | x :: us,y :: vs,a,b=>by simp only [List.cons_append,wkPs,zF (us:=us) (vs:=vs),and_assoc]
 | [],y :: vs,a,b=>by
  cases vs <;> simp
 | x :: us,[],a,b=>by
  cases us <;> simp
theorem zH {H : Nat -> Option AObj} {m : Nat -> Option Nat} {un : Nat -> Prop} {nx n : Nat} {f g : Nat -> AV} : wkPs H m un nx (tab n f) (tab n g) = ∀ j,j < n -> wkP H m un nx (f j) (g j):=by
 apply propext
 constructor
 ·intro h j hj
  obtain ⟨a,ha,hab⟩:=(zAA h).2 j (g j) (zP _ hj)
  rw [zP _ hj] at ha
  injection ha with ha
  rw [ha]; exact hab
 ·intro h
  refine zBx (by simp) (fun i a b ha hb=>?_)
  have hi:=(List.getElem?_eq_some_iff.1 ha).1
  rw [zu] at hi
  rw [zP _ hi] at ha hb
  injection ha with ha
  injection hb with hb
  rw [← ha,← hb]
  exact h i hi
structure zR6 (L n s : Nat) (bs : List Bool) (nx : Nat -> List Int) : Prop where
 n1 : 1 <= n
 st : s < n
 bl : bs.length = n
 row : ∀ q,q < n -> (nx q).length = L /\ ∀ v ∈ nx q,0 <= v /\ v < (n : Int)
def dfH (p L n b : Nat) (xs : List Int) (bs : List Bool) : List AObj:=[tpO p xs b,.row 4 1 2 (bs.map .bool),.vec 22 1 2 (tab n fun q=>.own (3 + q) L)]
theorem zAb {P : Program} {f : FuncId} {fn : Func} {c : Code} {args : List AV} {H : List AObj} {G : AV -> List AObj -> Prop} (hf : P.funcs[f]? = some fn) (hb : fn.body = some c) (hle : args.length <= fn.ntmps) (h : awp P c (fun e σ=>(∃ res H',G res H' /\ ∃ m un,resG P fn.results.toList res H' m un e σ) /\ σ.gh = ghA args) (zBz args H fn.ntmps)) : ∃ res H',G res H' /\ FnS P f args H res H':=by
 obtain ⟨e,σ',h1,⟨res,H',hG,hr⟩,hgh⟩:=h
 exact ⟨res,H',hG,zGI hf hb hle ⟨e,σ',h1,hr,hgh⟩⟩
def DfG (p L most : Nat) (xs : List Int) (res : AV) (H' : List AObj) : Prop:=∃ n s b bs nx,n <= most /\ b <= xs.length /\ zR6 L n s bs nx /\ res = .agg [.t 2 (.int .i64 L),.t 2 (.int .i64 s),.own 1 n,.own 2 n] /\ H' = dfH p L n b xs bs ++ tab n fun q=>.row 3 1 2 ((nx q).map (.int .i64))
theorem zPm (xs : List Int) (a L most : Nat) (ha : a <= xs.length) (hl : xs.length <= 80) (hL : 1 <= L) (hL2 : L <= 6) (hm : 1 <= most) (hm2 : most <= 100) : ∃ res H',DfG 1 L most xs res H' ∧
  FnS Tryz.prog 17 [.ptr 0 0 2,.t 2 (.int .i64 L),.t 2 (.int .i64 most)] [tpO 1 xs a] res H':=by
 obtain ⟨v1,a1,hv1,ha1,hN1⟩:=zA9 xs a most ha hl (by omega)
 have hv1:=hv1 (by omega)
 obtain ⟨n,hn⟩ : ∃ n,n = 1 + v1:=⟨_,rfl⟩
 obtain ⟨s,a2,hv2,ha2,hN2⟩:=zA9 xs a1 n ha1 hl (by omega)
 have hv2:=hv2 (by omega)
 have hnn : (1 : Int) + v1 = n:=by omega
 have hnm : n <= 100:=by omega
 refine zAb Tryz.func17 rfl (by simp [Tryz.f17]) ?_
 rw [show Tryz.f17.ntmps = 53 from rfl,show Tryz.f17.results = #[.cell 6 28] from rfl]
 refine rg0 ?_
 refine rg0 ?_
 refine zI fun K hK=>?_
 simp (maxSteps:=2000000) (disch:=omega) [ints,rows,scal,zK,wr8]
 (repeat' apply And.intro)
 all_goals (try omega)
 refine zD (caps:=[]) (hN1) [0] [0] 1 rfl rfl rfl rfl (by kernel_rfl) (by simp) ?_ ?_ (by simp) rfl (by simp) ⟨.inr ⟨rfl,0,_,_,_,_,_,rfl,rfl,rfl,rfl,rfl⟩,trivial⟩ (by simp [tpO]) ?_
 ·simp [scal,rows,ints,tpO]
 ·simp [scal,rows,ints,tpO]
 simp (maxSteps:=2000000) (disch:=omega) [ints,rows,scal,zK,wr8,hnn]
 and_intros <;> try first | apply hK | omega | rfl | simp <;> omega
 refine zI fun K hK=>?_
 simp (maxSteps:=2000000) (disch:=omega) [ints,rows,scal,zK,wr8]
 (repeat' apply And.intro)
 all_goals (try omega)
 refine zD (caps:=[]) (hN2) [0] [0] 1 rfl rfl rfl rfl (by kernel_rfl) (by simp) ?_ ?_ (by simp) rfl (by simp) ⟨.inr ⟨rfl,0,_,_,_,_,_,rfl,rfl,rfl,rfl,rfl⟩,trivial⟩ (by simp [tpO]) ?_
 ·simp [scal,rows,ints,tpO]
 ·simp [scal,rows,ints,tpO]
 simp (maxSteps:=2000000) (disch:=omega) [ints,rows,scal,zK,wr8]
 and_intros <;> try first | apply hK | omega | rfl | simp <;> omega
 refine zA ?_
 refine rg0 ?_
 refine zB ?_
 refine awp_loop (fun y : Nat × Nat × List Bool × (Nat -> List Int)=>mkF [(0,.ptr 0 0 2),(1,.t 2 (.int .i64 L)),(6,.ptr 1 0 4),(7,.ptr 2 0 4),(8,.t 2 (.int .i64 n)),(9,.t 2 (.int .i64 y.1))]
   [(0,tpO 1 xs y.2.1),(1,.box 28 [.any,.any,.any,.any]),(2,.box 28 [.t 2 (.int .i64 L),.t 2 (.int .i64 s),.own 3 y.1,.own 4 y.1]),(3,.row 4 1 2 (y.2.2.1.map .bool)),(4,.vec 22 1 2 (tab y.1 fun j=>.own (100 + j) L))]
   100 y.1 (fun j=>.row 3 1 2 ((y.2.2.2 j).map (.int .i64))) 1000 53 [.ptr 0 0 2,.any,.any])
  (fun y=>y.1 <= n /\ y.2.1 <= xs.length /\ y.2.2.1.length = y.1 /\ ∀ q,q < y.1 -> (y.2.2.2 q).length = L /\ ∀ v ∈ y.2.2.2 q,0 <= v /\ v < (n : Int)) (fun y=>n - y.1) ?_ ?_
 ·refine ⟨(0,a2,[],fun _=>[]),⟨by simp,ha2,rfl,fun q hq=>by simp at hq⟩,?_⟩
  exact kf1 [(0,some 0),(1,some 1),(2,some 3000001),(3,none),(4,none)] (fun j=>j) @tpO.eq_1
 ·rintro ⟨q,a3,bs,nx⟩ ⟨hq,ha3,hbl,hrow⟩
  simp only at hq ha3 hbl hrow
  refine zA ?_
  refine rg0 ?_
  by_cases hqn : q < n
  ·refine cK1 @hqn ?_
   refine zA ?_
   refine zB ?_
   obtain ⟨v4,a4,hv4,ha4,hN4⟩:=zA9 xs a3 2 ha3 hl (by omega)
   refine zp (by kernel_rfl) (fun K hK=>?_)
   simp (maxSteps:=2000000) (disch:=omega) [ints,rows,scal,zK,wr8,zCj]
   (repeat' apply And.intro)
   all_goals (try omega)
   refine zS (caps:=[]) (hN4) [0] [0] 1 rfl rfl rfl rfl (by kernel_rfl) (by simp) ?_ ?_ (by simp) rfl (by simp) ⟨.inr ⟨rfl,0,_,_,_,_,_,rfl,rfl,rfl,rfl,rfl⟩,trivial⟩ (by simp [tpO]) ?_
   ·simp [scal,rows,ints,tpO,zCj]
   ·simp [scal,rows,ints,tpO,zCj]
   simp (maxSteps:=2000000) (disch:=omega) [ints,rows,scal,zK,wr8,zCj,tpO]
   (repeat' first | apply hK | apply And.intro) <;> try first | (show zA8 _ _ = true; kernel_rfl) | (show okH _ _ _ = true; kernel_rfl) | omega | rfl | (simp <;> omega)
   refine rg0 ?_
   refine zA ?_
   refine rg0 ?_
   refine zB ?_
   refine awp_loop (fun y : Nat × Nat × List Int=>mkF [(0,.ptr 0 0 2),(1,.t 2 (.int .i64 L)),(6,.ptr 1 0 4),(7,.ptr 2 0 4),(8,.t 2 (.int .i64 n)),(9,.t 2 (.int .i64 q)),(10,.own 5 y.1),(11,.t 2 (.int .i64 y.1))]
     [(0,tpO 1 xs y.2.1),(1,.box 28 [.any,.any,.any,.any]),(2,.box 28 [.t 2 (.int .i64 L),.t 2 (.int .i64 s),.own 3 (q + 1),.own 4 q]),(3,.row 4 1 2 ((bs ++ [(v4 : Int) == 1]).map .bool)),(4,.vec 22 1 2 (tab q fun j=>.own (100 + j) L)),(5,.row 3 1 2 (y.2.2.map (.int .i64)))]
     100 q (fun j=>.row 3 1 2 ((nx j).map (.int .i64))) 1000 53 [.ptr 0 0 2,.any,.any])
    (fun y=>y.1 <= L /\ y.2.1 <= xs.length /\ y.2.2.length = y.1 /\ ∀ v ∈ y.2.2,0 <= v /\ v < (n : Int)) (fun y=>L - y.1) ?_ ?_
   ·refine ⟨(0,a4,[]),⟨by simp,ha4,rfl,fun v hv=>by simp at hv⟩,?_⟩
    refine zAG [(0,some 0),(1,some 1),(2,some 2),(3,some 3),(4,some 4),(5,none)] (fun j=>100 + j) rfl ?_ ?_ ?_ ?_ ?_ ?_
    all_goals try simp +contextual (disch:=omega) [zL,zM,zV,zW,zw,List.getElem?_cons_succ,Option.getD_some,callF,ints,scal,tpO,zF,zH,hbl]
    all_goals (try omega)
   ·rintro ⟨x,a5,r⟩ ⟨hx,ha5,hrl,hrv⟩
    simp only at hx ha5 hrl hrv
    refine zA ?_
    refine rg0 ?_
    by_cases hxl : x < L
    ·refine cK1 @hxl ?_
     refine zA ?_
     refine zB ?_
     obtain ⟨v6,a6,hv6,ha6,hN6⟩:=zA9 xs a5 n ha5 hl (by omega)
     have hv6:=hv6 (by omega)
     refine zAh fun K hK=>?_
     simp (maxSteps:=2000000) (disch:=omega) [ints,rows,scal,zK,wr8,zCj]
     (repeat' apply And.intro)
     all_goals (try omega)
     refine zD (caps:=[]) (hN6) [0] [0] 1 rfl rfl rfl rfl (by kernel_rfl) (by simp) ?_ ?_ (by simp) rfl (by simp) ⟨.inr ⟨rfl,0,_,_,_,_,_,rfl,rfl,rfl,rfl,rfl⟩,trivial⟩ (by simp [tpO]) ?_
     ·simp [scal,rows,ints,tpO,zCj]
     ·simp [scal,rows,ints,tpO,zCj]
     simp (maxSteps:=2000000) (disch:=omega) [ints,rows,scal,zK,wr8,zCj,tpO]
     and_intros <;> try first | apply hK | omega | rfl | simp <;> omega
     show awp _ _ _ _
     refine rr0 ?_
     refine ⟨(x + 1,a6,r ++ [(v6 : Int)]),⟨by omega,ha6,by simp [hrl],fun v hv=>?_⟩,by simp; omega,?_⟩
     ·rcases List.mem_append.1 hv with hv | hv
      ·exact hrv v hv
      ·simp at hv; omega
     ·refine zAG [(0,some 0),(1,some 1),(2,some 2),(3,some 3),(4,some 4),(5,some 5)] (fun j=>100 + j) rfl ?_ ?_ ?_ ?_ ?_ ?_
      all_goals try simp +contextual (disch:=omega) [zL,zM,zV,zW,zw,List.getElem?_cons_succ,Option.getD_some,callF,ints,scal,tpO,zF,zH,hbl,hrl]
      all_goals (try omega)
    ·have hxe : x = L:=by omega
     subst hxe
     refine cF0 ?_
     refine zG ?_
     show awp _ _ _ _
     refine rr1 @zCj.eq_1 ?_
     show awp _ _ _ _
     refine rr0 ?_
     refine ⟨(q + 1,a5,bs ++ [(v4 : Int) == 1],fun j=>if j < q then nx j else r),⟨by omega,ha5,by simp [hbl],fun j hj=>?_⟩,by simp; omega,?_⟩
     ·by_cases hjq : j < q
      ·simp only [if_pos hjq]; exact hrow j hjq
      ·simp only [if_neg hjq]; exact ⟨hrl,hrv⟩
     ·refine zAG [(0,some 0),(1,some 1),(2,some 2),(3,some 3),(4,some 4)] (fun j=>if j < q then 100 + j else 5) rfl ?_ ?_ ?_ ?_ ?_ ?_
      all_goals try simp +contextual (disch:=omega) [zL,zM,zV,zW,zw,List.getElem?_cons_succ,Option.getD_some,callF,ints,scal,tpO,zF,zH,hbl,hrl,zCP]
      all_goals (try omega)
      ·intro j hj
       by_cases hjq : j < q
       ·simp +contextual (disch:=omega) [zL,zM,zV,zW,zw,List.getElem?_cons_succ,Option.getD_some,callF,ints,scal,tpO,zF,zH,hjq]
       ·simp +contextual (disch:=omega) [zL,zM,zV,zW,zw,List.getElem?_cons_succ,Option.getD_some,callF,ints,scal,tpO,zF,zH,hjq]
      ·intro i j hi hj h
       split at h <;> split at h <;> omega
  ·have hqe : q = n:=by omega
   subst hqe
   refine cF0 ?_
   refine zG ?_
   show awp _ _ _ _
   refine rg1 @zCj.eq_1 ?_
   refine zC ?_
   refine ⟨⟨_,_,⟨q,s,a3,bs,nx,by omega,ha3,⟨by omega,by omega,hbl,hrow⟩,rfl,rfl⟩,?_⟩,by simp⟩
   refine zRZ [(0,some 0),(1,some 3),(2,some 4)] (fun j=>100 + j) (.inr rfl) ?_ ?_ ?_ ?_ ?_ _ ?_ (by first | (simp; rfl) | rfl)
   all_goals try simp +contextual (disch:=omega) [zL,zM,zV,zW,zw,List.getElem?_cons_succ,Option.getD_some,callF,ints,scal,tpO,zF,zH,dfH]
theorem zG2 (po : List Nat) (q n : Nat) (f : Nat -> AV) : outVs po q (tab n f) = tab n fun j=>outV po q (f j):=by
 obtain ⟨h1,h2⟩:=zA5 po q (tab n f)
 apply List.ext_getElem?
 intro i
 by_cases hi : i < n
 ·rw [zP _ hi]
  have hi2 : i < (outVs po q (tab n f)).length:=by rw [h1]; simpa using hi
  obtain ⟨a,ha,hab⟩:=h2 i _ (List.getElem?_eq_getElem hi2)
  rw [zP _ hi] at ha
  injection ha with ha
  rw [List.getElem?_eq_getElem hi2,hab,ha]
 ·rw [List.getElem?_eq_none (by rw [h1]; simp; omega),List.getElem?_eq_none (by simp; omega)]
theorem zGb {ph : List Nat} {b n q h L : Nat} (hh : h = ph.length) : outVs (poF ph b n) q (tab n fun j=>.own (h + j) L) = tab n fun j=>AV.own (b + j) L:=by
 rw [zG2]
 apply List.ext_getElem?
 intro i
 by_cases hi : i < n
 ·rw [zP _ hi,zP _ hi]
  subst hh
  simp only [outV]
  rw [zPU hi]
 ·rw [zA1 _ (by omega),zA1 _ (by omega)]
theorem zBT {a b : Nat} (h : a ≠ b) : (a == b) = false:=by simpa using h
theorem zz {H : Nat -> Option AObj} {un : Nat -> Prop} {q n : Nat} {f : Nat -> AV} {g : Nat -> T} : wkT H un q (tab n f) (tab n g) = ∀ j,j < n -> wk1 H un q (f j) (g j):=by
 apply propext
 constructor
 ·intro h j hj
  exact h.2 j (f j) (g j) (zP _ hj) (zP _ hj)
 ·intro h
  refine ⟨by simp,fun i a b ha hb=>?_⟩
  have hi:=(List.getElem?_eq_some_iff.1 ha).1
  rw [zu] at hi
  rw [zP _ hi] at ha hb
  injection ha with ha
  injection hb with hb
  rw [← ha,← hb]
  exact h i hi
def dfT (p L s : Nat) (bs : List Bool) (nxt : List (List Int)) : AV:=.agg [.t 2 (.int .i64 L),.t 2 (.int .i64 s),.t p (zE bs),.t p (rows nxt)]
structure DfL (L n s : Nat) (bs : List Bool) (nxt : List (List Int)) : Prop where
 n1 : 1 <= n
 st : s < n
 bl : bs.length = n
 nl : nxt.length = n
 row : ∀ r ∈ nxt,r.length = L /\ ∀ v ∈ r,0 <= v /\ v < (n : Int)
theorem zR6.list {L n s : Nat} {bs : List Bool} {nx : Nat -> List Int} (h : zR6 L n s bs nx) : DfL L n s bs (tab n nx) :=
 ⟨h.n1,h.st,h.bl,by simp,fun r hr=>by
  simp only [tab,List.mem_map,List.mem_range] at hr
  obtain ⟨q,hq,rfl⟩:=hr
  exact h.row q hq⟩
def MkG (L most : Nat) (xs : List Int) (res : AV) (H' : List AObj) : Prop:=∃ n s b bs nxt,n <= most /\ b <= xs.length /\ DfL L n s bs nxt /\ res = dfT 2 L s bs nxt /\ H' = [tpO 1 xs b]
theorem zJ5 (xs : List Int) (a L most : Nat) (ha : a <= xs.length) (hl : xs.length <= 80) (hL : 1 <= L) (hL2 : L <= 6) (hm : 1 <= most) (hm2 : most <= 100) : ∃ res H',MkG L most xs res H' ∧
  FnS Tryz.prog 14 [.ptr 0 0 2,.t 2 (.int .i64 L),.t 2 (.int .i64 most)] [tpO 1 xs a] res H':=by
 obtain ⟨res,H',⟨n,s,b,bs,nx,hnm,hb,hD,rfl,rfl⟩,hspec⟩:=zPm xs a L most ha hl hL hL2 hm hm2
 have hn1:=hD.n1
 have hst:=hD.st
 have hbl:=hD.bl
 have hrow:=hD.row
 refine zAb Tryz.func14 rfl (by simp [Tryz.f14]) ?_
 rw [show Tryz.f14.ntmps = 46 from rfl,show Tryz.f14.results = #[.cell 6 28] from rfl]
 refine rg0 ?_
 refine zI fun K hK=>?_
 simp (maxSteps:=2000000) (disch:=omega) [ints,rows,scal,zK,wr8]
 (repeat' apply And.intro)
 all_goals (try omega)
 refine zC7 (caps:=[]) hspec [0] [0,4000001,4000002] 4000003 1 rfl rfl rfl rfl (by kernel_rfl) (by simp) ?_ ?_ (by simp) rfl (by simp) ⟨.inr ⟨rfl,0,_,_,_,_,_,rfl,rfl,rfl,rfl,rfl⟩,.inl (by omega),.inl (by omega),trivial⟩ (by omega) (by intro k hk; simp at hk; omega) (by simp [tpO,dfH]) (fun j hj=>rfl) ?_
 ·simp [scal,tpO]
 ·simp [tpO,scal]
 simp (maxSteps:=2000000) (disch:=omega) [zRB,zRG,zFN,zEB,zFV,zDs,awpOp,awpOpD,wrE,gd,aop,aBuiltin,aNil,aMin,ASt.eval,AV.ofV,zAu,ASt.app,Eff.heap,dels,zBa,aLoad,aStore,aField,aFieldV,aIndexAddr,aIndex,aSlice,aSliceO,aLen,aBin,iB,sB,aUn,aConv,aAlloc,aBox,aBuild,afill,avCells,AV.leaf,zSO,aBuildSlice,frz,frzL,isOwn,vecOf,tsOf,aMake,srcOf,aAppend,aMkMap,aMapUpd,aLookup,oint,cut,putL,AObj.cnt,mkS,zl,zi,zj,zf,zBz,Nat.blt_eq,callS,outV,outVs,outO,zA0,addL,delL,ints,rows,scal,zK,wr8,List.getElem?_cons_zero,callF,zSU,zGb (show 3 = [0,4000001,4000002].length from rfl),dfH,tpO]
 and_intros <;> try first | apply hK | omega | rfl | simp <;> omega
 refine zA ?_
 refine rg0 ?_
 refine zB ?_
 refine awp_loop (fun y : Nat × (Nat -> List Int)=>mkF [(6,.ptr 1 0 4),(7,.ptr 2 0 4),(17,.t 2 (.int .i64 n)),(18,.t 2 (.int .i64 y.1))]
   [(0,tpO 1 xs b),(1,.box 28 [.any,.any,.any,.any]),(2,.box 28 [.t 2 (.int .i64 L),.t 2 (.int .i64 s),.own 3 n,.own 4 n]),(3,.row 4 1 2 (bs.map .bool)),(4,.vec 22 1 2 (tab n fun j=>.own (100 + j) L))]
   100 n (fun j=>.row 3 1 2 ((y.2 j).map (.int .i64))) 1000 46 [.ptr 0 0 2,.any,.any])
  (fun y=>y.1 <= n /\ ∀ q,q < n -> (y.2 q).length = L /\ ∀ v ∈ y.2 q,0 <= v /\ v < (n : Int)) (fun y=>n - y.1) ?_ ?_
 ·refine ⟨(0,nx),⟨by simp,hrow⟩,?_⟩
  refine zAG [(0,some 0),(1,some 1),(2,some 5000001),(3,some 4000001),(4,some 4000002)] (fun j=>4000003 + j) rfl ?_ ?_ ?_ ?_ ?_ ?_
  all_goals try simp +contextual (disch:=omega) [zL,zM,zV,zW,zw,List.getElem?_cons_succ,Option.getD_some,callF,ints,scal,tpO,zF,zH]
  all_goals (try omega)
  exact ⟨by simp [poF],by simp [poF]⟩
 ·rintro ⟨q,nx'⟩ ⟨hq,hrow'⟩
  simp only at hq hrow'
  refine rg0 ?_
  refine zA ?_
  by_cases hqn : q < n
  ·obtain ⟨hql,hqv⟩:=hrow' q hqn
   refine cK1 @hqn ?_
   refine zA ?_
   refine zB ?_
   refine rg0 ?_
   refine rg1 (an @hqn @hql) ?_
   refine zB ?_
   refine awp_loop (fun y : Nat × (Nat -> List Int)=>mkF [(6,.ptr 1 0 4),(7,.ptr 2 0 4),(8,.t 2 (.int .i64 q)),(17,.t 2 (.int .i64 n)),(18,.t 2 (.int .i64 q)),(25,.own (100 + q) L),(26,.t 2 (.int .i64 L)),(27,.t 2 (.int .i64 y.1))]
     [(0,tpO 1 xs b),(1,.box 28 [.any,.any,.any,.any]),(2,.box 28 [.t 2 (.int .i64 L),.t 2 (.int .i64 s),.own 3 n,.own 4 n]),(3,.row 4 1 2 (bs.map .bool)),(4,.vec 22 1 2 (tab n fun j=>.own (100 + j) L))]
     100 n (fun j=>.row 3 1 2 ((y.2 j).map (.int .i64))) 1000 46 [.ptr 0 0 2,.any,.any])
    (fun y=>y.1 <= L /\ ∀ q,q < n -> (y.2 q).length = L /\ ∀ v ∈ y.2 q,0 <= v /\ v < (n : Int)) (fun y=>L - y.1) ?_ ?_
   ·refine ⟨(0,nx'),⟨by simp,hrow'⟩,?_⟩
    refine zAG [(0,some 0),(1,some 1),(2,some 2),(3,some 3),(4,some 4)] (fun j=>100 + j) rfl ?_ ?_ ?_ ?_ ?_ ?_
    all_goals try simp +contextual (disch:=omega) [zL,zM,zV,zW,zw,List.getElem?_cons_succ,Option.getD_some,callF,ints,scal,tpO,zF,zH,hqn]
    all_goals (try omega)
   ·clear hrow' hql hqv
    rintro ⟨x,nx'⟩ ⟨hx,hrow'⟩
    simp only at hx hrow'
    obtain ⟨hql,hqv⟩:=hrow' q hqn
    refine rg0 ?_
    refine zA ?_
    by_cases hxl : x < L
    ·have hxq : x < (nx' q).length:=by omega
     have hv:=hqv (nx' q)[x] (by simp)
     refine cK1 @hxl ?_
     refine zA ?_
     refine zB ?_
     refine rg1 (an @hqn (an @hql (an @hxl @hxq))) ?_
     refine rr1 (an @hqn (an @hql (an @hxl @hxq))) ?_
     show awp _ _ _ _
     refine rr0 ?_
     refine ⟨(x + 1,fun j=>if j = q then (nx' q).set x (if (q : Int) < (nx' q)[x] then (nx' q)[x] else (q : Int)) else nx' j),⟨by omega,fun j hj=>?_⟩,by simp; omega,?_⟩
     ·by_cases hjq : j = q
      ·simp only [if_pos hjq]
       refine ⟨by simp [hql],fun v hv2=>?_⟩
       rcases List.mem_or_eq_of_mem_set hv2 with hv2 | rfl
       ·exact hqv v hv2
       ·split <;> omega
      ·simp only [if_neg hjq]; exact hrow' j hj
     ·refine zAG [(0,some 0),(1,some 1),(2,some 2),(3,some 3),(4,some 4)] (fun j=>100 + j) rfl ?_ ?_ ?_ ?_ ?_ ?_
      all_goals try simp +contextual (disch:=omega) [zL,zM,zV,zW,zw,List.getElem?_cons_succ,Option.getD_some,callF,ints,scal,tpO,zF,zH,hqn]
      all_goals (try omega)
      intro j hj
      by_cases hjq : j = q
      ·subst hjq
       simp +contextual (disch:=omega) [zL,zM,zV,zW,zw,List.getElem?_cons_succ,Option.getD_some,callF,ints,scal,tpO,zF,zH,List.map_set]
      ·simp +contextual (disch:=omega) [zL,zM,zV,zW,zw,List.getElem?_cons_succ,Option.getD_some,callF,ints,scal,tpO,zF,zH,hjq,zBT (show 100 + j ≠ 100 + q by omega)]
    ·have hxe : x = L:=by omega
     subst hxe
     refine cF0 ?_
     refine zG ?_
     show awp _ _ _ _
     refine rr0 ?_
     refine ⟨(q + 1,nx'),⟨by omega,hrow'⟩,by simp; omega,?_⟩
     refine zAG [(0,some 0),(1,some 1),(2,some 2),(3,some 3),(4,some 4)] (fun j=>100 + j) rfl ?_ ?_ ?_ ?_ ?_ ?_
     all_goals try simp +contextual (disch:=omega) [zL,zM,zV,zW,zw,List.getElem?_cons_succ,Option.getD_some,callF,ints,scal,tpO,zF,zH]
     all_goals (try omega)
  ·have hqe : q = n:=by omega
   subst hqe
   refine cF0 ?_
   refine zG ?_
   show awp _ _ _ _
   refine rg0 ?_
   refine rg0 ?_
   refine zC ?_
   refine ⟨⟨_,_,⟨q,0,b,bs,tab q nx',hnm,hb,(zR6.list ⟨hn1,by omega,hbl,hrow'⟩),rfl,rfl⟩,zBN ?_⟩,by simp⟩
   refine ⟨.inr rfl,_,[(0,some 0)],(by first | (simp; rfl) | rfl),?_,?_,?_,?_⟩
   all_goals try simp +contextual (disch:=omega) [zL,zM,zV,zW,zw,List.getElem?_cons_succ,Option.getD_some,callF,ints,scal,tpO,zF,zH,zz,wk1,rows,zE,dfT,ze]
   exact ⟨hbl,fun j hj=>(hrow' j hj).1⟩
theorem zy (hl : List (Nat × AObj)) (base n : Nat) (F : Nat -> AObj) {j : Nat} (h : j < n) : zCj hl base n F (j + base) = some (F j):=by rw [Nat.add_comm]; exact zAM hl base n F h
theorem zAJ (mp : List (Nat × Option Nat)) (base n : Nat) (g : Nat -> Nat) {j : Nat} (h : j < n) : zBY mp base n g (j + base) = some (g j):=by rw [Nat.add_comm]; exact zAN mp base n g h
def zM4 (L n : Nat) (r : List Int) : Prop:=r.length = L /\ ∀ v ∈ r,0 <= v /\ v < (n : Int)
theorem zM4.set {L n : Nat} {r : List Int} (h : zM4 L n r) (x : Nat) {v : Int} (hv : 0 <= v /\ v < (n : Int)) : zM4 L n (r.set x v) :=
 ⟨by simp [h.1],fun u hu=>by
  rcases List.mem_or_eq_of_mem_set hu with hu | rfl
  ·exact h.2 u hu
  ·exact hv⟩
theorem zEG (xs : List Int) (a L most : Nat) (ha : a <= xs.length) (hl : xs.length <= 80) (hL : 1 <= L) (hL2 : L <= 6) (hm : 1 <= most) (hm2 : most <= 100) : ∃ res H',MkG L most xs res H' ∧
  FnS Tryz.prog 15 [.ptr 0 0 2,.t 2 (.int .i64 L),.t 2 (.int .i64 most)] [tpO 1 xs a] res H':=by
 obtain ⟨v1,a1,hv1,ha1,hN1⟩:=zA9 xs a most ha hl (by omega)
 have hv1:=hv1 (by omega)
 obtain ⟨n,hn⟩ : ∃ n,n = 1 + v1:=⟨_,rfl⟩
 obtain ⟨s,a2,hv2,ha2,hN2⟩:=zA9 xs a1 n ha1 hl (by omega)
 have hv2:=hv2 (by omega)
 have hnn : (1 : Int) + v1 = n:=by omega
 have hnm : n <= 100:=by omega
 refine zAb Tryz.func15 rfl (by simp [Tryz.f15]) ?_
 rw [show Tryz.f15.ntmps = 90 from rfl,show Tryz.f15.results = #[.cell 6 28] from rfl]
 refine rg0 ?_
 refine rg0 ?_
 refine zI fun K hK=>?_
 simp (maxSteps:=2000000) (disch:=omega) [ints,rows,scal,zK,wr8]
 (repeat' apply And.intro)
 all_goals (try omega)
 refine zD (caps:=[]) (hN1) [0] [0] 1 rfl rfl rfl rfl (by kernel_rfl) (by simp) ?_ ?_ (by simp) rfl (by simp) ⟨.inr ⟨rfl,0,_,_,_,_,_,rfl,rfl,rfl,rfl,rfl⟩,trivial⟩ (by simp [tpO]) ?_
 ·simp [scal,rows,ints,tpO]
 ·simp [scal,rows,ints,tpO]
 simp (maxSteps:=2000000) (disch:=omega) [ints,rows,scal,zK,wr8,hnn]
 and_intros <;> try first | apply hK | omega | rfl | simp <;> omega
 refine zI fun K hK=>?_
 simp (maxSteps:=2000000) (disch:=omega) [ints,rows,scal,zK,wr8]
 (repeat' apply And.intro)
 all_goals (try omega)
 refine zD (caps:=[]) (hN2) [0] [0] 1 rfl rfl rfl rfl (by kernel_rfl) (by simp) ?_ ?_ (by simp) rfl (by simp) ⟨.inr ⟨rfl,0,_,_,_,_,_,rfl,rfl,rfl,rfl,rfl⟩,trivial⟩ (by simp [tpO]) ?_
 ·simp [scal,rows,ints,tpO]
 ·simp [scal,rows,ints,tpO]
 simp (maxSteps:=2000000) (disch:=omega) [ints,rows,scal,zK,wr8]
 and_intros <;> try first | apply hK | omega | rfl | simp <;> omega
 refine zA ?_
 refine rg0 ?_
 refine zB ?_
 refine awp_loop (fun y : Nat × Nat × List Bool=>mkF [(0,.ptr 0 0 2),(1,.t 2 (.int .i64 L)),(6,.ptr 1 0 4),(7,.ptr 2 0 4),(8,.t 2 (.int .i64 n)),(9,.t 2 (.int .i64 y.1))]
   [(0,tpO 1 xs y.2.1),(1,.box 28 [.any,.any,.any,.any]),(2,.box 28 [.t 2 (.int .i64 L),.t 2 (.int .i64 s),.own 3 y.1,.own 4 y.1]),(3,.row 4 1 2 (y.2.2.map .bool)),(4,.vec 22 1 2 (tab y.1 fun j=>.own (j + 100) L))]
   100 y.1 (fun j=>.row 3 1 2 ((List.replicate L (0 : Int)).map (.int .i64))) 1000 90 [.ptr 0 0 2,.any,.any])
  (fun y=>y.1 <= n /\ y.2.1 <= xs.length /\ y.2.2.length = y.1) (fun y=>n - y.1) ?_ ?_
 ·refine ⟨(0,a2,[]),⟨by simp,ha2,rfl⟩,?_⟩
  exact kf1 [(0,some 0),(1,some 1),(2,some 3000001),(3,none),(4,none)] (fun j=>j) @tpO.eq_1
 ·rintro ⟨q,a3,bs⟩ ⟨hq,ha3,hbl⟩
  simp only at hq ha3 hbl
  refine zA ?_
  refine rg0 ?_
  by_cases hqn : q < n
  ·refine cK1 @hqn ?_
   refine zA ?_
   refine zB ?_
   obtain ⟨v4,a4,hv4,ha4,hN4⟩:=zA9 xs a3 2 ha3 hl (by omega)
   refine zAm (by kernel_rfl) (fun K hK=>?_)
   simp (maxSteps:=2000000) (disch:=omega) [ints,rows,scal,zK,wr8]
   (repeat' apply And.intro)
   all_goals (try omega)
   refine zS (caps:=[]) (hN4) [0] [0] 1 rfl rfl rfl rfl (by kernel_rfl) (by simp) ?_ ?_ (by simp) rfl (by simp) ⟨.inr ⟨rfl,0,_,_,_,_,_,rfl,rfl,rfl,rfl,rfl⟩,trivial⟩ (by simp [tpO]) ?_
   ·simp [scal,rows,ints,tpO]
   ·simp [scal,rows,ints,tpO]
   simp (maxSteps:=2000000) (disch:=omega) [ints,rows,scal,zK,wr8,tpO]
   and_intros <;> try first | apply hK | (show zA8 _ _ = true; kernel_rfl) | (show okH _ _ _ = true; kernel_rfl) | omega | rfl | simp <;> omega
   show awp _ _ _ _
   refine rr0 ?_
   refine ⟨(q + 1,a4,bs ++ [(v4 : Int) == 1]),⟨by omega,ha4,by simp [hbl]⟩,by simp; omega,?_⟩
   refine zAG [(0,some 0),(1,some 1),(2,some 2),(3,some 3),(4,some 4)] (fun j=>if j < q then j + 100 else 13001000) rfl ?_ ?_ ?_ ?_ ?_ ?_
   all_goals try simp +contextual (disch:=omega) [zL,zM,zV,zW,zw,List.getElem?_cons_succ,Option.getD_some,callF,ints,scal,tpO,zF,zH,hbl,zCP,zAJ,zy]
   all_goals (try omega)
   ·intro j hj
    by_cases hjq : j < q
    ·simp +contextual (disch:=omega) [zL,zM,zV,zW,zw,List.getElem?_cons_succ,Option.getD_some,callF,ints,scal,tpO,zF,zH,hjq,zAJ,zy,zBT (show j + 100 ≠ 14001000 by omega),zBT (show j + 100 ≠ 13001000 by omega),zBT (show j + 100 ≠ 8001000 by omega)]
    ·simp +contextual (disch:=omega) [zL,zM,zV,zW,zw,List.getElem?_cons_succ,Option.getD_some,callF,ints,scal,tpO,zF,zH,hjq]
   ·intro i j hi hj h
    split at h <;> split at h <;> omega
  ·have hqe : q = n:=by omega
   subst hqe
   refine cF0 ?_
   refine zG ?_
   show awp _ _ _ _
   refine zA ?_
   refine rg0 ?_
   refine zB ?_
   refine awp_loop (fun y : Nat × Nat × (Nat -> List Int)=>mkF [(0,.ptr 0 0 2),(1,.t 2 (.int .i64 L)),(6,.ptr 1 0 4),(7,.ptr 2 0 4),(8,.t 2 (.int .i64 q)),(10,.t 2 (.int .i64 y.1))]
     [(0,tpO 1 xs y.2.1),(1,.box 28 [.any,.any,.any,.any]),(2,.box 28 [.t 2 (.int .i64 L),.t 2 (.int .i64 s),.own 3 q,.own 4 q]),(3,.row 4 1 2 (bs.map .bool)),(4,.vec 22 1 2 (tab q fun j=>.own (j + 100) L))]
     100 q (fun j=>.row 3 1 2 ((y.2.2 j).map (.int .i64))) 1000 90 [.ptr 0 0 2,.any,.any])
    (fun y=>y.1 <= L /\ y.2.1 <= xs.length /\ ∀ j,j < q -> zM4 L q (y.2.2 j)) (fun y=>L - y.1) ?_ ?_
   ·refine ⟨(0,a3,fun _=>List.replicate L 0),⟨by simp,ha3,fun j hj=>⟨by simp,fun v hv=>?_⟩⟩,?_⟩
    ·have:=List.eq_of_mem_replicate hv
     omega
    ·refine zAG [(0,some 0),(1,some 1),(2,some 2),(3,some 3),(4,some 4)] (fun j=>j + 100) rfl ?_ ?_ ?_ ?_ ?_ ?_
     all_goals try simp +contextual (disch:=omega) [zL,zM,zV,zW,zw,List.getElem?_cons_succ,Option.getD_some,callF,ints,scal,tpO,zF,zH,hbl,zAJ,zy]
     all_goals (try omega)
   ·clear ha3
    rintro ⟨x,a3,nx⟩ ⟨hx,ha3,hnx⟩
    simp only at hx ha3 hnx
    refine zA ?_
    refine rg0 ?_
    by_cases hxl : x < L
    ·refine cK1 @hxl ?_
     refine zA ?_
     refine zB ?_
     refine rg0 ?_
     refine zA ?_
     refine rg0 ?_
     refine zB ?_
     refine awp_loop (fun y : Nat=>mkF [(0,.ptr 0 0 2),(1,.t 2 (.int .i64 L)),(6,.ptr 1 0 4),(7,.ptr 2 0 4),(8,.t 2 (.int .i64 q)),(10,.t 2 (.int .i64 x)),(11,.own 5 y),(12,.t 2 (.int .i64 y))]
       [(0,tpO 1 xs a3),(1,.box 28 [.any,.any,.any,.any]),(2,.box 28 [.t 2 (.int .i64 L),.t 2 (.int .i64 s),.own 3 q,.own 4 q]),(3,.row 4 1 2 (bs.map .bool)),(4,.vec 22 1 2 (tab q fun j=>.own (j + 100) L)),(5,.row 3 1 2 ((tab y fun i=>(i : Int)).map (.int .i64)))]
       100 q (fun j=>.row 3 1 2 ((nx j).map (.int .i64))) 1000 90 [.ptr 0 0 2,.any,.any])
      (fun y=>y <= q) (fun y=>q - y) ?_ ?_
     ·refine ⟨0,by omega,?_⟩
      refine zAG [(0,some 0),(1,some 1),(2,some 2),(3,some 3),(4,some 4),(5,none)] (fun j=>j + 100) rfl ?_ ?_ ?_ ?_ ?_ ?_
      all_goals try simp +contextual (disch:=omega) [zL,zM,zV,zW,zw,List.getElem?_cons_succ,Option.getD_some,callF,ints,scal,tpO,zF,zH,zAJ,zy]
      all_goals (try omega)
     ·intro y hy
      refine zA ?_
      refine rg0 ?_
      by_cases hyq : y < q
      ·refine cK1 @hyq ?_
       refine zA ?_
       refine zB ?_
       refine rr0 ?_
       show awp _ _ _ _
       refine rr0 ?_
       refine ⟨y + 1,by omega,by omega,?_⟩
       refine zAG [(0,some 0),(1,some 1),(2,some 2),(3,some 3),(4,some 4),(5,some 5)] (fun j=>j + 100) rfl ?_ ?_ ?_ ?_ ?_ ?_
       all_goals try simp +contextual (disch:=omega) [zL,zM,zV,zW,zw,List.getElem?_cons_succ,Option.getD_some,callF,ints,scal,tpO,zF,zH,zAJ,zy,zCP]
       all_goals (try omega)
      ·have hye : y = q:=by omega
       subst hye
       refine cF0 ?_
       refine zG ?_
       show awp _ _ _ _
       refine rg0 ?_
       refine zB ?_
       refine awp_loop (fun z : Nat × Nat × List Int × (Nat -> List Int)=>mkF [(0,.ptr 0 0 2),(1,.t 2 (.int .i64 L)),(6,.ptr 1 0 4),(7,.ptr 2 0 4),(8,.t 2 (.int .i64 y)),(10,.t 2 (.int .i64 x)),(11,.t 2 (ints z.2.2.1)),(13,.t 2 (.int .i64 z.1))]
         [(0,tpO 1 xs z.2.1),(1,.box 28 [.any,.any,.any,.any]),(2,.box 28 [.t 2 (.int .i64 L),.t 2 (.int .i64 s),.own 3 y,.own 4 y]),(3,.row 4 1 2 (bs.map .bool)),(4,.vec 22 1 2 (tab y fun j=>.own (j + 100) L))]
         100 y (fun j=>.row 3 1 2 ((z.2.2.2 j).map (.int .i64))) 1000 90 [.ptr 0 0 2,.any,.any])
        (fun z=>z.1 <= y /\ z.2.1 <= xs.length /\ z.2.2.1.length + z.1 = y /\ (∀ v ∈ z.2.2.1,0 <= v /\ v < (y : Int)) /\ ∀ j,j < y -> zM4 L y (z.2.2.2 j)) (fun z=>y - z.1) ?_ ?_
       ·refine ⟨(0,a3,tab y fun i=>(i : Int),nx),⟨by simp,ha3,by simp,fun v hv=>?_,hnx⟩,?_⟩
        ·simp only [tab,List.mem_map,List.mem_range] at hv
         obtain ⟨i,hi,rfl⟩:=hv
         omega
        ·refine zAG [(0,some 0),(1,some 1),(2,some 2),(3,some 3),(4,some 4)] (fun j=>j + 100) rfl ?_ ?_ ?_ ?_ ?_ ?_
         all_goals try simp +contextual (disch:=omega) [zL,zM,zV,zW,zw,List.getElem?_cons_succ,Option.getD_some,callF,ints,scal,tpO,zF,zH,zAJ,zy]
         all_goals (try omega)
       ·clear hnx ha3
        rintro ⟨z,a5,lf,nx⟩ ⟨hz,ha5,hlf,hlv,hnx⟩
        simp only at hz ha5 hlf hlv hnx
        refine zA ?_
        refine rg0 ?_
        by_cases hzy : z < y
        ·refine cK1 @hzy ?_
         refine zA ?_
         refine zB ?_
         obtain ⟨v,a6,hv,ha6,hN6⟩:=zA9 xs a5 lf.length ha5 hl (by omega)
         have hvl : v < lf.length:=by have:=hv (by omega); omega
         have hnz:=hnx z hzy
         have hnl:=hnz.1
         have hlfv:=hlv lf[v] (by simp)
         refine zI fun K hK=>?_
         simp (maxSteps:=2000000) (disch:=omega) [ints,rows,scal,zK,wr8]
         (repeat' apply And.intro)
         all_goals (try omega)
         refine zD (caps:=[]) (hN6) [0] [0] 1 rfl rfl rfl rfl (by kernel_rfl) (by simp) ?_ ?_ (by simp) rfl (by simp) ⟨.inr ⟨rfl,0,_,_,_,_,_,rfl,rfl,rfl,rfl,rfl⟩,trivial⟩ (by simp [tpO]) ?_
         ·simp [scal,rows,ints,tpO]
         ·simp [scal,rows,ints,tpO]
         simp (maxSteps:=2000000) (disch:=omega) [ints,rows,scal,zK,wr8]
         (repeat' first | apply hK | apply And.intro) <;> try first | omega | rfl | (simp <;> omega)
         refine rd1 (an @zy (an @hzy (an @hnl (an @hxl @hvl)))) ?_
         refine re0 ?_
         show awp _ _ _ _
         refine rr0 ?_
         refine ⟨(z + 1,a6,lf.take v ++ lf.drop (v + 1),fun j=>if j = z then (nx z).set x lf[v] else nx j),⟨by omega,ha6,by simp; omega,fun u hu=>?_,fun j hj=>?_⟩,by simp; omega,?_⟩
         ·rcases List.mem_append.1 hu with hu | hu
          ·exact hlv u (List.mem_of_mem_take hu)
          ·exact hlv u (List.mem_of_mem_drop hu)
         ·by_cases hjz : j = z
          ·simp only [if_pos hjz]; exact hnz.set x hlfv
          ·simp only [if_neg hjz]; exact hnx j hj
         ·refine zAG [(0,some 0),(1,some 1),(2,some 2),(3,some 3),(4,some 4)] (fun j=>j + 100) rfl ?_ ?_ ?_ ?_ ?_ ?_
          all_goals try simp +contextual (disch:=omega) [zL,zM,zV,zW,zw,List.getElem?_cons_succ,Option.getD_some,callF,ints,scal,tpO,zF,zH,zAJ,zy]
          all_goals (try omega)
          ·rw [List.take_of_length_le (by simp)]
          ·intro j hj
           by_cases hjz : j = z
           ·subst hjz
            simp +contextual (disch:=omega) [zL,zM,zV,zW,zw,List.getElem?_cons_succ,Option.getD_some,callF,ints,scal,tpO,zF,zH,List.map_set]
           ·simp +contextual (disch:=omega) [zL,zM,zV,zW,zw,List.getElem?_cons_succ,Option.getD_some,callF,ints,scal,tpO,zF,zH,hjz,zBT hjz]
        ·refine cF0 ?_
         refine zG ?_
         show awp _ _ _ _
         refine rr0 ?_
         refine ⟨(x + 1,a5,nx),⟨by omega,ha5,hnx⟩,by simp; omega,?_⟩
         refine zAG [(0,some 0),(1,some 1),(2,some 2),(3,some 3),(4,some 4)] (fun j=>j + 100) rfl ?_ ?_ ?_ ?_ ?_ ?_
         all_goals try simp +contextual (disch:=omega) [zL,zM,zV,zW,zw,List.getElem?_cons_succ,Option.getD_some,callF,ints,scal,tpO,zF,zH,zAJ,zy]
         all_goals (try omega)
    ·refine cF0 ?_
     refine zG ?_
     show awp _ _ _ _
     refine rg0 ?_
     refine zC ?_
     refine ⟨⟨_,_,⟨q,s,a3,bs,tab q nx,by omega,ha3,(zR6.list ⟨by omega,by omega,hbl,fun j hj=>hnx j hj⟩),rfl,rfl⟩,zBN ?_⟩,by simp⟩
     refine ⟨.inr rfl,_,[(0,some 0)],(by first | (simp; rfl) | rfl),?_,?_,?_,?_⟩
     all_goals try simp +contextual (disch:=omega) [zL,zM,zV,zW,zw,List.getElem?_cons_succ,Option.getD_some,callF,ints,scal,tpO,zF,zH,zz,wk1,rows,zE,dfT,ze,zAJ,zy]
     exact ⟨hbl,fun j hj=>(hnx j hj).1⟩
end Go.Proofs.YtgelfgpcnaeecaaGreatDoor.M
