/-
  Walks in my logic: Set, Members, Generated.
  Walks in my logic: of, Of (semigroupref21).
  Walks in my logic: table and images (semigrouplaw23).
-/
import Derived.Test.YtjkeafkjjaploaaGreatZpai
import Derived.Test.YtjkeafkjjaploaaGreatZpad
import Derived.Test.YtjkeafkjjaploaaGreatZpak
namespace Go.Proofs.YtjkeafkjjaploaaGreat.M
open Go.RowKit
set_option linter.unusedVariables false
set_option linter.unusedSimpArgs false
set_option maxRecDepth 100000
set_option maxHeartbeats 32000000

def zAM (n : Nat) (g : Nat -> Bool) : List T:=tab n fun i=>.bool (g i)
theorem zJl {n : Nat} {g : Nat -> Bool} {i : Nat} (h : i < n) : (zAM n g)[i]? = some (.bool (g i)):=zZ _ h
@[simp] theorem zPx (n : Nat) (g : Nat -> Bool) : (zAM n g).length = n:=by simp [zAM]
@[simp] theorem zQG (p n : Nat) (g : Nat -> Bool) : lvs p (zAM n g) = 2:=by
 unfold lvs zAM tab; rw [if_pos]; simp [scal]
def zMq (xs : List Int) (i : Nat) : Bool:=decide ((i : Int) ∈ xs)
theorem zPs (xs : List Int) (n : Nat) (hn : n <= 1000000) (hl : xs.length <= 1000000) : FnS Tryz.prog 130 [.t 0 (ints xs),.t 2 (.int .i64 n)] [] (.own 0 n) [.row 4 1 2 (zAM n (zMq xs))]:=by
 refine fI 28 #[.tmp 4] Tryz.func130 rfl ?_
 refine rg0 ?_
 refine rg0 ?_
 refine zD ?_
 refine rg0 ?_
 refine zG ?_
 refine awp_loop (fun k : Nat=>mkS [(1,.t 2 (.int .i64 n)),(5,.own 0 n),(10,.t 0 (ints xs)),(11,.t 2 (.int .i64 xs.length)),(12,.t 2 (.int .i64 k))] [(0,.row 4 1 2 (zAM n (zMq (xs.take k))))] 1 28 [.any,.any]) (fun k=>k <= xs.length) (fun k=>xs.length - k) ?_ ?_
 ·refine ⟨0,by omega,?_⟩
  exact kw1 [(0,some 2000000)] (an @zAB (an @zAM.eq_1 @zMq.eq_1))
 ·intro k hk
  refine rg0 ?_
  refine zD ?_
  by_cases hkl : k < xs.length
  ·have hst : ∀ i,zMq (xs.take (k + 1)) i = (zMq (xs.take k) i || decide ((i : Int) = xs[k])):=fun i=>by
    rw [List.take_succ_eq_append_getElem hkl]
    simp only [zMq,List.mem_append,List.mem_singleton]
    by_cases h1 : (i : Int) ∈ xs.take k <;> by_cases h2 : (i : Int) = xs[k] <;> simp [h1,h2]
   refine cK1 @hkl ?_
   refine zD ?_
   refine zG ?_
   refine rg1 @hkl ?_
   by_cases h1 : 0 <= xs[k]
   ·by_cases h2 : xs[k] < (n : Int)
    ·obtain ⟨z,hz⟩ : ∃ z : Nat,xs[k] = (z : Int):=⟨xs[k].toNat,by omega⟩
     have hzn : z < n:=by omega
     rw [hz] at h1 h2
     have d1 : decide ((z : Int) ≥ 0) = true:=by simp
     have d2 : decide ((z : Int) < n) = true:=by simpa using hzn
     refine rg1 (an @hz (an @d1 @d2)) ?_
     refine cT0 ?_
     refine rr1 @hzn ?_
     show awp _ _ _ _
     refine rr0 ?_
     refine ⟨k + 1,by omega,by omega,?_⟩
     refine zU [(0,some 0)] rfl ?_ ?_ ?_ ?_
     all_goals try simp [ints,zAM,zp]
     refine zV (fun i hi=>?_)
     rw [hst i,hz]
     by_cases e : i = z
     ·simp [e]
     ·simp [e,show ¬ (i : Int) = (z : Int) by omega]
    ·have d1 : decide (xs[k] ≥ 0) = true:=by simpa using h1
     have d2 : decide (xs[k] < (n : Int)) = false:=by simpa using h2
     refine rg1 (an @d1 @d2) ?_
     refine cY0 ?_
     show awp _ _ _ _
     refine rr0 ?_
     refine ⟨k + 1,by omega,by omega,?_⟩
     refine zU [(0,some 0)] rfl ?_ ?_ ?_ ?_
     all_goals try simp [ints,zAM]
     refine zV (fun i hi=>?_)
     rw [hst i]
     simp [show ¬ (i : Int) = xs[k] by omega]
   ·have d1 : decide (xs[k] ≥ 0) = false:=by simpa using h1
    refine rg1 @d1 ?_
    refine cY0 ?_
    show awp _ _ _ _
    refine rr0 ?_
    refine ⟨k + 1,by omega,by omega,?_⟩
    refine zU [(0,some 0)] rfl ?_ ?_ ?_ ?_
    all_goals try simp [ints,zAM]
    refine zV (fun i hi=>?_)
    rw [hst i]
    simp [show ¬ (i : Int) = xs[k] by omega]
  ·have hke : k = xs.length:=by omega
   refine cF1 @hkl ?_
   refine zM ?_
   show awp _ _ _ _
   refine rg0 ?_
   refine zI ?_
   subst hke
   exact zRi @zAM.eq_1
theorem zIZ (n : Nat) (g : Nat -> Bool) (hn : n <= 1000000) : FnA Tryz.prog 131 [.t 0 (.sl 1 (zAM n g))] (.t 2 (.sl 1 (zAO ((List.range n).filter g)))):=by
 refine fI 20 #[.tmp 2] Tryz.func131 rfl ?_
 refine zQ fun K hK=>?_
 simp (maxSteps:=2000000) (disch:=omega) [ints,rows,scal,zT,wr8]
 and_intros <;> try first | apply hK | omega | rfl | simp <;> omega
 refine zQ fun K hK=>?_
 simp (maxSteps:=2000000) (disch:=omega) [ints,rows,scal,zT,wr8]
 and_intros <;> try first | apply hK | omega | rfl | simp <;> omega
 refine zD ?_
 refine zQ fun K hK=>?_
 simp (maxSteps:=2000000) (disch:=omega) [ints,rows,scal,zT,wr8]
 and_intros <;> try first | apply hK | omega | rfl | simp <;> omega
 refine zG ?_
 refine awp_loop (fun k : Nat=>mkS [(3,.own 0 ((List.range k).filter g).length),(6,.t 0 (.sl 1 (zAM n g))),(7,.t 2 (.int .i64 n)),(8,.t 2 (.int .i64 k))] [(0,.row 3 1 2 (zAO ((List.range k).filter g)))] 1 20 [.any]) (fun k=>k <= n) (fun k=>n - k) ?_ ?_
 ·refine ⟨0,by omega,?_⟩
  refine zU [(0,none)] rfl ?_ ?_ ?_ ?_
  all_goals try simp [ints,zAO]
 ·intro k hk
  have hfl : ((List.range k).filter g).length <= k:=Nat.le_trans (List.length_filter_le _ _) (by simp)
  refine zQ fun K hK=>?_
  simp (maxSteps:=2000000) (disch:=omega) [ints,rows,scal,zT,wr8]
  and_intros <;> try first | apply hK | omega | rfl | simp <;> omega
  refine zD ?_
  by_cases hkn : k < n
  ·have hg:=zJl (g:=g) hkn
   refine zz (b:=true) (p:=2) (by simp [scal,hkn] <;> omega) ?_
   refine zc ?_
   show awp _ _ _ _
   refine zD ?_
   refine zG ?_
   refine zQ fun K hK=>?_
   simp (maxSteps:=2000000) (disch:=omega) [ints,rows,scal,zT,wr8,zAM,hkn]
   and_intros <;> try first | apply hK | omega | rfl | simp <;> omega
   refine zQ fun K hK=>?_
   simp (maxSteps:=2000000) (disch:=omega) [ints,rows,scal,zT,wr8]
   (repeat' first | apply hK | apply And.intro) <;> try first | omega | rfl | (simp <;> omega)
   cases hgk : g k with
   | true =>
    refine zz (b:=true) (p:=2) (by simp [scal,hgk] <;> omega) ?_
    refine zAe fun K hK=>?_
    simp (maxSteps:=2000000) (disch:=omega) [ints,rows,scal,zT,wr8,zAO]
    and_intros <;> try first | apply hK | omega | rfl | simp <;> omega
    show awp _ _ _ _
    refine zAe fun K hK=>?_
    simp (maxSteps:=2000000) (disch:=omega) [ints,rows,scal,zT,wr8]
    (repeat' first | apply hK | apply And.intro) <;> try first | omega | rfl | (simp <;> omega)
    refine ⟨k + 1,by omega,by omega,?_⟩
    refine zU [(0,some 0)] rfl ?_ ?_ ?_ ?_
    all_goals try simp [ints,zAO,zAM,List.range_succ,List.filter_append,hgk]
   | false =>
    refine zz (b:=false) (p:=2) (by simp [scal,hgk] <;> omega) ?_
    refine zc ?_
    show awp _ _ _ _
    refine zAe fun K hK=>?_
    simp (maxSteps:=2000000) (disch:=omega) [ints,rows,scal,zT,wr8]
    (repeat' first | apply hK | apply And.intro) <;> try first | omega | rfl | (simp <;> omega)
    refine ⟨k + 1,by omega,by omega,?_⟩
    refine zU [(0,some 0)] rfl ?_ ?_ ?_ ?_
    all_goals try simp [ints,zAO,zAM,List.range_succ,List.filter_append,hgk]
  ·have hke : k = n:=by omega
   refine zz (b:=false) (p:=2) (by simp [scal,hkn] <;> omega) ?_
   refine zM ?_
   show awp _ _ _ _
   refine zQ fun K hK=>?_
   simp (maxSteps:=2000000) (disch:=omega) [ints,rows,scal,zT,wr8]
   and_intros <;> try first | apply hK | omega | rfl | simp <;> omega
   refine zI ?_
   subst hke
   refine ⟨⟨.inr rfl,_,[],rfl,trivial,trivial,by simp [zAO,zAM],?_⟩,by simp [zAO,zAM]⟩
   simp [zAO,zAM]
def cntF (g : Nat -> Bool) : Nat -> Nat
 | 0=>0
 | k + 1=>cntF g k + if g k then 0 else 1
def zMy (g : Nat -> Bool) (z : Nat) : Nat -> Bool:=fun i=>if i = z then true else g i
theorem zIA {g : Nat -> Bool} {z : Nat} (hz : g z = false) : ∀ {n : Nat},z < n -> cntF (zMy g z) n + 1 = cntF g n
 | 0,h=>by omega
 | n + 1,h=>by
  unfold cntF
  by_cases e : z = n
  ·subst e
   have : ∀ m,m <= z -> cntF (zMy g z) m = cntF g m:=fun m=>by
    induction m with
    | zero=>intro _; rfl
    | succ m ih =>
     intro hm
     unfold cntF
     rw [ih (by omega)]
     simp [zMy,show m ≠ z by omega]
   rw [this z (Nat.le_refl _)]
   simp [zMy,hz]
  ·have:=zIA hz (n:=n) (by omega)
   simp only [zMy,show n ≠ z by omega,if_false]
   cases g n <;> simp <;> omega
def zPO (n : Nat) (tb : List (List Int)) (g : Nat -> Bool) : Prop:=∀ x y,x < n -> y < n -> g x = true -> g y = true -> g (zb tb x y) = true
structure GeG (n : Nat) (tb : List (List Int)) (gens : List Int) (g : Nat -> Bool) : Prop where
 has : ∀ i,i < n -> (i : Int) ∈ gens -> g i = true
 clo : zPO n tb g
 min : ∀ c : Nat -> Bool,(∀ i,i < n -> (i : Int) ∈ gens -> c i = true) -> zPO n tb c -> ∀ i,i < n -> g i = true -> c i = true
theorem zF1 {n : Nat} {tb : List (List Int)} (gens : List Int) (h : zLh n n tb) (hn : n <= 100000) (hl : gens.length <= 1000000) : ∃ res,(∃ g,GeG n tb gens g /\ res = .t 2 (.sl 1 (zAO ((List.range n).filter g)))) /\ FnS Tryz.prog 99 [.t 0 (rows tb),.t 0 (ints gens)] [] res []:=by
 have htl:=h.len
 refine zn Tryz.func99 rfl (by simp [Tryz.f99]) ?_
 rw [show Tryz.f99.ntmps = 60 from rfl,show Tryz.f99.results = #[.tmp 4] from rfl]
 refine rg0 ?_
 refine zQ fun K hK=>?_
 simp (maxSteps:=2000000) (disch:=omega) [ints,rows,scal,zT,wr8,htl]
 (repeat' apply And.intro)
 all_goals (try omega)
 refine zK (caps:=[]) (zPs gens n (by omega) hl) [] [4000000] 2 rfl rfl rfl rfl (by kernel_rfl) (by simp) ?_ trivial trivial rfl (by simp) ⟨.inl (by omega),trivial⟩ (by simp) ?_
 ·simp [scal,rows,ints]
 simp (maxSteps:=2000000) (disch:=omega) [ints,rows,scal,zT,wr8]
 and_intros <;> try first | apply hK | omega | rfl | simp <;> omega
 refine zD ?_
 refine rg0 ?_
 refine zG ?_
 refine awp_loop (fun y : (Nat -> Bool) × Bool=>mkS [(0,.t 0 (rows tb)),(5,.own 0 n),(6,.t 2 (.bool y.2))] [(0,.row 4 1 2 (zAM n y.1))] 1 60 [.any,.any]) (fun y=>(∀ i,i < n -> (i : Int) ∈ gens -> y.1 i = true) /\ (∀ c : Nat -> Bool,(∀ i,i < n -> (i : Int) ∈ gens -> c i = true) -> zPO n tb c -> ∀ i,i < n -> y.1 i = true -> c i = true) /\ (y.2 = false -> zPO n tb y.1)) (fun y=>2 * cntF y.1 n + if y.2 then 1 else 0) ?_ ?_
 ·refine ⟨(zMq gens,true),⟨fun i hi hg=>by simpa [zMq] using hg,fun c hc _ i hi hg=>hc i hi (by simpa [zMq] using hg),fun h=>by simp at h⟩,?_⟩
  exact kw1 [(0,some 4000000)] @rows.eq_1
 ·rintro ⟨g,ch⟩ ⟨hg1,hg2,hg3⟩
  simp only at hg1 hg2 hg3
  refine zD ?_
  refine rg0 ?_
  cases ch with
  | false =>
   refine cF0 ?_
   refine zM ?_
   show awp _ _ _ _
   refine rc0 (zIZ n g (by omega)) ?_
   refine zI ?_
   refine ⟨_,⟨g,⟨hg1,hg3 rfl,hg2⟩,rfl⟩,?_⟩
   exact rt1 @zAO.eq_1
  | true =>
   refine cK0 ?_
   refine zG ?_
   refine rg0 ?_
   refine rg1 @htl ?_
   refine zG ?_
   refine awp_loop (fun y : Nat × (Nat -> Bool) × Bool=>mkS [(0,.t 0 (rows tb)),(5,.own 0 n),(6,.t 2 (.bool y.2.2)),(15,.t 2 (.int .i64 n)),(16,.t 2 (.int .i64 y.1))] [(0,.row 4 1 2 (zAM n y.2.1))] 1 60 [.any,.any]) (fun y=>y.1 <= n /\ (∀ i,g i = true -> y.2.1 i = true) /\ (∀ c : Nat -> Bool,(∀ i,i < n -> (i : Int) ∈ gens -> c i = true) -> zPO n tb c -> ∀ i,i < n -> y.2.1 i = true -> c i = true) /\ (if y.2.2 then cntF y.2.1 n < cntF g n else y.2.1 = g /\ ∀ a b,a < y.1 -> b < n -> g a = true -> g b = true -> g (zb tb a b) = true)) (fun y=>n - y.1) ?_ ?_
   ·refine ⟨(0,g,false),⟨by simp,fun i hi=>hi,hg2,by simp⟩,?_⟩
    exact kw1 [(0,some 0)] @rows.eq_1
   ·rintro ⟨x,g1,ch⟩ ⟨hx,ha1,ha2,ha3⟩
    simp only at hx ha1 ha2 ha3
    refine rg0 ?_
    refine zD ?_
    by_cases hxn : x < n
    ·refine cK1 @hxn ?_
     refine zD ?_
     refine zG ?_
     refine rg0 ?_
     refine rg1 @htl ?_
     refine zG ?_
     refine awp_loop (fun y : Nat × (Nat -> Bool) × Bool=>mkS [(0,.t 0 (rows tb)),(5,.own 0 n),(6,.t 2 (.bool y.2.2)),(7,.t 2 (.int .i64 x)),(15,.t 2 (.int .i64 n)),(16,.t 2 (.int .i64 x)),(20,.t 2 (.int .i64 n)),(21,.t 2 (.int .i64 y.1))] [(0,.row 4 1 2 (zAM n y.2.1))] 1 60 [.any,.any]) (fun y=>y.1 <= n /\ (∀ i,g i = true -> y.2.1 i = true) /\ (∀ c : Nat -> Bool,(∀ i,i < n -> (i : Int) ∈ gens -> c i = true) -> zPO n tb c -> ∀ i,i < n -> y.2.1 i = true -> c i = true) /\ (if y.2.2 then cntF y.2.1 n < cntF g n else y.2.1 = g /\ ∀ a b,a < n -> b < n -> (a < x \/ (a = x /\ b < y.1)) -> g a = true -> g b = true -> g (zb tb a b) = true)) (fun y=>n - y.1) ?_ ?_
     ·refine ⟨(0,g1,ch),⟨by simp,ha1,ha2,?_⟩,?_⟩
      ·cases ch with
       | true=>exact ha3
       | false =>
        simp only [Bool.false_eq_true,if_false] at ha3 ⊢
        exact ⟨ha3.1,fun a b _ hb hab=>ha3.2 a b (by omega) hb⟩
      ·exact kw1 [(0,some 0)] @rows.eq_1
     ·clear ha1 ha2 ha3
      rintro ⟨z,g2,ch⟩ ⟨hz,hb1,hb2,hb3⟩
      simp only at hz hb1 hb2 hb3
      refine rg0 ?_
      refine zD ?_
      by_cases hzn : z < n
      ·obtain ⟨s1,s2,s3,s4⟩:=h.step hxn hzn
       refine cK1 @hzn ?_
       refine zD ?_
       refine zG ?_
       refine rg0 ?_
       have keep : (g2 x = true -> g2 z = true -> g2 (zb tb x z) = true) -> (if ch then cntF g2 n < cntF g n else g2 = g /\ ∀ a b,a < n -> b < n -> (a < x \/ (a = x /\ b < z + 1)) -> g a = true -> g b = true -> g (zb tb a b) = true):=fun hk=>by
        cases ch with
        | true=>exact hb3
        | false =>
         simp only [Bool.false_eq_true,if_false] at hb3 ⊢
         refine ⟨hb3.1,fun a b ha hb hab=>?_⟩
         by_cases e : a = x /\ b = z
         ·obtain ⟨rfl,rfl⟩:=e
          rw [hb3.1] at hk
          exact hk
         ·exact hb3.2 a b ha hb (by omega)
       cases e1 : g2 x with
       | false =>
        refine rg1 (an @zAM.eq_1 (an @hxn @e1)) ?_
        refine cY0 ?_
        show awp _ _ _ _
        refine rr0 ?_
        refine ⟨(z + 1,g2,ch),⟨by omega,hb1,hb2,keep (by rw [e1]; intro h; cases h)⟩,by simp; omega,?_⟩
        exact kw1 [(0,some 0)] (an @rows.eq_1 @zAM.eq_1)
       | true =>
        cases e2 : g2 z with
        | false =>
         refine rg1 (an @zAM.eq_1 (an @hxn (an @hzn (an @e1 @e2)))) ?_
         refine cY0 ?_
         show awp _ _ _ _
         refine rr0 ?_
         refine ⟨(z + 1,g2,ch),⟨by omega,hb1,hb2,keep (by rw [e2]; intro _ h; cases h)⟩,by simp; omega,?_⟩
         exact kw1 [(0,some 0)] (an @rows.eq_1 @zAM.eq_1)
        | true =>
         cases e3 : g2 (zb tb x z) with
         | true =>
          refine rg1 (an @zAM.eq_1 (an @hxn (an @hzn (an @e1 (an @e2 (an @s1 (an @s2 (an @s3 (an @s4 @e3))))))))) ?_
          refine cY0 ?_
          show awp _ _ _ _
          refine rr0 ?_
          refine ⟨(z + 1,g2,ch),⟨by omega,hb1,hb2,keep (fun _ _=>e3)⟩,by simp; omega,?_⟩
          exact kw1 [(0,some 0)] (an @rows.eq_1 @zAM.eq_1)
         | false =>
          refine rg1 (an @zAM.eq_1 (an @hxn (an @hzn (an @e1 (an @e2 (an @s1 (an @s2 (an @s3 (an @s4 @e3))))))))) ?_
          refine cT0 ?_
          refine rg1 (an @zAM.eq_1 (an @s1 (an @s2 (an @s3 @s4)))) ?_
          refine rr0 ?_
          show awp _ _ _ _
          refine rr0 ?_
          have hcs:=zIA e3 s1
          refine ⟨(z + 1,zMy g2 (zb tb x z),true),⟨by omega,fun i hi=>?_,fun c hc1 hc2 i hi hgi=>?_,?_⟩,by simp; omega,?_⟩
          ·simp only [zMy]; split
           ·rfl
           ·exact hb1 i hi
          ·simp only [zMy] at hgi
           by_cases e : i = zb tb x z
           ·rw [e]; exact hc2 x z hxn hzn (hb2 c hc1 hc2 x hxn e1) (hb2 c hc1 hc2 z hzn e2)
           ·rw [if_neg e] at hgi; exact hb2 c hc1 hc2 i hi hgi
          ·simp only [if_true]
           cases ch with
           | true=>simp only [if_true] at hb3; omega
           | false =>
            simp only [Bool.false_eq_true,if_false] at hb3
            rw [hb3.1] at hcs ⊢
            omega
          ·refine zU [(0,some 0)] rfl ?_ ?_ ?_ ?_
           all_goals try simp [ints,rows,zAM,zp,zMy]
           refine zV (fun i hi=>?_)
           by_cases e : i = zb tb x z <;> simp [e]
      ·have hze : z = n:=by omega
       refine cF1 @hzn ?_
       refine zM ?_
       show awp _ _ _ _
       refine rr0 ?_
       refine ⟨(x + 1,g2,ch),⟨by omega,hb1,hb2,?_⟩,by simp; omega,?_⟩
       ·cases ch with
        | true=>exact hb3
        | false =>
         simp only [Bool.false_eq_true,if_false] at hb3 ⊢
         exact ⟨hb3.1,fun a b ha hb=>hb3.2 a b (by omega) hb (by omega)⟩
       ·exact kw1 [(0,some 0)] (an @rows.eq_1 @zAM.eq_1)
    ·have hxe : x = n:=by omega
     refine cF1 @hxn ?_
     refine zM ?_
     refine ⟨(g1,ch),⟨fun i hi hm=>ha1 i (hg1 i hi hm),ha2,fun hch=>?_⟩,?_,?_⟩
     ·subst hch
      simp only [Bool.false_eq_true,if_false] at ha3
      rw [ha3.1]
      exact fun a b ha hb=>ha3.2 a b (by omega) hb
     ·cases ch with
      | true=>simp only [if_true] at ha3 ⊢; omega
      | false =>
       simp only [Bool.false_eq_true,if_false] at ha3 ⊢
       rw [ha3.1]
       simp
     ·exact kw1 [(0,some 0)] (an @rows.eq_1 @zAM.eq_1)
theorem PrI.wl {n : Nat} {gs els : List (List Int)} {pre last : List Int} {wds : List (List Nat)} {right : List (List Int)} {d : Nat} (h : PrI n gs els pre last wds right d) : ∀ w ∈ wds,∀ x ∈ w,x < gs.length:=fun w hw=>by
 obtain ⟨i,hi,rfl⟩:=List.getElem_of_mem hw
 have hle:=h.en.le
 exact (h.en.val i wds[i] (els[i]'(by omega)) (by simp) (by simp)).2.2
theorem zKk {L m : Nat} {right : List (List Int)} {wds : List (List Nat)} (h : zLh L m right) (hl : m = wds.length) (hw : ∀ w ∈ wds,∀ x ∈ w,x < L) : zLh m m (zA6 right wds m):=by
 refine ⟨by simp,fun i r hr=>?_⟩
 have hi:=(List.getElem?_eq_some_iff.1 hr).1
 simp only [zBB] at hi
 unfold zA6 at hr
 rw [zZ _ hi] at hr
 injection hr with hr
 subst hr
 refine ⟨by simp,fun x j hj=>?_⟩
 have hx:=(List.getElem?_eq_some_iff.1 hj).1
 rw [zq] at hx
 rw [zZ _ hx] at hj
 injection hj with hj
 refine ⟨_,hj.symm,h.walk (fun y hy=>?_) hi⟩
 have hxw : x < wds.length:=by omega
 rw [List.getD_eq_getElem?_getD,List.getElem?_eq_getElem hxw] at hy
 exact hw _ (by simp) y hy
def zGa (gs els : List (List Int)) : List Int:=gs.map (zI4 els)
@[simp] theorem zQZ (gs els : List (List Int)) : (zGa gs els).length = gs.length:=by simp [zGa]
def zCZ : AV:=.agg [.t 2 (.int .i64 0),.t 2 (.sl 0 []),.t 2 (.sl 0 []),.t 2 (.sl 0 []),.t 2 (.sl 0 []),.t 2 (.sl 0 [])]
theorem zGv {H : Nat -> Option AObj} {un : Nat -> Prop} {q : Nat} {a : AV} {t : T} : wkT H un q [a] [t] = wk1 H un q a t:=by
 apply propext
 constructor
 ·intro h
  exact h.2 0 a t rfl rfl
 ·intro h
  refine ⟨rfl,fun j x y hx hy=>?_⟩
  cases j with
  | zero=>simp at hx hy; subst hx hy; exact h
  | succ j=>simp at hx
end Go.Proofs.YtjkeafkjjaploaaGreat.M
