/-
  Walk in my logic: the table of a node (starfree.evaluate).
-/
import Derived.Test.YtjkeafkjjaploaaGreatZpaw
import Derived.Test.YtjkeafkjjaploaaGreatZpad
import Derived.Test.YtjkeafkjjaploaaGreatZpax
import Derived.Test.YtjkeafkjjaploaaGreatZpaz
namespace Go.Proofs.YtjkeafkjjaploaaGreat.M
open Go.RowKit
set_option linter.unusedVariables false
set_option linter.unusedSimpArgs false
set_option maxRecDepth 100000
set_option maxHeartbeats 32000000

def zAT (ms : List Nat) : List T:=ms.flatMap fun m=>[.int .u64 (m : Nat),.int .u64 0]
theorem zm (ms : List Nat) : (zAT ms).length = ms.length * 2:=by
 unfold zAT
 induction ms with
 | nil=>rfl
 | cons m r ih=>simp only [List.flatMap_cons,List.length_append,ih]; simp; omega
theorem zEK (a b : List Nat) : zAT (a ++ b) = zAT a ++ zAT b:=by unfold zAT; rw [List.flatMap_append]
theorem zEf (ms : List Nat) (k : Nat) : (zAT ms).drop (k * 2) = zAT (ms.drop k):=by
 by_cases h : k <= ms.length
 ·conv=>lhs; rw [← List.take_append_drop k ms,zEK]
  rw [List.drop_left' (by rw [zm]; simp; omega)]
 ·have h1 : ms.drop k = []:=List.drop_of_length_le (by omega)
  rw [h1,List.drop_of_length_le (by rw [zm]; omega)]
  rfl
theorem zIk (ms : List Nat) (k : Nat) : (zAT ms).take (k * 2) = zAT (ms.take k):=by
 by_cases h : k <= ms.length
 ·conv=>lhs; rw [← List.take_append_drop k ms,zEK]
  rw [List.take_left' (by rw [zm]; simp; omega)]
 ·rw [List.take_of_length_le (by rw [zm]; omega),List.take_of_length_le (by omega)]
theorem zBV {ms : List Nat} {k m : Nat} (h : ms[k]? = some m) : List.take 2 (List.drop (k * 2) (zAT ms)) = [.int .u64 (m : Nat),.int .u64 0]:=by
 obtain ⟨hk,e⟩:=List.getElem?_eq_some_iff.1 h
 rw [zEf,List.drop_eq_getElem_cons hk,e,zAT,List.flatMap_cons]
 rfl
theorem zH4 {ms : List Nat} {k x : Nat} (h : k < ms.length) : (zAT ms).take (k * 2) ++ [.int .u64 (x : Nat),.int .u64 0] ++ (zAT ms).drop (k * 2 + 2) = zAT (ms.set k x):=by
 have e : k * 2 + 2 = (k + 1) * 2:=by omega
 rw [e,zIk,zEf,List.set_eq_take_append_cons_drop,if_pos h,zEK]
 unfold zAT
 simp
theorem zIn (n : Nat) : zAT (List.replicate n 0) = List.replicate (n * 2) (.int .u64 0):=by
 rw [List.eq_replicate_iff]
 refine ⟨by rw [zm,List.length_replicate],fun x hx=>?_⟩
 unfold zAT at hx
 obtain ⟨m,hm,hx⟩:=List.mem_flatMap.1 hx
 obtain rfl:=(List.mem_replicate.1 hm).2
 simpa using hx
theorem zNv (n : Nat) : zN [.int .u64 0,.int .u64 0] 2 n = zAT (List.replicate n 0):=by
 rw [zIn]
 unfold zN
 refine List.ext_getElem? fun j=>?_
 rw [List.getElem?_map]
 by_cases hj : j < n * 2
 ·rw [List.getElem?_range hj,List.getElem?_replicate,if_pos hj,Option.map_some]
  have : j % 2 < 2:=Nat.mod_lt _ (by omega)
  generalize j % 2 = r at this
  rcases (by omega : r = 0 \/ r = 1) with rfl | rfl <;> rfl
 ·rw [List.getElem?_eq_none (by simp; omega),List.getElem?_eq_none (by simp; omega)]
  rfl
def zBa (g : List Nat -> Bool) (w : List Nat) (p : Nat) : Nat:=mkM (fun j=>decide (p <= j) && g (prt w p j)) (w.length + 1)
def zC2 (g : List Nat -> Bool) (w : List Nat) : List Nat:=tab (w.length + 1) (zBa g w)
def zC3 (g : List Nat -> Bool) (w : List Nat) (i : Nat) : List Nat:=tab (w.length + 1) fun p=>if p < i then zBa g w p else 0
theorem zKR (g : List Nat -> Bool) (w : List Nat) : zC3 g w 0 = List.replicate (w.length + 1) 0:=by
 unfold zC3
 rw [zAB]
 simp
theorem zJB (g : List Nat -> Bool) (w : List Nat) : zC3 g w (w.length + 1) = zC2 g w:=by
 unfold zC3 zC2
 refine zV fun p hp=>?_
 rw [if_pos hp]
theorem zAc (g : List Nat -> Bool) (w : List Nat) (i : Nat) : (zC3 g w i).length = w.length + 1:=by simp [zC3]
theorem zJn (g : List Nat -> Bool) (w : List Nat) {i : Nat} (h : i < w.length + 1) : (zC3 g w i)[i]? = some 0:=by
 unfold zC3
 rw [zZ _ h,if_neg (by omega)]
theorem zIB (g : List Nat -> Bool) (w : List Nat) (i : Nat) : (zC3 g w i).set i (zBa g w i) = zC3 g w (i + 1):=by
 unfold zC3
 rw [zp]
 refine zV fun p hp=>?_
 by_cases c : p = i
 ·subst c; simp
 ·rw [if_neg c]
  by_cases d : p < i
  ·rw [if_pos d,if_pos (by omega)]
  ·rw [if_neg d,if_neg (by omega)]
theorem zBq (g : List Nat -> Bool) (w : List Nat) {i : Nat} (h : zBa g w i = 0) : zC3 g w (i + 1) = zC3 g w i:=by
 rw [← zIB,h]
 unfold zC3
 rw [zp]
 refine zV fun p hp=>?_
 by_cases c : p = i
 ·subst c; simp
 ·rw [if_neg c]
theorem zB0 (g : List Nat -> Bool) (w : List Nat) {i : Nat} (h : i < w.length + 1) : (zC2 g w)[i]? = some (zBa g w i):=zZ _ h
theorem zLD (g : List Nat -> Bool) {w : List Nat} (hw : w.length <= 50) (p : Nat) : zBa g w p < 1152921504606846976:=zKj (by omega)
theorem zAJ (g : List Nat -> Bool) (w : List Nat) (p e : Nat) : (zBa g w p).testBit e = (decide (e < w.length + 1) && (decide (p <= e) && g (prt w p e))):=zB4 _ _ _
section
variable {f : Nat -> List Nat -> Bool} {w : List Nat} {i : Nat}
theorem zMX (l a b : Nat) : zBa (ndB f (1,l,a,b)) w i = 0:=by
 apply Nat.eq_of_testBit_eq
 intro e
 rw [zAJ]
 simp [ndB]
theorem zMV (l a b : Nat) (h : i < w.length + 1) : zBa (ndB f (2,l,a,b)) w i = 0 ||| 2 ^ i:=by
 apply Nat.eq_of_testBit_eq
 intro e
 rw [zAJ,Nat.testBit_or,Nat.zero_testBit,Nat.testBit_two_pow]
 have hb : ndB f (2,l,a,b) (prt w i e) = decide (prt w i e = []):=rfl
 rw [hb,Bool.false_or,Bool.eq_iff_iff]
 simp only [Bool.and_eq_true,decide_eq_true_eq]
 constructor
 ·rintro ⟨h1,h2,h3⟩
  have:=zGi h2 (show e <= w.length by omega)
  rw [h3] at this
  simp at this
  omega
 ·rintro rfl
  exact ⟨h,Nat.le_refl _,zJE w _⟩
theorem zOl (l a b : Nat) (h : i < w.length) : zBa (ndB f (3,l,a,b)) w i = if w[i] = l then 0 ||| 2 ^ (i + 1) else 0:=by
 apply Nat.eq_of_testBit_eq
 intro e
 have hb : ndB f (3,l,a,b) (prt w i e) = decide (prt w i e = [l]):=rfl
 have key : (decide (e < w.length + 1) && (decide (i <= e) && decide (prt w i e = [l]))) = decide (w[i] = l /\ e = i + 1):=by
  rw [Bool.eq_iff_iff]
  simp only [Bool.and_eq_true,decide_eq_true_eq]
  constructor
  ·rintro ⟨h1,h2,h3⟩
   have:=zGi h2 (show e <= w.length by omega)
   rw [h3] at this
   simp at this
   obtain rfl : e = i + 1:=by omega
   rw [zJw h] at h3
   exact ⟨by simpa using h3,rfl⟩
  ·rintro ⟨h1,rfl⟩
   exact ⟨by omega,by omega,by rw [zJw h,h1]⟩
 rw [zAJ,hb,key]
 by_cases c : w[i] = l
 ·rw [if_pos c,Nat.testBit_or,Nat.zero_testBit,Nat.testBit_two_pow,Bool.false_or,Bool.eq_iff_iff]
  simp [c,eq_comm]
 ·rw [if_neg c,Nat.zero_testBit]
  simp [c]
theorem zGq (l a b : Nat) (h : i = w.length) : zBa (ndB f (3,l,a,b)) w i = 0:=by
 apply Nat.eq_of_testBit_eq
 intro e
 have hb : ndB f (3,l,a,b) (prt w i e) = decide (prt w i e = [l]):=rfl
 rw [zAJ,hb,Nat.zero_testBit]
 by_cases c : e < w.length + 1 /\ i <= e
 ·obtain rfl : e = i:=by omega
  rw [zJE]
  simp
 ·simp only [Bool.and_eq_false_iff,decide_eq_false_iff_not]
  omega
theorem zN6 (l a b : Nat) : zBa (ndB f (4,l,a,b)) w i = zFK i (w.length + 1):=by
 apply Nat.eq_of_testBit_eq
 intro e
 unfold zFK
 rw [zAJ,zB4]
 simp [ndB]
theorem zQI (l a b : Nat) : zBa (ndB f (5,l,a,b)) w i = zBa (f a) w i ||| zBa (f b) w i:=by
 apply Nat.eq_of_testBit_eq
 intro e
 have hb : ndB f (5,l,a,b) (prt w i e) = (f a (prt w i e) || f b (prt w i e)):=rfl
 rw [Nat.testBit_or,zAJ,zAJ,zAJ,hb]
 cases decide (e < w.length + 1) <;> cases decide (i <= e) <;> simp
theorem zO1 (l a b : Nat) : zBa (ndB f (6,l,a,b)) w i = zBa (f a) w i &&& zBa (f b) w i:=by
 apply Nat.eq_of_testBit_eq
 intro e
 have hb : ndB f (6,l,a,b) (prt w i e) = (f a (prt w i e) && f b (prt w i e)):=rfl
 rw [Nat.testBit_and,zAJ,zAJ,zAJ,hb]
 cases decide (e < w.length + 1) <;> cases decide (i <= e) <;> simp
theorem zN1 (l a b : Nat) (hw : w.length <= 50) : zBa (ndB f (8,l,a,b)) w i = zIt (zFK i (w.length + 1)) (zBa (f a) w i):=by
 apply Nat.eq_of_testBit_eq
 intro e
 have hb : ndB f (8,l,a,b) (prt w i e) = !f a (prt w i e):=rfl
 rw [zLd (zFK i (w.length + 1)) (zBa (f a) w i) e (show zFK i (w.length + 1) < _ from zKj (by omega)),zAJ,zAJ,zFK,zB4,hb]
 cases decide (e < w.length + 1) <;> cases decide (i <= e) <;> simp
def zE9 (f g : List Nat -> Bool) (w : List Nat) (i k : Nat) : Nat:=mkM (fun e=>(List.range k).any fun c=>decide (i <= c) && decide (c <= e) && f (prt w i c) && g (prt w c e)) (w.length + 1)
theorem zIX (f g : List Nat -> Bool) (w : List Nat) (i : Nat) : zE9 f g w i i = 0:=by
 apply Nat.eq_of_testBit_eq
 intro e
 unfold zE9
 rw [zB4,Nat.zero_testBit,Bool.and_eq_false_iff]
 refine .inr ?_
 rw [List.any_eq_false]
 intro c hc
 have:=List.mem_range.1 hc
 simp
 omega
theorem zLH (f g : List Nat -> Bool) (w : List Nat) {i k : Nat} (hk : i <= k) : zE9 f g w i (k + 1) = if f (prt w i k) = true then zE9 f g w i k ||| zBa g w k else zE9 f g w i k:=by
 apply Nat.eq_of_testBit_eq
 intro e
 have h1 : (zE9 f g w i (k + 1)).testBit e = ((zE9 f g w i k).testBit e || (f (prt w i k) && (zBa g w k).testBit e)):=by
  unfold zE9
  rw [zB4,zB4,zAJ,List.range_succ,List.any_append]
  simp only [List.any_cons,List.any_nil,Bool.or_false,decide_eq_true hk,Bool.true_and]
  cases decide (e < w.length + 1) <;> cases f (prt w i k) <;> simp
 rw [h1]
 by_cases c : f (prt w i k) = true
 ·rw [if_pos c,Nat.testBit_or,c,Bool.true_and]
 ·rw [if_neg c]
  rw [Bool.not_eq_true] at c
  rw [c,Bool.false_and,Bool.or_false]
theorem zKU (f : Nat -> List Nat -> Bool) (l a b : Nat) : zE9 (f a) (f b) w i (w.length + 1) = zBa (ndB f (7,l,a,b)) w i:=by
 apply Nat.eq_of_testBit_eq
 intro e
 unfold zE9
 rw [zB4,zAJ]
 by_cases he : e < w.length + 1
 ·rw [decide_eq_true he,Bool.true_and,Bool.true_and,Bool.eq_iff_iff,List.any_eq_true,Bool.and_eq_true,decide_eq_true_eq]
  constructor
  ·rintro ⟨c,hc,h⟩
   simp only [Bool.and_eq_true,decide_eq_true_eq] at h
   exact ⟨by omega,(zLW f l a b (by omega) (by omega)).2 ⟨c,h.1.1.1,h.1.1.2,h.1.2,h.2⟩⟩
  ·rintro ⟨h1,h2⟩
   obtain ⟨c,c1,c2,c3,c4⟩:=(zLW f l a b h1 (by omega)).1 h2
   exact ⟨c,List.mem_range.2 (by omega),by simp [c1,c2,c3,c4]⟩
 ·rw [decide_eq_false he,Bool.false_and,Bool.false_and]
theorem zQO (f g : List Nat -> Bool) {w : List Nat} (hw : w.length <= 50) (i k : Nat) : zE9 f g w i k < 1152921504606846976:=zKj (by omega)
end
theorem zOP {l : List Nat} {i x : Nat} (h : l[i]? = some x) : l.set i x = l:=by
 apply List.ext_getElem?
 intro j
 by_cases c : i = j
 ·subst c
  rw [h,List.getElem?_set_self (List.getElem?_eq_some_iff.1 h).1]
 ·rw [List.getElem?_set_ne c]
theorem zIE (g : List Nat -> Bool) (w : List Nat) (i x : Nat) : ((zC3 g w i).set i x).length = w.length + 1:=by simp [zC3]
theorem zOS {op l a b : Nat} {w : List Nat} (hw : ∀ x ∈ w,x < 6) (hl : w.length <= 50) (h1 : 1 <= op) (h8 : op <= 8) (hlL : l < 100) {tcs : List T} (ht : tcs.length <= 100000) {f : Nat -> List Nat -> Bool} (hA : 5 <= op -> tcs[a]? = some (.sl 2 (zAT (zC2 (f a) w)))) (hB : 5 <= op -> op <= 7 -> tcs[b]? = some (.sl 2 (zAT (zC2 (f b) w)))) :
  FnA Tryz.prog 45 [.agg [.t 2 (.int .i64 op),.t 2 (.int .i64 l),.t 2 (.int .i64 a),.t 2 (.int .i64 b)],.t 0 (.sl 1 tcs),.t 2 (.str (zAF w))] (.t 2 (.sl 2 (zAT (zC2 (ndB f (op,l,a,b)) w)))):=by
 have hzN:=zNv (w.length + 1)
 have hdv : ∀ k : Nat,k * 2 / 2 = k:=fun k=>by omega
 refine fI 166 #[.tmp 6] Tryz.func45 rfl ?_
 refine rg0 ?_
 refine rg1 @hzN ?_
 refine zD ?_
 refine rg1 (an @hzN (an @zm @hdv)) ?_
 refine zG ?_
 refine awp_loop (fun i : Nat=>mkS [(1,.t 0 (.sl 1 tcs)),(2,.t 2 (.str (zAF w))),(3,.ptr 0 0 4),(7,.own 1 ((w.length + 1) * 2)),(15,.t 2 (.int .i64 (w.length + 1 : Nat))),(16,.t 2 (.int .i64 i))]
    [(0,.box 78 [.t 2 (.int .i64 op),.t 2 (.int .i64 l),.t 2 (.int .i64 a),.t 2 (.int .i64 b)]),(1,.row 90 2 2 (zAT (zC3 (ndB f (op,l,a,b)) w i)))] 2 166 [.any,.any,.any]) (fun i=>i <= w.length + 1) (fun i=>w.length + 1 - i) ?_ ?_
 ·refine ⟨0,by omega,?_⟩
  rw [zKR]
  refine zU [(0,some 0),(1,some 5000000)] rfl ?_ ?_ ?_ ?_
  all_goals try simp [ints,zm]
  all_goals (trace_state; sorry)
 intro i hi
 have hLi : (zAT (zC3 (ndB f (op,l,a,b)) w i)).length = (w.length + 1) * 2:=by rw [zm,zAc]
 refine rg0 ?_
 refine zD ?_
 by_cases hlt : i < w.length + 1
 ·have hlt' : (i : Int) < (w.length : Int) + 1:=by omega
  have hat:=zBV (zJn (ndB f (op,l,a,b)) w hlt)
  have hset:=zIB (ndB f (op,l,a,b)) w i
  have hput:=zH4 (ms:=zC3 (ndB f (op,l,a,b)) w i) (k:=i) (x:=zBa (ndB f (op,l,a,b)) w i) (by rw [zAc]; exact hlt)
  rw [hset] at hput
  have hin : i * 2 + 2 <= (w.length + 1) * 2:=by omega
  refine cK1 @hlt' ?_
  refine zD ?_
  refine zG ?_
  refine rg0 ?_
  refine rg0 ?_
  refine zG ?_
  have hcase : op = 1 \/ op = 2 \/ op = 3 \/ op = 4 \/ op = 5 \/ op = 6 \/ op = 7 \/ op = 8:=by omega
  have hQ:=fun g=>zLD (w:=w) g hl i
  rcases hcase with rfl | rfl | rfl | rfl | rfl | rfl | rfl | rfl
  ·have hz:=zBq (ndB f (1,l,a,b)) w (zMX (f:=f) (w:=w) (i:=i) l a b)
   refine rg0 ?_
   refine cF0 ?_
   refine rg0 ?_
   refine cF0 ?_
   refine rg0 ?_
   refine cF0 ?_
   refine rg0 ?_
   refine cF0 ?_
   refine rg0 ?_
   refine cF0 ?_
   refine rg0 ?_
   refine cF0 ?_
   refine rg0 ?_
   refine cY0 ?_
   show awp _ _ _ _
   refine rr0 ?_
   refine ⟨i + 1,by omega,by omega,?_⟩
   rw [hz]
   exact kw1 [(0,some 0),(1,some 1)] (an @hLi (an @zm @zAc))
  ·have hr:=zMV (f:=f) (w:=w) (i:=i) l a b hlt
   have hc:=zFO (m:=0) (j:=i) (by omega) (by omega)
   rw [← hr] at hc
   generalize zBa (ndB f (2,l,a,b)) w i = m at hc hput
   refine rg0 ?_
   refine cT0 ?_
   refine zAe fun K hK=>?_
   simp (maxSteps:=2000000) (disch:=omega) [ints,rows,scal,zT,wr8,hat,hin,hLi,zAf]
   (repeat' apply And.intro)
   all_goals (try omega)
   refine zK (caps:=[]) (hc) [] [] 2 rfl rfl rfl rfl (by kernel_rfl) (by simp) ?_ trivial trivial rfl trivial trivial (by simp) ?_
   ·simp [scal,rows,ints,zAf]
   simp (maxSteps:=2000000) (disch:=omega) [ints,rows,scal,zT,wr8,hat,hin,hLi,hput,zAf]
   and_intros <;> try first | apply hK | omega | rfl | simp <;> omega
   show awp _ _ _ _
   refine rr0 ?_
   refine ⟨i + 1,by omega,by omega,?_⟩
   exact kw1 [(0,some 0),(1,some 1)] (an @hLi (an @zm @zAc))
  ·by_cases hiw : i < w.length
   ·have hr:=zOl (f:=f) l a b hiw
    have hwi:=hw w[i] (by simp)
    have e0:=zCU hiw (by omega)
    have e2 : IntKind.u8.wrap (97 + (w[i] : Int) - 97) = w[i]:=by rw [zPH,wr8 _ (by omega) (by omega)]
    generalize w[i] = c at *
    by_cases hcl : c = l
    ·rw [if_pos hcl] at hr
     have hc:=zFO (m:=0) (j:=i + 1) (by omega) (by omega)
     rw [← hr] at hc
     generalize zBa (ndB f (3,l,a,b)) w i = m at hc hput
     subst hcl
     refine rg0 ?_
     refine cF0 ?_
     refine rg0 ?_
     refine cT0 ?_
     refine rd1 (an @e0 (an @e2 (an @hiw @hlt'))) ?_
     refine cT0 ?_
     refine zAe fun K hK=>?_
     simp (maxSteps:=2000000) (disch:=omega) [ints,rows,scal,zT,wr8,hat,hin,hLi,zAf]
     (repeat' apply And.intro)
     all_goals (try omega)
     refine zK (caps:=[]) (hc) [] [] 2 rfl rfl rfl rfl (by kernel_rfl) (by simp) ?_ trivial trivial rfl trivial trivial (by simp) ?_
     ·simp [scal,rows,ints,zAf]
     simp (maxSteps:=2000000) (disch:=omega) [ints,rows,scal,zT,wr8,hat,hin,hLi,hput,zAf]
     and_intros <;> try first | apply hK | omega | rfl | simp <;> omega
     show awp _ _ _ _
     refine rr0 ?_
     refine ⟨i + 1,by omega,by omega,?_⟩
     exact kw1 [(0,some 0),(1,some 1)] (an @hLi (an @zm @zAc))
    ·rw [if_neg hcl] at hr
     have hz:=zBq (ndB f (3,l,a,b)) w hr
     have hcl2 : ((c : Int) == (l : Int)) = false:=by
      have : ¬ (c : Int) = l:=by omega
      simpa using this
     refine rg0 ?_
     refine cF0 ?_
     refine rg0 ?_
     refine cT0 ?_
     refine rd1 (an @e0 (an @e2 (an @hiw (an @hlt' (an @hcl @hcl2))))) ?_
     refine cY0 ?_
     show awp _ _ _ _
     refine rr0 ?_
     refine ⟨i + 1,by omega,by omega,?_⟩
     rw [hz]
     exact kw1 [(0,some 0),(1,some 1)] (an @hLi (an @zm @zAc))
   ·have hr:=zGq (f:=f) (w:=w) (i:=i) l a b (by omega)
    have hz:=zBq (ndB f (3,l,a,b)) w hr
    have hiw2 : decide (i < w.length) = false:=by simpa using hiw
    refine rg0 ?_
    refine cF0 ?_
    refine rg0 ?_
    refine cT0 ?_
    refine rd1 (an @hiw @hiw2) ?_
    refine cY0 ?_
    show awp _ _ _ _
    refine rr0 ?_
    refine ⟨i + 1,by omega,by omega,?_⟩
    rw [hz]
    exact kw1 [(0,some 0),(1,some 1)] (an @hLi (an @zm @zAc))
  ·have hr:=zN6 (f:=f) (w:=w) (i:=i) l a b
   have hc:=zEl (a:=i) (b:=w.length) (by omega) (by omega)
   rw [← hr] at hc
   generalize zBa (ndB f (4,l,a,b)) w i = m at hc hput
   refine rg0 ?_
   refine cF0 ?_
   refine rg0 ?_
   refine cF0 ?_
   refine rg0 ?_
   refine cT0 ?_
   refine zAe fun K hK=>?_
   simp (maxSteps:=2000000) (disch:=omega) [ints,rows,scal,zT,wr8,hat,hin,hLi,zAf]
   (repeat' apply And.intro)
   all_goals (try omega)
   refine zK (caps:=[]) (hc) [] [] 2 rfl rfl rfl rfl (by kernel_rfl) (by simp) ?_ trivial trivial rfl trivial trivial (by simp) ?_
   ·simp [scal,rows,ints,zAf]
   simp (maxSteps:=2000000) (disch:=omega) [ints,rows,scal,zT,wr8,hat,hin,hLi,hput,zAf]
   and_intros <;> try first | apply hK | omega | rfl | simp <;> omega
   show awp _ _ _ _
   refine rr0 ?_
   refine ⟨i + 1,by omega,by omega,?_⟩
   exact kw1 [(0,some 0),(1,some 1)] (an @hLi (an @zm @zAc))
  ·have hr:=zQI (f:=f) (w:=w) (i:=i) l a b
   have hc:=zLN (hQ (f a)) (hQ (f b))
   rw [← hr] at hc
   obtain ⟨hax,hae⟩:=List.getElem?_eq_some_iff.1 (hA (by omega))
   have hag : ∀ hh,tcs[a]'hh = _:=fun _=>hae
   have har:=zBV (zB0 (f a) w hlt)
   have hal : (zAT (zC2 (f a) w)).length = (w.length + 1) * 2:=by rw [zm,zC2,zq]
   obtain ⟨hbx,hbe⟩:=List.getElem?_eq_some_iff.1 (hB (by omega) (by omega))
   have hbg : ∀ hh,tcs[b]'hh = _:=fun _=>hbe
   have hbr:=zBV (zB0 (f b) w hlt)
   have hbl : (zAT (zC2 (f b) w)).length = (w.length + 1) * 2:=by rw [zm,zC2,zq]
   generalize zBa (ndB f (5,l,a,b)) w i = m at hc hput
   generalize zBa (f a) w i = ma at hc har
   generalize zBa (f b) w i = mb at hc hbr
   refine rg0 ?_
   refine cF0 ?_
   refine rg0 ?_
   refine cF0 ?_
   refine rg0 ?_
   refine cF0 ?_
   refine rg0 ?_
   refine cT0 ?_
   refine zAi (by kernel_rfl) (fun K hK=>?_)
   simp (maxSteps:=2000000) (disch:=omega) [ints,rows,scal,zT,wr8,hat,hin,hLi,zAf,hax,hag,har,hal,hbx,hbg,hbr,hbl]
   (repeat' apply And.intro)
   all_goals (try omega)
   refine za (caps:=[]) (hc) [] [] 2 rfl rfl rfl rfl (by kernel_rfl) (by simp) ?_ trivial trivial rfl trivial trivial (by simp) ?_
   ·simp [scal,rows,ints,zAf]
   simp (maxSteps:=2000000) (disch:=omega) [ints,rows,scal,zT,wr8,hat,hin,hLi,hput,zAf]
   and_intros <;> try first | apply hK | (show zAl _ _ = true; kernel_rfl) | (show okH _ _ _ = true; kernel_rfl) | omega | rfl | simp <;> omega
   show awp _ _ _ _
   refine rr0 ?_
   refine ⟨i + 1,by omega,by omega,?_⟩
   exact kw1 [(0,some 0),(1,some 1)] (an @hLi (an @zm @zAc))
  ·have hr:=zO1 (f:=f) (w:=w) (i:=i) l a b
   have hc:=zMi (hQ (f a)) (hQ (f b))
   rw [← hr] at hc
   obtain ⟨hax,hae⟩:=List.getElem?_eq_some_iff.1 (hA (by omega))
   have hag : ∀ hh,tcs[a]'hh = _:=fun _=>hae
   have har:=zBV (zB0 (f a) w hlt)
   have hal : (zAT (zC2 (f a) w)).length = (w.length + 1) * 2:=by rw [zm,zC2,zq]
   obtain ⟨hbx,hbe⟩:=List.getElem?_eq_some_iff.1 (hB (by omega) (by omega))
   have hbg : ∀ hh,tcs[b]'hh = _:=fun _=>hbe
   have hbr:=zBV (zB0 (f b) w hlt)
   have hbl : (zAT (zC2 (f b) w)).length = (w.length + 1) * 2:=by rw [zm,zC2,zq]
   generalize zBa (ndB f (6,l,a,b)) w i = m at hc hput
   generalize zBa (f a) w i = ma at hc har
   generalize zBa (f b) w i = mb at hc hbr
   refine rg0 ?_
   refine cF0 ?_
   refine rg0 ?_
   refine cF0 ?_
   refine rg0 ?_
   refine cF0 ?_
   refine rg0 ?_
   refine cF0 ?_
   refine rg0 ?_
   refine cT0 ?_
   refine zAi (by kernel_rfl) (fun K hK=>?_)
   simp (maxSteps:=2000000) (disch:=omega) [ints,rows,scal,zT,wr8,hat,hin,hLi,zAf,hax,hag,har,hal,hbx,hbg,hbr,hbl]
   (repeat' apply And.intro)
   all_goals (try omega)
   refine za (caps:=[]) (hc) [] [] 2 rfl rfl rfl rfl (by kernel_rfl) (by simp) ?_ trivial trivial rfl trivial trivial (by simp) ?_
   ·simp [scal,rows,ints,zAf]
   simp (maxSteps:=2000000) (disch:=omega) [ints,rows,scal,zT,wr8,hat,hin,hLi,hput,zAf]
   and_intros <;> try first | apply hK | (show zAl _ _ = true; kernel_rfl) | (show okH _ _ _ = true; kernel_rfl) | omega | rfl | simp <;> omega
   show awp _ _ _ _
   refine rr0 ?_
   refine ⟨i + 1,by omega,by omega,?_⟩
   exact kw1 [(0,some 0),(1,some 1)] (an @hLi (an @zm @zAc))
  ·have hlen2 : ∀ x,(zAT ((zC3 (ndB f (7,l,a,b)) w i).set i x)).length = (w.length + 1) * 2:=fun x=>by rw [zm,zIE]
   obtain ⟨hax,hae⟩:=List.getElem?_eq_some_iff.1 (hA (by omega))
   have hag : ∀ hh,tcs[a]'hh = _:=fun _=>hae
   have har:=zBV (zB0 (f a) w hlt)
   have hal : (zAT (zC2 (f a) w)).length = (w.length + 1) * 2:=by rw [zm,zC2,zq]
   generalize hma : zBa (f a) w i = ma at har
   have hmaq : ma < 1152921504606846976:=hma ▸ hQ (f a)
   refine rg0 ?_
   refine cF0 ?_
   refine rg0 ?_
   refine cF0 ?_
   refine rg0 ?_
   refine cF0 ?_
   refine rg0 ?_
   refine cF0 ?_
   refine rg0 ?_
   refine cF0 ?_
   refine rg0 ?_
   refine cT0 ?_
   refine rg0 ?_
   refine zG ?_
   refine awp_loop (fun k : Nat=>mkS [(1,.t 0 (.sl 1 tcs)),(2,.t 2 (.str (zAF w))),(3,.ptr 0 0 4),(7,.own 1 ((w.length + 1) * 2)),(8,.t 2 (.int .i64 i)),(9,.t 2 (.int .i64 k)),(15,.t 2 (.int .i64 (w.length + 1 : Nat))),(16,.t 2 (.int .i64 i))]
    [(0,.box 78 [.t 2 (.int .i64 7),.t 2 (.int .i64 l),.t 2 (.int .i64 a),.t 2 (.int .i64 b)]),(1,.row 90 2 2 (zAT ((zC3 (ndB f (7,l,a,b)) w i).set i (zE9 (f a) (f b) w i k))))] 2 166 [.any,.any,.any]) (fun k=>i <= k /\ k <= w.length + 1) (fun k=>w.length + 1 - k) ?_ ?_
   ·refine ⟨i,⟨by omega,by omega⟩,?_⟩
    have e0 : (zC3 (ndB f (7,l,a,b)) w i).set i (zE9 (f a) (f b) w i i) = zC3 (ndB f (7,l,a,b)) w i:=by
     rw [zIX]
     exact zOP (zJn _ w hlt)
    rw [e0]
    exact kw1 [(0,some 0),(1,some 1)] @hLi
   rintro k ⟨hk1,hk2⟩
   refine zD ?_
   by_cases hkl : k < w.length + 1
   ·have hkl' : (k : Int) <= (w.length : Int):=by omega
    have hc:=zLK hmaq (i:=k) (by omega)
    have hcb : ma.testBit k = f a (prt w i k):=by rw [← hma,zAJ,decide_eq_true hkl,decide_eq_true hk1]; rfl
    rw [hcb] at hc
    have hcs:=zLH (f a) (f b) w hk1
    refine rg0 ?_
    refine cK1 @hkl' ?_
    refine zD ?_
    refine zG ?_
    cases hfa : f a (prt w i k) with
    | true =>
     rw [hfa] at hc
     rw [if_pos hfa] at hcs
     have hat2:=zBV (ms:=(zC3 (ndB f (7,l,a,b)) w i).set i (zE9 (f a) (f b) w i k)) (k:=i) (m:=zE9 (f a) (f b) w i k) (by rw [List.getElem?_set_self (by rw [zAc]; exact hlt)])
     have hput2:=zH4 (ms:=(zC3 (ndB f (7,l,a,b)) w i).set i (zE9 (f a) (f b) w i k)) (k:=i) (x:=zE9 (f a) (f b) w i (k + 1)) (by rw [zIE]; exact hlt)
     rw [List.set_set] at hput2
     have hcu:=zLN (zQO (f a) (f b) hl i k) (zLD (f b) hl k)
     rw [← hcs] at hcu
     have hl2:=hlen2 (zE9 (f a) (f b) w i k)
     obtain ⟨hbx,hbe⟩:=List.getElem?_eq_some_iff.1 (hB (by omega) (by omega))
     have hbg : ∀ hh,tcs[b]'hh = _:=fun _=>hbe
     have hbr:=zBV (zB0 (f b) w hkl)
     have hbl : (zAT (zC2 (f b) w)).length = (w.length + 1) * 2:=by rw [zm,zC2,zq]
     have hink : k * 2 + 2 <= (w.length + 1) * 2:=by omega
     generalize zBa (f b) w k = mb at hcu hbr
     refine rc1 hc (an @hin (an @zAf.eq_1 (an @hax (an @hag (an @har @hal))))) ?_
     refine cT0 ?_
     refine zAi (by kernel_rfl) (fun K hK=>?_)
     simp (maxSteps:=2000000) (disch:=omega) [ints,rows,scal,zT,wr8,hat2,hin,hl2,zAf,hbx,hbg,hbr,hbl]
     (repeat' apply And.intro)
     all_goals (try omega)
     refine za (caps:=[]) (hcu) [] [] 2 rfl rfl rfl rfl (by kernel_rfl) (by simp) ?_ trivial trivial rfl trivial trivial (by simp) ?_
     ·simp [scal,rows,ints,zAf]
     simp (maxSteps:=2000000) (disch:=omega) [ints,rows,scal,zT,wr8,hat2,hin,hl2,hput2,zAf]
     and_intros <;> try first | apply hK | (show zAl _ _ = true; kernel_rfl) | (show okH _ _ _ = true; kernel_rfl) | omega | rfl | simp <;> omega
     show awp _ _ _ _
     refine rr0 ?_
     refine ⟨k + 1,⟨by omega,by omega⟩,by omega,?_⟩
     exact kw1 [(0,some 0),(1,some 1)] @hlen2
    | false =>
     rw [hfa] at hc
     rw [if_neg (by rw [hfa]; simp)] at hcs
     refine rc1 hc (an @hin (an @zAf.eq_1 (an @hax (an @hag (an @har @hal))))) ?_
     refine cY0 ?_
     show awp _ _ _ _
     refine rr0 ?_
     refine ⟨k + 1,⟨by omega,by omega⟩,by omega,?_⟩
     rw [hcs]
     exact kw1 [(0,some 0),(1,some 1)] @hlen2
   ·obtain rfl : k = w.length + 1:=by omega
    have hkl' : ¬ ((w.length : Int) + 1 <= (w.length : Int)):=by omega
    have hfin : (zC3 (ndB f (7,l,a,b)) w i).set i (zE9 (f a) (f b) w i (w.length + 1)) = zC3 (ndB f (7,l,a,b)) w (i + 1):=by rw [zKU]; exact hset
    rw [hfin]
    refine rg0 ?_
    refine cF1 @hkl' ?_
    refine zM ?_
    show awp _ _ _ _
    refine rr0 ?_
    refine ⟨i + 1,by omega,by omega,?_⟩
    exact kw1 [(0,some 0),(1,some 1)] (an @hLi (an @zm @zAc))
  ·have hr:=zN1 (f:=f) (w:=w) (i:=i) l a b hl
   have hc1:=zEl (a:=i) (b:=w.length) (by omega) (by omega)
   have hc:=zQD (m:=zFK i (w.length + 1)) (zKj (by omega)) (hQ (f a))
   rw [← hr] at hc
   obtain ⟨hax,hae⟩:=List.getElem?_eq_some_iff.1 (hA (by omega))
   have hag : ∀ hh,tcs[a]'hh = _:=fun _=>hae
   have har:=zBV (zB0 (f a) w hlt)
   have hal : (zAT (zC2 (f a) w)).length = (w.length + 1) * 2:=by rw [zm,zC2,zq]
   generalize zBa (ndB f (8,l,a,b)) w i = m at hc hput
   generalize zBa (f a) w i = ma at hc har
   generalize zFK i (w.length + 1) = mb at hc hc1
   refine rg0 ?_
   refine cF0 ?_
   refine rg0 ?_
   refine cF0 ?_
   refine rg0 ?_
   refine cF0 ?_
   refine rg0 ?_
   refine cF0 ?_
   refine rg0 ?_
   refine cF0 ?_
   refine rg0 ?_
   refine cF0 ?_
   refine rg0 ?_
   refine cT0 ?_
   refine zAi (by kernel_rfl) (fun K hK=>?_)
   simp (maxSteps:=2000000) (disch:=omega) [ints,rows,scal,zT,wr8,hat,hin,hLi,zAf,hax,hag,har,hal]
   (repeat' apply And.intro)
   all_goals (try omega)
   refine za (caps:=[]) (hc1) [] [] 2 rfl rfl rfl rfl (by kernel_rfl) (by simp) ?_ trivial trivial rfl trivial trivial (by simp) ?_
   ·simp [scal,rows,ints,zAf]
   simp (maxSteps:=2000000) (disch:=omega) [ints,rows,scal,zT,wr8,hat,hin,hLi,zAf,hax,hag,har,hal]
   (repeat' apply And.intro)
   all_goals (try omega)
   refine za (caps:=[]) (hc) [] [] 2 rfl rfl rfl rfl (by kernel_rfl) (by simp) ?_ trivial trivial rfl trivial trivial (by simp) ?_
   ·simp [scal,rows,ints,zAf]
   simp (maxSteps:=2000000) (disch:=omega) [ints,rows,scal,zT,wr8,hat,hin,hLi,hput,zAf]
   and_intros <;> try first | apply hK | (show zAl _ _ = true; kernel_rfl) | (show okH _ _ _ = true; kernel_rfl) | omega | rfl | simp <;> omega
   show awp _ _ _ _
   refine rr0 ?_
   refine ⟨i + 1,by omega,by omega,?_⟩
   exact kw1 [(0,some 0),(1,some 1)] (an @hLi (an @zm @zAc))
 ·obtain rfl : i = w.length + 1:=by omega
  have hf:=zJB (ndB f (op,l,a,b)) w
  rw [hf] at hLi ⊢
  have hlt' : ¬ ((w.length : Int) + 1 < (w.length : Int) + 1):=by omega
  refine cF1 @hlt' ?_
  refine zM ?_
  show awp _ _ _ _
  refine rg0 ?_
  exact zI (rt1 @hLi)
end Go.Proofs.YtjkeafkjjaploaaGreat.M
