/-
  Walk in my logic: the table of a node (starfree.evaluate).
-/
import Derived.Test.YtjkeafkjjaploaaGreatZnaw
import Derived.Test.YtjkeafkjjaploaaGreatZnad
import Derived.Test.YtjkeafkjjaploaaGreatZnax
import Derived.Test.YtjkeafkjjaploaaGreatZnaz
namespace Go.Proofs.YtjkeafkjjaploaaGreat.M
open Go.RowKit
set_option linter.unusedVariables false
set_option linter.unusedSimpArgs false
set_option maxRecDepth 100000
set_option maxHeartbeats 32000000

def zAV (ms : List Nat) : List T:=ms.flatMap fun m=>[.int .u64 (m : Nat),.int .u64 0]
theorem zo (ms : List Nat) : (zAV ms).length = ms.length * 2:=by
 unfold zAV
 induction ms with
 | nil=>rfl
 | cons m r ih=>simp only [List.flatMap_cons,List.length_append,ih]; simp; omega
theorem zDp (a b : List Nat) : zAV (a ++ b) = zAV a ++ zAV b:=by unfold zAV; rw [List.flatMap_append]
theorem zEf (ms : List Nat) (k : Nat) : (zAV ms).drop (k * 2) = zAV (ms.drop k):=by
 by_cases h : k <= ms.length
 ·conv=>lhs; rw [← List.take_append_drop k ms,zDp]
  rw [List.drop_left' (by rw [zo]; simp; omega)]
 ·have h1 : ms.drop k = []:=List.drop_of_length_le (by omega)
  rw [h1,List.drop_of_length_le (by rw [zo]; omega)]
  rfl
theorem zIl (ms : List Nat) (k : Nat) : (zAV ms).take (k * 2) = zAV (ms.take k):=by
 by_cases h : k <= ms.length
 ·conv=>lhs; rw [← List.take_append_drop k ms,zDp]
  rw [List.take_left' (by rw [zo]; simp; omega)]
 ·rw [List.take_of_length_le (by rw [zo]; omega),List.take_of_length_le (by omega)]
theorem zBc {ms : List Nat} {k m : Nat} (h : ms[k]? = some m) : List.take 2 (List.drop (k * 2) (zAV ms)) = [.int .u64 (m : Nat),.int .u64 0]:=by
 obtain ⟨hk,e⟩:=List.getElem?_eq_some_iff.1 h
 rw [zEf,List.drop_eq_getElem_cons hk,e,zAV,List.flatMap_cons]
 rfl
theorem zHc {ms : List Nat} {k x : Nat} (h : k < ms.length) : (zAV ms).take (k * 2) ++ [.int .u64 (x : Nat),.int .u64 0] ++ (zAV ms).drop (k * 2 + 2) = zAV (ms.set k x):=by
 have e : k * 2 + 2 = (k + 1) * 2:=by omega
 rw [e,zIl,zEf,List.set_eq_take_append_cons_drop,if_pos h,zDp]
 unfold zAV
 simp
theorem zI0 (n : Nat) : zAV (List.replicate n 0) = List.replicate (n * 2) (.int .u64 0):=by
 rw [List.eq_replicate_iff]
 refine ⟨by rw [zo,List.length_replicate],fun x hx=>?_⟩
 unfold zAV at hx
 obtain ⟨m,hm,hx⟩:=List.mem_flatMap.1 hx
 obtain rfl:=(List.mem_replicate.1 hm).2
 simpa using hx
theorem zN7 (n : Nat) : zN [.int .u64 0,.int .u64 0] 2 n = zAV (List.replicate n 0):=by
 rw [zI0]
 unfold zN
 refine List.ext_getElem? fun j=>?_
 rw [List.getElem?_map]
 by_cases hj : j < n * 2
 ·rw [List.getElem?_range hj,List.getElem?_replicate,if_pos hj,Option.map_some]
  have : j % 2 < 2:=Nat.mod_lt _ (by omega)
  generalize j % 2 = r at this
  rcases (by omega : r = 0 \/ r = 1) with rfl | rfl <;> rfl
 ·rw [List.getElem?_eq_none (by simp; omega),List.getElem?_eq_none (by simp; omega)]
  rfl
def zBj (g : List Nat -> Bool) (w : List Nat) (p : Nat) : Nat:=mkM (fun j=>decide (p <= j) && g (prt w p j)) (w.length + 1)
def zC8 (g : List Nat -> Bool) (w : List Nat) : List Nat:=tab (w.length + 1) (zBj g w)
def zDF (g : List Nat -> Bool) (w : List Nat) (i : Nat) : List Nat:=tab (w.length + 1) fun p=>if p < i then zBj g w p else 0
theorem zLD (g : List Nat -> Bool) (w : List Nat) : zDF g w 0 = List.replicate (w.length + 1) 0:=by
 unfold zDF
 rw [zu]
 simp
theorem zLL (g : List Nat -> Bool) (w : List Nat) : zDF g w (w.length + 1) = zC8 g w:=by
 unfold zDF zC8
 refine zU fun p hp=>?_
 rw [if_pos hp]
theorem zAe (g : List Nat -> Bool) (w : List Nat) (i : Nat) : (zDF g w i).length = w.length + 1:=by simp [zDF]
theorem zK3 (g : List Nat -> Bool) (w : List Nat) {i : Nat} (h : i < w.length + 1) : (zDF g w i)[i]? = some 0:=by
 unfold zDF
 rw [zX _ h,if_neg (by omega)]
theorem zHm (g : List Nat -> Bool) (w : List Nat) (i : Nat) : (zDF g w i).set i (zBj g w i) = zDF g w (i + 1):=by
 unfold zDF
 rw [zn]
 refine zU fun p hp=>?_
 by_cases c : p = i
 ·subst c; simp
 ·rw [if_neg c]
  by_cases d : p < i
  ·rw [if_pos d,if_pos (by omega)]
  ·rw [if_neg d,if_neg (by omega)]
theorem zBn (g : List Nat -> Bool) (w : List Nat) {i : Nat} (h : zBj g w i = 0) : zDF g w (i + 1) = zDF g w i:=by
 rw [← zHm,h]
 unfold zDF
 rw [zn]
 refine zU fun p hp=>?_
 by_cases c : p = i
 ·subst c; simp
 ·rw [if_neg c]
theorem zCB (g : List Nat -> Bool) (w : List Nat) {i : Nat} (h : i < w.length + 1) : (zC8 g w)[i]? = some (zBj g w i):=zX _ h
theorem zLH (g : List Nat -> Bool) {w : List Nat} (hw : w.length <= 50) (p : Nat) : zBj g w p < 1152921504606846976:=zJ9 (by omega)
theorem zAK (g : List Nat -> Bool) (w : List Nat) (p e : Nat) : (zBj g w p).testBit e = (decide (e < w.length + 1) && (decide (p <= e) && g (prt w p e))):=zCA _ _ _
section
variable {f : Nat -> List Nat -> Bool} {w : List Nat} {i : Nat}
theorem zNP (l a b : Nat) : zBj (ndB f (1,l,a,b)) w i = 0:=by
 apply Nat.eq_of_testBit_eq
 intro e
 rw [zAK]
 simp [ndB]
theorem zMd (l a b : Nat) (h : i < w.length + 1) : zBj (ndB f (2,l,a,b)) w i = 0 ||| 2 ^ i:=by
 apply Nat.eq_of_testBit_eq
 intro e
 rw [zAK,Nat.testBit_or,Nat.zero_testBit,Nat.testBit_two_pow]
 have hb : ndB f (2,l,a,b) (prt w i e) = decide (prt w i e = []):=rfl
 rw [hb,Bool.false_or,Bool.eq_iff_iff]
 simp only [Bool.and_eq_true,decide_eq_true_eq]
 constructor
 ·rintro ⟨h1,h2,h3⟩
  have:=zD7 h2 (show e <= w.length by omega)
  rw [h3] at this
  simp at this
  omega
 ·rintro rfl
  exact ⟨h,Nat.le_refl _,zGn w _⟩
theorem zPN (l a b : Nat) (h : i < w.length) : zBj (ndB f (3,l,a,b)) w i = if w[i] = l then 0 ||| 2 ^ (i + 1) else 0:=by
 apply Nat.eq_of_testBit_eq
 intro e
 have hb : ndB f (3,l,a,b) (prt w i e) = decide (prt w i e = [l]):=rfl
 have key : (decide (e < w.length + 1) && (decide (i <= e) && decide (prt w i e = [l]))) = decide (w[i] = l /\ e = i + 1):=by
  rw [Bool.eq_iff_iff]
  simp only [Bool.and_eq_true,decide_eq_true_eq]
  constructor
  ·rintro ⟨h1,h2,h3⟩
   have:=zD7 h2 (show e <= w.length by omega)
   rw [h3] at this
   simp at this
   obtain rfl : e = i + 1:=by omega
   rw [zHU h] at h3
   exact ⟨by simpa using h3,rfl⟩
  ·rintro ⟨h1,rfl⟩
   exact ⟨by omega,by omega,by rw [zHU h,h1]⟩
 rw [zAK,hb,key]
 by_cases c : w[i] = l
 ·rw [if_pos c,Nat.testBit_or,Nat.zero_testBit,Nat.testBit_two_pow,Bool.false_or,Bool.eq_iff_iff]
  simp [c,eq_comm]
 ·rw [if_neg c,Nat.zero_testBit]
  simp [c]
theorem zGq (l a b : Nat) (h : i = w.length) : zBj (ndB f (3,l,a,b)) w i = 0:=by
 apply Nat.eq_of_testBit_eq
 intro e
 have hb : ndB f (3,l,a,b) (prt w i e) = decide (prt w i e = [l]):=rfl
 rw [zAK,hb,Nat.zero_testBit]
 by_cases c : e < w.length + 1 /\ i <= e
 ·obtain rfl : e = i:=by omega
  rw [zGn]
  simp
 ·simp only [Bool.and_eq_false_iff,decide_eq_false_iff_not]
  omega
theorem zOo (l a b : Nat) : zBj (ndB f (4,l,a,b)) w i = zEt i (w.length + 1):=by
 apply Nat.eq_of_testBit_eq
 intro e
 unfold zEt
 rw [zAK,zCA]
 simp [ndB]
theorem zQA (l a b : Nat) : zBj (ndB f (5,l,a,b)) w i = zBj (f a) w i ||| zBj (f b) w i:=by
 apply Nat.eq_of_testBit_eq
 intro e
 have hb : ndB f (5,l,a,b) (prt w i e) = (f a (prt w i e) || f b (prt w i e)):=rfl
 rw [Nat.testBit_or,zAK,zAK,zAK,hb]
 cases decide (e < w.length + 1) <;> cases decide (i <= e) <;> simp
theorem zN5 (l a b : Nat) : zBj (ndB f (6,l,a,b)) w i = zBj (f a) w i &&& zBj (f b) w i:=by
 apply Nat.eq_of_testBit_eq
 intro e
 have hb : ndB f (6,l,a,b) (prt w i e) = (f a (prt w i e) && f b (prt w i e)):=rfl
 rw [Nat.testBit_and,zAK,zAK,zAK,hb]
 cases decide (e < w.length + 1) <;> cases decide (i <= e) <;> simp
theorem zPM (l a b : Nat) (hw : w.length <= 50) : zBj (ndB f (8,l,a,b)) w i = zI6 (zEt i (w.length + 1)) (zBj (f a) w i):=by
 apply Nat.eq_of_testBit_eq
 intro e
 have hb : ndB f (8,l,a,b) (prt w i e) = !f a (prt w i e):=rfl
 rw [zKo (zEt i (w.length + 1)) (zBj (f a) w i) e (show zEt i (w.length + 1) < _ from zJ9 (by omega)),zAK,zAK,zEt,zCA,hb]
 cases decide (e < w.length + 1) <;> cases decide (i <= e) <;> simp
def zE3 (f g : List Nat -> Bool) (w : List Nat) (i k : Nat) : Nat:=mkM (fun e=>(List.range k).any fun c=>decide (i <= c) && decide (c <= e) && f (prt w i c) && g (prt w c e)) (w.length + 1)
theorem zIZ (f g : List Nat -> Bool) (w : List Nat) (i : Nat) : zE3 f g w i i = 0:=by
 apply Nat.eq_of_testBit_eq
 intro e
 unfold zE3
 rw [zCA,Nat.zero_testBit,Bool.and_eq_false_iff]
 refine .inr ?_
 rw [List.any_eq_false]
 intro c hc
 have:=List.mem_range.1 hc
 simp
 omega
theorem zKk (f g : List Nat -> Bool) (w : List Nat) {i k : Nat} (hk : i <= k) : zE3 f g w i (k + 1) = if f (prt w i k) = true then zE3 f g w i k ||| zBj g w k else zE3 f g w i k:=by
 apply Nat.eq_of_testBit_eq
 intro e
 have h1 : (zE3 f g w i (k + 1)).testBit e = ((zE3 f g w i k).testBit e || (f (prt w i k) && (zBj g w k).testBit e)):=by
  unfold zE3
  rw [zCA,zCA,zAK,List.range_succ,List.any_append]
  simp only [List.any_cons,List.any_nil,Bool.or_false,decide_eq_true hk,Bool.true_and]
  cases decide (e < w.length + 1) <;> cases f (prt w i k) <;> simp
 rw [h1]
 by_cases c : f (prt w i k) = true
 ·rw [if_pos c,Nat.testBit_or,c,Bool.true_and]
 ·rw [if_neg c]
  rw [Bool.not_eq_true] at c
  rw [c,Bool.false_and,Bool.or_false]
theorem zJE (f : Nat -> List Nat -> Bool) (l a b : Nat) : zE3 (f a) (f b) w i (w.length + 1) = zBj (ndB f (7,l,a,b)) w i:=by
 apply Nat.eq_of_testBit_eq
 intro e
 unfold zE3
 rw [zCA,zAK]
 by_cases he : e < w.length + 1
 ·rw [decide_eq_true he,Bool.true_and,Bool.true_and,Bool.eq_iff_iff,List.any_eq_true,Bool.and_eq_true,decide_eq_true_eq]
  constructor
  ·rintro ⟨c,hc,h⟩
   simp only [Bool.and_eq_true,decide_eq_true_eq] at h
   exact ⟨by omega,(zFR f l a b (by omega) (by omega)).2 ⟨c,h.1.1.1,h.1.1.2,h.1.2,h.2⟩⟩
  ·rintro ⟨h1,h2⟩
   obtain ⟨c,c1,c2,c3,c4⟩:=(zFR f l a b h1 (by omega)).1 h2
   exact ⟨c,List.mem_range.2 (by omega),by simp [c1,c2,c3,c4]⟩
 ·rw [decide_eq_false he,Bool.false_and,Bool.false_and]
theorem zPy (f g : List Nat -> Bool) {w : List Nat} (hw : w.length <= 50) (i k : Nat) : zE3 f g w i k < 1152921504606846976:=zJ9 (by omega)
end
theorem zOG {l : List Nat} {i x : Nat} (h : l[i]? = some x) : l.set i x = l:=by
 apply List.ext_getElem?
 intro j
 by_cases c : i = j
 ·subst c
  rw [h,List.getElem?_set_self (List.getElem?_eq_some_iff.1 h).1]
 ·rw [List.getElem?_set_ne c]
theorem zHh (g : List Nat -> Bool) (w : List Nat) (i x : Nat) : ((zDF g w i).set i x).length = w.length + 1:=by simp [zDF]
theorem zOj {op l a b : Nat} {w : List Nat} (hw : ∀ x ∈ w,x < 6) (hl : w.length <= 50) (h1 : 1 <= op) (h8 : op <= 8) (hlL : l < 100) {tcs : List T} (ht : tcs.length <= 100000) {f : Nat -> List Nat -> Bool} (hA : 5 <= op -> tcs[a]? = some (.sl 2 (zAV (zC8 (f a) w)))) (hB : 5 <= op -> op <= 7 -> tcs[b]? = some (.sl 2 (zAV (zC8 (f b) w)))) :
  FnA Tryz.prog 45 [.agg [.t 2 (.int .i64 op),.t 2 (.int .i64 l),.t 2 (.int .i64 a),.t 2 (.int .i64 b)],.t 0 (.sl 1 tcs),.t 2 (.str (zAH w))] (.t 2 (.sl 2 (zAV (zC8 (ndB f (op,l,a,b)) w)))):=by
 have hzN:=zN7 (w.length + 1)
 have hdv : ∀ k : Nat,k * 2 / 2 = k:=fun k=>by omega
 refine fI 166 #[.tmp 6] Tryz.func45 rfl ?_
 refine rg0 ?_
 refine rg1 @hzN ?_
 refine zD ?_
 refine rg1 (an @hzN (an @zo @hdv)) ?_
 refine zG ?_
 refine awp_loop (fun i : Nat=>mkS [(1,.t 0 (.sl 1 tcs)),(2,.t 2 (.str (zAH w))),(3,.ptr 0 0 4),(7,.own 1 ((w.length + 1) * 2)),(15,.t 2 (.int .i64 (w.length + 1 : Nat))),(16,.t 2 (.int .i64 i))]
    [(0,.box 78 [.t 2 (.int .i64 op),.t 2 (.int .i64 l),.t 2 (.int .i64 a),.t 2 (.int .i64 b)]),(1,.row 90 2 2 (zAV (zDF (ndB f (op,l,a,b)) w i)))] 2 166 [.any,.any,.any]) (fun i=>i <= w.length + 1) (fun i=>w.length + 1 - i) ?_ ?_
 ·refine ⟨0,by omega,?_⟩
  rw [zLD]
  refine zT [(0,some 0),(1,some 5000000)] rfl ?_ ?_ ?_ ?_
  all_goals try simp [ints,zo]
  all_goals (trace_state; sorry)
 intro i hi
 have hLi : (zAV (zDF (ndB f (op,l,a,b)) w i)).length = (w.length + 1) * 2:=by rw [zo,zAe]
 refine rg0 ?_
 refine zD ?_
 by_cases hlt : i < w.length + 1
 ·have hlt' : (i : Int) < (w.length : Int) + 1:=by omega
  have hat:=zBc (zK3 (ndB f (op,l,a,b)) w hlt)
  have hset:=zHm (ndB f (op,l,a,b)) w i
  have hput:=zHc (ms:=zDF (ndB f (op,l,a,b)) w i) (k:=i) (x:=zBj (ndB f (op,l,a,b)) w i) (by rw [zAe]; exact hlt)
  rw [hset] at hput
  have hin : i * 2 + 2 <= (w.length + 1) * 2:=by omega
  refine cK1 @hlt' ?_
  refine zD ?_
  refine zG ?_
  refine rg0 ?_
  refine rg0 ?_
  refine zG ?_
  have hcase : op = 1 \/ op = 2 \/ op = 3 \/ op = 4 \/ op = 5 \/ op = 6 \/ op = 7 \/ op = 8:=by omega
  have hQ:=fun g=>zLH (w:=w) g hl i
  rcases hcase with rfl | rfl | rfl | rfl | rfl | rfl | rfl | rfl
  ·have hz:=zBn (ndB f (1,l,a,b)) w (zNP (f:=f) (w:=w) (i:=i) l a b)
   refine rg0 ?_
   refine cF0 ?_
   refine rg0 ?_
   refine cF0 ?_
   refine rg0 ?_
   refine cF0 ?_
   refine rg0 ?_
   refine cF0 ?_
   refine rg0 ?_
   refine cF0 ?_
   refine rg0 ?_
   refine cF0 ?_
   refine rg0 ?_
   refine cY0 ?_
   show awp _ _ _ _
   refine rr0 ?_
   refine ⟨i + 1,by omega,by omega,?_⟩
   rw [hz]
   exact kw1 [(0,some 0),(1,some 1)] (an @hLi (an @zo @zAe))
  ·have hr:=zMd (f:=f) (w:=w) (i:=i) l a b hlt
   have hc:=zFP (m:=0) (j:=i) (by omega) (by omega)
   rw [← hr] at hc
   generalize zBj (ndB f (2,l,a,b)) w i = m at hc hput
   refine rg0 ?_
   refine cT0 ?_
   refine zAh fun K hK=>?_
   simp (maxSteps:=2000000) (disch:=omega) [ints,rows,scal,zV,wr8,hat,hin,hLi,zAj]
   (repeat' apply And.intro)
   all_goals (try omega)
   refine zQ (caps:=[]) (hc) [] [] 2 rfl rfl rfl rfl (by kernel_rfl) (by simp) ?_ trivial trivial rfl trivial trivial (by simp) ?_
   ·simp [scal,rows,ints,zAj]
   simp (maxSteps:=2000000) (disch:=omega) [ints,rows,scal,zV,wr8,hat,hin,hLi,hput,zAj]
   and_intros <;> try first | apply hK | omega | rfl | simp <;> omega
   show awp _ _ _ _
   refine rr0 ?_
   refine ⟨i + 1,by omega,by omega,?_⟩
   exact kw1 [(0,some 0),(1,some 1)] (an @hLi (an @zo @zAe))
  ·by_cases hiw : i < w.length
   ·have hr:=zPN (f:=f) l a b hiw
    have hwi:=hw w[i] (by simp)
    have e0:=zAv hiw (by omega)
    have e2 : IntKind.u8.wrap (97 + (w[i] : Int) - 97) = w[i]:=by rw [zI4,wr8 _ (by omega) (by omega)]
    generalize w[i] = c at *
    by_cases hcl : c = l
    ·rw [if_pos hcl] at hr
     have hc:=zFP (m:=0) (j:=i + 1) (by omega) (by omega)
     rw [← hr] at hc
     generalize zBj (ndB f (3,l,a,b)) w i = m at hc hput
     subst hcl
     refine rg0 ?_
     refine cF0 ?_
     refine rg0 ?_
     refine cT0 ?_
     refine rd1 (an @e0 (an @e2 (an @hiw @hlt'))) ?_
     refine cT0 ?_
     refine zAh fun K hK=>?_
     simp (maxSteps:=2000000) (disch:=omega) [ints,rows,scal,zV,wr8,hat,hin,hLi,zAj]
     (repeat' apply And.intro)
     all_goals (try omega)
     refine zQ (caps:=[]) (hc) [] [] 2 rfl rfl rfl rfl (by kernel_rfl) (by simp) ?_ trivial trivial rfl trivial trivial (by simp) ?_
     ·simp [scal,rows,ints,zAj]
     simp (maxSteps:=2000000) (disch:=omega) [ints,rows,scal,zV,wr8,hat,hin,hLi,hput,zAj]
     and_intros <;> try first | apply hK | omega | rfl | simp <;> omega
     show awp _ _ _ _
     refine rr0 ?_
     refine ⟨i + 1,by omega,by omega,?_⟩
     exact kw1 [(0,some 0),(1,some 1)] (an @hLi (an @zo @zAe))
    ·rw [if_neg hcl] at hr
     have hz:=zBn (ndB f (3,l,a,b)) w hr
     have hcl2 : ((c : Int) == (l : Int)) = false:=by
      have : ¬ (c : Int) = l:=by omega
      simpa using this
     refine rg0 ?_
     refine cF0 ?_
     refine rg0 ?_
     refine cT0 ?_
     refine rd1 (an @e0 (an @e2 (an @hiw (an @hlt' (an @hcl @hcl2))))) ?_
     refine cY0 ?_
     show awp _ _ _ _
     refine rr0 ?_
     refine ⟨i + 1,by omega,by omega,?_⟩
     rw [hz]
     exact kw1 [(0,some 0),(1,some 1)] (an @hLi (an @zo @zAe))
   ·have hr:=zGq (f:=f) (w:=w) (i:=i) l a b (by omega)
    have hz:=zBn (ndB f (3,l,a,b)) w hr
    have hiw2 : decide (i < w.length) = false:=by simpa using hiw
    refine rg0 ?_
    refine cF0 ?_
    refine rg0 ?_
    refine cT0 ?_
    refine rd1 (an @hiw @hiw2) ?_
    refine cY0 ?_
    show awp _ _ _ _
    refine rr0 ?_
    refine ⟨i + 1,by omega,by omega,?_⟩
    rw [hz]
    exact kw1 [(0,some 0),(1,some 1)] (an @hLi (an @zo @zAe))
  ·have hr:=zOo (f:=f) (w:=w) (i:=i) l a b
   have hc:=zEe (a:=i) (b:=w.length) (by omega) (by omega)
   rw [← hr] at hc
   generalize zBj (ndB f (4,l,a,b)) w i = m at hc hput
   refine rg0 ?_
   refine cF0 ?_
   refine rg0 ?_
   refine cF0 ?_
   refine rg0 ?_
   refine cT0 ?_
   refine zAh fun K hK=>?_
   simp (maxSteps:=2000000) (disch:=omega) [ints,rows,scal,zV,wr8,hat,hin,hLi,zAj]
   (repeat' apply And.intro)
   all_goals (try omega)
   refine zQ (caps:=[]) (hc) [] [] 2 rfl rfl rfl rfl (by kernel_rfl) (by simp) ?_ trivial trivial rfl trivial trivial (by simp) ?_
   ·simp [scal,rows,ints,zAj]
   simp (maxSteps:=2000000) (disch:=omega) [ints,rows,scal,zV,wr8,hat,hin,hLi,hput,zAj]
   and_intros <;> try first | apply hK | omega | rfl | simp <;> omega
   show awp _ _ _ _
   refine rr0 ?_
   refine ⟨i + 1,by omega,by omega,?_⟩
   exact kw1 [(0,some 0),(1,some 1)] (an @hLi (an @zo @zAe))
  ·have hr:=zQA (f:=f) (w:=w) (i:=i) l a b
   have hc:=zJD (hQ (f a)) (hQ (f b))
   rw [← hr] at hc
   obtain ⟨hax,hae⟩:=List.getElem?_eq_some_iff.1 (hA (by omega))
   have hag : ∀ hh,tcs[a]'hh = _:=fun _=>hae
   have har:=zBc (zCB (f a) w hlt)
   have hal : (zAV (zC8 (f a) w)).length = (w.length + 1) * 2:=by rw [zo,zC8,zq]
   obtain ⟨hbx,hbe⟩:=List.getElem?_eq_some_iff.1 (hB (by omega) (by omega))
   have hbg : ∀ hh,tcs[b]'hh = _:=fun _=>hbe
   have hbr:=zBc (zCB (f b) w hlt)
   have hbl : (zAV (zC8 (f b) w)).length = (w.length + 1) * 2:=by rw [zo,zC8,zq]
   generalize zBj (ndB f (5,l,a,b)) w i = m at hc hput
   generalize zBj (f a) w i = ma at hc har
   generalize zBj (f b) w i = mb at hc hbr
   refine rg0 ?_
   refine cF0 ?_
   refine rg0 ?_
   refine cF0 ?_
   refine rg0 ?_
   refine cF0 ?_
   refine rg0 ?_
   refine cT0 ?_
   refine zAi (by kernel_rfl) (fun K hK=>?_)
   simp (maxSteps:=2000000) (disch:=omega) [ints,rows,scal,zV,wr8,hat,hin,hLi,zAj,hax,hag,har,hal,hbx,hbg,hbr,hbl]
   (repeat' apply And.intro)
   all_goals (try omega)
   refine za (caps:=[]) (hc) [] [] 2 rfl rfl rfl rfl (by kernel_rfl) (by simp) ?_ trivial trivial rfl trivial trivial (by simp) ?_
   ·simp [scal,rows,ints,zAj]
   simp (maxSteps:=2000000) (disch:=omega) [ints,rows,scal,zV,wr8,hat,hin,hLi,hput,zAj]
   and_intros <;> try first | apply hK | (show zAm _ _ = true; kernel_rfl) | (show okH _ _ _ = true; kernel_rfl) | omega | rfl | simp <;> omega
   show awp _ _ _ _
   refine rr0 ?_
   refine ⟨i + 1,by omega,by omega,?_⟩
   exact kw1 [(0,some 0),(1,some 1)] (an @hLi (an @zo @zAe))
  ·have hr:=zN5 (f:=f) (w:=w) (i:=i) l a b
   have hc:=zL9 (hQ (f a)) (hQ (f b))
   rw [← hr] at hc
   obtain ⟨hax,hae⟩:=List.getElem?_eq_some_iff.1 (hA (by omega))
   have hag : ∀ hh,tcs[a]'hh = _:=fun _=>hae
   have har:=zBc (zCB (f a) w hlt)
   have hal : (zAV (zC8 (f a) w)).length = (w.length + 1) * 2:=by rw [zo,zC8,zq]
   obtain ⟨hbx,hbe⟩:=List.getElem?_eq_some_iff.1 (hB (by omega) (by omega))
   have hbg : ∀ hh,tcs[b]'hh = _:=fun _=>hbe
   have hbr:=zBc (zCB (f b) w hlt)
   have hbl : (zAV (zC8 (f b) w)).length = (w.length + 1) * 2:=by rw [zo,zC8,zq]
   generalize zBj (ndB f (6,l,a,b)) w i = m at hc hput
   generalize zBj (f a) w i = ma at hc har
   generalize zBj (f b) w i = mb at hc hbr
   refine rg0 ?_
   refine cF0 ?_
   refine rg0 ?_
   refine cF0 ?_
   refine rg0 ?_
   refine cF0 ?_
   refine rg0 ?_
   refine cF0 ?_
   refine rg0 ?_
   refine cT0 ?_
   refine zAi (by kernel_rfl) (fun K hK=>?_)
   simp (maxSteps:=2000000) (disch:=omega) [ints,rows,scal,zV,wr8,hat,hin,hLi,zAj,hax,hag,har,hal,hbx,hbg,hbr,hbl]
   (repeat' apply And.intro)
   all_goals (try omega)
   refine za (caps:=[]) (hc) [] [] 2 rfl rfl rfl rfl (by kernel_rfl) (by simp) ?_ trivial trivial rfl trivial trivial (by simp) ?_
   ·simp [scal,rows,ints,zAj]
   simp (maxSteps:=2000000) (disch:=omega) [ints,rows,scal,zV,wr8,hat,hin,hLi,hput,zAj]
   and_intros <;> try first | apply hK | (show zAm _ _ = true; kernel_rfl) | (show okH _ _ _ = true; kernel_rfl) | omega | rfl | simp <;> omega
   show awp _ _ _ _
   refine rr0 ?_
   refine ⟨i + 1,by omega,by omega,?_⟩
   exact kw1 [(0,some 0),(1,some 1)] (an @hLi (an @zo @zAe))
  ·have hlen2 : ∀ x,(zAV ((zDF (ndB f (7,l,a,b)) w i).set i x)).length = (w.length + 1) * 2:=fun x=>by rw [zo,zHh]
   obtain ⟨hax,hae⟩:=List.getElem?_eq_some_iff.1 (hA (by omega))
   have hag : ∀ hh,tcs[a]'hh = _:=fun _=>hae
   have har:=zBc (zCB (f a) w hlt)
   have hal : (zAV (zC8 (f a) w)).length = (w.length + 1) * 2:=by rw [zo,zC8,zq]
   generalize hma : zBj (f a) w i = ma at har
   have hmaq : ma < 1152921504606846976:=hma ▸ hQ (f a)
   refine rg0 ?_
   refine cF0 ?_
   refine rg0 ?_
   refine cF0 ?_
   refine rg0 ?_
   refine cF0 ?_
   refine rg0 ?_
   refine cF0 ?_
   refine rg0 ?_
   refine cF0 ?_
   refine rg0 ?_
   refine cT0 ?_
   refine rg0 ?_
   refine zG ?_
   refine awp_loop (fun k : Nat=>mkS [(1,.t 0 (.sl 1 tcs)),(2,.t 2 (.str (zAH w))),(3,.ptr 0 0 4),(7,.own 1 ((w.length + 1) * 2)),(8,.t 2 (.int .i64 i)),(9,.t 2 (.int .i64 k)),(15,.t 2 (.int .i64 (w.length + 1 : Nat))),(16,.t 2 (.int .i64 i))]
    [(0,.box 78 [.t 2 (.int .i64 7),.t 2 (.int .i64 l),.t 2 (.int .i64 a),.t 2 (.int .i64 b)]),(1,.row 90 2 2 (zAV ((zDF (ndB f (7,l,a,b)) w i).set i (zE3 (f a) (f b) w i k))))] 2 166 [.any,.any,.any]) (fun k=>i <= k /\ k <= w.length + 1) (fun k=>w.length + 1 - k) ?_ ?_
   ·refine ⟨i,⟨by omega,by omega⟩,?_⟩
    have e0 : (zDF (ndB f (7,l,a,b)) w i).set i (zE3 (f a) (f b) w i i) = zDF (ndB f (7,l,a,b)) w i:=by
     rw [zIZ]
     exact zOG (zK3 _ w hlt)
    rw [e0]
    exact kw1 [(0,some 0),(1,some 1)] @hLi
   rintro k ⟨hk1,hk2⟩
   refine zD ?_
   by_cases hkl : k < w.length + 1
   ·have hkl' : (k : Int) <= (w.length : Int):=by omega
    have hc:=zLb hmaq (i:=k) (by omega)
    have hcb : ma.testBit k = f a (prt w i k):=by rw [← hma,zAK,decide_eq_true hkl,decide_eq_true hk1]; rfl
    rw [hcb] at hc
    have hcs:=zKk (f a) (f b) w hk1
    refine rg0 ?_
    refine cK1 @hkl' ?_
    refine zD ?_
    refine zG ?_
    cases hfa : f a (prt w i k) with
    | true =>
     rw [hfa] at hc
     rw [if_pos hfa] at hcs
     have hat2:=zBc (ms:=(zDF (ndB f (7,l,a,b)) w i).set i (zE3 (f a) (f b) w i k)) (k:=i) (m:=zE3 (f a) (f b) w i k) (by rw [List.getElem?_set_self (by rw [zAe]; exact hlt)])
     have hput2:=zHc (ms:=(zDF (ndB f (7,l,a,b)) w i).set i (zE3 (f a) (f b) w i k)) (k:=i) (x:=zE3 (f a) (f b) w i (k + 1)) (by rw [zHh]; exact hlt)
     rw [List.set_set] at hput2
     have hcu:=zJD (zPy (f a) (f b) hl i k) (zLH (f b) hl k)
     rw [← hcs] at hcu
     have hl2:=hlen2 (zE3 (f a) (f b) w i k)
     obtain ⟨hbx,hbe⟩:=List.getElem?_eq_some_iff.1 (hB (by omega) (by omega))
     have hbg : ∀ hh,tcs[b]'hh = _:=fun _=>hbe
     have hbr:=zBc (zCB (f b) w hkl)
     have hbl : (zAV (zC8 (f b) w)).length = (w.length + 1) * 2:=by rw [zo,zC8,zq]
     have hink : k * 2 + 2 <= (w.length + 1) * 2:=by omega
     generalize zBj (f b) w k = mb at hcu hbr
     refine rc1 hc (an @hin (an @zAj.eq_1 (an @hax (an @hag (an @har @hal))))) ?_
     refine cT0 ?_
     refine zAi (by kernel_rfl) (fun K hK=>?_)
     simp (maxSteps:=2000000) (disch:=omega) [ints,rows,scal,zV,wr8,hat2,hin,hl2,zAj,hbx,hbg,hbr,hbl]
     (repeat' apply And.intro)
     all_goals (try omega)
     refine za (caps:=[]) (hcu) [] [] 2 rfl rfl rfl rfl (by kernel_rfl) (by simp) ?_ trivial trivial rfl trivial trivial (by simp) ?_
     ·simp [scal,rows,ints,zAj]
     simp (maxSteps:=2000000) (disch:=omega) [ints,rows,scal,zV,wr8,hat2,hin,hl2,hput2,zAj]
     and_intros <;> try first | apply hK | (show zAm _ _ = true; kernel_rfl) | (show okH _ _ _ = true; kernel_rfl) | omega | rfl | simp <;> omega
     show awp _ _ _ _
     refine rr0 ?_
     refine ⟨k + 1,⟨by omega,by omega⟩,by omega,?_⟩
     exact kw1 [(0,some 0),(1,some 1)] @hlen2
    | false =>
     rw [hfa] at hc
     rw [if_neg (by rw [hfa]; simp)] at hcs
     refine rc1 hc (an @hin (an @zAj.eq_1 (an @hax (an @hag (an @har @hal))))) ?_
     refine cY0 ?_
     show awp _ _ _ _
     refine rr0 ?_
     refine ⟨k + 1,⟨by omega,by omega⟩,by omega,?_⟩
     rw [hcs]
     exact kw1 [(0,some 0),(1,some 1)] @hlen2
   ·obtain rfl : k = w.length + 1:=by omega
    have hkl' : ¬ ((w.length : Int) + 1 <= (w.length : Int)):=by omega
    have hfin : (zDF (ndB f (7,l,a,b)) w i).set i (zE3 (f a) (f b) w i (w.length + 1)) = zDF (ndB f (7,l,a,b)) w (i + 1):=by rw [zJE]; exact hset
    rw [hfin]
    refine rg0 ?_
    refine cF1 @hkl' ?_
    refine zJ ?_
    show awp _ _ _ _
    refine rr0 ?_
    refine ⟨i + 1,by omega,by omega,?_⟩
    exact kw1 [(0,some 0),(1,some 1)] (an @hLi (an @zo @zAe))
  ·have hr:=zPM (f:=f) (w:=w) (i:=i) l a b hl
   have hc1:=zEe (a:=i) (b:=w.length) (by omega) (by omega)
   have hc:=zQP (m:=zEt i (w.length + 1)) (zJ9 (by omega)) (hQ (f a))
   rw [← hr] at hc
   obtain ⟨hax,hae⟩:=List.getElem?_eq_some_iff.1 (hA (by omega))
   have hag : ∀ hh,tcs[a]'hh = _:=fun _=>hae
   have har:=zBc (zCB (f a) w hlt)
   have hal : (zAV (zC8 (f a) w)).length = (w.length + 1) * 2:=by rw [zo,zC8,zq]
   generalize zBj (ndB f (8,l,a,b)) w i = m at hc hput
   generalize zBj (f a) w i = ma at hc har
   generalize zEt i (w.length + 1) = mb at hc hc1
   refine rg0 ?_
   refine cF0 ?_
   refine rg0 ?_
   refine cF0 ?_
   refine rg0 ?_
   refine cF0 ?_
   refine rg0 ?_
   refine cF0 ?_
   refine rg0 ?_
   refine cF0 ?_
   refine rg0 ?_
   refine cF0 ?_
   refine rg0 ?_
   refine cT0 ?_
   refine zAi (by kernel_rfl) (fun K hK=>?_)
   simp (maxSteps:=2000000) (disch:=omega) [ints,rows,scal,zV,wr8,hat,hin,hLi,zAj,hax,hag,har,hal]
   (repeat' apply And.intro)
   all_goals (try omega)
   refine za (caps:=[]) (hc1) [] [] 2 rfl rfl rfl rfl (by kernel_rfl) (by simp) ?_ trivial trivial rfl trivial trivial (by simp) ?_
   ·simp [scal,rows,ints,zAj]
   simp (maxSteps:=2000000) (disch:=omega) [ints,rows,scal,zV,wr8,hat,hin,hLi,zAj,hax,hag,har,hal]
   (repeat' apply And.intro)
   all_goals (try omega)
   refine za (caps:=[]) (hc) [] [] 2 rfl rfl rfl rfl (by kernel_rfl) (by simp) ?_ trivial trivial rfl trivial trivial (by simp) ?_
   ·simp [scal,rows,ints,zAj]
   simp (maxSteps:=2000000) (disch:=omega) [ints,rows,scal,zV,wr8,hat,hin,hLi,hput,zAj]
   and_intros <;> try first | apply hK | (show zAm _ _ = true; kernel_rfl) | (show okH _ _ _ = true; kernel_rfl) | omega | rfl | simp <;> omega
   show awp _ _ _ _
   refine rr0 ?_
   refine ⟨i + 1,by omega,by omega,?_⟩
   exact kw1 [(0,some 0),(1,some 1)] (an @hLi (an @zo @zAe))
 ·obtain rfl : i = w.length + 1:=by omega
  have hf:=zLL (ndB f (op,l,a,b)) w
  rw [hf] at hLi ⊢
  have hlt' : ¬ ((w.length : Int) + 1 < (w.length : Int) + 1):=by omega
  refine cF1 @hlt' ?_
  refine zJ ?_
  show awp _ _ _ _
  refine rg0 ?_
  exact zK (rt1 @hLi)
end Go.Proofs.YtjkeafkjjaploaaGreat.M
