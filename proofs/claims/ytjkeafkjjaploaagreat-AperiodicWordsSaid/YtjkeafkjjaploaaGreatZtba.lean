/-
  Walk in my logic: the table of a node (starfree.evaluate).
-/
import Derived.Test.YtjkeafkjjaploaaGreatZtaw
import Derived.Test.YtjkeafkjjaploaaGreatZtad
import Derived.Test.YtjkeafkjjaploaaGreatZtax
import Derived.Test.YtjkeafkjjaploaaGreatZtaz
namespace Go.Proofs.YtjkeafkjjaploaaGreat.M
open Go.RowKit
set_option linter.unusedVariables false
set_option linter.unusedSimpArgs false
set_option maxRecDepth 100000
set_option maxHeartbeats 32000000

def zAO (ms : List Nat) : List T:=ms.flatMap fun m=>[.int .u64 (m : Nat),.int .u64 0]
theorem zk (ms : List Nat) : (zAO ms).length = ms.length * 2:=by
 unfold zAO
 induction ms with
 | nil=>rfl
 | cons m r ih=>simp only [List.flatMap_cons,List.length_append,ih]; simp; omega
theorem zD8 (a b : List Nat) : zAO (a ++ b) = zAO a ++ zAO b:=by unfold zAO; rw [List.flatMap_append]
theorem zEW (ms : List Nat) (k : Nat) : (zAO ms).drop (k * 2) = zAO (ms.drop k):=by
 by_cases h : k <= ms.length
 ·conv=>lhs; rw [← List.take_append_drop k ms,zD8]
  rw [List.drop_left' (by rw [zk]; simp; omega)]
 ·have h1 : ms.drop k = []:=List.drop_of_length_le (by omega)
  rw [h1,List.drop_of_length_le (by rw [zk]; omega)]
  rfl
theorem zIW (ms : List Nat) (k : Nat) : (zAO ms).take (k * 2) = zAO (ms.take k):=by
 by_cases h : k <= ms.length
 ·conv=>lhs; rw [← List.take_append_drop k ms,zD8]
  rw [List.take_left' (by rw [zk]; simp; omega)]
 ·rw [List.take_of_length_le (by rw [zk]; omega),List.take_of_length_le (by omega)]
theorem zBQ {ms : List Nat} {k m : Nat} (h : ms[k]? = some m) : List.take 2 (List.drop (k * 2) (zAO ms)) = [.int .u64 (m : Nat),.int .u64 0]:=by
 obtain ⟨hk,e⟩:=List.getElem?_eq_some_iff.1 h
 rw [zEW,List.drop_eq_getElem_cons hk,e,zAO,List.flatMap_cons]
 rfl
theorem zIB {ms : List Nat} {k x : Nat} (h : k < ms.length) : (zAO ms).take (k * 2) ++ [.int .u64 (x : Nat),.int .u64 0] ++ (zAO ms).drop (k * 2 + 2) = zAO (ms.set k x):=by
 have e : k * 2 + 2 = (k + 1) * 2:=by omega
 rw [e,zIW,zEW,List.set_eq_take_append_cons_drop,if_pos h,zD8]
 unfold zAO
 simp
theorem zIJ (n : Nat) : zAO (List.replicate n 0) = List.replicate (n * 2) (.int .u64 0):=by
 rw [List.eq_replicate_iff]
 refine ⟨by rw [zk,List.length_replicate],fun x hx=>?_⟩
 unfold zAO at hx
 obtain ⟨m,hm,hx⟩:=List.mem_flatMap.1 hx
 obtain rfl:=(List.mem_replicate.1 hm).2
 simpa using hx
theorem zNQ (n : Nat) : zN [.int .u64 0,.int .u64 0] 2 n = zAO (List.replicate n 0):=by
 rw [zIJ]
 unfold zN
 refine List.ext_getElem? fun j=>?_
 rw [List.getElem?_map]
 by_cases hj : j < n * 2
 ·rw [List.getElem?_range hj,List.getElem?_replicate,if_pos hj,Option.map_some]
  have : j % 2 < 2:=Nat.mod_lt _ (by omega)
  generalize j % 2 = r at this
  rcases (by omega : r = 0 \/ r = 1) with rfl | rfl <;> rfl
 ·rw [List.getElem?_eq_none (by simp; omega),List.getElem?_eq_none (by simp; omega)]
  rfl
def zBZ (g : List Nat -> Bool) (w : List Nat) (p : Nat) : Nat:=mkM (fun j=>decide (p <= j) && g (prt w p j)) (w.length + 1)
def zC2 (g : List Nat -> Bool) (w : List Nat) : List Nat:=tab (w.length + 1) (zBZ g w)
def zCs (g : List Nat -> Bool) (w : List Nat) (i : Nat) : List Nat:=tab (w.length + 1) fun p=>if p < i then zBZ g w p else 0
theorem zLJ (g : List Nat -> Bool) (w : List Nat) : zCs g w 0 = List.replicate (w.length + 1) 0:=by
 unfold zCs
 rw [zq]
 simp
theorem zJx (g : List Nat -> Bool) (w : List Nat) : zCs g w (w.length + 1) = zC2 g w:=by
 unfold zCs zC2
 refine zQ fun p hp=>?_
 rw [if_pos hp]
theorem zAY (g : List Nat -> Bool) (w : List Nat) (i : Nat) : (zCs g w i).length = w.length + 1:=by simp [zCs]
theorem zLB (g : List Nat -> Bool) (w : List Nat) {i : Nat} (h : i < w.length + 1) : (zCs g w i)[i]? = some 0:=by
 unfold zCs
 rw [zU _ h,if_neg (by omega)]
theorem zHa (g : List Nat -> Bool) (w : List Nat) (i : Nat) : (zCs g w i).set i (zBZ g w i) = zCs g w (i + 1):=by
 unfold zCs
 rw [zl]
 refine zQ fun p hp=>?_
 by_cases c : p = i
 ·subst c; simp
 ·rw [if_neg c]
  by_cases d : p < i
  ·rw [if_pos d,if_pos (by omega)]
  ·rw [if_neg d,if_neg (by omega)]
theorem zBf (g : List Nat -> Bool) (w : List Nat) {i : Nat} (h : zBZ g w i = 0) : zCs g w (i + 1) = zCs g w i:=by
 rw [← zHa,h]
 unfold zCs
 rw [zl]
 refine zQ fun p hp=>?_
 by_cases c : p = i
 ·subst c; simp
 ·rw [if_neg c]
theorem zBz (g : List Nat -> Bool) (w : List Nat) {i : Nat} (h : i < w.length + 1) : (zC2 g w)[i]? = some (zBZ g w i):=zU _ h
theorem zKg (g : List Nat -> Bool) {w : List Nat} (hw : w.length <= 50) (p : Nat) : zBZ g w p < 1152921504606846976:=zKH (by omega)
theorem zAD (g : List Nat -> Bool) (w : List Nat) (p e : Nat) : (zBZ g w p).testBit e = (decide (e < w.length + 1) && (decide (p <= e) && g (prt w p e))):=zB4 _ _ _
section
variable {f : Nat -> List Nat -> Bool} {w : List Nat} {i : Nat}
theorem zLf (l a b : Nat) : zBZ (ndB f (1,l,a,b)) w i = 0:=by
 apply Nat.eq_of_testBit_eq
 intro e
 rw [zAD]
 simp [ndB]
theorem zMU (l a b : Nat) (h : i < w.length + 1) : zBZ (ndB f (2,l,a,b)) w i = 0 ||| 2 ^ i:=by
 apply Nat.eq_of_testBit_eq
 intro e
 rw [zAD,Nat.testBit_or,Nat.zero_testBit,Nat.testBit_two_pow]
 have hb : ndB f (2,l,a,b) (prt w i e) = decide (prt w i e = []):=rfl
 rw [hb,Bool.false_or,Bool.eq_iff_iff]
 simp only [Bool.and_eq_true,decide_eq_true_eq]
 constructor
 ·rintro ⟨h1,h2,h3⟩
  have:=zGW h2 (show e <= w.length by omega)
  rw [h3] at this
  simp at this
  omega
 ·rintro rfl
  exact ⟨h,Nat.le_refl _,zK3 w _⟩
theorem zNf (l a b : Nat) (h : i < w.length) : zBZ (ndB f (3,l,a,b)) w i = if w[i] = l then 0 ||| 2 ^ (i + 1) else 0:=by
 apply Nat.eq_of_testBit_eq
 intro e
 have hb : ndB f (3,l,a,b) (prt w i e) = decide (prt w i e = [l]):=rfl
 have key : (decide (e < w.length + 1) && (decide (i <= e) && decide (prt w i e = [l]))) = decide (w[i] = l /\ e = i + 1):=by
  rw [Bool.eq_iff_iff]
  simp only [Bool.and_eq_true,decide_eq_true_eq]
  constructor
  ·rintro ⟨h1,h2,h3⟩
   have:=zGW h2 (show e <= w.length by omega)
   rw [h3] at this
   simp at this
   obtain rfl : e = i + 1:=by omega
   rw [zJZ h] at h3
   exact ⟨by simpa using h3,rfl⟩
  ·rintro ⟨h1,rfl⟩
   exact ⟨by omega,by omega,by rw [zJZ h,h1]⟩
 rw [zAD,hb,key]
 by_cases c : w[i] = l
 ·rw [if_pos c,Nat.testBit_or,Nat.zero_testBit,Nat.testBit_two_pow,Bool.false_or,Bool.eq_iff_iff]
  simp [c,eq_comm]
 ·rw [if_neg c,Nat.zero_testBit]
  simp [c]
theorem zG0 (l a b : Nat) (h : i = w.length) : zBZ (ndB f (3,l,a,b)) w i = 0:=by
 apply Nat.eq_of_testBit_eq
 intro e
 have hb : ndB f (3,l,a,b) (prt w i e) = decide (prt w i e = [l]):=rfl
 rw [zAD,hb,Nat.zero_testBit]
 by_cases c : e < w.length + 1 /\ i <= e
 ·obtain rfl : e = i:=by omega
  rw [zK3]
  simp
 ·simp only [Bool.and_eq_false_iff,decide_eq_false_iff_not]
  omega
theorem zN8 (l a b : Nat) : zBZ (ndB f (4,l,a,b)) w i = zEf i (w.length + 1):=by
 apply Nat.eq_of_testBit_eq
 intro e
 unfold zEf
 rw [zAD,zB4]
 simp [ndB]
theorem zPI (l a b : Nat) : zBZ (ndB f (5,l,a,b)) w i = zBZ (f a) w i ||| zBZ (f b) w i:=by
 apply Nat.eq_of_testBit_eq
 intro e
 have hb : ndB f (5,l,a,b) (prt w i e) = (f a (prt w i e) || f b (prt w i e)):=rfl
 rw [Nat.testBit_or,zAD,zAD,zAD,hb]
 cases decide (e < w.length + 1) <;> cases decide (i <= e) <;> simp
theorem zNs (l a b : Nat) : zBZ (ndB f (6,l,a,b)) w i = zBZ (f a) w i &&& zBZ (f b) w i:=by
 apply Nat.eq_of_testBit_eq
 intro e
 have hb : ndB f (6,l,a,b) (prt w i e) = (f a (prt w i e) && f b (prt w i e)):=rfl
 rw [Nat.testBit_and,zAD,zAD,zAD,hb]
 cases decide (e < w.length + 1) <;> cases decide (i <= e) <;> simp
theorem zNZ (l a b : Nat) (hw : w.length <= 50) : zBZ (ndB f (8,l,a,b)) w i = zIS (zEf i (w.length + 1)) (zBZ (f a) w i):=by
 apply Nat.eq_of_testBit_eq
 intro e
 have hb : ndB f (8,l,a,b) (prt w i e) = !f a (prt w i e):=rfl
 rw [zIn (zEf i (w.length + 1)) (zBZ (f a) w i) e (show zEf i (w.length + 1) < _ from zKH (by omega)),zAD,zAD,zEf,zB4,hb]
 cases decide (e < w.length + 1) <;> cases decide (i <= e) <;> simp
def zFL (f g : List Nat -> Bool) (w : List Nat) (i k : Nat) : Nat:=mkM (fun e=>(List.range k).any fun c=>decide (i <= c) && decide (c <= e) && f (prt w i c) && g (prt w c e)) (w.length + 1)
theorem zIh (f g : List Nat -> Bool) (w : List Nat) (i : Nat) : zFL f g w i i = 0:=by
 apply Nat.eq_of_testBit_eq
 intro e
 unfold zFL
 rw [zB4,Nat.zero_testBit,Bool.and_eq_false_iff]
 refine .inr ?_
 rw [List.any_eq_false]
 intro c hc
 have:=List.mem_range.1 hc
 simp
 omega
theorem zJ3 (f g : List Nat -> Bool) (w : List Nat) {i k : Nat} (hk : i <= k) : zFL f g w i (k + 1) = if f (prt w i k) = true then zFL f g w i k ||| zBZ g w k else zFL f g w i k:=by
 apply Nat.eq_of_testBit_eq
 intro e
 have h1 : (zFL f g w i (k + 1)).testBit e = ((zFL f g w i k).testBit e || (f (prt w i k) && (zBZ g w k).testBit e)):=by
  unfold zFL
  rw [zB4,zB4,zAD,List.range_succ,List.any_append]
  simp only [List.any_cons,List.any_nil,Bool.or_false,decide_eq_true hk,Bool.true_and]
  cases decide (e < w.length + 1) <;> cases f (prt w i k) <;> simp
 rw [h1]
 by_cases c : f (prt w i k) = true
 ·rw [if_pos c,Nat.testBit_or,c,Bool.true_and]
 ·rw [if_neg c]
  rw [Bool.not_eq_true] at c
  rw [c,Bool.false_and,Bool.or_false]
theorem zJs (f : Nat -> List Nat -> Bool) (l a b : Nat) : zFL (f a) (f b) w i (w.length + 1) = zBZ (ndB f (7,l,a,b)) w i:=by
 apply Nat.eq_of_testBit_eq
 intro e
 unfold zFL
 rw [zB4,zAD]
 by_cases he : e < w.length + 1
 ·rw [decide_eq_true he,Bool.true_and,Bool.true_and,Bool.eq_iff_iff,List.any_eq_true,Bool.and_eq_true,decide_eq_true_eq]
  constructor
  ·rintro ⟨c,hc,h⟩
   simp only [Bool.and_eq_true,decide_eq_true_eq] at h
   exact ⟨by omega,(zJH f l a b (by omega) (by omega)).2 ⟨c,h.1.1.1,h.1.1.2,h.1.2,h.2⟩⟩
  ·rintro ⟨h1,h2⟩
   obtain ⟨c,c1,c2,c3,c4⟩:=(zJH f l a b h1 (by omega)).1 h2
   exact ⟨c,List.mem_range.2 (by omega),by simp [c1,c2,c3,c4]⟩
 ·rw [decide_eq_false he,Bool.false_and,Bool.false_and]
theorem zPX (f g : List Nat -> Bool) {w : List Nat} (hw : w.length <= 50) (i k : Nat) : zFL f g w i k < 1152921504606846976:=zKH (by omega)
end
theorem zNg {l : List Nat} {i x : Nat} (h : l[i]? = some x) : l.set i x = l:=by
 apply List.ext_getElem?
 intro j
 by_cases c : i = j
 ·subst c
  rw [h,List.getElem?_set_self (List.getElem?_eq_some_iff.1 h).1]
 ·rw [List.getElem?_set_ne c]
theorem zHS (g : List Nat -> Bool) (w : List Nat) (i x : Nat) : ((zCs g w i).set i x).length = w.length + 1:=by simp [zCs]
theorem zNu {op l a b : Nat} {w : List Nat} (hw : ∀ x ∈ w,x < 6) (hl : w.length <= 50) (h1 : 1 <= op) (h8 : op <= 8) (hlL : l < 100) {tcs : List T} (ht : tcs.length <= 100000) {f : Nat -> List Nat -> Bool} (hA : 5 <= op -> tcs[a]? = some (.sl 2 (zAO (zC2 (f a) w)))) (hB : 5 <= op -> op <= 7 -> tcs[b]? = some (.sl 2 (zAO (zC2 (f b) w)))) :
  FnA Tryz.prog 45 [.agg [.t 2 (.int .i64 op),.t 2 (.int .i64 l),.t 2 (.int .i64 a),.t 2 (.int .i64 b)],.t 0 (.sl 1 tcs),.t 2 (.str (zAH w))] (.t 2 (.sl 2 (zAO (zC2 (ndB f (op,l,a,b)) w)))):=by
 have hzN:=zNQ (w.length + 1)
 have hdv : ∀ k : Nat,k * 2 / 2 = k:=fun k=>by omega
 refine fI 166 #[.tmp 6] Tryz.func45 rfl ?_
 refine rg0 ?_
 refine rg1 @hzN ?_
 refine zD ?_
 refine rg1 (an @hzN (an @zk @hdv)) ?_
 refine zG ?_
 refine awp_loop (fun i : Nat=>mkS [(1,.t 0 (.sl 1 tcs)),(2,.t 2 (.str (zAH w))),(3,.ptr 0 0 4),(7,.own 1 ((w.length + 1) * 2)),(15,.t 2 (.int .i64 (w.length + 1 : Nat))),(16,.t 2 (.int .i64 i))]
    [(0,.box 78 [.t 2 (.int .i64 op),.t 2 (.int .i64 l),.t 2 (.int .i64 a),.t 2 (.int .i64 b)]),(1,.row 90 2 2 (zAO (zCs (ndB f (op,l,a,b)) w i)))] 2 166 [.any,.any,.any]) (fun i=>i <= w.length + 1) (fun i=>w.length + 1 - i) ?_ ?_
 ·refine ⟨0,by omega,?_⟩
  rw [zLJ]
  refine zP [(0,some 0),(1,some 5000000)] rfl ?_ ?_ ?_ ?_
  all_goals try simp
  all_goals (trace_state; sorry)
 intro i hi
 have hLi : (zAO (zCs (ndB f (op,l,a,b)) w i)).length = (w.length + 1) * 2:=by rw [zk,zAY]
 refine rg0 ?_
 refine zD ?_
 by_cases hlt : i < w.length + 1
 ·have hlt' : (i : Int) < (w.length : Int) + 1:=by omega
  have hat:=zBQ (zLB (ndB f (op,l,a,b)) w hlt)
  have hset:=zHa (ndB f (op,l,a,b)) w i
  have hput:=zIB (ms:=zCs (ndB f (op,l,a,b)) w i) (k:=i) (x:=zBZ (ndB f (op,l,a,b)) w i) (by rw [zAY]; exact hlt)
  rw [hset] at hput
  have hin : i * 2 + 2 <= (w.length + 1) * 2:=by omega
  refine cK1 @hlt' ?_
  refine zD ?_
  refine zG ?_
  refine rg0 ?_
  refine rg0 ?_
  refine zG ?_
  have hcase : op = 1 \/ op = 2 \/ op = 3 \/ op = 4 \/ op = 5 \/ op = 6 \/ op = 7 \/ op = 8:=by omega
  have hQ:=fun g=>zKg (w:=w) g hl i
  rcases hcase with rfl | rfl | rfl | rfl | rfl | rfl | rfl | rfl
  ·have hz:=zBf (ndB f (1,l,a,b)) w (zLf (f:=f) (w:=w) (i:=i) l a b)
   refine rg0 ?_
   refine cF0 ?_
   refine rg0 ?_
   refine cF0 ?_
   refine rg0 ?_
   refine cF0 ?_
   refine rg0 ?_
   refine cF0 ?_
   refine rg0 ?_
   refine cF0 ?_
   refine rg0 ?_
   refine cF0 ?_
   refine rg0 ?_
   refine cY0 ?_
   show awp _ _ _ _
   refine rr0 ?_
   refine ⟨i + 1,by omega,by omega,?_⟩
   rw [hz]
   exact kw1 [(0,some 0),(1,some 1)] (an @hLi (an @zk @zAY))
  ·have hr:=zMU (f:=f) (w:=w) (i:=i) l a b hlt
   have hc:=zEk (m:=0) (j:=i) (by omega) (by omega)
   rw [← hr] at hc
   generalize zBZ (ndB f (2,l,a,b)) w i = m at hc hput
   refine rg0 ?_
   refine cT0 ?_
   refine zAa fun K hK=>?_
   simp [hat,hin,hLi]
   (repeat' apply And.intro)
   all_goals (try omega)
   refine zM (caps:=[]) (hc) [] [] 2 rfl rfl rfl rfl (by kernel_rfl) (by simp) ?_ trivial trivial rfl trivial trivial (by simp) ?_
   ·simp [scal,zBE]
   simp [scal,hin,hLi,hput,zBE]
   and_intros <;> try first | apply hK | omega | rfl | simp <;> omega
   show awp _ _ _ _
   refine rr0 ?_
   refine ⟨i + 1,by omega,by omega,?_⟩
   exact kw1 [(0,some 0),(1,some 1)] (an @hLi (an @zk @zAY))
  ·by_cases hiw : i < w.length
   ·have hr:=zNf (f:=f) l a b hiw
    have hwi:=hw w[i] (by simp)
    have e0:=zBc hiw (by omega)
    have e2 : IntKind.u8.wrap (97 + (w[i] : Int) - 97) = w[i]:=by rw [zMt,wr8 _ (by omega) (by omega)]
    generalize w[i] = c at *
    by_cases hcl : c = l
    ·rw [if_pos hcl] at hr
     have hc:=zEk (m:=0) (j:=i + 1) (by omega) (by omega)
     rw [← hr] at hc
     generalize zBZ (ndB f (3,l,a,b)) w i = m at hc hput
     subst hcl
     refine rg0 ?_
     refine cF0 ?_
     refine rg0 ?_
     refine cT0 ?_
     refine rd1 (an @e0 (an @e2 (an @hiw @hlt'))) ?_
     refine cT0 ?_
     refine zAa fun K hK=>?_
     simp (maxSteps:=2000000) (disch:=omega) [zBY,hat,hin,hLi]
     (repeat' apply And.intro)
     all_goals (try omega)
     refine zM (caps:=[]) (hc) [] [] 2 rfl rfl rfl rfl (by kernel_rfl) (by simp) ?_ trivial trivial rfl trivial trivial (by simp) ?_
     ·simp [scal,zBE]
     simp [scal,hin,hLi,hput,zBE]
     and_intros <;> try first | apply hK | omega | rfl | simp <;> omega
     show awp _ _ _ _
     refine rr0 ?_
     refine ⟨i + 1,by omega,by omega,?_⟩
     exact kw1 [(0,some 0),(1,some 1)] (an @hLi (an @zk @zAY))
    ·rw [if_neg hcl] at hr
     have hz:=zBf (ndB f (3,l,a,b)) w hr
     have hcl2 : ((c : Int) == (l : Int)) = false:=by
      have : ¬ (c : Int) = l:=by omega
      simpa using this
     refine rg0 ?_
     refine cF0 ?_
     refine rg0 ?_
     refine cT0 ?_
     refine rd1 (an @e0 (an @e2 (an @hiw (an @hlt' (an @hcl @hcl2))))) ?_
     refine cY0 ?_
     show awp _ _ _ _
     refine rr0 ?_
     refine ⟨i + 1,by omega,by omega,?_⟩
     rw [hz]
     exact kw1 [(0,some 0),(1,some 1)] (an @hLi (an @zk @zAY))
   ·have hr:=zG0 (f:=f) (w:=w) (i:=i) l a b (by omega)
    have hz:=zBf (ndB f (3,l,a,b)) w hr
    have hiw2 : decide (i < w.length) = false:=by simpa using hiw
    refine rg0 ?_
    refine cF0 ?_
    refine rg0 ?_
    refine cT0 ?_
    refine rd1 (an @hiw @hiw2) ?_
    refine cY0 ?_
    show awp _ _ _ _
    refine rr0 ?_
    refine ⟨i + 1,by omega,by omega,?_⟩
    rw [hz]
    exact kw1 [(0,some 0),(1,some 1)] (an @hLi (an @zk @zAY))
  ·have hr:=zN8 (f:=f) (w:=w) (i:=i) l a b
   have hc:=zEY (a:=i) (b:=w.length) (by omega) (by omega)
   rw [← hr] at hc
   generalize zBZ (ndB f (4,l,a,b)) w i = m at hc hput
   refine rg0 ?_
   refine cF0 ?_
   refine rg0 ?_
   refine cF0 ?_
   refine rg0 ?_
   refine cT0 ?_
   refine zAa fun K hK=>?_
   simp
   (repeat' apply And.intro)
   all_goals (try omega)
   refine zM (caps:=[]) (hc) [] [] 2 rfl rfl rfl rfl (by kernel_rfl) (by simp) ?_ trivial trivial rfl trivial trivial (by simp) ?_
   ·simp [scal]
   simp [scal,hin,hLi,hput,zBE]
   and_intros <;> try first | apply hK | omega | rfl | simp <;> omega
   show awp _ _ _ _
   refine rr0 ?_
   refine ⟨i + 1,by omega,by omega,?_⟩
   exact kw1 [(0,some 0),(1,some 1)] (an @hLi (an @zk @zAY))
  ·have hr:=zPI (f:=f) (w:=w) (i:=i) l a b
   have hc:=zKn (hQ (f a)) (hQ (f b))
   rw [← hr] at hc
   obtain ⟨hax,hae⟩:=List.getElem?_eq_some_iff.1 (hA (by omega))
   have hag : ∀ hh,tcs[a]'hh = _:=fun _=>hae
   have har:=zBQ (zBz (f a) w hlt)
   have hal : (zAO (zC2 (f a) w)).length = (w.length + 1) * 2:=by rw [zk,zC2,zm]
   obtain ⟨hbx,hbe⟩:=List.getElem?_eq_some_iff.1 (hB (by omega) (by omega))
   have hbg : ∀ hh,tcs[b]'hh = _:=fun _=>hbe
   have hbr:=zBQ (zBz (f b) w hlt)
   have hbl : (zAO (zC2 (f b) w)).length = (w.length + 1) * 2:=by rw [zk,zC2,zm]
   generalize zBZ (ndB f (5,l,a,b)) w i = m at hc hput
   generalize zBZ (f a) w i = ma at hc har
   generalize zBZ (f b) w i = mb at hc hbr
   refine rg0 ?_
   refine cF0 ?_
   refine rg0 ?_
   refine cF0 ?_
   refine rg0 ?_
   refine cF0 ?_
   refine rg0 ?_
   refine cT0 ?_
   refine zAf (by kernel_rfl) (fun K hK=>?_)
   simp [hin,hax,hag,har,hal,hbx,hbg,hbr,hbl]
   (repeat' apply And.intro)
   all_goals (try omega)
   refine zT (caps:=[]) (hc) [] [] 2 rfl rfl rfl rfl (by kernel_rfl) (by simp) ?_ trivial trivial rfl trivial trivial (by simp) ?_
   ·simp [scal,zBE]
   simp [scal,hin,hLi,hput,zBE]
   and_intros <;> try first | apply hK | (show zAe _ _ = true; kernel_rfl) | (show okH _ _ _ = true; kernel_rfl) | omega | rfl | simp <;> omega
   show awp _ _ _ _
   refine rr0 ?_
   refine ⟨i + 1,by omega,by omega,?_⟩
   exact kw1 [(0,some 0),(1,some 1)] (an @hLi (an @zk @zAY))
  ·have hr:=zNs (f:=f) (w:=w) (i:=i) l a b
   have hc:=zMj (hQ (f a)) (hQ (f b))
   rw [← hr] at hc
   obtain ⟨hax,hae⟩:=List.getElem?_eq_some_iff.1 (hA (by omega))
   have hag : ∀ hh,tcs[a]'hh = _:=fun _=>hae
   have har:=zBQ (zBz (f a) w hlt)
   have hal : (zAO (zC2 (f a) w)).length = (w.length + 1) * 2:=by rw [zk,zC2,zm]
   obtain ⟨hbx,hbe⟩:=List.getElem?_eq_some_iff.1 (hB (by omega) (by omega))
   have hbg : ∀ hh,tcs[b]'hh = _:=fun _=>hbe
   have hbr:=zBQ (zBz (f b) w hlt)
   have hbl : (zAO (zC2 (f b) w)).length = (w.length + 1) * 2:=by rw [zk,zC2,zm]
   generalize zBZ (ndB f (6,l,a,b)) w i = m at hc hput
   generalize zBZ (f a) w i = ma at hc har
   generalize zBZ (f b) w i = mb at hc hbr
   refine rg0 ?_
   refine cF0 ?_
   refine rg0 ?_
   refine cF0 ?_
   refine rg0 ?_
   refine cF0 ?_
   refine rg0 ?_
   refine cF0 ?_
   refine rg0 ?_
   refine cT0 ?_
   refine zAf (by kernel_rfl) (fun K hK=>?_)
   simp [hin,hax,hag,har,hal,hbx,hbg,hbr,hbl]
   (repeat' apply And.intro)
   all_goals (try omega)
   refine zT (caps:=[]) (hc) [] [] 2 rfl rfl rfl rfl (by kernel_rfl) (by simp) ?_ trivial trivial rfl trivial trivial (by simp) ?_
   ·simp [scal,zBE]
   simp [scal,hin,hLi,hput,zBE]
   and_intros <;> try first | apply hK | (show zAe _ _ = true; kernel_rfl) | (show okH _ _ _ = true; kernel_rfl) | omega | rfl | simp <;> omega
   show awp _ _ _ _
   refine rr0 ?_
   refine ⟨i + 1,by omega,by omega,?_⟩
   exact kw1 [(0,some 0),(1,some 1)] (an @hLi (an @zk @zAY))
  ·have hlen2 : ∀ x,(zAO ((zCs (ndB f (7,l,a,b)) w i).set i x)).length = (w.length + 1) * 2:=fun x=>by rw [zk,zHS]
   obtain ⟨hax,hae⟩:=List.getElem?_eq_some_iff.1 (hA (by omega))
   have hag : ∀ hh,tcs[a]'hh = _:=fun _=>hae
   have har:=zBQ (zBz (f a) w hlt)
   have hal : (zAO (zC2 (f a) w)).length = (w.length + 1) * 2:=by rw [zk,zC2,zm]
   generalize hma : zBZ (f a) w i = ma at har
   have hmaq : ma < 1152921504606846976:=hma ▸ hQ (f a)
   refine rg0 ?_
   refine cF0 ?_
   refine rg0 ?_
   refine cF0 ?_
   refine rg0 ?_
   refine cF0 ?_
   refine rg0 ?_
   refine cF0 ?_
   refine rg0 ?_
   refine cF0 ?_
   refine rg0 ?_
   refine cT0 ?_
   refine rg0 ?_
   refine zG ?_
   refine awp_loop (fun k : Nat=>mkS [(1,.t 0 (.sl 1 tcs)),(2,.t 2 (.str (zAH w))),(3,.ptr 0 0 4),(7,.own 1 ((w.length + 1) * 2)),(8,.t 2 (.int .i64 i)),(9,.t 2 (.int .i64 k)),(15,.t 2 (.int .i64 (w.length + 1 : Nat))),(16,.t 2 (.int .i64 i))]
    [(0,.box 78 [.t 2 (.int .i64 7),.t 2 (.int .i64 l),.t 2 (.int .i64 a),.t 2 (.int .i64 b)]),(1,.row 90 2 2 (zAO ((zCs (ndB f (7,l,a,b)) w i).set i (zFL (f a) (f b) w i k))))] 2 166 [.any,.any,.any]) (fun k=>i <= k /\ k <= w.length + 1) (fun k=>w.length + 1 - k) ?_ ?_
   ·refine ⟨i,⟨by omega,by omega⟩,?_⟩
    have e0 : (zCs (ndB f (7,l,a,b)) w i).set i (zFL (f a) (f b) w i i) = zCs (ndB f (7,l,a,b)) w i:=by
     rw [zIh]
     exact zNg (zLB _ w hlt)
    rw [e0]
    exact kw1 [(0,some 0),(1,some 1)] @hLi
   rintro k ⟨hk1,hk2⟩
   refine zD ?_
   by_cases hkl : k < w.length + 1
   ·have hkl' : (k : Int) <= (w.length : Int):=by omega
    have hc:=zKB hmaq (i:=k) (by omega)
    have hcb : ma.testBit k = f a (prt w i k):=by rw [← hma,zAD,decide_eq_true hkl,decide_eq_true hk1]; rfl
    rw [hcb] at hc
    have hcs:=zJ3 (f a) (f b) w hk1
    refine rg0 ?_
    refine cK1 @hkl' ?_
    refine zD ?_
    refine zG ?_
    cases hfa : f a (prt w i k) with
    | true =>
     rw [hfa] at hc
     rw [if_pos hfa] at hcs
     have hat2:=zBQ (ms:=(zCs (ndB f (7,l,a,b)) w i).set i (zFL (f a) (f b) w i k)) (k:=i) (m:=zFL (f a) (f b) w i k) (by rw [List.getElem?_set_self (by rw [zAY]; exact hlt)])
     have hput2:=zIB (ms:=(zCs (ndB f (7,l,a,b)) w i).set i (zFL (f a) (f b) w i k)) (k:=i) (x:=zFL (f a) (f b) w i (k + 1)) (by rw [zHS]; exact hlt)
     rw [List.set_set] at hput2
     have hcu:=zKn (zPX (f a) (f b) hl i k) (zKg (f b) hl k)
     rw [← hcs] at hcu
     have hl2:=hlen2 (zFL (f a) (f b) w i k)
     obtain ⟨hbx,hbe⟩:=List.getElem?_eq_some_iff.1 (hB (by omega) (by omega))
     have hbg : ∀ hh,tcs[b]'hh = _:=fun _=>hbe
     have hbr:=zBQ (zBz (f b) w hkl)
     have hbl : (zAO (zC2 (f b) w)).length = (w.length + 1) * 2:=by rw [zk,zC2,zm]
     have hink : k * 2 + 2 <= (w.length + 1) * 2:=by omega
     generalize zBZ (f b) w k = mb at hcu hbr
     refine rc1 hc (an @hin (an @zBE.eq_1 (an @hax (an @hag (an @har @hal))))) ?_
     refine cT0 ?_
     refine zAf (by kernel_rfl) (fun K hK=>?_)
     simp [hat2,hin,hl2,hbx,hbg,hbr,hbl]
     (repeat' apply And.intro)
     all_goals (try omega)
     refine zT (caps:=[]) (hcu) [] [] 2 rfl rfl rfl rfl (by kernel_rfl) (by simp) ?_ trivial trivial rfl trivial trivial (by simp) ?_
     ·simp [scal,zBE]
     simp [scal,hin,hl2,hput2,zBE]
     and_intros <;> try first | apply hK | (show zAe _ _ = true; kernel_rfl) | (show okH _ _ _ = true; kernel_rfl) | omega | rfl | simp <;> omega
     show awp _ _ _ _
     refine rr0 ?_
     refine ⟨k + 1,⟨by omega,by omega⟩,by omega,?_⟩
     exact kw1 [(0,some 0),(1,some 1)] @hlen2
    | false =>
     rw [hfa] at hc
     rw [if_neg (by rw [hfa]; simp)] at hcs
     refine rc1 hc (an @hin (an @zBE.eq_1 (an @hax (an @hag (an @har @hal))))) ?_
     refine cY0 ?_
     show awp _ _ _ _
     refine rr0 ?_
     refine ⟨k + 1,⟨by omega,by omega⟩,by omega,?_⟩
     rw [hcs]
     exact kw1 [(0,some 0),(1,some 1)] @hlen2
   ·obtain rfl : k = w.length + 1:=by omega
    have hkl' : ¬ ((w.length : Int) + 1 <= (w.length : Int)):=by omega
    have hfin : (zCs (ndB f (7,l,a,b)) w i).set i (zFL (f a) (f b) w i (w.length + 1)) = zCs (ndB f (7,l,a,b)) w (i + 1):=by rw [zJs]; exact hset
    rw [hfin]
    refine rg0 ?_
    refine cF1 @hkl' ?_
    refine zK ?_
    show awp _ _ _ _
    refine rr0 ?_
    refine ⟨i + 1,by omega,by omega,?_⟩
    exact kw1 [(0,some 0),(1,some 1)] (an @hLi (an @zk @zAY))
  ·have hr:=zNZ (f:=f) (w:=w) (i:=i) l a b hl
   have hc1:=zEY (a:=i) (b:=w.length) (by omega) (by omega)
   have hc:=zPg (m:=zEf i (w.length + 1)) (zKH (by omega)) (hQ (f a))
   rw [← hr] at hc
   obtain ⟨hax,hae⟩:=List.getElem?_eq_some_iff.1 (hA (by omega))
   have hag : ∀ hh,tcs[a]'hh = _:=fun _=>hae
   have har:=zBQ (zBz (f a) w hlt)
   have hal : (zAO (zC2 (f a) w)).length = (w.length + 1) * 2:=by rw [zk,zC2,zm]
   generalize zBZ (ndB f (8,l,a,b)) w i = m at hc hput
   generalize zBZ (f a) w i = ma at hc har
   generalize zEf i (w.length + 1) = mb at hc hc1
   refine rg0 ?_
   refine cF0 ?_
   refine rg0 ?_
   refine cF0 ?_
   refine rg0 ?_
   refine cF0 ?_
   refine rg0 ?_
   refine cF0 ?_
   refine rg0 ?_
   refine cF0 ?_
   refine rg0 ?_
   refine cF0 ?_
   refine rg0 ?_
   refine cT0 ?_
   refine zAf (by kernel_rfl) (fun K hK=>?_)
   simp
   (repeat' apply And.intro)
   all_goals (try omega)
   refine zT (caps:=[]) (hc1) [] [] 2 rfl rfl rfl rfl (by kernel_rfl) (by simp) ?_ trivial trivial rfl trivial trivial (by simp) ?_
   ·simp [scal]
   simp [scal,hin,zBE,hax,hag,har,hal]
   (repeat' apply And.intro)
   all_goals (try omega)
   refine zT (caps:=[]) (hc) [] [] 2 rfl rfl rfl rfl (by kernel_rfl) (by simp) ?_ trivial trivial rfl trivial trivial (by simp) ?_
   ·simp [scal,zBE]
   simp [scal,hin,hLi,hput,zBE]
   and_intros <;> try first | apply hK | (show zAe _ _ = true; kernel_rfl) | (show okH _ _ _ = true; kernel_rfl) | omega | rfl | simp <;> omega
   show awp _ _ _ _
   refine rr0 ?_
   refine ⟨i + 1,by omega,by omega,?_⟩
   exact kw1 [(0,some 0),(1,some 1)] (an @hLi (an @zk @zAY))
 ·obtain rfl : i = w.length + 1:=by omega
  have hf:=zJx (ndB f (op,l,a,b)) w
  rw [hf] at hLi ⊢
  have hlt' : ¬ ((w.length : Int) + 1 < (w.length : Int) + 1):=by omega
  refine cF1 @hlt' ?_
  refine zK ?_
  show awp _ _ _ _
  refine rg0 ?_
  exact zJ (rt1 @hLi)
end Go.Proofs.YtjkeafkjjaploaaGreat.M
