/-
  Sets of states as numbers, and the automaton of the reversed language, in plain Lean.
  Walks in my logic: sets of cuts (starfree), as numbers.
-/
import Derived.Test.YtjkeafkjjaploaaGreatZpai
import Derived.Test.YtjkeafkjjaploaaGreatZpak
import Derived.Test.YtjkeafkjjaploaaGreatZpad
namespace Go.Proofs.YtjkeafkjjaploaaGreat.M
open Go.RowKit
set_option linter.unusedVariables false
set_option linter.unusedSimpArgs false
set_option maxRecDepth 100000
set_option maxHeartbeats 32000000

def mkM (P : Nat -> Bool) : Nat -> Nat
 | 0=>0
 | k + 1=>if P k then mkM P k ||| 2 ^ k else mkM P k
theorem zNk (P : Nat -> Bool) : ∀ m,mkM P m < 2 ^ m
 | 0=>by simp [mkM]
 | k + 1=>by
  have h:=zNk P k
  have h2 : 2 ^ (k + 1) = 2 ^ k + 2 ^ k:=by rw [Nat.pow_succ]; omega
  unfold mkM
  split
  ·exact Nat.or_lt_two_pow (by omega) (by omega)
  ·omega
theorem zB4 (P : Nat -> Bool) (q : Nat) : ∀ m,(mkM P m).testBit q = (decide (q < m) && P q)
 | 0=>by simp [mkM]
 | k + 1=>by
  have ih:=zB4 P q k
  by_cases e : q = k
  ·subst e
   have h0 : (mkM P q).testBit q = false:=by rw [ih]; simp
   unfold mkM
   cases hp : P q with
   | true=>simp [Nat.testBit_or,Nat.testBit_two_pow_self]
   | false=>simp [h0]
  ·have hd : decide (q < k + 1) = decide (q < k):=by
    by_cases h : q < k
    ·simp [h,show q < k + 1 by omega]
    ·simp [h,show ¬ q < k + 1 by omega]
   unfold mkM
   cases hp : P k with
   | true =>
    simp only [if_true,Nat.testBit_or,ih,hd,Nat.testBit_two_pow]
    simp [show ¬ k = q from fun g=>e g.symm]
   | false=>simp [ih,hd]
def zAf (m : Nat) : AV:=.agg [.t 2 (.int .u64 (m : Nat)),.t 2 (.int .u64 0)]
theorem zRZ {i : Nat} (h : i < 60) : 2 ^ i < 1152921504606846976:=Nat.pow_lt_pow_right (n:=60) (by omega) h
theorem zRm {i : Nat} (h : i < 60) : zNr .u64 1 (i : Int) = ((2 ^ i : Nat) : Int):=by
 have hb:=zRZ h
 have:=zRh (x:=1) (k:=i) (by rw [Nat.one_mul]; omega) (by omega)
 rw [Nat.one_mul] at this
 exact this
theorem zRQ {i : Nat} (h : i < 60) : (i : Int).tdiv 64 = 0 /\ (i : Int).tmod 64 = i:=⟨Int.tdiv_eq_zero_of_lt (by omega) (by omega),Int.tmod_eq_of_lt (by omega) (by omega)⟩
theorem zFO {m j : Nat} (hm : m < 1152921504606846976) (hj : j < 60) : FnA Tryz.prog 83 [zAf m,.t 2 (.int .i64 j)] (zAf (m ||| 2 ^ j)):=by
 obtain ⟨d1,d2⟩:=zRQ hj
 have d3:=zRm hj
 have hb:=zRZ hj
 have d4:=orN (x:=m) (y:=2 ^ j) (by omega) (by omega)
 generalize 2 ^ j = b at d3 d4 ⊢
 refine fI 15 #[.cell 4 90] Tryz.func83 rfl ?_
 refine rg1 @zAf.eq_1 ?_
 refine rd1 (an @d1 (an @d2 (an @d3 @d4))) ?_
 refine rg0 ?_
 refine zI ?_
 refine ⟨⟨.inr rfl,_,[],(by simp; rfl),trivial,trivial,by simp [zAf],?_⟩,by simp [zAf]⟩
 simp [ints,rows,zAf]
theorem zLK {s i : Nat} (hs : s < 1152921504606846976) (hi : i < 60) : FnA Tryz.prog 46 [zAf s,.t 2 (.int .i64 i)] (.t 2 (.bool (s.testBit i))):=by
 obtain ⟨d1,d2⟩:=zRQ hi
 have d3 : zMG .u64 (s : Int) (i : Int) = ((s / 2 ^ i : Nat) : Int):=zRl (by show i <= 64; omega)
 have hb : s.testBit i = decide (s / 2 ^ i % 2 = 1):=Nat.testBit_eq_decide_div_mod_eq
 have hlt : s / 2 ^ i < 18446744073709551616:=Nat.lt_of_le_of_lt (Nat.div_le_self _ _) (by omega)
 have d4 : zOv .u64 ((s / 2 ^ i : Nat) : Int) 1 = ((s / 2 ^ i % 2 : Nat) : Int):=by
  have:=zQu hlt (show 1 < 18446744073709551616 by omega)
  rw [Nat.and_one_is_mod] at this
  exact this
 rw [hb]
 generalize s / 2 ^ i = u at d3 d4 ⊢
 obtain ⟨t,ht⟩ : ∃ t,t = u % 2:=⟨_,rfl⟩
 rw [← ht] at d4 ⊢
 refine fI 14 #[.tmp 4] Tryz.func46 rfl ?_
 refine rg1 @zAf.eq_1 ?_
 refine rg1 (an @d1 (an @d2 (an @d3 @d4))) ?_
 refine zI ?_
 refine ⟨⟨.inr rfl,_,[],rfl,trivial,trivial,by simp [zAf],?_⟩,by simp [zAf]⟩
 simp [zAf]
 rw [Bool.eq_iff_iff]
 simp
 omega
theorem zLN {m k : Nat} (hm : m < 1152921504606846976) (hk : k < 1152921504606846976) : FnA Tryz.prog 85 [zAf m,zAf k] (zAf (m ||| k)):=by
 have d4:=orN (x:=m) (y:=k) (by omega) (by omega)
 have d5 : orI .u64 0 0 = 0:=by simpa using orN (x:=0) (y:=0) (by omega) (by omega)
 refine fI 16 #[.cell 4 90] Tryz.func85 rfl ?_
 refine rg1 @zAf.eq_1 ?_
 refine rg1 (an @d4 @d5) ?_
 refine zI ?_
 refine ⟨⟨.inr rfl,_,[],(by simp; rfl),trivial,trivial,by simp [zAf],?_⟩,by simp [zAf]⟩
 simp [ints,rows,zAf]
theorem zMi {m k : Nat} (hm : m < 1152921504606846976) (hk : k < 1152921504606846976) : FnA Tryz.prog 86 [zAf m,zAf k] (zAf (m &&& k)):=by
 have d4:=zQu (x:=m) (y:=k) (by omega) (by omega)
 have d5 : zOv .u64 0 0 = 0:=by simpa using zQu (x:=0) (y:=0) (by omega) (by omega)
 refine fI 16 #[.cell 4 90] Tryz.func86 rfl ?_
 refine rg1 @zAf.eq_1 ?_
 refine rg1 (an @d4 @d5) ?_
 refine zI ?_
 refine ⟨⟨.inr rfl,_,[],(by simp; rfl),trivial,trivial,by simp [zAf],?_⟩,by simp [zAf]⟩
 simp [ints,rows,zAf]
def zIt (m k : Nat) : Nat:=(BitVec.ofNat 64 m &&& ~~~ BitVec.ofNat 64 k).toNat
theorem zLd (m k i : Nat) (hm : m < 1152921504606846976) : (zIt m k).testBit i = (m.testBit i && !k.testBit i):=by
 unfold zIt
 rw [BitVec.testBit_toNat,BitVec.getLsbD_and,BitVec.getLsbD_not,BitVec.getLsbD_ofNat,BitVec.getLsbD_ofNat]
 by_cases h : i < 64
 ·simp [h]
 ·have : m.testBit i = false:=Nat.testBit_lt_two_pow (Nat.lt_of_lt_of_le (show m < 2 ^ 60 by omega) (Nat.pow_le_pow_right (by omega) (by omega)))
  simp [h,this]
theorem zQB {m k : Nat} (hm : m < 18446744073709551616) (hk : k < 18446744073709551616) : zI8 .u64 (m : Int) (k : Int) = ((zIt m k : Nat) : Int):=by
 unfold zI8 zIt
 have e : ∀ x : Nat,x < 18446744073709551616 -> BitVec.ofInt IntKind.u64.bits (x : Int) = BitVec.ofNat 64 x:=fun x hx=>by
  apply BitVec.eq_of_toNat_eq
  have h2 : (BitVec.ofNat 64 x).toNat = x:=by rw [BitVec.toNat_ofNat]; omega
  exact (bvN hx).trans h2.symm
 rw [e m hm,e k hk]
 exact wrN (BitVec.isLt _)
theorem zQD {m k : Nat} (hm : m < 1152921504606846976) (hk : k < 1152921504606846976) : FnA Tryz.prog 87 [zAf m,zAf k] (zAf (zIt m k)):=by
 have d4:=zQB (m:=m) (k:=k) (by omega) (by omega)
 have d5 : zI8 .u64 0 0 = 0:=by decide
 refine fI 16 #[.cell 4 90] Tryz.func87 rfl ?_
 refine rg1 @zAf.eq_1 ?_
 refine rg1 (an @d4 @d5) ?_
 refine zI ?_
 refine ⟨⟨.inr rfl,_,[],(by simp; rfl),trivial,trivial,by simp [zAf],?_⟩,by simp [zAf]⟩
 simp [ints,rows,zAf]
def zFK (a k : Nat) : Nat:=mkM (fun j=>decide (a <= j)) k
theorem zKj {P : Nat -> Bool} {k : Nat} (h : k <= 60) : mkM P k < 1152921504606846976:=Nat.lt_of_lt_of_le (zNk P k) (Nat.pow_le_pow_right (n:=2) (by omega) h)
theorem zEl {a b : Nat} (hab : a <= b + 1) (hb : b < 60) : FnA Tryz.prog 84 [.t 2 (.int .i64 a),.t 2 (.int .i64 b)] (zAf (zFK a (b + 1))):=by
 refine fI 17 #[.cell 4 90] Tryz.func84 rfl ?_
 refine rg0 ?_
 refine rg0 ?_
 refine zD ?_
 refine rg0 ?_
 refine zG ?_
 refine awp_loop (fun k : Nat=>mkS [(1,.t 2 (.int .i64 b)),(4,.ptr 0 0 2),(5,.ptr 1 0 2),(6,.t 2 (.int .i64 k))] [(0,.box 90 [.any,.any]),(1,.box 90 [.t 2 (.int .u64 (zFK a k : Nat)),.t 2 (.int .u64 0)])] 2 17 [.any,.any]) (fun k=>a <= k /\ k <= b + 1) (fun k=>b + 1 - k) ?_ ?_
 ·refine ⟨a,⟨by omega,hab⟩,?_⟩
  have e : zFK a a = 0:=by
   unfold zFK
   have : ∀ k,k <= a -> mkM (fun j=>decide (a <= j)) k = 0:=fun k hk=>by
    induction k with
    | zero=>rfl
    | succ k ih =>
     unfold mkM
     rw [if_neg (by simp; omega)]
     exact ih (by omega)
   exact this a (Nat.le_refl a)
  rw [e]
  exact kw0 [(0,some 0),(1,some 1000000)]
 rintro k ⟨hk1,hk2⟩
 refine zD ?_
 by_cases hlt : k < b + 1
 ·have hlt' : (k : Int) <= b:=by omega
  have hw:=zFO (m:=zFK a k) (j:=k) (zKj (by omega)) (by omega)
  have e : zFK a k ||| 2 ^ k = zFK a (k + 1):=by
   unfold zFK
   show _ = (if decide (a <= k) = true then _ else _)
   rw [if_pos (by simpa using hk1)]
  rw [e] at hw
  generalize zFK a k = u at hw ⊢
  obtain ⟨v,hv⟩ : ∃ v,v = zFK a (k + 1):=⟨_,rfl⟩
  rw [← hv] at hw
  refine rg0 ?_
  refine cK1 @hlt' ?_
  refine zD ?_
  refine zG ?_
  refine zAe fun K hK=>?_
  simp (maxSteps:=2000000) (disch:=omega) [ints,rows,scal,zT,wr8]
  (repeat' apply And.intro)
  all_goals (try omega)
  refine zK (caps:=[]) (hw) [] [] 2 rfl rfl rfl rfl (by kernel_rfl) (by simp) ?_ trivial trivial rfl trivial trivial (by simp) ?_
  ·simp [scal,rows,ints,zAf]
  simp (maxSteps:=2000000) (disch:=omega) [ints,rows,scal,zT,wr8,zAf]
  and_intros <;> try first | apply hK | omega | rfl | simp <;> omega
  show awp _ _ _ _
  refine rr0 ?_
  refine ⟨k + 1,⟨by omega,by omega⟩,by omega,?_⟩
  exact kw1 [(0,some 0),(1,some 1)] @hv
 ·obtain rfl : k = b + 1:=by omega
  have hlt' : ¬ ((b : Int) + 1 <= b):=by omega
  generalize zFK a (b + 1) = v
  refine rg0 ?_
  refine cF1 @hlt' ?_
  refine zM ?_
  show awp _ _ _ _
  refine rg0 ?_
  refine zI ?_
  refine ⟨⟨.inr rfl,_,[],(by simp; rfl),trivial,trivial,by simp [zAf],?_⟩,by simp [zAf]⟩
  simp [ints,rows,zAf]
end Go.Proofs.YtjkeafkjjaploaaGreat.M
