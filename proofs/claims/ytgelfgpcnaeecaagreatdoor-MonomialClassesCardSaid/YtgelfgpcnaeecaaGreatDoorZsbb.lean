/-
  Walks in my logic: points, Valid, Members, Image (relation), states (nfa).
  Walks in my logic: Valid, Image (relation), steps$1 and Subset$1 (dfa).
  Walks in my logic: steps$1 and Subset$1 (dfa) for the reversed automaton.
  Walks in my logic: numbering and explore (dfa) of sets.
-/
import Derived.Test.YtgelfgpcnaeecaaGreatDoorZsaz
import Derived.Test.YtgelfgpcnaeecaaGreatDoorZsad
import Derived.Test.YtgelfgpcnaeecaaGreatDoorZsba
import Derived.Test.YtgelfgpcnaeecaaGreatDoorZsam
import Derived.Test.YtgelfgpcnaeecaaGreatDoorZsai
namespace Go.Proofs.YtgelfgpcnaeecaaGreatDoor.M
open Go.RowKit
set_option linter.unusedVariables false
set_option linter.unusedSimpArgs false
set_option maxRecDepth 100000
set_option maxHeartbeats 32000000

def zCS (r : List Nat) : List T:=r.map fun (x : Nat)=>.int .u64 (x : Int)
@[simp] theorem zTF (r : List Nat) : (zCS r).length = r.length:=by simp [zCS]
theorem zKy {r : List Nat} {i : Nat} (h : i < r.length) : (zCS r)[i]? = some (.int .u64 (r[i] : Int)):=by simp [zCS,h]
theorem zPG (n q : Nat) : (2 ^ n - 1).testBit q = decide (q < n):=Nat.testBit_two_pow_sub_one n q
theorem zG3 {x n : Nat} (hx : x < 2 ^ n) (hn : n <= 63) : zOA .u64 (x : Int) ((2 ^ n - 1 : Nat) : Int) = 0:=by
 have h64 : 2 ^ n <= 2 ^ 63:=Nat.pow_le_pow_right (by omega) hn
 have hz : (BitVec.ofInt IntKind.u64.bits (x : Int) &&& ~~~ BitVec.ofInt IntKind.u64.bits ((2 ^ n - 1 : Nat) : Int)).toNat = 0:=by
  apply Nat.eq_of_testBit_eq
  intro j
  show (BitVec.ofInt 64 (x : Int) &&& ~~~ BitVec.ofInt 64 ((2 ^ n - 1 : Nat) : Int)).toNat.testBit j = _
  rw [BitVec.testBit_toNat,BitVec.getLsbD_and,BitVec.getLsbD_not,BitVec.ofInt_natCast,BitVec.ofInt_natCast,BitVec.getLsbD_ofNat,BitVec.getLsbD_ofNat,zPG]
  by_cases hj : j < n
  ·simp [hj]
  ·have : x.testBit j = false:=Nat.testBit_lt_two_pow (Nat.lt_of_lt_of_le hx (Nat.pow_le_pow_right (by omega) (by omega)))
   simp [this]
 unfold zOA
 rw [hz]
 rfl
theorem zGp {n : Nat} (hn : n <= 63) : FnA Tryz.prog 142 [.t 2 (.int .i64 n)] (.t 2 (.int .u64 (2 ^ n - 1 : Nat))):=by
 have h1:=zD3 (i:=n) (by omega)
 have hb:=zG6 (i:=n) (by omega)
 obtain ⟨c,hc⟩ : ∃ c,c = 2 ^ n - 1:=⟨_,rfl⟩
 have hp : 0 < 2 ^ n:=Nat.two_pow_pos n
 have h2 : IntKind.u64.wrap (((2 ^ n : Nat) : Int) - 1) = (c : Int):=by
  rw [show (((2 ^ n : Nat) : Int) - 1) = (c : Int) by omega,wrN (by omega)]
 rw [← hc]
 generalize 2 ^ n = b at *
 refine fI 6 #[.tmp 2] Tryz.func142 rfl ?_
 refine rg0 ?_
 refine rg1 (an @h1 @h2) ?_
 exact zC rt0
theorem zJ1 {n : Nat} (hn : n <= 63) : FnA Tryz.prog 112 [.t 2 (.int .i64 n)] (.t 2 (.int .u64 (2 ^ n - 1 : Nat))):=by
 have h1:=zD3 (i:=n) (by omega)
 have hb:=zG6 (i:=n) (by omega)
 obtain ⟨c,hc⟩ : ∃ c,c = 2 ^ n - 1:=⟨_,rfl⟩
 have hp : 0 < 2 ^ n:=Nat.two_pow_pos n
 have h2 : IntKind.u64.wrap (((2 ^ n : Nat) : Int) - 1) = (c : Int):=by
  rw [show (((2 ^ n : Nat) : Int) - 1) = (c : Int) by omega,wrN (by omega)]
 rw [← hc]
 generalize 2 ^ n = b at *
 refine fI 6 #[.tmp 2] Tryz.func112 rfl ?_
 refine rg0 ?_
 refine rg1 (an @h1 @h2) ?_
 exact zC rt0
theorem zFa {S : Nat} (hS : S < 18446744073709551616) : ∃ res,(∃ l : List Nat,(∀ q,q ∈ l ↔ S.testBit q = true) /\ l.length <= 64 /\ (∀ q ∈ l,q < 64) /\ res = .t 2 (.sl 1 (zAS l))) /\ FnS Tryz.prog 141 [.t 2 (.int .u64 (S : Nat))] [] res []:=by
 refine zk Tryz.func141 rfl (by simp [Tryz.f141]) ?_
 rw [show Tryz.f141.ntmps = 16 from rfl,show Tryz.f141.results = #[.tmp 2] from rfl]
 refine rg0 ?_
 refine rg0 ?_
 refine zA ?_
 refine zB ?_
 refine awp_loop (fun y : Nat × List Nat=>mkS [(0,.t 2 (.int .u64 (y.1 : Nat))),(3,.own 0 y.2.length)] [(0,.row 3 1 2 (zAS y.2))] 1 16 [.any])
  (fun y=>y.1 < 18446744073709551616 /\ y.2.Nodup /\ (∀ q ∈ y.2,q < 64 /\ y.1.testBit q = false) /\ ∀ q,(q ∈ y.2 \/ y.1.testBit q = true) ↔ S.testBit q = true) (fun y=>y.1) ?_ ?_
 ·refine ⟨(S,[]),⟨hS,by simp,by simp,by simp⟩,?_⟩
  exact kw1 [(0,none)] @zAS.eq_1
 rintro ⟨x,l⟩ ⟨hx,hnd,hlt,hmem⟩
 simp only at hx hnd hlt hmem
 have hll : l.length <= 64:=zBr hnd (fun q hq=>(hlt q hq).1)
 refine zA ?_
 by_cases h0 : x = 0
 ·have h0i : (x : Int) = 0:=by omega
  refine rg1 (an @h0i @h0) ?_
  refine cF1 (an @h0i @h0) ?_
  refine zG ?_
  show awp _ _ _ _
  refine rg0 ?_
  refine zC ?_
  refine ⟨_,⟨l,fun q=>by rw [← hmem q,h0]; simp,hll,fun q hq=>(hlt q hq).1,rfl⟩,?_⟩
  exact rt0
 ·have h0i : ¬ (x : Int) = 0:=by omega
  obtain ⟨c,hc1,hc2,hc3,hc4,hc5⟩:=zMQ h0 hx
  have htz:=zTo hx h0
  rw [← hc1] at htz
  have hw : IntKind.u64.wrap ((x : Int) - 1) = ((x - 1 : Nat) : Int):=by
   rw [show ((x : Int) - 1) = ((x - 1 : Nat) : Int) by omega,wrN (by omega)]
  have ha:=zTG (x:=x) (y:=x - 1) hx (by omega)
  generalize x - 1 = x1 at hw ha hc4 hc5
  refine rg1 (an @h0i @h0) ?_
  refine cK1 (an @h0i @h0) ?_
  refine zA ?_
  refine zB ?_
  refine zAh fun K hK=>?_
  simp (maxSteps:=2000000) (disch:=omega) [ints,rows,scal,zK,wr8]
  (repeat' apply And.intro)
  all_goals (try omega)
  refine zD (caps:=[]) (htz) [] [] 2 rfl rfl rfl rfl (by kernel_rfl) (by simp) ?_ trivial trivial rfl trivial trivial (by simp) ?_
  ·simp [scal,rows,ints]
  simp (maxSteps:=2000000) (disch:=omega) [ints,rows,scal,zK,wr8]
  and_intros <;> try first | apply hK | omega | rfl | simp <;> omega
  show awp _ _ _ _
  refine rr1 (an @hw @ha) ?_
  refine ⟨(x &&& x1,l ++ [c]),⟨by simp only; omega,zBm hnd (fun g=>by have:=(hlt c g).2; rw [hc3] at this; cases this),fun q hq=>?_,fun q=>?_⟩,by simp only; omega,?_⟩
  ·rcases List.mem_append.1 hq with g | g
   ·exact ⟨(hlt q g).1,by rw [hc4,(hlt q g).2]; rfl⟩
   ·simp only [List.mem_singleton] at g
    subst g
    exact ⟨hc2,by rw [hc4]; simp⟩
  ·rw [← hmem q,hc4,List.mem_append,List.mem_singleton]
   by_cases e : q = c
   ·subst e; simp [hc3]
   ·simp [e]
  ·exact kw1 [(0,some 0)] @zAS.eq_1
def zRV (r : List Nat) (n : Nat) : Prop:=r.length = n /\ ∀ x ∈ r,x < 2 ^ n
theorem zHk {r : List Nat} {n : Nat} (h : zRV r n) (hn : n <= 63) : FnA Tryz.prog 140 [.t 0 (.sl 1 (zCS r))] (.t 2 (.bool true)):=by
 have hl:=h.1
 have hpt:=zGp hn
 refine fI 21 #[.tmp 2] Tryz.func140 rfl ?_
 have h64 : ¬ (64 : Int) < (n : Int):=by omega
 refine rg0 ?_
 refine zA ?_
 refine rg1 (an @hl @h64) ?_
 refine cS1 @h64 ?_
 refine zA ?_
 refine rg1 @hl ?_
 refine zB ?_
 refine awp_loop (fun i : Nat=>mkS [(0,.t 0 (.sl 1 (zCS r))),(8,.t 0 (.sl 1 (zCS r))),(9,.t 2 (.int .i64 n)),(10,.t 2 (.int .i64 i))] [] 0 21 [.any]) (fun i=>i <= n) (fun i=>n - i) ?_ ?_
 ·refine ⟨0,by omega,?_⟩
  exact kw1 [] @hl
 intro i hi
 refine rg0 ?_
 refine zA ?_
 by_cases hil : i < n
 ·have hir : i < r.length:=by omega
  have hg:=zKy hir
  have hand:=zG3 (h.2 r[i] (by simp)) hn
  refine cK1 @hil ?_
  refine zA ?_
  refine zB ?_
  refine rg1 (an @hg @hir) ?_
  refine rc1 hpt (an @hl @hand) ?_
  refine cY0 ?_
  show awp _ _ _ _
  refine rr0 ?_
  refine ⟨i + 1,by omega,by omega,?_⟩
  exact kw0 []
 ·refine cF1 @hil ?_
  refine zG ?_
  show awp _ _ _ _
  refine rg0 ?_
  exact zC rt0
theorem zLD {r : List Nat} {n S : Nat} (h : zRV r n) (hn : n <= 63) (hS : S < 2 ^ n) : ∃ res,(∃ R,R < 2 ^ n /\ (∀ q,R.testBit q = true ↔ ∃ i,i < n /\ S.testBit i = true /\ (r.getD i 0).testBit q = true) /\ res = .t 2 (.int .u64 (R : Nat))) /\ FnS Tryz.prog 126 [.t 0 (.sl 1 (zCS r)),.t 2 (.int .u64 (S : Nat))] [] res []:=by
 have hl:=h.1
 have hpt:=zGp hn
 have hval:=zHk h hn
 have h63 : 2 ^ n <= 2 ^ 63:=Nat.pow_le_pow_right (by omega) hn
 have hand : S &&& (2 ^ n - 1) = S:=by rw [Nat.and_two_pow_sub_one_eq_mod,Nat.mod_eq_of_lt hS]
 have ha:=zTG (x:=S) (y:=2 ^ n - 1) (by omega) (by omega)
 rw [hand] at ha
 obtain ⟨_,⟨l,hl1,hl2,hl3,rfl⟩,hmem⟩:=zFa (S:=S) (by omega)
 have hln : ∀ q ∈ l,q < n:=fun q hq=>by
  have:=(hl1 q).1 hq
  apply Classical.byContradiction
  intro hc
  rw [Nat.testBit_lt_two_pow (Nat.lt_of_lt_of_le hS (Nat.pow_le_pow_right (by omega) (by omega)))] at this
  cases this
 refine zk Tryz.func126 rfl (by simp [Tryz.f126]) ?_
 rw [show Tryz.f126.ntmps = 30 from rfl,show Tryz.f126.results = #[.tmp 4] from rfl]
 refine rg0 ?_
 refine zA ?_
 refine rc0 hval ?_
 refine cS0 ?_
 refine rg0 ?_
 refine zA ?_
 refine zI fun K hK=>?_
 simp (maxSteps:=2000000) (disch:=omega) [ints,rows,scal,zK,wr8,hl]
 (repeat' apply And.intro)
 all_goals (try omega)
 refine zD (caps:=[]) (hpt) [] [] 2 rfl rfl rfl rfl (by kernel_rfl) (by simp) ?_ trivial trivial rfl trivial trivial (by simp) ?_
 ·simp [scal,rows,ints]
 simp (maxSteps:=2000000) (disch:=omega) [ints,rows,scal,zK,wr8,ha]
 (repeat' apply And.intro)
 all_goals (try omega)
 refine zD (caps:=[]) (hmem) [] [] 2 rfl rfl rfl rfl (by kernel_rfl) (by simp) ?_ trivial trivial rfl trivial trivial (by simp) ?_
 ·simp [scal,rows,ints]
 simp (maxSteps:=2000000) (disch:=omega) [ints,rows,scal,zK,wr8]
 and_intros <;> try first | apply hK | omega | rfl | simp <;> omega
 refine zB ?_
 refine awp_loop (fun y : Nat × Nat=>mkS [(0,.t 0 (.sl 1 (zCS r))),(5,.t 2 (.int .u64 (y.2 : Nat))),(16,.t 2 (.sl 1 (zAS l))),(17,.t 2 (.int .i64 l.length)),(18,.t 2 (.int .i64 y.1))] [] 0 30 [.any,.any])
  (fun y=>y.1 <= l.length /\ y.2 < 2 ^ n /\ ∀ q,y.2.testBit q = true ↔ ∃ i,i ∈ l.take y.1 /\ (r.getD i 0).testBit q = true) (fun y=>l.length - y.1) ?_ ?_
 ·refine ⟨(0,0),⟨by simp,Nat.two_pow_pos n,by simp⟩,?_⟩
  exact kw1 [] @zAS.eq_1
 rintro ⟨i,R⟩ ⟨hi,hR,hb⟩
 simp only at hi hR hb
 refine rg0 ?_
 refine zA ?_
 by_cases hil : i < l.length
 ·have hv : l[i]? = some l[i]:=List.getElem?_eq_getElem hil
  have hvg:=zFG hv
  have hvn:=hln l[i] (by simp)
  have hvr : l[i] < r.length:=by omega
  have hg:=zKy hvr
  have hx : r[l[i]] < 2 ^ n:=h.2 _ (by simp)
  have ho:=orN (x:=R) (y:=r[l[i]]) (by omega) (by omega)
  refine cK1 @hil ?_
  refine zA ?_
  refine zB ?_
  refine rg1 @hvg ?_
  refine rr1 (an @hg (an @hvr @ho)) ?_
  show awp _ _ _ _
  refine rr0 ?_
  refine ⟨(i + 1,R ||| r[l[i]]),⟨by simp only; omega,Nat.or_lt_two_pow hR hx,fun q=>?_⟩,by simp only; omega,?_⟩
  ·have hgd : r.getD l[i] 0 = r[l[i]]:=by rw [List.getD_eq_getElem?_getD,List.getElem?_eq_getElem hvr]; rfl
   rw [Nat.testBit_or,Bool.or_eq_true,hb q,List.take_succ_eq_append_getElem hil]
   constructor
   ·rintro (⟨j,h1,h2⟩ | h2)
    ·exact ⟨j,List.mem_append_left _ h1,h2⟩
    ·exact ⟨l[i],List.mem_append_right _ (List.mem_singleton.2 rfl),by rw [hgd]; exact h2⟩
   ·rintro ⟨j,h1,h2⟩
    rcases List.mem_append.1 h1 with g | g
    ·exact .inl ⟨j,g,h2⟩
    ·simp only [List.mem_singleton] at g
     right
     rw [← hgd,← g]; exact h2
  ·exact kw0 []
 ·obtain rfl : i = l.length:=by omega
  rw [List.take_length] at hb
  refine cF0 ?_
  refine zG ?_
  show awp _ _ _ _
  refine rg0 ?_
  refine zC ?_
  refine ⟨_,⟨R,hR,fun q=>?_,rfl⟩,?_⟩
  ·rw [hb q]
   constructor
   ·rintro ⟨j,h1,h2⟩
    exact ⟨j,hln j h1,(hl1 j).1 h1,h2⟩
   ·rintro ⟨j,h1,h2,h3⟩
    exact ⟨j,(hl1 j).2 h2,h3⟩
  ·exact rt0
def zRm (m : Nat) (nx : List (List Int)) (x p : Nat) : Nat:=mkM (fun q=>decide (zJ nx q x = p)) m
def zOg (m : Nat) (nx : List (List Int)) (x : Nat) : List Nat:=tab m fun p=>zRm m nx x p
def zEf (L m : Nat) (nx : List (List Int)) : T:=.sl 1 (tab L fun x=>.sl 1 (zCS (zOg m nx x)))
theorem zQx (m : Nat) (nx : List (List Int)) (x : Nat) : zRV (zOg m nx x) m:=⟨by simp [zOg],fun y hy=>by
 simp only [zOg,tab,List.mem_map,List.mem_range] at hy
 obtain ⟨p,hp,rfl⟩:=hy
 exact zBI _ _⟩
theorem zNQ {m : Nat} {nx : List (List Int)} {x p : Nat} (hp : p < m) : (zOg m nx x).getD p 0 = zRm m nx x p:=by
 rw [List.getD_eq_getElem?_getD,zOg,zP _ hp]
 rfl
theorem zSH {L m s : Nat} {bs : List Bool} {nx : List (List Int)} (hD : DfL L m s bs nx) {S x R : Nat} (hx : x < L) (hR : R < 2 ^ m) (h : ∀ q,R.testBit q = true ↔ ∃ i,i < m /\ S.testBit i = true /\ ((zOg m nx x).getD i 0).testBit q = true) : R = zPo m nx S x:=by
 refine zEL hR (zHg m nx S x) (fun q hq=>?_)
 have hs:=(hD.rt.step hq hx).1
 rw [Bool.eq_iff_iff,h q,zPo,zAt,decide_eq_true hq,Bool.true_and]
 constructor
 ·rintro ⟨i,h1,h2,h3⟩
  rw [zNQ h1,zRm,zAt,decide_eq_true hq,Bool.true_and,decide_eq_true_eq] at h3
  rw [h3]; exact h2
 ·intro h2
  exact ⟨_,hs,h2,by rw [zNQ hs,zRm,zAt]; simp [hq]⟩
theorem zMg {L m s S x : Nat} {bs : List Bool} {nx : List (List Int)} (hD : DfL L m s bs nx) (hm : m <= 63) (hS : S < 2 ^ m) (hx : x < L) : FnA Tryz.prog 125 [.t 2 (.int .u64 (S : Nat)),.t 2 (.int .i64 x),.pt 0 [zEf L m nx]] (.t 2 (.int .u64 (zPo m nx S x : Nat))):=by
 obtain ⟨_,⟨R,hR,hb,rfl⟩,himg⟩:=zLD (zQx m nx x) hm hS
 rw [← zSH hD hx hR hb]
 refine fI 12 #[.tmp 5] Tryz.func125 rfl ?_
 refine rg0 ?_
 refine rc1 himg (an @zEf.eq_1 @hx) ?_
 exact zC rt0
theorem zIe (S : Nat) : decide (S &&& 1 ≠ 0) = S.testBit 0:=by
 rw [Nat.testBit_zero,Nat.and_one_is_mod]
 by_cases h : S % 2 = 1
 ·simp [h]
 ·simp [show S % 2 = 0 by omega]
def nfC (L m st fi : Nat) (ed : T) : List T:=[.int .i64 L,.int .i64 m,.int .u64 (st : Nat),.int .u64 (fi : Nat),ed]
theorem zJ6 {L m S st : Nat} {ed : T} (hS : S < 18446744073709551616) : FnA Tryz.prog 111 [.t 2 (.int .u64 (S : Nat)),.pt 0 (nfC L m st 1 ed)] (.t 2 (.bool (S.testBit 0))):=by
 obtain ⟨c,hc⟩ : ∃ c,c = S &&& 1:=⟨_,rfl⟩
 have ha : zQN .u64 (S : Int) 1 = (c : Int):=by rw [hc]; exact zTG (x:=S) (y:=1) hS (by omega)
 have hb : S.testBit 0 = decide (c ≠ 0):=by rw [hc]; exact (zIe S).symm
 refine fI 9 #[.tmp 3] Tryz.func111 rfl ?_
 refine rg1 @nfC.eq_1 ?_
 by_cases h0 : c = 0
 ·have hb2 : S.testBit 0 = false:=by rw [hb]; simp [h0]
  refine rg1 (an @ha @h0) ?_
  exact zC (rt1 @hb2)
 ·have hb2 : S.testBit 0 = true:=by rw [hb]; simp [h0]
  have h0b : ((c : Int) != 0) = true:=bne_iff_ne.2 (by omega)
  refine rg1 (an @ha @h0b) ?_
  exact zC (rt1 (an @hb2 @h0))
@[simp] theorem zTY : mpTy Tryz.prog 210 = some (111,3):=by kernel_rfl
@[simp] theorem zUT : mpB Tryz.prog 210 = true:=by kernel_rfl
@[simp] theorem zTg : elOf Tryz.prog 210 = none:=by kernel_rfl
@[simp] theorem zQE (x : Int) : kOK Tryz.prog 111 (.int .u64 x) = true:=by
 show decide (intB Tryz.prog 111 = some .u64) = true
 kernel_rfl
theorem zNA (ds : List Nat) (x : Nat) : zCS (ds ++ [x]) = zCS ds ++ [.int .u64 (x : Int)]:=by simp [zCS]
def unT (x : Nat) : T:=.int .u64 (x : Int)
def nbU (ds : List Nat) : List AObj:=[.box 212 [.own 1 ds.length,.own 2 0],.row 111 1 1 (zCS ds),.map 111 3 (kents unT 0 ds)]
theorem zSn (x y : Nat) : kEq (unT x) (unT y) = decide (x = y):=by
 simp only [unT,kEq]
 rw [Bool.eq_iff_iff]
 simp
 omega
theorem zOl (x : Nat) : FnS Tryz.prog 124 [.ptr 0 0 2,.t 2 (.int .u64 (x : Nat))] [.box 212 [.t 1 (.sl 0 []),.t 1 .zDx]] (.t 2 (.int .i64 0)) (nbU [x]):=by
 have hz1 : zCV Tryz.prog 3 = some (.int .i64 0):=by kernel_rfl
 refine fI 49 #[.tmp 4] Tryz.func124 rfl ?_
 refine rg0 ?_
 refine zI fun K hK=>?_
 simp (maxSteps:=2000000) (disch:=omega) [ints,rows,scal,zK,wr8,keyL,hz1]
 and_intros <;> try first | apply hK | omega | rfl | simp <;> omega
 refine zA ?_
 refine rg0 ?_
 refine cT0 ?_
 refine zA ?_
 refine rg0 ?_
 refine cT0 ?_
 refine rr0 ?_
 show awp _ _ _ _
 refine rg0 ?_
 refine zI fun K hK=>?_
 simp (maxSteps:=2000000) (disch:=omega) [ints,rows,scal,zK,wr8,keyL,fndT]
 (repeat' first | apply hK | apply And.intro) <;> try first | omega | rfl | (simp <;> omega)
 refine rr0 ?_
 show awp _ _ _ _
 refine rg0 ?_
 refine zC ?_
 refine ⟨⟨.inr rfl,_,[(0,some 0),(1,some 44000001),(2,some 20000001)],(by first | rfl | (simp [ints,rows,scal,tpO,nbU,kents,unT,zCS]; rfl)),?_,?_,?_,?_⟩,?_⟩
 all_goals try simp [ints,rows,scal,tpO,nbU,kents,unT,zCS]
theorem zQm (x : Nat) (ds : List Nat) (hn : ds.length <= 100000) : FnS Tryz.prog 124 [.ptr 0 0 2,.t 2 (.int .u64 (x : Nat))] (nbU ds) (.t 2 (.int .i64 ((ofX x ds).2 : Nat))) (nbU (ofX x ds).1):=by
 have hz1 : zCV Tryz.prog 3 = some (.int .i64 0):=by kernel_rfl
 have hfn : fndT (.int .u64 (x : Int)) (kents unT 0 ds) = ixA x ds:=zBk (f:=unT) ds 0 (fun y _=>zSn x y)
 have hall:=zBh unT (P:=Tryz.prog) (K:=111) (fun x=>zQE x) ds 0
 refine fI 49 #[.tmp 4] Tryz.func124 rfl ?_
 refine rg1 @nbU.eq_1 ?_
 cases hx : ixA x ds with
 | some j =>
  have hj:=zB8 hx
  have hje:=zBi unT ds 0 j _ hj
  have hof : ofX x ds = (ds,j):=by simp [ofX,hx]
  refine zI fun K hK=>?_
  simp (maxSteps:=2000000) (disch:=omega) [ints,rows,scal,zK,wr8,keyL,hfn,hx,hall,hz1,hje]
  and_intros <;> try first | apply hK | omega | rfl | simp <;> omega
  refine zA ?_
  refine rg0 ?_
  refine cS0 ?_
  refine rg0 ?_
  refine zC ?_
  exact zPt (an @nbU.eq_1 @hof)
 | none =>
  have hof : ofX x ds = (ds ++ [x],ds.length):=by simp [ofX,hx]
  refine zI fun K hK=>?_
  simp (maxSteps:=2000000) (disch:=omega) [ints,rows,scal,zK,wr8,keyL,hfn,hx,hall,hz1]
  and_intros <;> try first | apply hK | omega | rfl | simp <;> omega
  refine zA ?_
  refine rg0 ?_
  refine cT0 ?_
  refine zA ?_
  refine rg0 ?_
  refine cS0 ?_
  refine rg0 ?_
  refine zI fun K hK=>?_
  simp (maxSteps:=2000000) (disch:=omega) [ints,rows,scal,zK,wr8,keyL,hfn,hx,hall]
  (repeat' first | apply hK | apply And.intro) <;> try first | omega | rfl | (simp <;> omega)
  refine rr0 ?_
  show awp _ _ _ _
  refine rg0 ?_
  refine zC ?_
  exact zPt (an @nbU.eq_1 (an @hof (an @zBE (an @zNA @unT.eq_1))))
theorem zIQ {L m s S0 st : Nat} {ed : T} {bs : List Bool} {nx : List (List Int)} (hD : DfL L m s bs nx) (hL : 1 <= L) (hL2 : L <= 6) (hm : m <= 9) (hS0 : S0 < 2 ^ m) : ∃ res,(∃ ss bs' nx',ExI L (2 ^ m) S0 (zKf m) (zFZ L m nx) ss bs' nx' ss.length /\ FO L (zFZ L m nx) ss (ss.length * L) /\ res = .tup [dfT 2 L 0 bs' nx',.t 2 (.sl 1 (zCS ss)),.t 2 (.int .i64 0)]) ∧
  FnS Tryz.prog 109 [.t 2 (.int .i64 L),.t 2 (.int .u64 (S0 : Nat)),.fn 125 [.pt 0 [zEf L m nx]],.fn 111 [.pt 0 (nfC L m st 1 ed)]] [] res []:=by
 have h:=zR5 L nx hS0
 have hn : 2 ^ m <= 512:=Nat.le_trans (Nat.pow_le_pow_right (by omega) hm) (by decide)
 obtain ⟨n,hn0⟩ : ∃ n,n = 2 ^ m:=⟨_,rfl⟩
 rw [← hn0] at h hn hS0 ⊢
 have hst:=h.st
 refine zk Tryz.func109 rfl (by simp [Tryz.f109]) ?_
 rw [show Tryz.f109.ntmps = 71 from rfl,show Tryz.f109.results = #[.cell 8 28,.tmp 9,.tmp 10] from rfl]
 refine rg0 ?_
 refine rg0 ?_
 refine zI fun K hK=>?_
 simp (maxSteps:=2000000) (disch:=omega) [ints,rows,scal,zK,wr8]
 (repeat' apply And.intro)
 all_goals (try omega)
 refine zD (caps:=[]) (zOl S0) [3000000] [3000000,5000000,5000001] 2 rfl rfl rfl rfl (by kernel_rfl) (by simp) ?_ ?_ (by simp) rfl (by simp) ⟨.inr ⟨rfl,0,_,_,_,_,_,rfl,rfl,(by first | rfl | simp [nbU]),rfl,(by first | rfl | simp [nbU])⟩,.inl ⟨by omega,by omega⟩,.inl ⟨by omega,by omega⟩,trivial⟩ (by simp [nbU]) ?_
 ·simp [scal,rows,ints,nbU]
 ·simp [scal,rows,ints,nbU]
 simp (maxSteps:=2000000) (disch:=omega) [ints,rows,scal,zK,wr8,nbU]
 (repeat' first | apply hK | apply And.intro) <;> try first | omega | rfl | (simp <;> omega)
 refine rg0 ?_
 refine zA ?_
 refine rg0 ?_
 refine zB ?_
 refine awp_loop (fun y : Nat × List Nat × List Bool × List (List Int)=>mkS [(0,.t 2 (.int .i64 L)),(2,.fn 125 [.pt 0 [zEf L m nx]]),(3,.fn 111 [.pt 0 (nfC L m st 1 ed)]),(8,.ptr 1 0 4),(11,.ptr 2 0 2),(12,.ptr 3 0 4),(13,.t 2 (.int .i64 y.1))]
  [(1,.box 28 [.any,.any,.any,.any]),(2,.box 212 [.own 4 y.2.1.length,.own 5 0]),(3,.box 28 [.t 2 (.int .i64 L),.t 2 (.int .i64 0),.own 6 y.1,.own 7 y.1]),(4,.row 111 1 2 (zCS y.2.1)),(5,.map 111 3 (kents unT 0 y.2.1)),(6,.row 4 1 2 (y.2.2.1.map .bool)),(7,.row 22 1 2 (y.2.2.2.map ints))]
  8 71 [.any,.any,.any,.any]) (fun y=>ExI L n S0 (zKf m) (zFZ L m nx) y.2.1 y.2.2.1 y.2.2.2 y.1 /\ FO L (zFZ L m nx) y.2.1 (y.1 * L)) (fun y=>n - y.1) ?_ ?_
 ·refine ⟨(0,[S0],[],[]),⟨ExI.start hst,FO.start⟩,?_⟩
  refine zQ [(1,some 0),(2,some 3000000),(3,some 8000000),(4,some 5000000),(5,some 5000001),(6,none),(7,none)] rfl ?_ ?_ ?_ ?_
  all_goals try simp [ints,nbU,rows,zE,zCS,kents,unT]
 rintro ⟨i,ss,bs',nx'⟩ ⟨hE,hF⟩
 simp only at hE hF
 have hbl:=hE.bl
 have hnl:=hE.nl
 have hsl:=hE.len
 have hile:=hE.le
 refine zA ?_
 refine rg0 ?_
 by_cases hil : i < ss.length
 ·refine cT1 @hil ?_
  obtain ⟨q,hq⟩ : ∃ q,ss[i]? = some q:=⟨_,List.getElem?_eq_getElem hil⟩
  have hqn:=hE.lt q (List.mem_of_getElem? hq)
  have hqg : (zCS ss)[i]? = some (.int .u64 (q : Int)):=by rw [zCS,List.getElem?_map,hq]; rfl
  refine zb ?_
  show awp _ _ _ _
  refine zA ?_
  refine zB ?_
  refine rg1 @hqg ?_
  refine rg0 ?_
  refine zA ?_
  refine rg0 ?_
  refine zB ?_
  refine awp_loop (fun y : Nat × List Nat × List Int=>mkS [(0,.t 2 (.int .i64 L)),(2,.fn 125 [.pt 0 [zEf L m nx]]),(3,.fn 111 [.pt 0 (nfC L m st 1 ed)]),(8,.ptr 1 0 4),(11,.ptr 2 0 2),(12,.ptr 3 0 4),(13,.t 2 (.int .i64 i)),(14,.t 2 (.int .u64 (q : Nat))),(15,.own 8 L),(36,.t 2 (.int .i64 L)),(37,.t 2 (.int .i64 y.1))]
   [(1,.box 28 [.any,.any,.any,.any]),(2,.box 212 [.own 4 y.2.1.length,.own 5 0]),(3,.box 28 [.t 2 (.int .i64 L),.t 2 (.int .i64 0),.own 6 i,.own 7 i]),(4,.row 111 1 2 (zCS y.2.1)),(5,.map 111 3 (kents unT 0 y.2.1)),(6,.row 4 1 2 (bs'.map .bool)),(7,.row 22 1 2 (nx'.map ints)),(8,.row 3 1 2 (y.2.2.map (.int .i64)))]
   9 71 [.any,.any,.any,.any]) (fun y=>ExI L n S0 (zKf m) (zFZ L m nx) y.2.1 bs' nx' i /\ y.2.1[i]? = some q /\ y.2.2.length = L /\ zID (zFZ L m nx) y.2.1 q y.2.2 y.1 /\ y.1 <= L /\ FO L (zFZ L m nx) y.2.1 (i * L + y.1)) (fun y=>L - y.1) ?_ ?_
  ·refine ⟨(0,ss,List.replicate L 0),⟨hE,hq,by simp,fun y hy=>by omega,by simp,hF⟩,?_⟩
   exact kw1 [(1,some 1),(2,some 2),(3,some 3),(4,some 4),(5,some 5),(6,some 6),(7,some 7),(8,some 12000008)] (an @zE.eq_1 @rows.eq_1)
  clear hE hF hq hqg hil hsl hile
  rintro ⟨x,ss,r⟩ ⟨hE,hq,hrl,hR,hx,hF⟩
  simp only at hE hq hrl hR hx hF
  have hsl:=hE.len
  have hil:=(List.getElem?_eq_some_iff.1 hq).1
  refine rg0 ?_
  refine zA ?_
  by_cases hxl : x < L
  ·refine cT1 @hxl ?_
   have h1:=zMg hD (by omega) (S:=q) (by omega) hxl
   rw [← zJR nx (S:=q) (by omega) hxl] at h1
   obtain ⟨s1,-⟩:=h.rt.step hqn hxl
   generalize hv : zJ (zFZ L m nx) q x = v at h1 s1
   obtain ⟨hE2,ht,ys,hys⟩:=zJl hE s1
   have h2:=zQm v ss (by omega)
   have hF2:=zPs hF hE hq hR hxl hv
   generalize ofX v ss = p at hE2 ht hys h2 hF2
   obtain ⟨ss2,t⟩:=p
   simp only at hE2 ht hys h2 hF2
   have hq2 : ss2[i]? = some q:=by rw [hys,List.getElem?_append_left hil]; exact hq
   have hR2 : zID (zFZ L m nx) ss2 q (r.set x (t : Int)) (x + 1):=by
    refine zID.set (by rw [hys]; exact hR.app ys) (by omega) ?_
    rw [hv]; exact ht
   refine zb ?_
   show awp _ _ _ _
   refine zA ?_
   refine zB ?_
   refine rg0 ?_
   refine zAh fun K hK=>?_
   simp (maxSteps:=2000000) (disch:=omega) [ints,rows,scal,zK,wr8]
   (repeat' apply And.intro)
   all_goals (try omega)
   refine zD (caps:=[.pt 0 [zEf L m nx]]) (h1) [] [] 1 rfl rfl rfl (by simp) (by first | assumption | kernel_rfl) (by simp) ?_ ?_ (by simp) rfl (by simp) trivial (by simp) ?_
   ·simp [scal,rows,ints]
   ·simp [scal,rows,ints]
   simp (maxSteps:=2000000) (disch:=omega) [ints,rows,scal,zK,wr8]
   (repeat' apply And.intro)
   all_goals (try omega)
   refine zD (caps:=[]) (h2) [2,4,5] [2,9000009,9000010] 2 rfl rfl rfl rfl (by kernel_rfl) (by simp) ?_ ?_ (by simp) rfl (by simp) ⟨.inr ⟨rfl,0,_,_,_,_,_,rfl,rfl,(by first | rfl | simp [nbU]),rfl,(by first | rfl | simp [nbU])⟩,.inl ⟨by omega,by omega⟩,.inl ⟨by omega,by omega⟩,trivial⟩ (by simp [nbU]) ?_
   ·simp [scal,rows,ints,nbU]
   ·simp [scal,rows,ints,nbU]
   simp (maxSteps:=2000000) (disch:=omega) [ints,rows,scal,zK,wr8,nbU,hrl,hxl]
   and_intros <;> try first | apply hK | omega | rfl | simp <;> omega
   show awp _ _ _ _
   refine rr0 ?_
   refine ⟨(x + 1,ss2,r.set x (t : Int)),⟨hE2,hq2,by simpa using hrl,hR2,by omega,hF2⟩,by simp only; omega,?_⟩
   exact kw1 [(1,some 1),(2,some 2),(3,some 3),(4,some 9000009),(5,some 9000010),(6,some 6),(7,some 7),(8,some 8)] @nbU.eq_1
  ·obtain rfl : x = L:=by omega
   have h3:=zJ6 (L:=x) (m:=m) (st:=st) (ed:=ed) (S:=q) (by omega)
   have hqb : (zKf m)[q]? = some (q.testBit 0):=by
    exact zP _ (by omega)
   have h512 : ¬ (512 : Int) < (ss.length : Int):=by omega
   refine cF0 ?_
   refine zG ?_
   show awp _ _ _ _
   refine zA ?_
   refine rg1 @h512 ?_
   refine cS0 ?_
   refine rg0 ?_
   refine zAm (by kernel_rfl) (fun K hK=>?_)
   simp (maxSteps:=2000000) (disch:=omega) [ints,rows,scal,zK,wr8]
   (repeat' apply And.intro)
   all_goals (try omega)
   refine zS (caps:=[.pt 0 (nfC x m st 1 ed)]) (h3) [] [] 1 rfl rfl rfl (by simp) (by first | assumption | kernel_rfl) (by simp) ?_ ?_ (by simp) rfl (by simp) trivial (by simp) ?_
   ·simp [scal,rows,ints]
   ·simp [scal,rows,ints]
   simp (maxSteps:=2000000) (disch:=omega) [ints,rows,scal,zK,wr8]
   and_intros <;> try first | apply hK | (show zA8 _ _ = true; kernel_rfl) | (show okH _ _ _ = true; kernel_rfl) | omega | rfl | simp <;> omega
   show awp _ _ _ _
   refine rr0 ?_
   refine ⟨(i + 1,ss,bs' ++ [q.testBit 0],nx' ++ [r]),⟨hE.done hq hqb hrl hR,by simp only; rw [Nat.add_mul,Nat.one_mul]; exact hF⟩,by simp only; omega,?_⟩
   exact kw1 [(1,some 1),(2,some 2),(3,some 3),(4,some 4),(5,some 5),(6,some 6),(7,some 7)] (an @hbl @hnl)
 ·have hi : i = ss.length:=by omega
  subst hi
  refine cF0 ?_
  refine zG ?_
  show awp _ _ _ _
  refine rd0 ?_
  refine zC ?_
  refine ⟨_,⟨ss,bs',nx',hE,hF,rfl⟩,?_⟩
  refine ⟨⟨.inr rfl,_,[],(by simp; rfl),trivial,trivial,by simp [dfT,zE,hbl,hnl],?_⟩,by simp [dfT,zE,hbl,hnl]⟩
  simp [ints,rows,dfT,zE,hbl,hnl]
end Go.Proofs.YtgelfgpcnaeecaaGreatDoor.M
