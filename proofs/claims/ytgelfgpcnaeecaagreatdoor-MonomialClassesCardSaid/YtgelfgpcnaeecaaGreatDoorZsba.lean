/-
  Walks in my logic: trailing zeros; sets of places: none, add, has, normal, final.
  Walks in my logic: sets of places: key, after.
-/
import Derived.Test.YtgelfgpcnaeecaaGreatDoorZsah
import Derived.Test.YtgelfgpcnaeecaaGreatDoorZsad
import Derived.Lib.TrailingZeros
namespace Go.Proofs.YtgelfgpcnaeecaaGreatDoor.M
open Go.RowKit
set_option linter.unusedVariables false
set_option linter.unusedSimpArgs false
set_option maxRecDepth 100000
set_option maxHeartbeats 32000000

theorem zRz : ∀ k : Nat,k < 64 -> 2 ^ k * 285870213051353865 % 18446744073709551616 / 288230376151711744 < 64 /\ deB.getD (2 ^ k * 285870213051353865 % 18446744073709551616 / 288230376151711744) 0 = (k : Int):=by decide +kernel
theorem zRR : GT[1]? = some (deB.map (T.int .u8)):=rfl
theorem zSi (a : Nat) : zNU .u64 (IntKind.u64.wrap ((a : Int) * 285870213051353865)) 58 = ((a * 285870213051353865 % 18446744073709551616 / 288230376151711744 : Nat) : Int):=by
 have e : IntKind.u64.wrap ((a : Int) * 285870213051353865) = ((a * 285870213051353865 % 18446744073709551616 : Nat) : Int):=by
  rw [IntKind.wrap_u64]
  omega
 rw [e]
 have:=zU0 (kd:=.u64) (x:=a * 285870213051353865 % 18446744073709551616) (k:=58) (by decide)
 rw [show (2 : Nat) ^ 58 = 288230376151711744 by decide] at this
 exact this
theorem zR8 {x : Nat} (hx : x < 18446744073709551616) (hx0 : x ≠ 0) : ∃ y a i c : Nat,IntKind.u64.wrap (-(x : Int)) = y /\ zQN .u64 (x : Int) (y : Int) = a /\ zNU .u64 (IntKind.u64.wrap ((a : Int) * 285870213051353865)) 58 = i /\ i < 64 /\ deB.getD i 0 = (c : Int) /\ c < 64 /\ c = Lib.ctz 64 x:=by
 obtain ⟨hlow,hk⟩:=Lib.lowest_bit 64 x hx0 hx
 obtain ⟨c,hc⟩ : ∃ c,c = Lib.ctz 64 x:=⟨_,rfl⟩
 rw [← hc] at hk hlow
 obtain ⟨h1,h2⟩:=zRz c hk
 generalize 2 ^ c = a at hlow h1 h2
 refine ⟨18446744073709551616 - x,a,a * 285870213051353865 % 18446744073709551616 / 288230376151711744,c,by rw [IntKind.wrap_u64]; omega,?_,zSi a,h1,h2,hk,hc⟩
 rw [zTG hx (by omega)]
 congr 1
theorem zTo {x : Nat} (hx : x < 18446744073709551616) (hx0 : x ≠ 0) : FnA Tryz.prog 149 [.t 2 (.int .u64 (x : Nat))] (.t 2 (.int .i64 (Lib.ctz 64 x : Nat))):=by
 obtain ⟨y,a,i,c,k1,k2,k3,k4,k5,k6,hc⟩:=zR8 hx hx0
 rw [← hc]
 have hd : (deB.map (T.int .u8)).drop i = .int .u8 (c : Int) :: (deB.map (T.int .u8)).drop (i + 1):=by
  have hl : i < (deB.map (T.int .u8)).length:=by rw [List.length_map]; exact k4
  rw [List.drop_eq_getElem_cons hl]
  congr 1
  rw [List.getElem_map]
  congr 1
  rw [← k5,List.getD_eq_getElem?_getD,List.getElem?_eq_getElem (by simpa using hl)]
  rfl
 have hx1 : ¬ (x : Int) = 0:=by omega
 have hw : IntKind.i64.wrap (c : Int) = c:=zK _ (by omega) (by omega)
 refine fI 14 #[.tmp 2] Tryz.func149 rfl ?_
 refine rg0 ?_
 refine zA ?_
 refine rg0 ?_
 refine cS1 @hx1 ?_
 refine rg1 (an @zRR (an @k1 (an @k2 (an @k3 (an @k4 (an @hd @hw)))))) ?_
 exact zC rt0
theorem zG6 {i : Nat} (h : i < 64) : 2 ^ i < 18446744073709551616:=Nat.pow_lt_pow_right (n:=64) (by omega) h
theorem zD3 {i : Nat} (h : i < 64) : zOm .u64 1 (i : Int) = ((2 ^ i : Nat) : Int):=by
 have:=zUk (x:=1) (k:=i) (by rw [Nat.one_mul]; exact zG6 h) (by omega)
 rw [Nat.one_mul] at this
 exact this
theorem zMQ {x : Nat} (h0 : x ≠ 0) (h : x < 18446744073709551616) : ∃ c,c = Lib.ctz 64 x /\ c < 64 /\ x.testBit c = true /\ (∀ j,(x &&& (x - 1)).testBit j = (x.testBit j && decide (j ≠ c))) /\ x &&& (x - 1) < x:=by
 obtain ⟨m,hm,hk⟩:=Lib.ctzFrom_spec 64 x (by omega) h
 have e : Lib.ctz 64 x = Lib.ctzFrom 64 x:=by simp [Lib.ctz,h0]
 rw [e]
 refine ⟨_,rfl,hk,?_⟩
 generalize Lib.ctzFrom 64 x = c at *
 have hx : ∀ j,x.testBit j = (decide (c <= j) && (2 * m + 1).testBit (j - c)):=fun j=>by
  rw [hm,Nat.mul_comm,Nat.testBit_mul_two_pow]
 have hp : 0 < 2 ^ c:=Nat.pow_pos (by omega)
 have e1 : x - 1 = 2 ^ c * (2 * m) + (2 ^ c - 1):=by rw [hm,Nat.mul_add]; omega
 have hx1 : ∀ j,(x - 1).testBit j = if j < c then true else (2 * m).testBit (j - c):=fun j=>by
  rw [e1,Nat.testBit_two_pow_mul_add _ (by omega)]
  by_cases hj : j < c
  ·simp [hj,Nat.testBit_two_pow_sub_one]
  ·simp [hj]
 refine ⟨by rw [hx]; simp [Nat.testBit_zero],fun j=>?_,?_⟩
 ·rw [Nat.testBit_and,hx,hx1]
  by_cases hj : j < c
  ·simp [hj,show ¬ c <= j by omega]
  ·rw [if_neg hj]
   by_cases hjc : j = c
   ·subst hjc; simp [Nat.testBit_zero]
   ·obtain ⟨d,rfl⟩ : ∃ d,j = c + (d + 1):=⟨j - c - 1,by omega⟩
    rw [show c + (d + 1) - c = d + 1 by omega,Nat.testBit_succ,Nat.testBit_succ,show (2 * m + 1) / 2 = m by omega,show 2 * m / 2 = m by omega]
    simp
 ·exact Nat.lt_of_le_of_lt Nat.and_le_right (by omega)
end Go.Proofs.YtgelfgpcnaeecaaGreatDoor.M
