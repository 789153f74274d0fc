/-
  Sets of states as numbers, and the automaton of the reversed language, in plain Lean.
  Walks in my logic: isNaN, Compare, Or (cmp), compareEdges (nfa).
-/
import Derived.Test.YtgelfgpcnaeecaaGreatDoorZsag
import Derived.Test.YtgelfgpcnaeecaaGreatDoorZsad
import Derived.Test.YtgelfgpcnaeecaaGreatDoorZsah
namespace Go.Proofs.YtgelfgpcnaeecaaGreatDoor.M
open Go.RowKit
set_option linter.unusedVariables false
set_option linter.unusedSimpArgs false
set_option maxRecDepth 100000
set_option maxHeartbeats 32000000

def mkM (P : Nat -> Bool) : Nat -> Nat
 | 0=>0
 | k + 1=>if P k then mkM P k ||| 2 ^ k else mkM P k
theorem zBI (P : Nat -> Bool) : ∀ m,mkM P m < 2 ^ m
 | 0=>by simp [mkM]
 | k + 1=>by
  have h:=zBI P k
  have h2 : 2 ^ (k + 1) = 2 ^ k + 2 ^ k:=by rw [Nat.pow_succ]; omega
  unfold mkM
  split
  ·exact Nat.or_lt_two_pow (by omega) (by omega)
  ·omega
theorem zAt (P : Nat -> Bool) (q : Nat) : ∀ m,(mkM P m).testBit q = (decide (q < m) && P q)
 | 0=>by simp [mkM]
 | k + 1=>by
  have ih:=zAt P q k
  by_cases e : q = k
  ·subst e
   have h0 : (mkM P q).testBit q = false:=by rw [ih]; simp
   unfold mkM
   cases hp : P q with
   | true=>simp [Nat.testBit_or,Nat.testBit_two_pow_self]
   | false=>simp [h0]
  ·have hd : decide (q < k + 1) = decide (q < k):=by
    by_cases h : q < k
    ·simp [h,show q < k + 1 by omega]
    ·simp [h,show ¬ q < k + 1 by omega]
   unfold mkM
   cases hp : P k with
   | true =>
    simp only [if_true,Nat.testBit_or,ih,hd,Nat.testBit_two_pow]
    simp [show ¬ k = q from fun g=>e g.symm]
   | false=>simp [ih,hd]
theorem zEL {a b m : Nat} (ha : a < 2 ^ m) (hb : b < 2 ^ m) (h : ∀ q,q < m -> a.testBit q = b.testBit q) : a = b:=by
 apply Nat.eq_of_testBit_eq
 intro q
 by_cases hq : q < m
 ·exact h q hq
 ·have h1 : 2 ^ m <= 2 ^ q:=Nat.pow_le_pow_right (by omega) (by omega)
  rw [Nat.testBit_lt_two_pow (by omega),Nat.testBit_lt_two_pow (by omega)]
def zPo (m : Nat) (nx : List (List Int)) (S x : Nat) : Nat:=mkM (fun q=>S.testBit (zJ nx q x)) m
theorem zHg (m : Nat) (nx : List (List Int)) (S x : Nat) : zPo m nx S x < 2 ^ m:=zBI _ _
def zKf (m : Nat) : List Bool:=tab (2 ^ m) fun S=>S.testBit 0
def zFZ (L m : Nat) (nx : List (List Int)) : List (List Int):=tab (2 ^ m) fun S=>tab L fun x=>(zPo m nx S x : Int)
theorem zR5 (L : Nat) {m S : Nat} (nx : List (List Int)) (hS : S < 2 ^ m) : DfL L (2 ^ m) S (zKf m) (zFZ L m nx):=by
 refine ⟨Nat.one_le_two_pow,hS,by simp [zKf],by simp [zFZ],fun r hr=>?_⟩
 simp only [zFZ,tab,List.mem_map,List.mem_range] at hr
 obtain ⟨S',hS',rfl⟩:=hr
 refine ⟨by simp,fun v hv=>?_⟩
 simp only [List.mem_map,List.mem_range] at hv
 obtain ⟨x,hx,rfl⟩:=hv
 have:=zHg m nx S' x
 have h2 : ((zPo m nx S' x : Nat) : Int) < ((2 ^ m : Nat) : Int):=by omega
 exact ⟨by omega,h2⟩
theorem zJR {L m S x : Nat} (nx : List (List Int)) (hS : S < 2 ^ m) (hx : x < L) : zJ (zFZ L m nx) S x = zPo m nx S x :=
 zC1 (zP _ hS) (zP _ hx)
theorem zMG {L m s : Nat} {bs : List Bool} {nx : List (List Int)} (hD : DfL L m s bs nx) : ∀ (w : List Nat) (S : Nat),S < 2 ^ m -> (∀ a ∈ w,a < L) -> zAf (zKf m) (zFZ L m nx) S w = S.testBit (zZ nx 0 w.reverse)
 | [],S,hS,_=>by
  show (zKf m).getD S false = S.testBit 0
  rw [List.getD_eq_getElem?_getD,zKf,zP _ hS]
  rfl
 | a :: w,S,hS,hw=>by
  have ha:=hw a (by simp)
  have hw' : ∀ b ∈ w,b < L:=fun b hb=>hw b (by simp [hb])
  have h0 : 0 < m:=hD.n1
  show zAf (zKf m) (zFZ L m nx) (zJ (zFZ L m nx) S a) w = _
  rw [zJR nx hS ha,zMG hD w _ (zHg m nx S a) hw',zPo,zAt]
  have hlt : zZ nx 0 w.reverse < m:=by
   have key : ∀ (u : List Nat) (q : Nat),q < m -> (∀ b ∈ u,b < L) -> zZ nx q u < m:=by
    intro u
    induction u with
    | nil=>intro q hq _; exact hq
    | cons b u ih=>intro q hq hu; exact ih _ (hD.rt.step hq (hu b (by simp))).1 (fun c hc=>hu c (by simp [hc]))
   exact key _ _ h0 (fun b hb=>hw' b (by simpa using hb))
  rw [decide_eq_true hlt,Bool.true_and,List.reverse_cons]
  congr 1
  simp [zZ,List.foldl_append]
def zFY (m : Nat) (bs : List Bool) : Nat:=mkM (fun q=>bs.getD q false) m
theorem zRM {L m : Nat} {bs : List Bool} {nx : List (List Int)} (hD : DfL L m 0 bs nx) {w : List Nat} (hw : ∀ a ∈ w,a < L) : zAf (zKf m) (zFZ L m nx) (zFY m bs) w = zAf bs nx 0 w.reverse:=by
 have key : ∀ (u : List Nat) (q : Nat),q < m -> (∀ b ∈ u,b < L) -> zZ nx q u < m:=by
  intro u
  induction u with
  | nil=>intro q hq _; exact hq
  | cons b u ih=>intro q hq hu; exact ih _ (hD.rt.step hq (hu b (by simp))).1 (fun c hc=>hu c (by simp [hc]))
 rw [zMG hD w (zFY m bs) (zBI _ _) hw,zFY,zAt,decide_eq_true (key _ _ hD.n1 (fun b hb=>hw b (by simpa using hb))),Bool.true_and]
 rfl
theorem zJe (x : Int) : FnA Tryz.prog 137 [.t 2 (.int .i64 x)] (.t 2 (.bool false)):=by
 refine fI 6 #[.tmp 2] Tryz.func137 rfl ?_
 refine rg0 ?_
 refine rg0 ?_
 exact zC rt0
def zB1 (x y : Int) : Int:=if x < y then -1 else if y < x then 1 else 0
theorem zDO (x y : Int) : FnA Tryz.prog 116 [.t 2 (.int .i64 x),.t 2 (.int .i64 y)] (.t 2 (.int .i64 (zB1 x y))):=by
 refine fI 20 #[.tmp 4] Tryz.func116 rfl ?_
 refine rg0 ?_
 refine rc0 (zJe x) ?_
 refine rc0 (zJe y) ?_
 refine zA ?_
 refine rg0 ?_
 refine cS0 ?_
 refine zA ?_
 refine rg0 ?_
 refine cS0 ?_
 refine zA ?_
 by_cases h1 : x < y
 ·have e : zB1 x y = -1:=by simp [zB1,h1]
  refine rg1 @h1 ?_
  refine cT1 @h1 ?_
  refine rg0 ?_
  exact zC (rt1 @e)
 ·refine rg1 @h1 ?_
  refine cS1 @h1 ?_
  refine zA ?_
  by_cases h2 : y < x
  ·have e : zB1 x y = 1:=by simp [zB1,h1,h2]
   refine rg1 @h2 ?_
   refine cT1 @h2 ?_
   refine rg0 ?_
   exact zC (rt1 @e)
  ·have e : zB1 x y = 0:=by simp [zB1,h1,h2]
   refine rg1 @h2 ?_
   refine cS1 @h2 ?_
   refine rg0 ?_
   exact zC (rt1 @e)
def orL : List Int -> Int
 | []=>0
 | a :: r=>if a = 0 then orL r else a
theorem zOW {xs : List Int} {i : Nat} (hi : i < xs.length) (h : orL xs = orL (xs.drop i)) : orL xs = if xs[i] = 0 then orL (xs.drop (i + 1)) else xs[i]:=by
 rw [h,List.drop_eq_getElem_cons hi,orL]
theorem zUF (xs : List Int) (hl : xs.length <= 1000) : FnA Tryz.prog 115 [.t 0 (ints xs)] (.t 2 (.int .i64 (orL xs))):=by
 refine fI 18 #[.tmp 2] Tryz.func115 rfl ?_
 refine rg0 ?_
 refine rg0 ?_
 refine zA ?_
 refine rg0 ?_
 refine zB ?_
 refine awp_loop (fun i : Nat=>mkS [(3,.t 2 (.int .i64 0)),(6,.t 0 (ints xs)),(7,.t 2 (.int .i64 xs.length)),(8,.t 2 (.int .i64 i))] [] 0 18 [.any]) (fun i=>i <= xs.length /\ orL xs = orL (xs.drop i)) (fun i=>xs.length - i) ?_ ?_
 ·refine ⟨0,⟨by omega,by simp⟩,?_⟩
  exact kw0 []
 rintro i ⟨hi,ho⟩
 refine rg0 ?_
 refine zA ?_
 by_cases hil : i < xs.length
 ·have ho2:=zOW hil ho
  refine cK1 @hil ?_
  refine zA ?_
  refine zB ?_
  refine rg1 @hil ?_
  by_cases hz : xs[i] = 0
  ·rw [if_pos hz] at ho2
   refine rg1 @hz ?_
   refine cY1 @hz ?_
   show awp _ _ _ _
   refine rr0 ?_
   refine ⟨i + 1,⟨by omega,ho2⟩,by omega,?_⟩
   exact kw0 []
  ·rw [if_neg hz] at ho2
   have hzb : (xs[i] != 0) = true:=bne_iff_ne.2 hz
   refine rg1 @hzb ?_
   refine cT1 @hz ?_
   refine rg0 ?_
   exact zC (rt1 @ho2)
 ·have hn : orL xs = 0:=by rw [ho,List.drop_of_length_le (by omega)]; rfl
  refine cF1 @hil ?_
  refine zG ?_
  show awp _ _ _ _
  refine rg0 ?_
  exact zC (rt1 @hn)
theorem zO9 : List.range 3 = [0,1,2]:=rfl
def zO7 (a b : Int × Int × Int) : Int:=orL [zB1 a.1 b.1,zB1 a.2.1 b.2.1,zB1 a.2.2 b.2.2]
def edV (e : Int × Int × Int) : AV:=.agg [.t 2 (.int .i64 e.1),.t 2 (.int .i64 e.2.1),.t 2 (.int .i64 e.2.2)]
theorem zIJ (a b : Int × Int × Int) : FnA Tryz.prog 78 [edV a,edV b] (.t 2 (.int .i64 (zO7 a b))):=by
 have h1:=zDO a.1 b.1
 have h2:=zDO a.2.1 b.2.1
 have h3:=zDO a.2.2 b.2.2
 have h4:=zUF [zB1 a.1 b.1,zB1 a.2.1 b.2.1,zB1 a.2.2 b.2.2] (by simp)
 have he : zO7 a b = orL [zB1 a.1 b.1,zB1 a.2.1 b.2.1,zB1 a.2.2 b.2.2]:=rfl
 generalize orL [zB1 a.1 b.1,zB1 a.2.1 b.2.1,zB1 a.2.2 b.2.2] = r at h4 he
 generalize zB1 a.1 b.1 = c1 at h1 h4
 generalize zB1 a.2.1 b.2.1 = c2 at h2 h4
 generalize zB1 a.2.2 b.2.2 = c3 at h3 h4
 rw [he]
 refine fI 22 #[.tmp 4] Tryz.func78 rfl ?_
 refine rg1 @edV.eq_1 ?_
 refine zp (by kernel_rfl) (fun K hK=>?_)
 simp (maxSteps:=2000000) (disch:=omega) [ints,rows,scal,zK,wr8,edV]
 (repeat' apply And.intro)
 all_goals (try omega)
 refine zS (caps:=[]) (h1) [] [] 2 rfl rfl rfl rfl (by kernel_rfl) (by simp) ?_ trivial trivial rfl trivial trivial (by simp) ?_
 ·simp [scal,rows,ints]
 simp (maxSteps:=2000000) (disch:=omega) [ints,rows,scal,zK,wr8]
 (repeat' apply And.intro)
 all_goals (try omega)
 refine zS (caps:=[]) (h2) [] [] 2 rfl rfl rfl rfl (by kernel_rfl) (by simp) ?_ trivial trivial rfl trivial trivial (by simp) ?_
 ·simp [scal,rows,ints]
 simp (maxSteps:=2000000) (disch:=omega) [ints,rows,scal,zK,wr8]
 (repeat' apply And.intro)
 all_goals (try omega)
 refine zS (caps:=[]) (h3) [] [] 2 rfl rfl rfl rfl (by kernel_rfl) (by simp) ?_ trivial trivial rfl trivial trivial (by simp) ?_
 ·simp [scal,rows,ints]
 simp (maxSteps:=2000000) (disch:=omega) [ints,rows,scal,zK,wr8,zO9]
 (repeat' apply And.intro)
 all_goals (try omega)
 refine zS (caps:=[]) (h4) [] [] 2 rfl rfl rfl rfl (by kernel_rfl) (by simp) ?_ trivial trivial rfl trivial trivial (by simp) ?_
 ·simp [scal,rows,ints]
 simp (maxSteps:=2000000) (disch:=omega) [ints,rows,scal,zK,wr8]
 (repeat' first | apply hK | apply And.intro) <;> try first | (show zA8 _ _ = true; kernel_rfl) | (show okH _ _ _ = true; kernel_rfl) | omega | rfl | (simp <;> omega)
 exact zC (rt1 @edV.eq_1)
end Go.Proofs.YtgelfgpcnaeecaaGreatDoor.M
