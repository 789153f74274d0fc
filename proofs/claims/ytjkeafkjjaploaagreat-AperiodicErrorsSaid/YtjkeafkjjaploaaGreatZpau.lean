/-
  Walks in my logic: powers in a table, programs of terms (omega).
  The program of a term computes its value (layer 28), in plain Lean.
  Walks in my logic: Powers, Omega, In, Identity of the reference of layer 14.
-/
import Derived.Test.YtjkeafkjjaploaaGreatZpaf
import Derived.Test.YtjkeafkjjaploaaGreatZpad
import Derived.Test.YtjkeafkjjaploaaGreatZpac
namespace Go.Proofs.YtjkeafkjjaploaaGreat.M
open Go.RowKit
set_option linter.unusedVariables false
set_option linter.unusedSimpArgs false
set_option maxRecDepth 100000
set_option maxHeartbeats 32000000

theorem TbL.get {tb : List (List Int)} {n : Nat} {T : Nat -> Nat -> Nat} (ht : TbL tb n T) {a b : Nat} (ha : a < n) (hb : b < n) : ∃ (h : a < tb.length) (h2 : b < tb[a].length),tb[a][b] = (T a b : Int):=by
 have h : a < tb.length:=by rw [ht.len]; exact ha
 have h2 : b < tb[a].length:=by rw [ht.row a h]; exact hb
 exact ⟨h,h2,ht.val a b h h2⟩
mutual
def Tm.cmp : Tm -> List (Int × Int)
 | .mk o n l=>if o = 1 then [(0,0)] else if o = 2 then [(1,n)] else cmpL true l ++ (if o = 4 then [(3,n)] else [])
def cmpL : Bool -> List Tm -> List (Int × Int)
 | _,[]=>[]
 | fst,a :: r=>a.cmp ++ (if fst then [] else [(2,0)]) ++ cmpL false r
end
mutual
def Tm.gr : Tm -> Nat
 | .mk o n l=>max (if o = 2 then n.toNat + 1 else 0) (grL l)
def grL : List Tm -> Nat
 | []=>0
 | a :: r=>max a.gr (grL r)
end
section
variable {T : Nat -> Nat -> Nat} {n : Nat} {one : Int} {u : Nat -> Bool} {vs : List Int} {v : Nat -> Nat} {o1 : Nat}
theorem zQ1 {o n : Int} {l : List Tm} (h : (Tm.mk o n l).ok = true) : ((o = 1 /\ n = 0 /\ l.length = 0) \/ (o = 2 /\ 0 <= n /\ n < 6 /\ l.length = 0) \/ (o = 3 /\ n = 0 /\ 2 <= l.length) \/ (o = 4 /\ -1 <= n /\ n <= 9 /\ l.length = 1)) /\ zOW l = true:=by
 rw [ok_eq,Bool.and_eq_true] at h
 refine ⟨?_,h.2⟩
 have:=h.1
 unfold Tm.wf at this
 exact of_decide_eq_true this
end
def pwT (T : Nat -> Nat -> Nat) (x k : Nat) : List Int:=tab (k + 1) fun j=>((pw T x j : Nat) : Int)
def pwO (T : Nat -> Nat -> Nat) (x k : Nat) : AObj:=.row 3 1 2 (tab (k + 1) fun j=>.int .i64 (pw T x j : Nat))
def PwD (T : Nat -> Nat -> Nat) (n x : Nat) (res : AV) : Prop:=∃ k i : Nat,i <= k /\ k < n /\ pw T x i = pw T x (k + 1) /\ (∀ i j,i < j -> j <= k -> pw T x i ≠ pw T x j) /\ res = .tup [.t 2 (ints (pwT T x k)),.t 2 (.int .i64 (i : Nat))]
theorem zNs {T : Nat -> Nat -> Nat} {n x k : Nat} (hT : ∀ r c,r < n -> c < n -> T r c < n) (hx : x < n) (h : ∀ i j,i < j -> j <= k -> pw T x i ≠ pw T x j) : k < n:=by
 rcases Nat.lt_or_ge k n with hk | hk
 ·exact hk
 ·obtain ⟨i,j,h1,h2,h3⟩:=zNV hT hx
  exact absurd h3 (h i j h1 (by omega))
theorem zNK {T : Nat -> Nat -> Nat} {x k : Nat} : (tab (k + 1) fun j=>M.T.int .i64 (pw T x j : Nat)) ++ [M.T.int .i64 (pw T x (k + 1) : Nat)] = tab (k + 1 + 1) fun j=>M.T.int .i64 (pw T x j : Nat):=by
 rw [zAy (k + 1)]
theorem zI1 (tb : List (List Int)) (n : Nat) (T : Nat -> Nat -> Nat) (ht : TbL tb n T) (hn : n <= 1000) (x : Nat) (hx : x < n) :
  ∃ res,PwD T n x res /\ FnA Tryz.prog 109 [.t 0 (rows tb),.t 2 (.int .i64 (x : Nat))] res:=by
 refine zn Tryz.func109 rfl (by simp [Tryz.f109]) ?_
 rw [show Tryz.f109.ntmps = 41 from rfl,show Tryz.f109.results = #[.tmp 4,.tmp 5] from rfl]
 refine rg0 ?_
 refine rg0 ?_
 refine zG ?_
 refine awp_loop (fun k : Nat=>mkS [(0,.t 0 (rows tb)),(1,.t 2 (.int .i64 (x : Nat))),(6,.own 0 (k + 1))] [(0,pwO T x k)] 1 41 [.any,.any]) (fun k=>∀ i j,i < j -> j <= k -> pw T x i ≠ pw T x j) (fun k=>n - k) ?_ ?_
 ·refine ⟨0,fun i j h1 h2=>by omega,?_⟩
  refine zU [(0,some 3000000)] rfl ?_ ?_ ?_ ?_
  all_goals try simp [ints,pwO,tab,pw,itT,rows,ints]
 intro k hd
 have hkn:=zNs ht.lt hx hd
 have hpl:=zJa ht.lt hx k
 obtain ⟨g4,g5,g6⟩:=ht.get hpl hx
 have hps:=zC7 (T:=T) x k
 refine zG ?_
 refine rg1 (an @pwO.eq_1 (an @g4 (an @g5 @g6))) ?_
 refine zw (σ':=mkS [(0,.t 0 (rows tb)),(1,.t 2 (.int .i64 (x : Nat))),(6,.own 0 (k + 1)),(7,.t 2 (.int .i64 (pw T x (k + 1) : Nat)))] [(0,pwO T x k)] 1 41 [.any,.any]) ?_ ?_
 ·exact kw1 [(0,some 0)] (an @pwO.eq_1 (an @rows.eq_1 @hps))
 clear g4 g5 g6
 refine zD ?_
 refine rg1 @pwO.eq_1 ?_
 refine zG ?_
 refine awp_loop (fun i : Nat=>mkS [(0,.t 0 (rows tb)),(1,.t 2 (.int .i64 (x : Nat))),(6,.own 0 (k + 1)),(7,.t 2 (.int .i64 (pw T x (k + 1) : Nat))),(24,.t 2 (.int .i64 (k + 1 : Nat))),(25,.t 2 (.int .i64 (i : Nat)))] [(0,pwO T x k)] 1 41 [.any,.any]) (fun i=>i <= k + 1 /\ ∀ j,j < i -> pw T x j ≠ pw T x (k + 1)) (fun i=>k + 1 - i) ?_ ?_
 ·refine ⟨0,⟨by omega,fun j h=>by omega⟩,?_⟩
  exact kw1 [(0,some 0)] (an @pwO.eq_1 @rows.eq_1)
 rintro i ⟨hi,hne⟩
 refine rg0 ?_
 refine zD ?_
 by_cases hik : i < k + 1
 ·have hik' : (i : Int) < (k : Int) + 1:=by omega
  refine cK1 @hik' ?_
  refine zD ?_
  refine zG ?_
  refine rg0 ?_
  refine rg1 (an @pwO.eq_1 @hik) ?_
  by_cases he : pw T x i = pw T x (k + 1)
  ·refine cT1 @he ?_
   refine rg1 @pwO.eq_1 ?_
   refine zI ?_
   refine ⟨_,⟨k,i,by omega,hkn,he,hd,rfl⟩,?_⟩
   exact rt1 (an @pwO.eq_1 (an @pwT.eq_1 (an @zd @ints.eq_1)))
  ·refine cY1 @he ?_
   show awp _ _ _ _
   refine rr0 ?_
   refine ⟨i + 1,⟨by omega,fun j hj=>?_⟩,by omega,?_⟩
   ·rcases Nat.lt_or_ge j i with h | h
    ·exact hne j h
    ·obtain rfl : j = i:=by omega
     exact he
   exact kw1 [(0,some 0)] (an @pwO.eq_1 @rows.eq_1)
 ·obtain rfl : i = k + 1:=by omega
  refine cF0 ?_
  refine zM ?_
  show awp _ _ _ _
  refine rr1 @pwO.eq_1 ?_
  refine ⟨k + 1,fun i j h1 h2=>?_,by omega,?_⟩
  ·rcases Nat.lt_or_ge j (k + 1) with h | h
   ·exact hd i j h1 (by omega)
   ·obtain rfl : j = k + 1:=by omega
    exact hne i h1
  exact kw1 [(0,some 0)] (an @pwO.eq_1 (an @rows.eq_1 @zNK))
def inB (n : Nat) (l : List Int) : Bool:=l.all fun x=>decide (0 <= x) && decide (x < (n : Int))
theorem zLr {n : Nat} {l : List Int} (h : ∀ i (h : i < l.length),0 <= l[i] /\ l[i] < (n : Int)) : inB n l = true:=by
 unfold inB
 rw [List.all_eq_true]
 intro x hx
 obtain ⟨i,hi,rfl⟩:=List.getElem_of_mem hx
 have:=h i hi
 simp [this.1,this.2]
theorem zNo {n : Nat} {l : List Int} {i : Nat} (h : i < l.length) (hb : l[i] < 0 \/ (n : Int) <= l[i]) : inB n l = false:=by
 unfold inB
 rw [List.all_eq_false]
 refine ⟨l[i],List.getElem_mem h,?_⟩
 rcases hb with hb | hb
 ·simp; omega
 ·simp; omega
theorem zNi (tb : List (List Int)) (l : List Int) (hl : l.length <= 1000000) (htl : tb.length <= 1000000) :
  FnA Tryz.prog 36 [.t 0 (rows tb),.t 0 (ints l)] (.t 2 (.bool (inB tb.length l))):=by
 refine fI 22 #[.tmp 4] Tryz.func36 rfl ?_
 refine rg0 ?_
 refine zD ?_
 refine rg0 ?_
 refine zG ?_
 refine awp_loop (fun k : Nat=>mkS [(0,.t 0 (rows tb)),(7,.t 0 (ints l)),(8,.t 2 (.int .i64 (l.length : Nat))),(9,.t 2 (.int .i64 (k : Nat)))] [] 0 22 [.any,.any]) (fun k=>k <= l.length /\ ∀ i (h : i < l.length),i < k -> 0 <= l[i] /\ l[i] < (tb.length : Int)) (fun k=>l.length - k) ?_ ?_
 ·refine ⟨0,⟨by omega,fun i h h2=>by omega⟩,?_⟩
  exact kw1 [] @rows.eq_1
 rintro k ⟨hk,hin⟩
 refine rg0 ?_
 refine zD ?_
 by_cases hkl : k < l.length
 ·refine cK1 @hkl ?_
  refine zD ?_
  refine zG ?_
  refine rg1 @hkl ?_
  by_cases h1 : l[k] < 0
  ·refine rg1 @h1 ?_
   refine cT1 @h1 ?_
   refine rg0 ?_
   refine zI ?_
   rw [zNo hkl (.inl h1)]
   exact rt0
  ·refine rg1 @h1 ?_
   by_cases h2 : (tb.length : Int) <= l[k]
   ·refine cT1 @h2 ?_
    refine rg0 ?_
    refine zI ?_
    rw [zNo hkl (.inr h2)]
    exact rt0
   ·refine cY1 @h2 ?_
    show awp _ _ _ _
    refine rr0 ?_
    refine ⟨k + 1,⟨by omega,fun i h h3=>?_⟩,by omega,?_⟩
    ·rcases Nat.lt_or_ge i k with h4 | h4
     ·exact hin i h h4
     ·obtain rfl : i = k:=by omega
      omega
    exact kw1 [] @rows.eq_1
 ·obtain rfl : k = l.length:=by omega
  refine cF0 ?_
  refine zM ?_
  show awp _ _ _ _
  refine rg0 ?_
  refine zI ?_
  rw [zLr fun i h=>hin i h h]
  exact rt0
end Go.Proofs.YtjkeafkjjaploaaGreat.M
