/-
  Plain law: a search over all elements with a budget that suffices.
-/
import Derived.Test.YtgelfgpcnaeecaaGreatDoorZsav
import Derived.Test.YtgelfgpcnaeecaaGreatDoorZsbf
import Derived.Test.YtgelfgpcnaeecaaGreatDoorZsat
namespace Go.Proofs.YtgelfgpcnaeecaaGreatDoor.M
open Go.RowKit
set_option linter.unusedVariables false
set_option linter.unusedSimpArgs false
set_option maxRecDepth 100000
set_option maxHeartbeats 32000000

def prR : List (List Int) -> Nat
 | []=>1
 | r :: R=>r.length * prR R
def rkR : List (List Int) -> List Nat -> Nat
 | r :: R,n :: N=>n * prR R + rkR R N
 | _,_=>0
theorem zSA : ∀ {R : List (List Int)} {N : List Nat},NOk R N -> rkR R N < prR R
 | [],N,h=>by
  obtain rfl:=h.nil
  show 0 < 1
  omega
 | r :: R,N,h=>by
  obtain ⟨n,N,rfl⟩:=h.ex
  obtain ⟨h1,h2⟩:=h.cons
  have h3:=zSA h2
  have h4 : (n + 1) * prR R <= r.length * prR R:=Nat.mul_le_mul_right _ h1
  rw [Nat.add_mul,Nat.one_mul] at h4
  show n * prR R + rkR R N < r.length * prR R
  omega
theorem zMF : ∀ R : List (List Int),rkR R (List.replicate R.length 0) = 0
 | []=>rfl
 | r :: R=>by
  show 0 * prR R + rkR R (List.replicate R.length 0) = 0
  rw [zMF R,Nat.zero_mul]
theorem zNF : ∀ {R : List (List Int)} {N : List Nat},NOk R N -> (zEN R N).2 = false -> rkR R N + 1 = prR R
 | [],N,h,_=>by
  obtain rfl:=h.nil
  rfl
 | r :: R,N,h,ha=>by
  obtain ⟨n,N,rfl⟩:=h.ex
  obtain ⟨h1,h2⟩:=h.cons
  rw [zB9] at ha
  by_cases ht : (zEN R N).2 = true
  ·rw [if_pos ht] at ha; cases ha
  rw [if_neg ht] at ha
  by_cases hn : n + 1 < r.length
  ·rw [if_pos hn] at ha; cases ha
  have h3:=zNF h2 (by simpa using ht)
  show n * prR R + rkR R N + 1 = r.length * prR R
  rw [show r.length = n + 1 by omega,Nat.add_mul,Nat.one_mul]
  omega
theorem zPP : ∀ {R : List (List Int)} {N : List Nat},NOk R N -> (zEN R N).2 = true -> rkR R (zEN R N).1 = rkR R N + 1
 | [],N,h,ha=>by
  obtain rfl:=h.nil
  cases ha
 | r :: R,N,h,ha=>by
  obtain ⟨n,N,rfl⟩:=h.ex
  obtain ⟨h1,h2⟩:=h.cons
  rw [zB9] at ha ⊢
  by_cases ht : (zEN R N).2 = true
  ·rw [if_pos ht]
   show n * prR R + rkR R (zEN R N).1 = n * prR R + rkR R N + 1
   rw [zPP h2 ht]
   omega
  rw [if_neg ht] at ha ⊢
  by_cases hn : n + 1 < r.length
  ·rw [if_pos hn]
   have h3:=zNF h2 (by simpa using ht)
   show (n + 1) * prR R + rkR R (zEN R N).1 = n * prR R + rkR R N + 1
   rw [(zCu h2 (by simpa using ht)).1,zMF,Nat.add_mul,Nat.one_mul]
   omega
  ·rw [if_neg hn] at ha; cases ha
theorem zJt {v1 v2 : List Nat -> Nat} {R : List (List Int)} : ∀ (f s : Nat) (N : List Nat),NOk R N -> prR R <= rkR R N + f -> (runH v1 v2 R f s N).2.2.1 = true
 | 0,s,N,hN,h=>by have:=zSA hN; omega
 | f + 1,s,N,hN,h=>by
  rw [runH]
  by_cases hne : v1 N ≠ v2 N
  ·rw [if_pos hne]
  rw [if_neg hne]
  have hL:=zNI (R:=R) (N:=N) hN.len
  by_cases h2 : (zHS R N).2 = true
  ·rw [if_pos h2]
   refine zJt f (s + 1) _ (zDz hN) ?_
   rw [hL] at h2 ⊢
   rw [zPP hN h2]
   omega
  ·rw [if_neg h2]
theorem zOY {T : Nat -> Nat -> Nat} {n : Nat} (hT : ∀ r c,r < n -> c < n -> T r c < n) : zH7 T n (idL n):=by
 have hl : (idL n).length = n:=by simp [idL]
 have hat : ∀ i (h : i < (idL n).length),(idL n)[i] = (i : Int):=fun i h=>by simp [idL,tab]
 refine ⟨fun i h=>?_,fun i h=>?_,fun x hx y hy=>?_⟩
 ·rw [hat]; omega
 ·rw [hat,hat]; omega
 ·have hx:=(zEm n).2 x hx
  have hy:=(zEm n).2 y hy
  have:=hT x.toNat y.toNat (by omega) (by omega)
  have h3:=hat (T x.toNat y.toNat) (by omega)
  rw [← h3]
  exact List.getElem_mem _
theorem zNZ {tb : List (List Int)} {n : Nat} (hn : tb.length = n) (v1 : zCb tb = 0) {a b : Tm} (hv : a.val = true /\ b.val = true) (h6 : ¬ (idI (zR tb) n < 0 /\ (a.zB2 || b.zB2) = true)) {B : Nat} (hB1 : 1 <= B) (hB2 : B <= 1048576)
  {R : List (List Int)} (hR : R = zDa (zR tb) (idL n) a b) (hp : prR R <= B) (he : zKJ R = false) :
  (zF5 tb (idL n) a b B).2.1 <= B /\ (((zF5 tb (idL n) a b B).2.2 = 9 /\ ∀ X,NOk R X -> asV (zR tb) n R a X = asV (zR tb) n R b X) ∨
   ((zF5 tb (idL n) a b B).2.2 = 0 /\ ∃ X,NOk R X /\ asV (zR tb) n R a X ≠ asV (zR tb) n R b X)):=by
 subst hn
 have h0 : zCx tb (idL tb.length) a b = 0:=by
  have hc:=zId (zOY (TbL.of v1).lt)
  unfold zCx
  rw [if_neg (by omega),if_neg (by rw [hc]; decide),if_neg (by rw [hv.1,hv.2]; decide),if_neg h6]
 unfold zF5
 rw [← hR,if_neg (by rw [h0]; decide),if_neg (by omega),if_neg (by rw [he]; decide)]
 have hz:=zLO he
 have hb : ∀ X,NOk R X -> ltL X (List.replicate R.length 0) -> asV (zR tb) tb.length R a X = asV (zR tb) tb.length R b X:=fun X _ h=>absurd h (zero_min _ _)
 obtain ⟨r1,r2⟩:=zGZ (v1:=asV (zR tb) tb.length R a) (v2:=asV (zR tb) tb.length R b) B 0 _ hz hb
 have hok:=zIX (v1:=asV (zR tb) tb.length R a) (v2:=asV (zR tb) tb.length R b) B 0 hz
 have hd:=zJt (v1:=asV (zR tb) tb.length R a) (v2:=asV (zR tb) tb.length R b) B 0 _ hz (by rw [zMF]; omega)
 unfold zPf
 rw [show ((B : Nat) : Int).toNat = B from Int.toNat_natCast B]
 generalize runH (asV (zR tb) tb.length R a) (asV (zR tb) tb.length R b) R B 0 (List.replicate R.length 0) = y at r1 r2 hok hd ⊢
 obtain ⟨k1,k2,k3⟩:=hok
 by_cases h1 : y.2.1 = true
 ·rw [if_pos h1]
  exact ⟨show y.1 <= B by omega,.inr ⟨rfl,_,k1,(r1 h1).1⟩⟩
 ·rw [if_neg h1,if_pos hd]
  exact ⟨show y.1 <= B by omega,.inl ⟨rfl,r2 (by simpa using h1) hd⟩⟩
theorem zMv {n : Nat} {X : List Nat} : NOk [idL n,idL n] X ↔ ∃ i j,i < n /\ j < n /\ X = [i,j]:=by
 have hl : (idL n).length = n:=by simp [idL]
 constructor
 ·intro h
  obtain ⟨i,Y,rfl⟩:=h.ex
  obtain ⟨h1,h2⟩:=h.cons
  obtain ⟨j,Z,rfl⟩:=h2.ex
  obtain ⟨h3,h4⟩:=h2.cons
  obtain rfl:=h4.nil
  exact ⟨i,j,by omega,by omega,rfl⟩
 ·rintro ⟨i,j,hi,hj,rfl⟩
  refine ⟨rfl,fun k hk=>?_⟩
  have hk : k < 2:=hk
  rcases (by omega : k = 0 \/ k = 1) with rfl | rfl
  ·simpa [hl] using hi
  ·simpa [hl] using hj
theorem zQT {n i j : Nat} (hi : i < n) (hj : j < n) : (zFW [idL n,idL n] [i,j] 0).toNat = i /\ (zFW [idL n,idL n] [i,j] 1).toNat = j:=by
 have h : ∀ k,k < n -> ((idL n).getD k 0).toNat = k:=fun k hk=>by simp [idL,tab,List.getD_eq_getElem?_getD,hk]
 exact ⟨h i hi,h j hj⟩
def viX : Tm:=.mk 2 0 []
def viY : Tm:=.mk 2 1 []
def viW : Tm:=.mk 4 0 [.mk 3 0 [viX,viY]]
def viR : Tm:=.mk 3 0 [viW,viX]
def viL : Tm:=.mk 3 0 [viY,viW]
theorem zSP (T : Nat -> Nat -> Nat) (set : List Int) {a : Tm} (ha : a = viR \/ a = viL) : zDa T set a viW = [set,set]:=by
 have e : ∀ i,i < 2 -> zKd T set a viW i = set:=fun i hi=>by
  unfold zKd
  rw [List.filter_eq_self]
  intro x _
  have : a.els i (0,0) = true:=by
   rcases ha with rfl | rfl <;> rcases (by omega : i = 0 \/ i = 1) with rfl | rfl <;> kernel_rfl
  rw [this]
  simp
 have g : max a.gr viW.gr = 2:=by rcases ha with rfl | rfl <;> kernel_rfl
 unfold zDa
 rw [g]
 show [zKd T set a viW 0,zKd T set a viW 1] = _
 rw [e 0 (by omega),e 1 (by omega)]
theorem zKG (T : Nat -> Nat -> Nat) (n one : Nat) (v : Nat -> Nat) : viW.ev T n one v = omT T n (T (v 0) (v 1)) /\ viR.ev T n one v = T (omT T n (T (v 0) (v 1))) (v 0) /\ viL.ev T n one v = T (v 1) (omT T n (T (v 0) (v 1))):=⟨rfl,rfl,rfl⟩
theorem zPk {tb : List (List Int)} {n : Nat} (hn : tb.length = n) (h60 : n <= 60) (h1 : 1 <= n) (v1 : zCb tb = 0) {a : Tm} (ha : a = viR \/ a = viL) :
  (zF5 tb (idL n) a viW (10000 : Nat)).2.1 <= 10000 /\ (((zF5 tb (idL n) a viW (10000 : Nat)).2.2 = 9 /\ ∀ x y,x < n -> y < n -> a.ev (zR tb) n (idI (zR tb) n).toNat (fun k=>if k = 0 then x else y) = viW.ev (zR tb) n (idI (zR tb) n).toNat (fun k=>if k = 0 then x else y)) ∨
   ((zF5 tb (idL n) a viW (10000 : Nat)).2.2 = 0 /\ ∃ x y,x < n /\ y < n /\ a.ev (zR tb) n (idI (zR tb) n).toNat (fun k=>if k = 0 then x else y) ≠ viW.ev (zR tb) n (idI (zR tb) n).toNat (fun k=>if k = 0 then x else y))):=by
 have hl : (idL n).length = n:=by simp [idL]
 have hR:=(zSP (zR tb) (idL n) ha).symm
 have hv : a.val = true /\ viW.val = true:=by rcases ha with rfl | rfl <;> exact ⟨by kernel_rfl,by kernel_rfl⟩
 have h6 : (a.zB2 || viW.zB2) = false:=by rcases ha with rfl | rfl <;> kernel_rfl
 have hp : prR [idL n,idL n] <= 10000:=by
  show (idL n).length * ((idL n).length * 1) <= 10000
  rw [hl,Nat.mul_one]
  have : n * n <= 60 * 60:=Nat.mul_le_mul h60 h60
  omega
 have he : zKJ [idL n,idL n] = false:=by
  unfold zKJ
  rw [List.any_eq_false]
  intro l hx
  simp only [List.mem_cons,List.not_mem_nil,or_false] at hx
  obtain rfl : l = idL n:=by rcases hx with h | h <;> exact h
  simp [hl]
  omega
 have hF:=zNZ hn v1 hv (fun h=>by rw [h6] at h; cases h.2) (B:=10000) (by omega) (by omega) hR hp he
 have hev : ∀ x y,x < n -> y < n -> ∀ t : Tm,(t = a \/ t = viW) -> asV (zR tb) n [idL n,idL n] t [x,y] = t.ev (zR tb) n (idI (zR tb) n).toNat (fun k=>if k = 0 then x else y):=fun x y hx hy t ht=>by
  obtain ⟨e0,e1⟩:=zQT hx hy
  unfold asV
  obtain ⟨f1,f2,f3⟩:=zKG (zR tb) n (idI (zR tb) n).toNat (fun i=>(zFW [idL n,idL n] [x,y] i).toNat)
  obtain ⟨g1,g2,g3⟩:=zKG (zR tb) n (idI (zR tb) n).toNat (fun k=>if k = 0 then x else y)
  rw [e0,e1] at f1 f2 f3
  simp only [if_true,if_neg (show ¬ (1 : Nat) = 0 by omega)] at g1 g2 g3
  rcases ht with rfl | rfl
  ·rcases ha with rfl | rfl
   ·rw [f2,g2]
   ·rw [f3,g3]
  ·rw [f1,g1]
 obtain ⟨k1,k2⟩:=hF
 refine ⟨k1,?_⟩
 rcases k2 with ⟨k2,k3⟩ | ⟨k2,X,k3,k4⟩
 ·refine .inl ⟨k2,fun x y hx hy=>?_⟩
  have:=k3 [x,y] (zMv.2 ⟨x,y,hx,hy,rfl⟩)
  rwa [hev x y hx hy a (.inl rfl),hev x y hx hy viW (.inr rfl)] at this
 ·obtain ⟨x,y,hx,hy,rfl⟩:=zMv.1 k3
  refine .inr ⟨k2,x,y,hx,hy,?_⟩
  rwa [hev x y hx hy a (.inl rfl),hev x y hx hy viW (.inr rfl)] at k4
end Go.Proofs.YtgelfgpcnaeecaaGreatDoor.M
