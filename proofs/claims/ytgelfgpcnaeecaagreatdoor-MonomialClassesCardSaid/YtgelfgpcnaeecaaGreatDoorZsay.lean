/-
  slices.Clone of an empty list of ints, by the kit's contracts.
  Walks in my logic: Reverse (slices) of an own row of ints, which keeps it; Clone, which gives an own row.
  Walk in my logic: visit (walker of monomial), by the rank of the state; the list's rows stay own rows.
  Walk in my logic: Right (monomial), of valid automata.
  Walk in my logic: paths (semigroupref35), by the rank of the state.
  Walk in my logic: Right (semigroupref35), of valid automata.
-/
import Derived.Test.YtgelfgpcnaeecaaGreatDoorZsaw
import Derived.Test.YtgelfgpcnaeecaaGreatDoorZsak
import Derived.Test.YtgelfgpcnaeecaaGreatDoorZsax
import Derived.Test.YtgelfgpcnaeecaaGreatDoorZsad
import Derived.Test.YtgelfgpcnaeecaaGreatDoorZsac
import Derived.Test.YtgelfgpcnaeecaaGreatDoorZsae
import Derived.Test.YtgelfgpcnaeecaaGreatDoorZsaf
import Derived.Test.YtgelfgpcnaeecaaGreatDoorZsal
import Derived.Test.YtgelfgpcnaeecaaGreatDoorZsam
namespace Go.Proofs.YtgelfgpcnaeecaaGreatDoor.M
open Go.RowKit Go.Shelf Go.Lib
set_option linter.unusedVariables false
set_option linter.unusedSimpArgs false

theorem zIH {E : Ev} {f : Nat -> Value} : ∀ {l : List AV},(∀ a ∈ l,ghA1 a = .any) -> GhR E f (ghA l):=fun {l} h i c hi=>by
 unfold ghA at hi
 rw [List.getElem?_map] at hi
 cases hq : l[i]? with
 | none=>rw [hq] at hi; cases hi
 | some a =>
  rw [hq] at hi
  simp only [Option.map_some,Option.some.injEq] at hi
  rw [h a (List.mem_of_getElem? hq)] at hi
  subst hi
  exact .any _
end Go.Proofs.YtgelfgpcnaeecaaGreatDoor.M

namespace Go.Proofs.YtgelfgpcnaeecaaGreatDoor.M
open Go.RowKit Go.Shelf
set_option linter.unusedVariables false
set_option linter.unusedSimpArgs false

def jR (n i : Nat) : Int:=(n : Int) - 1 - i
def zJF (n : Nat) (X : Nat -> Int) (i k : Nat) : Int:=if k < i \/ n - 1 - k < i then X (n - 1 - k) else X k
def zF9 (n : Nat) (X : Nat -> Int) : List T:=tab n fun k=>.int .i64 (X k)
@[simp] theorem zTL (n : Nat) (X : Nat -> Int) : (zF9 n X).length = n:=by simp [zF9]
theorem zIa {n k : Nat} (X : Nat -> Int) (h : k < n) : (zF9 n X)[k]? = some (.int .i64 (X k)):=zP _ h
theorem zNb {n i j : Nat} {X : Nat -> Int} (hi : i < j) (hj : j + i + 1 = n) : ((zF9 n (zJF n X i)).set i (.int .i64 (zJF n X i j))).set j (.int .i64 (zJF n X i i)) = zF9 n (zJF n X (i + 1)):=by
 unfold zF9
 rw [zg,zg]
 refine zO (fun k hk=>?_)
 by_cases h1 : k = j
 ·subst h1
  rw [if_pos rfl]
  congr 1
  unfold zJF
  rw [if_neg (by omega),if_pos (by omega)]
  congr 1
  omega
 ·rw [if_neg h1]
  by_cases h2 : k = i
  ·subst h2
   rw [if_pos rfl]
   congr 1
   unfold zJF
   rw [if_neg (by omega),if_pos (by omega)]
   congr 1
   omega
  ·rw [if_neg h2]
   congr 1
   unfold zJF
   by_cases h3 : k < i \/ n - 1 - k < i
   ·rw [if_pos h3,if_pos (by omega)]
   ·rw [if_neg h3,if_neg (by omega)]
set_option maxRecDepth 100000 in
set_option maxHeartbeats 4000000 in
theorem zH4 (n : Nat) (X : Nat -> Int) (hn : n <= 100000) : FnK Tryz.prog 30 [.own 0 n] [.row 3 1 1 (zF9 n X)] (.tup []) [.row 3 1 1 (zF9 n fun k=>X (n - 1 - k))] [0]:=by
 refine zMK 0 n rfl rfl (by simp) (by simp) Tryz.func30 rfl (by simp [Tryz.f30]) ?_
 rw [show Tryz.f30.ntmps = 28 from rfl,show Tryz.f30.results = #[] from rfl]
 refine rg0 ?_
 refine zB ?_
 refine awp_loop (fun i : Nat=>mkS [(0,.own 0 n),(2,.t 2 (.int .i64 i)),(3,.t 2 (.int .i64 (jR n i)))] [(0,.row 3 1 1 (zF9 n (zJF n X i)))] 1 28 [.any,.own 0 n]) (fun i=>2 * i <= n) (fun i=>n - i) ?_ ?_
 ·refine ⟨0,by omega,?_⟩
  have h0 : zF9 n (zJF n X 0) = zF9 n X:=by
   unfold zF9
   refine zO (fun k hk=>?_)
   simp [zJF]
  have h1 : jR n 0 = (n : Int) - 1:=by simp [jR]
  exact kw1 [(0,some 0)] (an @h0 @h1)
 intro i hi
 refine zA ?_
 by_cases hlt : (i : Int) < jR n i
 ·obtain ⟨j,hj⟩ : ∃ j : Nat,jR n i = (j : Int):=⟨(jR n i).toNat,by omega⟩
  have hjn : j + i + 1 = n:=by unfold jR at hj; omega
  have hij : i < j:=by omega
  have hj1 : jR n (i + 1) = (j : Int) - 1:=by unfold jR at *; omega
  have hin : i < n:=by omega
  have hjl : j < n:=by omega
  have g1:=zIa (zJF n X i) hin
  have g2:=zIa (zJF n X i) hjl
  have htwo:=zNb (X:=X) hij hjn
  rw [hj] at hlt ⊢
  refine rg1 @hij ?_
  refine cK1 @hij ?_
  refine zA ?_
  refine zB ?_
  refine re1 (an @hin (an @hjl (an @g1 (an @g2 @htwo)))) ?_
  show awp _ _ _ _
  refine rr0 ?_
  refine ⟨i + 1,by omega,by omega,?_⟩
  exact kw1 [(0,some 0)] @hj1
 ·have hfin : zF9 n (zJF n X i) = zF9 n fun k=>X (n - 1 - k):=by
   unfold zF9
   refine zO (fun k hk=>?_)
   congr 1
   unfold zJF
   unfold jR at hlt
   by_cases h3 : k < i \/ n - 1 - k < i
   ·rw [if_pos h3]
   ·rw [if_neg h3]
    congr 1
    omega
  refine rg1 @hlt ?_
  refine cF1 @hlt ?_
  refine zG ?_
  refine ⟨⟨.inl rfl,_,[(0,some 0)],(by first | rfl | (simp [ints,rows,scal,tpO,hfin]; rfl)),?_,?_,?_,?_⟩,?_⟩
  all_goals try simp [ints,rows,scal,tpO,hfin]
set_option maxRecDepth 100000 in
set_option maxHeartbeats 4000000 in
theorem zNH (xs : List Int) (hx : 0 < xs.length) (hl : xs.length <= 100000) : FnS Tryz.prog 36 [.t 0 (ints xs)] [] (.own 0 xs.length) [.row 3 1 2 (xs.map (.int .i64))]:=by
 have hne : ¬ xs = []:=fun e=>by rw [e] at hx; simp at hx
 refine fI 8 #[.tmp 2] Tryz.func36 rfl ?_
 refine rg0 ?_
 refine zA ?_
 refine rg1 (an @zPd @hx) ?_
 refine cS1 @hne ?_
 refine rg0 ?_
 refine zC ?_
 refine ⟨⟨.inr rfl,_,[(0,some 3000000)],(by first | rfl | (simp [ints,rows,scal,tpO]; rfl)),?_,?_,?_,?_⟩,?_⟩
 all_goals try simp [ints,rows,scal,tpO]
theorem zNW {w : World} {base e z n : Nat} {v : Value} {xs : List Value} (h : w.ownsRow base e z v n xs) : w.ownsRow 0 e z v n xs:=⟨h.1,by
 rcases h.2 with h | ⟨g,cap,cur,h1,-,h3⟩
 ·exact .inl h
 ·exact .inr ⟨g,cap,cur,h1,by omega,h3⟩⟩
theorem zJs {w w' : World} {V : Nat -> Prop} {ob : Nat -> Option (Value × Nat)} {v : Value} {e : Nat} (hm : MR w V (OB ob) (fun k=>k < ([] : List AObj).length) (fun k=>([] : List AObj)[k]?) ob w) (hb : Below w.heap.size w w') (ho : w'.ownsRow w.heap.size e 1 v 0 []) :
  ∃ ob',MR w V (OB ob) (fun k=>k < [AObj.row e 1 2 []].length) (fun k=>[AObj.row e 1 2 []][k]?) ob' w' /\ VR (za w.heap.size V ob' (fun k=>k < [AObj.row e 1 2 []].length) w') v (.own 0 0):=by
 have hbl : ∀ k,blk v = some k -> w.heap.size <= k:=fun k hk=>by
  rcases ho.2 with ⟨rfl,-⟩ | ⟨g,cap,cur,rfl,h2,-⟩
  ·cases hk
  ·obtain rfl : g = k:=by simpa [blk] using hk
   exact h2
 have h1 : v.oneCell' = true:=by
  rcases ho.2 with ⟨rfl,-⟩ | ⟨g,cap,cur,rfl,h2,-⟩ <;> rfl
 obtain ⟨m1,m2⟩:=hm.step 0 v (.row e 1 2 []) (w':=w') (Onl.zFL hb) (fun hU=>absurd hU (by simp)) (fun k hk=>.inr (hbl k hk))
  (fun hx=>⟨by omega,fun k hk=>.inl (hbl k hk),0,[],zNW ho,rfl,fun i c x hi=>by simp at hi⟩)
 refine ⟨upd ob 0 (some (v,(AObj.row e 1 2 []).cnt)),?_,.own v 0 0 h1 (by show 0 < 1; omega) (fun u n hu=>?_)⟩
 ·have hUU : (fun k=>k < ([] : List AObj).length \/ k = 0) = fun k=>k < [AObj.row e 1 2 []].length:=by
   funext k
   simp
  have hHH : upd (fun k=>([] : List AObj)[k]?) 0 (some (AObj.row e 1 2 [])) = fun k=>[AObj.row e 1 2 []][k]?:=by
   funext k
   by_cases e : k = 0
   ·subst e; rw [zY]; rfl
   ·rw [zo _ _ e,List.getElem?_eq_none (by simp),List.getElem?_eq_none (by simp; omega)]
  rw [hUU,hHH] at m1
  exact m1
 ·have hu : upd ob 0 (some (v,(AObj.row e 1 2 []).cnt)) 0 = some (u,n):=hu
  rw [zY] at hu
  simp only [Option.some.injEq,Prod.mk.injEq] at hu
  obtain ⟨rfl,rfl⟩:=hu
  exact ⟨by simp,fun _=>rfl⟩
theorem zLJ : FnS Tryz.prog 36 [.t 0 (ints [])] [] (.own 0 0) [.row 3 1 2 []]:=by
 intro w V ob vs hm hn hv
 have h0:=(hv 0 _ rfl).rep
 obtain ⟨v,rfl⟩ : ∃ v,vs = #[v]:=⟨vs.getD 0 undef,by
  have hs : vs.size = 1:=hn
  apply Array.ext
  ·simp [hs]
  ·intro i h1 h2
   have : i = 0:=by omega
   subst this
   simp [Array.getD,hs]⟩
 have h0 : Rep (zEe w.heap.size V ob w 0) v (.sl 1 []):=h0
 have fin : ∀ (u : Value) (e : Ending) (w' : World),(∃ v',e = Ending.returned v' /\ w'.ownsRow w.heap.size (zEy.t 23) 1 v' 0 [] /\ v' ≠ .slice none 0 0 /\ Below w.heap.size w w') -> ∃ v ob',e = Ending.returned v /\ MR w V (OB ob) (fun k=>k < [AObj.row 3 1 2 []].length) (fun k=>[AObj.row 3 1 2 []][k]?) ob' w' /\ VR (za w.heap.size V ob' (fun k=>k < [AObj.row 3 1 2 []].length) w') v (.own 0 0) /\ GhR (za w.heap.size V ob' (fun k=>k < [AObj.row 3 1 2 []].length) w') (fun i=>(#[u] : Array Value).getD i undef) (ghA [.t 0 (ints [])]):=by
  rintro u e w' ⟨v',rfl,ho,hne,hb⟩
  obtain ⟨ob',k1,k2⟩:=zJs (e:=3) hm hb ho
  exact ⟨v',ob',rfl,k1,k2,zIH (by simp)⟩
 cases h0 with
 | nil =>
  refine (show Calls Tryz.prog 36 #[.slice none 0 0] w _ from AnyG.slices_Clone_int_nil zL4 0 0 w).mono ?_
  rintro e w' ⟨rfl,rfl⟩
  obtain ⟨ob',k1,k2⟩:=zJs (e:=3) hm (Below.refl _ _) (World.ownsRow_nil _ _ _ _)
  exact ⟨_,ob',rfl,k1,k2,zIH (by simp)⟩
 | emp a hz=>exact (show Calls Tryz.prog 36 #[.slice (some a) 0 0] w _ from AnyG.slices_Clone_int_zero zL4 a 0 w).mono (fin _)
 | sl b o n cap z cs vs hz hn2 h1 h2 hc hr =>
  obtain rfl : n = 0:=by simp at hn2; omega
  exact (show Calls Tryz.prog 36 #[.slice (some ⟨b,o,none⟩) 0 cap] w _ from AnyG.slices_Clone_int_zero zL4 ⟨b,o,none⟩ cap w).mono (fin _)
theorem zGk (xs : List Int) (hl : xs.length <= 100000) : FnS Tryz.prog 36 [.t 0 (ints xs)] [] (.own 0 xs.length) [.row 3 1 2 (xs.map (.int .i64))]:=by
 by_cases h : 0 < xs.length
 ·exact zNH xs h hl
 ·obtain rfl : xs = []:=by
   cases xs with
   | nil=>rfl
   | cons a l=>simp at h
  exact zLJ
end Go.Proofs.YtgelfgpcnaeecaaGreatDoor.M

namespace Go.Proofs.YtgelfgpcnaeecaaGreatDoor.M
open Go.RowKit
set_option linter.unusedVariables false
set_option linter.unusedSimpArgs false
set_option maxRecDepth 100000
set_option maxHeartbeats 32000000

def niT (S : List Nat) : List T:=(nI S).map (.int .i64)
@[simp] theorem zT9 (S : List Nat) : (niT S).length = S.length:=by simp [niT]
theorem zFm (S : List Nat) (a : Nat) : niT (S ++ [a]) = niT S ++ [.int .i64 (a : Int)]:=by simp [niT,nI]
def wkW (L s : Nat) (bs : List Bool) (nx : List (List Int)) (us : List Bool) (a b c : AV) : AObj:=.box 78 [.t 2 (.int .i64 L),.t 2 (.int .i64 s),.t 1 (zE bs),.t 1 (rows nx),.t 1 (zE us),a,b,c]
def moR (l : List Mo) (j : Nat) : List Nat:=if j % 2 = 0 then (l.getD (j / 2) ([],[])).1 else (l.getD (j / 2) ([],[])).2
theorem zLp {l : List Mo} {x : Mo} {j : Nat} (h : j < l.length * 2) : moR (l ++ [x]) j = moR l j:=by
 unfold moR
 rw [List.getD_eq_getElem?_getD,List.getElem?_append_left (by omega),← List.getD_eq_getElem?_getD]
theorem zLW (l : List Mo) (x : Mo) : moR (l ++ [x]) (l.length * 2) = x.1:=by
 unfold moR
 rw [if_pos (by omega),show l.length * 2 / 2 = l.length by omega]
 simp
theorem zKq (l : List Mo) (x : Mo) : moR (l ++ [x]) (l.length * 2 + 1) = x.2:=by
 unfold moR
 rw [if_neg (by omega),show (l.length * 2 + 1) / 2 = l.length by omega]
 simp
def zCD (l : List Mo) (j : Nat) : AObj:=.row 3 1 1 (niT (moR l j))
def zA7 (b : Nat) (l : List Mo) : List AV:=tab (l.length * 2) fun j=>.own (b + j) (moR l j).length
@[simp] theorem zTE (b : Nat) (l : List Mo) : (zA7 b l).length = l.length * 2:=by simp [zA7]
theorem zL6 (b : Nat) (l : List Mo) (x : Mo) : zA7 b (l ++ [x]) = zA7 b l ++ [.own (b + l.length * 2) x.1.length] ++ [.own (b + (l.length * 2 + 1)) x.2.length]:=by
 unfold zA7
 rw [show (l ++ [x]).length * 2 = l.length * 2 + 1 + 1 by simp; omega,zCP,zCP,zLW,zKq]
 congr 2
 exact zO (fun j hj=>by rw [zLp hj])
theorem zEo {α : Type} {a b c d : α} {n j : Nat} {F : Nat -> α} (h : j < n) : (a :: b :: c :: d :: tab n F)[4 + j]? = some (F j):=by
 rw [Nat.add_comm]
 simp only [List.getElem?_cons_succ]
 exact zP F h
theorem zHE {a b c d B n : Nat} : (poF [a,b,c,d] B n)[1]?.getD 0 = b:=rfl
theorem zGa {a b c d B n : Nat} : (poF [a,b,c,d] B n)[2]?.getD 0 = c:=rfl
theorem zGx {a b c d B n : Nat} : (poF [a,b,c,d] B n)[3]?.getD 0 = d:=rfl
theorem zJU {H : Nat -> Option AObj} {m : Nat -> Option Nat} {un : Nat -> Prop} {nx : Nat} : ∀ {xs ys cs ds : List AV},wkPs H m un nx xs ys -> wkPs H m un nx cs ds -> wkPs H m un nx (xs ++ cs) (ys ++ ds)
 | [],[],_,_,_,h=>h
 | a :: xs,b :: ys,cs,ds,h1,h2=>by
  simp only [wkPs] at h1
  simp only [List.cons_append,wkPs]
  exact ⟨h1.1,zJU h1.2 h2⟩
 | [],_ :: _,_,_,h,_=>by simp at h
 | _ :: _,[],_,_,h,_=>by simp at h
theorem zCT {ph : List Nat} {b n q h : Nat} {L : Nat -> Nat} (hh : h = ph.length) : outVs (poF ph b n) q (tab n fun j=>.own (h + j) (L j)) = tab n fun j=>AV.own (b + j) (L j):=by
 rw [zG2]
 refine zO (fun j hj=>?_)
 subst hh
 simp only [outV]
 rw [zPU hj]
abbrev zHa (L s : Nat) (bs : List Bool) (nx : List (List Int)) (us : List Bool) (l : List Mo) (S U : List Nat) : List AObj:=[wkW L s bs nx us (.own 1 (l.length * 2)) (.own 2 S.length) (.own 3 U.length),.vec 83 2 1 (zA7 4 l),.row 3 1 1 (niT S),.row 3 1 1 (niT U)]
def zUu (L m s : Nat) (bs : List Bool) (nx : List (List Int)) (us : List Bool) (l : List Mo) (S U : List Nat) (q : Nat) (res : AV) (H' : List AObj) : Prop:=∃ ok l' S' U',(ok = true ↔ Fits l.length U.length (pX L m bs nx q)) /\ (ok = true -> l' = l ++ zFM S U (pX L m bs nx q) /\ S' = S /\ U' = U) /\ l'.length <= 400 /\ res = .t 2 (.bool ok) /\ H' = zHa L s bs nx us l' S' U' ++ tab (l'.length * 2) (zCD l')
theorem zCa (S : List Nat) (a : Nat) : (niT (S ++ [a])).take S.length = niT S:=by
 rw [zFm,List.take_append_of_le_length (by simp)]
 exact List.take_of_length_le (by simp)
theorem zOh {L m s : Nat} {bs us : List Bool} {nx : List (List Int)} (hD : DfL L m s bs nx) (hL : 1 <= L) (hL2 : L <= 6) (hm : m <= 512) (hA : Acy L m nx) (hul : us.length = m) (hus : ∀ q,q < m -> (us.getD q false = true ↔ ∃ w,(∀ a ∈ w,a < L) /\ zAf bs nx q w = true)) :
  ∀ (k q : Nat) (l : List Mo) (S U : List Nat),rkA L m nx q < k -> q < m -> l.length <= 400 -> S.length = U.length -> U.length <= 60 -> ∃ res H',zUu L m s bs nx us l S U q res H' /\ FnS Tryz.prog 28 [.ptr 0 0 8,.t 2 (.int .i64 q)] (zHa L s bs nx us l S U ++ tab (l.length * 2) (zCD l)) res H':=by
 intro k
 induction k
 ·intro q l S U h; omega
 rename_i k ih
 intro q l S U hk hq hl hST hU
 have hnl:=hD.nl
 have hbl:=hD.bl
 have hqx : q < nx.length:=by omega
 have hqb : q < bs.length:=by omega
 obtain ⟨hrl,-⟩:=hD.row nx[q] (by simp)
 have hlp:=zIu nx q
 have hl6 : ∀ x,x <= 6 -> loopN nx q x < 64:=fun x hx=>Nat.lt_of_lt_of_le (hlp x) (by rw [show 64 = 2 ^ 6 from rfl]; exact Nat.pow_le_pow_right (by omega) hx)
 have hpe:=zP2 hD hA hq
 refine zAb Tryz.func28 rfl (by simp [Tryz.f28]) ?_
 rw [show Tryz.f28.ntmps = 152 from rfl,show Tryz.f28.results = #[.tmp 4] from rfl]
 rw [zPJ]
 refine zX (σ':=mkF [(0,.ptr 0 0 8),(1,.t 2 (.int .i64 q))]
   [(0,wkW L s bs nx us (.own 1 (l.length * 2)) (.own 2 S.length) (.own 3 U.length)),(1,.vec 83 2 1 (zA7 100 l)),(2,.row 3 1 1 (niT S)),(3,.row 3 1 1 (niT U))] 100 (l.length * 2) (zCD l) 2000 152 [.ptr 0 0 8,.any]) ?_ ?_
 ·refine zAG [(0,some 0),(1,some 1),(2,some 2),(3,some 3)] (fun j=>4 + j) rfl ?_ ?_ ?_ ?_ ?_ ?_
  all_goals try simp +contextual (disch:=omega) [zL,zM,zV,zW,zw,List.getElem?_cons_succ,Option.getD_some,callF,ints,scal,tpO,zF,zH,zA7,zCD,zHa,wkW,rows,zE,idxE]
  all_goals (try omega)
 refine rg0 ?_
 refine rg0 ?_
 refine zA ?_
 refine rg1 (an @wkW.eq_1 (an @hqx @hrl)) ?_
 refine zB ?_
 refine awp_loop (fun x : Nat=>mkF [(0,.ptr 0 0 8),(1,.t 2 (.int .i64 q)),(5,.t 2 (.int .i64 (loopN nx q x : Nat))),(17,.t 0 (ints nx[q])),(18,.t 2 (.int .i64 L)),(19,.t 2 (.int .i64 x))]
   [(0,wkW L s bs nx us (.own 1 (l.length * 2)) (.own 2 S.length) (.own 3 U.length)),(1,.vec 83 2 1 (zA7 100 l)),(2,.row 3 1 1 (niT S)),(3,.row 3 1 1 (niT U))] 100 (l.length * 2) (zCD l) 2000 152 [.ptr 0 0 8,.any]) (fun x=>x <= L) (fun x=>L - x) ?_ ?_
 ·refine ⟨0,by omega,?_⟩
  refine zAG [(0,some 0),(1,some 1),(2,some 2),(3,some 3)] (fun j=>100 + j) rfl ?_ ?_ ?_ ?_ ?_ ?_
  all_goals try simp +contextual (disch:=omega) [zL,zM,zV,zW,zw,List.getElem?_cons_succ,Option.getD_some,callF,ints,scal,tpO,zF,zH,zA7,zCD,wkW,rows,zE,loopN]
  all_goals (try omega)
 intro x hx
 refine rg0 ?_
 refine zA ?_
 by_cases hxl : x < L
 ·obtain ⟨s1,s2,s3,s4⟩:=hD.rt.step hq hxl
  refine cK1 @hxl ?_
  refine zA ?_
  refine zB ?_
  refine rg1 (an @s3 @s4) ?_
  refine rg0 ?_
  have hl1:=hl6 x (by omega)
  have h1x : 1 <<< x < 64:=by rw [Nat.one_shiftLeft,show 64 = 2 ^ 6 from rfl]; exact Nat.pow_lt_pow_right (by omega) (by omega)
  by_cases he : zJ nx q x = q
  ·have hei : (zJ nx q x : Int) = (q : Int):=by omega
   have hlo : loopN nx q (x + 1) = loopN nx q x ||| (1 <<< x):=by rw [loopN,if_pos he]
   have ho:=zTr (x:=loopN nx q x) (y:=1 <<< x) (by omega) (by omega)
   have hs:=zQ7 (k:=x) (by omega)
   generalize 1 <<< x = b at hlo ho hs h1x
   refine cT1 (an @hei @he) ?_
   refine rr1 (an @hs @ho) ?_
   show awp _ _ _ _
   refine rr0 ?_
   refine ⟨x + 1,by omega,by omega,?_⟩
   exact kf1 [(0,some 0),(1,some 1),(2,some 2),(3,some 3)] (fun j=>100 + j) (an @zA7.eq_1 (an @zCD.eq_1 (an @wkW.eq_1 (an @rows.eq_1 (an @zE.eq_1 @hlo)))))
  ·have hei : ¬ (zJ nx q x : Int) = (q : Int):=by omega
   have hlo : loopN nx q (x + 1) = loopN nx q x:=by rw [loopN,if_neg he]
   refine cY1 (an @hei @he) ?_
   show awp _ _ _ _
   refine rr0 ?_
   refine ⟨x + 1,by omega,by omega,?_⟩
   exact kf1 [(0,some 0),(1,some 1),(2,some 2),(3,some 3)] (fun j=>100 + j) (an @zA7.eq_1 (an @zCD.eq_1 (an @wkW.eq_1 (an @rows.eq_1 (an @zE.eq_1 @hlo)))))
 obtain rfl : x = L:=by omega
 refine cF0 ?_
 refine zG ?_
 show awp _ _ _ _
 refine rg1 @wkW.eq_1 ?_
 clear hlp
 obtain ⟨lo,hlo⟩ : ∃ lo,lo = loopN nx q x:=⟨_,rfl⟩
 rw [← hlo]
 have hz : pXL x m bs nx q 0 = if bs.getD q false then [([lo],[])] else []:=by rw [zIy,hlo]
 have hbg : bs.getD q false = bs[q]:=by rw [List.getD_eq_getElem?_getD,List.getElem?_eq_getElem hqb]; rfl
 obtain ⟨S1,hS1⟩ : ∃ S1,S1 = S ++ [lo]:=⟨_,rfl⟩
 have hS1l : S1.length = S.length + 1:=by rw [hS1]; simp
 have hS1n : niT S ++ [.int .i64 (lo : Int)] = niT S1:=by rw [hS1,zFm]
 refine zX (σ':=mkF [(0,.ptr 0 0 8),(1,.t 2 (.int .i64 q))]
   [(0,wkW x s bs nx us (.own 1 (l.length * 2)) (.own 2 S1.length) (.own 3 U.length)),(1,.vec 83 2 1 (zA7 100 l)),(2,.row 3 1 1 (niT S1)),(3,.row 3 1 1 (niT U))] 100 (l.length * 2) (zCD l) 2000 152 [.ptr 0 0 8,.any]) ?_ ?_
 ·exact kf1 [(0,some 0),(1,some 1),(2,some 2),(3,some 3)] (fun j=>100 + j) (an @zA7.eq_1 (an @zCD.eq_1 (an @wkW.eq_1 (an @rows.eq_1 (an @zE.eq_1 (an @hS1n @hS1l))))))
 refine zCv (fun σ'=>∃ l2,(l2 = l ++ zFM S U (pXL x m bs nx q 0) /\ l2.length <= 400) /\ Wk σ' (mkF [(0,.ptr 0 0 8),(1,.t 2 (.int .i64 q))]
   [(0,wkW x s bs nx us (.own 1 (l2.length * 2)) (.own 2 S1.length) (.own 3 U.length)),(1,.vec 83 2 1 (zA7 100 l2)),(2,.row 3 1 1 (niT S1)),(3,.row 3 1 1 (niT U))] 100 (l2.length * 2) (zCD l2) 2000 152 [.ptr 0 0 8,.any])) ?_ ?_
 ·rintro σ' ⟨l2,⟨hl2,hl2n⟩,hw⟩
  refine zX hw ?_
  clear hw
  have hF0 : Fits l.length U.length (pXL x m bs nx q 0):=by
   rw [hz]
   rw [hl2,hz] at hl2n
   split at hl2n
   ·rename_i hh
    rw [if_pos hh]
    simp at hl2n
    exact ⟨by simp; omega,fun p hp=>by simp only [List.mem_singleton] at hp; subst hp; simpa using hU⟩
   ·rename_i hh
    rw [if_neg hh]
    exact ⟨by simpa using hl,fun p hp=>by simp at hp⟩
  refine zA ?_
  refine rg1 (an @wkW.eq_1 (an @hqx @hrl)) ?_
  refine zB ?_
  refine awp_loop (fun y : Nat × List Mo=>mkF [(0,.ptr 0 0 8),(1,.t 2 (.int .i64 q)),(83,.t 0 (ints nx[q])),(84,.t 2 (.int .i64 x)),(85,.t 2 (.int .i64 y.1))]
    [(0,wkW x s bs nx us (.own 1 (y.2.length * 2)) (.own 2 S1.length) (.own 3 U.length)),(1,.vec 83 2 1 (zA7 100 y.2)),(2,.row 3 1 1 (niT S1)),(3,.row 3 1 1 (niT U))] 100 (y.2.length * 2) (zCD y.2) 2000 152 [.ptr 0 0 8,.any])
   (fun y=>y.1 <= x /\ y.2 = l ++ zFM S U (pXL x m bs nx q y.1) /\ Fits l.length U.length (pXL x m bs nx q y.1)) (fun y=>x - y.1) ?_ ?_
  ·refine ⟨(0,l2),⟨by simp,hl2,hF0⟩,?_⟩
   exact kf1 [(0,some 0),(1,some 1),(2,some 2),(3,some 3)] (fun j=>100 + j) (an @zA7.eq_1 (an @zCD.eq_1 (an @wkW.eq_1 (an @rows.eq_1 @zE.eq_1))))
  clear hl2 hl2n hF0 l2
  rintro ⟨z,l2⟩ ⟨hzx,hl2,hF⟩
  simp only at hzx hl2 hF
  have hl2n : l2.length = l.length + (pXL x m bs nx q z).length:=by rw [hl2]; simp
  have hl2m : l2.length <= 400:=by have:=hF.1; omega
  refine rg0 ?_
  refine zA ?_
  by_cases hzl : z < x
  ·obtain ⟨s1,s2,s3,s4⟩:=hD.rt.step hq hzl
   have hug : us.getD (zJ nx q z) false = us[zJ nx q z]:=by rw [List.getD_eq_getElem?_getD,List.getElem?_eq_getElem (by omega)]; rfl
   have hup : zJ nx q z < us.length:=by omega
   refine cK1 @hzl ?_
   refine zA ?_
   refine zB ?_
   refine rg1 (an @s3 @s4) ?_
   refine zA ?_
   by_cases he : zJ nx q z = q
   ·have hei : (zJ nx q z : Int) = (q : Int):=by omega
    have heb : ((zJ nx q z : Int) == (q : Int)) = true:=by simp [he]
    refine rg1 @heb ?_
    refine cT1 (an @hei @he) ?_
    refine zG ?_
    show awp _ _ _ _
    refine rr0 ?_
    refine ⟨(z + 1,l2),⟨by simp only; omega,by simp only; rw [zI8 he]; exact hl2,by simp only; rw [zI8 he]; exact hF⟩,by simp only; omega,?_⟩
    exact kf1 [(0,some 0),(1,some 1),(2,some 2),(3,some 3)] (fun j=>100 + j) (an @zA7.eq_1 (an @zCD.eq_1 (an @wkW.eq_1 (an @rows.eq_1 @zE.eq_1))))
   ·have hei : ¬ (zJ nx q z : Int) = (q : Int):=by omega
    have heb : ((zJ nx q z : Int) == (q : Int)) = false:=beq_eq_false_iff_ne.2 hei
    have hpn:=zJa (L:=x) (m:=m) (bs:=bs) he
    have hlz : pXL x m bs nx q (z + 1) = pXL x m bs nx q z ++ (pX x m bs nx (zJ nx q z)).map (zNV lo z):=by rw [hpn,hlo]
    obtain ⟨rest,hrest⟩:=zDg (L:=x) (m:=m) (bs:=bs) (nx:=nx) q (show z + 1 <= x by omega)
    cases hu : us[zJ nx q z] with
    | false =>
     have hnil : pX x m bs nx (zJ nx q z) = []:=by
      apply Classical.byContradiction
      intro hne
      have:=(hus _ s1).2 ((zMa hD hA s1).1 hne)
      rw [hug,hu] at this
      cases this
     rw [hnil,List.map_nil,List.append_nil] at hlz
     refine rg1 (an @heb (an @wkW.eq_1 (an @zE.eq_1 (an @hup @hu)))) ?_
     refine cT1 (an @hei @he) ?_
     refine zG ?_
     show awp _ _ _ _
     refine rr0 ?_
     refine ⟨(z + 1,l2),⟨by simp only; omega,by simp only; rw [hlz]; exact hl2,by simp only; rw [hlz]; exact hF⟩,by simp only; omega,?_⟩
     exact kf1 [(0,some 0),(1,some 1),(2,some 2),(3,some 3)] (fun j=>100 + j) (an @zA7.eq_1 (an @zCD.eq_1 (an @wkW.eq_1 (an @rows.eq_1 @zE.eq_1))))
    | true =>
     have hne : pX x m bs nx (zJ nx q z) ≠ []:=(zMa hD hA s1).2 ((hus _ s1).1 (by rw [hug,hu]))
     have hsub : Fits l.length U.length (pX x m bs nx q) -> Fits l2.length (U.length + 1) (pX x m bs nx (zJ nx q z)):=fun hh=>by
      rw [hpe,hrest,hlz,List.append_assoc] at hh
      have:=hh.right.left
      rw [zJS,← hl2n] at this
      exact this
     refine rg1 (an @heb (an @wkW.eq_1 (an @zE.eq_1 (an @hup @hu)))) ?_
     refine cS1 (an @hei @he) ?_
     refine zA ?_
     refine rg1 @wkW.eq_1 ?_
     by_cases h60 : U.length = 60
     ·have h60i : (U.length : Int) = 60:=by omega
      refine cT1 (an @h60i @h60) ?_
      refine rg0 ?_
      refine zC ?_
      refine ⟨⟨_,_,⟨false,l2,S1,U,⟨fun h=>(by cases h),fun h=>?_⟩,fun h=>(by cases h),hl2m,rfl,rfl⟩,?_⟩,by simp⟩
      ·exfalso
       obtain ⟨p,hp⟩:=List.exists_mem_of_ne_nil _ hne
       have:=(hsub h).2 p hp
       omega
      ·refine zRZ [(0,some 0),(1,some 1),(2,some 2),(3,some 3)] (fun j=>100 + j) (.inr rfl) ?_ ?_ ?_ ?_ ?_ _ ?_ (by first | (simp; rfl) | rfl)
       all_goals try simp +contextual (disch:=omega) [zL,zM,zV,zW,zw,List.getElem?_cons_succ,Option.getD_some,callF,ints,scal,tpO,zF,zH,wkW,zA7,zCD,zHa,rows,zE]
     ·have h60i : ¬ (U.length : Int) = 60:=by omega
      obtain ⟨U1,hU1⟩ : ∃ U1,U1 = U ++ [z]:=⟨_,rfl⟩
      have hU1l : U1.length = U.length + 1:=by rw [hU1]; simp
      have hU1n : niT U ++ [.int .i64 (z : Int)] = niT U1:=by rw [hU1,zFm]
      have hU1t : (niT U1).take U.length = niT U:=by rw [hU1]; exact zCa U z
      have hrk:=zMt hD hA hq hzl he
      obtain ⟨_,_,⟨ok,l3,S3,U3,hok,hres,hl3m,rfl,rfl⟩,hcall⟩:=ih (zJ nx q z) l2 S1 U1 (by omega) s1 hl2m (by omega) (by omega)
      refine cS1 (an @h60i @h60) ?_
      refine rg1 (an @wkW.eq_1 @hU1n) ?_
      refine zX (σ':=mkF [(0,.ptr 0 0 8),(1,.t 2 (.int .i64 q)),(9,.t 2 (.int .i64 (zJ nx q z : Nat))),(83,.t 0 (ints nx[q])),(84,.t 2 (.int .i64 x)),(85,.t 2 (.int .i64 z))]
       [(0,wkW x s bs nx us (.own 1 (l2.length * 2)) (.own 2 S1.length) (.own 3 U1.length)),(1,.vec 83 2 1 (zA7 100 l2)),(2,.row 3 1 1 (niT S1)),(3,.row 3 1 1 (niT U1))] 100 (l2.length * 2) (zCD l2) 2000 152 [.ptr 0 0 8,.any]) ?_ ?_
      ·exact kf1 [(0,some 0),(1,some 1),(2,some 2),(3,some 3)] (fun j=>100 + j) (an @zA7.eq_1 (an @zCD.eq_1 (an @wkW.eq_1 (an @rows.eq_1 (an @zE.eq_1 @hU1l)))))
      refine zA ?_
      refine zI fun K hK=>?_
      simp (maxSteps:=2000000) (disch:=omega) [ints,rows,scal,zK,wr8]
      (repeat' apply And.intro)
      all_goals (try omega)
      refine zH3 (caps:=[]) (hcall) [0,1,2,3] 100 [0,2002000,2002001,2002002] 2002010 1 rfl rfl rfl rfl (by kernel_rfl) (by simp) ?_ ?_ ?_ (by simp) (by intro k hk; simp at hk; omega) rfl (by simp) ⟨.inr ⟨rfl,0,_,_,_,_,_,rfl,rfl,(by first | rfl | simp [wkW,rows,zE,zA7,zCD,zEo]),rfl,(by first | rfl | simp [wkW,rows,zE,zA7,zCD,zEo])⟩,.inl ⟨by omega,by omega⟩,.inl ⟨by omega,by omega⟩,.inl ⟨by omega,by omega⟩,trivial⟩ (by omega) (by intro k hk; simp at hk; omega) (by simp [wkW,rows,zE,zA7,zCD,zEo]) (fun j hj=>rfl) ?_
      ·simp +contextual (disch:=omega) [zL,zM,zV,zW,zw,List.getElem?_cons_succ,Option.getD_some,callF,ints,scal,tpO,zF,zH,poF,scal,rows,ints,zBe,wkW,rows,zE,zA7,zCD,zEo]
      ·simp +contextual (disch:=omega) [zL,zM,zV,zW,zw,List.getElem?_cons_succ,Option.getD_some,callF,ints,scal,tpO,zF,zH,poF,scal,rows,ints,zBe,wkW,rows,zE,zA7,zCD,zEo]
      ·simp +contextual (disch:=omega) [zL,zM,zV,zW,zw,List.getElem?_cons_succ,Option.getD_some,callF,ints,scal,tpO,zF,zH,poF,scal,rows,ints,zBe,wkW,rows,zE,zA7,zCD,zEo]
      simp (maxSteps:=2000000) (disch:=omega) [ints,rows,scal,zK,wr8,wkW,callFF,zHE,zGa,zGx]
      (repeat' first | apply hK | apply And.intro) <;> try first | omega | rfl | (simp <;> omega)
      rw [hU1l] at hok
      cases ok with
      | false =>
       refine cT0 ?_
       refine rg0 ?_
       refine zC ?_
       refine ⟨⟨_,_,⟨false,l3,S3,U3,⟨fun h=>(by cases h),fun h=>?_⟩,fun h=>(by cases h),hl3m,rfl,rfl⟩,?_⟩,by simp⟩
       ·exact hok.2 (hsub h)
       ·refine zRZ [(0,some 0),(1,some 2002000),(2,some 2002001),(3,some 2002002)] (fun j=>2002010 + j) (.inr rfl) ?_ ?_ ?_ ?_ ?_ _ ?_ (by first | (simp; rfl) | rfl)
        all_goals try simp +contextual (disch:=omega) [wkE,wkP,wkPs,wkH,wkO,keysNd,unm,zAB,zr,dels,zBa,mkS,mkF,zl,zi,zj,zf,zAN,zAV,zBd,zAM,zAW,zA3,zAs,zL,zM,zV,zW,zw,List.getElem?_cons_zero,List.getElem?_cons_succ,Option.getD_some,zBz,callS,callF,zA0,addL,delL,outV,outVs,outO,ghA,ghA1,ints,scal,tpO,zF,zH,idxF,wkW,zA7,zCD,zHa,rows,zE,callFF,zLU,zHE,zGa,zGx,zCT (show 4 = [0,2002000,2002001,2002002].length from rfl)]
      | true =>
       obtain ⟨hl3,rfl,rfl⟩:=hres rfl
       have hFp:=hok.1 rfl
       refine cS0 ?_
       refine re1 (an @wkW.eq_1 (an @hU1l @hU1t)) ?_
       show awp _ _ _ _
       refine rr0 ?_
       refine ⟨(z + 1,l3),⟨by simp only; omega,?_,?_⟩,by simp only; omega,?_⟩
       ·simp only
        rw [hl3,hl2,hlz,zON,List.append_assoc,zNg,hS1,hU1]
       ·simp only
        rw [hlz]
        refine hF.app ?_
        rw [zJS,← hl2n]
        exact hFp
       ·refine zAG [(0,some 0),(1,some 2002000),(2,some 2002001),(3,some 15002000)] (fun j=>2002010 + j) rfl ?_ ?_ ?_ ?_ ?_ ?_
        all_goals try simp +contextual (disch:=omega) [wkE,wkP,wkPs,wkH,wkO,keysNd,unm,zAB,zr,dels,zBa,mkS,mkF,zl,zi,zj,zf,zAN,zAV,zBd,zAM,zAW,zA3,zAs,zL,zM,zV,zW,zw,List.getElem?_cons_zero,List.getElem?_cons_succ,Option.getD_some,zBz,callS,callF,zA0,addL,delL,outV,outVs,outO,ghA,ghA1,ints,scal,tpO,zF,zH,zA7,zCD,wkW,rows,zE,hU1t,callFF,zLU,zHE,zGa,zGx,zCT (show 4 = [0,2002000,2002001,2002002].length from rfl)]
        all_goals (try omega)
  ·obtain rfl : z = x:=by omega
   have hSt : (niT S1).take S.length = niT S:=by rw [hS1]; exact zCa S lo
   refine cF0 ?_
   refine zG ?_
   show awp _ _ _ _
   refine rd1 (an @wkW.eq_1 @hS1l) ?_
   refine rg0 ?_
   refine zC ?_
   refine ⟨⟨_,_,⟨true,l2,S,U,⟨fun _=>by rw [hpe]; exact hF,fun _=>rfl⟩,fun _=>⟨by rw [hpe]; exact hl2,rfl,rfl⟩,hl2m,rfl,rfl⟩,?_⟩,by simp⟩
   refine zRZ [(0,some 0),(1,some 1),(2,some 12002000),(3,some 3)] (fun j=>100 + j) (.inr rfl) ?_ ?_ ?_ ?_ ?_ _ ?_ (by first | (simp; rfl) | rfl)
   all_goals try simp +contextual (disch:=omega) [zL,zM,zV,zW,zw,List.getElem?_cons_succ,Option.getD_some,callF,ints,scal,tpO,zF,zH,wkW,zA7,zCD,zHa,rows,zE,hSt]
 ·refine rg1 (an @wkW.eq_1 (an @zE.eq_1 @hqb)) ?_
  cases hb : bs[q] with
  | true =>
   refine cT1 @hb ?_
   rw [hbg,hb,if_pos rfl] at hz
   refine zA ?_
   refine rg1 @wkW.eq_1 ?_
   by_cases h400 : l.length = 400
   ·have h400i : (l.length : Int) = 400:=by omega
    refine cT1 (an @h400i @h400) ?_
    refine rg0 ?_
    refine zC ?_
    refine ⟨⟨_,_,⟨false,l,S1,U,⟨fun h=>(by cases h),fun h=>?_⟩,fun h=>(by cases h),hl,rfl,rfl⟩,?_⟩,by simp⟩
    ·exfalso
     obtain ⟨l',e⟩:=zDg (L:=x) (m:=m) (bs:=bs) (nx:=nx) q (Nat.zero_le x)
     have:=h.1
     rw [hpe,e,hz] at this
     simp at this
     omega
    ·refine zRZ [(0,some 0),(1,some 1),(2,some 2),(3,some 3)] (fun j=>100 + j) (.inr rfl) ?_ ?_ ?_ ?_ ?_ _ ?_ (by first | (simp; rfl) | rfl)
     all_goals try simp +contextual (disch:=omega) [zL,zM,zV,zW,zw,List.getElem?_cons_succ,Option.getD_some,callF,ints,scal,tpO,zF,zH,wkW,zA7,zCD,zHa,rows,zE]
   ·have h400i : ¬ (l.length : Int) = 400:=by omega
    refine cF1 (an @h400i @h400) ?_
    have hc1:=zGk (nI S1) (by simp; omega)
    have hc2:=zGk (nI U) (by simp; omega)
    rw [zSx] at hc1 hc2
    refine zb ?_
    show awp _ _ _ _
    refine zX (σ':=mkF [(0,.ptr 0 0 8),(1,.t 2 (.int .i64 q))]
     [(0,wkW x s bs nx us (.own 1 (l.length * 2)) (.own 2 S1.length) (.own 3 U.length)),(1,.vec 83 2 1 (zA7 100 l)),(2,.row 3 1 1 (niT S1)),(3,.row 3 1 1 (niT U))] 100 (l.length * 2) (zCD l) 2000 152 [.ptr 0 0 8,.any]) ?_ ?_
    ·exact kf1 [(0,some 0),(1,some 1),(2,some 2),(3,some 3)] (fun j=>100 + j) (an @zA7.eq_1 (an @zCD.eq_1 (an @wkW.eq_1 (an @rows.eq_1 @zE.eq_1))))
    refine zAm (by kernel_rfl) (fun K hK=>?_)
    simp (maxSteps:=2000000) (disch:=omega) [ints,rows,scal,zK,wr8,wkW]
    (repeat' apply And.intro)
    all_goals (try omega)
    refine zS (caps:=[]) (hc1) [] [9002000] 2 rfl rfl rfl rfl (by kernel_rfl) (by simp) ?_ ?_ (by simp) rfl (by simp) ⟨.inl ⟨by omega,by omega⟩,trivial⟩ (by simp [wkW,niT]) ?_
    ·simp [scal,rows,ints,wkW,niT]
    ·trivial
    simp (maxSteps:=2000000) (disch:=omega) [ints,rows,scal,zK,wr8,wkW]
    (repeat' apply And.intro)
    all_goals (try omega)
    refine zS (caps:=[]) (hc2) [] [14002000] 2 rfl rfl rfl rfl (by kernel_rfl) (by simp) ?_ ?_ (by simp) rfl (by simp) ⟨.inl ⟨by omega,by omega⟩,trivial⟩ (by simp [wkW,niT]) ?_
    ·simp [scal,rows,ints,wkW,niT]
    ·trivial
    simp (maxSteps:=2000000) (disch:=omega) [ints,rows,scal,zK,wr8,wkW,zFx]
    (repeat' first | apply hK | apply And.intro) <;> try first | (show zA8 _ _ = true; kernel_rfl) | (show okH _ _ _ = true; kernel_rfl) | omega | rfl | (simp <;> omega)
    refine ⟨l ++ [(S1,U)],⟨by rw [hz,hS1]; simp [zFM],by simp; omega⟩,?_⟩
    refine zAG [(0,some 0),(1,some 1),(2,some 2),(3,some 3)] (fun j=>if j < l.length * 2 then 100 + j else if j = l.length * 2 then 9002000 else 14002000) rfl ?_ ?_ ?_ ?_ ?_ ?_
    all_goals try simp +contextual (disch:=omega) [zL,zM,zV,zW,zw,List.getElem?_cons_succ,Option.getD_some,callF,ints,scal,tpO,zF,zH,wkW,rows,zE,zL6,Nat.add_mul]
    all_goals (try omega)
    ·refine zJU ?_ ?_
     ·unfold zA7
      rw [zH]
      intro j hj
      simp +contextual (disch:=omega) [zL,zM,zV,zW,zw,List.getElem?_cons_succ,Option.getD_some,callF,ints,scal,tpO,zF,zH,hj]
     ·simp +contextual (disch:=omega) [zL,zM,zV,zW,zw,List.getElem?_cons_succ,Option.getD_some,callF,ints,scal,tpO,zF,zH]
    ·intro j hj
     by_cases h1 : j < l.length * 2
     ·simp +contextual (disch:=omega) [zL,zM,zV,zW,zw,List.getElem?_cons_succ,Option.getD_some,callF,ints,scal,tpO,zF,zH,h1,zCD,zLp h1]
     ·by_cases h2 : j = l.length * 2
      ·subst h2
       simp +contextual (disch:=omega) [zL,zM,zV,zW,zw,List.getElem?_cons_succ,Option.getD_some,callF,ints,scal,tpO,zF,zH,zCD,zLW,niT]
      ·obtain rfl : j = l.length * 2 + 1:=by omega
       have h3 : ¬ l.length * 2 + 1 < l.length * 2:=by omega
       simp +contextual (disch:=omega) [zL,zM,zV,zW,zw,List.getElem?_cons_succ,Option.getD_some,callF,ints,scal,tpO,zF,zH,zCD,zKq,niT,h3]
    ·intro i j hi hj h
     split at h <;> split at h <;> (try split at h) <;> (try split at h) <;> omega
  | false =>
   refine cF1 @hb ?_
   rw [hbg,hb] at hz
   refine zb ?_
   refine ⟨l,⟨by rw [hz]; simp [zFM],hl⟩,?_⟩
   exact kf1 [(0,some 0),(1,some 1),(2,some 2),(3,some 3)] (fun j=>100 + j) (an @zA7.eq_1 (an @zCD.eq_1 (an @wkW.eq_1 (an @rows.eq_1 (an @zE.eq_1 (an @hS1n @hS1l))))))
noncomputable def zA2 (L m : Nat) (bs : List Bool) (nx : List (List Int)) : List Mo × Int:=@ite _ (Acy L m nx) (Classical.propDecidable _) (@ite _ (Fits 0 0 (pX L m bs nx 0)) (Classical.propDecidable _) (pX L m bs nx 0,0) ([],3)) ([],20)
def zKg (r : List Mo × Int) : AV:=.tup [.t 2 (.sl 2 (zGC r.1)),.t 2 (.int .i64 r.2)]
def zP6 (e : Int) : AV:=.tup [.t 2 (.sl 0 []),.t 2 (.int .i64 e)]
theorem zDA {L m : Nat} {bs : List Bool} {nx : List (List Int)} (h : ¬ Acy L m nx) : zA2 L m bs nx = ([],20):=by unfold zA2; rw [if_neg h]
theorem zC8 {L m : Nat} {bs : List Bool} {nx : List (List Int)} (h : Acy L m nx) (h2 : ¬ Fits 0 0 (pX L m bs nx 0)) : zA2 L m bs nx = ([],3):=by unfold zA2; rw [if_pos h,if_neg h2]
theorem zCF {L m : Nat} {bs : List Bool} {nx : List (List Int)} (h : Acy L m nx) (h2 : Fits 0 0 (pX L m bs nx 0)) : zA2 L m bs nx = (pX L m bs nx 0,0):=by unfold zA2; rw [if_pos h,if_pos h2]
theorem FnS.zUR {P : Program} {f : FuncId} {args : List AV} {H H' : List AObj} {r r' : AV} (h : FnS P f args H r H') (hr : ∀ E v,VR E v r -> VR E v r') : FnS P f args H r' H':=fun w V ob vs hm hn hv=>(h w V ob vs hm hn hv).mono fun e w' ⟨v,ob',h1,h2,h3,h4⟩=>⟨v,ob',h1,h2,hr _ _ h3,h4⟩
theorem zPW {E : Ev} {v : Value} {e : Int} (h : VR E v (zP6 e)) : VR E v (zKg ([],e)):=by
 cases h with
 | tup vs cs hn hr =>
  refine .tup vs _ hn (fun i c hi=>?_)
  match i,hi with
  | 0,hi =>
   have hi : some (AV.t 2 (.sl 2 [])) = some c:=hi
   injection hi with hi
   subst hi
   have h0:=(hr 0 _ rfl).rep
   refine .t _ _ _ ?_
   generalize vs.getD 0 undef = v0 at h0 ⊢
   cases h0 with
   | nil=>exact .nil 2
   | emp a hz=>omega
   | sl b o n cap z cs vs hz=>omega
  | 1,hi=>exact hr 1 c hi
  | n + 2,hi=>exact absurd hi (by simp)
def zK9 (L s : Nat) (bs : List Bool) (nx : List (List Int)) (us : List Bool) (a b c : AV) : AObj:=.box 78 [.t 2 (.int .i64 L),.t 2 (.int .i64 s),.t 2 (zE bs),.t 2 (rows nx),.t 2 (zE us),a,b,c]
theorem zNl (m : Mo) (l : List Mo) (j : Nat) : moR (m :: l) (j + 2) = moR l j:=by
 unfold moR
 rw [show (j + 2) % 2 = j % 2 by omega,show (j + 2) / 2 = j / 2 + 1 by omega]
 simp
theorem zNL : ∀ (l : List Mo) (j : Nat),j < l.length * 2 -> (zGC l)[j]? = some (.sl 1 (niT (moR l j)))
 | [],j,h=>by simp at h
 | m :: l,j,h=>by
  have hc : zGC (m :: l) = [ints (nI m.1),ints (nI m.2)] ++ zGC l:=by simp [zGC]
  rw [hc]
  by_cases h2 : j < 2
  ·rcases (by omega : j = 0 \/ j = 1) with rfl | rfl <;> rfl
  ·obtain ⟨i,rfl⟩ : ∃ i,j = i + 2:=⟨j - 2,by omega⟩
   rw [List.getElem?_append_right (by simp),zNl,show i + 2 - [ints (nI m.1),ints (nI m.2)].length = i by simp]
   exact zNL l i (by simp at h; omega)
theorem zJE (l : List Mo) : zGC l = tab (l.length * 2) fun j=>.sl 1 (niT (moR l j)):=by
 apply List.ext_getElem?
 intro j
 by_cases h : j < l.length * 2
 ·rw [zNL l j h,zP _ h]
 ·rw [zA1 _ (by omega),List.getElem?_eq_none (by simp; omega)]
def zRX (l : List Mo) (j : Nat) : AObj:=.row 3 1 2 (niT (moR l j))
def zUj (L n s : Nat) (bs : List Bool) (nxt : List (List Int)) (res : AV) (H' : List AObj) : Prop:=∃ m b2 nx,MiX L n s bs nxt m b2 nx /\ ((∃ l,zA2 L m b2 nx = (l,0) /\ l.length <= 400 /\ res = .tup [.own 0 (l.length * 2),.t 2 (.int .i64 0)] /\ H' = [.vec 83 2 2 (zA7 1 l)] ++ tab (l.length * 2) (zRX l)) \/ ∃ e,(e = 3 \/ e = 20) /\ zA2 L m b2 nx = ([],e) /\ res = zP6 e /\ H' = [])
theorem zG1 {L n s : Nat} {bs : List Bool} {nxt : List (List Int)} (h : DfL L n s bs nxt) (hL : 1 <= L) (hL2 : L <= 6) (hn : n <= 512) : ∃ res H',zUj L n s bs nxt res H' /\ FnS Tryz.prog 10 [dfT 0 L s bs nxt] [] res H':=by
 obtain ⟨_,⟨m,b2,nx,hX,rfl⟩,hmin⟩:=zBW h hL hL2 hn
 have hD:=hX.mn.df
 have hmn:=hX.le
 have hnl:=hD.nl
 have hbl:=hD.bl
 have hm1:=hD.n1
 obtain ⟨_,⟨b,hb,rfl⟩,hord⟩:=zH5 hD hL hL2 (by omega)
 obtain ⟨_,⟨us,hul,hus,rfl⟩,huse⟩:=zLy hD hL hL2 (by omega)
 refine zAb Tryz.func10 rfl (by simp [Tryz.f10]) ?_
 rw [show Tryz.f10.ntmps = 41 from rfl,show Tryz.f10.results = #[.tmp 2,.tmp 3] from rfl]
 refine rg1 (an @dfT.eq_1 @zE.eq_1) ?_
 refine zA ?_
 refine rc1 (zAY h hL hL2 hn) (an @dfT.eq_1 @zE.eq_1) ?_
 refine rg0 ?_
 refine cS0 ?_
 refine rc1 hmin (an @dfT.eq_1 @zE.eq_1) ?_
 refine zA ?_
 refine rc1 hord (an @dfT.eq_1 @zE.eq_1) ?_
 cases b with
 | false =>
  have hna : ¬ Acy L m nx:=fun g=>by have:=hb.2 g; cases this
  refine cT0 ?_
  refine rg0 ?_
  refine zC ?_
  refine ⟨⟨_,_,⟨m,b2,nx,hX,.inr ⟨20,.inr rfl,zDA hna,rfl,rfl⟩⟩,?_⟩,by simp [dfT]⟩
  refine zBN ?_
  refine ⟨.inr rfl,_,[],(by first | (simp; rfl) | rfl),?_,?_,?_,?_⟩
  all_goals try simp +contextual (disch:=omega) [zL,zM,zV,zW,zw,List.getElem?_cons_succ,Option.getD_some,callF,ints,scal,tpO,zF,zH,zz,wk1,rows,zE,zP6]
 | true =>
  have hA : Acy L m nx:=hb.1 rfl
  refine cS0 ?_
  refine rq1 huse (an @dfT.eq_1 @zE.eq_1) ?_
  obtain ⟨z,hz⟩ : ∃ z : Nat,z = 0:=⟨0,rfl⟩
  have hzm : z < m:=by omega
  refine zX (σ':=mkS [(5,.ptr 1 0 4),(6,.ptr 0 0 8)]
    [(0,zK9 L z b2 nx us (.own 2 0) (.own 3 0) (.own 4 0)),(1,zNc L z b2 nx),(2,.vec 83 2 2 []),(3,.row 3 1 2 (niT [])),(4,.row 3 1 2 (niT []))] 5 41 [.any]) ?_ ?_
  ·exact kw1 [(0,some 19000000),(1,some 10000000),(2,none),(3,none),(4,none)] (an @zK9.eq_1 (an @zNc.eq_1 (an @rows.eq_1 (an @zE.eq_1 (an @dfT.eq_1 (an @niT.eq_1 (an @nI.eq_1 @hz)))))))
  have hu0 : z < us.length:=by omega
  have hug : us.getD z false = us[z]:=by rw [List.getD_eq_getElem?_getD,List.getElem?_eq_getElem hu0]; rfl
  have hacc:=zMa hD hA (q:=z) (by omega)
  refine zA ?_
  cases hu : us[z] with
  | false =>
   have hnil : pX L m b2 nx z = []:=by
    apply Classical.byContradiction
    intro hne
    have:=(hus z (by omega)).2 (hacc.1 hne)
    rw [hug,hu] at this
    cases this
   refine rd1 (an @zK9.eq_1 (an @zNc.eq_1 (an @zE.eq_1 (an @hu0 @hu)))) ?_
   refine cS0 ?_
   refine rg1 @zK9.eq_1 ?_
   refine zC ?_
   rw [hz] at hnil
   refine ⟨⟨_,_,⟨m,b2,nx,hX,.inl ⟨[],by rw [zCF hA (by rw [hnil]; exact ⟨by simp,by simp⟩),hnil],by simp,rfl,rfl⟩⟩,?_⟩,by simp [dfT]⟩
   refine zRZ [(0,some 2)] (fun j=>j) (.inr rfl) ?_ ?_ ?_ ?_ ?_ _ ?_ (by first | (simp; rfl) | rfl)
   all_goals try simp +contextual (disch:=omega) [zL,zM,zV,zW,zw,List.getElem?_cons_succ,Option.getD_some,callF,ints,scal,tpO,zF,zH,zA7,zRX]
  | true =>
   obtain ⟨_,_,⟨ok,l3,S3,U3,hok,hres,hl3m,rfl,rfl⟩,hcall⟩:=zOh (s:=z) ⟨hD.n1,hzm,hD.bl,hD.nl,hD.row⟩ hL hL2 (by omega) hA hul hus (rkA L m nx z + 1) z [] [] [] (by omega) (by omega) (by simp) rfl (by simp)
   rw [hz] at hok hres
   have hcall : FnS Tryz.prog 28 [.ptr 0 0 8,.t 2 (.int .i64 z)] [wkW L z b2 nx us (.own 1 0) (.own 2 0) (.own 3 0),.vec 83 2 1 [],.row 3 1 1 [],.row 3 1 1 []] _ _:=hcall
   refine zp (by kernel_rfl) (fun K hK=>?_)
   simp (maxSteps:=2000000) (disch:=omega) [ints,rows,scal,zK,wr8,zK9,zNc,zE,hu0,hu]
   (repeat' apply And.intro)
   all_goals (try omega)
   refine zHe (caps:=[]) (hcall) [0,2,3,4] [0,12000005,12000006,12000007] 12000010 2 (by simp [wkW,zK9,rows,zE,niT,nI]) rfl rfl rfl (by kernel_rfl) (by simp) ?_ ?_ (by simp) rfl (by simp) ⟨.inr ⟨rfl,0,_,_,_,_,_,rfl,rfl,(by first | rfl | simp [wkW,zK9,rows,zE,niT,nI]),rfl,(by first | rfl | simp [wkW,zK9,rows,zE,niT,nI])⟩,.inl ⟨by omega,by omega⟩,.inl ⟨by omega,by omega⟩,.inl ⟨by omega,by omega⟩,trivial⟩ (by omega) (by intro k hk; simp at hk; omega) (by simp [wkW,zK9,rows,zE,niT,nI]) (fun j hj=>rfl) ?_
   ·simp +contextual (disch:=omega) [zL,zM,zV,zW,zw,List.getElem?_cons_succ,Option.getD_some,callF,ints,scal,tpO,zF,zH,poF,scal,rows,ints,zBe,wkW,zK9,rows,zE,niT,nI]
   ·simp +contextual (disch:=omega) [zL,zM,zV,zW,zw,List.getElem?_cons_succ,Option.getD_some,callF,ints,scal,tpO,zF,zH,poF,scal,rows,ints,zBe,wkW,zK9,rows,zE,niT,nI]
   simp (maxSteps:=2000000) (disch:=omega) [ints,rows,scal,zK,wr8,wkW,callF,zHE,zGa,zGx]
   (repeat' first | apply hK | apply And.intro) <;> try first | (show zA8 _ _ = true; kernel_rfl) | (show okH _ _ _ = true; kernel_rfl) | omega | rfl | (simp <;> omega)
   cases ok with
   | false =>
    refine cT0 ?_
    refine rg0 ?_
    refine zC ?_
    refine ⟨⟨_,_,⟨m,b2,nx,hX,.inr ⟨3,.inl rfl,zC8 hA (fun g=>by have:=hok.2 g; cases this),rfl,rfl⟩⟩,?_⟩,by simp [dfT]⟩
    refine zBN ?_
    refine ⟨.inr rfl,_,[],(by first | (simp; rfl) | rfl),?_,?_,?_,?_⟩
    all_goals try simp +contextual (disch:=omega) [zL,zM,zV,zW,zw,List.getElem?_cons_succ,Option.getD_some,callF,ints,scal,tpO,zF,zH,zz,wk1,rows,zE,zP6]
   | true =>
    obtain ⟨hl3,rfl,rfl⟩:=hres rfl
    have hl : l3 = pX L m b2 nx 0:=by rw [hl3]; simp [zNk]
    refine cS0 ?_
    refine rg1 @wkW.eq_1 ?_
    refine zC ?_
    refine ⟨⟨_,_,⟨m,b2,nx,hX,.inl ⟨l3,by rw [zCF hA (hok.1 rfl),hl],hl3m,rfl,rfl⟩⟩,?_⟩,by simp [dfT]⟩
    refine zRZ [(0,some 12000005)] (fun j=>12000010 + j) (.inr rfl) ?_ ?_ ?_ ?_ ?_ _ ?_ (by first | (simp; rfl) | rfl)
    all_goals try simp +contextual (disch:=omega) [wkE,wkP,wkPs,wkH,wkO,keysNd,unm,zAB,zr,dels,zBa,mkS,mkF,zl,zi,zj,zf,zAN,zAV,zBd,zAM,zAW,zA3,zAs,zL,zM,zV,zW,zw,List.getElem?_cons_zero,List.getElem?_cons_succ,Option.getD_some,zBz,callS,callF,zA0,addL,delL,outV,outVs,outO,ghA,ghA1,ints,scal,tpO,zF,zH,idxF,zA7,zRX,zCD,callF,zHE,zGa,zGx,zCT (show 4 = [0,12000005,12000006,12000007].length from rfl)]
theorem zIs {L n s : Nat} {bs : List Bool} {nxt : List (List Int)} (h : DfL L n s bs nxt) (hL : 1 <= L) (hL2 : L <= 6) (hn : n <= 512) : ∃ m b2 nx,MiX L n s bs nxt m b2 nx /\ FnA Tryz.prog 10 [dfT 0 L s bs nxt] (zKg (zA2 L m b2 nx)):=by
 obtain ⟨res,H',⟨m,b2,nx,hX,hr⟩,hs⟩:=zG1 h hL hL2 hn
 refine ⟨m,b2,nx,hX,?_⟩
 rcases hr with ⟨l,e1,-,rfl,rfl⟩ | ⟨e,-,e1,rfl,rfl⟩
 ·rw [e1]
  refine hs.frz ?_ (by simp [dfT])
  simp only [zKg,wkP,wkPs,and_true]
  rw [zJE]
  refine ⟨⟨by simp,trivial,rfl,Nat.le_refl _,?_⟩,trivial,Nat.le_refl _⟩
  unfold zA7
  rw [zz]
  intro j hj
  have hg : ([AObj.vec 83 2 2 (tab (l.length * 2) fun j=>AV.own (1 + j) (moR l j).length)] ++ tab (l.length * 2) (zRX l))[1 + j]? = some (zRX l j):=by
   rw [List.getElem?_append_right (by simp),show 1 + j - [AObj.vec 83 2 2 (tab (l.length * 2) fun j=>AV.own (1 + j) (moR l j).length)].length = j by simp]
   exact zP _ hj
  simp only [wk1]
  rw [hg]
  simp [zRX]
 ·rw [e1]
  exact hs.zUR fun E v=>zPW
def PaG (out l : List Mo) (S U : List Nat) (ps : List Mo) : Prop:=l.length <= 401 /\ (out.length + ps.length <= 400 -> l = out ++ zFM S U ps) /\ (400 < out.length + ps.length -> 400 < l.length)
theorem PaG.start {out : List Mo} {S U : List Nat} (h : out.length <= 400) : PaG out out S U []:=⟨by omega,fun _=>by simp [zFM],fun h2=>by simp at h2; omega⟩
theorem PaG.one {out : List Mo} {S U : List Nat} {lo : Nat} (h : out.length <= 400) : PaG out (out ++ [(S ++ [lo],U)]) S U [([lo],[])]:=⟨by simp; omega,fun _=>by simp [zFM],fun h2=>by simp at h2 ⊢; omega⟩
theorem PaG.cut {out l : List Mo} {S U : List Nat} {ps qs : List Mo} (h : PaG out l S U ps) (hl : 400 < l.length) : PaG out l S U (ps ++ qs):=by
 have h1 : 400 < out.length + ps.length:=by
  by_cases g : out.length + ps.length <= 400
  ·have:=h.2.1 g
   rw [this] at hl
   simp at hl
   omega
  ·omega
 exact ⟨h.1,fun g=>by simp at g; omega,fun _=>hl⟩
theorem MiX.eq {L n s m m' : Nat} {bs b1 b2 : List Bool} {nxt n1 n2 : List (List Int)} (hL : 0 < L) (h1 : MiX L n s bs nxt m b1 n1) (h2 : MiX L n s bs nxt m' b2 n2) : m = m' /\ b1 = b2 /\ n1 = n2 :=
 h1.mn.eq hL h2.mn fun w hw=>by rw [h1.zKN w hw,h2.zKN w hw]
end Go.Proofs.YtgelfgpcnaeecaaGreatDoor.M
