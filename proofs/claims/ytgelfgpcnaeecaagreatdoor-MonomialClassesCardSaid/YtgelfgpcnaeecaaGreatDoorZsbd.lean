/-
  slices.SortFunc of edges, by the kit's contract: an own row of edges is sorted.
  Walk in my logic: ToNFA (dfa).
  Walk in my logic: Reverse (nfa).
  Walks in my logic: Subset (dfa), language, minimal, Reverse (lang).
  Walk in my logic: Left (monomial), of valid automata.
  Walks in my logic: Left (semigroupref35), Same (semigroupref35) of equal lists; both Lefts agree.
  Walks in my logic: Letters (semigroupmade), Ordered (monomial) of valid automata; both Ordereds agree; the law MonomialSides.
-/
import Derived.Test.YtgelfgpcnaeecaaGreatDoorZsbc
import Derived.Test.YtgelfgpcnaeecaaGreatDoorZsay
import Derived.Test.YtgelfgpcnaeecaaGreatDoorZsac
import Derived.Test.YtgelfgpcnaeecaaGreatDoorZsad
import Derived.Test.YtgelfgpcnaeecaaGreatDoorZsak
import Derived.Test.YtgelfgpcnaeecaaGreatDoorZsag
import Derived.Test.YtgelfgpcnaeecaaGreatDoorZsam
import Derived.Test.YtgelfgpcnaeecaaGreatDoorZsae
import Derived.Test.YtgelfgpcnaeecaaGreatDoorZsaf
namespace Go.Proofs.YtgelfgpcnaeecaaGreatDoor.M
open Go.RowKit Go.Shelf Go.Lib Go.Sort
set_option linter.unusedVariables false
set_option linter.unusedSimpArgs false

def zMA (e : Ed) : List Value:=[.int .i64 (e.1 : Int),.int .i64 (e.2.1 : Int),.int .i64 (e.2.2 : Int)]
def cfE (x y : Ed) : Int:=zO7 (edZ x) (edZ y)
theorem zPz {x y : Ed} : cfE x y < 0 ↔ zEg x y:=by
 constructor
 ·intro h
  apply Classical.byContradiction
  intro hn
  obtain ⟨a1,a2,a3⟩:=x
  obtain ⟨b1,b2,b3⟩:=y
  unfold cfE zO7 edZ at h
  unfold zEg at hn
  simp only at h hn
  rcases Nat.lt_trichotomy a1 b1 with g | g | g
  ·exact hn (.inl g)
  ·subst g
   rw [zDL] at h
   rcases Nat.lt_trichotomy a2 b2 with g | g | g
   ·exact hn (.inr ⟨rfl,.inl g⟩)
   ·subst g
    rw [zDL] at h
    rcases Nat.lt_trichotomy a3 b3 with g | g | g
    ·exact hn (.inr ⟨rfl,.inr ⟨rfl,g⟩⟩)
    ·subst g; rw [zDL] at h; simp [orL] at h
    ·rw [zIS g] at h; simp [orL] at h
   ·rw [zIS g] at h; simp [orL] at h
  ·rw [zIS g] at h; simp [orL] at h
 ·intro h
  show zO7 (edZ x) (edZ y) < 0
  rw [zM3 h]
  decide
instance (x y : Ed) : Decidable (zEg x y):=by unfold zEg; infer_instance
theorem zBu (x y : Ed) : ltOf cfE x y = decide (zEg x y):=by
 unfold ltOf
 rw [Bool.eq_iff_iff,decide_eq_true_eq,decide_eq_true_eq]
 exact zPz
theorem zUt : SWO (ltOf cfE) where
 irrefl x:=by rw [zBu]; simp only [decide_eq_false_iff_not,zEg]; omega
 trans x y z h1 h2:=by
  rw [zBu,decide_eq_true_eq] at *
  unfold zEg at *
  omega
 ntrans x y z h1 h2:=by
  rw [zBu,decide_eq_false_iff_not] at *
  unfold zEg at *
  omega
theorem zUW (x y : Ed) (h1 : ltOf cfE x y = false) (h2 : ltOf cfE y x = false) : x = y:=by
 rw [zBu,decide_eq_false_iff_not] at h1 h2
 obtain ⟨a1,a2,a3⟩:=x
 obtain ⟨b1,b2,b3⟩:=y
 unfold zEg at h1 h2
 simp only at h1 h2
 rw [show a1 = b1 by omega,show a2 = b2 by omega,show a3 = b3 by omega]
def zEZ (es : List Ed) : List Ed:=es.mergeSort fun x y=>!(ltOf cfE) y x
@[simp] theorem zTA (es : List Ed) : (zEZ es).length = es.length:=List.length_mergeSort es
theorem zOd {es : List Ed} {e : Ed} : e ∈ zEZ es ↔ e ∈ es:=List.mem_mergeSort
theorem zNm {es : List Ed} (hnd : es.Nodup) : ∀ i (h : i + 1 < (zEZ es).length),zEg (zEZ es)[i] (zEZ es)[i + 1]:=by
 have hp : (zEZ es).Pairwise fun x y=>(!(ltOf cfE) y x) = true:=List.pairwise_mergeSort (fun a b c h1 h2=>by
  simp only [Bool.not_eq_true',zBu,decide_eq_false_iff_not] at *
  unfold zEg at *
  omega) (fun a b=>by
  simp only [Bool.or_eq_true,Bool.not_eq_true',zBu,decide_eq_false_iff_not]
  unfold zEg
  omega) es
 have hn : (zEZ es).Nodup:=(List.mergeSort_perm es _).nodup_iff.2 hnd
 intro i h
 have h1:=List.pairwise_iff_getElem.1 hp i (i + 1) (by omega) h (by omega)
 have h2:=List.pairwise_iff_getElem.1 hn i (i + 1) (by omega) h (by omega)
 simp only [Bool.not_eq_true',zBu,decide_eq_false_iff_not] at h1
 generalize (zEZ es)[i] = x at *
 generalize (zEZ es)[i + 1] = y at *
 apply Classical.byContradiction
 intro hn
 exact h2 (zUW x y (by rw [zBu]; simpa using hn) (by rw [zBu]; simpa using h1))
def zRf (e : Ed) (r : Nat) : Int:=if r = 0 then (e.1 : Int) else if r = 1 then (e.2.1 : Int) else (e.2.2 : Int)
theorem zSX (e : Ed) {r : Nat} (h : r < 3) : (zMA e)[r]! = .int .i64 (zRf e r):=by
 rcases (by omega : r = 0 \/ r = 1 \/ r = 2) with rfl | rfl | rfl <;> rfl
theorem zKx : ∀ {es : List Ed} {j : Nat} (h : j < es.length * 3),(edC es)[j]? = some (.int .i64 (zRf (es[j / 3]'(by omega)) (j % 3)))
 | [],j,h=>by simp at h
 | e :: es,j,h=>by
  have hc : edC (e :: es) = [.int .i64 (e.1 : Int),.int .i64 (e.2.1 : Int),.int .i64 (e.2.2 : Int)] ++ edC es:=by simp [edC]
  rw [hc]
  by_cases h3 : j < 3
  ·rcases (by omega : j = 0 \/ j = 1 \/ j = 2) with rfl | rfl | rfl <;> rfl
  ·obtain ⟨i,rfl⟩ : ∃ i,j = i + 3:=⟨j - 3,by omega⟩
   have hi : i < es.length * 3:=by simp at h; omega
   rw [List.getElem?_append_right (by simp),show i + 3 - [T.int .i64 (e.1 : Int),.int .i64 (e.2.1 : Int),.int .i64 (e.2.2 : Int)].length = i by simp,zKx hi]
   have e1 : (i + 3) / 3 = i / 3 + 1:=by omega
   have e2 : (i + 3) % 3 = i % 3:=by omega
   simp only [e1,e2,List.getElem_cons_succ]
theorem zL9 {es : List Ed} {j : Nat} (h : j < es.length * 3) : (flatK zMA 3 es.toArray)[j]! = .int .i64 (zRf (es[j / 3]'(by omega)) (j % 3)):=by
 rw [get_flatK _ _ _ _ (by simpa using h),show es.toArray[j / 3]! = es[j / 3]'(by omega) by rw [getElem!_pos _ _ (by simp; omega)]; simp,zSX _ (by omega)]
theorem zRa {w : World} {g n cap : Nat} {e : TypeId} {xs : List Value} (h : w.ownsRow 0 e 3 (.slice (some ⟨g,0,none⟩) n cap) n xs) (F : Array Value) (hF : F.size = n * 3) (os : Array Obj) : (grow (putRow id w g 0 F) os).ownsRow 0 e 3 (.slice (some ⟨g,0,none⟩) n cap) n F.toList /\ Onl (fun k=>k = g) w (grow (putRow id w g 0 F) os):=by
 rcases h.2 with ⟨hc,-⟩ | ⟨g',cap',cur,he,-,hg,hnc,hcm,hcs,htake⟩
 ·cases hc
 ·simp only [Value.slice.injEq,Option.some.injEq,Addr.mk.injEq,true_and,and_true] at he
  obtain ⟨rfl,rfl⟩:=he
  have hnz : n * 3 <= cap * 3:=Nat.mul_le_mul_right 3 hnc
  have hlt : g < w.heap.size:=lt_of_block hg
  have hput : (putRow id w g 0 F).heap[g]? = some (.cells (putCells id 0 F cur) e (0,0)):=by
   unfold putRow mapBlock
   simp only [Array.getElem?_modify,if_true]
   rw [hg]
   rfl
  have hsz : (putCells id 0 F cur).size = cur.size:=by simp [putCells]
  refine ⟨⟨by simp [hF],.inr ⟨g,cap,putCells id 0 F cur,rfl,by omega,?_,hnc,hcm,by omega,?_⟩⟩,⟨rfl,rfl,rfl,by simp [grow,putRow,mapBlock],fun k hk hn=>?_⟩⟩
  ·show ((putRow id w g 0 F).heap ++ os)[g]? = _
   rw [Array.getElem?_append_left (by simpa using hlt)]
   exact hput
  ·apply List.ext_getElem?
   intro k
   by_cases hk : k < n * 3
   ·have hkc : k < cur.size:=by omega
    rw [List.getElem?_take,if_pos hk]
    simp [putCells,hkc,hF,hk]
   ·rw [List.getElem?_take,if_neg hk,List.getElem?_eq_none (by simp [hF]; omega)]
  ·show ((putRow id w g 0 F).heap ++ os)[k]? = _
   rw [Array.getElem?_append_left (by simpa using hk)]
   unfold putRow mapBlock
   simp only [Array.getElem?_modify]
   rw [if_neg (fun e=>hn e.symm)]
theorem zUK {vs : Array Value} (hn : vs.size = 2) : vs = #[vs.getD 0 undef,vs.getD 1 undef]:=by
 apply Array.ext
 ·simpa using hn
 ·intro i h1 h2
  have : i < 2:=by simpa using h2
  rcases (by omega : i = 0 \/ i = 1) with rfl | rfl <;> simp [Array.getD,h1]
theorem zM8 {w : World} {m e n : Nat} {v : Value} {xs : List Value} (h : w.ownsRow 0 e 3 v n xs) : (Sort.ahead w m).ownsRow 0 e 3 v n xs:=h
set_option maxHeartbeats 2000000 in
theorem zNj {es : List Ed} (h0 : 0 < es.length) (hl : es.length <= 100000) : FnK Tryz.prog 77 [.own 0 (es.length * 3),.fn 78 []] [.row 154 3 1 (edC es)] (.tup []) [.row 154 3 1 (edC (zEZ es))] [0]:=by
 intro w V ob vs hm hn hv
 have g0:=hv 0 _ rfl
 have g1:=hv 1 _ rfl
 rw [zUK hn]
 generalize vs.getD 0 undef = v0 at *
 generalize vs.getD 1 undef = v1 at *
 obtain ⟨e1,-⟩:=hm.own g0 (o:=.row 154 3 1 (edC es)) rfl (by simp [AObj.cnt])
 obtain ⟨hU,u,e3,hz,hlv,n,vals,how,hlen,hr⟩:=hm.obj 0 (.row 154 3 1 (edC es)) rfl
 rw [e1] at e3
 simp only [Option.some.injEq,Prod.mk.injEq] at e3
 obtain ⟨rfl,-⟩:=e3
 have hn3 : n = es.length:=by
  have:=how.1
  simp at hlen
  omega
 subst hn3
 cases g1 with
 | fn f vs' cs hn' hr' =>
  obtain rfl : vs' = #[]:=by
   apply Array.eq_empty_of_size_eq_zero
   simpa using hn'
  rcases how.2 with ⟨-,hc⟩ | ⟨g,cap,cur,hv0,-,hg,hnc,hcm,hcs,htake⟩
  ·omega
  ·subst hv0
   have hlt : g < w.heap.size:=lt_of_block hg
   have hcell : ∀ j,j < es.length * 3 -> w.cell? ⟨g,0 + j,none⟩ = some ((flatK zMA 3 es.toArray)[j]!):=fun j hj=>by
    have hjv : j < vals.length:=by simp at hlen; omega
    have h3:=how.cells (g:=g) rfl j vals[j] (by simp)
    rw [Addr.add_lit] at h3
    rw [h3,zL9 hj]
    have:=hr j _ vals[j] (zKx hj) (by simp)
    generalize vals[j] = x at this ⊢
    cases this
    rfl
   have hH : HoldsK zMA 3 w g 0 es.toArray:=fun j hj=>⟨hcell j (by simpa using hj),by simp [World.frozen?,hg]⟩
   have eg : ∀ args W,(callFunc 78 args).run Tryz.prog W = .ok (.enter 78 args) W:=enters_of Tryz.func78 (by kernel_rfl) rfl
   have hcmp : CmpLays Tryz.prog 78 #[] zMA 3 cfE g 0 es.toArray.size w:=fun m os dk hs x y=>zM1 (edZ x) (edZ y) _
   have hcall:=AnyQ.slices_SortFunc_total zTc 3 Tryz.isAgg154 Tryz.sizeOf154 zMA (fun _=>rfl) (fun x v hv=>by simp [zMA] at hv; rcases hv with rfl | rfl | rfl <;> rfl) cfE zUt 78 #[] g 0 cap es.toArray w eg hcmp hH hlt (by simp; omega) zUW
   have hcall : Calls Tryz.prog 77 #[.slice (some ⟨g,0,none⟩) es.length cap,.func (.func 78) #[] #[]] w _:=hcall
   refine hcall.mono ?_
   rintro e w' ⟨rfl,q,os,hw⟩
   have hw : w' = grow (putRow id (Sort.ahead w q) g 0 (flatK zMA 3 (zEZ es).toArray)) os:=hw
   obtain ⟨k1,k2⟩:=zRa (zM8 (m:=q) how) (flatK zMA 3 (zEZ es).toArray) (by simp) os
   rw [← hw] at k1 k2
   have k2 : Onl (fun k=>k = g) w w':=⟨k2.os,k2.tape,k2.output,k2.size,k2.block⟩
   obtain ⟨m1,m2⟩:=hm.step 0 (.slice (some ⟨g,0,none⟩) es.length cap) (.row 154 3 1 (edC (zEZ es))) (w':=w') (k2.mono (fun k _ hk=>⟨_,_,e1,by rw [hk]; rfl⟩)) (fun _=>⟨_,_,e1,by simp [AObj.cnt],fun _=>rfl⟩) (fun k hk=>.inl ⟨_,_,e1,hk⟩)
    (fun hx=>⟨hz,hlv,es.length,_,k1,by simp,fun j c x hj hx=>by
     have hlt : j < es.length * 3:=by
      have:=(List.getElem?_eq_some_iff.1 hj).1
      simpa using this
     have h5:=zKx (es:=zEZ es) (j:=j) (by simpa using hlt)
     rw [h5] at hj
     injection hj with hj
     subst hj
     have h6 : (flatK zMA 3 (zEZ es).toArray).toList[j]? = some ((flatK zMA 3 (zEZ es).toArray)[j]!):=by
      rw [getElem!_pos _ j (by simpa using hlt)]
      simp [hlt]
     rw [h6] at hx
     injection hx with hx
     subst hx
     rw [zL9 (by simpa using hlt)]
     exact .int _ _⟩)
   have hob : upd ob 0 (some (.slice (some ⟨g,0,none⟩) es.length cap,(AObj.row 154 3 1 (edC (zEZ es))).cnt)) = ob:=by
    funext k
    by_cases e : k = 0
    ·subst e
     rw [zY,e1]
     simp [AObj.cnt]
    ·rw [zo _ _ e]
   have hUU : (fun k=>k < [AObj.row 154 3 1 (edC es)].length \/ k = 0) = fun k=>k < [AObj.row 154 3 1 (edC (zEZ es))].length:=by
    funext k
    simp
   have hHH : upd (fun k=>[AObj.row 154 3 1 (edC es)][k]?) 0 (some (AObj.row 154 3 1 (edC (zEZ es)))) = fun k=>[AObj.row 154 3 1 (edC (zEZ es))][k]?:=by
    funext k
    by_cases e : k = 0
    ·subst e; rw [zY]; rfl
    ·rw [zo _ _ e,List.getElem?_eq_none (by simp; omega),List.getElem?_eq_none (by simp; omega)]
   rw [hob,hUU,hHH] at m1
   exact ⟨_,ob,rfl,m1,.tup _ _ rfl (fun i c hi=>by simp at hi),zIH (by simp [ghA1]),fun j hj=>rfl⟩
end Go.Proofs.YtgelfgpcnaeecaaGreatDoor.M

namespace Go.Proofs.YtgelfgpcnaeecaaGreatDoor.M
open Go.RowKit
set_option linter.unusedVariables false
set_option linter.unusedSimpArgs false
set_option maxRecDepth 100000
set_option maxHeartbeats 32000000

def zKc (nx : List (List Int)) (p x : Nat) : List Ed:=(List.range x).map fun a=>(p,a,zJ nx p a)
def toE (L : Nat) (nx : List (List Int)) : Nat -> List Ed
 | 0=>[]
 | p + 1=>toE L nx p ++ zKc nx p L
@[simp] theorem zS9 (nx : List (List Int)) (p x : Nat) : (zKc nx p x).length = x:=by simp [zKc]
theorem zMc (nx : List (List Int)) (p x : Nat) : zKc nx p (x + 1) = zKc nx p x ++ [(p,x,zJ nx p x)]:=by simp [zKc,List.range_succ]
@[simp] theorem zQf (L : Nat) (nx : List (List Int)) : ∀ p,(toE L nx p).length = p * L
 | 0=>by simp [toE]
 | p + 1=>by simp [toE,zQf L nx p,Nat.add_mul]
theorem zDr (L : Nat) (nx : List (List Int)) (e : Ed) : ∀ p,e ∈ toE L nx p ↔ e.1 < p /\ e.2.1 < L /\ zJ nx e.1 e.2.1 = e.2.2
 | 0=>by simp [toE]
 | p + 1=>by
  unfold toE
  rw [List.mem_append,zDr L nx e p]
  obtain ⟨a,b,c⟩:=e
  simp only [zKc,List.mem_map,List.mem_range,Prod.mk.injEq]
  constructor
  ·rintro (⟨h1,h2,h3⟩ | ⟨i,h1,rfl,rfl,h2⟩)
   ·exact ⟨by omega,h2,h3⟩
   ·exact ⟨by omega,h1,h2⟩
  ·rintro ⟨h1,h2,h3⟩
   by_cases h : a = p
   ·subst h
    exact .inr ⟨b,h2,rfl,rfl,h3⟩
   ·exact .inl ⟨by omega,h2,h3⟩
theorem zH6 (L : Nat) (nx : List (List Int)) : ∀ p,(toE L nx p).Pairwise zEg
 | 0=>by simp [toE]
 | p + 1=>by
  unfold toE
  refine List.pairwise_append.2 ⟨zH6 L nx p,?_,fun a ha b hb=>?_⟩
  ·unfold zKc
   rw [List.pairwise_map]
   exact List.Pairwise.imp (R:=fun a b=>a < b) (fun {a b} h=>.inr ⟨rfl,.inl h⟩) List.pairwise_lt_range
  ·have h1:=((zDr L nx a p).1 ha).1
   simp only [zKc,List.mem_map,List.mem_range] at hb
   obtain ⟨i,-,rfl⟩:=hb
   exact .inl h1
theorem zR3 {L m s : Nat} {bs : List Bool} {nx : List (List Int)} (hD : DfL L m s bs nx) : zTM L m (toE L nx m) :=
 ⟨fun e he=>by
  obtain ⟨h1,h2,h3⟩:=(zDr L nx e m).1 he
  exact ⟨h1,h2,by rw [← h3]; exact (hD.rt.step h1 h2).1⟩,fun i h=>List.pairwise_iff_getElem.1 (zH6 L nx m) i (i + 1) (by omega) h (by omega)⟩
theorem zOi {L m s : Nat} {bs : List Bool} {nx : List (List Int)} (hD : DfL L m s bs nx) (hL : 1 <= L) (hL2 : L <= 6) (hm : m <= 63) : FnA Tryz.prog 46 [dfT 0 L s bs nx] (.tup [nfT 2 L m (2 ^ s) (zFY m bs) (toE L nx m),.t 2 (.int .i64 0)]):=by
 have hbl:=hD.bl
 have hnl:=hD.nl
 have hs:=hD.st
 have hsh:=zD3 (i:=s) (by omega)
 have h64 : ¬ (64 : Int) < (m : Int):=by omega
 obtain ⟨st,hst⟩ : ∃ st,st = 2 ^ s:=⟨_,rfl⟩
 rw [← hst] at hsh ⊢
 refine fI 68 #[.cell 2 114,.tmp 3] Tryz.func46 rfl ?_
 refine rg1 (an @dfT.eq_1 @zE.eq_1) ?_
 refine zA ?_
 refine rc1 (zAY hD hL hL2 (by omega)) (an @dfT.eq_1 @zE.eq_1) ?_
 refine rg0 ?_
 refine cS0 ?_
 refine zA ?_
 refine rg1 (an @zE.eq_1 (an @hbl @h64)) ?_
 refine cS1 @h64 ?_
 refine rd1 (an @zE.eq_1 (an @hbl @hsh)) ?_
 refine zA ?_
 refine rg0 ?_
 refine zB ?_
 refine awp_loop (fun p : Nat=>mkS [(1,.ptr 0 0 4),(2,.ptr 1 0 5),(5,.ptr 2 0 5),(31,.t 0 (rows nx)),(32,.t 2 (.int .i64 m)),(33,.t 2 (.int .i64 p))]
   [(0,dfO L s bs nx),(1,.box 114 [.any,.any,.any,.any,.any]),(2,.box 114 [.t 2 (.int .i64 L),.t 2 (.int .i64 m),.t 2 (.int .u64 (st : Nat)),.t 2 (.int .u64 (zFY p bs : Nat)),.own 3 (p * L * 3)]),(3,.row 154 3 2 (edC (toE L nx p)))] 4 68 [.any]) (fun p=>p <= m) (fun p=>m - p) ?_ ?_
 ·refine ⟨0,by omega,?_⟩
  refine zQ [(0,some 0),(1,some 1000000),(2,some 21000000),(3,none)] rfl ?_ ?_ ?_ ?_
  all_goals try simp [ints,dfO,zE,rows,hnl,zFY,mkM,toE,edC]
 intro p hp
 refine rg0 ?_
 refine zA ?_
 by_cases hpl : p < m
 ·have hpx : p < nx.length:=by omega
  have hpb : p < bs.length:=by omega
  obtain ⟨hrl,-⟩:=hD.row nx[p] (by simp)
  have hpl2 : p * L * 3 <= 63 * 6 * 3:=Nat.mul_le_mul_right 3 (Nat.mul_le_mul (by omega) hL2)
  have hbg : bs.getD p false = bs[p]:=by rw [List.getD_eq_getElem?_getD,List.getElem?_eq_getElem hpb]; rfl
  have hfl : zFY p bs < 2 ^ 63:=Nat.lt_of_lt_of_le (zBI _ _) (Nat.pow_le_pow_right (by omega) (by omega))
  have hms : zFY (p + 1) bs = if bs[p] = true then zFY p bs ||| 2 ^ p else zFY p bs:=by rw [← hbg]; rfl
  refine cK1 @hpl ?_
  refine zA ?_
  refine zB ?_
  refine rg1 (an @hpx @hrl) ?_
  refine zCv (fun σ'=>Wk σ' (mkS [(1,.ptr 0 0 4),(2,.ptr 1 0 5),(5,.ptr 2 0 5),(6,.t 2 (.int .i64 p)),(7,.t 0 (ints nx[p])),(31,.t 0 (rows nx)),(32,.t 2 (.int .i64 m)),(33,.t 2 (.int .i64 p))]
   [(0,dfO L s bs nx),(1,.box 114 [.any,.any,.any,.any,.any]),(2,.box 114 [.t 2 (.int .i64 L),.t 2 (.int .i64 m),.t 2 (.int .u64 (st : Nat)),.t 2 (.int .u64 (zFY (p + 1) bs : Nat)),.own 3 (p * L * 3)]),(3,.row 154 3 2 (edC (toE L nx p)))] 4 68 [.any])) ?_ ?_
  ·intro σ' hw
   refine zX hw ?_
   clear hw
   refine rg0 ?_
   refine zB ?_
   refine awp_loop (fun x : Nat=>mkS [(1,.ptr 0 0 4),(2,.ptr 1 0 5),(5,.ptr 2 0 5),(6,.t 2 (.int .i64 p)),(31,.t 0 (rows nx)),(32,.t 2 (.int .i64 m)),(33,.t 2 (.int .i64 p)),(49,.t 0 (ints nx[p])),(50,.t 2 (.int .i64 L)),(51,.t 2 (.int .i64 x))]
    [(0,dfO L s bs nx),(1,.box 114 [.any,.any,.any,.any,.any]),(2,.box 114 [.t 2 (.int .i64 L),.t 2 (.int .i64 m),.t 2 (.int .u64 (st : Nat)),.t 2 (.int .u64 (zFY (p + 1) bs : Nat)),.own 3 ((p * L + x) * 3)]),(3,.row 154 3 2 (edC (toE L nx p ++ zKc nx p x)))] 4 68 [.any]) (fun x=>x <= L) (fun x=>L - x) ?_ ?_
   ·refine ⟨0,by omega,?_⟩
    exact kw1 [(0,some 0),(1,some 1),(2,some 2),(3,some 3)] (an @dfO.eq_1 (an @zE.eq_1 (an @rows.eq_1 (an @hrl @zKc.eq_1))))
   intro x hx
   refine rg0 ?_
   refine zA ?_
   by_cases hxl : x < L
   ·obtain ⟨s1,s2,s3,s4⟩:=hD.rt.step hpl hxl
    have hel : (edC (toE L nx p ++ zKc nx p x)).length = (p * L + x) * 3:=by simp
    refine cK1 @hxl ?_
    refine zA ?_
    refine zB ?_
    refine rg1 (an @s3 @s4) ?_
    refine rr1 @hel ?_
    show awp _ _ _ _
    refine rr0 ?_
    refine ⟨x + 1,by omega,by omega,?_⟩
    refine zQ [(0,some 0),(1,some 1),(2,some 2),(3,some 3)] rfl ?_ ?_ ?_ ?_
    all_goals try simp [ints,dfO,zE,rows,zMc,zI1,← List.append_assoc]
    omega
   ·obtain rfl : x = L:=by omega
    refine cF0 ?_
    refine zG ?_
    show awp _ _ _ _
    refine rr0 ?_
    refine ⟨p + 1,by omega,by omega,?_⟩
    refine zQ [(0,some 0),(1,some 1),(2,some 2),(3,some 3)] rfl ?_ ?_ ?_ ?_
    all_goals try simp [ints,dfO,zE,rows,toE,Nat.add_mul]
  ·refine rg1 (an @dfO.eq_1 (an @zE.eq_1 @hpb)) ?_
   cases hb : bs[p] with
   | true =>
    rw [hb,if_pos rfl] at hms
    have hsh2:=zD3 (i:=p) (by omega)
    have hb2:=zG6 (i:=p) (by omega)
    have hor:=orN (x:=zFY p bs) (y:=2 ^ p) (by omega) hb2
    rw [← hms] at hor
    generalize 2 ^ p = d at hsh2 hor
    refine cT1 @hb ?_
    refine re1 (an @hsh2 @hor) ?_
    exact kw1 [(0,some 0),(1,some 1),(2,some 2),(3,some 3)] (an @dfO.eq_1 (an @zE.eq_1 @rows.eq_1))
   | false =>
    rw [hb,if_neg (by simp)] at hms
    refine cF1 @hb ?_
    refine zb ?_
    exact kw1 [(0,some 0),(1,some 1),(2,some 2),(3,some 3)] (an @dfO.eq_1 (an @zE.eq_1 (an @rows.eq_1 @hms)))
 ·obtain rfl : p = m:=by omega
  refine cF0 ?_
  refine zG ?_
  show awp _ _ _ _
  refine rg0 ?_
  refine zC ?_
  refine ⟨⟨.inr rfl,_,[],(by simp; rfl),trivial,trivial,by simp [nfT,dfT],?_⟩,by simp [nfT,dfT]⟩
  simp [ints,rows,nfT,dfT]
def zEY (e : Ed) : Ed:=(e.2.2,e.2.1,e.1)
def zEQ (es : List Ed) (k : Nat) : List Ed:=(es.take k).map zEY
theorem zKZ {es : List Ed} {k : Nat} (h : k < es.length) : zEQ es (k + 1) = zEQ es k ++ [zEY es[k]]:=by
 unfold zEQ
 rw [List.take_succ_eq_append_getElem h,List.map_append]
 rfl
theorem zKr {es : List Ed} {k : Nat} (h : k <= es.length) : (zEQ es k).length = k:=by simp [zEQ]; omega
theorem zKT (es : List Ed) : zEQ es 0 = []:=by simp [zEQ]
theorem zMU (es : List Ed) : zEQ es es.length = es.map zEY:=by simp [zEQ]
theorem zIl {L m st fi : Nat} {es : List Ed} (hE : zTM L m es) (hL : 1 <= L) (hL2 : L <= 6) (hm : m <= 63) (hs : st < 2 ^ m) (hf : fi < 2 ^ m) (h0 : 0 < es.length) (hl : es.length <= 400) : FnA Tryz.prog 48 [nfT 0 L m st fi es] (nfT 2 L m fi st (zEZ (es.map zEY))):=by
 have hsort:=zNj (es:=es.map zEY) (by simpa using h0) (by simp; omega)
 rw [List.length_map] at hsort
 refine fI 43 #[.cell 2 114] Tryz.func48 rfl ?_
 refine zI fun K hK=>?_
 simp (maxSteps:=2000000) (disch:=omega) [ints,rows,scal,zK,wr8,nfT]
 and_intros <;> try first | apply hK | omega | rfl | simp <;> omega
 refine zA ?_
 refine rc1 (zDU hE hL hL2 hm hs hf (by omega)) @nfT.eq_1 ?_
 refine cS0 ?_
 refine rg0 ?_
 refine zA ?_
 refine rg0 ?_
 refine zB ?_
 refine awp_loop (fun k : Nat=>mkS [(2,.ptr 1 0 5),(3,.ptr 2 0 5),(20,.t 0 (.sl 3 (edC es))),(21,.t 2 (.int .i64 es.length)),(22,.t 2 (.int .i64 k))]
   [(1,.box 114 [.any,.any,.any,.any,.any]),(2,.box 114 [.t 2 (.int .i64 L),.t 2 (.int .i64 m),.t 2 (.int .u64 (fi : Nat)),.t 2 (.int .u64 (st : Nat)),.own 3 (k * 3)]),(3,.row 154 3 2 (edC (zEQ es k)))] 4 43 [.any]) (fun k=>k <= es.length) (fun k=>es.length - k) ?_ ?_
 ·refine ⟨0,by omega,?_⟩
  exact kw1 [(1,some 1000000),(2,some 14000000),(3,none)] (an @edC.eq_1 @zKT)
 intro k hk
 refine rg0 ?_
 refine zA ?_
 by_cases hkl : k < es.length
 ·have hat:=zOo hkl
  have hin:=zQI hkl
  have htk:=zKZ hkl
  have hel : (zEQ es k).length = k:=zKr (by omega)
  refine cK1 @hkl ?_
  refine zA ?_
  refine zB ?_
  refine rg1 (an @hat @hin) ?_
  refine rr1 @hel ?_
  show awp _ _ _ _
  refine rr0 ?_
  refine ⟨k + 1,by omega,by omega,?_⟩
  exact kw1 [(1,some 1),(2,some 2),(3,some 3)] (an @htk (an @zI1 (an @zEY.eq_1 (an @Nat.add_mul @hel))))
 ·obtain rfl : k = es.length:=by omega
  refine cF0 ?_
  refine zG ?_
  show awp _ _ _ _
  rw [zMU]
  refine zI fun K hK=>?_
  simp (maxSteps:=2000000) (disch:=omega) [ints,rows,scal,zK,wr8]
  (repeat' apply And.intro)
  all_goals (try omega)
  refine zAc (caps:=[]) (hsort) [3] [3] 2 rfl rfl rfl rfl (by kernel_rfl) (by simp) ?_ ?_ (by simp) rfl (by simp) ⟨.inr (.inr ⟨rfl,by simp,by simp⟩),trivial⟩ (by simp) ?_
  ·simp [scal,rows,ints]
  ·simp [scal,rows,ints]
  simp (maxSteps:=2000000) (disch:=omega) [ints,rows,scal,zK,wr8]
  (repeat' first | apply hK | apply And.intro) <;> try first | omega | rfl | (simp <;> omega)
  refine rg0 ?_
  refine zC ?_
  refine ⟨⟨.inr rfl,_,[],(by simp; rfl),trivial,trivial,by simp [nfT],?_⟩,by simp [nfT]⟩
  simp [ints,rows,nfT]
def zNK (L m : Nat) (nx : List (List Int)) : List Ed:=zEZ ((toE L nx m).map zEY)
theorem zRY {L m s : Nat} {bs : List Bool} {nx : List (List Int)} (hD : DfL L m s bs nx) (hL2 : L <= 6) (hm : m <= 63) : zTe L m nx (zNK L m nx) /\ zTM L m (zNK L m nx) /\ (zNK L m nx).length = m * L:=by
 have hmem : ∀ e : Ed,e ∈ zNK L m nx ↔ e.1 < m /\ e.2.1 < L /\ e.2.2 < m /\ zJ nx e.2.2 e.2.1 = e.1:=fun e=>by
  obtain ⟨a,b,c⟩:=e
  unfold zNK
  rw [zOd,List.mem_map]
  constructor
  ·rintro ⟨⟨x,y,z⟩,h,e⟩
   simp only [zEY,Prod.mk.injEq] at e
   obtain ⟨rfl,rfl,rfl⟩:=e
   obtain ⟨h1,h2,h3⟩:=(zDr L nx _ m).1 h
   simp only at h1 h2 h3 ⊢
   exact ⟨by rw [← h3]; exact (hD.rt.step h1 h2).1,h2,h1,h3⟩
  ·rintro ⟨h1,h2,h3,h4⟩
   exact ⟨(c,b,a),(zDr L nx _ m).2 ⟨h3,h2,h4⟩,rfl⟩
 have hlen : (zNK L m nx).length = m * L:=by simp [zNK]
 have hle : m * L <= 63 * 6:=Nat.mul_le_mul hm hL2
 refine ⟨⟨hmem,by omega⟩,⟨fun e he=>⟨((hmem e).1 he).1,((hmem e).1 he).2.1,((hmem e).1 he).2.2.1⟩,zNm ?_⟩,hlen⟩
 have hp:=zH6 L nx m
 rw [List.Nodup,List.pairwise_map]
 refine List.Pairwise.imp (R:=zEg) (S:=fun a b=>zEY a ≠ zEY b) (fun {a b} h e=>zK8 h ?_) hp
 obtain ⟨a1,a2,a3⟩:=a
 obtain ⟨b1,b2,b3⟩:=b
 simp only [zEY,Prod.mk.injEq] at e
 rw [e.1,e.2.1,e.2.2]
theorem zK2 {L m s st : Nat} {bs : List Bool} {nx : List (List Int)} (hD : DfL L m s bs nx) (hL : 1 <= L) (hL2 : L <= 6) (hm : m <= 9) (hs : st < 2 ^ m) : ∃ res,(∃ ss bs' nx',ExI L (2 ^ m) st (zKf m) (zFZ L m nx) ss bs' nx' ss.length /\ FO L (zFZ L m nx) ss (ss.length * L) /\ res = .tup [dfT 2 L 0 bs' nx',.t 2 (.sl 1 (zCS ss)),.t 2 (.int .i64 0)]) /\ FnS Tryz.prog 75 [nfT 0 L m st 1 (zNK L m nx)] [] res []:=by
 obtain ⟨hR,hE,hlen⟩:=zRY hD hL2 (by omega)
 have hle : m * L <= 9 * 6:=Nat.mul_le_mul hm hL2
 have h1m : 1 < 2 ^ m:=Nat.one_lt_two_pow (by have:=hD.n1; omega)
 have hv:=zDU hE hL hL2 (by omega) hs h1m (by omega)
 have hst:=zNa (st:=st) (fi:=1) hD hL hL2 (by omega) hR
 obtain ⟨_,⟨ss,bs',nx',hX,hF,rfl⟩,hex⟩:=zIQ (st:=st) (ed:=.sl 3 (edC (zNK L m nx))) hD hL hL2 hm hs
 refine zk Tryz.func75 rfl (by simp [Tryz.f75]) ?_
 rw [show Tryz.f75.ntmps = 23 from rfl,show Tryz.f75.results = #[.cell 2 28,.tmp 3,.tmp 4] from rfl]
 refine rg1 @nfT.eq_1 ?_
 refine zA ?_
 refine rc1 hv @nfT.eq_1 ?_
 refine rg0 ?_
 refine cS0 ?_
 refine zp (by kernel_rfl) (fun K hK=>?_)
 simp (maxSteps:=2000000) (disch:=omega) [ints,rows,scal,zK,wr8]
 (repeat' apply And.intro)
 all_goals (try omega)
 refine zS (caps:=[]) (hst) [] [14000000] 2 rfl rfl rfl rfl (by kernel_rfl) (by simp) ?_ ?_ (by simp) rfl (by simp) ⟨.inl ⟨by omega,by omega⟩,trivial⟩ (by simp [nfT]) ?_
 ·simp [scal,rows,ints,nfT]
 ·trivial
 simp (maxSteps:=2000000) (disch:=omega) [ints,rows,scal,zK,wr8]
 (repeat' apply And.intro)
 all_goals (try omega)
 refine zS (caps:=[]) (hex) [] [] 2 rfl rfl rfl rfl (by kernel_rfl) (by simp) ?_ trivial trivial rfl trivial trivial (by simp) ?_
 ·simp [scal,rows,ints,nfC,zEf]
 simp (maxSteps:=2000000) (disch:=omega) [ints,rows,scal,zK,wr8]
 and_intros <;> try first | apply hK | (show zA8 _ _ = true; kernel_rfl) | (show okH _ _ _ = true; kernel_rfl) | omega | rfl | simp <;> omega
 refine zC ?_
 refine ⟨_,⟨ss,bs',nx',hX,hF,rfl⟩,?_⟩
 refine ⟨⟨.inr rfl,_,[],(by simp; rfl),trivial,trivial,by simp [nfT,dfT,zE],?_⟩,by simp [nfT,dfT,zE]⟩
 simp [ints,rows,nfT,dfT,zE]
def RvX (L m : Nat) (bs : List Bool) (nx : List (List Int)) (m2 : Nat) (b2 : List Bool) (nx2 : List (List Int)) : Prop:=MnD L m2 b2 nx2 /\ m2 <= 512 /\ ∀ w,(∀ a ∈ w,a < L) -> zAf b2 nx2 0 w = zAf bs nx 0 w.reverse
theorem zHu {L m : Nat} {bs : List Bool} {nx : List (List Int)} (hD : DfL L m 0 bs nx) (hL : 1 <= L) (hL2 : L <= 6) (hm : m <= 9) : ∃ res,(∃ m2 b2 nx2,RvX L m bs nx m2 b2 nx2 /\ res = .tup [dfT 2 L 0 b2 nx2,.t 2 (.int .i64 0)]) /\ FnS Tryz.prog 47 [nfT 0 L m (zFY m bs) 1 (zNK L m nx)] [] res []:=by
 have hfm : zFY m bs < 2 ^ m:=zBI _ _
 obtain ⟨_,⟨ss,bs',nx',hX,hF,rfl⟩,hsub⟩:=zK2 hD hL hL2 hm hfm
 obtain ⟨hX1,hX2⟩:=hX.fin
 have hn : ss.length <= 512:=Nat.le_trans hX.len (Nat.le_trans (Nat.pow_le_pow_right (by omega) hm) (by decide))
 obtain ⟨_,⟨m2,b2,nx2,hM,rfl⟩,hmin⟩:=zBW hX1 hL hL2 hn
 have hRv : RvX L m bs nx m2 b2 nx2:=⟨hM.mn,Nat.le_trans hM.le hn,fun w hw=>by rw [hM.zKN w hw,hX2 w hw,zRM hD hw]⟩
 refine zk Tryz.func47 rfl (by simp [Tryz.f47]) ?_
 rw [show Tryz.f47.ntmps = 19 from rfl,show Tryz.f47.results = #[.cell 2 28,.tmp 3] from rfl]
 refine rg1 @nfT.eq_1 ?_
 refine rc1 hsub (an @nfT.eq_1 (an @dfT.eq_1 @zE.eq_1)) ?_
 refine zA ?_
 refine rg0 ?_
 refine cS0 ?_
 refine rc1 hmin (an @dfT.eq_1 @zE.eq_1) ?_
 refine zC ?_
 refine ⟨_,⟨m2,b2,nx2,hRv,rfl⟩,?_⟩
 refine ⟨⟨.inr rfl,_,[],(by simp; rfl),trivial,trivial,by simp [nfT,dfT,zE],?_⟩,by simp [nfT,dfT,zE]⟩
 simp [ints,rows,nfT,dfT,zE]
theorem zHh {L n s : Nat} {bs : List Bool} {nxt : List (List Int)} (h : DfL L n s bs nxt) (hL : 1 <= L) (hL2 : L <= 6) (hn : n <= 512) : ∃ res,(∃ m b2 nx,MiX L n s bs nxt m b2 nx /\ res = .tup [dfT 2 L 0 b2 nx,.t 2 (.int .i64 0)]) /\ FnS Tryz.prog 45 [dfT 0 L s bs nxt] [] res []:=by
 obtain ⟨_,⟨m,b2,nx,hX,rfl⟩,hmin⟩:=zBW h hL hL2 hn
 refine zk Tryz.func45 rfl (by simp [Tryz.f45]) ?_
 rw [show Tryz.f45.ntmps = 13 from rfl,show Tryz.f45.results = #[.cell 2 28,.tmp 3] from rfl]
 refine rg1 (an @dfT.eq_1 @zE.eq_1) ?_
 refine zA ?_
 refine rc1 (zAY h hL hL2 hn) (an @dfT.eq_1 @zE.eq_1) ?_
 refine rg0 ?_
 refine cS0 ?_
 refine rc1 hmin (an @dfT.eq_1 @zE.eq_1) ?_
 refine zC ?_
 refine ⟨_,⟨m,b2,nx,hX,rfl⟩,?_⟩
 refine ⟨⟨.inr rfl,_,[],(by simp; rfl),trivial,trivial,by simp [dfT,zE],?_⟩,by simp [dfT,zE]⟩
 simp [ints,rows,dfT,zE]
theorem zIT {L n s : Nat} {bs : List Bool} {nxt : List (List Int)} (h : DfL L n s bs nxt) (hL : 1 <= L) (hL2 : L <= 6) (hn : n <= 9) : ∃ res,(∃ m b1 nx m2 b2 nx2,MiX L n s bs nxt m b1 nx /\ RvX L m b1 nx m2 b2 nx2 /\ res = .tup [dfT 2 L 0 b2 nx2,.t 2 (.int .i64 0)]) /\ FnS Tryz.prog 29 [dfT 0 L s bs nxt] [] res []:=by
 obtain ⟨_,⟨m,b1,nx,hX,rfl⟩,hmin⟩:=zHh h hL hL2 (by omega)
 have hD:=hX.mn.df
 have hm : m <= 9:=Nat.le_trans hX.le hn
 have hm1:=hD.n1
 have hmL : 1 * 1 <= m * L:=Nat.mul_le_mul hm1 hL
 have hmL2 : m * L <= 9 * 6:=Nat.mul_le_mul hm hL2
 have hto:=zOi hD hL hL2 (by omega)
 have hrv:=zIl (zR3 hD) hL hL2 (by omega) (st:=2 ^ 0) (fi:=zFY m b1) (Nat.pow_lt_pow_right (by omega) (by omega)) (zBI _ _) (by simp; omega) (by simp; omega)
 have hrv : FnA Tryz.prog 48 [nfT 0 L m 1 (zFY m b1) (toE L nx m)] (nfT 2 L m (zFY m b1) 1 (zNK L m nx)):=hrv
 have hto : FnA Tryz.prog 46 [dfT 0 L 0 b1 nx] (.tup [nfT 2 L m 1 (zFY m b1) (toE L nx m),.t 2 (.int .i64 0)]):=hto
 obtain ⟨_,⟨m2,b2,nx2,hR,rfl⟩,hlg⟩:=zHu hD hL hL2 hm
 refine zk Tryz.func29 rfl (by simp [Tryz.f29]) ?_
 rw [show Tryz.f29.ntmps = 30 from rfl,show Tryz.f29.results = #[.cell 2 28,.tmp 3] from rfl]
 refine rg1 (an @dfT.eq_1 @zE.eq_1) ?_
 refine rc1 hmin (an @dfT.eq_1 @zE.eq_1) ?_
 refine zA ?_
 refine rg0 ?_
 refine cS0 ?_
 refine rc1 hto (an @dfT.eq_1 (an @zE.eq_1 @nfT.eq_1)) ?_
 refine zA ?_
 refine rg0 ?_
 refine cS0 ?_
 refine zI fun K hK=>?_
 simp (maxSteps:=2000000) (disch:=omega) [ints,rows,scal,zK,wr8]
 (repeat' apply And.intro)
 all_goals (try omega)
 refine zD (caps:=[]) (hrv) [] [] 2 rfl rfl rfl rfl (by kernel_rfl) (by simp) ?_ trivial trivial rfl trivial trivial (by simp) ?_
 ·simp [scal,rows,ints,nfT]
 simp (maxSteps:=2000000) (disch:=omega) [ints,rows,scal,zK,wr8,nfT]
 (repeat' apply And.intro)
 all_goals (try omega)
 refine zD (caps:=[]) (hlg) [] [] 2 rfl rfl rfl rfl (by kernel_rfl) (by simp) ?_ trivial trivial rfl trivial trivial (by simp) ?_
 ·simp [scal,rows,ints,nfT]
 simp (maxSteps:=2000000) (disch:=omega) [ints,rows,scal,zK,wr8,dfT,zE]
 and_intros <;> try first | apply hK | omega | rfl | simp <;> omega
 refine zC ?_
 refine ⟨_,⟨m,b1,nx,m2,b2,nx2,hX,hR,rfl⟩,?_⟩
 refine ⟨⟨.inr rfl,_,[],(by simp; rfl),trivial,trivial,by simp [dfT,zE],?_⟩,by simp [dfT,zE]⟩
 simp [ints,rows,dfT,zE]
def zOB (m : Mo) : Mo:=(m.1.reverse,m.2.reverse)
def zQA (r : List Mo × Int) : List Mo × Int:=(r.1.map zOB,r.2)
def XR (r : List Nat) (k : Nat) : Int:=((r.getD k 0 : Nat) : Int)
theorem zLe (r : List Nat) : niT r = zF9 r.length (XR r):=by
 apply List.ext_getElem?
 intro k
 by_cases h : k < r.length
 ·rw [zIa _ h]
  simp [niT,nI,h,XR]
 ·rw [List.getElem?_eq_none (by simp; omega),List.getElem?_eq_none (by simp; omega)]
theorem zRW (r : List Nat) : niT r.reverse = zF9 r.length fun k=>XR r (r.length - 1 - k):=by
 rw [zLe,List.length_reverse]
 unfold zF9
 refine zO (fun k hk=>?_)
 unfold XR
 show T.int .i64 ((r.reverse.getD k 0 : Nat) : Int) = T.int .i64 ((r.getD (r.length - 1 - k) 0 : Nat) : Int)
 rw [List.getD_eq_getElem?_getD,List.getD_eq_getElem?_getD,List.getElem?_reverse hk]
theorem zDW (r : List Nat) (h : r.length <= 100000) : FnK Tryz.prog 30 [.own 0 r.length] [.row 3 1 1 (niT r)] (.tup []) [.row 3 1 1 (niT r.reverse)] [0]:=by
 rw [zRW,zLe]
 exact zH4 r.length (XR r) h
theorem zOF {l : List Mo} {j : Nat} (h : j < l.length * 2) : moR (l.map zOB) j = (moR l j).reverse:=by
 have h2 : j / 2 < l.length:=by omega
 unfold moR
 rw [List.getD_eq_getElem?_getD,List.getD_eq_getElem?_getD,List.getElem?_map,List.getElem?_eq_getElem h2]
 by_cases e : j % 2 = 0 <;> simp [e,zOB]
theorem zLc (l : List Mo) : zGC (l.map zOB) = tab (l.length * 2) fun j=>.sl 1 (niT (moR l j).reverse):=by
 rw [zJE,List.length_map]
 exact zO (fun j hj=>by rw [zOF hj])
def zGA (l : List Mo) (k j : Nat) : AObj:=.row 3 1 2 (niT (if j < k then (moR l j).reverse else moR l j))
theorem zQw {l : List Mo} {b i : Nat} (h : i < l.length) : List.take 2 (List.drop (i * 2) (zA7 b l)) = [AV.own (b + i * 2) (moR l (i * 2)).length,AV.own (b + (i * 2 + 1)) (moR l (i * 2 + 1)).length]:=by
 apply List.ext_getElem?
 intro k
 rw [List.getElem?_take]
 by_cases hk : k < 2
 ·rw [if_pos hk,List.getElem?_drop,zA7,zP _ (by omega)]
  rcases (by omega : k = 0 \/ k = 1) with rfl | rfl <;> rfl
 ·rw [if_neg hk,List.getElem?_eq_none (by simp; omega)]
theorem zRu {a B n : Nat} : (poF [a] B n)[0]?.getD 0 = a:=rfl
def zUd (l : List Mo) : Prop:=∀ j,j < l.length * 2 -> (moR l j).length <= 100000
theorem zOc {L n s : Nat} {bs : List Bool} {nxt : List (List Int)} (h : DfL L n s bs nxt) (hL : 1 <= L) (hL2 : L <= 6) (hn : n <= 9) (hsh : ∀ m b nx l,zA2 L m b nx = (l,0) -> zUd l) : ∃ res,(∃ m b1 nx m2 b2 nx2,MiX L n s bs nxt m b1 nx /\ RvX L m b1 nx m2 b2 nx2 /\ (res = zKg (zQA (zA2 L m2 b2 nx2)) \/ ∃ e,zA2 L m2 b2 nx2 = ([],e) /\ res = zP6 e)) /\ FnS Tryz.prog 11 [dfT 0 L s bs nxt] [] res []:=by
 obtain ⟨_,⟨m,b1,nx,m2,b2,nx2,hX,hR,rfl⟩,hrev⟩:=zIT h hL hL2 hn
 have hD2:=hR.1.df
 obtain ⟨res,H',⟨m3,b3,nx3,hX3,hr⟩,hright⟩:=zG1 hD2 hL hL2 hR.2.1
 obtain ⟨rfl,rfl,rfl⟩:=hX3.mn.eq (by omega) hR.1 hX3.zKN
 refine zk Tryz.func11 rfl (by simp [Tryz.f11]) ?_
 rw [show Tryz.f11.ntmps = 39 from rfl,show Tryz.f11.results = #[.tmp 2,.tmp 3] from rfl]
 refine rg1 (an @dfT.eq_1 @zE.eq_1) ?_
 refine rc1 hrev (an @dfT.eq_1 @zE.eq_1) ?_
 refine zA ?_
 refine rg0 ?_
 refine cS0 ?_
 rcases hr with ⟨l,e1,hl400,rfl,rfl⟩ | ⟨e,he0,e1,rfl,rfl⟩
 ·have hs:=hsh _ _ _ _ e1
  refine zI fun K hK=>?_
  simp (maxSteps:=2000000) (disch:=omega) [ints,rows,scal,zK,wr8]
  (repeat' apply And.intro)
  all_goals (try omega)
  refine zC7 (caps:=[]) (hright) [] [14000000] 14000010 2 rfl rfl rfl rfl (by kernel_rfl) (by simp) ?_ ?_ (by simp) rfl (by simp) ⟨.inl ⟨by omega,by omega⟩,trivial⟩ (by omega) (by intro k hk; simp at hk; omega) (by simp [dfT,zE]) (fun j hj=>rfl) ?_
  ·simp +contextual (disch:=omega) [zL,zM,zV,zW,zw,List.getElem?_cons_succ,Option.getD_some,callF,ints,scal,tpO,zF,zH,poF,scal,rows,ints,zBe,dfT,zE]
  ·trivial
  simp (maxSteps:=2000000) (disch:=omega) [ints,rows,scal,zK,wr8,callF]
  and_intros <;> try first | apply hK | omega | rfl | simp <;> omega
  refine zX (σ':=mkF [(5,.t 2 (.int .i64 0)),(6,.own 1 (l.length * 2))] [(1,.vec 83 2 2 (zA7 100 l))] 100 (l.length * 2) (zGA l 0) 2000 39 [.any]) ?_ ?_
  ·refine zAG [(1,some 14000000)] (fun j=>14000010 + j) rfl ?_ ?_ ?_ ?_ ?_ ?_
   all_goals try simp +contextual (disch:=omega) [wkE,wkP,wkPs,wkH,wkO,keysNd,unm,zAB,zr,dels,zBa,mkS,mkF,zl,zi,zj,zf,zAN,zAV,zBd,zAM,zAW,zA3,zAs,zL,zM,zV,zW,zw,List.getElem?_cons_zero,List.getElem?_cons_succ,Option.getD_some,zBz,callS,callF,zA0,addL,delL,outV,outVs,outO,ghA,ghA1,ints,scal,tpO,zF,zH,zA7,zGA,zRX,callF,zRu,zCT (show 1 = [14000000].length from rfl),dfT]
   all_goals (try omega)
  refine zA ?_
  refine rg0 ?_
  refine cS0 ?_
  refine zA ?_
  refine rg0 ?_
  refine zB ?_
  refine awp_loop (fun i : Nat=>mkF [(6,.own 1 (l.length * 2)),(25,.own 1 (l.length * 2)),(26,.t 2 (.int .i64 l.length)),(27,.t 2 (.int .i64 i))] [(1,.vec 83 2 2 (zA7 100 l))] 100 (l.length * 2) (zGA l (i * 2)) 2000 39 [.any]) (fun i=>i <= l.length) (fun i=>l.length - i) ?_ ?_
  ·refine ⟨0,by omega,?_⟩
   exact kf1 [(1,some 1)] (fun j=>100 + j) (an @zA7.eq_1 @zGA.eq_1)
  intro i hi
  refine rg0 ?_
  refine zA ?_
  by_cases hil : i < l.length
  ·have hat:=zQw (b:=100) hil
   have hin : i * 2 + 2 <= l.length * 2:=by omega
   have hi2 : i * 2 < l.length * 2:=by omega
   have hi3 : i * 2 + 1 < l.length * 2:=by omega
   have hr1:=zDW (moR l (i * 2)) (hs _ hi2)
   have hr2:=zDW (moR l (i * 2 + 1)) (hs _ hi3)
   refine cK1 @hil ?_
   refine zA ?_
   refine zB ?_
   refine rg1 (an @hat @hin) ?_
   refine zX (σ':=mkF [(6,.own 1 (l.length * 2)),(8,.ptr 2 0 2),(25,.own 1 (l.length * 2)),(26,.t 2 (.int .i64 l.length)),(27,.t 2 (.int .i64 i))] [(1,.vec 83 2 2 (zA7 100 l)),(2,.box 83 [.own (100 + i * 2) (moR l (i * 2)).length,.own (100 + (i * 2 + 1)) (moR l (i * 2 + 1)).length])] 100 (l.length * 2) (zGA l (i * 2)) 2000 39 [.any]) ?_ ?_
   ·exact kf1 [(1,some 1),(2,some 3002000)] (fun j=>100 + j) (an @zA7.eq_1 (an @zGA.eq_1 (an @hi2 @hi3)))
   refine zI fun K hK=>?_
   simp (maxSteps:=2000000) (disch:=omega) [ints,rows,scal,zK,wr8]
   (repeat' apply And.intro)
   all_goals (try omega)
   refine zAc (caps:=[]) (hr1) [100 + i * 2] [100 + i * 2] 2 rfl rfl rfl rfl (by kernel_rfl) (by simp) ?_ ?_ (by simp) rfl (by simp) ⟨.inr (.inr ⟨rfl,by simp,by simp⟩),trivial⟩ (by simp [hi2,zGA]) ?_
   ·simp [scal,rows,ints,hi2,zGA]
   ·simp [scal,rows,ints,hi2,zGA]
   simp (maxSteps:=2000000) (disch:=omega) [ints,rows,scal,zK,wr8]
   and_intros <;> try first | apply hK | omega | rfl | simp <;> omega
   refine zX (σ':=mkF [(6,.own 1 (l.length * 2)),(8,.ptr 2 0 2),(25,.own 1 (l.length * 2)),(26,.t 2 (.int .i64 l.length)),(27,.t 2 (.int .i64 i))] [(1,.vec 83 2 2 (zA7 100 l)),(2,.box 83 [.own (100 + i * 2) (moR l (i * 2)).length,.own (100 + (i * 2 + 1)) (moR l (i * 2 + 1)).length])] 100 (l.length * 2) (zGA l (i * 2 + 1)) 2000 39 [.any]) ?_ ?_
   ·refine zAG [(1,some 1),(2,some 2)] (fun j=>100 + j) rfl ?_ ?_ ?_ ?_ ?_ ?_
    all_goals try simp +contextual (disch:=omega) [zL,zM,zV,zW,zw,List.getElem?_cons_succ,Option.getD_some,callF,ints,scal,tpO,zF,zH,zA7,hi2,hi3]
    all_goals (try omega)
    intro j hj
    by_cases e : j = i * 2
    ·subst e
     simp [zGA]
    ·rw [zBT (show 100 + j ≠ 100 + i * 2 by omega)]
     have e2 : (j < i * 2 + 1) = (j < i * 2):=by apply propext; omega
     simp [zGA,e2]
   refine zAh fun K hK=>?_
   simp (maxSteps:=2000000) (disch:=omega) [ints,rows,scal,zK,wr8]
   (repeat' apply And.intro)
   all_goals (try omega)
   refine zAc (caps:=[]) (hr2) [100 + (i * 2 + 1)] [100 + (i * 2 + 1)] 2 rfl rfl rfl rfl (by kernel_rfl) (by simp) ?_ ?_ (by simp) rfl (by simp) ⟨.inr (.inr ⟨rfl,by simp,by simp⟩),trivial⟩ (by simp [hi3,zGA]) ?_
   ·simp [scal,rows,ints,hi3,zGA]
   ·simp [scal,rows,ints,hi3,zGA]
   simp (maxSteps:=2000000) (disch:=omega) [ints,rows,scal,zK,wr8]
   and_intros <;> try first | apply hK | omega | rfl | simp <;> omega
   show awp _ _ _ _
   refine rr0 ?_
   refine ⟨i + 1,by omega,by omega,?_⟩
   refine zAG [(1,some 1)] (fun j=>100 + j) rfl ?_ ?_ ?_ ?_ ?_ ?_
   all_goals try simp +contextual (disch:=omega) [zL,zM,zV,zW,zw,List.getElem?_cons_succ,Option.getD_some,callF,ints,scal,tpO,zF,zH,zA7]
   all_goals (try omega)
   intro j hj
   by_cases e : j = i * 2 + 1
   ·subst e
    have e2 : i * 2 + 1 < (i + 1) * 2:=by omega
    simp [zGA,e2]
   ·rw [zBT (show 100 + j ≠ 100 + (i * 2 + 1) by omega)]
    have e2 : (j < (i + 1) * 2) = (j < i * 2 + 1):=by apply propext; omega
    simp [zGA,e2]
  ·obtain rfl : i = l.length:=by omega
   refine cF0 ?_
   refine zG ?_
   show awp _ _ _ _
   refine rg0 ?_
   refine zC ?_
   refine ⟨_,⟨m,b1,nx,m3,b3,nx3,hX,hR,.inl rfl⟩,?_⟩
   rw [e1]
   simp only [zQA]
   refine ⟨?_,by simp [dfT]⟩
   refine ⟨.inr rfl,_,[],(by first | (simp; rfl) | rfl),?_,?_,?_,?_⟩
   all_goals try simp +contextual (disch:=omega) [zL,zM,zV,zW,zw,List.getElem?_cons_succ,Option.getD_some,callF,ints,scal,tpO,zF,zH,zz,wk1,rows,zE,zKg,zLc,zA7,zGA,dfT,zz,wk1]
 ·have heb : (e != 0) = true:=bne_iff_ne.2 (by omega)
  have hen : ¬ e = 0:=by omega
  refine rc1 hright (an @dfT.eq_1 (an @zE.eq_1 @zP6.eq_1)) ?_
  refine zA ?_
  refine rg1 @heb ?_
  refine cT1 @hen ?_
  refine rg0 ?_
  refine zC ?_
  refine ⟨_,⟨m,b1,nx,m3,b3,nx3,hX,hR,.inr ⟨e,e1,rfl⟩⟩,?_⟩
  exact rt1 (an @dfT.eq_1 @zP6.eq_1)
theorem zLb (L : Nat) (bs : List Bool) (nx : List (List Int)) : ∀ (f q : Nat) (p : Mo),p ∈ pth L bs nx f q -> p.1.length = p.2.length + 1
 | 0,q,p,h=>by simp [pth] at h
 | f + 1,q,p,h=>by
  simp only [pth,List.mem_append,List.mem_flatMap,List.mem_range] at h
  rcases h with h | ⟨x,hx,h⟩
  ·split at h
   ·simp only [List.mem_singleton] at h; subst h; simp
   ·simp at h
  ·split at h
   ·simp at h
   ·obtain ⟨r,hr,rfl⟩:=List.mem_map.1 h
    have:=zLb L bs nx f _ r hr
    simp [zNV,this]
theorem zKC {L m : Nat} {bs : List Bool} {nx : List (List Int)} {l : List Mo} (h : zA2 L m bs nx = (l,0)) : l.length <= 400 /\ ∀ p ∈ l,p.1.length <= 61 /\ p.2.length <= 60:=by
 by_cases hA : Acy L m nx
 ·by_cases hF : Fits 0 0 (pX L m bs nx 0)
  ·rw [zCF hA hF] at h
   simp only [Prod.mk.injEq] at h
   obtain ⟨rfl,-⟩:=h
   refine ⟨by have:=hF.1; omega,fun p hp=>?_⟩
   have h1:=hF.2 p hp
   have h2:=zLb L bs nx _ _ p hp
   omega
  ·rw [zC8 hA hF] at h
   simp at h
 ·rw [zDA hA] at h
  simp at h
theorem zRJ {L m : Nat} {bs : List Bool} {nx : List (List Int)} {l : List Mo} (h : zA2 L m bs nx = (l,0)) : zUd l:=fun j hj=>by
 have h2 : j / 2 < l.length:=by omega
 have:=(zKC h).2 l[j / 2] (by simp)
 unfold moR
 rw [List.getD_eq_getElem?_getD,List.getElem?_eq_getElem h2]
 by_cases e : j % 2 = 0
 ·rw [if_pos e]; simp only [Option.getD_some]; omega
 ·rw [if_neg e]; simp only [Option.getD_some]; omega
theorem zNd {l : List Mo} {i : Nat} (h : i < l.length) : List.take 2 (List.drop (i * 2) (zGC l)) = [ints (nI l[i].1),ints (nI l[i].2)]:=by
 have hd : ∀ (l : List Mo) (k : Nat),(zGC l).drop (k * 2) = zGC (l.drop k):=fun l=>by
  induction l with
  | nil=>intro k; simp [zGC]
  | cons m l ih =>
   intro k
   cases k with
   | zero=>simp
   | succ k =>
    have:=ih k
    rw [show (k + 1) * 2 = k * 2 + 2 by omega]
    simpa [zGC] using this
 rw [hd,List.drop_eq_getElem_cons h]
 rfl
theorem zQa {l : List Mo} {k : Nat} (h : k < l.length) : k * 2 + 2 <= l.length * 2:=by omega
theorem zKb (l : List Mo) (h1 : l.length <= 400) (h2 : ∀ p ∈ l,p.1.length <= 61 /\ p.2.length <= 61) : FnA Tryz.prog 31 [.t 0 (.sl 2 (zGC l)),.t 0 (.sl 2 (zGC l))] (.t 2 (.bool true)):=by
 refine fI 43 #[.tmp 4] Tryz.func31 rfl ?_
 refine rg0 ?_
 refine zA ?_
 refine rg0 ?_
 refine cS0 ?_
 refine zA ?_
 refine rg0 ?_
 refine zB ?_
 refine awp_loop (fun k : Nat=>mkS [(0,.t 0 (.sl 2 (zGC l))),(1,.t 0 (.sl 2 (zGC l))),(12,.t 2 (.int .i64 l.length)),(13,.t 2 (.int .i64 k))] [] 0 43 [.any,.any]) (fun k=>k <= l.length) (fun k=>l.length - k) ?_ ?_
 ·refine ⟨0,by omega,?_⟩
  exact kw0 []
 intro k hk
 refine rg0 ?_
 refine zA ?_
 by_cases hkl : k < l.length
 ·have hat:=zNd hkl
  have hin:=zQa hkl
  have hsp:=h2 l[k] (by simp)
  have hs1:=zMq (nI l[k].1) (nI l[k].1) (by simp; omega)
  have hs2:=zMq (nI l[k].2) (nI l[k].2) (by simp; omega)
  refine cK1 @hkl ?_
  refine zA ?_
  refine zB ?_
  refine rg0 ?_
  refine zp (by kernel_rfl) (fun K hK=>?_)
  simp (maxSteps:=2000000) (disch:=omega) [ints,rows,scal,zK,wr8,hat,hin]
  (repeat' apply And.intro)
  all_goals (try omega)
  refine zS (caps:=[]) (hs1) [] [] 2 rfl rfl rfl rfl (by kernel_rfl) (by simp) ?_ trivial trivial rfl trivial trivial (by simp) ?_
  ·simp [scal,rows,ints]
  simp (maxSteps:=2000000) (disch:=omega) [ints,rows,scal,zK,wr8,hat,hin]
  (repeat' apply And.intro)
  all_goals (try omega)
  refine zS (caps:=[]) (hs2) [] [] 2 (by simp [scal,rows,ints]) rfl rfl rfl (by kernel_rfl) (by simp) ?_ trivial trivial rfl trivial trivial (by simp) ?_
  ·simp [scal,rows,ints]
  simp (maxSteps:=2000000) (disch:=omega) [ints,rows,scal,zK,wr8]
  (repeat' first | apply hK | apply And.intro) <;> try first | (show zA8 _ _ = true; kernel_rfl) | (show okH _ _ _ = true; kernel_rfl) | omega | rfl | (simp <;> omega)
  refine cY0 ?_
  show awp _ _ _ _
  refine rr0 ?_
  refine ⟨k + 1,by omega,by omega,?_⟩
  exact kw0 []
 ·refine cF1 @hkl ?_
  refine zG ?_
  show awp _ _ _ _
  refine rg0 ?_
  exact zC rt0
theorem zHp (xs : List Int) (a : Nat) (ha : a <= xs.length) (hl : xs.length <= 80) : ∃ L b : Nat,(L = 1 \/ L = 2) /\ b <= xs.length /\ FnS Tryz.prog 6 [.ptr 0 0 2] [tpO 1 xs a] (.t 2 (.int .i64 (L : Nat))) [tpO 1 xs b]:=by
 obtain ⟨v,b,hv,hb,hN⟩:=zA9 xs a 8 ha hl (by omega)
 have hv:=hv (by omega)
 obtain ⟨L,hL,hLv⟩ : ∃ L : Nat,(L = 1 \/ L = 2) /\ 2 - (v : Int).tdiv 7 = (L : Int):=by
  by_cases h : v = 7
  ·subst h; exact ⟨1,.inl rfl,by decide⟩
  ·refine ⟨2,.inr rfl,?_⟩
   rw [Int.tdiv_eq_zero_of_lt (by omega) (by omega)]; rfl
 have hd : (v : Int).tdiv 7 = 2 - (L : Int):=by omega
 refine ⟨L,b,hL,hb,?_⟩
 refine fI 7 #[.tmp 2] Tryz.func6 rfl ?_
 refine rg0 ?_
 refine zI fun K hK=>?_
 simp (maxSteps:=2000000) (disch:=omega) [ints,rows,scal,zK,wr8]
 (repeat' apply And.intro)
 all_goals (try omega)
 refine zD (caps:=[]) (hN) [0] [0] 1 rfl rfl rfl rfl (by kernel_rfl) (by simp) ?_ ?_ (by simp) rfl (by simp) ⟨.inr ⟨rfl,0,_,_,_,_,_,rfl,rfl,rfl,rfl,rfl⟩,trivial⟩ (by simp [tpO]) ?_
 ·simp [scal,rows,ints,tpO]
 ·simp [scal,rows,ints,tpO]
 simp (maxSteps:=2000000) (disch:=omega) [ints,rows,scal,zK,wr8,tpO,hd]
 and_intros <;> try first | apply hK | omega | rfl | simp <;> omega
 refine zC ?_
 refine ⟨⟨.inr rfl,_,[(0,some 0)],(by first | rfl | (simp [ints,rows,scal,tpO]; rfl)),?_,?_,?_,?_⟩,?_⟩
 all_goals try simp [ints,rows,scal,tpO]
 omega
theorem zUg : Acy 2 2 [[1,0],[1,1]]:=by
 have s1 : ∀ x,x < 2 -> zJ [[1,0],[1,1]] 1 x = 1:=fun x hx=>by
  rcases (by omega : x = 0 \/ x = 1) with rfl | rfl <;> rfl
 have w1 : ∀ w : List Nat,(∀ a ∈ w,a < 2) -> zZ [[1,0],[1,1]] 1 w = 1:=by
  intro w
  induction w with
  | nil=>intro _; rfl
  | cons a w ih =>
   intro hw
   have h1:=s1 a (hw a (by simp))
   have h2:=ih (fun b hb=>hw b (by simp [hb]))
   simp only [zZ,List.foldl_cons] at h2 ⊢
   rw [h1]
   exact h2
 intro q x w hq hx hw hne
 rcases (by omega : q = 0 \/ q = 1) with rfl | rfl
 ·rcases (by omega : x = 0 \/ x = 1) with rfl | rfl
  ·rw [show zJ [[1,0],[1,1]] 0 0 = 1 from rfl,w1 w hw]
   omega
  ·exact absurd rfl hne
 ·exact absurd (s1 x hx) hne
theorem kDf : DfL 2 2 0 [false,true] [[1,0],[1,1]]:=⟨by omega,by omega,rfl,rfl,fun r hr=>by
 simp only [List.mem_cons,List.not_mem_nil,or_false] at hr
 rcases hr with rfl | rfl <;> refine ⟨rfl,fun v hv=>?_⟩ <;> simp at hv <;> omega⟩
theorem zQ0 : zA2 2 2 [false,true] [[1,0],[1,1]] = ([([2,3],[0])],0):=by
 have e : pX 2 2 [false,true] [[1,0],[1,1]] 0 = [([2,3],[0])]:=by decide
 rw [zCF zUg (by rw [e]; exact ⟨by simp,fun p hp=>by simp at hp; subst hp; simp⟩),e]
theorem zMb : FnA Tryz.prog 10 [dfT 0 2 0 [false,true] [[1,0],[1,1]]] (.tup [.t 2 (.sl 2 [ints [2,3],ints [0]]),.t 2 (.int .i64 0)]):=by
 obtain ⟨m,b2,nx,hX,h⟩:=zIs kDf (by omega) (by omega) (by omega)
 obtain ⟨rfl,rfl,rfl⟩:=zLL hX
 rw [zQ0] at h
 exact h
theorem zIP : FnA Tryz.prog 31 [.t 0 (.sl 2 [ints [2,3],ints [0]]),.t 0 (.sl 2 [ints [2,3],ints [0]])] (.t 2 (.bool true)) :=
 zKb [([2,3],[0])] (by simp) (fun p hp=>by simp at hp; subst hp; simp)
theorem zAK : FnA Tryz.prog 12 [] (.t 2 (.bool true)):=by
 refine fI 22 #[.tmp 0] Tryz.func12 rfl ?_
 refine rg0 ?_
 refine zHI 5 fun K hK=>?_
 simp (maxSteps:=2000000) (disch:=omega) [ints,rows,scal,zK,wr8]
 (repeat' first | apply hK | apply And.intro) <;> try first | omega | rfl | (simp <;> omega)
 refine ⟨mkS [(8,.agg [.t 2 (.int .i64 2),.t 2 (.int .i64 0),.t 2 (zE [false,true]),.t 2 (rows [[1,0],[1,1]])])] [] 0 22 [],?_,fun K hK=>?_⟩
 ·refine zQ [] rfl ?_ ?_ ?_ ?_
  all_goals try simp [ints,rows,ints,zE,zGU,zJq,wk1,zFx]
 simp (maxSteps:=2000000) (disch:=omega) [ints,rows,scal,zK,wr8]
 (repeat' apply And.intro)
 all_goals (try omega)
 refine zD (caps:=[]) (zMb) [] [] 2 rfl rfl rfl rfl (by kernel_rfl) (by simp) ?_ trivial trivial rfl trivial trivial (by simp) ?_
 ·simp [scal,rows,ints,dfT,zE]
 simp (maxSteps:=2000000) (disch:=omega) [ints,rows,scal,zK,wr8]
 and_intros <;> try first | apply hK | omega | rfl | simp <;> omega
 refine zHI 8 fun K hK=>?_
 simp (maxSteps:=2000000) (disch:=omega) [ints,rows,scal,zK,wr8]
 (repeat' first | apply hK | apply And.intro) <;> try first | omega | rfl | (simp <;> omega)
 refine ⟨mkS [(14,.t 2 (.bool true)),(15,.t 2 (.sl 2 moK)),(19,.t 2 (.sl 2 moK))] [] 0 22 [],?_,fun K hK=>?_⟩
 ·refine zQ [] rfl ?_ ?_ ?_ ?_
  all_goals try simp [ints,moK,ints,zGU,zJq,wk1,zFx]
 simp (maxSteps:=2000000) (disch:=omega) [ints,rows,scal,zK,wr8]
 (repeat' apply And.intro)
 all_goals (try omega)
 refine zD (caps:=[]) (zIP) [] [] 2 (by simp [scal,rows,ints,moK]) rfl rfl rfl (by kernel_rfl) (by simp) ?_ trivial trivial rfl trivial trivial (by simp) ?_
 ·simp [scal,rows,ints,moK]
 simp (maxSteps:=2000000) (disch:=omega) [ints,rows,scal,zK,wr8]
 (repeat' first | apply hK | apply And.intro) <;> try first | omega | rfl | (simp <;> omega)
 exact zC rt0
end Go.Proofs.YtgelfgpcnaeecaaGreatDoor.M
