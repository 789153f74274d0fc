/-
  Walks in my logic: ordered (monomial), for any automaton.
  Walks in my logic: Ordered (semigroupref35), Ordered (monomial), of valid automata.
  Walk in my logic: useful (monomial); families of own rows that were nil slices.
-/
import Derived.Test.YtgelfgpcnaeecaaGreatDoorZsal
import Derived.Test.YtgelfgpcnaeecaaGreatDoorZsad
import Derived.Test.YtgelfgpcnaeecaaGreatDoorZsah
import Derived.Test.YtgelfgpcnaeecaaGreatDoorZsai
import Derived.Test.YtgelfgpcnaeecaaGreatDoorZsag
import Derived.Test.YtgelfgpcnaeecaaGreatDoorZsak
namespace Go.Proofs.YtgelfgpcnaeecaaGreatDoor.M
open Go.RowKit
set_option linter.unusedVariables false
set_option linter.unusedSimpArgs false
set_option maxRecDepth 100000
set_option maxHeartbeats 32000000

theorem zFG {ss : List Nat} {i q : Nat} (h : ss[i]? = some q) : (zAS ss)[i]? = some (.int .i64 (q : Int)):=by
 rw [zAS,List.getElem?_map,h]
 rfl
theorem zLh {n L : Nat} (hn : n <= 512) (hL : L <= 6) : n * L <= 3072:=Nat.mul_le_mul hn hL
def cnT (n : Nat) (nx : List (List Int)) (R : List (Nat × Nat)) : List T:=tab n fun p=>.int .i64 ((R.countP (tg nx p) : Nat) : Int)
@[simp] theorem zUG (n : Nat) (nx : List (List Int)) (R : List (Nat × Nat)) : (cnT n nx R).length = n:=by simp [cnT]
theorem zMd {n p : Nat} {nx : List (List Int)} {R : List (Nat × Nat)} (h : p < n) : (cnT n nx R)[p]? = some (.int .i64 ((R.countP (tg nx p) : Nat) : Int)):=zP _ h
theorem zME {n p : Nat} {nx : List (List Int)} {R : List (Nat × Nat)} {e : Nat × Nat} (h : zJ nx e.1 e.2 = p) : (cnT n nx R).set p (.int .i64 ((R.countP (tg nx p) : Nat) + 1 : Int)) = cnT n nx (R ++ [e]):=by
 unfold cnT
 rw [zg]
 refine zO (fun i hi=>?_)
 rw [zRI,h]
 by_cases e : i = p
 ·subst e; simp
 ·simp [e,show ¬ p = i from fun g=>e g.symm]
theorem zQS {n p : Nat} {nx : List (List Int)} {R : List (Nat × Nat)} {e : Nat × Nat} (he : e ∈ R) (h : zJ nx e.1 e.2 = p) (hc : 0 < R.countP (tg nx p)) : (cnT n nx R).set p (.int .i64 ((R.countP (tg nx p) : Nat) - 1 : Int)) = cnT n nx (R.erase e):=by
 unfold cnT
 rw [zg]
 refine zO (fun i hi=>?_)
 rw [zCk he,h]
 by_cases e : i = p
 ·subst e
  simp only [if_true]
  congr 1
  omega
 ·simp [e,show ¬ p = i from fun g=>e g.symm]
theorem zQ8 (n : Nat) (nx : List (List Int)) : cnT n nx [] = List.replicate n (.int .i64 0):=by
 unfold cnT
 rw [zAF]
 exact zO (fun i hi=>by simp)
theorem zH5 {L n s : Nat} {bs : List Bool} {nx : List (List Int)} (h : DfL L n s bs nx) (hL : 1 <= L) (hL2 : L <= 6) (hn : n <= 512) : ∃ res,(∃ b : Bool,(b = true ↔ Acy L n nx) /\ res = .t 2 (.bool b)) /\ FnS Tryz.prog 26 [dfT 0 L s bs nx] [] res []:=by
 have hnl:=h.nl
 have hbl:=h.bl
 have hml:=zLh hn hL2
 refine zk Tryz.func26 rfl (by simp [Tryz.f26]) ?_
 rw [show Tryz.f26.ntmps = 104 from rfl,show Tryz.f26.results = #[.tmp 2] from rfl]
 refine rg1 (an @dfT.eq_1 @zE.eq_1) ?_
 refine rg1 @hnl ?_
 refine zA ?_
 refine rg1 @hnl ?_
 refine zB ?_
 refine awp_loop (fun y : Nat × List (Nat × Nat)=>mkS [(1,.ptr 0 0 4),(3,.own 1 n),(19,.t 0 (rows nx)),(20,.t 2 (.int .i64 n)),(21,.t 2 (.int .i64 y.1))] [(0,dfO L s bs nx),(1,.row 3 1 2 (cnT n nx y.2))] 2 104 [.any]) (fun y=>y.1 <= n /\ EdI L n nx y.2 y.1 0) (fun y=>n - y.1) ?_ ?_
 ·refine ⟨(0,[]),⟨by simp,EdI.start⟩,?_⟩
  exact kw1 [(0,some 0),(1,some 5000000)] (an @rows.eq_1 (an @zE.eq_1 (an @dfT.eq_1 (an @dfO.eq_1 (an @zQ8 @hnl)))))
 rintro ⟨q,R⟩ ⟨hq,hE⟩
 simp only at hq hE
 refine rg0 ?_
 refine zA ?_
 by_cases hqn : q < n
 ·have hqx : q < nx.length:=by omega
  obtain ⟨hrl,-⟩:=h.row nx[q] (by simp)
  refine cK1 @hqn ?_
  refine zA ?_
  refine zB ?_
  refine rg1 @hqx ?_
  refine rg1 @hrl ?_
  refine zB ?_
  refine awp_loop (fun y : Nat × List (Nat × Nat)=>mkS [(1,.ptr 0 0 4),(3,.own 1 n),(4,.t 2 (.int .i64 q)),(19,.t 0 (rows nx)),(20,.t 2 (.int .i64 n)),(21,.t 2 (.int .i64 q)),(26,.t 0 (ints nx[q])),(27,.t 2 (.int .i64 L)),(28,.t 2 (.int .i64 y.1))] [(0,dfO L s bs nx),(1,.row 3 1 2 (cnT n nx y.2))] 2 104 [.any]) (fun y=>y.1 <= L /\ EdI L n nx y.2 q y.1) (fun y=>L - y.1) ?_ ?_
  ·refine ⟨(0,R),⟨by simp,hE⟩,?_⟩
   exact kw1 [(0,some 0),(1,some 1)] (an @rows.eq_1 (an @zE.eq_1 (an @dfT.eq_1 @dfO.eq_1)))
  clear hE
  rintro ⟨x,R⟩ ⟨hx,hE⟩
  simp only at hx hE
  refine rg0 ?_
  refine zA ?_
  by_cases hxl : x < L
  ·obtain ⟨s1,s2,s3,s4⟩:=h.rt.step hqn hxl
   have hlen:=hE.len
   have hqL : q * L <= 512 * 6:=Nat.mul_le_mul (by omega) hL2
   have hcn : R.countP (tg nx (zJ nx q x)) <= R.length:=List.countP_le_length
   have hg:=zMd (R:=R) (nx:=nx) s1
   refine cK1 @hxl ?_
   refine zA ?_
   refine zB ?_
   refine rg1 (an @s3 @s4) ?_
   refine rg0 ?_
   by_cases he : zJ nx q x = q
   ·have hei : (zJ nx q x : Int) = (q : Int):=by omega
    refine cY1 (an @hei @he) ?_
    show awp _ _ _ _
    refine rr0 ?_
    refine ⟨(x + 1,R),⟨by simp only; omega,hE.loop he⟩,by simp only; omega,?_⟩
    exact kw1 [(0,some 0),(1,some 1)] (an @rows.eq_1 (an @zE.eq_1 (an @dfT.eq_1 @dfO.eq_1)))
   ·have hei : ¬ (zJ nx q x : Int) = (q : Int):=by omega
    refine cT1 (an @hei @he) ?_
    refine rr1 (an @hg @s1) ?_
    show awp _ _ _ _
    refine rr0 ?_
    refine ⟨(x + 1,R ++ [(q,x)]),⟨by simp only; omega,hE.add hqn hxl he⟩,by simp only; omega,?_⟩
    refine zQ [(0,some 0),(1,some 1)] rfl ?_ ?_ ?_ ?_
    all_goals try simp [ints,rows,zE,dfT,dfO,zME]
    exact zME rfl
  ·obtain rfl : x = L:=by omega
   refine cF0 ?_
   refine zG ?_
   show awp _ _ _ _
   refine rr0 ?_
   refine ⟨(q + 1,R),⟨by simp only; omega,hE.next⟩,by simp only; omega,?_⟩
   exact kw1 [(0,some 0),(1,some 1)] (an @rows.eq_1 (an @zE.eq_1 (an @dfT.eq_1 @dfO.eq_1)))
 ·obtain rfl : q = n:=by omega
  have hlen:=hE.len
  refine cF0 ?_
  refine zG ?_
  show awp _ _ _ _
  refine rg0 ?_
  refine zA ?_
  refine rg0 ?_
  refine zB ?_
  refine awp_loop (fun k : Nat=>mkS [(1,.ptr 0 0 4),(3,.own 1 q),(8,.own 2 (quN nx R k).length),(43,.own 1 q),(44,.t 2 (.int .i64 q)),(45,.t 2 (.int .i64 k))] [(0,dfO L s bs nx),(1,.row 3 1 2 (cnT q nx R)),(2,.row 3 1 2 (zAS (quN nx R k)))] 3 104 [.any]) (fun k=>k <= q) (fun k=>q - k) ?_ ?_
  ·refine ⟨0,by omega,?_⟩
   exact kw1 [(0,some 0),(1,some 1),(2,none)] (an @rows.eq_1 (an @zE.eq_1 (an @dfT.eq_1 (an @dfO.eq_1 (an @quN.eq_1 @zAS.eq_1)))))
  intro k hk
  have hql:=zP5 nx R k
  have hqs:=zOt nx R k
  refine rg0 ?_
  refine zA ?_
  by_cases hkq : k < q
  ·have hg:=zMd (R:=R) (nx:=nx) hkq
   refine cK1 @hkq ?_
   refine zA ?_
   refine zB ?_
   refine rg1 @hg ?_
   refine rg0 ?_
   by_cases hz : R.countP (tg nx k) = 0
   ·rw [if_pos hz] at hqs
    refine cT1 @hz ?_
    refine rr0 ?_
    show awp _ _ _ _
    refine rr0 ?_
    refine ⟨k + 1,by omega,by omega,?_⟩
    exact kw1 [(0,some 0),(1,some 1),(2,some 2)] (an @rows.eq_1 (an @zE.eq_1 (an @dfT.eq_1 (an @dfO.eq_1 (an @hqs @zAS.eq_1)))))
   ·rw [if_neg hz] at hqs
    have hzi : ¬ ((R.countP (tg nx k) : Nat) : Int) = 0:=by omega
    refine cY1 (an @hzi @hz) ?_
    show awp _ _ _ _
    refine rr0 ?_
    refine ⟨k + 1,by omega,by omega,?_⟩
    exact kw1 [(0,some 0),(1,some 1),(2,some 2)] (an @rows.eq_1 (an @zE.eq_1 (an @dfT.eq_1 (an @dfO.eq_1 @hqs))))
  ·obtain rfl : k = q:=by omega
   have hKa:=KaI.start h hE
   clear hqs hql hE
   refine cF0 ?_
   refine zG ?_
   show awp _ _ _ _
   refine zA ?_
   refine rg0 ?_
   refine zB ?_
   refine awp_loop (fun y : Nat × List Nat × List (Nat × Nat)=>mkS [(1,.ptr 0 0 4),(3,.own 1 k),(8,.own 2 y.2.1.length),(11,.t 2 (.int .i64 y.1))] [(0,dfO L s bs nx),(1,.row 3 1 2 (cnT k nx y.2.2)),(2,.row 3 1 2 (zAS y.2.1))] 3 104 [.any]) (fun y=>y.1 <= y.2.1.length /\ KaI L k nx y.2.1 y.2.2 y.1 0) (fun y=>k - y.1) ?_ ?_
   ·refine ⟨(0,quN nx R k,R),⟨by simp,hKa⟩,?_⟩
    exact kw1 [(0,some 0),(1,some 1),(2,some 2)] (an @rows.eq_1 (an @zE.eq_1 (an @dfT.eq_1 @dfO.eq_1)))
   clear hKa hlen
   rintro ⟨i,Q,R⟩ ⟨hi,hKa⟩
   simp only at hi hKa
   have hle:=hKa.le
   refine zA ?_
   refine rg0 ?_
   by_cases hil : i < Q.length
   ·obtain ⟨v,hv⟩ : ∃ v,Q[i]? = some v:=⟨_,List.getElem?_eq_getElem hil⟩
    have hvm:=hKa.ql v (List.mem_of_getElem? hv)
    have hvx : v < nx.length:=by omega
    obtain ⟨hrl,-⟩:=h.row nx[v] (by simp)
    have hve : Q[i] = v:=(List.getElem?_eq_some_iff.1 hv).2
    refine cK1 @hil ?_
    refine zA ?_
    refine zB ?_
    refine rd1 (an @dfO.eq_1 (an @zAS.eq_1 (an @hil (an @hve (an @hvx @hrl))))) ?_
    refine zB ?_
    refine awp_loop (fun y : Nat × List Nat × List (Nat × Nat)=>mkS [(1,.ptr 0 0 4),(3,.own 1 k),(8,.own 2 y.2.1.length),(11,.t 2 (.int .i64 i)),(70,.t 0 (ints nx[v])),(71,.t 2 (.int .i64 L)),(72,.t 2 (.int .i64 y.1))] [(0,dfO L s bs nx),(1,.row 3 1 2 (cnT k nx y.2.2)),(2,.row 3 1 2 (zAS y.2.1))] 3 104 [.any]) (fun y=>y.1 <= L /\ y.2.1[i]? = some v /\ KaI L k nx y.2.1 y.2.2 i y.1) (fun y=>L - y.1) ?_ ?_
    ·refine ⟨(0,Q,R),⟨by simp,hv,hKa⟩,?_⟩
     exact kw1 [(0,some 0),(1,some 1),(2,some 2)] (an @rows.eq_1 (an @zE.eq_1 (an @dfT.eq_1 (an @dfO.eq_1 @zAS.eq_1))))
    clear hKa hv hve hi hle hil
    rintro ⟨x,Q,R⟩ ⟨hx,hv,hKa⟩
    simp only at hx hv hKa
    have hle:=hKa.le
    have hil:=(List.getElem?_eq_some_iff.1 hv).1
    have hvg:=zFG hv
    refine rg0 ?_
    refine zA ?_
    by_cases hxl : x < L
    ·obtain ⟨s1,s2,s3,s4⟩:=h.rt.step hvm hxl
     have hlen:=hKa.len
     have hcn : R.countP (tg nx (zJ nx v x)) <= R.length:=List.countP_le_length
     have hg:=zMd (R:=R) (nx:=nx) s1
     refine cK1 @hxl ?_
     refine zA ?_
     refine zB ?_
     refine rg1 (an @s3 @s4) ?_
     refine zA ?_
     refine rg1 @hvg ?_
     by_cases he : zJ nx v x = v
     ·have hei : (zJ nx v x : Int) = (v : Int):=by omega
      refine cT1 (an @hei @he) ?_
      refine zG ?_
      show awp _ _ _ _
      refine rr0 ?_
      refine ⟨(x + 1,Q,R),⟨by simp only; omega,hv,hKa.loop hv he⟩,by simp only; omega,?_⟩
      exact kw1 [(0,some 0),(1,some 1),(2,some 2)] (an @rows.eq_1 (an @zE.eq_1 (an @dfT.eq_1 @dfO.eq_1)))
     ·have hei : ¬ (zJ nx v x : Int) = (v : Int):=by omega
      have hpos:=hKa.pos hv hxl he
      have hmem:=hKa.mem hv hxl he
      have hset:=zQS (n:=k) hmem rfl hpos
      have hg2 : (cnT k nx (R.erase (v,x)))[zJ nx v x]? = some (.int .i64 ((R.countP (tg nx (zJ nx v x)) : Nat) - 1 : Int)):=by
       rw [← hset,List.getElem?_set_self (by simp; exact s1)]
      refine cS1 (an @hei @he) ?_
      refine rg1 (an @hg (an @s1 @hset)) ?_
      refine rg1 @hg2 ?_
      by_cases hc : R.countP (tg nx (zJ nx v x)) = 1
      ·have hci : ((R.countP (tg nx (zJ nx v x)) : Nat) : Int) - 1 = 0:=by omega
       refine cT1 (an @hci @hc) ?_
       refine rr0 ?_
       show awp _ _ _ _
       refine rr0 ?_
       refine ⟨(x + 1,Q ++ [zJ nx v x],R.erase (v,x)),⟨by simp only; omega,by simp only; rw [List.getElem?_append_left hil]; exact hv,hKa.push s1 hv hxl he hc⟩,by simp only; omega,?_⟩
       exact kw1 [(0,some 0),(1,some 1),(2,some 2)] (an @rows.eq_1 (an @zE.eq_1 (an @dfT.eq_1 (an @dfO.eq_1 @zAS.eq_1))))
      ·have hci : ¬ ((R.countP (tg nx (zJ nx v x)) : Nat) : Int) - 1 = 0:=by omega
       refine cY1 (an @hci @hc) ?_
       show awp _ _ _ _
       refine rr0 ?_
       refine ⟨(x + 1,Q,R.erase (v,x)),⟨by simp only; omega,hv,hKa.zPi hv hxl he hc⟩,by simp only; omega,?_⟩
       exact kw1 [(0,some 0),(1,some 1),(2,some 2)] (an @rows.eq_1 (an @zE.eq_1 (an @dfT.eq_1 @dfO.eq_1)))
    ·obtain rfl : x = L:=by omega
     refine cF0 ?_
     refine zG ?_
     show awp _ _ _ _
     refine rr0 ?_
     refine ⟨(i + 1,Q,R),⟨by simp only; omega,hKa.next⟩,by simp only; omega,?_⟩
     exact kw1 [(0,some 0),(1,some 1),(2,some 2)] (an @rows.eq_1 (an @zE.eq_1 (an @dfT.eq_1 @dfO.eq_1)))
   ·obtain rfl : i = Q.length:=by omega
    have hfin:=hKa.fin h
    refine cF0 ?_
    refine zG ?_
    show awp _ _ _ _
    by_cases hQ : Q.length = k
    ·refine rg1 (an @hnl @hQ) ?_
     refine zC ?_
     refine ⟨_,⟨true,by simp [← hfin,hQ],rfl⟩,?_⟩
     exact rt1 (an @dfT.eq_1 (an @zAS.eq_1 (an @hnl @hQ)))
    ·have hQi : ¬ (Q.length : Int) = (k : Int):=by omega
     refine rg1 (an @hnl (an @hQ @hQi)) ?_
     refine zC ?_
     refine ⟨_,⟨false,by simp [← hfin,hQ],rfl⟩,?_⟩
     exact rt1 (an @dfT.eq_1 (an @zAS.eq_1 (an @hnl @hQi)))
def zNc (L s : Nat) (bs : List Bool) (nxt : List (List Int)) : AObj:=.box 28 [.t 2 (.int .i64 L),.t 2 (.int .i64 s),.t 2 (zE bs),.t 2 (rows nxt)]
def zKe (m : Nat) (met : Nat -> Bool) : List T:=tab m fun j=>.bool (met j)
@[simp] theorem zTI (m : Nat) (met : Nat -> Bool) : (zKe m met).length = m:=by simp [zKe]
theorem zQu {m j : Nat} {met : Nat -> Bool} (h : j < m) : (zKe m met)[j]? = some (.bool (met j)):=zP _ h
theorem zJk (m p : Nat) (met : Nat -> Bool) : (zKe m met).set p (.bool true) = zKe m (fun j=>if j = p then true else met j):=by
 unfold zKe
 rw [zg]
 refine zO (fun j hj=>?_)
 by_cases e : j = p <;> simp [e]
theorem zL5 (m : Nat) : zKe m (fun _=>false) = List.replicate m (.bool false):=by
 unfold zKe
 rw [zAF]
theorem zNr (mp : List (Nat × Option Nat)) (base : Nat) (g : Nat -> Nat) {k : Nat} (h : base <= k) : zBY mp base 0 g k = none:=by
 unfold zBY
 rw [if_neg (by omega),if_neg (by omega)]
theorem zMB {σ : ASt} {el : List (Nat × AV)} {hl : List (Nat × AObj)} {base n : Nat} {F : Nat -> AObj} {nx nt : Nat} {gh : List AV} (mp : List (Nat × Option Nat)) (hnt : nt = σ.nt) (he : wkE σ (zBY mp base 0 fun j=>j) (zBd mp 0 fun j=>j) nx el) (hh : wkH σ (zBY mp base 0 fun j=>j) (zBd mp 0 fun j=>j) nx hl mp) (hn : keysNd mp) (hg : wkPs σ.heap (zBY mp base 0 fun j=>j) (zBd mp 0 fun j=>j) nx σ.gh gh)
  (hF : ∀ j,j < n -> base + j < nx /\ wkO σ.heap (zBY mp base 0 fun j=>j) (zBd mp 0 fun j=>j) nx none (F j)) : Wk σ (mkF el hl base n F nx nt gh):=by
 refine zLC (m:=zBY mp base 0 fun j=>j) (un:=zBd mp 0 fun j=>j) hnt (zFR he) (fun id o ho=>?_) ⟨fun {i j k} h1 h2=>?_,fun {k id} hu h=>?_,fun {id} h=>?_⟩ hg
 ·have ho : zCj hl base n F id = some o:=ho
  unfold zCj at ho
  by_cases h1 : id < base
  ·rw [if_pos h1] at ho
   have:=(zB5 hh id).1 o ho
   refine ⟨this.1,?_⟩
   have e : zBY mp base 0 (fun j=>j) id = mpOf mp id:=by unfold zBY; rw [if_pos h1]
   rw [e]
   exact this.2
  ·rw [if_neg h1] at ho
   by_cases h2 : id - base < n
   ·rw [if_pos h2] at ho
    injection ho with ho
    subst ho
    obtain ⟨a1,a2⟩:=hF _ h2
    rw [zNr mp base _ (by omega)]
    exact ⟨by show id < nx; omega,a2⟩
   ·rw [if_neg h2] at ho; cases ho
 ·unfold zBY at h1 h2
  by_cases b1 : i < base
  ·by_cases b2 : j < base
   ·rw [if_pos b1] at h1; rw [if_pos b2] at h2; exact zDn hn h1 h2
   ·rw [if_neg b2,if_neg (by omega)] at h2; cases h2
  ·rw [if_neg b1,if_neg (by omega)] at h1; cases h1
 ·unfold zBY at h
  by_cases b1 : id < base
  ·rw [if_pos b1] at h; exact zBw hu.1 h
  ·rw [if_neg b1,if_neg (by omega)] at h; cases h
 ·have h : zCj hl base n F id = none:=h
  unfold zCj at h
  by_cases b1 : id < base
  ·unfold zBY
   rw [if_pos b1] at h ⊢; exact (zB5 hh id).2 h
  ·rw [zNr mp base _ (by omega)]
structure BeI (L n : Nat) (nx : List (List Int)) (B : Nat -> List Nat) (k x : Nat) : Prop where
 mem : ∀ p r,r ∈ B p ↔ ∃ y,y < L /\ zJ nx r y = p /\ (r < k \/ (r = k /\ y < x))
 len : ∀ p,(B p).length <= k * L + x
section
variable {L n : Nat} {nx : List (List Int)} {B : Nat -> List Nat} {k x : Nat}
theorem BeI.start : BeI L n nx (fun _=>[]) 0 0:=⟨fun p r=>by simp,fun p=>by simp⟩
theorem BeI.add (h : BeI L n nx B k x) (hx : x < L) : BeI L n nx (fun j=>if j = zJ nx k x then B j ++ [k] else B j) k (x + 1):=by
 refine ⟨fun p r=>?_,fun p=>?_⟩
 ·by_cases e : p = zJ nx k x
  ·simp only [if_pos e,List.mem_append,List.mem_singleton]
   rw [h.mem]
   constructor
   ·rintro (⟨y,a,b,c⟩ | rfl)
    ·exact ⟨y,a,b,by omega⟩
    ·exact ⟨x,hx,e.symm,.inr ⟨rfl,by omega⟩⟩
   ·rintro ⟨y,a,b,c | ⟨c,d⟩⟩
    ·exact .inl ⟨y,a,b,.inl c⟩
    ·exact .inr c
  ·simp only [if_neg e]
   rw [h.mem]
   constructor
   ·rintro ⟨y,a,b,c⟩
    exact ⟨y,a,b,by omega⟩
   ·rintro ⟨y,a,b,c | ⟨c,d⟩⟩
    ·exact ⟨y,a,b,.inl c⟩
    ·by_cases ey : y = x
     ·subst ey c
      exact absurd b.symm e
     ·exact ⟨y,a,b,.inr ⟨c,by omega⟩⟩
 ·have:=h.len p
  by_cases e : p = zJ nx k x
  ·simp only [if_pos e]; simp; omega
  ·simp only [if_neg e]; omega
theorem BeI.next (h : BeI L n nx B k L) : BeI L n nx B (k + 1) 0:=by
 refine ⟨fun p r=>?_,fun p=>by have:=h.len p; rw [Nat.add_mul]; omega⟩
 rw [h.mem]
 constructor
 ·rintro ⟨y,a,b,c⟩
  exact ⟨y,a,b,by omega⟩
 ·rintro ⟨y,a,b,c⟩
  exact ⟨y,a,b,by omega⟩
end
structure UsI (L n : Nat) (bs : List Bool) (nx : List (List Int)) (B : Nat -> List Nat) (Q : List Nat) (M : Nat -> Bool) (i x : Nat) : Prop where
 nd : Q.Nodup
 lt : ∀ q ∈ Q,q < n
 met : ∀ q,q < n -> (M q = true ↔ q ∈ Q)
 use : ∀ q ∈ Q,∃ w,(∀ a ∈ w,a < L) /\ zAf bs nx q w = true
 fin : ∀ q,q < n -> bs.getD q false = true -> q ∈ Q
 done : ∀ (j v : Nat),j < i -> Q[j]? = some v -> ∀ r ∈ B v,r ∈ Q
 row : ∀ v,Q[i]? = some v -> ∀ (y r : Nat),y < x -> (B v)[y]? = some r -> r ∈ Q
structure UsB (n : Nat) (bs : List Bool) (Q : List Nat) (M : Nat -> Bool) (k : Nat) : Prop where
 nd : Q.Nodup
 mem : ∀ q,q ∈ Q ↔ q < k /\ bs.getD q false = true
 met : ∀ q,q < n -> (M q = true ↔ q ∈ Q)
section
variable {L n s : Nat} {bs : List Bool} {nx : List (List Int)} {B : Nat -> List Nat} {Q : List Nat} {M : Nat -> Bool} {i x k : Nat}
theorem UsB.start : UsB n bs [] (fun _=>false) 0:=⟨by simp,by simp,by simp⟩
theorem UsB.old (h : UsB n bs Q M k) (hf : bs.getD k false = false) : UsB n bs Q M (k + 1):=⟨h.nd,fun q=>by
 rw [h.mem]
 constructor
 ·rintro ⟨a,b⟩; exact ⟨by omega,b⟩
 ·rintro ⟨a,b⟩
  refine ⟨?_,b⟩
  by_cases e : q = k
  ·subst e; rw [hf] at b; cases b
  ·omega,h.met⟩
theorem UsB.add (h : UsB n bs Q M k) (hf : bs.getD k false = true) : UsB n bs (Q ++ [k]) (fun j=>if j = k then true else M j) (k + 1):=by
 have hn : k ∉ Q:=fun g=>by have:=((h.mem k).1 g).1; omega
 refine ⟨zBm h.nd hn,fun q=>?_,fun q hq=>?_⟩
 ·rw [List.mem_append,List.mem_singleton,h.mem]
  constructor
  ·rintro (⟨a,b⟩ | rfl)
   ·exact ⟨by omega,b⟩
   ·exact ⟨by omega,hf⟩
  ·rintro ⟨a,b⟩
   by_cases e : q = k
   ·exact .inr e
   ·exact .inl ⟨by omega,b⟩
 ·by_cases e : q = k
  ·simp [e]
  ·simp [e,h.met q hq]
theorem UsB.next (h : UsB n bs Q M n) : UsI L n bs nx B Q M 0 0:=⟨h.nd,fun q hq=>((h.mem q).1 hq).1,h.met,fun q hq=>⟨[],by simp,by simpa [zAf,zZ] using ((h.mem q).1 hq).2⟩,fun q hq hb=>(h.mem q).2 ⟨hq,hb⟩,fun j v hj=>by omega,fun v _ y r hy=>by omega⟩
theorem UsB.le (h : UsB n bs Q M k) (hk : k <= n) : Q.length <= n:=zBr h.nd (fun q hq=>by have:=((h.mem q).1 hq).1; omega)
theorem UsI.le (h : UsI L n bs nx B Q M i x) : Q.length <= n:=zBr h.nd h.lt
theorem UsI.old (h : UsI L n bs nx B Q M i x) {v r : Nat} (hv : Q[i]? = some v) (hr : (B v)[x]? = some r) (hrn : r < n) (hm : M r = true) : UsI L n bs nx B Q M i (x + 1):=⟨h.nd,h.lt,h.met,h.use,h.fin,h.done,fun v' hv' y r' hy hr'=>by
 rw [hv] at hv'
 injection hv' with hv'
 subst hv'
 by_cases e : y = x
 ·subst e
  rw [hr] at hr'
  injection hr' with hr'
  subst hr'
  exact (h.met _ hrn).1 hm
 ·exact h.row _ hv y r' (by omega) hr'⟩
theorem UsI.add (hB : BeI L n nx B n 0) (h : UsI L n bs nx B Q M i x) {v r : Nat} (hv : Q[i]? = some v) (hr : (B v)[x]? = some r) (hrn : r < n) (hm : M r = false) : UsI L n bs nx B (Q ++ [r]) (fun j=>if j = r then true else M j) i (x + 1):=by
 have hn : r ∉ Q:=fun g=>by rw [(h.met _ hrn).2 g] at hm; cases hm
 have hil:=(List.getElem?_eq_some_iff.1 hv).1
 refine ⟨zBm h.nd hn,fun q hq=>?_,fun q hq=>?_,fun q hq=>?_,fun q hq hb=>List.mem_append_left _ (h.fin q hq hb),fun j v' hj hv' r' hr'=>?_,fun v' hv' y r' hy hr'=>?_⟩
 ·rcases List.mem_append.1 hq with g | g
  ·exact h.lt q g
  ·simp only [List.mem_singleton] at g; omega
 ·by_cases e : q = r
  ·simp [e]
  ·simp [e,h.met q hq]
 ·rcases List.mem_append.1 hq with g | g
  ·exact h.use q g
  ·simp only [List.mem_singleton] at g
   subst g
   obtain ⟨y,h1,h2,-⟩:=(hB.mem v q).1 (List.mem_of_getElem? hr)
   obtain ⟨w,w1,w2⟩:=h.use v (List.mem_of_getElem? hv)
   refine ⟨y :: w,fun a ha=>?_,?_⟩
   ·rcases List.mem_cons.1 ha with g | g
    ·omega
    ·exact w1 a g
   ·show zAf bs nx (zJ nx q y) w = true
    rw [h2]; exact w2
 ·rw [List.getElem?_append_left (by omega)] at hv'
  exact List.mem_append_left _ (h.done j v' hj hv' r' hr')
 ·rw [List.getElem?_append_left hil,hv] at hv'
  injection hv' with hv'
  subst hv'
  by_cases e : y = x
  ·subst e
   rw [hr] at hr'
   injection hr' with hr'
   simp [hr']
  ·exact List.mem_append_left _ (h.row _ hv y r' (by omega) hr')
theorem UsI.next (h : UsI L n bs nx B Q M i x) {v : Nat} (hv : Q[i]? = some v) (hx : (B v).length <= x) : UsI L n bs nx B Q M (i + 1) 0:=⟨h.nd,h.lt,h.met,h.use,h.fin,fun j v' hj hv' r hr=>by
 by_cases e : j = i
 ·subst e
  rw [hv] at hv'
  injection hv' with hv'
  subst hv'
  obtain ⟨y,hy⟩:=List.getElem?_of_mem hr
  have:=(List.getElem?_eq_some_iff.1 hy).1
  exact h.row _ hv y r (by omega) hy
 ·exact h.done j v' (by omega) hv' r hr,fun v' _ y r hy=>by omega⟩
theorem UsI.end_ (hD : DfL L n s bs nx) (hB : BeI L n nx B n 0) (h : UsI L n bs nx B Q M Q.length 0) {q : Nat} (hq : q < n) : M q = true ↔ ∃ w,(∀ a ∈ w,a < L) /\ zAf bs nx q w = true:=by
 rw [h.met q hq]
 refine ⟨h.use q,?_⟩
 rintro ⟨w,hw,ha⟩
 induction w generalizing q with
 | nil=>exact h.fin q hq (by simpa [zAf,zZ] using ha)
 | cons a w ih =>
  have hal:=hw a (by simp)
  have:=ih (hD.rt.step hq hal).1 (fun b hb=>hw b (by simp [hb])) ha
  obtain ⟨j,hj⟩:=List.getElem?_of_mem this
  exact h.done j _ (List.getElem?_eq_some_iff.1 hj).1 hj q ((hB.mem _ _).2 ⟨a,hal,rfl,.inl hq⟩)
end
theorem zLy {L n s : Nat} {bs : List Bool} {nx : List (List Int)} (h : DfL L n s bs nx) (hL : 1 <= L) (hL2 : L <= 6) (hn : n <= 512) : ∃ res,(∃ us : List Bool,us.length = n /\ (∀ q,q < n -> (us.getD q false = true ↔ ∃ w,(∀ a ∈ w,a < L) /\ zAf bs nx q w = true)) /\ res = .t 2 (zE us)) /\ FnS Tryz.prog 27 [dfT 0 L s bs nx] [] res []:=by
 have hnl:=h.nl
 have hbl:=h.bl
 have hml:=zLh hn hL2
 refine zk Tryz.func27 rfl (by simp [Tryz.f27]) ?_
 rw [show Tryz.f27.ntmps = 98 from rfl,show Tryz.f27.results = #[.tmp 2] from rfl]
 refine rg1 (an @dfT.eq_1 @zE.eq_1) ?_
 refine rg1 @hnl ?_
 refine zA ?_
 refine rg1 @hnl ?_
 refine zB ?_
 refine awp_loop (fun y : Nat × (Nat -> List Nat)=>mkF [(1,.ptr 0 0 4),(3,.own 1 n),(20,.t 0 (rows nx)),(21,.t 2 (.int .i64 n)),(22,.t 2 (.int .i64 y.1))]
   [(0,dfO L s bs nx),(1,.vec 22 1 2 (tab n fun j=>.own (100 + j) (y.2 j).length))] 100 n (fun j=>.row 3 1 2 (zAS (y.2 j))) 1000 98 [.any])
  (fun y=>y.1 <= n /\ BeI L n nx y.2 y.1 0) (fun y=>n - y.1) ?_ ?_
 ·refine ⟨(0,fun _=>[]),⟨by simp,BeI.start⟩,?_⟩
  refine zMB [(0,some 0),(1,some 5000000)] rfl ?_ ?_ ?_ ?_ ?_
  all_goals try simp +contextual (disch:=omega) [zL,zM,zV,zW,zw,List.getElem?_cons_succ,Option.getD_some,callF,ints,scal,tpO,zF,zH,rows,zE,dfT,dfO,hnl,zAS,zAF,ze,zNr]
  all_goals (try omega)
 rintro ⟨q,B⟩ ⟨hq,hB⟩
 simp only at hq hB
 refine rg0 ?_
 refine zA ?_
 by_cases hqn : q < n
 ·have hqx : q < nx.length:=by omega
  obtain ⟨hrl,-⟩:=h.row nx[q] (by simp)
  refine cK1 @hqn ?_
  refine zA ?_
  refine zB ?_
  refine rg1 @hqx ?_
  refine rg1 @hrl ?_
  refine zB ?_
  refine awp_loop (fun y : Nat × (Nat -> List Nat)=>mkF [(1,.ptr 0 0 4),(3,.own 1 n),(4,.t 2 (.int .i64 q)),(20,.t 0 (rows nx)),(21,.t 2 (.int .i64 n)),(22,.t 2 (.int .i64 q)),(27,.t 0 (ints nx[q])),(28,.t 2 (.int .i64 L)),(29,.t 2 (.int .i64 y.1))]
    [(0,dfO L s bs nx),(1,.vec 22 1 2 (tab n fun j=>.own (100 + j) (y.2 j).length))] 100 n (fun j=>.row 3 1 2 (zAS (y.2 j))) 1000 98 [.any])
   (fun y=>y.1 <= L /\ BeI L n nx y.2 q y.1) (fun y=>L - y.1) ?_ ?_
  ·refine ⟨(0,B),⟨by simp,hB⟩,?_⟩
   exact kf1 [(0,some 0),(1,some 1)] (fun j=>100 + j) (an @rows.eq_1 @dfO.eq_1)
  clear hB
  rintro ⟨x,B⟩ ⟨hx,hB⟩
  simp only at hx hB
  refine rg0 ?_
  refine zA ?_
  by_cases hxl : x < L
  ·obtain ⟨s1,s2,s3,s4⟩:=h.rt.step hqn hxl
   have hlen:=hB.len (zJ nx q x)
   have hqL : q * L <= 512 * 6:=Nat.mul_le_mul (by omega) hL2
   refine cK1 @hxl ?_
   refine zA ?_
   refine zB ?_
   refine rg1 (an @s3 @s4) ?_
   refine rr1 (an @s1 (an @zg (an @zM @zL))) ?_
   show awp _ _ _ _
   refine rr0 ?_
   refine ⟨(x + 1,fun j=>if j = zJ nx q x then B j ++ [q] else B j),⟨by simp only; omega,hB.add hxl⟩,by simp only; omega,?_⟩
   refine zAG [(0,some 0),(1,some 1)] (fun j=>100 + j) rfl ?_ ?_ ?_ ?_ ?_ ?_
   all_goals try simp +contextual (disch:=omega) [zL,zM,zV,zW,zw,List.getElem?_cons_succ,Option.getD_some,callF,ints,scal,tpO,zF,zH,rows,dfO]
   all_goals (try omega)
   ·intro j hj
    by_cases e : j = zJ nx q x
    ·subst e
     simp +contextual (disch:=omega) [zL,zM,zV,zW,zw,List.getElem?_cons_succ,Option.getD_some,callF,ints,scal,tpO,zF,zH]
    ·simp +contextual (disch:=omega) [zL,zM,zV,zW,zw,List.getElem?_cons_succ,Option.getD_some,callF,ints,scal,tpO,zF,zH,e]
   ·intro j hj
    by_cases e : j = zJ nx q x
    ·subst e
     simp +contextual (disch:=omega) [zL,zM,zV,zW,zw,List.getElem?_cons_succ,Option.getD_some,callF,ints,scal,tpO,zF,zH,zAS]
    ·simp +contextual (disch:=omega) [zL,zM,zV,zW,zw,List.getElem?_cons_succ,Option.getD_some,callF,ints,scal,tpO,zF,zH,e,zBT (show 100 + j ≠ 100 + zJ nx q x by omega)]
  ·obtain rfl : x = L:=by omega
   refine cF0 ?_
   refine zG ?_
   show awp _ _ _ _
   refine rr0 ?_
   refine ⟨(q + 1,B),⟨by simp only; omega,hB.next⟩,by simp only; omega,?_⟩
   exact kf1 [(0,some 0),(1,some 1)] (fun j=>100 + j) (an @rows.eq_1 @dfO.eq_1)
 ·obtain rfl : q = n:=by omega
  refine cF0 ?_
  refine zG ?_
  show awp _ _ _ _
  refine rg1 @hnl ?_
  refine rg0 ?_
  refine zA ?_
  refine rg1 @hbl ?_
  refine zB ?_
  refine awp_loop (fun y : Nat × List Nat × (Nat -> Bool)=>mkS [(3,.own 1 q),(8,.own 2 q),(9,.own 3 y.2.1.length),(50,.t 0 (zE bs)),(51,.t 2 (.int .i64 q)),(52,.t 2 (.int .i64 y.1))]
    [(1,.row 22 1 2 (tab q fun p=>.sl 1 (zAS (B p)))),(2,.row 4 1 2 (zKe q y.2.2)),(3,.row 3 1 2 (zAS y.2.1))] 4 98 [.any])
   (fun y=>y.1 <= q /\ UsB q bs y.2.1 y.2.2 y.1) (fun y=>q - y.1) ?_ ?_
  ·refine ⟨(0,[],fun _=>false),⟨by simp,UsB.start⟩,?_⟩
   refine zQ [(1,some 1),(2,some 4001000),(3,none)] rfl ?_ ?_ ?_ ?_
   all_goals try simp [ints,rows,zE,dfO,zL5,zAS,zz,wk1,hbl,hnl]
   intro j hj
   simp +contextual (disch:=omega) [zL,zM,zV,zW,zw,List.getElem?_cons_succ,Option.getD_some,callF,ints,scal,tpO,zF,zH,zBT (show 100 + j ≠ 4001000 by omega)]
  rintro ⟨k,Q,M⟩ ⟨hk,hU⟩
  simp only at hk hU
  have hle:=hU.le hk
  refine rg0 ?_
  refine zA ?_
  by_cases hkq : k < q
  ·have hkb : k < bs.length:=by omega
   have hbg : bs.getD k false = bs[k]:=by rw [List.getD_eq_getElem?_getD,List.getElem?_eq_getElem hkb]; rfl
   refine cK1 @hkq ?_
   refine zA ?_
   refine zB ?_
   refine rg1 (an @zE.eq_1 @hkb) ?_
   refine rg0 ?_
   cases hb : bs[k] with
   | true =>
    refine cT1 @hb ?_
    refine rg1 (an @hkq @zJk) ?_
    refine rr0 ?_
    show awp _ _ _ _
    refine rr0 ?_
    refine ⟨(k + 1,Q ++ [k],fun j=>if j = k then true else M j),⟨by simp only; omega,hU.add (hbg.trans hb)⟩,by simp only; omega,?_⟩
    exact kw1 [(1,some 1),(2,some 2),(3,some 3)] (an @rows.eq_1 (an @zE.eq_1 @zAS.eq_1))
   | false =>
    refine cY1 @hb ?_
    show awp _ _ _ _
    refine rr0 ?_
    refine ⟨(k + 1,Q,M),⟨by simp only; omega,hU.old (hbg.trans hb)⟩,by simp only; omega,?_⟩
    exact kw1 [(1,some 1),(2,some 2),(3,some 3)] (an @rows.eq_1 @zE.eq_1)
  ·obtain rfl : k = q:=by omega
   have hU2:=hU.next (L:=L) (nx:=nx) (B:=B)
   clear hU
   refine cF0 ?_
   refine zG ?_
   show awp _ _ _ _
   refine zA ?_
   refine rg0 ?_
   refine zB ?_
   refine awp_loop (fun y : Nat × List Nat × (Nat -> Bool)=>mkS [(3,.own 1 k),(8,.own 2 k),(9,.own 3 y.2.1.length),(12,.t 2 (.int .i64 y.1))]
     [(1,.row 22 1 2 (tab k fun p=>.sl 1 (zAS (B p)))),(2,.row 4 1 2 (zKe k y.2.2)),(3,.row 3 1 2 (zAS y.2.1))] 4 98 [.any])
    (fun y=>y.1 <= y.2.1.length /\ UsI L k bs nx B y.2.1 y.2.2 y.1 0) (fun y=>k - y.1) ?_ ?_
   ·refine ⟨(0,Q,M),⟨by simp,hU2⟩,?_⟩
    exact kw1 [(1,some 1),(2,some 2),(3,some 3)] (an @rows.eq_1 @zE.eq_1)
   clear hU2 hle
   rintro ⟨i,Q,M⟩ ⟨hi,hU⟩
   simp only at hi hU
   have hle:=hU.le
   refine zA ?_
   refine rg0 ?_
   by_cases hil : i < Q.length
   ·obtain ⟨v,hv⟩ : ∃ v,Q[i]? = some v:=⟨_,List.getElem?_eq_getElem hil⟩
    have hvm:=hU.lt v (List.mem_of_getElem? hv)
    have hve : Q[i] = v:=(List.getElem?_eq_some_iff.1 hv).2
    have hbv:=hB.len v
    refine cK1 @hil ?_
    refine zA ?_
    refine zB ?_
    refine rg1 (an @zAS.eq_1 (an @hil (an @hve @hvm))) ?_
    refine zB ?_
    refine awp_loop (fun y : Nat × List Nat × (Nat -> Bool)=>mkS [(3,.own 1 k),(8,.own 2 k),(9,.own 3 y.2.1.length),(12,.t 2 (.int .i64 i)),(78,.t 2 (.sl 1 (zAS (B v)))),(79,.t 2 (.int .i64 (B v).length)),(80,.t 2 (.int .i64 y.1))]
      [(1,.row 22 1 2 (tab k fun p=>.sl 1 (zAS (B p)))),(2,.row 4 1 2 (zKe k y.2.2)),(3,.row 3 1 2 (zAS y.2.1))] 4 98 [.any])
     (fun y=>y.1 <= (B v).length /\ y.2.1[i]? = some v /\ UsI L k bs nx B y.2.1 y.2.2 i y.1) (fun y=>(B v).length - y.1) ?_ ?_
    ·refine ⟨(0,Q,M),⟨by simp,hv,hU⟩,?_⟩
     exact kw1 [(1,some 1),(2,some 2),(3,some 3)] (an @rows.eq_1 (an @zE.eq_1 @zAS.eq_1))
    clear hU hv hve hi hle hil
    rintro ⟨x,Q,M⟩ ⟨hx,hv,hU⟩
    simp only at hx hv hU
    have hle:=hU.le
    have hil:=(List.getElem?_eq_some_iff.1 hv).1
    refine rg0 ?_
    refine zA ?_
    by_cases hxl : x < (B v).length
    ·obtain ⟨r,hr⟩ : ∃ r,(B v)[x]? = some r:=⟨_,List.getElem?_eq_getElem hxl⟩
     have hrg:=zFG hr
     have hrn : r < k:=by
      obtain ⟨y,y1,y2,y3⟩:=(hB.mem v r).1 (List.mem_of_getElem? hr)
      omega
     have hg:=zQu (met:=M) hrn
     refine cK1 @hxl ?_
     refine zA ?_
     refine zB ?_
     refine rg1 @hrg ?_
     cases hm : M r with
     | true =>
      rw [hm] at hg
      refine rg1 (an @hg @hrn) ?_
      refine cY0 ?_
      show awp _ _ _ _
      refine rr0 ?_
      refine ⟨(x + 1,Q,M),⟨by simp only; omega,hv,hU.old hv hr hrn hm⟩,by simp only; omega,?_⟩
      exact kw1 [(1,some 1),(2,some 2),(3,some 3)] (an @rows.eq_1 @zE.eq_1)
     | false =>
      rw [hm] at hg
      refine rg1 (an @hg @hrn) ?_
      refine cT0 ?_
      refine rg1 (an @hrn @zJk) ?_
      refine rr0 ?_
      show awp _ _ _ _
      refine rr0 ?_
      refine ⟨(x + 1,Q ++ [r],fun j=>if j = r then true else M j),⟨by simp only; omega,by simp only; rw [List.getElem?_append_left hil]; exact hv,hU.add hB hv hr hrn hm⟩,by simp only; omega,?_⟩
      exact kw1 [(1,some 1),(2,some 2),(3,some 3)] (an @rows.eq_1 (an @zE.eq_1 @zAS.eq_1))
    ·refine cF1 @hxl ?_
     refine zG ?_
     show awp _ _ _ _
     refine rr0 ?_
     refine ⟨(i + 1,Q,M),⟨by simp only; omega,hU.next hv (by omega)⟩,by simp only; omega,?_⟩
     exact kw1 [(1,some 1),(2,some 2),(3,some 3)] (an @rows.eq_1 @zE.eq_1)
   ·obtain rfl : i = Q.length:=by omega
    refine cF0 ?_
    refine zG ?_
    show awp _ _ _ _
    refine rg0 ?_
    refine zC ?_
    refine ⟨_,⟨tab k M,by simp,fun j hj=>by rw [List.getD_eq_getElem?_getD,zP _ hj]; exact hU.end_ h hB hj,rfl⟩,?_⟩
    exact rt1 (an @dfT.eq_1 (an @zE.eq_1 (an @zKe.eq_1 @ze)))
end Go.Proofs.YtgelfgpcnaeecaaGreatDoor.M
