/-
  Automata whose cycles are loops, in plain Lean: what the removal of states and what the search from each state find.
  The monomials of the paths through an automaton whose cycles are loops, in plain Lean.
-/
import Derived.Test.YtgelfgpcnaeecaaGreatDoorZsag
import Derived.Test.YtgelfgpcnaeecaaGreatDoorZsah
namespace Go.Proofs.YtgelfgpcnaeecaaGreatDoor.M
open Go.RowKit
set_option linter.unusedVariables false
set_option linter.unusedSimpArgs false
set_option maxRecDepth 100000
set_option maxHeartbeats 32000000

def Acy (L m : Nat) (nx : List (List Int)) : Prop:=∀ q x w,q < m -> x < L -> (∀ a ∈ w,a < L) -> zJ nx q x ≠ q -> zZ nx (zJ nx q x) w ≠ q
theorem zGJ {nx : List (List Int)} {q : Nat} {u v : List Nat} : zZ nx q (u ++ v) = zZ nx (zZ nx q u) v:=by simp [zZ,List.foldl_append]
def tg (nx : List (List Int)) (p : Nat) (e : Nat × Nat) : Bool:=decide (zJ nx e.1 e.2 = p)
structure EdI (L m : Nat) (nx : List (List Int)) (R : List (Nat × Nat)) (k x : Nat) : Prop where
 rn : R.Nodup
 rm : ∀ e,e ∈ R ↔ (e.1 < m /\ e.2 < L /\ zJ nx e.1 e.2 ≠ e.1 /\ (e.1 < k \/ (e.1 = k /\ e.2 < x)))
 len : R.length <= k * L + x
section
variable {L m : Nat} {nx : List (List Int)} {R : List (Nat × Nat)} {k x : Nat}
theorem EdI.start : EdI L m nx [] 0 0:=⟨by simp,fun e=>by simp,by simp⟩
theorem EdI.loop (h : EdI L m nx R k x) (he : zJ nx k x = k) : EdI L m nx R k (x + 1):=by
 refine ⟨h.rn,fun e=>?_,by have:=h.len; omega⟩
 rw [h.rm]
 constructor
 ·rintro ⟨a,b,c,d⟩
  exact ⟨a,b,c,by omega⟩
 ·rintro ⟨a,b,c,d⟩
  refine ⟨a,b,c,?_⟩
  rcases d with d | ⟨d,d2⟩
  ·exact .inl d
  ·rcases Nat.lt_or_ge e.2 x with g | g
   ·exact .inr ⟨d,g⟩
   ·exfalso
    have : e.2 = x:=by omega
    rw [d,this] at c
    exact c he
theorem EdI.add (h : EdI L m nx R k x) (hk : k < m) (hx : x < L) (he : zJ nx k x ≠ k) : EdI L m nx (R ++ [(k,x)]) k (x + 1):=by
 have hn : (k,x) ∉ R:=fun hc=>by
  have:=((h.rm _).1 hc).2.2.2
  simp only at this
  omega
 refine ⟨List.nodup_append.2 ⟨h.rn,by simp,fun a ha b hb=>?_⟩,fun e=>?_,by have:=h.len; simp; omega⟩
 ·simp only [List.mem_singleton] at hb
  subst hb
  intro e
  exact hn (e ▸ ha)
 ·rw [List.mem_append,h.rm,List.mem_singleton]
  constructor
  ·rintro (⟨a,b,c,d⟩ | rfl)
   ·exact ⟨a,b,c,by omega⟩
   ·exact ⟨hk,hx,he,.inr ⟨rfl,by simp⟩⟩
  ·rintro ⟨a,b,c,d⟩
   rcases d with d | ⟨d,d2⟩
   ·exact .inl ⟨a,b,c,.inl d⟩
   ·rcases Nat.lt_or_ge e.2 x with g | g
    ·exact .inl ⟨a,b,c,.inr ⟨d,g⟩⟩
    ·right
     exact Prod.ext d (by simp only; omega)
theorem EdI.next (h : EdI L m nx R k L) : EdI L m nx R (k + 1) 0:=by
 refine ⟨h.rn,fun e=>?_,by have:=h.len; rw [Nat.add_mul]; omega⟩
 rw [h.rm]
 constructor
 ·rintro ⟨a,b,c,d⟩
  exact ⟨a,b,c,by omega⟩
 ·rintro ⟨a,b,c,d⟩
  exact ⟨a,b,c,by omega⟩
theorem zRI (p : Nat) (e : Nat × Nat) : (R ++ [e]).countP (tg nx p) = R.countP (tg nx p) + if zJ nx e.1 e.2 = p then 1 else 0:=by
 rw [List.countP_append,List.countP_cons,List.countP_nil]
 simp [tg]
end
structure KaI (L m : Nat) (nx : List (List Int)) (Q : List Nat) (R : List (Nat × Nat)) (i x : Nat) : Prop where
 qn : Q.Nodup
 ql : ∀ q ∈ Q,q < m
 rn : R.Nodup
 rm : ∀ e,e ∈ R ↔ (e.1 < m /\ e.2 < L /\ zJ nx e.1 e.2 ≠ e.1 /\ ¬ ∃ j,Q[j]? = some e.1 /\ (j < i \/ (j = i /\ e.2 < x)))
 len : R.length <= m * L
 iff : ∀ p,p < m -> (p ∈ Q ↔ R.countP (tg nx p) = 0)
 ord : ∀ (j p : Nat),Q[j]? = some p -> ∀ q y,q < m -> y < L -> zJ nx q y = p -> p ≠ q -> ∃ j' : Nat,j' < j /\ Q[j']? = some q
def quN (nx : List (List Int)) (R : List (Nat × Nat)) (k : Nat) : List Nat:=(List.range k).filter fun p=>decide (R.countP (tg nx p) = 0)
section
variable {L m : Nat} {nx : List (List Int)} {Q : List Nat} {R : List (Nat × Nat)} {i x : Nat}
theorem zOt (nx : List (List Int)) (R : List (Nat × Nat)) (k : Nat) : quN nx R (k + 1) = if R.countP (tg nx k) = 0 then quN nx R k ++ [k] else quN nx R k:=by
 unfold quN
 rw [List.range_succ,List.filter_append]
 by_cases h : R.countP (tg nx k) = 0
 ·rw [if_pos h,List.filter_cons_of_pos (by simp [h])]
  rfl
 ·rw [if_neg h,List.filter_cons_of_neg (by simp [h])]
  simp
theorem zP5 (nx : List (List Int)) (R : List (Nat × Nat)) (k : Nat) : (quN nx R k).length <= k:=Nat.le_trans (List.length_filter_le _ _) (by simp)
theorem KaI.start {s : Nat} {bs : List Bool} (hD : DfL L m s bs nx) (h : EdI L m nx R m 0) : KaI L m nx (quN nx R m) R 0 0:=by
 have hmem : ∀ p,p ∈ quN nx R m ↔ p < m /\ R.countP (tg nx p) = 0:=fun p=>by simp [quN]
 refine ⟨List.Nodup.sublist List.filter_sublist List.nodup_range,fun q hq=>((hmem q).1 hq).1,h.rn,fun e=>?_,by have:=h.len; omega,fun p hp=>?_,fun j p hj q y hq hy hs hne=>?_⟩
 ·rw [h.rm]
  constructor
  ·rintro ⟨a,b,c,d⟩
   exact ⟨a,b,c,fun ⟨j,hj,h2⟩=>by omega⟩
  ·rintro ⟨a,b,c,d⟩
   exact ⟨a,b,c,.inl a⟩
 ·rw [hmem]
  exact ⟨fun h=>h.2,fun h=>⟨hp,h⟩⟩
 ·exfalso
  have h1:=((hmem p).1 (List.mem_of_getElem? hj)).2
  rw [List.countP_eq_zero] at h1
  exact h1 (q,y) ((h.rm _).2 ⟨hq,hy,by simp only; omega,.inl hq⟩) (by simp [tg,hs])
theorem KaI.le (h : KaI L m nx Q R i x) : Q.length <= m:=zBr h.qn h.ql
theorem KaI.loop (h : KaI L m nx Q R i x) {q : Nat} (hq : Q[i]? = some q) (he : zJ nx q x = q) : KaI L m nx Q R i (x + 1):=by
 refine ⟨h.qn,h.ql,h.rn,fun e=>?_,h.len,h.iff,h.ord⟩
 rw [h.rm]
 constructor
 ·rintro ⟨a,b,c,d⟩
  refine ⟨a,b,c,?_⟩
  rintro ⟨j,hj,g | ⟨g,g2⟩⟩
  ·exact d ⟨j,hj,.inl g⟩
  ·rcases Nat.lt_or_ge e.2 x with g3 | g3
   ·exact d ⟨j,hj,.inr ⟨g,g3⟩⟩
   ·have e2 : e.2 = x:=by omega
    rw [g,hq] at hj
    injection hj with hj
    rw [← hj,e2] at c
    exact c he
 ·rintro ⟨a,b,c,d⟩
  exact ⟨a,b,c,fun ⟨j,hj,g⟩=>d ⟨j,hj,by omega⟩⟩
theorem KaI.mem (h : KaI L m nx Q R i x) {q : Nat} (hq : Q[i]? = some q) (hx : x < L) (he : zJ nx q x ≠ q) : (q,x) ∈ R:=by
 refine (h.rm _).2 ⟨h.ql q (List.mem_of_getElem? hq),hx,he,?_⟩
 rintro ⟨j,hj,g⟩
 have:=zRi h.qn hj hq
 simp only at g
 omega
theorem KaI.pos (h : KaI L m nx Q R i x) {q : Nat} (hq : Q[i]? = some q) (hx : x < L) (he : zJ nx q x ≠ q) : 0 < R.countP (tg nx (zJ nx q x)):=List.countP_pos_iff.2 ⟨_,h.mem hq hx he,by simp [tg]⟩
theorem zCk {e : Nat × Nat} (he : e ∈ R) (p : Nat) : (R.erase e).countP (tg nx p) = R.countP (tg nx p) - if zJ nx e.1 e.2 = p then 1 else 0:=by
 have h:=(List.perm_cons_erase he).countP_eq (tg nx p)
 rw [List.countP_cons] at h
 simp only [tg,decide_eq_true_eq] at h ⊢
 omega
theorem KaI.rm' (h : KaI L m nx Q R i x) {q : Nat} (hq : Q[i]? = some q) (Q' : List Nat) (hQ : ∀ j : Nat,j <= i -> Q'[j]? = Q[j]?) (e : Nat × Nat) : e ∈ R.erase (q,x) ↔ (e.1 < m /\ e.2 < L /\ zJ nx e.1 e.2 ≠ e.1 /\ ¬ ∃ j,Q'[j]? = some e.1 /\ (j < i \/ (j = i /\ e.2 < x + 1))):=by
 rw [h.rn.mem_erase_iff,h.rm]
 constructor
 ·rintro ⟨ne,a,b,c,d⟩
  refine ⟨a,b,c,?_⟩
  rintro ⟨j,hj,g⟩
  rw [hQ j (by omega)] at hj
  rcases g with g | ⟨g,g2⟩
  ·exact d ⟨j,hj,.inl g⟩
  ·rcases Nat.lt_or_ge e.2 x with g3 | g3
   ·exact d ⟨j,hj,.inr ⟨g,g3⟩⟩
   ·rw [g,hq] at hj
    injection hj with hj
    exact ne (Prod.ext hj.symm (by simp only; omega))
 ·rintro ⟨a,b,c,d⟩
  refine ⟨fun ne=>?_,a,b,c,fun ⟨j,hj,g⟩=>d ⟨j,by rw [hQ j (by omega)]; exact hj,by omega⟩⟩
  rw [ne] at d
  exact d ⟨i,by rw [hQ i (Nat.le_refl _)]; exact hq,.inr ⟨rfl,by simp⟩⟩
theorem KaI.zPi (h : KaI L m nx Q R i x) {q : Nat} (hq : Q[i]? = some q) (hx : x < L) (he : zJ nx q x ≠ q) (hc : R.countP (tg nx (zJ nx q x)) ≠ 1) : KaI L m nx Q (R.erase (q,x)) i (x + 1):=by
 have hpos:=h.pos hq hx he
 have hmem:=h.mem hq hx he
 refine ⟨h.qn,h.ql,h.rn.erase _,h.rm' hq Q (fun j _=>rfl),Nat.le_trans List.length_erase_le h.len,fun p hp=>?_,h.ord⟩
 rw [h.iff p hp,zCk hmem]
 simp only
 split
 ·rename_i g
  subst g
  omega
 ·omega
theorem KaI.push (h : KaI L m nx Q R i x) {q : Nat} (hp : zJ nx q x < m) (hq : Q[i]? = some q) (hx : x < L) (he : zJ nx q x ≠ q) (hc : R.countP (tg nx (zJ nx q x)) = 1) : KaI L m nx (Q ++ [zJ nx q x]) (R.erase (q,x)) i (x + 1):=by
 have hmem:=h.mem hq hx he
 have hil:=(List.getElem?_eq_some_iff.1 hq).1
 have hn : zJ nx q x ∉ Q:=fun g=>by
  have:=(h.iff _ hp).1 g
  omega
 have hQ : ∀ j : Nat,j <= i -> (Q ++ [zJ nx q x])[j]? = Q[j]?:=fun j hj=>List.getElem?_append_left (by omega)
 have hrm:=h.rm' hq _ hQ
 refine ⟨List.nodup_append.2 ⟨h.qn,by simp,fun a ha b hb=>?_⟩,fun p hpm=>?_,h.rn.erase _,hrm,Nat.le_trans List.length_erase_le h.len,fun p hpm=>?_,fun j p hj r y hr hy hs hne=>?_⟩
 ·simp only [List.mem_singleton] at hb
  subst hb
  intro e
  exact hn (e ▸ ha)
 ·rcases List.mem_append.1 hpm with g | g
  ·exact h.ql p g
  ·simp only [List.mem_singleton] at g
   omega
 ·rw [List.mem_append,List.mem_singleton,h.iff p hpm,zCk hmem]
  simp only
  split
  ·rename_i g
   subst g
   simp [hc]
  ·rename_i g
   constructor
   ·rintro (a | a)
    ·omega
    ·exact absurd a.symm g
   ·intro a
    left; omega
 ·by_cases hjl : j < Q.length
  ·rw [List.getElem?_append_left hjl] at hj
   obtain ⟨j',a,b⟩:=h.ord j p hj r y hr hy hs hne
   exact ⟨j',a,by rw [List.getElem?_append_left (by omega)]; exact b⟩
  ·have hjl2:=(List.getElem?_eq_some_iff.1 hj).1
   simp only [List.length_append,List.length_singleton] at hjl2
   have ej : j = Q.length:=by omega
   subst ej
   simp only [List.getElem?_append_right (Nat.le_refl _),Nat.sub_self,List.getElem?_cons_zero,Option.some.injEq] at hj
   have h0 : (R.erase (q,x)).countP (tg nx p) = 0:=by
    rw [zCk hmem]
    simp only
    rw [if_pos hj,← hj,hc]
   rw [List.countP_eq_zero] at h0
   by_cases hr2 : ∃ j : Nat,(Q ++ [zJ nx q x])[j]? = some r /\ (j < i \/ (j = i /\ y < x + 1))
   ·obtain ⟨j',a,b⟩:=hr2
    exact ⟨j',by omega,a⟩
   ·exfalso
    exact h0 (r,y) ((hrm _).2 ⟨hr,hy,by simp only; omega,hr2⟩) (by simp [tg,hs])
theorem KaI.next (h : KaI L m nx Q R i L) : KaI L m nx Q R (i + 1) 0:=by
 refine ⟨h.qn,h.ql,h.rn,fun e=>?_,h.len,h.iff,h.ord⟩
 rw [h.rm]
 constructor
 ·rintro ⟨a,b,c,d⟩
  exact ⟨a,b,c,fun ⟨j,hj,g⟩=>d ⟨j,hj,by omega⟩⟩
 ·rintro ⟨a,b,c,d⟩
  exact ⟨a,b,c,fun ⟨j,hj,g⟩=>d ⟨j,hj,by omega⟩⟩
theorem zRo : ∀ {l Q : List Nat},l.Nodup -> (∀ x ∈ l,x ∈ Q) -> l.length <= Q.length
 | [],Q,_,_=>by simp
 | a :: l,Q,hn,h=>by
  obtain ⟨h1,h2⟩:=List.nodup_cons.1 hn
  have ha:=h a (by simp)
  have:=zRo (Q:=Q.erase a) h2 (fun x hx=>(List.mem_erase_of_ne (show x ≠ a from fun e=>h1 (e ▸ hx))).2 (h x (by simp [hx])))
  rw [List.length_erase_of_mem ha] at this
  have:=List.length_pos_of_mem ha
  simp
  omega
noncomputable def zSD (L m : Nat) (nx : List (List Int)) (p : Nat) : Nat:=((List.range m).filter fun q=>@decide (∃ w,(∀ a ∈ w,a < L) /\ zZ nx q w = p) (Classical.propDecidable _)).length
theorem filter_lt {α : Type} {P P' : α -> Bool} {l : List α} (h : ∀ a ∈ l,P a = true -> P' a = true) {b : α} (hb : b ∈ l) (h1 : P b = false) (h2 : P' b = true) : (l.filter P).length < (l.filter P').length:=by
 rw [← List.countP_eq_length_filter,← List.countP_eq_length_filter]
 have key : ∀ l : List α,(∀ a ∈ l,P a = true -> P' a = true) -> l.countP P <= l.countP P' /\ (b ∈ l -> l.countP P < l.countP P'):=by
  intro l
  induction l with
  | nil=>intro _; exact ⟨by simp,fun h=>by simp at h⟩
  | cons c l ih =>
   intro hh
   obtain ⟨i1,i2⟩:=ih (fun a ha=>hh a (by simp [ha]))
   have hc:=hh c (by simp)
   rw [List.countP_cons,List.countP_cons]
   refine ⟨?_,fun hm=>?_⟩
   ·cases hp : P c with
    | false=>simp; omega
    | true=>simp [hc hp]; omega
   ·rcases List.mem_cons.1 hm with g | g
    ·subst g
     simp [h1,h2]; omega
    ·have:=i2 g
     cases hp : P c with
     | false=>simp; omega
     | true=>simp [hc hp]; omega
 exact (key l h).2 hb
theorem Acy.anc {s : Nat} {bs : List Bool} (hD : DfL L m s bs nx) (h : Acy L m nx) {q y : Nat} (hq : q < m) (hy : y < L) (hne : zJ nx q y ≠ q) : zSD L m nx q < zSD L m nx (zJ nx q y):=by
 refine filter_lt (b:=zJ nx q y) (fun a ha hw=>?_) (by simp; exact (hD.rt.step hq hy).1) ?_ ?_
 ·simp only [decide_eq_true_eq] at hw ⊢
  obtain ⟨w,h1,h2⟩:=hw
  exact ⟨w ++ [y],fun a ha=>by
   rcases List.mem_append.1 ha with g | g
   ·exact h1 a g
   ·simp only [List.mem_singleton] at g; omega,by rw [zGJ,h2]; rfl⟩
 ·simp only [decide_eq_false_iff_not]
  rintro ⟨w,h1,h2⟩
  exact h q y w hq hy h1 hne h2
 ·simp only [decide_eq_true_eq]
  exact ⟨[],by simp,rfl⟩
theorem KaI.fin {s : Nat} {bs : List Bool} (hD : DfL L m s bs nx) (h : KaI L m nx Q R Q.length 0) : Q.length = m ↔ Acy L m nx:=by
 constructor
 ·intro hl
  -- every state has a place; transitions to other states go to later places
  have hall : ∀ q,q < m -> q ∈ Q:=by
   intro q hq
   apply Classical.byContradiction
   intro hn
   have h1 : (Q ++ [q]).Nodup:=List.nodup_append.2 ⟨h.qn,by simp,fun a ha b hb=>by
    simp only [List.mem_singleton] at hb
    subst hb
    intro e
    exact hn (e ▸ ha)⟩
   have h2:=zBr (n:=m) h1 (fun x hx=>by
    rcases List.mem_append.1 hx with g | g
    ·exact h.ql x g
    ·simp only [List.mem_singleton] at g; omega)
   simp at h2
   omega
  have mono : ∀ (w : List Nat) (j q : Nat),q < m -> (∀ a ∈ w,a < L) -> Q[j]? = some q -> ∃ j' : Nat,j <= j' /\ Q[j']? = some (zZ nx q w):=by
   intro w
   induction w with
   | nil=>intro j q _ _ hj; exact ⟨j,Nat.le_refl _,hj⟩
   | cons a w ih =>
    intro j q hq hw hj
    have ha:=hw a (by simp)
    have hs:=(hD.rt.step hq ha).1
    by_cases e : zJ nx q a = q
    ·obtain ⟨j',g1,g2⟩:=ih j q hq (fun b hb=>hw b (by simp [hb])) hj
     refine ⟨j',g1,?_⟩
     show Q[j']? = some (zZ nx (zJ nx q a) w)
     rw [e]; exact g2
    ·obtain ⟨j2,e2⟩:=List.getElem?_of_mem (hall _ hs)
     obtain ⟨j3,g3,e3⟩:=h.ord j2 _ e2 q a hq ha rfl e
     have:=zRi h.qn e3 hj
     obtain ⟨j',g1,g2⟩:=ih j2 _ hs (fun b hb=>hw b (by simp [hb])) e2
     exact ⟨j',by omega,g2⟩
  intro q x w hq hx hw hne e
  have hs:=(hD.rt.step hq hx).1
  obtain ⟨j2,e2⟩:=List.getElem?_of_mem (hall _ hs)
  obtain ⟨j3,g3,e3⟩:=h.ord j2 _ e2 q x hq hx rfl hne
  obtain ⟨j',g1,g2⟩:=mono w j2 _ hs hw e2
  rw [e] at g2
  have:=zRi h.qn g2 e3
  omega
 ·intro hA
  have hle:=h.le
  apply Classical.byContradiction
  intro hlt
  -- a state that is left: all left states have a left predecessor
  have hpre : ∀ p,p < m -> p ∉ Q -> ∃ q y,q < m /\ q ∉ Q /\ y < L /\ zJ nx q y = p /\ p ≠ q:=by
   intro p hp hn
   have h0 : R.countP (tg nx p) ≠ 0:=fun e=>hn ((h.iff p hp).2 e)
   obtain ⟨e,he,ht⟩:=List.countP_pos_iff.1 (Nat.pos_of_ne_zero h0)
   obtain ⟨a,b,c,d⟩:=(h.rm e).1 he
   simp only [tg,decide_eq_true_eq] at ht
   refine ⟨e.1,e.2,a,fun hm=>?_,b,ht,fun g=>c (ht.trans g)⟩
   obtain ⟨j,hj⟩:=List.getElem?_of_mem hm
   exact d ⟨j,hj,.inl (List.getElem?_eq_some_iff.1 hj).1⟩
  have hno : ∀ n p,p < m -> zSD L m nx p <= n -> p ∈ Q:=by
   intro n
   induction n with
   | zero =>
    intro p hp ha
    apply Classical.byContradiction
    intro hn
    obtain ⟨q,y,g1,g2,g3,g4,g5⟩:=hpre p hp hn
    have:=hA.anc hD g1 g3 (by omega)
    rw [g4] at this
    omega
   | succ n ih =>
    intro p hp ha
    apply Classical.byContradiction
    intro hn
    obtain ⟨q,y,g1,g2,g3,g4,g5⟩:=hpre p hp hn
    have:=hA.anc hD g1 g3 (by omega)
    rw [g4] at this
    exact g2 (ih q g1 (by omega))
  have h1 : (List.range m).length <= Q.length:=by
   exact zRo List.nodup_range (fun p hp=>hno _ p (by simpa using hp) (Nat.le_refl _))
  simp at h1
  omega
end
structure SeI (L m : Nat) (nx : List (List Int)) (q : Nat) (l : List Nat) (met : Nat -> Bool) (i x : Nat) : Prop where
 nd : l.Nodup
 lt : ∀ s ∈ l,s < m
 met : ∀ s,s < m -> (met s = true ↔ s ∈ l)
 rch : ∀ s ∈ l,∃ y w,y < L /\ (∀ a ∈ w,a < L) /\ zJ nx q y ≠ q /\ zZ nx (zJ nx q y) w = s
 fst : ∀ y,y < L -> zJ nx q y ≠ q -> zJ nx q y ∈ l
 done : ∀ (j : Nat) s,j < i -> l[j]? = some s -> ∀ y,y < L -> zJ nx s y ∈ l
 row : ∀ s,l[i]? = some s -> ∀ y,y < x -> zJ nx s y ∈ l
structure SeB (L m : Nat) (nx : List (List Int)) (q : Nat) (l : List Nat) (met : Nat -> Bool) (x : Nat) : Prop where
 nd : l.Nodup
 lt : ∀ s ∈ l,s < m
 met : ∀ s,s < m -> (met s = true ↔ s ∈ l)
 rch : ∀ s ∈ l,∃ y w,y < L /\ (∀ a ∈ w,a < L) /\ zJ nx q y ≠ q /\ zZ nx (zJ nx q y) w = s
 fst : ∀ y,y < x -> zJ nx q y ≠ q -> zJ nx q y ∈ l
section
variable {L m q : Nat} {nx : List (List Int)} {l : List Nat} {met : Nat -> Bool} {i x : Nat}
theorem SeB.start : SeB L m nx q [] (fun _=>false) 0:=⟨by simp,by simp,by simp,by simp,fun y h=>by omega⟩
theorem SeB.old (h : SeB L m nx q l met x) (hs : zJ nx q x = q \/ (zJ nx q x < m /\ met (zJ nx q x) = true)) : SeB L m nx q l met (x + 1):=by
 refine ⟨h.nd,h.lt,h.met,h.rch,fun y hy hne=>?_⟩
 by_cases e : y = x
 ·subst e
  rcases hs with g | ⟨g,g2⟩
  ·exact absurd g hne
  ·exact (h.met _ g).1 g2
 ·exact h.fst y (by omega) hne
theorem zBm {l : List Nat} {s : Nat} (h : l.Nodup) (hn : s ∉ l) : (l ++ [s]).Nodup:=List.nodup_append.2 ⟨h,by simp,fun a ha b hb=>by
 simp only [List.mem_singleton] at hb
 subst hb
 intro e
 exact hn (e ▸ ha)⟩
theorem SeB.add (h : SeB L m nx q l met x) (hx : x < L) (hne : zJ nx q x ≠ q) (hm : zJ nx q x < m) (hf : met (zJ nx q x) = false) : SeB L m nx q (l ++ [zJ nx q x]) (fun j=>if j = zJ nx q x then true else met j) (x + 1):=by
 have hn : zJ nx q x ∉ l:=fun g=>by rw [(h.met _ hm).2 g] at hf; cases hf
 refine ⟨zBm h.nd hn,fun s hs=>?_,fun s hs=>?_,fun s hs=>?_,fun y hy hny=>?_⟩
 ·rcases List.mem_append.1 hs with g | g
  ·exact h.lt s g
  ·simp only [List.mem_singleton] at g; omega
 ·by_cases e : s = zJ nx q x
  ·simp [e]
  ·simp [e,h.met s hs]
 ·rcases List.mem_append.1 hs with g | g
  ·exact h.rch s g
  ·simp only [List.mem_singleton] at g
   exact ⟨x,[],hx,by simp,hne,g.symm⟩
 ·by_cases e : y = x
  ·subst e; simp
  ·exact List.mem_append_left _ (h.fst y (by omega) hny)
theorem SeB.next (h : SeB L m nx q l met L) : SeI L m nx q l met 0 0:=⟨h.nd,h.lt,h.met,h.rch,h.fst,fun j s hj=>by omega,fun s _ y hy=>by omega⟩
theorem SeI.le (h : SeI L m nx q l met i x) : l.length <= m:=zBr h.nd h.lt
theorem SeB.le (h : SeB L m nx q l met x) : l.length <= m:=zBr h.nd h.lt
theorem SeI.old (h : SeI L m nx q l met i x) {s : Nat} (hs : l[i]? = some s) (hm : zJ nx s x < m) (hf : met (zJ nx s x) = true) : SeI L m nx q l met i (x + 1):=by
 refine ⟨h.nd,h.lt,h.met,h.rch,h.fst,h.done,fun s' hs' y hy=>?_⟩
 by_cases e : y = x
 ·subst e
  rw [hs] at hs'
  injection hs' with hs'
  subst hs'
  exact (h.met _ hm).1 hf
 ·exact h.row s' hs' y (by omega)
theorem SeI.add (h : SeI L m nx q l met i x) {s : Nat} (hs : l[i]? = some s) (hx : x < L) (hm : zJ nx s x < m) (hf : met (zJ nx s x) = false) : SeI L m nx q (l ++ [zJ nx s x]) (fun j=>if j = zJ nx s x then true else met j) i (x + 1):=by
 have hn : zJ nx s x ∉ l:=fun g=>by rw [(h.met _ hm).2 g] at hf; cases hf
 have hil:=(List.getElem?_eq_some_iff.1 hs).1
 refine ⟨zBm h.nd hn,fun t ht=>?_,fun t ht=>?_,fun t ht=>?_,fun y hy hny=>List.mem_append_left _ (h.fst y hy hny),fun j t hj ht y hy=>?_,fun t ht y hy=>?_⟩
 ·rcases List.mem_append.1 ht with g | g
  ·exact h.lt t g
  ·simp only [List.mem_singleton] at g; omega
 ·by_cases e : t = zJ nx s x
  ·simp [e]
  ·simp [e,h.met t ht]
 ·rcases List.mem_append.1 ht with g | g
  ·exact h.rch t g
  ·simp only [List.mem_singleton] at g
   obtain ⟨y,w,h1,h2,h3,h4⟩:=h.rch s (List.mem_of_getElem? hs)
   exact ⟨y,w ++ [x],h1,fun a ha=>by
    rcases List.mem_append.1 ha with g2 | g2
    ·exact h2 a g2
    ·simp only [List.mem_singleton] at g2; omega,h3,by rw [zGJ,h4,g]; rfl⟩
 ·rw [List.getElem?_append_left (by omega)] at ht
  exact List.mem_append_left _ (h.done j t hj ht y hy)
 ·rw [List.getElem?_append_left hil,hs] at ht
  injection ht with ht
  subst ht
  by_cases e : y = x
  ·subst e; simp
  ·exact List.mem_append_left _ (h.row s hs y (by omega))
theorem SeI.next (h : SeI L m nx q l met i L) : SeI L m nx q l met (i + 1) 0:=by
 refine ⟨h.nd,h.lt,h.met,h.rch,h.fst,fun j s hj hs y hy=>?_,fun s _ y hy=>by omega⟩
 by_cases e : j = i
 ·subst e; exact h.row s hs y hy
 ·exact h.done j s (by omega) hs y hy
theorem SeI.fin (h : SeI L m nx q l met l.length 0) (hq : q < m) : met q = true ↔ ∃ x w,x < L /\ (∀ a ∈ w,a < L) /\ zJ nx q x ≠ q /\ zZ nx (zJ nx q x) w = q:=by
 rw [h.met q hq]
 refine ⟨h.rch q,?_⟩
 rintro ⟨x,w,h1,h2,h3,h4⟩
 have key : ∀ (w : List Nat) (s : Nat),s ∈ l -> (∀ a ∈ w,a < L) -> zZ nx s w ∈ l:=by
  intro w
  induction w with
  | nil=>intro s hs _; exact hs
  | cons a w ih =>
   intro s hs hw
   obtain ⟨j,hj⟩:=List.getElem?_of_mem hs
   exact ih _ (h.done j s (List.getElem?_eq_some_iff.1 hj).1 hj a (hw a (by simp))) (fun b hb=>hw b (by simp [hb]))
 rw [← h4]
 exact key w _ (h.fst x h1 h3) h2
end
def loopN (nx : List (List Int)) (q : Nat) : Nat -> Nat
 | 0=>0
 | x + 1=>if zJ nx q x = q then loopN nx q x ||| (1 <<< x) else loopN nx q x
theorem zIu (nx : List (List Int)) (q : Nat) : ∀ x,loopN nx q x < 2 ^ x
 | 0=>by simp [loopN]
 | x + 1=>by
  have h:=zIu nx q x
  have h2 : 2 ^ (x + 1) = 2 ^ x + 2 ^ x:=by rw [Nat.pow_succ]; omega
  unfold loopN
  split
  ·exact Nat.or_lt_two_pow (by omega) (by rw [Nat.one_shiftLeft]; exact Nat.pow_lt_pow_right (by omega) (by omega))
  ·omega
def zNV (k x : Nat) (m : Mo) : Mo:=(k :: m.1,x :: m.2)
def pth (L : Nat) (bs : List Bool) (nx : List (List Int)) : Nat -> Nat -> List Mo
 | 0,q=>[]
 | f + 1,q=>(if bs.getD q false then [([loopN nx q L],[])] else []) ++ (List.range L).flatMap fun x=>if zJ nx q x = q then [] else (pth L bs nx f (zJ nx q x)).map (zNV (loopN nx q L) x)
def zTK (L : Nat) (bs : List Bool) (nx : List (List Int)) (f q x : Nat) : List Mo:=(if bs.getD q false then [([loopN nx q L],[])] else []) ++ (List.range x).flatMap fun y=>if zJ nx q y = q then [] else (pth L bs nx f (zJ nx q y)).map (zNV (loopN nx q L) y)
noncomputable def rkA (L m : Nat) (nx : List (List Int)) (q : Nat) : Nat:=m - zSD L m nx q
section
variable {L m s : Nat} {bs : List Bool} {nx : List (List Int)}
theorem zQp (L m : Nat) (nx : List (List Int)) (q : Nat) : zSD L m nx q <= m:=Nat.le_trans (List.length_filter_le _ _) (by simp)
theorem zMt (hD : DfL L m s bs nx) (hA : Acy L m nx) {q x : Nat} (hq : q < m) (hx : x < L) (hne : zJ nx q x ≠ q) : rkA L m nx (zJ nx q x) < rkA L m nx q:=by
 have h1:=hA.anc hD hq hx hne
 have h2:=zQp L m nx (zJ nx q x)
 unfold rkA
 omega
theorem zSp (L m : Nat) (nx : List (List Int)) (q : Nat) : rkA L m nx q <= m:=Nat.sub_le _ _
theorem zCY {α β : Type} {l : List α} {f g : α -> List β} (h : ∀ a ∈ l,f a = g a) : l.flatMap f = l.flatMap g:=by
 induction l with
 | nil=>rfl
 | cons a l ih=>rw [List.flatMap_cons,List.flatMap_cons,h a (by simp),ih (fun b hb=>h b (by simp [hb]))]
theorem zEj (hD : DfL L m s bs nx) (hA : Acy L m nx) : ∀ (f f' q : Nat),q < m -> rkA L m nx q < f -> rkA L m nx q < f' -> pth L bs nx f q = pth L bs nx f' q
 | 0,_,_,_,h,_=>by omega
 | _ + 1,0,_,_,_,h=>by omega
 | f + 1,f' + 1,q,hq,h1,h2=>by
  unfold pth
  congr 1
  refine zCY (fun x hx=>?_)
  have hxl : x < L:=by simpa using hx
  by_cases e : zJ nx q x = q
  ·simp [e]
  ·have:=zMt hD hA hq hxl e
   rw [if_neg e,if_neg e,zEj hD hA f f' _ (hD.rt.step hq hxl).1 (by omega) (by omega)]
def pX (L m : Nat) (bs : List Bool) (nx : List (List Int)) (q : Nat) : List Mo:=pth L bs nx (m + 1) q
def pXL (L m : Nat) (bs : List Bool) (nx : List (List Int)) (q x : Nat) : List Mo:=zTK L bs nx (m + 1) q x
theorem zP2 (hD : DfL L m s bs nx) (hA : Acy L m nx) {q : Nat} (hq : q < m) : pX L m bs nx q = pXL L m bs nx q L:=by
 unfold pX pXL zTK
 rw [pth]
 congr 1
 refine zCY (fun x hx=>?_)
 have hxl : x < L:=by simpa using hx
 by_cases e : zJ nx q x = q
 ·simp [e]
 ·have:=zMt hD hA hq hxl e
  have:=zSp L m nx q
  rw [if_neg e,if_neg e,zEj hD hA m (m + 1) _ (hD.rt.step hq hxl).1 (by omega) (by omega)]
theorem zIy (q : Nat) : pXL L m bs nx q 0 = if bs.getD q false then [([loopN nx q L],[])] else []:=by
 unfold pXL zTK
 simp
theorem zFb (q x : Nat) : pXL L m bs nx q (x + 1) = pXL L m bs nx q x ++ if zJ nx q x = q then [] else (pX L m bs nx (zJ nx q x)).map (zNV (loopN nx q L) x):=by
 unfold pXL zTK pX
 rw [List.range_succ,List.flatMap_append,List.append_assoc]
 simp
theorem zI8 {q x : Nat} (h : zJ nx q x = q) : pXL L m bs nx q (x + 1) = pXL L m bs nx q x:=by rw [zFb,if_pos h,List.append_nil]
theorem zJa {q x : Nat} (h : zJ nx q x ≠ q) : pXL L m bs nx q (x + 1) = pXL L m bs nx q x ++ (pX L m bs nx (zJ nx q x)).map (zNV (loopN nx q L) x):=by rw [zFb,if_neg h]
theorem zKj (q : Nat) : ∀ (x d : Nat),∃ l,pXL L m bs nx q (x + d) = pXL L m bs nx q x ++ l
 | x,0=>⟨[],by simp⟩
 | x,d + 1=>by
  obtain ⟨l,h⟩:=zKj q x d
  exact ⟨_,by rw [← Nat.add_assoc,zFb,h,List.append_assoc]⟩
theorem zDg (q : Nat) {x y : Nat} (h : x <= y) : ∃ l,pXL L m bs nx q y = pXL L m bs nx q x ++ l:=by
 obtain ⟨l,e⟩:=zKj (L:=L) (m:=m) (bs:=bs) (nx:=nx) q x (y - x)
 rw [show x + (y - x) = y by omega] at e
 exact ⟨l,e⟩
theorem zMa (hD : DfL L m s bs nx) (hA : Acy L m nx) {q : Nat} (hq : q < m) : pX L m bs nx q ≠ [] ↔ ∃ w,(∀ a ∈ w,a < L) /\ zAf bs nx q w = true:=by
 constructor
 ·have key : ∀ (f q : Nat) (p : Mo),p ∈ pth L bs nx f q -> (∀ a ∈ p.2,a < L) /\ zAf bs nx q p.2 = true:=by
   intro f
   induction f with
   | zero=>intro q p hp; simp [pth] at hp
   | succ f ih =>
    intro q p hp
    rw [pth] at hp
    rcases List.mem_append.1 hp with hp | hp
    ·split at hp
     ·rename_i hb
      simp only [List.mem_singleton] at hp
      subst hp
      exact ⟨by simp,hb⟩
     ·simp at hp
    ·obtain ⟨x,hx,hp⟩:=List.mem_flatMap.1 hp
     have hxl : x < L:=by simpa using hx
     split at hp
     ·simp at hp
     ·obtain ⟨p',hp',rfl⟩:=List.mem_map.1 hp
      obtain ⟨h1,h2⟩:=ih _ _ hp'
      refine ⟨fun a ha=>?_,h2⟩
      rcases List.mem_cons.1 ha with e | e
      ·omega
      ·exact h1 a e
  intro h
  obtain ⟨p,hp⟩:=List.exists_mem_of_ne_nil _ h
  exact ⟨p.2,key _ _ _ hp⟩
 ·rintro ⟨w,hw,ha⟩
  induction w generalizing q with
  | nil =>
   rw [zP2 hD hA hq]
   obtain ⟨l,e⟩:=zDg (L:=L) (m:=m) (bs:=bs) (nx:=nx) q (Nat.zero_le L)
   rw [e,zIy,if_pos (by simpa [zAf,zZ] using ha)]
   simp
  | cons a w ih =>
   have hal:=hw a (by simp)
   have hs:=(hD.rt.step hq hal).1
   by_cases e : zJ nx q a = q
   ·refine ih hq (fun b hb=>hw b (by simp [hb])) ?_
    have ha' : zAf bs nx (zJ nx q a) w = true:=ha
    rw [e] at ha'
    exact ha'
   ·have h1:=ih hs (fun b hb=>hw b (by simp [hb])) ha
    rw [zP2 hD hA hq]
    obtain ⟨l,e2⟩:=zDg (L:=L) (m:=m) (bs:=bs) (nx:=nx) q (show a + 1 <= L by omega)
    rw [e2,zJa e]
    intro hc
    simp at hc
    exact h1 hc.2.1
def Fits (n k : Nat) (ps : List Mo) : Prop:=n + ps.length <= 400 /\ ∀ p ∈ ps,k + p.2.length <= 60
theorem Fits.left {n k : Nat} {ps qs : List Mo} (h : Fits n k (ps ++ qs)) : Fits n k ps:=⟨by have:=h.1; simp at this; omega,fun p hp=>h.2 p (by simp [hp])⟩
theorem Fits.right {n k : Nat} {ps qs : List Mo} (h : Fits n k (ps ++ qs)) : Fits (n + ps.length) k qs:=⟨by have:=h.1; simp at this; omega,fun p hp=>h.2 p (by simp [hp])⟩
theorem Fits.app {n k : Nat} {ps qs : List Mo} (h1 : Fits n k ps) (h2 : Fits (n + ps.length) k qs) : Fits n k (ps ++ qs):=⟨by have:=h2.1; simp; omega,fun p hp=>by
 rcases List.mem_append.1 hp with g | g
 ·exact h1.2 p g
 ·exact h2.2 p g⟩
theorem zJS {n k c x : Nat} {ps : List Mo} : Fits n k (ps.map (zNV c x)) ↔ Fits n (k + 1) ps:=by
 unfold Fits
 simp only [List.length_map,List.mem_map,forall_exists_index,and_imp,forall_apply_eq_imp_iff₂,zNV,List.length_cons]
 constructor
 ·rintro ⟨a,b⟩
  exact ⟨a,fun p hp=>by have:=b p hp; omega⟩
 ·rintro ⟨a,b⟩
  exact ⟨a,fun p hp=>by have:=b p hp; omega⟩
def zFM (S T : List Nat) (ps : List Mo) : List Mo:=ps.map fun p=>(S ++ p.1,T ++ p.2)
@[simp] theorem zS1 (S T : List Nat) (ps : List Mo) : (zFM S T ps).length = ps.length:=by simp [zFM]
theorem zON (S T : List Nat) (ps qs : List Mo) : zFM S T (ps ++ qs) = zFM S T ps ++ zFM S T qs:=by simp [zFM]
theorem zNg (S T : List Nat) (c x : Nat) (ps : List Mo) : zFM S T (ps.map (zNV c x)) = zFM (S ++ [c]) (T ++ [x]) ps:=by
 simp [zFM,zNV]
theorem zNk (ps : List Mo) : zFM [] [] ps = ps:=by simp [zFM]
end
end Go.Proofs.YtgelfgpcnaeecaaGreatDoor.M
