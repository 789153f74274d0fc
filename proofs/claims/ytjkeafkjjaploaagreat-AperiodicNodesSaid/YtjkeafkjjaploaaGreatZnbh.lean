/-
  Walk in my logic: Holds of the reference of layer 31.
-/
import Derived.Test.YtjkeafkjjaploaaGreatZnbg
import Derived.Test.YtjkeafkjjaploaaGreatZnad
import Derived.Test.YtjkeafkjjaploaaGreatZnbf
namespace Go.Proofs.YtjkeafkjjaploaaGreat.M
open Go.RowKit
set_option linter.unusedVariables false
set_option linter.unusedSimpArgs false
set_option maxRecDepth 100000
set_option maxHeartbeats 32000000

def zFc (g : List Nat -> Bool) (w : List Nat) (a k : Nat) : List T:=tab (w.length + 1) fun b=>.bool (decide (a <= b) && decide (b < k) && g (prt w a b))
theorem zA2 (g : List Nat -> Bool) (w : List Nat) (a k : Nat) : (zFc g w a k).length = w.length + 1:=by simp [zFc]
theorem zIr (g : List Nat -> Bool) (w : List Nat) (a : Nat) : zFc g w a a = List.replicate (w.length + 1) (.bool false):=by
 unfold zFc
 rw [zu]
 refine zU fun b _=>?_
 have : (decide (a <= b) && decide (b < a)) = false:=by
  rw [Bool.and_eq_false_iff]
  simp only [decide_eq_false_iff_not]
  omega
 rw [this]
 rfl
theorem zLw (g : List Nat -> Bool) (w : List Nat) {a b : Nat} (h : a <= b) : (zFc g w a b).set b (.bool (g (prt w a b))) = zFc g w a (b + 1):=by
 unfold zFc
 rw [zn]
 refine zU fun c _=>?_
 by_cases e : c = b
 ·subst e
  rw [if_pos rfl,decide_eq_true h,decide_eq_true (by omega)]
  rfl
 ·rw [if_neg e]
  by_cases d : c < b
  ·rw [decide_eq_true d,decide_eq_true (show c < b + 1 by omega)]
  ·rw [decide_eq_false d,decide_eq_false (show ¬ c < b + 1 by omega)]
theorem zBW (g : List Nat -> Bool) (w : List Nat) {a b k : Nat} (h : a <= b) (hk : b < k) (hb : b < w.length + 1) : ∀ hh,(zFc g w a k)[b]'hh = .bool (g (prt w a b)):=fun hh=>by
 have:=zX (fun b=>T.bool (decide (a <= b) && decide (b < k) && g (prt w a b))) hb
 unfold zFc at hh ⊢
 rw [List.getElem?_eq_getElem hh] at this
 rw [Option.some.inj this,decide_eq_true h,decide_eq_true hk]
 rfl
def zNt (g : List Nat -> Bool) (w : List Nat) : List T:=tab (w.length + 1) fun a=>.sl 1 (zFc g w a (w.length + 1))
theorem zBS (g : List Nat -> Bool) (w : List Nat) : (zNt g w).length = w.length + 1:=by simp [zNt]
theorem zBU (g : List Nat -> Bool) (w : List Nat) {a : Nat} (h : a < w.length + 1) : ∀ hh,(zNt g w)[a]'hh = .sl 1 (zFc g w a (w.length + 1)):=fun hh=>by
 have:=zX (fun a=>T.sl 1 (zFc g w a (w.length + 1))) h
 unfold zNt at hh ⊢
 rw [List.getElem?_eq_getElem hh] at this
 exact Option.some.inj this
def inC (ns : List Nd) (w : List Nat) (i : Nat) (c : AV) (j : Nat) : AV:=if j < i then .t 2 (.sl 1 (zNt (zAB ns j) w)) else if j = i then c else .t 2 (.sl 0 [])
def roC (g : List Nat -> Bool) (w : List Nat) (a : Nat) (c : AV) (j : Nat) : AV:=if j < a then .t 2 (.sl 1 (zFc g w j (w.length + 1))) else if j = a then c else .t 2 (.sl 0 [])
theorem zHw (ns : List Nd) (w : List Nat) (i : Nat) (c : AV) : inC ns w i c i = c:=by simp [inC]
theorem zDO {ns : List Nd} {w : List Nat} {i j : Nat} {c : AV} (h : j < i) : inC ns w i c j = .t 2 (.sl 1 (zNt (zAB ns j) w)):=by simp [inC,h]
theorem zNh (g : List Nat -> Bool) (w : List Nat) (a : Nat) (c : AV) : roC g w a c a = c:=by simp [roC]
theorem zMI (ns : List Nd) (w : List Nat) (j : Nat) : inC ns w 0 (.t 2 (.sl 0 [])) j = .t 2 (.sl 0 []):=by
 unfold inC
 rw [if_neg (by omega)]
 split <;> rfl
theorem zNR (g : List Nat -> Bool) (w : List Nat) (j : Nat) : roC g w 0 (.t 2 (.sl 0 [])) j = .t 2 (.sl 0 []):=by
 unfold roC
 rw [if_neg (by omega)]
 split <;> rfl
theorem zOZ (ns : List Nd) (w : List Nat) (i n : Nat) (c d : AV) : (tab n (inC ns w i c)).set i d = tab n (inC ns w i d):=by
 rw [zn]
 refine zU fun j _=>?_
 unfold inC
 by_cases h : j = i
 ·subst h; simp
 ·rw [if_neg h]
  by_cases h2 : j < i
  ·rw [if_pos h2,if_pos h2]
  ·rw [if_neg h2,if_neg h2,if_neg h,if_neg h]
theorem zN2 (g : List Nat -> Bool) (w : List Nat) (a n : Nat) (c d : AV) : (tab n (roC g w a c)).set a d = tab n (roC g w a d):=by
 rw [zn]
 refine zU fun j _=>?_
 unfold roC
 by_cases h : j = a
 ·subst h; simp
 ·rw [if_neg h]
  by_cases h2 : j < a
  ·rw [if_pos h2,if_pos h2]
  ·rw [if_neg h2,if_neg h2,if_neg h,if_neg h]
section
variable {H : Nat -> Option AObj} {m : Nat -> Option Nat} {un : Nat -> Prop} {nx : Nat}
theorem zKa {ns : List Nd} {w : List Nat} {i k n : Nat} (hm : m k = some k) (hk : k < nx) (j : Nat) : wkP H m un nx (inC ns w i (.own k n) j) (inC ns w i (.own k n) j):=by
 unfold inC
 by_cases h : j < i
 ·rw [if_pos h]; simp
 ·rw [if_neg h]
  by_cases h2 : j = i
  ·rw [if_pos h2]; simp [hm,hk]
  ·rw [if_neg h2]; simp
theorem zLY {ns : List Nd} {w : List Nat} {i k k2 n : Nat} (hm : m k2 = some k) (hk : k2 < nx) (j : Nat) : wkP H m un nx (inC ns w i (.own k n) j) (inC ns w i (.own k2 n) j):=by
 unfold inC
 by_cases h : j < i
 ·rw [if_pos h,if_pos h]; simp
 ·rw [if_neg h,if_neg h]
  by_cases h2 : j = i
  ·rw [if_pos h2,if_pos h2]; simp [hm,hk]
  ·rw [if_neg h2,if_neg h2]; simp
theorem zJJ {g : List Nat -> Bool} {w : List Nat} {a k k2 n : Nat} (hm : m k2 = some k) (hk : k2 < nx) (j : Nat) : wkP H m un nx (roC g w a (.own k n) j) (roC g w a (.own k2 n) j):=by
 unfold roC
 by_cases h : j < a
 ·rw [if_pos h,if_pos h]; simp
 ·rw [if_neg h,if_neg h]
  by_cases h2 : j = a
  ·rw [if_pos h2,if_pos h2]; simp [hm,hk]
  ·rw [if_neg h2,if_neg h2]; simp
theorem zKR {g : List Nat -> Bool} {w : List Nat} {a k : Nat} {e : TypeId} (hH : H k = some (.row e 1 2 (zFc g w a (w.length + 1)))) (hu : un k) (j : Nat) : wkP H m un nx (roC g w a (.own k (w.length + 1)) j) (roC g w (a + 1) (.t 2 (.sl 0 [])) j):=by
 unfold roC
 by_cases h : j < a
 ·rw [if_pos h,if_pos (by omega)]; simp
 ·rw [if_neg h]
  by_cases h2 : j = a
  ·subst h2
   rw [if_pos rfl,if_pos (by omega)]
   simp [hH,hu,zA2]
  ·rw [if_neg h2,if_neg (by omega)]
   split <;> simp
theorem zLM {ns : List Nd} {w : List Nat} {i k : Nat} {e : TypeId} (hH : H k = some (.vec e 1 2 (tab (w.length + 1) (roC (zAB ns i) w (w.length + 1) (.t 2 (.sl 0 [])))))) (hu : un k) (j : Nat) : wkP H m un nx (inC ns w i (.own k (w.length + 1)) j) (inC ns w (i + 1) (.t 2 (.sl 0 [])) j):=by
 unfold inC
 by_cases h : j < i
 ·rw [if_pos h,if_pos (by omega)]; simp
 ·rw [if_neg h]
  by_cases h2 : j = i
  ·subst h2
   rw [if_pos rfl,if_pos (by omega)]
   simp only [wkP,hH,zq,hu,true_and]
   refine ⟨by decide,?_⟩
   unfold zNt
   rw [zAR]
   intro a ha
   unfold roC
   rw [if_pos ha]
   simp [wk1]
  ·rw [if_neg h2,if_neg (by omega)]
   split <;> simp
end
theorem zQJ {H : Nat -> Option AObj} {m : Nat -> Option Nat} {un : Nat -> Prop} {nx n : Nat} {ns : List Nd} {w : List Nat} : wkPs H m un nx (List.replicate n (.t 2 (.sl 0 []))) (tab n (inC ns w 0 (.t 2 (.sl 0 [])))) = True:=by
 rw [zu,zO]
 refine eq_true fun j _=>?_
 rw [zMI]
 simp
theorem zP6 {H : Nat -> Option AObj} {m : Nat -> Option Nat} {un : Nat -> Prop} {nx n : Nat} {g : List Nat -> Bool} {w : List Nat} : wkPs H m un nx (List.replicate n (.t 2 (.sl 0 []))) (tab n (roC g w 0 (.t 2 (.sl 0 [])))) = True:=by
 rw [zu,zO]
 refine eq_true fun j _=>?_
 rw [zNR]
 simp
theorem zAL {H : Nat -> Option AObj} {m : Nat -> Option Nat} {un : Nat -> Prop} {nx n k k2 c i : Nat} {ns : List Nd} {w : List Nat} (hm : m k2 = some k) (hk : k2 < nx) : wkPs H m un nx (tab n (inC ns w i (.own k c))) (tab n (inC ns w i (.own k2 c))) = True:=by
 rw [zO]
 exact eq_true fun j _=>zLY hm hk j
theorem zAU {H : Nat -> Option AObj} {m : Nat -> Option Nat} {un : Nat -> Prop} {nx n k k2 c a : Nat} {g : List Nat -> Bool} {w : List Nat} (hm : m k2 = some k) (hk : k2 < nx) : wkPs H m un nx (tab n (roC g w a (.own k c))) (tab n (roC g w a (.own k2 c))) = True:=by
 rw [zO]
 exact eq_true fun j _=>zJJ hm hk j
def zKs (f g : List Nat -> Bool) (w : List Nat) (a b c : Nat) : Bool:=(List.range c).any fun e=>decide (a <= e) && f (prt w a e) && g (prt w e b)
theorem zIi (f g : List Nat -> Bool) (w : List Nat) (a b : Nat) : zKs f g w a b a = false:=by
 unfold zKs
 rw [List.any_eq_false]
 intro e he
 have:=List.mem_range.1 he
 simp
 omega
theorem zKZ (f g : List Nat -> Bool) (w : List Nat) {a b c : Nat} (h : a <= c) (hf : zKs f g w a b c = false) : zKs f g w a b (c + 1) = (f (prt w a c) && g (prt w c b)):=by
 unfold zKs at hf ⊢
 rw [List.range_succ,List.any_append,hf]
 simp [h]
theorem zKA {f : Nat -> List Nat -> Bool} {w : List Nat} {l x y a b c : Nat} (h1 : a <= b) (h2 : b <= w.length) (hc : c <= b + 1) (h : zKs (f x) (f y) w a b c = true) : ndB f (7,l,x,y) (prt w a b) = true:=by
 unfold zKs at h
 obtain ⟨e,he,h⟩:=List.any_eq_true.1 h
 have:=List.mem_range.1 he
 simp only [Bool.and_eq_true,decide_eq_true_eq] at h
 exact (zFR f l x y h1 h2).2 ⟨e,h.1.1,by omega,h.1.2,h.2⟩
theorem zI5 {f : Nat -> List Nat -> Bool} {w : List Nat} {l x y a b : Nat} (h1 : a <= b) (h2 : b <= w.length) (h : zKs (f x) (f y) w a b (b + 1) = false) : ndB f (7,l,x,y) (prt w a b) = false:=by
 cases e : ndB f (7,l,x,y) (prt w a b) with
 | false=>rfl
 | true =>
  obtain ⟨c,c1,c2,c3,c4⟩:=(zFR f l x y h1 h2).1 e
  unfold zKs at h
  rw [List.any_eq_false] at h
  exact absurd (show (decide (a <= c) && f x (prt w a c) && f y (prt w c b)) = true by simp [c1,c3,c4]) (h c (List.mem_range.2 (by omega)))
theorem zL8 {L root : Nat} {ns : List Nd} {w : List Nat} (h : GV L ns) (hL : L <= 6) (hn : ns.length <= 20000) (hw : ∀ x ∈ w,x < 6) (hl : w.length <= 50) : FnA Tryz.prog 16 [zCd 0 ns root,.t 2 (.str (zAH w))] (.t 2 (zH (tab ns.length fun i=>zAB ns i w))):=by
 have hdv:=zDE ns
 have hn1 : ((w.length : Int) + 1).toNat = w.length + 1:=by omega
 refine fI 220 #[.tmp 4] Tryz.func16 rfl ?_
 refine rg1 @zCd.eq_1 ?_
 refine rg0 ?_
 refine rg1 @hdv ?_
 refine zD ?_
 refine rg1 @hdv ?_
 refine zG ?_
 refine awp_loop (fun i : Nat=>mkS [(1,.t 2 (.str (zAH w))),(2,.ptr 0 0 2),(5,.t 2 (.int .i64 w.length)),(6,.own 1 ns.length),(22,.t 0 (.sl 4 (zBR ns))),(23,.t 2 (.int .i64 ns.length)),(24,.t 2 (.int .i64 i))] [(0,grO 0 ns root),(1,.vec 62 1 2 (tab ns.length (inC ns w i (.t 2 (.sl 0 [])))))] 2 220 [.any,.any]) (fun i=>i <= ns.length) (fun i=>ns.length - i) ?_ ?_
 ·refine ⟨0,by omega,?_⟩
  exact kw1 [(0,some 0),(1,some 8000000)] (an @grO.eq_1 @zQJ)
 intro i hi
 refine rg0 ?_
 refine zD ?_
 by_cases hlt : i < ns.length
 ·obtain ⟨nd,hnd⟩ : ∃ nd,ns[i]? = some nd:=⟨_,List.getElem?_eq_getElem hlt⟩
  have hat:=zH9 hnd
  have hin : i * 4 + 4 <= ns.length * 4:=by omega
  have hok:=h i nd hnd
  have hsem:=zGm h hnd
  obtain ⟨op,l,x,y⟩:=nd
  have o1:=hok.op.1
  have o8:=hok.op.2
  have oa:=hok.a5
  have ob:=hok.b5
  simp only at o1 o8 oa ob
  have hlL : l < 100:=by
   by_cases c : op = 3
   ·have:=hok.l3 c; simp only at this; omega
   ·have:=hok.ln c; simp only at this; omega
  clear hok
  have hi0:=zHw ns w i (.t 2 (.sl 0 []))
  have his:=fun d=>zOZ ns w i ns.length (.t 2 (.sl 0 [])) d
  refine cK1 @hlt ?_
  refine zD ?_
  refine zG ?_
  refine rg1 (an @hat (an @hin @ndC.eq_1)) ?_
  refine rg1 (an @hlt (an @hn1 @his)) ?_
  refine rg1 (an @hlt @zHw) ?_
  refine zG ?_
  generalize hgs : zAB ns i = gi at hsem
  refine awp_loop (fun a : Nat=>mkS [(1,.t 2 (.str (zAH w))),(2,.ptr 0 0 2),(5,.t 2 (.int .i64 w.length)),(6,.own 1 ns.length),(7,.t 2 (.int .i64 i)),(8,.ptr 3 0 4),(22,.t 0 (.sl 4 (zBR ns))),(23,.t 2 (.int .i64 ns.length)),(24,.t 2 (.int .i64 i)),(39,.t 2 (.int .i64 (w.length + 1 : Nat))),(40,.t 2 (.int .i64 a))] [(0,grO 0 ns root),(1,.vec 62 1 2 (tab ns.length (inC ns w i (.own 2 (w.length + 1))))),(2,.vec 25 1 2 (tab (w.length + 1) (roC gi w a (.t 2 (.sl 0 []))))),(3,.box 78 [.t 2 (.int .i64 op),.t 2 (.int .i64 l),.t 2 (.int .i64 x),.t 2 (.int .i64 y)])] 4 220 [.any,.any]) (fun a=>a <= w.length + 1) (fun a=>w.length + 1 - a) ?_ ?_
  ·refine ⟨0,by omega,?_⟩
   exact kw1 [(0,some 0),(1,some 1),(2,some 11000002),(3,some 4000002)] (an @grO.eq_1 (an @zP6 @zAL))
  intro a ha
  refine rg0 ?_
  refine zD ?_
  by_cases hla : a < w.length + 1
  ·have hras:=fun d=>zN2 gi w a (w.length + 1) (.t 2 (.sl 0 [])) d
   have hrs:=zIr gi w a
   refine cK0 ?_
   refine zD ?_
   refine zG ?_
   refine rg0 ?_
   refine rd1 (an @hlt (an @zHw (an @hla (an @hn1 (an @hras @zNh))))) ?_
   refine rg0 ?_
   refine zG ?_
   refine awp_loop (fun b : Nat=>mkS [(1,.t 2 (.str (zAH w))),(2,.ptr 0 0 2),(5,.t 2 (.int .i64 w.length)),(6,.own 1 ns.length),(7,.t 2 (.int .i64 i)),(8,.ptr 3 0 4),(9,.t 2 (.int .i64 a)),(10,.t 2 (.int .i64 b)),(22,.t 0 (.sl 4 (zBR ns))),(23,.t 2 (.int .i64 ns.length)),(24,.t 2 (.int .i64 i)),(39,.t 2 (.int .i64 (w.length + 1 : Nat))),(40,.t 2 (.int .i64 a))] [(0,grO 0 ns root),(1,.vec 62 1 2 (tab ns.length (inC ns w i (.own 2 (w.length + 1))))),(2,.vec 25 1 2 (tab (w.length + 1) (roC gi w a (.own 4 (w.length + 1))))),(3,.box 78 [.t 2 (.int .i64 op),.t 2 (.int .i64 l),.t 2 (.int .i64 x),.t 2 (.int .i64 y)]),(4,.row 4 1 2 (zFc gi w a b))] 5 220 [.any,.any]) (fun b=>a <= b /\ b <= w.length + 1) (fun b=>w.length + 1 - b) ?_ ?_
   ·refine ⟨a,⟨by omega,by omega⟩,?_⟩
    rw [hrs]
    exact kw1 [(0,some 0),(1,some 1),(2,some 2),(3,some 3),(4,some 10000004)] (an @grO.eq_1 (an @zAL @zAU))
   rintro b ⟨hb1,hb2⟩
   have hrl:=zA2 gi w a b
   refine zD ?_
   by_cases hlb : b < w.length + 1
   ·have hlb' : (b : Int) <= (w.length : Int):=by omega
    have hset:=zLw gi w hb1
    refine rg0 ?_
    refine cK1 @hlb' ?_
    refine zD ?_
    refine zG ?_
    refine rg0 ?_
    have hroat:=zNh gi w a (.own 4 (w.length + 1))
    have hinat:=zHw ns w i (.own 2 (w.length + 1))
    refine zCt (fun σ'=>Wk σ' (mkS [(1,.t 2 (.str (zAH w))),(2,.ptr 0 0 2),(5,.t 2 (.int .i64 w.length)),(6,.own 1 ns.length),(7,.t 2 (.int .i64 i)),(8,.ptr 3 0 4),(9,.t 2 (.int .i64 a)),(10,.t 2 (.int .i64 b)),(11,.t 2 (.bool (gi (prt w a b)))),(22,.t 0 (.sl 4 (zBR ns))),(23,.t 2 (.int .i64 ns.length)),(24,.t 2 (.int .i64 i)),(39,.t 2 (.int .i64 (w.length + 1 : Nat))),(40,.t 2 (.int .i64 a))] [(0,grO 0 ns root),(1,.vec 62 1 2 (tab ns.length (inC ns w i (.own 2 (w.length + 1))))),(2,.vec 25 1 2 (tab (w.length + 1) (roC gi w a (.own 4 (w.length + 1))))),(3,.box 78 [.t 2 (.int .i64 op),.t 2 (.int .i64 l),.t 2 (.int .i64 x),.t 2 (.int .i64 y)]),(4,.row 4 1 2 (zFc gi w a b))] 5 220 [.any,.any])) ?_ ?_
    ·intro σ' hw
     refine zx hw ?_
     clear hw
     generalize gi (prt w a b) = v at hset ⊢
     refine rr1 (an @hlt (an @hinat (an @hla (an @hroat (an @hlb (an @hrl @hset)))))) ?_
     show awp _ _ _ _
     refine rr0 ?_
     refine ⟨b + 1,⟨by omega,by omega⟩,by omega,?_⟩
     exact kw1 [(0,some 0),(1,some 1),(2,some 2),(3,some 3),(4,some 4)] (an @grO.eq_1 (an @zAL @zAU))
    ·refine zx (σ':=mkS [(1,.t 2 (.str (zAH w))),(2,.ptr 0 0 2),(5,.t 2 (.int .i64 w.length)),(6,.own 1 ns.length),(7,.t 2 (.int .i64 i)),(8,.ptr 3 0 4),(9,.t 2 (.int .i64 a)),(10,.t 2 (.int .i64 b)),(11,.t 2 (.bool false)),(22,.t 0 (.sl 4 (zBR ns))),(23,.t 2 (.int .i64 ns.length)),(24,.t 2 (.int .i64 i)),(39,.t 2 (.int .i64 (w.length + 1 : Nat))),(40,.t 2 (.int .i64 a))] [(0,grO 0 ns root),(1,.vec 62 1 2 (tab ns.length (inC ns w i (.own 2 (w.length + 1))))),(2,.vec 25 1 2 (tab (w.length + 1) (roC gi w a (.own 4 (w.length + 1))))),(3,.box 78 [.t 2 (.int .i64 op),.t 2 (.int .i64 l),.t 2 (.int .i64 x),.t 2 (.int .i64 y)]),(4,.row 4 1 2 (zFc gi w a b))] 5 220 [.any,.any]) ?_ ?_
     ·exact kw1 [(0,some 0),(1,some 1),(2,some 2),(3,some 3),(4,some 4)] (an @grO.eq_1 (an @zAL @zAU))
     refine rg0 ?_
     refine zG ?_
     clear hset hrs hras
     rcases (by omega : op = 1 \/ op = 2 \/ op = 3 \/ op = 4 \/ op = 5 \/ op = 6 \/ op = 7 \/ op = 8) with rfl | rfl | rfl | rfl | rfl | rfl | rfl | rfl
     ·have hv : gi (prt w a b) = ndB (zAB ns) (1,l,x,y) (prt w a b):=by rw [hsem]
      have hv : gi (prt w a b) = false:=by rw [hv]; rfl
      refine rg0 ?_
      refine cF0 ?_
      refine rg0 ?_
      refine cF0 ?_
      refine rg0 ?_
      refine cF0 ?_
      refine rg0 ?_
      refine cF0 ?_
      refine rg0 ?_
      refine cF0 ?_
      refine rg0 ?_
      refine cF0 ?_
      refine rg0 ?_
      refine cF0 ?_
      refine zb ?_
      show Wk _ _
      exact kw1 [(0,some 0),(1,some 1),(2,some 2),(3,some 3),(4,some 4)] (an @grO.eq_1 (an @zAL (an @zAU @hv)))
     ·have hv : gi (prt w a b) = ndB (zAB ns) (2,l,x,y) (prt w a b):=by rw [hsem]
      have hv : gi (prt w a b) = decide ((a : Int) = (b : Int)):=by
       rw [hv,show ndB (zAB ns) (2,l,x,y) (prt w a b) = decide (prt w a b = []) from rfl,decide_eq_decide]
       constructor
       ·intro e
        have:=zD7 hb1 (show b <= w.length by omega)
        rw [e] at this
        simp at this
        omega
       ·intro e
        obtain rfl : a = b:=by omega
        exact zGn w a
      have hbq : ((a : Int) == (b : Int)) = decide ((a : Int) = (b : Int)):=by rw [Bool.eq_iff_iff]; simp
      refine rg0 ?_
      refine cT0 ?_
      refine rr1 @hbq ?_
      show Wk _ _
      exact kw1 [(0,some 0),(1,some 1),(2,some 2),(3,some 3),(4,some 4)] (an @grO.eq_1 (an @zAL (an @zAU (an @hv @hbq))))
     ·have hv : gi (prt w a b) = ndB (zAB ns) (3,l,x,y) (prt w a b):=by rw [hsem]
      by_cases hb3 : b = a + 1
      ·subst hb3
       have hwa : a < w.length:=by omega
       have hv : gi (prt w a (a + 1)) = decide ((w[a] : Int) = (l : Int)):=by
        rw [hv,show ndB (zAB ns) (3,l,x,y) (prt w a (a + 1)) = decide (prt w a (a + 1) = [l]) from rfl,zHU hwa,decide_eq_decide]
        simp
        omega
       have hwi:=hw w[a] (by simp)
       have e0:=zAv hwa (by omega)
       have e2 : IntKind.u8.wrap (97 + (w[a] : Int) - 97) = w[a]:=by rw [zI4,wr8 _ (by omega) (by omega)]
       generalize w[a] = cc at *
       have hbq : (((cc : Nat) : Int) == (l : Int)) = decide ((cc : Int) = (l : Int)):=by rw [Bool.eq_iff_iff]; simp
       refine rg0 ?_
       refine cF0 ?_
       refine rg0 ?_
       refine cT0 ?_
       refine re1 (an @e0 (an @e2 (an @hwa @hbq))) ?_
       show Wk _ _
       exact kw1 [(0,some 0),(1,some 1),(2,some 2),(3,some 3),(4,some 4)] (an @grO.eq_1 (an @zAL (an @zAU (an @hv @hbq))))
      ·have hv : gi (prt w a b) = false:=by
        rw [hv,show ndB (zAB ns) (3,l,x,y) (prt w a b) = decide (prt w a b = [l]) from rfl,decide_eq_false_iff_not]
        intro e
        have:=zD7 hb1 (show b <= w.length by omega)
        rw [e] at this
        simp at this
        omega
       have hbq : ((b : Int) == (a : Int) + 1) = false:=by
        have : ¬ (b : Int) = (a : Int) + 1:=by omega
        simpa using this
       have hbq2 : ¬ (b : Int) = (a : Int) + 1:=by omega
       refine rg0 ?_
       refine cF0 ?_
       refine rg0 ?_
       refine cT0 ?_
       refine re1 (an @hbq @hbq2) ?_
       show Wk _ _
       exact kw1 [(0,some 0),(1,some 1),(2,some 2),(3,some 3),(4,some 4)] (an @grO.eq_1 (an @zAL (an @zAU @hv)))
     ·have hv : gi (prt w a b) = ndB (zAB ns) (4,l,x,y) (prt w a b):=by rw [hsem]
      have hv : gi (prt w a b) = true:=by rw [hv]; rfl
      refine rg0 ?_
      refine cF0 ?_
      refine rg0 ?_
      refine cF0 ?_
      refine rg0 ?_
      refine cT0 ?_
      refine rr0 ?_
      show Wk _ _
      exact kw1 [(0,some 0),(1,some 1),(2,some 2),(3,some 3),(4,some 4)] (an @grO.eq_1 (an @zAL (an @zAU @hv)))
     ·have hv : gi (prt w a b) = ndB (zAB ns) (5,l,x,y) (prt w a b):=by rw [hsem]
      have hv : gi (prt w a b) = (zAB ns x (prt w a b) || zAB ns y (prt w a b)):=by rw [hv]; rfl
      have hx1:=zDO (ns:=ns) (w:=w) (c:=(.own 2 (w.length + 1))) (oa (by omega))
      have hxn : x < ns.length:=by have:=oa (by omega); omega
      have hxm:=zBU (zAB ns x) w hla
      have hxl:=zBS (zAB ns x) w
      have hxr:=zBW (zAB ns x) w hb1 hlb hlb
      have hxk:=zA2 (zAB ns x) w a (w.length + 1)
      have hy1:=zDO (ns:=ns) (w:=w) (c:=(.own 2 (w.length + 1))) (ob (by omega) (by omega))
      have hyn : y < ns.length:=by have:=ob (by omega) (by omega); omega
      have hym:=zBU (zAB ns y) w hla
      have hyl:=zBS (zAB ns y) w
      have hyr:=zBW (zAB ns y) w hb1 hlb hlb
      have hyk:=zA2 (zAB ns y) w a (w.length + 1)
      refine rg0 ?_
      refine cF0 ?_
      refine rg0 ?_
      refine cF0 ?_
      refine rg0 ?_
      refine cF0 ?_
      refine rg0 ?_
      refine cT0 ?_
      generalize zAB ns y (prt w a b) = vy at *
      cases hvx : zAB ns x (prt w a b) with
      | true =>
       rw [hvx] at hv hxr
       refine rr1 (an @hlt (an @hx1 (an @hxn (an @hxm (an @hxl (an @hxr (an @hxk (an @hy1 (an @hyn (an @hym (an @hyl (an @hyr (an @hyk (an @hla @hlb)))))))))))))) ?_
       show Wk _ _
       exact kw1 [(0,some 0),(1,some 1),(2,some 2),(3,some 3),(4,some 4)] (an @grO.eq_1 (an @zAL (an @zAU @hv)))
      | false =>
       rw [hvx] at hv hxr
       refine rr1 (an @hlt (an @hx1 (an @hxn (an @hxm (an @hxl (an @hxr (an @hxk (an @hy1 (an @hyn (an @hym (an @hyl (an @hyr (an @hyk (an @hla @hlb)))))))))))))) ?_
       show Wk _ _
       exact kw1 [(0,some 0),(1,some 1),(2,some 2),(3,some 3),(4,some 4)] (an @grO.eq_1 (an @zAL (an @zAU @hv)))
     ·have hv : gi (prt w a b) = ndB (zAB ns) (6,l,x,y) (prt w a b):=by rw [hsem]
      have hv : gi (prt w a b) = (zAB ns x (prt w a b) && zAB ns y (prt w a b)):=by rw [hv]; rfl
      have hx1:=zDO (ns:=ns) (w:=w) (c:=(.own 2 (w.length + 1))) (oa (by omega))
      have hxn : x < ns.length:=by have:=oa (by omega); omega
      have hxm:=zBU (zAB ns x) w hla
      have hxl:=zBS (zAB ns x) w
      have hxr:=zBW (zAB ns x) w hb1 hlb hlb
      have hxk:=zA2 (zAB ns x) w a (w.length + 1)
      have hy1:=zDO (ns:=ns) (w:=w) (c:=(.own 2 (w.length + 1))) (ob (by omega) (by omega))
      have hyn : y < ns.length:=by have:=ob (by omega) (by omega); omega
      have hym:=zBU (zAB ns y) w hla
      have hyl:=zBS (zAB ns y) w
      have hyr:=zBW (zAB ns y) w hb1 hlb hlb
      have hyk:=zA2 (zAB ns y) w a (w.length + 1)
      refine rg0 ?_
      refine cF0 ?_
      refine rg0 ?_
      refine cF0 ?_
      refine rg0 ?_
      refine cF0 ?_
      refine rg0 ?_
      refine cF0 ?_
      refine rg0 ?_
      refine cT0 ?_
      generalize zAB ns y (prt w a b) = vy at *
      cases hvx : zAB ns x (prt w a b) with
      | true =>
       rw [hvx] at hv hxr
       refine rr1 (an @hlt (an @hx1 (an @hxn (an @hxm (an @hxl (an @hxr (an @hxk (an @hy1 (an @hyn (an @hym (an @hyl (an @hyr (an @hyk (an @hla @hlb)))))))))))))) ?_
       show Wk _ _
       exact kw1 [(0,some 0),(1,some 1),(2,some 2),(3,some 3),(4,some 4)] (an @grO.eq_1 (an @zAL (an @zAU @hv)))
      | false =>
       rw [hvx] at hv hxr
       refine rr1 (an @hlt (an @hx1 (an @hxn (an @hxm (an @hxl (an @hxr (an @hxk (an @hy1 (an @hyn (an @hym (an @hyl (an @hyr (an @hyk (an @hla @hlb)))))))))))))) ?_
       show Wk _ _
       exact kw1 [(0,some 0),(1,some 1),(2,some 2),(3,some 3),(4,some 4)] (an @grO.eq_1 (an @zAL (an @zAU @hv)))
     ·have hv : gi (prt w a b) = ndB (zAB ns) (7,l,x,y) (prt w a b):=by rw [hsem]
      refine rg0 ?_
      refine cF0 ?_
      refine rg0 ?_
      refine cF0 ?_
      refine rg0 ?_
      refine cF0 ?_
      refine rg0 ?_
      refine cF0 ?_
      refine rg0 ?_
      refine cF0 ?_
      refine rg0 ?_
      refine cT0 ?_
      refine rg0 ?_
      refine zG ?_
      refine awp_loop (fun c : Nat=>mkS [(1,.t 2 (.str (zAH w))),(2,.ptr 0 0 2),(5,.t 2 (.int .i64 w.length)),(6,.own 1 ns.length),(7,.t 2 (.int .i64 i)),(8,.ptr 3 0 4),(9,.t 2 (.int .i64 a)),(10,.t 2 (.int .i64 b)),(11,.t 2 (.bool (zKs (zAB ns x) (zAB ns y) w a b c))),(12,.t 2 (.int .i64 c)),(22,.t 0 (.sl 4 (zBR ns))),(23,.t 2 (.int .i64 ns.length)),(24,.t 2 (.int .i64 i)),(39,.t 2 (.int .i64 (w.length + 1 : Nat))),(40,.t 2 (.int .i64 a))] [(0,grO 0 ns root),(1,.vec 62 1 2 (tab ns.length (inC ns w i (.own 2 (w.length + 1))))),(2,.vec 25 1 2 (tab (w.length + 1) (roC gi w a (.own 4 (w.length + 1))))),(3,.box 78 [.t 2 (.int .i64 7),.t 2 (.int .i64 l),.t 2 (.int .i64 x),.t 2 (.int .i64 y)]),(4,.row 4 1 2 (zFc gi w a b))] 5 220 [.any,.any]) (fun c=>a <= c /\ c <= b + 1) (fun c=>b + 1 - c) ?_ ?_
      ·refine ⟨a,⟨by omega,by omega⟩,?_⟩
       rw [zIi]
       exact kw1 [(0,some 0),(1,some 1),(2,some 2),(3,some 3),(4,some 4)] (an @grO.eq_1 (an @zAL @zAU))
      rintro c ⟨hc1,hc2⟩
      refine zD ?_
      cases hcv : zKs (zAB ns x) (zAB ns y) w a b c with
      | true =>
       have hv : gi (prt w a b) = true:=by rw [hv]; exact zKA hb1 (by omega) hc2 hcv
       by_cases hcb : c <= b
       ·have hcb' : (c : Int) <= (b : Int):=by omega
        refine rg1 @hcb' ?_
        refine cF0 ?_
        refine zJ ?_
        show Wk _ _
        exact kw1 [(0,some 0),(1,some 1),(2,some 2),(3,some 3),(4,some 4)] (an @grO.eq_1 (an @zAL (an @zAU @hv)))
       ·have hcb' : ¬ (c : Int) <= (b : Int):=by omega
        refine rg1 @hcb' ?_
        refine cF0 ?_
        refine zJ ?_
        show Wk _ _
        exact kw1 [(0,some 0),(1,some 1),(2,some 2),(3,some 3),(4,some 4)] (an @grO.eq_1 (an @zAL (an @zAU @hv)))
      | false =>
       by_cases hcb : c <= b
       ·have hcb' : (c : Int) <= (b : Int):=by omega
        have hcs:=zKZ (zAB ns x) (zAB ns y) w hc1 hcv
        have hcl : c < w.length + 1:=by omega
        have hx1:=zDO (ns:=ns) (w:=w) (c:=(.own 2 (w.length + 1))) (oa (by omega))
        have hxn : x < ns.length:=by have:=oa (by omega); omega
        have hxm:=zBU (zAB ns x) w hla
        have hxl:=zBS (zAB ns x) w
        have hxr:=zBW (zAB ns x) w hc1 hcl hcl
        have hxk:=zA2 (zAB ns x) w a (w.length + 1)
        have hy1:=zDO (ns:=ns) (w:=w) (c:=(.own 2 (w.length + 1))) (ob (by omega) (by omega))
        have hyn : y < ns.length:=by have:=ob (by omega) (by omega); omega
        have hym:=zBU (zAB ns y) w hcl
        have hyl:=zBS (zAB ns y) w
        have hyr:=zBW (zAB ns y) w hcb hlb hlb
        have hyk:=zA2 (zAB ns y) w c (w.length + 1)
        refine rg1 @hcb' ?_
        refine cK0 ?_
        refine zD ?_
        refine zG ?_
        generalize zAB ns y (prt w c b) = vy at *
        cases hvx : zAB ns x (prt w a c) with
        | true =>
         rw [hvx] at hcs hxr
         refine rr1 (an @hlt (an @hx1 (an @hxn (an @hxm (an @hxl (an @hxr (an @hxk (an @hy1 (an @hyn (an @hym (an @hyl (an @hyr (an @hyk (an @hla (an @hlb @hcl))))))))))))))) ?_
         show awp _ _ _ _
         refine rr0 ?_
         refine ⟨c + 1,⟨by omega,by omega⟩,by omega,?_⟩
         rw [hcs]
         exact kw1 [(0,some 0),(1,some 1),(2,some 2),(3,some 3),(4,some 4)] (an @grO.eq_1 (an @zAL @zAU))
        | false =>
         rw [hvx] at hcs hxr
         refine rr1 (an @hlt (an @hx1 (an @hxn (an @hxm (an @hxl (an @hxr (an @hxk (an @hy1 (an @hyn (an @hym (an @hyl (an @hyr (an @hyk (an @hla (an @hlb @hcl))))))))))))))) ?_
         show awp _ _ _ _
         refine rr0 ?_
         refine ⟨c + 1,⟨by omega,by omega⟩,by omega,?_⟩
         rw [hcs]
         exact kw1 [(0,some 0),(1,some 1),(2,some 2),(3,some 3),(4,some 4)] (an @grO.eq_1 (an @zAL @zAU))
       ·obtain rfl : c = b + 1:=by omega
        have hv : gi (prt w a b) = false:=by rw [hv]; exact zI5 hb1 (by omega) hcv
        have hcb' : ¬ ((b : Int) + 1 <= (b : Int)):=by omega
        refine rg1 @hcb' ?_
        refine cF0 ?_
        refine zJ ?_
        show Wk _ _
        exact kw1 [(0,some 0),(1,some 1),(2,some 2),(3,some 3),(4,some 4)] (an @grO.eq_1 (an @zAL (an @zAU @hv)))
     ·have hv : gi (prt w a b) = ndB (zAB ns) (8,l,x,y) (prt w a b):=by rw [hsem]
      have hv : gi (prt w a b) = !zAB ns x (prt w a b):=by rw [hv]; rfl
      have hx1:=zDO (ns:=ns) (w:=w) (c:=(.own 2 (w.length + 1))) (oa (by omega))
      have hxn : x < ns.length:=by have:=oa (by omega); omega
      have hxm:=zBU (zAB ns x) w hla
      have hxl:=zBS (zAB ns x) w
      have hxr:=zBW (zAB ns x) w hb1 hlb hlb
      have hxk:=zA2 (zAB ns x) w a (w.length + 1)
      refine rg0 ?_
      refine cF0 ?_
      refine rg0 ?_
      refine cF0 ?_
      refine rg0 ?_
      refine cF0 ?_
      refine rg0 ?_
      refine cF0 ?_
      refine rg0 ?_
      refine cF0 ?_
      refine rg0 ?_
      refine cF0 ?_
      refine rg0 ?_
      refine cT0 ?_
      generalize zAB ns x (prt w a b) = vx at *
      refine rr1 (an @hlt (an @hx1 (an @hxn (an @hxm (an @hxl (an @hxr (an @hxk (an @hla @hlb)))))))) ?_
      show Wk _ _
      exact kw1 [(0,some 0),(1,some 1),(2,some 2),(3,some 3),(4,some 4)] (an @grO.eq_1 (an @zAL (an @zAU @hv)))
   ·obtain rfl : b = w.length + 1:=by omega
    have hlb' : ¬ ((w.length : Int) + 1 <= (w.length : Int)):=by omega
    refine rg0 ?_
    refine cF1 @hlb' ?_
    refine zJ ?_
    show awp _ _ _ _
    refine rr0 ?_
    refine ⟨a + 1,by omega,by omega,?_⟩
    refine zT [(0,some 0),(1,some 1),(2,some 2),(3,some 3)] rfl ?_ ?_ ?_ ?_
    all_goals try simp [ints,grO,zAL,zO]
    exact ⟨fun j _=>zKa (by simp) (by omega) j,fun j _=>zKR (e:=4) rfl (by simp) j⟩
  ·obtain rfl : a = w.length + 1:=by omega
   refine cF0 ?_
   refine zJ ?_
   show awp _ _ _ _
   refine rr0 ?_
   refine ⟨i + 1,by omega,by omega,?_⟩
   subst hgs
   refine zT [(0,some 0),(1,some 1)] rfl ?_ ?_ ?_ ?_
   all_goals try simp [ints,grO,zO]
   exact fun j _=>zLM (e:=25) rfl (by simp) j
 ·obtain rfl : i = ns.length:=by omega
  refine cF0 ?_
  refine zJ ?_
  show awp _ _ _ _
  refine rg1 (an @grO.eq_1 @hdv) ?_
  refine zD ?_
  refine rg0 ?_
  refine zG ?_
  refine awp_loop (fun i : Nat=>mkS [(5,.t 2 (.int .i64 w.length)),(6,.own 0 ns.length),(13,.own 1 ns.length),(202,.t 2 (.int .i64 ns.length)),(203,.t 2 (.int .i64 i))] [(0,.vec 62 1 2 (tab ns.length fun j=>.t 2 (.sl 1 (zNt (zAB ns j) w)))),(1,.row 4 1 2 (tab ns.length fun j=>.bool (decide (j < i) && zAB ns j w)))] 2 220 [.any,.any]) (fun i=>i <= ns.length) (fun i=>ns.length - i) ?_ ?_
  ·refine ⟨0,by omega,?_⟩
   refine zT [(0,some 1),(1,some 4000002)] rfl ?_ ?_ ?_ ?_
   all_goals try simp [ints,zu]
   rw [zO]
   intro j hj
   rw [zDO hj]
   simp
  intro i hi
  refine rg0 ?_
  refine zD ?_
  by_cases hlt : i < ns.length
  ·have hm:=zBU (zAB ns i) w (a:=0) (by omega)
   have hml:=zBS (zAB ns i) w
   have hr:=zBW (zAB ns i) w (a:=0) (b:=w.length) (k:=w.length + 1) (by omega) (by omega) (by omega)
   have hrl:=zA2 (zAB ns i) w 0 (w.length + 1)
   rw [zJQ] at hr
   have hset : (tab ns.length fun j=>T.bool (decide (j < i) && zAB ns j w)).set i (.bool (zAB ns i w)) = tab ns.length fun j=>.bool (decide (j < i + 1) && zAB ns j w):=by
    rw [zn]
    refine zU fun j _=>?_
    by_cases e : j = i
    ·subst e; simp
    ·rw [if_neg e]
     by_cases d : j < i
     ·rw [decide_eq_true d,decide_eq_true (show j < i + 1 by omega)]
     ·rw [decide_eq_false d,decide_eq_false (show ¬ j < i + 1 by omega)]
   have hsl : (tab ns.length fun j=>T.bool (decide (j < i) && zAB ns j w)).length = ns.length:=by simp
   generalize hR : (tab ns.length fun j=>T.bool (decide (j < i) && zAB ns j w)) = R at hset hsl ⊢
   generalize zAB ns i w = v at hset hr
   refine cK1 @hlt ?_
   refine zD ?_
   refine zG ?_
   refine rg0 ?_
   refine rr1 (an @hlt (an @hm (an @hml (an @hr (an @hrl (an @hsl @hset)))))) ?_
   show awp _ _ _ _
   refine rr0 ?_
   refine ⟨i + 1,by omega,by omega,?_⟩
   exact kw1 [(0,some 0),(1,some 1)] @zO
  ·obtain rfl : i = ns.length:=by omega
   have hR : (tab ns.length fun j=>T.bool (decide (j < ns.length) && zAB ns j w)) = tab ns.length fun j=>.bool (zAB ns j w):=zU fun j hj=>by rw [decide_eq_true hj,Bool.true_and]
   rw [hR]
   refine cF0 ?_
   refine zJ ?_
   show awp _ _ _ _
   refine rg0 ?_
   exact zK (rt1 (an @zCd.eq_1 (an @zH.eq_1 @zd)))
end Go.Proofs.YtjkeafkjjaploaaGreat.M
