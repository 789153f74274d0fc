/-
  Walks in my logic: Valid of words, Value (reference).
  Walk in my logic: Words of any number of letters, at most four long.
  Walk in my logic: the law AperiodicNodes.
-/
import Derived.Test.YtjkeafkjjaploaaGreatZnbg
import Derived.Test.YtjkeafkjjaploaaGreatZnad
import Derived.Test.YtjkeafkjjaploaaGreatZnai
import Derived.Test.YtjkeafkjjaploaaGreatZnah
import Derived.Test.YtjkeafkjjaploaaGreatZnbh
namespace Go.Proofs.YtjkeafkjjaploaaGreat.M
open Go.RowKit
set_option linter.unusedVariables false
set_option linter.unusedSimpArgs false
set_option maxRecDepth 100000
set_option maxHeartbeats 32000000

theorem zIe {L : Nat} {w : List Nat} (hw : ∀ x ∈ w,x < L) (hL : 1 <= L) (hL2 : L <= 6) (hn : w.length <= 2048) : FnA Tryz.prog 40 [.t 2 (.str (zAH w)),.t 2 (.int .i64 L)] (.t 2 (.bool true)):=by
 have hml:=zCc (L : Int)
 rw [decide_eq_true (by omega : 1 <= (L : Int) /\ (L : Int) <= 6)] at hml
 refine fI 33 #[.tmp 4] Tryz.func40 rfl ?_
 refine rg0 ?_
 refine zD ?_
 have d3 : ¬ (2048 : Int) < w.length:=by omega
 refine rc1 hml @d3 ?_
 refine cS0 ?_
 refine zD ?_
 refine rg0 ?_
 refine zG ?_
 refine awp_loop (fun y : Nat=>mkS [(0,.t 2 (.str (zAH w))),(1,.t 2 (.int .i64 L)),(5,.t 2 (.int .i64 y))] [] 0 33 [.any,.any]) (fun y=>y <= w.length) (fun y=>w.length - y) ?_ ?_
 ·refine ⟨0,by omega,?_⟩
  exact kw0 []
 ·intro y hI
  refine zD ?_
  refine rg0 ?_
  by_cases hc : y < w.length
  ·refine cT1 @hc ?_
   have hy:=hw w[y] (by simp)
   refine zb ?_
   show awp _ _ _ _
   refine zD ?_
   refine zG ?_
   have e0:=zAv hc (by omega)
   have e1 : ¬ (97 + (w[y] : Int) < 97):=by omega
   have e2 : IntKind.u8.wrap (97 + (w[y] : Int) - 97) = w[y]:=by rw [zI4,wr8 _ (by omega) (by omega)]
   have e3 : ¬ ((L : Int) <= (w[y] : Int)):=by omega
   refine rg1 (an @e0 (an @e1 (an @e2 (an @e3 @hc)))) ?_
   refine cY0 ?_
   show awp _ _ _ _
   refine rr0 ?_
   refine ⟨y + 1,by omega,by omega,?_⟩
   exact kw0 []
  ·refine cF1 @hc ?_
   refine zJ ?_
   show awp _ _ _ _
   refine rg0 ?_
   exact zK rt0
section
variable {L N : Nat} {tb : List (List Int)} {ws : List (List Nat)} {im : List Int} {ac pl : List Bool}
theorem zIv (h : zPS L N tb ws im ac pl) {w : List Nat} (hw : ∀ x ∈ w,x < L) (hl : w.length <= 50) : FnA Tryz.prog 17 [syV 0 L tb ws im ac pl,.t 2 (.str (zAH w))] (.t 2 (.int .i64 (vlW (ze tb) (imN im) w : Nat))) /\ vlW (ze tb) (imN im) w < N:=by
 have hL1:=h.hS.l1
 have hL2:=h.hS.l2
 have hil:=h.hS.il
 have htl:=h.ht.len
 have hwv:=zIe hw hL1 hL2 (by omega)
 have hlt : ∀ y,y <= w.length -> vlW (ze tb) (imN im) (w.take y) < N:=fun y=>by
  induction y with
  | zero=>intro _; exact h.hS.n1
  | succ y ih =>
   intro hy
   rw [List.take_succ_eq_append_getElem (by omega),zIA]
   exact h.ht.lt _ _ (ih (by omega)) (h.hS.img (by rw [hil]; exact hw _ (by simp))).2
 refine ⟨?_,by have:=hlt w.length (Nat.le_refl _); rwa [List.take_length] at this⟩
 refine fI 35 #[.tmp 4] Tryz.func17 rfl ?_
 refine rg1 (an @syV.eq_1 @zH.eq_1) ?_
 refine zD ?_
 refine rc0 hwv ?_
 refine cS0 ?_
 refine rg0 ?_
 refine zD ?_
 refine rg0 ?_
 refine zG ?_
 refine awp_loop (fun y : Nat=>mkS [(1,.t 2 (.str (zAH w))),(2,.ptr 0 0 6),(5,.t 2 (.int .i64 (vlW (ze tb) (imN im) (w.take y) : Nat))),(6,.t 2 (.int .i64 y))]
   [(0,.box 27 [.t 2 (.int .i64 L),.t 0 (rows tb),.t 0 (.sl 1 (wsT ws)),.t 0 (ints im),.t 0 (zH ac),.t 0 (zH pl)])] 1 35 [.any,.any]) (fun y=>y <= w.length) (fun y=>w.length - y) ?_ ?_
 ·refine ⟨0,by omega,?_⟩
  exact kw1 [(0,some 0)] (an @rows.eq_1 (an @zH.eq_1 @vlW.eq_1))
 intro y hy
 have hx:=hlt y hy
 refine zD ?_
 refine rg0 ?_
 by_cases hc : y < w.length
 ·have hxa:=hw w[y] (by simp)
  have hsn : vlW (ze tb) (imN im) (w.take (y + 1)) = ze tb (vlW (ze tb) (imN im) (w.take y)) (imN im w[y]):=by rw [List.take_succ_eq_append_getElem hc,zIA]
  have e0:=zAv hc (by omega)
  have e2 : IntKind.u8.wrap (97 + (w[y] : Int) - 97) = w[y]:=by rw [zI4,wr8 _ (by omega) (by omega)]
  obtain ⟨i1,i2⟩:=h.hS.img (a:=w[y]) (by omega)
  obtain ⟨i3,i4⟩:=List.getElem?_eq_some_iff.1 i1
  have i5 : ∀ hh : w[y] < im.length,im[w[y]]'hh = (imN im w[y] : Int):=fun _=>i4
  clear i1 i4
  generalize vlW (ze tb) (imN im) (w.take y) = x at *
  obtain ⟨g1,g2,g3⟩:=h.ht.get hx i2
  generalize imN im w[y] = v at *
  generalize w[y] = c at *
  refine cK1 @hc ?_
  refine zD ?_
  refine zG ?_
  refine re1 (an @e0 (an @e2 (an @hc (an @g1 (an @g2 (an @g3 (an @i3 @i5))))))) ?_
  show awp _ _ _ _
  refine rr0 ?_
  refine ⟨y + 1,by omega,by omega,?_⟩
  rw [hsn]
  exact kw1 [(0,some 0)] (an @rows.eq_1 @zH.eq_1)
 ·obtain rfl : y = w.length:=by omega
  rw [List.take_length]
  refine cF0 ?_
  refine zJ ?_
  show awp _ _ _ _
  refine rg0 ?_
  exact zK (rt1 @syV.eq_1)
end
def cW4 (L : Nat) : Nat -> Nat
 | 0=>1
 | m + 1=>1 + L * cW4 L m
def wg4 (L most : Nat) (ws : List (List Nat)) : Nat:=(ws.map fun w=>cW4 L (most - w.length)).sum
theorem zPK (L m : Nat) : 1 <= cW4 L m:=by cases m <;> simp [cW4]
theorem zP8 : ∀ L,L <= 6 -> ∀ m,m <= 4 -> cW4 L m <= 1555:=by decide
theorem zJW (L most : Nat) (ws : List (List Nat)) : ws.length <= wg4 L most ws:=by
 induction ws with
 | nil=>simp
 | cons w ws ih=>have:=zPK L (most - w.length); simp [wg4] at ih ⊢; omega
theorem zLz (L most : Nat) (ws : List (List Nat)) (w : List Nat) : wg4 L most (ws ++ [w]) = wg4 L most ws + cW4 L (most - w.length):=by simp [wg4]
structure Wd4 (L most : Nat) (ws : List (List Nat)) : Prop where
 lt : ∀ w ∈ ws,∀ x ∈ w,x < L
 ln : ∀ w ∈ ws,w.length <= most
theorem Wd4.add {L most a : Nat} {ws : List (List Nat)} {w : List Nat} (h : Wd4 L most ws) (hw : w ∈ ws) (hl : w.length < most) (ha : a < L) : Wd4 L most (ws ++ [w ++ [a]]):=by
 refine ⟨fun v hv x hx=>?_,fun v hv=>?_⟩
 ·rcases List.mem_append.1 hv with hv | hv
  ·exact h.lt v hv x hx
  ·rw [List.mem_singleton] at hv
   subst hv
   rcases List.mem_append.1 hx with hx | hx
   ·exact h.lt w hw x hx
   ·rw [List.mem_singleton] at hx; omega
 ·rcases List.mem_append.1 hv with hv | hv
  ·exact h.ln v hv
  ·rw [List.mem_singleton] at hv
   subst hv
   simp; omega
theorem zKJ (L most : Nat) (hL : L <= 6) (hm : most <= 4) : ∃ res,(∃ ws,(Wd4 L most ws /\ ws.length <= 1555) /\ res = .t 2 (.sl 1 (wsT ws))) /\ FnS Tryz.prog 15 [.t 2 (.int .i64 L),.t 2 (.int .i64 most)] [] res []:=by
 have hC:=zP8 L hL most hm
 refine zm Tryz.func15 rfl (by simp [Tryz.f15]) ?_
 rw [show Tryz.f15.ntmps = 43 from rfl,show Tryz.f15.results = #[.tmp 4] from rfl]
 refine rg0 ?_
 refine rg0 ?_
 refine zD ?_
 refine rg0 ?_
 refine zG ?_
 refine awp_loop (fun y : Nat × List (List Nat)=>mkS [(0,.t 2 (.int .i64 L)),(1,.t 2 (.int .i64 most)),(5,.own 0 y.2.length),(6,.t 2 (.int .i64 y.1))] [(0,.row 9 1 2 (wsT y.2))] 1 43 [.any,.any]) (fun y=>Wd4 L most y.2 /\ y.1 <= y.2.length /\ y.1 + wg4 L most (y.2.drop y.1) = cW4 L most) (fun y=>1555 - y.1) ?_ ?_
 ·refine ⟨(0,[[]]),⟨⟨by simp,by simp⟩,by simp,by simp [wg4]⟩,?_⟩
  exact kw1 [(0,some 1000000)] (an @wsT.eq_1 @zEo)
 ·rintro ⟨i,ws⟩ ⟨hI,hil0,hsm⟩
  simp only at hI hil0 hsm
  have hb : ws.length <= 1555:=by have:=zJW L most (ws.drop i); rw [List.length_drop] at this; omega
  refine zD ?_
  refine rg1 @wsT.eq_1 ?_
  by_cases hil : i < ws.length
  ·refine cT1 @hil ?_
   have hi2 : i < 1555:=by omega
   rw [List.drop_eq_getElem_cons hil] at hsm
   have hwln:=hI.ln ws[i] (by simp)
   have hsm2 : i + 1 + wg4 L most (ws.drop (i + 1)) + (if ws[i].length < most then L * cW4 L (most - (ws[i].length + 1)) else 0) = cW4 L most:=by
    simp only [wg4,List.map_cons,List.sum_cons] at hsm ⊢
    by_cases hwm : ws[i].length < most
    ·rw [if_pos hwm]
     rw [show most - ws[i].length = most - (ws[i].length + 1) + 1 by omega,cW4] at hsm
     omega
    ·rw [if_neg hwm]
     rw [show most - ws[i].length = 0 by omega,cW4] at hsm
     omega
   clear hsm
   refine zb ?_
   show awp _ _ _ _
   refine zD ?_
   refine zG ?_
   refine rg0 ?_
   refine zG ?_
   refine awp_loop (fun y : Nat × List (List Nat)=>mkS [(0,.t 2 (.int .i64 L)),(1,.t 2 (.int .i64 most)),(5,.own 0 y.2.length),(6,.t 2 (.int .i64 i)),(7,.t 2 (.int .i64 y.1))] [(0,.row 9 1 2 (wsT y.2))] 1 43 [.any,.any]) (fun y=>Wd4 L most y.2 /\ y.2[i]? = some ws[i] /\ y.1 <= L /\ i + 1 + wg4 L most (y.2.drop (i + 1)) + (if ws[i].length < most then (L - y.1) * cW4 L (most - (ws[i].length + 1)) else 0) = cW4 L most) (fun y=>L - y.1) ?_ ?_
   ·refine ⟨(0,ws),⟨hI,by simp,by simp,hsm2⟩,?_⟩
    exact kw1 [(0,some 0)] @wsT.eq_1
   ·rintro ⟨a,us⟩ ⟨hJ,hui,haL,hju⟩
    simp only at hJ hui haL hju
    have hiu:=(List.getElem?_eq_some_iff.1 hui).1
    have hue:=(List.getElem?_eq_some_iff.1 hui).2
    have hbu : us.length <= 1555:=by have:=zJW L most (us.drop (i + 1)); rw [List.length_drop] at this; omega
    have huw : ws[i] ∈ us:=List.mem_of_getElem? hui
    refine zD ?_
    by_cases haa : a < L
    ·by_cases hwm : ws[i].length < most
     ·refine rg1 (an @wsT.eq_1 (an @haa (an @hwm (an @hiu @hue)))) ?_
      refine cK1 (an @haa @hwm) ?_
      refine zD ?_
      refine zG ?_
      refine zAi (by kernel_rfl) (fun K hK=>?_)
      simp (maxSteps:=2000000) (disch:=omega) [ints,rows,scal,zV,wr8,wsT,isU8,hiu,hue,zCl (show a <= 20 by omega),zAW]
      and_intros <;> try first | apply hK | (show zAm _ _ = true; kernel_rfl) | (show okH _ _ _ = true; kernel_rfl) | omega | rfl | simp <;> omega
      show awp _ _ _ _
      refine rr0 ?_
      refine ⟨(a + 1,us ++ [ws[i] ++ [a]]),⟨hJ.add huw hwm haa,by rw [List.getElem?_append_left hiu]; exact hui,by omega,?_⟩,by simp; omega,?_⟩
      ·rw [List.drop_append_of_le_length (by omega),zLz,if_pos hwm]
       rw [if_pos hwm,show L - a = L - (a + 1) + 1 by omega,Nat.add_mul] at hju
       simp only [List.length_append,List.length_singleton]
       omega
      ·exact kw1 [(0,some 0)] @wsT.eq_1
     ·refine rg1 (an @wsT.eq_1 (an @haa (an @hwm (an @hiu @hue)))) ?_
      refine cF1 (an @haa @hwm) ?_
      refine zJ ?_
      show awp _ _ _ _
      refine rr0 ?_
      rw [if_neg hwm] at hju
      refine ⟨(i + 1,us),⟨hJ,hiu,by show i + 1 + wg4 L most (us.drop (i + 1)) = _; omega⟩,by simp; omega,?_⟩
      exact kw1 [(0,some 0)] @wsT.eq_1
    ·refine rg1 (an @wsT.eq_1 @haa) ?_
     refine cF1 @haa ?_
     refine zJ ?_
     show awp _ _ _ _
     refine rr0 ?_
     rw [show L - a = 0 by omega,Nat.zero_mul,ite_self] at hju
     refine ⟨(i + 1,us),⟨hJ,hiu,by show i + 1 + wg4 L most (us.drop (i + 1)) = _; omega⟩,by simp; omega,?_⟩
     exact kw1 [(0,some 0)] @wsT.eq_1
  ·refine cF1 @hil ?_
   refine zJ ?_
   show awp _ _ _ _
   refine rg0 ?_
   refine zK ?_
   refine ⟨_,⟨ws,⟨hI,hb⟩,rfl⟩,?_⟩
   exact rt1 @wsT.eq_1
theorem zR4 : ∀ L,L <= 2 -> ∀ N,N <= 6 -> 8 * (N + 2) * (N + 2) * (L + 1) * (L + 1) <= 4608 /\ 8 * (N + 2) * (N + 2) * (L + 1) <= 4608 /\ 8 * (N + 2) * (N + 2) <= 4608:=by decide
theorem zF1 (l : List Int) : FnA Tryz.prog 4 [.t 1 (ints l)] (.t 2 (.bool true)):=by
 have hnew:=zPz l
 obtain ⟨xs,hxs⟩ : ∃ xs,xs = l.take 80:=⟨_,rfl⟩
 have hxl : xs.length <= 80:=by rw [hxs]; simp; omega
 rw [← hxs] at hnew
 obtain ⟨_,_,hG,hmon⟩:=zK8 xs hxl 6 (by omega)
 obtain ⟨L,N,tb,ws,im,ac,pl,b,hDr,hb,rfl,rfl⟩:=hG.dr
 clear hG
 have hMD:=hDr.hMD
 have hv:=hDr.hv
 have hL:=hDr.hL
 have hn15:=hDr.n15
 have htl:=hMD.ht.len
 have hal:=hMD.hS.al
 have hap:=zJC (L:=L) (ws:=ws) (im:=im) (ac:=ac) (pl:=pl) hMD.ht (by omega)
 have hkn:=zIm
 refine fI 117 #[.tmp 2] Tryz.func4 rfl ?_
 refine rg0 ?_
 refine zP fun K hK=>?_
 simp (maxSteps:=2000000) (disch:=omega) [ints,rows,scal,zV,wr8]
 (repeat' apply And.intro)
 all_goals (try omega)
 refine zQ (caps:=[]) (hnew) [] [2000000] 1 rfl rfl rfl rfl (by kernel_rfl) (by simp) ?_ ?_ (by simp) rfl (by simp) ⟨.inl ⟨by omega,by omega⟩,trivial⟩ (by simp [tpO]) ?_
 ·simp [scal,rows,ints,tpO]
 ·trivial
 simp (maxSteps:=2000000) (disch:=omega) [ints,rows,scal,zV,wr8,tpO]
 (repeat' apply And.intro)
 all_goals (try omega)
 refine zQ (caps:=[]) (hmon) [2000000] [2000000] 1 rfl rfl rfl rfl (by kernel_rfl) (by simp) ?_ ?_ (by simp) rfl (by simp) ⟨.inr ⟨rfl,0,_,_,_,_,_,rfl,rfl,rfl,rfl,rfl⟩,trivial⟩ (by simp [tpO]) ?_
 ·simp [scal,rows,ints,tpO]
 ·simp [scal,rows,ints,tpO]
 simp (maxSteps:=2000000) (disch:=omega) [ints,rows,scal,zV,wr8,syV,zH,tpO]
 and_intros <;> try first | apply hK | omega | rfl | simp <;> omega
 refine zx (σ':=mkS [(3,.ptr 0 0 6)] [(0,.box 27 [.t 2 (.int .i64 L),.t 2 (rows tb),.t 2 (.sl 1 (wsT ws)),.t 2 (ints im),.t 2 (zH ac),.t 2 (zH pl)])] 1 117 [.any]) ?_ ?_
 ·exact kw1 [(0,some 4000000)] (an @rows.eq_1 @zH.eq_1)
 by_cases ha : ∀ x,x < N -> ApX (ze tb) x
 case neg =>
  have hf : apB N (ze tb) = false:=by
   cases e : apB N (ze tb) with
   | false=>rfl
   | true=>exact absurd (zGl.1 e) ha
  rw [hf] at hap
  refine zD ?_
  refine rc1 hap (an @syV.eq_1 @zH.eq_1) ?_
  refine cT0 ?_
  refine rc0 hkn ?_
  exact zK rt0
 have hN : N <= 6:=by have:=hDr.few ha; omega
 rw [zM3 ha] at hap
 obtain ⟨ns,root,of,hSf,hof⟩:=zJo hMD hL (by omega) ha hv
 have hol:=hSf.ol
 have hnsl : (nI of).length = N:=by rw [zDK,hol]
 have hsv:=zCi hSf.gv (by omega) (by omega) hSf.rt hSf.n2
 have hdv:=zDE ns
 obtain ⟨b1,b2,b3⟩:=zR4 L (by omega) N hN
 have hbd:=hSf.bd
 have w2 : IntKind.i64.wrap (8 * ((N : Int) + 2) * ((N : Int) + 2)) = ((8 * (N + 2) * (N + 2) : Nat) : Int):=by rw [show 8 * ((N : Int) + 2) * ((N : Int) + 2) = ((8 * (N + 2) * (N + 2) : Nat) : Int) by push_cast; rfl]; exact zV _ (by omega) (by omega)
 have w3 : IntKind.i64.wrap (((8 * (N + 2) * (N + 2) : Nat) : Int) * ((L : Int) + 1)) = ((8 * (N + 2) * (N + 2) * (L + 1) : Nat) : Int):=by rw [show ((8 * (N + 2) * (N + 2) : Nat) : Int) * ((L : Int) + 1) = ((8 * (N + 2) * (N + 2) * (L + 1) : Nat) : Int) by push_cast; rfl]; exact zV _ (by omega) (by omega)
 have w4 : IntKind.i64.wrap (((8 * (N + 2) * (N + 2) * (L + 1) : Nat) : Int) * ((L : Int) + 1)) = ((8 * (N + 2) * (N + 2) * (L + 1) * (L + 1) : Nat) : Int):=by rw [show ((8 * (N + 2) * (N + 2) * (L + 1) : Nat) : Int) * ((L : Int) + 1) = ((8 * (N + 2) * (N + 2) * (L + 1) * (L + 1) : Nat) : Int) by push_cast; rfl]; exact zV _ (by omega) (by omega)
 generalize 8 * (N + 2) * (N + 2) * (L + 1) * (L + 1) = q4 at hbd w4 b1
 generalize 8 * (N + 2) * (N + 2) * (L + 1) = q3 at w3 w4 b2
 generalize 8 * (N + 2) * (N + 2) = q2 at w2 w3 b3
 have hbi : ¬ (q4 : Int) < (ns.length : Int):=by omega
 obtain ⟨_,⟨wds,⟨hW,hWl⟩,rfl⟩,hwords⟩:=zKJ L 4 (by omega) (by omega)
 refine zD ?_
 refine rc1 hap (an @syV.eq_1 @zH.eq_1) ?_
 refine cS0 ?_
 refine rc1 hof (an @syV.eq_1 (an @zH.eq_1 @zCd.eq_1)) ?_
 refine zx (σ':=mkS [(3,.ptr 0 0 6),(4,.ptr 1 0 2),(5,.t 1 (ints (nI of))),(6,.t 2 (.int .i64 0))] [(0,.box 27 [.t 2 (.int .i64 L),.t 2 (rows tb),.t 2 (.sl 1 (wsT ws)),.t 2 (ints im),.t 2 (zH ac),.t 2 (zH pl)]),(1,.box 33 [.t 2 (.sl 4 (zBR ns)),.t 2 (.int .i64 (root : Nat))])] 2 117 [.any]) ?_ ?_
 ·exact kw1 [(0,some 0),(1,some 9000001)] (an @rows.eq_1 @zH.eq_1)
 refine zD ?_
 refine rc1 hsv (an @htl (an @hnsl @zCd.eq_1)) ?_
 refine cS0 ?_
 refine rg1 @htl ?_
 refine zD ?_
 refine rg1 (an @hdv (an @w2 (an @w3 (an @w4 @hbi)))) ?_
 refine cS0 ?_
 refine zD ?_
 refine rc1 hwords @wsT.eq_1 ?_
 refine zG ?_
 refine awp_loop (fun y : Nat=>mkS [(3,.ptr 0 0 6),(4,.ptr 1 0 2),(5,.t 1 (ints (nI of))),(66,.t 2 (.sl 1 (wsT wds))),(67,.t 2 (.int .i64 wds.length)),(68,.t 2 (.int .i64 y))] [(0,.box 27 [.t 2 (.int .i64 L),.t 2 (rows tb),.t 2 (.sl 1 (wsT ws)),.t 2 (ints im),.t 2 (zH ac),.t 2 (zH pl)]),(1,.box 33 [.t 2 (.sl 4 (zBR ns)),.t 2 (.int .i64 (root : Nat))])] 2 117 [.any]) (fun y=>y <= wds.length) (fun y=>wds.length - y) ?_ ?_
 ·refine ⟨0,by omega,?_⟩
  exact kw1 [(0,some 0),(1,some 1)] (an @rows.eq_1 (an @zH.eq_1 @wsT.eq_1))
 intro y hy
 refine rg0 ?_
 refine zD ?_
 by_cases hc : y < wds.length
 case neg =>
  refine cF1 @hc ?_
  refine zJ ?_
  show awp _ _ _ _
  refine rc0 hkn ?_
  exact zK rt0
 refine cT1 @hc ?_
 have hwx:=hW.lt wds[y] (by simp)
 have hwl:=hW.ln wds[y] (by simp)
 have hho:=zL8 (root:=root) (w:=wds[y]) hSf.gv (by omega) hSf.n2 (fun x hx=>by have:=hwx x hx; omega) (by omega)
 obtain ⟨hval,hvN⟩:=zIv hMD hwx (by omega)
 have hro : zAB ns root wds[y] = true ↔ ac.getD (vlW (ze tb) (imN im) wds[y]) false = true:=hSf.ro.2 _ hwx
 have hels : ∀ x,x < N -> of.getD x 0 < ns.length /\ (zAB ns (of.getD x 0) wds[y] = true ↔ vlW (ze tb) (imN im) wds[y] = x):=fun x hx=>⟨(hSf.el x hx).1,(hSf.el x hx).2 _ hwx⟩
 have hwy : (wsT wds)[y]? = some (.str (zAH wds[y])):=by simp [wsT,hc]
 have hro : zAB ns root wds[y] = ac.getD (vlW (ze tb) (imN im) wds[y]) false:=Bool.eq_iff_iff.2 hro
 obtain ⟨hs,hhs⟩ : ∃ hs,hs = tab ns.length fun i=>zAB ns i wds[y]:=⟨_,rfl⟩
 have hhl : hs.length = ns.length:=by rw [hhs,zq]
 have hget : ∀ r,r < ns.length -> ∀ hh,hs[r]'hh = zAB ns r wds[y]:=fun r hr hh=>by subst hhs; simp [tab]
 rw [← hhs] at hho
 have hrt:=hSf.rt
 have hrg:=hget root hrt
 rw [hro] at hrg
 have hels2 : ∀ x,x < N -> of.getD x 0 < ns.length /\ ∀ hh,hs[of.getD x 0]'hh = decide (vlW (ze tb) (imN im) wds[y] = x):=fun x hx=>⟨(hels x hx).1,fun hh=>by rw [hget _ (hels x hx).1]; exact Bool.eq_iff_iff.2 (by rw [(hels x hx).2]; simp)⟩
 clear hels hget hhs hro
 generalize vlW (ze tb) (imN im) wds[y] = v at hval hvN hrg hels2
 have hacv : ∀ hh,ac[v]'hh = ac.getD v false:=fun hh=>by rw [List.getD_eq_getElem?_getD,List.getElem?_eq_getElem hh]; rfl
 generalize ac.getD v false = bx at hrg hacv
 have hav : v < ac.length:=by omega
 have hrh : root < hs.length:=by omega
 refine zb ?_
 show awp _ _ _ _
 refine zD ?_
 refine zG ?_
 refine rg1 (an @wsT.eq_1 @hc) ?_
 refine rc1 hho @zCd.eq_1 ?_
 refine rc1 hval (an @syV.eq_1 (an @zH.eq_1 @wsT.eq_1)) ?_
 refine zD ?_
 refine rg1 @hnsl ?_
 refine zG ?_
 refine awp_loop (fun x : Nat=>mkS [(3,.ptr 0 0 6),(4,.ptr 1 0 2),(5,.t 1 (ints (nI of))),(10,.t 2 (zH hs)),(11,.t 2 (.int .i64 v)),(66,.t 2 (.sl 1 (wsT wds))),(67,.t 2 (.int .i64 wds.length)),(68,.t 2 (.int .i64 y)),(78,.t 1 (ints (nI of))),(79,.t 2 (.int .i64 N)),(80,.t 2 (.int .i64 x))] [(0,.box 27 [.t 2 (.int .i64 L),.t 2 (rows tb),.t 2 (.sl 1 (wsT ws)),.t 2 (ints im),.t 2 (zH ac),.t 2 (zH pl)]),(1,.box 33 [.t 2 (.sl 4 (zBR ns)),.t 2 (.int .i64 (root : Nat))])] 2 117 [.any]) (fun x=>x <= N) (fun x=>N - x) ?_ ?_
 ·refine ⟨0,by omega,?_⟩
  exact kw1 [(0,some 0),(1,some 1)] (an @rows.eq_1 (an @zH.eq_1 (an @wsT.eq_1 @hnsl)))
 intro x hx
 refine rg0 ?_
 refine zD ?_
 by_cases hxN : x < N
 ·refine cT1 @hxN ?_
  obtain ⟨hr1,hr2⟩:=hels2 x hxN
  have hox : x < of.length:=by omega
  have hofx : ∀ hh,(nI of)[x]'hh = ((of.getD x 0 : Nat) : Int):=fun hh=>by simp [nI,hox]
  generalize of.getD x 0 = r at hr1 hr2 hofx
  have hr0 : ¬ (r : Int) < 0:=by omega
  have hrl : ¬ (ns.length : Int) <= (r : Int):=by omega
  have hrh2 : r < hs.length:=by omega
  refine zb ?_
  show awp _ _ _ _
  refine zD ?_
  refine zG ?_
  refine rg1 (an @hnsl (an @hxN @hofx)) ?_
  by_cases hvx : v = x
  ·have hvx2:=hvx.symm
   subst hvx2
   refine rg1 (an @zH.eq_1 (an @hr0 (an @hhl (an @hrl (an @hr1 (an @hrh2 @hr2)))))) ?_
   refine cY0 ?_
   show awp _ _ _ _
   refine rr0 ?_
   refine ⟨x + 1,by omega,by omega,?_⟩
   exact kw1 [(0,some 0),(1,some 1)] (an @rows.eq_1 (an @zH.eq_1 @wsT.eq_1))
  ·refine rg1 (an @zH.eq_1 (an @hr0 (an @hhl (an @hrl (an @hr1 (an @hrh2 (an @hr2 @hvx))))))) ?_
   refine cY0 ?_
   show awp _ _ _ _
   refine rr0 ?_
   refine ⟨x + 1,by omega,by omega,?_⟩
   exact kw1 [(0,some 0),(1,some 1)] (an @rows.eq_1 (an @zH.eq_1 @wsT.eq_1))
 ·refine cF1 @hxN ?_
  refine zJ ?_
  show awp _ _ _ _
  refine rd1 (an @zH.eq_1 (an @hhl (an @hrt (an @hrg (an @hacv (an @hav (an @hal @hvN))))))) ?_
  refine cY0 ?_
  show awp _ _ _ _
  refine rr0 ?_
  refine ⟨y + 1,by omega,by omega,?_⟩
  exact kw1 [(0,some 0),(1,some 1)] (an @rows.eq_1 (an @zH.eq_1 @wsT.eq_1))
end Go.Proofs.YtjkeafkjjaploaaGreat.M
