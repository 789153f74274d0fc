/-
  Walk in my logic: the law MonomialClasses.
-/
import Derived.Test.YtgelfgpcnaeecaaGreatDoorZsbe
import Derived.Test.YtgelfgpcnaeecaaGreatDoorZsad
import Derived.Test.YtgelfgpcnaeecaaGreatDoorZsbg
import Derived.Test.YtgelfgpcnaeecaaGreatDoorZsbh
import Derived.Test.YtgelfgpcnaeecaaGreatDoorZsbd
namespace Go.Proofs.YtgelfgpcnaeecaaGreatDoor.M
open Go.RowKit
set_option linter.unusedVariables false
set_option linter.unusedSimpArgs false
set_option maxRecDepth 100000
set_option maxHeartbeats 32000000

theorem zUn : zKD (zCE[8]'(by decide)).fst = (viR,viW,-1,0):=by kernel_rfl
theorem zUl : zKD (zCE[9]'(by decide)).fst = (viL,viW,-1,0):=by kernel_rfl
theorem zTX : (zCE[8]'(by decide)).fst.size <= 1000:=by decide
theorem zT0 : (zCE[9]'(by decide)).fst.size <= 1000:=by decide
theorem zOu : FnA Tryz.prog 9 [.t 2 (.str ⟨#[114,45,116,114,105,118,105,97,108]⟩)] (.t 2 (.int .i64 8)):=zI4 _ (k:=8) (by omega) rfl (fun j h hj=>by
 have e : ∀ j : Fin 17,j.1 < 8 -> ¬ (zCE[j.1]'j.2).nm.toList = (⟨#[114,45,116,114,105,118,105,97,108]⟩ : ByteArray).toList:=by decide +kernel
 exact e ⟨j,h⟩ hj)
theorem zN6 : FnA Tryz.prog 9 [.t 2 (.str ⟨#[108,45,116,114,105,118,105,97,108]⟩)] (.t 2 (.int .i64 9)):=zI4 _ (k:=9) (by omega) rfl (fun j h hj=>by
 have e : ∀ j : Fin 17,j.1 < 9 -> ¬ (zCE[j.1]'j.2).nm.toList = (⟨#[108,45,116,114,105,118,105,97,108]⟩ : ByteArray).toList:=by decide +kernel
 exact e ⟨j,h⟩ hj)
theorem zRc {L n s : Nat} {bs : List Bool} {nxt : List (List Int)} (hL : L = 1 \/ L = 2) (h : DfL L n s bs nxt) (hn : n <= 9) (hc : zSd L n nxt) : ∃ (N : Nat) (tb : List (List Int)) (ws : List (List Nat)) (im : List Int) (ac pl : List Bool),tb.length = N ∧
  FnA Tryz.prog 7 [dfT 0 L s bs nxt] (.tup [syV 1 L tb ws im ac pl,.t 2 (.int .i64 0)]) ∧
  (N <= 60 -> ∃ (r b : Bool) (i1 s1 : Int) (v1 : T) (i2 s2 : Int) (v2 : T) (l1 : List Mo) (e1 : Int) (l2 : List Mo) (e2 : Int),
   FnA Tryz.prog 8 [syV 1 L tb ws im ac pl,.t 2 (.int .i64 8),.t 2 (.int .i64 10000)] (.tup [.t 2 (.bool r),.t 2 (.int .i64 i1),.t 1 v1,.t 2 (.int .i64 s1),.t 2 (.int .i64 0)]) ∧
   FnA Tryz.prog 8 [syV 1 L tb ws im ac pl,.t 2 (.int .i64 9),.t 2 (.int .i64 10000)] (.tup [.t 2 (.bool b),.t 2 (.int .i64 i2),.t 1 v2,.t 2 (.int .i64 s2),.t 2 (.int .i64 0)]) ∧
   FnA Tryz.prog 10 [dfT 0 L s bs nxt] (zKg (l1,e1)) /\ FnA Tryz.prog 11 [dfT 0 L s bs nxt] (zKg (l2,e2)) ∧
   (e1 = 3 \/ (e1 = 0 /\ r = true) \/ (e1 = 20 /\ r = false)) /\ (e2 = 3 \/ (e2 = 0 /\ b = true) \/ (e2 = 20 /\ b = false))):=by
 obtain ⟨m,bs',nx,els,pre,last,wds,right,r0,hX,hS,hof⟩:=zPv hL h hn hc
 have hM:=hX.mn
 have hD:=hM.df
 have hg : ∀ g ∈ tab L (lets m nx),TrN m g:=(hD.gn (by omega) (by omega) hS.m32).tr
 have hval:=zGv hS hM (by omega) (by omega)
 have hv1:=hS.pr.vE hg hS.el
 have h400:=hS.el
 have hp:=hS.pos
 have htl : (zBQ right wds els.length).length = els.length:=zBX _ _ _
 have hpl : (psB els.length (right.any fun r=>decide ((0 : Int) ∈ r))).length = els.length:=by simp [psB]
 obtain ⟨m1,b1,nx1,l1,e1,hX1,hE1,hr1⟩:=zMy h (by omega) (by omega) (by omega)
 obtain ⟨rfl,rfl,rfl⟩:=hX.eq (by omega) hX1
 obtain ⟨m2,b2,nx2,m3,b3,nx3,l2,e2,hX2,hR,hE2,hr2⟩:=zOr h (by omega) (by omega) hn
 obtain ⟨rfl,rfl,rfl⟩:=hX.eq (by omega) hX2
 have hrl:=hS.zUi hD hg
 have hll:=hS.zUp hM (by omega) hR hg
 rw [zK4] at hof hval
 generalize psB els.length (right.any fun r=>decide ((0 : Int) ∈ r)) = pl at hof hval hpl
 generalize els.map (zHU bs') = ac at hof hval
 generalize zBQ right wds els.length = tb at hof hval hv1 htl hrl hll
 refine ⟨els.length,tb,wds,r0,ac,pl,htl,hof,fun h60=>?_⟩
 obtain ⟨s1,k1⟩:=zPk htl h60 hp hv1 (.inl rfl : viR = viR \/ viR = viL)
 obtain ⟨s2,k2⟩:=zPk htl h60 hp hv1 (.inr rfl : viL = viR \/ viL = viL)
 obtain ⟨_,⟨i1,t1,v1,rfl⟩,hm1⟩:=zEp (c:=8) viR viW hpl h400 hval (by omega) rfl zTX zUn rfl (B:=10000) (by omega) (by omega) (by
  rcases k1 with ⟨k,-⟩ | ⟨k,-⟩
  ·exact .inr k
  ·exact .inl k) (by omega)
 obtain ⟨_,⟨i2,t2,v2,rfl⟩,hm2⟩:=zEp (c:=9) viL viW hpl h400 hval (by omega) rfl zT0 zUl rfl (B:=10000) (by omega) (by omega) (by
  rcases k2 with ⟨k,-⟩ | ⟨k,-⟩
  ·exact .inr k
  ·exact .inl k) (by omega)
 have key : ∀ {A : Prop} {e : Int},(e = 3 \/ (e = 0 /\ A) \/ (e = 20 /\ ¬ A)) -> ∀ {c : Bool},(c = true ↔ A) -> (e = 3 \/ (e = 0 /\ c = true) \/ (e = 20 /\ c = false)):=fun {A e} h {c} hc=>by
  rcases h with h | ⟨h,ha⟩ | ⟨h,ha⟩
  ·exact .inl h
  ·exact .inr (.inl ⟨h,hc.2 ha⟩)
  ·refine .inr (.inr ⟨h,?_⟩)
   cases c with
   | true=>exact absurd (hc.1 rfl) ha
   | false=>rfl
 refine ⟨_,_,i1,t1,v1,i2,t2,v2,l1,e1,l2,e2,hm1,hm2,hr1,hr2,key hE1 ?_,key hE2 ?_⟩
 ·rw [hrl,decide_eq_true_eq]
  rcases k1 with ⟨k,k'⟩ | ⟨k,x,y,hx,hy,k'⟩
  ·exact ⟨fun _ x y hx hy=>by
    have:=k' x y hx hy
    obtain ⟨f1,f2,f3⟩:=zKG (zR tb) els.length (idI (zR tb) els.length).toNat (fun k=>if k = 0 then x else y)
    rw [f1,f2] at this
    simpa using this,fun _=>k⟩
  ·refine ⟨fun h9=>absurd (k.symm.trans h9) (by decide),fun hh=>absurd (hh x y hx hy) fun he=>k' ?_⟩
   obtain ⟨f1,f2,f3⟩:=zKG (zR tb) els.length (idI (zR tb) els.length).toNat (fun k=>if k = 0 then x else y)
   rw [f1,f2]
   simpa using he
 ·rw [hll,decide_eq_true_eq]
  rcases k2 with ⟨k,k'⟩ | ⟨k,x,y,hx,hy,k'⟩
  ·exact ⟨fun _ x y hx hy=>by
    have:=k' x y hx hy
    obtain ⟨f1,f2,f3⟩:=zKG (zR tb) els.length (idI (zR tb) els.length).toNat (fun k=>if k = 0 then x else y)
    rw [f1,f3] at this
    simpa using this,fun _=>k⟩
  ·refine ⟨fun h9=>absurd (k.symm.trans h9) (by decide),fun hh=>absurd (hh x y hx hy) fun he=>k' ?_⟩
   obtain ⟨f1,f2,f3⟩:=zKG (zR tb) els.length (idI (zR tb) els.length).toNat (fun k=>if k = 0 then x else y)
   rw [f1,f3]
   simpa using he
theorem zFJ (l : List Int) : FnA Tryz.prog 3 [.t 1 (ints l)] (.t 2 (.bool true)):=by
 have hnew:=zR9 l
 obtain ⟨xs,hxs⟩ : ∃ xs,xs = l.take 80:=⟨_,rfl⟩
 have hxl : xs.length <= 80:=by rw [hxs]; simp; omega
 rw [← hxs] at hnew
 obtain ⟨L,b,hL,hb,hlet⟩:=zHp xs 0 (by omega) hxl
 obtain ⟨_,_,⟨n,s,b1,bs,nxt,hn,hb1,hD,hF,rfl,rfl⟩,hany⟩:=zQH xs b L 4 hb hxl hL (by omega) (by omega)
 obtain ⟨N,tb,ws,im,ac,pl,htl,hof,hrest⟩:=zRc hL hD hn hF
 refine fI 99 #[.tmp 2] Tryz.func3 rfl ?_
 refine rg0 ?_
 refine zI fun K hK=>?_
 simp (maxSteps:=2000000) (disch:=omega) [ints,rows,scal,zK,wr8]
 (repeat' apply And.intro)
 all_goals (try omega)
 refine zD (caps:=[]) (hnew) [] [2000000] 1 rfl rfl rfl rfl (by kernel_rfl) (by simp) ?_ ?_ (by simp) rfl (by simp) ⟨.inl ⟨by omega,by omega⟩,trivial⟩ (by simp [tpO]) ?_
 ·simp [scal,rows,ints,tpO]
 ·trivial
 simp (maxSteps:=2000000) (disch:=omega) [ints,rows,scal,zK,wr8,tpO]
 and_intros <;> try first | apply hK | omega | rfl | simp <;> omega
 refine zX (σ':=mkS [(3,.ptr 0 0 2)] [(0,tpO 1 xs 0)] 1 99 [.any]) ?_ ?_
 ·exact kw1 [(0,some 2000000)] @tpO.eq_1
 refine zI fun K hK=>?_
 simp (maxSteps:=2000000) (disch:=omega) [ints,rows,scal,zK,wr8]
 (repeat' apply And.intro)
 all_goals (try omega)
 refine zD (caps:=[]) (hlet) [0] [0] 1 rfl rfl rfl rfl (by kernel_rfl) (by simp) ?_ ?_ (by simp) rfl (by simp) ⟨.inr ⟨rfl,0,_,_,_,_,_,rfl,rfl,rfl,rfl,rfl⟩,trivial⟩ (by simp [tpO]) ?_
 ·simp [scal,rows,ints,tpO]
 ·simp [scal,rows,ints,tpO]
 simp (maxSteps:=2000000) (disch:=omega) [ints,rows,scal,zK,wr8,tpO]
 (repeat' apply And.intro)
 all_goals (try omega)
 refine zD (caps:=[]) (hany) [0] [0] 1 rfl rfl rfl rfl (by kernel_rfl) (by simp) ?_ ?_ (by simp) rfl (by simp) ⟨.inr ⟨rfl,0,_,_,_,_,_,rfl,rfl,rfl,rfl,rfl⟩,trivial⟩ (by simp [tpO]) ?_
 ·simp [scal,rows,ints,tpO,dfT]
 ·simp [scal,rows,ints,tpO,dfT]
 simp (maxSteps:=2000000) (disch:=omega) [ints,rows,scal,zK,wr8,dfT,zE,tpO]
 and_intros <;> try first | apply hK | omega | rfl | simp <;> omega
 refine zX (σ':=mkS [(4,.ptr 0 0 4)] [(0,zNc L s bs nxt)] 1 99 [.any]) ?_ ?_
 ·exact kw1 [(0,some 4000001)] (an @zNc.eq_1 (an @dfT.eq_1 (an @zE.eq_1 @rows.eq_1)))
 refine rc1 hof (an @zNc.eq_1 (an @dfT.eq_1 (an @zE.eq_1 @syV.eq_1))) ?_
 refine zA ?_
 by_cases h60 : N <= 60
 ·obtain ⟨r,c,i1,t1,v1,i2,t2,v2,l1,e1,l2,e2,hm1,hm2,hr1,hr2,hc1,hc2⟩:=hrest h60
  have h60i : ¬ (60 : Int) < (N : Int):=by omega
  refine rg1 (an @htl @h60i) ?_
  refine cS0 ?_
  refine zp (by kernel_rfl) (fun K hK=>?_)
  simp (maxSteps:=2000000) (disch:=omega) [ints,rows,scal,zK,wr8]
  (repeat' apply And.intro)
  all_goals (try omega)
  refine zS (caps:=[]) (zOu) [] [] 2 rfl rfl rfl rfl (by kernel_rfl) (by simp) ?_ trivial trivial rfl trivial trivial (by simp) ?_
  ·simp [scal,rows,ints]
  simp (maxSteps:=2000000) (disch:=omega) [ints,rows,scal,zK,wr8]
  (repeat' apply And.intro)
  all_goals (try omega)
  refine zS (caps:=[]) (hm1) [] [] 2 rfl rfl rfl rfl (by kernel_rfl) (by simp) ?_ trivial trivial rfl trivial trivial (by simp) ?_
  ·simp [scal,rows,ints,syV,zE]
  simp (maxSteps:=2000000) (disch:=omega) [ints,rows,scal,zK,wr8]
  and_intros <;> try first | apply hK | (show zA8 _ _ = true; kernel_rfl) | (show okH _ _ _ = true; kernel_rfl) | omega | rfl | simp <;> omega
  refine zp (by kernel_rfl) (fun K hK=>?_)
  simp (maxSteps:=2000000) (disch:=omega) [ints,rows,scal,zK,wr8]
  (repeat' apply And.intro)
  all_goals (try omega)
  refine zS (caps:=[]) (zN6) [] [] 2 rfl rfl rfl rfl (by kernel_rfl) (by simp) ?_ trivial trivial rfl trivial trivial (by simp) ?_
  ·simp [scal,rows,ints]
  simp (maxSteps:=2000000) (disch:=omega) [ints,rows,scal,zK,wr8]
  (repeat' apply And.intro)
  all_goals (try omega)
  refine zS (caps:=[]) (hm2) [] [] 2 rfl rfl rfl rfl (by kernel_rfl) (by simp) ?_ trivial trivial rfl trivial trivial (by simp) ?_
  ·simp [scal,rows,ints,syV,zE]
  simp (maxSteps:=2000000) (disch:=omega) [ints,rows,scal,zK,wr8]
  (repeat' first | apply hK | apply And.intro) <;> try first | (show zA8 _ _ = true; kernel_rfl) | (show okH _ _ _ = true; kernel_rfl) | omega | rfl | (simp <;> omega)
  refine rc1 hr1 (an @zNc.eq_1 (an @dfT.eq_1 (an @zE.eq_1 @zKg.eq_1))) ?_
  refine rc1 hr2 (an @zNc.eq_1 (an @dfT.eq_1 (an @zE.eq_1 @zKg.eq_1))) ?_
  rcases hc1 with rfl | ⟨rfl,rfl⟩ | ⟨rfl,rfl⟩
  ·rcases hc2 with rfl | ⟨rfl,rfl⟩ | ⟨rfl,rfl⟩
   ·refine rc0 zAK ?_
    exact zC rt0
   ·refine rc0 zAK ?_
    exact zC rt0
   ·refine rc0 zAK ?_
    exact zC rt0
  ·rcases hc2 with rfl | ⟨rfl,rfl⟩ | ⟨rfl,rfl⟩
   ·refine rc0 zAK ?_
    exact zC rt0
   ·refine rc0 zAK ?_
    exact zC rt0
   ·refine rc0 zAK ?_
    exact zC rt0
  ·rcases hc2 with rfl | ⟨rfl,rfl⟩ | ⟨rfl,rfl⟩
   ·refine rc0 zAK ?_
    exact zC rt0
   ·refine rc0 zAK ?_
    exact zC rt0
   ·refine rc0 zAK ?_
    exact zC rt0
 ·have h60i : (60 : Int) < (N : Int):=by omega
  refine rg1 (an @htl @h60i) ?_
  refine cT0 ?_
  refine rg0 ?_
  exact zC rt0
end Go.Proofs.YtgelfgpcnaeecaaGreatDoor.M
