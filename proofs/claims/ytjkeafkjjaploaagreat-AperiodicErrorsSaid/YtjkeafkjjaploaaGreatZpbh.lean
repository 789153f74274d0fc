/-
  Walks in my logic: the reference's comparisons of rows, words, bools and monoids; Shape, Automaton, Validate (layer 21).
-/
import Derived.Test.YtjkeafkjjaploaaGreatZpav
import Derived.Test.YtjkeafkjjaploaaGreatZpad
import Derived.Test.YtjkeafkjjaploaaGreatZpat
import Derived.Test.YtjkeafkjjaploaaGreatZpau
import Derived.Test.YtjkeafkjjaploaaGreatZpai
namespace Go.Proofs.YtjkeafkjjaploaaGreat.M
open Go.RowKit
set_option linter.unusedVariables false
set_option linter.unusedSimpArgs false
set_option maxRecDepth 100000
set_option maxHeartbeats 32000000

theorem zKT (xs ys : List (List Nat)) (hx : zHo xs) (hy : zHo ys) (hl : xs.length <= 100000) (hl2 : ys.length <= 100000) : FnA Tryz.prog 78 [.t 0 (.sl 1 (wsT xs)),.t 0 (.sl 1 (wsT ys))] (.t 2 (.bool (decide (xs = ys)))):=by
 have hxl : (wsT xs).length = xs.length:=by simp [wsT]
 have hyl : (wsT ys).length = ys.length:=by simp [wsT]
 refine fI 26 #[.tmp 4] Tryz.func78 rfl ?_
 refine rg0 ?_
 refine zD ?_
 by_cases hlen : xs.length = ys.length
 ·refine rg1 (an @hlen (an @hxl @hyl)) ?_
  refine cS0 ?_
  refine zD ?_
  refine rg1 @hxl ?_
  refine zG ?_
  refine awp_loop (fun k : Nat=>mkS [(0,.t 0 (.sl 1 (wsT xs))),(1,.t 0 (.sl 1 (wsT ys))),(12,.t 2 (.int .i64 xs.length)),(13,.t 2 (.int .i64 k))] [] 0 26 [.any,.any]) (fun k=>k <= xs.length /\ ∀ j (h1 : j < xs.length) (h2 : j < ys.length),j < k -> xs[j] = ys[j]) (fun k=>xs.length - k) ?_ ?_
  ·refine ⟨0,⟨by omega,fun j h1 h2 hj=>by omega⟩,?_⟩
   exact kw0 []
  rintro k ⟨hk,hsame⟩
  refine rg0 ?_
  refine zD ?_
  by_cases hlt : k < xs.length
  ·have hlt2 : k < ys.length:=by omega
   have hxk : ∀ h,(wsT xs)[k]'h = .str (zAF xs[k]):=fun h=>by simp [wsT]
   have hyk : ∀ h,(wsT ys)[k]'h = .str (zAF ys[k]):=fun h=>by simp [wsT]
   refine cK1 @hlt ?_
   refine zD ?_
   refine zG ?_
   refine rg1 (an @hxk @hxl) ?_
   by_cases e : xs[k] = ys[k]
   ·have e' : (zAF xs[k]).toList = (zAF ys[k]).toList:=by rw [e]
    refine rd1 (an @hxk (an @hyk (an @hxl (an @hyl (an @hlt (an @hlt2 (an @e' @lvT.eq_1))))))) ?_
    refine cY0 ?_
    show awp _ _ _ _
    refine rr0 ?_
    refine ⟨k + 1,⟨by omega,fun j h1 h2 hj=>?_⟩,by omega,?_⟩
    ·by_cases c : j = k
     ·subst c; exact e
     ·exact hsame j h1 h2 (by omega)
    exact kw0 []
   ·have hne : decide (xs = ys) = false:=by
     simp only [decide_eq_false_iff_not]
     intro c
     subst c
     exact e rfl
    have hsn2 : ¬ (zAF xs[k]).toList = (zAF ys[k]).toList:=fun c=>e (zIH (hx _ (by simp)) (hy _ (by simp)) c)
    refine rd1 (an @hxk (an @hyk (an @hxl (an @hyl (an @hlt (an @hlt2 (an @hsn2 @lvT.eq_1))))))) ?_
    refine cT0 ?_
    refine rg0 ?_
    exact zI (rt1 @hne)
  ·have heq : decide (xs = ys) = true:=by
    simp only [decide_eq_true_eq]
    exact List.ext_getElem hlen fun j h1 h2=>hsame j h1 h2 (by omega)
   refine cF1 @hlt ?_
   refine zM ?_
   show awp _ _ _ _
   refine rg0 ?_
   exact zI (rt1 @heq)
 ·have hne : decide (xs = ys) = false:=by
   simp only [decide_eq_false_iff_not]
   intro c
   subst c
   exact hlen rfl
  have hli : ¬ (xs.length : Int) = ys.length:=by omega
  have hli2 : ((xs.length : Int) == ys.length) = false:=by simpa using hli
  refine rg1 (an @hli2 (an @hxl @hyl)) ?_
  refine cT0 ?_
  refine rg0 ?_
  exact zI (rt1 @hne)
theorem zF6 (xs ys : List Bool) (hl : xs.length <= 100000) (hl2 : ys.length <= 100000) : FnA Tryz.prog 80 [.t 0 (zH xs),.t 0 (zH ys)] (.t 2 (.bool (decide (xs = ys)))):=by
 refine fI 26 #[.tmp 4] Tryz.func80 rfl ?_
 refine rg1 @zH.eq_1 ?_
 refine zD ?_
 by_cases hlen : xs.length = ys.length
 ·refine rg1 (an @hlen @zH.eq_1) ?_
  refine cS0 ?_
  refine zD ?_
  refine rg1 @zH.eq_1 ?_
  refine zG ?_
  refine awp_loop (fun k : Nat=>mkS [(0,.t 0 (zH xs)),(1,.t 0 (zH ys)),(12,.t 2 (.int .i64 xs.length)),(13,.t 2 (.int .i64 k))] [] 0 26 [.any,.any]) (fun k=>k <= xs.length /\ ∀ j (h1 : j < xs.length) (h2 : j < ys.length),j < k -> xs[j] = ys[j]) (fun k=>xs.length - k) ?_ ?_
  ·refine ⟨0,⟨by omega,fun j h1 h2 hj=>by omega⟩,?_⟩
   exact kw1 [] @zH.eq_1
  rintro k ⟨hk,hsame⟩
  refine rg0 ?_
  refine zD ?_
  by_cases hlt : k < xs.length
  ·have hlt2 : k < ys.length:=by omega
   refine cK1 @hlt ?_
   refine zD ?_
   refine zG ?_
   refine rg0 ?_
   by_cases e : xs[k] = ys[k]
   ·refine rd1 (an @hlt (an @hlt2 (an @e @zH.eq_1))) ?_
    refine cY0 ?_
    show awp _ _ _ _
    refine rr0 ?_
    refine ⟨k + 1,⟨by omega,fun j h1 h2 hj=>?_⟩,by omega,?_⟩
    ·by_cases c : j = k
     ·subst c; exact e
     ·exact hsame j h1 h2 (by omega)
    exact kw1 [] @zH.eq_1
   ·have hne : decide (xs = ys) = false:=by
     simp only [decide_eq_false_iff_not]
     intro c
     subst c
     exact e rfl
    have e2 : (xs[k] == ys[k]) = false:=by simpa using e
    refine rd1 (an @hlt (an @hlt2 (an @e2 @zH.eq_1))) ?_
    refine cT0 ?_
    refine rg0 ?_
    exact zI (rt1 @hne)
  ·have heq : decide (xs = ys) = true:=by
    simp only [decide_eq_true_eq]
    exact List.ext_getElem hlen fun j h1 h2=>hsame j h1 h2 (by omega)
   refine cF1 @hlt ?_
   refine zM ?_
   show awp _ _ _ _
   refine rg0 ?_
   exact zI (rt1 @heq)
 ·have hne : decide (xs = ys) = false:=by
   simp only [decide_eq_false_iff_not]
   intro c
   subst c
   exact hlen rfl
  have hli : ¬ (xs.length : Int) = ys.length:=by omega
  have hli2 : ((xs.length : Int) == ys.length) = false:=by simpa using hli
  refine rg1 (an @hli2 @zH.eq_1) ?_
  refine cT0 ?_
  refine rg0 ?_
  exact zI (rt1 @hne)
theorem zLR (xs ys : List (List Int)) (hx : ∀ l ∈ xs,l.length <= 1000000) (hl : xs.length <= 100000) (hl2 : ys.length <= 100000) : FnA Tryz.prog 77 [.t 0 (rows xs),.t 0 (rows ys)] (.t 2 (.bool (decide (xs = ys)))):=by
 refine fI 27 #[.tmp 4] Tryz.func77 rfl ?_
 refine rg0 ?_
 refine zD ?_
 by_cases hlen : xs.length = ys.length
 ·refine rg1 @hlen ?_
  refine cS0 ?_
  refine zD ?_
  refine rg0 ?_
  refine zG ?_
  refine awp_loop (fun k : Nat=>mkS [(0,.t 0 (rows xs)),(1,.t 0 (rows ys)),(12,.t 2 (.int .i64 xs.length)),(13,.t 2 (.int .i64 k))] [] 0 27 [.any,.any]) (fun k=>k <= xs.length /\ ∀ j (h1 : j < xs.length) (h2 : j < ys.length),j < k -> xs[j] = ys[j]) (fun k=>xs.length - k) ?_ ?_
  ·refine ⟨0,⟨by omega,fun j h1 h2 hj=>by omega⟩,?_⟩
   exact kw1 [] @rows.eq_1
  rintro k ⟨hk,hsame⟩
  refine rg0 ?_
  refine zD ?_
  by_cases hlt : k < xs.length
  ·have hlt2 : k < ys.length:=by omega
   have hS:=zFC xs[k] ys[k] (hx _ (by simp))
   refine cK1 @hlt ?_
   refine zD ?_
   refine zG ?_
   refine rg0 ?_
   by_cases e : xs[k] = ys[k]
   ·rw [decide_eq_true e] at hS
    refine rq1 hS (an @hlt @hlt2) ?_
    refine cY0 ?_
    show awp _ _ _ _
    refine rr0 ?_
    refine ⟨k + 1,⟨by omega,fun j h1 h2 hj=>?_⟩,by omega,?_⟩
    ·by_cases c : j = k
     ·subst c; exact e
     ·exact hsame j h1 h2 (by omega)
    exact kw1 [] @rows.eq_1
   ·have hne : decide (xs = ys) = false:=by
     simp only [decide_eq_false_iff_not]
     intro c
     subst c
     exact e rfl
    rw [decide_eq_false e] at hS
    refine rq1 hS (an @hlt @hlt2) ?_
    refine cT0 ?_
    refine rg0 ?_
    exact zI (rt1 @hne)
  ·have heq : decide (xs = ys) = true:=by
    simp only [decide_eq_true_eq]
    exact List.ext_getElem hlen fun j h1 h2=>hsame j h1 h2 (by omega)
   refine cF1 @hlt ?_
   refine zM ?_
   show awp _ _ _ _
   refine rg0 ?_
   exact zI (rt1 @heq)
 ·have hne : decide (xs = ys) = false:=by
   simp only [decide_eq_false_iff_not]
   intro c
   subst c
   exact hlen rfl
  have hli : ¬ (xs.length : Int) = ys.length:=by omega
  have hli2 : ((xs.length : Int) == ys.length) = false:=by simpa using hli
  refine rg1 @hli2 ?_
  refine cT0 ?_
  refine rg0 ?_
  exact zI (rt1 @hne)
theorem zJT {L N N' : Nat} {tb tb' : List (List Int)} {ws ws' : List (List Nat)} {im im' : List Int} {ac ac' pl pl' : List Bool} (h : zCy L N tb ws im ac pl) (h' : zCy L N' tb' ws' im' ac' pl') (hw : zHo ws) (hw' : zHo ws') :
  FnA Tryz.prog 38 [syV 0 L tb' ws' im' ac' pl',syV 0 L tb ws im ac pl] (.t 2 (.bool (decide (tb' = tb /\ ws' = ws /\ im' = im /\ ac' = ac /\ pl' = pl)))):=by
 have hn:=h.n2
 have hn':=h'.n2
 have hL:=h.l2
 have q1:=zLR tb' tb (fun r hr=>by have:=(h'.tr r hr).1; omega) (by have:=h'.tl; omega) (by have:=h.tl; omega)
 have q2:=zKT ws' ws hw' hw (by have:=h'.wl; omega) (by have:=h.wl; omega)
 have q3:=zFC im' im (by have:=h'.il; omega)
 have q4:=zF6 ac' ac (by have:=h'.al; omega) (by have:=h.al; omega)
 have q5:=zF6 pl' pl (by have:=h'.pll; omega) (by have:=h.pll; omega)
 refine fI 45 #[.tmp 4] Tryz.func38 rfl ?_
 refine rg1 (an @syV.eq_1 @zH.eq_1) ?_
 by_cases e1 : tb' = tb
 case neg =>
  rw [decide_eq_false e1] at q1
  refine rc0 q1 ?_
  exact zI (rt1 (an @syV.eq_1 @e1))
 rw [decide_eq_true e1] at q1
 by_cases e2 : ws' = ws
 case neg =>
  rw [decide_eq_false e2] at q2
  refine zQ fun K hK=>?_
  simp (maxSteps:=2000000) (disch:=omega) [ints,rows,scal,zT,wr8]
  (repeat' apply And.intro)
  all_goals (try omega)
  refine zK (caps:=[]) (q1) [] [] 2 (by simp [scal,rows,ints]) rfl rfl rfl (by kernel_rfl) (by simp) ?_ trivial trivial rfl trivial trivial (by simp) ?_
  ·simp [scal,rows,ints]
  simp (maxSteps:=2000000) (disch:=omega) [ints,rows,scal,zT,wr8]
  (repeat' apply And.intro)
  all_goals (try omega)
  refine zK (caps:=[]) (q2) [] [] 2 (by simp [scal,rows,ints]) rfl rfl rfl (by kernel_rfl) (by simp) ?_ trivial trivial rfl trivial trivial (by simp) ?_
  ·simp [scal,rows,ints]
  simp (maxSteps:=2000000) (disch:=omega) [ints,rows,scal,zT,wr8]
  (repeat' first | apply hK | apply And.intro) <;> try first | omega | rfl | (simp <;> omega)
  exact zI (rt1 (an @syV.eq_1 @e2))
 rw [decide_eq_true e2] at q2
 by_cases e3 : im' = im
 case neg =>
  rw [decide_eq_false e3] at q3
  refine zQ fun K hK=>?_
  simp (maxSteps:=2000000) (disch:=omega) [ints,rows,scal,zT,wr8]
  (repeat' apply And.intro)
  all_goals (try omega)
  refine zK (caps:=[]) (q1) [] [] 2 (by simp [scal,rows,ints]) rfl rfl rfl (by kernel_rfl) (by simp) ?_ trivial trivial rfl trivial trivial (by simp) ?_
  ·simp [scal,rows,ints]
  simp (maxSteps:=2000000) (disch:=omega) [ints,rows,scal,zT,wr8]
  (repeat' apply And.intro)
  all_goals (try omega)
  refine zK (caps:=[]) (q2) [] [] 2 (by simp [scal,rows,ints]) rfl rfl rfl (by kernel_rfl) (by simp) ?_ trivial trivial rfl trivial trivial (by simp) ?_
  ·simp [scal,rows,ints]
  simp (maxSteps:=2000000) (disch:=omega) [ints,rows,scal,zT,wr8]
  (repeat' apply And.intro)
  all_goals (try omega)
  refine zK (caps:=[]) (q3) [] [] 2 (by simp [scal,rows,ints]) rfl rfl rfl (by kernel_rfl) (by simp) ?_ trivial trivial rfl trivial trivial (by simp) ?_
  ·simp [scal,rows,ints]
  simp (maxSteps:=2000000) (disch:=omega) [ints,rows,scal,zT,wr8]
  (repeat' first | apply hK | apply And.intro) <;> try first | omega | rfl | (simp <;> omega)
  exact zI (rt1 (an @syV.eq_1 @e3))
 rw [decide_eq_true e3] at q3
 by_cases e4 : ac' = ac
 case neg =>
  rw [decide_eq_false e4] at q4
  refine zQ fun K hK=>?_
  simp (maxSteps:=2000000) (disch:=omega) [ints,rows,scal,zT,wr8]
  (repeat' apply And.intro)
  all_goals (try omega)
  refine zK (caps:=[]) (q1) [] [] 2 (by simp [scal,rows,ints]) rfl rfl rfl (by kernel_rfl) (by simp) ?_ trivial trivial rfl trivial trivial (by simp) ?_
  ·simp [scal,rows,ints]
  simp (maxSteps:=2000000) (disch:=omega) [ints,rows,scal,zT,wr8]
  (repeat' apply And.intro)
  all_goals (try omega)
  refine zK (caps:=[]) (q2) [] [] 2 (by simp [scal,rows,ints]) rfl rfl rfl (by kernel_rfl) (by simp) ?_ trivial trivial rfl trivial trivial (by simp) ?_
  ·simp [scal,rows,ints]
  simp (maxSteps:=2000000) (disch:=omega) [ints,rows,scal,zT,wr8]
  (repeat' apply And.intro)
  all_goals (try omega)
  refine zK (caps:=[]) (q3) [] [] 2 (by simp [scal,rows,ints]) rfl rfl rfl (by kernel_rfl) (by simp) ?_ trivial trivial rfl trivial trivial (by simp) ?_
  ·simp [scal,rows,ints]
  simp (maxSteps:=2000000) (disch:=omega) [ints,rows,scal,zT,wr8]
  (repeat' apply And.intro)
  all_goals (try omega)
  refine zK (caps:=[]) (q4) [] [] 2 (by simp [scal,rows,ints,zH]) rfl rfl rfl (by kernel_rfl) (by simp) ?_ trivial trivial rfl trivial trivial (by simp) ?_
  ·simp [scal,rows,ints,zH]
  simp (maxSteps:=2000000) (disch:=omega) [ints,rows,scal,zT,wr8]
  (repeat' first | apply hK | apply And.intro) <;> try first | omega | rfl | (simp <;> omega)
  exact zI (rt1 (an @syV.eq_1 @e4))
 rw [decide_eq_true e4] at q4
 by_cases e5 : pl' = pl
 case neg =>
  rw [decide_eq_false e5] at q5
  refine zQ fun K hK=>?_
  simp (maxSteps:=2000000) (disch:=omega) [ints,rows,scal,zT,wr8]
  (repeat' apply And.intro)
  all_goals (try omega)
  refine zK (caps:=[]) (q1) [] [] 2 (by simp [scal,rows,ints]) rfl rfl rfl (by kernel_rfl) (by simp) ?_ trivial trivial rfl trivial trivial (by simp) ?_
  ·simp [scal,rows,ints]
  simp (maxSteps:=2000000) (disch:=omega) [ints,rows,scal,zT,wr8]
  (repeat' apply And.intro)
  all_goals (try omega)
  refine zK (caps:=[]) (q2) [] [] 2 (by simp [scal,rows,ints]) rfl rfl rfl (by kernel_rfl) (by simp) ?_ trivial trivial rfl trivial trivial (by simp) ?_
  ·simp [scal,rows,ints]
  simp (maxSteps:=2000000) (disch:=omega) [ints,rows,scal,zT,wr8]
  (repeat' apply And.intro)
  all_goals (try omega)
  refine zK (caps:=[]) (q3) [] [] 2 (by simp [scal,rows,ints]) rfl rfl rfl (by kernel_rfl) (by simp) ?_ trivial trivial rfl trivial trivial (by simp) ?_
  ·simp [scal,rows,ints]
  simp (maxSteps:=2000000) (disch:=omega) [ints,rows,scal,zT,wr8]
  (repeat' apply And.intro)
  all_goals (try omega)
  refine zK (caps:=[]) (q4) [] [] 2 (by simp [scal,rows,ints,zH]) rfl rfl rfl (by kernel_rfl) (by simp) ?_ trivial trivial rfl trivial trivial (by simp) ?_
  ·simp [scal,rows,ints,zH]
  simp (maxSteps:=2000000) (disch:=omega) [ints,rows,scal,zT,wr8]
  (repeat' apply And.intro)
  all_goals (try omega)
  refine zK (caps:=[]) (q5) [] [] 2 (by simp [scal,rows,ints,zH]) rfl rfl rfl (by kernel_rfl) (by simp) ?_ trivial trivial rfl trivial trivial (by simp) ?_
  ·simp [scal,rows,ints,zH]
  simp (maxSteps:=2000000) (disch:=omega) [ints,rows,scal,zT,wr8]
  (repeat' first | apply hK | apply And.intro) <;> try first | omega | rfl | (simp <;> omega)
  exact zI (rt1 (an @syV.eq_1 @e5))
 rw [decide_eq_true e5] at q5
 refine zQ fun K hK=>?_
 simp (maxSteps:=2000000) (disch:=omega) [ints,rows,scal,zT,wr8]
 (repeat' apply And.intro)
 all_goals (try omega)
 refine zK (caps:=[]) (q1) [] [] 2 (by simp [scal,rows,ints]) rfl rfl rfl (by kernel_rfl) (by simp) ?_ trivial trivial rfl trivial trivial (by simp) ?_
 ·simp [scal,rows,ints]
 simp (maxSteps:=2000000) (disch:=omega) [ints,rows,scal,zT,wr8]
 (repeat' apply And.intro)
 all_goals (try omega)
 refine zK (caps:=[]) (q2) [] [] 2 (by simp [scal,rows,ints]) rfl rfl rfl (by kernel_rfl) (by simp) ?_ trivial trivial rfl trivial trivial (by simp) ?_
 ·simp [scal,rows,ints]
 simp (maxSteps:=2000000) (disch:=omega) [ints,rows,scal,zT,wr8]
 (repeat' apply And.intro)
 all_goals (try omega)
 refine zK (caps:=[]) (q3) [] [] 2 (by simp [scal,rows,ints]) rfl rfl rfl (by kernel_rfl) (by simp) ?_ trivial trivial rfl trivial trivial (by simp) ?_
 ·simp [scal,rows,ints]
 simp (maxSteps:=2000000) (disch:=omega) [ints,rows,scal,zT,wr8]
 (repeat' apply And.intro)
 all_goals (try omega)
 refine zK (caps:=[]) (q4) [] [] 2 (by simp [scal,rows,ints,zH]) rfl rfl rfl (by kernel_rfl) (by simp) ?_ trivial trivial rfl trivial trivial (by simp) ?_
 ·simp [scal,rows,ints,zH]
 simp (maxSteps:=2000000) (disch:=omega) [ints,rows,scal,zT,wr8]
 (repeat' apply And.intro)
 all_goals (try omega)
 refine zK (caps:=[]) (q5) [] [] 2 (by simp [scal,rows,ints,zH]) rfl rfl rfl (by kernel_rfl) (by simp) ?_ trivial trivial rfl trivial trivial (by simp) ?_
 ·simp [scal,rows,ints,zH]
 simp (maxSteps:=2000000) (disch:=omega) [ints,rows,scal,zT,wr8]
 (repeat' first | apply hK | apply And.intro) <;> try first | omega | rfl | (simp <;> omega)
 exact zI (rt1 (an @syV.eq_1 (an @e1 (an @e2 (an @e3 (an @e4 @e5))))))
theorem zED {L N : Nat} {tb : List (List Int)} {ws : List (List Nat)} {im : List Int} {ac pl : List Bool} (h : zCy L N tb ws im ac pl) : FnA Tryz.prog 34 [.t 0 (rows tb)] (.t 2 (.int .i64 0)):=by
 have hn1:=h.n1
 have hn2:=h.n2
 have htl:=h.tl
 have d1 : ¬ 400 < (N : Int):=by omega
 have d2 : ((N : Int) == 0) = false:=by
  have : ¬ (N : Int) = 0:=by omega
  simpa using this
 have d3 : ¬ (N : Int) = 0:=by omega
 refine fI 40 #[.tmp 2] Tryz.func34 rfl ?_
 refine rg0 ?_
 refine zD ?_
 refine rg1 (an @htl @d1) ?_
 refine cS0 ?_
 refine zD ?_
 refine rg1 (an @htl (an @d2 @d3)) ?_
 refine cS0 ?_
 refine zD ?_
 refine rg1 @htl ?_
 refine zG ?_
 refine awp_loop (fun k : Nat=>mkS [(0,.t 0 (rows tb)),(13,.t 0 (rows tb)),(14,.t 2 (.int .i64 N)),(15,.t 2 (.int .i64 k))] [] 0 40 [.any]) (fun k=>k <= N) (fun k=>N - k) ?_ ?_
 ·refine ⟨0,by omega,?_⟩
  exact kw1 [] @rows.eq_1
 intro k hk
 refine rg0 ?_
 refine zD ?_
 by_cases hlt : k < N
 ·have hkt : k < tb.length:=by omega
  obtain ⟨hr1,hr2⟩:=h.tr tb[k] (by simp)
  refine cK1 @hlt ?_
  refine zD ?_
  refine zG ?_
  refine rg1 @hkt ?_
  refine zD ?_
  refine rg1 (an @htl @hr1) ?_
  refine cS0 ?_
  refine rg1 @hr1 ?_
  refine zG ?_
  refine awp_loop (fun y : Nat=>mkS [(0,.t 0 (rows tb)),(13,.t 0 (rows tb)),(14,.t 2 (.int .i64 N)),(15,.t 2 (.int .i64 k)),(24,.t 0 (ints tb[k])),(25,.t 2 (.int .i64 N)),(26,.t 2 (.int .i64 y))] [] 0 40 [.any]) (fun y=>y <= N) (fun y=>N - y) ?_ ?_
  ·refine ⟨0,by omega,?_⟩
   exact kw1 [] @rows.eq_1
  intro y hy
  refine rg0 ?_
  refine zD ?_
  by_cases hyN : y < N
  ·have hyr : y < tb[k].length:=by omega
   obtain ⟨v1,v2⟩:=hr2 tb[k][y] (by simp)
   have e1 : ¬ tb[k][y] < 0:=by omega
   have e2 : ¬ (N : Int) <= tb[k][y]:=by omega
   refine cK1 @hyN ?_
   refine zD ?_
   refine zG ?_
   refine rg1 @hyr ?_
   refine rg1 (an @htl (an @e1 @e2)) ?_
   refine cY0 ?_
   show awp _ _ _ _
   refine rr0 ?_
   refine ⟨y + 1,by omega,by omega,?_⟩
   exact kw1 [] @rows.eq_1
  ·refine cF1 @hyN ?_
   refine zM ?_
   show awp _ _ _ _
   refine rr0 ?_
   refine ⟨k + 1,by omega,by omega,?_⟩
   exact kw1 [] @rows.eq_1
 ·refine cF1 @hlt ?_
  refine zM ?_
  show awp _ _ _ _
  refine rg0 ?_
  exact zI rt0
theorem zCs {L N : Nat} {tb : List (List Int)} {ws : List (List Nat)} {im : List Int} {ac pl : List Bool} (h : zCy L N tb ws im ac pl) : FnA Tryz.prog 37 [syV 0 L tb ws im ac pl] (dfT 2 L 0 ac (tab N (auR tb im))):=by
 have hn2:=h.n2
 have hl2:=h.l2
 have htl:=h.tl
 have hil:=h.il
 have hal:=h.al
 refine fI 48 #[.cell 2 56] Tryz.func37 rfl ?_
 refine rg1 (an @syV.eq_1 @zH.eq_1) ?_
 refine rd1 @zH.eq_1 ?_
 refine zD ?_
 refine rg1 @htl ?_
 refine zG ?_
 refine awp_loop (fun x : Nat=>mkS [(1,.ptr 0 0 6),(2,.ptr 1 0 4),(3,.ptr 2 0 4),(17,.t 2 (.int .i64 N)),(18,.t 2 (.int .i64 x))]
   [(0,.box 27 [.t 2 (.int .i64 L),.t 0 (rows tb),.any,.t 0 (ints im),.any,.any]),(1,.box 56 [.any,.any,.any,.any]),(2,.box 56 [.t 2 (.int .i64 L),.t 2 (.int .i64 0),.t 2 (zH ac),.own 3 x]),(3,.row 22 1 2 ((tab x (auR tb im)).map ints))] 4 48 [.any])
  (fun x=>x <= N) (fun x=>N - x) ?_ ?_
 ·refine ⟨0,by omega,?_⟩
  exact kw1 [(0,some 0),(1,some 1000000),(2,some 9000000),(3,none)] (an @rows.eq_1 @zH.eq_1)
 intro x hx
 refine rg0 ?_
 refine zD ?_
 by_cases hxn : x < N
 ·have hxt : x < tb.length:=by omega
  obtain ⟨hr1,hr2⟩:=h.tr tb[x] (by simp)
  refine cK1 @hxn ?_
  refine zD ?_
  refine zG ?_
  refine rg0 ?_
  refine rg0 ?_
  refine zD ?_
  refine rg1 @hil ?_
  refine zG ?_
  refine awp_loop (fun a : Nat=>mkS [(1,.ptr 0 0 6),(2,.ptr 1 0 4),(3,.ptr 2 0 4),(4,.t 2 (.int .i64 x)),(5,.own 4 a),(17,.t 2 (.int .i64 N)),(18,.t 2 (.int .i64 x)),(22,.t 0 (ints im)),(23,.t 2 (.int .i64 L)),(24,.t 2 (.int .i64 a))]
    [(0,.box 27 [.t 2 (.int .i64 L),.t 0 (rows tb),.any,.t 0 (ints im),.any,.any]),(1,.box 56 [.any,.any,.any,.any]),(2,.box 56 [.t 2 (.int .i64 L),.t 2 (.int .i64 0),.t 2 (zH ac),.own 3 x]),(3,.row 22 1 2 ((tab x (auR tb im)).map ints)),(4,.row 3 1 2 (((auR tb im x).take a).map (.int .i64)))] 5 48 [.any])
   (fun a=>a <= L) (fun a=>L - a) ?_ ?_
  ·refine ⟨0,by omega,?_⟩
   exact kw1 [(0,some 0),(1,some 1),(2,some 2),(3,some 3),(4,none)] (an @rows.eq_1 @zH.eq_1)
  intro a ha
  refine rg0 ?_
  refine zD ?_
  by_cases haL : a < L
  ·have hai : a < im.length:=by omega
   obtain ⟨v1,v2⟩:=h.ir im[a] (by simp)
   obtain ⟨k,hk⟩ : ∃ k : Nat,im[a] = (k : Int):=⟨im[a].toNat,by omega⟩
   have hkr : k < tb[x].length:=by omega
   have hav : (auR tb im x)[a]'(by simpa using hai) = tb[x][k]:=by
    unfold auR
    rw [List.getElem_map,hk,List.getD_eq_getElem?_getD (l:=tb),List.getElem?_eq_getElem hxt,Option.getD_some,Int.toNat_natCast,List.getD_eq_getElem?_getD,List.getElem?_eq_getElem hkr,Option.getD_some]
   refine cK1 @haL ?_
   refine zD ?_
   refine zG ?_
   refine rg1 (an @hai @hk) ?_
   refine rr1 (an @hxt @hkr) ?_
   show awp _ _ _ _
   refine rr0 ?_
   refine ⟨a + 1,by omega,by omega,?_⟩
   refine zU [(0,some 0),(1,some 1),(2,some 2),(3,some 3),(4,some 4)] rfl ?_ ?_ ?_ ?_
   all_goals try simp [ints,rows,zH]
   rw [List.take_succ_eq_append_getElem (by simpa using hai),List.getElem_map,hav]
  ·obtain rfl : a = L:=by omega
   refine cF0 ?_
   refine zM ?_
   show awp _ _ _ _
   refine rr0 ?_
   show awp _ _ _ _
   refine rr0 ?_
   refine ⟨x + 1,by omega,by omega,?_⟩
   refine zU [(0,some 0),(1,some 1),(2,some 2),(3,some 3)] rfl ?_ ?_ ?_ ?_
   all_goals try simp [ints,rows,zH,zAy]
   rw [List.take_of_length_le (by simp; omega)]
 ·obtain rfl : x = N:=by omega
  refine cF0 ?_
  refine zM ?_
  show awp _ _ _ _
  refine rg0 ?_
  refine zI ?_
  refine ⟨⟨.inr rfl,_,[],(by simp; rfl),trivial,trivial,by simp [dfT,rows,zH,syV],?_⟩,by simp [dfT,rows,zH,syV]⟩
  simp [ints,rows,dfT,rows,zH,syV]
theorem zKL {L N : Nat} {tb : List (List Int)} {ws : List (List Nat)} {im : List Int} {ac pl : List Bool} (h : zCy L N tb ws im ac pl) (hof : FnA Tryz.prog 23 [dfT 0 L 0 ac (tab N (auR tb im))] (.tup [zCZ,.t 2 (.int .i64 3)])) : FnA Tryz.prog 12 [syV 0 L tb ws im ac pl] (.t 2 (.int .i64 8)):=by
 have hsh:=zED h
 have hau:=zCs h
 have hml:=zBC (L : Int)
 have hl1:=h.l1
 have hl2:=h.l2
 rw [decide_eq_true (by omega)] at hml
 have htl:=h.tl
 have hil:=h.il
 have hal:=h.al
 have hwl:=h.wl
 have hpl:=h.pll
 have hn2:=h.n2
 have hin:=zNi tb im (by omega) (by omega)
 rw [zLr fun i hi=>by have:=h.ir im[i] (by simp); omega] at hin
 generalize tab N (auR tb im) = nx at hof hau
 refine fI 70 #[.tmp 2] Tryz.func12 rfl ?_
 refine rg1 (an @syV.eq_1 @zH.eq_1) ?_
 refine rg1 @htl ?_
 refine zD ?_
 refine zQ fun K hK=>?_
 simp (maxSteps:=2000000) (disch:=omega) [ints,rows,scal,zT,wr8]
 (repeat' apply And.intro)
 all_goals (try omega)
 refine zK (caps:=[]) (hsh) [] [] 2 rfl rfl rfl rfl (by kernel_rfl) (by simp) ?_ trivial trivial rfl trivial trivial (by simp) ?_
 ·simp [scal,rows,ints]
 simp (maxSteps:=2000000) (disch:=omega) [ints,rows,scal,zT,wr8]
 (repeat' apply And.intro)
 all_goals (try omega)
 refine zK (caps:=[]) (hml) [] [] 2 (by simp [scal,rows,ints]) rfl rfl rfl (by kernel_rfl) (by simp) ?_ trivial trivial rfl trivial trivial (by simp) ?_
 ·simp [scal,rows,ints]
 simp (maxSteps:=2000000) (disch:=omega) [ints,rows,scal,zT,wr8,hil]
 (repeat' apply And.intro)
 all_goals (try omega)
 refine zK (caps:=[]) (hin) [] [] 2 (by simp [scal,rows,ints]) rfl rfl rfl (by kernel_rfl) (by simp) ?_ trivial trivial rfl trivial trivial (by simp) ?_
 ·simp [scal,rows,ints]
 simp (maxSteps:=2000000) (disch:=omega) [ints,rows,scal,zT,wr8,hal,hwl,hpl,zH]
 (repeat' first | apply hK | apply And.intro) <;> try first | omega | rfl | (simp <;> omega)
 refine cS0 ?_
 refine zQ fun K hK=>?_
 simp (maxSteps:=2000000) (disch:=omega) [ints,rows,scal,zT,wr8]
 (repeat' apply And.intro)
 all_goals (try omega)
 refine zK (caps:=[]) (hau) [] [] 2 rfl rfl rfl rfl (by kernel_rfl) (by simp) ?_ trivial trivial rfl trivial trivial (by simp) ?_
 ·simp [scal,rows,ints,syV,zH]
 simp (maxSteps:=2000000) (disch:=omega) [ints,rows,scal,zT,wr8,dfT]
 (repeat' apply And.intro)
 all_goals (try omega)
 refine zK (caps:=[]) (hof) [] [] 2 rfl rfl rfl rfl (by kernel_rfl) (by simp) ?_ trivial trivial rfl trivial trivial (by simp) ?_
 ·simp [scal,rows,ints,dfT]
 simp (maxSteps:=2000000) (disch:=omega) [ints,rows,scal,zT,wr8,zCZ]
 and_intros <;> try first | apply hK | omega | rfl | simp <;> omega
 refine zD ?_
 refine rg0 ?_
 refine cT0 ?_
 refine rg0 ?_
 exact zI (rt1 @syV.eq_1)
theorem zIz {L N : Nat} {tb : List (List Int)} {ws : List (List Nat)} {im : List Int} {ac pl : List Bool} (h : zCy L N tb ws im ac pl) {N' : Nat} {tb' : List (List Int)} {ws' : List (List Nat)} {im' : List Int} {ac' pl' : List Bool} (hS' : zCy L N' tb' ws' im' ac' pl') (hw : zHo ws) (hw' : zHo ws') (hof : FnA Tryz.prog 23 [dfT 0 L 0 ac (tab N (auR tb im))] (.tup [syV 2 L tb' ws' im' ac' pl',.t 2 (.int .i64 0)])) : FnA Tryz.prog 12 [syV 0 L tb ws im ac pl] (.t 2 (.int .i64 (if tb' = tb /\ ws' = ws /\ im' = im /\ ac' = ac /\ pl' = pl then 0 else 8))):=by
 have hsh:=zED h
 have hau:=zCs h
 have hsm:=zJT h hS' hw hw'
 have hml:=zBC (L : Int)
 have hl1:=h.l1
 have hl2:=h.l2
 rw [decide_eq_true (by omega)] at hml
 have htl:=h.tl
 have hil:=h.il
 have hal:=h.al
 have hwl:=h.wl
 have hpl:=h.pll
 have hn2:=h.n2
 have hin:=zNi tb im (by omega) (by omega)
 rw [zLr fun i hi=>by have:=h.ir im[i] (by simp); omega] at hin
 generalize tab N (auR tb im) = nx at hof hau
 refine fI 70 #[.tmp 2] Tryz.func12 rfl ?_
 refine rg1 (an @syV.eq_1 @zH.eq_1) ?_
 refine rg1 @htl ?_
 refine zD ?_
 refine zQ fun K hK=>?_
 simp (maxSteps:=2000000) (disch:=omega) [ints,rows,scal,zT,wr8]
 (repeat' apply And.intro)
 all_goals (try omega)
 refine zK (caps:=[]) (hsh) [] [] 2 rfl rfl rfl rfl (by kernel_rfl) (by simp) ?_ trivial trivial rfl trivial trivial (by simp) ?_
 ·simp [scal,rows,ints]
 simp (maxSteps:=2000000) (disch:=omega) [ints,rows,scal,zT,wr8]
 (repeat' apply And.intro)
 all_goals (try omega)
 refine zK (caps:=[]) (hml) [] [] 2 (by simp [scal,rows,ints]) rfl rfl rfl (by kernel_rfl) (by simp) ?_ trivial trivial rfl trivial trivial (by simp) ?_
 ·simp [scal,rows,ints]
 simp (maxSteps:=2000000) (disch:=omega) [ints,rows,scal,zT,wr8,hil]
 (repeat' apply And.intro)
 all_goals (try omega)
 refine zK (caps:=[]) (hin) [] [] 2 (by simp [scal,rows,ints]) rfl rfl rfl (by kernel_rfl) (by simp) ?_ trivial trivial rfl trivial trivial (by simp) ?_
 ·simp [scal,rows,ints]
 simp (maxSteps:=2000000) (disch:=omega) [ints,rows,scal,zT,wr8,hal,hwl,hpl,zH]
 (repeat' first | apply hK | apply And.intro) <;> try first | omega | rfl | (simp <;> omega)
 refine cS0 ?_
 refine zQ fun K hK=>?_
 simp (maxSteps:=2000000) (disch:=omega) [ints,rows,scal,zT,wr8]
 (repeat' apply And.intro)
 all_goals (try omega)
 refine zK (caps:=[]) (hau) [] [] 2 rfl rfl rfl rfl (by kernel_rfl) (by simp) ?_ trivial trivial rfl trivial trivial (by simp) ?_
 ·simp [scal,rows,ints,syV,zH]
 simp (maxSteps:=2000000) (disch:=omega) [ints,rows,scal,zT,wr8,dfT]
 (repeat' apply And.intro)
 all_goals (try omega)
 refine zK (caps:=[]) (hof) [] [] 2 rfl rfl rfl rfl (by kernel_rfl) (by simp) ?_ trivial trivial rfl trivial trivial (by simp) ?_
 ·simp [scal,rows,ints,dfT]
 simp (maxSteps:=2000000) (disch:=omega) [ints,rows,scal,zT,wr8,syV,zH]
 and_intros <;> try first | apply hK | omega | rfl | simp <;> omega
 refine zD ?_
 by_cases e : tb' = tb /\ ws' = ws /\ im' = im /\ ac' = ac /\ pl' = pl
 ·rw [decide_eq_true e] at hsm
  refine rc1 hsm (an @syV.eq_1 @zH.eq_1) ?_
  refine cS0 ?_
  refine rg0 ?_
  exact zI (rt1 (an @syV.eq_1 @e))
 ·rw [decide_eq_false e] at hsm
  refine rc1 hsm (an @syV.eq_1 @zH.eq_1) ?_
  refine cT0 ?_
  refine rg0 ?_
  exact zI (rt1 (an @syV.eq_1 @e))
theorem zMj {L N L' : Nat} {tb : List (List Int)} {ws : List (List Nat)} {im : List Int} {ac pl : List Bool} (h : zCy L N tb ws im ac pl) (hL' : L' ≠ L) (h1' : 1 <= L') (h2' : L' <= 6) : FnA Tryz.prog 12 [syV 0 L' tb ws im ac pl] (.t 2 (.int .i64 8)):=by
 have hsh:=zED h
 have hml:=zBC (L' : Int)
 rw [decide_eq_true (by omega)] at hml
 have htl:=h.tl
 have hil:=h.il
 have d1 : ((L : Int) == (L' : Int)) = false:=by
  have : ¬ (L : Int) = (L' : Int):=by omega
  simpa using this
 have d2 : ¬ L = L':=fun h=>hL' h.symm
 have d4 : ((L : Int) != (L' : Int)) = true:=by unfold bne; rw [d1]; rfl
 have d3 : ¬ (L : Int) = (L' : Int):=by omega
 refine fI 70 #[.tmp 2] Tryz.func12 rfl ?_
 refine rg1 (an @syV.eq_1 @zH.eq_1) ?_
 refine rg1 @htl ?_
 refine zD ?_
 refine zQ fun K hK=>?_
 simp (maxSteps:=2000000) (disch:=omega) [ints,rows,scal,zT,wr8]
 (repeat' apply And.intro)
 all_goals (try omega)
 refine zK (caps:=[]) (hsh) [] [] 2 rfl rfl rfl rfl (by kernel_rfl) (by simp) ?_ trivial trivial rfl trivial trivial (by simp) ?_
 ·simp [scal,rows,ints]
 simp (maxSteps:=2000000) (disch:=omega) [ints,rows,scal,zT,wr8]
 (repeat' apply And.intro)
 all_goals (try omega)
 refine zK (caps:=[]) (hml) [] [] 2 (by simp [scal,rows,ints]) rfl rfl rfl (by kernel_rfl) (by simp) ?_ trivial trivial rfl trivial trivial (by simp) ?_
 ·simp [scal,rows,ints]
 simp (maxSteps:=2000000) (disch:=omega) [ints,rows,scal,zT,wr8,hil,d1,d2,d3,d4]
 (repeat' first | apply hK | apply And.intro) <;> try first | omega | rfl | (simp <;> omega)
 refine cT0 ?_
 refine rg0 ?_
 exact zI (rt1 @syV.eq_1)
theorem zOm {L N L' : Nat} {tb : List (List Int)} {ws : List (List Nat)} {im : List Int} {ac pl : List Bool} (h : zCy L N tb ws im ac pl) (hL' : L' ≠ L) (h1' : 1 <= L') (h2' : L' <= 6) : FnA Tryz.prog 58 [syV 0 L' tb ws im ac pl] (.t 2 (.bool false)):=by
 have hn1:=h.n1
 have hn2:=h.n2
 have htl:=h.tl
 have hwl:=h.wl
 have hil:=h.il
 have hal:=h.al
 have hpl:=h.pll
 have d1 : ¬ (L' : Int) < 1:=by omega
 have d2 : ¬ 6 < (L' : Int):=by omega
 have d3 : ¬ (N : Int) < 1:=by omega
 have d4 : ¬ 400 < (N : Int):=by omega
 have d5 : ((L : Int) == (L' : Int)) = false:=by
  have : ¬ (L : Int) = (L' : Int):=by omega
  simpa using this
 refine fI 74 #[.tmp 2] Tryz.func58 rfl ?_
 refine rg1 (an @syV.eq_1 @zH.eq_1) ?_
 refine rg1 @htl ?_
 refine zD ?_
 refine rg1 (an @d1 (an @d2 (an @d3 @d4))) ?_
 refine cS0 ?_
 refine zD ?_
 refine rg1 (an @hwl (an @hal (an @hpl (an @hil @d5)))) ?_
 refine cT0 ?_
 refine rg0 ?_
 exact zI (rt1 @syV.eq_1)
theorem zME {L N L' : Nat} {tb : List (List Int)} {ws : List (List Nat)} {im : List Int} {ac pl : List Bool} (h : zCy L N tb ws im ac pl) (hL' : L' ≠ L) (h1' : 1 <= L') (h2' : L' <= 6) : FnA Tryz.prog 27 [syV 0 L' tb ws im ac pl] (.t 2 (.int .i64 8)):=by
 have hsh:=zOm h hL' h1' h2'
 refine fI 74 #[.tmp 2] Tryz.func27 rfl ?_
 refine rg1 (an @syV.eq_1 @zH.eq_1) ?_
 refine zD ?_
 refine rc1 hsh (an @syV.eq_1 @zH.eq_1) ?_
 refine cT0 ?_
 refine rg0 ?_
 exact zI (rt1 @syV.eq_1)
end Go.Proofs.YtjkeafkjjaploaaGreat.M
