/-
  Plain law: values of words in a syntactic monoid, and when it is aperiodic.
  Walks in my logic: Validate (syntactic) of any data whose parts fit together.
  Walks in my logic: Aperiodic of both sides (syntactic, reference of layer 21).
  The drawn monoids of layer 32: their laws, and the walk of monoid.
-/
import Derived.Test.YtjkeafkjjaploaaGreatZpat
import Derived.Test.YtjkeafkjjaploaaGreatZpad
import Derived.Test.YtjkeafkjjaploaaGreatZpas
import Derived.Test.YtjkeafkjjaploaaGreatZpau
import Derived.Test.YtjkeafkjjaploaaGreatZpag
import Derived.Test.YtjkeafkjjaploaaGreatZpaq
namespace Go.Proofs.YtjkeafkjjaploaaGreat.M
open Go.RowKit
set_option linter.unusedVariables false
set_option linter.unusedSimpArgs false
set_option maxRecDepth 100000
set_option maxHeartbeats 32000000

def imN (r0 : List Int) (a : Nat) : Nat:=(r0.getD a 0).toNat
section
variable {L m : Nat} {bs : List Bool} {nx els : List (List Int)} {pre last : List Int} {wds : List (List Nat)} {right : List (List Int)} {r0 : List Int}
theorem SyX.im (h : SyX L m nx els pre last wds right r0) (hg : ∀ g ∈ tab L (lets m nx),TrN m g) {a : Nat} (ha : a < L) : imN r0 a < els.length /\ r0[a]? = some (imN r0 a : Int) /\ Rp L m nx els (imN r0 a) [a]:=by
 obtain ⟨j,j1,j2,j3⟩:=h.img hg ha
 have e : imN r0 a = j:=by
  unfold imN
  rw [List.getD_eq_getElem?_getD,j1,Option.getD_some,Int.toNat_natCast]
 rw [e]
 refine ⟨j2,j1,?_⟩
 unfold Rp
 rw [j3]
 have h1 : act m (tab L (lets m nx)) [a] = zu (idL m) ((tab L (lets m nx)).getD a []):=rfl
 have h2 : (tab L (lets m nx)).getD a [] = lets m nx a:=by rw [List.getD_eq_getElem?_getD,zZ _ ha]; rfl
 rw [h1,h2,zAa (hg _ (List.mem_of_getElem? (zZ _ ha)))]
theorem SyX.vl (h : SyX L m nx els pre last wds right r0) (hg : ∀ g ∈ tab L (lets m nx),TrN m g) (w : List Nat) : (∀ a ∈ w,a < L) -> Rp L m nx els (vlW (ze (zA6 right wds els.length)) (imN r0) w) w:=by
 refine zAu (P:=fun w=>(∀ a ∈ w,a < L) -> Rp L m nx els (vlW (ze (zA6 right wds els.length)) (imN r0) w) w) (fun _=>h.pr.en.one.1) (fun u a ih hw=>?_) w
 have ha : a < L:=hw a (by simp)
 have hu : ∀ b ∈ u,b < L:=fun b hb=>hw b (by simp [hb])
 have : vlW (ze (zA6 right wds els.length)) (imN r0) (u ++ [a]) = ze (zA6 right wds els.length) (vlW (ze (zA6 right wds els.length)) (imN r0) u) (imN r0 a):=by
  unfold vlW
  rw [List.foldl_append]
  rfl
 rw [this]
 exact h.zPw hg hu (fun b hb=>by simp at hb; omega) (ih hu) (h.im hg ha).2.2
theorem SyX.zRw (h : SyX L m nx els pre last wds right r0) (hD : DfL L m 0 bs nx) (hg : ∀ g ∈ tab L (lets m nx),TrN m g) {w : List Nat} (hw : ∀ a ∈ w,a < L) : vlW (ze (zA6 right wds els.length)) (imN r0) w = zk right 0 w :=
 (h.zQV hD hw hw (h.vl hg w hw) (h.value hD hg hw)).2 fun _ _=>rfl
end
def zHo (ws : List (List Nat)) : Prop:=∀ w ∈ ws,∀ x ∈ w,x < 100
theorem zIH {a b : List Nat} (ha : ∀ x ∈ a,x < 100) (hb : ∀ x ∈ b,x < 100) (h : (zAF a).toList = (zAF b).toList) : a = b:=by
 have h1 : (a.map fun x=>UInt8.ofNat (97 + x)) = b.map fun x=>UInt8.ofNat (97 + x):=by
  have e1 : (zAF a).toList = a.map fun x=>UInt8.ofNat (97 + x):=ByteArray.toList_mk _
  have e2 : (zAF b).toList = b.map fun x=>UInt8.ofNat (97 + x):=ByteArray.toList_mk _
  rw [← e1,← e2,h]
 have hl : a.length = b.length:=by simpa using congrArg List.length h1
 refine List.ext_getElem hl fun i g1 g2=>?_
 have e:=congrArg (fun l : List UInt8=>(l[i]?).map UInt8.toNat) h1
 simp only [List.getElem?_map,List.getElem?_eq_getElem g1,List.getElem?_eq_getElem g2,Option.map_some,Option.some.injEq,UInt8.toNat_ofNat'] at e
 have:=ha a[i] (by simp)
 have:=hb b[i] (by simp)
 omega
theorem zIa (xs ys : List (List Nat)) (hx : zHo xs) (hy : zHo ys) (hl : xs.length <= 100000) (hl2 : ys.length <= 100000) : FnA Tryz.prog 62 [.t 0 (.sl 1 (wsT xs)),.t 0 (.sl 1 (wsT ys))] (.t 2 (.bool (decide (xs = ys)))):=by
 have hxl : (wsT xs).length = xs.length:=by simp [wsT]
 have hyl : (wsT ys).length = ys.length:=by simp [wsT]
 refine fI 26 #[.tmp 4] Tryz.func62 rfl ?_
 refine rg0 ?_
 refine zD ?_
 by_cases hlen : xs.length = ys.length
 ·refine rg1 (an @hlen (an @hxl @hyl)) ?_
  refine cS0 ?_
  refine zD ?_
  refine rg1 @hxl ?_
  refine zG ?_
  refine awp_loop (fun k : Nat=>mkS [(0,.t 0 (.sl 1 (wsT xs))),(1,.t 0 (.sl 1 (wsT ys))),(12,.t 2 (.int .i64 xs.length)),(13,.t 2 (.int .i64 k))] [] 0 26 [.any,.any]) (fun k=>k <= xs.length /\ ∀ j (h1 : j < xs.length) (h2 : j < ys.length),j < k -> xs[j] = ys[j]) (fun k=>xs.length - k) ?_ ?_
  ·refine ⟨0,⟨by omega,fun j h1 h2 hj=>by omega⟩,?_⟩
   exact kw0 []
  rintro k ⟨hk,hsame⟩
  refine rg0 ?_
  refine zD ?_
  by_cases hlt : k < xs.length
  ·have hlt2 : k < ys.length:=by omega
   have hxk : ∀ h,(wsT xs)[k]'h = .str (zAF xs[k]):=fun h=>by simp [wsT]
   have hyk : ∀ h,(wsT ys)[k]'h = .str (zAF ys[k]):=fun h=>by simp [wsT]
   refine cK1 @hlt ?_
   refine zD ?_
   refine zG ?_
   refine rg1 (an @hxk @hxl) ?_
   by_cases e : xs[k] = ys[k]
   ·have e' : (zAF xs[k]).toList = (zAF ys[k]).toList:=by rw [e]
    refine rd1 (an @hxk (an @hyk (an @hxl (an @hyl (an @hlt (an @hlt2 (an @e' @lvT.eq_1))))))) ?_
    refine cY0 ?_
    show awp _ _ _ _
    refine rr0 ?_
    refine ⟨k + 1,⟨by omega,fun j h1 h2 hj=>?_⟩,by omega,?_⟩
    ·by_cases c : j = k
     ·subst c; exact e
     ·exact hsame j h1 h2 (by omega)
    exact kw0 []
   ·have hne : decide (xs = ys) = false:=by
     simp only [decide_eq_false_iff_not]
     intro c
     subst c
     exact e rfl
    have hsn2 : ¬ (zAF xs[k]).toList = (zAF ys[k]).toList:=fun c=>e (zIH (hx _ (by simp)) (hy _ (by simp)) c)
    refine rd1 (an @hxk (an @hyk (an @hxl (an @hyl (an @hlt (an @hlt2 (an @hsn2 @lvT.eq_1))))))) ?_
    refine cT0 ?_
    refine rg0 ?_
    exact zI (rt1 @hne)
  ·have heq : decide (xs = ys) = true:=by
    simp only [decide_eq_true_eq]
    exact List.ext_getElem hlen fun j h1 h2=>hsame j h1 h2 (by omega)
   refine cF1 @hlt ?_
   refine zM ?_
   show awp _ _ _ _
   refine rg0 ?_
   exact zI (rt1 @heq)
 ·have hne : decide (xs = ys) = false:=by
   simp only [decide_eq_false_iff_not]
   intro c
   subst c
   exact hlen rfl
  have hli : ¬ (xs.length : Int) = ys.length:=by omega
  have hli2 : ((xs.length : Int) == ys.length) = false:=by simpa using hli
  refine rg1 (an @hli2 (an @hxl @hyl)) ?_
  refine cT0 ?_
  refine rg0 ?_
  exact zI (rt1 @hne)
theorem zLP {L N : Nat} {tb : List (List Int)} {ws : List (List Nat)} {im : List Int} {ac pl : List Bool} (hS : zCy L N tb ws im ac pl) (hof : FnA Tryz.prog 59 [dfT 0 L 0 ac (tab N (auR tb im))] (.tup [zCZ,.t 2 (.int .i64 3)])) : FnA Tryz.prog 27 [syV 0 L tb ws im ac pl] (.t 2 (.int .i64 8)):=by
 have hsh:=zDl hS
 have hau:=zB2 hS
 have hn2:=hS.n2
 have hl2:=hS.l2
 have htl:=hS.tl
 have hwl:=hS.wl
 have hil:=hS.il
 have hal:=hS.al
 have hpl:=hS.pll
 generalize tab N (auR tb im) = nx at hof hau
 refine fI 74 #[.tmp 2] Tryz.func27 rfl ?_
 refine rg1 (an @syV.eq_1 @zH.eq_1) ?_
 refine zD ?_
 refine rc1 hsh (an @syV.eq_1 @zH.eq_1) ?_
 refine cS0 ?_
 refine zQ fun K hK=>?_
 simp (maxSteps:=2000000) (disch:=omega) [ints,rows,scal,zT,wr8]
 (repeat' apply And.intro)
 all_goals (try omega)
 refine zK (caps:=[]) (hau) [] [] 2 rfl rfl rfl rfl (by kernel_rfl) (by simp) ?_ trivial trivial rfl trivial trivial (by simp) ?_
 ·simp [scal,rows,ints,syV,zH]
 simp (maxSteps:=2000000) (disch:=omega) [ints,rows,scal,zT,wr8,dfT]
 (repeat' apply And.intro)
 all_goals (try omega)
 refine zK (caps:=[]) (hof) [] [] 2 rfl rfl rfl rfl (by kernel_rfl) (by simp) ?_ trivial trivial rfl trivial trivial (by simp) ?_
 ·simp [scal,rows,ints,dfT]
 simp (maxSteps:=2000000) (disch:=omega) [ints,rows,scal,zT,wr8,zCZ]
 and_intros <;> try first | apply hK | omega | rfl | simp <;> omega
 refine zD ?_
 refine rg0 ?_
 refine cT0 ?_
 refine rg0 ?_
 exact zI (rt1 @syV.eq_1)
theorem zIl {L N : Nat} {tb : List (List Int)} {ws : List (List Nat)} {im : List Int} {ac pl : List Bool} (hS : zCy L N tb ws im ac pl) {N' : Nat} {tb' : List (List Int)} {ws' : List (List Nat)} {im' : List Int} {ac' pl' : List Bool} (hS' : zCy L N' tb' ws' im' ac' pl') (hw : zHo ws) (hw' : zHo ws') (hof : FnA Tryz.prog 59 [dfT 0 L 0 ac (tab N (auR tb im))] (.tup [syV 1 L tb' ws' im' ac' pl',.t 2 (.int .i64 0)])) : FnA Tryz.prog 27 [syV 0 L tb ws im ac pl] (.t 2 (.int .i64 (if tb' = tb /\ ws' = ws /\ im' = im /\ ac' = ac /\ pl' = pl then 0 else 8))):=by
 have hsh:=zDl hS
 have hau:=zB2 hS
 have hn2:=hS.n2
 have hl2:=hS.l2
 have htl:=hS.tl
 have hwl:=hS.wl
 have hil:=hS.il
 have hal:=hS.al
 have hpl:=hS.pll
 generalize tab N (auR tb im) = nx at hof hau
 have hn2':=hS'.n2
 have htl':=hS'.tl
 have hwl':=hS'.wl
 have hil':=hS'.il
 have hal':=hS'.al
 have hpl':=hS'.pll
 have hq4:=zIa ws' ws hw' hw (by omega) (by omega)
 have hq2:=zCd im' im (by omega) (by omega)
 have hqa:=zDz ac' ac (by omega) (by omega)
 have hqp:=zDz pl' pl (by omega) (by omega)
 refine fI 74 #[.tmp 2] Tryz.func27 rfl ?_
 refine rg1 (an @syV.eq_1 @zH.eq_1) ?_
 refine zD ?_
 refine rc1 hsh (an @syV.eq_1 @zH.eq_1) ?_
 refine cS0 ?_
 refine zQ fun K hK=>?_
 simp (maxSteps:=2000000) (disch:=omega) [ints,rows,scal,zT,wr8]
 (repeat' apply And.intro)
 all_goals (try omega)
 refine zK (caps:=[]) (hau) [] [] 2 rfl rfl rfl rfl (by kernel_rfl) (by simp) ?_ trivial trivial rfl trivial trivial (by simp) ?_
 ·simp [scal,rows,ints,syV,zH]
 simp (maxSteps:=2000000) (disch:=omega) [ints,rows,scal,zT,wr8,dfT]
 (repeat' apply And.intro)
 all_goals (try omega)
 refine zK (caps:=[]) (hof) [] [] 2 rfl rfl rfl rfl (by kernel_rfl) (by simp) ?_ trivial trivial rfl trivial trivial (by simp) ?_
 ·simp [scal,rows,ints,dfT]
 simp (maxSteps:=2000000) (disch:=omega) [ints,rows,scal,zT,wr8,syV,zH]
 and_intros <;> try first | apply hK | omega | rfl | simp <;> omega
 refine zD ?_
 by_cases hNN : N' = N
 case neg =>
  have hr : (if tb' = tb /\ ws' = ws /\ im' = im /\ ac' = ac /\ pl' = pl then (0 : Int) else 8) = 8:=if_neg fun h=>hNN (by rw [← htl,← htl',h.1])
  have hNi : ((N' : Int) == (N : Int)) = false:=by
   have : ¬ (N' : Int) = N:=by omega
   simpa using this
  refine rg1 (an @htl (an @htl' @hNi)) ?_
  refine cT0 ?_
  refine rg0 ?_
  exact zI (rt1 (an @syV.eq_1 @hr))
 subst hNN
 refine rg1 (an @htl @htl') ?_
 refine cS0 ?_
 refine zD ?_
 refine rg1 @htl' ?_
 refine zG ?_
 refine awp_loop (fun k : Nat=>mkS [(1,.ptr 0 0 6),(3,.ptr 1 0 6),(28,.t 1 (rows tb')),(29,.t 2 (.int .i64 N')),(30,.t 2 (.int .i64 k))]
   [(0,.box 27 [.t 2 (.int .i64 L),.t 0 (rows tb),.t 0 (.sl 1 (wsT ws)),.t 0 (ints im),.t 0 (zH ac),.t 0 (zH pl)]),(1,.box 27 [.t 2 (.int .i64 L),.t 1 (rows tb'),.t 1 (.sl 1 (wsT ws')),.t 1 (ints im'),.t 1 (zH ac'),.t 1 (zH pl')])] 2 74 [.any]) (fun k=>k <= N' /\ ∀ j (h1 : j < tb'.length) (h2 : j < tb.length),j < k -> tb'[j] = tb[j]) (fun k=>N' - k) ?_ ?_
 ·refine ⟨0,⟨by omega,fun j h1 h2 hj=>by omega⟩,?_⟩
  exact kw1 [(0,some 0),(1,some 11000000)] (an @rows.eq_1 @zH.eq_1)
 rintro k ⟨hk,hsame⟩
 refine rg0 ?_
 refine zD ?_
 by_cases hlt : k < N'
 ·have hkt : k < tb.length:=by omega
  have hkt' : k < tb'.length:=by omega
  have h1:=(hS.tr tb[k] (by simp)).1
  have h2:=(hS'.tr tb'[k] (by simp)).1
  have hq:=zCd tb'[k] tb[k] (by omega) (by omega)
  refine cK1 @hlt ?_
  refine zD ?_
  refine zG ?_
  refine rg1 @hkt' ?_
  by_cases e : tb'[k] = tb[k]
  ·rw [show decide (tb'[k] = tb[k]) = true by simpa using e] at hq
   refine rc1 hq (an @hkt @hkt') ?_
   refine cY0 ?_
   show awp _ _ _ _
   refine rr0 ?_
   refine ⟨k + 1,⟨by omega,fun j g1 g2 hj=>?_⟩,by omega,?_⟩
   ·by_cases c : j = k
    ·subst c; exact e
    ·exact hsame j g1 g2 (by omega)
   exact kw1 [(0,some 0),(1,some 1)] (an @rows.eq_1 @zH.eq_1)
  ·have hr : (if tb' = tb /\ ws' = ws /\ im' = im /\ ac' = ac /\ pl' = pl then (0 : Int) else 8) = 8:=if_neg fun h=>e (by
    have:=h.1
    subst this
    rfl)
   rw [show decide (tb'[k] = tb[k]) = false by simpa using e] at hq
   refine rc1 hq (an @hkt @hkt') ?_
   refine cT0 ?_
   refine rg0 ?_
   exact zI (rt1 (an @syV.eq_1 @hr))
 ·have htb : tb' = tb:=List.ext_getElem (by omega) fun j g1 g2=>hsame j g1 g2 (by omega)
  have hif : (if tb' = tb /\ ws' = ws /\ im' = im /\ ac' = ac /\ pl' = pl then (0 : Int) else 8) = if ws' = ws /\ im' = im /\ ac' = ac /\ pl' = pl then 0 else 8:=by simp [htb]
  rw [hif]
  refine cF1 @hlt ?_
  refine zM ?_
  show awp _ _ _ _
  refine zD ?_
  by_cases e1 : ws' = ws
  case neg =>
   rw [show decide (ws' = ws) = false by simpa using e1] at hq4
   refine rc0 hq4 ?_
   refine cT0 ?_
   refine rg0 ?_
   exact zI (rt1 (an @syV.eq_1 @e1))
  rw [show decide (ws' = ws) = true by simpa using e1] at hq4
  by_cases e2 : im' = im
  case neg =>
   rw [show decide (im' = im) = false by simpa using e2] at hq2
   refine zQ fun K hK=>?_
   simp (maxSteps:=2000000) (disch:=omega) [ints,rows,scal,zT,wr8]
   (repeat' apply And.intro)
   all_goals (try omega)
   refine zK (caps:=[]) (hq4) [] [] 2 rfl rfl rfl rfl (by kernel_rfl) (by simp) ?_ trivial trivial rfl trivial trivial (by simp) ?_
   ·simp [scal,rows,ints]
   simp (maxSteps:=2000000) (disch:=omega) [ints,rows,scal,zT,wr8]
   (repeat' apply And.intro)
   all_goals (try omega)
   refine zK (caps:=[]) (hq2) [] [] 2 (by simp [scal,rows,ints]) rfl rfl rfl (by kernel_rfl) (by simp) ?_ trivial trivial rfl trivial trivial (by simp) ?_
   ·simp [scal,rows,ints]
   simp (maxSteps:=2000000) (disch:=omega) [ints,rows,scal,zT,wr8]
   (repeat' first | apply hK | apply And.intro) <;> try first | omega | rfl | (simp <;> omega)
   refine cT0 ?_
   refine rg0 ?_
   exact zI (rt1 (an @syV.eq_1 @e2))
  rw [show decide (im' = im) = true by simpa using e2] at hq2
  by_cases e3 : ac' = ac
  case neg =>
   rw [show decide (ac' = ac) = false by simpa using e3] at hqa
   refine zQ fun K hK=>?_
   simp (maxSteps:=2000000) (disch:=omega) [ints,rows,scal,zT,wr8]
   (repeat' apply And.intro)
   all_goals (try omega)
   refine zK (caps:=[]) (hq4) [] [] 2 rfl rfl rfl rfl (by kernel_rfl) (by simp) ?_ trivial trivial rfl trivial trivial (by simp) ?_
   ·simp [scal,rows,ints]
   simp (maxSteps:=2000000) (disch:=omega) [ints,rows,scal,zT,wr8]
   (repeat' apply And.intro)
   all_goals (try omega)
   refine zK (caps:=[]) (hq2) [] [] 2 (by simp [scal,rows,ints]) rfl rfl rfl (by kernel_rfl) (by simp) ?_ trivial trivial rfl trivial trivial (by simp) ?_
   ·simp [scal,rows,ints]
   simp (maxSteps:=2000000) (disch:=omega) [ints,rows,scal,zT,wr8]
   (repeat' apply And.intro)
   all_goals (try omega)
   refine zK (caps:=[]) (hqa) [] [] 2 (by simp [scal,rows,ints,zH]) rfl rfl rfl (by kernel_rfl) (by simp) ?_ trivial trivial rfl trivial trivial (by simp) ?_
   ·simp [scal,rows,ints,zH]
   simp (maxSteps:=2000000) (disch:=omega) [ints,rows,scal,zT,wr8]
   (repeat' first | apply hK | apply And.intro) <;> try first | omega | rfl | (simp <;> omega)
   refine cT0 ?_
   refine rg0 ?_
   exact zI (rt1 (an @syV.eq_1 @e3))
  rw [show decide (ac' = ac) = true by simpa using e3] at hqa
  by_cases e4 : pl' = pl
  case neg =>
   rw [show decide (pl' = pl) = false by simpa using e4] at hqp
   refine zQ fun K hK=>?_
   simp (maxSteps:=2000000) (disch:=omega) [ints,rows,scal,zT,wr8]
   (repeat' apply And.intro)
   all_goals (try omega)
   refine zK (caps:=[]) (hq4) [] [] 2 rfl rfl rfl rfl (by kernel_rfl) (by simp) ?_ trivial trivial rfl trivial trivial (by simp) ?_
   ·simp [scal,rows,ints]
   simp (maxSteps:=2000000) (disch:=omega) [ints,rows,scal,zT,wr8]
   (repeat' apply And.intro)
   all_goals (try omega)
   refine zK (caps:=[]) (hq2) [] [] 2 (by simp [scal,rows,ints]) rfl rfl rfl (by kernel_rfl) (by simp) ?_ trivial trivial rfl trivial trivial (by simp) ?_
   ·simp [scal,rows,ints]
   simp (maxSteps:=2000000) (disch:=omega) [ints,rows,scal,zT,wr8]
   (repeat' apply And.intro)
   all_goals (try omega)
   refine zK (caps:=[]) (hqa) [] [] 2 (by simp [scal,rows,ints,zH]) rfl rfl rfl (by kernel_rfl) (by simp) ?_ trivial trivial rfl trivial trivial (by simp) ?_
   ·simp [scal,rows,ints,zH]
   simp (maxSteps:=2000000) (disch:=omega) [ints,rows,scal,zT,wr8]
   (repeat' apply And.intro)
   all_goals (try omega)
   refine zK (caps:=[]) (hqp) [] [] 2 (by simp [scal,rows,ints,zH]) rfl rfl rfl (by kernel_rfl) (by simp) ?_ trivial trivial rfl trivial trivial (by simp) ?_
   ·simp [scal,rows,ints,zH]
   simp (maxSteps:=2000000) (disch:=omega) [ints,rows,scal,zT,wr8]
   (repeat' first | apply hK | apply And.intro) <;> try first | omega | rfl | (simp <;> omega)
   refine cT0 ?_
   refine rg0 ?_
   exact zI (rt1 (an @syV.eq_1 @e4))
  rw [show decide (pl' = pl) = true by simpa using e4] at hqp
  refine zQ fun K hK=>?_
  simp (maxSteps:=2000000) (disch:=omega) [ints,rows,scal,zT,wr8]
  (repeat' apply And.intro)
  all_goals (try omega)
  refine zK (caps:=[]) (hq4) [] [] 2 rfl rfl rfl rfl (by kernel_rfl) (by simp) ?_ trivial trivial rfl trivial trivial (by simp) ?_
  ·simp [scal,rows,ints]
  simp (maxSteps:=2000000) (disch:=omega) [ints,rows,scal,zT,wr8]
  (repeat' apply And.intro)
  all_goals (try omega)
  refine zK (caps:=[]) (hq2) [] [] 2 (by simp [scal,rows,ints]) rfl rfl rfl (by kernel_rfl) (by simp) ?_ trivial trivial rfl trivial trivial (by simp) ?_
  ·simp [scal,rows,ints]
  simp (maxSteps:=2000000) (disch:=omega) [ints,rows,scal,zT,wr8]
  (repeat' apply And.intro)
  all_goals (try omega)
  refine zK (caps:=[]) (hqa) [] [] 2 (by simp [scal,rows,ints,zH]) rfl rfl rfl (by kernel_rfl) (by simp) ?_ trivial trivial rfl trivial trivial (by simp) ?_
  ·simp [scal,rows,ints,zH]
  simp (maxSteps:=2000000) (disch:=omega) [ints,rows,scal,zT,wr8]
  (repeat' apply And.intro)
  all_goals (try omega)
  refine zK (caps:=[]) (hqp) [] [] 2 (by simp [scal,rows,ints,zH]) rfl rfl rfl (by kernel_rfl) (by simp) ?_ trivial trivial rfl trivial trivial (by simp) ?_
  ·simp [scal,rows,ints,zH]
  simp (maxSteps:=2000000) (disch:=omega) [ints,rows,scal,zT,wr8]
  (repeat' first | apply hK | apply And.intro) <;> try first | omega | rfl | (simp <;> omega)
  refine cS0 ?_
  refine rg0 ?_
  exact zI (rt1 (an @syV.eq_1 (an @e1 (an @e2 (an @e3 @e4)))))
noncomputable def apB (n : Nat) (T : Nat -> Nat -> Nat) : Bool:=@decide (∀ x,x < n -> ApX T x) (Classical.propDecidable _)
theorem zE0 {n : Nat} {T : Nat -> Nat -> Nat} : apB n T = true ↔ ∀ x,x < n -> ApX T x:=by unfold apB; exact @decide_eq_true_iff _ (Classical.propDecidable _)
theorem zPU {n : Nat} {T : Nat -> Nat -> Nat} {x : Nat} (hx : x < n) (h : ¬ ApX T x) : apB n T = false:=by
 cases e : apB n T with
 | false=>rfl
 | true=>exact absurd (zE0.1 e x hx) h
theorem zMI {n : Nat} {T : Nat -> Nat -> Nat} (h : ∀ x,x < n -> ApX T x) : apB n T = true:=zE0.2 h
theorem zON {n : Nat} {T : Nat -> Nat -> Nat} {x k i : Nat} (hi : i <= k) (hr : pw T x i = pw T x (k + 1)) (hd : ∀ i j,i < j -> j <= k -> pw T x i ≠ pw T x j) : ApX T x ↔ i = k:=by
 constructor
 ·rintro ⟨j,hj⟩
  refine Classical.byContradiction fun hne=>?_
  have hper : ∀ m,pw T x (i + m + (k + 1 - i)) = pw T x (i + m):=fun m=>by
   have h1:=zMH (T:=T) x (k + 1) m
   have h2:=zMH (T:=T) x i m
   rw [← hr,h2] at h1
   rw [show i + m + (k + 1 - i) = k + 1 + m by omega]
   exact h1.symm
  have hup : ∀ m,pw T x (j + m) = pw T x j:=fun m=>by
   induction m with
   | zero=>rfl
   | succ m ih =>
    show T (pw T x (j + m)) x = _
    rw [ih]
    exact hj
  have hmul : ∀ m c,pw T x (i + m + c * (k + 1 - i)) = pw T x (i + m):=fun m c=>by
   induction c with
   | zero=>simp
   | succ c ih =>
    have:=hper (m + c * (k + 1 - i))
    rw [show i + m + (c + 1) * (k + 1 - i) = i + (m + c * (k + 1 - i)) + (k + 1 - i) by rw [Nat.succ_mul]; omega,this,← Nat.add_assoc]
    exact ih
  have h1:=hmul 0 j
  have h2:=hmul 1 j
  have hp : 1 <= k + 1 - i:=by omega
  have hge : j <= j * (k + 1 - i):=Nat.le_mul_of_pos_right j hp
  obtain ⟨d,hdd⟩ : ∃ d,j * (k + 1 - i) = j + d:=⟨_,(Nat.add_sub_cancel' hge).symm⟩
  rw [hdd,show i + 0 + (j + d) = j + (i + d) by omega,hup] at h1
  rw [hdd,show i + 1 + (j + d) = j + (i + 1 + d) by omega,hup] at h2
  exact hd i (i + 1) (by omega) (by omega) (by rw [← h2,h1]; rfl)
 ·rintro rfl
  exact ⟨i,hr.symm⟩
theorem zEU (tb : List (List Int)) (n : Nat) (T : Nat -> Nat -> Nat) (ht : TbL tb n T) (hn : n <= 1000) (x : Nat) (hx : x < n) :
  ∃ res,(∃ k i : Nat,i <= k /\ k < n /\ (ApX T x ↔ i = k) /\ res = .tup [.t 2 (.int .i64 (i + 1 : Nat)),.t 2 (.int .i64 (k + 1 - i : Nat))]) /\ FnA Tryz.prog 76 [.t 0 (rows tb),.t 2 (.int .i64 (x : Nat))] res:=by
 obtain ⟨_,⟨k,i,hik,hkn,hr,hd,rfl⟩,hp⟩:=zI1 tb n T ht hn x hx
 have hap:=zON (n:=n) hik hr hd
 have hl : (pwT T x k).length = k + 1:=by simp [pwT]
 have e1 : ((k : Int) + 1 - (i : Int)) = ((k + 1 - i : Nat) : Int):=by omega
 refine zn Tryz.func76 rfl (by simp [Tryz.f76]) ?_
 rw [show Tryz.f76.ntmps = 20 from rfl,show Tryz.f76.results = #[.tmp 4,.tmp 5] from rfl]
 refine rg0 ?_
 refine rc0 hp ?_
 refine rg1 (an @hl @e1) ?_
 refine zI ?_
 refine ⟨_,⟨k,i,hik,hkn,hap,rfl⟩,?_⟩
 exact rt1 (an @hl @e1)
theorem zMw {L n : Nat} {tb : List (List Int)} {T : Nat -> Nat -> Nat} {ws : List (List Nat)} {im : List Int} {ac pl : List Bool} (ht : TbL tb n T) (hn : n <= 400) : FnA Tryz.prog 33 [syV 0 L tb ws im ac pl] (.t 2 (.bool (apB n T))):=by
 have htl:=ht.len
 refine fI 22 #[.tmp 2] Tryz.func33 rfl ?_
 refine rg1 (an @syV.eq_1 @zH.eq_1) ?_
 refine zD ?_
 refine rg1 @htl ?_
 refine zG ?_
 refine awp_loop (fun x : Nat=>mkS [(1,.ptr 0 0 6),(8,.t 2 (.int .i64 n)),(9,.t 2 (.int .i64 x))]
   [(0,.box 27 [.t 2 (.int .i64 L),.t 0 (rows tb),.t 0 (.sl 1 (wsT ws)),.t 0 (ints im),.t 0 (zH ac),.t 0 (zH pl)])] 1 22 [.any]) (fun x=>x <= n /\ ∀ y,y < x -> ApX T y) (fun x=>n - x) ?_ ?_
 ·refine ⟨0,⟨by omega,fun y hy=>by omega⟩,?_⟩
  exact kw1 [(0,some 0)] (an @rows.eq_1 @zH.eq_1)
 rintro x ⟨hx,hap⟩
 refine rg0 ?_
 refine zD ?_
 by_cases hlt : x < n
 ·obtain ⟨_,⟨k,i,hik,hkn,hiff,rfl⟩,hp⟩:=zEU tb n T ht (by omega) x hlt
  refine cK1 @hlt ?_
  refine zD ?_
  refine zG ?_
  refine rg0 ?_
  refine rc0 hp ?_
  by_cases c : i = k
  ·have e1 : ((k + 1 - i : Nat) : Int) = 1:=by omega
   refine rg1 @e1 ?_
   refine cY0 ?_
   show awp _ _ _ _
   refine rr0 ?_
   refine ⟨x + 1,⟨by omega,fun y hy=>?_⟩,by omega,?_⟩
   ·rcases Nat.lt_or_ge y x with h | h
    ·exact hap y h
    ·obtain rfl : y = x:=by omega
     exact hiff.2 c
   exact kw1 [(0,some 0)] (an @rows.eq_1 @zH.eq_1)
  ·have e1 : (((k + 1 - i : Nat) : Int) == 1) = false:=by
    have : ¬ ((k + 1 - i : Nat) : Int) = 1:=by omega
    simpa using this
   have hf:=zPU hlt (fun h=>c (hiff.1 h))
   refine rg1 @e1 ?_
   refine cT0 ?_
   refine rg0 ?_
   exact zI (rt1 (an @hf @syV.eq_1))
 ·obtain rfl : x = n:=by omega
  have hf:=zMI hap
  refine cF0 ?_
  refine zM ?_
  show awp _ _ _ _
  refine rg0 ?_
  exact zI (rt1 (an @hf @syV.eq_1))
theorem zIG {L n : Nat} {tb : List (List Int)} {T : Nat -> Nat -> Nat} {ws : List (List Nat)} {im : List Int} {ac pl : List Bool} (ht : TbL tb n T) (hA : zDN n T) (hn : n <= 400) (hv : FnA Tryz.prog 27 [syV 0 L tb ws im ac pl] (.t 2 (.int .i64 0))) : FnA Tryz.prog 28 [syV 0 L tb ws im ac pl] (.t 2 (.bool (apB n T))):=by
 have htl:=ht.len
 refine fI 44 #[.tmp 2] Tryz.func28 rfl ?_
 refine rg1 (an @syV.eq_1 @zH.eq_1) ?_
 refine zD ?_
 refine rc1 hv (an @syV.eq_1 @zH.eq_1) ?_
 refine cS0 ?_
 refine zD ?_
 refine rg1 @htl ?_
 refine zG ?_
 refine awp_loop (fun x : Nat=>mkS [(1,.ptr 0 0 6),(10,.t 2 (.int .i64 n)),(11,.t 2 (.int .i64 x))]
   [(0,.box 27 [.t 2 (.int .i64 L),.t 0 (rows tb),.t 0 (.sl 1 (wsT ws)),.t 0 (ints im),.t 0 (zH ac),.t 0 (zH pl)])] 1 44 [.any]) (fun x=>x <= n /\ ∀ y,y < x -> ApX T y) (fun x=>n - x) ?_ ?_
 ·refine ⟨0,⟨by omega,fun y hy=>by omega⟩,?_⟩
  exact kw1 [(0,some 0)] (an @rows.eq_1 @zH.eq_1)
 rintro x ⟨hx,hap⟩
 refine rg0 ?_
 refine zD ?_
 by_cases hlt : x < n
 ·obtain ⟨k0,hk0,hom,hid,hno⟩:=zIU ht.lt hA hlt
  have hiff:=zQF ht.lt hA hlt
  rw [hom] at hiff
  refine cK1 @hlt ?_
  refine zD ?_
  refine zG ?_
  refine rg0 ?_
  refine rg0 ?_
  refine zD ?_
  refine zG ?_
  refine awp_loop (fun j : Nat=>mkS [(1,.ptr 0 0 6),(3,.t 2 (.int .i64 x)),(4,.t 2 (.int .i64 (pw T x j : Nat))),(10,.t 2 (.int .i64 n)),(11,.t 2 (.int .i64 x))]
    [(0,.box 27 [.t 2 (.int .i64 L),.t 0 (rows tb),.t 0 (.sl 1 (wsT ws)),.t 0 (ints im),.t 0 (zH ac),.t 0 (zH pl)])] 1 44 [.any]) (fun j=>j <= k0) (fun j=>k0 - j) ?_ ?_
  ·refine ⟨0,by omega,?_⟩
   refine zU [(0,some 0)] rfl ?_ ?_ ?_ ?_
   all_goals try simp [ints,rows,zH,pw,itT]
  intro j hj
  have hpl:=zJa ht.lt hlt j
  obtain ⟨g1,g2,g3⟩:=ht.get hpl hpl
  obtain ⟨i1,i2,i3⟩:=ht.get hpl hlt
  have hps:=zC7 (T:=T) x j
  refine zD ?_
  by_cases he : T (pw T x j) (pw T x j) = pw T x j
  ·obtain rfl : j = k0:=by
    rcases Nat.lt_or_ge j k0 with h | h
    ·exact absurd he (hno j h)
    ·omega
   clear hno hps
   generalize pw T x j = e at *
   refine rg1 (an @g1 (an @g2 (an @g3 @he))) ?_
   refine cF0 ?_
   refine zM ?_
   show awp _ _ _ _
   by_cases c : T e x = e
   ·refine rg1 (an @i1 (an @i2 (an @i3 @c))) ?_
    refine cY0 ?_
    show awp _ _ _ _
    refine rr0 ?_
    refine ⟨x + 1,⟨by omega,fun y hy=>?_⟩,by omega,?_⟩
    ·rcases Nat.lt_or_ge y x with h | h
     ·exact hap y h
     ·obtain rfl : y = x:=by omega
      exact hiff.2 c
    exact kw1 [(0,some 0)] (an @rows.eq_1 @zH.eq_1)
   ·have hf:=zPU hlt (fun h=>c (hiff.1 h))
    have c1 : ((T e x : Nat) : Int) ≠ (e : Int):=by omega
    refine rg1 (an @i1 (an @i2 (an @i3 @c))) ?_
    refine cT1 @c ?_
    refine rg0 ?_
    exact zI (rt1 (an @hf @syV.eq_1))
  ·have hlt2 : j < k0:=by
    rcases Nat.lt_or_ge j k0 with h | h
    ·exact h
    ·obtain rfl : j = k0:=by omega
     exact absurd hid he
   refine rg1 (an @g1 (an @g2 (an @g3 @he))) ?_
   refine cK1 @he ?_
   refine zG ?_
   refine rr1 (an @i1 (an @i2 @i3)) ?_
   refine ⟨j + 1,by omega,by omega,?_⟩
   rw [hps]
   exact kw1 [(0,some 0)] (an @rows.eq_1 @zH.eq_1)
 ·obtain rfl : x = n:=by omega
  have hf:=zMI hap
  refine cF0 ?_
  refine zM ?_
  show awp _ _ _ _
  refine rg0 ?_
  exact zI (rt1 (an @hf @syV.eq_1))
section
variable {L m : Nat} {bs : List Bool} {nx els : List (List Int)} {pre last : List Int} {wds : List (List Nat)} {right : List (List Int)} {r0 : List Int}
theorem SyX.zRC (h : SyX 1 m nx els pre last wds right r0) (hD : DfL 1 m 0 bs nx) (hg : ∀ g ∈ tab 1 (lets m nx),TrN m g) (hm : m <= 4) (ha : ∀ x,x < els.length -> ApX (ze (zA6 right wds els.length)) x) : els.length <= 4:=by
 have hz : ∀ k,∀ a ∈ List.replicate k 0,a < 1:=fun k a ha=>by rw [(List.mem_replicate.1 ha).2]; omega
 obtain ⟨x1,x2,x3⟩:=h.im hg (show 0 < 1 by omega)
 obtain ⟨k,hk⟩:=ha _ x1
 have hpw : ∀ j,Rp 1 m nx els (pw (ze (zA6 right wds els.length)) (imN r0 0) j) (List.replicate (j + 1) 0):=fun j=>by
  induction j with
  | zero=>exact x3
  | succ j ih =>
   have:=h.zPw hg (hz (j + 1)) (fun a ha=>by simp at ha; omega) ih x3
   rw [List.replicate_succ' (n:=j + 1)]
   exact this
 have e1 : ∀ q,q < m -> zk nx q (List.replicate (k + 2) 0) = zk nx q (List.replicate (k + 1) 0):=(h.zQV hD (hz _) (hz _) (hpw (k + 1)) (hpw k)).1 hk
 have red : ∀ j,3 <= j -> ∀ q,q < m -> zk nx q (List.replicate j 0) = zk nx q (List.replicate 3 0):=fun j hj q hq=>by
  have up : ∀ d,zk nx q (List.replicate (k + 1 + d) 0) = zk nx q (List.replicate (k + 1) 0):=fun d=>by
   induction d with
   | zero=>rfl
   | succ d ih =>
    rw [show k + 1 + (d + 1) = (k + 1 + d) + 1 by omega,zBA,ih,← zBA]
    exact e1 q hq
  have per : ∀ d,zk nx q (List.replicate (3 + d + 12) 0) = zk nx q (List.replicate (3 + d) 0):=fun d=>by
   induction d with
   | zero=>exact zLL hD hm hq
   | succ d ih =>
    rw [show 3 + (d + 1) + 12 = (3 + d + 12) + 1 by omega,zBA,ih,← zBA]
    rfl
  have per2 : ∀ d c,zk nx q (List.replicate (3 + d + 12 * c) 0) = zk nx q (List.replicate (3 + d) 0):=fun d c=>by
   induction c with
   | zero=>rfl
   | succ c ih =>
    have:=per (d + 12 * c)
    rw [show 3 + d + 12 * (c + 1) = 3 + (d + 12 * c) + 12 by omega,this,← Nat.add_assoc]
    exact ih
  have f0:=per2 0 (k + 1)
  have f1:=per2 (j - 3) (k + 1)
  rw [show 3 + 0 + 12 * (k + 1) = k + 1 + (11 * k + 14) by omega,up] at f0
  rw [show 3 + (j - 3) + 12 * (k + 1) = k + 1 + (j + 11 * k + 11) by omega,up] at f1
  rw [show 3 + (j - 3) = j by omega] at f1
  exact f1.symm.trans f0
 have hnd : els.Nodup:=by
  rw [List.nodup_iff_pairwise_ne,List.pairwise_iff_getElem]
  intro i j hi hj hij e
  have:=h.pr.en.nd i j els[i] (by simp) (by simp [e])
  omega
 have:=zA5 (l:=els) (k:=(List.range 4).map fun k=>act m (tab 1 (lets m nx)) (List.replicate k 0)) hnd (fun a ha=>by
  obtain ⟨x,hx,rfl⟩:=List.getElem_of_mem ha
  obtain ⟨w,hw,hr⟩:=h.rp hx
  have hw0 : w = List.replicate w.length 0:=List.eq_replicate_iff.2 ⟨rfl,fun b hb=>by have:=hw b hb; omega⟩
  obtain ⟨j,hj,e⟩ : ∃ j,j < 4 /\ ∀ q,q < m -> zk nx q w = zk nx q (List.replicate j 0):=by
   by_cases c : w.length < 3
   ·exact ⟨w.length,by omega,fun q hq=>by rw [← hw0]⟩
   ·exact ⟨3,by omega,fun q hq=>by rw [hw0]; exact red _ (by omega) q hq⟩
  obtain ⟨y,hy⟩:=h.zRc (w:=List.replicate j 0) (hz j)
  have hxy:=(h.zQV hD hw (hz j) hr hy).2 e
  subst hxy
  unfold Rp at hy
  rw [List.getElem?_eq_getElem hx] at hy
  rw [Option.some.inj hy]
  exact List.mem_map.2 ⟨j,List.mem_range.2 hj,rfl⟩)
 simpa using this
end
structure zLi (L N : Nat) (tb : List (List Int)) (ws : List (List Nat)) (im : List Int) (ac pl : List Bool) : Prop where
 hS : zCy L N tb ws im ac pl
 ht : TbL tb N (ze tb)
 hA : zDN N (ze tb)
 one : ∀ x,x < N -> ze tb 0 x = x /\ ze tb x 0 = x
theorem zLi.apM {L N : Nat} {tb : List (List Int)} {ws : List (List Nat)} {im : List Int} {ac pl : List Bool} (h : zLi L N tb ws im ac pl) (ha : ∀ x,x < N -> ApX (ze tb) x) : ApM N (ze tb):=ApX.apM h.hS.n1 h.ht.lt h.hA h.one ha
section
variable {L m : Nat} {bs : List Bool} {nx els : List (List Int)} {pre last : List Int} {wds : List (List Nat)} {right : List (List Int)} {r0 : List Int}
theorem SyX.zRX (h : SyX L m nx els pre last wds right r0) (hM : MnD L m bs nx) (hL : L = 1 \/ L = 2) : zLi L els.length (zA6 right wds els.length) wds r0 (els.map (zDj bs)) (psB els.length (right.any fun r=>decide ((0 : Int) ∈ r))):=by
 have hg : ∀ g ∈ tab L (lets m nx),TrN m g:=(hM.df.gn (by omega) (by omega) h.m32).tr
 have hv:=h.pr.vE hg h.el
 have ht:=TbL.of hv
 rw [zBB] at ht
 exact ⟨h.sh (by omega) (by omega) _ (by simp) _ (by simp [psB]),ht,h.pr.asc hg,h.one hg⟩
end
def zPB (most : Nat) (xs : List Int) (res : AV) (H' : List AObj) : Prop:=∃ L m bs nx els pre last wds right r0 b,(L = 1 \/ L = 2) /\ MnD L m bs nx /\ SyX L m nx els pre last wds right r0 /\ (els.length <= most \/ (L = 1 /\ m <= 4)) /\ b <= xs.length /\ res = zDd 2 L bs els wds right r0 /\ H' = [tpO 1 xs b]
theorem zF8 (xs : List Int) (a : Nat) (ha : a <= xs.length) (hl : xs.length <= 80) : ∃ L b : Nat,(L = 1 \/ L = 2) /\ b <= xs.length /\ FnS Tryz.prog 25 [.ptr 0 0 2] [tpO 1 xs a] (.t 2 (.int .i64 (L : Nat))) [tpO 1 xs b]:=by
 obtain ⟨v,b,hv,hb,hN⟩:=zA7 xs a 8 ha hl (by omega)
 have hv:=hv (by omega)
 obtain ⟨L,hL,hLv⟩ : ∃ L : Nat,(L = 1 \/ L = 2) /\ 2 - (v : Int).tdiv 7 = (L : Int):=by
  by_cases h : v = 7
  ·subst h; exact ⟨1,.inl rfl,by decide⟩
  ·refine ⟨2,.inr rfl,?_⟩
   rw [Int.tdiv_eq_zero_of_lt (by omega) (by omega)]; rfl
 have hd : (v : Int).tdiv 7 = 2 - (L : Int):=by omega
 refine ⟨L,b,hL,hb,?_⟩
 refine fI 7 #[.tmp 2] Tryz.func25 rfl ?_
 refine rg0 ?_
 refine zQ fun K hK=>?_
 simp (maxSteps:=2000000) (disch:=omega) [ints,rows,scal,zT,wr8]
 (repeat' apply And.intro)
 all_goals (try omega)
 refine zK (caps:=[]) (hN) [0] [0] 1 rfl rfl rfl rfl (by kernel_rfl) (by simp) ?_ ?_ (by simp) rfl (by simp) ⟨.inr ⟨rfl,0,_,_,_,_,_,rfl,rfl,rfl,rfl,rfl⟩,trivial⟩ (by simp [tpO]) ?_
 ·simp [scal,rows,ints,tpO]
 ·simp [scal,rows,ints,tpO]
 simp (maxSteps:=2000000) (disch:=omega) [ints,rows,scal,zT,wr8,tpO,hd]
 and_intros <;> try first | apply hK | omega | rfl | simp <;> omega
 refine zI ?_
 refine ⟨⟨.inr rfl,_,[(0,some 0)],(by first | rfl | (simp [ints,rows,scal,tpO]; rfl)),?_,?_,?_,?_⟩,?_⟩
 all_goals try simp [ints,rows,scal,tpO]
 omega
theorem zJN (xs : List Int) (hxl : xs.length <= 80) (most : Nat) (hmost : most <= 100) : ∃ res H',zPB most xs res H' /\ FnS Tryz.prog 7 [.ptr 0 0 2,.t 2 (.int .i64 most)] [tpO 1 xs 0] res H':=by
 obtain ⟨L,b,hL,hb,hlet⟩:=zF8 xs 0 (by omega) hxl
 obtain ⟨_,_,⟨n,s,b1,bs,nxt,hn,hb1,hD,hF,rfl,rfl⟩,hany⟩:=zOk xs b L 4 hb hxl hL (by omega) (by omega)
 obtain ⟨_,⟨m,bs',nx',hX,hr⟩,hof⟩:=zDc hD (by omega) (by omega) (by omega) (fun m bs' nx' hX=>by have:=hX.le; omega)
 rcases hr with ⟨-,hbad⟩ | ⟨els,pre,last,wds,right,r0,hS,rfl⟩
 ·exact absurd hbad (hF.noF hL hD hX hn)
 have hml:=hX.le
 have htl:=zBB right wds els.length
 have hel:=hS.el
 refine zAZ Tryz.func7 rfl (by simp [Tryz.f7]) ?_
 rw [show Tryz.f7.ntmps = 27 from rfl,show Tryz.f7.results = #[.cell 4 27] from rfl]
 refine rg0 ?_
 refine zQ fun K hK=>?_
 simp (maxSteps:=2000000) (disch:=omega) [ints,rows,scal,zT,wr8]
 (repeat' apply And.intro)
 all_goals (try omega)
 refine zK (caps:=[]) (hlet) [0] [0] 1 rfl rfl rfl rfl (by kernel_rfl) (by simp) ?_ ?_ (by simp) rfl (by simp) ⟨.inr ⟨rfl,0,_,_,_,_,_,rfl,rfl,rfl,rfl,rfl⟩,trivial⟩ (by simp [tpO]) ?_
 ·simp [scal,rows,ints,tpO]
 ·simp [scal,rows,ints,tpO]
 simp (maxSteps:=2000000) (disch:=omega) [ints,rows,scal,zT,wr8,tpO]
 (repeat' apply And.intro)
 all_goals (try omega)
 refine zK (caps:=[]) (hany) [0] [0] 1 rfl rfl rfl rfl (by kernel_rfl) (by simp) ?_ ?_ (by simp) rfl (by simp) ⟨.inr ⟨rfl,0,_,_,_,_,_,rfl,rfl,rfl,rfl,rfl⟩,trivial⟩ (by simp [tpO]) ?_
 ·simp [scal,rows,ints,tpO,dfT]
 ·simp [scal,rows,ints,tpO,dfT]
 simp (maxSteps:=2000000) (disch:=omega) [ints,rows,scal,zT,wr8,dfT,tpO]
 (repeat' apply And.intro)
 all_goals (try omega)
 refine zK (caps:=[]) (hof) [] [] 2 rfl rfl rfl rfl (by kernel_rfl) (by simp) ?_ trivial trivial rfl trivial trivial (by simp) ?_
 ·simp [scal,rows,ints,dfT]
 simp (maxSteps:=2000000) (disch:=omega) [ints,rows,scal,zT,wr8,zDd,tpO]
 and_intros <;> try first | apply hK | omega | rfl | simp <;> omega
 refine zD ?_
 by_cases hle : els.length <= most
 ·have hle' : ¬ ((most : Int) < (els.length : Int)):=by omega
  refine rg1 (an @htl @hle') ?_
  refine cS0 ?_
  refine rg0 ?_
  refine zI ?_
  refine ⟨⟨_,_,⟨L,m,bs',nx',els,pre,last,wds,right,r0,b1,hL,hX.mn,hS,.inl hle,hb1,rfl,rfl⟩,?_⟩,by simp⟩
  refine zBI ?_
  refine ⟨.inr rfl,_,[(0,some 0)],(by first | (simp; rfl) | rfl),?_,?_,?_,?_⟩
  all_goals try simp +contextual (disch:=omega) [zX,zY,zg,zh,zAG,List.getElem?_cons_succ,Option.getD_some,callF,ints,scal,tpO,zO,zP,zAR,wk1,rows,zH,tpO,zDd,rows,zH]
 ·have hle' : (most : Int) < (els.length : Int):=by omega
  obtain ⟨_,_,⟨n2,s2,b2,bs2,nxt2,hn2,hb2,hD2,rfl,rfl⟩,hord⟩:=zEX xs b1 1 4 hb1 hxl (by omega) (by omega) (by omega) (by omega)
  obtain ⟨_,⟨m2,bs2',nx2',hX2,hr2⟩,hof2⟩:=zDc hD2 (by omega) (by omega) (by omega) (fun m bs' nx' hX=>by have:=hX.le; omega)
  have hml2:=hX2.le
  rcases hr2 with ⟨-,hbad⟩ | ⟨els2,pre2,zJL,wds2,right2,r02,hS2,rfl⟩
  ·exact absurd hbad (zKs ((hX2.mn.df.gn (by omega) (by omega) (by omega)).tr) (by omega))
  refine rg1 (an @htl @hle') ?_
  refine cT0 ?_
  refine zAe fun K hK=>?_
  simp (maxSteps:=2000000) (disch:=omega) [ints,rows,scal,zT,wr8]
  (repeat' apply And.intro)
  all_goals (try omega)
  refine zK (caps:=[]) (hord) [0] [0] 1 rfl rfl rfl rfl (by kernel_rfl) (by simp) ?_ ?_ (by simp) rfl (by simp) ⟨.inr ⟨rfl,0,_,_,_,_,_,rfl,rfl,rfl,rfl,rfl⟩,trivial⟩ (by simp [tpO]) ?_
  ·simp [scal,rows,ints,tpO]
  ·simp [scal,rows,ints,tpO]
  simp (maxSteps:=2000000) (disch:=omega) [ints,rows,scal,zT,wr8,dfT,tpO]
  (repeat' apply And.intro)
  all_goals (try omega)
  refine zK (caps:=[]) (hof2) [] [] 2 rfl rfl rfl rfl (by kernel_rfl) (by simp) ?_ trivial trivial rfl trivial trivial (by simp) ?_
  ·simp [scal,rows,ints,dfT]
  simp (maxSteps:=2000000) (disch:=omega) [ints,rows,scal,zT,wr8,zDd,tpO]
  and_intros <;> try first | apply hK | omega | rfl | simp <;> omega
  show awp _ _ _ _
  refine rg0 ?_
  refine zI ?_
  refine ⟨⟨_,_,⟨1,m2,bs2',nx2',els2,pre2,zJL,wds2,right2,r02,b2,.inl rfl,hX2.mn,hS2,.inr ⟨rfl,by omega⟩,hb2,rfl,rfl⟩,?_⟩,by simp⟩
  refine zBI ?_
  refine ⟨.inr rfl,_,[(0,some 0)],(by first | (simp; rfl) | rfl),?_,?_,?_,?_⟩
  all_goals try simp +contextual (disch:=omega) [zX,zY,zg,zh,zAG,List.getElem?_cons_succ,Option.getD_some,callF,ints,scal,tpO,zO,zP,zAR,wk1,rows,zH,tpO,zDd,rows,zH]
end Go.Proofs.YtjkeafkjjaploaaGreat.M
