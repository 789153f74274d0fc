/-
  Walk in my logic: aperiodic.Of.
  Walks in my logic: Validate, reached, Accepts of star-free graphs (starfree).
  Walk in my logic: Accepts of star-free graphs (starfree).
  The graph of a drawn monoid, known, Value, and the law AperiodicWords.
  Walk in my logic: the law AperiodicWords.
-/
import Derived.Test.YtjkeafkjjaploaaGreatZpbd
import Derived.Test.YtjkeafkjjaploaaGreatZpad
import Derived.Test.YtjkeafkjjaploaaGreatZpbf
import Derived.Test.YtjkeafkjjaploaaGreatZpav
import Derived.Test.YtjkeafkjjaploaaGreatZpba
import Derived.Test.YtjkeafkjjaploaaGreatZpax
import Derived.Test.YtjkeafkjjaploaaGreatZpan
namespace Go.Proofs.YtjkeafkjjaploaaGreat.M
open Go.RowKit
set_option linter.unusedVariables false
set_option linter.unusedSimpArgs false
set_option maxRecDepth 100000
set_option maxHeartbeats 32000000

noncomputable def zCa (L : Nat) (tb : List (List Int)) (ws : List (List Nat)) (im : List Int) (ac pl : List Bool) : zCl:=⟨L,tb,ws,im,ac,pl,zPM tb tb.length,zPI tb tb.length,zPL tb tb.length,nI (zCL tb tb.length)⟩
theorem zE3 {n : Nat} {f : Nat -> Nat -> Bool} {x y : Nat} (hx : x < n) (hy : y < n) : zBx (tab n fun x=>tab n fun y=>f x y) x y = f x y:=by
 have e1 : (tab n fun x=>tab n fun y=>f x y).getD x [] = tab n fun y=>f x y:=by rw [List.getD_eq_getElem?_getD,zZ _ hx]; rfl
 unfold zBx
 rw [e1,List.getD_eq_getElem?_getD,zZ _ hy]
 rfl
theorem zG2 (n : Nat) (f : Nat -> Nat -> Bool) : SqB n (tab n fun x=>tab n fun y=>f x y):=⟨by simp,fun x hx=>⟨_,zZ _ hx,by simp⟩⟩
section
variable {L N : Nat} {tb : List (List Int)} {ws : List (List Nat)} {im : List Int} {ac pl : List Bool}
theorem zCy.img (hS : zCy L N tb ws im ac pl) {a : Nat} (ha : a < im.length) : im[a]? = some (imN im a : Int) /\ imN im a < N:=by
 have h:=hS.ir im[a] (by simp)
 have e : imN im a = im[a].toNat:=by
  unfold imN
  rw [List.getD_eq_getElem?_getD,List.getElem?_eq_getElem ha]
  rfl
 rw [e,List.getElem?_eq_getElem ha]
 exact ⟨by rw [Int.toNat_of_nonneg h.1],by omega⟩
theorem zOn (hS : zCy L N tb ws im ac pl) (ht : TbL tb N (ze tb)) (hn : N <= 12) : BOk (zCa L tb ws im ac pl):=by
 have hl:=ht.len
 have hL:=hS.l2
 have hil:=hS.il
 refine ⟨fun x hx=>?_,fun a ha=>?_,zG2 _ _,zG2 _ _,zG2 _ _,?_,?_⟩
 ·show ∃ r,tb[x]? = some r /\ r.length = tb.length /\ ∀ y,y < tb.length -> r[y]? = some (ze tb x y : Int) /\ ze tb x y < tb.length
  have hx : x < tb.length:=hx
  refine ⟨tb[x],List.getElem?_eq_getElem hx,by rw [ht.row x hx,hl],fun y hy=>?_⟩
  have hy2 : y < tb[x].length:=by rw [ht.row x hx]; omega
  exact ⟨by rw [List.getElem?_eq_getElem hy2,ht.val x y hx hy2],by rw [hl]; exact ht.lt x y (by omega) (by omega)⟩
 ·show im[a]? = some (imN im a : Int) /\ imN im a < tb.length
  rw [hl]
  exact hS.img ha
 ·show tb.length <= 60
  omega
 ·show im.length <= 6
  omega
theorem zEJ (tb : List (List Int)) (n : Nat) : (zCL tb n).Perm (List.range n):=(zDt _ List.nodup_range).1
theorem zHe (h : ApM N (ze tb)) {x : Nat} (hx : x < N) : szF (zK0 tb N) x = szJ N (ze tb) x:=by
 unfold szF zK0 szJ zET
 rw [List.getD_eq_getElem?_getD,zZ _ hx]
 show ((List.range N).filter fun y=>wBt tb N x N y).length = _
 congr 1
 refine List.filter_congr fun y _=>?_
 rw [Bool.eq_iff_iff,zJk h hx,zCD]
theorem zIF (ht : TbL tb N (ze tb)) (h : ApM N (ze tb)) : zQb (zCa L tb ws im ac pl) (zCL tb N):=by
 have hl:=ht.len
 subst hl
 refine ⟨fun x y hx hy=>?_,fun x y hx hy=>?_,fun x y hx hy=>?_,?_⟩
 ·show zBx (zPM tb tb.length) x y = true ↔ _
  have hx : x < tb.length:=hx
  have hy : y < tb.length:=hy
  unfold zPM
  rw [zE3 hx hy]
  exact zJp
 ·show zBx (zPI tb tb.length) x y = true ↔ _
  have hx : x < tb.length:=hx
  have hy : y < tb.length:=hy
  unfold zPI
  rw [zE3 hx hy]
  exact zJW
 ·show zBx (zPL tb tb.length) x y = true ↔ _
  have hx : x < tb.length:=hx
  have hy : y < tb.length:=hy
  unfold zPL
  rw [zE3 hx hy]
  exact zJk h hx
 ·refine zPS.of (zEJ tb _) ?_
  refine (zDt (szF (zK0 tb tb.length)) List.nodup_range).2.imp_of_mem fun {a b} ha hb hab=>?_
  have ha:=List.mem_range.1 ((zEJ tb _).mem_iff.1 ha)
  have hb:=List.mem_range.1 ((zEJ tb _).mem_iff.1 hb)
  unfold zAd at hab ⊢
  rw [zHe h ha,zHe h hb] at hab
  exact hab
end
def zDe (p : Nat) (ns : List Nd) (root : Nat) : AV:=.agg [.t p (.sl 4 (zBv ns)),.t 2 (.int .i64 (root : Nat))]
def zLQ : AV:=.agg [.t 2 (.sl 0 []),.t 2 (.int .i64 0)]
theorem zJA {L : Nat} {tb : List (List Int)} {ws : List (List Nat)} {im : List Int} {ac pl : List Bool} {e : Int} (he : e ≠ 0) (hv : FnA Tryz.prog 27 [syV 0 L tb ws im ac pl] (.t 2 (.int .i64 e))) : FnA Tryz.prog 9 [syV 1 L tb ws im ac pl] (.tup [zLQ,.t 2 (.sl 0 []),.t 2 (.int .i64 e)]):=by
 have heb : (e == 0) = false:=by simpa using he
 refine fI 125 #[.cell 2 33,.tmp 3,.tmp 4] Tryz.func9 rfl ?_
 refine rg1 (an @syV.eq_1 @zH.eq_1) ?_
 refine zD ?_
 refine rc1 hv (an @syV.eq_1 @zH.eq_1) ?_
 refine rg1 (an @he @heb) ?_
 refine cT0 ?_
 refine rg0 ?_
 refine zI ?_
 refine ⟨⟨.inr rfl,_,[],(by simp; rfl),trivial,trivial,by simp [syV,zLQ],?_⟩,by simp [syV,zLQ]⟩
 simp [ints,rows,syV,zLQ]
theorem zMc {L : Nat} {tb : List (List Int)} {ws : List (List Nat)} {im : List Int} {ac pl : List Bool} (hv : FnA Tryz.prog 27 [syV 0 L tb ws im ac pl] (.t 2 (.int .i64 0))) (ha : FnA Tryz.prog 28 [syV 0 L tb ws im ac pl] (.t 2 (.bool false))) : FnA Tryz.prog 9 [syV 1 L tb ws im ac pl] (.tup [zLQ,.t 2 (.sl 0 []),.t 2 (.int .i64 20)]):=by
 refine fI 125 #[.cell 2 33,.tmp 3,.tmp 4] Tryz.func9 rfl ?_
 refine rg1 (an @syV.eq_1 @zH.eq_1) ?_
 refine zD ?_
 refine rc1 hv (an @syV.eq_1 @zH.eq_1) ?_
 refine rg0 ?_
 refine cS0 ?_
 refine zD ?_
 refine rc1 ha (an @syV.eq_1 @zH.eq_1) ?_
 refine cT0 ?_
 refine rg0 ?_
 refine zI ?_
 refine ⟨⟨.inr rfl,_,[],(by simp; rfl),trivial,trivial,by simp [syV,zLQ],?_⟩,by simp [syV,zLQ]⟩
 simp [ints,rows,syV,zLQ]
theorem zJR {L N : Nat} {tb : List (List Int)} {ws : List (List Nat)} {im : List Int} {ac pl : List Bool} (hS : zCy L N tb ws im ac pl) (ht : TbL tb N (ze tb)) (hM : ApM N (ze tb)) (hn : N <= 12) (hL3 : L <= 3) (hlim : 8 * (N + 2) * (N + 2) * (L + 1) * (L + 1) <= 20000)
  (hv : FnA Tryz.prog 27 [syV 0 L tb ws im ac pl] (.t 2 (.int .i64 0))) (ha : FnA Tryz.prog 28 [syV 0 L tb ws im ac pl] (.t 2 (.bool true))) :
  FnA Tryz.prog 9 [syV 1 L tb ws im ac pl] (.tup [zDe 1 (zMr (zCa L tb ws im ac pl) (zCL tb N)).1 (zMr (zCa L tb ws im ac pl) (zCL tb N)).2,.t 1 (ints (nI (runD (zCa L tb ws im ac pl) (zCL tb N) N).2)),.t 2 (.int .i64 0)]):=by
 have htl:=ht.len
 have hil:=hS.il
 have hal:=hS.al
 have hD:=zOn hS ht hn
 have hI:=zIF (L:=L) (ws:=ws) (im:=im) (ac:=ac) (pl:=pl) ht hM
 have hid:=zKI tb N ht hS.n1 hn
 have hrun : ∀ i,i <= N -> (runD (zCa L tb ws im ac pl) (zCL tb N) i).1.length <= 9400:=fun i hi=>by
  have h2:=(zGu (D:=zCa L tb ws im ac pl) (o:=zCL tb N) (by show ApM tb.length (ze tb); rw [htl]; exact hM) (fun a ha=>by show imN im a < tb.length; rw [htl]; exact (hS.img ha).2) (fun a ha=>by show im.getD a 0 = (imN im a : Int); rw [List.getD_eq_getElem?_getD,(hS.img ha).1]; rfl) hI i (by show i <= tb.length; omega)).2.1
  have hb : zLn tb.length im.length <= 776:=by
   unfold zLn
   have k1 : tb.length * im.length <= 12 * 3:=Nat.mul_le_mul (by omega) (by omega)
   have k2 : im.length * im.length <= 3 * 3:=Nat.mul_le_mul (by omega) (by omega)
   have k3 : tb.length * (im.length * im.length) <= 12 * 9:=Nat.mul_le_mul (by omega) k2
   omega
  have h3 : (runD (zCa L tb ws im ac pl) (zCL tb N) i).1.length <= i * zLn tb.length im.length:=h2
  have h4 : i * zLn tb.length im.length <= 12 * 776:=Nat.mul_le_mul (by omega) hb
  omega
 have hofl : ∀ i,(runD (zCa L tb ws im ac pl) (zCL tb N) i).2.length = N:=fun i=>by rw [zE6]; exact htl
 have hsucc : ∀ i,runD (zCa L tb ws im ac pl) (zCL tb N) (i + 1) = ((zFb (zCa L tb ws im ac pl) (zCL tb N) i (runD (zCa L tb ws im ac pl) (zCL tb N) i)).1,(runD (zCa L tb ws im ac pl) (zCL tb N) i).2.set ((zCL tb N).getD i 0) (zFb (zCa L tb ws im ac pl) (zCL tb N) i (runD (zCa L tb ws im ac pl) (zCL tb N) i)).2):=fun i=>rfl
 have hr0 : runD (zCa L tb ws im ac pl) (zCL tb N) 0 = ([],List.replicate N 0):=by rw [← htl]; rfl
 have hgr : zMr (zCa L tb ws im ac pl) (zCL tb N) = zDU (runD (zCa L tb ws im ac pl) (zCL tb N) N).1 (zGb ac (runD (zCa L tb ws im ac pl) (zCL tb N) N).2 N):=by
  show zDU (runD _ _ tb.length).1 (zGb ac (runD _ _ tb.length).2 tb.length) = _
  rw [htl]
 have hol : (zCL tb N).length = N:=hI.od.len.trans htl
 have hlt : ∀ x ∈ zCL tb N,x < N:=fun x hx=>by have:=hI.od.lt x hx; rw [← htl]; exact this
 have hDb : ∀ n m,bdB (zCa L tb ws im ac pl) n m = .box 68 [.t 2 (.int .i64 L),.t 1 (rows tb),.t 1 (.sl 1 (wsT ws)),.t 1 (ints im),.t 1 (zH ac),.t 1 (zH pl),.t 1 (zJ (zPM tb N)),.t 1 (zJ (zPI tb N)),.t 1 (zJ (zPL tb N)),.t 1 (ints (nI (zCL tb N))),.own 1 (n * 4),.own 2 0,.own 3 m]:=fun n m=>by
  unfold bdB zCa
  rw [htl]
 have hDim : (zCa L tb ws im ac pl).im = im:=rfl
 have hDtb : (zCa L tb ws im ac pl).tb.length = N:=htl
 have hDod : (zCa L tb ws im ac pl).od = nI (zCL tb N):=by
  show nI (zCL tb tb.length) = _
  rw [htl]
 generalize zCa L tb ws im ac pl = D at *
 generalize zCL tb N = o at *
 rw [hgr]
 clear hgr hI
 obtain ⟨zA,hA,hA2⟩ : ∃ A : Nat,8 * ((N : Int) + 2) * ((N : Int) + 2) = A /\ A <= 1568:=⟨8 * (N + 2) * (N + 2),by push_cast; rfl,Nat.mul_le_mul (show 8 * (N + 2) <= 112 by omega) (show N + 2 <= 14 by omega)⟩
 obtain ⟨zB,hB,hB2⟩ : ∃ B : Nat,(zA : Int) * ((L : Int) + 1) = B /\ B <= 6272:=⟨zA * (L + 1),by push_cast; rfl,Nat.mul_le_mul hA2 (show L + 1 <= 4 by omega)⟩
 obtain ⟨zC,hC,hC2⟩ : ∃ C : Nat,(zB : Int) * ((L : Int) + 1) = C /\ C <= 20000:=⟨zB * (L + 1),by push_cast; rfl,by
  have e1 : zA = 8 * (N + 2) * (N + 2):=by have:=hA.symm; exact Int.ofNat.inj (by push_cast; exact this)
  have e2 : zB = zA * (L + 1):=by have:=hB.symm; push_cast at this; exact Int.ofNat.inj (by push_cast; exact this)
  rw [e2,e1]; exact hlim⟩
 have hC3 : ¬ (20000 : Int) < (zC : Int):=by omega
 refine fI 125 #[.cell 2 33,.tmp 3,.tmp 4] Tryz.func9 rfl ?_
 refine rg1 (an @syV.eq_1 @zH.eq_1) ?_
 refine zD ?_
 refine rc1 hv (an @syV.eq_1 @zH.eq_1) ?_
 refine rg0 ?_
 refine cS0 ?_
 refine zD ?_
 refine rc1 ha (an @syV.eq_1 @zH.eq_1) ?_
 refine cS0 ?_
 refine rd1 @htl ?_
 refine zD ?_
 refine rg1 (an @hA (an @hB (an @hC @hC3))) ?_
 refine cS0 ?_
 refine zw (σ':=mkS [(1,.ptr 0 0 6),(2,.ptr 1 0 2),(6,.t 2 (.int .i64 N)),(7,.t 2 (.int .i64 L))] [(0,.box 27 [.t 2 (.int .i64 L),.t 1 (rows tb),.t 1 (.sl 1 (wsT ws)),.t 1 (ints im),.t 1 (zH ac),.t 1 (zH pl)]),(1,.box 33 [.any,.any])] 2 125 [.any]) ?_ ?_
 ·exact kw1 [(0,some 0),(1,some 1000000)] (an @rows.eq_1 @zH.eq_1)
 clear hA hB hC hC2 hC3 hA2 hB2
 refine rq0 hid ?_
 refine zD ?_
 refine rg1 @hol ?_
 refine zG ?_
 refine awp_loop (fun i : Nat=>mkS [(1,.ptr 4 0 6),(2,.ptr 5 0 2),(8,.ptr 0 0 13),(57,.t 1 (ints (nI o))),(58,.t 2 (.int .i64 N)),(59,.t 2 (.int .i64 i))]
   [(0,bdB D (runD D o i).1.length (runD D o i).2.length),(1,.row 78 4 1 (zBv (runD D o i).1)),(2,.map 78 3 (kents ndK 0 (runD D o i).1)),(3,.row 3 1 1 (idT (runD D o i).2)),(4,.box 27 [.t 2 (.int .i64 L),.t 1 (rows tb),.t 1 (.sl 1 (wsT ws)),.t 1 (ints im),.t 1 (zH ac),.t 1 (zH pl)]),(5,.box 33 [.any,.any])] 6 125 [.any]) (fun i=>i <= N) (fun i=>N - i) ?_ ?_
 ·refine ⟨0,by omega,?_⟩
  rw [hr0,hDb]
  refine zU [(0,some 8000002),(1,none),(2,some 4000002),(3,some 6000002),(4,some 0),(5,some 1)] rfl ?_ ?_ ?_ ?_
  all_goals try simp [ints,rows,zH,idT,zJ,zBv,kents]
 intro i hi
 have hrl:=hrun i hi
 have hfl:=hofl i
 have hsi:=hsucc i
 refine rg0 ?_
 refine zD ?_
 by_cases hlt2 : i < N
 ·obtain ⟨m,hm⟩ : ∃ m,m = o[i]'(by omega):=⟨_,rfl⟩
  have hmN : m < N:=hm ▸ hlt _ (by simp)
  have hgt : ∀ h,(nI o)[i]'h = (m : Int):=fun h=>by simp [nI,hm]
  have hnl : (nI o).length = N:=by rw [zDq,hol]
  have hod : o.getD i 0 = m:=by rw [List.getD_eq_getElem?_getD,List.getElem?_eq_getElem (by omega),hm]; rfl
  have hxs : ∀ x ∈ o.take i,x < D.tb.length:=fun x hx=>by rw [hDtb]; exact hlt x (List.mem_of_mem_take hx)
  have htk : (nI o).take i = nI (o.take i):=by simp [nI,List.map_take]
  have htk2 : (List.map (T.int .i64) (nI o)).take i = List.map (T.int .i64) (nI (o.take i)):=by rw [← List.map_take,htk]
  rw [hod] at hsi
  clear hm
  have hnod : zFb D o i (runD D o i) = if i = 0 then zQo D m (runD D o i).1 else zPe D (runD D o i).2 m (o.take i) (runD D o i).1:=by unfold zFb; rw [hod]
  generalize runD D o i = s at *
  refine cK1 @hlt2 ?_
  refine zD ?_
  refine zG ?_
  refine rg1 (an @hnl (an @hlt2 @hgt)) ?_
  by_cases c0 : i = 0
  ·rw [if_pos c0] at hnod
   have c1:=zOs D s.1 s.2 (m : Int) (by rw [hDim]; omega) (by omega)
   have c1 : FnK Tryz.prog 30 [.ptr 0 0 13,.t 2 (.int .i64 m)] (bdO D s.1 s.2) (.t 2 (.int .i64 ((zFb D o i s).2 : Nat))) (bdO D (zFb D o i s).1 s.2) [3]:=by rw [hnod]; exact c1
   generalize zFb D o i s = r at *
   clear hnod
   subst c0
   refine rg0 ?_
   refine cT0 ?_
   refine zEM [0] [(0,12)] (by kernel_rfl) (by kernel_rfl) (fun K hK=>?_)
   simp (maxSteps:=2000000) (disch:=omega) [ints,rows,scal,zT,wr8,bdB,bdO]
   (repeat' apply And.intro)
   all_goals (try first | omega | (show okH _ _ _ = true; kernel_rfl))
   refine zAL (caps:=[]) (c1) [0,1,2,3] [0,15000006,15000007,3] 1 [3] rfl rfl rfl rfl (by kernel_rfl) (by simp) ?_ ?_ (by simp) rfl (by simp) ⟨.inr (.inl ⟨rfl,0,_,_,_,_,_,rfl,rfl,(by first | rfl | simp [bdO,bdB,zJ,zH]),rfl,(by first | rfl | simp [bdO,bdB,zJ,zH])⟩),.inl ⟨by omega,by omega⟩,.inl ⟨by omega,by omega⟩,.inr (.inr ⟨rfl,by simp,by simp [bdO,bdB,zJ,zH]⟩),trivial⟩ (by simp [bdO,bdB,zJ,zH]) (by intro k hk; simp at hk; simp [hk]) ?_ ?_
   ·simp [scal,rows,ints,bdO,bdB,zJ,zH]
   ·simp [scal,rows,ints,bdO,bdB,zJ,zH]
   ·simp [sameK,scal,rows,ints,bdO,bdB,zJ,zH]
   simp (maxSteps:=2000000) (disch:=omega) [ints,rows,scal,zT,wr8,bdO,bdB,zJ,zH,hfl,hmN,zEu]
   and_intros <;> try first | apply hK | (show zAl _ _ = true; kernel_rfl) | (show okH _ _ _ = true; kernel_rfl) | omega | rfl | simp <;> omega
   show awp _ _ _ _
   refine rr0 ?_
   refine ⟨0 + 1,by omega,by omega,?_⟩
   rw [hsi]
   exact kw1 [(0,some 0),(1,some 15000006),(2,some 15000007),(3,some 3),(4,some 4),(5,some 5)] (an @bdB.eq_1 (an @rows.eq_1 (an @zH.eq_1 (an @zJ.eq_1 @hfl))))
  ·rw [if_neg c0] at hnod
   have c1:=zPA D hD s.1 s.2 m (o.take i) (by rw [hDtb]; exact hmN) (by rw [hDtb]; exact hfl) hxs (by simp; omega) (by omega)
   rw [← hnod] at c1
   generalize zFb D o i s = r at *
   clear hnod
   have c0i : ((i : Int) == 0) = false:=by
    have : ¬ (i : Int) = 0:=by omega
    simpa using this
   refine rg1 @c0i ?_
   refine cF0 ?_
   refine zEM [0] [(0,12)] (by kernel_rfl) (by kernel_rfl) (fun K hK=>?_)
   simp (maxSteps:=2000000) (disch:=omega) [ints,rows,scal,zT,wr8,bdB,bdO,htk,hnl,hDod]
   (repeat' apply And.intro)
   all_goals (try first | omega | (show okH _ _ _ = true; kernel_rfl))
   refine zAL (caps:=[]) (c1) [0,1,2,3] [0,22000006,22000007,3] 1 [3] rfl rfl rfl rfl (by kernel_rfl) (by simp) ?_ ?_ (by simp) rfl (by simp) ⟨.inr (.inl ⟨rfl,0,_,_,_,_,_,rfl,rfl,(by first | rfl | simp [bdO,bdB,zJ,zH,htk2,hDod]),rfl,(by first | rfl | simp [bdO,bdB,zJ,zH,htk2,hDod])⟩),.inl ⟨by omega,by omega⟩,.inl ⟨by omega,by omega⟩,.inr (.inr ⟨rfl,by simp,by simp [bdO,bdB,zJ,zH,htk2,hDod]⟩),trivial⟩ (by simp [bdO,bdB,zJ,zH,htk2,hDod]) (by intro k hk; simp at hk; simp [hk]) ?_ ?_
   ·simp [scal,rows,ints,bdO,bdB,zJ,zH,htk2,hDod]
   ·simp [scal,rows,ints,bdO,bdB,zJ,zH,htk2,hDod]
   ·simp [sameK,scal,rows,ints,bdO,bdB,zJ,zH,htk2,hDod]
   simp (maxSteps:=2000000) (disch:=omega) [ints,rows,scal,zT,wr8,bdO,bdB,zJ,zH,hfl,hmN,zEu]
   and_intros <;> try first | apply hK | (show zAl _ _ = true; kernel_rfl) | (show okH _ _ _ = true; kernel_rfl) | omega | rfl | simp <;> omega
   show awp _ _ _ _
   refine rr0 ?_
   refine ⟨i + 1,by omega,by omega,?_⟩
   rw [hsi]
   exact kw1 [(0,some 0),(1,some 22000006),(2,some 22000007),(3,some 3),(4,some 4),(5,some 5)] (an @bdB.eq_1 (an @rows.eq_1 (an @zH.eq_1 (an @zJ.eq_1 @hfl))))
 ·obtain rfl : N = i:=by omega
  clear hsi hsucc hr0
  generalize runD D o N = s at *
  refine cF0 ?_
  refine zM ?_
  show awp _ _ _ _
  refine zw (σ':=mkS [(1,.ptr 4 0 6),(2,.ptr 5 0 2),(8,.ptr 0 0 13)] [(0,bdB D s.1.length s.2.length),(1,.row 78 4 1 (zBv s.1)),(2,.map 78 3 (kents ndK 0 s.1)),(3,.row 3 1 1 (idT s.2)),(4,.box 27 [.t 2 (.int .i64 L),.t 1 (rows tb),.t 1 (.sl 1 (wsT ws)),.t 1 (ints im),.t 1 (zH ac),.t 1 (zH pl)]),(5,.box 33 [.any,.any])] 6 125 [.any]) ?_ ?_
  ·exact kw1 [(0,some 0),(1,some 1),(2,some 2),(3,some 3),(4,some 4),(5,some 5)] (an @bdB.eq_1 (an @rows.eq_1 @zH.eq_1))
  refine rg0 ?_
  refine zD ?_
  refine rg1 (an @zH.eq_1 @hal) ?_
  refine zG ?_
  refine awp_loop (fun k : Nat=>mkS [(2,.ptr 4 0 2),(8,.ptr 0 0 13),(11,.own 5 (zGb ac s.2 k).length),(93,.t 1 (zH ac)),(94,.t 2 (.int .i64 N)),(95,.t 2 (.int .i64 k))]
   [(0,bdB D s.1.length s.2.length),(1,.row 78 4 1 (zBv s.1)),(2,.map 78 3 (kents ndK 0 s.1)),(3,.row 3 1 1 (idT s.2)),(4,.box 33 [.any,.any]),(5,.row 3 1 2 (idT (zGb ac s.2 k)))] 6 125 [.any]) (fun k=>k <= N) (fun k=>N - k) ?_ ?_
  ·refine ⟨0,by omega,?_⟩
   refine zU [(0,some 0),(1,some 1),(2,some 2),(3,some 3),(4,some 5),(5,none)] rfl ?_ ?_ ?_ ?_
   all_goals try simp [ints,bdB,rows,zH,zGb,idT]
  intro k hk
  have hal2:=zFX ac s.2 k
  refine rg0 ?_
  refine zD ?_
  by_cases hkN : k < N
  ·have hkl : k < ac.length:=by omega
   obtain ⟨b,hb⟩ : ∃ b,b = ac.getD k false:=⟨_,rfl⟩
   have hacb : ∀ hh,ac[k]'hh = b:=fun hh=>by rw [hb,List.getD_eq_getElem?_getD,List.getElem?_eq_getElem hh]; rfl
   have hstep : zGb ac s.2 (k + 1) = if b = true then zGb ac s.2 k ++ [s.2.getD k 0] else zGb ac s.2 k:=by rw [hb]; rfl
   have hofx:=zGl (of:=s.2) (x:=k) (by omega)
   clear hb
   refine cK1 @hkN ?_
   refine zD ?_
   refine zG ?_
   refine rg1 (an @zH.eq_1 (an @hkl @hacb)) ?_
   cases b with
   | true =>
    rw [if_pos rfl] at hstep
    generalize s.2.getD k 0 = q at hstep hofx
    refine rg0 ?_
    refine cT0 ?_
    refine rr1 (an @bdB.eq_1 (an @hofx (an @hfl @hkN))) ?_
    show awp _ _ _ _
    refine rr0 ?_
    refine ⟨k + 1,by omega,by omega,?_⟩
    rw [hstep]
    exact kw1 [(0,some 0),(1,some 1),(2,some 2),(3,some 3),(4,some 4),(5,some 5)] (an @bdB.eq_1 (an @rows.eq_1 (an @zH.eq_1 (an @idT.eq_1 @hfl))))
   | false =>
    rw [if_neg (by simp)] at hstep
    refine rg0 ?_
    refine cY0 ?_
    show awp _ _ _ _
    refine rr0 ?_
    refine ⟨k + 1,by omega,by omega,?_⟩
    rw [hstep]
    exact kw1 [(0,some 0),(1,some 1),(2,some 2),(3,some 3),(4,some 4),(5,some 5)] (an @bdB.eq_1 (an @rows.eq_1 (an @zH.eq_1 (an @idT.eq_1 @hfl))))
  ·obtain rfl : N = k:=by omega
   generalize zGb ac s.2 N = acc at *
   refine cF0 ?_
   refine zM ?_
   show awp _ _ _ _
   have c1:=zFA D s.1 s.2 acc (by omega)
   generalize zDU s.1 acc = g at *
   refine zw (σ':=mkS [(2,.ptr 4 0 2),(8,.ptr 0 0 13),(11,.t 1 (ints (nI acc)))] [(0,bdB D s.1.length s.2.length),(1,.row 78 4 1 (zBv s.1)),(2,.map 78 3 (kents ndK 0 s.1)),(3,.row 3 1 1 (idT s.2)),(4,.box 33 [.any,.any])] 5 125 [.any]) ?_ ?_
   ·exact kw1 [(0,some 0),(1,some 1),(2,some 2),(3,some 3),(4,some 4)] (an @bdB.eq_1 (an @rows.eq_1 (an @zH.eq_1 (an @idT.eq_1 @nI.eq_1))))
   refine zQ fun K hK=>?_
   simp (maxSteps:=2000000) (disch:=omega) [ints,rows,scal,zT,wr8]
   (repeat' apply And.intro)
   all_goals (try omega)
   refine zf (caps:=[]) (c1) [0,1,2,3] [0,2000005,2000006,3] 1 rfl rfl rfl rfl (by kernel_rfl) (by simp) ?_ ?_ (by simp) rfl (by simp) ⟨.inr (.inl ⟨rfl,0,_,_,_,_,_,rfl,rfl,(by first | rfl | simp [bdO,bdB,zJ,zH]),rfl,(by first | rfl | simp [bdO,bdB,zJ,zH])⟩),.inl ⟨by omega,by omega⟩,.inl ⟨by omega,by omega⟩,.inr (.inr ⟨rfl,by simp,by simp [bdO,bdB,zJ,zH]⟩),trivial⟩ (by simp [bdO,bdB,zJ,zH]) ?_
   ·simp [scal,rows,ints,bdO,bdB,zJ,zH]
   ·simp [scal,rows,ints,bdO,bdB,zJ,zH]
   simp (maxSteps:=2000000) (disch:=omega) [ints,rows,scal,zT,wr8,bdO,bdB,zJ,zH]
   and_intros <;> try first | apply hK | omega | rfl | simp <;> omega
   refine zw (σ':=mkS [(2,.ptr 1 0 2),(8,.ptr 0 0 13),(14,.t 2 (.int .i64 g.2))] [(0,.box 68 [.any,.any,.any,.any,.any,.any,.any,.any,.any,.any,.t 1 (.sl 4 (zBv g.1)),.any,.t 1 (ints (nI s.2))]),(1,.box 33 [.any,.any])] 2 125 [.any]) ?_ ?_
   ·exact kw1 [(0,some 0),(1,some 4)] (an @bdB.eq_1 (an @rows.eq_1 (an @zH.eq_1 (an @idT.eq_1 (an @nI.eq_1 @hfl)))))
   refine rd0 ?_
   refine zI ?_
   refine ⟨⟨.inr rfl,_,[],(by simp; rfl),trivial,trivial,by simp [syV,zDe,rows,nI],?_⟩,by simp [syV,zDe,rows,nI]⟩
   simp [ints,rows,syV,zDe,rows,nI]
def zFW (op : Nat) : Nat:=if op = 5 \/ op = 6 \/ op = 7 then 2 else if op = 8 then 1 else 0
theorem zJr {ns : List Nd} {k : Nat} {nd : Nd} (h : ns[k]? = some nd) : List.take 4 (List.drop (k * 4) (zBv ns)) = ndC nd:=by
 obtain ⟨hk,e⟩:=List.getElem?_eq_some_iff.1 h
 have hd : (zBv ns).drop (k * 4) = zBv (ns.drop k):=by
  conv=>lhs; rw [← List.take_append_drop k ns]
  unfold zBv
  rw [List.flatMap_append,List.drop_left' (by have:=zMP (ns.take k); unfold zBv at this; rw [this]; simp; omega)]
 rw [hd,List.drop_eq_getElem_cons hk,e]
 unfold zBv
 rw [List.flatMap_cons]
 rfl
theorem zIS {op : Nat} (h1 : 1 <= op) (h8 : op <= 8) : FnA Tryz.prog 82 [.t 2 (.int .i64 op)] (.t 2 (.int .i64 (zFW op : Nat))):=by
 refine fI 10 #[.tmp 2] Tryz.func82 rfl ?_
 rcases (by omega : op = 1 \/ op = 2 \/ op = 3 \/ op = 4 \/ op = 5 \/ op = 6 \/ op = 7 \/ op = 8) with rfl | rfl | rfl | rfl | rfl | rfl | rfl | rfl
 ·refine rg0 ?_
  refine zD ?_
  refine rg0 ?_
  refine zG ?_
  refine zD ?_
  refine rg0 ?_
  refine cF0 ?_
  refine rg0 ?_
  refine cF0 ?_
  refine rr0 ?_
  show awp _ _ _ _
  refine cF0 ?_
  refine rg0 ?_
  refine cY0 ?_
  show awp _ _ _ _
  refine rg0 ?_
  exact zI (rt1 @zFW.eq_1)
 ·refine rg0 ?_
  refine zD ?_
  refine rg0 ?_
  refine zG ?_
  refine zD ?_
  refine rg0 ?_
  refine cF0 ?_
  refine rg0 ?_
  refine cF0 ?_
  refine rr0 ?_
  show awp _ _ _ _
  refine cF0 ?_
  refine rg0 ?_
  refine cY0 ?_
  show awp _ _ _ _
  refine rg0 ?_
  exact zI (rt1 @zFW.eq_1)
 ·refine rg0 ?_
  refine zD ?_
  refine rg0 ?_
  refine zG ?_
  refine zD ?_
  refine rg0 ?_
  refine cF0 ?_
  refine rg0 ?_
  refine cF0 ?_
  refine rr0 ?_
  show awp _ _ _ _
  refine cF0 ?_
  refine rg0 ?_
  refine cY0 ?_
  show awp _ _ _ _
  refine rg0 ?_
  exact zI (rt1 @zFW.eq_1)
 ·refine rg0 ?_
  refine zD ?_
  refine rg0 ?_
  refine zG ?_
  refine zD ?_
  refine rg0 ?_
  refine cF0 ?_
  refine rg0 ?_
  refine cF0 ?_
  refine rr0 ?_
  show awp _ _ _ _
  refine cF0 ?_
  refine rg0 ?_
  refine cY0 ?_
  show awp _ _ _ _
  refine rg0 ?_
  exact zI (rt1 @zFW.eq_1)
 ·refine rg0 ?_
  refine zD ?_
  refine rg0 ?_
  refine zG ?_
  refine zD ?_
  refine rg0 ?_
  refine cK0 ?_
  refine cT0 ?_
  refine rg0 ?_
  exact zI (rt1 @zFW.eq_1)
 ·refine rg0 ?_
  refine zD ?_
  refine rg0 ?_
  refine zG ?_
  refine zD ?_
  refine rg0 ?_
  refine cF0 ?_
  refine rg0 ?_
  refine cK0 ?_
  refine cT0 ?_
  refine rg0 ?_
  exact zI (rt1 @zFW.eq_1)
 ·refine rg0 ?_
  refine zD ?_
  refine rg0 ?_
  refine zG ?_
  refine zD ?_
  refine rg0 ?_
  refine cF0 ?_
  refine rg0 ?_
  refine cF0 ?_
  refine rr0 ?_
  show awp _ _ _ _
  refine cT0 ?_
  refine rg0 ?_
  exact zI (rt1 @zFW.eq_1)
 ·refine rg0 ?_
  refine zD ?_
  refine rg0 ?_
  refine zG ?_
  refine zD ?_
  refine rg0 ?_
  refine cF0 ?_
  refine rg0 ?_
  refine cF0 ?_
  refine rr0 ?_
  show awp _ _ _ _
  refine cF0 ?_
  refine rg0 ?_
  refine cT0 ?_
  refine rg0 ?_
  exact zI (rt1 @zFW.eq_1)
theorem zDJ {p i : Nat} {nd : Bool} (h : if nd = true then p < i else p = 0) : FnA Tryz.prog 81 [.t 2 (.int .i64 p),.t 2 (.int .i64 i),.t 2 (.bool nd)] (.t 2 (.bool true)):=by
 refine fI 17 #[.tmp 6] Tryz.func81 rfl ?_
 cases nd with
 | true =>
  have h : p < i:=h
  refine rg0 ?_
  refine zD ?_
  refine rg0 ?_
  refine cT0 ?_
  refine rg1 @h ?_
  exact zI (rt1 @h)
 | false =>
  have h : p = 0:=h
  subst h
  refine rg0 ?_
  refine zD ?_
  refine rg0 ?_
  refine cS0 ?_
  refine rg0 ?_
  exact zI rt0
theorem zGV {L i : Nat} {nd : Nd} (h : zQk L i nd) (hL : L <= 6) : FnA Tryz.prog 39 [.agg [.t 2 (.int .i64 nd.1),.t 2 (.int .i64 nd.2.1),.t 2 (.int .i64 nd.2.2.1),.t 2 (.int .i64 nd.2.2.2)],.t 2 (.int .i64 i),.t 2 (.int .i64 L)] (.t 2 (.bool true)):=by
 obtain ⟨op,l,a,b⟩:=nd
 obtain ⟨⟨h1,h8⟩,h3,hn,ha,han,hb,hbn⟩:=h
 simp only at h1 h8 h3 hn ha han hb hbn
 simp only
 have hp:=zIS h1 h8
 have hva : FnA Tryz.prog 81 [.t 2 (.int .i64 a),.t 2 (.int .i64 i),.t 2 (.bool (decide (1 <= zFW op)))] (.t 2 (.bool true)):=zDJ (by
  by_cases c : 5 <= op
  ·have e : decide (1 <= zFW op) = true:=by
    rcases (by omega : op = 5 \/ op = 6 \/ op = 7 \/ op = 8) with rfl | rfl | rfl | rfl <;> rfl
   rw [if_pos e]
   exact ha c
  ·have e : decide (1 <= zFW op) = false:=by
    rcases (by omega : op = 1 \/ op = 2 \/ op = 3 \/ op = 4) with rfl | rfl | rfl | rfl <;> rfl
   rw [if_neg (by rw [e]; simp)]
   exact han (by omega))
 have hvb : FnA Tryz.prog 81 [.t 2 (.int .i64 b),.t 2 (.int .i64 i),.t 2 (.bool (decide (zFW op = 2)))] (.t 2 (.bool true)):=zDJ (by
  by_cases c : 5 <= op /\ op <= 7
  ·have e : decide (zFW op = 2) = true:=by
    rcases (by omega : op = 5 \/ op = 6 \/ op = 7) with rfl | rfl | rfl <;> rfl
   rw [if_pos e]
   exact hb c.1 c.2
  ·have e : decide (zFW op = 2) = false:=by
    rcases (by omega : op = 1 \/ op = 2 \/ op = 3 \/ op = 4 \/ op = 8) with rfl | rfl | rfl | rfl | rfl <;> rfl
   rw [if_neg (by rw [e]; simp)]
   exact hbn (by omega))
 generalize zFW op = q at hp hva hvb
 have e1 : decide ((1 : Int) <= (q : Int)) = decide (1 <= q):=by rw [decide_eq_decide]; omega
 have e2 : (((q : Nat) : Int) == 2) = decide (q = 2):=by rw [Bool.eq_iff_iff]; simp; omega
 have e3 : decide (((q : Nat) : Int) = 2) = decide (q = 2):=by rw [decide_eq_decide]; omega
 have d1 : ¬ (op : Int) < 1:=by omega
 have d2 : ¬ (8 : Int) < (op : Int):=by omega
 refine fI 48 #[.tmp 6] Tryz.func39 rfl ?_
 refine rg0 ?_
 refine zD ?_
 refine rg1 (an @d1 @d2) ?_
 refine cS0 ?_
 refine zD ?_
 by_cases c3 : op = 3
 ·have hl:=h3 c3
  have d3 : ¬ (l : Int) < 0:=by omega
  have d4 : ¬ (L : Int) <= (l : Int):=by omega
  subst c3
  refine rg0 ?_
  refine cT0 ?_
  refine rg1 (an @d3 @d4) ?_
  refine cS0 ?_
  generalize decide (1 <= q) = b1 at *
  generalize decide (q = 2) = b2 at *
  refine zAC (by kernel_rfl) (fun K hK=>?_)
  simp (maxSteps:=2000000) (disch:=omega) [ints,rows,scal,zT,wr8]
  (repeat' apply And.intro)
  all_goals (try omega)
  refine za (caps:=[]) (hp) [] [] 2 rfl rfl rfl rfl (by kernel_rfl) (by simp) ?_ trivial trivial rfl trivial trivial (by simp) ?_
  ·simp [scal,rows,ints]
  simp (maxSteps:=2000000) (disch:=omega) [ints,rows,scal,zT,wr8,e1]
  (repeat' apply And.intro)
  all_goals (try omega)
  refine za (caps:=[]) (hva) [] [] 2 rfl rfl rfl rfl (by kernel_rfl) (by simp) ?_ trivial trivial rfl trivial trivial (by simp) ?_
  ·simp [scal,rows,ints]
  simp (maxSteps:=2000000) (disch:=omega) [ints,rows,scal,zT,wr8]
  (repeat' apply And.intro)
  all_goals (try omega)
  refine za (caps:=[]) (hp) [] [] 2 (by simp [scal,rows,ints]) rfl rfl rfl (by kernel_rfl) (by simp) ?_ trivial trivial rfl trivial trivial (by simp) ?_
  ·simp [scal,rows,ints]
  simp (maxSteps:=2000000) (disch:=omega) [ints,rows,scal,zT,wr8,e2,e3]
  (repeat' apply And.intro)
  all_goals (try omega)
  refine za (caps:=[]) (hvb) [] [] 2 (by simp [scal,rows,ints]) rfl rfl rfl (by kernel_rfl) (by simp) ?_ trivial trivial rfl trivial trivial (by simp) ?_
  ·simp [scal,rows,ints]
  simp (maxSteps:=2000000) (disch:=omega) [ints,rows,scal,zT,wr8]
  (repeat' first | apply hK | apply And.intro) <;> try first | (show zAl _ _ = true; kernel_rfl) | (show okH _ _ _ = true; kernel_rfl) | omega | rfl | (simp <;> omega)
  exact zI rt0
 ·have hl:=hn c3
  subst hl
  have c3i : ¬ (op : Int) = 3:=by omega
  have c3b : ((op : Int) == 3) = false:=by simpa using c3i
  refine rg1 (an @c3i @c3b) ?_
  refine cF1 @c3i ?_
  refine rg0 ?_
  refine cS0 ?_
  generalize decide (1 <= q) = b1 at *
  generalize decide (q = 2) = b2 at *
  refine zAC (by kernel_rfl) (fun K hK=>?_)
  simp (maxSteps:=2000000) (disch:=omega) [ints,rows,scal,zT,wr8]
  (repeat' apply And.intro)
  all_goals (try omega)
  refine za (caps:=[]) (hp) [] [] 2 rfl rfl rfl rfl (by kernel_rfl) (by simp) ?_ trivial trivial rfl trivial trivial (by simp) ?_
  ·simp [scal,rows,ints]
  simp (maxSteps:=2000000) (disch:=omega) [ints,rows,scal,zT,wr8,e1]
  (repeat' apply And.intro)
  all_goals (try omega)
  refine za (caps:=[]) (hva) [] [] 2 rfl rfl rfl rfl (by kernel_rfl) (by simp) ?_ trivial trivial rfl trivial trivial (by simp) ?_
  ·simp [scal,rows,ints]
  simp (maxSteps:=2000000) (disch:=omega) [ints,rows,scal,zT,wr8]
  (repeat' apply And.intro)
  all_goals (try omega)
  refine za (caps:=[]) (hp) [] [] 2 (by simp [scal,rows,ints]) rfl rfl rfl (by kernel_rfl) (by simp) ?_ trivial trivial rfl trivial trivial (by simp) ?_
  ·simp [scal,rows,ints]
  simp (maxSteps:=2000000) (disch:=omega) [ints,rows,scal,zT,wr8,e2,e3]
  (repeat' apply And.intro)
  all_goals (try omega)
  refine za (caps:=[]) (hvb) [] [] 2 (by simp [scal,rows,ints]) rfl rfl rfl (by kernel_rfl) (by simp) ?_ trivial trivial rfl trivial trivial (by simp) ?_
  ·simp [scal,rows,ints]
  simp (maxSteps:=2000000) (disch:=omega) [ints,rows,scal,zT,wr8]
  (repeat' first | apply hK | apply And.intro) <;> try first | (show zAl _ _ = true; kernel_rfl) | (show okH _ _ _ = true; kernel_rfl) | omega | rfl | (simp <;> omega)
  exact zI rt0
theorem GV.le {L M : Nat} {ns : List Nd} (h : GV L ns) (hm : L <= M) : GV M ns:=fun i nd hi=>by
 have:=h i nd hi
 exact ⟨this.op,fun e=>by have:=this.l3 e; omega,this.ln,this.a5,this.an,this.b5,this.bn⟩
def grO (p : Nat) (ns : List Nd) (root : Nat) : AObj:=.box 33 [.t p (.sl 4 (zBv ns)),.t 2 (.int .i64 (root : Nat))]
theorem zEx {L root : Nat} {ns : List Nd} (h : GV L ns) (hL1 : 1 <= L) (hL : L <= 6) (hr : root < ns.length) (hn : ns.length <= 20000) : FnA Tryz.prog 14 [zDe 0 ns root,.t 2 (.int .i64 L)] (.t 2 (.int .i64 0)):=by
 have hdv:=zEo ns
 have d1 : ¬ (L : Int) < 1:=by omega
 have d2 : ¬ (6 : Int) < (L : Int):=by omega
 have d3 : ¬ (20000 : Int) < (ns.length : Int):=by omega
 have d4 : ¬ (root : Int) < 0:=by omega
 have d5 : ¬ (ns.length : Int) <= (root : Int):=by omega
 refine fI 42 #[.tmp 4] Tryz.func14 rfl ?_
 refine rg1 @zDe.eq_1 ?_
 refine zD ?_
 refine rg1 (an @d1 @d2) ?_
 refine cS0 ?_
 refine zD ?_
 refine rg1 (an @hdv @d3) ?_
 refine cS0 ?_
 refine zD ?_
 refine rg1 @hdv ?_
 refine zG ?_
 refine awp_loop (fun i : Nat=>mkS [(1,.t 2 (.int .i64 L)),(2,.ptr 0 0 2),(18,.t 0 (.sl 4 (zBv ns))),(19,.t 2 (.int .i64 ns.length)),(20,.t 2 (.int .i64 i))] [(0,grO 0 ns root)] 1 42 [.any,.any]) (fun i=>i <= ns.length) (fun i=>ns.length - i) ?_ ?_
 ·refine ⟨0,by omega,?_⟩
  exact kw1 [(0,some 0)] @grO.eq_1
 intro i hi
 refine rg0 ?_
 refine zD ?_
 by_cases hlt : i < ns.length
 ·obtain ⟨nd,hnd⟩ : ∃ nd,ns[i]? = some nd:=⟨_,List.getElem?_eq_getElem hlt⟩
  have hat:=zJr hnd
  have hin : i * 4 + 4 <= ns.length * 4:=by omega
  have hv:=zGV (h i nd hnd) hL
  refine cK1 @hlt ?_
  refine zD ?_
  refine zG ?_
  refine rg1 (an @hat (an @hin @ndC.eq_1)) ?_
  refine rc0 hv ?_
  refine cY0 ?_
  show awp _ _ _ _
  refine rr0 ?_
  refine ⟨i + 1,by omega,by omega,?_⟩
  exact kw1 [(0,some 0)] @grO.eq_1
 ·obtain rfl : i = ns.length:=by omega
  refine cF0 ?_
  refine zM ?_
  show awp _ _ _ _
  refine zD ?_
  refine rg1 (an @grO.eq_1 (an @hdv (an @d4 @d5))) ?_
  refine cS0 ?_
  refine rg0 ?_
  exact zI (rt1 @zDe.eq_1)
structure RcI (ns : List Nd) (root i : Nat) (ms : List Bool) : Prop where
 len : ms.length = ns.length
 rt : ms.getD root false = true
 cl : ∀ (j : Nat) nd,i <= j -> ns[j]? = some nd -> ms.getD j false = true -> (5 <= nd.1 -> ms.getD nd.2.2.1 false = true) /\ (5 <= nd.1 -> nd.1 <= 7 -> ms.getD nd.2.2.2 false = true)
theorem zAq {ms : List Bool} {i j : Nat} (h : i < ms.length) : (ms.set i true).getD j false = if j = i then true else ms.getD j false:=by
 by_cases c : j = i
 ·subst c
  rw [if_pos rfl,List.getD_eq_getElem?_getD,List.getElem?_set_self h]
  rfl
 ·rw [if_neg c,List.getD_eq_getElem?_getD,List.getElem?_set_ne (Ne.symm c),← List.getD_eq_getElem?_getD]
theorem RcI.start {ns : List Nd} {root : Nat} (hr : root < ns.length) : RcI ns root (root + 1) ((List.replicate ns.length false).set root true):=⟨by simp,by rw [zAq (by simpa using hr),if_pos rfl],fun j nd hj hn hm=>by
 rw [zAq (by simpa using hr),if_neg (by omega),List.getD_eq_getElem?_getD,List.getElem?_replicate] at hm
 exfalso
 split at hm <;> simp at hm⟩
theorem RcI.old {ns : List Nd} {root i : Nat} {ms : List Bool} (h : RcI ns root (i + 1) ms) (hm : ms.getD i false = false) : RcI ns root i ms:=⟨h.len,h.rt,fun j nd hj hn hj2=>by
 by_cases c : j = i
 ·subst c; rw [hm] at hj2; cases hj2
 ·exact h.cl j nd (by omega) hn hj2⟩
theorem RcI.mark {ns : List Nd} {root i a : Nat} {ms : List Bool} (h : RcI ns root (i + 1) ms) (ha : a < i) (hi : i < ns.length) : RcI ns root (i + 1) (ms.set a true) /\ (ms.set a true).getD i false = ms.getD i false /\ (ms.set a true).getD a false = true:=by
 have hl : a < ms.length:=by rw [h.len]; omega
 refine ⟨⟨by simp [h.len],by rw [zAq hl]; split <;> first | rfl | exact h.rt,fun j nd hj hn hm=>?_⟩,by rw [zAq hl,if_neg (by omega)],by rw [zAq hl,if_pos rfl]⟩
 rw [zAq hl,if_neg (by omega)] at hm
 obtain ⟨h1,h2⟩:=h.cl j nd hj hn hm
 exact ⟨fun e=>by rw [zAq hl]; split <;> first | rfl | exact h1 e,fun e e2=>by rw [zAq hl]; split <;> first | rfl | exact h2 e e2⟩
theorem RcI.next {ns : List Nd} {root i : Nat} {ms : List Bool} {nd : Nd} (h : RcI ns root (i + 1) ms) (hn : ns[i]? = some nd) (h1 : 5 <= nd.1 -> ms.getD nd.2.2.1 false = true) (h2 : 5 <= nd.1 -> nd.1 <= 7 -> ms.getD nd.2.2.2 false = true) : RcI ns root i ms:=⟨h.len,h.rt,fun j nd' hj hn' hm=>by
 by_cases c : j = i
 ·subst c
  rw [hn] at hn'
  injection hn' with hn'
  subst hn'
  exact ⟨h1,h2⟩
 ·exact h.cl j nd' (by omega) hn' hm⟩
theorem zIw {L root : Nat} {ns : List Nd} (h : GV L ns) (hr : root < ns.length) (hn : ns.length <= 20000) : ∃ res,(∃ ms,RcI ns root 0 ms /\ res = .t 2 (zH ms)) /\ FnA Tryz.prog 44 [zDe 0 ns root] res:=by
 have hdv:=zEo ns
 refine zn Tryz.func44 rfl (by simp [Tryz.f44]) ?_
 rw [show Tryz.f44.ntmps = 47 from rfl,show Tryz.f44.results = #[.tmp 2] from rfl]
 refine zQ fun K hK=>?_
 simp (maxSteps:=2000000) (disch:=omega) [ints,rows,scal,zT,wr8,zDe]
 and_intros <;> try first | apply hK | omega | rfl | simp <;> omega
 refine zQ fun K hK=>?_
 simp (maxSteps:=2000000) (disch:=omega) [ints,rows,scal,zT,wr8,hdv]
 and_intros <;> try first | apply hK | omega | rfl | simp <;> omega
 refine zQ fun K hK=>?_
 simp (maxSteps:=2000000) (disch:=omega) [ints,rows,scal,zT,wr8,hdv,hr]
 and_intros <;> try first | apply hK | omega | rfl | simp <;> omega
 refine zD ?_
 refine zQ fun K hK=>?_
 simp (maxSteps:=2000000) (disch:=omega) [ints,rows,scal,zT,wr8]
 and_intros <;> try first | apply hK | omega | rfl | simp <;> omega
 refine zG ?_
 refine awp_loop (fun y : Nat × List Bool=>mkS [(1,.ptr 0 0 2),(3,.own 1 ns.length),(4,.t 2 (.int .i64 ((y.1 : Int) - 1)))] [(0,grO 0 ns root),(1,.row 4 1 2 (y.2.map .bool))] 2 47 [.any]) (fun y=>y.1 <= root + 1 /\ RcI ns root y.1 y.2) (fun y=>y.1) ?_ ?_
 ·refine ⟨(root + 1,(List.replicate ns.length false).set root true),⟨by simp,RcI.start hr⟩,?_⟩
  refine zU [(0,some 0),(1,some 5000000)] rfl ?_ ?_ ?_ ?_
  all_goals try simp [ints,grO,zH]
  all_goals (trace_state; sorry)
 rintro ⟨i,ms⟩ ⟨hi,hI⟩
 simp only at hi hI
 have hml:=hI.len
 refine zD ?_
 cases i with
 | zero =>
  refine zQ fun K hK=>?_
  simp (maxSteps:=2000000) (disch:=omega) [ints,rows,scal,zT,wr8]
  and_intros <;> try first | apply hK | omega | rfl | simp <;> omega
  refine zz (b:=false) (p:=2) (by simp [scal] <;> omega) ?_
  refine zM ?_
  show awp _ _ _ _
  refine zQ fun K hK=>?_
  simp (maxSteps:=2000000) (disch:=omega) [ints,rows,scal,zT,wr8]
  and_intros <;> try first | apply hK | omega | rfl | simp <;> omega
  refine zI ?_
  refine ⟨_,⟨ms,hI,rfl⟩,?_⟩
  refine ⟨⟨.inr rfl,_,[],rfl,trivial,trivial,by simp [zDe,zH,hml],?_⟩,by simp [zDe,zH,hml]⟩
  simp [zDe,zH,hml]
 | succ i =>
  obtain ⟨nd,hnd⟩ : ∃ nd,ns[i]? = some nd:=⟨_,List.getElem?_eq_getElem (by omega)⟩
  have hiN : i < ns.length:=by omega
  have him : i < ms.length:=by omega
  have hsub : (((i + 1 : Nat) : Int) - 1) = (i : Int):=by omega
  have hge : (0 : Int) <= (i : Int):=by omega
  refine zw (σ':=mkS [(1,.ptr 0 0 2),(3,.own 1 ns.length),(4,.t 2 (.int .i64 (i : Nat)))] [(0,grO 0 ns root),(1,.row 4 1 2 (ms.map .bool))] 2 47 [.any]) ?_ ?_
  ·refine zU [(0,some 0),(1,some 1)] rfl ?_ ?_ ?_ ?_
   all_goals try simp [ints,grO,zH,hsub]
  refine zQ fun K hK=>?_
  simp (maxSteps:=2000000) (disch:=omega) [ints,rows,scal,zT,wr8,hge]
  and_intros <;> try first | apply hK | omega | rfl | simp <;> omega
  refine zz (b:=true) (p:=2) (by simp [scal,hge] <;> omega) ?_
  refine zc ?_
  show awp _ _ _ _
  refine zD ?_
  refine zG ?_
  refine zD ?_
  have hmg : ms.getD i false = ms[i]:=by rw [List.getD_eq_getElem?_getD,List.getElem?_eq_getElem him]; rfl
  obtain ⟨mb,hmb⟩ : ∃ mb,mb = ms.getD i false:=⟨_,rfl⟩
  have hmh : ∀ hh,ms[i]'hh = mb:=fun hh=>by rw [hmb,hmg]
  clear hmg
  cases mb with
  | false =>
   refine zQ fun K hK=>?_
   simp (maxSteps:=2000000) (disch:=omega) [ints,rows,scal,zT,wr8,him,hmh,hml,hiN]
   and_intros <;> try first | apply hK | omega | rfl | simp <;> omega
   refine zz (b:=true) (p:=2) (by simp [scal] <;> omega) ?_
   refine zM ?_
   show awp _ _ _ _
   refine zAe fun K hK=>?_
   simp (maxSteps:=2000000) (disch:=omega) [ints,rows,scal,zT,wr8]
   (repeat' first | apply hK | apply And.intro) <;> try first | omega | rfl | (simp <;> omega)
   refine ⟨(i,ms),⟨by simp only; omega,hI.old hmb.symm⟩,by simp only; omega,?_⟩
   refine zU [(0,some 0),(1,some 1)] rfl ?_ ?_ ?_ ?_
   all_goals try simp [ints,grO,zH]
  | true =>
   have hat:=zJr hnd
   have hin : i * 4 + 4 <= ns.length * 4:=by omega
   have hok:=h i nd hnd
   obtain ⟨op,l,a,b⟩:=nd
   have h1:=hok.op.1
   have h8:=hok.op.2
   simp only at h1 h8
   have hp:=zIS h1 h8
   refine zQ fun K hK=>?_
   simp (maxSteps:=2000000) (disch:=omega) [ints,rows,scal,zT,wr8,him,hmh,hml,hiN]
   and_intros <;> try first | apply hK | omega | rfl | simp <;> omega
   refine zz (b:=false) (p:=2) (by simp [scal] <;> omega) ?_
   refine zc ?_
   show awp _ _ _ _
   refine zQ fun K hK=>?_
   simp (maxSteps:=2000000) (disch:=omega) [ints,rows,scal,zT,wr8,grO,hat,hin,ndC,hdv,hiN]
   and_intros <;> try first | apply hK | omega | rfl | simp <;> omega
   refine zD ?_
   rcases (by omega : op <= 4 \/ op = 8 \/ (5 <= op /\ op <= 7)) with c | c | c
   ·have hq : zFW op = 0:=by rcases (by omega : op = 1 \/ op = 2 \/ op = 3 \/ op = 4) with rfl | rfl | rfl | rfl <;> rfl
    rw [hq] at hp
    refine zQ fun K hK=>?_
    simp (maxSteps:=2000000) (disch:=omega) [ints,rows,scal,zT,wr8]
    (repeat' apply And.intro)
    all_goals (try omega)
    refine zK (caps:=[]) (hp) [] [] 2 rfl rfl rfl rfl (by kernel_rfl) (by simp) ?_ trivial trivial rfl trivial trivial (by simp) ?_
    ·simp [scal,rows,ints]
    simp (maxSteps:=2000000) (disch:=omega) [ints,rows,scal,zT,wr8]
    and_intros <;> try first | apply hK | omega | rfl | simp <;> omega
    refine zz (b:=false) (p:=2) (by simp [scal] <;> omega) ?_
    refine zc ?_
    show awp _ _ _ _
    refine zQ fun K hK=>?_
    simp (maxSteps:=2000000) (disch:=omega) [ints,rows,scal,zT,wr8]
    (repeat' apply And.intro)
    all_goals (try omega)
    refine zK (caps:=[]) (hp) [] [] 2 rfl rfl rfl rfl (by kernel_rfl) (by simp) ?_ trivial trivial rfl trivial trivial (by simp) ?_
    ·simp [scal,rows,ints]
    simp (maxSteps:=2000000) (disch:=omega) [ints,rows,scal,zT,wr8]
    and_intros <;> try first | apply hK | omega | rfl | simp <;> omega
    refine zz (b:=false) (p:=2) (by simp [scal] <;> omega) ?_
    refine zc ?_
    show awp _ _ _ _
    refine zAe fun K hK=>?_
    simp (maxSteps:=2000000) (disch:=omega) [ints,rows,scal,zT,wr8]
    (repeat' first | apply hK | apply And.intro) <;> try first | omega | rfl | (simp <;> omega)
    refine ⟨(i,ms),⟨by simp only; omega,hI.next hnd (fun e=>by simp only at e; omega) (fun e=>by simp only at e; omega)⟩,by simp only; omega,?_⟩
    refine zU [(0,some 0),(1,some 1)] rfl ?_ ?_ ?_ ?_
    all_goals try simp [ints,grO,zH]
   ·have hq : zFW op = 1:=by subst c; rfl
    have ha:=hok.a5 (by simp only; omega)
    simp only at ha
    have hal : a < ms.length:=by omega
    obtain ⟨m1,m2,m3⟩:=hI.mark ha hiN
    rw [hq] at hp
    refine zQ fun K hK=>?_
    simp (maxSteps:=2000000) (disch:=omega) [ints,rows,scal,zT,wr8]
    (repeat' apply And.intro)
    all_goals (try omega)
    refine zK (caps:=[]) (hp) [] [] 2 rfl rfl rfl rfl (by kernel_rfl) (by simp) ?_ trivial trivial rfl trivial trivial (by simp) ?_
    ·simp [scal,rows,ints]
    simp (maxSteps:=2000000) (disch:=omega) [ints,rows,scal,zT,wr8]
    and_intros <;> try first | apply hK | omega | rfl | simp <;> omega
    refine zz (b:=true) (p:=2) (by simp [scal] <;> omega) ?_
    refine zAe fun K hK=>?_
    simp (maxSteps:=2000000) (disch:=omega) [ints,rows,scal,zT,wr8,hal,hml]
    and_intros <;> try first | apply hK | omega | rfl | simp <;> omega
    show awp _ _ _ _
    refine zQ fun K hK=>?_
    simp (maxSteps:=2000000) (disch:=omega) [ints,rows,scal,zT,wr8]
    (repeat' apply And.intro)
    all_goals (try omega)
    refine zK (caps:=[]) (hp) [] [] 2 rfl rfl rfl rfl (by kernel_rfl) (by simp) ?_ trivial trivial rfl trivial trivial (by simp) ?_
    ·simp [scal,rows,ints]
    simp (maxSteps:=2000000) (disch:=omega) [ints,rows,scal,zT,wr8]
    and_intros <;> try first | apply hK | omega | rfl | simp <;> omega
    refine zz (b:=false) (p:=2) (by simp [scal] <;> omega) ?_
    refine zc ?_
    show awp _ _ _ _
    refine zAe fun K hK=>?_
    simp (maxSteps:=2000000) (disch:=omega) [ints,rows,scal,zT,wr8]
    (repeat' first | apply hK | apply And.intro) <;> try first | omega | rfl | (simp <;> omega)
    refine ⟨(i,ms.set a true),⟨by simp only; omega,m1.next hnd (fun _=>m3) (fun _ e=>by simp only at e; omega)⟩,by simp only; omega,?_⟩
    refine zU [(0,some 0),(1,some 1)] rfl ?_ ?_ ?_ ?_
    all_goals try simp [ints,grO,zH,List.map_set]
   ·have hq : zFW op = 2:=by rcases (by omega : op = 5 \/ op = 6 \/ op = 7) with rfl | rfl | rfl <;> rfl
    have ha:=hok.a5 (by simp only; omega)
    have hb:=hok.b5 (by simp only; omega) (by simp only; omega)
    simp only at ha hb
    have hal : a < ms.length:=by omega
    have hbl : b < ms.length:=by omega
    obtain ⟨m1,m2,m3⟩:=hI.mark ha hiN
    obtain ⟨p1,p2,p3⟩:=m1.mark hb hiN
    have m4 : ((ms.set a true).set b true).getD a false = true:=by
     rw [zAq (by simpa using hbl)]
     split
     ·rfl
     ·exact m3
    rw [hq] at hp
    refine zQ fun K hK=>?_
    simp (maxSteps:=2000000) (disch:=omega) [ints,rows,scal,zT,wr8]
    (repeat' apply And.intro)
    all_goals (try omega)
    refine zK (caps:=[]) (hp) [] [] 2 rfl rfl rfl rfl (by kernel_rfl) (by simp) ?_ trivial trivial rfl trivial trivial (by simp) ?_
    ·simp [scal,rows,ints]
    simp (maxSteps:=2000000) (disch:=omega) [ints,rows,scal,zT,wr8]
    and_intros <;> try first | apply hK | omega | rfl | simp <;> omega
    refine zz (b:=true) (p:=2) (by simp [scal] <;> omega) ?_
    refine zAe fun K hK=>?_
    simp (maxSteps:=2000000) (disch:=omega) [ints,rows,scal,zT,wr8,hal,hml]
    and_intros <;> try first | apply hK | omega | rfl | simp <;> omega
    show awp _ _ _ _
    refine zQ fun K hK=>?_
    simp (maxSteps:=2000000) (disch:=omega) [ints,rows,scal,zT,wr8]
    (repeat' apply And.intro)
    all_goals (try omega)
    refine zK (caps:=[]) (hp) [] [] 2 rfl rfl rfl rfl (by kernel_rfl) (by simp) ?_ trivial trivial rfl trivial trivial (by simp) ?_
    ·simp [scal,rows,ints]
    simp (maxSteps:=2000000) (disch:=omega) [ints,rows,scal,zT,wr8]
    and_intros <;> try first | apply hK | omega | rfl | simp <;> omega
    refine zz (b:=true) (p:=2) (by simp [scal] <;> omega) ?_
    refine zAe fun K hK=>?_
    simp (maxSteps:=2000000) (disch:=omega) [ints,rows,scal,zT,wr8,hbl,hml]
    and_intros <;> try first | apply hK | omega | rfl | simp <;> omega
    show awp _ _ _ _
    refine zAe fun K hK=>?_
    simp (maxSteps:=2000000) (disch:=omega) [ints,rows,scal,zT,wr8]
    (repeat' first | apply hK | apply And.intro) <;> try first | omega | rfl | (simp <;> omega)
    refine ⟨(i,(ms.set a true).set b true),⟨by simp only; omega,p1.next hnd (fun _=>m4) (fun _ _=>p3)⟩,by simp only; omega,?_⟩
    refine zU [(0,some 0),(1,some 1)] rfl ?_ ?_ ?_ ?_
    all_goals try simp [ints,grO,zH,List.map_set]
def zHA (ns : List Nd) (ms : List Bool) (w : List Nat) (i : Nat) : List T:=tab ns.length fun j=>if j < i /\ ms.getD j false = true then .sl 2 (zAT (zC2 (zBW ns j) w)) else .sl 0 []
theorem zMu (ns : List Nd) (ms : List Bool) (w : List Nat) (i : Nat) : (zHA ns ms w i).length = ns.length:=by simp [zHA]
theorem zLg (ns : List Nd) (ms : List Bool) (w : List Nat) : zHA ns ms w 0 = List.replicate ns.length (.sl 0 []):=by
 unfold zHA
 rw [zAB]
 refine zV fun j _=>?_
 rw [if_neg (by omega)]
theorem zMk {ns : List Nd} {ms : List Bool} {w : List Nat} {i : Nat} (hm : ms.getD i false = true) : (zHA ns ms w i).set i (.sl 2 (zAT (zC2 (zBW ns i) w))) = zHA ns ms w (i + 1):=by
 unfold zHA
 rw [zp]
 refine zV fun j _=>?_
 by_cases c : j = i
 ·subst c
  rw [if_pos rfl,if_pos ⟨by omega,hm⟩]
 ·rw [if_neg c]
  by_cases d : j < i /\ ms.getD j false = true
  ·rw [if_pos d,if_pos ⟨by omega,d.2⟩]
  ·rw [if_neg d,if_neg (fun g=>d ⟨by omega,g.2⟩)]
theorem zLE {ns : List Nd} {ms : List Bool} {w : List Nat} {i : Nat} (hm : ms.getD i false = false) : zHA ns ms w (i + 1) = zHA ns ms w i:=by
 unfold zHA
 refine zV fun j _=>?_
 by_cases c : j = i
 ·subst c
  rw [hm,if_neg (by simp),if_neg (by simp)]
 ·by_cases d : j < i /\ ms.getD j false = true
  ·rw [if_pos d,if_pos ⟨by omega,d.2⟩]
  ·rw [if_neg d,if_neg (fun g=>d ⟨by omega,g.2⟩)]
theorem zGe {ns : List Nd} {ms : List Bool} {w : List Nat} {i j : Nat} (hj : j < ns.length) (h : j < i) (hm : ms.getD j false = true) : (zHA ns ms w i)[j]? = some (.sl 2 (zAT (zC2 (zBW ns j) w))):=by
 unfold zHA
 rw [zZ _ hj,if_pos ⟨h,hm⟩]
theorem zHy {L root : Nat} {ns : List Nd} {w : List Nat} (h : GV L ns) (hL : L <= 6) (hr : root < ns.length) (hn : ns.length <= 20000) (hw : ∀ x ∈ w,x < 6) (hl : w.length <= 50) : FnA Tryz.prog 20 [zDe 0 ns root,.t 2 (.str (zAF w))] (.t 2 (.bool (zBW ns root w))):=by
 have hdv:=zEo ns
 have hval:=zEx (h.le hL) (by omega) (Nat.le_refl 6) hr hn
 have hwv:=zGI hw (by omega) (Nat.le_refl 6) (by omega)
 obtain ⟨_,⟨ms,hI,rfl⟩,hrc⟩:=zIw h hr hn
 have hml:=hI.len
 have d1 : ¬ (64 : Int) < (w.length : Int):=by omega
 refine fI 56 #[.tmp 4] Tryz.func20 rfl ?_
 refine rg1 @zDe.eq_1 ?_
 refine zD ?_
 refine zQ fun K hK=>?_
 simp (maxSteps:=2000000) (disch:=omega) [ints,rows,scal,zT,wr8]
 (repeat' apply And.intro)
 all_goals (try omega)
 refine zK (caps:=[]) (hval) [] [] 2 rfl rfl rfl rfl (by kernel_rfl) (by simp) ?_ trivial trivial rfl trivial trivial (by simp) ?_
 ·simp [scal,rows,ints,zDe]
 simp (maxSteps:=2000000) (disch:=omega) [ints,rows,scal,zT,wr8]
 (repeat' apply And.intro)
 all_goals (try omega)
 refine zK (caps:=[]) (hwv) [] [] 2 (by simp [scal,rows,ints]) rfl rfl rfl (by kernel_rfl) (by simp) ?_ trivial trivial rfl trivial trivial (by simp) ?_
 ·simp [scal,rows,ints]
 simp (maxSteps:=2000000) (disch:=omega) [ints,rows,scal,zT,wr8,d1]
 (repeat' first | apply hK | apply And.intro) <;> try first | omega | rfl | (simp <;> omega)
 refine cS0 ?_
 refine rg1 @hdv ?_
 refine zD ?_
 refine rc1 hrc (an @zDe.eq_1 (an @zH.eq_1 @hml)) ?_
 refine zG ?_
 refine awp_loop (fun i : Nat=>mkS [(1,.t 2 (.str (zAF w))),(2,.ptr 0 0 2),(5,.own 1 ns.length),(26,.t 2 (zH ms)),(27,.t 2 (.int .i64 ns.length)),(28,.t 2 (.int .i64 i))] [(0,grO 0 ns root),(1,.row 86 1 1 (zHA ns ms w i))] 2 56 [.any,.any]) (fun i=>i <= ns.length) (fun i=>ns.length - i) ?_ ?_
 ·refine ⟨0,by omega,?_⟩
  rw [zLg]
  refine zU [(0,some 0),(1,some 18000000)] rfl ?_ ?_ ?_ ?_
  all_goals try simp [ints,grO,zH,zAB,zd,zAR,wk1]
  all_goals (trace_state; sorry)
 intro i hi
 have hal:=zMu ns ms w i
 refine rg0 ?_
 refine zD ?_
 by_cases hlt : i < ns.length
 ·obtain ⟨nd,hnd⟩ : ∃ nd,ns[i]? = some nd:=⟨_,List.getElem?_eq_getElem hlt⟩
  have him : i < ms.length:=by omega
  obtain ⟨mb,hmb⟩ : ∃ mb,mb = ms.getD i false:=⟨_,rfl⟩
  have hmh : ∀ hh,ms[i]'hh = mb:=fun hh=>by rw [hmb,List.getD_eq_getElem?_getD,List.getElem?_eq_getElem hh]; rfl
  refine cK1 @hlt ?_
  refine zD ?_
  refine zG ?_
  refine rg1 (an @zH.eq_1 (an @him @hmh)) ?_
  cases mb with
  | true =>
   have hat:=zJr hnd
   have hin : i * 4 + 4 <= ns.length * 4:=by omega
   have hok:=h i nd hnd
   obtain ⟨c1,c2⟩:=hI.cl i nd (by omega) hnd hmb.symm
   have hsem:=zKh h hnd
   obtain ⟨op,l,a,b⟩:=nd
   simp only at c1 c2
   have hev:=zOS (op:=op) (l:=l) (a:=a) (b:=b) (tcs:=zHA ns ms w i) (f:=zBW ns) hw hl hok.op.1 hok.op.2 (by
    by_cases c : op = 3
    ·have:=hok.l3 c; simp only at this; omega
    ·have:=hok.ln c; simp only at this; omega) (by omega)
    (fun e=>by have:=hok.a5 e; simp only at this; exact zGe (by omega) this (c1 e))
    (fun e e2=>by have:=hok.b5 e e2; simp only at this; exact zGe (by omega) this (c2 e e2))
   rw [← hsem] at hev
   have hset:=zMk (ns:=ns) (w:=w) hmb.symm
   refine rg0 ?_
   refine cT0 ?_
   refine zAe fun K hK=>?_
   simp (maxSteps:=2000000) (disch:=omega) [ints,rows,scal,zT,wr8,grO,hat,hin,ndC,hdv,hlt]
   (repeat' apply And.intro)
   all_goals (try omega)
   refine zK (caps:=[]) (hev) [] [] 2 rfl rfl rfl rfl (by kernel_rfl) (by simp) ?_ trivial trivial rfl trivial trivial (by simp) ?_
   ·simp [scal,rows,ints,hal]
   simp (maxSteps:=2000000) (disch:=omega) [ints,rows,scal,zT,wr8,hal,hlt,hset]
   and_intros <;> try first | apply hK | omega | rfl | simp <;> omega
   show awp _ _ _ _
   refine rr0 ?_
   refine ⟨i + 1,by omega,by omega,?_⟩
   exact kw1 [(0,some 0),(1,some 1)] (an @grO.eq_1 @zH.eq_1)
  | false =>
   have hsk:=zLE (ns:=ns) (w:=w) hmb.symm
   refine rg0 ?_
   refine cY0 ?_
   show awp _ _ _ _
   refine rr0 ?_
   refine ⟨i + 1,by omega,by omega,?_⟩
   rw [hsk]
   exact kw1 [(0,some 0),(1,some 1)] (an @grO.eq_1 @zH.eq_1)
 ·obtain rfl : i = ns.length:=by omega
  obtain ⟨hax,hae⟩:=List.getElem?_eq_some_iff.1 (zGe (ms:=ms) (w:=w) hr hr hI.rt)
  have hag : ∀ hh,(zHA ns ms w ns.length)[root]'hh = .sl 2 (zAT (zC2 (zBW ns root) w)):=fun _=>hae
  have har:=zBV (zB0 (zBW ns root) w (i:=0) (by omega))
  have har0 : List.take 2 (zAT (zC2 (zBW ns root) w)) = [T.int .u64 (zBa (zBW ns root) w 0 : Nat),.int .u64 0]:=by simpa using har
  have hal2 : (zAT (zC2 (zBW ns root) w)).length = (w.length + 1) * 2:=by rw [zm,zC2,zq]
  have hq:=zLK (zLD (zBW ns root) hl 0) (i:=w.length) (by omega)
  have hb : (zBa (zBW ns root) w 0).testBit w.length = zBW ns root w:=by
   rw [zAJ,decide_eq_true (by omega),decide_eq_true (by omega),zOT]
   rfl
  rw [hb] at hq
  generalize zBa (zBW ns root) w 0 = m at *
  refine cF0 ?_
  refine zM ?_
  show awp _ _ _ _
  refine rc1 hq (an @grO.eq_1 (an @hax (an @hag (an @har (an @har0 (an @hal2 (an @hal (an @hr @zAf.eq_1)))))))) ?_
  exact zI (rt1 @zDe.eq_1)
structure SfX (L N : Nat) (tb : List (List Int)) (im : List Int) (ac : List Bool) (ns : List Nd) (root : Nat) (of : List Nat) : Prop where
 gv : GV L ns
 rt : root < ns.length
 bd : ns.length <= 8 * (N + 2) * (N + 2) * (L + 1) * (L + 1)
 n2 : ns.length <= 20000
 ol : of.length = N
 el : ∀ x,x < N -> Sm L ns (of.getD x 0) fun w=>vlW (ze tb) (imN im) w = x
 ro : Sm L ns root fun w=>ac.getD (vlW (ze tb) (imN im) w) false = true
theorem zP3 {L N : Nat} (hL : L = 1 \/ L = 2) (hN : N <= 12) : 8 * (N + 2) * (N + 2) * (L + 1) * (L + 1) <= 20000:=by
 have h1 : 8 * (N + 2) * (N + 2) <= 8 * 14 * 14:=Nat.mul_le_mul (Nat.mul_le_mul (Nat.le_refl 8) (by omega)) (by omega)
 have h2 : 8 * (N + 2) * (N + 2) * (L + 1) <= 8 * 14 * 14 * 3:=Nat.mul_le_mul h1 (by omega)
 have h3 : 8 * (N + 2) * (N + 2) * (L + 1) * (L + 1) <= 8 * 14 * 14 * 3 * 3:=Nat.mul_le_mul h2 (by omega)
 omega
section
variable {L N : Nat} {tb : List (List Int)} {ws : List (List Nat)} {im : List Int} {ac pl : List Bool}
theorem zJK (h : zLi L N tb ws im ac pl) (hL : L = 1 \/ L = 2) (hN : N <= 12) (ha : ∀ x,x < N -> ApX (ze tb) x) (hv : FnA Tryz.prog 27 [syV 0 L tb ws im ac pl] (.t 2 (.int .i64 0))) :
  ∃ ns root of,SfX L N tb im ac ns root of /\ FnA Tryz.prog 9 [syV 1 L tb ws im ac pl] (.tup [zDe 1 ns root,.t 1 (ints (nI of)),.t 2 (.int .i64 0)]):=by
 have hM:=h.apM ha
 have htl:=h.ht.len
 have hil:=h.hS.il
 have hap:=zIG h.ht h.hA (by omega) hv
 rw [zMI ha] at hap
 have hof:=zJR h.hS h.ht hM hN (by omega) (zP3 hL hN) hv hap
 have hI:=zIF (L:=L) (ws:=ws) (im:=im) (ac:=ac) (pl:=pl) h.ht hM
 obtain ⟨g1,g2,g3,g4⟩:=zOM (D:=zCa L tb ws im ac pl) (o:=zCL tb N) (by show ApM tb.length (ze tb); rw [htl]; exact hM) (fun a ha=>by show imN im a < tb.length; rw [htl]; exact (h.hS.img ha).2) (fun a ha=>by show im.getD a 0 = (imN im a : Int); rw [List.getD_eq_getElem?_getD,(h.hS.img ha).1]; rfl) hI
 have hr:=zE6 (zCa L tb ws im ac pl) (zCL tb N) N
 have e1 : (zCa L tb ws im ac pl).tb.length = N:=htl
 have e2 : (zCa L tb ws im ac pl).im.length = L:=hil
 rw [e2] at g1 g4
 rw [e1,e2] at g2 g3
 rw [e1] at hr
 exact ⟨_,_,_,⟨g1,g4.1,g2,Nat.le_trans g2 (zP3 hL hN),hr,g3,g4⟩,hof⟩
theorem zP4 (h : zLi L N tb ws im ac pl) (hn : ¬ ∀ x,x < N -> ApX (ze tb) x) (hv : FnA Tryz.prog 27 [syV 0 L tb ws im ac pl] (.t 2 (.int .i64 0))) :
  FnA Tryz.prog 9 [syV 1 L tb ws im ac pl] (.tup [zLQ,.t 2 (.sl 0 []),.t 2 (.int .i64 20)]):=by
 have hap:=zIG h.ht h.hA h.hS.n2 hv
 have : apB N (ze tb) = false:=by
  cases e : apB N (ze tb) with
  | false=>rfl
  | true=>exact absurd (zE0.1 e) hn
 rw [this] at hap
 exact zMc hv hap
theorem zLI (ht : TbL tb N (ze tb)) (hN : N <= 400) : FnA Tryz.prog 10 [syV 0 L tb ws im ac pl] (.t 2 (.bool (apB N (ze tb)))):=by
 have hr:=zMw (L:=L) (ws:=ws) (im:=im) (ac:=ac) (pl:=pl) ht hN
 refine fI 5 #[.tmp 2] Tryz.func10 rfl ?_
 refine rg1 (an @syV.eq_1 @zH.eq_1) ?_
 refine rc1 hr (an @syV.eq_1 @zH.eq_1) ?_
 exact zI (rt1 @syV.eq_1)
end
theorem zJ3 : List.range 3 = [0,1,2]:=rfl
theorem zN3 : zAF [1,0,1] = { data:=#[98,97,98] }:=rfl
theorem zP7 : zAF [1,0] = { data:=#[98,97] }:=rfl
theorem zPV {els : List (List Int)} {pre last : List Int} {wds : List (List Nat)} {right : List (List Int)} {r0 : List Int} (h : SyX 2 3 kNx els pre last wds right r0) : ∀ x,x < els.length -> ApX (ze (zA6 right wds els.length)) x:=fun x hx=>by
 have hg : ∀ g ∈ tab 2 (lets 3 kNx),TrN 3 g:=(zD5.gn (by omega) (by omega) (by omega)).tr
 have hin : els[x] ∈ zLm:=by
  obtain ⟨w,hw,hr⟩:=h.rp hx
  unfold Rp at hr
  rw [List.getElem?_eq_getElem hx] at hr
  rw [Option.some.inj hr]
  exact zLO w hw
 have key : ∀ e ∈ zLm,zu (zu e e) e = zu e e:=by decide
 have e1:=h.pr.elm hg hx hx
 obtain ⟨h2,e2⟩:=List.getElem?_eq_some_iff.1 e1
 have e3:=h.pr.elm hg h2 hx
 rw [e2,key _ hin] at e3
 exact ⟨1,h.pr.en.nd _ _ _ e3 e1⟩
theorem zIr : FnA Tryz.prog 13 [] (.t 2 (.bool true)):=by
 obtain ⟨_,⟨m,bs',nx',hX,hr⟩,hof⟩:=zDc zD5 (by omega) (by omega) (by omega) (fun m bs' nx' hX=>by have:=hX.le; omega)
 obtain ⟨rfl,rfl,rfl⟩:=hX.mn.eq (by omega) zNO.mn fun w hw=>by rw [hX.zIu w hw,zNO.zIu w hw]
 rcases hr with ⟨-,hbad⟩ | ⟨els,pre,last,wds,right,r0,hS,rfl⟩
 ·exact absurd hbad (zKs ((zD5.gn (by omega) (by omega) (by omega)).tr) (by omega))
 have hg : ∀ g ∈ tab 2 (lets 3 kNx),TrN 3 g:=(zD5.gn (by omega) (by omega) (by omega)).tr
 have h5:=zMD hS
 have hMD:=hS.zRX zKx (.inr rfl)
 have hv:=zDK hS zKx (by omega) (by omega)
 rw [zEB] at hv
 obtain ⟨ns,root,of,hSf,hofs⟩:=zJK hMD (.inr rfl) (by omega) (zPV hS) hv
 rw [zEB] at hof
 have acc : ∀ w : List Nat,(∀ a ∈ w,a < 2) -> zBW ns root w = zBf kBs kNx 0 w:=fun w hw=>by
  have h1 : zBW ns root w = true ↔ (els.map (zDj kBs)).getD (vlW (ze (zA6 right wds els.length)) (imN r0) w) false = true:=hSf.ro.2 w hw
  have h2:=hS.zIu zD5 hg hw
  have h3:=hS.zRw zD5 hg hw
  rw [h3] at h1
  have h4 : (els.map (zDj kBs)).getD (zk right 0 w) false = zBf kBs kNx 0 w:=h2
  rw [h4] at h1
  exact Bool.eq_iff_iff.2 h1
 have a1 : zBW ns root [1,0,1] = true:=by rw [acc [1,0,1] (by decide)]; decide
 have a2 : zBW ns root [1,0] = false:=by rw [acc [1,0] (by decide)]; decide
 have c1:=zHy (w:=[1,0,1]) hSf.gv (by omega) hSf.rt hSf.n2 (by decide) (by decide)
 have c2:=zHy (w:=[1,0]) hSf.gv (by omega) hSf.rt hSf.n2 (by decide) (by decide)
 rw [a1,zN3] at c1
 rw [a2,zP7] at c2
 have htl:=hMD.ht.len
 have hol:=hSf.ol
 generalize zA6 right wds els.length = tb at *
 generalize psB els.length (right.any fun r=>decide ((0 : Int) ∈ r)) = pl at *
 generalize els.map (zDj kBs) = ac at *
 rw [h5] at htl hol
 refine fI 48 #[.tmp 0] Tryz.func13 rfl ?_
 refine rg0 ?_
 refine zKf 6 fun K hK=>?_
 simp (maxSteps:=2000000) (disch:=omega) [ints,rows,scal,zT,wr8]
 (repeat' first | apply hK | apply And.intro) <;> try first | omega | rfl | (simp <;> omega)
 refine ⟨mkS [(0,.t 2 (.bool false)),(12,.agg [.t 2 (.int .i64 2),.t 2 (.int .i64 0),.t 2 (zH [false,false,true]),.t 2 (rows [[1,0],[1,2],[2,2]])])] [] 0 48 [],?_,fun K hK=>?_⟩
 ·refine zU [] rfl ?_ ?_ ?_ ?_
  all_goals try simp [ints,rows,ints,zH,zJt,zMB,wk1,zNC,zJ3]
 simp (maxSteps:=2000000) (disch:=omega) [ints,rows,scal,zT,wr8]
 (repeat' apply And.intro)
 all_goals (try omega)
 refine zK (caps:=[]) (hof) [] [] 2 rfl rfl rfl rfl (by kernel_rfl) (by simp) ?_ trivial trivial rfl trivial trivial (by simp) ?_
 ·simp [scal,rows,ints,dfT,zH,kBs,kNx]
 simp (maxSteps:=2000000) (disch:=omega) [ints,rows,scal,zT,wr8,syV,zH]
 (repeat' first | apply hK | apply And.intro) <;> try first | omega | rfl | (simp <;> omega)
 refine rc1 hofs (an @syV.eq_1 (an @zH.eq_1 @zDe.eq_1)) ?_
 refine zQ fun K hK=>?_
 simp (maxSteps:=2000000) (disch:=omega) [ints,rows,scal,zT,wr8,rows,htl,hol]
 (repeat' apply And.intro)
 all_goals (try omega)
 refine zK (caps:=[]) (c1) [] [] 2 (by simp [scal,rows,ints,zDe]) rfl rfl rfl (by kernel_rfl) (by simp) ?_ trivial trivial rfl trivial trivial (by simp) ?_
 ·simp [scal,rows,ints,zDe]
 simp (maxSteps:=2000000) (disch:=omega) [ints,rows,scal,zT,wr8,rows,htl,hol]
 (repeat' apply And.intro)
 all_goals (try omega)
 refine zK (caps:=[]) (c2) [] [] 2 (by simp [scal,rows,ints,zDe]) rfl rfl rfl (by kernel_rfl) (by simp) ?_ trivial trivial rfl trivial trivial (by simp) ?_
 ·simp [scal,rows,ints,zDe]
 simp (maxSteps:=2000000) (disch:=omega) [ints,rows,scal,zT,wr8]
 (repeat' first | apply hK | apply And.intro) <;> try first | omega | rfl | (simp <;> omega)
 exact zI rt0
structure zRj (most L N : Nat) (tb : List (List Int)) (ws : List (List Nat)) (im : List Int) (ac pl : List Bool) : Prop where
 hL : L = 1 \/ L = 2
 hMD : zLi L N tb ws im ac pl
 hv : FnA Tryz.prog 27 [syV 0 L tb ws im ac pl] (.t 2 (.int .i64 0))
 wo : zHo ws
 n15 : N <= most \/ N <= 15
 few : (∀ x,x < N -> ApX (ze tb) x) -> N <= most \/ N <= 4
end Go.Proofs.YtjkeafkjjaploaaGreat.M
