/-
  Of and Validate of both sides agree on data whose parts fit together; Validate refuses another number of letters.
  Walk in my logic: the law AperiodicErrors.
-/
import Derived.Test.YtjkeafkjjaploaaGreatZpbg
import Derived.Test.YtjkeafkjjaploaaGreatZpbh
import Derived.Test.YtjkeafkjjaploaaGreatZpad
namespace Go.Proofs.YtjkeafkjjaploaaGreat.M
open Go.RowKit
set_option linter.unusedVariables false
set_option linter.unusedSimpArgs false
set_option maxRecDepth 100000
set_option maxHeartbeats 32000000

theorem zCy.df {L N : Nat} {tb : List (List Int)} {ws : List (List Nat)} {im : List Int} {ac pl : List Bool} (h : zCy L N tb ws im ac pl) : DfL L N 0 ac (tab N (auR tb im)):=by
 refine ⟨h.n1,h.n1,h.al,by simp,fun r hr=>?_⟩
 obtain ⟨x,hx,rfl⟩:=List.getElem_of_mem hr
 have hx : x < N:=by simpa using hx
 rw [zA0]
 refine ⟨by simp [h.il],fun v hv=>?_⟩
 unfold auR at hv
 obtain ⟨y,hy,rfl⟩:=List.mem_map.1 hv
 obtain ⟨y1,y2⟩:=h.ir y hy
 have htl:=h.tl
 have hxt : x < tb.length:=by omega
 obtain ⟨r1,r2⟩:=h.tr tb[x] (by simp)
 have hyl : y.toNat < tb[x].length:=by omega
 have e : (tb.getD x []).getD y.toNat 0 = tb[x][y.toNat]:=by simp [List.getD_eq_getElem?_getD,hxt,hyl]
 rw [e]
 exact r2 _ (by simp)
theorem zPa {L n : Nat} {bs : List Bool} {nxt : List (List Int)} (h : DfL L n 0 bs nxt) (hL : 1 <= L) (hL2 : L <= 6) (hn : n <= 32) :
  (FnA Tryz.prog 59 [dfT 0 L 0 bs nxt] (.tup [zCZ,.t 2 (.int .i64 3)]) /\ FnA Tryz.prog 23 [dfT 0 L 0 bs nxt] (.tup [zCZ,.t 2 (.int .i64 3)])) ∨
  ∃ N tb ws im ac pl,zCy L N tb ws im ac pl /\ zHo ws /\ FnA Tryz.prog 59 [dfT 0 L 0 bs nxt] (.tup [syV 1 L tb ws im ac pl,.t 2 (.int .i64 0)]) /\ FnA Tryz.prog 23 [dfT 0 L 0 bs nxt] (.tup [syV 2 L tb ws im ac pl,.t 2 (.int .i64 0)]):=by
 obtain ⟨_,⟨m,b1,n1,hX,hr⟩,hof⟩:=zNc h hL hL2 (by omega) (fun m bs' nx' hX=>by have:=hX.le; omega)
 obtain ⟨_,⟨m2,b2,n2,hX2,hr2⟩,hof2⟩:=zDc h hL hL2 (by omega) (fun m bs' nx' hX=>by have:=hX.le; omega)
 obtain ⟨rfl,rfl,rfl⟩:=hX2.mn.eq (by omega) hX.mn fun w hw=>by rw [hX2.zIu w hw,hX.zIu w hw]
 have hno : ∀ {els : List (List Int)} {pre last : List Int} {wds : List (List Nat)} {right : List (List Int)} {r0 : List Int},SyX L m2 n2 els pre last wds right r0 -> SyF L m2 n2 -> False:=fun {els pre last wds right r0} hS hF=>by
  rcases hF with hF | ⟨els',pre',last',wds',right',hP,hl⟩
  ·exact (hS.pr.zPT hF).elim
  ·obtain ⟨e,-⟩:=hS.pr.eqE hP
   have:=hS.el
   rw [e] at this
   omega
 rcases hr with ⟨rfl,hF⟩ | ⟨els,pre,last,wds,right,r0,hS,rfl⟩
 ·rcases hr2 with ⟨rfl,hF2⟩ | ⟨els2,pre2,zJL,wds2,right2,r02,hS2,rfl⟩
  ·exact .inl ⟨hof,hof2⟩
  ·exact (hno hS2 hF).elim
 ·rcases hr2 with ⟨rfl,hF2⟩ | ⟨els2,pre2,zJL,wds2,right2,r02,hS2,rfl⟩
  ·exact (hno hS hF2).elim
  ·obtain ⟨rfl,rfl,rfl,rfl,rfl⟩:=hS.pr.eqE hS2.pr
   have e:=hS.r0.symm.trans hS2.r0
   injection e with e
   subst e
   rw [zEB] at hof hof2
   refine .inr ⟨els.length,_,wds,r0,_,_,hS.sh hL hL2 _ (by simp) _ (by simp [psB]),fun w hw x hx=>?_,hof,hof2⟩
   have:=hS.pr.wl w hw x hx
   rw [zq] at this
   omega
theorem zO5 {L N : Nat} {tb : List (List Int)} {ws : List (List Nat)} {im : List Int} {ac pl : List Bool} (hS : zCy L N tb ws im ac pl) (hN : N <= 32) (hw : zHo ws) :
  ∃ v : Int,(v = 0 \/ v = 8) /\ FnA Tryz.prog 27 [syV 0 L tb ws im ac pl] (.t 2 (.int .i64 v)) /\ FnA Tryz.prog 12 [syV 0 L tb ws im ac pl] (.t 2 (.int .i64 v)):=by
 rcases zPa hS.df hS.l1 hS.l2 hN with ⟨h1,h2⟩ | ⟨N',tb',ws',im',ac',pl',hS',hw',h1,h2⟩
 ·exact ⟨8,.inr rfl,zLP hS h1,zKL hS h2⟩
 ·refine ⟨_,?_,zIl hS hS' hw hw' h1,zIz hS hS' hw hw' h2⟩
  split
  ·exact .inl rfl
  ·exact .inr rfl
theorem zPB.drW {most : Nat} {xs : List Int} {res : AV} {H' : List AObj} (h : zPB most xs res H') : ∃ L N tb ws im ac pl b,(zRj most L N tb ws im ac pl /\ ∀ w ∈ ws,w.length <= 1000) /\ b <= xs.length /\ res = syV 2 L tb ws im ac pl /\ H' = [tpO 1 xs b]:=by
 obtain ⟨L,m,bs,nx,els,pre,last,wds,right,r0,b,hL,hM,hS,hn,hb,rfl,rfl⟩:=h
 have hg : ∀ g ∈ tab L (lets m nx),TrN m g:=(hM.df.gn (by omega) (by omega) hS.m32).tr
 have hv:=zDK hS hM (by omega) (by omega)
 rw [zEB] at hv
 refine ⟨L,els.length,_,wds,r0,_,_,b,⟨⟨hL,hS.zRX hM hL,hv,?_,?_,fun ha=>?_⟩,fun w hw=>?_⟩,hb,zEB 2 L bs els wds right r0,rfl⟩
 ·intro w hw x hx
  have:=hS.pr.wl w hw x hx
  rw [zq] at this
  omega
 ·rcases hn with h | ⟨rfl,h⟩
  ·exact .inl h
  ·exact .inr (hS.zRr hM.df hg h)
 ·rcases hn with h | ⟨rfl,h⟩
  ·exact .inl h
  ·exact .inr (hS.zRC hM.df hg h ha)
 ·obtain ⟨i,hi,rfl⟩:=List.getElem_of_mem hw
  have h1:=hS.pr.en.wd.len i wds[i] (by simp)
  have h2:=hS.pr.en.le
  have h3:=hS.el
  omega
section
variable {L N : Nat} {tb : List (List Int)} {ws : List (List Nat)} {im : List Int} {ac pl : List Bool}
theorem zQJ (h : zLi L N tb ws im ac pl) (hL : L = 1 \/ L = 2) (hN : (∀ x,x < N -> ApX (ze tb) x) -> N <= 12) (hv : FnA Tryz.prog 27 [syV 0 L tb ws im ac pl] (.t 2 (.int .i64 0))) :
  ∃ e : Int,(e = 0 /\ apB N (ze tb) = true \/ e = 20 /\ apB N (ze tb) = false) /\ FnA Tryz.prog 9 [syV 1 L tb ws im ac pl] (.tup [.agg [.any,.any],.any,.t 2 (.int .i64 e)]):=by
 by_cases ha : ∀ x,x < N -> ApX (ze tb) x
 ·obtain ⟨ns,root,of,hSf,hof⟩:=zJK h hL (hN ha) ha hv
  exact ⟨0,.inl ⟨rfl,zMI ha⟩,FnS.frz hof (by simp [zDe]) (by simp [syV])⟩
 ·have hf : apB N (ze tb) = false:=by
   cases e : apB N (ze tb) with
   | false=>rfl
   | true=>exact absurd (zE0.1 e) ha
  exact ⟨20,.inr ⟨rfl,hf⟩,FnS.frz (zP4 h ha hv) (by simp [zLQ]) (by simp [syV])⟩
end
structure Chg (L N : Nat) (tb : List (List Int)) (im : List Int) (pl : List Bool) (L' : Nat) (ws' : List (List Nat)) (ac' : List Bool) (v : Int) : Prop where
 v08 : v = 0 \/ v = 8
 sv : FnA Tryz.prog 27 [syV 0 L' tb ws' im ac' pl] (.t 2 (.int .i64 v))
 rv : FnA Tryz.prog 12 [syV 0 L' tb ws' im ac' pl] (.t 2 (.int .i64 v))
 ok : v = 0 -> L' = L /\ zLi L' N tb ws' im ac' pl
section
variable {L N : Nat} {tb : List (List Int)} {ws : List (List Nat)} {im : List Int} {ac pl : List Bool}
theorem Chg.any (h : zLi L N tb ws im ac pl) (hN : N <= 32) {ws' : List (List Nat)} {ac' : List Bool} (hw : zHo ws') (hwl : ws'.length = ws.length) (hal : ac'.length = ac.length) : ∃ v,Chg L N tb im pl L ws' ac' v:=by
 have hS:=h.hS
 have hS' : zCy L N tb ws' im ac' pl:=⟨hS.l1,hS.l2,hS.n1,hS.n2,hS.tl,hS.tr,by rw [hwl,hS.wl],hS.il,hS.ir,by rw [hal,hS.al],hS.pll⟩
 obtain ⟨v,h1,h2,h3⟩:=zO5 hS' hN hw
 exact ⟨v,h1,h2,h3,fun _=>⟨rfl,hS',h.ht,h.hA,h.one⟩⟩
theorem Chg.let (h : zLi L N tb ws im ac pl) (hL : L = 1 \/ L = 2) : Chg L N tb im pl (L + 1) ws ac 8 :=
 ⟨.inr rfl,zME h.hS (by omega) (by omega) (by omega),zMj h.hS (by omega) (by omega) (by omega),fun h=>by cases h⟩
theorem Chg.of {L' : Nat} {ws' : List (List Nat)} {ac' : List Bool} {v : Int} (h : Chg L N tb im pl L' ws' ac' v) (hL : L = 1 \/ L = 2) (hN : (∀ x,x < N -> ApX (ze tb) x) -> N <= 12) :
  ∃ e : Int,(v = 8 /\ e = 8 \/ v = 0 /\ e = 0 /\ apB N (ze tb) = true \/ v = 0 /\ e = 20 /\ apB N (ze tb) = false) /\ FnA Tryz.prog 9 [syV 1 L' tb ws' im ac' pl] (.tup [.agg [.any,.any],.any,.t 2 (.int .i64 e)]):=by
 rcases h.v08 with rfl | rfl
 ·obtain ⟨rfl,hM⟩:=h.ok rfl
  obtain ⟨e,he,hof⟩:=zQJ hM hL hN h.sv
  exact ⟨e,.inr (he.elim (fun ⟨h1,h2⟩=>.inl ⟨rfl,h1,h2⟩) (fun ⟨h1,h2⟩=>.inr ⟨rfl,h1,h2⟩)),hof⟩
 ·exact ⟨8,.inl ⟨rfl,rfl⟩,FnS.frz (zJA (by decide) h.sv) (by simp [zLQ]) (by simp [syV])⟩
end
theorem zHp {x : Int} {n : Nat} (h : 1 <= n) : ∃ k : Nat,zGZ x n = (k : Int) /\ k < n:=by
 obtain ⟨h1,h2⟩:=zGz (x:=x) (n:=(n : Int)) (by omega)
 exact ⟨(zGZ x n).toNat,by omega,by omega⟩
theorem zEr (l : List Int) (how at_ : Int) : FnA Tryz.prog 3 [.t 1 (ints l),.t 2 (.int .i64 how),.t 2 (.int .i64 at_)] (.t 2 (.bool true)):=by
 have hnew:=zQQ l
 obtain ⟨xs,hxs⟩ : ∃ xs,xs = l.take 80:=⟨_,rfl⟩
 have hxl : xs.length <= 80:=by rw [hxs]; simp; omega
 rw [← hxs] at hnew
 obtain ⟨_,_,hG,hmon⟩:=zJN xs hxl 9 (by omega)
 obtain ⟨L,N,tb,ws,im,ac,pl,b,⟨hDr,hwl⟩,hb,rfl,rfl⟩:=hG.drW
 clear hG
 have hMD:=hDr.hMD
 have hv:=hDr.hv
 have hL:=hDr.hL
 have hn15:=hDr.n15
 have hN12 : (∀ x,x < N -> ApX (ze tb) x) -> N <= 12:=fun ha=>by have:=hDr.few ha; omega
 have htl:=hMD.ht.len
 have hal:=hMD.hS.al
 have hwsl:=hMD.hS.wl
 have hn1:=hMD.hS.n1
 have hap:=fun {L' : Nat} {ws' : List (List Nat)} {ac' : List Bool}=>zLI (L:=L') (ws:=ws') (im:=im) (ac:=ac') (pl:=pl) hMD.ht (by omega)
 have hkn:=zIr
 obtain ⟨e1,he1,hof1⟩:=zQJ hMD hL hN12 hv
 have hmk:=zJs at_ (N : Int) (by omega)
 obtain ⟨k,hk,hkN⟩:=zHp (x:=at_) hn1
 rw [hk] at hmk
 have hmh:=zJs how 3 (by omega)
 obtain ⟨c,hc,hc3⟩:=zHp (x:=how) (n:=3) (by omega)
 rw [show zGZ how 3 = (c : Int) from hc] at hmh
 refine fI 108 #[.tmp 6] Tryz.func3 rfl ?_
 refine rg0 ?_
 refine zQ fun K hK=>?_
 simp (maxSteps:=2000000) (disch:=omega) [ints,rows,scal,zT,wr8]
 (repeat' apply And.intro)
 all_goals (try omega)
 refine zK (caps:=[]) (hnew) [] [2000000] 1 rfl rfl rfl rfl (by kernel_rfl) (by simp) ?_ ?_ (by simp) rfl (by simp) ⟨.inl ⟨by omega,by omega⟩,trivial⟩ (by simp [tpO]) ?_
 ·simp [scal,rows,ints,tpO]
 ·trivial
 simp (maxSteps:=2000000) (disch:=omega) [ints,rows,scal,zT,wr8,tpO]
 (repeat' apply And.intro)
 all_goals (try omega)
 refine zK (caps:=[]) (hmon) [2000000] [2000000] 1 rfl rfl rfl rfl (by kernel_rfl) (by simp) ?_ ?_ (by simp) rfl (by simp) ⟨.inr ⟨rfl,0,_,_,_,_,_,rfl,rfl,rfl,rfl,rfl⟩,trivial⟩ (by simp [tpO]) ?_
 ·simp [scal,rows,ints,tpO]
 ·simp [scal,rows,ints,tpO]
 simp (maxSteps:=2000000) (disch:=omega) [ints,rows,scal,zT,wr8,syV,zH,tpO]
 and_intros <;> try first | apply hK | omega | rfl | simp <;> omega
 refine zw (σ':=mkS [(1,.t 2 (.int .i64 how)),(2,.t 2 (.int .i64 at_)),(7,.ptr 0 0 6)] [(0,.box 27 [.t 2 (.int .i64 L),.t 2 (rows tb),.t 2 (.sl 1 (wsT ws)),.t 2 (ints im),.t 2 (zH ac),.t 2 (zH pl)])] 1 108 [.any,.any,.any]) ?_ ?_
 ·exact kw1 [(0,some 4000000)] (an @rows.eq_1 @zH.eq_1)
 refine rc1 hof1 (an @syV.eq_1 @zH.eq_1) ?_
 refine zCA (fun σ'=>Wk σ' (mkS [(1,.t 2 (.int .i64 how)),(2,.t 2 (.int .i64 at_)),(7,.ptr 0 0 6)] [(0,.box 27 [.t 2 (.int .i64 L),.t 2 (rows tb),.t 2 (.sl 1 (wsT ws)),.t 2 (ints im),.t 2 (zH ac),.t 2 (zH pl)])] 1 108 [.any,.any,.any])) (fun σ' hw=>zw hw ?_) ?_
 ·clear hof1 he1
  refine rd1 (an @zH.eq_1 @wsT.eq_1) ?_
  refine zw (σ':=mkS [(1,.t 2 (.int .i64 how)),(2,.t 2 (.int .i64 at_)),(7,.ptr 0 0 6)] [(0,.box 27 [.t 2 (.int .i64 L),.t 2 (rows tb),.own 2 N,.t 2 (ints im),.own 1 N,.t 2 (zH pl)]),(1,.row 4 1 2 (ac.map .bool)),(2,.row 9 1 2 (wsT ws))] 3 108 [.any,.any,.any]) ?_ ?_
  ·exact kw1 [(0,some 0),(1,some 1),(2,some 4000001)] (an @rows.eq_1 (an @zH.eq_1 (an @wsT.eq_1 (an @hwsl @hal))))
  refine rc1 hmk @htl ?_
  refine zCA (fun σ'=>∃ L' ws' ac' v,Chg L N tb im pl L' ws' ac' v /\ Wk σ' (mkS [(7,.ptr 0 0 6)] [(0,.box 27 [.t 2 (.int .i64 L'),.t 2 (rows tb),.t 2 (.sl 1 (wsT ws')),.t 2 (ints im),.t 2 (zH ac'),.t 2 (zH pl)])] 1 108 [.any,.any,.any])) ?_ ?_
  ·rintro σ' ⟨L',ws',ac',v,hC,hw⟩
   refine zw hw ?_
   obtain ⟨e2,he2,hof2⟩:=hC.of hL hN12
   have hrv:=hC.rv
   have hap:=@hap L' ws' ac'
   refine rc1 hof2 (an @syV.eq_1 @zH.eq_1) ?_
   refine rc1 hrv (an @syV.eq_1 @zH.eq_1) ?_
   rcases he2 with ⟨rfl,rfl⟩ | ⟨rfl,rfl,hb2⟩ | ⟨rfl,rfl,hb2⟩
   ·refine rc0 hkn ?_
    exact zI rt0
   ·rw [hb2] at hap
    refine zQ fun K hK=>?_
    simp (maxSteps:=2000000) (disch:=omega) [ints,rows,scal,zT,wr8]
    (repeat' apply And.intro)
    all_goals (try omega)
    refine zK (caps:=[]) (hap) [] [] 2 (by simp [scal,rows,ints,syV,zH]) rfl rfl rfl (by kernel_rfl) (by simp) ?_ trivial trivial rfl trivial trivial (by simp) ?_
    ·simp [scal,rows,ints,syV,zH]
    simp (maxSteps:=2000000) (disch:=omega) [ints,rows,scal,zT,wr8]
    (repeat' apply And.intro)
    all_goals (try omega)
    refine zK (caps:=[]) (hkn) [] [] 2 (by simp [scal,rows,ints]) rfl rfl rfl (by kernel_rfl) (by simp) ?_ trivial trivial rfl trivial trivial (by simp) ?_
    ·simp [scal,rows,ints]
    simp (maxSteps:=2000000) (disch:=omega) [ints,rows,scal,zT,wr8]
    (repeat' first | apply hK | apply And.intro) <;> try first | omega | rfl | (simp <;> omega)
    exact zI rt0
   ·rw [hb2] at hap
    refine zQ fun K hK=>?_
    simp (maxSteps:=2000000) (disch:=omega) [ints,rows,scal,zT,wr8]
    (repeat' apply And.intro)
    all_goals (try omega)
    refine zK (caps:=[]) (hap) [] [] 2 (by simp [scal,rows,ints,syV,zH]) rfl rfl rfl (by kernel_rfl) (by simp) ?_ trivial trivial rfl trivial trivial (by simp) ?_
    ·simp [scal,rows,ints,syV,zH]
    simp (maxSteps:=2000000) (disch:=omega) [ints,rows,scal,zT,wr8]
    (repeat' apply And.intro)
    all_goals (try omega)
    refine zK (caps:=[]) (hkn) [] [] 2 (by simp [scal,rows,ints]) rfl rfl rfl (by kernel_rfl) (by simp) ?_ trivial trivial rfl trivial trivial (by simp) ?_
    ·simp [scal,rows,ints]
    simp (maxSteps:=2000000) (disch:=omega) [ints,rows,scal,zT,wr8]
    (repeat' first | apply hK | apply And.intro) <;> try first | omega | rfl | (simp <;> omega)
    exact zI rt0
  ·refine rc0 hmh ?_
   refine zG ?_
   have hka : k < ac.length:=by omega
   have hkw : k < ws.length:=by omega
   rcases (by omega : c = 0 \/ c = 1 \/ c = 2) with rfl | rfl | rfl
   ·refine rg0 ?_
    refine cT0 ?_
    refine re1 @hka ?_
    obtain ⟨v,hC⟩:=Chg.any hMD (by omega) (ws':=ws) (ac':=ac.set k (!ac[k])) hDr.wo rfl (by simp)
    refine ⟨L,ws,ac.set k (!ac[k]),v,hC,?_⟩
    have hms : (ac.set k (!ac[k])).map T.bool = (ac.map T.bool).set k (T.bool (!ac[k])):=List.map_set
    exact kw1 [(0,some 0)] (an @rows.eq_1 (an @zH.eq_1 (an @wsT.eq_1 (an @hms (an @hwsl @hal)))))
   ·refine rg0 ?_
    refine cF0 ?_
    refine rg0 ?_
    refine cT0 ?_
    have hsz : ((wsT ws)[k]? = some (.str (zAF ws[k]))):=by simp [wsT,hkw]
    have hcat : zAF ws[k] ++ (⟨#[97]⟩ : ByteArray) = zAF (ws[k] ++ [0]):=zAS ws[k] [0]
    have hle : ws[k].length + (⟨#[97]⟩ : ByteArray).size <= 9223372036854775807:=by
     have:=hwl ws[k] (by simp)
     show ws[k].length + 1 <= _
     omega
    refine rr1 (an @hsz (an @hkw (an @wsT.eq_1 (an @hcat @hle)))) ?_
    obtain ⟨v,hC⟩:=Chg.any hMD (by omega) (ws':=ws.set k (ws[k] ++ [0])) (ac':=ac) (fun w hw x hx=>by
     rcases List.mem_or_eq_of_mem_set hw with hw | rfl
     ·exact hDr.wo w hw x hx
     ·rcases List.mem_append.1 hx with hx | hx
      ·exact hDr.wo _ (by simp) x hx
      ·simp at hx; omega) (by simp) rfl
    refine ⟨L,ws.set k (ws[k] ++ [0]),ac,v,hC,?_⟩
    have hms : (ws.set k (ws[k] ++ [0])).map (fun w=>T.str (zAF w)) = (ws.map fun w=>T.str (zAF w)).set k (T.str (zAF (ws[k] ++ [0]))):=List.map_set
    exact kw1 [(0,some 0)] (an @rows.eq_1 (an @zH.eq_1 (an @wsT.eq_1 (an @hms (an @hwsl @hal)))))
   ·have w1 : IntKind.i64.wrap ((L : Int) + 1) = ((L + 1 : Nat) : Int):=by rw [show (L : Int) + 1 = ((L + 1 : Nat) : Int) by push_cast; rfl]; exact zT _ (by omega) (by omega)
    refine rg0 ?_
    refine cF0 ?_
    refine rg0 ?_
    refine cF0 ?_
    refine rg0 ?_
    refine cT0 ?_
    refine rr1 @w1 ?_
    refine ⟨L + 1,ws,ac,8,Chg.let hMD hL,?_⟩
    exact kw1 [(0,some 0)] (an @rows.eq_1 (an @zH.eq_1 (an @wsT.eq_1 (an @hwsl @hal))))
 ·rcases he1 with ⟨rfl,hb1⟩ | ⟨rfl,hb1⟩
  ·have hap:=@hap L ws ac
   rw [hb1] at hap
   refine rc1 hap (an @syV.eq_1 @zH.eq_1) ?_
   refine cF0 ?_
   refine zc ?_
   show Wk _ _
   exact kw1 [(0,some 0)] (an @rows.eq_1 @zH.eq_1)
  ·have hap:=@hap L ws ac
   rw [hb1] at hap
   refine rc1 hap (an @syV.eq_1 @zH.eq_1) ?_
   refine cF0 ?_
   refine zc ?_
   show Wk _ _
   exact kw1 [(0,some 0)] (an @rows.eq_1 @zH.eq_1)
end Go.Proofs.YtjkeafkjjaploaaGreat.M
