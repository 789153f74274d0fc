/-
  Terms with omega powers as trees of the logic (layer 28).
  Walks in my logic: which terms are valid (omega, ref28).
  Walks in my logic: the small functions of the parser of layer 28.
  Walk in my logic: the exponents of the parser of layer 28.
  The parser of layer 28 in plain Lean.
  Walk in my logic: the parser of layer 28, atom.
  Walk in my logic: the parser of layer 28, factor.
  The parser of layer 28 in plain Lean: terms, places and fuel.
  Walk in my logic: the parser of layer 28, term.
  Walks in my logic: Parse and ParseIdentity of layer 28.
  Walks in my logic: the texts of terms (omega.appendTerm, Format, FormatIdentity).
-/
import Derived.Test.YtgelfgpcnaeecaaGreatDoorZsad
import Derived.Test.YtgelfgpcnaeecaaGreatDoorZsap
namespace Go.Proofs.YtgelfgpcnaeecaaGreatDoor.M
open Go.RowKit
set_option linter.unusedVariables false
set_option linter.unusedSimpArgs false
set_option maxRecDepth 100000
set_option maxHeartbeats 32000000

inductive Tm where
 | mk (op n : Int) (args : List Tm)
instance : Inhabited Tm:=⟨.mk 0 0 []⟩
def Tm.op : Tm -> Int
 | .mk o _ _=>o
def Tm.n : Tm -> Int
 | .mk _ n _=>n
def Tm.args : Tm -> List Tm
 | .mk _ _ a=>a
mutual
def Tm.cells : Tm -> List T
 | .mk o n l=>[.int .i64 o,.int .i64 n,.sl 3 (cellsL l)]
def cellsL : List Tm -> List T
 | []=>[]
 | a :: r=>a.cells ++ cellsL r
end
mutual
def Tm.sz : Tm -> Nat
 | .mk _ _ l=>1 + szL l
def szL : List Tm -> Nat
 | []=>0
 | a :: r=>a.sz + szL r
end
theorem Tm.zAi (t : Tm) : t.cells = [.int .i64 t.op,.int .i64 t.n,.sl 3 (cellsL t.args)]:=by
 cases t; rfl
@[simp] theorem Tm.zGq (t : Tm) : t.cells.length = 3:=by rw [Tm.zAi]; rfl
@[simp] theorem zKF : ∀ l : List Tm,(cellsL l).length = l.length * 3
 | []=>rfl
 | a :: r=>by
  show (a.cells ++ cellsL r).length = _
  rw [List.length_append,Tm.zGq,zKF r,List.length_cons]
  omega
theorem zEu : ∀ l r : List Tm,cellsL (l ++ r) = cellsL l ++ cellsL r
 | [],r=>rfl
 | a :: l,r=>by
  show a.cells ++ cellsL (l ++ r) = (a.cells ++ cellsL l) ++ cellsL r
  rw [zEu l r,List.append_assoc]
theorem zAv : ∀ (l : List Tm) (i : Nat) (h : i < l.length),((cellsL l).drop (i * 3)).take 3 = l[i].cells
 | a :: l,0,h=>by
  show ((a.cells ++ cellsL l).drop 0).take 3 = a.cells
  rw [List.drop_zero]
  exact List.take_left' (by simp)
 | a :: l,i + 1,h=>by
  show ((a.cells ++ cellsL l).drop ((i + 1) * 3)).take 3 = (l[i]'(by simpa using h)).cells
  rw [show (i + 1) * 3 = a.cells.length + i * 3 by simp; omega,List.drop_append]
  simp only [List.drop_eq_nil_of_le (show a.cells.length <= a.cells.length + i * 3 by omega),List.nil_append,Nat.add_sub_cancel_left]
  exact zAv l i (by simpa using h)
theorem zHm (t : Tm) : t.sz = 1 + szL t.args:=by cases t; rfl
theorem zLH : ∀ {l : List Tm} {a : Tm},a ∈ l -> a.sz <= szL l
 | b :: l,a,h=>by
  show a.sz <= b.sz + szL l
  rcases List.mem_cons.1 h with rfl | h
  ·omega
  ·have:=zLH h; omega
theorem zIV : ∀ l r : List Tm,szL (l ++ r) = szL l + szL r
 | [],r=>by show szL r = 0 + szL r; omega
 | a :: l,r=>by
  show a.sz + szL (l ++ r) = (a.sz + szL l) + szL r
  rw [zIV l r]; omega
theorem zJm {t a : Tm} (h : a ∈ t.args) : a.sz < t.sz:=by
 have:=zLH h
 rw [zHm t]; omega
theorem zLn (t : Tm) : 0 < t.sz:=by rw [zHm]; omega
def Tm.wf (t : Tm) : Bool:=decide ((t.op = 1 /\ t.n = 0 /\ t.args.length = 0) \/ (t.op = 2 /\ 0 <= t.n /\ t.n < 6 /\ t.args.length = 0) \/ (t.op = 3 /\ t.n = 0 /\ 2 <= t.args.length) \/ (t.op = 4 /\ -1 <= t.n /\ t.n <= 9 /\ t.args.length = 1))
mutual
def Tm.ok : Tm -> Bool
 | .mk o n l=>Tm.wf (.mk o n l) && zB0 l
def zB0 : List Tm -> Bool
 | []=>true
 | a :: r=>a.ok && zB0 r
end
theorem ok_eq (t : Tm) : t.ok = (t.wf && zB0 t.args):=by cases t; rfl
theorem zJA : ∀ l r : List Tm,zB0 (l ++ r) = (zB0 l && zB0 r)
 | [],r=>by show zB0 r = (true && zB0 r); simp
 | a :: l,r=>by
  show (a.ok && zB0 (l ++ r)) = ((a.ok && zB0 l) && zB0 r)
  rw [zJA l r,Bool.and_assoc]
def tmV (p : Nat) (t : Tm) : AV:=.agg [.t 2 (.int .i64 t.op),.t 2 (.int .i64 t.n),.t p (.sl 3 (cellsL t.args))]
def Tm.val (t : Tm) : Bool:=t.ok && decide (t.sz <= 60)
theorem zF3 (t : Tm) : FnA Tryz.prog 139 [tmV 0 t] (.t 2 (.bool t.wf)):=by
 obtain ⟨o,n,as_⟩:=t
 refine fI 59 #[.tmp 2] Tryz.func139 rfl ?_
 refine zI fun K hK=>?_
 simp (maxSteps:=2000000) (disch:=omega) [ints,rows,scal,zK,wr8,tmV,Tm.op,Tm.n,Tm.args]
 and_intros <;> try first | apply hK | omega | rfl | simp <;> omega
 refine zA ?_
 refine rg0 ?_
 refine zB ?_
 refine rg0 ?_
 by_cases h1 : o = 1
 ·refine cT1 @h1 ?_
  by_cases hn : n = 0
  ·refine rg1 @hn ?_
   all_goals (refine zC ?_; refine ⟨⟨.inr rfl,_,[],rfl,trivial,trivial,by simp [tmV,Tm.wf,Tm.op,Tm.n,Tm.args,h1,hn],?_⟩,by simp [tmV,Tm.wf,Tm.op,Tm.n,Tm.args,h1,hn]⟩; simp [tmV,Tm.wf,Tm.op,Tm.n,Tm.args,h1,hn])
   cases as_ <;> simp
   omega
  ·have hb : (n == 0) = false:=by simpa using hn
   refine rg1 @hb ?_
   all_goals (refine zC ?_; refine ⟨⟨.inr rfl,_,[],rfl,trivial,trivial,by simp [tmV,Tm.wf,Tm.op,Tm.n,Tm.args,h1,hn],?_⟩,by simp [tmV,Tm.wf,Tm.op,Tm.n,Tm.args,h1,hn]⟩; simp [tmV,Tm.wf,Tm.op,Tm.n,Tm.args,h1,hn])
 refine cF1 @h1 ?_
 refine rg0 ?_
 by_cases h2 : o = 2
 ·refine cT1 @h2 ?_
  by_cases hn : 0 <= n
  all_goals by_cases hn2 : n < 6
  all_goals
   refine rg1 (an @hn @hn2) ?_
   all_goals (refine zC ?_; refine ⟨⟨.inr rfl,_,[],rfl,trivial,trivial,by simp [tmV,Tm.wf,Tm.op,Tm.n,Tm.args,h2,hn,hn2],?_⟩,by simp [tmV,Tm.wf,Tm.op,Tm.n,Tm.args,h2,hn,hn2]⟩; simp [tmV,Tm.wf,Tm.op,Tm.n,Tm.args,h2,hn,hn2])
  cases as_ <;> simp
  omega
 refine cF1 @h2 ?_
 refine rg0 ?_
 by_cases h3 : o = 3
 ·refine cT1 @h3 ?_
  by_cases hn : n = 0
  ·refine rg1 @hn ?_
   all_goals (refine zC ?_; refine ⟨⟨.inr rfl,_,[],rfl,trivial,trivial,by simp [tmV,Tm.wf,Tm.op,Tm.n,Tm.args,h3,hn],?_⟩,by simp [tmV,Tm.wf,Tm.op,Tm.n,Tm.args,h3,hn]⟩; simp [tmV,Tm.wf,Tm.op,Tm.n,Tm.args,h3,hn])
   omega
  ·have hb : (n == 0) = false:=by simpa using hn
   refine rg1 @hb ?_
   all_goals (refine zC ?_; refine ⟨⟨.inr rfl,_,[],rfl,trivial,trivial,by simp [tmV,Tm.wf,Tm.op,Tm.n,Tm.args,h3,hn],?_⟩,by simp [tmV,Tm.wf,Tm.op,Tm.n,Tm.args,h3,hn]⟩; simp [tmV,Tm.wf,Tm.op,Tm.n,Tm.args,h3,hn])
 refine cF1 @h3 ?_
 refine rg0 ?_
 by_cases h4 : o = 4
 ·refine cT1 @h4 ?_
  by_cases hn : -1 <= n
  all_goals by_cases hn2 : n <= 9
  all_goals
   refine rg1 (an @hn @hn2) ?_
   all_goals (refine zC ?_; refine ⟨⟨.inr rfl,_,[],rfl,trivial,trivial,by simp [tmV,Tm.wf,Tm.op,Tm.n,Tm.args,h4,hn,hn2],?_⟩,by simp [tmV,Tm.wf,Tm.op,Tm.n,Tm.args,h4,hn,hn2]⟩; simp [tmV,Tm.wf,Tm.op,Tm.n,Tm.args,h4,hn,hn2])
  by_cases e : as_.length = 1 <;> simp [e]
  omega
 refine cY1 @h4 ?_
 show awp _ _ _ _
 refine rg0 ?_
 refine zC ?_
 refine ⟨⟨.inr rfl,_,[],rfl,trivial,trivial,by simp [tmV,Tm.wf,Tm.op,Tm.n,Tm.args,h1,h2,h3,h4],?_⟩,by simp [tmV,Tm.wf,Tm.op,Tm.n,Tm.args,h1,h2,h3,h4]⟩
 simp [tmV,Tm.wf,Tm.op,Tm.n,Tm.args,h1,h2,h3,h4]
theorem zCm : ∀ {l : List Tm},zB0 l = true ↔ ∀ a ∈ l,a.ok = true
 | []=>by simp [zB0]
 | a :: l=>by
  show (a.ok && zB0 l) = true ↔ _
  rw [Bool.and_eq_true,zCm]
  simp
def zHM (t : Tm) (lim : Int) : Int:=if t.ok = true /\ (t.sz : Int) <= lim then (t.sz : Int) else lim + 1
theorem zRK {l : List Tm} {k : Nat} (h : k < l.length) : szL (l.take (k + 1)) = szL (l.take k) + l[k].sz:=by
 rw [List.take_succ_eq_append_getElem h,zIV]
 show _ + (l[k].sz + 0) = _
 omega
theorem zPu {l : List Tm} {k : Nat} (h : k < l.length) : zB0 (l.take (k + 1)) = (zB0 (l.take k) && l[k].ok):=by
 rw [List.take_succ_eq_append_getElem h,zJA]
 show _ = _
 simp [zB0]
theorem zES (l : List Tm) (k : Nat) : szL (l.take k) <= szL l:=by
 have:=zIV (l.take k) (l.drop k)
 rw [List.take_append_drop] at this
 omega
theorem zGR : ∀ l : List Tm,l.length <= szL l
 | []=>Nat.le_refl _
 | a :: l=>by
  have:=zGR l
  have:=zLn a
  show l.length + 1 <= a.sz + szL l
  omega
def zDo (t : Tm) (k : Nat) : Nat:=1 + szL (t.args.take k)
theorem zKl {t : Tm} {k : Nat} (h : k < t.args.length) : zDo t (k + 1) = zDo t k + t.args[k].sz:=by
 unfold zDo
 rw [zRK h]; omega
theorem zQz (t : Tm) (k : Nat) : zDo t k <= t.sz:=by
 unfold zDo
 rw [zHm]
 have:=zES t.args k
 omega
theorem zIx (t : Tm) : zDo t t.args.length = t.sz:=by
 unfold zDo
 rw [List.take_length,zHm]
theorem zNz : ∀ (t : Tm) (lim : Int),0 <= lim -> lim <= 1000000 -> FnA Tryz.prog 121 [tmV 0 t,.t 2 (.int .i64 lim)] (.t 2 (.int .i64 (zHM t lim))):=by
 intro t
 induction hsz : t.sz using Nat.strongRecOn generalizing t with
 | _ q ih =>
 intro lim hl0 hl1
 have hW:=zF3 t
 have hszp:=zLn t
 refine fI 36 #[.tmp 4] Tryz.func121 rfl ?_
 refine rg1 @tmV.eq_1 ?_
 refine zA ?_
 by_cases hlim : lim < 1
 ·have hn : zHM t lim = lim + 1:=by unfold zHM; rw [if_neg (by omega)]
  refine rg1 @hlim ?_
  refine cT1 @hlim ?_
  refine rg0 ?_
  all_goals (refine zC ?_; refine ⟨⟨.inr rfl,_,[],rfl,trivial,trivial,by simp [tmV,hn],?_⟩,by simp [tmV,hn]⟩; simp [tmV,hn])
 by_cases hwf : t.wf = true
 case neg =>
  have hwf' : t.wf = false:=by simpa using hwf
  have hok : t.ok = false:=by rw [ok_eq,hwf']; rfl
  have hn : zHM t lim = lim + 1:=by unfold zHM; rw [if_neg (by simp [hok])]
  rw [hwf'] at hW
  refine rc1 hW (an @hlim @tmV.eq_1) ?_
  refine cT0 ?_
  refine rg0 ?_
  all_goals (refine zC ?_; refine ⟨⟨.inr rfl,_,[],rfl,trivial,trivial,by simp [tmV,hn],?_⟩,by simp [tmV,hn]⟩; simp [tmV,hn])
 rw [hwf] at hW
 refine rc1 hW (an @hlim @tmV.eq_1) ?_
 refine cS0 ?_
 refine rg0 ?_
 refine zA ?_
 refine rg0 ?_
 refine zB ?_
 refine awp_loop (fun k : Nat=>mkS [(1,.t 2 (.int .i64 lim)),(5,.t 2 (.int .i64 (zDo t k : Int))),(18,.t 0 (.sl 3 (cellsL t.args))),(19,.t 2 (.int .i64 t.args.length)),(20,.t 2 (.int .i64 k))] [] 0 36 [.any,.any]) (fun k=>k <= t.args.length /\ zB0 (t.args.take k) = true /\ (zDo t k : Int) <= lim) (fun k=>t.args.length - k) ?_ ?_
 ·refine ⟨0,⟨by omega,rfl,by simp [zDo,szL]; omega⟩,?_⟩
  refine zQ [] rfl ?_ ?_ ?_ ?_
  all_goals try simp [ints,tmV,zDo,szL]
 rintro k ⟨hk,hok,hn1⟩
 refine rg0 ?_
 refine zA ?_
 by_cases hkl : k < t.args.length
 ·obtain ⟨a,ha⟩ : ∃ a,a = t.args[k]:=⟨_,rfl⟩
  have hcut:=zAv t.args k hkl
  rw [← ha,Tm.zAi] at hcut
  have ham : a ∈ t.args:=by rw [ha]; exact List.getElem_mem hkl
  have hlt:=zJm ham
  have hIH:=ih a.sz (by omega) a rfl (lim - (zDo t k : Int)) (by omega) (by omega)
  have hts:=zKl hkl
  have hkb : k <= zDo t k:=by
   have:=zGR (t.args.take k)
   rw [List.length_take] at this
   unfold zDo
   omega
  have hto:=zPu hkl
  rw [← ha] at hts hto
  rw [hok,Bool.true_and] at hto
  refine cK1 @hkl ?_
  refine zA ?_
  refine zB ?_
  refine rg1 (an @hcut @hkl) ?_
  by_cases hgood : a.ok = true /\ (a.sz : Int) <= lim - (zDo t k : Int)
  ·have hnd : zHM a (lim - (zDo t k : Int)) = (a.sz : Int):=by unfold zHM; rw [if_pos hgood]
   rw [hnd] at hIH
   have hle : ¬ lim < (zDo t k : Int) + (a.sz : Int):=by omega
   refine rc1 hIH @tmV.eq_1 ?_
   refine rg0 ?_
   refine cY1 @hle ?_
   show awp _ _ _ _
   refine rr0 ?_
   refine ⟨k + 1,⟨by omega,by rw [hto]; exact hgood.1,by omega⟩,by omega,?_⟩
   exact kw1 [] @hts
  ·have hnd : zHM a (lim - (zDo t k : Int)) = lim - (zDo t k : Int) + 1:=by unfold zHM; rw [if_neg hgood]
   have hres : zHM t lim = lim + 1:=by
    unfold zHM
    rw [if_neg]
    rintro ⟨h1,h2⟩
    rw [ok_eq,Bool.and_eq_true] at h1
    have h3:=zCm.1 h1.2 a ham
    have h4:=zQz t (k + 1)
    exact hgood ⟨h3,by omega⟩
   rw [hnd] at hIH
   have hgt : lim < (zDo t k : Int) + (lim - (zDo t k : Int) + 1):=by omega
   have heq : (zDo t k : Int) + (lim - (zDo t k : Int) + 1) = lim + 1:=by omega
   refine rc1 hIH @tmV.eq_1 ?_
   refine rg0 ?_
   refine cT1 @hgt ?_
   refine zG ?_
   show awp _ _ _ _
   refine rg0 ?_
   all_goals (refine zC ?_; refine ⟨⟨.inr rfl,_,[],rfl,trivial,trivial,by simp [tmV,hres,heq],?_⟩,by simp [tmV,hres,heq]⟩; simp [tmV,hres,heq])
 obtain rfl : k = t.args.length:=by omega
 rw [List.take_length] at hok
 have hres : zHM t lim = (zDo t t.args.length : Int):=by
  unfold zHM
  rw [if_pos ⟨by rw [ok_eq,hwf,hok]; rfl,by rw [← zIx]; exact hn1⟩,zIx]
 refine cF0 ?_
 refine zG ?_
 show awp _ _ _ _
 refine rg0 ?_
 all_goals (refine zC ?_; refine ⟨⟨.inr rfl,_,[],rfl,trivial,trivial,by simp [tmV,hres],?_⟩,by simp [tmV,hres]⟩; simp [tmV,hres])
def vTm (t : Tm) : Int:=if t.val = true then 0 else 21
theorem zRE (t : Tm) : (60 < zHM t 60) = (t.val = false):=by
 apply propext
 unfold zHM Tm.val
 by_cases h : t.ok = true /\ (t.sz : Int) <= 60
 ·rw [if_pos h]
  have h2 : t.sz <= 60:=by omega
  simp [h.1,h2]
  omega
 ·rw [if_neg h]
  have h2 : ¬ (t.ok = true /\ t.sz <= 60):=fun h3=>h ⟨h3.1,by omega⟩
  constructor
  ·intro _
   by_cases h4 : t.ok = true
   ·have : ¬ t.sz <= 60:=fun h5=>h2 ⟨h4,h5⟩
    simp [this]
   ·simp [h4]
  ·intro _; omega
theorem zDb (t : Tm) : FnA Tryz.prog 95 [tmV 0 t] (.t 2 (.int .i64 (vTm t))):=by
 have hN:=zNz t 60 (by omega) (by omega)
 have h60:=zRE t
 refine fI 6 #[.tmp 2] Tryz.func95 rfl ?_
 refine rg1 @tmV.eq_1 ?_
 refine zA ?_
 refine rc1 hN @tmV.eq_1 ?_
 by_cases hv : t.val = true
 ·have h1 : ¬ 60 < zHM t 60:=by rw [h60,hv]; simp
  refine cS1 @h1 ?_
  refine rg0 ?_
  all_goals (refine zC ?_; refine ⟨⟨.inr rfl,_,[],rfl,trivial,trivial,by simp [tmV,vTm,hv],?_⟩,by simp [tmV,vTm,hv]⟩; simp [tmV,vTm,hv])
 ·have h1 : 60 < zHM t 60:=by rw [h60]; simpa using hv
  refine cT1 @h1 ?_
  refine rg0 ?_
  all_goals (refine zC ?_; refine ⟨⟨.inr rfl,_,[],rfl,trivial,trivial,by simp [tmV,vTm,hv],?_⟩,by simp [tmV,vTm,hv]⟩; simp [tmV,vTm,hv])
def idV (p : Nat) (a b : Tm) : AV:=.agg [.t 2 (.int .i64 a.op),.t 2 (.int .i64 a.n),.t p (.sl 3 (cellsL a.args)),.t 2 (.int .i64 b.op),.t 2 (.int .i64 b.n),.t p (.sl 3 (cellsL b.args))]
def vId (a b : Tm) : Int:=if a.val = true then vTm b else 21
theorem zBK (a b : Tm) : FnA Tryz.prog 63 [idV 0 a b] (.t 2 (.int .i64 (vId a b))):=by
 have hA:=zDb a
 have hB:=zDb b
 refine fI 13 #[.tmp 2] Tryz.func63 rfl ?_
 refine rg1 @idV.eq_1 ?_
 refine zA ?_
 refine rc1 hA @tmV.eq_1 ?_
 by_cases hv : a.val = true
 ·have h0 : vTm a = 0:=by unfold vTm; rw [if_pos hv]
  refine rg1 @h0 ?_
  refine cS1 @h0 ?_
  refine rc1 hB @tmV.eq_1 ?_
  all_goals (refine zC ?_; refine ⟨⟨.inr rfl,_,[],rfl,trivial,trivial,by simp [idV,vId,hv],?_⟩,by simp [idV,vId,hv]⟩; simp [idV,vId,hv])
 ·have h0 : vTm a = 21:=by unfold vTm; rw [if_neg hv]
  refine rg1 @h0 ?_
  refine cT1 @h0 ?_
  refine rg0 ?_
  all_goals (refine zC ?_; refine ⟨⟨.inr rfl,_,[],rfl,trivial,trivial,by simp [idV,vId,hv,h0],?_⟩,by simp [idV,vId,hv,h0]⟩; simp [idV,vId,hv,h0])
theorem zSe (s : ByteArray) (c : Int) (w : World) : (callFunc 148 #[.string s,.int .u8 c]).run Tryz.prog w = .ok (.value (.int .i64 (firstIdx s c.toNat.toUInt8))) w:=by
 rw [run_callFunc_extern (fn:=Tryz.f148) (e:=Extern.BytealgIndexByte.indexByte) Tryz.func148 (by kernel_rfl) (by kernel_rfl) (by kernel_rfl) (by rfl)]
 rw [run_indexByte_string]
 rfl
theorem zGj (s : ByteArray) (c : Int) : FnA Tryz.prog 138 [.t 0 (.str s),.t 2 (.int .u8 c)] (.t 2 (.int .i64 (firstIdx s c.toNat.toUInt8))):=by
 refine fI 8 #[.tmp 4] Tryz.func138 rfl ?_
 refine rg0 ?_
 refine zI fun K hK=>?_
 simp (maxSteps:=2000000) (disch:=omega) [ints,rows,scal,zK,wr8]
 refine zOn s c 0 2 rfl rfl rfl rfl (by simp) (by simp) (zSe s c) ?_
 simp (maxSteps:=2000000) (disch:=omega) [ints,rows,scal,zK,wr8]
 (repeat' first | apply hK | apply And.intro) <;> try first | omega | rfl | (simp <;> omega)
 exact zC rt0
theorem zEI (s : ByteArray) (c : Int) : FnA Tryz.prog 118 [.t 0 (.str s),.t 2 (.int .u8 c)] (.t 2 (.int .i64 (firstIdx s c.toNat.toUInt8))):=by
 have h:=zGj s c
 refine fI 8 #[.tmp 4] Tryz.func118 rfl ?_
 refine rg0 ?_
 refine rc0 h ?_
 exact zC rt0
def zO6 (c : Int) : Int:=if c = 120 then 0 else if c = 121 then 1 else if c = 122 then 2 else if c = 117 then 3 else if c = 118 then 4 else if c = 116 then 5 else -1
def zE7 : ByteArray:=⟨#[120,121,122,117,118,116]⟩
theorem zK3 : ∀ c : Fin 256,firstIdx zE7 c.val.toUInt8 = zO6 (c.val : Int):=by decide +kernel
theorem zJB {c : Int} (h0 : 0 <= c) (h1 : c < 256) : firstIdx zE7 c.toNat.toUInt8 = zO6 c:=by
 have:=zK3 ⟨c.toNat,by omega⟩
 simp only at this
 rw [this]
 congr 1
 omega
def zDZ (c : Int) : Bool:=decide (c = 49) || decide (c = 40) || (decide (c ≠ 0) && decide (0 <= zO6 c))
theorem zGt {c : Int} (h0 : 0 <= c) (h1 : c < 256) : FnA Tryz.prog 92 [.t 2 (.int .u8 c)] (.t 2 (.bool (zDZ c))):=by
 have h:=zEI zE7 c
 rw [zJB h0 h1] at h
 unfold zE7 at h
 refine fI 18 #[.tmp 2] Tryz.func92 rfl ?_
 refine rg0 ?_
 by_cases e1 : c = 49
 ·subst e1
  refine rg0 ?_
  all_goals (refine zC ?_; refine ⟨⟨.inr rfl,_,[],rfl,trivial,trivial,by simp [zDZ],?_⟩,by simp [zDZ]⟩; simp [zDZ])
 by_cases e2 : c = 40
 ·subst e2
  refine rg0 ?_
  all_goals (refine zC ?_; refine ⟨⟨.inr rfl,_,[],rfl,trivial,trivial,by simp [zDZ],?_⟩,by simp [zDZ]⟩; simp [zDZ])
 have b1 : (c == 49) = false:=by simpa using e1
 have b2 : (c == 40) = false:=by simpa using e2
 by_cases e3 : c = 0
 ·subst e3
  refine rg0 ?_
  all_goals (refine zC ?_; refine ⟨⟨.inr rfl,_,[],rfl,trivial,trivial,by simp [zDZ],?_⟩,by simp [zDZ]⟩; simp [zDZ])
 ·have b3 : (c == 0) = false:=by simpa using e3
  have b4 : (c != 0) = true:=by simpa using e3
  refine rc1 h (an @b1 (an @b2 (an @b3 (an @b4 @e3)))) ?_
  all_goals (refine zC ?_; refine ⟨⟨.inr rfl,_,[],rfl,trivial,trivial,by simp [zDZ,e1,e2,e3],?_⟩,by simp [zDZ,e1,e2,e3]⟩; simp [zDZ,e1,e2,e3])
def prO (s : ByteArray) (pos : Nat) : AObj:=.box 134 [.t 1 (.str s),.t 2 (.int .i64 (pos : Int))]
def pkB (s : ByteArray) (pos : Nat) : Int:=if pos = s.size then 0 else zEz s pos
theorem zFd (s : ByteArray) (pos : Nat) (hp : pos <= s.size) (hs : s.size <= 1000000) : FnS Tryz.prog 93 [.ptr 0 0 2] [prO s pos] (.t 2 (.int .u8 (pkB s pos))) [prO s pos]:=by
 refine fI 22 #[.tmp 2] Tryz.func93 rfl ?_
 refine rg0 ?_
 refine zA ?_
 refine rd1 @prO.eq_1 ?_
 by_cases he : pos = s.size
 ·subst he
  refine cT0 ?_
  refine rg0 ?_
  refine zC ?_
  have hpk : pkB s s.size = 0:=by unfold pkB; rw [if_pos rfl]
  exact zCW (an @prO.eq_1 @hpk)
 ·refine cS1 @he ?_
  refine rd1 @prO.eq_1 ?_
  refine zC ?_
  have hpk : pkB s pos = zEz s pos:=by unfold pkB; rw [if_neg he]
  exact zCW (an @prO.eq_1 @hpk)
theorem zAn {s : ByteArray} {pos : Nat} {b : Int} (hp : pos <= s.size) (hb : b ≠ 0) (h : pkB s pos = b) : pos < s.size:=by
 unfold pkB at h
 split at h
 ·omega
 ·omega
theorem zD9 (s : ByteArray) (pos : Nat) (b : Int) (hp : pos <= s.size) (hs : s.size <= 1000000) (hb : b ≠ 0) : FnS Tryz.prog 62 [.ptr 0 0 2,.t 2 (.int .u8 b)] [prO s pos] (.t 2 (.bool (decide (pkB s pos = b)))) [prO s (if pkB s pos = b then pos + 1 else pos)]:=by
 have hpk:=zFd s pos hp hs
 refine fI 16 #[.tmp 4] Tryz.func62 rfl ?_
 refine rg0 ?_
 refine zA ?_
 refine zI fun K hK=>?_
 simp (maxSteps:=2000000) (disch:=omega) [ints,rows,scal,zK,wr8]
 (repeat' apply And.intro)
 all_goals (try omega)
 refine zD (caps:=[]) (hpk) [0] [0] 1 rfl rfl rfl rfl (by kernel_rfl) (by simp) ?_ ?_ (by simp) rfl (by simp) ⟨.inr ⟨rfl,0,_,_,_,_,_,rfl,rfl,(by first | rfl | simp [prO]),rfl,(by first | rfl | simp [prO])⟩,trivial⟩ (by simp [prO]) ?_
 ·simp [scal,rows,ints,prO]
 ·simp [scal,rows,ints,prO]
 simp (maxSteps:=2000000) (disch:=omega) [ints,rows,scal,zK,wr8,prO]
 (repeat' first | apply hK | apply And.intro) <;> try first | omega | rfl | (simp <;> omega)
 by_cases he : pkB s pos = b
 ·have hlt:=zAn hp hb he
  refine cS1 @he ?_
  refine rg1 @prO.eq_1 ?_
  refine rg0 ?_
  refine zC ?_
  exact zCW (an @prO.eq_1 @he)
 ·refine cT1 @he ?_
  refine rg0 ?_
  refine zC ?_
  exact zCW (an @prO.eq_1 @he)
def skF (s : ByteArray) : Nat -> Nat -> Nat
 | 0,pos=>pos
 | f + 1,pos=>if pkB s pos = 32 then skF s f (pos + 1) else pos
def zAL (s : ByteArray) (pos : Nat) : Nat:=skF s (s.size - pos) pos
theorem zJr {s : ByteArray} {pos : Nat} (hp : pos <= s.size) : zAL s pos = if pkB s pos = 32 then zAL s (pos + 1) else pos:=by
 unfold zAL
 by_cases h : pkB s pos = 32
 ·have hlt:=zAn hp (by omega) h
  rw [if_pos h,show s.size - pos = (s.size - (pos + 1)) + 1 by omega]
  show (if pkB s pos = 32 then _ else _) = _
  rw [if_pos h]
 ·rw [if_neg h]
  cases hf : s.size - pos with
  | zero=>rfl
  | succ f =>
   show (if pkB s pos = 32 then _ else _) = _
   rw [if_neg h]
theorem zPS {s : ByteArray} : ∀ f pos,pos + f <= s.size -> skF s f pos <= s.size /\ pos <= skF s f pos
 | 0,pos,h=>⟨by simpa [skF] using h,Nat.le_refl _⟩
 | f + 1,pos,h=>by
  unfold skF
  split
  ·have:=zPS (s:=s) f (pos + 1) (by omega)
   exact ⟨this.1,by omega⟩
  ·exact ⟨by omega,Nat.le_refl _⟩
theorem zAy {s : ByteArray} {pos : Nat} (hp : pos <= s.size) : zAL s pos <= s.size /\ pos <= zAL s pos:=zPS _ _ (by omega)
theorem zC4 (s : ByteArray) (pos : Nat) (hp : pos <= s.size) (hs : s.size <= 1000000) : FnS Tryz.prog 91 [.ptr 0 0 2] [prO s pos] (.tup []) [prO s (zAL s pos)]:=by
 refine fI 4 #[] Tryz.func91 rfl ?_
 refine zB ?_
 refine awp_loop (fun q : Nat=>mkS [(0,.ptr 0 0 2)] [(0,prO s q)] 1 4 [.ptr 0 0 2]) (fun q=>q <= s.size /\ zAL s q = zAL s pos) (fun q=>s.size - q) ?_ ?_
 ·refine ⟨pos,⟨hp,rfl⟩,?_⟩
  exact kw1 [(0,some 0)] @prO.eq_1
 rintro q ⟨hq,hsk⟩
 have hac:=zD9 s q 32 hq hs (by omega)
 refine zA ?_
 refine zI fun K hK=>?_
 simp (maxSteps:=2000000) (disch:=omega) [ints,rows,scal,zK,wr8]
 (repeat' apply And.intro)
 all_goals (try omega)
 refine zD (caps:=[]) (hac) [0] [0] 1 rfl rfl rfl rfl (by kernel_rfl) (by simp) ?_ ?_ (by simp) rfl (by simp) ⟨.inr ⟨rfl,0,_,_,_,_,_,rfl,rfl,(by first | rfl | simp [prO]),rfl,(by first | rfl | simp [prO])⟩,trivial⟩ (by simp [prO]) ?_
 ·simp [scal,rows,ints,prO]
 ·simp [scal,rows,ints,prO]
 simp (maxSteps:=2000000) (disch:=omega) [ints,rows,scal,zK,wr8,prO]
 (repeat' first | apply hK | apply And.intro) <;> try first | omega | rfl | (simp <;> omega)
 by_cases he : pkB s q = 32
 ·have hlt:=zAn hq (by omega) he
  refine cK1 @he ?_
  refine zB ?_
  refine zb ?_
  rw [zJr hq,if_pos he] at hsk
  refine ⟨q + 1,⟨by omega,hsk⟩,by omega,?_⟩
  exact kw1 [(0,some 0)] (an @prO.eq_1 @he)
 ·rw [zJr hq,if_neg he] at hsk
  refine cF1 @he ?_
  refine zG ?_
  have hq2 : (if pkB s q = 32 then q + 1 else q) = zAL s pos:=by rw [if_neg he]; exact hsk
  refine ⟨⟨.inl rfl,_,[(0,some 0)],rfl,?_,?_,?_,?_⟩,?_⟩
  all_goals simp [prO,hq2]
def zBb (s : ByteArray) (pos : Nat) : Int × Bool × Nat :=
 if pkB s pos = 119 then (0,true,pos + 1)
 else if pkB s pos ≠ 40 then (0,false,pos)
 else if pkB s (pos + 1) ≠ 119 then (0,false,pos + 1)
 else if pkB s (pos + 1 + 1) = 45 then
  (if pkB s (pos + 1 + 1 + 1) ≠ 49 then (-1,false,pos + 1 + 1 + 1) else if pkB s (pos + 1 + 1 + 1 + 1) ≠ 41 then (-1,false,pos + 1 + 1 + 1 + 1) else (-1,true,pos + 1 + 1 + 1 + 1 + 1))
 else if pkB s (pos + 1 + 1) ≠ 43 then (0,false,pos + 1 + 1)
 else if pkB s (pos + 1 + 1 + 1) < 49 \/ 57 < pkB s (pos + 1 + 1 + 1) then (0,false,pos + 1 + 1 + 1)
 else if pkB s (pos + 1 + 1 + 1 + 1) ≠ 41 then (pkB s (pos + 1 + 1 + 1) - 48,false,pos + 1 + 1 + 1 + 1) else (pkB s (pos + 1 + 1 + 1) - 48,true,pos + 1 + 1 + 1 + 1 + 1)
theorem zAE {s : ByteArray} {pos : Nat} {b : Int} (hp : pos <= s.size) (hs : s.size <= 1000000) (hb : b ≠ 0) (h : pkB s pos = b) : pos + 1 <= s.size /\ FnS Tryz.prog 62 [.ptr 0 0 2,.t 2 (.int .u8 b)] [prO s pos] (.t 2 (.bool true)) [prO s (pos + 1)]:=by
 have:=zD9 s pos b hp hs hb
 rw [if_pos h,decide_eq_true h] at this
 exact ⟨zAn hp hb h,this⟩
theorem zAa {s : ByteArray} {pos : Nat} {b : Int} (hp : pos <= s.size) (hs : s.size <= 1000000) (hb : b ≠ 0) (h : pkB s pos ≠ b) : FnS Tryz.prog 62 [.ptr 0 0 2,.t 2 (.int .u8 b)] [prO s pos] (.t 2 (.bool false)) [prO s pos]:=by
 have:=zD9 s pos b hp hs hb
 rw [if_neg h,decide_eq_false h] at this
 exact this
theorem zIN (s : ByteArray) (pos : Nat) (hp : pos <= s.size) (hs : s.size <= 1000000) : FnS Tryz.prog 120 [.ptr 0 0 2] [prO s pos] (.tup [.t 2 (.int .i64 (zBb s pos).1),.t 2 (.bool (zBb s pos).2.1)]) [prO s (zBb s pos).2.2]:=by
 refine fI 50 #[.tmp 2,.tmp 3] Tryz.func120 rfl ?_
 refine rg0 ?_
 refine zA ?_
 by_cases e1 : pkB s pos = 119
 ·obtain ⟨-,h1⟩:=zAE hp hs (by omega) e1
  have hres : zBb s pos = (0,true,pos + 1):=by unfold zBb; rw [if_pos e1]
  refine zI fun K hK=>?_
  simp (maxSteps:=2000000) (disch:=omega) [ints,rows,scal,zK,wr8]
  (repeat' apply And.intro)
  all_goals (try omega)
  refine zD (caps:=[]) (h1) [0] [0] 1 rfl rfl rfl rfl (by kernel_rfl) (by simp) ?_ ?_ (by simp) rfl (by simp) ⟨.inr ⟨rfl,0,_,_,_,_,_,rfl,rfl,(by first | rfl | simp [prO]),rfl,(by first | rfl | simp [prO])⟩,trivial⟩ (by simp [prO]) ?_
  ·simp [scal,rows,ints,prO]
  ·simp [scal,rows,ints,prO]
  simp (maxSteps:=2000000) (disch:=omega) [ints,rows,scal,zK,wr8,prO]
  (repeat' first | apply hK | apply And.intro) <;> try first | omega | rfl | (simp <;> omega)
  refine cT0 ?_
  refine rg0 ?_
  refine zC ?_
  exact zCW (an @prO.eq_1 @hres)
 have h1:=zAa hp hs (by omega) e1
 refine zI fun K hK=>?_
 simp (maxSteps:=2000000) (disch:=omega) [ints,rows,scal,zK,wr8]
 (repeat' apply And.intro)
 all_goals (try omega)
 refine zD (caps:=[]) (h1) [0] [0] 1 rfl rfl rfl rfl (by kernel_rfl) (by simp) ?_ ?_ (by simp) rfl (by simp) ⟨.inr ⟨rfl,0,_,_,_,_,_,rfl,rfl,(by first | rfl | simp [prO]),rfl,(by first | rfl | simp [prO])⟩,trivial⟩ (by simp [prO]) ?_
 ·simp [scal,rows,ints,prO]
 ·simp [scal,rows,ints,prO]
 simp (maxSteps:=2000000) (disch:=omega) [ints,rows,scal,zK,wr8,prO]
 (repeat' first | apply hK | apply And.intro) <;> try first | omega | rfl | (simp <;> omega)
 refine cS0 ?_
 refine zA ?_
 by_cases e2 : pkB s pos = 40
 case neg =>
  have h2:=zAa hp hs (by omega) e2
  have hres : zBb s pos = (0,false,pos):=by unfold zBb; rw [if_neg e1,if_pos e2]
  refine zI fun K hK=>?_
  simp (maxSteps:=2000000) (disch:=omega) [ints,rows,scal,zK,wr8]
  (repeat' apply And.intro)
  all_goals (try omega)
  refine zD (caps:=[]) (h2) [0] [0] 1 rfl rfl rfl rfl (by kernel_rfl) (by simp) ?_ ?_ (by simp) rfl (by simp) ⟨.inr ⟨rfl,0,_,_,_,_,_,rfl,rfl,(by first | rfl | simp [prO]),rfl,(by first | rfl | simp [prO])⟩,trivial⟩ (by simp [prO]) ?_
  ·simp [scal,rows,ints,prO]
  ·simp [scal,rows,ints,prO]
  simp (maxSteps:=2000000) (disch:=omega) [ints,rows,scal,zK,wr8,prO]
  (repeat' first | apply hK | apply And.intro) <;> try first | omega | rfl | (simp <;> omega)
  refine cT0 ?_
  refine rg0 ?_
  refine zC ?_
  exact zCW (an @prO.eq_1 @hres)
 obtain ⟨hp1,h2⟩:=zAE hp hs (by omega) e2
 by_cases e3 : pkB s (pos + 1) = 119
 case neg =>
  have h3:=zAa hp1 hs (by omega) e3
  have hres : zBb s pos = (0,false,pos + 1):=by unfold zBb; rw [if_neg e1,if_neg (by simpa using e2),if_pos e3]
  refine zI fun K hK=>?_
  simp (maxSteps:=2000000) (disch:=omega) [ints,rows,scal,zK,wr8]
  (repeat' apply And.intro)
  all_goals (try omega)
  refine zD (caps:=[]) (h2) [0] [0] 1 rfl rfl rfl rfl (by kernel_rfl) (by simp) ?_ ?_ (by simp) rfl (by simp) ⟨.inr ⟨rfl,0,_,_,_,_,_,rfl,rfl,(by first | rfl | simp [prO]),rfl,(by first | rfl | simp [prO])⟩,trivial⟩ (by simp [prO]) ?_
  ·simp [scal,rows,ints,prO]
  ·simp [scal,rows,ints,prO]
  simp (maxSteps:=2000000) (disch:=omega) [ints,rows,scal,zK,wr8,prO]
  (repeat' apply And.intro)
  all_goals (try omega)
  refine zD (caps:=[]) (h3) [0] [0] 1 (by simp [prO]) rfl rfl rfl (by kernel_rfl) (by simp) ?_ ?_ (by simp) rfl (by simp) ⟨.inr ⟨rfl,0,_,_,_,_,_,rfl,rfl,(by first | rfl | simp [prO]),rfl,(by first | rfl | simp [prO])⟩,trivial⟩ (by simp [prO]) ?_
  ·simp [scal,rows,ints,prO]
  ·simp [scal,rows,ints,prO]
  simp (maxSteps:=2000000) (disch:=omega) [ints,rows,scal,zK,wr8,prO]
  (repeat' first | apply hK | apply And.intro) <;> try first | omega | rfl | (simp <;> omega)
  refine cT0 ?_
  refine rg0 ?_
  refine zC ?_
  exact zCW (an @prO.eq_1 @hres)
 obtain ⟨hp2,h3⟩:=zAE hp1 hs (by omega) e3
 refine zI fun K hK=>?_
 simp (maxSteps:=2000000) (disch:=omega) [ints,rows,scal,zK,wr8]
 (repeat' apply And.intro)
 all_goals (try omega)
 refine zD (caps:=[]) (h2) [0] [0] 1 rfl rfl rfl rfl (by kernel_rfl) (by simp) ?_ ?_ (by simp) rfl (by simp) ⟨.inr ⟨rfl,0,_,_,_,_,_,rfl,rfl,(by first | rfl | simp [prO]),rfl,(by first | rfl | simp [prO])⟩,trivial⟩ (by simp [prO]) ?_
 ·simp [scal,rows,ints,prO]
 ·simp [scal,rows,ints,prO]
 simp (maxSteps:=2000000) (disch:=omega) [ints,rows,scal,zK,wr8,prO]
 (repeat' apply And.intro)
 all_goals (try omega)
 refine zD (caps:=[]) (h3) [0] [0] 1 (by simp [prO]) rfl rfl rfl (by kernel_rfl) (by simp) ?_ ?_ (by simp) rfl (by simp) ⟨.inr ⟨rfl,0,_,_,_,_,_,rfl,rfl,(by first | rfl | simp [prO]),rfl,(by first | rfl | simp [prO])⟩,trivial⟩ (by simp [prO]) ?_
 ·simp [scal,rows,ints,prO]
 ·simp [scal,rows,ints,prO]
 simp (maxSteps:=2000000) (disch:=omega) [ints,rows,scal,zK,wr8,prO]
 (repeat' first | apply hK | apply And.intro) <;> try first | omega | rfl | (simp <;> omega)
 refine cS0 ?_
 refine zA ?_
 have hne2 : ¬ pkB s pos ≠ 40:=by simpa using e2
 have hne3 : ¬ pkB s (pos + 1) ≠ 119:=by simpa using e3
 by_cases e4 : pkB s (pos + 1 + 1) = 45
 ·obtain ⟨hp3,h4⟩:=zAE hp2 hs (by omega) e4
  refine zI fun K hK=>?_
  simp (maxSteps:=2000000) (disch:=omega) [ints,rows,scal,zK,wr8]
  (repeat' apply And.intro)
  all_goals (try omega)
  refine zD (caps:=[]) (h4) [0] [0] 1 rfl rfl rfl rfl (by kernel_rfl) (by simp) ?_ ?_ (by simp) rfl (by simp) ⟨.inr ⟨rfl,0,_,_,_,_,_,rfl,rfl,(by first | rfl | simp [prO]),rfl,(by first | rfl | simp [prO])⟩,trivial⟩ (by simp [prO]) ?_
  ·simp [scal,rows,ints,prO]
  ·simp [scal,rows,ints,prO]
  simp (maxSteps:=2000000) (disch:=omega) [ints,rows,scal,zK,wr8,prO]
  (repeat' first | apply hK | apply And.intro) <;> try first | omega | rfl | (simp <;> omega)
  refine cT0 ?_
  by_cases e5 : pkB s (pos + 1 + 1 + 1) = 49
  case neg =>
   have h5:=zAa hp3 hs (by omega) e5
   have hres : zBb s pos = (-1,false,pos + 1 + 1 + 1):=by unfold zBb; rw [if_neg e1,if_neg hne2,if_neg hne3,if_pos e4,if_pos e5]
   refine zI fun K hK=>?_
   simp (maxSteps:=2000000) (disch:=omega) [ints,rows,scal,zK,wr8]
   (repeat' apply And.intro)
   all_goals (try omega)
   refine zD (caps:=[]) (h5) [0] [0] 1 rfl rfl rfl rfl (by kernel_rfl) (by simp) ?_ ?_ (by simp) rfl (by simp) ⟨.inr ⟨rfl,0,_,_,_,_,_,rfl,rfl,(by first | rfl | simp [prO]),rfl,(by first | rfl | simp [prO])⟩,trivial⟩ (by simp [prO]) ?_
   ·simp [scal,rows,ints,prO]
   ·simp [scal,rows,ints,prO]
   simp (maxSteps:=2000000) (disch:=omega) [ints,rows,scal,zK,wr8,prO]
   and_intros <;> try first | apply hK | omega | rfl | simp <;> omega
   refine zC ?_
   exact zCW (an @prO.eq_1 @hres)
  obtain ⟨hp4,h5⟩:=zAE hp3 hs (by omega) e5
  have hne5 : ¬ pkB s (pos + 1 + 1 + 1) ≠ 49:=by simpa using e5
  by_cases e6 : pkB s (pos + 1 + 1 + 1 + 1) = 41
  case neg =>
   have h6:=zAa hp4 hs (by omega) e6
   have hres : zBb s pos = (-1,false,pos + 1 + 1 + 1 + 1):=by unfold zBb; rw [if_neg e1,if_neg hne2,if_neg hne3,if_pos e4,if_neg hne5,if_pos e6]
   refine zI fun K hK=>?_
   simp (maxSteps:=2000000) (disch:=omega) [ints,rows,scal,zK,wr8]
   (repeat' apply And.intro)
   all_goals (try omega)
   refine zD (caps:=[]) (h5) [0] [0] 1 rfl rfl rfl rfl (by kernel_rfl) (by simp) ?_ ?_ (by simp) rfl (by simp) ⟨.inr ⟨rfl,0,_,_,_,_,_,rfl,rfl,(by first | rfl | simp [prO]),rfl,(by first | rfl | simp [prO])⟩,trivial⟩ (by simp [prO]) ?_
   ·simp [scal,rows,ints,prO]
   ·simp [scal,rows,ints,prO]
   simp (maxSteps:=2000000) (disch:=omega) [ints,rows,scal,zK,wr8,prO]
   (repeat' apply And.intro)
   all_goals (try omega)
   refine zD (caps:=[]) (h6) [0] [0] 1 (by simp [prO]) rfl rfl rfl (by kernel_rfl) (by simp) ?_ ?_ (by simp) rfl (by simp) ⟨.inr ⟨rfl,0,_,_,_,_,_,rfl,rfl,(by first | rfl | simp [prO]),rfl,(by first | rfl | simp [prO])⟩,trivial⟩ (by simp [prO]) ?_
   ·simp [scal,rows,ints,prO]
   ·simp [scal,rows,ints,prO]
   simp (maxSteps:=2000000) (disch:=omega) [ints,rows,scal,zK,wr8,prO]
   and_intros <;> try first | apply hK | omega | rfl | simp <;> omega
   refine zC ?_
   exact zCW (an @prO.eq_1 @hres)
  obtain ⟨hp5,h6⟩:=zAE hp4 hs (by omega) e6
  have hres : zBb s pos = (-1,true,pos + 1 + 1 + 1 + 1 + 1):=by unfold zBb; rw [if_neg e1,if_neg hne2,if_neg hne3,if_pos e4,if_neg hne5,if_neg (by simpa using e6)]
  refine zI fun K hK=>?_
  simp (maxSteps:=2000000) (disch:=omega) [ints,rows,scal,zK,wr8]
  (repeat' apply And.intro)
  all_goals (try omega)
  refine zD (caps:=[]) (h5) [0] [0] 1 rfl rfl rfl rfl (by kernel_rfl) (by simp) ?_ ?_ (by simp) rfl (by simp) ⟨.inr ⟨rfl,0,_,_,_,_,_,rfl,rfl,(by first | rfl | simp [prO]),rfl,(by first | rfl | simp [prO])⟩,trivial⟩ (by simp [prO]) ?_
  ·simp [scal,rows,ints,prO]
  ·simp [scal,rows,ints,prO]
  simp (maxSteps:=2000000) (disch:=omega) [ints,rows,scal,zK,wr8,prO]
  (repeat' apply And.intro)
  all_goals (try omega)
  refine zD (caps:=[]) (h6) [0] [0] 1 (by simp [prO]) rfl rfl rfl (by kernel_rfl) (by simp) ?_ ?_ (by simp) rfl (by simp) ⟨.inr ⟨rfl,0,_,_,_,_,_,rfl,rfl,(by first | rfl | simp [prO]),rfl,(by first | rfl | simp [prO])⟩,trivial⟩ (by simp [prO]) ?_
  ·simp [scal,rows,ints,prO]
  ·simp [scal,rows,ints,prO]
  simp (maxSteps:=2000000) (disch:=omega) [ints,rows,scal,zK,wr8,prO]
  and_intros <;> try first | apply hK | omega | rfl | simp <;> omega
  refine zC ?_
  exact zCW (an @prO.eq_1 @hres)
 have h4:=zAa hp2 hs (by omega) e4
 refine zI fun K hK=>?_
 simp (maxSteps:=2000000) (disch:=omega) [ints,rows,scal,zK,wr8]
 (repeat' apply And.intro)
 all_goals (try omega)
 refine zD (caps:=[]) (h4) [0] [0] 1 rfl rfl rfl rfl (by kernel_rfl) (by simp) ?_ ?_ (by simp) rfl (by simp) ⟨.inr ⟨rfl,0,_,_,_,_,_,rfl,rfl,(by first | rfl | simp [prO]),rfl,(by first | rfl | simp [prO])⟩,trivial⟩ (by simp [prO]) ?_
 ·simp [scal,rows,ints,prO]
 ·simp [scal,rows,ints,prO]
 simp (maxSteps:=2000000) (disch:=omega) [ints,rows,scal,zK,wr8,prO]
 (repeat' first | apply hK | apply And.intro) <;> try first | omega | rfl | (simp <;> omega)
 refine cS0 ?_
 refine zA ?_
 by_cases e5 : pkB s (pos + 1 + 1) = 43
 case neg =>
  have h5:=zAa hp2 hs (by omega) e5
  have hres : zBb s pos = (0,false,pos + 1 + 1):=by unfold zBb; rw [if_neg e1,if_neg hne2,if_neg hne3,if_neg e4,if_pos e5]
  refine zI fun K hK=>?_
  simp (maxSteps:=2000000) (disch:=omega) [ints,rows,scal,zK,wr8]
  (repeat' apply And.intro)
  all_goals (try omega)
  refine zD (caps:=[]) (h5) [0] [0] 1 rfl rfl rfl rfl (by kernel_rfl) (by simp) ?_ ?_ (by simp) rfl (by simp) ⟨.inr ⟨rfl,0,_,_,_,_,_,rfl,rfl,(by first | rfl | simp [prO]),rfl,(by first | rfl | simp [prO])⟩,trivial⟩ (by simp [prO]) ?_
  ·simp [scal,rows,ints,prO]
  ·simp [scal,rows,ints,prO]
  simp (maxSteps:=2000000) (disch:=omega) [ints,rows,scal,zK,wr8,prO]
  (repeat' first | apply hK | apply And.intro) <;> try first | omega | rfl | (simp <;> omega)
  refine cT0 ?_
  refine rg0 ?_
  refine zC ?_
  exact zCW (an @prO.eq_1 @hres)
 obtain ⟨hp3,h5⟩:=zAE hp2 hs (by omega) e5
 have hne5 : ¬ pkB s (pos + 1 + 1) ≠ 43:=by simpa using e5
 have hpk:=zFd s (pos + 1 + 1 + 1) hp3 hs
 by_cases e6 : pkB s (pos + 1 + 1 + 1) < 49
 ·have hres : zBb s pos = (0,false,pos + 1 + 1 + 1):=by unfold zBb; rw [if_neg e1,if_neg hne2,if_neg hne3,if_neg e4,if_neg hne5,if_pos (.inl e6)]
  refine zI fun K hK=>?_
  simp (maxSteps:=2000000) (disch:=omega) [ints,rows,scal,zK,wr8]
  (repeat' apply And.intro)
  all_goals (try omega)
  refine zD (caps:=[]) (h5) [0] [0] 1 rfl rfl rfl rfl (by kernel_rfl) (by simp) ?_ ?_ (by simp) rfl (by simp) ⟨.inr ⟨rfl,0,_,_,_,_,_,rfl,rfl,(by first | rfl | simp [prO]),rfl,(by first | rfl | simp [prO])⟩,trivial⟩ (by simp [prO]) ?_
  ·simp [scal,rows,ints,prO]
  ·simp [scal,rows,ints,prO]
  simp (maxSteps:=2000000) (disch:=omega) [ints,rows,scal,zK,wr8,prO]
  (repeat' apply And.intro)
  all_goals (try omega)
  refine zD (caps:=[]) (hpk) [0] [0] 1 (by simp [prO]) rfl rfl rfl (by kernel_rfl) (by simp) ?_ ?_ (by simp) rfl (by simp) ⟨.inr ⟨rfl,0,_,_,_,_,_,rfl,rfl,(by first | rfl | simp [prO]),rfl,(by first | rfl | simp [prO])⟩,trivial⟩ (by simp [prO]) ?_
  ·simp [scal,rows,ints,prO]
  ·simp [scal,rows,ints,prO]
  simp (maxSteps:=2000000) (disch:=omega) [ints,rows,scal,zK,wr8,prO,e6]
  (repeat' first | apply hK | apply And.intro) <;> try first | omega | rfl | (simp <;> omega)
  refine cT1 @e6 ?_
  refine rg0 ?_
  refine zC ?_
  exact zCW (an @prO.eq_1 @hres)
 by_cases e7 : 57 < pkB s (pos + 1 + 1 + 1)
 ·have hres : zBb s pos = (0,false,pos + 1 + 1 + 1):=by unfold zBb; rw [if_neg e1,if_neg hne2,if_neg hne3,if_neg e4,if_neg hne5,if_pos (.inr e7)]
  refine zI fun K hK=>?_
  simp (maxSteps:=2000000) (disch:=omega) [ints,rows,scal,zK,wr8]
  (repeat' apply And.intro)
  all_goals (try omega)
  refine zD (caps:=[]) (h5) [0] [0] 1 rfl rfl rfl rfl (by kernel_rfl) (by simp) ?_ ?_ (by simp) rfl (by simp) ⟨.inr ⟨rfl,0,_,_,_,_,_,rfl,rfl,(by first | rfl | simp [prO]),rfl,(by first | rfl | simp [prO])⟩,trivial⟩ (by simp [prO]) ?_
  ·simp [scal,rows,ints,prO]
  ·simp [scal,rows,ints,prO]
  simp (maxSteps:=2000000) (disch:=omega) [ints,rows,scal,zK,wr8,prO]
  (repeat' apply And.intro)
  all_goals (try omega)
  refine zD (caps:=[]) (hpk) [0] [0] 1 (by simp [prO]) rfl rfl rfl (by kernel_rfl) (by simp) ?_ ?_ (by simp) rfl (by simp) ⟨.inr ⟨rfl,0,_,_,_,_,_,rfl,rfl,(by first | rfl | simp [prO]),rfl,(by first | rfl | simp [prO])⟩,trivial⟩ (by simp [prO]) ?_
  ·simp [scal,rows,ints,prO]
  ·simp [scal,rows,ints,prO]
  simp (maxSteps:=2000000) (disch:=omega) [ints,rows,scal,zK,wr8,prO,e6]
  (repeat' apply And.intro)
  all_goals (try omega)
  refine zD (caps:=[]) (hpk) [0] [0] 1 (by simp [prO,e6]) rfl rfl rfl (by kernel_rfl) (by simp) ?_ ?_ (by simp) rfl (by simp) ⟨.inr ⟨rfl,0,_,_,_,_,_,rfl,rfl,(by first | rfl | simp [prO,e6]),rfl,(by first | rfl | simp [prO,e6])⟩,trivial⟩ (by simp [prO,e6]) ?_
  ·simp [scal,rows,ints,prO,e6]
  ·simp [scal,rows,ints,prO,e6]
  simp (maxSteps:=2000000) (disch:=omega) [ints,rows,scal,zK,wr8,prO,e6,e7]
  (repeat' first | apply hK | apply And.intro) <;> try first | omega | rfl | (simp <;> omega)
  refine cT1 (an @e6 @e7) ?_
  refine rg0 ?_
  refine zC ?_
  exact zCW (an @prO.eq_1 @hres)
 have hne6 : ¬ (pkB s (pos + 1 + 1 + 1) < 49 \/ 57 < pkB s (pos + 1 + 1 + 1)):=by omega
 have hlt : pos + 1 + 1 + 1 < s.size:=zAn hp3 (b:=pkB s (pos + 1 + 1 + 1)) (by omega) rfl
 obtain ⟨dd,hdd⟩ : ∃ dd,dd = pkB s (pos + 1 + 1 + 1):=⟨_,rfl⟩
 refine zI fun K hK=>?_
 simp (maxSteps:=2000000) (disch:=omega) [ints,rows,scal,zK,wr8]
 (repeat' apply And.intro)
 all_goals (try omega)
 refine zD (caps:=[]) (h5) [0] [0] 1 rfl rfl rfl rfl (by kernel_rfl) (by simp) ?_ ?_ (by simp) rfl (by simp) ⟨.inr ⟨rfl,0,_,_,_,_,_,rfl,rfl,(by first | rfl | simp [prO]),rfl,(by first | rfl | simp [prO])⟩,trivial⟩ (by simp [prO]) ?_
 ·simp [scal,rows,ints,prO]
 ·simp [scal,rows,ints,prO]
 simp (maxSteps:=2000000) (disch:=omega) [ints,rows,scal,zK,wr8,prO]
 (repeat' apply And.intro)
 all_goals (try omega)
 refine zD (caps:=[]) (hpk) [0] [0] 1 (by simp [prO]) rfl rfl rfl (by kernel_rfl) (by simp) ?_ ?_ (by simp) rfl (by simp) ⟨.inr ⟨rfl,0,_,_,_,_,_,rfl,rfl,(by first | rfl | simp [prO]),rfl,(by first | rfl | simp [prO])⟩,trivial⟩ (by simp [prO]) ?_
 ·simp [scal,rows,ints,prO]
 ·simp [scal,rows,ints,prO]
 simp (maxSteps:=2000000) (disch:=omega) [ints,rows,scal,zK,wr8,prO,e6]
 (repeat' apply And.intro)
 all_goals (try omega)
 refine zD (caps:=[]) (hpk) [0] [0] 1 (by simp [prO,e6]) rfl rfl rfl (by kernel_rfl) (by simp) ?_ ?_ (by simp) rfl (by simp) ⟨.inr ⟨rfl,0,_,_,_,_,_,rfl,rfl,(by first | rfl | simp [prO,e6]),rfl,(by first | rfl | simp [prO,e6])⟩,trivial⟩ (by simp [prO,e6]) ?_
 ·simp [scal,rows,ints,prO,e6]
 ·simp [scal,rows,ints,prO,e6]
 simp (maxSteps:=2000000) (disch:=omega) [ints,rows,scal,zK,wr8,prO,e6,e7]
 (repeat' first | apply hK | apply And.intro) <;> try first | omega | rfl | (simp <;> omega)
 refine cS1 (an @e6 @e7) ?_
 refine zI fun K hK=>?_
 simp (maxSteps:=2000000) (disch:=omega) [ints,rows,scal,zK,wr8]
 (repeat' apply And.intro)
 all_goals (try omega)
 refine zD (caps:=[]) (hpk) [0] [0] 1 rfl rfl rfl rfl (by kernel_rfl) (by simp) ?_ ?_ (by simp) rfl (by simp) ⟨.inr ⟨rfl,0,_,_,_,_,_,rfl,rfl,(by first | rfl | simp [prO]),rfl,(by first | rfl | simp [prO])⟩,trivial⟩ (by simp [prO]) ?_
 ·simp [scal,rows,ints,prO]
 ·simp [scal,rows,ints,prO]
 simp (maxSteps:=2000000) (disch:=omega) [ints,rows,scal,zK,wr8,prO]
 (repeat' first | apply hK | apply And.intro) <;> try first | omega | rfl | (simp <;> omega)
 refine rg1 @prO.eq_1 ?_
 have hp4 : pos + 1 + 1 + 1 + 1 <= s.size:=hlt
 by_cases e8 : pkB s (pos + 1 + 1 + 1 + 1) = 41
 ·obtain ⟨hp5,h8⟩:=zAE hp4 hs (by omega) e8
  have hres : zBb s pos = (pkB s (pos + 1 + 1 + 1) - 48,true,pos + 1 + 1 + 1 + 1 + 1):=by unfold zBb; rw [if_neg e1,if_neg hne2,if_neg hne3,if_neg e4,if_neg hne5,if_neg hne6,if_neg (by simpa using e8)]
  refine zI fun K hK=>?_
  simp (maxSteps:=2000000) (disch:=omega) [ints,rows,scal,zK,wr8]
  (repeat' apply And.intro)
  all_goals (try omega)
  refine zD (caps:=[]) (h8) [0] [0] 1 rfl rfl rfl rfl (by kernel_rfl) (by simp) ?_ ?_ (by simp) rfl (by simp) ⟨.inr ⟨rfl,0,_,_,_,_,_,rfl,rfl,(by first | rfl | simp [prO]),rfl,(by first | rfl | simp [prO])⟩,trivial⟩ (by simp [prO]) ?_
  ·simp [scal,rows,ints,prO]
  ·simp [scal,rows,ints,prO]
  simp (maxSteps:=2000000) (disch:=omega) [ints,rows,scal,zK,wr8,prO]
  and_intros <;> try first | apply hK | omega | rfl | simp <;> omega
  refine zC ?_
  exact zCW (an @prO.eq_1 @hres)
 ·have h8:=zAa hp4 hs (by omega) e8
  have hres : zBb s pos = (pkB s (pos + 1 + 1 + 1) - 48,false,pos + 1 + 1 + 1 + 1):=by unfold zBb; rw [if_neg e1,if_neg hne2,if_neg hne3,if_neg e4,if_neg hne5,if_neg hne6,if_pos e8]
  refine zI fun K hK=>?_
  simp (maxSteps:=2000000) (disch:=omega) [ints,rows,scal,zK,wr8]
  (repeat' apply And.intro)
  all_goals (try omega)
  refine zD (caps:=[]) (h8) [0] [0] 1 rfl rfl rfl rfl (by kernel_rfl) (by simp) ?_ ?_ (by simp) rfl (by simp) ⟨.inr ⟨rfl,0,_,_,_,_,_,rfl,rfl,(by first | rfl | simp [prO]),rfl,(by first | rfl | simp [prO])⟩,trivial⟩ (by simp [prO]) ?_
  ·simp [scal,rows,ints,prO]
  ·simp [scal,rows,ints,prO]
  simp (maxSteps:=2000000) (disch:=omega) [ints,rows,scal,zK,wr8,prO]
  and_intros <;> try first | apply hK | omega | rfl | simp <;> omega
  refine zC ?_
  exact zCW (an @prO.eq_1 @hres)
theorem zIc {s : ByteArray} {pos : Nat} (hp : pos <= s.size) : (zBb s pos).2.2 <= s.size /\ pos <= (zBb s pos).2.2:=by
 unfold zBb
 by_cases e1 : pkB s pos = 119
 ·have:=zAn hp (by omega) e1
  rw [if_pos e1]; exact ⟨by simp only; omega,by simp only; omega⟩
 rw [if_neg e1]
 by_cases e2 : pkB s pos ≠ 40
 ·rw [if_pos e2]; exact ⟨hp,Nat.le_refl _⟩
 rw [if_neg e2]
 have h1:=zAn (b:=40) hp (by omega) (by omega)
 by_cases e3 : pkB s (pos + 1) ≠ 119
 ·rw [if_pos e3]; exact ⟨by simp only; omega,by simp only; omega⟩
 rw [if_neg e3]
 have h2:=zAn (b:=119) (show pos + 1 <= s.size by omega) (by omega) (by omega)
 by_cases e4 : pkB s (pos + 1 + 1) = 45
 ·rw [if_pos e4]
  have h3:=zAn (b:=45) (show pos + 1 + 1 <= s.size by omega) (by omega) e4
  by_cases e5 : pkB s (pos + 1 + 1 + 1) ≠ 49
  ·rw [if_pos e5]; exact ⟨by simp only; omega,by simp only; omega⟩
  rw [if_neg e5]
  have h4:=zAn (b:=49) (show pos + 1 + 1 + 1 <= s.size by omega) (by omega) (by omega)
  by_cases e6 : pkB s (pos + 1 + 1 + 1 + 1) ≠ 41
  ·rw [if_pos e6]; exact ⟨by simp only; omega,by simp only; omega⟩
  rw [if_neg e6]
  have h5:=zAn (b:=41) (show pos + 1 + 1 + 1 + 1 <= s.size by omega) (by omega) (by omega)
  exact ⟨by simp only; omega,by simp only; omega⟩
 rw [if_neg e4]
 by_cases e5 : pkB s (pos + 1 + 1) ≠ 43
 ·rw [if_pos e5]; exact ⟨by simp only; omega,by simp only; omega⟩
 rw [if_neg e5]
 have h3:=zAn (b:=43) (show pos + 1 + 1 <= s.size by omega) (by omega) (by omega)
 by_cases e6 : pkB s (pos + 1 + 1 + 1) < 49 \/ 57 < pkB s (pos + 1 + 1 + 1)
 ·rw [if_pos e6]; exact ⟨by simp only; omega,by simp only; omega⟩
 rw [if_neg e6]
 have h4:=zAn (b:=pkB s (pos + 1 + 1 + 1)) (show pos + 1 + 1 + 1 <= s.size by omega) (by omega) rfl
 by_cases e7 : pkB s (pos + 1 + 1 + 1 + 1) ≠ 41
 ·rw [if_pos e7]; exact ⟨by simp only; omega,by simp only; omega⟩
 rw [if_neg e7]
 have h5:=zAn (b:=41) (show pos + 1 + 1 + 1 + 1 <= s.size by omega) (by omega) (by omega)
 exact ⟨by simp only; omega,by simp only; omega⟩
def Tm.zero : Tm:=.mk 0 0 []
abbrev PR:=Tm × Bool × Nat
def zx (P : Nat -> PR) (s : ByteArray) (pos : Nat) : PR :=
 if zDZ (pkB s pos) = false then (.zero,false,pos)
 else if pkB s pos = 49 then (.mk 1 0 [],true,pos + 1)
 else if pkB s pos = 40 then
  (
   if (P (pos + 1)).2.1 = false then ((P (pos + 1)).1,false,(P (pos + 1)).2.2)
   else if pkB s (P (pos + 1)).2.2 = 41 then ((P (pos + 1)).1,true,(P (pos + 1)).2.2 + 1) else ((P (pos + 1)).1,false,(P (pos + 1)).2.2))
 else (.mk 2 (zO6 (pkB s pos)) [],true,pos + 1)
def expsP (s : ByteArray) : Nat -> Nat -> Tm -> PR
 | 0,pos,t=>(t,true,pos)
 | f + 1,pos,t =>
  if pkB s pos = 94 then
   (
    if (zBb s (pos + 1)).2.1 = false then (.zero,false,(zBb s (pos + 1)).2.2)
    else expsP s f (zAL s (zBb s (pos + 1)).2.2) (.mk 4 (zBb s (pos + 1)).1 [t]))
  else (t,true,pos)
def zh (P : Nat -> PR) (s : ByteArray) (pos : Nat) : PR :=
 if (zx P s pos).2.1 = false then (.zero,false,(zx P s pos).2.2)
 else expsP s (s.size + 1 - zAL s (zx P s pos).2.2) (zAL s (zx P s pos).2.2) (zx P s pos).1
def zBB (P : Nat -> PR) (s : ByteArray) : Nat -> Nat -> List Tm -> PR
 | 0,pos,acc=>(.zero,false,pos)
 | f + 1,pos,acc =>
  if acc.length = 0 \/ zDZ (pkB s pos) = true then
   (
    if (zh P s pos).2.1 = false then (.zero,false,(zh P s pos).2.2)
    else zBB P s f (zAL s (zh P s pos).2.2) (acc ++ [(zh P s pos).1]))
  else (if acc.length = 1 then acc.getD 0 .zero else .mk 3 0 acc,true,pos)
def zAT (s : ByteArray) : Nat -> Nat -> PR
 | 0,pos=>(.zero,false,pos)
 | f + 1,pos=>zBB (zAT s f) s (s.size + 2 - zAL s pos) (zAL s pos) []
theorem zDD (s : ByteArray) (pos : Nat) : 0 <= pkB s pos /\ pkB s pos < 256:=by
 unfold pkB
 by_cases h : pos = s.size
 ·rw [if_pos h]; omega
 ·rw [if_neg h]
  unfold zEz
  cases s[pos]? with
  | none=>simp
  | some b=>simp only [Option.map_some,Option.getD_some]; have:=b.toNat_lt; omega
def tmL (o n : Int) : AV:=.agg [.t 2 (.int .i64 o),.t 2 (.int .i64 n),.t 2 (.sl 0 [])]
theorem VR.leaf {E : Ev} {v : Value} {o n : Int} {r : AV} (h : VR E v (.tup [tmL o n,r])) : VR E v (.tup [tmV 2 (.mk o n []),r]):=by
 cases h with
 | tup vs cs hn hr =>
  refine .tup vs _ hn (fun i c hi=>?_)
  match i,hi with
  | 0,hi =>
   injection hi with hi
   subst hi
   have h0:=hr 0 _ rfl
   unfold tmL at h0
   generalize vs.getD 0 undef = u at h0 ⊢
   cases h0 with
   | agg us cs hn' h1 hr' =>
    refine .agg us _ hn' h1 (fun j d hj=>?_)
    match j,hj with
    | 0,hj=>exact hr' 0 _ hj
    | 1,hj=>exact hr' 1 _ hj
    | 2,hj =>
     injection hj with hj
     subst hj
     rw [zD7 (hr' 2 _ rfl)]
     exact .t _ _ _ (.nil 3)
    | j + 3,hj=>simp [Tm.args,Tm.op] at hj
  | i + 1,hi=>exact hr (i + 1) c hi
theorem FnS.zSI {P : Program} {f : FuncId} {args : List AV} {H H' : List AObj} {r r' : AV} (h : FnS P f args H r H') (hr : ∀ E v,VR E v r -> VR E v r') : FnS P f args H r' H':=fun w V ob vs hm hn hv=>(h w V ob vs hm hn hv).mono fun e w' ⟨v,ob',h1,h2,h3,h4⟩=>⟨v,ob',h1,h2,hr _ _ h3,h4⟩
theorem zd (h : 69 < Tryz.prog.types.size) : (Tryz.prog.types[69]'h).size = 3:=by rfl
def zCA (P : Nat -> PR) (s : ByteArray) (pos : Nat) : AV :=
 if zDZ (pkB s pos) = false then tmL 0 0
 else if pkB s pos = 49 then tmL 1 0
 else if pkB s pos = 40 then tmV 2 (P (pos + 1)).1
 else tmL 2 (zO6 (pkB s pos))
theorem zOs (P : Nat -> PR) (s : ByteArray) (pos : Nat) (hp : pos <= s.size) (hs : s.size <= 1000000)
  (hP : pos + 1 <= s.size -> (P (pos + 1)).2.2 <= s.size /\ FnS Tryz.prog 61 [.ptr 0 0 2] [prO s (pos + 1)] (.tup [tmV 2 (P (pos + 1)).1,.t 2 (.bool (P (pos + 1)).2.1)]) [prO s (P (pos + 1)).2.2]) :
  FnS Tryz.prog 119 [.ptr 0 0 2] [prO s pos] (.tup [zCA P s pos,.t 2 (.bool (zx P s pos).2.1)]) [prO s (zx P s pos).2.2]:=by
 have h1:=zFd s pos hp hs
 have h2:=zGt (zDD s pos).1 (zDD s pos).2
 refine fI 40 #[.cell 2 69,.tmp 3] Tryz.func119 rfl ?_
 refine rg0 ?_
 refine zI fun K hK=>?_
 simp (maxSteps:=2000000) (disch:=omega) [ints,rows,scal,zK,wr8]
 (repeat' apply And.intro)
 all_goals (try omega)
 refine zD (caps:=[]) (h1) [0] [0] 1 rfl rfl rfl rfl (by kernel_rfl) (by simp) ?_ ?_ (by simp) rfl (by simp) ⟨.inr ⟨rfl,0,_,_,_,_,_,rfl,rfl,(by first | rfl | simp [prO]),rfl,(by first | rfl | simp [prO])⟩,trivial⟩ (by simp [prO]) ?_
 ·simp [scal,rows,ints,prO]
 ·simp [scal,rows,ints,prO]
 simp (maxSteps:=2000000) (disch:=omega) [ints,rows,scal,zK,wr8,prO]
 and_intros <;> try first | apply hK | omega | rfl | simp <;> omega
 refine zA ?_
 refine rc0 h2 ?_
 by_cases e1 : zDZ (pkB s pos) = false
 ·have hres : zx P s pos = (.zero,false,pos):=by unfold zx; rw [if_pos e1]
  refine cT1 @e1 ?_
  refine rg0 ?_
  refine zC ?_
  have hr : zCA P s pos = tmL 0 0:=by unfold zCA; rw [if_pos e1]
  rw [hr,hres]
  unfold tmL
  exact zCW (an @prO.eq_1 @zd)
 have e1' : zDZ (pkB s pos) = true:=by simpa using e1
 have hlt : pos + 1 <= s.size:=by
  refine zAn (b:=pkB s pos) hp (fun h0=>?_) rfl
  rw [h0] at e1'
  exact absurd e1' (by decide)
 refine cS1 @e1' ?_
 refine rg1 @prO.eq_1 ?_
 refine zA ?_
 refine rg0 ?_
 refine zB ?_
 refine rg0 ?_
 by_cases e2 : pkB s pos = 49
 ·have hres : zx P s pos = (.mk 1 0 [],true,pos + 1):=by unfold zx; rw [if_neg e1,if_pos e2]
  have hr : zCA P s pos = tmL 1 0:=by unfold zCA; rw [if_neg e1,if_pos e2]
  refine cT1 @e2 ?_
  refine rg0 ?_
  refine zC ?_
  rw [hr,hres]
  unfold tmL
  exact zCW (an @prO.eq_1 @zd)
 refine cF1 @e2 ?_
 refine rg0 ?_
 by_cases e3 : pkB s pos = 40
 case neg =>
  have h4:=zEI zE7 (pkB s pos)
  rw [zJB (zDD s pos).1 (zDD s pos).2] at h4
  unfold zE7 at h4
  have hres : zx P s pos = (.mk 2 (zO6 (pkB s pos)) [],true,pos + 1):=by unfold zx; rw [if_neg e1,if_neg e2,if_neg e3]
  have hr : zCA P s pos = tmL 2 (zO6 (pkB s pos)):=by unfold zCA; rw [if_neg e1,if_neg e2,if_neg e3]
  refine cY1 @e3 ?_
  show awp _ _ _ _
  refine rc0 h4 ?_
  refine zC ?_
  rw [hr,hres]
  unfold tmL
  exact zCW (an @prO.eq_1 @zd)
 obtain ⟨hle,h5⟩:=hP hlt
 have hr : zCA P s pos = tmV 2 (P (pos + 1)).1:=by unfold zCA; rw [if_neg e1,if_neg e2,if_pos e3]
 have hat : zx P s pos = (if (P (pos + 1)).2.1 = false then ((P (pos + 1)).1,false,(P (pos + 1)).2.2) else if pkB s (P (pos + 1)).2.2 = 41 then ((P (pos + 1)).1,true,(P (pos + 1)).2.2 + 1) else ((P (pos + 1)).1,false,(P (pos + 1)).2.2)):=by
  unfold zx; rw [if_neg e1,if_neg e2,if_pos e3]
 rw [hr,hat]
 generalize P (pos + 1) = q at h5 hle ⊢
 obtain ⟨u,b,pe⟩:=q
 simp only at h5 hle ⊢
 refine cT1 @e3 ?_
 refine zI fun K hK=>?_
 simp (maxSteps:=2000000) (disch:=omega) [ints,rows,scal,zK,wr8]
 (repeat' apply And.intro)
 all_goals (try omega)
 refine zD (caps:=[]) (h5) [0] [0] 1 rfl rfl rfl rfl (by kernel_rfl) (by simp) ?_ ?_ (by simp) rfl (by simp) ⟨.inr ⟨rfl,0,_,_,_,_,_,rfl,rfl,(by first | rfl | simp [prO]),rfl,(by first | rfl | simp [prO])⟩,trivial⟩ (by simp [prO]) ?_
 ·simp [scal,rows,ints,prO]
 ·simp [scal,rows,ints,prO]
 simp (maxSteps:=2000000) (disch:=omega) [ints,rows,scal,zK,wr8,prO,tmV,zd]
 (repeat' first | apply hK | apply And.intro) <;> try first | omega | rfl | (simp <;> omega)
 cases b with
 | false =>
  refine rd1 (an @prO.eq_1 (an @tmV.eq_1 @zd)) ?_
  refine zC ?_
  rw [if_pos rfl]
  exact zCW (an @prO.eq_1 (an @tmV.eq_1 @zd))
 | true =>
  by_cases e4 : pkB s pe = 41
  ·obtain ⟨-,h6⟩:=zAE hle hs (by omega) e4
   refine zp (by kernel_rfl) (fun K hK=>?_)
   simp (maxSteps:=2000000) (disch:=omega) [ints,rows,scal,zK,wr8,prO,tmV,zd]
   (repeat' apply And.intro)
   all_goals (try omega)
   refine zS (caps:=[]) (h6) [0] [0] 1 (by simp [prO]) rfl rfl rfl (by kernel_rfl) (by simp) ?_ ?_ (by simp) rfl (by simp) ⟨.inr ⟨rfl,0,_,_,_,_,_,rfl,rfl,(by first | rfl | simp [prO]),rfl,(by first | rfl | simp [prO])⟩,trivial⟩ (by simp [prO]) ?_
   ·simp [scal,rows,ints,prO]
   ·simp [scal,rows,ints,prO]
   simp (maxSteps:=2000000) (disch:=omega) [ints,rows,scal,zK,wr8,prO,tmV,zd]
   and_intros <;> try first | apply hK | (show zA8 _ _ = true; kernel_rfl) | (show okH _ _ _ = true; kernel_rfl) | omega | rfl | simp <;> omega
   refine zC ?_
   rw [if_neg (by simp),if_pos e4]
   exact zCW (an @prO.eq_1 (an @tmV.eq_1 @zd))
  ·have h6:=zAa hle hs (by omega) e4
   refine zp (by kernel_rfl) (fun K hK=>?_)
   simp (maxSteps:=2000000) (disch:=omega) [ints,rows,scal,zK,wr8,prO,tmV,zd]
   (repeat' apply And.intro)
   all_goals (try omega)
   refine zS (caps:=[]) (h6) [0] [0] 1 (by simp [prO]) rfl rfl rfl (by kernel_rfl) (by simp) ?_ ?_ (by simp) rfl (by simp) ⟨.inr ⟨rfl,0,_,_,_,_,_,rfl,rfl,(by first | rfl | simp [prO]),rfl,(by first | rfl | simp [prO])⟩,trivial⟩ (by simp [prO]) ?_
   ·simp [scal,rows,ints,prO]
   ·simp [scal,rows,ints,prO]
   simp (maxSteps:=2000000) (disch:=omega) [ints,rows,scal,zK,wr8,prO,tmV,zd]
   and_intros <;> try first | apply hK | (show zA8 _ _ = true; kernel_rfl) | (show okH _ _ _ = true; kernel_rfl) | omega | rfl | simp <;> omega
   refine zC ?_
   rw [if_neg (by simp),if_neg e4]
   exact zCW (an @prO.eq_1 (an @tmV.eq_1 @zd))
theorem zQF (P : Nat -> PR) (s : ByteArray) (pos : Nat) (hp : pos <= s.size) (hs : s.size <= 1000000)
  (hP : pos + 1 <= s.size -> (P (pos + 1)).2.2 <= s.size /\ FnS Tryz.prog 61 [.ptr 0 0 2] [prO s (pos + 1)] (.tup [tmV 2 (P (pos + 1)).1,.t 2 (.bool (P (pos + 1)).2.1)]) [prO s (P (pos + 1)).2.2]) :
  FnS Tryz.prog 119 [.ptr 0 0 2] [prO s pos] (.tup [tmV 2 (zx P s pos).1,.t 2 (.bool (zx P s pos).2.1)]) [prO s (zx P s pos).2.2]:=by
 refine FnS.zSI (zOs P s pos hp hs hP) (fun E v h=>?_)
 by_cases e1 : zDZ (pkB s pos) = false
 ·have hres : zx P s pos = (.zero,false,pos):=by unfold zx; rw [if_pos e1]
  have hr : zCA P s pos = tmL 0 0:=by unfold zCA; rw [if_pos e1]
  rw [hr,hres] at h
  rw [hres]
  exact h.leaf
 by_cases e2 : pkB s pos = 49
 ·have hres : zx P s pos = (.mk 1 0 [],true,pos + 1):=by unfold zx; rw [if_neg e1,if_pos e2]
  have hr : zCA P s pos = tmL 1 0:=by unfold zCA; rw [if_neg e1,if_pos e2]
  rw [hr,hres] at h
  rw [hres]
  exact h.leaf
 by_cases e3 : pkB s pos = 40
 ·have hr : zCA P s pos = tmV 2 (P (pos + 1)).1:=by unfold zCA; rw [if_neg e1,if_neg e2,if_pos e3]
  have h1 : (zx P s pos).1 = (P (pos + 1)).1:=by
   unfold zx
   rw [if_neg e1,if_neg e2,if_pos e3]
   split
   ·rfl
   ·split <;> rfl
  rw [hr] at h
  rw [h1]
  exact h
 ·have hres : zx P s pos = (.mk 2 (zO6 (pkB s pos)) [],true,pos + 1):=by unfold zx; rw [if_neg e1,if_neg e2,if_neg e3]
  have hr : zCA P s pos = tmL 2 (zO6 (pkB s pos)):=by unfold zCA; rw [if_neg e1,if_neg e2,if_neg e3]
  rw [hr,hres] at h
  rw [hres]
  exact h.leaf
theorem zIw {P : Nat -> PR} {s : ByteArray} {pos : Nat} (hp : pos <= s.size) (hP : pos + 1 <= s.size -> (P (pos + 1)).2.2 <= s.size /\ pos + 1 <= (P (pos + 1)).2.2) : (zx P s pos).2.2 <= s.size /\ pos <= (zx P s pos).2.2 /\ ((zx P s pos).2.1 = true -> pos + 1 <= (zx P s pos).2.2):=by
 unfold zx
 by_cases e1 : zDZ (pkB s pos) = false
 ·rw [if_pos e1]; exact ⟨hp,Nat.le_refl _,fun h=>by cases h⟩
 have hlt : pos + 1 <= s.size:=by
  refine zAn (b:=pkB s pos) hp (fun h0=>?_) rfl
  rw [h0] at e1
  exact e1 (by decide)
 obtain ⟨h1,h2⟩:=hP hlt
 rw [if_neg e1]
 by_cases e2 : pkB s pos = 49
 ·rw [if_pos e2]; simp only; omega
 rw [if_neg e2]
 by_cases e3 : pkB s pos = 40
 ·rw [if_pos e3]
  by_cases e4 : (P (pos + 1)).2.1 = false
  ·rw [if_pos e4]; exact ⟨h1,by simp only; omega,fun h=>by cases h⟩
  rw [if_neg e4]
  by_cases e5 : pkB s (P (pos + 1)).2.2 = 41
  ·have:=zAn h1 (by omega) e5
   rw [if_pos e5]; simp only; omega
  ·rw [if_neg e5]; exact ⟨h1,by simp only; omega,fun h=>by cases h⟩
 ·rw [if_neg e3]; simp only; omega
def tmO (t : Tm) : AObj:=.box 69 [.t 2 (.int .i64 t.op),.t 2 (.int .i64 t.n),.t 2 (.sl 3 (cellsL t.args))]
def zeO : AObj:=.box 69 [.t 2 (.int .i64 0),.t 2 (.int .i64 0),.t 2 (.sl 0 [])]
def zIL (P : Nat -> PR) (s : ByteArray) (pos : Nat) : AV:=if (zh P s pos).2.1 = false then tmL 0 0 else tmV 2 (zh P s pos).1
theorem zDI (s : ByteArray) (f pos : Nat) (t : Tm) : expsP s (f + 1) pos t = (if pkB s pos = 94 then
   (
    if (zBb s (pos + 1)).2.1 = false then (.zero,false,(zBb s (pos + 1)).2.2)
    else expsP s f (zAL s (zBb s (pos + 1)).2.2) (.mk 4 (zBb s (pos + 1)).1 [t]))
  else (t,true,pos)):=rfl
theorem zEq {s : ByteArray} : ∀ f g pos t,pos <= s.size -> s.size - pos < f -> s.size - pos < g -> expsP s f pos t = expsP s g pos t
 | 0,g,pos,t,hp,hf,hg=>by omega
 | f + 1,0,pos,t,hp,hf,hg=>by omega
 | f + 1,g + 1,pos,t,hp,hf,hg=>by
  unfold expsP
  by_cases e1 : pkB s pos = 94
  ·have h1:=zAn hp (by omega) e1
   have h2:=zIc (s:=s) (pos:=pos + 1) (by omega)
   have h3:=zAy h2.1
   rw [if_pos e1,if_pos e1]
   by_cases e2 : (zBb s (pos + 1)).2.1 = false
   ·rw [if_pos e2,if_pos e2]
   ·rw [if_neg e2,if_neg e2]
    exact zEq f g _ _ h3.1 (by omega) (by omega)
  ·rw [if_neg e1,if_neg e1]
theorem zKY (P : Nat -> PR) (s : ByteArray) (pos : Nat) (hp : pos <= s.size) (hs : s.size <= 1000000) (hle : (zx P s pos).2.2 <= s.size)
  (hA : FnS Tryz.prog 119 [.ptr 0 0 2] [prO s pos] (.tup [tmV 2 (zx P s pos).1,.t 2 (.bool (zx P s pos).2.1)]) [prO s (zx P s pos).2.2]) :
  FnS Tryz.prog 94 [.ptr 0 0 2] [prO s pos] (.tup [zIL P s pos,.t 2 (.bool (zh P s pos).2.1)]) [prO s (zh P s pos).2.2]:=by
 refine fI 35 #[.cell 2 69,.tmp 3] Tryz.func94 rfl ?_
 have hat : zh P s pos = (if (zx P s pos).2.1 = false then (.zero,false,(zx P s pos).2.2) else expsP s (s.size + 1 - zAL s (zx P s pos).2.2) (zAL s (zx P s pos).2.2) (zx P s pos).1):=rfl
 unfold zIL
 rw [hat]
 generalize zx P s pos = q at hA hle ⊢
 obtain ⟨u,b,pe⟩:=q
 simp only at hA hle ⊢
 refine rg0 ?_
 refine zI fun K hK=>?_
 simp (maxSteps:=2000000) (disch:=omega) [ints,rows,scal,zK,wr8]
 (repeat' apply And.intro)
 all_goals (try omega)
 refine zD (caps:=[]) (hA) [0] [0] 1 rfl rfl rfl rfl (by kernel_rfl) (by simp) ?_ ?_ (by simp) rfl (by simp) ⟨.inr ⟨rfl,0,_,_,_,_,_,rfl,rfl,(by first | rfl | simp [prO]),rfl,(by first | rfl | simp [prO])⟩,trivial⟩ (by simp [prO]) ?_
 ·simp [scal,rows,ints,prO]
 ·simp [scal,rows,ints,prO]
 simp (maxSteps:=2000000) (disch:=omega) [ints,rows,scal,zK,wr8,prO,tmV,zd]
 and_intros <;> try first | apply hK | omega | rfl | simp <;> omega
 refine zA ?_
 refine rg0 ?_
 cases b with
 | false =>
  refine cT0 ?_
  refine rg1 @zd ?_
  refine zC ?_
  rw [if_pos rfl]
  simp only [if_true]
  unfold tmL
  exact zCW (an @prO.eq_1 @zd)
 | true =>
  simp only [Bool.true_eq_false,↓reduceIte]
  refine cS0 ?_
  have h2:=zC4 s pe hle hs
  have hsk:=(zAy hle).1
  generalize zAL s pe = p0 at h2 hsk ⊢
  refine zA ?_
  refine zI fun K hK=>?_
  simp (maxSteps:=2000000) (disch:=omega) [ints,rows,scal,zK,wr8]
  (repeat' apply And.intro)
  all_goals (try omega)
  refine zD (caps:=[]) (h2) [0] [0] 1 rfl rfl rfl rfl (by kernel_rfl) (by simp) ?_ ?_ (by simp) rfl (by simp) ⟨.inr ⟨rfl,0,_,_,_,_,_,rfl,rfl,(by first | rfl | simp [prO]),rfl,(by first | rfl | simp [prO])⟩,trivial⟩ (by simp [prO]) ?_
  ·simp [scal,rows,ints,prO]
  ·simp [scal,rows,ints,prO]
  simp (maxSteps:=2000000) (disch:=omega) [ints,rows,scal,zK,wr8,prO,tmV,zd]
  and_intros <;> try first | apply hK | omega | rfl | simp <;> omega
  refine zB ?_
  refine awp_loop (fun q : Nat × Tm=>mkS [(0,.ptr 0 0 2),(2,.ptr 1 0 3),(4,.ptr 2 0 3)] [(0,prO s q.1),(1,zeO),(2,tmO q.2)] 3 35 [.ptr 0 0 2]) (fun q=>q.1 <= s.size /\ expsP s (s.size + 1 - q.1) q.1 q.2 = expsP s (s.size + 1 - p0) p0 u) (fun q=>s.size - q.1) ?_ ?_
  ·refine ⟨(p0,u),⟨hsk,rfl⟩,?_⟩
   exact kw1 [(0,some 0),(1,some 1),(2,some 7000001)] (an @prO.eq_1 (an @zeO.eq_1 (an @tmO.eq_1 @zd)))
  rintro ⟨q,v⟩ ⟨hq,hex⟩
  simp only at hq hex
  rw [← hex]
  rw [show s.size + 1 - q = (s.size - q) + 1 by omega,zDI s (s.size - q) q v]
  refine zA ?_
  by_cases e1 : pkB s q = 94
  case neg =>
   have h3:=zAa hq hs (by omega) e1
   rw [if_neg e1]
   refine zI fun K hK=>?_
   simp (maxSteps:=2000000) (disch:=omega) [ints,rows,scal,zK,wr8,prO,zeO,tmO]
   (repeat' apply And.intro)
   all_goals (try omega)
   refine zD (caps:=[]) (h3) [0] [0] 1 rfl rfl rfl rfl (by kernel_rfl) (by simp) ?_ ?_ (by simp) rfl (by simp) ⟨.inr ⟨rfl,0,_,_,_,_,_,rfl,rfl,(by first | rfl | simp [prO]),rfl,(by first | rfl | simp [prO])⟩,trivial⟩ (by simp [prO]) ?_
   ·simp [scal,rows,ints,prO]
   ·simp [scal,rows,ints,prO]
   simp (maxSteps:=2000000) (disch:=omega) [ints,rows,scal,zK,wr8,prO,zeO,tmO]
   (repeat' first | apply hK | apply And.intro) <;> try first | omega | rfl | (simp <;> omega)
   refine cF0 ?_
   refine zG ?_
   show awp _ _ _ _
   refine rg1 (an @prO.eq_1 (an @zeO.eq_1 (an @tmO.eq_1 @zd))) ?_
   refine zC ?_
   simp only [Bool.true_eq_false,↓reduceIte]
   exact zCW (an @prO.eq_1 (an @zeO.eq_1 (an @tmO.eq_1 (an @zd @tmV.eq_1))))
  obtain ⟨hp1,h3⟩:=zAE hq hs (by omega) e1
  have h4:=zIN s (q + 1) hp1 hs
  have hl4:=zIc hp1
  rw [if_pos e1]
  generalize zBb s (q + 1) = x at h4 hl4 ⊢
  obtain ⟨n,b,pe'⟩:=x
  simp only at h4 hl4 ⊢
  refine zI fun K hK=>?_
  simp (maxSteps:=2000000) (disch:=omega) [ints,rows,scal,zK,wr8,prO,zeO,tmO]
  (repeat' apply And.intro)
  all_goals (try omega)
  refine zD (caps:=[]) (h3) [0] [0] 1 rfl rfl rfl rfl (by kernel_rfl) (by simp) ?_ ?_ (by simp) rfl (by simp) ⟨.inr ⟨rfl,0,_,_,_,_,_,rfl,rfl,(by first | rfl | simp [prO]),rfl,(by first | rfl | simp [prO])⟩,trivial⟩ (by simp [prO]) ?_
  ·simp [scal,rows,ints,prO]
  ·simp [scal,rows,ints,prO]
  simp (maxSteps:=2000000) (disch:=omega) [ints,rows,scal,zK,wr8,prO,zeO,tmO]
  (repeat' first | apply hK | apply And.intro) <;> try first | omega | rfl | (simp <;> omega)
  refine cK0 ?_
  refine zA ?_
  refine zB ?_
  refine zI fun K hK=>?_
  simp (maxSteps:=2000000) (disch:=omega) [ints,rows,scal,zK,wr8,prO,zeO,tmO]
  (repeat' apply And.intro)
  all_goals (try omega)
  refine zD (caps:=[]) (h4) [0] [0] 1 rfl rfl rfl rfl (by kernel_rfl) (by simp) ?_ ?_ (by simp) rfl (by simp) ⟨.inr ⟨rfl,0,_,_,_,_,_,rfl,rfl,(by first | rfl | simp [prO]),rfl,(by first | rfl | simp [prO])⟩,trivial⟩ (by simp [prO]) ?_
  ·simp [scal,rows,ints,prO]
  ·simp [scal,rows,ints,prO]
  simp (maxSteps:=2000000) (disch:=omega) [ints,rows,scal,zK,wr8,prO,zeO,tmO]
  and_intros <;> try first | apply hK | omega | rfl | simp <;> omega
  refine zA ?_
  refine rg1 (an @prO.eq_1 (an @zeO.eq_1 @tmO.eq_1)) ?_
  cases b with
  | false =>
   refine cT0 ?_
   refine rg1 (an @prO.eq_1 (an @zeO.eq_1 (an @tmO.eq_1 @zd))) ?_
   refine zC ?_
   simp only [↓reduceIte]
   unfold tmL
   exact zCW (an @prO.eq_1 (an @zeO.eq_1 (an @tmO.eq_1 (an @zd @tmV.eq_1))))
  | true =>
   have h5:=zC4 s pe' hl4.1 hs
   have hs5:=zAy hl4.1
   refine cS0 ?_
   refine rr1 (an @prO.eq_1 (an @zeO.eq_1 (an @tmO.eq_1 @zd))) ?_
   show awp _ _ _ _
   refine zAh fun K hK=>?_
   simp (maxSteps:=2000000) (disch:=omega) [ints,rows,scal,zK,wr8,prO,zeO,tmO]
   (repeat' apply And.intro)
   all_goals (try omega)
   refine zD (caps:=[]) (h5) [0] [0] 1 rfl rfl rfl rfl (by kernel_rfl) (by simp) ?_ ?_ (by simp) rfl (by simp) ⟨.inr ⟨rfl,0,_,_,_,_,_,rfl,rfl,(by first | rfl | simp [prO]),rfl,(by first | rfl | simp [prO])⟩,trivial⟩ (by simp [prO]) ?_
   ·simp [scal,rows,ints,prO]
   ·simp [scal,rows,ints,prO]
   simp (maxSteps:=2000000) (disch:=omega) [ints,rows,scal,zK,wr8,prO,zeO,tmO]
   (repeat' first | apply hK | apply And.intro) <;> try first | omega | rfl | (simp <;> omega)
   refine ⟨(zAL s pe',.mk 4 n [v]),⟨hs5.1,?_⟩,by simp only; omega,?_⟩
   ·simp only [Bool.true_eq_false,↓reduceIte]
    exact zEq (s.size + 1 - zAL s pe') (s.size - q) (zAL s pe') (.mk 4 n [v]) hs5.1 (by omega) (by omega)
   refine zQ [(0,some 0),(1,some 1),(2,some 2)] rfl ?_ ?_ ?_ ?_
   all_goals try simp [ints,prO,zeO,tmO,zd,Tm.op,Tm.n,Tm.args,cellsL,Tm.zAi]
theorem zMM (P : Nat -> PR) (s : ByteArray) (pos : Nat) (hp : pos <= s.size) (hs : s.size <= 1000000) (hle : (zx P s pos).2.2 <= s.size)
  (hA : FnS Tryz.prog 119 [.ptr 0 0 2] [prO s pos] (.tup [tmV 2 (zx P s pos).1,.t 2 (.bool (zx P s pos).2.1)]) [prO s (zx P s pos).2.2])
  (hz : (zh P s pos).2.1 = false -> (zh P s pos).1 = .zero) :
  FnS Tryz.prog 94 [.ptr 0 0 2] [prO s pos] (.tup [tmV 2 (zh P s pos).1,.t 2 (.bool (zh P s pos).2.1)]) [prO s (zh P s pos).2.2]:=by
 refine FnS.zSI (zKY P s pos hp hs hle hA) (fun E v h=>?_)
 unfold zIL at h
 by_cases e : (zh P s pos).2.1 = false
 ·rw [if_pos e] at h
  rw [hz e]
  exact h.leaf
 ·rw [if_neg e] at h
  exact h
theorem zE6 {s : ByteArray} : ∀ f pos t,(expsP s f pos t).2.1 = false -> (expsP s f pos t).1 = .zero
 | 0,pos,t,h=>by cases h
 | f + 1,pos,t,h=>by
  rw [zDI] at h ⊢
  by_cases e1 : pkB s pos = 94
  ·rw [if_pos e1] at h ⊢
   by_cases e2 : (zBb s (pos + 1)).2.1 = false
   ·rw [if_pos e2]
   ·rw [if_neg e2] at h ⊢
    exact zE6 f _ _ h
  ·rw [if_neg e1] at h
   cases h
theorem zI0 {s : ByteArray} : ∀ f pos t,pos <= s.size -> (expsP s f pos t).2.2 <= s.size /\ pos <= (expsP s f pos t).2.2
 | 0,pos,t,hp=>⟨hp,Nat.le_refl _⟩
 | f + 1,pos,t,hp=>by
  rw [zDI]
  by_cases e1 : pkB s pos = 94
  ·have h1:=zAn hp (by omega) e1
   have h2:=zIc (s:=s) (pos:=pos + 1) (by omega)
   have h3:=zAy h2.1
   rw [if_pos e1]
   by_cases e2 : (zBb s (pos + 1)).2.1 = false
   ·rw [if_pos e2]; exact ⟨h2.1,by simp only; omega⟩
   ·rw [if_neg e2]
    have h4:=zI0 f (zAL s (zBb s (pos + 1)).2.2) (.mk 4 (zBb s (pos + 1)).1 [t]) h3.1
    exact ⟨h4.1,by omega⟩
  ·rw [if_neg e1]; exact ⟨hp,Nat.le_refl _⟩
theorem zGM {P : Nat -> PR} {s : ByteArray} {pos : Nat} (h : (zh P s pos).2.1 = false) : (zh P s pos).1 = .zero:=by
 unfold zh at h ⊢
 by_cases e : (zx P s pos).2.1 = false
 ·rw [if_pos e]
 ·rw [if_neg e] at h ⊢
  exact zE6 _ _ _ h
theorem zDP {P : Nat -> PR} {s : ByteArray} {pos : Nat} (hp : pos <= s.size) (hP : pos + 1 <= s.size -> (P (pos + 1)).2.2 <= s.size /\ pos + 1 <= (P (pos + 1)).2.2) : (zh P s pos).2.2 <= s.size /\ pos <= (zh P s pos).2.2 /\ ((zh P s pos).2.1 = true -> pos + 1 <= (zh P s pos).2.2):=by
 obtain ⟨h1,h2,h3⟩:=zIw hp hP
 unfold zh
 by_cases e : (zx P s pos).2.1 = false
 ·rw [if_pos e]; exact ⟨h1,h2,fun h=>by cases h⟩
 ·rw [if_neg e]
  have h4:=zAy h1
  have h5:=zI0 (s.size + 1 - zAL s (zx P s pos).2.2) (zAL s (zx P s pos).2.2) (zx P s pos).1 h4.1
  have h6:=h3 (by simpa using e)
  exact ⟨h5.1,by omega,fun _=>by omega⟩
def zPD (P : Nat -> PR) (s : ByteArray) (lo : Nat) : Prop:=∀ q,lo <= q -> q <= s.size -> (P q).2.2 <= s.size /\ q <= (P q).2.2
theorem zBL (P : Nat -> PR) (s : ByteArray) (f pos : Nat) (acc : List Tm) : zBB P s (f + 1) pos acc = (if acc.length = 0 \/ zDZ (pkB s pos) = true then
   (
    if (zh P s pos).2.1 = false then (.zero,false,(zh P s pos).2.2)
    else zBB P s f (zAL s (zh P s pos).2.2) (acc ++ [(zh P s pos).1]))
  else (if acc.length = 1 then acc.getD 0 .zero else .mk 3 0 acc,true,pos)):=rfl
theorem zD6 {P : Nat -> PR} {s : ByteArray} {lo : Nat} (hP : zPD P s lo) : ∀ f g pos acc,lo <= pos + 1 -> pos <= s.size -> s.size - pos < f -> s.size - pos < g -> zBB P s f pos acc = zBB P s g pos acc
 | 0,g,pos,acc,hl,hp,hf,hg=>by omega
 | f + 1,0,pos,acc,hl,hp,hf,hg=>by omega
 | f + 1,g + 1,pos,acc,hl,hp,hf,hg=>by
  rw [zBL,zBL]
  by_cases e1 : acc.length = 0 \/ zDZ (pkB s pos) = true
  ·rw [if_pos e1,if_pos e1]
   obtain ⟨h1,h2,h3⟩:=zDP hp (P:=P) (fun h=>hP (pos + 1) hl h)
   by_cases e2 : (zh P s pos).2.1 = false
   ·rw [if_pos e2,if_pos e2]
   ·rw [if_neg e2,if_neg e2]
    have h4:=h3 (by simpa using e2)
    have h5:=zAy h1
    exact zD6 hP f g _ _ (by omega) h5.1 (by omega) (by omega)
  ·rw [if_neg e1,if_neg e1]
theorem zGu {P : Nat -> PR} {s : ByteArray} {lo : Nat} (hP : zPD P s lo) : ∀ f pos acc,lo <= pos + 1 -> pos <= s.size -> (zBB P s f pos acc).2.2 <= s.size /\ pos <= (zBB P s f pos acc).2.2
 | 0,pos,acc,hl,hp=>⟨hp,Nat.le_refl _⟩
 | f + 1,pos,acc,hl,hp=>by
  rw [zBL]
  by_cases e1 : acc.length = 0 \/ zDZ (pkB s pos) = true
  ·rw [if_pos e1]
   obtain ⟨h1,h2,h3⟩:=zDP hp (P:=P) (fun h=>hP (pos + 1) hl h)
   by_cases e2 : (zh P s pos).2.1 = false
   ·rw [if_pos e2]; exact ⟨h1,h2⟩
   ·rw [if_neg e2]
    have h5:=zAy h1
    have:=zGu hP f _ (acc ++ [(zh P s pos).1]) (by omega) h5.1
    exact ⟨this.1,by omega⟩
  ·rw [if_neg e1]; exact ⟨hp,Nat.le_refl _⟩
theorem zD4 {P : Nat -> PR} {s : ByteArray} : ∀ f pos acc,(zBB P s f pos acc).2.1 = false -> (zBB P s f pos acc).1 = .zero
 | 0,pos,acc,h=>rfl
 | f + 1,pos,acc,h=>by
  rw [zBL] at h ⊢
  by_cases e1 : acc.length = 0 \/ zDZ (pkB s pos) = true
  ·rw [if_pos e1] at h ⊢
   by_cases e2 : (zh P s pos).2.1 = false
   ·rw [if_pos e2]
   ·rw [if_neg e2] at h ⊢
    exact zD4 f _ _ h
  ·rw [if_neg e1] at h; cases h
theorem zDQ (s : ByteArray) (f pos : Nat) : zAT s (f + 1) pos = zBB (zAT s f) s (s.size + 2 - zAL s pos) (zAL s pos) []:=rfl
theorem zCQ {s : ByteArray} : ∀ f pos,pos <= s.size -> (zAT s f pos).2.2 <= s.size /\ pos <= (zAT s f pos).2.2
 | 0,pos,hp=>⟨hp,Nat.le_refl _⟩
 | f + 1,pos,hp=>by
  rw [zDQ]
  have h5:=zAy hp
  have:=zGu (P:=zAT s f) (s:=s) (lo:=0) (fun q _ hq=>zCQ f q hq) (s.size + 2 - zAL s pos) (zAL s pos) [] (by omega) h5.1
  exact ⟨this.1,by omega⟩
theorem zKV {s : ByteArray} : ∀ f pos,(zAT s f pos).2.1 = false -> (zAT s f pos).1 = .zero
 | 0,pos,h=>rfl
 | f + 1,pos,h=>by
  rw [zDQ] at h ⊢
  exact zD4 _ _ _ h
def fsO (acc : List Tm) : AObj:=.row 69 3 2 (cellsL acc)
def zL2 (x : PR) : AV:=if x.2.1 = false then tmL 0 0 else tmV 2 x.1
theorem zNt (P : Nat -> PR) (s : ByteArray) (pos : Nat) (hp : pos <= s.size) (hs : s.size <= 100000) (hP : zPD P s (pos + 1))
  (hF : ∀ q,pos <= q -> q <= s.size -> FnS Tryz.prog 94 [.ptr 0 0 2] [prO s q] (.tup [tmV 2 (zh P s q).1,.t 2 (.bool (zh P s q).2.1)]) [prO s (zh P s q).2.2]) :
  FnS Tryz.prog 61 [.ptr 0 0 2] [prO s pos] (.tup [zL2 (zBB P s (s.size + 2 - zAL s pos) (zAL s pos) []),.t 2 (.bool (zBB P s (s.size + 2 - zAL s pos) (zAL s pos) []).2.1)]) [prO s (zBB P s (s.size + 2 - zAL s pos) (zAL s pos) []).2.2]:=by
 have h1:=zC4 s pos hp (by omega)
 have hsk:=zAy hp
 generalize zAL s pos = p0 at h1 hsk ⊢
 refine fI 39 #[.cell 2 69,.tmp 3] Tryz.func61 rfl ?_
 refine rg1 @prO.eq_1 ?_
 refine rg1 @prO.eq_1 ?_
 refine zA ?_
 refine zI fun K hK=>?_
 simp (maxSteps:=2000000) (disch:=omega) [ints,rows,scal,zK,wr8,prO]
 (repeat' apply And.intro)
 all_goals (try omega)
 refine zD (caps:=[]) (h1) [0] [0] 1 rfl rfl rfl rfl (by kernel_rfl) (by simp) ?_ ?_ (by simp) rfl (by simp) ⟨.inr ⟨rfl,0,_,_,_,_,_,rfl,rfl,(by first | rfl | simp [prO]),rfl,(by first | rfl | simp [prO])⟩,trivial⟩ (by simp [prO]) ?_
 ·simp [scal,rows,ints,prO]
 ·simp [scal,rows,ints,prO]
 simp (maxSteps:=2000000) (disch:=omega) [ints,rows,scal,zK,wr8,prO]
 and_intros <;> try first | apply hK | omega | rfl | simp <;> omega
 refine zB ?_
 refine awp_loop (fun y : Nat × List Tm=>mkS [(0,.ptr 0 0 2),(2,.ptr 1 0 3),(4,.own 2 (y.2.length * 3))] [(0,prO s y.1),(1,zeO),(2,fsO y.2)] 3 39 [.ptr 0 0 2]) (fun y=>pos <= y.1 /\ y.1 <= s.size /\ y.2.length <= y.1 /\ zBB P s (s.size + 2 - y.1) y.1 y.2 = zBB P s (s.size + 2 - p0) p0 []) (fun y=>s.size - y.1) ?_ ?_
 ·refine ⟨(p0,[]),⟨hsk.2,hsk.1,by simp,rfl⟩,?_⟩
  refine zQ [(0,some 0),(1,some 1),(2,none)] rfl ?_ ?_ ?_ ?_
  all_goals try simp [ints,prO,zeO,fsO,cellsL,zd]
 rintro ⟨q,acc⟩ ⟨hq0,hq,hacc,hex⟩
 simp only at hq0 hq hacc hex
 rw [← hex]
 rw [show s.size + 2 - q = (s.size - q + 1) + 1 by omega,zBL P s (s.size - q + 1) q acc]
 refine zA ?_
 refine zA (zBp (Q:=fun e σ=>e = Exit.normal /\ Wk σ (mkS [(0,.ptr 0 0 2),(2,.ptr 1 0 3),(4,.own 2 (acc.length * 3)),(16,.t 2 (.bool (decide (acc.length = 0 \/ zDZ (pkB s q) = true))))] [(0,prO s q),(1,zeO),(2,fsO acc)] 3 39 [.ptr 0 0 2])) ?_ ?_)
 ·by_cases e0 : acc.length = 0
  ·refine zAh fun K hK=>?_
   simp (maxSteps:=2000000) (disch:=omega) [ints,rows,scal,zK,wr8,prO,zeO,fsO,e0]
   (repeat' first | apply hK | apply And.intro) <;> try first | omega | rfl | (simp <;> omega)
   refine zQ [(0,some 0),(1,some 1),(2,some 2)] rfl ?_ ?_ ?_ ?_
   all_goals try simp [ints,prO,zeO,fsO,e0]
  ·have h2:=zFd s q hq (by omega)
   have h3:=zGt (zDD s q).1 (zDD s q).2
   have e0' : ((acc.length : Int) == 0) = false:=by simpa using e0
   refine zAh fun K hK=>?_
   simp (maxSteps:=2000000) (disch:=omega) [ints,rows,scal,zK,wr8,prO,zeO,fsO,e0,e0']
   (repeat' apply And.intro)
   all_goals (try omega)
   refine zD (caps:=[]) (h2) [0] [0] 1 (by simp [prO,zeO,fsO,e0,e0']) rfl rfl rfl (by kernel_rfl) (by simp) ?_ ?_ (by simp) rfl (by simp) ⟨.inr ⟨rfl,0,_,_,_,_,_,rfl,rfl,(by first | rfl | simp [prO,zeO,fsO,e0,e0']),rfl,(by first | rfl | simp [prO,zeO,fsO,e0,e0'])⟩,trivial⟩ (by simp [prO,zeO,fsO,e0,e0']) ?_
   ·simp [scal,rows,ints,prO,zeO,fsO,e0,e0']
   ·simp [scal,rows,ints,prO,zeO,fsO,e0,e0']
   simp (maxSteps:=2000000) (disch:=omega) [ints,rows,scal,zK,wr8,prO,zeO,fsO,e0,e0']
   (repeat' apply And.intro)
   all_goals (try omega)
   refine zD (caps:=[]) (h3) [] [] 2 (by simp [scal,rows,ints,e0,e0']) rfl rfl rfl (by kernel_rfl) (by simp) ?_ trivial trivial rfl trivial trivial (by simp) ?_
   ·simp [scal,rows,ints,e0,e0']
   simp (maxSteps:=2000000) (disch:=omega) [ints,rows,scal,zK,wr8,prO,zeO,fsO,e0,e0']
   (repeat' first | apply hK | apply And.intro) <;> try first | omega | rfl | (simp <;> omega)
   exact kw1 [(0,some 0),(1,some 1),(2,some 2)] (an @prO.eq_1 (an @zeO.eq_1 (an @fsO.eq_1 @e0)))
 rintro e σ ⟨rfl,hw⟩
 refine zX hw ?_
 clear hw
 show awp _ _ _ _
 by_cases e1 : acc.length = 0 \/ zDZ (pkB s q) = true
 case neg =>
  rw [if_neg e1,decide_eq_false e1]
  refine cF0 ?_
  refine zG ?_
  show awp _ _ _ _
  refine zA ?_
  by_cases e2 : acc.length = 1
  ·obtain ⟨a,rfl⟩ : ∃ a,acc = [a]:=by
    match acc,e2 with
    | [a],_=>exact ⟨a,rfl⟩
   refine rg1 (an @prO.eq_1 (an @zeO.eq_1 @fsO.eq_1)) ?_
   refine cT0 ?_
   refine zI fun K hK=>?_
   simp (maxSteps:=2000000) (disch:=omega) [ints,rows,scal,zK,wr8,prO,zeO,fsO,cellsL,Tm.zAi,zd]
   and_intros <;> try first | apply hK | omega | rfl | simp <;> omega
   refine zC ?_
   unfold zL2
   exact zCW (an @prO.eq_1 (an @zeO.eq_1 (an @fsO.eq_1 (an @zd @tmV.eq_1))))
  ·have e2' : ((acc.length : Int) == 1) = false:=by simp; omega
   refine rg1 (an @prO.eq_1 (an @zeO.eq_1 (an @fsO.eq_1 (an @e2 @e2')))) ?_
   refine cS0 ?_
   refine rg1 (an @prO.eq_1 (an @zeO.eq_1 (an @fsO.eq_1 @zd))) ?_
   refine zC ?_
   unfold zL2
   rw [if_neg e2]
   refine ⟨⟨.inr rfl,_,[(0,some 0)],(by first | rfl | (simp [ints,rows,scal,prO,zeO,fsO,zd,tmV,Tm.op,Tm.n,Tm.args]; rfl)),?_,?_,?_,?_⟩,?_⟩
   all_goals try simp [ints,rows,scal,prO,zeO,fsO,zd,tmV,Tm.op,Tm.n,Tm.args]
 rw [if_pos e1,decide_eq_true e1]
 have h4:=hF q hq0 hq
 obtain ⟨hl1,hl2,hl3⟩:=zDP hq (P:=P) (fun h=>hP (q + 1) (by omega) h)
 generalize zh P s q = x at h4 hl1 hl2 hl3 ⊢
 obtain ⟨u,b,pe⟩:=x
 simp only at h4 hl1 hl2 hl3 ⊢
 refine cK0 ?_
 refine zA ?_
 refine zB ?_
 refine zI fun K hK=>?_
 simp (maxSteps:=2000000) (disch:=omega) [ints,rows,scal,zK,wr8,prO,zeO,fsO]
 (repeat' apply And.intro)
 all_goals (try omega)
 refine zD (caps:=[]) (h4) [0] [0] 1 rfl rfl rfl rfl (by kernel_rfl) (by simp) ?_ ?_ (by simp) rfl (by simp) ⟨.inr ⟨rfl,0,_,_,_,_,_,rfl,rfl,(by first | rfl | simp [prO]),rfl,(by first | rfl | simp [prO])⟩,trivial⟩ (by simp [prO]) ?_
 ·simp [scal,rows,ints,prO]
 ·simp [scal,rows,ints,prO]
 simp (maxSteps:=2000000) (disch:=omega) [ints,rows,scal,zK,wr8,prO,zeO,fsO,tmV,zd]
 and_intros <;> try first | apply hK | omega | rfl | simp <;> omega
 refine zA ?_
 refine rg1 (an @prO.eq_1 (an @zeO.eq_1 @fsO.eq_1)) ?_
 cases b with
 | false =>
  refine cT0 ?_
  refine rg1 (an @prO.eq_1 (an @zeO.eq_1 (an @fsO.eq_1 @zd))) ?_
  refine zC ?_
  unfold zL2
  simp only [↓reduceIte]
  unfold tmL
  exact zCW (an @prO.eq_1 (an @zeO.eq_1 (an @fsO.eq_1 (an @zd @tmV.eq_1))))
 | true =>
  have hl4:=hl3 rfl
  have h5:=zC4 s pe hl1 (by omega)
  have hs5:=zAy hl1
  refine cS0 ?_
  refine rr1 (an @prO.eq_1 (an @zeO.eq_1 (an @fsO.eq_1 @zd))) ?_
  show awp _ _ _ _
  refine zAh fun K hK=>?_
  simp (maxSteps:=2000000) (disch:=omega) [ints,rows,scal,zK,wr8,prO,zeO,fsO]
  (repeat' apply And.intro)
  all_goals (try omega)
  refine zD (caps:=[]) (h5) [0] [0] 1 rfl rfl rfl rfl (by kernel_rfl) (by simp) ?_ ?_ (by simp) rfl (by simp) ⟨.inr ⟨rfl,0,_,_,_,_,_,rfl,rfl,(by first | rfl | simp [prO]),rfl,(by first | rfl | simp [prO])⟩,trivial⟩ (by simp [prO]) ?_
  ·simp [scal,rows,ints,prO]
  ·simp [scal,rows,ints,prO]
  simp (maxSteps:=2000000) (disch:=omega) [ints,rows,scal,zK,wr8,prO,zeO,fsO]
  (repeat' first | apply hK | apply And.intro) <;> try first | omega | rfl | (simp <;> omega)
  refine ⟨(zAL s pe,acc ++ [u]),⟨by simp only; omega,hs5.1,by simp; omega,?_⟩,by simp only; omega,?_⟩
  ·simp only [Bool.true_eq_false,↓reduceIte]
   exact zD6 hP _ _ _ _ (by omega) hs5.1 (by omega) (by omega)
  refine zQ [(0,some 0),(1,some 1),(2,some 2)] rfl ?_ ?_ ?_ ?_
  all_goals try simp [ints,prO,zeO,fsO,zEu,cellsL,Tm.zAi]
  omega
theorem zIm (s : ByteArray) (hs : s.size <= 100000) : ∀ f pos,pos <= s.size -> s.size - pos < f -> FnS Tryz.prog 61 [.ptr 0 0 2] [prO s pos] (.tup [tmV 2 (zAT s f pos).1,.t 2 (.bool (zAT s f pos).2.1)]) [prO s (zAT s f pos).2.2]
 | 0,pos,hp,hf=>by omega
 | f + 1,pos,hp,hf=>by
  have hP : zPD (zAT s f) s (pos + 1):=fun q _ hq=>zCQ f q hq
  refine FnS.zSI (zNt (zAT s f) s pos hp hs hP (fun q h1 h2=>?_)) (fun E v h=>?_)
  ·have hA:=zQF (zAT s f) s q h2 (by omega) (fun h3=>⟨(zCQ f (q + 1) h3).1,zIm s hs f (q + 1) h3 (by omega)⟩)
   exact zMM (zAT s f) s q h2 (by omega) (zIw h2 (fun h3=>zCQ f (q + 1) h3)).1 hA zGM
  ·rw [← zDQ] at h
   unfold zL2 at h
   by_cases e : (zAT s (f + 1) pos).2.1 = false
   ·rw [if_pos e] at h
    rw [zKV _ _ e]
    exact h.leaf
   ·rw [if_neg e] at h
    exact h
def ups : List AV -> List AV -> Prop
 | [],[]=>True
 | a :: aS',b :: bs=>(∀ E v,VR E v a -> VR E v b) /\ ups aS' bs
 | _,_=>False
theorem zIj : ∀ {l r : List AV},ups l r -> l.length = r.length
 | [],[],_=>rfl
 | a :: l,b :: r,h=>by simp [zIj h.2]
theorem zHz : ∀ {l r : List AV} (_ : ups l r) (i : Nat) (b : AV),r[i]? = some b -> ∃ a,l[i]? = some a /\ ∀ E v,VR E v a -> VR E v b
 | [],[],_,i,b,hi=>by simp at hi
 | a :: l,b :: r,h,0,c,hi=>by simp at hi; subst hi; exact ⟨a,rfl,h.1⟩
 | a :: l,b :: r,h,i + 1,c,hi=>by simpa using zHz h.2 i c (by simpa using hi)
theorem VR.upT {E : Ev} {v : Value} {l r : List AV} (h : VR E v (.tup l)) (hu : ups l r) : VR E v (.tup r):=by
 cases h with
 | tup vs cs hn hr =>
  refine .tup vs _ (hn.trans (zIj hu)) (fun i c hi=>?_)
  obtain ⟨a,ha,hf⟩:=zHz hu i c hi
  exact hf _ _ (hr i a ha)
theorem VR.upA {E : Ev} {v : Value} {l r : List AV} (h : VR E v (.agg l)) (hu : ups l r) : VR E v (.agg r):=by
 cases h with
 | agg vs cs hn h1 hr =>
  refine .agg vs _ (hn.trans (zIj hu)) h1 (fun i c hi=>?_)
  obtain ⟨a,ha,hf⟩:=zHz hu i c hi
  exact hf _ _ (hr i a ha)
theorem VR.zUH {E : Ev} {v : Value} {p : Nat} (z : Nat) (h : VR E v (.t p (.sl 0 []))) : VR E v (.t p (.sl z [])):=by
 rw [zD7 h]
 exact .t _ _ _ (.nil z)
def zRk : AV:=.agg [.t 2 (.int .i64 0),.t 2 (.int .i64 0),.t 2 (.sl 0 []),.t 2 (.int .i64 0),.t 2 (.int .i64 0),.t 2 (.sl 0 [])]
theorem VR.zeI {E : Ev} {v : Value} (h : VR E v zRk) : VR E v (idV 2 .zero .zero) :=
 VR.upA h ⟨fun _ _ h=>h,fun _ _ h=>h,fun _ _ h=>h.zUH 3,fun _ _ h=>h,fun _ _ h=>h,fun _ _ h=>h.zUH 3,trivial⟩
def zKD (s : ByteArray) : Tm × Tm × Int × Int :=
 if 1000 < s.size then (.zero,.zero,0,21)
 else if (zAT s (s.size + 1) 0).2.1 = false \/ pkB s (zAT s (s.size + 1) 0).2.2 ≠ 61 then (.zero,.zero,((zAT s (s.size + 1) 0).2.2 : Int),2)
 else if (zAT s (s.size + 1) ((zAT s (s.size + 1) 0).2.2 + 1)).2.1 = false \/ (zAT s (s.size + 1) ((zAT s (s.size + 1) 0).2.2 + 1)).2.2 < s.size then (.zero,.zero,((zAT s (s.size + 1) ((zAT s (s.size + 1) 0).2.2 + 1)).2.2 : Int),2)
 else if (zAT s (s.size + 1) 0).1.val = true /\ (zAT s (s.size + 1) ((zAT s (s.size + 1) 0).2.2 + 1)).1.val = true then ((zAT s (s.size + 1) 0).1,(zAT s (s.size + 1) ((zAT s (s.size + 1) 0).2.2 + 1)).1,-1,0) else (.zero,.zero,0,21)
def zTP (x : Tm × Tm × Int × Int) : AV:=.tup [idV 2 x.1 x.2.1,.t 2 (.int .i64 x.2.2.1),.t 2 (.int .i64 x.2.2.2)]
def zRl (x : Tm × Tm × Int × Int) : AV:=.tup [if x.2.2.2 = 0 then idV 2 x.1 x.2.1 else zRk,.t 2 (.int .i64 x.2.2.1),.t 2 (.int .i64 x.2.2.2)]
def ziO : AObj:=.box 71 [.t 2 (.int .i64 0),.t 2 (.int .i64 0),.t 2 (.sl 0 []),.t 2 (.int .i64 0),.t 2 (.int .i64 0),.t 2 (.sl 0 [])]
theorem zAO (h : 71 < Tryz.prog.types.size) : (Tryz.prog.types[71]'h).size = 6:=by rfl
theorem zHx (s : ByteArray) (hs : s.size <= 100000) : FnA Tryz.prog 40 [.t 2 (.str s)] (zRl (zKD s)):=by
 have h1:=zIm s hs (s.size + 1) 0 (by omega) (by omega)
 have hle:=(zCQ (s.size + 1) 0 (s:=s) (by omega)).1
 have h2 : ∀ p,p <= s.size -> (zAT s (s.size + 1) p).2.2 <= s.size /\ FnS Tryz.prog 61 [.ptr 0 0 2] [prO s p] (.tup [tmV 2 (zAT s (s.size + 1) p).1,.t 2 (.bool (zAT s (s.size + 1) p).2.1)]) [prO s (zAT s (s.size + 1) p).2.2]:=fun p hp=>⟨(zCQ (s.size + 1) p hp).1,zIm s hs (s.size + 1) p hp (by omega)⟩
 unfold zKD
 generalize zAT s (s.size + 1) = Q at h1 hle h2 ⊢
 generalize Q 0 = x at h1 hle ⊢
 obtain ⟨t,b,pe⟩:=x
 simp only at h1 hle ⊢
 refine fI 56 #[.cell 2 71,.tmp 3,.tmp 4] Tryz.func40 rfl ?_
 refine rg0 ?_
 refine zA ?_
 refine rg0 ?_
 by_cases e0 : 1000 < s.size
 ·have e0' : (1000 : Int) < (s.size : Int):=by omega
  refine cT1 @e0' ?_
  refine rg1 @zAO ?_
  refine zC ?_
  rw [if_pos e0]
  unfold zRl
  simp only [Int.reduceEq,↓reduceIte]
  unfold zRk
  refine ⟨⟨.inr rfl,_,[],(by first | rfl | (simp [ints,rows,scal,zAO]; rfl)),?_,?_,?_,?_⟩,?_⟩
  all_goals try simp [ints,rows,scal,zAO]
 have e0' : ¬ (1000 : Int) < (s.size : Int):=by omega
 refine cS1 @e0' ?_
 refine rg0 ?_
 refine zX (σ':=mkS [(0,.t 2 (.str s)),(2,.ptr 1 0 6),(5,.ptr 0 0 2)] [(0,prO s 0),(1,ziO)] 2 56 [.any]) ?_ ?_
 ·exact kw1 [(0,some 8000000),(1,some 0)] (an @prO.eq_1 (an @ziO.eq_1 @zAO))
 refine zI fun K hK=>?_
 simp (maxSteps:=2000000) (disch:=omega) [ints,rows,scal,zK,wr8]
 (repeat' apply And.intro)
 all_goals (try omega)
 refine zD (caps:=[]) (h1) [0] [0] 1 rfl rfl rfl rfl (by kernel_rfl) (by simp) ?_ ?_ (by simp) rfl (by simp) ⟨.inr ⟨rfl,0,_,_,_,_,_,rfl,rfl,(by first | rfl | simp [prO]),rfl,(by first | rfl | simp [prO])⟩,trivial⟩ (by simp [prO]) ?_
 ·simp [scal,rows,ints,prO]
 ·simp [scal,rows,ints,prO]
 simp (maxSteps:=2000000) (disch:=omega) [ints,rows,scal,zK,wr8,prO,ziO,tmV,zd]
 and_intros <;> try first | apply hK | omega | rfl | simp <;> omega
 refine zA ?_
 by_cases e1 : b = false \/ pkB s pe ≠ 61
 ·refine zA (zBp (Q:=fun e σ=>e = Exit.normal /\ Wk σ (mkS [(2,.ptr 1 0 6),(5,.ptr 0 0 2),(26,.t 2 (.bool true))] [(0,prO s pe),(1,ziO)] 2 56 [.any])) ?_ ?_)
  ·cases b with
   | false =>
    refine zAh fun K hK=>?_
    simp (maxSteps:=2000000) (disch:=omega) [ints,rows,scal,zK,wr8,prO,ziO]
    (repeat' first | apply hK | apply And.intro) <;> try first | omega | rfl | (simp <;> omega)
    refine zQ [(0,some 0),(1,some 1)] rfl ?_ ?_ ?_ ?_
    all_goals try simp [ints,prO,ziO]
   | true =>
    have e2 : pkB s pe ≠ 61:=by
     rcases e1 with e1 | e1
     ·cases e1
     ·exact e1
    have h3:=zAa hle (by omega) (by omega) e2
    refine zAh fun K hK=>?_
    simp (maxSteps:=2000000) (disch:=omega) [ints,rows,scal,zK,wr8,prO,ziO]
    (repeat' apply And.intro)
    all_goals (try omega)
    refine zD (caps:=[]) (h3) [0] [0] 1 (by simp [prO,ziO]) rfl rfl rfl (by kernel_rfl) (by simp) ?_ ?_ (by simp) rfl (by simp) ⟨.inr ⟨rfl,0,_,_,_,_,_,rfl,rfl,(by first | rfl | simp [prO,ziO]),rfl,(by first | rfl | simp [prO,ziO])⟩,trivial⟩ (by simp [prO,ziO]) ?_
    ·simp [scal,rows,ints,prO,ziO]
    ·simp [scal,rows,ints,prO,ziO]
    simp (maxSteps:=2000000) (disch:=omega) [ints,rows,scal,zK,wr8,prO,ziO]
    (repeat' first | apply hK | apply And.intro) <;> try first | omega | rfl | (simp <;> omega)
    exact kw1 [(0,some 0),(1,some 1)] (an @prO.eq_1 @ziO.eq_1)
  rintro e σ ⟨rfl,hw⟩
  refine zX hw ?_
  clear hw
  show awp _ _ _ _
  refine cT0 ?_
  refine rd1 (an @prO.eq_1 (an @ziO.eq_1 @zAO)) ?_
  refine zC ?_
  rw [if_neg e0,if_pos e1]
  unfold zRl
  simp only [Int.reduceEq,↓reduceIte]
  unfold zRk
  refine ⟨⟨.inr rfl,_,[],(by first | rfl | (simp [ints,rows,scal,zAO,ziO,prO]; rfl)),?_,?_,?_,?_⟩,?_⟩
  all_goals try simp [ints,rows,scal,zAO,ziO,prO]
 obtain ⟨rfl,e2⟩ : b = true /\ pkB s pe = 61:=by
  cases b
  ·exact absurd (.inl rfl) e1
  ·exact ⟨rfl,Decidable.byContradiction fun h=>e1 (.inr h)⟩
 rw [if_neg e0,if_neg e1]
 obtain ⟨hle1,h3⟩:=zAE hle (by omega) (by omega) e2
 obtain ⟨hle2,h4⟩:=h2 (pe + 1) hle1
 clear h2 h1
 generalize Q (pe + 1) = y at h4 hle2 ⊢
 obtain ⟨u,b,pf⟩:=y
 simp only at h4 hle2 ⊢
 refine zI fun K hK=>?_
 simp (maxSteps:=2000000) (disch:=omega) [ints,rows,scal,zK,wr8,prO,ziO]
 (repeat' apply And.intro)
 all_goals (try omega)
 refine zD (caps:=[]) (h3) [0] [0] 1 (by simp [prO,ziO]) rfl rfl rfl (by kernel_rfl) (by simp) ?_ ?_ (by simp) rfl (by simp) ⟨.inr ⟨rfl,0,_,_,_,_,_,rfl,rfl,(by first | rfl | simp [prO,ziO]),rfl,(by first | rfl | simp [prO,ziO])⟩,trivial⟩ (by simp [prO,ziO]) ?_
 ·simp [scal,rows,ints,prO,ziO]
 ·simp [scal,rows,ints,prO,ziO]
 simp (maxSteps:=2000000) (disch:=omega) [ints,rows,scal,zK,wr8,prO,ziO]
 (repeat' first | apply hK | apply And.intro) <;> try first | omega | rfl | (simp <;> omega)
 refine cS0 ?_
 refine zX (σ':=mkS [(0,.t 2 (.str s)),(2,.ptr 1 0 6),(5,.ptr 0 0 2),(6,.ptr 2 0 3)] [(0,prO s (pe + 1)),(1,ziO),(2,tmO t)] 3 56 [.any]) ?_ ?_
 ·exact kw1 [(0,some 0),(1,some 1),(2,some 4000002)] (an @prO.eq_1 (an @ziO.eq_1 (an @tmO.eq_1 @zd)))
 refine zI fun K hK=>?_
 simp (maxSteps:=2000000) (disch:=omega) [ints,rows,scal,zK,wr8,prO,ziO,tmO]
 (repeat' apply And.intro)
 all_goals (try omega)
 refine zD (caps:=[]) (h4) [0] [0] 1 rfl rfl rfl rfl (by kernel_rfl) (by simp) ?_ ?_ (by simp) rfl (by simp) ⟨.inr ⟨rfl,0,_,_,_,_,_,rfl,rfl,(by first | rfl | simp [prO]),rfl,(by first | rfl | simp [prO])⟩,trivial⟩ (by simp [prO]) ?_
 ·simp [scal,rows,ints,prO]
 ·simp [scal,rows,ints,prO]
 simp (maxSteps:=2000000) (disch:=omega) [ints,rows,scal,zK,wr8,prO,ziO,tmO,tmV,zd]
 and_intros <;> try first | apply hK | omega | rfl | simp <;> omega
 refine zX (σ':=mkS [(0,.t 2 (.str s)),(2,.ptr 1 0 6),(5,.ptr 0 0 2),(6,.ptr 2 0 3),(7,.t 2 (.bool b)),(8,.ptr 3 0 3)] [(0,prO s pf),(1,ziO),(2,tmO t),(3,tmO u)] 4 56 [.any]) ?_ ?_
 ·exact kw1 [(0,some 0),(1,some 1),(2,some 2),(3,some 4000003)] (an @prO.eq_1 (an @ziO.eq_1 (an @tmO.eq_1 @zd)))
 refine zA ?_
 by_cases e3 : b = false \/ pf < s.size
 ·refine zA (zBp (Q:=fun e σ=>e = Exit.normal /\ Wk σ (mkS [(2,.ptr 1 0 6),(5,.ptr 0 0 2),(42,.t 2 (.bool true))] [(0,prO s pf),(1,ziO)] 2 56 [.any])) ?_ ?_)
  ·cases b with
   | false =>
    refine zAh fun K hK=>?_
    simp (maxSteps:=2000000) (disch:=omega) [ints,rows,scal,zK,wr8,prO,ziO,tmO]
    (repeat' first | apply hK | apply And.intro) <;> try first | omega | rfl | (simp <;> omega)
    refine zQ [(0,some 0),(1,some 1)] rfl ?_ ?_ ?_ ?_
    all_goals try simp [ints,prO,ziO]
   | true =>
    have e4 : (pf : Int) < (s.size : Int):=by
     rcases e3 with e3 | e3
     ·cases e3
     ·omega
    refine zAh fun K hK=>?_
    simp (maxSteps:=2000000) (disch:=omega) [ints,rows,scal,zK,wr8,prO,ziO,tmO,e4]
    (repeat' first | apply hK | apply And.intro) <;> try first | omega | rfl | (simp <;> omega)
    refine zQ [(0,some 0),(1,some 1)] rfl ?_ ?_ ?_ ?_
    all_goals try simp [ints,prO,ziO]
  rintro e σ ⟨rfl,hw⟩
  refine zX hw ?_
  clear hw
  show awp _ _ _ _
  refine cT0 ?_
  refine rd1 (an @prO.eq_1 (an @ziO.eq_1 @zAO)) ?_
  refine zC ?_
  rw [if_pos e3]
  unfold zRl
  simp only [Int.reduceEq,↓reduceIte]
  unfold zRk
  refine ⟨⟨.inr rfl,_,[],(by first | rfl | (simp [ints,rows,scal,zAO,ziO,prO]; rfl)),?_,?_,?_,?_⟩,?_⟩
  all_goals try simp [ints,rows,scal,zAO,ziO,prO]
 rw [if_neg e3]
 obtain ⟨rfl,rfl⟩ : b = true /\ pf = s.size:=by
  cases b
  ·exact absurd (.inl rfl) e3
  ·exact ⟨rfl,by omega⟩
 have hv:=zBK t u
 refine rg1 (an @prO.eq_1 (an @ziO.eq_1 @tmO.eq_1)) ?_
 refine cS0 ?_
 refine rg1 (an @prO.eq_1 (an @ziO.eq_1 (an @tmO.eq_1 (an @zAO @zd)))) ?_
 refine zX (σ':=mkS [(2,.ptr 0 0 6),(9,.ptr 1 0 6)] [(0,ziO),(1,.box 71 [.t 2 (.int .i64 t.op),.t 2 (.int .i64 t.n),.t 2 (.sl 3 (cellsL t.args)),.t 2 (.int .i64 u.op),.t 2 (.int .i64 u.n),.t 2 (.sl 3 (cellsL u.args))])] 2 56 [.any]) ?_ ?_
 ·exact kw1 [(0,some 1),(1,some 12000004)] (an @prO.eq_1 (an @ziO.eq_1 (an @tmO.eq_1 (an @zAO @zd))))
 refine zA ?_
 refine rc1 hv (an @ziO.eq_1 @idV.eq_1) ?_
 by_cases e4 : t.val = true /\ u.val = true
 ·have hvt : vId t u = 0:=by unfold vId vTm; rw [if_pos e4.1,if_pos e4.2]
  rw [if_pos e4]
  refine rg1 @hvt ?_
  refine cS0 ?_
  refine rg1 (an @ziO.eq_1 @zAO) ?_
  refine zC ?_
  unfold zRl
  simp only [↓reduceIte]
  unfold idV
  refine ⟨⟨.inr rfl,_,[],(by first | rfl | (simp [ints,rows,scal,zAO,ziO]; rfl)),?_,?_,?_,?_⟩,?_⟩
  all_goals try simp [ints,rows,scal,zAO,ziO]
 ·have hvt : vId t u = 21:=by
   unfold vId vTm
   by_cases h : t.val = true
   ·rw [if_pos h,if_neg (fun h2=>e4 ⟨h,h2⟩)]
   ·rw [if_neg h]
  rw [if_neg e4]
  refine rg1 @hvt ?_
  refine cT0 ?_
  refine rg1 (an @ziO.eq_1 (an @zAO @hvt)) ?_
  refine zC ?_
  unfold zRl
  simp only [Int.reduceEq,↓reduceIte]
  unfold zRk
  refine ⟨⟨.inr rfl,_,[],(by first | rfl | (simp [ints,rows,scal,zAO,ziO]; rfl)),?_,?_,?_,?_⟩,?_⟩
  all_goals try simp [ints,rows,scal,zAO,ziO]
theorem zJN {s : ByteArray} (h : (zKD s).2.2.2 ≠ 0) : (zKD s).1 = .zero /\ (zKD s).2.1 = .zero:=by
 unfold zKD at h ⊢
 split
 ·exact ⟨rfl,rfl⟩
 ·split
  ·exact ⟨rfl,rfl⟩
  ·split
   ·exact ⟨rfl,rfl⟩
   ·split
    ·rename_i h1 h2 h3 h4
     rw [if_neg h1,if_neg h2,if_neg h3,if_pos h4] at h
     exact absurd rfl h
    ·exact ⟨rfl,rfl⟩
theorem zE0 (s : ByteArray) (hs : s.size <= 100000) : FnA Tryz.prog 40 [.t 2 (.str s)] (zTP (zKD s)) :=
 FnS.zSI (zHx s hs) fun E v h=>h.upT ⟨fun E v h=>by
  by_cases e : (zKD s).2.2.2 = 0
  ·rw [if_pos e] at h; exact h
  ·rw [if_neg e] at h; rw [(zJN e).1,(zJN e).2]; exact h.zeI,fun _ _ h=>h,fun _ _ h=>h,trivial⟩
attribute [simp] aAppStr
@[simp] theorem u8E : u8El Tryz.prog 5 = true:=by kernel_rfl
theorem zB6 {t : Tm} (h : t.val = true) : t.ok = true /\ t.sz <= 60:=by
 unfold Tm.val at h
 rw [Bool.and_eq_true,decide_eq_true_iff] at h
 exact h
end Go.Proofs.YtgelfgpcnaeecaaGreatDoor.M
