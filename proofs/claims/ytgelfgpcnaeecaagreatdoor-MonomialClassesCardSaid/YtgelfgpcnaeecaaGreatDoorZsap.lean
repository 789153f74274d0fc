/-
  Calls of functions without a Go body, in the logic: bytealg.IndexByteString.
-/
import Derived.Test.YtgelfgpcnaeecaaGreatDoorZsac
import Derived.Laws.Externs
namespace Go.Proofs.YtgelfgpcnaeecaaGreatDoor.M
open Go.RowKit
set_option linter.unusedVariables false
set_option linter.unusedSimpArgs false
set_option maxRecDepth 100000
set_option maxHeartbeats 32000000

theorem zOn {P : Program} {ops : Array Oper} {i : Nat} {o : Oper} {σ : ASt} {K : ASt -> Prop} {cl : Call} {fo : Operand} {f : FuncId} {n : Int} (s : ByteArray) (c : Int) (p1 p2 : Nat)
  (hg : gd ops σ o = some true) (hop : o.op = .call cl) (hc : cl.callee = .value fo) (hfo : σ.eval fo = .fn f []) (hd : zAu σ o = true)
  (hargs : cl.args.toList.map σ.eval = [.t p1 (.str s),.t p2 (.int .u8 c)])
  (hrun : ∀ w,(callFunc f #[.string s,.int .u8 c]).run P w = .ok (.value (.int .i64 n)) w)
  (hK : K (σ.app o.dst { val:=.t 2 (.int .i64 n) })) : zC9 P ops i o σ K:=by
 refine ⟨σ.app o.dst { val:=.t 2 (.int .i64 n) },?_,rfl,hK⟩
 intro w0 V S0 gv U a w hR hnew K Q hK
 have hR':=hR
 obtain ⟨ob,m1,m2,m3,m4,m5⟩:=hR'
 have hw : Region.wanted o (yielded ops a.tmps) = true:=zBO hg m2 m4
 rw [if_pos hw]
 have hfv:=VR.eval m1.glE m2 fo
 rw [hfo] at hfv
 have hcv : a.eval fo = .func (.func f) #[] #[]:=by
  generalize a.eval fo = v at hfv
  cases hfv with
  | fn f vs cs hn hr =>
   have : vs = #[]:=by apply Array.eq_empty_of_size_eq_zero; simpa using hn
   rw [this]
 have hav : cl.args.map a.eval = #[.string s,.int .u8 c]:=by
  have hl : cl.args.size = 2:=by have:=congrArg List.length hargs; simpa using this
  apply Array.ext
  ·simp [hl]
  ·intro j h1 h2
   have hj : j < 2:=by simpa using h2
   have hjs : j < cl.args.size:=by omega
   have hv:=VR.eval m1.glE m2 cl.args[j]
   have e : (cl.args.toList.map σ.eval)[j]? = some (σ.eval cl.args[j]):=by simp [hjs]
   rw [hargs] at e
   rcases (by omega : j = 0 \/ j = 1) with rfl | rfl
   ·simp only [List.getElem?_cons_zero,Option.some.injEq] at e
    rw [← e] at hv
    simp [hv.str]
   ·simp only [List.getElem?_cons_succ,List.getElem?_cons_zero,Option.some.injEq] at e
    rw [← e] at hv
    simp [hv.int]
 unfold Oper.wp execOp
 simp only [hop,resolve,hc,invoke,Sem.run_bind]
 rw [hcv,hav]
 simp only [Deferred.ofValue,Sem.run_pure,Result.andThen_ok,Array.empty_append,Array.append_empty]
 rw [hrun]
 refine hK _ _ ?_
 obtain ⟨h5,h6⟩:=m1.used (U':=fun k=>U k \/ (i <= k /\ k < i + 1000000)) (fun k hk=>.inl hk)
 exact zD1.zRh (σ:=σ) (o:=o) (v:=.int .i64 n) (x:=.t 2 (.int .i64 n)) h5 (fun t=>(m2 t).ext h6) m3 m4 (m5.ext h6) hd (.mkInt _ _ _ _)
end Go.Proofs.YtgelfgpcnaeecaaGreatDoor.M
