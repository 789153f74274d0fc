/-
  Walks in my logic: of, Of (semigroupref21).
  Walks in my logic: table and images (semigrouplaw23).
-/
import Derived.Test.YtgelfgpcnaeecaaGreatDoorZsag
import Derived.Test.YtgelfgpcnaeecaaGreatDoorZsad
import Derived.Test.YtgelfgpcnaeecaaGreatDoorZsah
namespace Go.Proofs.YtgelfgpcnaeecaaGreatDoor.M
open Go.RowKit
set_option linter.unusedVariables false
set_option linter.unusedSimpArgs false
set_option maxRecDepth 100000
set_option maxHeartbeats 32000000

theorem PrI.wl {n : Nat} {gs els : List (List Int)} {pre last : List Int} {wds : List (List Nat)} {right : List (List Int)} {d : Nat} (h : PrI n gs els pre last wds right d) : ∀ w ∈ wds,∀ x ∈ w,x < gs.length:=fun w hw=>by
 obtain ⟨i,hi,rfl⟩:=List.getElem_of_mem hw
 have hle:=h.en.le
 exact (h.en.val i wds[i] (els[i]'(by omega)) (by simp) (by simp)).2.2
theorem zRU {L m : Nat} {right : List (List Int)} {wds : List (List Nat)} (h : zO8 L m right) (hl : m = wds.length) (hw : ∀ w ∈ wds,∀ x ∈ w,x < L) : zO8 m m (zBQ right wds m):=by
 refine ⟨by simp,fun i r hr=>?_⟩
 have hi:=(List.getElem?_eq_some_iff.1 hr).1
 simp only [zBX] at hi
 unfold zBQ at hr
 rw [zP _ hi] at hr
 injection hr with hr
 subst hr
 refine ⟨by simp,fun x j hj=>?_⟩
 have hx:=(List.getElem?_eq_some_iff.1 hj).1
 rw [zu] at hx
 rw [zP _ hx] at hj
 injection hj with hj
 refine ⟨_,hj.symm,h.walk (fun y hy=>?_) hi⟩
 have hxw : x < wds.length:=by omega
 rw [List.getD_eq_getElem?_getD,List.getElem?_eq_getElem hxw] at hy
 exact hw _ (by simp) y hy
def zKi : AV:=.agg [.t 2 (.int .i64 0),.t 2 (.sl 0 []),.t 2 (.sl 0 []),.t 2 (.sl 0 []),.t 2 (.sl 0 []),.t 2 (.sl 0 [])]
theorem zIY {H : Nat -> Option AObj} {un : Nat -> Prop} {q : Nat} {a : AV} {t : T} : wkT H un q [a] [t] = wk1 H un q a t:=by
 apply propext
 constructor
 ·intro h
  exact h.2 0 a t rfl rfl
 ·intro h
  refine ⟨rfl,fun j x y hx hy=>?_⟩
  cases j with
  | zero=>simp at hx hy; subst hx hy; exact h
  | succ j=>simp at hx
end Go.Proofs.YtgelfgpcnaeecaaGreatDoor.M
