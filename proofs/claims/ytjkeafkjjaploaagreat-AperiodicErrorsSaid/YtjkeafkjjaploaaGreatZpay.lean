/-
  Walk in my logic: the ranges of the variables (omega.rangesOf).
  Walk in my logic: the beginning of a search (omega.newHunt).
-/
import Derived.Test.YtjkeafkjjaploaaGreatZpau
import Derived.Test.YtjkeafkjjaploaaGreatZpad
import Derived.Test.YtjkeafkjjaploaaGreatZpac
namespace Go.Proofs.YtjkeafkjjaploaaGreat.M
open Go.RowKit
set_option linter.unusedVariables false
set_option linter.unusedSimpArgs false
set_option maxRecDepth 100000
set_option maxHeartbeats 32000000

mutual
def Tm.els (i : Nat) : Int × Int -> Tm -> Bool
 | a,.mk o n l=>(decide (o = 2) && decide (n.toNat = i) && !(decide (a.1 = 4) && decide (a.2 = 0))) || elsL i (o,n) l
def elsL (i : Nat) : Int × Int -> List Tm -> Bool
 | a,[]=>false
 | a,t :: r=>t.els i a || elsL i a r
end
section
variable {R : Nat -> List Int} {nv i : Nat} {c c' : AV} {H : Nat -> Option AObj} {m : Nat -> Option Nat} {un : Nat -> Prop} {nx : Nat}
end
theorem zRv : ∀ (t : Tm),t.ok = true -> t.gr <= 6
 | .mk o n l,hok=>by
  obtain ⟨hwf,hl⟩:=zQ1 hok
  have:=grL_6 l hl
  rw [Tm.gr]
  split <;> omega
where grL_6 : ∀ (l : List Tm),zOW l = true -> grL l <= 6
 | [],_=>by rw [grL]; omega
 | a :: l,hok=>by
  have hok2 : a.ok = true /\ zOW l = true:=by simpa [zOW] using hok
  have:=zRv a hok2.1
  have:=grL_6 l hok2.2
  rw [grL]; omega
def idT (N : List Nat) : List T:=N.map fun x=>.int .i64 (x : Nat)
@[simp] theorem zRN (N : List Nat) : (idT N).length = N.length:=by simp [idT]
end Go.Proofs.YtjkeafkjjaploaaGreat.M
