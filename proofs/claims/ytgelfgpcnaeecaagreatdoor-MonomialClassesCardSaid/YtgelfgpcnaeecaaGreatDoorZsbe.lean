/-
  What Right and Left answer: the error is that of the class exactly if some cycle is no loop.
-/
import Derived.Test.YtgelfgpcnaeecaaGreatDoorZsav
import Derived.Test.YtgelfgpcnaeecaaGreatDoorZsbd
namespace Go.Proofs.YtgelfgpcnaeecaaGreatDoor.M
open Go.RowKit
set_option linter.unusedVariables false
set_option linter.unusedSimpArgs false
set_option maxRecDepth 100000
set_option maxHeartbeats 32000000

def zTf (L m : Nat) (nx : List (List Int)) (e : Int) : Prop:=e = 3 \/ (e = 0 /\ Acy L m nx) \/ (e = 20 /\ ¬ Acy L m nx)
theorem zEx (L m : Nat) (bs : List Bool) (nx : List (List Int)) : zTf L m nx (zA2 L m bs nx).2:=by
 by_cases hA : Acy L m nx
 ·by_cases hF : Fits 0 0 (pX L m bs nx 0)
  ·rw [zCF hA hF]; exact .inr (.inl ⟨rfl,hA⟩)
  ·rw [zC8 hA hF]; exact .inl rfl
 ·rw [zDA hA]; exact .inr (.inr ⟨rfl,hA⟩)
theorem zMy {L n s : Nat} {bs : List Bool} {nxt : List (List Int)} (h : DfL L n s bs nxt) (hL : 1 <= L) (hL2 : L <= 6) (hn : n <= 512) : ∃ m b2 nx l e,MiX L n s bs nxt m b2 nx /\ zTf L m nx e /\ FnA Tryz.prog 10 [dfT 0 L s bs nxt] (zKg (l,e)):=by
 obtain ⟨m,b2,nx,hX,h⟩:=zIs h hL hL2 hn
 exact ⟨m,b2,nx,_,_,hX,zEx L m b2 nx,h⟩
theorem zOr {L n s : Nat} {bs : List Bool} {nxt : List (List Int)} (h : DfL L n s bs nxt) (hL : 1 <= L) (hL2 : L <= 6) (hn : n <= 9) : ∃ m b1 nx m2 b2 nx2 l e,MiX L n s bs nxt m b1 nx /\ RvX L m b1 nx m2 b2 nx2 /\ zTf L m2 nx2 e /\ FnA Tryz.prog 11 [dfT 0 L s bs nxt] (zKg (l,e)):=by
 obtain ⟨r1,⟨m,b1,nx,m2,b2,nx2,hX,hR,c1⟩,k1⟩:=zOc h hL hL2 hn (fun m b nx l hp=>zRJ hp)
 have k2 : FnA Tryz.prog 11 [dfT 0 L s bs nxt] (zKg (zQA (zA2 L m2 b2 nx2))):=by
  rcases c1 with rfl | ⟨e',e1,rfl⟩
  ·exact k1
  ·rw [e1]
   exact k1.zUR fun E v=>zPW
 exact ⟨m,b1,nx,m2,b2,nx2,_,_,hX,hR,zEx L m2 b2 nx2,k2⟩
end Go.Proofs.YtgelfgpcnaeecaaGreatDoor.M
