/- Lemmas for the law AperiodicMember. No conditions. -/
import Derived.Test.YtjkeafkjjaploaaGreatZqan
set_option linter.all false
namespace Go.Proofs.YtjkeafkjjaploaaGreat.M
open Go.RowKit
set_option maxRecDepth 100000
set_option maxHeartbeats 32000000

theorem zTX(mp:List (Nat×Option Nat))(base:Nat)(g:Nat->Nat){k:Nat}(h:base<=k):zBj mp base 0 g k=none:=by
 unfold zBj;rw[if_neg (by omega),if_neg (by omega)]
theorem zSB{σ:ASt}{el:List (Nat×AV)}{hl:List (Nat×AObj)}{base n:Nat}{F:Nat->AObj}{nx nt:Nat}{gh:List AV}(mp:List (Nat×Option Nat))(hnt:nt=σ.nt)(he:wkE σ (zBj mp base 0 fun j=>j) (zCQ mp 0 fun j=>j) nx el)(hh:wkH σ (zBj mp base 0 fun j=>j) (zCQ mp 0 fun j=>j) nx hl mp)(hn:keysNd mp)(hg:wkPs σ.heap (zBj mp base 0 fun j=>j) (zCQ mp 0 fun j=>j) nx σ.gh gh)
  (hF: ∀j,j<n->base+j<nx/\wkO σ.heap (zBj mp base 0 fun j=>j) (zCQ mp 0 fun j=>j) nx none (F j)):Wk σ (mkF el hl base n F nx nt gh):=by
 refine zOA (m:=zBj mp base 0 fun j=>j) (un:=zCQ mp 0 fun j=>j) hnt (zGJ he) (fun id o ho=>?_) ⟨fun {i j k} h1 h2=>?_,fun {k id} hu h=>?_,fun {id} h=>?_⟩ hg
 ·have ho:zDy hl base n F id=some o:=ho;unfold zDy at ho;by_cases h1:id<base
  ·rw[if_pos h1]at ho;have:=(zCa hh id).1 o ho;refine⟨this.1,?_⟩;have e:zBj mp base 0 (fun j=>j) id=mpOf mp id:=by unfold zBj;rw[if_pos h1]
   rw[e];exact this.2
  ·rw[if_neg h1]at ho;by_cases h2:id-base<n
   ·rw[if_pos h2]at ho;injection ho with ho;subst ho;obtain⟨a1,a2⟩:=hF _ h2;rw[zTX mp base _ (by omega)];exact⟨by show id<nx;omega,a2⟩
   ·rw[if_neg h2]at ho;cases ho
 ·unfold zBj at h1 h2;by_cases b1:i<base
  ·by_cases b2:j<base
   ·rw[if_pos b1]at h1;rw[if_pos b2]at h2;exact zEZ hn h1 h2
   ·rw[if_neg b2,if_neg (by omega)]at h2;cases h2
  ·rw[if_neg b1,if_neg (by omega)]at h1;cases h1
 ·unfold zBj at h;by_cases b1:id<base
  ·rw[if_pos b1]at h;exact zCI hu.1 h
  ·rw[if_neg b1,if_neg (by omega)]at h;cases h
 ·have h:zDy hl base n F id=none:=h;unfold zDy at h;by_cases b1:id<base
  ·unfold zBj;rw[if_pos b1]at h ⊢;exact(zCa hh id).2 h
  ·rw[zTX mp base _ (by omega)]
section
variable{L n:Nat}{nx:List (List Int)}{B:Nat->List Nat}{k x:Nat}
end
section
variable{L n s:Nat}{bs:List Bool}{nx:List (List Int)}{B:Nat->List Nat}{Q:List Nat}{M:Nat->Bool}{i x k:Nat}
end
