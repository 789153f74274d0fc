/-
  Plain law: the identities of the classes r-trivial and l-trivial in the syntactic monoid, and cycles of the minimal automaton and of the reversed one.
-/
import Derived.Test.YtgelfgpcnaeecaaGreatDoorZsau
import Derived.Test.YtgelfgpcnaeecaaGreatDoorZsat
import Derived.Test.YtgelfgpcnaeecaaGreatDoorZsas
import Derived.Test.YtgelfgpcnaeecaaGreatDoorZsbd
namespace Go.Proofs.YtgelfgpcnaeecaaGreatDoor.M
open Go.RowKit
set_option linter.unusedVariables false
set_option linter.unusedSimpArgs false
set_option maxRecDepth 100000
set_option maxHeartbeats 32000000

section
variable {L m m2 : Nat} {bs b2 : List Bool} {nx nx2 els : List (List Int)} {pre last : List Int} {wds : List (List Nat)} {right : List (List Int)} {r0 : List Int}
theorem zBM {u v : List Nat} (hu : ∀ a ∈ u,a < L) (hv : ∀ a ∈ v,a < L) : ∀ a ∈ u ++ v,a < L:=fun a h=>by
 rcases List.mem_append.1 h with h | h
 ·exact hu a h
 ·exact hv a h
theorem zAP {u : List Nat} (hu : ∀ a ∈ u,a < L) : ∀ a ∈ u.reverse,a < L:=fun a h=>hu a (List.mem_reverse.1 h)
theorem zGz (w : List Nat) : ∀ k,w ++ repW w k = repW w k ++ w
 | 0=>by simp [repW]
 | k + 1=>by
  show w ++ (repW w k ++ w) = (repW w k ++ w) ++ w
  rw [← List.append_assoc,zGz w k]
theorem zFI (w : List Nat) : ∀ k,(repW w k).reverse = repW w.reverse k
 | 0=>rfl
 | k + 1=>by
  show (repW w k ++ w).reverse = repW w.reverse k ++ w.reverse
  rw [List.reverse_append,zFI w k,zGz]
def Rp (L m : Nat) (nx els : List (List Int)) (x : Nat) (w : List Nat) : Prop:=els[x]? = some (act m (tab L (lets m nx)) w)
theorem Rp.lt {x : Nat} {w : List Nat} (h : Rp L m nx els x w) : x < els.length:=(List.getElem?_eq_some_iff.1 h).1
theorem SyX.tr (h : SyX L m nx els pre last wds right r0) {w : List Nat} (hw : ∀ a ∈ w,a < L) : TrN m (act m (tab L (lets m nx)) w):=by
 obtain ⟨i,hi,e⟩:=List.getElem_of_mem (h.pr.zO2 w (fun a ha=>by rw [zu]; exact hw a ha))
 obtain ⟨h1,h2,h3,h4⟩:=h.pr.wl' hi
 rw [← e]; exact h3
theorem SyX.rp (h : SyX L m nx els pre last wds right r0) {x : Nat} (hx : x < els.length) : ∃ w,(∀ a ∈ w,a < L) /\ Rp L m nx els x w:=by
 obtain ⟨h1,h2,h3,h4⟩:=h.pr.wl' hx
 refine ⟨wds[x],fun a ha=>by have:=h4 a ha; rwa [zu] at this,?_⟩
 unfold Rp
 rw [List.getElem?_eq_getElem hx,h2]
theorem SyX.zS2 (h : SyX L m nx els pre last wds right r0) {w : List Nat} (hw : ∀ a ∈ w,a < L) : ∃ x,Rp L m nx els x w:=by
 obtain ⟨i,hi,e⟩:=List.getElem_of_mem (h.pr.zO2 w (fun a ha=>by rw [zu]; exact hw a ha))
 exact ⟨i,by unfold Rp; rw [List.getElem?_eq_getElem hi,e]⟩
theorem SyX.zRO (h : SyX L m nx els pre last wds right r0) (hg : ∀ g ∈ tab L (lets m nx),TrN m g) {x y : Nat} {u v : List Nat} (hu : ∀ a ∈ u,a < L) (hv : ∀ a ∈ v,a < L) (h1 : Rp L m nx els x u) (h2 : Rp L m nx els y v) : Rp L m nx els (zR (zBQ right wds els.length) x y) (u ++ v):=by
 have hx:=h1.lt
 have hy:=h2.lt
 have h3:=h.pr.elm hg hx hy
 unfold Rp at h1 h2 ⊢
 rw [List.getElem?_eq_getElem hx] at h1
 rw [List.getElem?_eq_getElem hy] at h2
 rw [h3,Option.some.inj h1,Option.some.inj h2]
 congr 1
 unfold act
 rw [List.foldl_append]
 exact (zMh hg (h.tr hu) (fun a ha=>by rw [zu]; exact hv a ha)).symm
theorem SyX.zTv (h : SyX L m nx els pre last wds right r0) (hg : ∀ g ∈ tab L (lets m nx),TrN m g) {x : Nat} {u : List Nat} (hu : ∀ a ∈ u,a < L) (h1 : Rp L m nx els x u) : ∀ k,Rp L m nx els (pw (zR (zBQ right wds els.length)) x k) (repW u (k + 1))
 | 0=>h1
 | k + 1=>by
  rw [zDv]
  exact h.zRO hg (zCd hu (k + 1)) hu (h.zTv hg hu h1 k) h1
theorem SyX.zRg (h : SyX L m nx els pre last wds right r0) (hD : DfL L m 0 bs nx) {x y : Nat} {u v : List Nat} (hu : ∀ a ∈ u,a < L) (hv : ∀ a ∈ v,a < L) (h1 : Rp L m nx els x u) (h2 : Rp L m nx els y v) : x = y ↔ ∀ q,q < m -> zZ nx q u = zZ nx q v:=by
 constructor
 ·rintro rfl q hq
  unfold Rp at h1 h2
  rw [h1] at h2
  have e:=Option.some.inj h2
  have a1:=zBq hD u hu q hq
  have a2:=zBq hD v hv q hq
  rw [e,a2] at a1
  have:=Option.some.inj a1
  omega
 ·intro hq
  unfold Rp at h1 h2
  refine h.pr.en.nd _ _ _ h1 ?_
  rw [h2]
  congr 1
  have l1:=(h.tr hu).1
  have l2:=(h.tr hv).1
  refine List.ext_getElem (by omega) fun q g1 g2=>?_
  have a1:=zBq hD u hu q (by omega)
  have a2:=zBq hD v hv q (by omega)
  rw [List.getElem?_eq_getElem g2] at a1
  rw [List.getElem?_eq_getElem g1] at a2
  have b1:=Option.some.inj a1
  have b2:=Option.some.inj a2
  rw [b1,b2,hq q (by omega)]
theorem SyX.zUi (h : SyX L m nx els pre last wds right r0) (hD : DfL L m 0 bs nx) (hg : ∀ g ∈ tab L (lets m nx),TrN m g) : Acy L m nx ↔ ∀ x y,x < els.length -> y < els.length -> zR (zBQ right wds els.length) (omT (zR (zBQ right wds els.length)) els.length (zR (zBQ right wds els.length) x y)) x = omT (zR (zBQ right wds els.length)) els.length (zR (zBQ right wds els.length) x y):=by
 have hT : ∀ r c,r < els.length -> c < els.length -> zR (zBQ right wds els.length) r c < els.length:=fun r c hr hc=>h.pr.tlt hg hr hc
 have hA:=h.pr.asc hg
 have hmul : ∀ {x y : Nat} {u v : List Nat},(∀ a ∈ u,a < L) -> (∀ a ∈ v,a < L) -> Rp L m nx els x u -> Rp L m nx els y v -> Rp L m nx els (zR (zBQ right wds els.length) x y) (u ++ v):=fun hu hv h1 h2=>h.zRO hg hu hv h1 h2
 have hpw : ∀ {x : Nat} {u : List Nat},(∀ a ∈ u,a < L) -> Rp L m nx els x u -> ∀ k,Rp L m nx els (pw (zR (zBQ right wds els.length)) x k) (repW u (k + 1)):=fun hu h1 k=>h.zTv hg hu h1 k
 generalize zR (zBQ right wds els.length) = T at hT hA hmul hpw ⊢
 constructor
 ·intro hAc x y hx hy
  obtain ⟨u,hu,h1⟩:=h.rp hx
  obtain ⟨v,hv,h2⟩:=h.rp hy
  have huv:=zBM hu hv
  have h3:=hmul hu hv h1 h2
  obtain ⟨k,hk,e1,e2,-⟩:=zBC hT hA (hT x y hx hy)
  have h4:=hpw huv h3 k
  have hr:=zCd huv (k + 1)
  rw [e1]
  refine (h.zRg hD (zBM hr hu) hr (hmul hr hu h4 h1) h4).2 fun q hq=>?_
  exact hAc.law hD hu hv (by omega) hq ((h.zRg hD (zBM hr hr) hr (hmul hr hr h4 h4) h4).1 e2 q hq)
 ·intro hl
  refine zEt hD fun u v hu hv=>?_
  obtain ⟨x,h1⟩:=h.zS2 hu
  obtain ⟨y,h2⟩:=h.zS2 hv
  have huv:=zBM hu hv
  have h3:=hmul hu hv h1 h2
  obtain ⟨k,hk,e1,e2,-⟩:=zBC hT hA (hT x y h1.lt h2.lt)
  have h4:=hpw huv h3 k
  have hr:=zCd huv (k + 1)
  have h5:=hl x y h1.lt h2.lt
  rw [e1] at h5
  exact ⟨k + 1,(h.zRg hD (zBM hr hu) hr (hmul hr hu h4 h1) h4).1 h5⟩
theorem MnD.zUJ (hM : MnD L m bs nx) (hL : 0 < L) {u v : List Nat} (hu : ∀ a ∈ u,a < L) (hv : ∀ a ∈ v,a < L) : (∀ q,q < m -> zZ nx q u = zZ nx q v) ↔ ∀ p s,(∀ a ∈ p,a < L) -> (∀ a ∈ s,a < L) -> zAf bs nx 0 (p ++ (u ++ s)) = zAf bs nx 0 (p ++ (v ++ s)):=by
 have hD:=hM.df
 constructor
 ·intro h p s hp hs
  rw [zAQ,zAQ,zAQ,zAQ,h _ (hD.rt.walk hp hD.n1)]
 ·intro h q hq
  obtain ⟨p,hp,e⟩:=zGL hL hM.can q hq
  refine hM.dis _ _ (hD.rt.walk hu hq) (hD.rt.walk hv hq) fun s hs=>?_
  have:=h p s hp hs
  rwa [zAQ,zAQ,zAQ,zAQ,e] at this
theorem MnD.zSj (hM : MnD L m bs nx) (hL : 0 < L) (hR : RvX L m bs nx m2 b2 nx2) {u v : List Nat} (hu : ∀ a ∈ u,a < L) (hv : ∀ a ∈ v,a < L) : (∀ q,q < m -> zZ nx q u = zZ nx q v) ↔ ∀ q,q < m2 -> zZ nx2 q u.reverse = zZ nx2 q v.reverse:=by
 obtain ⟨hM2,-,hl⟩:=hR
 rw [hM.zUJ hL hu hv,hM2.zUJ hL (zAP hu) (zAP hv)]
 have key : ∀ (w p s : List Nat),(∀ a ∈ w,a < L) -> (∀ a ∈ p,a < L) -> (∀ a ∈ s,a < L) -> zAf b2 nx2 0 (s.reverse ++ (w.reverse ++ p.reverse)) = zAf bs nx 0 (p ++ (w ++ s)):=fun w p s hw hp hs=>by
  rw [hl _ (zBM (zAP hs) (zBM (zAP hw) (zAP hp)))]
  simp
 constructor
 ·intro h p s hp hs
  have k1:=key u s.reverse p.reverse hu (zAP hs) (zAP hp)
  have k2:=key v s.reverse p.reverse hv (zAP hs) (zAP hp)
  simp only [List.reverse_reverse] at k1 k2
  rw [k1,k2]
  exact h _ _ (zAP hs) (zAP hp)
 ·intro h p s hp hs
  rw [← key u p s hu hp hs,← key v p s hv hp hs]
  exact h _ _ (zAP hs) (zAP hp)
theorem SyX.zUp (h : SyX L m nx els pre last wds right r0) (hM : MnD L m bs nx) (hL : 0 < L) (hR : RvX L m bs nx m2 b2 nx2) (hg : ∀ g ∈ tab L (lets m nx),TrN m g) : Acy L m2 nx2 ↔ ∀ x y,x < els.length -> y < els.length -> zR (zBQ right wds els.length) y (omT (zR (zBQ right wds els.length)) els.length (zR (zBQ right wds els.length) x y)) = omT (zR (zBQ right wds els.length)) els.length (zR (zBQ right wds els.length) x y):=by
 have hD:=hM.df
 have hD2:=hR.1.df
 have hcong:=fun {u v : List Nat} (hu : ∀ a ∈ u,a < L) (hv : ∀ a ∈ v,a < L)=>hM.zSj hL hR hu hv
 have hT : ∀ r c,r < els.length -> c < els.length -> zR (zBQ right wds els.length) r c < els.length:=fun r c hr hc=>h.pr.tlt hg hr hc
 have hA:=h.pr.asc hg
 have hmul : ∀ {x y : Nat} {u v : List Nat},(∀ a ∈ u,a < L) -> (∀ a ∈ v,a < L) -> Rp L m nx els x u -> Rp L m nx els y v -> Rp L m nx els (zR (zBQ right wds els.length) x y) (u ++ v):=fun hu hv h1 h2=>h.zRO hg hu hv h1 h2
 have hpw : ∀ {x : Nat} {u : List Nat},(∀ a ∈ u,a < L) -> Rp L m nx els x u -> ∀ k,Rp L m nx els (pw (zR (zBQ right wds els.length)) x k) (repW u (k + 1)):=fun hu h1 k=>h.zTv hg hu h1 k
 generalize zR (zBQ right wds els.length) = T at hT hA hmul hpw ⊢
 constructor
 ·intro hAc x y hx hy
  obtain ⟨u,hu,h1⟩:=h.rp hx
  obtain ⟨v,hv,h2⟩:=h.rp hy
  have huv:=zBM hu hv
  have h3:=hmul hu hv h1 h2
  obtain ⟨k,hk,e1,e2,-⟩:=zBC hT hA (hT x y hx hy)
  have h4:=hpw huv h3 k
  have hr:=zCd huv (k + 1)
  rw [e1]
  refine (h.zRg hD (zBM hv hr) hr (hmul hv hr h2 h4) h4).2 ((hcong (zBM hv hr) hr).2 fun q hq=>?_)
  have e3:=(hcong (zBM hr hr) hr).1 ((h.zRg hD (zBM hr hr) hr (hmul hr hr h4 h4) h4).1 e2) q hq
  rw [List.reverse_append,zFI,List.reverse_append] at e3 ⊢
  exact hAc.law hD2 (zAP hv) (zAP hu) (by omega) hq e3
 ·intro hl
  refine zEt hD2 fun u v hu hv=>?_
  obtain ⟨x,h1⟩:=h.zS2 (zAP hv)
  obtain ⟨y,h2⟩:=h.zS2 (zAP hu)
  have huv:=zBM (zAP hv) (zAP hu)
  have h3:=hmul (zAP hv) (zAP hu) h1 h2
  obtain ⟨k,hk,e1,e2,-⟩:=zBC hT hA (hT x y h1.lt h2.lt)
  have h4:=hpw huv h3 k
  have hr:=zCd huv (k + 1)
  have h5:=hl x y h1.lt h2.lt
  rw [e1] at h5
  refine ⟨k + 1,fun q hq=>?_⟩
  have e3:=(hcong (zBM (zAP hu) hr) hr).1 ((h.zRg hD (zBM (zAP hu) hr) hr (hmul (zAP hu) hr h2 h4) h4).1 h5) q hq
  rw [List.reverse_append,zFI,List.reverse_append,List.reverse_reverse,List.reverse_reverse] at e3
  exact e3
end
end Go.Proofs.YtgelfgpcnaeecaaGreatDoor.M
