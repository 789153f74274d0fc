/-
  What words do to the elements of an enumeration.
  The tables of syntactic monoids are valid.
-/
import Derived.Test.YtjkeafkjjaploaaGreatZpap
import Derived.Test.YtjkeafkjjaploaaGreatZpaf
namespace Go.Proofs.YtjkeafkjjaploaaGreat.M
open Go.RowKit
set_option linter.unusedVariables false
set_option linter.unusedSimpArgs false
set_option maxRecDepth 100000
set_option maxHeartbeats 32000000

theorem zEP {n : Nat} {a b c : List Int} (ha : TrN n a) (hb : TrN n b) : zu (zu a b) c = zu a (zu b c):=by
 unfold zu
 rw [List.map_map]
 apply List.map_congr_left
 intro v hv
 have h1:=ha.2 v hv
 have h2:=hb.1
 have h3 : v.toNat < b.length:=by omega
 simp [List.getD_eq_getElem?_getD,h3]
theorem zFz {n : Nat} {a : List Int} (ha : TrN n a) : zu a (idL n) = a:=by
 unfold zu
 conv=>rhs; rw [← List.map_id a]
 apply List.map_congr_left
 intro v hv
 have h1:=ha.2 v hv
 have h3 : v.toNat < n:=by omega
 simp [idL,tab,List.getD_eq_getElem?_getD,h3]
 omega
theorem zH6 {n : Nat} {gs : List (List Int)} (hg : ∀ g ∈ gs,TrN n g) {e : List Int} (he : TrN n e) : ∀ (w : List Nat) (d : List Int),(∀ x ∈ w,x < gs.length) -> TrN n d -> w.foldl (fun f x=>zu f (gs.getD x [])) (zu e d) = zu e (w.foldl (fun f x=>zu f (gs.getD x [])) d)
 | [],d,_,_=>rfl
 | x :: w,d,hw,hd=>by
  have hx:=hw x (by simp)
  have hgx : TrN n (gs.getD x []):=by
   simp only [List.getD_eq_getElem?_getD,List.getElem?_eq_getElem hx,Option.getD_some]
   exact hg _ (by simp)
  show w.foldl _ (zu (zu e d) (gs.getD x [])) = _
  rw [zEP he hd,zH6 hg he w _ (fun y hy=>hw y (by simp [hy])) (hd.comp hgx)]
  rfl
theorem zIK {n : Nat} {gs : List (List Int)} (hg : ∀ g ∈ gs,TrN n g) {e : List Int} (he : TrN n e) {w : List Nat} (hw : ∀ x ∈ w,x < gs.length) : w.foldl (fun f x=>zu f (gs.getD x [])) e = zu e (act n gs w):=by
 have:=zH6 hg he w (idL n) hw (zHa n)
 rw [zFz he] at this
 exact this
section
variable {n : Nat} {gs els : List (List Int)} {pre last : List Int} {wds : List (List Nat)} {right : List (List Int)}
theorem PrI.zIJ (h : PrI n gs els pre last wds right els.length) {a c : Nat} (ha : a < els.length) (hc : c < gs.length) : els[zb right a c]? = some (zu els[a] gs[c]):=by
 obtain ⟨s1,s2,s3,s4⟩:=h.rt.step ha hc
 obtain ⟨h1,h2⟩:=h.rg a right[a] (by simp)
 obtain ⟨m,e,g,e1,e2,e3,e4⟩:=h2 c right[a][c] (by simp)
 rw [s4] at e1
 have : zb right a c = m:=by omega
 rw [this,e4]
 rw [List.getElem?_eq_getElem ha] at e2
 rw [List.getElem?_eq_getElem hc] at e3
 simp only [Option.some.injEq] at e2 e3
 rw [e2,e3]
theorem PrI.zFg (h : PrI n gs els pre last wds right els.length) : ∀ (w : List Nat) {a : Nat} (ha : a < els.length),(∀ x ∈ w,x < gs.length) -> els[zk right a w]? = some (w.foldl (fun f x=>zu f (gs.getD x [])) els[a])
 | [],a,ha,_=>by simp [zk,ha]
 | x :: w,a,ha,hw=>by
  have hx:=hw x (by simp)
  have h1:=h.zIJ ha hx
  obtain ⟨h2,h3⟩:=List.getElem?_eq_some_iff.1 h1
  have h4:=h.zFg w h2 (fun y hy=>hw y (by simp [hy]))
  show els[zk right (zb right a x) w]? = _
  rw [h4,h3]
  simp [List.getD_eq_getElem?_getD,hx]
theorem PrI.wl' (h : PrI n gs els pre last wds right els.length) {y : Nat} (hy : y < els.length) : ∃ hw : y < wds.length,els[y] = act n gs wds[y] /\ TrN n els[y] /\ ∀ x ∈ wds[y],x < gs.length:=by
 have hw : y < wds.length:=by rw [← h.en.le]; exact hy
 exact ⟨hw,h.en.val y wds[y] els[y] (by simp) (by simp)⟩
end
section
variable {n : Nat} {gs els : List (List Int)} {pre last : List Int} {wds : List (List Nat)} {right : List (List Int)}
theorem zJc {m x y : Nat} (hx : x < m) (hy : y < m) : zDG (zDG (zA6 right wds m) x) y = (zk right x (wds.getD y []) : Int):=by
 simp [zDG,zA6,tab,hx,hy,List.getD_eq_getElem?_getD]
theorem zH0 {m x y : Nat} (hx : x < m) (hy : y < m) : ze (zA6 right wds m) x y = zk right x (wds.getD y []):=by
 unfold ze
 rw [zJc hx hy]
 omega
theorem PrI.elm (h : PrI n gs els pre last wds right els.length) (hg : ∀ g ∈ gs,TrN n g) {x y : Nat} (hx : x < els.length) (hy : y < els.length) : els[ze (zA6 right wds els.length) x y]? = some (zu els[x] els[y]):=by
 obtain ⟨hw,e1,e2,e3⟩:=h.wl' hy
 obtain ⟨_,_,e4,_⟩:=h.wl' hx
 rw [zH0 hx hy]
 have : wds.getD y [] = wds[y]:=by simp [List.getD_eq_getElem?_getD,hw]
 rw [this,h.zFg wds[y] hx e3,zIK hg e4 e3,← e1]
theorem PrI.tlt (h : PrI n gs els pre last wds right els.length) (hg : ∀ g ∈ gs,TrN n g) {x y : Nat} (hx : x < els.length) (hy : y < els.length) : ze (zA6 right wds els.length) x y < els.length:=(List.getElem?_eq_some_iff.1 (h.elm hg hx hy)).1
theorem PrI.asc (h : PrI n gs els pre last wds right els.length) (hg : ∀ g ∈ gs,TrN n g) : zDN els.length (ze (zA6 right wds els.length)):=by
 intro x y z hx hy hz
 have hxy:=h.tlt hg hx hy
 have hyz:=h.tlt hg hy hz
 have e1:=h.elm hg hxy hz
 have e2:=h.elm hg hx hyz
 have e3:=(List.getElem?_eq_some_iff.1 (h.elm hg hx hy)).2
 have e4:=(List.getElem?_eq_some_iff.1 (h.elm hg hy hz)).2
 obtain ⟨_,_,t1,_⟩:=h.wl' hx
 obtain ⟨_,_,t2,_⟩:=h.wl' hy
 rw [e3,zEP t1 t2] at e1
 rw [e4] at e2
 exact h.en.nd _ _ _ e1 e2
theorem PrI.n0 (h : PrI n gs els pre last wds right els.length) : 0 < els.length:=(List.getElem?_eq_some_iff.1 h.en.one.1).1
theorem PrI.vE (h : PrI n gs els pre last wds right els.length) (hg : ∀ g ∈ gs,TrN n g) (hl : els.length <= 400) : zPJ (zA6 right wds els.length) = 0:=by
 refine zN4 (zIo (by simp only [lnx,zBB]; omega) (by simp only [lnx,zBB]; exact h.n0) (fun r hr=>?_)) (by simp only [lnx,zBB]; exact h.asc hg)
 simp only [lnx,zBB] at hr
 have hrl : (zDG (zA6 right wds els.length) r).length = els.length:=by simp [zDG,zA6,tab,hr,List.getD_eq_getElem?_getD]
 refine ⟨by simp only [lnx,zBB]; exact hrl,fun i hi=>?_⟩
 simp only [lnx,hrl] at hi
 have:=h.tlt hg hr hi
 rw [zH0 hr hi] at this
 rw [zJc hr hi]
 simp only [lnx,zBB]
 omega
end
end Go.Proofs.YtjkeafkjjaploaaGreat.M
