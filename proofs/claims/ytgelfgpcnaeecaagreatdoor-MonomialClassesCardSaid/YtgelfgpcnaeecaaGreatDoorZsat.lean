/-
  What words do to the elements of an enumeration.
  The tables of syntactic monoids are valid.
-/
import Derived.Test.YtgelfgpcnaeecaaGreatDoorZsan
import Derived.Test.YtgelfgpcnaeecaaGreatDoorZsas
namespace Go.Proofs.YtgelfgpcnaeecaaGreatDoor.M
open Go.RowKit
set_option linter.unusedVariables false
set_option linter.unusedSimpArgs false
set_option maxRecDepth 100000
set_option maxHeartbeats 32000000

theorem zEW {n : Nat} {a b c : List Int} (ha : TrN n a) (hb : TrN n b) : zt (zt a b) c = zt a (zt b c):=by
 unfold zt
 rw [List.map_map]
 apply List.map_congr_left
 intro v hv
 have h1:=ha.2 v hv
 have h2:=hb.1
 have h3 : v.toNat < b.length:=by omega
 simp [List.getD_eq_getElem?_getD,h3]
theorem zK0 {n : Nat} {a : List Int} (ha : TrN n a) : zt a (idL n) = a:=by
 unfold zt
 conv=>rhs; rw [← List.map_id a]
 apply List.map_congr_left
 intro v hv
 have h1:=ha.2 v hv
 have h3 : v.toNat < n:=by omega
 simp [idL,tab,List.getD_eq_getElem?_getD,h3]
 omega
theorem zI3 {n : Nat} {gs : List (List Int)} (hg : ∀ g ∈ gs,TrN n g) {e : List Int} (he : TrN n e) : ∀ (w : List Nat) (d : List Int),(∀ x ∈ w,x < gs.length) -> TrN n d -> w.foldl (fun f x=>zt f (gs.getD x [])) (zt e d) = zt e (w.foldl (fun f x=>zt f (gs.getD x [])) d)
 | [],d,_,_=>rfl
 | x :: w,d,hw,hd=>by
  have hx:=hw x (by simp)
  have hgx : TrN n (gs.getD x []):=by
   simp only [List.getD_eq_getElem?_getD,List.getElem?_eq_getElem hx,Option.getD_some]
   exact hg _ (by simp)
  show w.foldl _ (zt (zt e d) (gs.getD x [])) = _
  rw [zEW he hd,zI3 hg he w _ (fun y hy=>hw y (by simp [hy])) (hd.comp hgx)]
  rfl
theorem zMh {n : Nat} {gs : List (List Int)} (hg : ∀ g ∈ gs,TrN n g) {e : List Int} (he : TrN n e) {w : List Nat} (hw : ∀ x ∈ w,x < gs.length) : w.foldl (fun f x=>zt f (gs.getD x [])) e = zt e (act n gs w):=by
 have:=zI3 hg he w (idL n) hw (zEm n)
 rw [zK0 he] at this
 exact this
section
variable {n : Nat} {gs els : List (List Int)} {pre last : List Int} {wds : List (List Nat)} {right : List (List Int)}
theorem PrI.zPK (h : PrI n gs els pre last wds right els.length) {a c : Nat} (ha : a < els.length) (hc : c < gs.length) : els[zJ right a c]? = some (zt els[a] gs[c]):=by
 obtain ⟨s1,s2,s3,s4⟩:=h.rt.step ha hc
 obtain ⟨h1,h2⟩:=h.rg a right[a] (by simp)
 obtain ⟨m,e,g,e1,e2,e3,e4⟩:=h2 c right[a][c] (by simp)
 rw [s4] at e1
 have : zJ right a c = m:=by omega
 rw [this,e4]
 rw [List.getElem?_eq_getElem ha] at e2
 rw [List.getElem?_eq_getElem hc] at e3
 simp only [Option.some.injEq] at e2 e3
 rw [e2,e3]
theorem PrI.zNC (h : PrI n gs els pre last wds right els.length) : ∀ (w : List Nat) {a : Nat} (ha : a < els.length),(∀ x ∈ w,x < gs.length) -> els[zZ right a w]? = some (w.foldl (fun f x=>zt f (gs.getD x [])) els[a])
 | [],a,ha,_=>by simp [zZ,ha]
 | x :: w,a,ha,hw=>by
  have hx:=hw x (by simp)
  have h1:=h.zPK ha hx
  obtain ⟨h2,h3⟩:=List.getElem?_eq_some_iff.1 h1
  have h4:=h.zNC w h2 (fun y hy=>hw y (by simp [hy]))
  show els[zZ right (zJ right a x) w]? = _
  rw [h4,h3]
  simp [List.getD_eq_getElem?_getD,hx]
theorem PrI.wl' (h : PrI n gs els pre last wds right els.length) {y : Nat} (hy : y < els.length) : ∃ hw : y < wds.length,els[y] = act n gs wds[y] /\ TrN n els[y] /\ ∀ x ∈ wds[y],x < gs.length:=by
 have hw : y < wds.length:=by rw [← h.en.le]; exact hy
 exact ⟨hw,h.en.val y wds[y] els[y] (by simp) (by simp)⟩
end
section
variable {n : Nat} {gs els : List (List Int)} {pre last : List Int} {wds : List (List Nat)} {right : List (List Int)}
theorem zLa {m x y : Nat} (hx : x < m) (hy : y < m) : zAC (zAC (zBQ right wds m) x) y = (zZ right x (wds.getD y []) : Int):=by
 simp [zAC,zBQ,tab,hx,hy,List.getD_eq_getElem?_getD]
theorem zJu {m x y : Nat} (hx : x < m) (hy : y < m) : zR (zBQ right wds m) x y = zZ right x (wds.getD y []):=by
 unfold zR
 rw [zLa hx hy]
 omega
theorem PrI.elm (h : PrI n gs els pre last wds right els.length) (hg : ∀ g ∈ gs,TrN n g) {x y : Nat} (hx : x < els.length) (hy : y < els.length) : els[zR (zBQ right wds els.length) x y]? = some (zt els[x] els[y]):=by
 obtain ⟨hw,e1,e2,e3⟩:=h.wl' hy
 obtain ⟨_,_,e4,_⟩:=h.wl' hx
 rw [zJu hx hy]
 have : wds.getD y [] = wds[y]:=by simp [List.getD_eq_getElem?_getD,hw]
 rw [this,h.zNC wds[y] hx e3,zMh hg e4 e3,← e1]
theorem PrI.tlt (h : PrI n gs els pre last wds right els.length) (hg : ∀ g ∈ gs,TrN n g) {x y : Nat} (hx : x < els.length) (hy : y < els.length) : zR (zBQ right wds els.length) x y < els.length:=(List.getElem?_eq_some_iff.1 (h.elm hg hx hy)).1
theorem PrI.asc (h : PrI n gs els pre last wds right els.length) (hg : ∀ g ∈ gs,TrN n g) : zBA els.length (zR (zBQ right wds els.length)):=by
 intro x y z hx hy hz
 have hxy:=h.tlt hg hx hy
 have hyz:=h.tlt hg hy hz
 have e1:=h.elm hg hxy hz
 have e2:=h.elm hg hx hyz
 have e3:=(List.getElem?_eq_some_iff.1 (h.elm hg hx hy)).2
 have e4:=(List.getElem?_eq_some_iff.1 (h.elm hg hy hz)).2
 obtain ⟨_,_,t1,_⟩:=h.wl' hx
 obtain ⟨_,_,t2,_⟩:=h.wl' hy
 rw [e3,zEW t1 t2] at e1
 rw [e4] at e2
 exact h.en.nd _ _ _ e1 e2
theorem PrI.n0 (h : PrI n gs els pre last wds right els.length) : 0 < els.length:=(List.getElem?_eq_some_iff.1 h.en.one.1).1
theorem PrI.vE (h : PrI n gs els pre last wds right els.length) (hg : ∀ g ∈ gs,TrN n g) (hl : els.length <= 400) : zCb (zBQ right wds els.length) = 0:=by
 refine zKv (zFD (by simp only [lnx,zBX]; omega) (by simp only [lnx,zBX]; exact h.n0) (fun r hr=>?_)) (by simp only [lnx,zBX]; exact h.asc hg)
 simp only [lnx,zBX] at hr
 have hrl : (zAC (zBQ right wds els.length) r).length = els.length:=by simp [zAC,zBQ,tab,hr,List.getD_eq_getElem?_getD]
 refine ⟨by simp only [lnx,zBX]; exact hrl,fun i hi=>?_⟩
 simp only [lnx,hrl] at hi
 have:=h.tlt hg hr hi
 rw [zJu hr hi] at this
 rw [zLa hr hi]
 simp only [lnx,zBX]
 omega
end
end Go.Proofs.YtgelfgpcnaeecaaGreatDoor.M
