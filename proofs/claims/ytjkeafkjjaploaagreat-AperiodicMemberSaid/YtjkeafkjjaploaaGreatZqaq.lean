/- Lemmas for the law AperiodicMember. No conditions. -/
import Derived.Test.YtjkeafkjjaploaaGreatZqap
import Derived.Test.YtjkeafkjjaploaaGreatZqaf
set_option linter.all false
namespace Go.Proofs.YtjkeafkjjaploaaGreat.M
open Go.RowKit
set_option maxRecDepth 100000
set_option maxHeartbeats 32000000

theorem zFO{n:Nat}{a b c:List Int}(ha:TrN n a)(hb:TrN n b):zt (zt a b) c=zt a (zt b c):=by
 unfold zt;rw[List.map_map];apply List.map_congr_left;intro v hv;have h1:=ha.2 v hv;have h2:=hb.1;have h3:v.toNat<b.length:=by omega
 simp[Qv,h3]
theorem zHL{n:Nat}{a:List Int}(ha:TrN n a):zt a (idL n)=a:=by
 unfold zt
 conv=>rhs;rw[←List.map_id a]
 apply List.map_congr_left;intro v hv;have h1:=ha.2 v hv;have h3:v.toNat<n:=by omega
 simp[idL,tab,Qv,h3];omega
theorem zLR{n:Nat}{gs:List (List Int)}(hg: ∀g∈gs,TrN n g){e:List Int}(he:TrN n e): ∀(w:List Nat) (d:List Int),(∀x∈w,x<gs.length)->TrN n d->w.foldl (fun f x=>zt f (gs.getD x [])) (zt e d)=zt e (w.foldl (fun f x=>zt f (gs.getD x [])) d)
 |[],d,_,_=>rfl
 |x::w,d,hw,hd=>by
  have hx:=hw x (by simp);have hgx:TrN n (gs.getD x []):=by
   simp only[Qv,Qj hx,Qd];exact hg _ (by simp)
  show w.foldl _ (zt (zt e d) (gs.getD x []))=_;rw[zFO he hd,zLR hg he w _ (fun y hy=>hw y (by simp[hy])) (hd.comp hgx)];rfl
theorem zLM{n:Nat}{gs:List (List Int)}(hg: ∀g∈gs,TrN n g){e:List Int}(he:TrN n e){w:List Nat}(hw: ∀x∈w,x<gs.length):w.foldl (fun f x=>zt f (gs.getD x [])) e=zt e (act n gs w):=by
 have:=zLR hg he w (idL n) hw (zF6 n);rw[zHL he]at this;exact this
section
variable{n:Nat}{gs els:List (List Int)}{pre last:List Int}{wds:List (List Nat)}{right:List (List Int)}
theorem PrI.zKk(h:PrI n gs els pre last wds right els.length){a c:Nat}(ha:a<els.length)(hc:c<gs.length):els[zb right a c]? =some (zt els[a] gs[c]):=by
 obtain⟨s1,s2,s3,s4⟩:=h.rt.step ha hc;obtain⟨h1,h2⟩:=h.rg a right[a] (by simp);obtain⟨m,e,g,e1,e2,e3,e4⟩:=h2 c right[a][c] (by simp);rw[s4]at e1;have:zb right a c=m:=by omega
 rw[this,e4];rw[Qj ha]at e2;rw[Qj hc]at e3;simp only[Qx]at e2 e3;rw[e2,e3]
theorem PrI.zIM(h:PrI n gs els pre last wds right els.length): ∀(w:List Nat) {a:Nat} (ha:a<els.length),(∀x∈w,x<gs.length)->els[zj right a w]? =some (w.foldl (fun f x=>zt f (gs.getD x [])) els[a])
 |[],a,ha,_=>by simp[zj,ha]
 |x::w,a,ha,hw=>by
  have hx:=hw x (by simp);have h1:=h.zKk ha hx;obtain⟨h2,h3⟩:=Qq.1 h1;have h4:=h.zIM w h2 (fun y hy=>hw y (by simp[hy]));show els[zj right (zb right a x) w]? =_;rw[h4,h3];simp[Qv,hx]
theorem PrI.wl'(h:PrI n gs els pre last wds right els.length){y:Nat}(hy:y<els.length): ∃hw:y<wds.length,els[y]=act n gs wds[y]/\TrN n els[y]/\ ∀x∈wds[y],x<gs.length:=by
 have hw:y<wds.length:=by rw[←h.en.le];exact hy
 exact⟨hw,h.en.val y wds[y] els[y] (by simp) (by simp)⟩
end
section
variable{n:Nat}{gs els:List (List Int)}{pre last:List Int}{wds:List (List Nat)}{right:List (List Int)}
theorem zOX{m x y:Nat}(hx:x<m)(hy:y<m):zAP (zAP (zBO right wds m) x) y=(zj right x (wds.getD y []):Int):=by
 simp[zAP,zBO,tab,hx,hy,Qv]
theorem zLV{m x y:Nat}(hx:x<m)(hy:y<m):zQ (zBO right wds m) x y=zj right x (wds.getD y []):=by
 unfold zQ;rw[zOX hx hy];omega
theorem PrI.elm(h:PrI n gs els pre last wds right els.length)(hg: ∀g∈gs,TrN n g){x y:Nat}(hx:x<els.length)(hy:y<els.length):els[zQ (zBO right wds els.length) x y]? =some (zt els[x] els[y]):=by
 obtain⟨hw,e1,e2,e3⟩:=h.wl' hy;obtain⟨_,_,e4,_⟩:=h.wl' hx;rw[zLV hx hy];have:wds.getD y []=wds[y]:=by simp[Qv,hw]
 rw[this,h.zIM wds[y] hx e3,zLM hg e4 e3,←e1]
theorem PrI.tlt(h:PrI n gs els pre last wds right els.length)(hg: ∀g∈gs,TrN n g){x y:Nat}(hx:x<els.length)(hy:y<els.length):zQ (zBO right wds els.length) x y<els.length:=(Qq.1 (h.elm hg hx hy)).1
theorem PrI.asc(h:PrI n gs els pre last wds right els.length)(hg: ∀g∈gs,TrN n g):zAz els.length (zQ (zBO right wds els.length)):=by
 intro x y z hx hy hz;have hxy:=h.tlt hg hx hy;have hyz:=h.tlt hg hy hz;have e1:=h.elm hg hxy hz;have e2:=h.elm hg hx hyz;have e3:=(Qq.1 (h.elm hg hx hy)).2;have e4:=(Qq.1 (h.elm hg hy hz)).2;obtain⟨_,_,t1,_⟩:=h.wl' hx;obtain⟨_,_,t2,_⟩:=h.wl' hy;rw[e3,zFO t1 t2]at e1;rw[e4]at e2;exact h.en.nd _ _ _ e1 e2
theorem PrI.n0(h:PrI n gs els pre last wds right els.length):0<els.length:=(Qq.1 h.en.one.1).1
theorem PrI.vE(h:PrI n gs els pre last wds right els.length)(hg: ∀g∈gs,TrN n g)(hl:els.length<=400):zC1 (zBO right wds els.length)=0:=by
 refine zPH (zFl (by simp only[lnx,zBX];omega) (by simp only[lnx,zBX];exact h.n0) (fun r hr=>?_)) (by simp only[lnx,zBX];exact h.asc hg);simp only[lnx,zBX]at hr;have hrl:(zAP (zBO right wds els.length) r).length=els.length:=by simp[zAP,zBO,tab,hr,Qv]
 refine⟨by simp only[lnx,zBX];exact hrl,fun i hi=>?_⟩;simp only[lnx,hrl]at hi;have:=h.tlt hg hr hi;rw[zLV hr hi]at this;rw[zOX hr hi];simp only[lnx,zBX];omega
end
