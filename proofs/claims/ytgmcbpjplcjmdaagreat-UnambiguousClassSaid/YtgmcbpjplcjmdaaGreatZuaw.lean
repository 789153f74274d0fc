/- Lemmas for the law unambiguousClass. No conditions. -/
import Derived.Test.YtgmcbpjplcjmdaaGreatZuav
set_option linter.all false
namespace Go.Proofs.YtgmcbpjplcjmdaaGreat.M
open Go.RowKit
set_option maxRecDepth 100000
set_option maxHeartbeats 32000000

theorem zFA{n:Nat}{a b c:List Int}(ha:TrN n a)(hb:TrN n b):zn (zn a b) c=zn a (zn b c):=by
 unfold zn;rw[List.map_map];apply List.map_congr_left;intro v hv;have h1:=ha.2 v hv;have h2:=hb.1;have h3:v.toNat<b.length:=by omega
 simp[Qv,h3]
theorem zHs{n:Nat}{a:List Int}(ha:TrN n a):zn a (idL n)=a:=by
 unfold zn
 conv=>rhs;rw[←List.map_id a]
 apply List.map_congr_left;intro v hv;have h1:=ha.2 v hv;have h3:v.toNat<n:=by omega
 simp[idL,tab,Qv,h3];omega
theorem zKC{n:Nat}{gs:List (List Int)}(hg: ∀g∈gs,TrN n g){e:List Int}(he:TrN n e): ∀(w:List Nat) (d:List Int),(∀x∈w,x<gs.length)->TrN n d->w.foldl (fun f x=>zn f (gs.getD x [])) (zn e d)=zn e (w.foldl (fun f x=>zn f (gs.getD x [])) d)
 |[],d,_,_=>rfl
 |x::w,d,hw,hd=>by
  have hx:=hw x (by simp);have hgx:TrN n (gs.getD x []):=by
   simp only[Qv,Qj hx,Qd];exact hg _ (by simp)
  show w.foldl _ (zn (zn e d) (gs.getD x []))=_;rw[zFA he hd,zKC hg he w _ (fun y hy=>hw y (by simp[hy])) (hd.comp hgx)];rfl
theorem zMd{n:Nat}{gs:List (List Int)}(hg: ∀g∈gs,TrN n g){e:List Int}(he:TrN n e){w:List Nat}(hw: ∀x∈w,x<gs.length):w.foldl (fun f x=>zn f (gs.getD x [])) e=zn e (act n gs w):=by
 have:=zKC hg he w (idL n) hw (zFh n);rw[zHs he]at this;exact this
section
variable{n:Nat}{gs els:List (List Int)}{pre last:List Int}{wds:List (List Nat)}{right:List (List Int)}
theorem PrI.zJw(h:PrI n gs els pre last wds right els.length){a c:Nat}(ha:a<els.length)(hc:c<gs.length):els[zR right a c]? =some (zn els[a] gs[c]):=by
 obtain⟨s1,s2,s3,s4⟩:=h.rt.step ha hc;obtain⟨h1,h2⟩:=h.rg a right[a] (by simp);obtain⟨m,e,g,e1,e2,e3,e4⟩:=h2 c right[a][c] (by simp);rw[s4]at e1;have:zR right a c=m:=by omega
 rw[this,e4];rw[Qj ha]at e2;rw[Qj hc]at e3;simp only[Qx]at e2 e3;rw[e2,e3]
theorem PrI.zHG(h:PrI n gs els pre last wds right els.length): ∀(w:List Nat) {a:Nat} (ha:a<els.length),(∀x∈w,x<gs.length)->els[zo right a w]? =some (w.foldl (fun f x=>zn f (gs.getD x [])) els[a])
 |[],a,ha,_=>by simp[zo,ha]
 |x::w,a,ha,hw=>by
  have hx:=hw x (by simp);have h1:=h.zJw ha hx;obtain⟨h2,h3⟩:=Qq.1 h1;have h4:=h.zHG w h2 (fun y hy=>hw y (by simp[hy]));show els[zo right (zR right a x) w]? =_;rw[h4,h3];simp[Qv,hx]
theorem PrI.wl'(h:PrI n gs els pre last wds right els.length){y:Nat}(hy:y<els.length): ∃hw:y<wds.length,els[y]=act n gs wds[y]/\TrN n els[y]/\ ∀x∈wds[y],x<gs.length:=by
 have hw:y<wds.length:=by rw[←h.en.le];exact hy
 exact⟨hw,h.en.val y wds[y] els[y] (by simp) (by simp)⟩
end
section
variable{n:Nat}{gs els:List (List Int)}{pre last:List Int}{wds:List (List Nat)}{right:List (List Int)}
theorem zM2{m x y:Nat}(hx:x<m)(hy:y<m):zAI (zAI (zBq right wds m) x) y=(zo right x (wds.getD y []):Int):=by
 simp[zAI,zBq,tab,hx,hy,Qv]
theorem zKA{m x y:Nat}(hx:x<m)(hy:y<m):zP (zBq right wds m) x y=zo right x (wds.getD y []):=by
 unfold zP;rw[zM2 hx hy];omega
theorem PrI.elm(h:PrI n gs els pre last wds right els.length)(hg: ∀g∈gs,TrN n g){x y:Nat}(hx:x<els.length)(hy:y<els.length):els[zP (zBq right wds els.length) x y]? =some (zn els[x] els[y]):=by
 obtain⟨hw,e1,e2,e3⟩:=h.wl' hy;obtain⟨_,_,e4,_⟩:=h.wl' hx;rw[zKA hx hy];have:wds.getD y []=wds[y]:=by simp[Qv,hw]
 rw[this,h.zHG wds[y] hx e3,zMd hg e4 e3,←e1]
theorem PrI.tlt(h:PrI n gs els pre last wds right els.length)(hg: ∀g∈gs,TrN n g){x y:Nat}(hx:x<els.length)(hy:y<els.length):zP (zBq right wds els.length) x y<els.length:=(Qq.1 (h.elm hg hx hy)).1
theorem PrI.asc(h:PrI n gs els pre last wds right els.length)(hg: ∀g∈gs,TrN n g):zBA els.length (zP (zBq right wds els.length)):=by
 intro x y z hx hy hz;have hxy:=h.tlt hg hx hy;have hyz:=h.tlt hg hy hz;have e1:=h.elm hg hxy hz;have e2:=h.elm hg hx hyz;have e3:=(Qq.1 (h.elm hg hx hy)).2;have e4:=(Qq.1 (h.elm hg hy hz)).2;obtain⟨_,_,t1,_⟩:=h.wl' hx;obtain⟨_,_,t2,_⟩:=h.wl' hy;rw[e3,zFA t1 t2]at e1;rw[e4]at e2;exact h.en.nd _ _ _ e1 e2
theorem PrI.n0(h:PrI n gs els pre last wds right els.length):0<els.length:=(Qq.1 h.en.one.1).1
theorem PrI.vE(h:PrI n gs els pre last wds right els.length)(hg: ∀g∈gs,TrN n g)(hl:els.length<=400):zCQ (zBq right wds els.length)=0:=by
 refine zNN (zFx (by simp only[lnx,zBf];omega) (by simp only[lnx,zBf];exact h.n0) (fun r hr=>?_)) (by simp only[lnx,zBf];exact h.asc hg);simp only[lnx,zBf]at hr;have hrl:(zAI (zBq right wds els.length) r).length=els.length:=by simp[zAI,zBq,tab,hr,Qv]
 refine⟨by simp only[lnx,zBf];exact hrl,fun i hi=>?_⟩;simp only[lnx,hrl]at hi;have:=h.tlt hg hr hi;rw[zKA hr hi]at this;rw[zM2 hr hi];simp only[lnx,zBf];omega
end
