/- Lemmas for the law unambiguousClass. No conditions. -/
import Derived.Test.YtgmcbpjplcjmdaaGreatZuaf
import Derived.Test.YtgmcbpjplcjmdaaGreatRows
import Derived.ProofKit
import Derived.OpenShut
import Derived.ChangeOld
import Derived.Deep.Matrix
set_option linter.all false
namespace Go.Proofs.YtgmcbpjplcjmdaaGreat
open Go.ChangeShapes Go.WideShapes Go.ChangeAt Go.RowKit

theorem own:ownKnob Tryz.prog.godebug=none:=by kernel_rfl
theorem laidOut:laidOutB Tryz.prog=true:=by kernel_rfl

theorem zMW{w:World}{a:Addr}{v:Value}(h:w.cell? (a.add 0)=some v): ∃b o,a=⟨b,o,none⟩:=by
 obtain⟨b,o,sp⟩:=a;have h2:(⟨b,o,sp⟩:Addr).add 0=⟨b,o,sp⟩:=by simp[Addr.add]
 rw[h2]at h;have:=World.cell?_spot h;simp at this;subst this;exact⟨b,o,rfl⟩

theorem zIB{H:Type}{enc:TypeId×Value->H}{W:World}{a:Option Addr}{len cap fuel:Nat}{held:Bool}{x:DataW H×List MemPlace}(hf:DataW.trod enc Tryz.prog W 0 (fun _=>true) held fuel 22 [.slice a len cap]=some x): ∃xs,Ints W (.slice a len cap) xs:=by
 rcases open_ints Tryz.underlying22 Tryz.underlying3 (by kernel_rfl) hf with⟨hcs,_⟩|⟨ad,l,c,zs,hcs,_,hl,hm,hz,_,hcell,_⟩
 ·simp at hcs;obtain⟨rfl,rfl,rfl⟩:=hcs;exact⟨[],none,0,rfl,by simp[lnx],by omega,fun h=>by simp[lnx]at h⟩
 ·simp at hcs;obtain⟨rfl,rfl,rfl⟩:=hcs;simp only[if_true]at hz;have hln:lnx (zs.take len)=len:=by simp[lnx,hz];omega
  refine⟨zs.take len,some ad,cap,by rw[hln],by omega,by simpa[maxLen]using hm,fun h0=>?_⟩;rw[hln]at h0 ⊢;obtain⟨b,o,rfl⟩:=zMW (hcell 0 (by omega));refine⟨b,o,rfl,fun i hi=>?_⟩;have:=hcell i (by omega);rw[Addr.add_lit]at this;rw[this];have h2:i<zs.length:=by omega
  simp[zAI,hi,h2]

