/-
 The law semigrouplaw36.UnambiguousClass returns true for every input, and each argument reads afterwards as it read before: the given statement 'UnambiguousClassSaid', without conditions of its own.
-/
import Derived.Test.YtgmcbpjplcjmdaaGreatZubi
import Derived.Test.YtgmcbpjplcjmdaaGreatZubk
import Derived.ShutString
set_option linter.all false
namespace Go.Proofs.YtgmcbpjplcjmdaaGreat.unambiguousClass
open Go.ChangeShapes Go.WideShapes Go.ChangeAt Go.RowKit

set_option maxRecDepth 100000 in
theorem lifted(os:Os)(started:os.Started)(H:Type)(enc:TypeId×Value->H):
  ReturnsInHanded {} Tryz.checked os 3 .any (Rows.unambiguousClassSpec.pre6 enc Tryz.prog Tryz.f3 Rows.unambiguousClassRow.domain false) (Rows.unambiguousClassSpec.post enc Tryz.prog Tryz.f3 false true false false):=by
 refine returnsInHanded_of_change (C:=Tryz.checked) own started (by kernel_rfl) Tryz.func3
  (ChangeSpec.witness6 (enc:=enc) (C:=Tryz.checked) false ⟨#[],#[.slice none 0 0],[]⟩ 8 (by kernel_rfl) (by kernel_rfl) (by kernel_rfl) (by kernel_rfl)) ?_
 intro W base args ds gs before hval0 hW hcnd _;have hval: ∀(j:Nat) t v,Tryz.f3.params[j]? =some t->args[j]? =some v->Value.okWide Tryz.prog W .any base t v:=hval0;have hW':=hW;obtain⟨p,q,hA0,hV,rfl,hfz,hnd⟩:=hW;have hA:DataW.TrodAll enc Tryz.prog W 0 (fun _=>true) true Tryz.f3.params.toList args.toList ds p:=hA0;rw[Tryz.params3]at hA hval;obtain⟨v0,vs0,d0,ds0,p0,q0,hargs,rfl,rfl,h0,r0⟩:=trodAll_cons hA;obtain⟨rfl,rfl,rfl⟩:=trodAll_nil r0;obtain rfl:args= #[v0]:=by cases args;simp_all
 obtain⟨rfl,rfl⟩:=trodVars_none hV;obtain⟨a0,len0,cap0,rfl⟩:=okWide_slice Tryz.underlying22 (hval 0 22 v0 rfl rfl);have pl0:=zNS Tryz.underlying22 (hval 0 22 _ rfl rfl);have k0:=h0;have lt0: ∀x∈p0,x.block<W.heap.size:=by obtain⟨m,hm⟩:=k0;exact DataW.trod_lt m _ _ _ hm
 obtain⟨t0,w0⟩: ∃t,Ints W (.slice a0 len0 cap0) t:=by
  obtain⟨fuel,hf⟩:=h0;exact zIB (by simpa[Value.cells]using hf)
 clear hA0 hval0;have hv: ∀(i:Nat) c,([.t 1 (M.ints t0)]:List M.AV)[i]? =some c->M.VR (M.zV W.heap.size (fun _=>True) (fun _=>none) (fun k=>k<0) W) (#[.slice a0 len0 cap0].getD i undef) c:=fun i c hi=>by
  rcases i with _|i
  ·simp at hi;subst hi;exact M.zRi w0 pl0
  ·simp at hi
 refine(M.zOL (fun g cs h=>by simp[M.GT]at h) (M.zJb t0) rfl hv).mono fun e W' ⟨he,bel⟩=>?_
 subst he;exact⟨_,rfl,_,_,_,[],_,[],hW',trodAll_mk1 (shut_bool Tryz.underlying4 _),(trodAll_cons_mk (Below.trod laidOut (by kernel_rfl) (of_decide_eq_true (by kernel_rfl)) k0 bel lt0) trodAll_mk0),rfl,bel.frame _,fun h=>by cases h⟩

theorem over:Rows.unambiguousClassRow.holds Tryz.pinned (OpenSpec.ofChange Rows.unambiguousClassSpec):=
 OpenClaim.holds_of_wide 3 Tryz.f3 rfl rfl rfl rfl rfl rfl rfl ⟨rfl,rfl,rfl,rfl,rfl⟩ rfl rfl rfl rfl rfl (by kernel_rfl) Tryz.func3 (by kernel_rfl)
  (of_decide_eq_true (by kernel_rfl)) (by unfold Func.isWrapper;first|(rw[if_pos (by decide +kernel)];kernel_rfl)|(rw[if_neg (by decide +kernel)];exact⟨rfl,rfl⟩))
  (fun os started H enc _=>lifted os started H enc)

theorem proved:Rows.UnambiguousClassSaid:=over
end Go.Proofs.YtgmcbpjplcjmdaaGreat.unambiguousClass
