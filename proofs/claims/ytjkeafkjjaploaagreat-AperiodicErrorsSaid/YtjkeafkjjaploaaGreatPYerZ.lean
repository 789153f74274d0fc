/-
 The law semigrouplaw32.AperiodicErrors returns true for every input, and each argument reads afterwards as it read before: the given statement 'AperiodicErrorsSaid', without conditions of its own.
-/
import Derived.Test.YtjkeafkjjaploaaGreatZpbi
import Derived.Test.YtjkeafkjjaploaaGreatZpbj
import Derived.ShutString
namespace Go.Proofs.YtjkeafkjjaploaaGreat.aperiodicErrors
open Go.ChangeShapes Go.WideShapes Go.ChangeAt Go.RowKit
set_option linter.unusedVariables false

set_option maxRecDepth 100000 in
theorem lifted (os : Os) (started : os.Started) (H : Type) (enc : TypeId × Value -> H) :
  ReturnsInHanded {} Tryz.checked os 3 .any (Rows.aperiodicErrorsSpec.pre6 enc Tryz.prog Tryz.f3 Rows.aperiodicErrorsRow.domain false) (Rows.aperiodicErrorsSpec.post enc Tryz.prog Tryz.f3 false true false false):=by
 refine returnsInHanded_of_change (C:=Tryz.checked) own started (by kernel_rfl) Tryz.func3
  (ChangeSpec.witness6 (enc:=enc) (C:=Tryz.checked) false ⟨#[],#[.slice none 0 0,.int .i64 0,.int .i64 0],[]⟩ 8 (by kernel_rfl) (by kernel_rfl) (by kernel_rfl) (by kernel_rfl)) ?_
 intro W base args ds gs before hval0 hW hcnd _
 have hval : ∀ (j : Nat) t v,Tryz.f3.params[j]? = some t -> args[j]? = some v -> Value.okWide Tryz.prog W .any base t v:=hval0
 have hW':=hW
 obtain ⟨p,q,hA0,hV,rfl,hfz,hnd⟩:=hW
 have hA : DataW.TrodAll enc Tryz.prog W 0 (fun _=>true) true Tryz.f3.params.toList args.toList ds p:=hA0
 rw [Tryz.params3] at hA hval
 obtain ⟨v0,vs0,d0,ds0,p0,q0,hargs,rfl,rfl,h0,r0⟩:=trodAll_cons hA
 obtain ⟨v1,vs1,d1,ds1,p1,q1,rfl,rfl,rfl,h1,r1⟩:=trodAll_cons r0
 obtain ⟨v2,vs2,d2,ds2,p2,q2,rfl,rfl,rfl,h2,r2⟩:=trodAll_cons r1
 obtain ⟨rfl,rfl,rfl⟩:=trodAll_nil r2
 obtain rfl : args = #[v0,v1,v2]:=by cases args; simp_all
 obtain ⟨rfl,rfl⟩:=trodVars_none hV
 obtain ⟨a0,len0,cap0,rfl⟩:=okWide_slice Tryz.underlying22 (hval 0 22 v0 rfl rfl)
 have pl0:=zJU Tryz.underlying22 (hval 0 22 _ rfl rfl)
 have k0:=h0
 have lt0 : ∀ x ∈ p0,x.block < W.heap.size:=by obtain ⟨m,hm⟩:=k0; exact DataW.trod_lt m _ _ _ hm
 obtain ⟨t0,w0⟩ : ∃ t,zQW W (.slice a0 len0 cap0) t:=by
  obtain ⟨fuel,hf⟩:=h0
  exact zGO (by simpa [Value.cells] using hf)
 obtain ⟨a1,rfl,rfl,rfl,w1⟩:=open_int Tryz.underlying3 (hval 1 3 v1 rfl rfl) h1
 obtain ⟨a2,rfl,rfl,rfl,w2⟩:=open_int Tryz.underlying3 (hval 2 3 v2 rfl rfl) h2
 clear hA0 hval0
 have hv : ∀ (i : Nat) c,([.t 1 (M.ints t0),.t 2 (.int .i64 a1),.t 2 (.int .i64 a2)] : List M.AV)[i]? = some c -> M.VR (M.zi W.heap.size (fun _=>True) (fun _=>none) (fun k=>k < 0) W) (#[.slice a0 len0 cap0,.int .i64 a1,.int .i64 a2].getD i undef) c:=fun i c hi=>by
  rcases i with _ | _ | _ | i
  ·simp at hi; subst hi; exact M.zNx w0 pl0
  ·simp at hi; subst hi; exact .mkInt _ _ _ _
  ·simp at hi; subst hi; exact .mkInt _ _ _ _
  ·simp at hi
 refine (M.zKz (fun g cs h=>by simp [M.GT] at h) (M.zEr t0 a1 a2) rfl hv).mono fun e W' ⟨he,bel⟩=>?_
 subst he
 exact ⟨_,rfl,_,_,_,[],_,[],hW',trodAll_mk1 (shut_bool Tryz.underlying4 _),(trodAll_cons_mk (Below.trod laidOut (by kernel_rfl) (of_decide_eq_true (by kernel_rfl)) k0 bel lt0) (trodAll_cons_mk (shut_int Tryz.underlying3 w1) (trodAll_cons_mk (shut_int Tryz.underlying3 w2) trodAll_mk0))),rfl,bel.frame _,fun h=>by cases h⟩

theorem over : Rows.aperiodicErrorsRow.holds Tryz.pinned (OpenSpec.ofChange Rows.aperiodicErrorsSpec) :=
 OpenClaim.holds_of_wide 3 Tryz.f3 rfl rfl rfl rfl rfl rfl rfl ⟨rfl,rfl,rfl,rfl,rfl⟩ rfl rfl rfl rfl rfl (by kernel_rfl) Tryz.func3 (by kernel_rfl)
  (of_decide_eq_true (by kernel_rfl)) (by unfold Func.isWrapper; first | (rw [if_pos (by decide +kernel)]; kernel_rfl) | (rw [if_neg (by decide +kernel)]; exact ⟨rfl,rfl⟩))
  (fun os started H enc _=>lifted os started H enc)

theorem proved : Rows.AperiodicErrorsSaid:=over
end Go.Proofs.YtjkeafkjjaploaaGreat.aperiodicErrors
