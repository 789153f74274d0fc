/-
 The law semigrouplaw35.MonomialClasses returns true for every input, and each argument reads afterwards as it read before: the given statement 'MonomialClassesCardSaid', without conditions of its own; the table of math/bits that the program reads is tied to the program's text by the given tie.
-/
import Derived.Test.YtgelfgpcnaeecaaGreatDoorZsbi
import Derived.Test.YtgelfgpcnaeecaaGreatDoorZsax
import Derived.Test.YtgelfgpcnaeecaaGreatDoorTie
import Derived.Test.YtgelfgpcnaeecaaGreatDoorCards
import Derived.SevenTiedAt
namespace Go.Proofs.YtgelfgpcnaeecaaGreatDoor.monomialClasses
open Go.ChangeShapes Go.WideShapes Go.ChangeAt Go.RowKit
set_option linter.unusedVariables false

set_option maxRecDepth 100000 in
theorem lifted (os : Os) (started : os.Started) (H : Type) (enc : TypeId × Value -> H) :
  ReturnsInHanded {} Tryz.checked os 3 .any (fun w args=>(Rows.monomialClassesSpec.pre enc Tryz.prog Tryz.f3 [] false w args /\ laidMetH Tryz.prog zKK w) /\ sizedMet enc Tryz.prog Tryz.f3 (OpenSpec.ofChange Rows.monomialClassesSpec) false w args)
   (Rows.monomialClassesSpec.post enc Tryz.prog Tryz.f3 false true false false):=by
 refine returnsInHanded_of_change_and (C:=Tryz.checked) (X:=fun w _=>laidMetH Tryz.prog zKK w) (fun _ _ _ hh h=>h.of_heap hh) zU1 started (by kernel_rfl) Tryz.func3
  (ChangeSpec.witness_shaped (enc:=enc) (C:=Tryz.checked) (os:=os) (X:=fun w _=>laidMetH Tryz.prog zKK w) false (World.doorLaid Tryz.prog 400 os) #[.slice none 0 0] 8 rfl (World.shaped_of_RefB (by kernel_rfl) (by kernel_rfl)) (by kernel_rfl) (by kernel_rfl) (by kernel_rfl) (zNN os _)) ?_
 intro W base args ds gs before hval0 hW _ _ hL _
 have hval : ∀ (j : Nat) t v,Tryz.f3.params[j]? = some t -> args[j]? = some v -> Value.okWide Tryz.prog W .any base t v:=hval0
 have hW':=hW
 obtain ⟨p,q,hA0,hV,rfl,hfz,hnd⟩:=hW
 have hA : DataW.TrodAll enc Tryz.prog W 0 (fun _=>true) true Tryz.f3.params.toList args.toList ds p:=hA0
 rw [Tryz.params3] at hA hval
 obtain ⟨v0,vs0,d0,ds0,p0,q0,hargs,rfl,rfl,h0,r0⟩:=trodAll_cons hA
 obtain ⟨rfl,rfl,rfl⟩:=trodAll_nil r0
 obtain rfl : args = #[v0]:=by cases args; simp_all
 obtain ⟨rfl,rfl⟩:=trodVars_none hV
 have k0:=h0
 have lt0 : ∀ x ∈ p0,x.block < W.heap.size:=by obtain ⟨m,hm⟩:=k0; exact DataW.trod_lt m _ _ _ hm
 obtain ⟨t0,w0⟩:=zKU Tryz.underlying22 Tryz.underlying3 (by kernel_rfl) (hval 0 22 v0 rfl rfl) h0
 clear hA0 hval0
 have hv : ∀ (i : Nat) c,([.t 1 (M.ints t0)] : List M.AV)[i]? = some c -> M.VR (M.za W.heap.size (fun _=>True) (fun _=>none) (fun k=>k < 0) W) (#[v0].getD i undef) c:=fun i c hi=>by
  rcases i with _ | i
  ·simp at hi; subst hi; exact w0
  ·simp at hi
 refine (M.zKL (zKP hL) (M.zFJ t0) rfl hv).mono fun e W' ⟨he,bel⟩=>?_
 subst he
 exact ⟨_,rfl,_,_,_,[],_,[],hW',trodAll_mk1 (shut_bool Tryz.underlying4 _),(trodAll_cons_mk (Below.trod zNo (by kernel_rfl) (of_decide_eq_true (by kernel_rfl)) k0 bel lt0) trodAll_mk0),rfl,bel.frame _,fun h=>by cases h⟩

theorem over : Rows.monomialClassesRow.holds Tryz.pinned (OpenSpec.ofChange Rows.monomialClassesSpec) :=
 OpenClaim.holds_of_wide 3 Tryz.f3 rfl rfl rfl rfl rfl rfl rfl ⟨rfl,rfl,rfl,rfl,rfl⟩ rfl rfl rfl rfl rfl (by kernel_rfl) Tryz.func3 (by kernel_rfl)
  (of_decide_eq_true (by kernel_rfl)) (by unfold Func.isWrapper; first | (rw [if_pos (by decide +kernel)]; kernel_rfl) | (rw [if_neg (by decide +kernel)]; exact ⟨rfl,rfl⟩))
  (fun os started H enc _=>lifted os started H enc)

theorem proved : Rows.MonomialClassesCardSaid :=
 Claim7.holds_tied_plain_at .later [] [.data] true (true, "fe80b129915e9b22e2509ef3a35ba40ade71bb2c3f5138b79a8efea1fca646e9") false
  over (fun _ h=>by cases h) (by kernel_rfl) (fun _ h=>by cases h) monomialClasses_row_tie rfl ⟨rfl,rfl⟩ (by kernel_rfl) rfl
  (fun f fn hf hfn=>by
   obtain rfl : f = 3:=Option.some.inj ((show Tryz.prog.funcNamed "semigroup/semigrouplaw35.MonomialClasses" = some 3 by kernel_rfl).symm.trans hf) |>.symm
   obtain rfl : fn = Tryz.f3:=(Option.some.inj (Tryz.func3.symm.trans hfn)).symm
   exact ⟨by kernel_rfl,fun j t ht=>by
    rw [Tryz.params3] at ht
    have hm : t ∈ [22]:=by simpa using Array.mem_of_getElem? ht
    have hall : ([22].all fun u=>!Tryz.prog.wantsStandIn u) = true:=by kernel_rfl
    exact (show Tryz.prog.wantsStandIn t = false by simpa using List.all_eq_true.1 hall t hm)⟩)
  (by kernel_rfl)
end Go.Proofs.YtgelfgpcnaeecaaGreatDoor.monomialClasses
