/-
 The law semigrouplaw35.MonomialSidesRaw returns true for every input, and each argument reads afterwards as it read before: the given statement 'MonomialSidesRawCardSaid', without conditions of its own; the table of math/bits that the program reads is tied to the program's text by the given tie.
-/
import Derived.Test.YtnffigeofdagfaaDoorZobt
import Derived.Test.YtnffigeofdagfaaDoorZobu
import Derived.Test.YtnffigeofdagfaaDoorTie
import Derived.Test.YtnffigeofdagfaaDoorCards
import Derived.SevenTiedAt
namespace Go.Proofs.YtnffigeofdagfaaDoor.monomialSidesRaw
open Go.ChangeShapes Go.WideShapes Go.ChangeAt Go.RowKit
set_option linter.unusedVariables false

set_option maxRecDepth 100000 in
theorem lifted (os : Os) (started : os.Started) (H : Type) (enc : TypeId × Value → H) :
  ReturnsInHanded {} Tryd.checked os 5 .any (fun w args => (Rows.monomialSidesRawSpec.pre enc Tryd.prog Tryd.f5 [] false w args ∧ laidMetH Tryd.prog laidD w) ∧ sizedMet enc Tryd.prog Tryd.f5 (OpenSpec.ofChange Rows.monomialSidesRawSpec) false w args)
   (Rows.monomialSidesRawSpec.post enc Tryd.prog Tryd.f5 false true false false) := by
 refine returnsInHanded_of_change_and (C := Tryd.checked) (X := fun w _ => laidMetH Tryd.prog laidD w) (fun _ _ _ hh h => h.of_heap hh) ownD started (by kernel_rfl) Tryd.func5
  (ChangeSpec.witness_shaped (enc := enc) (C := Tryd.checked) (os := os) (X := fun w _ => laidMetH Tryd.prog laidD w) false (World.doorLaid Tryd.prog 400 os) #[.agg #[.int .i64 0, .int .i64 0, .slice none 0 0, .slice none 0 0]] 8 rfl (World.shaped_of_RefB (by kernel_rfl) (by kernel_rfl)) (by kernel_rfl) (by kernel_rfl) (by kernel_rfl) (door_metD os _)) ?_
 intro W base args ds gs before hval0 hW _ _ hL _
 have hval : ∀ (j : Nat) t v, Tryd.f5.params[j]? = some t → args[j]? = some v → Value.okWide Tryd.prog W .any base t v := hval0
 have hW' := hW
 obtain ⟨p, q, hA0, hV, rfl, hfz, hnd⟩ := hW
 have hA : DataW.TrodAll enc Tryd.prog W 0 (fun _ => true) true Tryd.f5.params.toList args.toList ds p := hA0
 rw [Tryd.params5] at hA hval
 obtain ⟨v0, vs0, d0, ds0, p0, q0, hargs, rfl, rfl, h0, r0⟩ := trodAll_cons hA
 obtain ⟨rfl, rfl, rfl⟩ := trodAll_nil r0
 obtain rfl : args = #[v0] := by cases args; simp_all
 obtain ⟨rfl, rfl⟩ := trodVars_none hV
 have k0 := h0
 have lt0 : ∀ x ∈ p0, x.block < W.heap.size := by obtain ⟨m, hm⟩ := k0; exact DataW.trod_lt m _ _ _ hm
 obtain ⟨t0, w0⟩ := dfa_of_trod (hval 0 32 v0 rfl rfl) h0
 clear hA0 hval0
 have hv : ∀ (i : Nat) c, ([M.dfG 1 t0.1 t0.2.1 t0.2.2.1 t0.2.2.2] : List M.AV)[i]? = some c → M.VR (M.evOf W.heap.size (fun _ => True) (fun _ => none) (fun k => k < 0) W) (#[v0].getD i undef) c := fun i c hi => by
  rcases i with _ | i
  ·simp at hi; subst hi; exact w0
  ·simp at hi
 refine (M.lawD_of_fn (gl_of_laid hL) (M.monSidesRaw_fn t0.1 t0.2.1 t0.2.2.1 t0.2.2.2) rfl hv).mono fun e W' ⟨he, bel⟩ => ?_
 subst he
 exact ⟨_, rfl, _, _, _, [], _, [], hW', trodAll_mk1 (shut_bool Tryd.underlying4 _), (trodAll_cons_mk (Below.trod laidOutD (by kernel_rfl) (of_decide_eq_true (by kernel_rfl)) k0 bel lt0) trodAll_mk0), rfl, bel.frame _, fun h => by cases h⟩

theorem over : Rows.monomialSidesRawRow.holds Tryd.pinned (OpenSpec.ofChange Rows.monomialSidesRawSpec) :=
 OpenClaim.holds_of_wide 5 Tryd.f5 rfl rfl rfl rfl rfl rfl rfl ⟨rfl, rfl, rfl, rfl, rfl⟩ rfl rfl rfl rfl rfl (by kernel_rfl) Tryd.func5 (by kernel_rfl)
  (of_decide_eq_true (by kernel_rfl)) (by unfold Func.isWrapper; first | (rw [if_pos (by decide +kernel)]; kernel_rfl) | (rw [if_neg (by decide +kernel)]; exact ⟨rfl, rfl⟩))
  (fun os started H enc _ => lifted os started H enc)

theorem proved : Rows.MonomialSidesRawCardSaid :=
 Claim7.holds_tied_plain_at .later [] [.data] true (true, "27fb58f12b35876b51a126678fe4a8124abfc5564a3179cfe148ab07992e93f4") false
  over (fun _ h => by cases h) (by kernel_rfl) (fun _ h => by cases h) monomialSidesRaw_row_tie rfl ⟨rfl, rfl⟩ (by kernel_rfl) rfl
  (fun f fn hf hfn => by
   obtain rfl : f = 5 := Option.some.inj ((show Tryd.prog.funcNamed "semigroup/semigrouplaw35.MonomialSidesRaw" = some 5 by kernel_rfl).symm.trans hf) |>.symm
   obtain rfl : fn = Tryd.f5 := (Option.some.inj (Tryd.func5.symm.trans hfn)).symm
   exact ⟨by kernel_rfl, fun j t ht => by
    rw [Tryd.params5] at ht
    have hm : t ∈ [32] := by simpa using Array.mem_of_getElem? ht
    have hall : ([32].all fun u => !Tryd.prog.wantsStandIn u) = true := by kernel_rfl
    exact (show Tryd.prog.wantsStandIn t = false by simpa using List.all_eq_true.1 hall t hm)⟩)
  (by kernel_rfl)
end Go.Proofs.YtnffigeofdagfaaDoor.monomialSidesRaw
