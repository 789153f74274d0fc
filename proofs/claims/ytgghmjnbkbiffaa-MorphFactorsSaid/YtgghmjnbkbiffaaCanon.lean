/-
  The walks of canonical, Canonical, Kernel (of the program and of the reference).
-/
import Derived.Test.YtgghmjnbkbiffaaMapI
import Derived.Test.YtgghmjnbkbiffaaHom
namespace Go.Proofs.Ytgghmjnbkbiffaa
open Go.RowKit
set_option linter.unusedVariables false

def CanPost (w : World) (xs : List Int) (e : Ending) (w' : World) : Prop := ∃ v, e = .returned v ∧ Ints w' v xs ∧ Below w.heap.size w w'

set_option maxRecDepth 100000 in
set_option maxHeartbeats 1000000 in
theorem canon_inner (w : World) (v : Value) (xs : List Int) (hv : Ints w v xs) (hl : lnx xs ≤ 4096) :
    Calls Try.prog 94 #[v] w (CanPost w (canonF xs)) := by
  obtain ⟨a, cap, rfl, hcap, hmx, hv⟩ := hv
  have HV := Lib.hid hv
  have hmk := fun W => run_mk (P := Try.prog) Try.underlying31 Try.infoInt rfl (lnx xs) (by omega) (by omega) W
  have hmm := @run_makeMap Try.prog
  clear hv
  go_enter Try.func94, Try.ntmps94
  go_wp2
  clear hmk hmm
  go_loopw [15] (fun i wr => ∃ k : Nat, k ≤ lnx xs ∧ i = .int .i64 k ∧ CanSt w 3 w.heap.size xs k wr) (fun i _ => lnx xs - (intOf i).toNat)
  case atStart => exact ⟨0, by omega, rfl, CanSt.start _ _ _⟩
  case round =>
    obtain ⟨k, hk, rfl, hst⟩ := hrel
    have HS := Lib.hid hst
    obtain ⟨hA, hM, hB⟩ := hst
    have hsz := hA.lt
    obtain ⟨l1, l2⟩ := canAt_len xs k hk
    by_cases hlt : k < lnx xs
    · obtain ⟨b, o, rfl, hc⟩ := HV.out (by omega)
      have hck := (Keeps.below hB) _ _ (hc k hlt)
      clear hc
      have c1 := hA.cell hlt
      have c2 := hA.frozen k
      cases ha : assocI (canAt xs k).1 (nthx xs k) with
      | some c =>
        have P1 := Lib.hid (HS.out.hit (Nat.le_refl _) hlt ha)
        have HA := Lib.hid ha
        clear hA hB ha
        go_wp2_with (at_lookup; refine wpList_hitI rfl _ _ 59 rfl Try.underlying59 Try.underlying3 Try.infoInt (w.heap.size + 1) _ _ c rfl rfl hM HA.out ?_)
        go_roundw
        case rel => exact ⟨k + 1, by omega, by go_num, P1.out⟩
        case measure => simp [intOf]; omega
      | none =>
        have HA := Lib.hid ha
        have HAR := Lib.hid hA
        clear hA hB ha c1 c2
        go_wp2_with (first | (at_lookup; refine wpList_missI rfl _ _ 59 rfl Try.underlying59 Try.underlying3 Try.infoInt (w.heap.size + 1) _ _ rfl rfl hM HA.out ?_) | (at_len; refine wpList_lenI rfl _ 59 rfl Try.underlying59 (w.heap.size + 1) _ rfl hM ?_) | (at_mapUpdate; refine wpList_updateI rfl _ _ _ 59 rfl Try.underlying59 Try.underlying3 (w.heap.size + 1) _ _ _ rfl rfl rfl hM HA.out ?_))
        intro w2 hm2 ho2
        have P1 := Lib.hid (HS.out.miss (Nat.le_refl _) hlt HA.out hm2 ho2)
        have hA2 := HAR.out.only ho2 (by omega)
        have hsz2 := hA2.lt
        have c1 := hA2.cell hlt
        have c2 := hA2.frozen k
        clear hA2 HAR hm2 ho2
        go_wp2
        go_roundw
        case rel => exact ⟨k + 1, by omega, by go_num, P1.out⟩
        case measure => simp [intOf]; omega
    · have P1 : Hid (CanPost w (canonF xs) (.returned (.slice (some ⟨w.heap.size, 0, none⟩) (lnx xs) (lnx xs))) wr) := by
        refine ⟨_, rfl, Arr.ints (E := 3) _ (canonF_len xs).symm (by omega) ?_, hB⟩
        have : k = lnx xs := by omega
        subst this
        exact hA
      clear hA hB HS hM
      go_wp2
      go_ret
      exact P1.out

set_option maxRecDepth 100000 in
set_option maxHeartbeats 1000000 in
theorem canonical_any (w : World) (v : Value) (xs : List Int) (hv : Ints w v xs) (hl : lnx xs ≤ 4096) :
    Calls Try.prog 68 #[v] w (CanPost w (canonF xs)) := by
  have H1 := Lib.hid (canon_inner w v xs hv hl)
  obtain ⟨a, cap, rfl, hcap, hmx, hv⟩ := hv
  clear hv
  go_enter Try.func68, Try.ntmps68
  go_wp2_with fail
  refine H1.out.mono ?_
  rintro e w1 ⟨u, rfl, h⟩
  have P1 := Lib.hid h
  clear h
  go_wp2
  go_ret
  exact ⟨_, rfl, P1.out⟩

set_option maxRecDepth 100000 in
set_option maxHeartbeats 1000000 in
theorem refCanonical_any (w : World) (v : Value) (xs : List Int) (hv : Ints w v xs) (hl : lnx xs ≤ 4096) :
    Calls Try.prog 71 #[v] w (CanPost w (canonF xs)) := by
  obtain ⟨a, cap, rfl, hcap, hmx, hv⟩ := hv
  have HV := Lib.hid hv
  have hmk := fun W => run_mk (P := Try.prog) Try.underlying31 Try.infoInt rfl (lnx xs) (by omega) (by omega) W
  have hmm := @run_makeMap Try.prog
  clear hv
  go_enter Try.func71, Try.ntmps71
  go_wp2
  clear hmk hmm
  go_loopw [4, 19] (fun nx i wr => ∃ k : Nat, k ≤ lnx xs ∧ i = .int .i64 k ∧ nx = .int .i64 (lnx (canAt xs k).1 : Nat) ∧ CanSt w 3 w.heap.size xs k wr) (fun _ i _ => lnx xs - (intOf i).toNat)
  case atStart => exact ⟨0, by omega, rfl, rfl, CanSt.start _ _ _⟩
  case round =>
    obtain ⟨k, hk, rfl, rfl, hst⟩ := hrel
    have HS := Lib.hid hst
    obtain ⟨hA, hM, hB⟩ := hst
    have hsz := hA.lt
    obtain ⟨l1, l2⟩ := canAt_len xs k hk
    by_cases hlt : k < lnx xs
    · obtain ⟨b, o, rfl, hc⟩ := HV.out (by omega)
      have hck := (Keeps.below hB) _ _ (hc k hlt)
      clear hc
      have c1 := hA.cell hlt
      have c2 := hA.frozen k
      cases ha : assocI (canAt xs k).1 (nthx xs k) with
      | some c =>
        have P1 := Lib.hid (HS.out.hit (Nat.le_refl _) hlt ha)
        have HA := Lib.hid ha
        have E1 := Lib.hid (canAt_hit xs hlt ha).1
        clear hA hB ha
        go_wp2_with (at_lookup; refine wpList_hitI rfl _ _ 59 rfl Try.underlying59 Try.underlying3 Try.infoInt (w.heap.size + 1) _ _ c rfl rfl hM HA.out ?_)
        go_roundw
        case rel => exact ⟨k + 1, by omega, by go_num, by rw [E1.out], P1.out⟩
        case measure => simp [intOf]; omega
      | none =>
        have HA := Lib.hid ha
        have HAR := Lib.hid hA
        have E1 : Hid (lnx (canAt xs (k + 1)).1 = lnx (canAt xs k).1 + 1) := by
          show _ = _
          rw [(canAt_miss xs hlt ha).1, lnx_append, lnx_one]
        clear hA hB ha c1 c2
        go_wp2_with (first | (at_lookup; refine wpList_missI rfl _ _ 59 rfl Try.underlying59 Try.underlying3 Try.infoInt (w.heap.size + 1) _ _ rfl rfl hM HA.out ?_) | (at_mapUpdate; refine wpList_updateI rfl _ _ _ 59 rfl Try.underlying59 Try.underlying3 (w.heap.size + 1) _ _ _ rfl rfl rfl hM HA.out ?_))
        intro w2 hm2 ho2
        have P1 := Lib.hid (HS.out.miss (Nat.le_refl _) hlt HA.out hm2 ho2)
        have hA2 := HAR.out.only ho2 (by omega)
        have hsz2 := hA2.lt
        have c1 := hA2.cell hlt
        have c2 := hA2.frozen k
        clear hA2 HAR hm2 ho2
        go_wp2
        go_roundw
        case rel => exact ⟨k + 1, by omega, by go_num, by rw [E1.out]; go_num, P1.out⟩
        case measure => simp [intOf]; omega
    · have P1 : Hid (CanPost w (canonF xs) (.returned (.slice (some ⟨w.heap.size, 0, none⟩) (lnx xs) (lnx xs))) wr) := by
        refine ⟨_, rfl, Arr.ints (E := 3) _ (canonF_len xs).symm (by omega) ?_, hB⟩
        have : k = lnx xs := by omega
        subst this
        exact hA
      clear hA hB HS hM
      go_wp2
      go_ret
      exact P1.out

set_option maxRecDepth 100000 in
set_option maxHeartbeats 1000000 in
theorem refKernel_any (w : World) (v : Value) (xs : List Int) (hv : Ints w v xs) (hl : lnx xs ≤ 4096) :
    Calls Try.prog 36 #[v] w (CanPost w (canonF xs)) := by
  have H1 := Lib.hid (refCanonical_any w v xs hv hl)
  obtain ⟨a, cap, rfl, hcap, hmx, hv⟩ := hv
  clear hv
  go_enter Try.func36, Try.ntmps36
  go_wp2_with fail
  refine H1.out.mono ?_
  rintro e w1 ⟨u, rfl, h⟩
  have P1 := Lib.hid h
  clear h
  go_wp2
  go_ret
  exact ⟨_, rfl, P1.out⟩

noncomputable def kerRes (t s : List (List Int)) (f : List Int) : List Int := if isHomB t s f = true then canonF f else []

set_option maxRecDepth 100000 in
set_option maxHeartbeats 1000000 in
theorem kernel_any (w : World) (vt vu vf : Value) (t s : List (List Int)) (f : List Int) (ht : Rows2 w vt t) (hs : Rows2 w vu s) (hf : Ints w vf f) :
    Calls Try.prog 33 #[vt, vu, vf] w (CanPost w (kerRes t s f)) := by
  have H1 := Lib.hid (isHomProg_any w vt vu vf t s f ht hs hf)
  have HF := Lib.hid hf
  obtain ⟨a, cap, rfl, h1, h2, -⟩ := ht
  obtain ⟨a', cap', rfl, h1', h2', -⟩ := hs
  cases hh : isHomB t s f with
  | false =>
    have HV : Hid (kerRes t s f = []) := by show _ = _; unfold kerRes; rw [hh]; simp
    rw [hh] at H1
    clear hh
    go_enter Try.func33, Try.ntmps33
    go_wp2_with fail
    refine H1.out.mono ?_
    rintro e w1 ⟨rfl, hb⟩
    have HB := Lib.hid hb
    clear hb
    go_wp2
    go_ret
    rw [HV.out]
    exact ⟨_, rfl, Sl.nil _, HB.out⟩
  | true =>
    have HV : Hid (kerRes t s f = canonF f) := by show _ = _; unfold kerRes; rw [hh]; simp
    rw [hh] at H1
    have hl : lnx f ≤ 4096 := by
      unfold isHomB at hh
      simp at hh
      have e1 := (homL_inv hh.2).1
      have e2 := (shape_inv (vErr_inv hh.1.1).1).2.1
      omega
    clear hh
    go_enter Try.func33, Try.ntmps33
    go_wp2_with fail
    refine H1.out.mono ?_
    rintro e w1 ⟨rfl, hb⟩
    have HB := Lib.hid hb
    have H2 := Lib.hid (canonical_any w1 vf f (HF.out.keep (Keeps.below hb)) hl)
    clear hb H1
    go_wp2_with fail
    refine H2.out.mono ?_
    rintro e w2 ⟨u, rfl, hu, hb2⟩
    have P1 : Hid (CanPost w (kerRes t s f) (.returned u) w2) := ⟨_, rfl, by rw [HV.out]; exact hu, belowThen HB.out hb2⟩
    clear hu hb2
    go_wp2
    go_ret
    exact P1.out
end Go.Proofs.Ytgghmjnbkbiffaa
