/-
  Walk: morph.Factor.
-/
import Derived.Test.YtgghmjnbkbiffaaFacQ
namespace Go.Proofs.Ytgghmjnbkbiffaa
open Go.RowKit
set_option linter.unusedVariables false

noncomputable def facErr (t s : List (List Int)) (f : List Int) : Int := if vErr t ≠ 0 then vErr t else if vErr s ≠ 0 then vErr s else if isHomB t s f = true then 0 else 1
def FacPost (w : World) (t s : List (List Int)) (f : List Int) (e : Ending) (w' : World) : Prop :=
  ∃ vq va vb, e = .returned (.tuple #[vq, va, vb, .int .i64 (facErr t s f)]) ∧ Below w.heap.size w w' ∧ (facErr t s f ≠ 0 → Rows2 w' vq [] ∧ Ints w' va [] ∧ Ints w' vb []) ∧
    (facErr t s f = 0 → Rows2 w' vq (quoL t (canonF f)) ∧ Ints w' va (canonF f) ∧ Ints w' vb (imsL (canonF f) f))
theorem fac_bad {w w' : World} {t s : List (List Int)} {f : List Int} {x : Int} (hb : Below w.heap.size w w') (hx : facErr t s f = x) (h0 : x ≠ 0) : FacPost w t s f (.returned (.tuple #[.slice none 0 0, .slice none 0 0, .slice none 0 0, .int .i64 x])) w' :=
  ⟨_, _, _, by rw [hx], hb, fun _ => ⟨Sl2.nil _, Sl.nil _, Sl.nil _⟩, fun h => absurd (hx.symm.trans h) h0⟩

set_option maxRecDepth 100000 in
set_option maxHeartbeats 1000000 in
theorem factor_any (w : World) (vt vu vf : Value) (t s : List (List Int)) (f : List Int) (ht : Rows2 w vt t) (hs : Rows2 w vu s) (hf : Ints w vf f) :
    Calls Try.prog 52 #[vt, vu, vf] w (FacPost w t s f) := by
  have HT := Lib.hid ht
  have HF := Lib.hid hf
  have H1 := validate_any w vt t ht
  have H2 := (fun W (hb : Below w.heap.size w W) => validate_any W vu s (hs.keep (Keeps.below hb)))
  by_cases v1 : vErr t = 0
  case neg =>
    have g1 : (vErr t != 0) = true := bne_t v1
    have HE : Hid (facErr t s f = vErr t) := by show _ = _; unfold facErr; rw [if_pos v1]
    have HN := Lib.hid v1
    replace H1 := Lib.hid H1
    replace H2 := Lib.hid H2
    clear v1 ht hs hf
    go_enter Try.func52, Try.ntmps52
    go_wp2_with fail
    refine H1.out.mono ?_
    rintro e w1 ⟨rfl, hb⟩
    have HB1 := Lib.hid hb
    clear hb
    go_wp2
    refine bodyPost_ret (results_tmp4 rfl _ _ _) rfl ?_
    exact fac_bad HB1.out HE.out HN.out
  rw [v1] at H1
  by_cases v2 : vErr s = 0
  case neg =>
    have g1 : (vErr s != 0) = true := bne_t v2
    have HE : Hid (facErr t s f = vErr s) := by show _ = _; unfold facErr; rw [if_neg (by simpa using v1), if_pos v2]
    have HN := Lib.hid v2
    replace H1 := Lib.hid H1
    replace H2 := Lib.hid H2
    clear v1 v2 ht hs hf
    go_enter Try.func52, Try.ntmps52
    go_wp2_with fail
    refine H1.out.mono ?_
    rintro e w1 ⟨rfl, hb⟩
    have HB1 := Lib.hid hb
    clear hb
    go_wp2_with fail
    refine (H2.out _ HB1.out).mono ?_
    rintro e w2 ⟨rfl, hb⟩
    have HB2 := Lib.hid (belowThen HB1.out hb)
    clear hb
    go_wp2
    refine bodyPost_ret (results_tmp4 rfl _ _ _) rfl ?_
    exact fac_bad HB2.out HE.out HN.out
  rw [v2] at H2
  have H3 := (fun W (hb : Below w.heap.size w W) => isHom_any W (lnx t) (lnx s) (tabOf t) (tabOf s) vt vu vf f ((Tab.of_rows ht (vErr_inv v1).1).keep (Keeps.below hb)) ((Tab.of_rows hs (vErr_inv v2).1).keep (Keeps.below hb)) (hf.keep (Keeps.below hb)))
  have hhB : isHomB t s f = homL (lnx t) (lnx s) (tabOf t) (tabOf s) f := by unfold isHomB; rw [v1, v2]; rfl
  rw [← hhB] at H3
  cases hom : isHomB t s f with
  | false =>
    have HE : Hid (facErr t s f = 1) := by show _ = _; unfold facErr; rw [if_neg (by simpa using v1), if_neg (by simpa using v2), if_neg (by simp [hom])]
    rw [hom] at H3
    replace H1 := Lib.hid H1
    replace H2 := Lib.hid H2
    replace H3 := Lib.hid H3
    clear v1 v2 ht hs hf hhB hom
    go_enter Try.func52, Try.ntmps52
    go_wp2_with fail
    refine H1.out.mono ?_
    rintro e w1 ⟨rfl, hb⟩
    have HB1 := Lib.hid hb
    clear hb
    go_wp2_with fail
    refine (H2.out _ HB1.out).mono ?_
    rintro e w2 ⟨rfl, hb⟩
    have HB2 := Lib.hid (belowThen HB1.out hb)
    clear hb
    go_wp2_with fail
    refine (H3.out _ HB2.out).mono ?_
    rintro e w3 ⟨rfl, hq⟩
    have HB3 := Lib.hid (belowThen HB2.out (Below.quiet hq))
    clear hq
    go_wp2
    refine bodyPost_ret (results_tmp4 rfl _ _ _) rfl ?_
    exact fac_bad HB3.out HE.out (by decide)
  | true =>
  have HE : Hid (facErr t s f = 0) := by show _ = _; unfold facErr; rw [if_neg (by simpa using v1), if_neg (by simpa using v2), if_pos hom]
  rw [hom] at H3
  have hlf : lnx f = lnx t := by rw [hhB] at hom; exact (homL_inv hom).1
  have h40 := (shape_inv (vErr_inv v1).1).2.1
  have h00 := (shape_inv (vErr_inv v1).1).1
  have hpl : lnx (canonF f) = lnx t := by rw [canonF_len, hlf]
  have H4 := Lib.hid (fun W (hb : Below w.heap.size w W) => canonical_any W vf f (hf.keep (Keeps.below hb)) (by omega))
  have H5 := Lib.hid (fun W vp (hb : Below w.heap.size w W) (hvp : Ints W vp (canonF f)) => quotient_ok W vt vp t (canonF f) (ht.keep (Keeps.below hb)) hvp v1 hpl (canonF_part f) (ker_cong hom))
  have HEQ : Hid (∀ i j, i < lnx f → j < lnx f → (nthx (canonF f) i = nthx (canonF f) j ↔ nthx f i = nthx f j)) := fun i j hi hj => canonF_eq f hi hj
  have HLQ : Hid (lnx (quoL t (canonF f)) = cntV (canonF f) (lnx (canonF f))) := lnx_rowsG _ _ _
  have HIM : Hid (imsL (canonF f) f = listF (fun c => nthx f (rep (canonF f) c)) (cntV (canonF f) (lnx (canonF f)))) := rfl
  have HPT := Lib.hid (canonF_part f)
  have HPL := Lib.hid hpl
  have HLF := Lib.hid hlf
  obtain ⟨fa, fc, rfl, hf1, hf2, hf3⟩ := hf
  obtain ⟨fb, fo, rfl, hfc⟩ := hf3 (by omega)
  have HFC := Lib.hid hfc
  have hcm := cntV_le (canonF f) (lnx (canonF f))
  rw [hpl] at hcm HLQ HIM
  obtain ⟨p, hp⟩ : ∃ p, p = canonF f := ⟨_, rfl⟩
  rw [← hp] at H4 H5 HEQ HLQ HIM HPT HPL hcm
  obtain ⟨m, hm⟩ : ∃ m, m = cntV p (lnx t) := ⟨_, rfl⟩
  rw [← hm] at HLQ HIM hcm
  have HM := Lib.hid hm
  have hmk := fun W => run_mk (P := Try.prog) Try.underlying31 Try.infoInt rfl m (by omega) (by omega) W
  replace H1 := Lib.hid H1
  replace H2 := Lib.hid H2
  replace H3 := Lib.hid H3
  have HPE := Lib.hid hp
  clear v1 v2 ht hs hhB hom hlf hpl hf3 hfc hp hm
  go_enter Try.func52, Try.ntmps52
  go_wp2_with fail
  refine H1.out.mono ?_
  rintro e w1 ⟨rfl, hb⟩
  have HB1 := Lib.hid hb
  clear hb H1
  go_wp2_with fail
  refine (H2.out _ HB1.out).mono ?_
  rintro e w2 ⟨rfl, hb⟩
  have HB2 := Lib.hid (belowThen HB1.out hb)
  clear hb H2 HB1
  go_wp2_with fail
  refine (H3.out _ HB2.out).mono ?_
  rintro e w3 ⟨rfl, hq⟩
  have HB3 := Lib.hid (belowThen HB2.out (Below.quiet hq))
  clear hq H3 HB2
  go_wp2_with fail
  refine (H4.out _ HB3.out).mono ?_
  rintro e w4 ⟨vp, rfl, hvp, hb⟩
  have HB4 := Lib.hid (belowThen HB3.out hb)
  have HVP := Lib.hid hvp
  obtain ⟨pa, pc, rfl, hp1, hp2, hp3⟩ := hvp
  rw [HPL.out] at hp1 hp3 HVP ⊢
  obtain ⟨pb, po, rfl, hpc⟩ := hp3 (by omega)
  clear hb H4 HB3 hp3
  go_wp2_with fail
  refine (H5.out _ _ HB4.out HVP.out).mono ?_
  rintro e w5 ⟨vq, rfl, hvq, hb⟩
  have HB5 := Lib.hid (belowThen HB4.out hb)
  have HVQ := Lib.hid hvq
  have HVP5 := Lib.hid (HVP.out.keep (Keeps.below hb))
  have HPC : Hid (∀ i, i < lnx t → w5.cell? ⟨pb, po + i, none⟩ = some (.int .i64 (nthx p i))) := fun i hi => (Keeps.below hb) _ _ (hpc i hi)
  obtain ⟨qa, qc, rfl, hq1, hq2, -⟩ := hvq
  rw [HLQ.out] at hq1 HVQ ⊢
  clear hb H5 HB4 HVP hpc
  go_wp2
  clear hmk
  go_loopw [49] (fun i wr => ∃ (k : Nat) (F : Nat → Int), k ≤ lnx t ∧ i = .int .i64 k ∧ RowAt wr w5.heap.size m F ∧ Below w5.heap.size w5 wr ∧ ∀ x, x < k → F (nat_ p x) = nthx f x) (fun i _ => lnx t - (intOf i).toNat)
  case atStart => exact ⟨0, fun _ => 0, by omega, rfl, RowAt.of_arr (Arr.zeros _ _ _ _), (Below.refl _ _).alloc (Nat.le_refl _) _, fun x hx => by omega⟩
  case round =>
    obtain ⟨k, F, hk, rfl, hA, hb, hdone⟩ := hrel
    by_cases hlt : k < lnx t
    · have d1 := (Keeps.below hb) _ _ (HPC.out k hlt)
      have d2 := (Keeps.below hb) _ _ ((Keeps.below HB5.out) _ _ (HFC.out k (by rw [HLF.out]; exact hlt)))
      have q2 := (HPT.out.lt (k := k) (by rw [HPL.out]; exact hlt)).2
      have q3 := HPT.out.ltn (k := k) (by rw [HPL.out]; exact hlt)
      rw [HPL.out, ← HM.out] at q3
      obtain ⟨c, hc⟩ : ∃ c, c = nat_ p k := ⟨_, rfl⟩
      rw [← hc] at q2 q3
      rw [← q2] at d1
      have hkf : k < lnx f := by rw [HLF.out]; exact hlt
      have d3 := hA.cell q3
      have f3 := hA.frozen c
      have P1 : Hid (RowAt (wr.setCell ⟨w5.heap.size, c, none⟩ (.int .i64 (nthx f k))) w5.heap.size m (upd F c (nthx f k)) ∧ Below w5.heap.size w5 (wr.setCell ⟨w5.heap.size, c, none⟩ (.int .i64 (nthx f k))) ∧ ∀ x, x < k + 1 → upd F c (nthx f k) (nat_ p x) = nthx f x) := by
        refine ⟨hA.set_ c _, hb.setCell (p := ⟨w5.heap.size, c, none⟩) (Nat.le_refl _) _, fun x hx => ?_⟩
        by_cases e : nat_ p x = c
        · rw [e, upd_same]
          refine (HEQ.out k x hkf (by rw [HLF.out]; omega)).1 ?_
          have q4 := (HPT.out.lt (k := x) (by rw [HPL.out]; omega)).2
          rw [← q2, ← q4, e]
        · rw [upd_other F _ e]
          refine hdone x ?_
          by_cases e2 : x = k
          · exact absurd (by rw [e2, hc]) e
          · omega
      clear hA hb hdone hc q2
      go_wp2
      go_roundw
      case rel => exact ⟨k + 1, _, by omega, by go_num, P1.out⟩
      case measure => simp [intOf]; omega
    · obtain rfl : k = lnx t := by omega
      have P1 : Hid (FacPost w t s f (.returned (.tuple #[.slice qa m qc, .slice (some ⟨pb, po, none⟩) (lnx t) pc, .slice (some ⟨w5.heap.size, 0, none⟩) m m, .int .i64 0])) wr) := by
        refine ⟨_, _, _, by rw [HE.out], belowThen HB5.out hb, fun h => absurd HE.out h, fun _ => ?_⟩
        rw [← HPE.out]
        refine ⟨HVQ.out.keep (Keeps.below hb), HVP5.out.keep (Keeps.below hb), ?_⟩
        rw [HIM.out]
        refine (hA.congr (fun c hc => ?_)).ints (Nat.le_refl _) (by omega)
        rw [HM.out, ← HPL.out] at hc
        have r := rep_spec hc
        have := hdone (rep p c) (by rw [← HPL.out]; exact r.1)
        rw [rep_nat hc] at this
        exact this
      clear hA hb hdone
      go_wp2
      refine bodyPost_ret (results_tmp4 rfl _ _ _) rfl ?_
      exact P1.out
end Go.Proofs.Ytgghmjnbkbiffaa
