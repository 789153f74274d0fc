/-
  The walk of the law MorphFactors.
-/
import Derived.Test.YtgghmjnbkbiffaaFacF
import Derived.Test.YtgghmjnbkbiffaaRec
import Derived.Test.YtgghmjnbkbiffaaAwake
namespace Go.Proofs.Ytgghmjnbkbiffaa
open Go.RowKit
set_option linter.unusedVariables false

set_option maxRecDepth 100000 in
set_option maxHeartbeats 2000000 in
theorem factors_walk (w : World) (vt vu vf : Value) (t s : List (List Int)) (f : List Int) (ht : Rows2 w vt t) (hs : Rows2 w vu s) (hf : Ints w vf f) :
    Calls Try.prog 16 #[vt, vu, vf] w fun e w' => e = .returned (.bool true) ∧ Below w.heap.size w w' := by
  have HT := Lib.hid ht
  have HS := Lib.hid hs
  have HF := Lib.hid hf
  have L1 := Lib.hid (large_any w vt t ht 14 (by omega))
  have L2 := Lib.hid (large_any w vu s hs 14 (by omega))
  have HA := Lib.hid awake_any
  obtain ⟨a, cap, rfl, h1, h2, -⟩ := ht
  obtain ⟨a', cap', rfl, h1', h2', -⟩ := hs
  obtain ⟨fa, fc, rfl, hf1, hf2, hf3⟩ := hf
  cases hs1 : largeB t 14 with
  | true =>
    rw [hs1] at L1
    clear hs1 hf3
    go_enter Try.func16, Try.ntmps16
    go_wp2_with fail
    refine L1.out.mono ?_
    rintro e w1 ⟨rfl, rfl⟩
    go_wp2_with fail
    refine (HA.out _).mono ?_
    rintro e w2 ⟨rfl, hb⟩
    have HB := Lib.hid hb
    clear hb
    go_wp2
    go_ret
    exact ⟨rfl, HB.out⟩
  | false =>
  rw [hs1] at L1
  cases hs2 : largeB s 14 with
  | true =>
    rw [hs2] at L2
    clear hs1 hs2 hf3
    go_enter Try.func16, Try.ntmps16
    go_wp2_with fail
    refine L1.out.mono ?_
    rintro e w1 ⟨rfl, rfl⟩
    go_wp2_with fail
    refine L2.out.mono ?_
    rintro e w1 ⟨rfl, rfl⟩
    go_wp2_with fail
    refine (HA.out _).mono ?_
    rintro e w2 ⟨rfl, hb⟩
    have HB := Lib.hid hb
    clear hb
    go_wp2
    go_ret
    exact ⟨rfl, HB.out⟩
  | false =>
  rw [hs2] at L2
  clear hs1 hs2
  have H1 := Lib.hid (factor_any w _ _ _ t s f HT.out HS.out HF.out)
  have H2 := (fun W (hb : Below w.heap.size w W) => validateRef_any W _ t (HT.out.keep (Keeps.below hb)))
  have H3 := (fun W (hb : Below w.heap.size w W) => validateRef_any W _ s (HS.out.keep (Keeps.below hb)))
  have H4 := (fun W (hb : Below w.heap.size w W) => refIsHom_any W _ _ _ t s f (HT.out.keep (Keeps.below hb)) (HS.out.keep (Keeps.below hb)) (HF.out.keep (Keeps.below hb)))
  by_cases v1 : vErr t = 0
  case neg =>
    have hE : facErr t s f = vErr t := by unfold facErr; rw [if_pos v1]
    have HN := Lib.hid v1
    have g1 : (vErr t == 0) = false := beq_f v1
    have g2 : (vErr t != 0) = true := bne_t v1
    have g3 : (vErr t == vErr t) = true := beq_t rfl
    replace H2 := Lib.hid H2
    replace H3 := Lib.hid H3
    replace H4 := Lib.hid H4
    unfold FacPost at H1
    rw [hE] at H1
    clear v1 hE hf3
    go_enter Try.func16, Try.ntmps16
    go_wp2_with fail
    refine L1.out.mono ?_
    rintro e w1 ⟨rfl, rfl⟩
    go_wp2_with fail
    refine L2.out.mono ?_
    rintro e w1 ⟨rfl, rfl⟩
    go_wp2_with fail
    refine H1.out.mono ?_
    rintro e w1 ⟨vq, va, vb, rfl, hb, hbad, -⟩
    obtain ⟨⟨qa, qc, rfl, -, -, -⟩, ⟨aa, ac, rfl, -, -, -⟩, ⟨ba, bc, rfl, -, -, -⟩⟩ := hbad HN.out
    have HB1 := Lib.hid hb
    clear hb hbad
    go_wp2_with fail
    refine (H2.out _ HB1.out).mono ?_
    rintro e w2 ⟨rfl, hq⟩
    have HB2 := Lib.hid (belowThen HB1.out (Below.quiet hq))
    clear hq
    simp only [lnx_nil]
    go_wp2_with fail
    refine (HA.out _).mono ?_
    rintro e w3 ⟨rfl, hb⟩
    have HB3 := Lib.hid (belowThen HB2.out hb)
    clear hb
    go_wp2
    go_ret
    exact ⟨rfl, HB3.out⟩
  rw [v1] at H2
  by_cases v2 : vErr s = 0
  case neg =>
    have hE : facErr t s f = vErr s := by unfold facErr; rw [if_neg (by simpa using v1), if_pos v2]
    have HN := Lib.hid v2
    have g1 : (vErr s == 0) = false := beq_f v2
    have g2 : (vErr s != 0) = true := bne_t v2
    have g3 : (vErr s == vErr s) = true := beq_t rfl
    replace H2 := Lib.hid H2
    replace H3 := Lib.hid H3
    replace H4 := Lib.hid H4
    unfold FacPost at H1
    rw [hE] at H1
    clear v1 v2 hE hf3
    go_enter Try.func16, Try.ntmps16
    go_wp2_with fail
    refine L1.out.mono ?_
    rintro e w1 ⟨rfl, rfl⟩
    go_wp2_with fail
    refine L2.out.mono ?_
    rintro e w1 ⟨rfl, rfl⟩
    go_wp2_with fail
    refine H1.out.mono ?_
    rintro e w1 ⟨vq, va, vb, rfl, hb, hbad, -⟩
    obtain ⟨⟨qa, qc, rfl, -, -, -⟩, ⟨aa, ac, rfl, -, -, -⟩, ⟨ba, bc, rfl, -, -, -⟩⟩ := hbad HN.out
    have HB1 := Lib.hid hb
    clear hb hbad
    go_wp2_with fail
    refine (H2.out _ HB1.out).mono ?_
    rintro e w2 ⟨rfl, hq⟩
    have HB2 := Lib.hid (belowThen HB1.out (Below.quiet hq))
    clear hq
    go_wp2_with fail
    refine (H3.out _ HB2.out).mono ?_
    rintro e w3 ⟨rfl, hq⟩
    have HB3 := Lib.hid (belowThen HB2.out (Below.quiet hq))
    clear hq
    simp only [lnx_nil]
    go_wp2_with fail
    refine (HA.out _).mono ?_
    rintro e w4 ⟨rfl, hb⟩
    have HB4 := Lib.hid (belowThen HB3.out hb)
    clear hb
    go_wp2
    go_ret
    exact ⟨rfl, HB4.out⟩
  rw [v2] at H3
  cases hom : isHomB t s f with
  | false =>
    have hE : facErr t s f = 1 := by unfold facErr; rw [if_neg (by simpa using v1), if_neg (by simpa using v2), if_neg (by simp [hom])]
    rw [hom] at H4
    replace H2 := Lib.hid H2
    replace H3 := Lib.hid H3
    replace H4 := Lib.hid H4
    unfold FacPost at H1
    rw [hE] at H1
    clear v1 v2 hE hf3 hom
    go_enter Try.func16, Try.ntmps16
    go_wp2_with fail
    refine L1.out.mono ?_
    rintro e w1 ⟨rfl, rfl⟩
    go_wp2_with fail
    refine L2.out.mono ?_
    rintro e w1 ⟨rfl, rfl⟩
    go_wp2_with fail
    refine H1.out.mono ?_
    rintro e w1 ⟨vq, va, vb, rfl, hb, hbad, -⟩
    obtain ⟨⟨qa, qc, rfl, -, -, -⟩, ⟨aa, ac, rfl, -, -, -⟩, ⟨ba, bc, rfl, -, -, -⟩⟩ := hbad (by decide)
    have HB1 := Lib.hid hb
    clear hb hbad
    go_wp2_with fail
    refine (H2.out _ HB1.out).mono ?_
    rintro e w2 ⟨rfl, hq⟩
    have HB2 := Lib.hid (belowThen HB1.out (Below.quiet hq))
    clear hq
    go_wp2_with fail
    refine (H3.out _ HB2.out).mono ?_
    rintro e w3 ⟨rfl, hq⟩
    have HB3 := Lib.hid (belowThen HB2.out (Below.quiet hq))
    clear hq
    go_wp2_with fail
    refine (H4.out _ HB3.out).mono ?_
    rintro e w3 ⟨rfl, hq⟩
    have HB5 := Lib.hid (belowThen HB3.out (Below.quiet hq))
    clear hq
    simp only [lnx_nil]
    go_wp2_with fail
    refine (HA.out _).mono ?_
    rintro e w4 ⟨rfl, hb⟩
    have HB4 := Lib.hid (belowThen HB5.out hb)
    clear hb
    go_wp2
    go_ret
    exact ⟨rfl, HB4.out⟩
  | true =>
  have hE : facErr t s f = 0 := by unfold facErr; rw [if_neg (by simpa using v1), if_neg (by simpa using v2), if_pos hom]
  rw [hom] at H4
  have hlf : lnx f = lnx t := by
    unfold isHomB at hom
    simp only [Bool.and_eq_true, beq_iff_eq] at hom
    exact (homL_inv hom.2).1
  have h00 := (shape_inv (vErr_inv v1).1).1
  have hpl : lnx (canonF f) = lnx t := by rw [canonF_len, hlf]
  have hcg := ker_cong hom
  have hpt := canonF_part f
  have H5 := (fun W (hb : Below w.heap.size w W) => kernel_any W _ _ _ t s f (HT.out.keep (Keeps.below hb)) (HS.out.keep (Keeps.below hb)) (HF.out.keep (Keeps.below hb)))
  rw [show kerRes t s f = canonF f by unfold kerRes; rw [if_pos hom]] at H5
  have H6 := Lib.hid (fun W vp (hb : Below w.heap.size w W) (hvp : Ints W vp (canonF f)) => quotient_ok W _ vp t (canonF f) (HT.out.keep (Keeps.below hb)) hvp v1 hpl hpt hcg)
  have H7 := Lib.hid (fun W vp (hb : Below w.heap.size w W) (hvp : Ints W vp (canonF f)) => isCong_ok W _ vp t (canonF f) (HT.out.keep (Keeps.below hb)) hvp v1 hpl hpt hcg)
  have H8 := (fun W vq vp (hb : Below w.heap.size w W) (hvq : Rows2 W vq (quoL t (canonF f))) (hvp : Ints W vp (canonF f)) => isHomProg_any W _ vq vp t (quoL t (canonF f)) (canonF f) (HT.out.keep (Keeps.below hb)) hvq hvp)
  rw [quo_hom hpt hpl hcg v1] at H8
  have H9 := (fun W vq vb (hb : Below w.heap.size w W) (hvq : Rows2 W vq (quoL t (canonF f))) (hvb : Ints W vb (imsL (canonF f) f)) => isHomProg_any W vq _ vb (quoL t (canonF f)) s (imsL (canonF f) f) hvq (HS.out.keep (Keeps.below hb)) hvb)
  rw [(ims_hom hom).1] at H9
  have H10 := Lib.hid (fun W vq vb (hb : Below w.heap.size w W) (hvq : Rows2 W vq (quoL t (canonF f))) (hvb : Ints W vb (imsL (canonF f) f)) => image_any W vq _ vb (quoL t (canonF f)) s (imsL (canonF f) f) hvq (HS.out.keep (Keeps.below hb)) hvb)
  have HLI := Lib.hid (ims_hom hom).2
  have HAT : Hid (∀ x, x < lnx t → nat_ (canonF f) x < lnx (imsL (canonF f) f) ∧ nthx (imsL (canonF f) f) (nat_ (canonF f) x) = nthx f x) := fun x hx => by
    refine ⟨?_, ims_at (canonF_len f) hpt (fun i j hi hj => canonF_eq f hi hj) (by omega)⟩
    unfold imsL
    rw [lnx_listF]
    exact hpt.ltn (by omega)
  have HPT := Lib.hid hpt
  have HPL := Lib.hid hpl
  have HLF := Lib.hid hlf
  obtain ⟨fb, fo, rfl, hfc⟩ := hf3 (by omega)
  have HFC := Lib.hid hfc
  unfold FacPost at H1
  rw [hE] at H1
  have h0i : 0 < lnx (imsL (canonF f) f) := by have := (HAT.out 0 h00).1; omega
  obtain ⟨p, hp⟩ : ∃ p, p = canonF f := ⟨_, rfl⟩
  rw [← hp] at H1 H5 H6 H7 H8 H9 H10 HLI HAT HPT HPL h0i
  obtain ⟨q, hq⟩ : ∃ q, q = quoL t p := ⟨_, rfl⟩
  rw [← hq] at H1 H6 H8 H9 H10 HLI
  obtain ⟨bi, hbi⟩ : ∃ bi, bi = imsL p f := ⟨_, rfl⟩
  rw [← hbi] at H1 H9 H10 HLI HAT h0i
  replace H2 := Lib.hid H2
  replace H3 := Lib.hid H3
  replace H4 := Lib.hid H4
  replace H5 := Lib.hid H5
  replace H8 := Lib.hid H8
  replace H9 := Lib.hid H9
  clear v1 v2 hE hf3 hom hlf hpl hcg hpt hfc hp hq hbi
  go_enter Try.func16, Try.ntmps16
  go_wp2_with fail
  refine L1.out.mono ?_
  rintro e w1 ⟨rfl, rfl⟩
  go_wp2_with fail
  refine L2.out.mono ?_
  rintro e w1 ⟨rfl, rfl⟩
  go_wp2_with fail
  refine H1.out.mono ?_
  rintro e w1 ⟨vq, va, vb, rfl, hb, -, hok⟩
  obtain ⟨hvq, hva, hvb⟩ := hok (by trivial)
  have HB1 := Lib.hid hb
  have HVQ := Lib.hid hvq
  have HVA := Lib.hid hva
  have HVB := Lib.hid hvb
  clear hb hok hvq hva hvb L1 L2 H1
  go_wp2_with fail
  refine (H2.out _ HB1.out).mono ?_
  rintro e w2 ⟨rfl, hq⟩
  have hk2 := Below.quiet hq
  have HB2 := Lib.hid (belowThen HB1.out hk2)
  have HK2 := Lib.hid hk2
  clear hq H2 hk2
  go_wp2_with fail
  refine (H3.out _ HB2.out).mono ?_
  rintro e w3 ⟨rfl, hq⟩
  have HB3 := Lib.hid (belowThen HB2.out (Below.quiet hq))
  have HK3 := Lib.hid (belowThen HK2.out (Below.quiet hq))
  clear hq H3 HB2 HK2
  go_wp2_with fail
  refine (H4.out _ HB3.out).mono ?_
  rintro e w4 ⟨rfl, hq⟩
  have HB4 := Lib.hid (belowThen HB3.out (Below.quiet hq))
  have HK4 := Lib.hid (belowThen HK3.out (Below.quiet hq))
  clear hq H4 HB3 HK3
  go_wp2_with fail
  refine (H5.out _ HB4.out).mono ?_
  rintro e w5 ⟨vk, rfl, hvk, hb⟩
  have HB5 := Lib.hid (belowThen HB4.out hb)
  have HK5 := Lib.hid (belowThen HK4.out hb)
  have HVK := Lib.hid hvk
  clear hb H5 HB4 HK4 hvk
  go_wp2_with fail
  refine (H6.out _ _ HB5.out HVK.out).mono ?_
  rintro e w6 ⟨vw, rfl, hvw, hb⟩
  have HB6 := Lib.hid (belowThen HB5.out hb)
  have HK6 := Lib.hid (belowThen HK5.out hb)
  have HVK6 := Lib.hid (HVK.out.keep (Keeps.below hb))
  have HVW := Lib.hid hvw
  clear hb H6 HB5 HK5 hvw HVK
  go_wp2_with fail
  refine (H7.out _ _ HB6.out HVK6.out).mono ?_
  rintro e w7 ⟨rfl, hb⟩
  have HB7 := Lib.hid (belowThen HB6.out hb)
  have HK7 := Lib.hid (belowThen HK6.out hb)
  have HVK7 := Lib.hid (HVK6.out.keep (Keeps.below hb))
  have H11 := sameRows_any w7 vq vw q q (HVQ.out.keep (Keeps.below HK7.out)) (HVW.out.keep (Keeps.below hb))
  rw [sameRowsB_t rfl] at H11
  replace H11 := Lib.hid H11
  clear hb H7 HB6 HK6 HVK6 HVW
  go_wp2_with fail
  refine H11.out.mono ?_
  rintro e w8 ⟨rfl, hq⟩
  have hb := Below.quiet hq
  have HB8 := Lib.hid (belowThen HB7.out hb)
  have HK8 := Lib.hid (belowThen HK7.out hb)
  have H12 := same_any w8 va vk p p (HVA.out.keep (Keeps.below HK8.out)) (HVK7.out.keep (Keeps.below hb))
  rw [sameB_t rfl] at H12
  replace H12 := Lib.hid H12
  clear hb hq H11 HB7 HK7 HVK7
  go_wp2_with fail
  refine H12.out.mono ?_
  rintro e w9 ⟨rfl, hq⟩
  have hb := Below.quiet hq
  have HB9 := Lib.hid (belowThen HB8.out hb)
  have HK9 := Lib.hid (belowThen HK8.out hb)
  clear hb hq H12 HB8 HK8
  go_wp2_with fail
  refine (H8.out _ _ _ HB9.out (HVQ.out.keep (Keeps.below HK9.out)) (HVA.out.keep (Keeps.below HK9.out))).mono ?_
  rintro e w10 ⟨rfl, hb⟩
  have HB10 := Lib.hid (belowThen HB9.out hb)
  have HK10 := Lib.hid (belowThen HK9.out hb)
  clear hb H8 HB9 HK9
  go_wp2_with fail
  refine (H9.out _ _ _ HB10.out (HVQ.out.keep (Keeps.below HK10.out)) (HVB.out.keep (Keeps.below HK10.out))).mono ?_
  rintro e w11 ⟨rfl, hb⟩
  have HB11 := Lib.hid (belowThen HB10.out hb)
  have HK11 := Lib.hid (belowThen HK10.out hb)
  clear hb H9 HB10 HK10
  have H10' := Lib.hid (H10.out _ _ _ HB11.out (HVQ.out.keep (Keeps.below HK11.out)) (HVB.out.keep (Keeps.below HK11.out)))
  obtain ⟨qa, qc, rfl, hqa1, hqa2, -⟩ := HVQ.out
  obtain ⟨aa, ac, rfl, haa1, haa2, haa3⟩ := HVA.out
  obtain ⟨ba, bc, rfl, hba1, hba2, hba3⟩ := HVB.out
  rw [HPL.out] at haa1 haa3 ⊢
  obtain ⟨ab, ao, rfl, hac⟩ := haa3 h00
  obtain ⟨bb, bo, rfl, hbc⟩ := hba3 h0i
  have HAC := Lib.hid hac
  have HBC := Lib.hid hbc
  clear haa3 hba3 hac hbc HVQ HVA HVB H10
  go_wp2_with fail
  refine H10'.out.mono ?_
  rintro e w12 ⟨vi, rfl, hvi, hb⟩
  obtain ⟨ia, ic, rfl, -, -, -⟩ := hvi
  have HB12 := Lib.hid (belowThen HB11.out hb)
  have HK12 := Lib.hid (belowThen HK11.out hb)
  have g1 : ((lnx (imgRes q s bi) : Int) != (lnx q : Int)) = false := bne_f (by rw [HLI.out])
  clear hb H10' HB11 HK11
  go_wp2
  go_loopw [130] (fun i wz => ∃ (k r : Nat), k ≤ lnx t ∧ i = .int .i64 k ∧ wz = w12.drewN r) (fun i _ => lnx t - (intOf i).toNat)
  case atStart => exact ⟨0, 0, by omega, rfl, rfl⟩
  case round =>
    obtain ⟨k, r, hk, rfl, rfl⟩ := hrel
    by_cases hlt : k < lnx t
    · have d1 := (Keeps.below HK12.out) _ _ (HAC.out k hlt)
      obtain ⟨hn1, hn2⟩ := HAT.out k hlt
      have q2 := (HPT.out.lt (k := k) (by rw [HPL.out]; exact hlt)).2
      have d2 := (Keeps.below HK12.out) _ _ (HBC.out _ hn1)
      rw [hn2] at d2
      have d3 := (Keeps.below HB12.out) _ _ (HFC.out k (by rw [HLF.out]; exact hlt))
      rw [← q2] at d1
      have hkf : k < lnx f := by rw [HLF.out]; exact hlt
      have g2 : (nthx f k != nthx f k) = false := bne_f rfl
      clear q2 hn2
      go_wp2
      go_quiet (fail)
      go_wp2
      go_roundw
      case rel => exact ⟨k + 1, _, by omega, by go_num, rfl⟩
      case measure => simp [intOf]; omega
    · have HB13 := Lib.hid (belowThen HB12.out (Below.quiet ⟨r, rfl⟩))
      go_wp2_with fail
      refine (HA.out _).mono ?_
      rintro e w13 ⟨rfl, hb⟩
      have HB14 := Lib.hid (belowThen HB13.out hb)
      clear hb
      go_wp2
      go_ret
      exact ⟨rfl, HB14.out⟩
end Go.Proofs.Ytgghmjnbkbiffaa
