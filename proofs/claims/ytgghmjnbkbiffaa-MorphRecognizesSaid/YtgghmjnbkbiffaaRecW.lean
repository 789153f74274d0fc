/-
  The walk of the law MorphRecognizes.
-/
import Derived.Test.YtgghmjnbkbiffaaRec
import Derived.Test.YtgghmjnbkbiffaaAwake
namespace Go.Proofs.Ytgghmjnbkbiffaa
open Go.RowKit
set_option linter.unusedVariables false

theorem largeB_f {t : List (List Int)} {k : Nat} (h : largeB t k = false) (hv : vErr t = 0) : lnx t ≤ k := by
  unfold largeB at h
  have := (vErr_inv hv).1
  simp [this] at h
  omega

set_option maxRecDepth 100000 in
set_option maxHeartbeats 2000000 in
theorem recognizes_walk (w : World) (vt vu vf : Value) (t s : List (List Int)) (f : List Int) (ht : Rows2 w vt t) (hs : Rows2 w vu s) (hf : Ints w vf f) :
    Calls Try.prog 8 #[vt, vu, vf] w fun e w' => e = .returned (.bool true) ∧ Below w.heap.size w w' := by
  have HT := Lib.hid ht
  have HS := Lib.hid hs
  have HF := Lib.hid hf
  have L1 := Lib.hid (large_any w vt t ht 20 (by omega))
  have L2 := Lib.hid (large_any w vu s hs 20 (by omega))
  have HA := Lib.hid awake_any
  obtain ⟨a, cap, rfl, h1, h2, -⟩ := ht
  obtain ⟨a', cap', rfl, h1', h2', -⟩ := hs
  obtain ⟨fa, fc, rfl, hf1, hf2, -⟩ := hf
  cases hs1 : largeB t 20 with
  | true =>
    rw [hs1] at L1
    clear hs1
    go_enter Try.func8, Try.ntmps8
    go_wp2_with fail
    refine L1.out.mono ?_
    rintro e w1 ⟨rfl, rfl⟩
    go_wp2_with fail
    refine (HA.out _).mono ?_
    rintro e w2 ⟨rfl, hb⟩
    have HB := Lib.hid hb
    clear hb
    go_wp2
    go_ret
    exact ⟨rfl, HB.out⟩
  | false =>
  rw [hs1] at L1
  cases hs2 : largeB s 20 with
  | true =>
    rw [hs2] at L2
    clear hs1 hs2
    go_enter Try.func8, Try.ntmps8
    go_wp2_with fail
    refine L1.out.mono ?_
    rintro e w1 ⟨rfl, rfl⟩
    go_wp2_with fail
    refine L2.out.mono ?_
    rintro e w1 ⟨rfl, rfl⟩
    go_wp2_with fail
    refine (HA.out _).mono ?_
    rintro e w2 ⟨rfl, hb⟩
    have HB := Lib.hid hb
    clear hb
    go_wp2
    go_ret
    exact ⟨rfl, HB.out⟩
  | false =>
  rw [hs2] at L2
  have H1 := Lib.hid (isHomProg_any w _ _ _ t s f HT.out HS.out HF.out)
  have H2 := Lib.hid (fun W (hb : Below w.heap.size w W) => image_any W _ _ _ t s f (HT.out.keep (Keeps.below hb)) (HS.out.keep (Keeps.below hb)) (HF.out.keep (Keeps.below hb)))
  have H3 := Lib.hid (fun W (hb : Below w.heap.size w W) => kernel_any W _ _ _ t s f (HT.out.keep (Keeps.below hb)) (HS.out.keep (Keeps.below hb)) (HF.out.keep (Keeps.below hb)))
  have H4 := Lib.hid (fun W (hb : Below w.heap.size w W) => refIsHom_any W _ _ _ t s f (HT.out.keep (Keeps.below hb)) (HS.out.keep (Keeps.below hb)) (HF.out.keep (Keeps.below hb)))
  cases hh : isHomB t s f with
  | false =>
    have hi : imgRes t s f = [] := by unfold imgRes; rw [hh]; simp
    have hk : kerRes t s f = [] := by unfold kerRes; rw [hh]; simp
    rw [hh] at H1 H4
    rw [hi] at H2
    rw [hk] at H3
    clear hs1 hs2 hh hi hk
    go_enter Try.func8, Try.ntmps8
    go_wp2_with fail
    refine L1.out.mono ?_
    rintro e w1 ⟨rfl, rfl⟩
    go_wp2_with fail
    refine L2.out.mono ?_
    rintro e w1 ⟨rfl, rfl⟩
    clear L1 L2
    go_wp2_with fail
    refine H1.out.mono ?_
    rintro e w1 ⟨rfl, hb⟩
    have HB := Lib.hid hb
    clear hb
    go_wp2_with fail
    refine (H2.out _ HB.out).mono ?_
    rintro e w2 ⟨u1, rfl, hu1, hb⟩
    have HB2 := Lib.hid (belowThen HB.out hb)
    obtain ⟨ia, ic, rfl, -⟩ := hu1
    clear hb
    go_wp2_with fail
    refine (H3.out _ HB2.out).mono ?_
    rintro e w3 ⟨u2, rfl, hu2, hb⟩
    have HB3 := Lib.hid (belowThen HB2.out hb)
    obtain ⟨ka, kc, rfl, -⟩ := hu2
    clear hb
    go_wp2_with fail
    refine (H4.out _ HB3.out).mono ?_
    rintro e w4 ⟨rfl, hq⟩
    have HB4 := Lib.hid (belowThen HB3.out (Below.quiet hq))
    clear hq
    rw [lnx_nil]
    go_wp2_with fail
    refine (HA.out _).mono ?_
    rintro e w5 ⟨rfl, hb⟩
    have HB5 := Lib.hid (belowThen HB4.out hb)
    clear hb
    go_wp2
    go_ret
    exact ⟨rfl, HB5.out⟩
  | true =>
    have hi : imgRes t s f = natsOf (imgN (lnx s) f) := by unfold imgRes; rw [hh]; simp
    have hk : kerRes t s f = canonF f := by unfold kerRes; rw [hh]; simp
    rw [hh] at H1 H4
    rw [hi] at H2
    rw [hk] at H3
    unfold isHomB at hh
    simp at hh
    obtain ⟨⟨v1, v2⟩, hhom⟩ := hh
    obtain ⟨p1, p2, -⟩ := homL_inv hhom
    have l1 := largeB_f hs1 v1
    have l2 := largeB_f hs2 v2
    have H5 := Lib.hid (fun W (hb : Below w.heap.size w W) => refImage_any W _ _ s f (HS.out.keep (Keeps.below hb)) (HF.out.keep (Keeps.below hb)) (by omega) p2)
    have H6 := Lib.hid (fun W (hb : Below w.heap.size w W) => refKernel_any W _ f (HF.out.keep (Keeps.below hb)) (by omega))
    clear hs1 hs2 hi hk hhom v1 v2 p1 p2
    go_enter Try.func8, Try.ntmps8
    go_wp2_with fail
    refine L1.out.mono ?_
    rintro e w1 ⟨rfl, rfl⟩
    go_wp2_with fail
    refine L2.out.mono ?_
    rintro e w1 ⟨rfl, rfl⟩
    clear L1 L2
    go_wp2_with fail
    refine H1.out.mono ?_
    rintro e w1 ⟨rfl, hb⟩
    have HB := Lib.hid hb
    clear hb
    go_wp2_with fail
    refine (H2.out _ HB.out).mono ?_
    rintro e w2 ⟨u1, rfl, hu1, hb⟩
    have HB2 := Lib.hid (belowThen HB.out hb)
    have HU1 := Lib.hid hu1
    clear hb hu1
    go_wp2_with fail
    refine (H3.out _ HB2.out).mono ?_
    rintro e w3 ⟨u2, rfl, hu2, hb⟩
    have HB3 := Lib.hid (belowThen HB2.out hb)
    have HU13 := Lib.hid (HU1.out.keep (Keeps.below hb))
    have HU2 := Lib.hid hu2
    clear hb hu2 HU1
    go_wp2_with fail
    refine (H4.out _ HB3.out).mono ?_
    rintro e w4 ⟨rfl, hq⟩
    have HB4 := Lib.hid (belowThen HB3.out (Below.quiet hq))
    have HU14 := Lib.hid (HU13.out.keep (Keeps.below (Below.quiet hq)))
    have HU24 := Lib.hid (HU2.out.keep (Keeps.below (Below.quiet hq)))
    clear hq HU13 HU2
    go_wp2_with fail
    refine (H5.out _ HB4.out).mono ?_
    rintro e w5 ⟨u3, rfl, hu3, hb⟩
    have HB5 := Lib.hid (belowThen HB4.out hb)
    have HU25 := Lib.hid (HU24.out.keep (Keeps.below hb))
    have H7 := same_any w5 u1 u3 _ _ (HU14.out.keep (Keeps.below hb)) hu3
    rw [sameB_t rfl] at H7
    have H7 := Lib.hid H7
    clear hb hu3 HU24 HU14
    go_wp2_with fail
    refine H7.out.mono ?_
    rintro e w6 ⟨rfl, hq⟩
    have HB6 := Lib.hid (belowThen HB5.out (Below.quiet hq))
    have HU26 := Lib.hid (HU25.out.keep (Keeps.below (Below.quiet hq)))
    clear hq HU25
    go_wp2_with fail
    refine (H6.out _ HB6.out).mono ?_
    rintro e w7 ⟨u4, rfl, hu4, hb⟩
    have HB7 := Lib.hid (belowThen HB6.out hb)
    have H8 := same_any w7 u2 u4 _ _ (HU26.out.keep (Keeps.below hb)) hu4
    rw [sameB_t rfl] at H8
    have H8 := Lib.hid H8
    clear hb hu4 HU26
    go_wp2_with fail
    refine H8.out.mono ?_
    rintro e w8 ⟨rfl, hq⟩
    have HB8 := Lib.hid (belowThen HB7.out (Below.quiet hq))
    clear hq
    go_wp2_with fail
    refine (HA.out _).mono ?_
    rintro e w9 ⟨rfl, hb⟩
    have HB9 := Lib.hid (belowThen HB8.out hb)
    clear hb
    go_wp2
    go_ret
    exact ⟨rfl, HB9.out⟩
end Go.Proofs.Ytgghmjnbkbiffaa
