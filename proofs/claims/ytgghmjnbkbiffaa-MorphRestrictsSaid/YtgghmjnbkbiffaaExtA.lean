/-
  The walk of morph.Extend: all cases.
-/
import Derived.Test.YtgghmjnbkbiffaaExtW
namespace Go.Proofs.Ytgghmjnbkbiffaa
open Go.RowKit
set_option linter.unusedVariables false

set_option maxRecDepth 100000 in
set_option maxHeartbeats 4000000 in
theorem morphExtend_any (w : World) (vt vg vu vi : Value) (t : List (List Int)) (gens : List Int) (s : List (List Int)) (images : List Int) (ht : Rows2 w vt t) (hg : Ints w vg gens) (hs : Rows2 w vu s) (hi : Ints w vi images) :
    Calls Try.prog 29 #[vt, vg, vu, vi] w (MexPost w t gens s images) := by
  have HT := Lib.hid ht
  have HS := Lib.hid hs
  have HG := Lib.hid hg
  have HI := Lib.hid hi
  have H1 := validate_any w vt t ht
  have H2 := (fun W (hb : Below w.heap.size w W) => validate_any W vu s (hs.keep (Keeps.below hb)))
  obtain ⟨ta, tc, rfl, th1, th2, -⟩ := ht
  obtain ⟨sa, sc, rfl, sh1, sh2, -⟩ := hs
  have H3 := (fun W (hb : Below w.heap.size w W) => within_any W (lnx t) (by omega) vg gens (hg.keep (Keeps.below hb)))
  have H4 := (fun W (hb : Below w.heap.size w W) => within_any W (lnx s) (by omega) vi images (hi.keep (Keeps.below hb)))
  obtain ⟨ga, gc, rfl, hg1, hg2, -⟩ := hg
  obtain ⟨ia, ic, rfl, hi1, hi2, -⟩ := hi
  by_cases hl : lnx gens = lnx images
  case neg =>
    have g1 : ((lnx gens : Int) != (lnx images : Int)) = true := bne_t (by omega)
    have HNO : Hid (∀ f, ¬ ExtOK t gens s images f) := fun f hf => hl hf.len
    replace H1 := Lib.hid H1
    replace H2 := Lib.hid H2
    replace H3 := Lib.hid H3
    replace H4 := Lib.hid H4
    clear HT HS HG HI
    go_enter Try.func29, Try.ntmps29
    go_wp2
    refine bodyPost_ret (results_tmp2 rfl _ _ _) rfl ?_
    exact mex_no (Below.refl _ _) HNO.out
  have g0 : ((lnx gens : Int) != (lnx images : Int)) = false := bne_f (by rw [hl])
  have HL := Lib.hid hl
  clear hl
  by_cases v1 : vErr t = 0
  case neg =>
    have g1 : (vErr t != 0) = true := bne_t v1
    have HNO : Hid (∀ f, ¬ ExtOK t gens s images f) := fun f hf => v1 hf.vt
    replace H1 := Lib.hid H1
    replace H2 := Lib.hid H2
    replace H3 := Lib.hid H3
    replace H4 := Lib.hid H4
    clear HT HS HG HI
    go_enter Try.func29, Try.ntmps29
    go_wp2_with fail
    refine H1.out.mono ?_
    rintro e w1 ⟨rfl, hb⟩
    have HB1 := Lib.hid hb
    clear hb
    go_wp2
    refine bodyPost_ret (results_tmp2 rfl _ _ _) rfl ?_
    exact mex_no HB1.out HNO.out
  rw [v1] at H1
  have HV1 := Lib.hid v1
  clear v1
  by_cases v2 : vErr s = 0
  case neg =>
    have g1 : (vErr s != 0) = true := bne_t v2
    have HNO : Hid (∀ f, ¬ ExtOK t gens s images f) := fun f hf => v2 hf.vs
    replace H1 := Lib.hid H1
    replace H2 := Lib.hid H2
    replace H3 := Lib.hid H3
    replace H4 := Lib.hid H4
    clear HT HS HG HI
    go_enter Try.func29, Try.ntmps29
    go_wp2_with fail
    refine H1.out.mono ?_
    rintro e w1 ⟨rfl, hb⟩
    have HB1 := Lib.hid hb
    clear hb
    go_wp2_with fail
    refine (H2.out _ HB1.out).mono ?_
    rintro e w2 ⟨rfl, hb⟩
    have HB2 := Lib.hid (belowThen HB1.out hb)
    clear hb
    go_wp2
    refine bodyPost_ret (results_tmp2 rfl _ _ _) rfl ?_
    exact mex_no HB2.out HNO.out
  rw [v2] at H2
  have HV2 := Lib.hid v2
  clear v2
  by_cases ing : inB (lnx t) gens = true
  case neg =>
    have HNO : Hid (∀ f, ¬ ExtOK t gens s images f) := fun f hf => ing hf.ing
    rw [show inB (lnx t) gens = false by simpa using ing] at H3
    replace H1 := Lib.hid H1
    replace H2 := Lib.hid H2
    replace H3 := Lib.hid H3
    replace H4 := Lib.hid H4
    clear HT HS HG HI
    go_enter Try.func29, Try.ntmps29
    go_wp2_with fail
    refine H1.out.mono ?_
    rintro e w1 ⟨rfl, hb⟩
    have HB1 := Lib.hid hb
    clear hb
    go_wp2_with fail
    refine (H2.out _ HB1.out).mono ?_
    rintro e w2 ⟨rfl, hb⟩
    have HB2 := Lib.hid (belowThen HB1.out hb)
    clear hb
    go_wp2_with fail
    refine (H3.out _ HB2.out).mono ?_
    rintro e w3 ⟨rfl, rfl⟩
    go_wp2
    refine bodyPost_ret (results_tmp2 rfl _ _ _) rfl ?_
    exact mex_no HB2.out HNO.out
  rw [ing] at H3
  by_cases ini : inB (lnx s) images = true
  case neg =>
    have HNO : Hid (∀ f, ¬ ExtOK t gens s images f) := fun f hf => ini hf.ini
    rw [show inB (lnx s) images = false by simpa using ini] at H4
    replace H1 := Lib.hid H1
    replace H2 := Lib.hid H2
    replace H3 := Lib.hid H3
    replace H4 := Lib.hid H4
    clear HT HS HG HI
    go_enter Try.func29, Try.ntmps29
    go_wp2_with fail
    refine H1.out.mono ?_
    rintro e w1 ⟨rfl, hb⟩
    have HB1 := Lib.hid hb
    clear hb
    go_wp2_with fail
    refine (H2.out _ HB1.out).mono ?_
    rintro e w2 ⟨rfl, hb⟩
    have HB2 := Lib.hid (belowThen HB1.out hb)
    clear hb
    go_wp2_with fail
    refine (H3.out _ HB2.out).mono ?_
    rintro e w3 ⟨rfl, rfl⟩
    go_wp2_with fail
    refine (H4.out _ HB2.out).mono ?_
    rintro e w4 ⟨rfl, rfl⟩
    go_wp2
    refine bodyPost_ret (results_tmp2 rfl _ _ _) rfl ?_
    exact mex_no HB2.out HNO.out
  exact extend_good w _ _ _ _ t gens s images HT.out HG.out HS.out HI.out HV1.out HV2.out HL.out ing ini
end Go.Proofs.Ytgghmjnbkbiffaa
