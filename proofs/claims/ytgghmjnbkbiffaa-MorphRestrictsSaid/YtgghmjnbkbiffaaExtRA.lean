/-
  The walk of ref20.Extend: all cases.
-/
import Derived.Test.YtgghmjnbkbiffaaExtR
namespace Go.Proofs.Ytgghmjnbkbiffaa
open Go.RowKit
set_option linter.unusedVariables false

set_option maxRecDepth 100000 in
set_option maxHeartbeats 4000000 in
theorem refExtend_any (w : World) (vt vg vu vi : Value) (t : List (List Int)) (gens : List Int) (s : List (List Int)) (images : List Int) (ht : Rows2 w vt t) (hg : Ints w vg gens) (hs : Rows2 w vu s) (hi : Ints w vi images) :
    Calls Try.prog 30 #[vt, vg, vu, vi] w (MexPost w t gens s images) := by
  have HT := Lib.hid ht
  have HS := Lib.hid hs
  have HG := Lib.hid hg
  have HI := Lib.hid hi
  have H1 := validRef_any w vt t ht
  have H2 := (fun q => validRef_any (w.drewN q) vu s (hs.keep (Keeps.drewN w q)))
  obtain ⟨ta, tc, rfl, th1, th2, -⟩ := ht
  obtain ⟨sa, sc, rfl, sh1, sh2, -⟩ := hs
  have H3 := (fun q => inRef_any (w.drewN q) ta tc (lnx t) (by omega) vg gens (hg.keep (Keeps.drewN w q)))
  have H4 := (fun q => inRef_any (w.drewN q) sa sc (lnx s) (by omega) vi images (hi.keep (Keeps.drewN w q)))
  obtain ⟨ga, gc, rfl, hg1, hg2, -⟩ := hg
  obtain ⟨ia, ic, rfl, hi1, hi2, -⟩ := hi
  by_cases v1 : vErr t = 0
  case neg =>
    have g1 : (vErr t == 0) = false := beq_f v1
    rw [g1] at H1
    have HNO : Hid (∀ f, ¬ ExtOK t gens s images f) := fun f hf => v1 hf.vt
    replace H1 := Lib.hid H1
    replace H2 := Lib.hid H2
    replace H3 := Lib.hid H3
    replace H4 := Lib.hid H4
    clear HT HS HG HI
    go_enter Try.func30, Try.ntmps30
    go_wp2_with fail
    refine H1.out.mono ?_
    rintro e w1 ⟨rfl, q1, rfl⟩
    go_wp2
    refine bodyPost_ret (results_tmp2 rfl _ _ _) rfl ?_
    exact mex_no (Below.quiet ⟨_, rfl⟩) HNO.out
  have k1 : (vErr t == 0) = true := beq_t v1
  rw [k1] at H1
  by_cases v2 : vErr s = 0
  case neg =>
    have g1 : (vErr s == 0) = false := beq_f v2
    rw [g1] at H2
    have HNO : Hid (∀ f, ¬ ExtOK t gens s images f) := fun f hf => v2 hf.vs
    replace H1 := Lib.hid H1
    replace H2 := Lib.hid H2
    replace H3 := Lib.hid H3
    replace H4 := Lib.hid H4
    clear HT HS HG HI
    go_enter Try.func30, Try.ntmps30
    go_wp2_with fail
    refine H1.out.mono ?_
    rintro e w1 ⟨rfl, q1, rfl⟩
    go_wp2_with fail
    refine (H2.out _).mono ?_
    rintro e w2 ⟨rfl, q2, rfl⟩
    go_wp2
    refine bodyPost_ret (results_tmp2 rfl _ _ _) rfl ?_
    exact mex_no (Below.quiet ⟨_, rfl⟩) HNO.out
  have k2 : (vErr s == 0) = true := beq_t v2
  rw [k2] at H2
  by_cases hl : lnx gens = lnx images
  case neg =>
    have g1 : ((lnx gens : Int) != (lnx images : Int)) = true := bne_t (by omega)
    have HNO : Hid (∀ f, ¬ ExtOK t gens s images f) := fun f hf => hl hf.len
    replace H1 := Lib.hid H1
    replace H2 := Lib.hid H2
    replace H3 := Lib.hid H3
    replace H4 := Lib.hid H4
    clear HT HS HG HI
    go_enter Try.func30, Try.ntmps30
    go_wp2_with fail
    refine H1.out.mono ?_
    rintro e w1 ⟨rfl, q1, rfl⟩
    go_wp2_with fail
    refine (H2.out _).mono ?_
    rintro e w2 ⟨rfl, q2, rfl⟩
    go_wp2
    refine bodyPost_ret (results_tmp2 rfl _ _ _) rfl ?_
    exact mex_no (Below.quiet ⟨_, rfl⟩) HNO.out
  have g0 : ((lnx gens : Int) != (lnx images : Int)) = false := bne_f (by rw [hl])
  have HL := Lib.hid hl
  clear hl
  by_cases ing : inB (lnx t) gens = true
  case neg =>
    have HNO : Hid (∀ f, ¬ ExtOK t gens s images f) := fun f hf => ing hf.ing
    rw [show inB (lnx t) gens = false by simpa using ing] at H3
    replace H1 := Lib.hid H1
    replace H2 := Lib.hid H2
    replace H3 := Lib.hid H3
    replace H4 := Lib.hid H4
    clear HT HS HG HI
    go_enter Try.func30, Try.ntmps30
    go_wp2_with fail
    refine H1.out.mono ?_
    rintro e w1 ⟨rfl, q1, rfl⟩
    go_wp2_with fail
    refine (H2.out _).mono ?_
    rintro e w2 ⟨rfl, q2, rfl⟩
    go_wp2_with fail
    refine (H3.out _).mono ?_
    rintro e w3 ⟨rfl, rfl⟩
    go_wp2
    refine bodyPost_ret (results_tmp2 rfl _ _ _) rfl ?_
    exact mex_no (Below.quiet ⟨_, rfl⟩) HNO.out
  rw [ing] at H3
  by_cases ini : inB (lnx s) images = true
  case neg =>
    have HNO : Hid (∀ f, ¬ ExtOK t gens s images f) := fun f hf => ini hf.ini
    rw [show inB (lnx s) images = false by simpa using ini] at H4
    replace H1 := Lib.hid H1
    replace H2 := Lib.hid H2
    replace H3 := Lib.hid H3
    replace H4 := Lib.hid H4
    clear HT HS HG HI
    go_enter Try.func30, Try.ntmps30
    go_wp2_with fail
    refine H1.out.mono ?_
    rintro e w1 ⟨rfl, q1, rfl⟩
    go_wp2_with fail
    refine (H2.out _).mono ?_
    rintro e w2 ⟨rfl, q2, rfl⟩
    go_wp2_with fail
    refine (H3.out _).mono ?_
    rintro e w3 ⟨rfl, rfl⟩
    go_wp2_with fail
    refine (H4.out _).mono ?_
    rintro e w4 ⟨rfl, rfl⟩
    go_wp2
    refine bodyPost_ret (results_tmp2 rfl _ _ _) rfl ?_
    exact mex_no (Below.quiet ⟨_, rfl⟩) HNO.out
  rw [ini] at H4
  by_cases hgen : ∀ x, x < lnx t → Gen (lnx t) (tabOf t) gens x
  case neg =>
    have HNO : Hid (∀ f, ¬ ExtOK t gens s images f) := fun f hf => hgen hf.gen
    have htab := Tab.of_rows HT.out (vErr_inv v1).1
    have H5 := (fun q => generated_any (w.drewN q) _ _ _ _ gens (htab.keep (Keeps.drewN w q)) (HG.out.keep (Keeps.drewN w q)))
    have hall := mt all_gen.1 hgen
    obtain ⟨R, hR⟩ : ∃ R, R = natsOf ((List.range (lnx t)).filter (genB (lnx t) (tabOf t) gens)) := ⟨_, rfl⟩
    have hRl : lnx R ≤ lnx t := by rw [hR, lnx_natsOf]; exact filter_len _ _
    rw [← hR] at hall H5
    have g5 : ((lnx R : Int) != (lnx t : Int)) = true := bne_t (by omega)
    replace H1 := Lib.hid H1
    replace H2 := Lib.hid H2
    replace H3 := Lib.hid H3
    replace H4 := Lib.hid H4
    replace H5 := Lib.hid H5
    clear HT HS HG HI hR htab
    go_enter Try.func30, Try.ntmps30
    go_wp2_with fail
    refine H1.out.mono ?_
    rintro e w1 ⟨rfl, q1, rfl⟩
    go_wp2_with fail
    refine (H2.out _).mono ?_
    rintro e w2 ⟨rfl, q2, rfl⟩
    go_wp2_with fail
    refine (H3.out _).mono ?_
    rintro e w3 ⟨rfl, rfl⟩
    go_wp2_with fail
    refine (H4.out _).mono ?_
    rintro e w4 ⟨rfl, rfl⟩
    go_wp2_with fail
    refine (H5.out _).mono ?_
    rintro e w5 ⟨ug, rfl, hug, hb⟩
    obtain ⟨ra, rcc, rfl, -⟩ := hug
    have HB1 : Hid (Below w.heap.size w w5) := belowThen (Below.quiet ⟨_, rfl⟩) hb
    clear hb
    go_wp2
    refine bodyPost_ret (results_tmp2 rfl _ _ _) rfl ?_
    exact mex_no HB1.out HNO.out
  exact refExtend_good w _ _ _ _ t gens s images HT.out HG.out HS.out HI.out v1 v2 HL.out ing ini hgen
end Go.Proofs.Ytgghmjnbkbiffaa
