/-
  The walk of the law MorphExtends.
-/
import Derived.Test.YtgghmjnbkbiffaaExtA
import Derived.Test.YtgghmjnbkbiffaaExtRA
import Derived.Test.YtgghmjnbkbiffaaAwake
namespace Go.Proofs.Ytgghmjnbkbiffaa
open Go.RowKit
set_option linter.unusedVariables false

set_option maxRecDepth 100000 in
set_option maxHeartbeats 2000000 in
theorem extends_walk (w : World) (vt vg vu vi : Value) (t : List (List Int)) (gens : List Int) (s : List (List Int)) (images : List Int) (ht : Rows2 w vt t) (hg : Ints w vg gens) (hs : Rows2 w vu s) (hi : Ints w vi images) :
    Calls Try.prog 6 #[vt, vg, vu, vi] w fun e w' => e = .returned (.bool true) ∧ Below w.heap.size w w' := by
  have HT := Lib.hid ht
  have HS := Lib.hid hs
  have HG := Lib.hid hg
  have HI := Lib.hid hi
  have L1 := Lib.hid (large_any w vt t ht 14 (by omega))
  have L2 := Lib.hid (large_any w vu s hs 20 (by omega))
  have HA := Lib.hid awake_any
  obtain ⟨a, cap, rfl, h1, h2, -⟩ := ht
  obtain ⟨a', cap', rfl, h1', h2', -⟩ := hs
  obtain ⟨ga, gc, rfl, hg1, hg2, -⟩ := hg
  obtain ⟨ia, ic, rfl, hi1, hi2, -⟩ := hi
  cases hs1 : largeB t 14 with
  | true =>
    rw [hs1] at L1
    clear hs1
    go_enter Try.func6, Try.ntmps6
    go_wp2_with fail
    refine L1.out.mono ?_
    rintro e w1 ⟨rfl, rfl⟩
    go_wp2_with fail
    refine (HA.out _).mono ?_
    rintro e w2 ⟨rfl, hb⟩
    have HB := Lib.hid hb
    clear hb
    go_wp2
    go_ret
    exact ⟨rfl, HB.out⟩
  | false =>
  rw [hs1] at L1
  cases hs2 : largeB s 20 with
  | true =>
    rw [hs2] at L2
    clear hs1 hs2
    go_enter Try.func6, Try.ntmps6
    go_wp2_with fail
    refine L1.out.mono ?_
    rintro e w1 ⟨rfl, rfl⟩
    go_wp2_with fail
    refine L2.out.mono ?_
    rintro e w1 ⟨rfl, rfl⟩
    go_wp2_with fail
    refine (HA.out _).mono ?_
    rintro e w2 ⟨rfl, hb⟩
    have HB := Lib.hid hb
    clear hb
    go_wp2
    go_ret
    exact ⟨rfl, HB.out⟩
  | false =>
  rw [hs2] at L2
  have H1 := Lib.hid (morphExtend_any w _ _ _ _ t gens s images HT.out HG.out HS.out HI.out)
  have H2 := Lib.hid (fun W (hb : Below w.heap.size w W) => refExtend_any W _ _ _ _ t gens s images (HT.out.keep (Keeps.below hb)) (HG.out.keep (Keeps.below hb)) (HS.out.keep (Keeps.below hb)) (HI.out.keep (Keeps.below hb)))
  clear hs1 hs2
  go_enter Try.func6, Try.ntmps6
  go_wp2_with fail
  refine L1.out.mono ?_
  rintro e w1 ⟨rfl, rfl⟩
  go_wp2_with fail
  refine L2.out.mono ?_
  rintro e w1 ⟨rfl, rfl⟩
  clear L1 L2
  go_wp2_with fail
  refine H1.out.mono ?_
  rintro e w1 ⟨u1, ok1, rfl, hb, hy1, hn1⟩
  have HB1 := Lib.hid hb
  have HY1 := Lib.hid hy1
  have HN1 := Lib.hid hn1
  clear hb hy1 hn1
  go_wp2_with fail
  refine (H2.out _ HB1.out).mono ?_
  rintro e w2 ⟨u2, ok2, rfl, hb, hy2, hn2⟩
  have HB2 := Lib.hid (belowThen HB1.out hb)
  have hkp := Keeps.below hb
  have hok : ok1 = ok2 := by
    cases ok1 with
    | true =>
      cases ok2 with
      | true => rfl
      | false =>
        obtain ⟨f, -, hf⟩ := HY1.out rfl
        exact absurd hf ((hn2 rfl).2 f)
    | false =>
      cases ok2 with
      | false => rfl
      | true =>
        obtain ⟨f, -, hf⟩ := hy2 rfl
        exact absurd hf ((HN1.out rfl).2 f)
  subst hok
  have hboth : ∃ f, Ints w2 u1 f ∧ Ints w2 u2 f := by
    cases ok1 with
    | true =>
      obtain ⟨f, q1, hf⟩ := HY1.out rfl
      obtain ⟨f2, q2, hf2⟩ := hy2 rfl
      rw [← hf.unique hf2] at q2
      exact ⟨f, q1.keep hkp, q2⟩
    | false => exact ⟨[], (HN1.out rfl).1.keep hkp, (hn2 rfl).1⟩
  obtain ⟨f, q1, q2⟩ := hboth
  have H3 := same_any w2 u1 u2 f f q1 q2
  rw [sameB_t rfl] at H3
  replace H3 := Lib.hid H3
  clear hb hy2 hn2 hkp q1 q2 HY1 HN1 H1 H2
  have gk : (ok1 == ok1) = true := by simp
  go_wp2_with fail
  refine H3.out.mono ?_
  rintro e w3 ⟨rfl, hq⟩
  have HB3 := Lib.hid (belowThen HB2.out (Below.quiet hq))
  clear hq
  go_wp2_with fail
  refine (HA.out _).mono ?_
  rintro e w4 ⟨rfl, hb⟩
  have HB4 := Lib.hid (belowThen HB3.out hb)
  clear hb
  go_wp2
  go_ret
  exact ⟨rfl, HB4.out⟩
end Go.Proofs.Ytgghmjnbkbiffaa
