/-
  Walks: mult.Validate, morph.validate, semigroupref20.MaySearch, semigrouplaw20.small and large.
-/
import Derived.Test.YtgghmjnbkbiffaaSpanW
namespace Go.Proofs.Ytgghmjnbkbiffaa
open Go.RowKit
set_option linter.unusedVariables false

/-- mult.Validate. -/
theorem validate_any (w : World) (v : Value) (t : List (List Int)) (ht : Rows2 w v t) :
    Calls Try.prog 63 #[v] w fun e w' => e = .returned (.int .i64 (vErr t)) ∧ Below w.heap.size w w' := by
  have HS := Lib.hid (shapeProg_any w v t ht)
  by_cases h0 : shapeF t = 0
  · have hT := Tab.of_rows ht h0
    have HT := Lib.hid hT
    have H1 := Lib.hid (spanning_any w v _ _ hT)
    rw [h0] at HS
    obtain ⟨a, cap, rfl, _⟩ := ht
    clear hT
    have H0 := Lib.hid h0
    clear h0
    go_enter Try.func63, Try.ntmps63
    go_wp2_with fail
    refine HS.out.mono ?_
    rintro e w' ⟨rfl, rfl⟩
    clear HS
    go_wp2_with fail
    refine H1.out.mono ?_
    rintro e w1 ⟨u, gens, rfl, hu, hg, hmk, hb⟩
    have H2 := Lib.hid (associates_any w1 _ _ _ (HT.out.keep (Keeps.below hb)) u gens hu hg)
    have HG := Lib.hid hg
    have HMK := Lib.hid hmk
    have HB := Lib.hid hb
    clear hu hg hmk hb H1
    go_wp2_with fail
    refine H2.out.mono ?_
    rintro e w2 ⟨r, rfl, hr, hb2⟩
    have HB2 := Lib.hid (belowThen HB.out hb2)
    clear H2 hb2 HB
    rcases hr with ⟨rfl, hp⟩ | ⟨rfl, i, hi, hp⟩
    · have hv : vErr t = 0 := by
        refine vErr_ok H0.out (light (fun r c hr hc => tab_lt H0.out hr hc) (gens := gens) ?_ HMK.out ?_)
        · intro g hg
          obtain ⟨i, hi, rfl⟩ := mem_nthx hg
          exact HG.out i hi
        · intro g hg
          obtain ⟨i, hi, rfl⟩ := mem_nthx hg
          exact hp i hi
      have HV := Lib.hid hv
      clear hv hp
      go_wp2
      go_ret
      exact ⟨ret_int HV.out.symm, HB2.out⟩
    · have hv : vErr t = 5 := by
        refine vErr_not H0.out (fun h => hp ?_)
        intro x y hx hy
        exact h x _ y hx (HG.out i hi) hy
      have HV := Lib.hid hv
      clear hv hp
      go_wp2
      go_ret
      exact ⟨ret_int HV.out.symm, HB2.out⟩
  · have hne : (shapeF t != 0) = true := bne_t h0
    have HV := Lib.hid (vErr_shape h0)
    obtain ⟨a, cap, rfl, _⟩ := ht
    go_enter Try.func63, Try.ntmps63
    go_wp2_with fail
    refine HS.out.mono ?_
    rintro e w' ⟨rfl, rfl⟩
    clear HS
    go_wp2
    go_ret
    exact ⟨ret_int HV.out.symm, Below.refl _ _⟩

/-- The error of the searches. -/
noncomputable def mayErr (t u : List (List Int)) : Int := if vErr t ≠ 0 then vErr t else if vErr u ≠ 0 then vErr u else if 8 < lnx t ∨ 8 < lnx u then 3 else 0

theorem mayErr_inv {t u : List (List Int)} (h : mayErr t u = 0) : vErr t = 0 ∧ vErr u = 0 ∧ lnx t ≤ 8 ∧ lnx u ≤ 8 := by
  unfold mayErr at h
  split at h
  · rename_i hh; exact absurd h hh
  · split at h
    · rename_i hh; exact absurd h hh
    · split at h
      · cases h
      · rename_i h1 h2 h3
        simp at h1 h2
        exact ⟨h1, h2, by omega, by omega⟩
theorem mayErr_1 {t u : List (List Int)} (h : vErr t ≠ 0) : mayErr t u = vErr t := by unfold mayErr; rw [if_pos h]
theorem mayErr_2 {t u : List (List Int)} (h : vErr t = 0) (h2 : vErr u ≠ 0) : mayErr t u = vErr u := by unfold mayErr; rw [if_neg (by simp [h]), if_pos h2]
theorem mayErr_3 {t u : List (List Int)} (h : vErr t = 0) (h2 : vErr u = 0) (h3 : 8 < lnx t ∨ 8 < lnx u) : mayErr t u = 3 := by unfold mayErr; rw [if_neg (by simp [h]), if_neg (by simp [h2]), if_pos h3]
theorem mayErr_0 {t u : List (List Int)} (h : vErr t = 0) (h2 : vErr u = 0) (h3 : ¬ (8 < lnx t ∨ 8 < lnx u)) : mayErr t u = 0 := by unfold mayErr; rw [if_neg (by simp [h]), if_neg (by simp [h2]), if_neg h3]

theorem maySearch_any (w : World) (v u : Value) (t s : List (List Int)) (ht : Rows2 w v t) (hs : Rows2 w u s) :
    Calls Try.prog 17 #[v, u] w fun e w' => e = .returned (.int .i64 (mayErr t s)) ∧ Quiet w w' := by
  have H1 := Lib.hid (validateRef_any w v t ht)
  have H2 := Lib.hid (fun q => validateRef_any (w.drewN q) u s (hs.keep (Keeps.drewN w q)))
  obtain ⟨a, cap, rfl, h1, h2, _⟩ := ht
  obtain ⟨a', cap', rfl, h1', h2', _⟩ := hs
  by_cases e1 : vErr t = 0
  case neg =>
    have hb : (vErr t != 0) = true := bne_t e1
    have HV := Lib.hid (mayErr_1 (u := s) e1)
    go_enter Try.func17, Try.ntmps17
    go_wp2_with fail
    refine H1.out.mono ?_
    rintro e w' ⟨rfl, hq⟩
    have HQ := Lib.hid hq
    clear hq H1 H2
    go_wp2
    go_ret
    exact ⟨ret_int HV.out.symm, HQ.out⟩
  rw [e1] at H1
  by_cases e2 : vErr s = 0
  case neg =>
    have hb : (vErr s != 0) = true := bne_t e2
    have HV := Lib.hid (mayErr_2 e1 e2)
    clear e1 e2
    go_enter Try.func17, Try.ntmps17
    go_wp2_with fail
    refine H1.out.mono ?_
    rintro e w' ⟨rfl, q, rfl⟩
    clear H1
    go_wp2_with fail
    refine (H2.out q).mono ?_
    rintro e w' ⟨rfl, q2, rfl⟩
    clear H2
    go_wp2
    go_ret
    exact ⟨ret_int HV.out.symm, ⟨_, rfl⟩⟩
  rw [e2] at H2
  by_cases e3 : 8 < lnx t ∨ 8 < lnx s
  · have HV := Lib.hid (mayErr_3 e1 e2 e3)
    have HE := Lib.hid e3
    clear e1 e2 e3
    by_cases h8 : 8 < lnx t
    all_goals
      go_enter Try.func17, Try.ntmps17
      go_wp2_with fail
      refine H1.out.mono ?_
      rintro e w' ⟨rfl, q, rfl⟩
      clear H1
      go_wp2_with fail
      refine (H2.out q).mono ?_
      rintro e w' ⟨rfl, q2, rfl⟩
      clear H2
      try (have h9 : 8 < lnx s := by have := HE.out; omega)
      go_wp2
      go_ret
      exact ⟨ret_int HV.out.symm, ⟨_, rfl⟩⟩
  · have HV := Lib.hid (mayErr_0 e1 e2 e3)
    have h8 : lnx t ≤ 8 := by omega
    have h9 : lnx s ≤ 8 := by omega
    clear e1 e2 e3
    go_enter Try.func17, Try.ntmps17
    go_wp2_with fail
    refine H1.out.mono ?_
    rintro e w' ⟨rfl, q, rfl⟩
    clear H1
    go_wp2_with fail
    refine (H2.out q).mono ?_
    rintro e w' ⟨rfl, q2, rfl⟩
    clear H2
    go_wp2
    go_ret
    exact ⟨ret_int HV.out.symm, ⟨_, rfl⟩⟩

/-- morph.validate. -/
theorem mvalidate_any (w : World) (v u : Value) (t s : List (List Int)) (ht : Rows2 w v t) (hs : Rows2 w u s) :
    Calls Try.prog 60 #[v, u] w fun e w' => e = .returned (.int .i64 (mayErr t s)) ∧ Below w.heap.size w w' := by
  have H1 := Lib.hid (validate_any w v t ht)
  have H2 := Lib.hid (fun W (hb : Below w.heap.size w W) => validate_any W u s (hs.keep (Keeps.below hb)))
  obtain ⟨a, cap, rfl, h1, h2, _⟩ := ht
  obtain ⟨a', cap', rfl, h1', h2', _⟩ := hs
  by_cases e1 : vErr t = 0
  case neg =>
    have hb : (vErr t != 0) = true := bne_t e1
    have HV := Lib.hid (mayErr_1 (u := s) e1)
    go_enter Try.func60, Try.ntmps60
    go_wp2_with fail
    refine H1.out.mono ?_
    rintro e w' ⟨rfl, hq⟩
    have HQ := Lib.hid hq
    clear hq H1 H2
    go_wp2
    go_ret
    exact ⟨ret_int HV.out.symm, HQ.out⟩
  rw [e1] at H1
  by_cases e2 : vErr s = 0
  case neg =>
    have hb : (vErr s != 0) = true := bne_t e2
    have HV := Lib.hid (mayErr_2 e1 e2)
    clear e1 e2
    go_enter Try.func60, Try.ntmps60
    go_wp2_with fail
    refine H1.out.mono ?_
    rintro e w1 ⟨rfl, hb1⟩
    have HB := Lib.hid hb1
    clear H1 hb1
    go_wp2_with fail
    refine (H2.out w1 HB.out).mono ?_
    rintro e w2 ⟨rfl, hb2⟩
    have HB2 := Lib.hid (belowThen HB.out hb2)
    clear H2 hb2
    go_wp2
    go_ret
    exact ⟨ret_int HV.out.symm, HB2.out⟩
  rw [e2] at H2
  have hmx : max (lnx t : Int) (lnx s : Int) = ((max (lnx t) (lnx s) : Nat) : Int) := by omega
  by_cases e3 : 8 < lnx t ∨ 8 < lnx s
  · have HV := Lib.hid (mayErr_3 e1 e2 e3)
    have h8 : (8 : Int) < max (lnx t : Int) (lnx s : Int) := by omega
    clear e1 e2 e3 hmx
    go_enter Try.func60, Try.ntmps60
    go_wp2_with fail
    refine H1.out.mono ?_
    rintro e w1 ⟨rfl, hb1⟩
    have HB := Lib.hid hb1
    clear H1 hb1
    go_wp2_with fail
    refine (H2.out w1 HB.out).mono ?_
    rintro e w2 ⟨rfl, hb2⟩
    have HB2 := Lib.hid (belowThen HB.out hb2)
    clear H2 hb2
    go_wp2
    all_goals
      go_ret
      exact ⟨ret_int HV.out.symm, HB2.out⟩
  · have HV := Lib.hid (mayErr_0 e1 e2 e3)
    have h8 : ¬ (8 : Int) < max (lnx t : Int) (lnx s : Int) := by omega
    clear e1 e2 e3 hmx
    go_enter Try.func60, Try.ntmps60
    go_wp2_with fail
    refine H1.out.mono ?_
    rintro e w1 ⟨rfl, hb1⟩
    have HB := Lib.hid hb1
    clear H1 hb1
    go_wp2_with fail
    refine (H2.out w1 HB.out).mono ?_
    rintro e w2 ⟨rfl, hb2⟩
    have HB2 := Lib.hid (belowThen HB.out hb2)
    clear H2 hb2
    go_wp2
    all_goals
      go_ret
      exact ⟨ret_int HV.out.symm, HB2.out⟩

noncomputable def smallB (t : List (List Int)) (k : Nat) : Bool := decide (lnx t ≤ k) && (vErr t == 0)
noncomputable def largeB (t : List (List Int)) (k : Nat) : Bool := decide (k < lnx t) && (shapeF t == 0)

theorem small_any (w : World) (v : Value) (t : List (List Int)) (ht : Rows2 w v t) (k : Nat) (hk : k ≤ 1000) :
    Calls Try.prog 26 #[v, .int .i64 k] w fun e w' => e = .returned (.bool (smallB t k)) ∧ Quiet w w' := by
  have H1 := Lib.hid (validRef_any w v t ht)
  obtain ⟨a, cap, rfl, h1, h2, _⟩ := ht
  by_cases hl : lnx t ≤ k
  · have hd : decide (lnx t ≤ k) = true := by simpa using hl
    have HV : Hid (smallB t k = (vErr t == 0)) := by simp [Hid, smallB, hl]
    generalize (vErr t == 0) = r at *
    go_enter Try.func26, Try.ntmps26
    go_wp2_with fail
    refine H1.out.mono ?_
    rintro e w' ⟨rfl, hq⟩
    have HQ := Lib.hid hq
    clear hq H1
    go_wp2
    all_goals
      go_ret
      exact ⟨ret_bool HV.out.symm, HQ.out⟩
  · have hd : decide (lnx t ≤ k) = false := by simpa using hl
    have HV : Hid (smallB t k = false) := by simp [Hid, smallB, hl]
    go_enter Try.func26, Try.ntmps26
    go_wp2
    go_ret
    exact ⟨ret_bool HV.out.symm, Quiet.refl _⟩

theorem large_any (w : World) (v : Value) (t : List (List Int)) (ht : Rows2 w v t) (k : Nat) (hk : k ≤ 1000) :
    Calls Try.prog 22 #[v, .int .i64 k] w fun e w' => e = .returned (.bool (largeB t k)) ∧ w = w' := by
  have H1 := Lib.hid (shapeRef_any w v t ht)
  obtain ⟨a, cap, rfl, h1, h2, _⟩ := ht
  by_cases hl : k < lnx t
  · have hd : decide (k < lnx t) = true := by simpa using hl
    have HV : Hid (largeB t k = (shapeF t == 0)) := by simp [Hid, largeB, hl]
    go_enter Try.func22, Try.ntmps22
    go_wp2_with fail
    refine H1.out.mono ?_
    rintro e w' ⟨rfl, rfl⟩
    clear H1
    go_wp2
    all_goals
      go_ret
      exact ⟨ret_bool HV.out.symm, rfl⟩
  · have hd : decide (k < lnx t) = false := by simpa using hl
    have HV : Hid (largeB t k = false) := by simp [Hid, largeB, hl]
    go_enter Try.func22, Try.ntmps22
    go_wp2
    go_ret
    exact ⟨ret_bool HV.out.symm, rfl⟩
end Go.Proofs.Ytgghmjnbkbiffaa
