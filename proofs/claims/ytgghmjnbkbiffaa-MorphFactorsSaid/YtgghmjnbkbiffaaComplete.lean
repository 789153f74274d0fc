/-
  The walk of the law MorphComplete.
-/
import Derived.Test.YtgghmjnbkbiffaaM20c
namespace Go.Proofs.Ytgghmjnbkbiffaa
open Go.RowKit
set_option linter.unusedVariables false

open Classical in
/-- f is one of the first k rows. -/
noncomputable def hasR (rows : List (List Int)) (f : List Int) (k : Nat) : Bool := decide (∃ i, i < k ∧ nthx rows i = f)
open Classical in
theorem hasR_iff {rows : List (List Int)} {f : List Int} {k : Nat} : hasR rows f k = true ↔ ∃ i, i < k ∧ nthx rows i = f := by simp [hasR]
theorem hasR_succ (rows : List (List Int)) (f : List Int) (k : Nat) : hasR rows f (k + 1) = (hasR rows f k || sameB (nthx rows k) f) := by
  rw [Bool.eq_iff_iff, Bool.or_eq_true, hasR_iff, hasR_iff]
  constructor
  · rintro ⟨i, hi, e⟩
    by_cases e2 : i = k
    · subst e2; exact .inr (sameB_t e)
    · exact .inl ⟨i, by omega, e⟩
  · rintro (⟨i, hi, e⟩ | h)
    · exact ⟨i, by omega, e⟩
    · exact ⟨k, by omega, by simpa [sameB] using h⟩
theorem hasR_all {rows : List (List Int)} {f : List Int} : hasR rows f (lnx rows) = true ↔ f ∈ rows := by
  rw [hasR_iff]
  constructor
  · rintro ⟨i, hi, rfl⟩; exact nthx_mem hi
  · intro h; exact mem_nthx h

theorem small_inv {t : List (List Int)} {k : Nat} (h : smallB t k = true) : lnx t ≤ k ∧ vErr t = 0 := by
  unfold smallB at h
  simp at h
  exact h

theorem first_drew {w : World} {a b : Nat} : ∃ q, w.drewN (a + b) = w.drewN q := ⟨_, rfl⟩

set_option maxRecDepth 100000 in
set_option maxHeartbeats 2000000 in
theorem complete_walk (w : World) (vt vu vf : Value) (t s : List (List Int)) (f : List Int) (ht : Rows2 w vt t) (hs : Rows2 w vu s) (hf : Ints w vf f) :
    Calls Try.prog 5 #[vt, vu, vf] w fun e w' => e = .returned (.bool true) ∧ Below w.heap.size w w' := by
  have HT := Lib.hid ht
  have HS := Lib.hid hs
  have HF := Lib.hid hf
  have L1 := Lib.hid (small_any w vt t ht 4 (by omega))
  have L2 := Lib.hid (fun q => small_any (w.drewN q) vu s (hs.keep (Keeps.drewN w q)) 4 (by omega))
  obtain ⟨a, cap, rfl, h1, h2, -⟩ := ht
  obtain ⟨a', cap', rfl, h1', h2', -⟩ := hs
  obtain ⟨fa, fc, rfl, hf1, hf2, -⟩ := hf
  cases hs1 : smallB t 4 with
  | false =>
    rw [hs1] at L1
    clear hs1
    go_enter Try.func5, Try.ntmps5
    go_wp2_with fail
    refine L1.out.mono ?_
    rintro e w1 ⟨rfl, hq⟩
    have HQ := Lib.hid hq
    have HA := Lib.hid (awake_any w1)
    clear hq
    go_wp2_with fail
    refine HA.out.mono ?_
    rintro e w2 ⟨rfl, hb⟩
    have HB := Lib.hid (belowThen (Below.quiet HQ.out) hb)
    clear hb
    go_wp2
    go_ret
    exact ⟨rfl, HB.out⟩
  | true =>
  rw [hs1] at L1
  cases hs2 : smallB s 4 with
  | false =>
    rw [hs2] at L2
    clear hs1 hs2
    go_enter Try.func5, Try.ntmps5
    go_wp2_with fail
    refine L1.out.mono ?_
    rintro e w1 ⟨rfl, q, rfl⟩
    go_wp2_with fail
    refine (L2.out q).mono ?_
    rintro e w1 ⟨rfl, q2, rfl⟩
    have HA := Lib.hid (awake_any (w.drewN (q + q2)))
    go_wp2_with fail
    refine HA.out.mono ?_
    rintro e w2 ⟨rfl, hb⟩
    have HB := Lib.hid (belowThen (Below.quiet ⟨q + q2, rfl⟩) hb)
    clear hb
    go_wp2
    go_ret
    exact ⟨rfl, HB.out⟩
  | true =>
  rw [hs2] at L2
  obtain ⟨l4, ev1⟩ := small_inv hs1
  obtain ⟨l4', ev2⟩ := small_inv hs2
  have hm1 : mayErr t s = 0 := mayErr_0 ev1 ev2 (by omega)
  have hm2 : mayErr t t = 0 := mayErr_0 ev1 ev1 (by omega)
  have hc1 := homsT_small (t := t) (s := s) (inj := false) (by omega) l4'
  have hc2 := autos_small (t := t) (by omega)
  have hE1 : listErr t s false = 0 := by unfold listErr; rw [hm1, if_neg (by simp), if_neg (by omega)]
  have hE2 : listErr t t true = 0 := by unfold listErr; rw [hm2, if_neg (by simp), if_neg (by omega)]
  have hR1 : listRows t s false = (homsT t s false).map natsOf := by unfold listRows; rw [hE1, if_pos rfl]
  have hR2 : listRows t t true = (homsT t t true).map natsOf := by unfold listRows; rw [hE2, if_pos rfl]
  have H1 := Lib.hid (fun W (hb : Below w.heap.size w W) => homs_any W _ _ t s (HT.out.keep (Keeps.below hb)) (HS.out.keep (Keeps.below hb)))
  have H2 := Lib.hid (fun W (hb : Below w.heap.size w W) => autos_any W _ t (HT.out.keep (Keeps.below hb)))
  rw [hE1] at H1
  rw [hE2] at H2
  have hk1 : isHomB t s f = hasR (listRows t s false) f (lnx (listRows t s false)) := by
    rw [Bool.eq_iff_iff, hasR_all, hR1, mem_homs ev1]
    unfold isHomB
    simp [ev1, ev2]
  have hk2 : hasR (listRows t t true) f (lnx (listRows t t true)) = (isHomB t t f && decide (lnx (imgRes t t f) = lnx t)) := by
    rw [Bool.eq_iff_iff, hasR_all, hR2, mem_homs ev1, Bool.and_eq_true, decide_eq_true_eq]
    have e : isHomB t t f = homL (lnx t) (lnx t) (tabOf t) (tabOf t) f := by unfold isHomB; simp [ev1]
    constructor
    · rintro ⟨ha, hb⟩
      obtain ⟨p1, p2, _⟩ := homL_inv ha
      refine ⟨by rw [e]; exact ha, ?_⟩
      unfold imgRes
      rw [e, if_pos ha, lnx_natsOf]
      exact (inj_img p1 p2).1 (hb rfl)
    · rintro ⟨ha, hb⟩
      rw [e] at ha
      obtain ⟨p1, p2, _⟩ := homL_inv ha
      refine ⟨ha, fun _ => (inj_img p1 p2).2 ?_⟩
      unfold imgRes at hb
      rw [e, if_pos ha, lnx_natsOf] at hb
      exact hb
  have hl1 : lnx (listRows t s false) ≤ 2000 := by rw [hR1]; simp [lnx] at hc1 ⊢; omega
  have hl2 : lnx (listRows t t true) ≤ 2000 := by rw [hR2]; simp [lnx] at hc2 ⊢; omega
  obtain ⟨R1, hR1'⟩ : ∃ R, listRows t s false = R := ⟨_, rfl⟩
  obtain ⟨R2, hR2'⟩ : ∃ R, listRows t t true = R := ⟨_, rfl⟩
  rw [hR1'] at H1 hk1 hl1
  rw [hR2'] at H2 hk2 hl2
  have HK1 := Lib.hid hk1
  have HK2 := Lib.hid hk2
  clear hs1 hs2 hm1 hm2 hc1 hc2 hE1 hE2 hR1 hR2 hR1' hR2' hk1 hk2 ev1 ev2
  have HI1 := Lib.hid (fun W (hb : Below w.heap.size w W) => isHomProg_any W _ _ _ t s f (HT.out.keep (Keeps.below hb)) (HS.out.keep (Keeps.below hb)) (HF.out.keep (Keeps.below hb)))
  have HI2 := Lib.hid (fun W (hb : Below w.heap.size w W) => isHomProg_any W _ _ _ t t f (HT.out.keep (Keeps.below hb)) (HT.out.keep (Keeps.below hb)) (HF.out.keep (Keeps.below hb)))
  have HIM := Lib.hid (fun W (hb : Below w.heap.size w W) => image_any W _ _ _ t t f (HT.out.keep (Keeps.below hb)) (HT.out.keep (Keeps.below hb)) (HF.out.keep (Keeps.below hb)))
  go_enter Try.func5, Try.ntmps5
  go_wp2_with fail
  refine L1.out.mono ?_
  rintro e w1 ⟨rfl, q, rfl⟩
  clear L1
  go_wp2_with fail
  refine (L2.out q).mono ?_
  rintro e w1 ⟨rfl, q2, rfl⟩
  clear L2
  have HB0 := Lib.hid (Below.quiet (quiet2 w q q2))
  rw [drew_add] at HB0 ⊢
  go_wp2_with fail
  refine (H1.out _ HB0.out).mono ?_
  rintro e w1 ⟨v1, rfl, hr1, hb1⟩
  have HB1 := Lib.hid (belowThen HB0.out hb1)
  have HR1 := Lib.hid hr1
  clear H1 hr1 hb1 HB0
  go_wp2_with fail
  refine (H2.out w1 HB1.out).mono ?_
  rintro e w2 ⟨v2, rfl, hr2, hb2⟩
  have HB2 := Lib.hid (belowThen HB1.out hb2)
  have HR2 := Lib.hid hr2
  have HR1' := Lib.hid (HR1.out.keep (Keeps.below hb2))
  clear H2 hr2 hb2 HB1 HR1
  have hr1 := HR1'.out
  obtain ⟨ra, rc, rfl, hrc1, hrc2, hr1c⟩ := hr1
  have hr2 := HR2.out
  obtain ⟨sa, sc, rfl, hsc1, hsc2, hr2c⟩ := hr2
  have HR1C := Lib.hid hr1c
  have HR2C := Lib.hid hr2c
  have HF2 := Lib.hid (HF.out.keep (Keeps.below HB2.out))
  clear hr1c hr2c HR1' HR2
  go_wp2
  go_loopw [11, 45] (fun b i wr => ∃ k : Nat, k ≤ lnx R1 ∧ i = .int .i64 k ∧ b = .bool (hasR R1 f k) ∧ ∃ q, wr = w2.drewN q) (fun _ i _ => lnx R1 - (intOf i).toNat)
  case atStart => exact ⟨0, by omega, rfl, by simp [hasR], by first | exact ⟨0, rfl⟩ | exact ⟨_, rfl⟩⟩
  case round =>
    obtain ⟨k, hk, rfl, rfl, q5, rfl⟩ := hrel
    by_cases hlt : k < lnx R1
    · obtain ⟨b1, o1, rfl, hc⟩ := HR1C.out (by omega)
      obtain ⟨x, hx, hxi⟩ := hc k hlt
      have HSM := Lib.hid (same_any (w2.drewN q5) x _ _ _ (hxi.keep (Keeps.drewN w2 q5)) (HF2.out.keep (Keeps.drewN w2 q5)))
      have HSU := Lib.hid (hasR_succ R1 f k)
      obtain ⟨xa, xc, rfl, -, -, -⟩ := hxi
      clear hc
      cases hh : hasR R1 f k with
      | true =>
        rw [hh, Bool.true_or] at HSU
        clear hh HSM
        go_wp2
        go_roundw
        case rel => exact ⟨k + 1, by omega, by go_num, by rw [HSU.out], ⟨_, rfl⟩⟩
        case measure => simp [intOf]; omega
      | false =>
        rw [hh, Bool.false_or] at HSU
        clear hh
        go_wp2_with fail
        refine HSM.out.mono ?_
        rintro e w5 ⟨rfl, q6, rfl⟩
        clear HSM
        go_wp2
        go_roundw
        case rel => exact ⟨k + 1, by omega, by go_num, by rw [HSU.out], first_drew⟩
        case measure => simp [intOf]; omega
    · obtain rfl : k = lnx R1 := by omega
      clear hk hlt
      go_wp2
      go_loopw [12, 58] (fun b i wr => ∃ k : Nat, k ≤ lnx R2 ∧ i = .int .i64 k ∧ b = .bool (hasR R2 f k) ∧ ∃ q, wr = w2.drewN q) (fun _ i _ => lnx R2 - (intOf i).toNat)
      case atStart => exact ⟨0, by omega, rfl, by simp [hasR], by first | exact ⟨0, rfl⟩ | exact ⟨_, rfl⟩⟩
      case round =>
        obtain ⟨k, hk, rfl, rfl, q5, rfl⟩ := hrel
        by_cases hlt : k < lnx R2
        · obtain ⟨b1, o1, rfl, hc⟩ := HR2C.out (by omega)
          obtain ⟨x, hx, hxi⟩ := hc k hlt
          have HSM := Lib.hid (same_any (w2.drewN q5) x _ _ _ (hxi.keep (Keeps.drewN w2 q5)) (HF2.out.keep (Keeps.drewN w2 q5)))
          have HSU := Lib.hid (hasR_succ R2 f k)
          obtain ⟨xa, xc, rfl, -, -, -⟩ := hxi
          clear hc
          cases hh : hasR R2 f k with
          | true =>
            rw [hh, Bool.true_or] at HSU
            clear hh HSM
            go_wp2
            go_roundw
            case rel => exact ⟨k + 1, by omega, by go_num, by rw [HSU.out], ⟨_, rfl⟩⟩
            case measure => simp [intOf]; omega
          | false =>
            rw [hh, Bool.false_or] at HSU
            clear hh
            go_wp2_with fail
            refine HSM.out.mono ?_
            rintro e w5 ⟨rfl, q6, rfl⟩
            clear HSM
            go_wp2
            go_roundw
            case rel => exact ⟨k + 1, by omega, by go_num, by rw [HSU.out], first_drew⟩
            case measure => simp [intOf]; omega
        · obtain rfl : k = lnx R2 := by omega
          clear hk hlt
          have HB3 := Lib.hid (belowThen HB2.out (Below.quiet ⟨q5, rfl⟩))
          rw [← HK1.out, HK2.out]
          obtain ⟨r1, hr1⟩ : ∃ r, isHomB t s f = r := ⟨_, rfl⟩
          obtain ⟨r2, hr2⟩ : ∃ r, isHomB t t f = r := ⟨_, rfl⟩
          rw [hr1] at HI1 ⊢
          rw [hr2] at HI2 ⊢
          have g0 : (r1 == r1) = true := by simp
          clear hr1 hr2 HK1 HK2
          go_wp2_with fail
          refine (HI1.out _ HB3.out).mono ?_
          rintro e w6 ⟨rfl, hb6⟩
          have HB6 := Lib.hid (belowThen HB3.out hb6)
          clear HI1 hb6 HB3
          go_wp2_with fail
          refine (HI2.out _ HB6.out).mono ?_
          rintro e w7 ⟨rfl, hb7⟩
          have HB7 := Lib.hid (belowThen HB6.out hb7)
          clear HI2 hb7 HB6
          cases r2 with
          | false =>
            have HA := Lib.hid (awake_any w7)
            go_wp2_with fail
            refine HA.out.mono ?_
            rintro e w8 ⟨rfl, hb8⟩
            have HB8 := Lib.hid (belowThen HB7.out hb8)
            clear hb8 HA HB7
            go_wp2
            go_ret
            exact ⟨rfl, HB8.out⟩
          | true =>
            go_wp2_with fail
            refine (HIM.out _ HB7.out).mono ?_
            rintro e w8 ⟨v8, rfl, hi8, hb8⟩
            have HB8 := Lib.hid (belowThen HB7.out hb8)
            obtain ⟨ia, ic, rfl, -, -, -⟩ := hi8
            have HA := Lib.hid (awake_any w8)
            by_cases hlen : lnx (imgRes t t f) = lnx t
            · have g1 : ((lnx (imgRes t t f) : Int) == (lnx t : Int)) = true := beq_t (by rw [hlen])
              have g2 : decide (lnx (imgRes t t f) = lnx t) = true := by simpa using hlen
              clear hb8 HB7 hlen HIM
              go_wp2_with fail
              refine HA.out.mono ?_
              rintro e w9 ⟨rfl, hb9⟩
              have HB9 := Lib.hid (belowThen HB8.out hb9)
              clear hb9 HA HB8
              go_wp2
              go_ret
              exact ⟨rfl, HB9.out⟩
            · have g1 : ((lnx (imgRes t t f) : Int) == (lnx t : Int)) = false := beq_f (by omega)
              have g2 : decide (lnx (imgRes t t f) = lnx t) = false := by simpa using hlen
              clear hb8 HB7 hlen HIM
              go_wp2_with fail
              refine HA.out.mono ?_
              rintro e w9 ⟨rfl, hb9⟩
              have HB9 := Lib.hid (belowThen HB8.out hb9)
              clear hb9 HA HB8
              go_wp2
              go_ret
              exact ⟨rfl, HB9.out⟩
end Go.Proofs.Ytgghmjnbkbiffaa
