/-
  The walk of the law MorphLists.
-/
import Derived.Test.YtgghmjnbkbiffaaSearchW
namespace Go.Proofs.Ytgghmjnbkbiffaa
open Go.RowKit
set_option linter.unusedVariables false

theorem pow_small {n m : Nat} (hn : n ≤ 5) (hm : m ≤ 4) : m ^ n ≤ 1024 := by
  have h1 : m ^ n ≤ 4 ^ n := Nat.pow_le_pow_left hm n
  have h2 : 4 ^ n ≤ 4 ^ 5 := Nat.pow_le_pow_right (by omega) hn
  omega
theorem homsT_small {t s : List (List Int)} {inj : Bool} (hn : lnx t ≤ 5) (hm : lnx s ≤ 4) : lnx (homsT t s inj) ≤ 1024 := Nat.le_trans (lexExt_len _ _ _ _) (pow_small hn hm)

theorem lists_walk (w : World) (v u : Value) (t s : List (List Int)) (ht : Rows2 w v t) (hs : Rows2 w u s) :
    Calls Try.prog 3 #[v, u] w fun e w' => e = .returned (.bool true) ∧ Below w.heap.size w w' := by
  have H1 := Lib.hid (maySearch_any w v u t s ht hs)
  have HT := Lib.hid ht
  have HS := Lib.hid hs
  obtain ⟨a, cap, rfl, h1, h2, -⟩ := ht
  obtain ⟨a', cap', rfl, h1', h2', -⟩ := hs
  by_cases e1 : mayErr t s = 0
  case neg =>
    have hb : (mayErr t s != 0) = true := bne_t e1
    have hb2 : (mayErr t s == mayErr t s) = true := beq_t rfl
    have hE : listErr t s false = mayErr t s := by unfold listErr; rw [if_pos e1]
    have hR : listRows t s false = [] := by unfold listRows; rw [hE, if_neg e1]
    have HH := Lib.hid (fun q => homs_any (w.drewN q) _ _ t s (HT.out.keep (Keeps.drewN w q)) (HS.out.keep (Keeps.drewN w q)))
    rw [hE, hR] at HH
    clear hE hR
    go_enter Try.func3, Try.ntmps3
    go_wp2_with fail
    refine H1.out.mono ?_
    rintro e w' ⟨rfl, q, rfl⟩
    clear H1
    go_wp2_with fail
    refine (HH.out q).mono ?_
    rintro e w2 ⟨vr, rfl, hr, hb3⟩
    obtain ⟨ra, rc, rfl, -, -, -⟩ := hr
    rw [lnx_nil]
    have HB := Lib.hid (belowThen (Below.quiet ⟨q, rfl⟩) hb3)
    have HA := Lib.hid (awake_any w2)
    clear HH hb3
    go_wp2_with fail
    refine HA.out.mono ?_
    rintro e w3 ⟨rfl, hb4⟩
    have HB4 := Lib.hid (belowThen HB.out hb4)
    clear hb4 HA HB
    go_wp2
    go_ret
    exact ⟨rfl, HB4.out⟩
  rw [e1] at H1
  have e0 := mayErr_inv e1
  obtain ⟨ev1, ev2, l1, l2⟩ := e0
  by_cases hsm : 5 < lnx t ∨ 4 < lnx s
  · have HSM := Lib.hid hsm
    clear hsm e1 ev1 ev2
    by_cases h5 : 5 < lnx t
    all_goals
      try (have h6 : 4 < lnx s := by have := HSM.out; omega)
      go_enter Try.func3, Try.ntmps3
      go_wp2_with fail
      refine H1.out.mono ?_
      rintro e w' ⟨rfl, q, rfl⟩
      clear H1
      have HA := Lib.hid (awake_any (w.drewN q))
      go_wp2_with fail
      refine HA.out.mono ?_
      rintro e w3 ⟨rfl, hb4⟩
      have HB4 := Lib.hid (belowThen (Below.quiet ⟨q, rfl⟩) hb4)
      clear hb4 HA
      go_wp2
      go_ret
      exact ⟨rfl, HB4.out⟩
  · have l5 : lnx t ≤ 5 := by omega
    have l4 : lnx s ≤ 4 := by omega
    have hcnt := homsT_small (inj := false) l5 l4
    have hE : listErr t s false = 0 := by unfold listErr; rw [e1, if_neg (by simp), if_neg (by omega)]
    have hR : listRows t s false = (homsT t s false).map natsOf := by unfold listRows; rw [hE, if_pos rfl]
    have HH := Lib.hid (fun q => homs_any (w.drewN q) _ _ t s (HT.out.keep (Keeps.drewN w q)) (HS.out.keep (Keeps.drewN w q)))
    rw [hE, hR] at HH
    have htab := Tab.of_rows HT.out (vErr_inv ev1).1
    have hsab := Tab.of_rows HS.out (vErr_inv ev2).1
    have HG := Lib.hid (fun W (hb : Below w.heap.size w W) => refHoms_any W _ _ _ _ false _ _ 2000 (htab.keep (Keeps.below hb)) (hsab.keep (Keeps.below hb)) (by omega) (by omega) l1 l2)
    have htk : (homs (lnx t) (lnx s) (tabOf t) (tabOf s) false).take 2000 = homsT t s false := List.take_of_length_le (show lnx (homsT t s false) ≤ 2000 by omega)
    rw [htk] at HG
    clear hE hR e1 hsm ev1 ev2 htab hsab htk hcnt
    go_enter Try.func3, Try.ntmps3
    go_wp2_with fail
    refine H1.out.mono ?_
    rintro e w' ⟨rfl, q, rfl⟩
    clear H1
    go_wp2_with fail
    refine (HH.out q).mono ?_
    rintro e w2 ⟨vr, rfl, hr, hb3⟩
    have HR := Lib.hid hr
    have HB := Lib.hid (belowThen (Below.quiet ⟨q, rfl⟩) hb3)
    clear HH hb3 hr
    go_wp2_with fail
    refine (HG.out w2 HB.out).mono ?_
    rintro e w3 ⟨vs, rfl, hr3, hb3⟩
    have hsame := sameRows_any w3 vr vs _ _ (HR.out.keep (Keeps.below hb3)) hr3
    rw [sameRowsB_t rfl] at hsame
    have HSA := Lib.hid hsame
    have HB3 := Lib.hid (belowThen HB.out hb3)
    clear HG hb3 hr3 HR hsame HB
    go_wp2_with fail
    refine HSA.out.mono ?_
    rintro e w4 ⟨rfl, hq⟩
    have HB4 := Lib.hid (belowThen HB3.out (Below.quiet hq))
    have HA := Lib.hid (awake_any w4)
    clear HSA hq HB3
    go_wp2_with fail
    refine HA.out.mono ?_
    rintro e w5 ⟨rfl, hb5⟩
    have HB5 := Lib.hid (belowThen HB4.out hb5)
    clear hb5 HA HB4
    go_wp2
    go_ret
    exact ⟨rfl, HB5.out⟩
end Go.Proofs.Ytgghmjnbkbiffaa
