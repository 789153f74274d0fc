/-
  Walks: the shape of a table (semigroupref14.Shape, mult.shape).
-/
import Derived.Test.YtgghmjnbkbiffaaM14
namespace Go.Proofs.Ytgghmjnbkbiffaa
open Go.RowKit
set_option linter.unusedVariables false

set_option maxHeartbeats 400000 in
theorem shapeRef_any (w : World) (v : Value) (t : List (List Int)) (ht : Rows2 w v t) :
    Calls Try.prog 59 #[v] w fun e w' => e = .returned (.int .i64 (shapeF t)) ∧ w = w' := by
  obtain ⟨a, cap, rfl, hcap, hmx, ht⟩ := ht
  by_cases h400 : 400 < lnx t
  · go_enter Try.func59, Try.ntmps59
    go_wp2
    go_ret
    exact ⟨ret_int (shape_large h400).symm, rfl⟩
  by_cases h0 : 0 < lnx t
  case neg =>
    have h2 : ((lnx t : Int) == 0) = true := beq_t (by omega)
    go_enter Try.func59, Try.ntmps59
    go_wp2
    go_ret
    exact ⟨ret_int (shape_empty h0).symm, rfl⟩
  have h2 : ((lnx t : Int) == 0) = false := beq_f (by omega)
  obtain ⟨b, o, rfl, hc⟩ := ht h0
  have HC := Lib.hid hc
  clear ht hc
  go_enter Try.func59, Try.ntmps59
  go_wp2
  go_loop [15] (fun i => ∃ k : Nat, k ≤ lnx t ∧ i = .int .i64 k ∧ (∀ r, r < k → rowOk t r)) (fun i => lnx t - (intOf i).toNat)
  case atStart => exact ⟨0, by omega, rfl, by omega⟩
  case round =>
    obtain ⟨k, hk, rfl, hr⟩ := hrel
    have HR := Lib.hid hr
    clear hr
    by_cases hlt : k < lnx t
    · obtain ⟨u, hcell, A, C, rfl, hC1, hC2, hin⟩ := HC.out k hlt
      have HIN := Lib.hid hin
      clear hin
      by_cases hlen : lnx (nthx t k) = lnx t
      · have HL := Lib.hid hlen
        clear hlen
        have hb1 : ((lnx (nthx t k) : Int) != (lnx t : Int)) = false := bne_f (by rw [HL.out])
        go_wp2
        go_loop [26] (fun i => ∃ j : Nat, j ≤ lnx (nthx t k) ∧ i = .int .i64 j ∧ (∀ i, i < j → 0 ≤ nthx (nthx t k) i ∧ nthx (nthx t k) i < lnx t)) (fun i => lnx (nthx t k) - (intOf i).toNat)
        case atStart => exact ⟨0, by omega, rfl, by omega⟩
        case round =>
          obtain ⟨j, hj, rfl, hr⟩ := hrel
          have HJ := Lib.hid hr
          clear hr
          have hlb : lnx (nthx t k) ≤ lnx t := by have := HL.out; omega
          by_cases hjlt : j < lnx (nthx t k)
          · obtain ⟨b', o', rfl, hcell'⟩ := HIN.out (by omega)
            have hcj := hcell' j hjlt
            clear hcell'
            by_cases hin : 0 ≤ nthx (nthx t k) j ∧ nthx (nthx t k) j < lnx t
            · obtain ⟨hi1, hi2⟩ := hin
              go_wp2
              go_round
              case rel => exact ⟨j + 1, by omega, by go_num, fun i hi => by
                by_cases hij : i < j
                · exact HJ.out i hij
                · obtain rfl : i = j := by omega
                  exact ⟨hi1, hi2⟩⟩
              case measure => simp [intOf]; omega
            · go_wp2
              all_goals
                go_ret
                exact ⟨ret_int (shape_bad h400 k hlt (fun h => hin (h.2 j hjlt))).symm, rfl⟩
          · go_wp2
            go_round
            case rel => exact ⟨k + 1, by omega, by go_num, fun r hr => by
                by_cases hrk : r < k
                · exact HR.out r hrk
                · obtain rfl : r = k := by omega
                  exact ⟨HL.out, fun i hi => HJ.out i (by omega)⟩⟩
            case measure => simp [intOf]; omega
      · have hb1 : ((lnx (nthx t k) : Int) != (lnx t : Int)) = true := bne_t (by omega)
        go_wp2
        go_ret
        exact ⟨ret_int (shape_bad h400 k hlt (fun h => hlen h.1)).symm, rfl⟩
    · go_wp2
      go_ret
      exact ⟨ret_int (shape_good h400 h0 (fun r hr => HR.out r (by omega))).symm, rfl⟩

set_option maxHeartbeats 400000 in
theorem shapeProg_any (w : World) (v : Value) (t : List (List Int)) (ht : Rows2 w v t) :
    Calls Try.prog 91 #[v] w fun e w' => e = .returned (.int .i64 (shapeF t)) ∧ w = w' := by
  obtain ⟨a, cap, rfl, hcap, hmx, ht⟩ := ht
  by_cases h400 : 400 < lnx t
  · go_enter Try.func91, Try.ntmps91
    go_wp2
    go_ret
    exact ⟨ret_int (shape_large h400).symm, rfl⟩
  by_cases h0 : 0 < lnx t
  case neg =>
    have h2 : ((lnx t : Int) == 0) = true := beq_t (by omega)
    go_enter Try.func91, Try.ntmps91
    go_wp2
    go_ret
    exact ⟨ret_int (shape_empty h0).symm, rfl⟩
  have h2 : ((lnx t : Int) == 0) = false := beq_f (by omega)
  obtain ⟨b, o, rfl, hc⟩ := ht h0
  have HC := Lib.hid hc
  clear ht hc
  go_enter Try.func91, Try.ntmps91
  go_wp2
  go_loop [15] (fun i => ∃ k : Nat, k ≤ lnx t ∧ i = .int .i64 k ∧ (∀ r, r < k → rowOk t r)) (fun i => lnx t - (intOf i).toNat)
  case atStart => exact ⟨0, by omega, rfl, by omega⟩
  case round =>
    obtain ⟨k, hk, rfl, hr⟩ := hrel
    have HR := Lib.hid hr
    clear hr
    by_cases hlt : k < lnx t
    · obtain ⟨u, hcell, A, C, rfl, hC1, hC2, hin⟩ := HC.out k hlt
      have HIN := Lib.hid hin
      clear hin
      by_cases hlen : lnx (nthx t k) = lnx t
      · have HL := Lib.hid hlen
        clear hlen
        have hb1 : ((lnx (nthx t k) : Int) != (lnx t : Int)) = false := bne_f (by rw [HL.out])
        go_wp2
        go_loop [26] (fun i => ∃ j : Nat, j ≤ lnx (nthx t k) ∧ i = .int .i64 j ∧ (∀ i, i < j → 0 ≤ nthx (nthx t k) i ∧ nthx (nthx t k) i < lnx t)) (fun i => lnx (nthx t k) - (intOf i).toNat)
        case atStart => exact ⟨0, by omega, rfl, by omega⟩
        case round =>
          obtain ⟨j, hj, rfl, hr⟩ := hrel
          have HJ := Lib.hid hr
          clear hr
          have hlb : lnx (nthx t k) ≤ lnx t := by have := HL.out; omega
          by_cases hjlt : j < lnx (nthx t k)
          · obtain ⟨b', o', rfl, hcell'⟩ := HIN.out (by omega)
            have hcj := hcell' j hjlt
            clear hcell'
            by_cases hin : 0 ≤ nthx (nthx t k) j ∧ nthx (nthx t k) j < lnx t
            · obtain ⟨hi1, hi2⟩ := hin
              go_wp2
              go_round
              case rel => exact ⟨j + 1, by omega, by go_num, fun i hi => by
                by_cases hij : i < j
                · exact HJ.out i hij
                · obtain rfl : i = j := by omega
                  exact ⟨hi1, hi2⟩⟩
              case measure => simp [intOf]; omega
            · go_wp2
              all_goals
                go_ret
                exact ⟨ret_int (shape_bad h400 k hlt (fun h => hin (h.2 j hjlt))).symm, rfl⟩
          · go_wp2
            go_round
            case rel => exact ⟨k + 1, by omega, by go_num, fun r hr => by
                by_cases hrk : r < k
                · exact HR.out r hrk
                · obtain rfl : r = k := by omega
                  exact ⟨HL.out, fun i hi => HJ.out i (by omega)⟩⟩
            case measure => simp [intOf]; omega
      · have hb1 : ((lnx (nthx t k) : Int) != (lnx t : Int)) = true := bne_t (by omega)
        go_wp2
        go_ret
        exact ⟨ret_int (shape_bad h400 k hlt (fun h => hlen h.1)).symm, rfl⟩
    · go_wp2
      go_ret
      exact ⟨ret_int (shape_good h400 h0 (fun r hr => HR.out r (by omega))).symm, rfl⟩
end Go.Proofs.Ytgghmjnbkbiffaa
