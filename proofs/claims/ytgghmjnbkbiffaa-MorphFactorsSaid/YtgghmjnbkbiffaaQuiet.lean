/-
  Walks of functions that only read: In, within, Same, SameRows, MaySearch, small, large.
-/
import Derived.Test.YtgghmjnbkbiffaaRef14
namespace Go.Proofs.Ytgghmjnbkbiffaa
open Go.RowKit
set_option linter.unusedVariables false

open Classical in
/-- All numbers are from 0 to n - 1. -/
noncomputable def inB (n : Nat) (xs : List Int) : Bool := decide (∀ i, i < lnx xs → 0 ≤ nthx xs i ∧ nthx xs i < (n : Int))
theorem inB_t {n : Nat} {xs : List Int} (h : ∀ i, i < lnx xs → 0 ≤ nthx xs i ∧ nthx xs i < (n : Int)) : inB n xs = true := decide_eq_true h
theorem inB_f {n : Nat} {xs : List Int} (i : Nat) (hi : i < lnx xs) (h : ¬ (0 ≤ nthx xs i ∧ nthx xs i < (n : Int))) : inB n xs = false := decide_eq_false (fun H => h (H i hi))
theorem inB_inv {n : Nat} {xs : List Int} (h : inB n xs = true) : ∀ i, i < lnx xs → 0 ≤ nthx xs i ∧ nthx xs i < (n : Int) := of_decide_eq_true h

set_option maxHeartbeats 400000 in
theorem inRef_any (w : World) (ta : Option Addr) (tc : Nat) (n : Nat) (hn : n ≤ 9223372036854775807) (v : Value) (xs : List Int) (hv : Ints w v xs) :
    Calls Try.prog 49 #[.slice ta n tc, v] w fun e w' => e = .returned (.bool (inB n xs)) ∧ w = w' := by
  obtain ⟨a, cap, rfl, hcap, hmx, hv⟩ := hv
  have HV := Lib.hid hv
  clear hv
  go_enter Try.func49, Try.ntmps49
  go_wp2
  go_loop [9] (fun i => ∃ k : Nat, k ≤ lnx xs ∧ i = .int .i64 k ∧ (∀ r, r < k → 0 ≤ nthx xs r ∧ nthx xs r < (n : Int))) (fun i => lnx xs - (intOf i).toNat)
  case atStart => exact ⟨0, by omega, rfl, by omega⟩
  case round =>
    obtain ⟨k, hk, rfl, hr⟩ := hrel
    have HR := Lib.hid hr
    clear hr
    by_cases hlt : k < lnx xs
    · obtain ⟨b, o, rfl, hc⟩ := HV.out (by omega)
      have hck := hc k hlt
      clear hc
      by_cases hin : 0 ≤ nthx xs k ∧ nthx xs k < (n : Int)
      · obtain ⟨hi1, hi2⟩ := hin
        go_wp2
        go_round
        case rel => exact ⟨k + 1, by omega, by go_num, fun i hi => by
                by_cases hij : i < k
                · exact HR.out i hij
                · obtain rfl : i = k := by omega
                  exact ⟨hi1, hi2⟩⟩
        case measure => simp [intOf]; omega
      · go_wp2
        all_goals
          go_ret
          exact ⟨ret_bool (inB_f k hlt hin).symm, rfl⟩
    · go_wp2
      go_ret
      exact ⟨ret_bool (inB_t (fun i hi => HR.out i (by omega))).symm, rfl⟩

set_option maxHeartbeats 400000 in
theorem within_any (w : World) (n : Nat) (hn : n ≤ 9223372036854775807) (v : Value) (xs : List Int) (hv : Ints w v xs) :
    Calls Try.prog 65 #[v, .int .i64 n] w fun e w' => e = .returned (.bool (inB n xs)) ∧ w = w' := by
  obtain ⟨a, cap, rfl, hcap, hmx, hv⟩ := hv
  have HV := Lib.hid hv
  clear hv
  go_enter Try.func65, Try.ntmps65
  go_wp2
  go_loop [9] (fun i => ∃ k : Nat, k ≤ lnx xs ∧ i = .int .i64 k ∧ (∀ r, r < k → 0 ≤ nthx xs r ∧ nthx xs r < (n : Int))) (fun i => lnx xs - (intOf i).toNat)
  case atStart => exact ⟨0, by omega, rfl, by omega⟩
  case round =>
    obtain ⟨k, hk, rfl, hr⟩ := hrel
    have HR := Lib.hid hr
    clear hr
    by_cases hlt : k < lnx xs
    · obtain ⟨b, o, rfl, hc⟩ := HV.out (by omega)
      have hck := hc k hlt
      clear hc
      by_cases hin : 0 ≤ nthx xs k ∧ nthx xs k < (n : Int)
      · obtain ⟨hi1, hi2⟩ := hin
        go_wp2
        go_round
        case rel => exact ⟨k + 1, by omega, by go_num, fun i hi => by
                by_cases hij : i < k
                · exact HR.out i hij
                · obtain rfl : i = k := by omega
                  exact ⟨hi1, hi2⟩⟩
        case measure => simp [intOf]; omega
      · go_wp2
        all_goals
          go_ret
          exact ⟨ret_bool (inB_f k hlt hin).symm, rfl⟩
    · go_wp2
      go_ret
      exact ⟨ret_bool (inB_t (fun i hi => HR.out i (by omega))).symm, rfl⟩

/-- Two lists are equal. -/
theorem list_ext {α : Type} [Inhabited α] {xs ys : List α} (hl : lnx xs = lnx ys) (h : ∀ i, i < lnx xs → nthx xs i = nthx ys i) : xs = ys := by
  apply List.ext_getElem hl
  intro i h1 h2
  have := h i h1
  simpa [nthx, h1, h2] using this

def sameB (xs ys : List Int) : Bool := xs == ys
theorem sameB_t {xs ys : List Int} (h : xs = ys) : sameB xs ys = true := by simp [sameB, h]
theorem sameB_f {xs ys : List Int} (h : xs ≠ ys) : sameB xs ys = false := by simp [sameB, h]
def sameRowsB (xs ys : List (List Int)) : Bool := xs == ys
theorem sameRowsB_t {xs ys : List (List Int)} (h : xs = ys) : sameRowsB xs ys = true := by simp [sameRowsB, h]
theorem sameRowsB_f {xs ys : List (List Int)} (h : xs ≠ ys) : sameRowsB xs ys = false := by simp [sameRowsB, h]

set_option maxHeartbeats 400000 in
theorem same_any (w : World) (v u : Value) (xs ys : List Int) (hv : Ints w v xs) (hu : Ints w u ys) :
    Calls Try.prog 24 #[v, u] w fun e w' => e = .returned (.bool (sameB xs ys)) ∧ Quiet w w' := by
  obtain ⟨a, cap, rfl, hcap, hmx, hv⟩ := hv
  obtain ⟨a', cap', rfl, hcap', hmx', hu⟩ := hu
  have HV := Lib.hid hv
  have HU := Lib.hid hu
  clear hv hu
  by_cases hl : lnx xs = lnx ys
  case neg =>
    have hb : ((lnx xs : Int) != (lnx ys : Int)) = true := bne_t (by omega)
    have hne : xs ≠ ys := fun h => hl (by rw [h])
    go_enter Try.func24, Try.ntmps24
    go_wp2
    go_ret
    exact ⟨ret_bool (sameB_f hne).symm, Quiet.refl _⟩
  have hb : ((lnx xs : Int) != (lnx ys : Int)) = false := bne_f (by rw [hl])
  have hle : lnx xs ≤ lnx ys := by omega
  have hge : lnx ys ≤ lnx xs := by omega
  have HL := Lib.hid hl
  clear hl
  go_enter Try.func24, Try.ntmps24
  go_wp2
  go_loopw [13] (fun i wr => ∃ k : Nat, k ≤ lnx xs ∧ i = .int .i64 k ∧ (∃ q, wr = w.drewN q) ∧ (∀ r, r < k → nthx xs r = nthx ys r)) (fun i _ => lnx xs - (intOf i).toNat)
  case atStart => exact ⟨0, by omega, rfl, ⟨0, rfl⟩, by omega⟩
  case round =>
    obtain ⟨k, hk, rfl, ⟨q, rfl⟩, hr⟩ := hrel
    have HR := Lib.hid hr
    clear hr
    by_cases hlt : k < lnx xs
    · obtain ⟨b, o, rfl, hc⟩ := HV.out (by omega)
      have hck := hc k hlt
      obtain ⟨b', o', rfl, hc'⟩ := HU.out (by omega)
      have hck' := hc' k (by omega)
      have hlt' : k < lnx ys := by omega
      clear hc hc'
      by_cases hin : nthx xs k = nthx ys k
      · have HI := Lib.hid hin
        have hbb : (nthx xs k != nthx ys k) = false := bne_f hin
        clear hin
        go_wp2
        go_quiet (fail)
        go_wp2
        go_roundw
        case rel => exact ⟨k + 1, by omega, by go_num, ⟨_, rfl⟩, fun i hi => by
                by_cases hij : i < k
                · exact HR.out i hij
                · obtain rfl : i = k := by omega
                  exact HI.out⟩
        case measure => simp [intOf]; omega
      · have hbb : (nthx xs k != nthx ys k) = true := bne_t hin
        go_wp2
        go_quiet (fail)
        go_wp2
        go_ret
        exact ⟨ret_bool (sameB_f (fun h => hin (by rw [h]))).symm, quiet2 _ _ _⟩
    · go_wp2
      go_ret
      exact ⟨ret_bool (sameB_t (list_ext HL.out (fun i hi => HR.out i (by omega)))).symm, ⟨_, rfl⟩⟩

theorem quiet_call {P : Program} {f : FuncId} {args : Array Value} {w : World} {n : Nat} {v : Value}
    (h : Calls P f args (w.drewN n) fun e w' => e = .returned v ∧ Quiet (w.drewN n) w') : Calls P f args (w.drewN n) fun e w'' => e = .returned v ∧ ∃ m, w'' = w.drewN m :=
  h.mono fun _ _ ⟨he, m, hm⟩ => ⟨he, n + m, by rw [hm, World.drewN_drewN]⟩
theorem quiet_call0 {P : Program} {f : FuncId} {args : Array Value} {w : World} {v : Value}
    (h : Calls P f args w fun e w' => e = .returned v ∧ Quiet w w') : Calls P f args w fun e w'' => e = .returned v ∧ ∃ m, w'' = w.drewN m := h
theorem quiet_callA {P : Program} {f : FuncId} {args : Array Value} {w : World} {a n : Nat} {v : Value}
    (h : Calls P f args (w.drewN (a + n)) fun e w' => e = .returned v ∧ Quiet (w.drewN (a + n)) w') :
    Calls P f args (w.drewN (a + n)) fun e w'' => e = .returned v ∧ ∃ m, w'' = w.drewN (a + m) :=
  h.mono fun _ _ ⟨he, m, hm⟩ => ⟨he, n + m, by rw [hm, World.drewN_drewN, Nat.add_assoc]⟩

set_option maxHeartbeats 400000 in
theorem sameRows_any (w : World) (v u : Value) (xs ys : List (List Int)) (hv : Rows2 w v xs) (hu : Rows2 w u ys) :
    Calls Try.prog 20 #[v, u] w fun e w' => e = .returned (.bool (sameRowsB xs ys)) ∧ Quiet w w' := by
  obtain ⟨a, cap, rfl, hcap, hmx, hv⟩ := hv
  obtain ⟨a', cap', rfl, hcap', hmx', hu⟩ := hu
  have HV := Lib.hid hv
  have HU := Lib.hid hu
  clear hv hu
  by_cases hl : lnx xs = lnx ys
  case neg =>
    have hb : ((lnx xs : Int) != (lnx ys : Int)) = true := bne_t (by omega)
    have hne : xs ≠ ys := fun h => hl (by rw [h])
    go_enter Try.func20, Try.ntmps20
    go_wp2
    go_ret
    exact ⟨ret_bool (sameRowsB_f hne).symm, Quiet.refl _⟩
  have hb : ((lnx xs : Int) != (lnx ys : Int)) = false := bne_f (by rw [hl])
  have hle : lnx xs ≤ lnx ys := by omega
  have hge : lnx ys ≤ lnx xs := by omega
  have HL := Lib.hid hl
  clear hl
  go_enter Try.func20, Try.ntmps20
  go_wp2
  go_loopw [13] (fun i wr => ∃ k : Nat, k ≤ lnx xs ∧ i = .int .i64 k ∧ (∃ q, wr = w.drewN q) ∧ (∀ r, r < k → nthx xs r = nthx ys r)) (fun i _ => lnx xs - (intOf i).toNat)
  case atStart => exact ⟨0, by omega, rfl, ⟨0, rfl⟩, by omega⟩
  case round =>
    obtain ⟨k, hk, rfl, ⟨q, rfl⟩, hr⟩ := hrel
    have HR := Lib.hid hr
    clear hr
    by_cases hlt : k < lnx xs
    · obtain ⟨b, o, rfl, hc⟩ := HV.out (by omega)
      obtain ⟨x, hck, hsx⟩ := hc k hlt
      obtain ⟨b', o', rfl, hc'⟩ := HU.out (by omega)
      obtain ⟨y, hck', hsy⟩ := hc' k (by omega)
      have hlt' : k < lnx ys := by omega
      have HS := Lib.hid (fun q => same_any (w.drewN q) x y _ _ (hsx.keep (Keeps.drewN w q)) (hsy.keep (Keeps.drewN w q)))
      clear hc hc' hsx hsy
      by_cases hin : nthx xs k = nthx ys k
      · have HI := Lib.hid hin
        have hbb : sameB (nthx xs k) (nthx ys k) = true := sameB_t hin
        clear hin
        rw [hbb] at HS
        go_wp2
        go_quiet ((go_at_call 24; exact quiet_callA (HS.out _)))
        go_wp2
        go_roundw
        case rel => exact ⟨k + 1, by omega, by go_num, ⟨_, rfl⟩, fun i hi => by
                by_cases hij : i < k
                · exact HR.out i hij
                · obtain rfl : i = k := by omega
                  exact HI.out⟩
        case measure => simp [intOf]; omega
      · have hbb : sameB (nthx xs k) (nthx ys k) = false := sameB_f hin
        rw [hbb] at HS
        go_wp2
        go_quiet ((go_at_call 24; exact quiet_callA (HS.out _)))
        go_wp2
        go_ret
        exact ⟨ret_bool (sameRowsB_f (fun h => hin (by rw [h]))).symm, quiet2 _ _ _⟩
    · go_wp2
      go_ret
      exact ⟨ret_bool (sameRowsB_t (list_ext HL.out (fun i hi => HR.out i (by omega)))).symm, ⟨_, rfl⟩⟩
end Go.Proofs.Ytgghmjnbkbiffaa
