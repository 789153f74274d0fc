/-
  Walks: semigroupref14.Associative, Validate, Valid; semigrouplaw20.small, large.
-/
import Derived.Test.YtgghmjnbkbiffaaShape
namespace Go.Proofs.Ytgghmjnbkbiffaa
open Go.RowKit
set_option linter.unusedVariables false

def Quiet (w w' : World) : Prop := ∃ k, w' = w.drewN k
theorem Quiet.refl (w : World) : Quiet w w := ⟨0, rfl⟩
theorem Quiet.drewN (w : World) (k : Nat) : Quiet w (w.drewN k) := ⟨k, rfl⟩
theorem Quiet.keeps {w w' : World} (h : Quiet w w') : Keeps w w' := by obtain ⟨k, rfl⟩ := h; exact Keeps.drewN w k

theorem quiet2 (w : World) (a b : Nat) : Quiet w ((w.drewN a).drewN b) := ⟨a + b, World.drewN_drewN w a b⟩
theorem drew_add (w : World) (a b : Nat) : (w.drewN a).drewN b = w.drewN (a + b) := World.drewN_drewN w a b

set_option maxHeartbeats 1000000 in
theorem associative_ok (w : World) (v : Value) (n : Nat) (T : Nat → Nat → Nat) (hv : Tab w v n T)
    (hs : Calls Try.prog 59 #[v] w fun e w' => e = .returned (.int .i64 0) ∧ w = w') :
    Calls Try.prog 86 #[v] w fun e w' => ∃ x y z r : Int, e = .returned (.tuple #[.int .i64 x, .int .i64 y, .int .i64 z, .int .i64 r]) ∧ ((r = 0 ∧ Assoc n T) ∨ (r = 5 ∧ ¬ Assoc n T)) ∧ Quiet w w' := by
  obtain ⟨b, o, cap, rb, ro, rc, rfl, h0, h4, hR, hC, hT⟩ := hv
  have HS := Lib.hid hs
  clear hs
  go_enter Try.func86, Try.ntmps86
  go_wp2_with fail
  refine HS.out.mono ?_
  rintro e w' ⟨rfl, rfl⟩
  clear HS
  go_wp2
  go_loopw [17] (fun i wr => ∃ x : Nat, x ≤ n ∧ i = .int .i64 x ∧ (∃ k, wr = w.drewN k) ∧ ∀ a b c, a < x → b < n → c < n → T (T a b) c = T a (T b c)) (fun i _ => n - (intOf i).toNat)
  case atStart => exact ⟨0, by omega, rfl, ⟨0, rfl⟩, by omega⟩
  case round =>
    obtain ⟨x, hx, rfl, ⟨k1, rfl⟩, hX⟩ := hrel
    have HX := Lib.hid hX
    clear hX
    by_cases hxn : x < n
    · go_wp2
      go_loopw [22] (fun i wr => ∃ y : Nat, y ≤ n ∧ i = .int .i64 y ∧ (∃ k, wr = w.drewN k) ∧ ∀ b c, b < y → c < n → T (T x b) c = T x (T b c)) (fun i _ => n - (intOf i).toNat)
      case atStart => exact ⟨0, by omega, rfl, ⟨_, rfl⟩, by omega⟩
      case round =>
        obtain ⟨y, hy, rfl, ⟨k2, rfl⟩, hY⟩ := hrel
        have HY := Lib.hid hY
        clear hY
        by_cases hyn : y < n
        · go_wp2
          go_loopw [27] (fun i wr => ∃ z : Nat, z ≤ n ∧ i = .int .i64 z ∧ (∃ k, wr = w.drewN k) ∧ ∀ c, c < z → T (T x y) c = T x (T y c)) (fun i _ => n - (intOf i).toNat)
          case atStart => exact ⟨0, by omega, rfl, ⟨_, rfl⟩, by omega⟩
          case round =>
            obtain ⟨z, hz, rfl, ⟨k3, rfl⟩, hZ⟩ := hrel
            have HZ := Lib.hid hZ
            clear hZ
            by_cases hzn : z < n
            · by_cases heq : T (T x y) z = T x (T y z)
              · have HE := Lib.hid heq
                clear heq
                have hne : (((T (T x y) z : Nat) : Int) != ((T x (T y z) : Nat) : Int)) = false := bne_f (by rw [HE.out])
                go_wp2
                go_quiet (fail)
                go_wp2
                go_roundw
                case rel => exact ⟨z + 1, by omega, by go_num, ⟨_, rfl⟩, fun c hc => by
                  by_cases hcz : c < z
                  · exact HZ.out c hcz
                  · obtain rfl : c = z := by omega
                    exact HE.out⟩
                case measure => simp [intOf]; omega
              · have hne : (((T (T x y) z : Nat) : Int) != ((T x (T y z) : Nat) : Int)) = true := bne_t (by omega)
                go_wp2
                go_quiet (fail)
                go_wp2
                refine bodyPost_ret (results_tmp4 rfl _ _ _) rfl ?_
                exact ⟨_, _, _, _, rfl, .inr ⟨rfl, fun h => heq (h x y z hxn hyn hzn)⟩, quiet2 _ _ _⟩
            · go_wp2
              go_roundw
              case rel => exact ⟨y + 1, by omega, by go_num, ⟨_, rfl⟩, fun b c hb hc => by
                by_cases hby : b < y
                · exact HY.out b c hby hc
                · obtain rfl : b = y := by omega
                  exact HZ.out c (by omega)⟩
              case measure => simp [intOf]; omega
        · go_wp2
          go_roundw
          case rel => exact ⟨x + 1, by omega, by go_num, ⟨_, rfl⟩, fun a b c ha hb hc => by
            by_cases hax : a < x
            · exact HX.out a b c hax hb hc
            · obtain rfl : a = x := by omega
              exact HY.out b c (by omega) hc⟩
          case measure => simp [intOf]; omega
    · go_wp2
      refine bodyPost_ret (results_tmp4 rfl _ _ _) rfl ?_
      exact ⟨_, _, _, _, rfl, .inl ⟨rfl, fun a b c ha hb hc => HX.out a b c (by omega) hb hc⟩, ⟨_, rfl⟩⟩

def AssocPost (t : List (List Int)) (w : World) (e : Ending) (w' : World) : Prop :=
  ∃ x y z : Int, e = .returned (.tuple #[.int .i64 x, .int .i64 y, .int .i64 z, .int .i64 (vErr t)]) ∧ Quiet w w'

theorem associative_any (w : World) (v : Value) (t : List (List Int)) (ht : Rows2 w v t) :
    Calls Try.prog 86 #[v] w (AssocPost t w) := by
  have hsh := shapeRef_any w v t ht
  by_cases h0 : shapeF t = 0
  · rw [h0] at hsh
    refine (associative_ok w v _ _ (Tab.of_rows ht h0) hsh).mono ?_
    rintro e w' ⟨x, y, z, r, rfl, hr, hq⟩
    refine ⟨x, y, z, ?_, hq⟩
    rcases hr with ⟨rfl, ha⟩ | ⟨rfl, ha⟩
    · rw [vErr_ok h0 ha]
    · rw [vErr_not h0 ha]
  · have HS := Lib.hid hsh
    obtain ⟨a, cap, rfl, _⟩ := ht
    have hne : (shapeF t != 0) = true := bne_t h0
    have HV := Lib.hid (vErr_shape h0)
    clear hsh
    go_enter Try.func86, Try.ntmps86
    go_wp2_with fail
    refine HS.out.mono ?_
    rintro e w' ⟨rfl, rfl⟩
    clear HS
    go_wp2
    refine bodyPost_ret (results_tmp4 rfl _ _ _) rfl ?_
    exact ⟨_, _, _, by rw [HV.out]; rfl, Quiet.refl _⟩

/-- The reference's Validate. -/
theorem validateRef_any (w : World) (v : Value) (t : List (List Int)) (ht : Rows2 w v t) :
    Calls Try.prog 53 #[v] w fun e w' => e = .returned (.int .i64 (vErr t)) ∧ Quiet w w' := by
  have H := Lib.hid (associative_any w v t ht)
  go_enter Try.func53, Try.ntmps53
  go_wp2_with fail
  refine H.out.mono ?_
  rintro e w' ⟨x, y, z, rfl, hq⟩
  clear H
  have HQ := Lib.hid hq
  clear hq
  go_wp2
  go_ret
  exact ⟨rfl, HQ.out⟩

theorem validRef_any (w : World) (v : Value) (t : List (List Int)) (ht : Rows2 w v t) :
    Calls Try.prog 62 #[v] w fun e w' => e = .returned (.bool (vErr t == 0)) ∧ Quiet w w' := by
  have H := Lib.hid (validateRef_any w v t ht)
  go_enter Try.func62, Try.ntmps62
  go_wp2_with fail
  refine H.out.mono ?_
  rintro e w' ⟨rfl, hq⟩
  clear H
  have HQ := Lib.hid hq
  clear hq
  go_wp2
  go_ret
  exact ⟨rfl, HQ.out⟩
end Go.Proofs.Ytgghmjnbkbiffaa
