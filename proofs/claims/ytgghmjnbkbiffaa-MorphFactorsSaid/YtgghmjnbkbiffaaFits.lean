/-
  The walk of semigroupref20.fits.
-/
import Derived.Test.YtgghmjnbkbiffaaAwake
namespace Go.Proofs.Ytgghmjnbkbiffaa
open Go.RowKit
set_option linter.unusedVariables false

/-- What fits looks at: the pairs in which the last element x takes part. -/
def FitAt (T U : Nat → Nat → Nat) (x : Nat) (p : List Nat) (y z : Nat) : Prop := (y = x ∨ z = x ∨ T y z = x) → T y z < x + 1 → nthx p (T y z) = U (nthx p y) (nthx p z)
def FitRow (T U : Nat → Nat → Nat) (inj : Bool) (x : Nat) (p : List Nat) (y : Nat) : Prop := (inj = true → y ≠ x → nthx p y ≠ nthx p x) ∧ ∀ z, z < x + 1 → FitAt T U x p y z
def FitP (T U : Nat → Nat → Nat) (inj : Bool) (x : Nat) (p : List Nat) : Prop := ∀ y, y < x + 1 → FitRow T U inj x p y

def FitPost (w : World) (T U : Nat → Nat → Nat) (inj : Bool) (x : Nat) (p : List Nat) (e : Ending) (w' : World) : Prop :=
  ∃ r : Bool, e = .returned (.bool r) ∧ (r = true → FitP T U inj x p) ∧ (r = false → ¬ FitP T U inj x p) ∧ Quiet w w'

set_option maxRecDepth 100000 in
set_option maxHeartbeats 2000000 in
theorem fits_any (w : World) (n m : Nat) (T U : Nat → Nat → Nat) (inj : Bool) (vt vu vp : Value) (x : Nat) (p : List Nat) (ht : Tab w vt n T) (hu : Tab w vu m U) (hp : Ints w vp (natsOf p)) (hlen : lnx p = x + 1) (hxn : x < n) (hpm : ∀ i, i < x + 1 → nthx p i < m) :
    Calls Try.prog 89 #[vt, vu, vp, .bool inj] w (FitPost w T U inj x p) := by
  obtain ⟨b, o, cap, rb, ro, rc, rfl, h0, h4, hR, hC, hT⟩ := ht
  obtain ⟨ub, uo, ucap, urb, uro, urc, rfl, uh0, uh4, uR, uC, hU⟩ := hu
  obtain ⟨pa, pc, rfl, hp1, hp2, hp3⟩ := hp
  rw [lnx_natsOf, hlen] at hp1 hp3 ⊢
  obtain ⟨pb, po, rfl, hpc⟩ := hp3 (by omega)
  have hP : ∀ i, i < x + 1 → w.cell? ⟨pb, po + i, none⟩ = some (.int .i64 ((nthx p i : Nat) : Int)) := fun i hi => by
    rw [hpc i hi, nthx_natsOf p (by omega)]
  clear hp3 hpc hlen
  go_enter Try.func89, Try.ntmps89
  go_wp2
  go_loopg [18] (x + 1) (fun kk i wr => ∃ y : Nat, y ≤ x + 1 ∧ x + 1 - y ≤ kk ∧ i = .int .i64 y ∧ (∃ q, wr = w.drewN q) ∧ ∀ a, a < y → FitRow T U inj x p a)
  case atStart => exact ⟨0, by omega, by omega, rfl, ⟨0, rfl⟩, by omega⟩
  case round =>
    obtain ⟨y, hy, hkk, rfl, ⟨q, rfl⟩, hrow⟩ := hrel
    have HROW := Lib.hid hrow
    clear hrow
    by_cases hyx : y < x + 1
    · have hyn : y < n := by omega
      by_cases hcl : inj = true ∧ y ≠ x ∧ nthx p y = nthx p x
      · obtain ⟨rfl, hne, heq⟩ := hcl
        have g1 : ((y : Int) != (x : Int)) = true := bne_t (by omega)
        have g2 : (((nthx p y : Nat) : Int) == ((nthx p x : Nat) : Int)) = true := beq_t (by rw [heq])
        have HNO : Hid (¬ FitP T U true x p) := fun h => (h y hyx).1 rfl hne heq
        clear hne heq
        go_wp2
        go_quiet (fail)
        go_wp2
        go_ret
        exact ⟨false, rfl, fun h => (by cases h), fun _ => HNO.out, quiet2 _ _ _⟩
      · have HINJ : Hid (inj = true → y ≠ x → nthx p y ≠ nthx p x) := fun h1 h2 h3 => hcl ⟨h1, h2, h3⟩
        clear hcl
        go_upto_region 5 with (fail)
        go_cut [37] (fun s wx => s = .bool false ∧ ∃ q, wx = w.drewN q)
        case first =>
          cases inj with
          | false =>
            go_quiet (fail)
            go_wp2
            go_meet
            exact ⟨rfl, quiet2 _ _ _⟩
          | true =>
            by_cases hba : y = x
            · have g1 : ((y : Int) != (x : Int)) = false := bne_f (by omega)
              clear hba
              go_quiet (fail)
              go_wp2
              go_meet
              first | exact ⟨rfl, _, rfl⟩ | exact ⟨rfl, quiet2 _ _ _⟩
            · have g1 : ((y : Int) != (x : Int)) = true := bne_t (by omega)
              have g2 : (((nthx p y : Nat) : Int) == ((nthx p x : Nat) : Int)) = false := beq_f (by have := HINJ.out rfl hba; omega)
              clear hba
              go_quiet (fail)
              go_wp2
              go_meet
              first | exact ⟨rfl, _, rfl⟩ | exact ⟨rfl, quiet2 _ _ _⟩
        case rest =>
          obtain ⟨rfl, q1, rfl⟩ := hcut
          go_wp2
          go_loopg [40] (x + 1) (fun kk i wr => ∃ z : Nat, z ≤ x + 1 ∧ x + 1 - z ≤ kk ∧ i = .int .i64 z ∧ (∃ q, wr = w.drewN q) ∧ ∀ a, a < z → FitAt T U x p y a)
          case atStart => exact ⟨0, by omega, by omega, rfl, ⟨_, rfl⟩, by omega⟩
          case round =>
            obtain ⟨z, hz, hkz, rfl, ⟨q2, rfl⟩, hat⟩ := hrel
            have HAT := Lib.hid hat
            clear hat
            have hnext : FitAt T U x p y z → ∀ a, a < z + 1 → FitAt T U x p y a := fun h a ha => by
              by_cases e : a < z
              · exact HAT.out a e
              · obtain rfl : a = z := by omega
                exact h
            have HNX := Lib.hid hnext
            clear hnext
            by_cases hzx : z < x + 1
            · have hzn : z < n := by omega
              have hTz := hT y z hyn hzn
              by_cases hsk : y ≠ x ∧ z ≠ x ∧ T y z ≠ x
              · obtain ⟨s1, s2, s3⟩ := hsk
                have g1 : ((y : Int) != (x : Int)) = true := bne_t (by omega)
                have g2 : ((z : Int) != (x : Int)) = true := bne_t (by omega)
                have g3 : (((T y z : Nat) : Int) != (x : Int)) = true := bne_t (by omega)
                have HF : Hid (FitAt T U x p y z) := fun h => (by rcases h with h | h | h; exact absurd h s1; exact absurd h s2; exact absurd h s3)
                clear s1 s2 s3
                go_wp2
                go_roundg (x + 1 - (z + 1))
                case measure => omega
                case rel => exact ⟨z + 1, by omega, Nat.le_refl _, by go_num, ⟨_, rfl⟩, HNX.out HF.out⟩
              · have HSK : Hid (y = x ∨ z = x ∨ T y z = x) := by
                  show _
                  by_cases e1 : y = x
                  · exact .inl e1
                  · by_cases e2 : z = x
                    · exact .inr (.inl e2)
                    · exact .inr (.inr (Classical.byContradiction fun e3 => hsk ⟨e1, e2, e3⟩))
                clear hsk
                go_upto_region 10 with (fail)
                go_cut [61] (fun s wx => s = .bool false ∧ wx = w.drewN q2)
                case first =>
                  by_cases e1 : y = x
                  · have g1 : ((y : Int) != (x : Int)) = false := bne_f (by omega)
                    clear e1 HSK
                    go_wp2
                    go_meet
                    exact ⟨rfl, rfl⟩
                  · have g1 : ((y : Int) != (x : Int)) = true := bne_t (by omega)
                    by_cases e2 : z = x
                    · have g2 : ((z : Int) != (x : Int)) = false := bne_f (by omega)
                      clear e1 e2 HSK
                      go_wp2
                      go_meet
                      exact ⟨rfl, rfl⟩
                    · have g2 : ((z : Int) != (x : Int)) = true := bne_t (by omega)
                      have g3 : (((T y z : Nat) : Int) != (x : Int)) = false := bne_f (by rcases HSK.out with h | h | h; exact absurd h e1; exact absurd h e2; omega)
                      clear e1 e2 HSK
                      go_wp2
                      go_meet
                      exact ⟨rfl, rfl⟩
                case rest =>
                  obtain ⟨rfl, rfl⟩ := hcut
                  have hpy := hpm y hyx
                  have hpz := hpm z hzx
                  by_cases hin : T y z < x + 1
                  · have hpT := hpm _ hin
                    have g4 : decide (((T y z : Nat) : Int) < (x : Int) + 1) = true := by simp; omega
                    by_cases heq : nthx p (T y z) = U (nthx p y) (nthx p z)
                    · have g5 : (((nthx p (T y z) : Nat) : Int) != ((U (nthx p y) (nthx p z) : Nat) : Int)) = false := bne_f (by rw [heq])
                      have HF : Hid (FitAt T U x p y z) := fun _ _ => heq
                      clear heq
                      go_wp2
                      go_quiet (fail)
                      go_wp2
                      go_roundg (x + 1 - (z + 1))
                      case measure => omega
                      case rel => exact ⟨z + 1, by omega, Nat.le_refl _, by go_num, ⟨_, rfl⟩, HNX.out HF.out⟩
                    · have g5 : (((nthx p (T y z) : Nat) : Int) != ((U (nthx p y) (nthx p z) : Nat) : Int)) = true := bne_t (by omega)
                      have HNO : Hid (¬ FitP T U inj x p) := fun h => heq ((h y hyx).2 z hzx HSK.out hin)
                      clear heq
                      go_wp2
                      go_quiet (fail)
                      go_wp2
                      go_ret
                      exact ⟨false, rfl, fun h => (by cases h), fun _ => HNO.out, quiet2 _ _ _⟩
                  · have g4 : decide (((T y z : Nat) : Int) < (x : Int) + 1) = false := by simp; omega
                    have HF : Hid (FitAt T U x p y z) := fun _ h => absurd h hin
                    clear hin
                    go_wp2
                    go_quiet (fail)
                    go_wp2
                    go_roundg (x + 1 - (z + 1))
                    case measure => omega
                    case rel => exact ⟨z + 1, by omega, Nat.le_refl _, by go_num, ⟨_, rfl⟩, HNX.out HF.out⟩
            · go_wp2
              go_roundg (x + 1 - (y + 1))
              case measure => omega
              case rel => exact ⟨y + 1, by omega, Nat.le_refl _, by go_num, ⟨_, rfl⟩, fun a ha => by
                by_cases e : a < y
                · exact HROW.out a e
                · obtain rfl : a = y := by omega
                  exact ⟨HINJ.out, fun c hc => HAT.out c (by omega)⟩⟩
    · go_wp2
      go_ret
      exact ⟨true, rfl, fun _ a ha => HROW.out a (by omega), fun h => (by cases h), ⟨_, rfl⟩⟩
end Go.Proofs.Ytgghmjnbkbiffaa
