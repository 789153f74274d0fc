/-
  Walks: morph.isHom, IsHom; semigroupref20.IsHom.
-/
import Derived.Test.YtgghmjnbkbiffaaIso
namespace Go.Proofs.Ytgghmjnbkbiffaa
open Go.RowKit
set_option linter.unusedVariables false

/-- The list as numbers. -/
def nat_ (f : List Int) (i : Nat) : Nat := (nthx f i).toNat

open Classical in
/-- f is a homomorphism of tables of right shape. -/
noncomputable def homL (n m : Nat) (T U : Nat → Nat → Nat) (f : List Int) : Bool := decide (lnx f = n ∧ inB m f = true ∧ ∀ x y, x < n → y < n → nat_ f (T x y) = U (nat_ f x) (nat_ f y))
open Classical in
theorem homL_len {n m : Nat} {T U : Nat → Nat → Nat} {f : List Int} (h : lnx f ≠ n) : homL n m T U f = false := decide_eq_false (fun H => h H.1)
open Classical in
theorem homL_in {n m : Nat} {T U : Nat → Nat → Nat} {f : List Int} (h : inB m f = false) : homL n m T U f = false := decide_eq_false (fun H => by rw [h] at H; exact absurd H.2.1 (by simp))
open Classical in
theorem homL_bad {n m : Nat} {T U : Nat → Nat → Nat} {f : List Int} {x y : Nat} (hx : x < n) (hy : y < n) (h : nat_ f (T x y) ≠ U (nat_ f x) (nat_ f y)) : homL n m T U f = false := decide_eq_false (fun H => h (H.2.2 x y hx hy))
open Classical in
theorem homL_good {n m : Nat} {T U : Nat → Nat → Nat} {f : List Int} (h1 : lnx f = n) (h2 : inB m f = true) (h3 : ∀ x y, x < n → y < n → nat_ f (T x y) = U (nat_ f x) (nat_ f y)) : homL n m T U f = true := decide_eq_true ⟨h1, h2, h3⟩
open Classical in
theorem homL_inv {n m : Nat} {T U : Nat → Nat → Nat} {f : List Int} (h : homL n m T U f = true) : lnx f = n ∧ inB m f = true ∧ ∀ x y, x < n → y < n → nat_ f (T x y) = U (nat_ f x) (nat_ f y) := of_decide_eq_true h

theorem nat_cast {m : Nat} {f : List Int} (h : inB m f = true) {i : Nat} (hi : i < lnx f) : ((nat_ f i : Nat) : Int) = nthx f i ∧ nat_ f i < m := by
  have := inB_inv h i hi
  unfold nat_
  omega

set_option maxRecDepth 100000 in
set_option maxHeartbeats 1000000 in
theorem isHom_any (w : World) (n m : Nat) (T U : Nat → Nat → Nat) (vt vu vf : Value) (f : List Int) (ht : Tab w vt n T) (hu : Tab w vu m U) (hf : Ints w vf f) :
    Calls Try.prog 64 #[vt, vu, vf] w fun e w' => e = .returned (.bool (homL n m T U f)) ∧ Quiet w w' := by
  obtain ⟨b, o, cap, rb, ro, rc, rfl, h0, h4, hR, hC, hT⟩ := ht
  obtain ⟨ub, uo, ucap, urb, uro, urc, rfl, uh0, uh4, uR, uC, hU⟩ := hu
  have HW := Lib.hid (within_any w m (by omega) vf f hf)
  obtain ⟨fa, fc, rfl, hf1, hf2, hf3⟩ := hf
  by_cases hl : lnx f = n
  case neg =>
    have g1 : ((lnx f : Int) != (n : Int)) = true := bne_t (by omega)
    have HV := Lib.hid (homL_len (m := m) (T := T) (U := U) hl)
    clear hf3 hR hC hT uR uC hU
    go_enter Try.func64, Try.ntmps64
    go_wp2
    go_ret
    exact ⟨ret_bool HV.out.symm, Quiet.refl _⟩
  have g1 : ((lnx f : Int) != (n : Int)) = false := bne_f (by rw [hl])
  cases hin : inB m f with
  | false =>
    rw [hin] at HW
    have HV := Lib.hid (homL_in (n := n) (T := T) (U := U) hin)
    clear hf3 hR hC hT uR uC hU hl hin
    go_enter Try.func64, Try.ntmps64
    go_wp2_with fail
    refine HW.out.mono ?_
    rintro e w' ⟨rfl, rfl⟩
    go_wp2
    go_ret
    exact ⟨ret_bool HV.out.symm, Quiet.refl _⟩
  | true =>
    rw [hin] at HW
    obtain ⟨pb, po, rfl, hpc⟩ := hf3 (by omega)
    have hP : ∀ i, i < n → w.cell? ⟨pb, po + i, none⟩ = some (.int .i64 ((nat_ f i : Nat) : Int)) := fun i hi => by
      rw [hpc i (by omega), (nat_cast hin (by omega)).1]
    have hpm : ∀ i, i < n → nat_ f i < m := fun i hi => (nat_cast hin (by omega)).2
    have HL := Lib.hid hl
    have HIN := Lib.hid hin
    rw [hl] at HW ⊢
    clear hf3 hpc hl hin g1 hf1
    have g1 : ((n : Int) != (n : Int)) = false := bne_f rfl
    go_enter Try.func64, Try.ntmps64
    go_wp2_with fail
    refine HW.out.mono ?_
    rintro e w' ⟨rfl, rfl⟩
    clear HW
    go_wp2
    go_loopw [25] (fun i wr => ∃ x : Nat, x ≤ n ∧ i = .int .i64 x ∧ (∃ k, wr = w.drewN k) ∧ ∀ a b, a < x → b < n → nat_ f (T a b) = U (nat_ f a) (nat_ f b)) (fun i _ => n - (intOf i).toNat)
    case atStart => exact ⟨0, by omega, rfl, ⟨0, rfl⟩, by omega⟩
    case round =>
      obtain ⟨x, hx, rfl, ⟨k1, rfl⟩, hX⟩ := hrel
      have HX := Lib.hid hX
      clear hX
      by_cases hxn : x < n
      · go_wp2
        go_loopw [32] (fun i wr => ∃ y : Nat, y ≤ n ∧ i = .int .i64 y ∧ (∃ k, wr = w.drewN k) ∧ ∀ b, b < y → nat_ f (T x b) = U (nat_ f x) (nat_ f b)) (fun i _ => n - (intOf i).toNat)
        case atStart => exact ⟨0, by omega, rfl, ⟨_, rfl⟩, by omega⟩
        case round =>
          obtain ⟨y, hy, rfl, ⟨k2, rfl⟩, hY⟩ := hrel
          have HY := Lib.hid hY
          clear hY
          by_cases hyn : y < n
          · by_cases heq : nat_ f (T x y) = U (nat_ f x) (nat_ f y)
            · have g2 : (((nat_ f (T x y) : Nat) : Int) != ((U (nat_ f x) (nat_ f y) : Nat) : Int)) = false := bne_f (by rw [heq])
              have HE := Lib.hid heq
              clear heq
              go_wp2
              go_quiet (fail)
              go_wp2
              go_roundw
              case rel => exact ⟨y + 1, by omega, by go_num, ⟨_, rfl⟩, fun c hc => by
                by_cases hcz : c < y
                · exact HY.out c hcz
                · obtain rfl : c = y := by omega
                  exact HE.out⟩
              case measure => simp [intOf]; omega
            · have g2 : (((nat_ f (T x y) : Nat) : Int) != ((U (nat_ f x) (nat_ f y) : Nat) : Int)) = true := bne_t (by omega)
              have HV := Lib.hid (homL_bad (m := m) hxn hyn heq)
              clear heq
              go_wp2
              go_quiet (fail)
              go_wp2
              go_ret
              exact ⟨ret_bool HV.out.symm, quiet2 _ _ _⟩
          · go_wp2
            go_roundw
            case rel => exact ⟨x + 1, by omega, by go_num, ⟨_, rfl⟩, fun a c ha hc => by
              by_cases hax : a < x
              · exact HX.out a c hax hc
              · obtain rfl : a = x := by omega
                exact HY.out c (by omega)⟩
            case measure => simp [intOf]; omega
      · have HV := Lib.hid (homL_good (T := T) (U := U) HL.out HIN.out (fun a c ha hc => HX.out a c (by omega) hc))
        go_wp2
        go_ret
        exact ⟨ret_bool HV.out.symm, ⟨_, rfl⟩⟩

/-- f is a homomorphism. -/
noncomputable def isHomB (t s : List (List Int)) (f : List Int) : Bool := (vErr t == 0) && (vErr s == 0) && homL (lnx t) (lnx s) (tabOf t) (tabOf s) f

theorem isHomProg_any (w : World) (vt vu vf : Value) (t s : List (List Int)) (f : List Int) (ht : Rows2 w vt t) (hs : Rows2 w vu s) (hf : Ints w vf f) :
    Calls Try.prog 27 #[vt, vu, vf] w fun e w' => e = .returned (.bool (isHomB t s f)) ∧ Below w.heap.size w w' := by
  have HT := Lib.hid ht
  have HS := Lib.hid hs
  have HF := Lib.hid hf
  have H1 := Lib.hid (validate_any w vt t ht)
  have H2 := Lib.hid (fun W (hb : Below w.heap.size w W) => validate_any W vu s (hs.keep (Keeps.below hb)))
  obtain ⟨a, cap, rfl, h1, h2, -⟩ := ht
  obtain ⟨a', cap', rfl, h1', h2', -⟩ := hs
  obtain ⟨fa, fc, rfl, hf1, hf2, -⟩ := hf
  by_cases hl : lnx f = lnx t
  case neg =>
    have g1 : ((lnx f : Int) == (lnx t : Int)) = false := beq_f (by omega)
    have HV : Hid (isHomB t s f = false) := by show _ = _; unfold isHomB; rw [homL_len hl]; simp
    go_enter Try.func27, Try.ntmps27
    go_wp2
    go_ret
    exact ⟨ret_bool HV.out.symm, Below.refl _ _⟩
  have g1 : ((lnx f : Int) == (lnx t : Int)) = true := beq_t (by rw [hl])
  clear hl
  by_cases e1 : vErr t = 0
  case neg =>
    have g2 : (vErr t == 0) = false := beq_f e1
    have HV : Hid (isHomB t s f = false) := by show _ = _; unfold isHomB; rw [g2]; simp
    go_enter Try.func27, Try.ntmps27
    go_wp2_with fail
    refine H1.out.mono ?_
    rintro e w' ⟨rfl, hb⟩
    have HB := Lib.hid hb
    clear hb
    go_wp2
    go_ret
    exact ⟨ret_bool HV.out.symm, HB.out⟩
  by_cases e2 : vErr s = 0
  case neg =>
    have g2 : (vErr s == 0) = false := beq_f e2
    have HV : Hid (isHomB t s f = false) := by show _ = _; unfold isHomB; rw [g2]; simp
    rw [e1] at H1
    clear e1
    go_enter Try.func27, Try.ntmps27
    go_wp2_with fail
    refine H1.out.mono ?_
    rintro e w1 ⟨rfl, hb⟩
    have HB := Lib.hid hb
    clear hb
    go_wp2_with fail
    refine (H2.out w1 HB.out).mono ?_
    rintro e w2 ⟨rfl, hb2⟩
    have HB2 := Lib.hid (belowThen HB.out hb2)
    clear hb2
    go_wp2
    go_ret
    exact ⟨ret_bool HV.out.symm, HB2.out⟩
  have HV : Hid (isHomB t s f = homL (lnx t) (lnx s) (tabOf t) (tabOf s) f) := by show _ = _; unfold isHomB; rw [e1, e2]; simp
  have htab := Tab.of_rows HT.out (vErr_inv e1).1
  have hsab := Tab.of_rows HS.out (vErr_inv e2).1
  have H3 := Lib.hid (fun W (hb : Below w.heap.size w W) => isHom_any W _ _ _ _ _ _ _ f (htab.keep (Keeps.below hb)) (hsab.keep (Keeps.below hb)) (HF.out.keep (Keeps.below hb)))
  rw [e1] at H1
  rw [e2] at H2
  clear e1 e2 htab hsab
  go_enter Try.func27, Try.ntmps27
  go_wp2_with fail
  refine H1.out.mono ?_
  rintro e w1 ⟨rfl, hb⟩
  have HB := Lib.hid hb
  clear hb H1
  go_wp2_with fail
  refine (H2.out w1 HB.out).mono ?_
  rintro e w2 ⟨rfl, hb2⟩
  have HB2 := Lib.hid (belowThen HB.out hb2)
  clear hb2 H2 HB
  go_wp2_with fail
  refine (H3.out w2 HB2.out).mono ?_
  rintro e w3 ⟨rfl, hq⟩
  have HB3 := Lib.hid (belowThen HB2.out (Below.quiet hq))
  clear hq H3 HB2
  go_wp2
  go_ret
  exact ⟨ret_bool HV.out.symm, HB3.out⟩
end Go.Proofs.Ytgghmjnbkbiffaa
