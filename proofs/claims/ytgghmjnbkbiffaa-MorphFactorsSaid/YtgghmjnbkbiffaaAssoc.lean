/-
  Walks: mult.associates.
-/
import Derived.Test.YtgghmjnbkbiffaaOwn
namespace Go.Proofs.Ytgghmjnbkbiffaa
open Go.RowKit
set_option linter.unusedVariables false

theorem Try.infoBool : (Try.prog.info? 4).map (fun i => (i.zero, i.size, i.bytes)) = some (some (.bool false), 1, 1) := by kernel_rfl
theorem Try.infoInt : (Try.prog.info? 3).map (fun i => (i.zero, i.size, i.bytes)) = some (some (.int .i64 0), 1, 8) := by kernel_rfl

/-- g passes Light's test. -/
def Passes (n : Nat) (T : Nat → Nat → Nat) (g : Nat) : Prop := ∀ x y, x < n → y < n → T (T x g) y = T x (T g y)

def natsOf (xs : List Nat) : List Int := xs.map (fun x : Nat => (x : Int))
theorem lnx_natsOf (xs : List Nat) : lnx (natsOf xs) = lnx xs := by simp [lnx, natsOf]
theorem nthx_natsOf (xs : List Nat) {i : Nat} (h : i < lnx xs) : nthx (natsOf xs) i = ((nthx xs i : Nat) : Int) := by
  simp [nthx, natsOf, lnx] at h ⊢
  simp [h]

set_option maxHeartbeats 1000000 in
theorem associates_any (w : World) (v : Value) (n : Nat) (T : Nat → Nat → Nat) (hv : Tab w v n T) (u : Value) (gens : List Nat) (hu : Ints w u (natsOf gens)) (hgens : ∀ i, i < lnx gens → nthx gens i < n) :
    Calls Try.prog 92 #[v, u] w fun e w' => ∃ r : Bool, e = .returned (.bool r) ∧ ((r = true ∧ ∀ i, i < lnx gens → Passes n T (nthx gens i)) ∨ (r = false ∧ ∃ i, i < lnx gens ∧ ¬ Passes n T (nthx gens i))) ∧ Below w.heap.size w w' := by
  obtain ⟨b, o, cap, rb, ro, rc, rfl, h0, h4, hR, hC, hT⟩ := hv
  obtain ⟨ua, uc, rfl, hu1, hu2, hu3⟩ := hu
  rw [lnx_natsOf] at *
  have HU := Lib.hid hu3
  have HG := Lib.hid hgens
  clear hu3 hgens
  have hmk := fun W => run_mk (P := Try.prog) Try.underlying60 Try.infoBool rfl n (by omega) (by omega) W
  have HR := Lib.hid hR
  have HC := Lib.hid hC
  clear hR hC
  go_enter Try.func92, Try.ntmps92
  go_wp2
  clear hmk
  go_loopw [18] (fun i wr => ∃ (k : Nat) (f : Nat → Bool), k ≤ lnx gens ∧ i = .int .i64 k ∧ Arr 4 wr w.heap.size n (fun j => .bool (f j)) ∧ Below w.heap.size w wr ∧ (∀ j, j < n → f j = true → Passes n T j) ∧ (∀ j, j < k → Passes n T (nthx gens j))) (fun i _ => lnx gens - (intOf i).toNat)
  case atStart => exact ⟨0, fun _ => false, by omega, rfl, Arr.zeros _ _ _ _, (Below.refl _ _).alloc (Nat.le_refl _) _, by simp, by omega⟩
  case round =>
    obtain ⟨k, f, hk, rfl, hA, hb, hf, hp⟩ := hrel
    have HF := Lib.hid hf
    have HP := Lib.hid hp
    clear hf hp
    have hsz := hA.lt
    have hkp := Keeps.below hb
    by_cases hlt : k < lnx gens
    · obtain ⟨gb, go, rfl, hc⟩ := HU.out (by omega)
      have hck := hkp _ _ (hc k hlt)
      obtain ⟨g, hgg⟩ : ∃ g, nthx gens k = g := ⟨_, rfl⟩
      rw [nthx_natsOf gens hlt, hgg] at hck
      have hgk : g < n := by rw [← hgg]; exact HG.out k hlt
      have HGG := Lib.hid hgg
      clear hgg
      have hfk := hA.cell hgk
      have hfz := hA.frozen g
      clear hc
      by_cases ht : f (g) = true
      · have HT2 := Lib.hid ht
        rw [ht] at hfk
        clear ht
        go_wp2
        go_roundw
        case rel => exact ⟨k + 1, f, by omega, by go_num, hA, hb, HF.out, fun j hj => by
          by_cases hjk : j < k
          · exact HP.out j hjk
          · obtain rfl : j = k := by omega
            rw [HGG.out]; exact HF.out _ hgk HT2.out⟩
        case measure => simp [intOf]; omega
      · rw [show f (g) = false by simpa using ht] at hfk
        have hA2 := hA.set_ (g) (.bool true)
        have hb2 := hb.setCell (p := ⟨w.heap.size, g, none⟩) (Nat.le_refl _) (.bool true)
        have hx2 : ∀ j, j ≠ g → j < n → (if j = g then true else f j) = true → Passes n T j := fun j hne hj h => by
          rw [if_neg hne] at h
          exact HF.out j hj h
        have HX2 := Lib.hid hx2
        clear hx2
        go_wp2
        obtain ⟨W, hW⟩ : ∃ W, W = wr.setCell ⟨w.heap.size, g, none⟩ (.bool true) := ⟨_, rfl⟩
        rw [← hW] at hA2 hb2 ⊢
        clear hW hA hb hkp hfk hfz hck
        have hA3 := hA2.congr (f' := fun j => .bool (if j = g then true else f j)) (fun i hi => by by_cases h : i = g <;> simp [h])
        have hkp := Keeps.below hb2
        have hR : ∀ r, r < n → W.cell? ⟨b, o + r, none⟩ = some (.slice (some ⟨rb r, ro r, none⟩) n (rc r)) := fun r hr => hkp _ _ (HR.out r hr)
        have hC : ∀ r c, r < n → c < n → W.cell? ⟨rb r, ro r + c, none⟩ = some (.int .i64 (T r c)) := fun r c hr hc => hkp _ _ (HC.out r c hr hc)
        have HA3 := Lib.hid hA3
        have HB2 := Lib.hid hb2
        clear hA2 hA3 hb2 hkp
        go_loopw [31] (fun i wz => ∃ x : Nat, x ≤ n ∧ i = .int .i64 x ∧ (∃ q, wz = W.drewN q) ∧ ∀ a y, a < x → y < n → T (T a g) y = T a (T g y)) (fun i _ => n - (intOf i).toNat)
        case atStart => exact ⟨0, by omega, rfl, ⟨0, rfl⟩, by omega⟩
        case round =>
          obtain ⟨x, hx, rfl, ⟨q1, rfl⟩, hX⟩ := hrel
          have HX := Lib.hid hX
          clear hX
          by_cases hxn : x < n
          · go_wp2
            go_loopw [47] (fun i wz => ∃ y : Nat, y ≤ n ∧ i = .int .i64 y ∧ (∃ q, wz = W.drewN q) ∧ ∀ y', y' < y → T (T x g) y' = T x (T g y')) (fun i _ => n - (intOf i).toNat)
            case atStart => exact ⟨0, by omega, rfl, ⟨_, rfl⟩, by omega⟩
            case round =>
              obtain ⟨y, hy, rfl, ⟨q2, rfl⟩, hY⟩ := hrel
              have HY := Lib.hid hY
              clear hY
              by_cases hyn : y < n
              · by_cases heq : T (T x g) y = T x (T g y)
                · have HE := Lib.hid heq
                  clear heq
                  have hne : (((T (T x g) y : Nat) : Int) != ((T x (T g y) : Nat) : Int)) = false := bne_f (by rw [HE.out])
                  go_wp2
                  go_quiet (fail)
                  go_wp2
                  go_roundw
                  case rel => exact ⟨y + 1, by omega, by go_num, ⟨_, rfl⟩, fun c hc => by
                    by_cases hcz : c < y
                    · exact HY.out c hcz
                    · obtain rfl : c = y := by omega
                      exact HE.out⟩
                  case measure => simp [intOf]; omega
                · have hne : (((T (T x g) y : Nat) : Int) != ((T x (T g y) : Nat) : Int)) = true := bne_t (by omega)
                  go_wp2
                  go_quiet (fail)
                  go_wp2
                  go_ret
                  exact ⟨false, rfl, .inr ⟨rfl, k, hlt, fun h => heq (by rw [HGG.out] at h; exact h x y hxn hyn)⟩, Below.drewN' (Below.drewN' HB2.out _) _⟩
              · go_wp2
                go_roundw
                case rel => exact ⟨x + 1, by omega, by go_num, ⟨_, rfl⟩, fun a y' ha hy' => by
                  by_cases hax : a < x
                  · exact HX.out a y' hax hy'
                  · obtain rfl : a = x := by omega
                    exact HY.out y' (by omega)⟩
                case measure => simp [intOf]; omega
          · go_wp2
            go_roundw
            case rel => exact ⟨k + 1, (fun j => if j = g then true else f j), by omega, by go_num, Arr.drewN HA3.out _, Below.drewN' HB2.out _, fun j hj h => by
                by_cases hjg : j = g
                · subst hjg; exact fun a y ha hy => HX.out a y (by omega) hy
                · exact HX2.out j hjg hj h, fun j hj => by
                by_cases hjk : j < k
                · exact HP.out j hjk
                · obtain rfl : j = k := by omega
                  rw [HGG.out]
                  exact fun a y ha hy => HX.out a y (by omega) hy⟩
            case measure => simp [intOf]; omega
    · go_wp2
      go_ret
      exact ⟨true, rfl, .inl ⟨rfl, fun i hi => HP.out i (by omega)⟩, hb⟩
end Go.Proofs.Ytgghmjnbkbiffaa
