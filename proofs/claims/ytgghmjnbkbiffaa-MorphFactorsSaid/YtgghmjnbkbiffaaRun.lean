/-
  extend as a whole, run, list, Homs.
-/
import Derived.Test.YtgghmjnbkbiffaaExtendB
namespace Go.Proofs.Ytgghmjnbkbiffaa
open Go.RowKit
set_option linter.unusedVariables false

theorem homsF_run {n m : Nat} {T U : Nat → Nat → Nat} {inj : Bool} {F : Nat → Int} (hr : ∀ a, a < n → F a < m) : ∀ (d x : Nat), x + d ≤ n → (∀ a, x ≤ a → a < x + d → 0 ≤ F a) → homsF n m T U inj F x = homsF n m T U inj F (x + d)
  | 0, x, _, _ => rfl
  | d + 1, x, h1, h2 => by
    rw [homsF_run hr d x (by omega) (fun a ha hb => h2 a ha (by omega)), homsF_forced (by omega) (h2 _ (by omega) (by omega)) (hr _ (by omega))]
    rfl

theorem least_undef (F : Nat → Int) (n : Nat) : ∀ (d x : Nat), x + d = n → (∀ a, a < x → 0 ≤ F a) → (∀ a, a < n → 0 ≤ F a) ∨ ∃ x1, x ≤ x1 ∧ x1 < n ∧ (∀ a, a < x1 → 0 ≤ F a) ∧ F x1 < 0
  | 0, x, h, hd => .inl (fun a ha => hd a (by omega))
  | d + 1, x, h, hd => by
    by_cases hx : F x < 0
    · exact .inr ⟨x, Nat.le_refl _, by omega, hd, hx⟩
    · rcases least_undef F n d (x + 1) (by omega) (fun a ha => by
        by_cases e : a = x
        · subst e; omega
        · exact hd a (by omega)) with h | ⟨x1, h1, h2⟩
      · exact .inl h
      · exact .inr ⟨x1, by omega, h2⟩

theorem extend_any (w0 : World) (sb base n m : Nat) (T U : Nat → Nat → Nat) (inj : Bool) (vt vu : Value) (lim : Nat) (hsb : w0.heap.size ≤ sb) (ht : Tab w0 vt n T) (hu : Tab w0 vu m U) (hlim : lim ≤ 3000) (hn : n ≤ 8) (hm : m ≤ 8) :
    ∀ k x, n - x ≤ k → x ≤ n → ExtIH w0 sb base n m T U inj vt vu lim x := by
  have hT : ∀ r c, r < n → c < n → T r c < n := by
    obtain ⟨_, _, _, _, _, _, _, _, _, _, _, h⟩ := ht
    exact h
  intro k
  induction k with
  | zero =>
    intro x hk hx w vf L F hs hw0 hL hr hcl hd
    obtain rfl : x = n := by omega
    refine (extend_leaf w sb base x m T U inj vt vu vf lim L hs (ht.keep (Keeps.below hw0)) hlim hL F x hn hd (Nat.le_refl _)).mono ?_
    intro e w' hp
    rw [homsF_end hcl hr hd hT, List.take_of_length_le (by simp [lnx] at hL ⊢; omega)]
    exact hp
  | succ k ih =>
    intro x hk hx w vf L F hs hw0 hL hr hcl hd
    rcases least_undef F n (n - x) x (by omega) hd with hall | ⟨x1, hx1, hx1n, hd1, hF⟩
    · refine (extend_leaf w sb base n m T U inj vt vu vf lim L hs (ht.keep (Keeps.below hw0)) hlim hL F x hn hall hx).mono ?_
      intro e w' hp
      rw [homsF_run hr (n - x) x (by omega) (fun a _ hb => hall a (by omega)), show x + (n - x) = n by omega, homsF_end hcl hr hall hT, List.take_of_length_le (by simp [lnx] at hL ⊢; omega)]
      exact hp
    · refine (extend_branch w0 w sb base n m T U inj vt vu vf lim L hs hw0 hsb ht hu hlim hL F x x1 hn hm hx1n hx1 hd1 hF hr hcl (ih (x1 + 1) (by omega) (by omega))).mono ?_
      intro e w' hp
      rw [homsF_run hr (x1 - x) x (by omega) (fun a _ hb => hd1 a (by omega)), show x + (x1 - x) = x1 by omega, homsF_split hx1n]
      exact hp

def RunPost (w : World) (L : List (List Nat)) (e : Ending) (w' : World) : Prop := ∃ v, e = .returned v ∧ Rows2 w' v (L.map natsOf) ∧ Below w.heap.size w w'

theorem Try.allocS (w : World) : (Instr.alloc 110 true (.tuple #[])).run Try.prog w = .ok (.pointer (some ⟨w.heap.size, 0, none⟩)) (w.alloc (.cells #[.slice none 0 0, .slice none 0 0, .bool false, .int .i64 0, .slice none 0 0] 110)) := by kernel_rfl

set_option maxRecDepth 100000 in
set_option maxHeartbeats 2000000 in
theorem run_any (w : World) (n m : Nat) (T U : Nat → Nat → Nat) (inj : Bool) (vt vu : Value) (lim : Nat) (ht : Tab w vt n T) (hu : Tab w vu m U) (hlim : lim ≤ 3000) (hl0 : 0 < lim) (hn : n ≤ 8) (hm : m ≤ 8) :
    Calls Try.prog 61 #[vt, vu, .bool inj, .int .i64 lim] w (RunPost w ((homs n m T U inj).take lim)) := by
  have HT := Lib.hid ht
  have HU := Lib.hid hu
  obtain ⟨b, o, cap, rb, ro, rc, rfl, h0, h4, -⟩ := ht
  obtain ⟨ub, uo, ucap, urb, uro, urc, rfl, uh0, uh4, -⟩ := hu
  have hal := Try.alloc8
  have hal2 := Try.allocS
  have hz8 := zero8
  go_enter Try.func61, Try.ntmps61
  go_wp2
  have hss : SearchSt ((w.alloc (.cells #[.slice (some ⟨b, o, none⟩) n cap, .slice (some ⟨ub, uo, none⟩) m ucap, .bool inj, .int .i64 lim, .slice none 0 0] 110)).alloc (.cells (agg8 fun _ => 0) 112)) w.heap.size (w.heap.size + 1) (.slice (some ⟨b, o, none⟩) n cap) (.slice (some ⟨ub, uo, none⟩) m ucap) inj lim (.slice none 0 0) [] :=
    ⟨(Below.heap_alloc _ _ _ (by simp)).trans (heap_alloc_new w _), FoundAt.nil _ _, by omega, by simp⟩
  have hb8 : Blk8 112 ((w.alloc (.cells #[.slice (some ⟨b, o, none⟩) n cap, .slice (some ⟨ub, uo, none⟩) m ucap, .bool inj, .int .i64 lim, .slice none 0 0] 110)).alloc (.cells (agg8 fun _ => 0) 112)) (w.heap.size + 1) (fun _ => 0) := by
    have := Blk8.new 112 (w.alloc (.cells #[.slice (some ⟨b, o, none⟩) n cap, .slice (some ⟨ub, uo, none⟩) m ucap, .bool inj, .int .i64 lim, .slice none 0 0] 110)) (fun _ => 0)
    simpa using this
  have hbel : Below w.heap.size w ((w.alloc (.cells #[.slice (some ⟨b, o, none⟩) n cap, .slice (some ⟨ub, uo, none⟩) m ucap, .bool inj, .int .i64 lim, .slice none 0 0] 110)).alloc (.cells (agg8 fun _ => 0) 112)) := (((Below.refl _ w).alloc (Nat.le_refl _) _).alloc (by simp) _)
  have HSS := Lib.hid hss
  have HB8 := Lib.hid hb8
  have HBE := Lib.hid hbel
  clear hss hb8 hbel hal hal2 hz8
  go_loopw [17] (fun i wr => ∃ (k : Nat) (F : Nat → Int), i = .int .i64 k ∧ k ≤ 8 ∧ (∀ j, j < k → F j = -1) ∧ Blk8 112 wr (w.heap.size + 1) F ∧ SearchSt wr w.heap.size (w.heap.size + 1) (.slice (some ⟨b, o, none⟩) n cap) (.slice (some ⟨ub, uo, none⟩) m ucap) inj lim (.slice none 0 0) [] ∧ Below w.heap.size w wr) (fun i _ => 8 - (intOf i).toNat)
  case atStart => exact ⟨0, fun _ => 0, rfl, by omega, by omega, HB8.out, HSS.out, HBE.out⟩
  case round =>
    clear HSS HB8 HBE
    obtain ⟨k, F, rfl, hk, hF, h8, hss, hbe⟩ := hrel
    have HF := Lib.hid hF
    by_cases hk8 : k < 8
    · have hc := h8.cell hk8
      have hfz := h8.frozen k
      have P1 : Hid (Blk8 112 (wr.setCell ⟨w.heap.size + 1, k, none⟩ (.int .i64 (-1))) (w.heap.size + 1) (upd F k (-1)) ∧ SearchSt (wr.setCell ⟨w.heap.size + 1, k, none⟩ (.int .i64 (-1))) w.heap.size (w.heap.size + 1) (.slice (some ⟨b, o, none⟩) n cap) (.slice (some ⟨ub, uo, none⟩) m ucap) inj lim (.slice none 0 0) [] ∧ Below w.heap.size w (wr.setCell ⟨w.heap.size + 1, k, none⟩ (.int .i64 (-1)))) :=
        ⟨h8.set_ k (-1), ⟨(Below.heap_setCell _ _ _ _ (by simp)).trans hss.blk, FoundAt.nil _ _, hss.lt, by simp [World.setCell]; exact hss.hb⟩, hbe.setCell (p := ⟨w.heap.size + 1, k, none⟩) (by simp) _⟩
      have HP : Hid (∀ j, j < k + 1 → upd F k (-1) j = -1) := fun j hj => by
        by_cases e : j = k
        · subst e; exact upd_same _ _ _
        · rw [upd_other _ _ e]; exact HF.out j (by omega)
      clear hF h8 hss hbe
      go_wp2
      go_roundw
      case rel => exact ⟨k + 1, _, by go_num, by omega, HP.out, P1.out⟩
      case measure => simp [intOf]; omega
    · have hk' : k = 8 := by omega
      have e8 : agg8 F = agg8 (fun _ => -1) := by
        apply Array.ext_getElem?
        intro i
        by_cases hi : i < 8
        · rw [get_agg8 _ hi, get_agg8 _ hi, HF.out i (by omega)]
        · rw [Array.getElem?_eq_none (by simp; omega), Array.getElem?_eq_none (by simp; omega)]
      have h8' : Blk8 112 wr (w.heap.size + 1) (fun _ => -1) := by
        unfold Blk8 at h8 ⊢
        rw [h8, e8]
      have hx := extend_any w w.heap.size (w.heap.size + 1) n m T U inj _ _ lim (Nat.le_refl _) HT.out HU.out hlim hn hm n 0 (by omega) (by omega) wr (.slice none 0 0) [] (fun _ => -1) hss hbe (by simpa [lnx] using hl0) (fun a _ => by omega) (fun a b _ _ h => absurd h (by simp)) (by omega)
      rw [List.nil_append, homs_eq] at hx
      have HX := Lib.hid hx
      have H8 := Lib.hid h8'
      have HBE := Lib.hid hbe
      clear hF h8 hss hbe e8 h8' hx hk'
      go_wp2_with (refine wpList_load8 rfl 112 _ rfl (w.heap.size + 1) rfl 112 3 (fun _ => -1) Try.underlying112 Try.info8 H8.out ?_)
      refine HX.out.mono ?_
      rintro e w5 ⟨rfl, vf, hs5, ho5, -⟩
      have d4 : w5.cell? ⟨w.heap.size, 4, none⟩ = some vf := by simp [World.cell?, hs5.blk]
      have HP : Hid (RunPost w ((homs n m T U inj).take lim) (.returned vf) w5) := ⟨vf, rfl, hs5.found.rows, HBE.out.trans (ho5.below (fun k hk => by
        rintro (e | e)
        · omega
        · simp [Value.ownBlock] at e) HBE.out.size)⟩
      clear hs5 ho5 HX H8 HBE
      go_wp2
      go_ret
      exact HP.out
end Go.Proofs.Ytgghmjnbkbiffaa
