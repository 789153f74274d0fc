/-
  Walks: semigrouplaw20.two, awake.
-/
import Derived.Test.YtgghmjnbkbiffaaList
namespace Go.Proofs.Ytgghmjnbkbiffaa
open Go.RowKit
set_option linter.unusedVariables false

/-- A literal of two rows of two numbers. -/
def lit22 (w : World) (a b c d : Int) : World := ((w.alloc (.cells #[.int .i64 a, .int .i64 b] 3)).alloc (.cells #[.int .i64 c, .int .i64 d] 3)).alloc (.cells #[.slice (some ⟨w.heap.size, 0, none⟩) 2 2, .slice (some ⟨w.heap.size + 1, 0, none⟩) 2 2] 31)
theorem lit22_below (w : World) (a b c d : Int) : Below w.heap.size w (lit22 w a b c d) := ((((Below.refl _ w).alloc (Nat.le_refl _) _).alloc (by simp) _).alloc (by simp; omega) _)
theorem lit22_rows (w : World) (a b c d : Int) : Rows2 (lit22 w a b c d) (.slice (some ⟨w.heap.size + 1 + 1, 0, none⟩) 2 2) [[a, b], [c, d]] := by
  refine ⟨_, 2, rfl, by simp [lnx], by omega, fun _ => ⟨w.heap.size + 1 + 1, 0, rfl, fun i hi => ?_⟩⟩
  have hi2 : i = 0 ∨ i = 1 := by simp [lnx] at hi; omega
  have hs : ((w.alloc (.cells #[.int .i64 a, .int .i64 b] 3)).alloc (.cells #[.int .i64 c, .int .i64 d] 3)).heap.size = w.heap.size + 1 + 1 := by simp
  have hrow : ∀ j, (lit22 w a b c d).cell? ⟨w.heap.size + 1 + 1, j, none⟩ = (#[Value.slice (some ⟨w.heap.size, 0, none⟩) 2 2, .slice (some ⟨w.heap.size + 1, 0, none⟩) 2 2] : Array Value)[j]? := fun j => World.cell?_alloc_at _ _ _ _ hs.symm
  have h0 : ∀ j, (lit22 w a b c d).cell? ⟨w.heap.size, j, none⟩ = (#[Value.int .i64 a, .int .i64 b] : Array Value)[j]? := fun j => by
    unfold lit22
    rw [World.cell?_alloc_past _ _ _ (by simp; omega), World.cell?_alloc_past _ _ _ (by simp), World.cell?_alloc_at _ _ _ _ rfl]
  have h1 : ∀ j, (lit22 w a b c d).cell? ⟨w.heap.size + 1, j, none⟩ = (#[Value.int .i64 c, .int .i64 d] : Array Value)[j]? := fun j => by
    unfold lit22
    rw [World.cell?_alloc_past _ _ _ (by simp), World.cell?_alloc_at _ _ _ _ (by simp)]
  rcases hi2 with rfl | rfl
  · refine ⟨.slice (some ⟨w.heap.size, 0, none⟩) 2 2, by rw [hrow]; rfl, _, 2, rfl, by simp [lnx, nthx], by omega, fun _ => ⟨w.heap.size, 0, rfl, fun j hj => ?_⟩⟩
    have hj2 : j = 0 ∨ j = 1 := by simp [lnx, nthx] at hj; omega
    rcases hj2 with rfl | rfl <;> rw [h0] <;> simp [nthx]
  · refine ⟨.slice (some ⟨w.heap.size + 1, 0, none⟩) 2 2, by rw [hrow]; rfl, _, 2, rfl, by simp [lnx, nthx], by omega, fun _ => ⟨w.heap.size + 1, 0, rfl, fun j hj => ?_⟩⟩
    have hj2 : j = 0 ∨ j = 1 := by simp [lnx, nthx] at hj; omega
    rcases hj2 with rfl | rfl <;> rw [h1] <;> simp [nthx]

def TwoPost (w : World) (e : Ending) (w' : World) : Prop := ∃ v, e = .returned v ∧ Rows2 w' v tw ∧ Below w.heap.size w w'
theorem two_any (w : World) : Calls Try.prog 57 #[] w (TwoPost w) := by
  have HP : Hid (TwoPost w (.returned (.slice (some ⟨w.heap.size + 1 + 1, 0, none⟩) 2 2)) (lit22 w 0 1 1 0)) := ⟨_, rfl, lit22_rows w 0 1 1 0, lit22_below w 0 1 1 0⟩
  unfold lit22 at HP
  go_enter Try.func57, Try.ntmps57
  go_wp2
  go_ret
  exact HP.out

theorem same_rows_lit (w : World) (v : Value) (hv : Rows2 w v [[0, 0], [0, 1]]) :
    Calls Try.prog 20 #[v, .slice (some ⟨w.heap.size + 1 + 1, 0, none⟩) 2 2] (((w.alloc (.cells #[.int .i64 0, .int .i64 0] 3)).alloc (.cells #[.int .i64 0, .int .i64 1] 3)).alloc (.cells #[.slice (some ⟨w.heap.size, 0, none⟩) 2 2, .slice (some ⟨w.heap.size + 1, 0, none⟩) 2 2] 31)) fun e w' => e = .returned (.bool true) ∧ Below w.heap.size w w' := by
  have h := sameRows_any (lit22 w 0 0 0 1) v _ _ _ (hv.keep (Keeps.below (lit22_below w 0 0 0 1))) (lit22_rows w 0 0 0 1)
  rw [sameRowsB_t rfl] at h
  exact h.mono fun e w' ⟨he, hq⟩ => ⟨he, belowThen (lit22_below w 0 0 0 1) (Below.quiet hq)⟩

theorem awake_any (w : World) : Calls Try.prog 19 #[] w fun e w' => e = .returned (.bool true) ∧ Below w.heap.size w w' := by
  have H1 := Lib.hid (two_any w)
  go_enter Try.func19, Try.ntmps19
  go_wp2_with fail
  refine H1.out.mono ?_
  rintro e w1 ⟨v1, rfl, hr1, hb1⟩
  have H2 := Lib.hid (two_any w1)
  have HR1 := Lib.hid hr1
  have HB1 := Lib.hid hb1
  clear H1 hr1 hb1
  go_wp2_with fail
  refine H2.out.mono ?_
  rintro e w2 ⟨v2, rfl, hr2, hb2⟩
  have hh := homs_any w2 v1 v2 tw tw (HR1.out.keep (Keeps.below hb2)) hr2
  rw [tw_rows.1, tw_rows.2] at hh
  have H3 := Lib.hid hh
  have HB2 := Lib.hid (belowThen HB1.out hb2)
  clear H2 hr2 hb2 HR1 HB1 hh
  go_wp2_with fail
  refine H3.out.mono ?_
  rintro e w3 ⟨v3, rfl, hr3, hb3⟩
  have HB3 := Lib.hid (belowThen HB2.out hb3)
  have hsm := same_rows_lit w3 v3 hr3
  have HS := Lib.hid hsm
  clear H3 hb3 HB2 hr3 hsm
  go_wp2_with fail
  refine HS.out.mono ?_
  rintro e w4 ⟨rfl, hb4⟩
  have HB4 := Lib.hid (belowThen HB3.out hb4)
  clear HS hb4
  go_wp2
  go_ret
  exact ⟨rfl, HB4.out⟩
end Go.Proofs.Ytgghmjnbkbiffaa
