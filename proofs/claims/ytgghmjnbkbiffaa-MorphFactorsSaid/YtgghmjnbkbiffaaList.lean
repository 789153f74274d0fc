/-
  Walks: morph.list, Homs, Automorphisms; semigrouplaw20.two, awake.
-/
import Derived.Test.YtgghmjnbkbiffaaRun
namespace Go.Proofs.Ytgghmjnbkbiffaa
open Go.RowKit
set_option linter.unusedVariables false

theorem Sl2.nil (w : World) : Rows2 w (.slice none 0 0) [] := ⟨none, 0, rfl, by simp [lnx], by omega, fun h => by simp [lnx] at h⟩

/-- All homomorphisms of two tables. -/
noncomputable def homsT (t s : List (List Int)) (inj : Bool) : List (List Nat) := homs (lnx t) (lnx s) (tabOf t) (tabOf s) inj

noncomputable def listErr (t s : List (List Int)) (inj : Bool) : Int := if mayErr t s ≠ 0 then mayErr t s else if 2000 < lnx (homsT t s inj) then 3 else 0
noncomputable def listRows (t s : List (List Int)) (inj : Bool) : List (List Int) := if listErr t s inj = 0 then (homsT t s inj).map natsOf else []

def PairPost (w : World) (rows : List (List Int)) (err : Int) (e : Ending) (w' : World) : Prop := ∃ v, e = .returned (.tuple #[v, .int .i64 err]) ∧ Rows2 w' v rows ∧ Below w.heap.size w w'

theorem list_any (w : World) (v u : Value) (t s : List (List Int)) (inj : Bool) (ht : Rows2 w v t) (hs : Rows2 w u s) :
    Calls Try.prog 56 #[v, u, .bool inj] w (PairPost w (listRows t s inj) (listErr t s inj)) := by
  have H1 := Lib.hid (mvalidate_any w v u t s ht hs)
  have HT := Lib.hid ht
  have HS := Lib.hid hs
  obtain ⟨a, cap, rfl, h1, h2, -⟩ := ht
  obtain ⟨a', cap', rfl, h1', h2', -⟩ := hs
  by_cases e1 : mayErr t s = 0
  case neg =>
    have hb : (mayErr t s != 0) = true := bne_t e1
    have HE : Hid (listErr t s inj = mayErr t s) := by show _ = _; unfold listErr; rw [if_pos e1]
    have HR : Hid (listRows t s inj = []) := by show _ = _; unfold listRows; rw [HE.out, if_neg e1]
    go_enter Try.func56, Try.ntmps56
    go_wp2_with fail
    refine H1.out.mono ?_
    rintro e w' ⟨rfl, hq⟩
    have HQ := Lib.hid hq
    clear hq H1
    go_wp2
    go_ret2
    rw [HE.out, HR.out]
    exact ⟨_, rfl, Sl2.nil _, HQ.out⟩
  have e0 := mayErr_inv e1
  obtain ⟨ev1, ev2, l1, l2⟩ := e0
  have htab := Tab.of_rows HT.out (vErr_inv ev1).1
  have hsab := Tab.of_rows HS.out (vErr_inv ev2).1
  have H2 := Lib.hid (fun W (hb : Below w.heap.size w W) => run_any W _ _ _ _ inj _ _ 2001 (htab.keep (Keeps.below hb)) (hsab.keep (Keeps.below hb)) (by omega) (by omega) l1 l2)
  rw [e1] at H1
  have HE1 := Lib.hid e1
  clear e1 ev1 ev2 htab hsab
  by_cases e2 : 2000 < lnx (homsT t s inj)
  · have HE : Hid (listErr t s inj = 3) := by show _ = _; unfold listErr; rw [HE1.out, if_neg (by simp), if_pos e2]
    have HR : Hid (listRows t s inj = []) := by show _ = _; unfold listRows; rw [HE.out, if_neg (by decide)]
    have HL : Hid (lnx ((homsT t s inj).take 2001) = 2001) := by show _ = _; simp [lnx] at e2 ⊢; omega
    clear e2
    go_enter Try.func56, Try.ntmps56
    go_wp2_with fail
    refine H1.out.mono ?_
    rintro e w1 ⟨rfl, hq⟩
    have HQ := Lib.hid hq
    clear hq H1
    go_wp2_with fail
    refine (H2.out w1 HQ.out).mono ?_
    rintro e w2 ⟨vr, rfl, hr, hb⟩
    have HB := Lib.hid (belowThen HQ.out hb)
    obtain ⟨ra, rc, rfl, -, -, -⟩ := hr
    have hlen : lnx (((homs (lnx t) (lnx s) (tabOf t) (tabOf s) inj).take 2001).map natsOf) = 2001 := by
      have := HL.out
      simpa [lnx, homsT] using this
    rw [hlen]
    clear H2 hb hlen
    go_wp2
    go_ret2
    rw [HE.out, HR.out]
    exact ⟨_, rfl, Sl2.nil _, HB.out⟩
  · have HE : Hid (listErr t s inj = 0) := by show _ = _; unfold listErr; rw [HE1.out, if_neg (by simp), if_neg e2]
    have HR : Hid (listRows t s inj = (homsT t s inj).map natsOf) := by show _ = _; unfold listRows; rw [HE.out, if_pos rfl]
    have htk : (homs (lnx t) (lnx s) (tabOf t) (tabOf s) inj).take 2001 = homsT t s inj := List.take_of_length_le (by simp [lnx, homsT] at e2 ⊢; omega)
    have h2k : lnx ((homsT t s inj).map natsOf) ≤ 2000 := by simp [lnx] at e2 ⊢; omega
    rw [htk] at H2
    clear e2 htk
    go_enter Try.func56, Try.ntmps56
    go_wp2_with fail
    refine H1.out.mono ?_
    rintro e w1 ⟨rfl, hq⟩
    have HQ := Lib.hid hq
    clear hq H1
    go_wp2_with fail
    refine (H2.out w1 HQ.out).mono ?_
    rintro e w2 ⟨vr, rfl, hr, hb⟩
    have HB := Lib.hid (belowThen HQ.out hb)
    have HRO := Lib.hid hr
    obtain ⟨ra, rc, rfl, -, -, -⟩ := hr
    clear H2 hb
    go_wp2
    go_ret2
    rw [HE.out, HR.out]
    exact ⟨_, rfl, HRO.out, HB.out⟩

theorem homs_any (w : World) (v u : Value) (t s : List (List Int)) (ht : Rows2 w v t) (hs : Rows2 w u s) :
    Calls Try.prog 18 #[v, u] w (PairPost w (listRows t s false) (listErr t s false)) := by
  have H1 := Lib.hid (list_any w v u t s false ht hs)
  go_enter Try.func18, Try.ntmps18
  go_wp2_with fail
  refine H1.out.mono ?_
  rintro e w' ⟨vr, rfl, hr, hb⟩
  have HP : Hid (PairPost w (listRows t s false) (listErr t s false) (.returned (.tuple #[vr, .int .i64 (listErr t s false)])) w') := ⟨vr, rfl, hr, hb⟩
  clear hr hb H1
  go_wp2
  go_ret2
  exact HP.out

theorem autos_any (w : World) (v : Value) (t : List (List Int)) (ht : Rows2 w v t) :
    Calls Try.prog 25 #[v] w (PairPost w (listRows t t true) (listErr t t true)) := by
  have H1 := Lib.hid (list_any w v v t t true ht ht)
  go_enter Try.func25, Try.ntmps25
  go_wp2_with fail
  refine H1.out.mono ?_
  rintro e w' ⟨vr, rfl, hr, hb⟩
  have HP : Hid (PairPost w (listRows t t true) (listErr t t true) (.returned (.tuple #[vr, .int .i64 (listErr t t true)])) w') := ⟨vr, rfl, hr, hb⟩
  clear hr hb H1
  go_wp2
  go_ret2
  exact HP.out

/-- The group of two elements. -/
def tw : List (List Int) := [[0, 1], [1, 0]]
theorem tw_rowOk : ∀ r, r < lnx tw → rowOk tw r := by
  intro r hr
  have : r = 0 ∨ r = 1 := by simp [lnx, tw] at hr; omega
  rcases this with rfl | rfl
  all_goals
    refine ⟨rfl, fun i hi => ?_⟩
    have : i = 0 ∨ i = 1 := by simp [lnx, nthx, tw] at hi; omega
    rcases this with rfl | rfl <;> simp [nthx, tw, lnx]
theorem tw_shape : shapeF tw = 0 := shape_good (by simp [lnx, tw]) (by simp [lnx, tw]) tw_rowOk
theorem tw_tab : tabOf tw 0 0 = 0 ∧ tabOf tw 0 1 = 1 ∧ tabOf tw 1 0 = 1 ∧ tabOf tw 1 1 = 0 := ⟨rfl, rfl, rfl, rfl⟩
theorem lt2 {x : Nat} (h : x < lnx tw) : x = 0 ∨ x = 1 := by simp [lnx, tw] at h; omega
theorem tw_valid : vErr tw = 0 := by
  refine vErr_ok tw_shape ?_
  intro x y z hx hy hz
  obtain ⟨t1, t2, t3, t4⟩ := tw_tab
  rcases lt2 hx with rfl | rfl <;> rcases lt2 hy with rfl | rfl <;> rcases lt2 hz with rfl | rfl <;> simp [t1, t2, t3, t4]
theorem tw_may : mayErr tw tw = 0 := mayErr_0 tw_valid tw_valid (by simp [lnx, tw])
theorem tw_hom (a b : Nat) : homB 2 2 (tabOf tw) (tabOf tw) false [a, b] = true ↔ a = 0 ∧ b < 2 := by
  obtain ⟨t1, t2, t3, t4⟩ := tw_tab
  rw [homB_iff]
  constructor
  · intro h
    have ha := h.lt 0 (by omega)
    have hb := h.lt 1 (by omega)
    have h0 := h.mul 0 0 (by omega) (by omega)
    simp [nthx, t1] at ha hb h0
    refine ⟨?_, hb⟩
    rcases (show a = 0 ∨ a = 1 by omega) with rfl | rfl
    · rfl
    · rw [t4] at h0; cases h0
  · rintro ⟨rfl, hb⟩
    refine ⟨fun x y hx hy => ?_, fun x hx => ?_, fun h => by cases h⟩
    · rcases (show b = 0 ∨ b = 1 by omega) with rfl | rfl <;> rcases (show x = 0 ∨ x = 1 by omega) with rfl | rfl <;> rcases (show y = 0 ∨ y = 1 by omega) with rfl | rfl <;> simp [nthx, t1, t2, t3, t4]
    · rcases (show x = 0 ∨ x = 1 by omega) with rfl | rfl <;> simp [nthx]; omega
theorem tw_homs : homsT tw tw false = [[0, 0], [0, 1]] := by
  show lexExt (homB 2 2 (tabOf tw) (tabOf tw) false) 2 2 [] = _
  have h1 : ∀ a b, homB 2 2 (tabOf tw) (tabOf tw) false [a, b] = decide (a = 0 ∧ b < 2) := fun a b => by rw [Bool.eq_iff_iff, tw_hom]; simp
  simp [lexExt, List.range_succ, h1]
theorem tw_rows : listRows tw tw false = [[0, 0], [0, 1]] ∧ listErr tw tw false = 0 := by
  have h1 : listErr tw tw false = 0 := by unfold listErr; rw [tw_may, if_neg (by simp), tw_homs, if_neg (by simp [lnx])]
  refine ⟨?_, h1⟩
  unfold listRows
  rw [h1, if_pos rfl, tw_homs]
  simp [natsOf]
end Go.Proofs.Ytgghmjnbkbiffaa
