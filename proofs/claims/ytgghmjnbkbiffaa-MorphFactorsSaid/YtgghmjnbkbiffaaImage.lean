/-
  The walk of morph.Image.
-/
import Derived.Test.YtgghmjnbkbiffaaHom
namespace Go.Proofs.Ytgghmjnbkbiffaa
open Go.RowKit
set_option linter.unusedVariables false

open Classical in
/-- y occurs among the first k values of f. -/
noncomputable def hasB (f : List Int) (k y : Nat) : Bool := decide (∃ i, i < k ∧ nat_ f i = y)
open Classical in
theorem hasB_iff {f : List Int} {k y : Nat} : hasB f k y = true ↔ ∃ i, i < k ∧ nat_ f i = y := by simp [hasB]
theorem hasB_succ (f : List Int) (k y : Nat) : hasB f (k + 1) y = if y = nat_ f k then true else hasB f k y := by
  rw [Bool.eq_iff_iff]
  by_cases e : y = nat_ f k
  · rw [if_pos e, hasB_iff]
    simp only [iff_true]
    exact ⟨k, by omega, e.symm⟩
  · rw [if_neg e, hasB_iff, hasB_iff]
    constructor
    · rintro ⟨i, hi, h⟩
      by_cases e2 : i = k
      · subst e2; exact absurd h.symm e
      · exact ⟨i, by omega, h⟩
    · rintro ⟨i, hi, h⟩
      exact ⟨i, by omega, h⟩
/-- The values of f, ascending. -/
noncomputable def imgN (m : Nat) (f : List Int) : List Nat := (List.range m).filter (hasB f (lnx f))
theorem filter_succ (p : Nat → Bool) (k : Nat) : (List.range (k + 1)).filter p = if p k = true then (List.range k).filter p ++ [k] else (List.range k).filter p := by
  rw [List.range_succ, List.filter_append]
  by_cases h : p k = true
  · simp [h]
  · simp [h]
theorem filter_len (p : Nat → Bool) (k : Nat) : lnx ((List.range k).filter p) ≤ k := by
  have := List.length_filter_le p (List.range k)
  simpa [lnx] using this

def ImgPost (w : World) (xs : List Int) (e : Ending) (w' : World) : Prop := ∃ v, e = .returned v ∧ Ints w' v xs ∧ Below w.heap.size w w'

noncomputable def imgRes (t s : List (List Int)) (f : List Int) : List Int := if isHomB t s f = true then natsOf (imgN (lnx s) f) else []

set_option maxRecDepth 100000 in
set_option maxHeartbeats 1000000 in
theorem image_any (w : World) (vt vu vf : Value) (t s : List (List Int)) (f : List Int) (ht : Rows2 w vt t) (hs : Rows2 w vu s) (hf : Ints w vf f) :
    Calls Try.prog 28 #[vt, vu, vf] w (ImgPost w (imgRes t s f)) := by
  have H1 := Lib.hid (isHomProg_any w vt vu vf t s f ht hs hf)
  have HF := Lib.hid hf
  obtain ⟨a, cap, rfl, h1, h2, -⟩ := ht
  obtain ⟨a', cap', rfl, h1', h2', -⟩ := hs
  obtain ⟨fa, fc, rfl, hf1, hf2, -⟩ := hf
  cases hh : isHomB t s f with
  | false =>
    have HV : Hid (imgRes t s f = []) := by show _ = _; unfold imgRes; rw [hh]; simp
    rw [hh] at H1
    clear hh
    go_enter Try.func28, Try.ntmps28
    go_wp2_with fail
    refine H1.out.mono ?_
    rintro e w1 ⟨rfl, hb⟩
    have HB := Lib.hid hb
    clear hb
    go_wp2
    go_ret
    rw [HV.out]
    exact ⟨_, rfl, Sl.nil _, HB.out⟩
  | true =>
    have HV : Hid (imgRes t s f = natsOf (imgN (lnx s) f)) := by show _ = _; unfold imgRes; rw [hh]; simp
    rw [hh] at H1
    have hparts : vErr s = 0 ∧ homL (lnx t) (lnx s) (tabOf t) (tabOf s) f = true := by
      unfold isHomB at hh
      simp at hh
      exact ⟨hh.1.2, hh.2⟩
    have hsh := shape_inv (vErr_inv hparts.1).1
    have hin := (homL_inv hparts.2).2.1
    have hm400 := hsh.2.1
    have HIN := Lib.hid hin
    clear hh hparts hsh hin
    have hmk := fun W => run_mk (P := Try.prog) Try.underlying60 Try.infoBool rfl (lnx s) (by omega) (by omega) W
    go_enter Try.func28, Try.ntmps28
    go_wp2_with fail
    refine H1.out.mono ?_
    rintro e w1 ⟨rfl, hb⟩
    have HB := Lib.hid hb
    have hf' := HF.out.keep (Keeps.below hb)
    obtain ⟨_, _, e2, -, -, hf3⟩ := hf'
    injection e2 with e3 e4 e5
    subst e3 e5
    have HF3 := Lib.hid hf3
    clear hb H1 hf3 e4 HF
    go_wp2
    clear hmk
    go_loopw [23] (fun i wr => ∃ k : Nat, k ≤ lnx f ∧ i = .int .i64 k ∧ Arr 4 wr w1.heap.size (lnx s) (fun j => .bool (hasB f k j)) ∧ Below w1.heap.size w1 wr) (fun i _ => lnx f - (intOf i).toNat)
    case atStart => exact ⟨0, by omega, rfl, (Arr.zeros _ _ _ _).congr (fun i hi => by simp [hasB]), (Below.refl _ _).alloc (Nat.le_refl _) _⟩
    case round =>
      obtain ⟨k, hk, rfl, hA, hb⟩ := hrel
      have hsz := hA.lt
      by_cases hlt : k < lnx f
      · obtain ⟨pb, po, rfl, hc⟩ := HF3.out (by omega)
        have hck := (Keeps.below hb) _ _ (hc k hlt)
        have hnc := nat_cast HIN.out hlt
        rw [← hnc.1] at hck
        obtain ⟨y, hy⟩ : ∃ y, nat_ f k = y := ⟨_, rfl⟩
        rw [hy] at hck hnc
        have hym := hnc.2
        have c1 := hA.cell hym
        have c2 := hA.frozen y
        have P1 : Hid (Arr 4 (wr.setCell ⟨w1.heap.size, y, none⟩ (.bool true)) w1.heap.size (lnx s) (fun j => .bool (hasB f (k + 1) j)) ∧ Below w1.heap.size w1 (wr.setCell ⟨w1.heap.size, y, none⟩ (.bool true))) :=
          ⟨(hA.set_ y (.bool true)).congr (fun i hi => by rw [hasB_succ, hy]; by_cases e : i = y <;> simp [e]), hb.setCell (p := ⟨w1.heap.size, y, none⟩) (Nat.le_refl _) _⟩
        clear hA hb hc hnc hy
        go_wp2
        go_roundw
        case rel => exact ⟨k + 1, by omega, by go_num, P1.out⟩
        case measure => simp [intOf]; omega
      · have hA' : Arr 4 wr w1.heap.size (lnx s) (fun j => .bool (hasB f (lnx f) j)) := by
          rw [show lnx f = k by omega]
          exact hA
        have HA := Lib.hid hA'
        have HB2 := Lib.hid hb
        clear hA hb hA'
        go_wp2
        go_loopw [10, 33] (fun v i wz => ∃ y : Nat, y ≤ lnx s ∧ i = .int .i64 y ∧ Arr 4 wz w1.heap.size (lnx s) (fun j => .bool (hasB f (lnx f) j)) ∧ Below w1.heap.size w1 wz ∧ OwnN wz (w1.heap.size + 1) v ((List.range y).filter (hasB f (lnx f)))) (fun _ i _ => lnx s - (intOf i).toNat)
        case atStart => exact ⟨0, by omega, rfl, HA.out, HB2.out, OwnN.nil _ _⟩
        case round =>
          clear HA HB2
          obtain ⟨y, hy, rfl, hA, hb, ho⟩ := hrel
          have hsz2 := hA.lt
          by_cases hym : y < lnx s
          · have c1 := hA.cell hym
            have hfl := filter_len (hasB f (lnx f)) y
            cases hhas : hasB f (lnx f) y with
            | false =>
              rw [hhas] at c1
              have hs := filter_succ (hasB f (lnx f)) y
              rw [hhas, if_neg (by simp)] at hs
              rw [← hs] at ho
              have P1 : Hid (Arr 4 wr w1.heap.size (lnx s) (fun j => .bool (hasB f (lnx f) j)) ∧ Below w1.heap.size w1 wr ∧ OwnN wr (w1.heap.size + 1) u10 ((List.range (y + 1)).filter (hasB f (lnx f)))) := ⟨hA, hb, ho⟩
              clear hA hb ho hs hhas
              go_wp2
              go_roundw
              case rel => exact ⟨y + 1, by omega, by go_num, P1.out⟩
              case measure => simp [intOf]; omega
            | true =>
              rw [hhas] at c1
              have hs := filter_succ (hasB f (lnx f)) y
              rw [hhas, if_pos rfl] at hs
              have e4 := ho.alloc (.cells #[.int .i64 y] 3)
              have e2 := World.cell?_alloc_new wr #[.int .i64 (y : Int)] 3 0
              have HA := Lib.hid hA
              have HBB := Lib.hid hb
              have HO := Lib.hid ho
              have HS := Lib.hid hs
              clear hA hb ho hs hhas
              go_wp2_with (at_builtin; refine wpList_push _ rfl _ _ 31 rfl (w1.heap.size + 1) 3 (.int .i64 0) 8 Try.underlying31 Try.infoInt rfl _ _ _ rfl wr.heap.size (.int .i64 y) rfl e4 e2 rfl ?_ ?_ ?_ ?_)
              · simp only [maxLen]; omega
              · omega
              · simp only [World.size_alloc]; omega
              intro r2 c2 w2 hap
              have ho2 : Only (fun k => w1.heap.size + 1 ≤ k) wr w2 := Only.grown ((Only.refl _ wr).alloc _) hap.grown (fun k hk e => (HO.out.lt e).1)
              have P1 : Hid (Arr 4 w2 w1.heap.size (lnx s) (fun j => .bool (hasB f (lnx f) j)) ∧ Below w1.heap.size w1 w2 ∧ OwnN w2 (w1.heap.size + 1) (.slice (some ⟨r2, 0, none⟩) (lnx ((List.range y).filter (hasB f (lnx f))) + 1) c2) ((List.range (y + 1)).filter (hasB f (lnx f)))) :=
                ⟨HA.out.only ho2 (by omega), HBB.out.trans (ho2.below (by omega) (by omega)), by rw [HS.out]; exact OwnN.push hap.own⟩
              clear hap ho2 HA HBB HO HS e4 e2
              go_wp2
              go_roundw
              case rel => exact ⟨y + 1, by omega, by go_num, P1.out⟩
              case measure => simp [intOf]; omega
          · have P1 : Hid (ImgPost w (imgRes t s f) (.returned u10) wr) := ⟨_, rfl, by
              rw [HV.out]
              have := ho.ints
              rw [show y = lnx s by omega] at this
              exact this, belowThen HB.out hb⟩
            clear hA hb ho
            go_wp2
            go_ret
            exact P1.out
end Go.Proofs.Ytgghmjnbkbiffaa
