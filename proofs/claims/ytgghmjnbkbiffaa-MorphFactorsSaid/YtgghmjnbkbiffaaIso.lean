/-
  Walks: morph.Isomorphism; the law MorphIsomorphic. Counting injective maps.
-/
import Derived.Test.YtgghmjnbkbiffaaLists
namespace Go.Proofs.Ytgghmjnbkbiffaa
open Go.RowKit
set_option linter.unusedVariables false

/-- a (a - 1) (a - 2) .., k factors. -/
def ff : Nat → Nat → Nat
  | _, 0 => 1
  | a, k + 1 => a * ff (a - 1) k

theorem free_len {m : Nat} {p : List Nat} (hd : p.Nodup) (hl : ∀ x ∈ p, x < m) : ((List.range m).filter (fun y => decide (y ∉ p))).length + p.length ≤ m := by
  have h1 : (((List.range m).filter (fun y => decide (y ∉ p))) ++ p).Nodup := by
    rw [List.nodup_append]
    refine ⟨List.nodup_range.filter _, hd, fun a ha b hb e => ?_⟩
    subst e
    simp at ha
    exact ha.2 hb
  have h2 := nodup_le h1 (n := m) (by
    intro x hx
    simp at hx
    rcases hx with hx | hx
    · exact hx.1
    · exact hl x hx)
  simpa using h2

theorem flatMap_filter {α β : Type} (l : List α) (f : α → List β) (p : α → Bool) (h : ∀ a ∈ l, p a = false → f a = []) : l.flatMap f = (l.filter p).flatMap f := by
  induction l with
  | nil => rfl
  | cons a l ih =>
    have ih' := ih (fun b hb => h b (by simp [hb]))
    by_cases e : p a = true
    · rw [List.filter_cons_of_pos e]; simp [List.flatMap_cons, ih']
    · rw [List.filter_cons_of_neg e, List.flatMap_cons, h a (by simp) (by simpa using e), ih']; rfl

theorem inj_len {n m : Nat} {T U : Nat → Nat → Nat} : ∀ (k : Nat) (p : List Nat), p.length + k = n → p.Nodup → (∀ x ∈ p, x < m) → (lexExt (homB n m T U true) m k p).length ≤ ff (m - p.length) k
  | 0, p, _, _, _ => by unfold lexExt; split <;> simp [ff]
  | k + 1, p, hk, hd, hl => by
    have hz : ∀ y ∈ List.range m, decide (y ∉ p) = false → lexExt (homB n m T U true) m k (p ++ [y]) = [] := by
      intro y _ hy
      have hmem : y ∈ p := by simpa using hy
      rw [List.eq_nil_iff_forall_not_mem]
      intro h hh
      obtain ⟨h1, h2, h3, _⟩ := lexExt_mem hh
      obtain ⟨i, hi, e⟩ := mem_nthx hmem
      have hi' : i < p.length := hi
      have e1 := h3 i (by simp; omega)
      have e2 := h3 p.length (by simp)
      rw [nthx_append_lt p [y] hi, e] at e1
      rw [show p.length = lnx p from rfl, nthx_append_new] at e2
      exact (homB_iff.1 h1).inj rfl i p.length (by omega) (by omega) (by omega) (e1.trans e2.symm)
    unfold lexExt
    rw [flatMap_filter _ _ _ hz]
    have hf := free_len hd hl
    have := flatMap_len ((List.range m).filter (fun y => decide (y ∉ p))) (fun y => lexExt (homB n m T U true) m k (p ++ [y])) (ff (m - p.length - 1) k) (fun y hy => by
      simp at hy
      have h := inj_len (T := T) (U := U) (n := n) (m := m) k (p ++ [y]) (by simp; omega) (by
        rw [List.nodup_append]
        exact ⟨hd, by simp, fun a ha b hb e => by simp at hb; subst hb; subst e; exact hy.2 ha⟩) (by
        intro x hx
        simp at hx
        rcases hx with hx | rfl
        · exact hl x hx
        · exact hy.1)
      rw [show m - (p ++ [y]).length = m - p.length - 1 by simp; omega] at h
      exact h)
    refine Nat.le_trans this ?_
    show _ ≤ (m - p.length) * ff (m - p.length - 1) k
    exact Nat.mul_le_mul_right _ (by omega)

theorem autos_small {t : List (List Int)} (hn : lnx t ≤ 5) : lnx (homsT t t true) ≤ 120 := by
  have h := inj_len (n := lnx t) (m := lnx t) (T := tabOf t) (U := tabOf t) (lnx t) [] (by simp) (by simp) (by simp)
  have h2 : ff (lnx t - ([] : List Nat).length) (lnx t) ≤ 120 := by
    have hc : lnx t = 0 ∨ lnx t = 1 ∨ lnx t = 2 ∨ lnx t = 3 ∨ lnx t = 4 ∨ lnx t = 5 := by omega
    rcases hc with h | h | h | h | h | h <;> rw [h] <;> decide
  exact Nat.le_trans h h2

/-- The least isomorphism. -/
noncomputable def isoF (t s : List (List Int)) : Option (List Nat) := if lnx t = lnx s then (homsT t s true).head? else none

def IsoPost (w : World) (t s : List (List Int)) (e : Ending) (w' : World) : Prop :=
  ∃ v ok, e = .returned (.tuple #[v, .bool ok, .int .i64 (mayErr t s)]) ∧ Below w.heap.size w w' ∧ (mayErr t s ≠ 0 → ok = false ∧ Ints w' v []) ∧
    (mayErr t s = 0 → (isoF t s = none → ok = false ∧ Ints w' v []) ∧ ∀ h, isoF t s = some h → ok = true ∧ Ints w' v (natsOf h))

theorem Sl.nil (w : World) : Ints w (.slice none 0 0) [] := ⟨none, 0, rfl, by simp [lnx], by omega, fun h => by simp [lnx] at h⟩

theorem iso_any (w : World) (v u : Value) (t s : List (List Int)) (ht : Rows2 w v t) (hs : Rows2 w u s) :
    Calls Try.prog 23 #[v, u] w (IsoPost w t s) := by
  have H1 := Lib.hid (mvalidate_any w v u t s ht hs)
  have HT := Lib.hid ht
  have HS := Lib.hid hs
  obtain ⟨a, cap, rfl, h1, h2, -⟩ := ht
  obtain ⟨a', cap', rfl, h1', h2', -⟩ := hs
  by_cases e1 : mayErr t s = 0
  case neg =>
    have hb : (mayErr t s != 0) = true := bne_t e1
    go_enter Try.func23, Try.ntmps23
    go_wp2_with fail
    refine H1.out.mono ?_
    rintro e w' ⟨rfl, hq⟩
    have HP : Hid (IsoPost w t s (.returned (.tuple #[.slice none 0 0, .bool false, .int .i64 (mayErr t s)])) w') := ⟨_, _, rfl, hq, fun _ => ⟨rfl, Sl.nil _⟩, fun h => absurd h e1⟩
    clear hq H1
    go_wp2
    go_ret3
    exact HP.out
  have e0 := mayErr_inv e1
  obtain ⟨ev1, ev2, l1, l2⟩ := e0
  have htab := Tab.of_rows HT.out (vErr_inv ev1).1
  have hsab := Tab.of_rows HS.out (vErr_inv ev2).1
  have H2 := Lib.hid (fun W (hb : Below w.heap.size w W) => run_any W _ _ _ _ true _ _ 1 (htab.keep (Keeps.below hb)) (hsab.keep (Keeps.below hb)) (by omega) (by omega) l1 l2)
  rw [e1] at H1
  have HE1 := Lib.hid e1
  clear e1 ev1 ev2 htab hsab
  by_cases hl : lnx t = lnx s
  case neg =>
    have hb : ((lnx t : Int) != (lnx s : Int)) = true := bne_t (by omega)
    have hiso : isoF t s = none := by unfold isoF; rw [if_neg hl]
    go_enter Try.func23, Try.ntmps23
    go_wp2_with fail
    refine H1.out.mono ?_
    rintro e w' ⟨rfl, hq⟩
    have HP : Hid (IsoPost w t s (.returned (.tuple #[.slice none 0 0, .bool false, .int .i64 0])) w') := ⟨_, _, by rw [HE1.out], hq, fun h => absurd HE1.out h, fun _ => ⟨fun _ => ⟨rfl, Sl.nil _⟩, fun h hh => by rw [hiso] at hh; cases hh⟩⟩
    clear hq H1 H2 hiso
    go_wp2
    go_ret3
    exact HP.out
  have hb : ((lnx t : Int) != (lnx s : Int)) = false := bne_f (by rw [hl])
  have hiso : isoF t s = (homsT t s true).head? := by unfold isoF; rw [if_pos hl]
  have HISO := Lib.hid hiso
  clear hl hiso
  go_enter Try.func23, Try.ntmps23
  go_wp2_with fail
  refine H1.out.mono ?_
  rintro e w1 ⟨rfl, hq⟩
  have HQ := Lib.hid hq
  clear hq H1
  go_wp2_with fail
  refine (H2.out w1 HQ.out).mono ?_
  rintro e w2 ⟨vr, rfl, hr, hb2⟩
  have HB := Lib.hid (belowThen HQ.out hb2)
  have HRR := Lib.hid hr
  obtain ⟨ra, rc, rfl, hrc1, hrc2, hr3⟩ := hr
  clear H2 hb2 HQ
  cases hh : homs (lnx t) (lnx s) (tabOf t) (tabOf s) true with
  | nil =>
    have hn : isoF t s = none := by rw [HISO.out]; unfold homsT; rw [hh]; rfl
    rw [hh] at hr3 HRR hrc1
    simp only [List.take_nil, List.map_nil, lnx_nil] at hr3 HRR hrc1 ⊢
    have HP : Hid (IsoPost w t s (.returned (.tuple #[.slice none 0 0, .bool false, .int .i64 0])) w2) := ⟨_, _, by rw [HE1.out], HB.out, fun h => absurd HE1.out h, fun _ => ⟨fun _ => ⟨rfl, Sl.nil _⟩, fun h hh => by rw [hn] at hh; cases hh⟩⟩
    clear hr3 HRR hh hn hrc1
    go_wp2
    go_ret3
    exact HP.out
  | cons h rest =>
    have hn : isoF t s = some h := by rw [HISO.out]; unfold homsT; rw [hh]; rfl
    have e1 : ((homs (lnx t) (lnx s) (tabOf t) (tabOf s) true).take 1).map natsOf = [natsOf h] := by rw [hh]; simp
    rw [e1] at hr3 HRR hrc1
    have e2 : lnx (((homs (lnx t) (lnx s) (tabOf t) (tabOf s) true).take 1).map natsOf) = 1 := by rw [e1]; rfl
    rw [hh] at e2
    rw [e2]
    obtain ⟨rb, ro, rfl, hcell⟩ := hr3 (by simp [lnx])
    obtain ⟨x, hx, hxi⟩ := hcell 0 (by simp [lnx])
    rw [Nat.add_zero] at hx
    have hxi' : Ints w2 x (natsOf h) := by simpa [nthx] using hxi
    have HP : Hid (IsoPost w t s (.returned (.tuple #[x, .bool true, .int .i64 0])) w2) := ⟨_, _, by rw [HE1.out], HB.out, fun h => absurd HE1.out h, fun _ => ⟨fun hh => (by rw [hn] at hh; cases hh), fun g hg => (by rw [hn] at hg; cases hg; exact ⟨rfl, hxi'⟩)⟩⟩
    obtain ⟨xa, xc, rfl, -, -, -⟩ := hxi'
    clear hxi hcell HRR hh hn e1 e2 hrc1
    go_wp2
    go_ret3
    exact HP.out

theorem beqB (a b : Bool) : (a != b) = (a != b) := rfl

set_option maxRecDepth 100000 in
set_option maxHeartbeats 2000000 in
theorem isomorphic_walk (w : World) (v u : Value) (t s : List (List Int)) (ht : Rows2 w v t) (hs : Rows2 w u s) :
    Calls Try.prog 4 #[v, u] w fun e w' => e = .returned (.bool true) ∧ Below w.heap.size w w' := by
  have HT := Lib.hid ht
  have HS := Lib.hid hs
  have L1 := Lib.hid (large_any w v t ht 60 (by omega))
  have L2 := Lib.hid (large_any w u s hs 60 (by omega))
  have H1 := Lib.hid (iso_any w v u t s ht hs)
  obtain ⟨a, cap, rfl, h1, h2, -⟩ := ht
  obtain ⟨a', cap', rfl, h1', h2', -⟩ := hs
  by_cases hlg : largeB t 60 = true ∨ largeB s 60 = true
  · have HLG := Lib.hid hlg
    clear hlg
    have HA := Lib.hid (awake_any w)
    by_cases hl1 : largeB t 60 = true
    · rw [hl1] at L1
      clear hl1 HLG
      go_enter Try.func4, Try.ntmps4
      go_wp2_with fail
      refine L1.out.mono ?_
      rintro e w' ⟨rfl, rfl⟩
      go_wp2_with fail
      refine HA.out.mono ?_
      rintro e w' ⟨rfl, hb⟩
      have HB := Lib.hid hb
      clear hb
      go_wp2
      go_ret
      exact ⟨rfl, HB.out⟩
    · have hl2 : largeB s 60 = true := HLG.out.resolve_left hl1
      rw [show largeB t 60 = false by simpa using hl1] at L1
      rw [hl2] at L2
      clear hl1 hl2 HLG
      go_enter Try.func4, Try.ntmps4
      go_wp2_with fail
      refine L1.out.mono ?_
      rintro e w' ⟨rfl, rfl⟩
      go_wp2_with fail
      refine L2.out.mono ?_
      rintro e w' ⟨rfl, rfl⟩
      go_wp2_with fail
      refine HA.out.mono ?_
      rintro e w' ⟨rfl, hb⟩
      have HB := Lib.hid hb
      clear hb
      go_wp2
      go_ret
      exact ⟨rfl, HB.out⟩
  rw [show largeB t 60 = false by simpa using fun h => hlg (.inl h)] at L1
  rw [show largeB s 60 = false by simpa using fun h => hlg (.inr h)] at L2
  clear hlg
  have HM := Lib.hid (fun W (hb : Below w.heap.size w W) => maySearch_any W _ _ t s (HT.out.keep (Keeps.below hb)) (HS.out.keep (Keeps.below hb)))
  go_enter Try.func4, Try.ntmps4
  go_wp2_with fail
  refine L1.out.mono ?_
  rintro e w' ⟨rfl, rfl⟩
  go_wp2_with fail
  refine L2.out.mono ?_
  rintro e w' ⟨rfl, rfl⟩
  clear L1 L2
  go_wp2_with fail
  refine H1.out.mono ?_
  rintro e w1 ⟨vi, ok, rfl, hb1, hbad, hgood⟩
  have HB1 := Lib.hid hb1
  have HBAD := Lib.hid hbad
  have HGOOD := Lib.hid hgood
  clear hb1 hbad hgood H1
  go_wp2_with fail
  refine (HM.out w1 HB1.out).mono ?_
  rintro e w2 ⟨rfl, hq2⟩
  have HB2 := Lib.hid (belowThen HB1.out (Below.quiet hq2))
  have HK2 := Lib.hid hq2.keeps
  clear hq2 HM
  by_cases e1 : mayErr t s = 0
  case neg =>
    obtain ⟨rfl, hv⟩ := HBAD.out e1
    obtain ⟨xa, xc, rfl, -, -, -⟩ := hv
    rw [lnx_nil]
    have g1 : (mayErr t s != 0) = true := bne_t e1
    have g2 : (mayErr t s == mayErr t s) = true := beq_t rfl
    have HA := Lib.hid (awake_any w2)
    clear HBAD HGOOD e1
    go_wp2_with fail
    refine HA.out.mono ?_
    rintro e w3 ⟨rfl, hb3⟩
    have HB3 := Lib.hid (belowThen HB2.out hb3)
    clear hb3
    go_wp2
    go_ret
    exact ⟨rfl, HB3.out⟩
  have e0 := mayErr_inv e1
  obtain ⟨ev1, ev2, l1, l2⟩ := e0
  rw [e1]
  by_cases hsm : 5 < lnx t ∨ 5 < lnx s
  · have HSM := Lib.hid hsm
    have HA := Lib.hid (awake_any w2)
    clear hsm e1 ev1 ev2 HBAD HGOOD
    by_cases h5 : 5 < lnx t
    all_goals
      try (have h6 : 5 < lnx s := by have := HSM.out; omega)
      go_wp2_with fail
      refine HA.out.mono ?_
      rintro e w3 ⟨rfl, hb4⟩
      have HB4 := Lib.hid (belowThen HB2.out hb4)
      clear hb4 HA
      go_wp2
      go_ret
      exact ⟨rfl, HB4.out⟩
  have l5 : lnx t ≤ 5 := by omega
  have l5' : lnx s ≤ 5 := by omega
  have htab := Tab.of_rows HT.out (vErr_inv ev1).1
  have hsab := Tab.of_rows HS.out (vErr_inv ev2).1
  have hmt : mayErr t t = 0 := mayErr_0 ev1 ev1 (by omega)
  have hcnt := autos_small l5
  have hE : listErr t t true = 0 := by unfold listErr; rw [hmt, if_neg (by simp), if_neg (by omega)]
  have hR : listRows t t true = (homsT t t true).map natsOf := by unfold listRows; rw [hE, if_pos rfl]
  have HAU := Lib.hid (fun W (hb : Below w.heap.size w W) => autos_any W _ t (HT.out.keep (Keeps.below hb)))
  rw [hE, hR] at HAU
  have htk : (homs (lnx t) (lnx t) (tabOf t) (tabOf t) true).take 2000 = homsT t t true := List.take_of_length_le (show lnx (homsT t t true) ≤ 2000 by omega)
  have HRH := Lib.hid (fun W (hb : Below w.heap.size w W) => refHoms_any W _ _ _ _ true _ _ 2000 (htab.keep (Keeps.below hb)) (htab.keep (Keeps.below hb)) (by omega) (by omega) l1 l1)
  rw [htk] at HRH
  have HW := Lib.hid (fun W (hb : Below w.heap.size w W) => refHoms_any W _ _ _ _ true _ _ 1 (htab.keep (Keeps.below hb)) (hsab.keep (Keeps.below hb)) (by omega) (by omega) l1 l2)
  have HG := Lib.hid (HGOOD.out e1)
  clear hE hR htk hcnt hmt htab hsab ev1 ev2 e1 hsm HBAD HGOOD
  by_cases hl : lnx t = lnx s
  case neg =>
    have g1 : ((lnx t : Int) == (lnx s : Int)) = false := beq_f (by omega)
    obtain ⟨rfl, hv⟩ := HG.out.1 (by unfold isoF; rw [if_neg hl])
    obtain ⟨xa, xc, rfl, -, -, -⟩ := hv
    rw [lnx_nil]
    clear HG HW hl
    go_wp2_with fail
    refine (HAU.out w2 HB2.out).mono ?_
    rintro e w6 ⟨v6, rfl, hr6, hb6⟩
    have HR6 := Lib.hid hr6
    have HB6 := Lib.hid (belowThen HB2.out hb6)
    clear hr6 hb6 HAU HB2
    go_wp2_with fail
    refine (HRH.out w6 HB6.out).mono ?_
    rintro e w7 ⟨v7, rfl, hr7, hb7⟩
    have hsame := sameRows_any w7 v6 v7 _ _ (HR6.out.keep (Keeps.below hb7)) hr7
    rw [sameRowsB_t rfl] at hsame
    have HSA := Lib.hid hsame
    have HB7 := Lib.hid (belowThen HB6.out hb7)
    clear HRH hb7 hr7 HR6 hsame HB6
    go_wp2_with fail
    refine HSA.out.mono ?_
    rintro e w8 ⟨rfl, hq⟩
    have HB8 := Lib.hid (belowThen HB7.out (Below.quiet hq))
    have HA := Lib.hid (awake_any w8)
    clear HSA hq HB7
    go_wp2_with fail
    refine HA.out.mono ?_
    rintro e w9 ⟨rfl, hb9⟩
    have HB9 := Lib.hid (belowThen HB8.out hb9)
    clear hb9 HA HB8
    go_wp2
    go_ret
    exact ⟨rfl, HB9.out⟩
  have g1 : ((lnx t : Int) == (lnx s : Int)) = true := beq_t (by rw [hl])
  have hiso : isoF t s = (homsT t s true).head? := by unfold isoF; rw [if_pos hl]
  rw [hiso] at HG
  clear hl hiso
  cases hh : homsT t s true with
  | nil =>
    rw [hh] at HG
    have hw1 : (homs (lnx t) (lnx s) (tabOf t) (tabOf s) true).take 1 = [] := by
      show (homsT t s true).take 1 = []
      rw [hh]; rfl
    rw [hw1] at HW
    obtain ⟨rfl, hv⟩ := HG.out.1 rfl
    obtain ⟨xa, xc, rfl, -, -, -⟩ := hv
    rw [lnx_nil]
    clear HG hh hw1
    go_wp2_with fail
    refine (HW.out w2 HB2.out).mono ?_
    rintro e w3 ⟨v3, rfl, hr3, hb3⟩
    have HB3 := Lib.hid (belowThen HB2.out hb3)
    obtain ⟨ya, yc, rfl, -, -, -⟩ := hr3
    rw [List.map_nil, lnx_nil]
    clear HW hb3 HB2
    go_wp2_with fail
    refine (HAU.out w3 HB3.out).mono ?_
    rintro e w6 ⟨v6, rfl, hr6, hb6⟩
    have HR6 := Lib.hid hr6
    have HB6 := Lib.hid (belowThen HB3.out hb6)
    clear hr6 hb6 HAU HB3
    go_wp2_with fail
    refine (HRH.out w6 HB6.out).mono ?_
    rintro e w7 ⟨v7, rfl, hr7, hb7⟩
    have hsame := sameRows_any w7 v6 v7 _ _ (HR6.out.keep (Keeps.below hb7)) hr7
    rw [sameRowsB_t rfl] at hsame
    have HSA := Lib.hid hsame
    have HB7 := Lib.hid (belowThen HB6.out hb7)
    clear HRH hb7 hr7 HR6 hsame HB6
    go_wp2_with fail
    refine HSA.out.mono ?_
    rintro e w8 ⟨rfl, hq⟩
    have HB8 := Lib.hid (belowThen HB7.out (Below.quiet hq))
    have HA := Lib.hid (awake_any w8)
    clear HSA hq HB7
    go_wp2_with fail
    refine HA.out.mono ?_
    rintro e w9 ⟨rfl, hb9⟩
    have HB9 := Lib.hid (belowThen HB8.out hb9)
    clear hb9 HA HB8
    go_wp2
    go_ret
    exact ⟨rfl, HB9.out⟩
  | cons h rest =>
    rw [hh] at HG
    have hw1 : (homs (lnx t) (lnx s) (tabOf t) (tabOf s) true).take 1 = [h] := by
      show (homsT t s true).take 1 = [h]
      rw [hh]; rfl
    rw [hw1] at HW
    obtain ⟨rfl, hv⟩ := HG.out.2 h rfl
    have HV := Lib.hid hv
    clear HG hh hw1 hv
    go_wp2_with fail
    refine (HW.out w2 HB2.out).mono ?_
    rintro e w3 ⟨v3, rfl, hr3, hb3⟩
    have HB3 := Lib.hid (belowThen HB2.out hb3)
    obtain ⟨ya, yc, rfl, hy1, hy2, hy3⟩ := hr3
    have e2 : lnx (List.map natsOf [h]) = 1 := rfl
    rw [e2] at hy3 ⊢
    obtain ⟨yb, yo, rfl, hcell⟩ := hy3 (by omega)
    obtain ⟨y, hyc, hyi⟩ := hcell 0 (by omega)
    rw [Nat.add_zero] at hyc
    have hyi' : Ints w3 y (natsOf h) := by simpa [nthx] using hyi
    have hsm := same_any w3 vi y _ _ ((HV.out.keep HK2.out).keep (Keeps.below hb3)) hyi'
    rw [sameB_t rfl] at hsm
    have HSM := Lib.hid hsm
    clear HW hb3 HB2 hcell hyi hyi' hsm HV HK2 hy1 e2
    go_wp2_with fail
    refine HSM.out.mono ?_
    rintro e w4 ⟨rfl, hq4⟩
    have HB4 := Lib.hid (belowThen HB3.out (Below.quiet hq4))
    clear hq4 HSM HB3 hyc
    go_wp2_with fail
    refine (HAU.out w4 HB4.out).mono ?_
    rintro e w6 ⟨v6, rfl, hr6, hb6⟩
    have HR6 := Lib.hid hr6
    have HB6 := Lib.hid (belowThen HB4.out hb6)
    clear hr6 hb6 HAU HB4
    go_wp2_with fail
    refine (HRH.out w6 HB6.out).mono ?_
    rintro e w7 ⟨v7, rfl, hr7, hb7⟩
    have hsame := sameRows_any w7 v6 v7 _ _ (HR6.out.keep (Keeps.below hb7)) hr7
    rw [sameRowsB_t rfl] at hsame
    have HSA := Lib.hid hsame
    have HB7 := Lib.hid (belowThen HB6.out hb7)
    clear HRH hb7 hr7 HR6 hsame HB6
    go_wp2_with fail
    refine HSA.out.mono ?_
    rintro e w8 ⟨rfl, hq⟩
    have HB8 := Lib.hid (belowThen HB7.out (Below.quiet hq))
    have HA := Lib.hid (awake_any w8)
    clear HSA hq HB7
    go_wp2_with fail
    refine HA.out.mono ?_
    rintro e w9 ⟨rfl, hb9⟩
    have HB9 := Lib.hid (belowThen HB8.out hb9)
    clear hb9 HA HB8
    go_wp2
    go_ret
    exact ⟨rfl, HB9.out⟩
end Go.Proofs.Ytgghmjnbkbiffaa
