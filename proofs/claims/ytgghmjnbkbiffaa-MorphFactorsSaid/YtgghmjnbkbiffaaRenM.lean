/-
  Renumbered tables, and automorphisms under composition, in plain Lean.
-/
import Derived.Test.YtgghmjnbkbiffaaComplete
import Derived.Test.YtgghmjnbkbiffaaExtM
namespace Go.Proofs.Ytgghmjnbkbiffaa
set_option linter.unusedVariables false

/-- P and Q are permutations of the first n numbers, each the inverse of the other. -/
structure PermPQ (n : Nat) (P Q : Nat → Nat) : Prop where
  pl : ∀ i, i < n → P i < n
  ql : ∀ i, i < n → Q i < n
  pq : ∀ i, i < n → P (Q i) = i
  qp : ∀ i, i < n → Q (P i) = i
def swapP (P : Nat → Nat) (a b : Nat) : Nat → Nat := fun i => if i = b then P a else if i = a then P b else P i
theorem PermPQ.id (n : Nat) : PermPQ n (fun i => i) (fun i => i) := ⟨fun _ h => h, fun _ h => h, fun _ _ => rfl, fun _ _ => rfl⟩
def sg (a b i : Nat) : Nat := if i = b then a else if i = a then b else i
theorem sg_lt {a b n i : Nat} (ha : a < n) (hb : b < n) (hi : i < n) : sg a b i < n := by
  unfold sg
  split
  · exact ha
  · split
    · exact hb
    · exact hi
theorem sg_sg (a b i : Nat) : sg a b (sg a b i) = i := by
  unfold sg
  by_cases h1 : i = b
  · subst h1
    by_cases h2 : a = i
    · simp [h2]
    · simp [h2]
  · by_cases h2 : i = a
    · subst h2; simp [h1]
    · simp [h1, h2]
theorem swapP_sg (P : Nat → Nat) (a b i : Nat) : swapP P a b i = P (sg a b i) := by
  unfold swapP sg
  split
  · rfl
  · split <;> rfl
theorem PermPQ.swap {n : Nat} {P Q : Nat → Nat} {a b : Nat} (h : PermPQ n P Q) (ha : a < n) (hb : b < n) : PermPQ n (swapP P a b) (fun i => sg a b (Q i)) := by
  refine ⟨fun i hi => ?_, fun i hi => sg_lt ha hb (h.ql i hi), fun i hi => ?_, fun i hi => ?_⟩
  · rw [swapP_sg]; exact h.pl _ (sg_lt ha hb hi)
  · rw [swapP_sg, sg_sg, h.pq i hi]
  · show sg a b (Q (swapP P a b i)) = i
    rw [swapP_sg, h.qp _ (sg_lt ha hb hi), sg_sg]

/-- n rows of m numbers. -/
def rowsG (n m : Nat) (G : Nat → Nat → Int) : List (List Int) := (List.range n).map fun r => listF (G r) m
theorem lnx_rowsG (n m : Nat) (G : Nat → Nat → Int) : lnx (rowsG n m G) = n := by simp [rowsG, lnx]
theorem nthx_rowsG {n : Nat} (m : Nat) (G : Nat → Nat → Int) {r : Nat} (h : r < n) : nthx (rowsG n m G) r = listF (G r) m := by simp [rowsG, nthx, h]
theorem tabOf_rowsG {n : Nat} (m : Nat) (G : Nat → Nat → Int) {r c : Nat} (h : r < n) (hc : c < m) : tabOf (rowsG n m G) r c = (G r c).toNat := by
  unfold tabOf
  rw [nthx_rowsG m G h, nthx_listF _ hc]

section
variable {t : List (List Int)} {P Q : Nat → Nat} {G : Nat → Nat → Int}
theorem ren_at (h : PermPQ (lnx t) P Q) (hG : ∀ x y, x < lnx t → y < lnx t → G (P x) (P y) = (P (tabOf t x y) : Int)) {r c : Nat} (hr : r < lnx t) (hc : c < lnx t) : G r c = (P (tabOf t (Q r) (Q c)) : Int) := by
  have := hG (Q r) (Q c) (h.ql r hr) (h.ql c hc)
  rwa [h.pq r hr, h.pq c hc] at this
theorem ren_valid (ht : vErr t = 0) (h : PermPQ (lnx t) P Q) (hG : ∀ x y, x < lnx t → y < lnx t → G (P x) (P y) = (P (tabOf t x y) : Int)) : vErr (rowsG (lnx t) (lnx t) G) = 0 := by
  have hT := tabT ht
  obtain ⟨h0, h4, -⟩ := shape_inv (vErr_inv ht).1
  have hL := lnx_rowsG (lnx t) (lnx t) G
  have hat : ∀ r c, r < lnx t → c < lnx t → tabOf (rowsG (lnx t) (lnx t) G) r c = P (tabOf t (Q r) (Q c)) := fun r c hr hc => by
    rw [tabOf_rowsG _ _ hr hc, ren_at h hG hr hc]
    exact Int.toNat_natCast _
  refine vErr_ok (shape_good (by omega) (by omega) (fun r hr => ?_)) ?_
  · rw [hL] at hr
    unfold rowOk
    rw [hL, nthx_rowsG _ _ hr, lnx_listF]
    refine ⟨rfl, fun i hi => ?_⟩
    rw [nthx_listF _ hi, ren_at h hG hr hi]
    have := h.pl _ (hT _ _ (h.ql r hr) (h.ql i hi))
    omega
  · rw [hL]
    intro x y z hx hy hz
    have lxy := hT _ _ (h.ql x hx) (h.ql y hy)
    have lyz := hT _ _ (h.ql y hy) (h.ql z hz)
    rw [hat x y hx hy, hat y z hy hz, hat _ z (h.pl _ lxy) hz, hat x _ hx (h.pl _ lyz), h.qp _ lxy, h.qp _ lyz, (vErr_inv ht).2 _ _ _ (h.ql x hx) (h.ql y hy) (h.ql z hz)]
theorem ren_hom (ht : vErr t = 0) (h : PermPQ (lnx t) P Q) (hG : ∀ x y, x < lnx t → y < lnx t → G (P x) (P y) = (P (tabOf t x y) : Int)) :
    homL (lnx t) (lnx t) (tabOf t) (tabOf (rowsG (lnx t) (lnx t) G)) (listF (fun i => (P i : Int)) (lnx t)) = true ∧ InjL (lnx t) (listF (fun i => (P i : Int)) (lnx t)) := by
  have hT := tabT ht
  have hn : ∀ i, i < lnx t → nat_ (listF (fun i => (P i : Int)) (lnx t)) i = P i := fun i hi => by
    rw [nat_listF _ hi]
    exact Int.toNat_natCast _
  refine ⟨homL_good (lnx_listF _ _) (inB_t (fun i hi => ?_)) (fun x y hx hy => ?_), fun a b ha hb hne => ?_⟩
  · rw [lnx_listF] at hi
    rw [nthx_listF _ hi]
    have := h.pl i hi
    omega
  · rw [hn _ (hT x y hx hy), hn x hx, hn y hy, tabOf_rowsG _ _ (h.pl x hx) (h.pl y hy), hG x y hx hy]
    exact (Int.toNat_natCast _).symm
  · rw [hn a ha, hn b hb]
    intro e
    exact hne (by rw [← h.qp a ha, e, h.qp b hb])
theorem iso_some {s : List (List Int)} {p : List Int} (ht : vErr t = 0) (hl : lnx s = lnx t) (h1 : homL (lnx t) (lnx s) (tabOf t) (tabOf s) p = true) (h2 : InjL (lnx t) p) :
    ∃ h, isoF t s = some h ∧ homL (lnx t) (lnx s) (tabOf t) (tabOf s) (natsOf h) = true ∧ InjL (lnx t) (natsOf h) := by
  have hm := (mem_homs (s := s) (inj := true) ht).2 ⟨h1, fun _ => h2⟩
  obtain ⟨q, hq, -⟩ := List.mem_map.1 hm
  cases hh : homsT t s true with
  | nil => rw [hh] at hq; cases hq
  | cons a l =>
    have ha : natsOf a ∈ (homsT t s true).map natsOf := List.mem_map.2 ⟨a, by rw [hh]; simp, rfl⟩
    obtain ⟨g1, g2⟩ := (mem_homs ht).1 ha
    exact ⟨a, by unfold isoF; rw [if_pos hl.symm, hh]; rfl, g1, g2 rfl⟩
theorem autos_six (hn : lnx t ≤ 6) : lnx (homsT t t true) ≤ 720 := by
  have h := inj_len (n := lnx t) (m := lnx t) (T := tabOf t) (U := tabOf t) (lnx t) [] (by simp) (by simp) (by simp)
  have h2 : ff (lnx t - ([] : List Nat).length) (lnx t) ≤ 720 := by
    have hc : lnx t = 0 ∨ lnx t = 1 ∨ lnx t = 2 ∨ lnx t = 3 ∨ lnx t = 4 ∨ lnx t = 5 ∨ lnx t = 6 := by omega
    rcases hc with h | h | h | h | h | h | h <;> rw [h] <;> decide
  exact Nat.le_trans h h2

/-- first b, then c. -/
def compN (b c : List Int) (k : Nat) : List Nat := (List.range k).map fun i => nat_ c (nat_ b i)
theorem lnx_compN (b c : List Int) (k : Nat) : lnx (compN b c k) = k := by simp [compN, lnx]
theorem nthx_compN (b c : List Int) {k i : Nat} (h : i < k) : nthx (compN b c k) i = nat_ c (nat_ b i) := by simp [compN, nthx, h]
theorem compN_succ (b c : List Int) (k : Nat) : compN b c (k + 1) = compN b c k ++ [nat_ c (nat_ b k)] := by simp [compN, List.range_succ]
theorem comp_auto {b c : List Int} (ht : vErr t = 0) (hb : b ∈ (homsT t t true).map natsOf) (hc : c ∈ (homsT t t true).map natsOf) : natsOf (compN b c (lnx t)) ∈ (homsT t t true).map natsOf := by
  have hT := tabT ht
  obtain ⟨b1, b2⟩ := (mem_homs ht).1 hb
  obtain ⟨c1, c2⟩ := (mem_homs ht).1 hc
  obtain ⟨p1, p2, p3⟩ := homL_inv b1
  obtain ⟨q1, q2, q3⟩ := homL_inv c1
  have lb : ∀ i, i < lnx t → nat_ b i < lnx t := fun i hi => (nat_cast p2 (by omega)).2
  have lc : ∀ i, i < lnx t → nat_ c i < lnx t := fun i hi => (nat_cast q2 (by omega)).2
  have hn : ∀ i, i < lnx t → nat_ (natsOf (compN b c (lnx t))) i = nat_ c (nat_ b i) := fun i hi => by rw [nat_natsOf _ (by rw [lnx_compN]; exact hi), nthx_compN b c hi]
  refine (mem_homs ht).2 ⟨homL_good (by rw [lnx_natsOf, lnx_compN]) (inB_t (fun i hi => ?_)) (fun x y hx hy => ?_), fun _ a d ha hd hne => ?_⟩
  · rw [lnx_natsOf] at hi
    rw [nthx_natsOf _ hi]
    rw [lnx_compN] at hi
    rw [nthx_compN b c hi]
    have := lc _ (lb i hi)
    omega
  · rw [hn _ (hT x y hx hy), hn x hx, hn y hy, p3 x y hx hy, q3 _ _ (lb x hx) (lb y hy)]
  · rw [hn a ha, hn d hd]
    exact c2 rfl _ _ (lb a ha) (lb d hd) (b2 rfl a d ha hd hne)
theorem id_auto (ht : vErr t = 0) : ∃ a, a ∈ (homsT t t true).map natsOf := by
  have hT := tabT ht
  have hn : ∀ i, i < lnx t → nat_ (listF (fun i => (i : Int)) (lnx t)) i = i := fun i hi => by
    rw [nat_listF _ hi]
    exact Int.toNat_natCast _
  refine ⟨listF (fun i => (i : Int)) (lnx t), (mem_homs ht).2 ⟨homL_good (lnx_listF _ _) (inB_t (fun i hi => ?_)) (fun x y hx hy => ?_), fun _ a d ha hd hne => ?_⟩⟩
  · rw [lnx_listF] at hi
    rw [nthx_listF _ hi]
    omega
  · rw [hn _ (hT x y hx hy), hn x hx, hn y hy]
  · rw [hn a ha, hn d hd]; exact hne
end
end Go.Proofs.Ytgghmjnbkbiffaa
