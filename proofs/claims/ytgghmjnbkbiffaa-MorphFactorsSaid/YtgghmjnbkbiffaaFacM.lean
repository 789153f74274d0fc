/-
  Canonical numberings, quotients by kernels, in plain Lean.
-/
import Derived.Test.YtgghmjnbkbiffaaCanon
import Derived.Test.YtgghmjnbkbiffaaRenM
namespace Go.Proofs.Ytgghmjnbkbiffaa
set_option linter.unusedVariables false

/-- The number of classes among the first k points, as the check counts them. -/
def cntV (p : List Int) : Nat → Nat
  | 0 => 0
  | k + 1 => if nthx p k = (cntV p k : Int) then cntV p k + 1 else cntV p k
theorem cntV_succ (p : List Int) (k : Nat) : cntV p (k + 1) = if nthx p k = (cntV p k : Int) then cntV p k + 1 else cntV p k := rfl
theorem cntV_mono (p : List Int) (k : Nat) : cntV p k ≤ cntV p (k + 1) := by
  rw [cntV_succ]
  split <;> omega
theorem cntV_le (p : List Int) : ∀ k, cntV p k ≤ k
  | 0 => Nat.le_refl _
  | k + 1 => by
    have := cntV_le p k
    rw [cntV_succ]
    split <;> omega
theorem cntV_mono' (p : List Int) {j k : Nat} (h : j ≤ k) : cntV p j ≤ cntV p k := by
  induction h with
  | refl => exact Nat.le_refl _
  | step _ ih => exact Nat.le_trans ih (cntV_mono p _)

/-- A valid partition. -/
def PartOK (p : List Int) : Prop := ∀ k, k < lnx p → 0 ≤ nthx p k ∧ nthx p k ≤ (cntV p k : Int)
theorem PartOK.lt {p : List Int} (h : PartOK p) {k : Nat} (hk : k < lnx p) : nat_ p k < cntV p (k + 1) ∧ ((nat_ p k : Nat) : Int) = nthx p k := by
  have := h k hk
  unfold nat_
  refine ⟨?_, by omega⟩
  rw [cntV_succ]
  split <;> omega
theorem PartOK.ltn {p : List Int} (h : PartOK p) {k : Nat} (hk : k < lnx p) : nat_ p k < cntV p (lnx p) := Nat.lt_of_lt_of_le (h.lt hk).1 (cntV_mono' p (by omega))
/-- Each class has a point. -/
theorem class_has {p : List Int} : ∀ k c, c < cntV p k → ∃ x, x < k ∧ nthx p x = (c : Int)
  | 0, c, h => by simp [cntV] at h
  | k + 1, c, h => by
    by_cases h2 : c < cntV p k
    · obtain ⟨x, hx, e⟩ := class_has k c h2
      exact ⟨x, by omega, e⟩
    · have h3 : c < if nthx p k = (cntV p k : Int) then cntV p k + 1 else cntV p k := h
      split at h3
      · rename_i e
        exact ⟨k, by omega, by rw [e]; omega⟩
      · omega
open Classical in
/-- A point of class c. -/
noncomputable def rep (p : List Int) (c : Nat) : Nat := if h : ∃ x, x < lnx p ∧ nthx p x = (c : Int) then h.choose else 0
theorem rep_spec {p : List Int} {c : Nat} (h : c < cntV p (lnx p)) : rep p c < lnx p ∧ nthx p (rep p c) = (c : Int) := by
  have hh := class_has (lnx p) c h
  unfold rep
  rw [dif_pos hh]
  exact hh.choose_spec
theorem rep_nat {p : List Int} {c : Nat} (h : c < cntV p (lnx p)) : nat_ p (rep p c) = c := by
  unfold nat_
  rw [(rep_spec h).2]
  exact Int.toNat_natCast _

theorem assocI_push_old {es : List (Int × Int)} {x c : Int} {q : Int × Int} : assocI es x = some c → assocI (es ++ [q]) x = some c := by
  induction es with
  | nil => intro h; cases h
  | cons a es ih =>
    intro h
    simp only [assocI, List.cons_append] at h ⊢
    split at h
    · rename_i e; rw [if_pos e]; exact h
    · rename_i e; rw [if_neg e]; exact ih h
theorem assocI_push_new {es : List (Int × Int)} {x c : Int} : assocI es x = none → assocI (es ++ [(x, c)]) x = some c := by
  induction es with
  | nil => intro _; simp [assocI]
  | cons a es ih =>
    intro h
    simp only [assocI, List.cons_append] at h ⊢
    split at h
    · cases h
    · rename_i e; rw [if_neg e]; exact ih h
theorem assocI_push_inv {es : List (Int × Int)} {x y c d : Int} : assocI (es ++ [(y, d)]) x = some c → assocI es x = some c ∨ (x = y ∧ c = d) := by
  induction es with
  | nil =>
    intro h
    simp only [assocI, List.nil_append] at h
    split at h
    · rename_i e
      injection h with h
      exact .inr ⟨e, h.symm⟩
    · cases h
  | cons a es ih =>
    intro h
    simp only [assocI, List.cons_append] at h ⊢
    split at h
    · rename_i e; rw [if_pos e]; exact .inl h
    · rename_i e; rw [if_neg e]; exact ih h
/-- The numbering in the making. -/
structure CanI (xs : List Int) (k : Nat) : Prop where
  hit : ∀ i, i < k → assocI (canAt xs k).1 (nthx xs i) = some (nthx (canAt xs k).2 i)
  inj : ∀ x y c, assocI (canAt xs k).1 x = some c → assocI (canAt xs k).1 y = some c → x = y
  rng : ∀ x c, assocI (canAt xs k).1 x = some c → 0 ≤ c ∧ c < (lnx (canAt xs k).1 : Int)
  cnt : ∀ ys, lnx ys = lnx xs → (∀ i, i < k → nthx ys i = nthx (canAt xs k).2 i) → cntV ys k = lnx (canAt xs k).1 ∧ ∀ i, i < k → 0 ≤ nthx ys i ∧ nthx ys i ≤ (cntV ys i : Int)
theorem CanI.step {xs : List Int} {k : Nat} (h : CanI xs k) (hk : k < lnx xs) : CanI xs (k + 1) := by
  obtain ⟨l1, l2⟩ := canAt_len xs k (by omega)
  cases ha : assocI (canAt xs k).1 (nthx xs k) with
  | some c =>
    obtain ⟨e1, e2⟩ := canAt_hit xs hk ha
    refine ⟨fun i hi => ?_, ?_, ?_, fun ys hl hy => ?_⟩
    · rw [e1, e2, nthx_push, l1]
      by_cases e : i = k
      · subst e; rw [if_pos rfl]; exact ha
      · rw [if_neg e]; exact h.hit i (by omega)
    · rw [e1]; exact h.inj
    · rw [e1]; exact h.rng
    · rw [e1]
      obtain ⟨c1, c2⟩ := h.cnt ys hl (fun i hi => by rw [hy i (by omega), e2, nthx_push, l1, if_neg (by omega)])
      have hyk : nthx ys k = c := by rw [hy k (by omega), e2, nthx_push, l1, if_pos rfl]
      have := h.rng _ _ ha
      refine ⟨?_, fun i hi => ?_⟩
      · rw [cntV_succ, if_neg (by omega), c1]
      · by_cases e : i = k
        · subst e; omega
        · exact c2 i (by omega)
  | none =>
    obtain ⟨e1, e2⟩ := canAt_miss xs hk ha
    have hold : ∀ x c, assocI (canAt xs k).1 x = some c → assocI (canAt xs (k + 1)).1 x = some c := fun x c hc => by
      rw [e1]; exact assocI_push_old hc
    have hnew : ∀ x c, assocI (canAt xs (k + 1)).1 x = some c → assocI (canAt xs k).1 x = some c ∨ (x = nthx xs k ∧ c = (lnx (canAt xs k).1 : Int)) := fun x c hc => by
      rw [e1] at hc; exact assocI_push_inv hc
    have hl1 : lnx (canAt xs (k + 1)).1 = lnx (canAt xs k).1 + 1 := by rw [e1, lnx_append, lnx_one]
    refine ⟨fun i hi => ?_, fun x y c hx hy => ?_, fun x c hc => ?_, fun ys hl hy => ?_⟩
    · rw [e2, nthx_push, l1]
      by_cases e : i = k
      · subst e
        rw [if_pos rfl, e1]
        exact assocI_push_new ha
      · rw [if_neg e]
        exact hold _ _ (h.hit i (by omega))
    · rcases hnew x c hx with a | ⟨a1, a2⟩
      · rcases hnew y c hy with b | ⟨b1, b2⟩
        · exact h.inj x y c a b
        · have := h.rng _ _ a; omega
      · rcases hnew y c hy with b | ⟨b1, b2⟩
        · have := h.rng _ _ b; omega
        · rw [a1, b1]
    · rw [hl1]
      rcases hnew x c hc with a | ⟨a1, a2⟩
      · have := h.rng _ _ a; omega
      · omega
    · rw [hl1]
      obtain ⟨c1, c2⟩ := h.cnt ys hl (fun i hi => by rw [hy i (by omega), e2, nthx_push, l1, if_neg (by omega)])
      have hyk : nthx ys k = (lnx (canAt xs k).1 : Int) := by rw [hy k (by omega), e2, nthx_push, l1, if_pos rfl]
      refine ⟨?_, fun i hi => ?_⟩
      · rw [cntV_succ, if_pos (by omega), c1]
      · by_cases e : i = k
        · subst e; omega
        · exact c2 i (by omega)
theorem canI_all (xs : List Int) : ∀ k, k ≤ lnx xs → CanI xs k
  | 0, _ => ⟨fun i hi => by omega, fun x y c h => by simp [canAt, assocI] at h, fun x c h => by simp [canAt, assocI] at h, fun ys _ _ => ⟨by simp [cntV, canAt, lnx], fun i hi => by omega⟩⟩
  | k + 1, h => (canI_all xs k (by omega)).step (by omega)
theorem canonF_part (xs : List Int) : PartOK (canonF xs) := by
  have h := ((canI_all xs _ (Nat.le_refl _)).cnt (canonF xs) (canonF_len xs) (fun i _ => rfl)).2
  intro k hk
  rw [canonF_len] at hk
  exact h k hk
theorem canonF_eq (xs : List Int) {i j : Nat} (hi : i < lnx xs) (hj : j < lnx xs) : nthx (canonF xs) i = nthx (canonF xs) j ↔ nthx xs i = nthx xs j := by
  have h := canI_all xs _ (Nat.le_refl _)
  have a := h.hit i hi
  have b := h.hit j hj
  constructor
  · intro e
    have e2 : nthx (canAt xs (lnx xs)).2 i = nthx (canAt xs (lnx xs)).2 j := e
    rw [e2] at a
    exact h.inj _ _ _ a b
  · intro e
    rw [e, b] at a
    injection a with a
    exact a.symm

/-- p is a congruence. -/
def CongP (t : List (List Int)) (p : List Int) : Prop := ∀ x y s, x < lnx t → y < lnx t → s < lnx t → nthx p x = nthx p y → nthx p (tabOf t s x) = nthx p (tabOf t s y) ∧ nthx p (tabOf t x s) = nthx p (tabOf t y s)
theorem CongP.two {t : List (List Int)} {p : List Int} (h : CongP t p) (hT : ∀ r c, r < lnx t → c < lnx t → tabOf t r c < lnx t) {x y x' y' : Nat} (hx : x < lnx t) (hy : y < lnx t) (hx' : x' < lnx t) (hy' : y' < lnx t) (e1 : nthx p x = nthx p x') (e2 : nthx p y = nthx p y') : nthx p (tabOf t x y) = nthx p (tabOf t x' y') := by
  rw [(h x x' y hx hx' hy e1).2, (h y y' x' hy hy' hx' e2).1]
/-- The quotient. -/
noncomputable def quoL (t : List (List Int)) (p : List Int) : List (List Int) := rowsG (cntV p (lnx p)) (cntV p (lnx p)) (fun r d => nthx p (tabOf t (rep p r) (rep p d)))
section
variable {t s : List (List Int)} {p f : List Int}
theorem quo_at (hp : PartOK p) (hl : lnx p = lnx t) (hc : CongP t p) (ht : vErr t = 0) {x y : Nat} (hx : x < lnx t) (hy : y < lnx t) : tabOf (quoL t p) (nat_ p x) (nat_ p y) = nat_ p (tabOf t x y) := by
  have hT := tabT ht
  have h1 := hp.ltn (k := x) (by omega)
  have h2 := hp.ltn (k := y) (by omega)
  unfold quoL
  rw [tabOf_rowsG _ _ h1 h2]
  have r1 := rep_spec h1
  have r2 := rep_spec h2
  show (nthx p (tabOf t (rep p (nat_ p x)) (rep p (nat_ p y)))).toNat = (nthx p (tabOf t x y)).toNat
  rw [hc.two hT (by omega) (by omega) hx hy (by rw [r1.2, (hp.lt (by omega)).2]) (by rw [r2.2, (hp.lt (by omega)).2])]
theorem quo_valid (hp : PartOK p) (hl : lnx p = lnx t) (hc : CongP t p) (ht : vErr t = 0) : vErr (quoL t p) = 0 := by
  have hT := tabT ht
  obtain ⟨h0, h4, -⟩ := shape_inv (vErr_inv ht).1
  have hm1 : cntV p (lnx p) ≤ lnx t := by rw [← hl]; exact cntV_le p _
  have hm0 : 0 < cntV p (lnx p) := by have := hp.ltn (k := 0) (by omega); omega
  have hL : lnx (quoL t p) = cntV p (lnx p) := lnx_rowsG _ _ _
  have ha := fun x y (hx : x < lnx t) (hy : y < lnx t) => quo_at hp hl hc ht hx hy
  refine vErr_ok (shape_good (by omega) (by omega) (fun r hr => ?_)) ?_
  · rw [hL] at hr
    unfold rowOk
    rw [hL]
    unfold quoL
    rw [nthx_rowsG _ _ hr, lnx_listF]
    refine ⟨rfl, fun i hi => ?_⟩
    rw [nthx_listF _ hi]
    have l := hT (rep p r) (rep p i) (by have := rep_spec hr; omega) (by have := rep_spec hi; omega)
    have := hp.ltn (k := tabOf t (rep p r) (rep p i)) (by omega)
    have := (hp.lt (k := tabOf t (rep p r) (rep p i)) (by omega)).2
    omega
  · rw [hL]
    intro x y z hx hy hz
    have rx := rep_spec hx
    have ry := rep_spec hy
    have rz := rep_spec hz
    have lx : rep p x < lnx t := by omega
    have ly : rep p y < lnx t := by omega
    have lz : rep p z < lnx t := by omega
    rw [← rep_nat hx, ← rep_nat hy, ← rep_nat hz, ha _ _ lx ly, ha _ _ ly lz, ha _ _ (hT _ _ lx ly) lz, ha _ _ lx (hT _ _ ly lz), (vErr_inv ht).2 _ _ _ lx ly lz]
/-- The map onto the quotient. -/
theorem quo_hom (hp : PartOK p) (hl : lnx p = lnx t) (hc : CongP t p) (ht : vErr t = 0) : isHomB t (quoL t p) p = true := by
  have hT := tabT ht
  have hL : lnx (quoL t p) = cntV p (lnx p) := lnx_rowsG _ _ _
  unfold isHomB
  rw [ht, quo_valid hp hl hc ht, homL_good hl (inB_t (fun i hi => ?_)) (fun x y hx hy => (quo_at hp hl hc ht hx hy).symm)]
  · rfl
  · rw [hL]
    have := hp.ltn hi
    have := (hp.lt hi).2
    omega
/-- The kernel of a homomorphism is a congruence. -/
theorem ker_cong (h : isHomB t s f = true) : CongP t (canonF f) := by
  unfold isHomB at h
  simp only [Bool.and_eq_true, beq_iff_eq] at h
  obtain ⟨⟨v1, v2⟩, hh⟩ := h
  obtain ⟨f1, f2, f3⟩ := homL_inv hh
  have hT := tabT v1
  intro x y z hx hy hz e
  rw [canonF_eq f (by omega) (by omega)] at e
  have e' : nat_ f x = nat_ f y := by unfold nat_; rw [e]
  have key : ∀ a b, a < lnx t → b < lnx t → nat_ f a = nat_ f b → nthx f a = nthx f b := fun a b ha hb h => by
    rw [← (nat_cast f2 (i := a) (by omega)).1, ← (nat_cast f2 (i := b) (by omega)).1, h]
  refine ⟨(canonF_eq f (by have := hT z x hz hx; omega) (by have := hT z y hz hy; omega)).2 (key _ _ (hT z x hz hx) (hT z y hz hy) ?_), (canonF_eq f (by have := hT x z hx hz; omega) (by have := hT y z hy hz; omega)).2 (key _ _ (hT x z hx hz) (hT y z hy hz) ?_)⟩
  · rw [f3 z x hz hx, f3 z y hz hy, e']
  · rw [f3 x z hx hz, f3 y z hy hz, e']
/-- The images of the classes. -/
noncomputable def imsL (p f : List Int) : List Int := listF (fun c => nthx f (rep p c)) (cntV p (lnx p))
theorem ims_at (hl : lnx p = lnx f) (hp : PartOK p) (he : ∀ i j, i < lnx f → j < lnx f → (nthx p i = nthx p j ↔ nthx f i = nthx f j)) {x : Nat} (hx : x < lnx f) : nthx (imsL p f) (nat_ p x) = nthx f x := by
  have h1 := hp.ltn (k := x) (by omega)
  have r1 := rep_spec h1
  unfold imsL
  rw [nthx_listF _ h1]
  exact (he _ _ (by omega) hx).1 (by rw [r1.2, (hp.lt (by omega)).2])
theorem img_inj {m n : Nat} {b : List Int} (hl : lnx b = m) (hin : inB n b = true) (hi : ∀ x y, x < m → y < m → nat_ b x = nat_ b y → x = y) : lnx (imgN n b) = m := by
  have hd : ((List.range m).map (nat_ b)).Nodup := by
    rw [List.Nodup, List.pairwise_map]
    refine List.Pairwise.imp_of_mem (R := fun a b => a ≠ b) ?_ List.nodup_range
    intro x y hx hy hne e
    exact hne (hi x y (List.mem_range.1 hx) (List.mem_range.1 hy) e)
  have h1 := nodup_sub hd (q := imgN n b) (fun y hy => by
    obtain ⟨i, hi2, rfl⟩ := List.mem_map.1 hy
    have hi2 := List.mem_range.1 hi2
    exact List.mem_filter.2 ⟨List.mem_range.2 (nat_cast hin (by omega)).2, hasB_iff.2 ⟨i, by omega, rfl⟩⟩)
  have h2 := nodup_sub (l := imgN n b) (q := (List.range m).map (nat_ b)) (List.nodup_range.filter _) (fun y hy => by
    obtain ⟨i, hi2, e⟩ := hasB_iff.1 (List.mem_filter.1 hy).2
    exact List.mem_map.2 ⟨i, List.mem_range.2 (by omega), e⟩)
  simp only [List.length_map, List.length_range] at h1 h2
  show (imgN n b).length = m
  omega
theorem ims_hom (h : isHomB t s f = true) : isHomB (quoL t (canonF f)) s (imsL (canonF f) f) = true ∧ lnx (imgRes (quoL t (canonF f)) s (imsL (canonF f) f)) = lnx (quoL t (canonF f)) := by
  have hcg := ker_cong h
  have hpt := canonF_part f
  have hh := h
  unfold isHomB at h
  simp only [Bool.and_eq_true, beq_iff_eq] at h
  obtain ⟨⟨v1, v2⟩, hhL⟩ := h
  obtain ⟨f1, f2, f3⟩ := homL_inv hhL
  have hl : lnx (canonF f) = lnx t := by rw [canonF_len, f1]
  have hT := tabT v1
  have hvq := quo_valid hpt hl hcg v1
  have hL : lnx (quoL t (canonF f)) = cntV (canonF f) (lnx (canonF f)) := lnx_rowsG _ _ _
  have hLi : lnx (imsL (canonF f) f) = cntV (canonF f) (lnx (canonF f)) := lnx_listF _ _
  have hcan := canonF_len f
  have hat : ∀ x, x < lnx t → nat_ (imsL (canonF f) f) (nat_ (canonF f) x) = nat_ f x := fun x hx => by
    unfold nat_
    have := ims_at (p := canonF f) (f := f) hcan hpt (fun i j hi hj => canonF_eq f hi hj) (x := x) (by omega)
    unfold nat_ at this
    rw [this]
  have hin : inB (lnx s) (imsL (canonF f) f) = true := inB_t (fun i hi => by
    rw [hLi] at hi
    have r := rep_spec hi
    unfold imsL
    rw [nthx_listF _ hi]
    have := nat_cast f2 (i := rep (canonF f) i) (by omega)
    omega)
  have hq : isHomB (quoL t (canonF f)) s (imsL (canonF f) f) = true := by
    unfold isHomB
    rw [hvq, v2, homL_good (by rw [hL, hLi]) hin (fun x y hx hy => ?_)]
    · rfl
    · rw [hL] at hx hy
      have rx := rep_spec hx
      have ry := rep_spec hy
      rw [← rep_nat hx, ← rep_nat hy, quo_at hpt hl hcg v1 (by omega) (by omega), hat _ (hT _ _ (by omega) (by omega)), hat _ (by omega), hat _ (by omega), f3 _ _ (by omega) (by omega)]
  refine ⟨hq, ?_⟩
  unfold imgRes
  rw [if_pos hq, lnx_natsOf, hL]
  refine img_inj hLi hin (fun x y hx hy e => ?_)
  have rx := rep_spec hx
  have ry := rep_spec hy
  rw [← rep_nat hx, ← rep_nat hy, hat _ (by omega), hat _ (by omega)] at e
  have e2 : nthx f (rep (canonF f) x) = nthx f (rep (canonF f) y) := by
    rw [← (nat_cast f2 (i := rep (canonF f) x) (by omega)).1, ← (nat_cast f2 (i := rep (canonF f) y) (by omega)).1, e]
  have e3 := (canonF_eq f (by omega) (by omega)).2 e2
  rw [rx.2, ry.2] at e3
  omega
end
end Go.Proofs.Ytgghmjnbkbiffaa
