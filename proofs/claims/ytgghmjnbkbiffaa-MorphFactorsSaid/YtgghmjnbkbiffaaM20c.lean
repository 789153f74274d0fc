/-
  Plain mathematics: a list is among the homomorphisms exactly if it is one; injective maps and the size of the image.
-/
import Derived.Test.YtgghmjnbkbiffaaImage
namespace Go.Proofs.Ytgghmjnbkbiffaa
set_option linter.unusedVariables false

theorem nat_natsOf (h : List Nat) {i : Nat} (hi : i < lnx h) : nat_ (natsOf h) i = nthx h i := by
  unfold nat_
  rw [nthx_natsOf h hi]
  simp

def InjL (n : Nat) (f : List Int) : Prop := ∀ a b, a < n → b < n → a ≠ b → nat_ f a ≠ nat_ f b

theorem tabT {t : List (List Int)} (h : vErr t = 0) : ∀ r c, r < lnx t → c < lnx t → tabOf t r c < lnx t := fun r c hr hc => tab_lt (vErr_inv h).1 hr hc

theorem mem_homs {t s : List (List Int)} {inj : Bool} {f : List Int} (ht : vErr t = 0) : f ∈ (homsT t s inj).map natsOf ↔ homL (lnx t) (lnx s) (tabOf t) (tabOf s) f = true ∧ (inj = true → InjL (lnx t) f) := by
  have hT := tabT ht
  constructor
  · intro h
    obtain ⟨p, hp, rfl⟩ := List.mem_map.1 h
    obtain ⟨h1, h2, _, h4⟩ := lexExt_mem hp
    simp at h2
    have hl : lnx p = lnx t := h2
    have hom := homB_iff.1 h1
    have hn : ∀ i, i < lnx t → nat_ (natsOf p) i = nthx p i := fun i hi => nat_natsOf p (by omega)
    refine ⟨homL_good (by rw [lnx_natsOf, hl]) (inB_t (fun i hi => ?_)) (fun x y hx hy => ?_), fun hi a b ha hb hne => ?_⟩
    · rw [lnx_natsOf] at hi
      rw [nthx_natsOf p hi]
      have := hom.lt i (by omega)
      omega
    · rw [hn _ (hT x y hx hy), hn x hx, hn y hy]
      exact hom.mul x y hx hy
    · rw [hn a ha, hn b hb]
      exact hom.inj hi a b ha hb hne
  · rintro ⟨h, hinj⟩
    obtain ⟨h1, h2, h3⟩ := homL_inv h
    have hc := fun i (hi : i < lnx t) => nat_cast h2 (i := i) (by omega)
    have hn : ∀ i, i < lnx t → nthx ((List.range (lnx t)).map (nat_ f)) i = nat_ f i := fun i hi => by simp [nthx, hi]
    refine List.mem_map.2 ⟨(List.range (lnx t)).map (nat_ f), ?_, ?_⟩
    · refine lexExt_all (homB_iff.2 ⟨fun a b ha hb => ?_, fun a ha => ?_, fun hi a b ha hb hne => ?_⟩) (by simp) (by simp) (fun i _ hi => ?_)
      · rw [hn _ (hT a b ha hb), hn a ha, hn b hb]; exact h3 a b ha hb
      · rw [hn a ha]; exact (hc a ha).2
      · rw [hn a ha, hn b hb]; exact hinj hi a b ha hb hne
      · simp at hi
        rw [hn i hi]; exact (hc i hi).2
    · refine list_ext (by rw [lnx_natsOf, h1]; simp [lnx]) (fun i hi => ?_)
      rw [lnx_natsOf] at hi
      rw [nthx_natsOf _ hi]
      simp [lnx] at hi
      rw [hn i (by simpa [lnx] using hi)]
      exact (hc i (by simpa [lnx] using hi)).1

theorem nodup_sub {l q : List Nat} (hd : l.Nodup) (h : ∀ x ∈ l, x ∈ q) : l.length ≤ q.length := by
  induction l generalizing q with
  | nil => simp
  | cons a l ih =>
    rw [List.nodup_cons] at hd
    have ha := h a (by simp)
    have := ih hd.2 (q := q.erase a) (fun x hx => by
      refine (List.mem_erase_of_ne (fun e => ?_)).2 (h x (by simp [hx]))
      subst e
      exact hd.1 hx)
    rw [List.length_erase_of_mem ha] at this
    have hp : 0 < q.length := List.length_pos_of_mem ha
    simp
    omega

theorem inj_img {n : Nat} {f : List Int} (hl : lnx f = n) (hin : inB n f = true) : InjL n f ↔ lnx (imgN n f) = n := by
  have hlt : ∀ i, i < n → nat_ f i < n := fun i hi => (nat_cast hin (by omega)).2
  constructor
  · intro hinj
    have hd : ((List.range n).map (nat_ f)).Nodup := by
      rw [List.Nodup, List.pairwise_map]
      refine List.Pairwise.imp_of_mem (R := fun a b => a ≠ b) ?_ List.nodup_range
      intro a b ha hb hne
      exact hinj a b (List.mem_range.1 ha) (List.mem_range.1 hb) hne
    have hf := free_len hd (m := n) (by
      intro x hx
      obtain ⟨i, hi, rfl⟩ := List.mem_map.1 hx
      exact hlt i (List.mem_range.1 hi))
    simp only [List.length_map, List.length_range] at hf
    have hnil : (List.range n).filter (fun y => decide (y ∉ (List.range n).map (nat_ f))) = [] := List.eq_nil_of_length_eq_zero (by omega)
    unfold imgN
    rw [List.filter_eq_self.2]
    · simp [lnx]
    · intro y hy
      rw [hasB_iff, hl]
      rw [List.filter_eq_nil_iff] at hnil
      have := hnil y hy
      simp at this
      obtain ⟨i, hi, e⟩ := this
      exact ⟨i, hi, e⟩
  · intro hlen
    have hall : ∀ y, y < n → ∃ i, i < n ∧ nat_ f i = y := by
      intro y hy
      have h1 : (imgN n f).length = (List.range n).length := by simpa [lnx] using hlen
      have h2 : ∀ y ∈ List.range n, hasB f (lnx f) y = true := by
        unfold imgN at h1
        exact List.length_filter_eq_length_iff.1 h1
      have := hasB_iff.1 (h2 y (List.mem_range.2 hy))
      rwa [hl] at this
    intro a b ha hb hne heq
    have hsub : ∀ y ∈ List.range n, y ∈ ((List.range n).erase b).map (nat_ f) := by
      intro y hy
      obtain ⟨i, hi, e⟩ := hall y (List.mem_range.1 hy)
      by_cases e2 : i = b
      · subst e2
        exact List.mem_map.2 ⟨a, (List.mem_erase_of_ne hne).2 (List.mem_range.2 ha), by rw [heq, e]⟩
      · exact List.mem_map.2 ⟨i, (List.mem_erase_of_ne e2).2 (List.mem_range.2 hi), e⟩
    have := nodup_sub List.nodup_range hsub
    rw [List.length_map, List.length_erase_of_mem (List.mem_range.2 hb)] at this
    simp at this
    omega
end Go.Proofs.Ytgghmjnbkbiffaa
