/-
  Walk in my logic: the law DivideMaps.
  Walk in my logic: the law DivideHom.
  What both Compose compute, in plain Lean: the values along the least words.
  Walks in my logic: divide.Compose and its function value.
  Walk in my logic: semigroupref23.Compose.
  Walk in my logic: the law DivideComposes.
-/
import Derived.Test.YtgghmjnbkbiffaaZqbi
import Derived.Test.YtgghmjnbkbiffaaZqbj
namespace Go.Proofs.Ytgghmjnbkbiffaa.M
open Go.RowKit
set_option linter.unusedVariables false
set_option linter.unusedSimpArgs false

theorem maps_fn (t : List (List Int)) (gens : List Int) (u : List (List Int)) (f : List Int) (hl : gens.length ≤ 100000) (hu : u.length ≤ 1000) :
    ∃ A B E, A = natsOf (dvA t gens u f) ∧ B = natsOf (Go.Proofs.Ytgghmjnbkbiffaa.dvB t gens u f) ∧ E = dvErr t gens u f ∧ A.length ≤ 1000 ∧ B.length ≤ 1000 ∧
      FnA Try.prog 41 [.t 0 (rows t), .t 0 (ints gens), .t 0 (rows u), .t 0 (ints f)] (.tup [.t 2 (ints A), .t 2 (ints B), .t 2 (.int .i64 E)]) ∧
      FnA Try.prog 42 [.t 0 (rows t), .t 0 (ints gens), .t 0 (rows u), .t 0 (ints f)] (.tup [.t 2 (ints A), .t 2 (ints B), .t 2 (.int .i64 E)]) := by
  refine ⟨_, _, _, rfl, rfl, rfl, ?_, ?_, map_fn t gens u f hl, refMap_fn t gens u f⟩
  · have := lnx_natsOf (dvA t gens u f)
    simp only [lnx] at this
    rw [this]
    unfold dvA
    split
    · have := dvEl_len (tabOf t) (tabOf u) (gpairs gens f (lnx gens)) (lnx u)
      simp only [lnx] at this ⊢
      omega
    · simp
  · have := lnx_natsOf (Go.Proofs.Ytgghmjnbkbiffaa.dvB t gens u f)
    simp only [lnx] at this
    rw [this]
    unfold Go.Proofs.Ytgghmjnbkbiffaa.dvB
    split
    · have := dvVal_len (tabOf t) (tabOf u) (gpairs gens f (lnx gens)) (lnx u)
      simp only [lnx] at this ⊢
      omega
    · simp
end Go.Proofs.Ytgghmjnbkbiffaa.M

namespace Go.Proofs.Ytgghmjnbkbiffaa.M
open Go.RowKit
set_option linter.unusedVariables false
set_option linter.unusedSimpArgs false

theorem occursG {t u : List (List Int)} {gens f : List Int} (v1 : vErr t = 0) (vg : gensB t gens = true) (v2 : vErr u = 0) (hl : f.length = gens.length) (hin : inB u.length f = true) :
    (∀ p, p ∈ gpairs gens f (lnx gens) → p.1 < t.length ∧ p.2 < u.length) ∧ ∀ x, x < t.length → ∃ y, DvR (tabOf t) (tabOf u) (gpairs gens f (lnx gens)) y x := by
  have ht := TbL.of v1
  have hu := TbL.of v2
  have hS : ∀ p, p ∈ gpairs gens f (lnx gens) → p.1 < t.length ∧ p.2 < u.length := fun p hp => by
    obtain ⟨i, hi, rfl⟩ := gpairs_mem.1 hp
    have := inB_inv hin i (by simp only [lnx] at hi ⊢; omega)
    have e : nat_ f i = (nthx f i).toNat := rfl
    exact ⟨(gens_get vg hi).2, by rw [e]; omega⟩
  refine ⟨hS, fun x hx => ?_⟩
  have hg := (gensB_inv vg).2 x hx
  clear hx
  induction hg with
  | @base x i hi e hx =>
    refine ⟨nat_ f i, ?_⟩
    have : nat_ gens i = x := by unfold nat_; rw [e]; omega
    exact .base (p := (x, nat_ f i)) (gpairs_mem.2 ⟨i, hi, by rw [this]⟩)
  | mul _ _ ih1 ih2 =>
    obtain ⟨y1, h1⟩ := ih1
    obtain ⟨y2, h2⟩ := ih2
    exact ⟨_, h1.mul hS ht.lt hu.lt (vErr_asc v1) (vErr_asc v2) h2⟩
theorem dvErr_cases {t u : List (List Int)} {gens f : List Int} (v1 : vErr t = 0) (vg : gensB t gens = true) (v2 : vErr u = 0) (hl : f.length = gens.length) (hin : inB u.length f = true) : (dvErr t gens u f = 0 ∧ DvFun (tabOf t) (tabOf u) (gpairs gens f (lnx gens))) ∨ dvErr t gens u f = 9 := by
  by_cases h : DvFun (tabOf t) (tabOf u) (gpairs gens f (lnx gens))
  · exact .inl ⟨dvErr_0 v1 vg v2 hl hin h, h⟩
  · exact .inr (dvErr_6 v1 vg v2 hl hin h)
end Go.Proofs.Ytgghmjnbkbiffaa.M

namespace Go.Proofs.Ytgghmjnbkbiffaa
open Go.RowKit
set_option linter.unusedVariables false

abbrev BSt := (Nat → Int) × List Nat
def putC (s : BSt) (z : Nat) (x : Int) : BSt := (updP s.1 z x, addP s.1 s.2 z)
def iniB (ug ui : Nat → Nat) : Nat → BSt
  | 0 => (fun _ => -1, [])
  | k + 1 => putC (iniB ug ui k) (ug k) (ui k)
def innB (U V : Nat → Nat → Nat) (ug ui : Nat → Nat) (s : BSt) (y : Nat) : Nat → BSt
  | 0 => s
  | k + 1 => putC (innB U V ug ui s y k) (U y (ug k)) (V (s.1 y).toNat (ui k))
def bfsB (U V : Nat → Nat → Nat) (ug ui : Nat → Nat) (G : Nat) : Nat → BSt
  | 0 => iniB ug ui G
  | i + 1 => innB U V ug ui (bfsB U V ug ui G i) (nthx (bfsB U V ug ui G i).2 i) G
/-- The numbers of a state. -/
structure BOK (R : Nat → Nat → Prop) (m p : Nat) (s : BSt) : Prop where
  nd : s.2.Nodup
  lt : ∀ z, z ∈ s.2 → z < m
  mem : ∀ z, z < m → (0 ≤ s.1 z ↔ z ∈ s.2)
  val : ∀ z, z < m → s.1 z < (p : Int)
  rel : ∀ z, z < m → 0 ≤ s.1 z → R (s.1 z).toNat z
/-- What comes of a state keeps its values and its list. -/
structure BExt (s s' : BSt) : Prop where
  val : ∀ z, 0 ≤ s.1 z → s'.1 z = s.1 z
  pre : ∃ r, s'.2 = s.2 ++ r
theorem BExt.refl (s : BSt) : BExt s s := ⟨fun _ _ => rfl, [], by simp⟩
theorem BExt.trans {a b c : BSt} (h : BExt a b) (h' : BExt b c) : BExt a c := by
  obtain ⟨r, hr⟩ := h.pre
  obtain ⟨r', hr'⟩ := h'.pre
  exact ⟨fun z hz => by rw [h'.val z (by rw [h.val z hz]; exact hz), h.val z hz], r ++ r', by rw [hr', hr, List.append_assoc]⟩
theorem BExt.mem {s s' : BSt} (h : BExt s s') {z : Nat} (hz : z ∈ s.2) : z ∈ s'.2 := by
  obtain ⟨r, hr⟩ := h.pre
  rw [hr]; exact List.mem_append_left _ hz
theorem BExt.nth {s s' : BSt} (h : BExt s s') {i : Nat} (hi : i < s.2.length) : nthx s'.2 i = nthx s.2 i := by
  obtain ⟨r, hr⟩ := h.pre
  rw [hr]; exact nthx_app hi
theorem BExt.len {s s' : BSt} (h : BExt s s') : s.2.length ≤ s'.2.length := by
  obtain ⟨r, hr⟩ := h.pre
  rw [hr]; simp
theorem putC_ext (s : BSt) (z : Nat) (x : Int) : BExt s (putC s z x) := ⟨fun y hy => updP_old hy, addP_pre s.1 s.2 z⟩
theorem putC_old {s : BSt} {z : Nat} {x : Int} (h : 0 ≤ s.1 z) : putC s z x = s := by
  unfold putC updP addP
  rw [if_neg (by omega), if_neg (by omega)]
variable {R : Nat → Nat → Prop} {m p : Nat}
theorem BOK.put {s : BSt} (h : BOK R m p s) {z x : Nat} (hz : z < m) (hx : x < p) (hr : R x z) : BOK R m p (putC s z x) ∧ z ∈ (putC s z x).2 ∧ 0 ≤ (putC s z x).1 z := by
  by_cases h0 : 0 ≤ s.1 z
  · rw [putC_old h0]
    exact ⟨h, (h.mem z hz).1 h0, h0⟩
  · have hn : z ∉ s.2 := fun hm => h0 ((h.mem z hz).2 hm)
    have e : putC s z x = (upd s.1 z x, s.2 ++ [z]) := by unfold putC updP addP; rw [if_pos (by omega), if_pos (by omega)]
    rw [e]
    refine ⟨⟨?_, fun y hy => ?_, fun y hy => ?_, fun y hy => ?_, fun y hy hy0 => ?_⟩, by simp, by simp [upd]⟩
    · rw [List.nodup_append]
      exact ⟨h.nd, by simp, fun a ha b hb e => hn (by simp at hb; rw [← hb, ← e]; exact ha)⟩
    · rcases List.mem_append.1 hy with hy | hy
      · exact h.lt y hy
      · simp at hy; omega
    · simp only [upd, List.mem_append, List.mem_singleton]
      by_cases e : y = z
      · simp [e]
      · simp only [e, if_false, or_false]; exact h.mem y hy
    · simp only [upd]
      by_cases e : y = z
      · simp [e]; omega
      · simp only [e, if_false]; exact h.val y hy
    · simp only [upd] at hy0 ⊢
      by_cases e : y = z
      · simp only [e, if_true] at hy0 ⊢; simpa using hr
      · simp only [e, if_false] at hy0 ⊢; exact h.rel y hy hy0
theorem BOK.len {s : BSt} (h : BOK R m p s) : s.2.length ≤ m := by have := nodup_le h.nd h.lt; simpa [lnx] using this
section
variable {U V : Nat → Nat → Nat} {ug ui : Nat → Nat} {G : Nat}
/-- What is given: two tables, generators of the first with elements of the second. -/
structure BIn (U V : Nat → Nat → Nat) (ug ui : Nat → Nat) (G m p : Nat) (R : Nat → Nat → Prop) : Prop where
  hU : ∀ r c, r < m → c < m → U r c < m
  hV : ∀ r c, r < p → c < p → V r c < p
  g : ∀ k, k < G → ug k < m ∧ ui k < p ∧ R (ui k) (ug k)
  r : ∀ k, k < G → ∀ y x, R y x → R (V y (ui k)) (U x (ug k))
variable (hi : BIn U V ug ui G m p R)
include hi
theorem iniB_ok : ∀ k, k ≤ G → BOK R m p (iniB ug ui k) ∧ ∀ j, j < k → ug j ∈ (iniB ug ui k).2
  | 0, _ => ⟨⟨List.nodup_nil, by simp [iniB], fun z _ => by simp [iniB], fun z _ => by simp [iniB]; omega, fun z _ h => by simp [iniB] at h⟩, fun j hj => by omega⟩
  | k + 1, hk => by
    obtain ⟨h1, h2⟩ := iniB_ok k (by omega)
    obtain ⟨g1, g2, g3⟩ := hi.g k (by omega)
    obtain ⟨h3, h4, -⟩ := h1.put g1 g2 g3
    refine ⟨h3, fun j hj => ?_⟩
    by_cases e : j = k
    · rw [e]; exact h4
    · exact (putC_ext _ _ _).mem (h2 j (by omega))
theorem innB_ok {s : BSt} (hs : BOK R m p s) {y : Nat} (hy : y < m) (h0 : 0 ≤ s.1 y) : ∀ k, k ≤ G → BOK R m p (innB U V ug ui s y k) ∧ BExt s (innB U V ug ui s y k) ∧ ∀ j, j < k → U y (ug j) ∈ (innB U V ug ui s y k).2
  | 0, _ => ⟨hs, .refl _, fun j hj => by omega⟩
  | k + 1, hk => by
    obtain ⟨h1, h2, h3⟩ := innB_ok hs hy h0 k (by omega)
    obtain ⟨g1, g2, g3⟩ := hi.g k (by omega)
    have hv := hs.val y hy
    obtain ⟨h4, h5, -⟩ := h1.put (hi.hU y _ hy g1) (hi.hV (s.1 y).toNat (ui k) (by omega) g2) (hi.r k (by omega) _ _ (hs.rel y hy h0))
    refine ⟨h4, h2.trans (putC_ext _ _ _), fun j hj => ?_⟩
    by_cases e : j = k
    · rw [e]; exact h5
    · exact (putC_ext _ _ _).mem (h3 j (by omega))
theorem bfsB_ok : ∀ i, (∀ n, n < i → n < (bfsB U V ug ui G n).2.length) → BOK R m p (bfsB U V ug ui G i) ∧ (∀ j, j < G → ug j ∈ (bfsB U V ug ui G i).2) ∧ ∀ n, n < i → ∀ j, j < G → U (nthx (bfsB U V ug ui G i).2 n) (ug j) ∈ (bfsB U V ug ui G i).2
  | 0, _ => by
    obtain ⟨h1, h2⟩ := iniB_ok hi G (Nat.le_refl _)
    exact ⟨h1, h2, fun n hn => by omega⟩
  | i + 1, hl => by
    obtain ⟨h1, h2, h3⟩ := bfsB_ok i (fun n hn => hl n (by omega))
    have hil := hl i (by omega)
    have hy : nthx (bfsB U V ug ui G i).2 i ∈ (bfsB U V ug ui G i).2 := nthx_mem hil
    have hym := h1.lt _ hy
    obtain ⟨h4, h5, h6⟩ := innB_ok hi h1 hym ((h1.mem _ hym).2 hy) G (Nat.le_refl _)
    refine ⟨h4, fun j hj => h5.mem (h2 j hj), fun n hn j hj => ?_⟩
    show U (nthx (innB U V ug ui (bfsB U V ug ui G i) _ G).2 n) (ug j) ∈ (innB U V ug ui (bfsB U V ug ui G i) _ G).2
    by_cases e : n = i
    · rw [e, h5.nth hil]
      exact h6 j hj
    · have hex : n < (bfsB U V ug ui G i).2.length := by omega
      rw [h5.nth hex]
      exact h5.mem (h3 n (by omega) j hj)
end
/-- The end of the search. -/
def BEnd (U V : Nat → Nat → Nat) (ug ui : Nat → Nat) (G N : Nat) : Prop := (bfsB U V ug ui G N).2.length = N ∧ ∀ n, n < N → n < (bfsB U V ug ui G n).2.length
theorem BEnd.uniq {U V : Nat → Nat → Nat} {ug ui : Nat → Nat} {G N N' : Nat} (h : BEnd U V ug ui G N) (h' : BEnd U V ug ui G N') : N = N' := by
  by_cases e : N < N'
  · have := h'.2 N e
    have := h.1
    omega
  · by_cases e2 : N' < N
    · have := h.2 N' e2
      have := h'.1
      omega
    · omega
/-- The generators, each at its least index, with their images. -/
def stpB (ug ui : Nat → Nat) : Nat → List (Nat × Nat)
  | 0 => []
  | k + 1 => if (iniB ug ui k).1 (ug k) < 0 then stpB ug ui k ++ [(ug k, ui k)] else stpB ug ui k
theorem stpB_mem {ug ui : Nat → Nat} : ∀ k, ∀ q, q ∈ stpB ug ui k → ∃ j, j < k ∧ q = (ug j, ui j)
  | 0, q, h => by simp [stpB] at h
  | k + 1, q, h => by
    unfold stpB at h
    split at h
    · rcases List.mem_append.1 h with h | h
      · obtain ⟨j, hj, e⟩ := stpB_mem k q h
        exact ⟨j, by omega, e⟩
      · exact ⟨k, by omega, by simpa using h⟩
    · obtain ⟨j, hj, e⟩ := stpB_mem k q h
      exact ⟨j, by omega, e⟩
theorem stpB_len {ug ui : Nat → Nat} : ∀ k, (stpB ug ui k).length ≤ k
  | 0 => by simp [stpB]
  | k + 1 => by
    have := stpB_len (ug := ug) (ui := ui) k
    unfold stpB
    split <;> simp <;> omega
def innS (U V : Nat → Nat → Nat) (s : BSt) (y : Nat) (l : List (Nat × Nat)) : BSt := l.foldl (fun a q => putC a (U y q.1) (V (s.1 y).toNat q.2)) s
theorem innS_eq {U V : Nat → Nat → Nat} {ug ui : Nat → Nat} {G : Nat} (hi : BIn U V ug ui G m p R) {s : BSt} (hs : BOK R m p s) {y : Nat} (hy : y < m) (h0 : 0 ≤ s.1 y) : ∀ k, k ≤ G → innS U V s y (stpB ug ui k) = innB U V ug ui s y k
  | 0, _ => rfl
  | k + 1, hk => by
    have ih := innS_eq hi hs hy h0 k (by omega)
    unfold stpB
    split
    · unfold innS at ih ⊢
      rw [List.foldl_append, ih]
      rfl
    · rename_i hn
      rw [ih]
      obtain ⟨i1, i2⟩ := iniB_ok hi k (by omega)
      obtain ⟨j1, j2, j3⟩ := innB_ok hi hs hy h0 k (by omega)
      obtain ⟨g1, g2, g3⟩ := hi.g k (by omega)
      have hm := (i1.mem _ g1).1 (by omega)
      -- an earlier generator is the same
      have hex : ∃ j, j < k ∧ ug j = ug k := by
        have key : ∀ k', k' ≤ k → ∀ z, z ∈ (iniB ug ui k').2 → ∃ j, j < k' ∧ ug j = z := by
          intro k'
          induction k' with
          | zero => intro _ z hz; simp [iniB] at hz
          | succ k' ih =>
            intro hk' z hz
            rcases addP_mem.1 hz with hz | ⟨_, rfl⟩
            · obtain ⟨j, hj, e⟩ := ih (by omega) z hz
              exact ⟨j, by omega, e⟩
            · exact ⟨k', by omega, rfl⟩
        exact key k (Nat.le_refl _) _ hm
      obtain ⟨j, hj, e⟩ := hex
      have hmem := j3 j hj
      rw [e] at hmem
      show _ = putC (innB U V ug ui s y k) (U y (ug k)) _
      rw [putC_old ((j1.mem _ (hi.hU y _ hy g1)).2 hmem)]
end Go.Proofs.Ytgghmjnbkbiffaa

namespace Go.Proofs.Ytgghmjnbkbiffaa.M
open Go.RowKit
set_option linter.unusedVariables false
set_option linter.unusedSimpArgs false

/-- The captured variables: the values, the queue. -/
def cpH (p m : Nat) (s : BSt) : List AObj := [.box 31 [.own 2 m], .box 31 [.own 3 s.2.length], ofO p m s.1, paO p s.2]
set_option maxRecDepth 100000 in
set_option maxHeartbeats 4000000 in
theorem cput_fn (m : Nat) (s : BSt) (y x : Nat) (hm : m ≤ 100000) (hy : y < m) (hl : s.2.length ≤ 100000) :
    FnS Try.prog 85 [.t 2 (.int .i64 y), .t 2 (.int .i64 x), .ptr 0 0 1, .ptr 1 0 1] (cpH 1 m s) (.t 2 (.bool (decide (s.1 y < 0)))) (cpH 1 m (putC s y x)) := by
  obtain ⟨F, q⟩ := s
  simp only at hl
  refine fn_intro Try.func85 rfl (by simp [Try.f85]) ?_
  rw [show Try.f85.ntmps = 20 from rfl, show Try.f85.results = #[.tmp 6] from rfl]
  refine awp_seqR (fun K hK => ?_)
  simp (maxSteps := 2000000) (disch := omega) [ints, rows, scal, wr64, wr8]
  (repeat' first | refine hK _ ?_ | apply And.intro) <;> clear hK K <;> try first | (show chkD _ _ = true; kernel_rfl) | omega | rfl | (simp; done) | (simp; omega)
  refine awp_seq ?_
  refine awp_seqR (fun K hK => ?_)
  simp (maxSteps := 2000000) (disch := omega) [ints, rows, scal, wr64, wr8, cpH, ofO, paO]
  (repeat' first | refine hK _ ?_ | apply And.intro) <;> clear hK K <;> try first | (show chkD _ _ = true; kernel_rfl) | omega | rfl | (simp; done) | (simp; omega)
  by_cases hc : F y < 0
  · have h1 : updP F y x = Go.Proofs.Ytgghmjnbkbiffaa.upd F y x := by unfold updP; rw [if_pos hc]
    have h2 : addP F q y = q ++ [y] := by unfold addP; rw [if_pos hc]
    have hc2 : ¬ 0 ≤ F y := by omega
    refine awp_cond (b := false) (p := 2) (by simp [scal, hc2] <;> omega) ?_
    refine awp_skip ?_
    show awp _ _ _ _
    refine awp_seqR (fun K hK => ?_)
    simp (maxSteps := 2000000) (disch := omega) [ints, rows, scal, wr64, wr8, cpH, ofO, paO, tab_set]
    (repeat' first | refine hK _ ?_ | apply And.intro) <;> clear hK K <;> try first | (show chkD _ _ = true; kernel_rfl) | omega | rfl | (simp; done) | (simp; omega)
    refine awp_seqR (fun K hK => ?_)
    simp (maxSteps := 2000000) (disch := omega) [ints, rows, scal, wr64, wr8, cpH, ofO, paO]
    (repeat' first | refine hK _ ?_ | apply And.intro) <;> clear hK K <;> try first | (show chkD _ _ = true; kernel_rfl) | omega | rfl | (simp; done) | (simp; omega)
    refine awp_seqR (fun K hK => ?_)
    simp (maxSteps := 2000000) (disch := omega) [ints, rows, scal, wr64, wr8]
    (repeat' first | refine hK _ ?_ | apply And.intro) <;> clear hK K <;> try first | (show chkD _ _ = true; kernel_rfl) | omega | rfl | (simp; done) | (simp; omega)
    refine awp_ret ?_
    refine ⟨⟨.inr rfl, _, [(0, some 0), (1, some 1), (2, some 2), (3, some 3)], (by first | rfl | (simp [ints, rows, scal, tpO, ofO, paO, cpH, nsT, putC, h1, h2, Go.Proofs.Ytgghmjnbkbiffaa.upd, tab_set, hc]; rfl)), ?_, ?_, ?_, ?_⟩, ?_⟩
    all_goals try simp [ints, rows, scal, tpO, ofO, paO, cpH, nsT, putC, h1, h2, Go.Proofs.Ytgghmjnbkbiffaa.upd, tab_set, hc]
    exact tab_congr fun i hi => by by_cases e : i = y <;> simp [e]
  · have h1 : updP F y x = F := by unfold updP; rw [if_neg hc]
    have h2 : addP F q y = q := by unfold addP; rw [if_neg hc]
    have hc2 : 0 ≤ F y := by omega
    refine awp_cond (b := true) (p := 2) (by simp [scal, hc2] <;> omega) ?_
    refine awp_seqR (fun K hK => ?_)
    simp (maxSteps := 2000000) (disch := omega) [ints, rows, scal, wr64, wr8]
    (repeat' first | refine hK _ ?_ | apply And.intro) <;> clear hK K <;> try first | (show chkD _ _ = true; kernel_rfl) | omega | rfl | (simp; done) | (simp; omega)
    refine awp_ret ?_
    refine ⟨⟨.inr rfl, _, [(0, some 0), (1, some 1), (2, some 2), (3, some 3)], (by first | rfl | (simp [ints, rows, scal, tpO, ofO, paO, cpH, putC, h1, h2, hc]; rfl)), ?_, ?_, ?_, ?_⟩, ?_⟩
    all_goals try simp [ints, rows, scal, tpO, ofO, paO, cpH, putC, h1, h2, hc]
theorem innS_snoc (U V : Nat → Nat → Nat) (s : BSt) (y : Nat) (l : List (Nat × Nat)) (q : Nat × Nat) : innS U V s y (l ++ [q]) = putC (innS U V s y l) (U y q.1) (V (s.1 y).toNat q.2) := by
  unfold innS
  rw [List.foldl_append]
  rfl
theorem innS_ok {U V : Nat → Nat → Nat} {ug ui : Nat → Nat} {G m p : Nat} {R : Nat → Nat → Prop} (hi : BIn U V ug ui G m p R) {s : BSt} (hs : BOK R m p s) {y : Nat} (hy : y < m) (h0 : 0 ≤ s.1 y) {S : List (Nat × Nat)} (hS : ∀ q, q ∈ S → ∃ j, j < G ∧ q = (ug j, ui j)) : ∀ d, d ≤ S.length → BOK R m p (innS U V s y (S.take d)) ∧ BExt s (innS U V s y (S.take d))
  | 0, _ => ⟨hs, .refl _⟩
  | d + 1, hd => by
    obtain ⟨h1, h2⟩ := innS_ok hi hs hy h0 hS d (by omega)
    have hdl : d < S.length := hd
    rw [List.take_succ_eq_append_getElem hdl, innS_snoc]
    obtain ⟨j, hj, e⟩ := hS S[d] (List.getElem_mem hdl)
    obtain ⟨g1, g2, g3⟩ := hi.g j hj
    rw [e]
    have hv := hs.val y hy
    obtain ⟨h3, -, -⟩ := h1.put (hi.hU y _ hy g1) (hi.hV (s.1 y).toNat (ui j) (by omega) g2) (hi.r j hj _ _ (hs.rel y hy h0))
    exact ⟨h3, h2.trans (putC_ext _ _ _)⟩
/-- What both return. -/
def CompG (t : List (List Int)) (gens : List Int) (u : List (List Int)) (images ugens : List Int) (v : List (List Int)) (uimages : List Int) (r : List Int) (e : Int) : Prop :=
  (dvErr t gens u images = 9 ∧ r = [] ∧ e = 9) ∨ (dvErr t gens u images = 0 ∧ dvErr u ugens v uimages = 9 ∧ r = [] ∧ e = 9) ∨
  (dvErr t gens u images = 0 ∧ dvErr u ugens v uimages = 0 ∧ e = 0 ∧ ∃ N, BEnd (tabOf u) (tabOf v) (nat_ ugens) (nat_ uimages) ugens.length N ∧ r = images.map fun y => (bfsB (tabOf u) (tabOf v) (nat_ ugens) (nat_ uimages) ugens.length N).1 y.toNat)
def compT (r : List Int) (e : Int) : AV := .tup [.t 2 (if e = 0 then ints r else .sl 0 []), .t 2 (.int .i64 e)]
theorem CompG.uniq {t u v : List (List Int)} {gens images ugens uimages r r' : List Int} {e e' : Int} (h : CompG t gens u images ugens v uimages r e) (h' : CompG t gens u images ugens v uimages r' e') : r = r' ∧ e = e' := by
  rcases h with ⟨a1, rfl, rfl⟩ | ⟨a1, a2, rfl, rfl⟩ | ⟨a1, a2, rfl, N, a3, rfl⟩ <;> rcases h' with ⟨b1, rfl, rfl⟩ | ⟨b1, b2, rfl, rfl⟩ | ⟨b1, b2, rfl, N', b3, rfl⟩
  · exact ⟨rfl, rfl⟩
  · omega
  · omega
  · omega
  · exact ⟨rfl, rfl⟩
  · omega
  · omega
  · omega
  · rw [a3.uniq b3]; exact ⟨rfl, rfl⟩
/-- The relation of u and v. -/
def relB (u : List (List Int)) (ugens : List Int) (v : List (List Int)) (uimages : List Int) : Nat → Nat → Prop := DvR (tabOf u) (tabOf v) (gpairs ugens uimages (lnx ugens))
theorem in_get {n : Nat} {f : List Int} (h : inB n f = true) {i : Nat} (hi : i < f.length) : f[i] = (nat_ f i : Int) ∧ nat_ f i < n := by
  have := inB_inv h i hi
  unfold nat_
  rw [nth_get hi] at this ⊢
  omega
theorem bin_of {u v : List (List Int)} {ugens uimages : List Int} (v1 : vErr u = 0) (vg : gensB u ugens = true) (v2 : vErr v = 0) (hl : uimages.length = ugens.length) (hin : inB v.length uimages = true) : BIn (tabOf u) (tabOf v) (nat_ ugens) (nat_ uimages) ugens.length u.length v.length (relB u ugens v uimages) := by
  refine ⟨(TbL.of v1).lt, (TbL.of v2).lt, fun k hk => ⟨(gens_get vg hk).2, (in_get hin (by omega)).2, .base (p := (nat_ ugens k, nat_ uimages k)) (gpairs_mem.2 ⟨k, hk, rfl⟩)⟩, fun k hk y x h => ?_⟩
  exact DvR.step (p := (nat_ ugens k, nat_ uimages k)) h (gpairs_mem.2 ⟨k, hk, rfl⟩)

set_option maxRecDepth 100000 in
set_option maxHeartbeats 8000000 in
theorem compose_fn23 (t : List (List Int)) (gens : List Int) (u : List (List Int)) (images ugens : List Int) (v : List (List Int)) (uimages : List Int) (v1 : vErr t = 0) (vg : gensB t gens = true) (v2 : vErr u = 0) (ug : gensB u ugens = true) (v3 : vErr v = 0) (hl : images.length = gens.length) (hin : inB u.length images = true) (hl2 : uimages.length = ugens.length) (hin2 : inB v.length uimages = true) (hg1 : gens.length ≤ 1000) (hg2 : ugens.length ≤ 1000) :
    ∃ res, (∃ r e, CompG t gens u images ugens v uimages r e ∧ res = compT r e) ∧ FnA Try.prog 50 [.t 1 (rows t), .t 1 (ints gens), .t 1 (rows u), .t 1 (ints images), .t 1 (ints ugens), .t 1 (rows v), .t 1 (ints uimages)] res := by
  obtain ⟨hu0, hu4⟩ := vErr_len v2
  obtain ⟨hv0, hv4⟩ := vErr_len v3
  have hu := TbL.of v2
  have hv := TbL.of v3
  obtain ⟨A1, B1, E1, -, -, hE1, -, -, hM1, -⟩ := maps_fn t gens u images (by omega) (by omega)
  obtain ⟨A2, B2, E2, -, -, hE2, -, -, hM2, -⟩ := maps_fn u ugens v uimages (by omega) (by omega)
  refine fn_introE Try.func50 rfl (by simp [Try.f50]) ?_
  rw [show Try.f50.ntmps = 155 from rfl, show Try.f50.results = #[.tmp 14, .tmp 15] from rfl]
  refine awp_seqR (fun K hK => ?_)
  simp (maxSteps := 2000000) (disch := omega) [ints, rows, scal, wr64, wr8]
  (repeat' first | refine hK _ ?_ | apply And.intro) <;> clear hK K <;> try first | (show chkD _ _ = true; kernel_rfl) | omega | rfl | (simp; done) | (simp; omega)
  refine awp_seq ?_
  rcases dvErr_cases v1 vg v2 hl hin with ⟨h0, -⟩ | h9
  case inr =>
    rw [h9] at hE1
    subst hE1
    refine awp_seqR (fun K hK => ?_)
    simp (maxSteps := 2000000) (disch := omega) [ints, rows, scal, wr64, wr8]
    (repeat' apply And.intro)
    all_goals (try omega)
    refine call_rule (caps := []) (hM1) [] [] 2 rfl rfl rfl rfl (by kernel_rfl) (by simp) ?_ trivial trivial rfl trivial trivial (by simp) ?_
    · simp [scal, rows, ints]
    simp (maxSteps := 2000000) (disch := omega) [ints, rows, scal, wr64, wr8]
    (repeat' first | refine hK _ ?_ | apply And.intro) <;> clear hK K <;> try first | (show chkD _ _ = true; kernel_rfl) | omega | rfl | (simp; done) | (simp; omega)
    refine awp_seqR (fun K hK => ?_)
    simp (maxSteps := 2000000) (disch := omega) [ints, rows, scal, wr64, wr8]
    (repeat' first | refine hK _ ?_ | apply And.intro) <;> clear hK K <;> try first | (show chkD _ _ = true; kernel_rfl) | omega | rfl | (simp; done) | (simp; omega)
    refine awp_cond (b := true) (p := 2) (by simp [scal] <;> omega) ?_
    refine awp_seqR (fun K hK => ?_)
    simp (maxSteps := 2000000) (disch := omega) [ints, rows, scal, wr64, wr8]
    (repeat' first | refine hK _ ?_ | apply And.intro) <;> clear hK K <;> try first | (show chkD _ _ = true; kernel_rfl) | omega | rfl | (simp; done) | (simp; omega)
    refine awp_ret ?_
    refine ⟨_, ⟨[], 9, .inl ⟨h9, rfl, rfl⟩, rfl⟩, ?_⟩
    refine ⟨⟨.inr rfl, _, [], rfl, trivial, trivial, by simp [compT], ?_⟩, by simp [compT]⟩
    simp [compT]
  rw [h0] at hE1
  subst hE1
  refine awp_seqR (fun K hK => ?_)
  simp (maxSteps := 2000000) (disch := omega) [ints, rows, scal, wr64, wr8]
  (repeat' apply And.intro)
  all_goals (try omega)
  refine call_rule (caps := []) (hM1) [] [] 2 rfl rfl rfl rfl (by kernel_rfl) (by simp) ?_ trivial trivial rfl trivial trivial (by simp) ?_
  · simp [scal, rows, ints]
  simp (maxSteps := 2000000) (disch := omega) [ints, rows, scal, wr64, wr8]
  (repeat' first | refine hK _ ?_ | apply And.intro) <;> clear hK K <;> try first | (show chkD _ _ = true; kernel_rfl) | omega | rfl | (simp; done) | (simp; omega)
  refine awp_seqR (fun K hK => ?_)
  simp (maxSteps := 2000000) (disch := omega) [ints, rows, scal, wr64, wr8]
  (repeat' first | refine hK _ ?_ | apply And.intro) <;> clear hK K <;> try first | (show chkD _ _ = true; kernel_rfl) | omega | rfl | (simp; done) | (simp; omega)
  refine awp_cond (b := false) (p := 2) (by simp [scal] <;> omega) ?_
  refine awp_skip ?_
  show awp _ _ _ _
  refine awp_seq ?_
  rcases dvErr_cases v2 ug v3 hl2 hin2 with ⟨h02, -⟩ | h9
  case inr =>
    rw [h9] at hE2
    subst hE2
    refine awp_seqR (fun K hK => ?_)
    simp (maxSteps := 2000000) (disch := omega) [ints, rows, scal, wr64, wr8]
    (repeat' apply And.intro)
    all_goals (try omega)
    refine call_rule (caps := []) (hM2) [] [] 2 rfl rfl rfl rfl (by kernel_rfl) (by simp) ?_ trivial trivial rfl trivial trivial (by simp) ?_
    · simp [scal, rows, ints]
    simp (maxSteps := 2000000) (disch := omega) [ints, rows, scal, wr64, wr8]
    (repeat' first | refine hK _ ?_ | apply And.intro) <;> clear hK K <;> try first | (show chkD _ _ = true; kernel_rfl) | omega | rfl | (simp; done) | (simp; omega)
    refine awp_seqR (fun K hK => ?_)
    simp (maxSteps := 2000000) (disch := omega) [ints, rows, scal, wr64, wr8]
    (repeat' first | refine hK _ ?_ | apply And.intro) <;> clear hK K <;> try first | (show chkD _ _ = true; kernel_rfl) | omega | rfl | (simp; done) | (simp; omega)
    refine awp_cond (b := true) (p := 2) (by simp [scal] <;> omega) ?_
    refine awp_seqR (fun K hK => ?_)
    simp (maxSteps := 2000000) (disch := omega) [ints, rows, scal, wr64, wr8]
    (repeat' first | refine hK _ ?_ | apply And.intro) <;> clear hK K <;> try first | (show chkD _ _ = true; kernel_rfl) | omega | rfl | (simp; done) | (simp; omega)
    refine awp_ret ?_
    refine ⟨_, ⟨[], 9, .inr (.inl ⟨h0, h9, rfl, rfl⟩), rfl⟩, ?_⟩
    refine ⟨⟨.inr rfl, _, [], rfl, trivial, trivial, by simp [compT], ?_⟩, by simp [compT]⟩
    simp [compT]
  rw [h02] at hE2
  subst hE2
  have hbi := bin_of v2 ug v3 hl2 hin2
  refine awp_seqR (fun K hK => ?_)
  simp (maxSteps := 2000000) (disch := omega) [ints, rows, scal, wr64, wr8]
  (repeat' apply And.intro)
  all_goals (try omega)
  refine call_rule (caps := []) (hM2) [] [] 2 rfl rfl rfl rfl (by kernel_rfl) (by simp) ?_ trivial trivial rfl trivial trivial (by simp) ?_
  · simp [scal, rows, ints]
  simp (maxSteps := 2000000) (disch := omega) [ints, rows, scal, wr64, wr8]
  (repeat' first | refine hK _ ?_ | apply And.intro) <;> clear hK K <;> try first | (show chkD _ _ = true; kernel_rfl) | omega | rfl | (simp; done) | (simp; omega)
  refine awp_seqR (fun K hK => ?_)
  simp (maxSteps := 2000000) (disch := omega) [ints, rows, scal, wr64, wr8]
  (repeat' first | refine hK _ ?_ | apply And.intro) <;> clear hK K <;> try first | (show chkD _ _ = true; kernel_rfl) | omega | rfl | (simp; done) | (simp; omega)
  refine awp_cond (b := false) (p := 2) (by simp [scal] <;> omega) ?_
  refine awp_skip ?_
  show awp _ _ _ _
  refine awp_seqR (fun K hK => ?_)
  simp (maxSteps := 2000000) (disch := omega) [ints, rows, scal, wr64, wr8]
  (repeat' first | refine hK _ ?_ | apply And.intro) <;> clear hK K <;> try first | (show chkD _ _ = true; kernel_rfl) | omega | rfl | (simp; done) | (simp; omega)
  refine awp_seq ?_
  refine awp_seqR (fun K hK => ?_)
  simp (maxSteps := 2000000) (disch := omega) [ints, rows, scal, wr64, wr8]
  (repeat' first | refine hK _ ?_ | apply And.intro) <;> clear hK K <;> try first | (show chkD _ _ = true; kernel_rfl) | omega | rfl | (simp; done) | (simp; omega)
  refine awp_block ?_
  refine awp_loop (fun k : Nat => mkS [(2, .t 1 (rows u)), (3, .t 1 (ints images)), (4, .t 1 (ints ugens)), (5, .t 1 (rows v)), (6, .t 1 (ints uimages)), (22, .ptr 0 0 1), (63, .t 2 (.int .i64 u.length)), (64, .t 2 (.int .i64 k))] [(0, .box 31 [.own 2 u.length]), (2, ofO 2 u.length fun i => if i < k then -1 else 0)] 4 155 [.any, .any, .any, .any, .any, .any, .any]) (fun k => k ≤ u.length) (fun k => u.length - k) ?_ ?_
  · refine ⟨0, by omega, ?_⟩
    refine wk_list [(0, some 33000000), (2, some 32000000)] rfl ?_ ?_ ?_ ?_
    all_goals try simp [ints, rows, rep_tab, ofO]
  intro k hk
  refine awp_seqR (fun K hK => ?_)
  simp (maxSteps := 2000000) (disch := omega) [ints, rows, scal, wr64, wr8]
  (repeat' first | refine hK _ ?_ | apply And.intro) <;> clear hK K <;> try first | (show chkD _ _ = true; kernel_rfl) | omega | rfl | (simp; done) | (simp; omega)
  refine awp_seq ?_
  by_cases hkl : k < u.length
  · refine awp_cond (b := true) (p := 2) (by simp [scal, hkl] <;> omega) ?_
    refine awp_skip ?_
    show awp _ _ _ _
    refine awp_seq ?_
    refine awp_block ?_
    refine awp_seqR (fun K hK => ?_)
    simp (maxSteps := 2000000) (disch := omega) [ints, rows, scal, wr64, wr8]
    (repeat' first | refine hK _ ?_ | apply And.intro) <;> clear hK K <;> try first | (show chkD _ _ = true; kernel_rfl) | omega | rfl | (simp; done) | (simp; omega)
    refine awp_R (fun K hK => ?_)
    simp (maxSteps := 2000000) (disch := omega) [ints, rows, scal, wr64, wr8, ofO, hkl]
    (repeat' first | refine hK _ ?_ | apply And.intro) <;> clear hK K <;> try first | (show chkD _ _ = true; kernel_rfl) | omega | rfl | (simp; done) | (simp; omega)
    show awp _ _ _ _
    refine awp_R (fun K hK => ?_)
    simp (maxSteps := 2000000) (disch := omega) [ints, rows, scal, wr64, wr8]
    (repeat' first | refine hK _ ?_ | apply And.intro) <;> clear hK K <;> try first | (show chkD _ _ = true; kernel_rfl) | omega | rfl | (simp; done) | (simp; omega)
    refine ⟨k + 1, by omega, by omega, ?_⟩
    refine wk_list [(0, some 0), (2, some 2)] rfl ?_ ?_ ?_ ?_
    all_goals try simp [ints, rows, ofO, tab_set]
    exact tab_congr fun i hi => by
      by_cases e : i = k
      · subst e; rw [if_pos rfl, if_pos (by omega)]
      · rw [if_neg e]; by_cases h2 : i < k
        · rw [if_pos h2, if_pos (by omega)]
        · rw [if_neg h2, if_neg (by omega)]
  obtain rfl : k = u.length := by omega
  refine awp_cond (b := false) (p := 2) (by simp [scal] <;> omega) ?_
  refine awp_exit ?_
  show awp _ _ _ _
  refine awp_seqR (fun K hK => ?_)
  simp (maxSteps := 2000000) (disch := omega) [ints, rows, scal, wr64, wr8]
  (repeat' first | refine hK _ ?_ | apply And.intro) <;> clear hK K <;> try first | (show chkD _ _ = true; kernel_rfl) | omega | rfl | (simp; done) | (simp; omega)
  refine awp_seqR (fun K hK => ?_)
  simp (maxSteps := 2000000) (disch := omega) [ints, rows, scal, wr64, wr8]
  (repeat' first | refine hK _ ?_ | apply And.intro) <;> clear hK K <;> try first | (show chkD _ _ = true; kernel_rfl) | omega | rfl | (simp; done) | (simp; omega)
  refine awp_seqR (fun K hK => ?_)
  simp (maxSteps := 2000000) (disch := omega) [ints, rows, scal, wr64, wr8]
  (repeat' first | refine hK _ ?_ | apply And.intro) <;> clear hK K <;> try first | (show chkD _ _ = true; kernel_rfl) | omega | rfl | (simp; done) | (simp; omega)
  refine awp_seq ?_
  refine awp_seqR (fun K hK => ?_)
  simp (maxSteps := 2000000) (disch := omega) [ints, rows, scal, wr64, wr8]
  (repeat' first | refine hK _ ?_ | apply And.intro) <;> clear hK K <;> try first | (show chkD _ _ = true; kernel_rfl) | omega | rfl | (simp; done) | (simp; omega)
  refine awp_block ?_
  obtain ⟨U, hUd⟩ : ∃ U, U = tabOf u := ⟨_, rfl⟩
  obtain ⟨W, hWd⟩ : ∃ W, W = tabOf v := ⟨_, rfl⟩
  rw [← hUd, ← hWd] at hbi
  refine awp_loop (fun k : Nat => mkS [(2, .t 1 (rows u)), (3, .t 1 (ints images)), (5, .t 1 (rows v)), (6, .t 1 (ints uimages)), (22, .ptr 0 0 1), (24, .ptr 1 0 1), (25, .fn 85 [.ptr 0 0 1, .ptr 1 0 1]), (26, .own 4 ((stpB (nat_ ugens) (nat_ uimages) k).length * 2)), (72, .t 1 (ints ugens)), (73, .t 2 (.int .i64 ugens.length)), (74, .t 2 (.int .i64 k))] [(0, .box 31 [.own 2 u.length]), (1, .box 31 [.own 3 (iniB (nat_ ugens) (nat_ uimages) k).2.length]), (2, ofO 1 u.length (iniB (nat_ ugens) (nat_ uimages) k).1), (3, paO 1 (iniB (nat_ ugens) (nat_ uimages) k).2), (4, stO 2 (stpB (nat_ ugens) (nat_ uimages) k))] 5 155 [.any, .any, .any, .any, .any, .any, .any]) (fun k => k ≤ ugens.length) (fun k => ugens.length - k) ?_ ?_
  · refine ⟨0, by omega, ?_⟩
    refine wk_list [(0, some 0), (1, some 1000004), (2, some 2), (3, none), (4, none)] rfl ?_ ?_ ?_ ?_
    all_goals try simp [ints, rows, ofO, paO, stO, stpB, iniB, nsT, prT]
    exact tab_congr fun i hi => by rw [if_pos hi]
  intro k hk
  refine awp_seqR (fun K hK => ?_)
  simp (maxSteps := 2000000) (disch := omega) [ints, rows, scal, wr64, wr8]
  (repeat' first | refine hK _ ?_ | apply And.intro) <;> clear hK K <;> try first | (show chkD _ _ = true; kernel_rfl) | omega | rfl | (simp; done) | (simp; omega)
  refine awp_seq ?_
  by_cases hkl : k < ugens.length
  · obtain ⟨s0, hs0⟩ : ∃ s0, s0 = iniB (nat_ ugens) (nat_ uimages) k := ⟨_, rfl⟩
    obtain ⟨S0, hS0⟩ : ∃ S0, S0 = stpB (nat_ ugens) (nat_ uimages) k := ⟨_, rfl⟩
    have hok := (iniB_ok hbi k (by omega)).1
    rw [← hs0] at hok
    have hqn := hok.len
    have hSl : S0.length ≤ k := by rw [hS0]; exact stpB_len k
    obtain ⟨g1, g2⟩ := gens_get ug hkl
    obtain ⟨g3, g4⟩ := in_get hin2 (i := k) (by omega)
    have hk2 : k < uimages.length := by omega
    have hput := cput_fn u.length s0 (nat_ ugens k) (nat_ uimages k) (by omega) g2 (by omega)
    have hs1 : iniB (nat_ ugens) (nat_ uimages) (k + 1) = putC s0 (nat_ ugens k) (nat_ uimages k) := by rw [hs0]; rfl
    have hS1 : stpB (nat_ ugens) (nat_ uimages) (k + 1) = if s0.1 (nat_ ugens k) < 0 then S0 ++ [(nat_ ugens k, nat_ uimages k)] else S0 := by rw [hs0, hS0]; rfl
    rw [← hs0, ← hS0]
    refine awp_cond (b := true) (p := 2) (by simp [scal, hkl] <;> omega) ?_
    refine awp_skip ?_
    show awp _ _ _ _
    refine awp_seq ?_
    refine awp_block ?_
    refine awp_seqR (fun K hK => ?_)
    simp (maxSteps := 2000000) (disch := omega) [ints, rows, scal, wr64, wr8, hkl, g1]
    (repeat' first | refine hK _ ?_ | apply And.intro) <;> clear hK K <;> try first | (show chkD _ _ = true; kernel_rfl) | omega | rfl | (simp; done) | (simp; omega)
    refine awp_seqR (fun K hK => ?_)
    simp (maxSteps := 2000000) (disch := omega) [ints, rows, scal, wr64, wr8, hk2, g3]
    (repeat' apply And.intro)
    all_goals (try omega)
    refine call_rule (caps := [.ptr 0 0 1, .ptr 1 0 1]) (hput) [0, 1, 2, 3] [0, 1, 12000007, 12000008] 1 rfl rfl rfl (by simp) (by kernel_rfl) (by simp) ?_ ?_ (by simp) rfl (by simp) ⟨.inr ⟨rfl, 2, _, _, _, _, _, rfl, rfl, rfl, rfl, rfl⟩, .inr ⟨rfl, 3, _, _, _, _, _, rfl, rfl, rfl, rfl, rfl⟩, .inl ⟨by omega, by omega⟩, .inl ⟨by omega, by omega⟩, trivial⟩ (by simp [cpH, ofO, paO, stO]) ?_
    · simp [scal, rows, ints, cpH, ofO, paO, stO]
    · simp [scal, rows, ints, cpH, ofO, paO, stO]
    simp (maxSteps := 2000000) (disch := omega) [ints, rows, scal, wr64, wr8, cpH, ofO, paO]
    (repeat' first | refine hK _ ?_ | apply And.intro) <;> clear hK K <;> try first | (show chkD _ _ = true; kernel_rfl) | omega | rfl | (simp; done) | (simp; omega)
    by_cases hneg : s0.1 (nat_ ugens k) < 0
    · have hS2 : prT S0 ++ [.int .i64 (nat_ ugens k : Int), .int .i64 (nat_ uimages k : Int)] = prT (S0 ++ [(nat_ ugens k, nat_ uimages k)]) := by rw [prT_app]; rfl
      rw [if_pos hneg] at hS1
      refine awp_cond (b := true) (p := 2) (by simp [scal, hneg] <;> omega) ?_
      refine awp_R (fun K hK => ?_)
      simp (maxSteps := 2000000) (disch := omega) [ints, rows, scal, wr64, wr8, hk2, g3, stO, hS2]
      (repeat' first | refine hK _ ?_ | apply And.intro) <;> clear hK K <;> try first | (show chkD _ _ = true; kernel_rfl) | omega | rfl | (simp; done) | (simp; omega)
      show awp _ _ _ _
      refine awp_R (fun K hK => ?_)
      simp (maxSteps := 2000000) (disch := omega) [ints, rows, scal, wr64, wr8]
      (repeat' first | refine hK _ ?_ | apply And.intro) <;> clear hK K <;> try first | (show chkD _ _ = true; kernel_rfl) | omega | rfl | (simp; done) | (simp; omega)
      refine ⟨k + 1, by omega, by omega, ?_⟩
      rw [hs1, hS1]
      refine wk_list [(0, some 0), (1, some 1), (2, some 12000007), (3, some 12000008), (4, some 4)] rfl ?_ ?_ ?_ ?_
      all_goals try simp [ints, rows, ofO, paO, stO, cpH]
      · omega
      · exact hS2
    · rw [if_neg hneg] at hS1
      refine awp_cond (b := false) (p := 2) (by simp [scal, hneg] <;> omega) ?_
      refine awp_skip ?_
      show awp _ _ _ _
      refine awp_R (fun K hK => ?_)
      simp (maxSteps := 2000000) (disch := omega) [ints, rows, scal, wr64, wr8]
      (repeat' first | refine hK _ ?_ | apply And.intro) <;> clear hK K <;> try first | (show chkD _ _ = true; kernel_rfl) | omega | rfl | (simp; done) | (simp; omega)
      refine ⟨k + 1, by omega, by omega, ?_⟩
      rw [hs1, hS1]
      refine wk_list [(0, some 0), (1, some 1), (2, some 12000007), (3, some 12000008), (4, some 4)] rfl ?_ ?_ ?_ ?_
      all_goals try simp [ints, rows, ofO, paO, stO, cpH]
  obtain rfl : k = ugens.length := by omega
  refine awp_cond (b := false) (p := 2) (by simp [scal] <;> omega) ?_
  refine awp_exit ?_
  show awp _ _ _ _
  refine awp_seq ?_
  refine awp_seqR (fun K hK => ?_)
  simp (maxSteps := 2000000) (disch := omega) [ints, rows, scal, wr64, wr8]
  (repeat' first | refine hK _ ?_ | apply And.intro) <;> clear hK K <;> try first | (show chkD _ _ = true; kernel_rfl) | omega | rfl | (simp; done) | (simp; omega)
  refine awp_block ?_
  obtain ⟨B, hB⟩ : ∃ B : Nat → BSt, B = bfsB U W (nat_ ugens) (nat_ uimages) ugens.length := ⟨_, rfl⟩
  obtain ⟨S, hS⟩ : ∃ S, S = stpB (nat_ ugens) (nat_ uimages) ugens.length := ⟨_, rfl⟩
  have hB0 : iniB (nat_ ugens) (nat_ uimages) ugens.length = B 0 := by rw [hB]; rfl
  have hSm : ∀ q, q ∈ S → ∃ j, j < ugens.length ∧ q = (nat_ ugens j, nat_ uimages j) := fun q hq => stpB_mem _ q (by rw [← hS]; exact hq)
  have hSl : S.length ≤ ugens.length := by rw [hS]; exact stpB_len _
  rw [hB0, ← hS]
  refine awp_loop (fun i : Nat => mkS [(2, .t 1 (rows u)), (3, .t 1 (ints images)), (5, .t 1 (rows v)), (22, .ptr 0 0 1), (24, .ptr 1 0 1), (25, .fn 85 [.ptr 0 0 1, .ptr 1 0 1]), (26, .own 4 (S.length * 2)), (29, .t 2 (.int .i64 i))] [(0, .box 31 [.own 2 u.length]), (1, .box 31 [.own 3 (B i).2.length]), (2, ofO 1 u.length (B i).1), (3, paO 1 (B i).2), (4, stO 2 S)] 5 155 [.any, .any, .any, .any, .any, .any, .any]) (fun i => i ≤ (B i).2.length ∧ ∀ n, n < i → n < (B n).2.length) (fun i => u.length - i) ?_ ?_
  · refine ⟨0, ⟨by omega, fun n hn => by omega⟩, ?_⟩
    refine wk_list [(0, some 0), (1, some 1), (2, some 2), (3, some 3), (4, some 4)] rfl ?_ ?_ ?_ ?_
    all_goals try simp [ints, rows, ofO, paO, stO]
  rintro i ⟨hi1, hi2⟩
  have hok := (bfsB_ok hbi i (by rw [← hB]; exact hi2)).1
  rw [← hB] at hok
  have hql := hok.len
  refine awp_seq ?_
  refine awp_seqR (fun K hK => ?_)
  simp (maxSteps := 2000000) (disch := omega) [ints, rows, scal, wr64, wr8, paO]
  (repeat' first | refine hK _ ?_ | apply And.intro) <;> clear hK K <;> try first | (show chkD _ _ = true; kernel_rfl) | omega | rfl | (simp; done) | (simp; omega)
  by_cases hil : i < (B i).2.length
  · obtain ⟨y, hy⟩ : ∃ y, y = nthx (B i).2 i := ⟨_, rfl⟩
    have hyq : y ∈ (B i).2 := by rw [hy]; exact nthx_mem hil
    have hym := hok.lt y hyq
    have hy0 := (hok.mem y hym).2 hyq
    obtain ⟨fy, hfy⟩ : ∃ fy : Nat, (B i).1 y = (fy : Int) := ⟨((B i).1 y).toNat, by omega⟩
    have hfp : fy < v.length := by have := hok.val y hym; omega
    have hBi : B (i + 1) = innS U W (B i) y S := by
      rw [hS, innS_eq hbi hok hym hy0 ugens.length (Nat.le_refl _), hy, hB]
      rfl
    refine awp_cond (b := true) (p := 2) (by simp [scal, hil] <;> omega) ?_
    refine awp_skip ?_
    show awp _ _ _ _
    refine awp_seq ?_
    refine awp_block ?_
    refine awp_seqR (fun K hK => ?_)
    simp (maxSteps := 2000000) (disch := omega) [ints, rows, scal, wr64, wr8, stO]
    (repeat' first | refine hK _ ?_ | apply And.intro) <;> clear hK K <;> try first | (show chkD _ _ = true; kernel_rfl) | omega | rfl | (simp; done) | (simp; omega)
    refine awp_block ?_
    refine awp_loop (fun d : Nat => mkS [(2, .t 1 (rows u)), (3, .t 1 (ints images)), (5, .t 1 (rows v)), (22, .ptr 0 0 1), (24, .ptr 1 0 1), (25, .fn 85 [.ptr 0 0 1, .ptr 1 0 1]), (26, .own 4 (S.length * 2)), (29, .t 2 (.int .i64 i)), (102, .own 4 (S.length * 2)), (103, .t 2 (.int .i64 S.length)), (104, .t 2 (.int .i64 d))] [(0, .box 31 [.own 2 u.length]), (1, .box 31 [.own 3 (innS U W (B i) y (S.take d)).2.length]), (2, ofO 1 u.length (innS U W (B i) y (S.take d)).1), (3, paO 1 (innS U W (B i) y (S.take d)).2), (4, stO 2 S)] 5 155 [.any, .any, .any, .any, .any, .any, .any]) (fun d => d ≤ S.length) (fun d => S.length - d) ?_ ?_
    · refine ⟨0, by omega, ?_⟩
      refine wk_list [(0, some 0), (1, some 1), (2, some 2), (3, some 3), (4, some 4)] rfl ?_ ?_ ?_ ?_
      all_goals try simp [ints, rows, ofO, paO, stO, innS]
    intro d hd
    obtain ⟨hok2, hex⟩ := innS_ok hbi hok hym hy0 hSm d hd
    obtain ⟨s2, hs2⟩ : ∃ s2, s2 = innS U W (B i) y (S.take d) := ⟨_, rfl⟩
    rw [← hs2] at hok2 hex
    rw [← hs2]
    have hql2 := hok2.len
    refine awp_seqR (fun K hK => ?_)
    simp (maxSteps := 2000000) (disch := omega) [ints, rows, scal, wr64, wr8]
    (repeat' first | refine hK _ ?_ | apply And.intro) <;> clear hK K <;> try first | (show chkD _ _ = true; kernel_rfl) | omega | rfl | (simp; done) | (simp; omega)
    refine awp_seq ?_
    by_cases hdl : d < S.length
    · obtain ⟨j, hj, hq⟩ := hSm S[d] (List.getElem_mem hdl)
      obtain ⟨g, hg⟩ : ∃ g, g = nat_ ugens j := ⟨_, rfl⟩
      obtain ⟨x, hx⟩ : ∃ x, x = nat_ uimages j := ⟨_, rfl⟩
      obtain ⟨g1, g2, -⟩ := hbi.g j hj
      rw [← hg] at g1
      rw [← hx] at g2
      rw [← hg, ← hx] at hq
      have hcell := prT_at S d (g, x) (by rw [List.getElem?_eq_getElem hdl, hq])
      have hcut : ((prT S).drop (d * 2)).take 2 = [.int .i64 (g : Int), .int .i64 (x : Int)] := cut2 hcell.1 hcell.2
      have hi3 : i < s2.2.length := by have := hex.len; omega
      have hq1 : (nsT s2.2)[i]? = some (.int .i64 (y : Int)) := by
        rw [nsT_get hi3]
        have := hex.nth hil
        rw [nth_get hi3, ← hy] at this
        rw [this]
      have hq1' : ∀ h, (nsT s2.2)[i]'h = .int .i64 (y : Int) := fun h => (List.getElem?_eq_some_iff.1 hq1).2
      have hs2y : s2.1 y = (fy : Int) := by rw [hex.val y hy0, hfy]
      have q1 : g < u[y].length := by rw [hu.row]; exact g1
      have q2 := hu.val y g hym q1
      have q3 : x < v[fy].length := by rw [hv.row]; exact g2
      have q4 := hv.val fy x hfp q3
      rw [← hUd] at q2
      rw [← hWd] at q4
      have hUz := hbi.hU y g hym g1
      have hput := cput_fn u.length s2 (U y g) (W fy x) (by omega) hUz (by omega)
      have hnx : innS U W (B i) y (S.take (d + 1)) = putC s2 (U y g) (W fy x : Nat) := by
        rw [List.take_succ_eq_append_getElem hdl, innS_snoc, ← hs2, hq, hfy]
        rfl
      refine awp_cond (b := true) (p := 2) (by simp [scal, hdl] <;> omega) ?_
      refine awp_skip ?_
      show awp _ _ _ _
      refine awp_seq ?_
      refine awp_block ?_
      refine awp_seqR (fun K hK => ?_)
      simp (maxSteps := 2000000) (disch := omega) [ints, rows, scal, wr64, wr8, stO, hcut, hdl]
      (repeat' first | refine hK _ ?_ | apply And.intro) <;> clear hK K <;> try first | (show chkD _ _ = true; kernel_rfl) | omega | rfl | (simp; done) | (simp; omega)
      refine awp_RD (by kernel_rfl) (fun K hK => ?_)
      simp (maxSteps := 2000000) (disch := omega) [ints, rows, scal, wr64, wr8, paO, ofO, hq1, hq1', hi3, hym, hs2y, hfp, q1, q2, q3, q4]
      (repeat' apply And.intro)
      all_goals (try omega)
      refine call_ruleD (caps := [.ptr 0 0 1, .ptr 1 0 1]) (hput) [0, 1, 2, 3] [0, 1, 31000007, 31000008] 1 rfl rfl rfl (by simp) (by kernel_rfl) (by simp) ?_ ?_ (by simp) rfl (by simp) ⟨.inr ⟨rfl, 2, _, _, _, _, _, rfl, rfl, rfl, rfl, rfl⟩, .inr ⟨rfl, 3, _, _, _, _, _, rfl, rfl, rfl, rfl, rfl⟩, .inl ⟨by omega, by omega⟩, .inl ⟨by omega, by omega⟩, trivial⟩ (by simp [cpH, ofO, paO, stO]) ?_
      · simp [scal, rows, ints, cpH, ofO, paO, stO]
      · simp [scal, rows, ints, cpH, ofO, paO, stO]
      simp (maxSteps := 2000000) (disch := omega) [ints, rows, scal, wr64, wr8, cpH, ofO, paO]
      (repeat' first | refine hK _ ?_ | apply And.intro) <;> clear hK K <;> try first | (show chkD _ _ = true; kernel_rfl) | omega | rfl | (simp; done) | (simp; omega)
      show awp _ _ _ _
      refine awp_R (fun K hK => ?_)
      simp (maxSteps := 2000000) (disch := omega) [ints, rows, scal, wr64, wr8]
      (repeat' first | refine hK _ ?_ | apply And.intro) <;> clear hK K <;> try first | (show chkD _ _ = true; kernel_rfl) | omega | rfl | (simp; done) | (simp; omega)
      refine ⟨d + 1, by omega, by omega, ?_⟩
      rw [hnx]
      refine wk_list [(0, some 0), (1, some 1), (2, some 31000007), (3, some 31000008), (4, some 4)] rfl ?_ ?_ ?_ ?_
      all_goals try simp [ints, rows, ofO, paO, stO, cpH]
    obtain rfl : d = S.length := by omega
    rw [List.take_length] at hs2
    refine awp_cond (b := false) (p := 2) (by simp [scal] <;> omega) ?_
    refine awp_exit ?_
    show awp _ _ _ _
    refine awp_R (fun K hK => ?_)
    simp (maxSteps := 2000000) (disch := omega) [ints, rows, scal, wr64, wr8]
    (repeat' first | refine hK _ ?_ | apply And.intro) <;> clear hK K <;> try first | (show chkD _ _ = true; kernel_rfl) | omega | rfl | (simp; done) | (simp; omega)
    refine ⟨i + 1, ⟨by rw [hBi, ← hs2]; have := hex.len; omega, fun n hn => ?_⟩, by omega, ?_⟩
    · by_cases e : n = i
      · rw [e]; exact hil
      · exact hi2 n (by omega)
    · rw [hBi, ← hs2]
      refine wk_list [(0, some 0), (1, some 1), (2, some 2), (3, some 3), (4, some 4)] rfl ?_ ?_ ?_ ?_
      all_goals try simp [ints, rows, ofO, paO, stO]
  have hend : (B i).2.length = i := by omega
  obtain ⟨F, hF⟩ : ∃ F, F = (B i).1 := ⟨_, rfl⟩
  have hbend : BEnd (tabOf u) (tabOf v) (nat_ ugens) (nat_ uimages) ugens.length i := by
    rw [← hUd, ← hWd]
    exact ⟨by rw [← hB]; exact hend, fun n hn => by rw [← hB]; exact hi2 n hn⟩
  have hFe : F = (bfsB (tabOf u) (tabOf v) (nat_ ugens) (nat_ uimages) ugens.length i).1 := by rw [hF, hB, hUd, hWd]
  rw [← hF]
  refine awp_cond (b := false) (p := 2) (by simp [scal, hil] <;> omega) ?_
  refine awp_exit ?_
  show awp _ _ _ _
  refine awp_seqR (fun K hK => ?_)
  simp (maxSteps := 2000000) (disch := omega) [ints, rows, scal, wr64, wr8]
  (repeat' first | refine hK _ ?_ | apply And.intro) <;> clear hK K <;> try first | (show chkD _ _ = true; kernel_rfl) | omega | rfl | (simp; done) | (simp; omega)
  refine awp_seq ?_
  refine awp_seqR (fun K hK => ?_)
  simp (maxSteps := 2000000) (disch := omega) [ints, rows, scal, wr64, wr8]
  (repeat' first | refine hK _ ?_ | apply And.intro) <;> clear hK K <;> try first | (show chkD _ _ = true; kernel_rfl) | omega | rfl | (simp; done) | (simp; omega)
  refine awp_block ?_
  refine awp_loop (fun k : Nat => mkS [(22, .ptr 0 0 1), (32, .own 5 images.length), (139, .t 1 (ints images)), (140, .t 2 (.int .i64 images.length)), (141, .t 2 (.int .i64 k))] [(0, .box 31 [.own 2 u.length]), (2, ofO 1 u.length F), (5, ofO 2 images.length fun j => if j < k then F (nat_ images j) else 0)] 6 155 [.any, .any, .any, .any, .any, .any, .any]) (fun k => k ≤ images.length) (fun k => images.length - k) ?_ ?_
  · refine ⟨0, by omega, ?_⟩
    refine wk_list [(0, some 0), (2, some 2), (5, some 6000005)] rfl ?_ ?_ ?_ ?_
    all_goals try simp [ints, rows, ofO, rep_tab]
  intro k hk
  refine awp_seqR (fun K hK => ?_)
  simp (maxSteps := 2000000) (disch := omega) [ints, rows, scal, wr64, wr8]
  (repeat' first | refine hK _ ?_ | apply And.intro) <;> clear hK K <;> try first | (show chkD _ _ = true; kernel_rfl) | omega | rfl | (simp; done) | (simp; omega)
  refine awp_seq ?_
  by_cases hkl : k < images.length
  · obtain ⟨g1, g2⟩ := in_get hin hkl
    refine awp_cond (b := true) (p := 2) (by simp [scal, hkl] <;> omega) ?_
    refine awp_skip ?_
    show awp _ _ _ _
    refine awp_seq ?_
    refine awp_block ?_
    refine awp_seqR (fun K hK => ?_)
    simp (maxSteps := 2000000) (disch := omega) [ints, rows, scal, wr64, wr8, hkl, g1]
    (repeat' first | refine hK _ ?_ | apply And.intro) <;> clear hK K <;> try first | (show chkD _ _ = true; kernel_rfl) | omega | rfl | (simp; done) | (simp; omega)
    refine awp_R (fun K hK => ?_)
    simp (maxSteps := 2000000) (disch := omega) [ints, rows, scal, wr64, wr8, ofO, hkl, g2]
    (repeat' first | refine hK _ ?_ | apply And.intro) <;> clear hK K <;> try first | (show chkD _ _ = true; kernel_rfl) | omega | rfl | (simp; done) | (simp; omega)
    show awp _ _ _ _
    refine awp_R (fun K hK => ?_)
    simp (maxSteps := 2000000) (disch := omega) [ints, rows, scal, wr64, wr8]
    (repeat' first | refine hK _ ?_ | apply And.intro) <;> clear hK K <;> try first | (show chkD _ _ = true; kernel_rfl) | omega | rfl | (simp; done) | (simp; omega)
    refine ⟨k + 1, by omega, by omega, ?_⟩
    refine wk_list [(0, some 0), (2, some 2), (5, some 5)] rfl ?_ ?_ ?_ ?_
    all_goals try simp [ints, rows, ofO, tab_set]
    exact tab_congr fun i hi => by
      by_cases e : i = k
      · subst e; rw [if_pos rfl, if_pos (by omega)]
      · rw [if_neg e]; by_cases h2 : i < k
        · rw [if_pos h2, if_pos (by omega)]
        · rw [if_neg h2, if_neg (by omega)]
  obtain rfl : k = images.length := by omega
  refine awp_cond (b := false) (p := 2) (by simp [scal] <;> omega) ?_
  refine awp_exit ?_
  show awp _ _ _ _
  refine awp_seqR (fun K hK => ?_)
  simp (maxSteps := 2000000) (disch := omega) [ints, rows, scal, wr64, wr8]
  (repeat' first | refine hK _ ?_ | apply And.intro) <;> clear hK K <;> try first | (show chkD _ _ = true; kernel_rfl) | omega | rfl | (simp; done) | (simp; omega)
  refine awp_ret ?_
  refine ⟨_, ⟨_, 0, .inr (.inr ⟨h0, h02, rfl, i, hbend, rfl⟩), rfl⟩, ?_⟩
  rw [← hFe]
  refine ⟨⟨.inr rfl, _, [], rfl, trivial, trivial, by simp [compT, ofO, ints], ?_⟩, by simp [compT, ofO, ints]⟩
  simp [compT, ofO, ints]
  apply List.ext_getElem (by simp)
  intro j h1 h2
  have hj : j < images.length := by simpa using h1
  rw [tab_elem, if_pos hj]
  simp [nat_, nth_get hj]
def compU (r : List Int) (e : Int) : AV := .tup [.t 2 (ints r), .t 2 (.int .i64 e)]
theorem compT_U {r : List Int} {e : Int} (h : e ≠ 0 → r = []) {E : Ev} {v : Value} (hv : VR E v (compT r e)) : VR E v (compU r e) := by
  by_cases he : e = 0
  · unfold compT at hv
    rw [if_pos he] at hv
    exact hv
  · rw [h he]
    unfold compT at hv
    rw [if_neg he] at hv
    cases hv with
    | tup vs cs hn hr =>
      refine .tup vs _ hn (fun i a hi => ?_)
      rcases i with _ | i
      · simp at hi; subst hi
        exact (hr 0 _ rfl).nilz 1
      · exact hr (i + 1) a hi
theorem CompG.nil {t u v : List (List Int)} {gens images ugens uimages r : List Int} {e : Int} (h : CompG t gens u images ugens v uimages r e) (he : e ≠ 0) : r = [] := by
  rcases h with ⟨_, h, _⟩ | ⟨_, _, h, _⟩ | ⟨_, _, h, _⟩
  · exact h
  · exact h
  · exact absurd h he
end Go.Proofs.Ytgghmjnbkbiffaa.M

namespace Go.Proofs.Ytgghmjnbkbiffaa.M
open Go.RowKit
set_option linter.unusedVariables false
set_option linter.unusedSimpArgs false

def BNeg (s : BSt) : Prop := ∀ z, s.1 z = -1 ∨ 0 ≤ s.1 z
theorem BNeg.put {s : BSt} (h : BNeg s) (z x : Nat) : BNeg (putC s z (x : Int)) := fun y => by
  unfold putC updP
  simp only
  split
  · unfold Go.Proofs.Ytgghmjnbkbiffaa.upd
    split
    · right; omega
    · exact h y
  · exact h y
theorem iniB_neg (ug ui : Nat → Nat) : ∀ k, BNeg (iniB ug ui k)
  | 0 => fun _ => .inl rfl
  | k + 1 => (iniB_neg ug ui k).put _ _
theorem innB_neg {U V : Nat → Nat → Nat} {ug ui : Nat → Nat} {s : BSt} (h : BNeg s) (y : Nat) : ∀ k, BNeg (innB U V ug ui s y k)
  | 0 => h
  | k + 1 => (innB_neg h y k).put _ _
theorem bfsB_neg (U V : Nat → Nat → Nat) (ug ui : Nat → Nat) (G : Nat) : ∀ i, BNeg (bfsB U V ug ui G i)
  | 0 => iniB_neg ug ui G
  | i + 1 => innB_neg (bfsB_neg U V ug ui G i) _ G
theorem putC_new {s : BSt} {z : Nat} {x : Int} (h : s.1 z < 0) : putC s z x = (Go.Proofs.Ytgghmjnbkbiffaa.upd s.1 z x, s.2 ++ [z]) := by
  unfold putC updP addP
  rw [if_pos h, if_pos h]

set_option maxRecDepth 100000 in
set_option maxHeartbeats 8000000 in
theorem refCompose_fn0 (t : List (List Int)) (gens : List Int) (u : List (List Int)) (images ugens : List Int) (v : List (List Int)) (uimages : List Int) (v1 : vErr t = 0) (vg : gensB t gens = true) (v2 : vErr u = 0) (ug : gensB u ugens = true) (v3 : vErr v = 0) (hl : images.length = gens.length) (hin : inB u.length images = true) (hl2 : uimages.length = ugens.length) (hin2 : inB v.length uimages = true) (hg1 : gens.length ≤ 1000) (hg2 : ugens.length ≤ 1000) :
    ∃ res, (∃ r e, CompG t gens u images ugens v uimages r e ∧ res = compT r e) ∧ FnA Try.prog 51 [.t 1 (rows t), .t 1 (ints gens), .t 1 (rows u), .t 1 (ints images), .t 1 (ints ugens), .t 1 (rows v), .t 1 (ints uimages)] res := by
  obtain ⟨hu0, hu4⟩ := vErr_len v2
  obtain ⟨hv0, hv4⟩ := vErr_len v3
  have hu := TbL.of v2
  have hv := TbL.of v3
  obtain ⟨A1, B1, E1, -, -, hE1, -, -, -, hM1⟩ := maps_fn t gens u images (by omega) (by omega)
  obtain ⟨A2, B2, E2, -, -, hE2, -, -, -, hM2⟩ := maps_fn u ugens v uimages (by omega) (by omega)
  refine fn_introE Try.func51 rfl (by simp [Try.f51]) ?_
  rw [show Try.f51.ntmps = 160 from rfl, show Try.f51.results = #[.tmp 14, .tmp 15] from rfl]
  refine awp_seqR (fun K hK => ?_)
  simp (maxSteps := 2000000) (disch := omega) [ints, rows, scal, wr64, wr8]
  (repeat' first | refine hK _ ?_ | apply And.intro) <;> clear hK K <;> try first | (show chkD _ _ = true; kernel_rfl) | omega | rfl | (simp; done) | (simp; omega)
  refine awp_seq ?_
  rcases dvErr_cases v1 vg v2 hl hin with ⟨h0, -⟩ | h9
  case inr =>
    rw [h9] at hE1
    subst hE1
    refine awp_seqR (fun K hK => ?_)
    simp (maxSteps := 2000000) (disch := omega) [ints, rows, scal, wr64, wr8]
    (repeat' apply And.intro)
    all_goals (try omega)
    refine call_rule (caps := []) (hM1) [] [] 2 rfl rfl rfl rfl (by kernel_rfl) (by simp) ?_ trivial trivial rfl trivial trivial (by simp) ?_
    · simp [scal, rows, ints]
    simp (maxSteps := 2000000) (disch := omega) [ints, rows, scal, wr64, wr8]
    (repeat' first | refine hK _ ?_ | apply And.intro) <;> clear hK K <;> try first | (show chkD _ _ = true; kernel_rfl) | omega | rfl | (simp; done) | (simp; omega)
    refine awp_seqR (fun K hK => ?_)
    simp (maxSteps := 2000000) (disch := omega) [ints, rows, scal, wr64, wr8]
    (repeat' first | refine hK _ ?_ | apply And.intro) <;> clear hK K <;> try first | (show chkD _ _ = true; kernel_rfl) | omega | rfl | (simp; done) | (simp; omega)
    refine awp_cond (b := true) (p := 2) (by simp [scal] <;> omega) ?_
    refine awp_seqR (fun K hK => ?_)
    simp (maxSteps := 2000000) (disch := omega) [ints, rows, scal, wr64, wr8]
    (repeat' first | refine hK _ ?_ | apply And.intro) <;> clear hK K <;> try first | (show chkD _ _ = true; kernel_rfl) | omega | rfl | (simp; done) | (simp; omega)
    refine awp_ret ?_
    refine ⟨_, ⟨[], 9, .inl ⟨h9, rfl, rfl⟩, rfl⟩, ?_⟩
    refine ⟨⟨.inr rfl, _, [], rfl, trivial, trivial, by simp [compT], ?_⟩, by simp [compT]⟩
    simp [compT]
  rw [h0] at hE1
  subst hE1
  refine awp_seqR (fun K hK => ?_)
  simp (maxSteps := 2000000) (disch := omega) [ints, rows, scal, wr64, wr8]
  (repeat' apply And.intro)
  all_goals (try omega)
  refine call_rule (caps := []) (hM1) [] [] 2 rfl rfl rfl rfl (by kernel_rfl) (by simp) ?_ trivial trivial rfl trivial trivial (by simp) ?_
  · simp [scal, rows, ints]
  simp (maxSteps := 2000000) (disch := omega) [ints, rows, scal, wr64, wr8]
  (repeat' first | refine hK _ ?_ | apply And.intro) <;> clear hK K <;> try first | (show chkD _ _ = true; kernel_rfl) | omega | rfl | (simp; done) | (simp; omega)
  refine awp_seqR (fun K hK => ?_)
  simp (maxSteps := 2000000) (disch := omega) [ints, rows, scal, wr64, wr8]
  (repeat' first | refine hK _ ?_ | apply And.intro) <;> clear hK K <;> try first | (show chkD _ _ = true; kernel_rfl) | omega | rfl | (simp; done) | (simp; omega)
  refine awp_cond (b := false) (p := 2) (by simp [scal] <;> omega) ?_
  refine awp_skip ?_
  show awp _ _ _ _
  refine awp_seq ?_
  rcases dvErr_cases v2 ug v3 hl2 hin2 with ⟨h02, -⟩ | h9
  case inr =>
    rw [h9] at hE2
    subst hE2
    refine awp_seqR (fun K hK => ?_)
    simp (maxSteps := 2000000) (disch := omega) [ints, rows, scal, wr64, wr8]
    (repeat' apply And.intro)
    all_goals (try omega)
    refine call_rule (caps := []) (hM2) [] [] 2 rfl rfl rfl rfl (by kernel_rfl) (by simp) ?_ trivial trivial rfl trivial trivial (by simp) ?_
    · simp [scal, rows, ints]
    simp (maxSteps := 2000000) (disch := omega) [ints, rows, scal, wr64, wr8]
    (repeat' first | refine hK _ ?_ | apply And.intro) <;> clear hK K <;> try first | (show chkD _ _ = true; kernel_rfl) | omega | rfl | (simp; done) | (simp; omega)
    refine awp_seqR (fun K hK => ?_)
    simp (maxSteps := 2000000) (disch := omega) [ints, rows, scal, wr64, wr8]
    (repeat' first | refine hK _ ?_ | apply And.intro) <;> clear hK K <;> try first | (show chkD _ _ = true; kernel_rfl) | omega | rfl | (simp; done) | (simp; omega)
    refine awp_cond (b := true) (p := 2) (by simp [scal] <;> omega) ?_
    refine awp_seqR (fun K hK => ?_)
    simp (maxSteps := 2000000) (disch := omega) [ints, rows, scal, wr64, wr8]
    (repeat' first | refine hK _ ?_ | apply And.intro) <;> clear hK K <;> try first | (show chkD _ _ = true; kernel_rfl) | omega | rfl | (simp; done) | (simp; omega)
    refine awp_ret ?_
    refine ⟨_, ⟨[], 9, .inr (.inl ⟨h0, h9, rfl, rfl⟩), rfl⟩, ?_⟩
    refine ⟨⟨.inr rfl, _, [], rfl, trivial, trivial, by simp [compT], ?_⟩, by simp [compT]⟩
    simp [compT]
  rw [h02] at hE2
  subst hE2
  have hbi := bin_of v2 ug v3 hl2 hin2
  refine awp_seqR (fun K hK => ?_)
  simp (maxSteps := 2000000) (disch := omega) [ints, rows, scal, wr64, wr8]
  (repeat' apply And.intro)
  all_goals (try omega)
  refine call_rule (caps := []) (hM2) [] [] 2 rfl rfl rfl rfl (by kernel_rfl) (by simp) ?_ trivial trivial rfl trivial trivial (by simp) ?_
  · simp [scal, rows, ints]
  simp (maxSteps := 2000000) (disch := omega) [ints, rows, scal, wr64, wr8]
  (repeat' first | refine hK _ ?_ | apply And.intro) <;> clear hK K <;> try first | (show chkD _ _ = true; kernel_rfl) | omega | rfl | (simp; done) | (simp; omega)
  refine awp_seqR (fun K hK => ?_)
  simp (maxSteps := 2000000) (disch := omega) [ints, rows, scal, wr64, wr8]
  (repeat' first | refine hK _ ?_ | apply And.intro) <;> clear hK K <;> try first | (show chkD _ _ = true; kernel_rfl) | omega | rfl | (simp; done) | (simp; omega)
  refine awp_cond (b := false) (p := 2) (by simp [scal] <;> omega) ?_
  refine awp_skip ?_
  show awp _ _ _ _
  refine awp_seqR (fun K hK => ?_)
  simp (maxSteps := 2000000) (disch := omega) [ints, rows, scal, wr64, wr8]
  (repeat' first | refine hK _ ?_ | apply And.intro) <;> clear hK K <;> try first | (show chkD _ _ = true; kernel_rfl) | omega | rfl | (simp; done) | (simp; omega)
  refine awp_seq ?_
  refine awp_seqR (fun K hK => ?_)
  simp (maxSteps := 2000000) (disch := omega) [ints, rows, scal, wr64, wr8]
  (repeat' first | refine hK _ ?_ | apply And.intro) <;> clear hK K <;> try first | (show chkD _ _ = true; kernel_rfl) | omega | rfl | (simp; done) | (simp; omega)
  refine awp_block ?_
  refine awp_loop (fun k : Nat => mkS [(2, .t 1 (rows u)), (3, .t 1 (ints images)), (4, .t 1 (ints ugens)), (5, .t 1 (rows v)), (6, .t 1 (ints uimages)), (22, .own 0 u.length), (62, .t 2 (.int .i64 u.length)), (63, .t 2 (.int .i64 k))] [(0, ofO 2 u.length fun i => if i < k then -1 else 0)] 1 160 [.any, .any, .any, .any, .any, .any, .any]) (fun k => k ≤ u.length) (fun k => u.length - k) ?_ ?_
  · refine ⟨0, by omega, ?_⟩
    refine wk_list [(0, some 32000000)] rfl ?_ ?_ ?_ ?_
    all_goals try simp [ints, rows, rep_tab, ofO]
  intro k hk
  refine awp_seqR (fun K hK => ?_)
  simp (maxSteps := 2000000) (disch := omega) [ints, rows, scal, wr64, wr8]
  (repeat' first | refine hK _ ?_ | apply And.intro) <;> clear hK K <;> try first | (show chkD _ _ = true; kernel_rfl) | omega | rfl | (simp; done) | (simp; omega)
  refine awp_seq ?_
  by_cases hkl : k < u.length
  · refine awp_cond (b := true) (p := 2) (by simp [scal, hkl] <;> omega) ?_
    refine awp_skip ?_
    show awp _ _ _ _
    refine awp_seq ?_
    refine awp_block ?_
    refine awp_seqR (fun K hK => ?_)
    simp (maxSteps := 2000000) (disch := omega) [ints, rows, scal, wr64, wr8]
    (repeat' first | refine hK _ ?_ | apply And.intro) <;> clear hK K <;> try first | (show chkD _ _ = true; kernel_rfl) | omega | rfl | (simp; done) | (simp; omega)
    refine awp_R (fun K hK => ?_)
    simp (maxSteps := 2000000) (disch := omega) [ints, rows, scal, wr64, wr8, ofO, hkl]
    (repeat' first | refine hK _ ?_ | apply And.intro) <;> clear hK K <;> try first | (show chkD _ _ = true; kernel_rfl) | omega | rfl | (simp; done) | (simp; omega)
    show awp _ _ _ _
    refine awp_R (fun K hK => ?_)
    simp (maxSteps := 2000000) (disch := omega) [ints, rows, scal, wr64, wr8]
    (repeat' first | refine hK _ ?_ | apply And.intro) <;> clear hK K <;> try first | (show chkD _ _ = true; kernel_rfl) | omega | rfl | (simp; done) | (simp; omega)
    refine ⟨k + 1, by omega, by omega, ?_⟩
    refine wk_list [(0, some 0)] rfl ?_ ?_ ?_ ?_
    all_goals try simp [ints, rows, ofO, tab_set]
    exact tab_congr fun i hi => by
      by_cases e : i = k
      · subst e; rw [if_pos rfl, if_pos (by omega)]
      · rw [if_neg e]; by_cases h2 : i < k
        · rw [if_pos h2, if_pos (by omega)]
        · rw [if_neg h2, if_neg (by omega)]
  obtain rfl : k = u.length := by omega
  refine awp_cond (b := false) (p := 2) (by simp [scal] <;> omega) ?_
  refine awp_exit ?_
  show awp _ _ _ _
  refine awp_seqR (fun K hK => ?_)
  simp (maxSteps := 2000000) (disch := omega) [ints, rows, scal, wr64, wr8]
  (repeat' first | refine hK _ ?_ | apply And.intro) <;> clear hK K <;> try first | (show chkD _ _ = true; kernel_rfl) | omega | rfl | (simp; done) | (simp; omega)
  refine awp_seq ?_
  refine awp_seqR (fun K hK => ?_)
  simp (maxSteps := 2000000) (disch := omega) [ints, rows, scal, wr64, wr8]
  (repeat' first | refine hK _ ?_ | apply And.intro) <;> clear hK K <;> try first | (show chkD _ _ = true; kernel_rfl) | omega | rfl | (simp; done) | (simp; omega)
  refine awp_block ?_
  obtain ⟨U, hUd⟩ : ∃ U, U = tabOf u := ⟨_, rfl⟩
  obtain ⟨W, hWd⟩ : ∃ W, W = tabOf v := ⟨_, rfl⟩
  rw [← hUd, ← hWd] at hbi
  refine awp_loop (fun k : Nat => mkS [(2, .t 1 (rows u)), (3, .t 1 (ints images)), (4, .t 1 (ints ugens)), (5, .t 1 (rows v)), (6, .t 1 (ints uimages)), (22, .own 0 u.length), (24, .own 1 (iniB (nat_ ugens) (nat_ uimages) k).2.length), (70, .t 1 (ints ugens)), (71, .t 2 (.int .i64 ugens.length)), (72, .t 2 (.int .i64 k))] [(0, ofO 2 u.length (iniB (nat_ ugens) (nat_ uimages) k).1), (1, paO 2 (iniB (nat_ ugens) (nat_ uimages) k).2)] 2 160 [.any, .any, .any, .any, .any, .any, .any]) (fun k => k ≤ ugens.length) (fun k => ugens.length - k) ?_ ?_
  · refine ⟨0, by omega, ?_⟩
    refine wk_list [(0, some 0), (1, none)] rfl ?_ ?_ ?_ ?_
    all_goals try simp [ints, rows, ofO, paO, iniB, nsT]
    exact tab_congr fun i hi => by rw [if_pos hi]
  intro k hk
  refine awp_seqR (fun K hK => ?_)
  simp (maxSteps := 2000000) (disch := omega) [ints, rows, scal, wr64, wr8]
  (repeat' first | refine hK _ ?_ | apply And.intro) <;> clear hK K <;> try first | (show chkD _ _ = true; kernel_rfl) | omega | rfl | (simp; done) | (simp; omega)
  refine awp_seq ?_
  by_cases hkl : k < ugens.length
  · obtain ⟨s0, hs0⟩ : ∃ s0, s0 = iniB (nat_ ugens) (nat_ uimages) k := ⟨_, rfl⟩
    have hok := (iniB_ok hbi k (by omega)).1
    have hng := iniB_neg (nat_ ugens) (nat_ uimages) k
    rw [← hs0] at hok hng
    have hqn := hok.len
    obtain ⟨g1, g2⟩ := gens_get ug hkl
    obtain ⟨g3, g4⟩ := in_get hin2 (i := k) (by omega)
    have hk2 : k < uimages.length := by omega
    have hs1 : iniB (nat_ ugens) (nat_ uimages) (k + 1) = putC s0 (nat_ ugens k) (nat_ uimages k) := by rw [hs0]; rfl
    rw [← hs0]
    refine awp_cond (b := true) (p := 2) (by simp [scal, hkl] <;> omega) ?_
    refine awp_skip ?_
    show awp _ _ _ _
    refine awp_seq ?_
    refine awp_block ?_
    refine awp_seqR (fun K hK => ?_)
    simp (maxSteps := 2000000) (disch := omega) [ints, rows, scal, wr64, wr8, hkl, g1]
    (repeat' first | refine hK _ ?_ | apply And.intro) <;> clear hK K <;> try first | (show chkD _ _ = true; kernel_rfl) | omega | rfl | (simp; done) | (simp; omega)
    refine awp_seqR (fun K hK => ?_)
    simp (maxSteps := 2000000) (disch := omega) [ints, rows, scal, wr64, wr8, ofO, g2]
    (repeat' first | refine hK _ ?_ | apply And.intro) <;> clear hK K <;> try first | (show chkD _ _ = true; kernel_rfl) | omega | rfl | (simp; done) | (simp; omega)
    by_cases hneg : s0.1 (nat_ ugens k) = -1
    · rw [putC_new (by omega)] at hs1
      refine awp_cond (b := true) (p := 2) (by simp [scal, hneg] <;> omega) ?_
      refine awp_seqR (fun K hK => ?_)
      simp (maxSteps := 2000000) (disch := omega) [ints, rows, scal, wr64, wr8, hk2, g3, ofO, g2]
      (repeat' first | refine hK _ ?_ | apply And.intro) <;> clear hK K <;> try first | (show chkD _ _ = true; kernel_rfl) | omega | rfl | (simp; done) | (simp; omega)
      refine awp_R (fun K hK => ?_)
      simp (maxSteps := 2000000) (disch := omega) [ints, rows, scal, wr64, wr8, paO]
      (repeat' first | refine hK _ ?_ | apply And.intro) <;> clear hK K <;> try first | (show chkD _ _ = true; kernel_rfl) | omega | rfl | (simp; done) | (simp; omega)
      show awp _ _ _ _
      refine awp_R (fun K hK => ?_)
      simp (maxSteps := 2000000) (disch := omega) [ints, rows, scal, wr64, wr8]
      (repeat' first | refine hK _ ?_ | apply And.intro) <;> clear hK K <;> try first | (show chkD _ _ = true; kernel_rfl) | omega | rfl | (simp; done) | (simp; omega)
      refine ⟨k + 1, by omega, by omega, ?_⟩
      rw [hs1]
      refine wk_list [(0, some 0), (1, some 1)] rfl ?_ ?_ ?_ ?_
      all_goals try simp [ints, rows, ofO, paO, tab_set, Go.Proofs.Ytgghmjnbkbiffaa.upd, nsT_app]
      exact ⟨tab_congr fun i hi => by split <;> rfl, rfl⟩
    · rw [putC_old (by rcases hng (nat_ ugens k) with h | h <;> omega)] at hs1
      refine awp_cond (b := false) (p := 2) (by simp [scal, hneg] <;> omega) ?_
      refine awp_skip ?_
      show awp _ _ _ _
      refine awp_R (fun K hK => ?_)
      simp (maxSteps := 2000000) (disch := omega) [ints, rows, scal, wr64, wr8]
      (repeat' first | refine hK _ ?_ | apply And.intro) <;> clear hK K <;> try first | (show chkD _ _ = true; kernel_rfl) | omega | rfl | (simp; done) | (simp; omega)
      refine ⟨k + 1, by omega, by omega, ?_⟩
      rw [hs1]
      refine wk_list [(0, some 0), (1, some 1)] rfl ?_ ?_ ?_ ?_
      all_goals try simp [ints, rows, ofO, paO]
  obtain rfl : k = ugens.length := by omega
  refine awp_cond (b := false) (p := 2) (by simp [scal] <;> omega) ?_
  refine awp_exit ?_
  show awp _ _ _ _
  refine awp_seq ?_
  refine awp_seqR (fun K hK => ?_)
  simp (maxSteps := 2000000) (disch := omega) [ints, rows, scal, wr64, wr8]
  (repeat' first | refine hK _ ?_ | apply And.intro) <;> clear hK K <;> try first | (show chkD _ _ = true; kernel_rfl) | omega | rfl | (simp; done) | (simp; omega)
  refine awp_block ?_
  obtain ⟨B, hB⟩ : ∃ B : Nat → BSt, B = bfsB U W (nat_ ugens) (nat_ uimages) ugens.length := ⟨_, rfl⟩
  have hB0 : iniB (nat_ ugens) (nat_ uimages) ugens.length = B 0 := by rw [hB]; rfl
  rw [hB0]
  refine awp_loop (fun i : Nat => mkS [(2, .t 1 (rows u)), (3, .t 1 (ints images)), (4, .t 1 (ints ugens)), (5, .t 1 (rows v)), (6, .t 1 (ints uimages)), (22, .own 0 u.length), (24, .own 1 (B i).2.length), (27, .t 2 (.int .i64 i))] [(0, ofO 2 u.length (B i).1), (1, paO 2 (B i).2)] 2 160 [.any, .any, .any, .any, .any, .any, .any]) (fun i => i ≤ (B i).2.length ∧ ∀ n, n < i → n < (B n).2.length) (fun i => u.length - i) ?_ ?_
  · refine ⟨0, ⟨by omega, fun n hn => by omega⟩, ?_⟩
    refine wk_list [(0, some 0), (1, some 1)] rfl ?_ ?_ ?_ ?_
    all_goals try simp [ints, rows, ofO, paO]
  rintro i ⟨hi1, hi2⟩
  have hok := (bfsB_ok hbi i (by rw [← hB]; exact hi2)).1
  have hng := bfsB_neg U W (nat_ ugens) (nat_ uimages) ugens.length i
  rw [← hB] at hok hng
  have hql := hok.len
  refine awp_seq ?_
  refine awp_seqR (fun K hK => ?_)
  simp (maxSteps := 2000000) (disch := omega) [ints, rows, scal, wr64, wr8, paO]
  (repeat' first | refine hK _ ?_ | apply And.intro) <;> clear hK K <;> try first | (show chkD _ _ = true; kernel_rfl) | omega | rfl | (simp; done) | (simp; omega)
  by_cases hil : i < (B i).2.length
  · obtain ⟨y, hy⟩ : ∃ y, y = nthx (B i).2 i := ⟨_, rfl⟩
    have hyq : y ∈ (B i).2 := by rw [hy]; exact nthx_mem hil
    have hym := hok.lt y hyq
    have hy0 := (hok.mem y hym).2 hyq
    obtain ⟨fy, hfy⟩ : ∃ fy : Nat, (B i).1 y = (fy : Int) := ⟨((B i).1 y).toNat, by omega⟩
    have hfp : fy < v.length := by have := hok.val y hym; omega
    have hBi : B (i + 1) = innB U W (nat_ ugens) (nat_ uimages) (B i) y ugens.length := by rw [hy, hB]; rfl
    have hq1 : (nsT (B i).2)[i]? = some (.int .i64 (y : Int)) := by rw [nsT_get hil, hy, nth_get hil]
    have hq1' : ∀ h, (nsT (B i).2)[i]'h = .int .i64 (y : Int) := fun h => (List.getElem?_eq_some_iff.1 hq1).2
    refine awp_cond (b := true) (p := 2) (by simp [scal, hil] <;> omega) ?_
    refine awp_skip ?_
    show awp _ _ _ _
    refine awp_seq ?_
    refine awp_block ?_
    refine awp_seqR (fun K hK => ?_)
    simp (maxSteps := 2000000) (disch := omega) [ints, rows, scal, wr64, wr8, paO, hq1, hq1', hil]
    (repeat' first | refine hK _ ?_ | apply And.intro) <;> clear hK K <;> try first | (show chkD _ _ = true; kernel_rfl) | omega | rfl | (simp; done) | (simp; omega)
    refine awp_seqR (fun K hK => ?_)
    simp (maxSteps := 2000000) (disch := omega) [ints, rows, scal, wr64, wr8]
    (repeat' first | refine hK _ ?_ | apply And.intro) <;> clear hK K <;> try first | (show chkD _ _ = true; kernel_rfl) | omega | rfl | (simp; done) | (simp; omega)
    refine awp_block ?_
    refine awp_loop (fun j : Nat => mkS [(2, .t 1 (rows u)), (3, .t 1 (ints images)), (4, .t 1 (ints ugens)), (5, .t 1 (rows v)), (6, .t 1 (ints uimages)), (22, .own 0 u.length), (24, .own 1 (innB U W (nat_ ugens) (nat_ uimages) (B i) y j).2.length), (27, .t 2 (.int .i64 i)), (28, .t 2 (.int .i64 y)), (105, .t 2 (.int .i64 ugens.length)), (106, .t 2 (.int .i64 j))] [(0, ofO 2 u.length (innB U W (nat_ ugens) (nat_ uimages) (B i) y j).1), (1, paO 2 (innB U W (nat_ ugens) (nat_ uimages) (B i) y j).2)] 2 160 [.any, .any, .any, .any, .any, .any, .any]) (fun j => j ≤ ugens.length) (fun j => ugens.length - j) ?_ ?_
    · refine ⟨0, by omega, ?_⟩
      refine wk_list [(0, some 0), (1, some 1)] rfl ?_ ?_ ?_ ?_
      all_goals try simp [ints, rows, ofO, paO, innB]
    intro j hj
    obtain ⟨hok2, hex, -⟩ := innB_ok hbi hok hym hy0 j hj
    have hng2 := innB_neg (U := U) (V := W) (ug := nat_ ugens) (ui := nat_ uimages) hng y j
    obtain ⟨s2, hs2⟩ : ∃ s2, s2 = innB U W (nat_ ugens) (nat_ uimages) (B i) y j := ⟨_, rfl⟩
    rw [← hs2] at hok2 hex hng2
    rw [← hs2]
    have hql2 := hok2.len
    refine awp_seqR (fun K hK => ?_)
    simp (maxSteps := 2000000) (disch := omega) [ints, rows, scal, wr64, wr8]
    (repeat' first | refine hK _ ?_ | apply And.intro) <;> clear hK K <;> try first | (show chkD _ _ = true; kernel_rfl) | omega | rfl | (simp; done) | (simp; omega)
    refine awp_seq ?_
    by_cases hjl : j < ugens.length
    · obtain ⟨g1, g2⟩ := gens_get ug hjl
      obtain ⟨g3, g4⟩ := in_get hin2 (i := j) (by omega)
      have hk2 : j < uimages.length := by omega
      have hs2y : s2.1 y = (fy : Int) := by rw [hex.val y hy0, hfy]
      have q1 : nat_ ugens j < u[y].length := by rw [hu.row]; exact g2
      have q2 := hu.val y (nat_ ugens j) hym q1
      have q3 : nat_ uimages j < v[fy].length := by rw [hv.row]; exact g4
      have q4 := hv.val fy (nat_ uimages j) hfp q3
      rw [← hUd] at q2
      rw [← hWd] at q4
      have hUz := hbi.hU y (nat_ ugens j) hym g2
      have hs1 : innB U W (nat_ ugens) (nat_ uimages) (B i) y (j + 1) = putC s2 (U y (nat_ ugens j)) (W fy (nat_ uimages j) : Nat) := by
        rw [hs2]
        show putC _ _ _ = _
        rw [hfy]
        rfl
      refine awp_cond (b := true) (p := 2) (by simp [scal, hjl] <;> omega) ?_
      refine awp_skip ?_
      show awp _ _ _ _
      refine awp_seq ?_
      refine awp_block ?_
      refine awp_seqR (fun K hK => ?_)
      simp (maxSteps := 2000000) (disch := omega) [ints, rows, scal, wr64, wr8]
      (repeat' first | refine hK _ ?_ | apply And.intro) <;> clear hK K <;> try first | (show chkD _ _ = true; kernel_rfl) | omega | rfl | (simp; done) | (simp; omega)
      refine awp_seqD (by kernel_rfl) (fun K hK => ?_)
      simp (maxSteps := 2000000) (disch := omega) [ints, rows, scal, wr64, wr8, hym, hjl, g1, q1, q2]
      (repeat' first | refine hK _ ?_ | apply And.intro) <;> clear hK K <;> try first | (show chkD _ _ = true; kernel_rfl) | omega | rfl | (simp; done) | (simp; omega)
      refine awp_seqR (fun K hK => ?_)
      simp (maxSteps := 2000000) (disch := omega) [ints, rows, scal, wr64, wr8, ofO, hUz]
      (repeat' first | refine hK _ ?_ | apply And.intro) <;> clear hK K <;> try first | (show chkD _ _ = true; kernel_rfl) | omega | rfl | (simp; done) | (simp; omega)
      by_cases hneg : s2.1 (U y (nat_ ugens j)) = -1
      · rw [putC_new (by omega)] at hs1
        refine awp_cond (b := true) (p := 2) (by simp [scal, hneg] <;> omega) ?_
        refine awp_seqD (by kernel_rfl) (fun K hK => ?_)
        simp (maxSteps := 2000000) (disch := omega) [ints, rows, scal, wr64, wr8, ofO, hym, hs2y, hfp, hk2, g3, q3, q4, hUz]
        (repeat' first | refine hK _ ?_ | apply And.intro) <;> clear hK K <;> try first | (show chkD _ _ = true; kernel_rfl) | omega | rfl | (simp; done) | (simp; omega)
        refine awp_R (fun K hK => ?_)
        simp (maxSteps := 2000000) (disch := omega) [ints, rows, scal, wr64, wr8, paO]
        (repeat' first | refine hK _ ?_ | apply And.intro) <;> clear hK K <;> try first | (show chkD _ _ = true; kernel_rfl) | omega | rfl | (simp; done) | (simp; omega)
        show awp _ _ _ _
        refine awp_R (fun K hK => ?_)
        simp (maxSteps := 2000000) (disch := omega) [ints, rows, scal, wr64, wr8]
        (repeat' first | refine hK _ ?_ | apply And.intro) <;> clear hK K <;> try first | (show chkD _ _ = true; kernel_rfl) | omega | rfl | (simp; done) | (simp; omega)
        refine ⟨j + 1, by omega, by omega, ?_⟩
        rw [hs1]
        refine wk_list [(0, some 0), (1, some 1)] rfl ?_ ?_ ?_ ?_
        all_goals try simp [ints, rows, ofO, paO, tab_set, Go.Proofs.Ytgghmjnbkbiffaa.upd, nsT_app]
        exact ⟨tab_congr fun i hi => by split <;> rfl, rfl⟩
      · rw [putC_old (by rcases hng2 (U y (nat_ ugens j)) with h | h <;> omega)] at hs1
        refine awp_cond (b := false) (p := 2) (by simp [scal, hneg] <;> omega) ?_
        refine awp_skip ?_
        show awp _ _ _ _
        refine awp_R (fun K hK => ?_)
        simp (maxSteps := 2000000) (disch := omega) [ints, rows, scal, wr64, wr8]
        (repeat' first | refine hK _ ?_ | apply And.intro) <;> clear hK K <;> try first | (show chkD _ _ = true; kernel_rfl) | omega | rfl | (simp; done) | (simp; omega)
        refine ⟨j + 1, by omega, by omega, ?_⟩
        rw [hs1]
        refine wk_list [(0, some 0), (1, some 1)] rfl ?_ ?_ ?_ ?_
        all_goals try simp [ints, rows, ofO, paO]
    obtain rfl : j = ugens.length := by omega
    refine awp_cond (b := false) (p := 2) (by simp [scal] <;> omega) ?_
    refine awp_exit ?_
    show awp _ _ _ _
    refine awp_R (fun K hK => ?_)
    simp (maxSteps := 2000000) (disch := omega) [ints, rows, scal, wr64, wr8]
    (repeat' first | refine hK _ ?_ | apply And.intro) <;> clear hK K <;> try first | (show chkD _ _ = true; kernel_rfl) | omega | rfl | (simp; done) | (simp; omega)
    refine ⟨i + 1, ⟨by rw [hBi, ← hs2]; have := hex.len; omega, fun n hn => ?_⟩, by omega, ?_⟩
    · by_cases e : n = i
      · rw [e]; exact hil
      · exact hi2 n (by omega)
    · rw [hBi, ← hs2]
      refine wk_list [(0, some 0), (1, some 1)] rfl ?_ ?_ ?_ ?_
      all_goals try simp [ints, rows, ofO, paO]
  have hend : (B i).2.length = i := by omega
  obtain ⟨F, hF⟩ : ∃ F, F = (B i).1 := ⟨_, rfl⟩
  have hbend : BEnd (tabOf u) (tabOf v) (nat_ ugens) (nat_ uimages) ugens.length i := by
    rw [← hUd, ← hWd]
    exact ⟨by rw [← hB]; exact hend, fun n hn => by rw [← hB]; exact hi2 n hn⟩
  have hFe : F = (bfsB (tabOf u) (tabOf v) (nat_ ugens) (nat_ uimages) ugens.length i).1 := by rw [hF, hB, hUd, hWd]
  rw [← hF]
  refine awp_cond (b := false) (p := 2) (by simp [scal, hil] <;> omega) ?_
  refine awp_exit ?_
  show awp _ _ _ _
  refine awp_seqR (fun K hK => ?_)
  simp (maxSteps := 2000000) (disch := omega) [ints, rows, scal, wr64, wr8]
  (repeat' first | refine hK _ ?_ | apply And.intro) <;> clear hK K <;> try first | (show chkD _ _ = true; kernel_rfl) | omega | rfl | (simp; done) | (simp; omega)
  refine awp_seq ?_
  refine awp_seqR (fun K hK => ?_)
  simp (maxSteps := 2000000) (disch := omega) [ints, rows, scal, wr64, wr8]
  (repeat' first | refine hK _ ?_ | apply And.intro) <;> clear hK K <;> try first | (show chkD _ _ = true; kernel_rfl) | omega | rfl | (simp; done) | (simp; omega)
  refine awp_block ?_
  refine awp_loop (fun k : Nat => mkS [(22, .own 0 u.length), (31, .own 2 k), (145, .t 1 (ints images)), (146, .t 2 (.int .i64 images.length)), (147, .t 2 (.int .i64 k))] [(0, ofO 2 u.length F), (2, .row 3 1 2 (tab k fun j => .int .i64 (F (nat_ images j))))] 3 160 [.any, .any, .any, .any, .any, .any, .any]) (fun k => k ≤ images.length) (fun k => images.length - k) ?_ ?_
  · refine ⟨0, by omega, ?_⟩
    refine wk_list [(0, some 0), (2, none)] rfl ?_ ?_ ?_ ?_
    all_goals try simp [ints, rows, ofO]
  intro k hk
  refine awp_seqR (fun K hK => ?_)
  simp (maxSteps := 2000000) (disch := omega) [ints, rows, scal, wr64, wr8]
  (repeat' first | refine hK _ ?_ | apply And.intro) <;> clear hK K <;> try first | (show chkD _ _ = true; kernel_rfl) | omega | rfl | (simp; done) | (simp; omega)
  refine awp_seq ?_
  by_cases hkl : k < images.length
  · obtain ⟨g1, g2⟩ := in_get hin hkl
    refine awp_cond (b := true) (p := 2) (by simp [scal, hkl] <;> omega) ?_
    refine awp_skip ?_
    show awp _ _ _ _
    refine awp_seq ?_
    refine awp_block ?_
    refine awp_seqR (fun K hK => ?_)
    simp (maxSteps := 2000000) (disch := omega) [ints, rows, scal, wr64, wr8, hkl, g1]
    (repeat' first | refine hK _ ?_ | apply And.intro) <;> clear hK K <;> try first | (show chkD _ _ = true; kernel_rfl) | omega | rfl | (simp; done) | (simp; omega)
    refine awp_R (fun K hK => ?_)
    simp (maxSteps := 2000000) (disch := omega) [ints, rows, scal, wr64, wr8, ofO, g2]
    (repeat' first | refine hK _ ?_ | apply And.intro) <;> clear hK K <;> try first | (show chkD _ _ = true; kernel_rfl) | omega | rfl | (simp; done) | (simp; omega)
    show awp _ _ _ _
    refine awp_R (fun K hK => ?_)
    simp (maxSteps := 2000000) (disch := omega) [ints, rows, scal, wr64, wr8]
    (repeat' first | refine hK _ ?_ | apply And.intro) <;> clear hK K <;> try first | (show chkD _ _ = true; kernel_rfl) | omega | rfl | (simp; done) | (simp; omega)
    refine ⟨k + 1, by omega, by omega, ?_⟩
    refine wk_list [(0, some 0), (2, some 2)] rfl ?_ ?_ ?_ ?_
    all_goals try simp [ints, rows, ofO, tab_succ]
  obtain rfl : k = images.length := by omega
  refine awp_cond (b := false) (p := 2) (by simp [scal] <;> omega) ?_
  refine awp_exit ?_
  show awp _ _ _ _
  refine awp_seqR (fun K hK => ?_)
  simp (maxSteps := 2000000) (disch := omega) [ints, rows, scal, wr64, wr8]
  (repeat' first | refine hK _ ?_ | apply And.intro) <;> clear hK K <;> try first | (show chkD _ _ = true; kernel_rfl) | omega | rfl | (simp; done) | (simp; omega)
  refine awp_ret ?_
  refine ⟨_, ⟨_, 0, .inr (.inr ⟨h0, h02, rfl, i, hbend, rfl⟩), rfl⟩, ?_⟩
  rw [← hFe]
  refine ⟨⟨.inr rfl, _, [], rfl, trivial, trivial, by simp [compT, ints], ?_⟩, by simp [compT, ints]⟩
  simp [compT, ints]
  apply List.ext_getElem (by simp)
  intro j h1 h2
  have hj : j < images.length := by simpa using h1
  rw [tab_elem]
  simp [nat_, nth_get hj]
/-- Both answer the same. -/
theorem composes_fn (t : List (List Int)) (gens : List Int) (u : List (List Int)) (images ugens : List Int) (v : List (List Int)) (uimages : List Int) (v1 : vErr t = 0) (vg : gensB t gens = true) (v2 : vErr u = 0) (ug : gensB u ugens = true) (v3 : vErr v = 0) (hl : images.length = gens.length) (hin : inB u.length images = true) (hl2 : uimages.length = ugens.length) (hin2 : inB v.length uimages = true) (hg1 : gens.length ≤ 1000) (hg2 : ugens.length ≤ 1000) :
    ∃ r e, CompG t gens u images ugens v uimages r e ∧ FnA Try.prog 50 [.t 1 (rows t), .t 1 (ints gens), .t 1 (rows u), .t 1 (ints images), .t 1 (ints ugens), .t 1 (rows v), .t 1 (ints uimages)] (compU r e) ∧
      FnA Try.prog 51 [.t 1 (rows t), .t 1 (ints gens), .t 1 (rows u), .t 1 (ints images), .t 1 (ints ugens), .t 1 (rows v), .t 1 (ints uimages)] (compU r e) := by
  obtain ⟨res, ⟨r, e, h1, rfl⟩, h2⟩ := compose_fn23 t gens u images ugens v uimages v1 vg v2 ug v3 hl hin hl2 hin2 hg1 hg2
  obtain ⟨res, ⟨r', e', h3, rfl⟩, h4⟩ := refCompose_fn0 t gens u images ugens v uimages v1 vg v2 ug v3 hl hin hl2 hin2 hg1 hg2
  obtain ⟨rfl, rfl⟩ := h1.uniq h3
  exact ⟨r, e, h1, FnS.res h2 (fun E v hv => compT_U h1.nil hv), FnS.res h4 (fun E v hv => compT_U h1.nil hv)⟩
end Go.Proofs.Ytgghmjnbkbiffaa.M

namespace Go.Proofs.Ytgghmjnbkbiffaa.M
open Go.RowKit
set_option linter.unusedVariables false
set_option linter.unusedSimpArgs false

theorem closed_all {t : List (List Int)} {gens : List Int} {made : List Nat} (hlt : ∀ x, x ∈ made → x < lnx t) (ha : Assoc (lnx t) (tabOf t)) (hT : ∀ r c, r < lnx t → c < lnx t → tabOf t r c < lnx t) (hb : ∀ i, i < lnx gens → nat_ gens i ∈ made) (hc : ∀ x, x ∈ made → ∀ i, i < lnx gens → tabOf t x (nat_ gens i) ∈ made) {y : Nat} (hy : Gen (lnx t) (tabOf t) gens y) :
    y ∈ made ∧ ∀ x, x ∈ made → tabOf t x y ∈ made := by
  induction hy with
  | @base x i hi e hx =>
    have : nat_ gens i = x := by unfold nat_; rw [e]; exact Int.toNat_natCast _
    rw [← this]
    exact ⟨hb i hi, fun x hx => hc x hx i hi⟩
  | mul h1 h2 e1 e2 =>
    refine ⟨e2.2 _ e1.1, fun x hx => ?_⟩
    rw [← ha x _ _ (hlt x hx) (h1.lt hT) (h2.lt hT)]
    exact e2.2 _ (e1.2 x hx)
/-- The composition of two divisions is one. -/
theorem comp_ok {t u v : List (List Int)} {gens images ugens uimages r : List Int} {e : Int} (v1 : vErr t = 0) (vg : gensB t gens = true) (v2 : vErr u = 0) (ug : gensB u ugens = true) (v3 : vErr v = 0) (hl : images.length = gens.length) (hin : inB u.length images = true) (hl2 : uimages.length = ugens.length) (hin2 : inB v.length uimages = true) (h : CompG t gens u images ugens v uimages r e) (he : e = 0) : dvErr t gens v r = 0 := by
  have hu := TbL.of v2
  have hv := TbL.of v3
  have ht := TbL.of v1
  have hbi := bin_of v2 ug v3 hl2 hin2
  rcases h with ⟨_, _, h⟩ | ⟨_, _, _, h⟩ | ⟨h1, h2, _, N, hend, rfl⟩
  · omega
  · omega
  have f1 : DvFun (tabOf t) (tabOf u) (gpairs gens images (lnx gens)) := by
    rcases dvErr_cases v1 vg v2 hl hin with ⟨_, h⟩ | h
    · exact h
    · omega
  have f2 : DvFun (tabOf u) (tabOf v) (gpairs ugens uimages (lnx ugens)) := by
    rcases dvErr_cases v2 ug v3 hl2 hin2 with ⟨_, h⟩ | h
    · exact h
    · omega
  obtain ⟨s, hs⟩ : ∃ s, s = bfsB (tabOf u) (tabOf v) (nat_ ugens) (nat_ uimages) ugens.length N := ⟨_, rfl⟩
  obtain ⟨hok, hgi, hcl⟩ := bfsB_ok hbi N hend.2
  have hlen := hend.1
  rw [← hs] at hok hgi hcl hlen ⊢
  have hall : ∀ y, y < u.length → y ∈ s.2 := fun y hy => (closed_all hok.lt (vErr_asc v2) hu.lt hgi (fun x hx i hi => by
    obtain ⟨n, hn, rfl⟩ := mem_nthx hx
    simp only [lnx] at hn hi
    exact hcl n (by omega) i hi) ((gensB_inv ug).2 y hy)).1
  have hF : ∀ y, y < u.length → 0 ≤ s.1 y ∧ s.1 y < (v.length : Int) ∧ relB u ugens v uimages (s.1 y).toNat y := fun y hy => by
    have h0 := (hok.mem y hy).2 (hall y hy)
    exact ⟨h0, hok.val y hy, hok.rel y hy h0⟩
  have hr : ∀ i, i < gens.length → nat_ images i < u.length ∧ nthx (images.map fun y => s.1 y.toNat) i = s.1 (nat_ images i) := fun i hi => by
    have hi2 : i < images.length := by omega
    refine ⟨(in_get hin hi2).2, ?_⟩
    simp [nthx, nat_, hi2]
  have hS2 : ∀ p, p ∈ gpairs ugens uimages (lnx ugens) → p.1 < u.length ∧ p.2 < v.length := (occursG v2 ug v3 hl2 hin2).1
  refine dvErr_0 v1 vg v3 (by simpa [lnx] using hl) (inB_t fun i hi => ?_) (fun z x x' hz hz' => ?_)
  · have hi : i < gens.length := by simp only [lnx, List.length_map] at hi; omega
    obtain ⟨a1, a2⟩ := hr i hi
    rw [a2]
    exact ⟨(hF _ a1).1, (hF _ a1).2.1⟩
  · have key : ∀ z x, DvR (tabOf t) (tabOf v) (gpairs gens (images.map fun y => s.1 y.toNat) (lnx gens)) z x → ∃ y, DvR (tabOf t) (tabOf u) (gpairs gens images (lnx gens)) y x ∧ relB u ugens v uimages z y := fun z x h => by
      have hne : ∀ i, i < gens.length → nat_ (images.map fun y => s.1 y.toNat) i = (s.1 (nat_ images i)).toNat := fun i hi => by
        have := (hr i hi).2
        unfold nat_ at this ⊢
        rw [this]
      induction h with
      | base hp =>
        obtain ⟨i, hi, rfl⟩ := gpairs_mem.1 hp
        simp only
        rw [hne i hi]
        exact ⟨nat_ images i, .base (p := (nat_ gens i, nat_ images i)) (gpairs_mem.2 ⟨i, hi, rfl⟩), (hF _ (hr i hi).1).2.2⟩
      | step _ hp ih =>
        obtain ⟨i, hi, rfl⟩ := gpairs_mem.1 hp
        obtain ⟨y, hy1, hy2⟩ := ih
        simp only
        rw [hne i hi]
        exact ⟨_, .step (p := (nat_ gens i, nat_ images i)) hy1 (gpairs_mem.2 ⟨i, hi, rfl⟩), DvR.mul hS2 hu.lt hv.lt (vErr_asc v2) (vErr_asc v3) hy2 (hF _ (hr i hi).1).2.2⟩
    obtain ⟨y, a1, a2⟩ := key z x hz
    obtain ⟨y', b1, b2⟩ := key z x' hz'
    have : y = y' := f2 _ _ _ a2 b2
    subst this
    exact f1 _ _ _ a1 b1
set_option maxRecDepth 100000 in
set_option maxHeartbeats 8000000 in
theorem divideComposes_fn (l : List Int) : FnA Try.prog 15 [.t 1 (ints l)] (.t 2 (.bool true)) := by
  have hnew := new_fn l
  obtain ⟨xs, hxs⟩ : ∃ xs, xs = l.take 80 := ⟨_, rfl⟩
  have hl : xs.length ≤ 80 := by rw [hxs]; simp; omega
  rw [← hxs] at hnew
  obtain ⟨res1, H1, ⟨tb, gens, b1, hG, hb1, rfl, rfl⟩, hT1⟩ := table23_fn xs 0 1 (by omega) hl (by omega)
  obtain ⟨res2, H2, ⟨u0, ugens0, b2, hG2, hb2, rfl, rfl⟩, hT2⟩ := table23_fn xs b1 1 hb1 hl (by omega)
  obtain ⟨w3, b3, hw3, hb3, hN3⟩ := next_fn xs b2 2 hb2 hl (by omega)
  have hw3 := hw3 (by omega)
  obtain ⟨res4, H4, ⟨v0, vgens0, b4, hG4, hb4, rfl, rfl⟩, hT4⟩ := table23_fn xs b3 (1 + w3) hb3 hl (by omega)
  obtain ⟨ok1, ok2, ok3, ok4, ok5, ok6⟩ := hG.ok
  obtain ⟨uk1, uk2, uk3, uk4, uk5, uk6⟩ := hG2.ok
  obtain ⟨vk1, vk2, vk3, vk4, vk5, vk6⟩ := hG4.ok
  obtain ⟨res5, H5, ⟨im, b5, him, hir, hb5, rfl, rfl⟩, hI5⟩ := images23_fn xs b4 gens.length u0 hb4 hl (by omega) (by omega) (by omega)
  obtain ⟨res6, H6, ⟨im2, b6, him2, hir2, hb6, rfl, rfl⟩, hI6⟩ := images23_fn xs b5 ugens0.length v0 hb5 hl (by omega) (by omega) (by omega)
  obtain ⟨w7, b7, -, hb7, hN7⟩ := next_fn xs b6 2 hb6 hl (by omega)
  obtain ⟨res8, H8, ⟨im3, b8, him3, hir3, hb8, rfl, rfl⟩, hI8⟩ := images23_fn xs b7 gens.length v0 hb7 hl (by omega) (by omega) (by omega)
  clear hG hG2 hG4
  refine fn_intro Try.func15 rfl (by simp [Try.f15]) ?_
  rw [show Try.f15.ntmps = 119 from rfl, show Try.f15.results = #[.tmp 2] from rfl]
  refine awp_seqR (fun K hK => ?_)
  simp (maxSteps := 2000000) (disch := omega) [ints, rows, scal, wr64, wr8]
  (repeat' first | refine hK _ ?_ | apply And.intro) <;> clear hK K <;> try first | (show chkD _ _ = true; kernel_rfl) | omega | rfl | (simp; done) | (simp; omega)
  refine awp_seqR (fun K hK => ?_)
  simp (maxSteps := 2000000) (disch := omega) [ints, rows, scal, wr64, wr8]
  (repeat' apply And.intro)
  all_goals (try omega)
  refine call_rule (caps := []) (hnew) [] [2000000] 1 rfl rfl rfl rfl (by kernel_rfl) (by simp) ?_ ?_ (by simp) rfl (by simp) ⟨.inl ⟨by omega, by omega⟩, trivial⟩ (by simp [tpO]) ?_
  · simp [scal, rows, ints, tpO]
  · trivial
  simp (maxSteps := 2000000) (disch := omega) [ints, rows, scal, wr64, wr8, tpO]
  (repeat' first | refine hK _ ?_ | apply And.intro) <;> clear hK K <;> try first | (show chkD _ _ = true; kernel_rfl) | omega | rfl | (simp; done) | (simp; omega)
  refine awp_weak (σ' := mkS [(3, .ptr 0 0 2)] [(0, tpO 1 xs 0)] 1 119 [.any]) ?_ ?_
  · refine wk_list [(0, some 2000000)] rfl ?_ ?_ ?_ ?_
    all_goals try simp [ints, tpO, scal]
  refine awp_seqR (fun K hK => ?_)
  simp (maxSteps := 2000000) (disch := omega) [ints, rows, scal, wr64, wr8]
  (repeat' apply And.intro)
  all_goals (try omega)
  refine call_rule (caps := []) (hT1) [0] [0] 1 rfl rfl rfl rfl (by kernel_rfl) (by simp) ?_ ?_ (by simp) rfl (by simp) ⟨.inr ⟨rfl, 0, _, _, _, _, _, rfl, rfl, rfl, rfl, rfl⟩, trivial⟩ (by simp [tpO]) ?_
  · simp [scal, rows, ints, tpO]
  · simp [scal, rows, ints, tpO]
  simp (maxSteps := 2000000) (disch := omega) [ints, rows, scal, wr64, wr8, tpO]
  (repeat' first | refine hK _ ?_ | apply And.intro) <;> clear hK K <;> try first | (show chkD _ _ = true; kernel_rfl) | omega | rfl | (simp; done) | (simp; omega)
  refine awp_seqR (fun K hK => ?_)
  simp (maxSteps := 2000000) (disch := omega) [ints, rows, scal, wr64, wr8]
  (repeat' apply And.intro)
  all_goals (try omega)
  refine call_rule (caps := []) (hT2) [0] [0] 1 rfl rfl rfl rfl (by kernel_rfl) (by simp) ?_ ?_ (by simp) rfl (by simp) ⟨.inr ⟨rfl, 0, _, _, _, _, _, rfl, rfl, rfl, rfl, rfl⟩, trivial⟩ (by simp [tpO]) ?_
  · simp [scal, rows, ints, tpO]
  · simp [scal, rows, ints, tpO]
  simp (maxSteps := 2000000) (disch := omega) [ints, rows, scal, wr64, wr8, tpO]
  (repeat' first | refine hK _ ?_ | apply And.intro) <;> clear hK K <;> try first | (show chkD _ _ = true; kernel_rfl) | omega | rfl | (simp; done) | (simp; omega)
  refine awp_seqR (fun K hK => ?_)
  simp (maxSteps := 2000000) (disch := omega) [ints, rows, scal, wr64, wr8]
  (repeat' apply And.intro)
  all_goals (try omega)
  refine call_rule (caps := []) (hN3) [0] [0] 1 rfl rfl rfl rfl (by kernel_rfl) (by simp) ?_ ?_ (by simp) rfl (by simp) ⟨.inr ⟨rfl, 0, _, _, _, _, _, rfl, rfl, rfl, rfl, rfl⟩, trivial⟩ (by simp [tpO]) ?_
  · simp [scal, rows, ints, tpO]
  · simp [scal, rows, ints, tpO]
  simp (maxSteps := 2000000) (disch := omega) [ints, rows, scal, wr64, wr8]
  (repeat' apply And.intro)
  all_goals (try omega)
  refine call_rule (caps := []) (hT4) [0] [0] 1 rfl rfl rfl rfl (by kernel_rfl) (by simp) ?_ ?_ (by simp) rfl (by simp) ⟨.inr ⟨rfl, 0, _, _, _, _, _, rfl, rfl, rfl, rfl, rfl⟩, trivial⟩ (by simp [tpO]) ?_
  · simp [scal, rows, ints, tpO]
  · simp [scal, rows, ints, tpO]
  simp (maxSteps := 2000000) (disch := omega) [ints, rows, scal, wr64, wr8, tpO]
  (repeat' first | refine hK _ ?_ | apply And.intro) <;> clear hK K <;> try first | (show chkD _ _ = true; kernel_rfl) | omega | rfl | (simp; done) | (simp; omega)
  refine awp_seq ?_
  by_cases hbig : 8 < u0.length ∨ 12 < v0.length
  · rcases hbig with h8 | h12
    · have d8 : (8 : Int) < (u0.length : Int) := by omega
      refine awp_seqR (fun K hK => ?_)
      simp (maxSteps := 2000000) (disch := omega) [ints, rows, scal, wr64, wr8, d8]
      (repeat' first | refine hK _ ?_ | apply And.intro) <;> clear hK K <;> try first | (show chkD _ _ = true; kernel_rfl) | omega | rfl | (simp; done) | (simp; omega)
      refine awp_cond (b := true) (p := 2) (by simp [scal, d8] <;> omega) ?_
      refine awp_seqR (fun K hK => ?_)
      simp (maxSteps := 2000000) (disch := omega) [ints, rows, scal, wr64, wr8]
      (repeat' apply And.intro)
      all_goals (try omega)
      refine call_rule (caps := []) (known23_fn) [] [] 2 rfl rfl rfl rfl (by kernel_rfl) (by simp) ?_ trivial trivial rfl trivial trivial (by simp) ?_
      · simp [scal, rows, ints]
      simp (maxSteps := 2000000) (disch := omega) [ints, rows, scal, wr64, wr8]
      (repeat' first | refine hK _ ?_ | apply And.intro) <;> clear hK K <;> try first | (show chkD _ _ = true; kernel_rfl) | omega | rfl | (simp; done) | (simp; omega)
      refine awp_ret ?_
      refine ⟨⟨.inr rfl, _, [], rfl, trivial, trivial, by simp, ?_⟩, by simp⟩
      simp
    · have d12 : (12 : Int) < (v0.length : Int) := by omega
      by_cases d8 : (8 : Int) < (u0.length : Int)
      all_goals
        refine awp_seqR (fun K hK => ?_)
        simp (maxSteps := 2000000) (disch := omega) [ints, rows, scal, wr64, wr8, d8, d12]
        (repeat' first | refine hK _ ?_ | apply And.intro) <;> clear hK K <;> try first | (show chkD _ _ = true; kernel_rfl) | omega | rfl | (simp; done) | (simp; omega)
        refine awp_cond (b := true) (p := 2) (by simp [scal, d8, d12] <;> omega) ?_
        refine awp_seqR (fun K hK => ?_)
        simp (maxSteps := 2000000) (disch := omega) [ints, rows, scal, wr64, wr8]
        (repeat' apply And.intro)
        all_goals (try omega)
        refine call_rule (caps := []) (known23_fn) [] [] 2 rfl rfl rfl rfl (by kernel_rfl) (by simp) ?_ trivial trivial rfl trivial trivial (by simp) ?_
        · simp [scal, rows, ints]
        simp (maxSteps := 2000000) (disch := omega) [ints, rows, scal, wr64, wr8]
        (repeat' first | refine hK _ ?_ | apply And.intro) <;> clear hK K <;> try first | (show chkD _ _ = true; kernel_rfl) | omega | rfl | (simp; done) | (simp; omega)
        refine awp_ret ?_
        refine ⟨⟨.inr rfl, _, [], rfl, trivial, trivial, by simp, ?_⟩, by simp⟩
        simp
  have h8 : ¬ (8 : Int) < (u0.length : Int) := fun h => hbig (.inl (by omega))
  have h12 : ¬ (12 : Int) < (v0.length : Int) := fun h => hbig (.inr (by omega))
  refine awp_seqR (fun K hK => ?_)
  simp (maxSteps := 2000000) (disch := omega) [ints, rows, scal, wr64, wr8, h8, h12]
  (repeat' first | refine hK _ ?_ | apply And.intro) <;> clear hK K <;> try first | (show chkD _ _ = true; kernel_rfl) | omega | rfl | (simp; done) | (simp; omega)
  refine awp_cond (b := false) (p := 2) (by simp [scal, h8, h12] <;> omega) ?_
  refine awp_skip ?_
  show awp _ _ _ _
  refine awp_seqR (fun K hK => ?_)
  simp (maxSteps := 2000000) (disch := omega) [ints, rows, scal, wr64, wr8]
  (repeat' apply And.intro)
  all_goals (try omega)
  refine call_rule (caps := []) (hI5) [0] [0] 1 rfl rfl rfl rfl (by kernel_rfl) (by simp) ?_ ?_ (by simp) rfl (by simp) ⟨.inr ⟨rfl, 0, _, _, _, _, _, rfl, rfl, rfl, rfl, rfl⟩, trivial⟩ (by simp [tpO]) ?_
  · simp [scal, rows, ints, tpO]
  · simp [scal, rows, ints, tpO]
  simp (maxSteps := 2000000) (disch := omega) [ints, rows, scal, wr64, wr8, tpO]
  (repeat' apply And.intro)
  all_goals (try omega)
  refine call_rule (caps := []) (hI6) [0] [0] 1 rfl rfl rfl rfl (by kernel_rfl) (by simp) ?_ ?_ (by simp) rfl (by simp) ⟨.inr ⟨rfl, 0, _, _, _, _, _, rfl, rfl, rfl, rfl, rfl⟩, trivial⟩ (by simp [tpO]) ?_
  · simp [scal, rows, ints, tpO]
  · simp [scal, rows, ints, tpO]
  simp (maxSteps := 2000000) (disch := omega) [ints, rows, scal, wr64, wr8, tpO]
  (repeat' first | refine hK _ ?_ | apply And.intro) <;> clear hK K <;> try first | (show chkD _ _ = true; kernel_rfl) | omega | rfl | (simp; done) | (simp; omega)
  have hin0 : inB u0.length im = true := inB_t fun i hi => by rw [nth_get hi]; exact hir _ (List.getElem_mem hi)
  have hin2 : inB v0.length im2 = true := inB_t fun i hi => by rw [nth_get hi]; exact hir2 _ (List.getElem_mem hi)
  have hin3 : inB v0.length im3 = true := inB_t fun i hi => by rw [nth_get hi]; exact hir3 _ (List.getElem_mem hi)
  refine awp_seq (awp_mono (Q := fun e σ => e = Exit.normal ∧ ∃ u ugens f g a, (vErr u = 0 ∧ gensB u ugens = true ∧ u.length ≤ 27 ∧ 0 < ugens.length ∧ ugens.length ≤ 10 ∧ f.length = gens.length ∧ inB u.length f = true ∧ g.length = ugens.length ∧ inB v0.length g = true ∧ a ≤ xs.length) ∧ Wk σ (mkS [(3, .ptr 0 0 2), (4, .t 2 (rows tb)), (5, .t 2 (ints gens)), (6, .t 2 (rows u)), (7, .t 2 (ints ugens)), (8, .t 2 (rows v0)), (10, .t 2 (ints f)), (11, .t 2 (ints g))] [(0, tpO 1 xs a)] 1 119 [.any])) ?_ ?_)
  · refine awp_seqR (fun K hK => ?_)
    simp (maxSteps := 2000000) (disch := omega) [ints, rows, scal, wr64, wr8]
    (repeat' apply And.intro)
    all_goals (try omega)
    refine call_rule (caps := []) (hN7) [0] [0] 1 rfl rfl rfl rfl (by kernel_rfl) (by simp) ?_ ?_ (by simp) rfl (by simp) ⟨.inr ⟨rfl, 0, _, _, _, _, _, rfl, rfl, rfl, rfl, rfl⟩, trivial⟩ (by simp [tpO]) ?_
    · simp [scal, rows, ints, tpO]
    · simp [scal, rows, ints, tpO]
    simp (maxSteps := 2000000) (disch := omega) [ints, rows, scal, wr64, wr8, tpO]
    (repeat' first | refine hK _ ?_ | apply And.intro) <;> clear hK K <;> try first | (show chkD _ _ = true; kernel_rfl) | omega | rfl | (simp; done) | (simp; omega)
    by_cases hc : (w7 : Int) = 1
    · refine awp_cond (b := true) (p := 2) (by simp [scal, hc] <;> omega) ?_
      refine awp_seqR (fun K hK => ?_)
      simp (maxSteps := 2000000) (disch := omega) [ints, rows, scal, wr64, wr8]
      (repeat' first | refine hK _ ?_ | apply And.intro) <;> clear hK K <;> try first | (show chkD _ _ = true; kernel_rfl) | omega | rfl | (simp; done) | (simp; omega)
      refine awp_R (fun K hK => ?_)
      simp (maxSteps := 2000000) (disch := omega) [ints, rows, scal, wr64, wr8]
      (repeat' apply And.intro)
      all_goals (try omega)
      refine call_rule (caps := []) (hI8) [0] [0] 1 rfl rfl rfl rfl (by kernel_rfl) (by simp) ?_ ?_ (by simp) rfl (by simp) ⟨.inr ⟨rfl, 0, _, _, _, _, _, rfl, rfl, rfl, rfl, rfl⟩, trivial⟩ (by simp [tpO]) ?_
      · simp [scal, rows, ints, tpO]
      · simp [scal, rows, ints, tpO]
      simp (maxSteps := 2000000) (disch := omega) [ints, rows, scal, wr64, wr8, tpO]
      (repeat' first | refine hK _ ?_ | apply And.intro) <;> clear hK K <;> try first | (show chkD _ _ = true; kernel_rfl) | omega | rfl | (simp; done) | (simp; omega)
      refine ⟨tb, gens, gens, im3, b8, ⟨ok1, ok2, ok6, ok3, by omega, rfl, (gensB_inv ok2).1, him3, hin3, hb8⟩, ?_⟩
      refine wk_list [(0, some 0)] rfl ?_ ?_ ?_ ?_
      all_goals try simp [ints, rows, ints, tpO, scal]
    · refine awp_cond (b := false) (p := 2) (by simp [scal, hc] <;> omega) ?_
      refine awp_skip ?_
      refine ⟨rfl, u0, ugens0, im, im2, b7, ⟨uk1, uk2, uk6, uk3, by omega, him, hin0, him2, hin2, hb7⟩, ?_⟩
      refine wk_list [(0, some 0)] rfl ?_ ?_ ?_ ?_
      all_goals try simp [ints, rows, ints, tpO, scal]
  rintro e σ ⟨rfl, u, ugens, f, g, a, ⟨u1, u2, u3, u4, u5, f1, f2, g1, g2, ha⟩, hw⟩
  refine awp_weak hw ?_
  clear hw
  obtain ⟨w9, b9, -, hb9, hN9⟩ := next_fn xs a 2 ha hl (by omega)
  show awp _ _ _ _
  refine awp_seq (awp_mono (Q := fun e σ => e = Exit.normal ∧ ∃ v g, (vErr v = 0 ∧ v.length ≤ 27 ∧ g.length = ugens.length ∧ inB v.length g = true) ∧ Wk σ (mkS [(4, .t 2 (rows tb)), (5, .t 2 (ints gens)), (6, .t 2 (rows u)), (7, .t 2 (ints ugens)), (8, .t 2 (rows v)), (10, .t 2 (ints f)), (11, .t 2 (ints g))] [] 0 119 [.any])) ?_ ?_)
  · refine awp_seqR (fun K hK => ?_)
    simp (maxSteps := 2000000) (disch := omega) [ints, rows, scal, wr64, wr8]
    (repeat' apply And.intro)
    all_goals (try omega)
    refine call_rule (caps := []) (hN9) [0] [0] 1 rfl rfl rfl rfl (by kernel_rfl) (by simp) ?_ ?_ (by simp) rfl (by simp) ⟨.inr ⟨rfl, 0, _, _, _, _, _, rfl, rfl, rfl, rfl, rfl⟩, trivial⟩ (by simp [tpO]) ?_
    · simp [scal, rows, ints, tpO]
    · simp [scal, rows, ints, tpO]
    simp (maxSteps := 2000000) (disch := omega) [ints, rows, scal, wr64, wr8, tpO]
    (repeat' first | refine hK _ ?_ | apply And.intro) <;> clear hK K <;> try first | (show chkD _ _ = true; kernel_rfl) | omega | rfl | (simp; done) | (simp; omega)
    by_cases hc : (w9 : Int) = 1
    · refine awp_cond (b := true) (p := 2) (by simp [scal, hc] <;> omega) ?_
      refine awp_R (fun K hK => ?_)
      simp (maxSteps := 2000000) (disch := omega) [ints, rows, scal, wr64, wr8]
      (repeat' first | refine hK _ ?_ | apply And.intro) <;> clear hK K <;> try first | (show chkD _ _ = true; kernel_rfl) | omega | rfl | (simp; done) | (simp; omega)
      refine ⟨u, ugens, ⟨u1, u3, rfl, (gensB_inv u2).1⟩, ?_⟩
      refine wk_list [] rfl ?_ ?_ ?_ ?_
      all_goals try simp [ints, rows, ints]
    · refine awp_cond (b := false) (p := 2) (by simp [scal, hc] <;> omega) ?_
      refine awp_skip ?_
      refine ⟨rfl, v0, g, ⟨vk1, vk6, g1, g2⟩, ?_⟩
      refine wk_list [] rfl ?_ ?_ ?_ ?_
      all_goals try simp [ints, rows, ints]
  rintro e σ ⟨rfl, v, g, ⟨v1, v2, g1, g2⟩, hw⟩
  refine awp_weak hw ?_
  clear hw
  obtain ⟨r, e, hCG, hC1, hC2⟩ := composes_fn tb gens u f ugens v g ok1 ok2 u1 u2 v1 f1 f2 g1 g2 (by omega) (by omega)
  have hrl : r.length ≤ 1000000 := by
    rcases hCG with ⟨_, h, _⟩ | ⟨_, _, h, _⟩ | ⟨_, _, _, N, _, h⟩
    · rw [h]; simp
    · rw [h]; simp
    · rw [h]; simp; omega
  have hs := same_fn r r hrl
  rw [decide_eq_true rfl] at hs
  show awp _ _ _ _
  refine awp_seqR (fun K hK => ?_)
  simp (maxSteps := 2000000) (disch := omega) [ints, rows, scal, wr64, wr8]
  (repeat' apply And.intro)
  all_goals (try omega)
  refine call_rule (caps := []) (hC1) [] [] 2 rfl rfl rfl rfl (by kernel_rfl) (by simp) ?_ trivial trivial rfl trivial trivial (by simp) ?_
  · simp [scal, rows, ints]
  simp (maxSteps := 2000000) (disch := omega) [ints, rows, scal, wr64, wr8, compU]
  (repeat' first | refine hK _ ?_ | apply And.intro) <;> clear hK K <;> try first | (show chkD _ _ = true; kernel_rfl) | omega | rfl | (simp; done) | (simp; omega)
  refine awp_seqR (fun K hK => ?_)
  simp (maxSteps := 2000000) (disch := omega) [ints, rows, scal, wr64, wr8]
  (repeat' apply And.intro)
  all_goals (try omega)
  refine call_rule (caps := []) (hC2) [] [] 2 rfl rfl rfl rfl (by kernel_rfl) (by simp) ?_ trivial trivial rfl trivial trivial (by simp) ?_
  · simp [scal, rows, ints]
  simp (maxSteps := 2000000) (disch := omega) [ints, rows, scal, wr64, wr8, compU]
  (repeat' first | refine hK _ ?_ | apply And.intro) <;> clear hK K <;> try first | (show chkD _ _ = true; kernel_rfl) | omega | rfl | (simp; done) | (simp; omega)
  refine awp_seq ?_
  refine awp_seqR (fun K hK => ?_)
  simp (maxSteps := 2000000) (disch := omega) [ints, rows, scal, wr64, wr8]
  (repeat' apply And.intro)
  all_goals (try omega)
  refine call_rule (caps := []) (hs) [] [] 2 (by simp [scal, rows, ints]) rfl rfl rfl (by kernel_rfl) (by simp) ?_ trivial trivial rfl trivial trivial (by simp) ?_
  · simp [scal, rows, ints]
  simp (maxSteps := 2000000) (disch := omega) [ints, rows, scal, wr64, wr8]
  (repeat' first | refine hK _ ?_ | apply And.intro) <;> clear hK K <;> try first | (show chkD _ _ = true; kernel_rfl) | omega | rfl | (simp; done) | (simp; omega)
  refine awp_cond (b := false) (p := 2) (by simp [scal] <;> omega) ?_
  refine awp_skip ?_
  show awp _ _ _ _
  refine awp_seq ?_
  by_cases he : e = 0
  · have hE := comp_ok ok1 ok2 u1 u2 v1 f1 f2 g1 g2 hCG he
    obtain ⟨A, B, E, -, -, hE2, -, -, hM, -⟩ := maps_fn tb gens v r (by omega) (by omega)
    rw [hE] at hE2
    subst hE2
    refine awp_seqR (fun K hK => ?_)
    simp (maxSteps := 2000000) (disch := omega) [ints, rows, scal, wr64, wr8]
    (repeat' first | refine hK _ ?_ | apply And.intro) <;> clear hK K <;> try first | (show chkD _ _ = true; kernel_rfl) | omega | rfl | (simp; done) | (simp; omega)
    refine awp_cond (b := true) (p := 2) (by simp [scal, he] <;> omega) ?_
    refine awp_seqR (fun K hK => ?_)
    simp (maxSteps := 2000000) (disch := omega) [ints, rows, scal, wr64, wr8]
    (repeat' apply And.intro)
    all_goals (try omega)
    refine call_rule (caps := []) (hM) [] [] 2 rfl rfl rfl rfl (by kernel_rfl) (by simp) ?_ trivial trivial rfl trivial trivial (by simp) ?_
    · simp [scal, rows, ints]
    simp (maxSteps := 2000000) (disch := omega) [ints, rows, scal, wr64, wr8]
    (repeat' first | refine hK _ ?_ | apply And.intro) <;> clear hK K <;> try first | (show chkD _ _ = true; kernel_rfl) | omega | rfl | (simp; done) | (simp; omega)
    refine awp_seqR (fun K hK => ?_)
    simp (maxSteps := 2000000) (disch := omega) [ints, rows, scal, wr64, wr8]
    (repeat' first | refine hK _ ?_ | apply And.intro) <;> clear hK K <;> try first | (show chkD _ _ = true; kernel_rfl) | omega | rfl | (simp; done) | (simp; omega)
    refine awp_cond (b := false) (p := 2) (by simp [scal] <;> omega) ?_
    refine awp_skip ?_
    show awp _ _ _ _
    refine awp_seqR (fun K hK => ?_)
    simp (maxSteps := 2000000) (disch := omega) [ints, rows, scal, wr64, wr8]
    (repeat' apply And.intro)
    all_goals (try omega)
    refine call_rule (caps := []) (known23_fn) [] [] 2 rfl rfl rfl rfl (by kernel_rfl) (by simp) ?_ trivial trivial rfl trivial trivial (by simp) ?_
    · simp [scal, rows, ints]
    simp (maxSteps := 2000000) (disch := omega) [ints, rows, scal, wr64, wr8]
    (repeat' first | refine hK _ ?_ | apply And.intro) <;> clear hK K <;> try first | (show chkD _ _ = true; kernel_rfl) | omega | rfl | (simp; done) | (simp; omega)
    refine awp_ret ?_
    refine ⟨⟨.inr rfl, _, [], rfl, trivial, trivial, by simp, ?_⟩, by simp⟩
    simp
  · refine awp_seqR (fun K hK => ?_)
    simp (maxSteps := 2000000) (disch := omega) [ints, rows, scal, wr64, wr8]
    (repeat' first | refine hK _ ?_ | apply And.intro) <;> clear hK K <;> try first | (show chkD _ _ = true; kernel_rfl) | omega | rfl | (simp; done) | (simp; omega)
    refine awp_cond (b := false) (p := 2) (by simp [scal, he] <;> omega) ?_
    refine awp_skip ?_
    show awp _ _ _ _
    refine awp_seqR (fun K hK => ?_)
    simp (maxSteps := 2000000) (disch := omega) [ints, rows, scal, wr64, wr8]
    (repeat' apply And.intro)
    all_goals (try omega)
    refine call_rule (caps := []) (known23_fn) [] [] 2 rfl rfl rfl rfl (by kernel_rfl) (by simp) ?_ trivial trivial rfl trivial trivial (by simp) ?_
    · simp [scal, rows, ints]
    simp (maxSteps := 2000000) (disch := omega) [ints, rows, scal, wr64, wr8]
    (repeat' first | refine hK _ ?_ | apply And.intro) <;> clear hK K <;> try first | (show chkD _ _ = true; kernel_rfl) | omega | rfl | (simp; done) | (simp; omega)
    refine awp_ret ?_
    refine ⟨⟨.inr rfl, _, [], rfl, trivial, trivial, by simp, ?_⟩, by simp⟩
    simp
end Go.Proofs.Ytgghmjnbkbiffaa.M
