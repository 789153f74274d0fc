/-
  Maps that number things; places of monomials: add, monomial.
-/
import Derived.Test.YtnffigeofdagfaaDoorZmap
import Derived.Test.YtnffigeofdagfaaDoorZmah
namespace Go.Proofs.YtnffigeofdagfaaDoor.M
open Go.RowKit
set_option linter.unusedVariables false
set_option linter.unusedSimpArgs false

def kents {α : Type} (f : α → T) (j : Nat) : List α → List (T × T)
 | [] => []
 | a :: r => (f a, .int .i64 (j : Int)) :: kents f (j + 1) r
def ixA {α : Type} [DecidableEq α] (x : α) : List α → Option Nat
 | [] => none
 | a :: r => if x = a then some 0 else (ixA x r).map (· + 1)
theorem fndT_kents {α : Type} [DecidableEq α] {f : α → T} {x : α} : ∀ (cl : List α) (j : Nat), (∀ y ∈ cl, kEq (f x) (f y) = decide (x = y)) → fndT (f x) (kents f j cl) = ixA x cl
 | [], j, _ => rfl
 | a :: r, j, h => by
  unfold kents fndT ixA
  rw [h a (by simp), fndT_kents r (j + 1) (fun y hy => h y (by simp [hy]))]
  by_cases e : x = a <;> simp [e]
theorem kents_len {α : Type} (f : α → T) : ∀ (cl : List α) (j : Nat), (kents f j cl).length = cl.length
 | [], j => rfl
 | a :: r, j => by simp [kents, kents_len f r (j + 1)]
theorem kents_get {α : Type} (f : α → T) : ∀ (cl : List α) (j i : Nat) (x : α), cl[i]? = some x → (kents f j cl)[i]? = some (f x, .int .i64 ((j + i : Nat) : Int))
 | [], j, i, x, h => by simp at h
 | a :: r, j, i, x, h => by
  cases i with
  | zero => simp at h; subst h; simp [kents]
  | succ i =>
   have := kents_get f r (j + 1) i x (by simpa using h)
   simp only [kents, List.getElem?_cons_succ, this]
   congr 4
   omega
theorem kents_snoc {α : Type} (f : α → T) : ∀ (cl : List α) (j : Nat) (x : α), kents f j (cl ++ [x]) = kents f j cl ++ [(f x, .int .i64 ((j + cl.length : Nat) : Int))]
 | [], j, x => by simp [kents]
 | a :: r, j, x => by
  simp only [List.cons_append, kents, kents_snoc f r (j + 1) x, List.length_cons]
  congr 5
  omega
theorem ixA_get {α : Type} [DecidableEq α] {x : α} : ∀ {cl : List α} {i : Nat}, ixA x cl = some i → cl[i]? = some x
 | [], i, h => by simp [ixA] at h
 | a :: r, i, h => by
  unfold ixA at h
  by_cases e : x = a
  ·rw [if_pos e] at h; injection h with h; subst h; simp [e]
  ·rw [if_neg e] at h
   cases hq : ixA x r with
   | none => rw [hq] at h; cases h
   | some j => rw [hq] at h; simp at h; subst h; simpa using ixA_get hq
theorem ixA_lt {α : Type} [DecidableEq α] {x : α} {cl : List α} {i : Nat} (h : ixA x cl = some i) : i < cl.length := (List.getElem?_eq_some_iff.1 (ixA_get h)).1
theorem ixA_none {α : Type} [DecidableEq α] {x : α} : ∀ {cl : List α}, ixA x cl = none → x ∉ cl
 | [], _ => by simp
 | a :: r, h => by
  unfold ixA at h
  by_cases e : x = a
  ·rw [if_pos e] at h; cases h
  ·rw [if_neg e] at h
   have h2 : ixA x r = none := by
    cases hq : ixA x r with
    | none => rfl
    | some j => rw [hq] at h; cases h
   simp [e, ixA_none h2]
theorem ixA_some {α : Type} [DecidableEq α] {x : α} : ∀ {cl : List α}, x ∈ cl → ∃ i, ixA x cl = some i
 | [], h => by simp at h
 | a :: r, h => by
  unfold ixA
  by_cases e : x = a
  ·exact ⟨0, by rw [if_pos e]⟩
  ·obtain ⟨i, hi⟩ := ixA_some (by simpa [e] using h : x ∈ r)
   exact ⟨i + 1, by rw [if_neg e, hi]; rfl⟩
theorem kents_all {α : Type} (f : α → T) {P : Program} {K : TypeId} (h : ∀ a, kOK P K (f a) = true) : ∀ (cl : List α) (j : Nat), ((kents f j cl).all fun e => kOK P K e.1) = true
 | [], j => rfl
 | a :: r, j => by simp [kents, h, kents_all f h r (j + 1)]

abbrev PL := Nat × Int × Int
def plC (p : PL) : List T := [.int .i64 (p.1 : Int), .int .i64 p.2.1, .int .i64 p.2.2]
def plK (p : PL) : T := .sl 99 (plC p)
def plV (p : PL) : AV := .agg [.t 2 (.int .i64 (p.1 : Int)), .t 2 (.int .i64 p.2.1), .t 2 (.int .i64 p.2.2)]
def plsC (ps : List PL) : List T := ps.flatMap plC
theorem plK_eq (p q : PL) : kEq (plK p) (plK q) = decide (p = q) := by
 obtain ⟨a, b, c⟩ := p
 obtain ⟨x, y, z⟩ := q
 simp only [plK, plC, kEq, kEqL]
 rw [Bool.eq_iff_iff]
 simp
 omega
@[simp] theorem plsC_len (ps : List PL) : (plsC ps).length = ps.length * 3 := by
 unfold plsC
 induction ps with
 | nil => rfl
 | cons m r ih => simp only [List.flatMap_cons, List.length_append, ih]; simp [plC]; omega
theorem plsC_snoc (ps : List PL) (p : PL) : plsC (ps ++ [p]) = plsC ps ++ [.int .i64 (p.1 : Int), .int .i64 p.2.1, .int .i64 p.2.2] := by simp [plsC, plC]
theorem pls_drop : ∀ (ps : List PL) (k : Nat), (plsC ps).drop (k * 3) = plsC (ps.drop k)
 | [], k => by simp [plsC]
 | m :: r, 0 => by simp
 | m :: r, k + 1 => by
  rw [List.drop_succ_cons, ← pls_drop r k, show (k + 1) * 3 = k * 3 + 3 by omega]
  rfl
theorem pls_at {ps : List PL} {k : Nat} (h : k < ps.length) : List.take 3 (List.drop (k * 3) (plsC ps)) = [.int .i64 (ps[k].1 : Int), .int .i64 ps[k].2.1, .int .i64 ps[k].2.2] := by
 rw [pls_drop, List.drop_eq_getElem_cons h]
 rfl
theorem pls_div (ps : List PL) : ps.length * 3 / 3 = ps.length := by omega
theorem pls_in {ps : List PL} {k : Nat} (h : k < ps.length) : k * 3 + 3 ≤ ps.length * 3 := by omega
@[simp] theorem lvs_pls (q : Nat) (ps : List PL) : lvs q (plsC ps) = 2 := by
 unfold lvs
 rw [if_pos]
 unfold plsC
 simp [plC, scal]
@[simp] theorem kOK_pl (p : PL) : kOK Tryd.prog 136 (plK p) = true := by
 have h : kagB Tryd.prog 136 = some 3 := by kernel_rfl
 simp [kOK, plK, plC, h, isI64]
theorem kOK_pl3 (a b c : Int) : kOK Tryd.prog 136 (.sl 99 [.int .i64 a, .int .i64 b, .int .i64 c]) = true := by
 have h : kagB Tryd.prog 136 = some 3 := by kernel_rfl
 simp [kOK, h, isI64]
def plB (L : Nat) (n : Nat) (ev : Int) : AObj := .box 100 [.t 2 (.int .i64 L), .own 1 (n * 3), .own 2 0, .t 2 (.int .i64 ev), .t 1 (.sl 0 []), .t 1 (.sl 0 []), .t 1 (.sl 0 []), .t 1 (.sl 0 []), .t 1 (.sl 0 []), .t 1 (.sl 0 []), .t 1 (.sl 0 []), .t 1 (.sl 0 []), .t 1 (.sl 0 []), .t 1 (.sl 0 []), .t 1 (.sl 0 []), .t 1 (.sl 0 []), .t 1 (.sl 0 [])]
def plO (L : Nat) (ps : List PL) (ev : Int) : List AObj := [plB L ps.length ev, .row 136 3 1 (plsC ps), .map 136 3 (kents plK 0 ps)]
def addP (L : Nat) (s : List PL × Int) (p : PL) : (List PL × Int) × Nat := match ixA p s.1 with
 | some i => (s, i)
 | none => ((s.1 ++ [p], if p.2.2 < 0 ∧ p.1 + 1 = 2 ^ L then (s.1.length : Int) else s.2), s.1.length)
set_option maxRecDepth 100000 in
set_option maxHeartbeats 4000000 in
theorem padd_fn {L : Nat} (hL2 : L ≤ 6) (ps : List PL) (ev : Int) (p : PL) (hn : ps.length ≤ 100000) : FnS Tryd.prog 83 [.ptr 0 0 17, plV p] (plO L ps ev) (.t 2 (.int .i64 ((addP L (ps, ev) p).2 : Nat))) (plO L (addP L (ps, ev) p).1.1 (addP L (ps, ev) p).1.2) := by
 obtain ⟨E, hE, hsh, h64, h1L⟩ : ∃ E : Nat, E = 2 ^ L ∧ shlI .i64 1 (L : Int) = (E : Int) ∧ E ≤ 64 ∧ 1 ≤ E := ⟨_, rfl, shl1 hL2, two_le hL2, Nat.one_le_two_pow⟩
 have hfn : fndT (.sl 99 [.int .i64 (p.1 : Int), .int .i64 p.2.1, .int .i64 p.2.2]) (kents plK 0 ps) = ixA p ps := fndT_kents (f := plK) ps 0 (fun y _ => plK_eq p y)
 have hall := kents_all plK (P := Tryd.prog) (K := 136) kOK_pl ps 0
 have hk3 := kOK_pl3 (p.1 : Int) p.2.1 p.2.2
 have hz1 : zero1 Tryd.prog 3 = some (.int .i64 0) := by kernel_rfl
 refine fn_intro Tryd.func83 rfl (by simp [Tryd.f83]) ?_
 rw [show Tryd.f83.ntmps = 58 from rfl, show Tryd.f83.results = #[.tmp 4] from rfl]
 refine awp_seqR fun K hK => ?_
 simp (maxSteps := 2000000) (disch := omega) [ints, rows, scal, wr64, wr8, plV, plO, plB]
 (repeat' first | apply hK | apply And.intro) <;> try first | (show okH _ _ _ = true; kernel_rfl) | omega | rfl | (simp <;> omega)
 cases hx : ixA p ps with
 | some j =>
  have hj := ixA_get hx
  have hje := kents_get plK ps 0 j _ hj
  have hadd : addP L (ps, ev) p = ((ps, ev), j) := by simp [addP, hx]
  refine awp_seqD (by kernel_rfl) (fun K hK => ?_)
  simp (maxSteps := 2000000) (disch := omega) [ints, rows, scal, wr64, wr8, keyL, hfn, hx, hall, hk3, hz1, hje]
  (repeat' first | apply hK | apply And.intro) <;> try first | (show chkD _ _ = true; kernel_rfl) | (show okH _ _ _ = true; kernel_rfl) | omega | rfl | (simp <;> omega)
  refine awp_seq ?_
  refine awp_seqR fun K hK => ?_
  simp (maxSteps := 2000000) (disch := omega) [ints, rows, scal, wr64, wr8]
  (repeat' first | apply hK | apply And.intro) <;> try first | (show okH _ _ _ = true; kernel_rfl) | omega | rfl | (simp <;> omega)
  refine awp_cond (b := false) (p := 2) (by simp [scal] <;> omega) ?_
  refine awp_skip ?_
  show awp _ _ _ _
  refine awp_seqR fun K hK => ?_
  simp (maxSteps := 2000000) (disch := omega) [ints, rows, scal, wr64, wr8]
  (repeat' first | apply hK | apply And.intro) <;> try first | (show okH _ _ _ = true; kernel_rfl) | omega | rfl | (simp <;> omega)
  refine awp_ret ?_
  refine ⟨⟨.inr rfl, _, [(0, some 0), (1, some 1), (2, some 2)], (by first | rfl | (simp [ints, rows, scal, tpO, plO, plB, hadd, plV]; rfl)), ?_, ?_, ?_, ?_⟩, ?_⟩
  all_goals try simp [ints, rows, scal, tpO, plO, plB, hadd, plV]
 | none =>
  have hdv := pls_div ps
  refine awp_seqD (by kernel_rfl) (fun K hK => ?_)
  simp (maxSteps := 2000000) (disch := omega) [ints, rows, scal, wr64, wr8, keyL, hfn, hx, hall, hk3, hz1]
  (repeat' first | apply hK | apply And.intro) <;> try first | (show chkD _ _ = true; kernel_rfl) | (show okH _ _ _ = true; kernel_rfl) | omega | rfl | (simp <;> omega)
  refine awp_seq ?_
  refine awp_seqR fun K hK => ?_
  simp (maxSteps := 2000000) (disch := omega) [ints, rows, scal, wr64, wr8]
  (repeat' first | apply hK | apply And.intro) <;> try first | (show okH _ _ _ = true; kernel_rfl) | omega | rfl | (simp <;> omega)
  refine awp_cond (b := true) (p := 2) (by simp [scal] <;> omega) ?_
  refine awp_seqR fun K hK => ?_
  simp (maxSteps := 2000000) (disch := omega) [ints, rows, scal, wr64, wr8, hdv]
  (repeat' first | apply hK | apply And.intro) <;> try first | (show okH _ _ _ = true; kernel_rfl) | omega | rfl | (simp <;> omega)
  refine awp_seqD (by kernel_rfl) (fun K hK => ?_)
  simp (maxSteps := 2000000) (disch := omega) [ints, rows, scal, wr64, wr8, keyL, hfn, hx, hall, hk3]
  (repeat' first | apply hK | apply And.intro) <;> try first | (show chkD _ _ = true; kernel_rfl) | (show okH _ _ _ = true; kernel_rfl) | omega | rfl | (simp <;> omega)
  refine awp_seqD (by kernel_rfl) (fun K hK => ?_)
  simp (maxSteps := 2000000) (disch := omega) [ints, rows, scal, wr64, wr8]
  (repeat' first | apply hK | apply And.intro) <;> try first | (show chkD _ _ = true; kernel_rfl) | (show okH _ _ _ = true; kernel_rfl) | omega | rfl | (simp <;> omega)
  have hl3 : (ps ++ [p]).length * 3 = ps.length * 3 + 3 := by simp; omega
  by_cases hneg : p.2.2 < 0
  ·by_cases hE2 : p.1 + 1 = E
   ·have hadd : addP L (ps, ev) p = ((ps ++ [p], (ps.length : Int)), ps.length) := by simp [addP, hx, hneg, hE2, ← hE]
    have h1 : (p.1 : Int) = (E : Int) - 1 := by omega
    refine awp_seqD (by kernel_rfl) (fun K hK => ?_)
    simp (maxSteps := 2000000) (disch := omega) [ints, rows, scal, wr64, wr8, hneg, hsh, h1]
    (repeat' first | apply hK | apply And.intro) <;> try first | (show chkD _ _ = true; kernel_rfl) | (show okH _ _ _ = true; kernel_rfl) | omega | rfl | (simp <;> omega)
    refine awp_cond (b := true) (p := 2) (by simp [scal] <;> omega) ?_
    refine awp_R fun K hK => ?_
    simp (maxSteps := 2000000) (disch := omega) [ints, rows, scal, wr64, wr8]
    (repeat' first | apply hK | apply And.intro) <;> try first | (show okH _ _ _ = true; kernel_rfl) | omega | rfl | (simp <;> omega)
    show awp _ _ _ _
    refine awp_seqR fun K hK => ?_
    simp (maxSteps := 2000000) (disch := omega) [ints, rows, scal, wr64, wr8]
    (repeat' first | apply hK | apply And.intro) <;> try first | (show okH _ _ _ = true; kernel_rfl) | omega | rfl | (simp <;> omega)
    refine awp_ret ?_
    refine ⟨⟨.inr rfl, _, [(0, some 0), (1, some 1), (2, some 2)], (by first | rfl | (simp [ints, rows, scal, tpO, plO, plB, hadd, plV, plsC_snoc, kents_snoc, hl3, plK, plC]; rfl)), ?_, ?_, ?_, ?_⟩, ?_⟩
    all_goals try simp [ints, rows, scal, tpO, plO, plB, hadd, plV, plsC_snoc, kents_snoc, hl3, plK, plC]
    all_goals omega
   ·have hadd : addP L (ps, ev) p = ((ps ++ [p], ev), ps.length) := by simp [addP, hx, hE2, ← hE]
    have h1 : ¬ (p.1 : Int) = (E : Int) - 1 := by omega
    refine awp_seqD (by kernel_rfl) (fun K hK => ?_)
    simp (maxSteps := 2000000) (disch := omega) [ints, rows, scal, wr64, wr8, hneg, hsh, h1]
    (repeat' first | apply hK | apply And.intro) <;> try first | (show chkD _ _ = true; kernel_rfl) | (show okH _ _ _ = true; kernel_rfl) | omega | rfl | (simp <;> omega)
    refine awp_cond (b := false) (p := 2) (by simp [scal] <;> omega) ?_
    refine awp_skip ?_
    show awp _ _ _ _
    refine awp_seqR fun K hK => ?_
    simp (maxSteps := 2000000) (disch := omega) [ints, rows, scal, wr64, wr8]
    (repeat' first | apply hK | apply And.intro) <;> try first | (show okH _ _ _ = true; kernel_rfl) | omega | rfl | (simp <;> omega)
    refine awp_ret ?_
    refine ⟨⟨.inr rfl, _, [(0, some 0), (1, some 1), (2, some 2)], (by first | rfl | (simp [ints, rows, scal, tpO, plO, plB, hadd, plV, plsC_snoc, kents_snoc, hl3, plK, plC]; rfl)), ?_, ?_, ?_, ?_⟩, ?_⟩
    all_goals try simp [ints, rows, scal, tpO, plO, plB, hadd, plV, plsC_snoc, kents_snoc, hl3, plK, plC]
    all_goals omega
  ·have hadd : addP L (ps, ev) p = ((ps ++ [p], ev), ps.length) := by simp [addP, hx, hneg]
   refine awp_seqD (by kernel_rfl) (fun K hK => ?_)
   simp (maxSteps := 2000000) (disch := omega) [ints, rows, scal, wr64, wr8, hneg]
   (repeat' first | apply hK | apply And.intro) <;> try first | (show chkD _ _ = true; kernel_rfl) | (show okH _ _ _ = true; kernel_rfl) | omega | rfl | (simp <;> omega)
   refine awp_cond (b := false) (p := 2) (by simp [scal] <;> omega) ?_
   refine awp_skip ?_
   show awp _ _ _ _
   refine awp_seqR fun K hK => ?_
   simp (maxSteps := 2000000) (disch := omega) [ints, rows, scal, wr64, wr8]
   (repeat' first | apply hK | apply And.intro) <;> try first | (show okH _ _ _ = true; kernel_rfl) | omega | rfl | (simp <;> omega)
   refine awp_ret ?_
   refine ⟨⟨.inr rfl, _, [(0, some 0), (1, some 1), (2, some 2)], (by first | rfl | (simp [ints, rows, scal, tpO, plO, plB, hadd, plV, plsC_snoc, kents_snoc, hl3, plK, plC]; rfl)), ?_, ?_, ?_, ?_⟩, ?_⟩
   all_goals try simp [ints, rows, scal, tpO, plO, plB, hadd, plV, plsC_snoc, kents_snoc, hl3, plK, plC]
   all_goals omega
def sAt (m : Mo) (p : Nat) : Nat := m.1.getD p 0
def lAt (m : Mo) (p : Nat) : Nat := m.2.getD p 0
theorem sAt_get {m : Mo} {p : Nat} (h : p < m.1.length) : (nI m.1)[p]? = some (sAt m p : Int) := by
 rw [nI_get h]; simp [sAt, List.getD_eq_getElem?_getD, h]
theorem lAt_get {m : Mo} {p : Nat} (h : p < m.2.length) : (nI m.2)[p]? = some (lAt m p : Int) := by
 rw [nI_get h]; simp [lAt, List.getD_eq_getElem?_getD, h]
def monP (L : Nat) (m : Mo) : Nat → List PL × Int → (List PL × Int) × Nat
 | 0, s => addP L s (sAt m m.2.length, -1, -1)
 | k + 1, s => addP L (monP L m k s).1 (sAt m (m.2.length - (k + 1)), (lAt m (m.2.length - (k + 1)) : Nat), ((monP L m k s).2 : Nat))
theorem addP_len (L : Nat) (s : List PL × Int) (p : PL) : (addP L s p).1.1.length ≤ s.1.length + 1 := by
 unfold addP
 split <;> simp
theorem monP_len (L : Nat) (m : Mo) : ∀ k s, (monP L m k s).1.1.length ≤ s.1.length + k + 1
 | 0, s => addP_len _ _ _
 | k + 1, s => by
  have h1 := monP_len L m k s
  have h2 := addP_len L (monP L m k s).1 (sAt m (m.2.length - (k + 1)), (lAt m (m.2.length - (k + 1)) : Nat), ((monP L m k s).2 : Nat))
  simp only [monP]
  omega
set_option maxRecDepth 100000 in
set_option maxHeartbeats 4000000 in
theorem pmono_fn {L : Nat} (hL2 : L ≤ 6) (ps : List PL) (ev : Int) {m : Mo} (h : MoOK L 60 m) (hn : ps.length ≤ 50000) : FnS Tryd.prog 59 [.ptr 0 0 17, moV 0 m] (plO L ps ev) (.t 2 (.int .i64 ((monP L m m.2.length (ps, ev)).2 : Nat))) (plO L (monP L m m.2.length (ps, ev)).1.1 (monP L m m.2.length (ps, ev)).1.2) := by
 have hs := h.sl
 have hl := h.ll
 have hlt : m.2.length < m.1.length := by omega
 have hg0 := sAt_get hlt
 refine fn_intro Tryd.func59 rfl (by simp [Tryd.f59]) ?_
 rw [show Tryd.f59.ntmps = 40 from rfl, show Tryd.f59.results = #[.tmp 4] from rfl]
 refine awp_seqR fun K hK => ?_
 simp (maxSteps := 2000000) (disch := omega) [ints, rows, scal, wr64, wr8, moV, plO, plB]
 (repeat' first | apply hK | apply And.intro) <;> try first | (show okH _ _ _ = true; kernel_rfl) | omega | rfl | (simp <;> omega)
 refine awp_seqR fun K hK => ?_
 simp (maxSteps := 2000000) (disch := omega) [ints, rows, scal, wr64, wr8]
 (repeat' first | apply hK | apply And.intro) <;> try first | (show okH _ _ _ = true; kernel_rfl) | omega | rfl | (simp <;> omega)
 refine awp_seqR fun K hK => ?_
 simp (maxSteps := 2000000) (disch := omega) [ints, rows, scal, wr64, wr8, hg0, hlt]
 (repeat' apply And.intro)
 all_goals (try omega)
 refine call_rule (caps := []) (padd_fn hL2 ps ev (sAt m m.2.length, -1, -1) (by omega)) [0, 1, 2] [0, 13000003, 13000004] 1 rfl rfl rfl rfl (by kernel_rfl) (by simp) ?_ ?_ (by simp) rfl (by simp) ⟨.inr ⟨rfl, 0, _, _, _, _, _, rfl, rfl, (by first | rfl | simp [plO, plB, plV]), rfl, (by first | rfl | simp [plO, plB, plV])⟩, .inl ⟨by omega, by omega⟩, .inl ⟨by omega, by omega⟩, trivial⟩ (by simp [plO, plB, plV]) ?_
 ·simp [scal, rows, ints, plO, plB, plV]
 ·simp [scal, rows, ints, plO, plB, plV]
 simp (maxSteps := 2000000) (disch := omega) [ints, rows, scal, wr64, wr8, plO, plB]
 (repeat' first | apply hK | apply And.intro) <;> try first | (show okH _ _ _ = true; kernel_rfl) | omega | rfl | (simp <;> omega)
 refine awp_seq ?_
 refine awp_seqR fun K hK => ?_
 simp (maxSteps := 2000000) (disch := omega) [ints, rows, scal, wr64, wr8]
 (repeat' first | apply hK | apply And.intro) <;> try first | (show okH _ _ _ = true; kernel_rfl) | omega | rfl | (simp <;> omega)
 refine awp_block ?_
 refine awp_loop (fun k : Nat => mkS [(0, .ptr 0 0 17), (3, .ptr 3 0 2), (6, .t 2 (.int .i64 ((monP L m k (ps, ev)).2 : Nat))), (7, .t 2 (.int .i64 ((m.2.length : Int) - 1 - k)))] [(0, plB L (monP L m k (ps, ev)).1.1.length (monP L m k (ps, ev)).1.2), (1, .row 136 3 1 (plsC (monP L m k (ps, ev)).1.1)), (2, .map 136 3 (kents plK 0 (monP L m k (ps, ev)).1.1)), (3, .box 37 [.t 0 (ints (nI m.1)), .t 0 (ints (nI m.2))])] 4 40 [.ptr 0 0 17, .any]) (fun k => k ≤ m.2.length) (fun k => m.2.length - k) ?_ ?_
 ·refine ⟨0, by omega, ?_⟩
  refine wk_list [(0, some 0), (1, some 13000003), (2, some 13000004), (3, some 3)] rfl ?_ ?_ ?_ ?_
  all_goals try simp [ints, plB, monP]
 intro k hk
 refine awp_seq ?_
 refine awp_seqR fun K hK => ?_
 simp (maxSteps := 2000000) (disch := omega) [ints, rows, scal, wr64, wr8]
 (repeat' first | apply hK | apply And.intro) <;> try first | (show okH _ _ _ = true; kernel_rfl) | omega | rfl | (simp <;> omega)
 by_cases hc : k < m.2.length
 ·have hcc : (0 : Int) ≤ (m.2.length : Int) - 1 - k := by omega
  obtain ⟨j, hj⟩ : ∃ j, j = m.2.length - (k + 1) := ⟨_, rfl⟩
  have hjj : (m.2.length : Int) - 1 - k = (j : Int) := by omega
  have hj1 : j < m.1.length := by omega
  have hj2 : j < m.2.length := by omega
  have hg1 := sAt_get hj1
  have hg2 := lAt_get hj2
  have hml := monP_len L m k (ps, ev)
  simp only at hml
  refine awp_cond (b := true) (p := 2) (by simp [scal, hcc] <;> omega) ?_
  refine awp_skip ?_
  show awp _ _ _ _
  refine awp_seq ?_
  refine awp_block ?_
  refine awp_RD (by kernel_rfl) (fun K hK => ?_)
  simp (maxSteps := 2000000) (disch := omega) [ints, rows, scal, wr64, wr8, hjj, hg1, hg2, hj1, hj2, plB]
  (repeat' apply And.intro)
  all_goals (try omega)
  refine call_ruleD (caps := []) (padd_fn hL2 (monP L m k (ps, ev)).1.1 (monP L m k (ps, ev)).1.2 (sAt m j, (lAt m j : Nat), ((monP L m k (ps, ev)).2 : Nat)) (by omega)) [0, 1, 2] [0, 15000004, 15000005] 1 rfl rfl rfl rfl (by kernel_rfl) (by simp) ?_ ?_ (by simp) rfl (by simp) ⟨.inr ⟨rfl, 0, _, _, _, _, _, rfl, rfl, (by first | rfl | simp [plO, plB, plV]), rfl, (by first | rfl | simp [plO, plB, plV])⟩, .inl ⟨by omega, by omega⟩, .inl ⟨by omega, by omega⟩, trivial⟩ (by simp [plO, plB, plV]) ?_
  ·simp [scal, rows, ints, plO, plB, plV]
  ·simp [scal, rows, ints, plO, plB, plV]
  simp (maxSteps := 2000000) (disch := omega) [ints, rows, scal, wr64, wr8, plO, plB]
  (repeat' first | apply hK | apply And.intro) <;> try first | (show chkD _ _ = true; kernel_rfl) | (show okH _ _ _ = true; kernel_rfl) | omega | rfl | (simp <;> omega)
  show awp _ _ _ _
  refine awp_R fun K hK => ?_
  simp (maxSteps := 2000000) (disch := omega) [ints, rows, scal, wr64, wr8]
  (repeat' first | apply hK | apply And.intro) <;> try first | (show okH _ _ _ = true; kernel_rfl) | omega | rfl | (simp <;> omega)
  have hj3 : (j : Int) - 1 = (m.2.length : Int) - 1 - ((k + 1 : Nat) : Int) := by omega
  refine ⟨k + 1, by omega, by omega, ?_⟩
  refine wk_list [(0, some 0), (1, some 15000004), (2, some 15000005), (3, some 3)] rfl ?_ ?_ ?_ ?_
  all_goals try simp [ints, plB, monP, ← hj, hj3]
 ·have hke : k = m.2.length := by omega
  have hcc : ¬ (0 : Int) ≤ (m.2.length : Int) - 1 - k := by omega
  refine awp_cond (b := false) (p := 2) (by simp [scal, hcc] <;> omega) ?_
  refine awp_exit ?_
  show awp _ _ _ _
  refine awp_seqR fun K hK => ?_
  simp (maxSteps := 2000000) (disch := omega) [ints, rows, scal, wr64, wr8]
  (repeat' first | apply hK | apply And.intro) <;> try first | (show okH _ _ _ = true; kernel_rfl) | omega | rfl | (simp <;> omega)
  refine awp_ret ?_
  refine ⟨⟨.inr rfl, _, [(0, some 0), (1, some 1), (2, some 2)], (by first | rfl | (simp [ints, rows, scal, tpO, plO, plB, hke, moV]; rfl)), ?_, ?_, ?_, ?_⟩, ?_⟩
  all_goals try simp [ints, rows, scal, tpO, plO, plB, hke, moV]
end Go.Proofs.YtnffigeofdagfaaDoor.M
