/-
  Walk in my logic: read (pairs): the states that a letter leads to.
  Walks in my logic: common (monomial) where no word is found; Unambiguous.
  Walk in my logic: flood (monomial): it meets no more positions than steps lead to.
  Walk in my logic: meet (monomial): no word in common, where none leads to both ends.
  Walk in my logic: Disjoint (monomial) of a list without common words.
-/
import Derived.Test.YtnffigeofdagfaaDoorZrar
import Derived.Test.YtnffigeofdagfaaDoorZrav
import Derived.Test.YtnffigeofdagfaaDoorZraq
namespace Go.Proofs.YtnffigeofdagfaaDoor.M
open Go.RowKit
set_option linter.unusedVariables false
attribute [local simp] KL_ap KD_ap awpL_nil awpL_cons awpD_nil awpD_cons awpOp awpOpD wrE gd aop aBuiltin aNil aMin ASt.eval AV.ofV dstOk ASt.app Eff.heap dels upd_b aLoad aStore aField aFieldV aIndexAddr aIndex aSlice aSliceO aLen aBin iB sB aUn aConv aAlloc aBox aBuild afill avCells AV.leaf setR aBuildSlice frz frzL isOwn vecOf tsOf aMake srcOf aAppend aMkMap aMapUpd aLookup oint cut putL AObj.cnt mkS envOf_nil envOf_cons heapOf_nil heapOf_cons argS Nat.blt_eq callS outV outVs outO heap2 addL delL List.getElem?_cons_zero okO inPs inP wkE wkP wkPs wkH wkO keysNd unm mpOf_nil mpOf_cons ghA ghA1 idxF resV
set_option linter.unusedSimpArgs false

def nxD (d i j : Nat) : Nat := if d = 0 ∧ i ≠ j then 1 else d
structure PqI (m n : Mo) (I : Nat → Nat → Nat → Prop) (F B : List Int) (Q : List Nat) : Prop where
 fl : F.length = m.1.length * n.1.length * 2
 bl : B.length = m.1.length * n.1.length * 2
 ql : Q.length = F.countP (fun x => x != 0)
 qi : ∀ e ∈ Q, ∃ p q d, p < m.1.length ∧ q < n.1.length ∧ d < 2 ∧ I p q d ∧ e = (p * n.1.length + q) * 2 + d
theorem PqI.le {m n : Mo} {I : Nat → Nat → Nat → Prop} {F B : List Int} {Q : List Nat} (h : PqI m n I F B Q) : Q.length ≤ m.1.length * n.1.length * 2 := by
 rw [h.ql, ← h.fl]; exact List.countP_le_length
theorem countP_put {F : List Int} {k : Nat} {v : Int} (hk : k < F.length) (h0 : F[k] = 0) (hv : v ≠ 0) : (F.set k v).countP (fun x => x != 0) = F.countP (fun x => x != 0) + 1 := by
 induction F generalizing k with
 | nil => simp at hk
 | cons x F ih =>
  cases k with
  | zero =>
   simp only [List.getElem_cons_zero] at h0
   subst h0
   simp [List.set, List.countP_cons, hv]
  | succ k =>
   simp only [List.getElem_cons_succ] at h0
   have := ih (by simpa using hk) h0
   simp only [List.set, List.countP_cons, this]
   omega
theorem idq_lt {M W p q d : Nat} (hp : p < M) (hq : q < W) (hd : d < 2) : (p * W + q) * 2 + d < M * W * 2 := by
 have h1 : (p + 1) * W ≤ M * W := Nat.mul_le_mul_right _ hp
 rw [Nat.add_mul] at h1
 omega
theorem PqI.put {m n : Mo} {I : Nat → Nat → Nat → Prop} {F B : List Int} {Q : List Nat} (h : PqI m n I F B Q) {i j d k : Nat} {v u : Int} (hi : i < m.1.length) (hj : j < n.1.length) (hd : d < 2) (hI : I i j d) (e : k = (i * n.1.length + j) * 2 + d) (hk : k < F.length) (h0 : F[k] = 0) (hv : v ≠ 0) : PqI m n I (F.set k v) (B.set k u) (Q ++ [k]) :=
 ⟨by rw [List.length_set]; exact h.fl, by rw [List.length_set]; exact h.bl, by rw [List.length_append, countP_put hk h0 hv, h.ql]; rfl, fun x hx => by
  rcases List.mem_append.1 hx with hx | hx
  ·exact h.qi x hx
  ·simp only [List.mem_singleton] at hx
   exact ⟨i, j, d, hi, hj, hd, hI, by rw [hx, e]⟩⟩
def prO (m n : Mo) (q f b : AV) : AObj := .box 131 [.t 1 (ints (nI m.1)), .t 1 (ints (nI m.2)), .t 1 (ints (nI n.1)), .t 1 (ints (nI n.2)), q, f, b]
def i64T (F : List Int) : List T := F.map (.int .i64)
def u8T (B : List Int) : List T := B.map (.int .u8)
@[simp] theorem i64T_len (F : List Int) : (i64T F).length = F.length := by simp [i64T]
@[simp] theorem u8T_len (F : List Int) : (u8T F).length = F.length := by simp [u8T]
theorem i64T_at {F : List Int} {k : Nat} (h : k < F.length) : (i64T F)[k]? = some (.int .i64 F[k]) := by simp [i64T, h]
theorem i64T_set (F : List Int) (k : Nat) (v : Int) : (i64T F).set k (.int .i64 v) = i64T (F.set k v) := by simp [i64T, List.map_set]
theorem u8T_set (F : List Int) (k : Nat) (v : Int) : (u8T F).set k (.int .u8 v) = u8T (F.set k v) := by simp [u8T, List.map_set]
@[simp] theorem natsT_len2 (ss : List Nat) : (natsT ss).length = ss.length := by simp [natsT]
def prH (m n : Mo) (F B : List Int) (Q : List Nat) : List AObj := [prO m n (.own 1 Q.length) (.own 2 F.length) (.own 3 B.length), .row 3 1 1 (natsT Q), .row 3 1 1 (i64T F), .row 5 1 1 (u8T B)]
def prS (m n : Mo) (F B : List Int) (Q : List Nat) : List (Nat × AObj) := [(0, prO m n (.own 1 Q.length) (.own 2 F.length) (.own 3 B.length)), (1, .row 3 1 1 (natsT Q)), (2, .row 3 1 1 (i64T F)), (3, .row 5 1 1 (u8T B))]
theorem tgM_lt {m : Mo} {n : Nat} (h : MoOK 6 n m) {p a i : Nat} (hp : p < m.1.length) (hi : i ∈ tgM m p a) : i < m.1.length := by
 have hs := h.sl
 unfold tgM at hi
 rcases List.mem_append.1 hi with hi | hi
 ·split at hi
  ·simp only [List.mem_singleton] at hi; omega
  ·simp at hi
 ·split at hi
  ·simp only [List.mem_singleton] at hi; omega
  ·simp at hi
theorem tgM_len (m : Mo) (p a : Nat) : (tgM m p a).length ≤ 2 := by
 unfold tgM
 split <;> split <;> simp
theorem mul61 {a b : Nat} (ha : a ≤ 61) (hb : b ≤ 61) : a * b ≤ 3721 := Nat.mul_le_mul ha hb
theorem st_parts {W p q d : Nat} (hq : q < W) (hd : d < 2) : (((p * W + q) * 2 + d : Nat) : Int).tdiv 2 = ((p * W + q : Nat) : Int) ∧ ((p * W + q : Nat) : Int).tdiv (W : Int) = (p : Int) ∧ ((p * W + q : Nat) : Int).tmod (W : Int) = (q : Int) ∧ (((p * W + q) * 2 + d : Nat) : Int).tmod 2 = (d : Int) := by
 have a1 : ((p * W + q) * 2 + d) / 2 = p * W + q := by omega
 have a2 : (p * W + q) / W = p := by
  rw [Nat.mul_comm, Nat.mul_add_div (by omega), Nat.div_eq_of_lt hq]; rfl
 have a3 : (p * W + q) % W = q := by
  rw [Nat.mul_comm, Nat.mul_add_mod, Nat.mod_eq_of_lt hq]
 have a4 : ((p * W + q) * 2 + d) % 2 = d := by omega
 have c : ∀ x y : Nat, ((x : Nat) : Int).tdiv (y : Int) = ((x / y : Nat) : Int) := fun x y => by
  rw [Int.tdiv_eq_ediv_of_nonneg (by omega)]; rfl
 have c2 : ∀ x y : Nat, ((x : Nat) : Int).tmod (y : Int) = ((x % y : Nat) : Int) := fun x y => by
  rw [Int.tmod_eq_emod_of_nonneg (by omega)]; rfl
 refine ⟨?_, ?_, ?_, ?_⟩
 ·have := c ((p * W + q) * 2 + d) 2; rw [a1] at this; exact this
 ·have := c (p * W + q) W; rw [a2] at this; exact this
 ·have := c2 (p * W + q) W; rw [a3] at this; exact this
 ·have := c2 ((p * W + q) * 2 + d) 2; rw [a4] at this; exact this
set_option maxRecDepth 100000 in
set_option maxHeartbeats 16000000 in
theorem read_fn {m n : Mo} (hm : MoOK 6 60 m) (hn : MoOK 6 60 n) {I : Nat → Nat → Nat → Prop} {p q d a : Nat} (hp : p < m.1.length) (hq : q < n.1.length) (hd : d < 2) (ha : a < 6) (hcl : ∀ i ∈ tgM m p a, ∀ j ∈ tgM n q a, I i j (nxD d i j)) {F B : List Int} {Q : List Nat} (hP : PqI m n I F B Q) :
  ∃ res H', (∃ F' B' Q', PqI m n I F' B' Q' ∧ (∃ R, Q' = Q ++ R) ∧ res = .tup [] ∧ H' = prH m n F' B' Q') ∧ FnS Tryd.prog 81 [.ptr 0 0 7, .t 2 (.int .i64 ((p * n.1.length + q) * 2 + d : Nat)), .t 2 (.int .i64 a)] (prH m n F B Q) res H' := by
 have hms := hm.sl
 have hml := hm.ll
 have hns := hn.sl
 have hnl := hn.ll
 obtain ⟨W, hW⟩ : ∃ W, W = n.1.length := ⟨_, rfl⟩
 obtain ⟨M, hM⟩ : ∃ M, M = m.1.length := ⟨_, rfl⟩
 have hMW : M * W ≤ 3721 := mul61 (by omega) (by omega)
 have hs := idq_lt hp hq hd
 obtain ⟨s1, s2, s3, s4⟩ := st_parts (p := p) hq hd
 obtain ⟨s, hse⟩ : ∃ s, s = (p * n.1.length + q) * 2 + d := ⟨_, rfl⟩
 obtain ⟨t, hte⟩ : ∃ t, t = p * n.1.length + q := ⟨_, rfl⟩
 rw [← hse] at s1 s4 hs ⊢
 rw [← hte] at s1 s2 s3
 rw [← hM, ← hW] at hs
 have hW0 : ((n.1.length : Int) == 0) = false := beq_eq_false_iff_ne.2 (by omega)
 have hW1 : ¬ n.1 = [] := fun e => by rw [e] at hns; simp at hns
 have t1 := targets_fn hm hp ha
 have t2 := targets_fn hn hq ha
 have l1 := tgM_len m p a
 have l2 := tgM_len n q a
 have b1 : ∀ i ∈ tgM m p a, i < m.1.length := fun i hi => tgM_lt hm hp hi
 have b2 : ∀ i ∈ tgM n q a, i < n.1.length := fun i hi => tgM_lt hn hq hi
 generalize tgM m p a = A1 at *
 generalize tgM n q a = A2 at *
 refine fn_introGE Tryd.func81 rfl (by simp [Tryd.f81]) ?_
 rw [show Tryd.f81.ntmps = 109 from rfl, show Tryd.f81.results = #[] from rfl]
 refine awp_seqR fun K hK => ?_
 simp (disch := omega) [ints, rows, scal, wr64, wr8, prH, prS, prO]
 (repeat' first | apply hK | apply And.intro) <;> try first | (show okH _ _ _ = true; kernel_rfl) | omega | rfl | (simp <;> omega)
 refine awp_seqD (by kernel_rfl) (fun K hK => ?_)
 simp (disch := omega) [ints, rows, scal, wr64, wr8, prH, prS, prO, s1, s2, s3, s4, hW0, hW1]
 (repeat' first | apply hK | apply And.intro) <;> try first | (show chkD _ _ = true; kernel_rfl) | (show okH _ _ _ = true; kernel_rfl) | omega | rfl | (simp <;> omega)
 refine awp_seqR fun K hK => ?_
 simp (disch := omega) [ints, rows, scal, wr64, wr8, prH, prS, prO]
 (repeat' apply And.intro)
 all_goals (try omega)
 refine call_rule (caps := []) (t1) [] [] 2 rfl rfl rfl rfl (by kernel_rfl) (by simp) ?_ trivial trivial rfl trivial trivial (by simp) ?_
 ·simp [scal, rows, ints, moV]
 simp (disch := omega) [ints, rows, scal, wr64, wr8]
 (repeat' first | apply hK | apply And.intro) <;> try first | (show okH _ _ _ = true; kernel_rfl) | omega | rfl | (simp <;> omega)
 refine awp_block ?_
 refine awp_loop (fun y : Nat × List Int × List Int × List Nat => mkS [(0, .ptr 0 0 7), (1, .t 2 (.int .i64 (s : Nat))), (2, .t 2 (.int .i64 a)), (6, .t 2 (.int .i64 n.1.length)), (8, .t 2 (.int .i64 q)), (9, .t 2 (.int .i64 d)), (37, .t 2 (ints (nI A1))), (38, .t 2 (.int .i64 A1.length)), (39, .t 2 (.int .i64 y.1))] (prS m n y.2.1 y.2.2.1 y.2.2.2) 4 109 [.ptr 0 0 7, .any, .any]) (fun y => y.1 ≤ A1.length ∧ PqI m n I y.2.1 y.2.2.1 y.2.2.2 ∧ ∃ R, y.2.2.2 = Q ++ R) (fun y => A1.length - y.1) ?_ ?_
 ·refine ⟨(0, F, B, Q), ⟨by simp, hP, [], by simp⟩, ?_⟩
  refine wk_list [(0, some 0), (1, some 1), (2, some 2), (3, some 3)] rfl ?_ ?_ ?_ ?_
  all_goals try simp [ints, prH, prS, prO]
 rintro ⟨x, F, B, Q1⟩ ⟨hx, hP, hR⟩
 simp only at hx hP hR
 refine awp_seqR fun K hK => ?_
 simp (disch := omega) [ints, rows, scal, wr64, wr8]
 (repeat' first | apply hK | apply And.intro) <;> try first | (show okH _ _ _ = true; kernel_rfl) | omega | rfl | (simp <;> omega)
 refine awp_seq ?_
 by_cases hxl : x < A1.length
 ·have g1 : (nI A1)[x]? = some (A1[x] : Int) := nI_get hxl
  refine awp_cond (b := true) (p := 2) (by simp [scal, hxl] <;> omega) ?_
  refine awp_skip ?_
  show awp _ _ _ _
  refine awp_seq ?_
  refine awp_block ?_
  refine awp_seqR fun K hK => ?_
  simp (disch := omega) [ints, rows, scal, wr64, wr8, g1, hxl]
  (repeat' first | apply hK | apply And.intro) <;> try first | (show okH _ _ _ = true; kernel_rfl) | omega | rfl | (simp <;> omega)
  refine awp_seqR fun K hK => ?_
  simp (disch := omega) [ints, rows, scal, wr64, wr8, prH, prS, prO]
  (repeat' apply And.intro)
  all_goals (try omega)
  refine call_rule (caps := []) (t2) [] [] 2 rfl rfl rfl rfl (by kernel_rfl) (by simp) ?_ trivial trivial rfl trivial trivial (by simp) ?_
  ·simp [scal, rows, ints, moV]
  simp (disch := omega) [ints, rows, scal, wr64, wr8]
  (repeat' first | apply hK | apply And.intro) <;> try first | (show okH _ _ _ = true; kernel_rfl) | omega | rfl | (simp <;> omega)
  have hi : A1[x] < m.1.length := b1 _ (by simp)
  have hIi := hcl A1[x] (by simp)
  obtain ⟨i, hie⟩ : ∃ i, i = A1[x] := ⟨_, rfl⟩
  rw [← hie] at hi hIi
  refine awp_block ?_
  refine awp_loop (fun y : Nat × List Int × List Int × List Nat => mkS [(0, .ptr 0 0 7), (1, .t 2 (.int .i64 (s : Nat))), (2, .t 2 (.int .i64 a)), (6, .t 2 (.int .i64 n.1.length)), (8, .t 2 (.int .i64 q)), (9, .t 2 (.int .i64 d)), (11, .t 2 (.int .i64 i)), (37, .t 2 (ints (nI A1))), (38, .t 2 (.int .i64 A1.length)), (39, .t 2 (.int .i64 x)), (49, .t 2 (ints (nI A2))), (50, .t 2 (.int .i64 A2.length)), (51, .t 2 (.int .i64 y.1))] (prS m n y.2.1 y.2.2.1 y.2.2.2) 4 109 [.ptr 0 0 7, .any, .any]) (fun y => y.1 ≤ A2.length ∧ PqI m n I y.2.1 y.2.2.1 y.2.2.2 ∧ ∃ R, y.2.2.2 = Q ++ R) (fun y => A2.length - y.1) ?_ ?_
  ·refine ⟨(0, F, B, Q1), ⟨by simp, hP, hR⟩, ?_⟩
   refine wk_list [(0, some 0), (1, some 1), (2, some 2), (3, some 3)] rfl ?_ ?_ ?_ ?_
   all_goals try simp [ints, prH, prS, prO, hie]
  clear hP hR
  rintro ⟨z, F, B, Q1⟩ ⟨hz, hP, R, hR⟩
  simp only at hz hP hR
  refine awp_seqR fun K hK => ?_
  simp (disch := omega) [ints, rows, scal, wr64, wr8]
  (repeat' first | apply hK | apply And.intro) <;> try first | (show okH _ _ _ = true; kernel_rfl) | omega | rfl | (simp <;> omega)
  refine awp_seq ?_
  by_cases hzl : z < A2.length
  ·have g2 : (nI A2)[z]? = some (A2[z] : Int) := nI_get hzl
   have hj : A2[z] < n.1.length := b2 _ (by simp)
   have hIj := hIi A2[z] (by simp)
   obtain ⟨j, hje⟩ : ∃ j, j = A2[z] := ⟨_, rfl⟩
   rw [← hje] at hj hIj g2
   obtain ⟨k, hke⟩ : ∃ k, k = (i * n.1.length + j) * 2 + nxD d i j := ⟨_, rfl⟩
   have hnd : nxD d i j < 2 := by unfold nxD; split <;> omega
   have hk := idq_lt hi hj hnd
   rw [← hke, ← hP.fl] at hk
   have hkB : k < B.length := by rw [hP.bl, ← hP.fl]; exact hk
   have hFl := hP.fl
   have hBl := hP.bl
   have hQl := hP.le
   rw [← hM, ← hW] at hFl hBl hQl
   have hiW : i * n.1.length ≤ 3721 := Nat.le_trans (Nat.mul_le_mul_right _ (Nat.le_of_lt hi)) (by rw [← hM, ← hW]; exact hMW)
   refine awp_cond (b := true) (p := 2) (by simp [scal, hzl] <;> omega) ?_
   refine awp_skip ?_
   show awp _ _ _ _
   refine awp_seq ?_
   refine awp_block ?_
   refine awp_seqR fun K hK => ?_
   simp (disch := omega) [ints, rows, scal, wr64, wr8, g2, hzl]
   (repeat' first | apply hK | apply And.intro) <;> try first | (show okH _ _ _ = true; kernel_rfl) | omega | rfl | (simp <;> omega)
   have hFk : (i64T F)[k]? = some (.int .i64 F[k]) := i64T_at hk
   have kk : (i : Int) * n.1.length + j = ((i * n.1.length + j : Nat) : Int) := by push_cast; rfl
   obtain ⟨k0, hk0⟩ : ∃ k0, k0 = i * n.1.length + j := ⟨_, rfl⟩
   rw [← hk0] at kk hke
   have hwrp : (i : Int) * (n.1.length : Int) ≤ 3721 := by exact_mod_cast hiW
   have hwr0 : (0 : Int) ≤ (i : Int) * (n.1.length : Int) := by exact_mod_cast Nat.zero_le _
   refine awp_seqR fun K hK => ?_
   simp (disch := omega) [ints, rows, scal, wr64, wr8, kk]
   (repeat' first | apply hK | apply And.intro) <;> try first | (show okH _ _ _ = true; kernel_rfl) | omega | rfl | (simp <;> omega)
   refine awp_join (fun σ' => Wk σ' (mkS [(0, .ptr 0 0 7), (1, .t 2 (.int .i64 (s : Nat))), (2, .t 2 (.int .i64 a)), (6, .t 2 (.int .i64 n.1.length)), (8, .t 2 (.int .i64 q)), (9, .t 2 (.int .i64 d)), (11, .t 2 (.int .i64 i)), (14, .t 2 (.int .i64 (k : Nat))), (37, .t 2 (ints (nI A1))), (38, .t 2 (.int .i64 A1.length)), (39, .t 2 (.int .i64 x)), (49, .t 2 (ints (nI A2))), (50, .t 2 (.int .i64 A2.length)), (51, .t 2 (.int .i64 z))] (prS m n F B Q1) 4 109 [.ptr 0 0 7, .any, .any])) ?_ ?_
   ·intro σ' hw
    refine awp_weak hw ?_
    clear hw
    have w1 : IntKind.u8.wrap (a : Int) = a := by rw [IntKind.wrap_u8]; omega
    have w2 : IntKind.u8.wrap (97 + (a : Int)) = 97 + a := by rw [IntKind.wrap_u8]; omega
    refine awp_seqR fun K hK => ?_
    simp (disch := omega) [ints, rows, scal, wr64, wr8, prS, prO, hFk, hk]
    (repeat' first | apply hK | apply And.intro) <;> try first | (show okH _ _ _ = true; kernel_rfl) | omega | rfl | (simp <;> omega)
    by_cases h0 : F[k] = 0
    ·refine awp_cond (b := true) (p := 2) (by simp [scal, h0] <;> omega) ?_
     refine awp_seqR fun K hK => ?_
     simp (disch := omega) [ints, rows, scal, wr64, wr8, prS, prO, hk, i64T_set]
     (repeat' first | apply hK | apply And.intro) <;> try first | (show okH _ _ _ = true; kernel_rfl) | omega | rfl | (simp <;> omega)
     refine awp_seqR fun K hK => ?_
     simp (disch := omega) [ints, rows, scal, wr64, wr8, prS, prO, hkB, w1, w2, u8T_set]
     (repeat' first | apply hK | apply And.intro) <;> try first | (show okH _ _ _ = true; kernel_rfl) | omega | rfl | (simp <;> omega)
     refine awp_R fun K hK => ?_
     simp (disch := omega) [ints, rows, scal, wr64, wr8, prS, prO, natsT_snoc]
     (repeat' first | apply hK | apply And.intro) <;> try first | (show okH _ _ _ = true; kernel_rfl) | omega | rfl | (simp <;> omega)
     show awp _ _ _ _
     refine awp_R fun K hK => ?_
     simp (disch := omega) [ints, rows, scal, wr64, wr8]
     (repeat' first | apply hK | apply And.intro) <;> try first | (show okH _ _ _ = true; kernel_rfl) | omega | rfl | (simp <;> omega)
     refine ⟨(z + 1, F.set k ((s : Int) + 1), B.set k (97 + (a : Int)), Q1 ++ [k]), ⟨by simp only; omega, hP.put hi hj hnd hIj (by rw [hke, hk0]) hk h0 (by omega), R ++ [k], by rw [hR, List.append_assoc]⟩, by simp only; omega, ?_⟩
     refine wk_list [(0, some 0), (1, some 1), (2, some 2), (3, some 3)] rfl ?_ ?_ ?_ ?_
     all_goals try simp [ints, prS, prO, natsT_snoc]
    ·refine awp_cond (b := false) (p := 2) (by simp [scal, h0] <;> omega) ?_
     refine awp_skip ?_
     show awp _ _ _ _
     refine awp_R fun K hK => ?_
     simp (disch := omega) [ints, rows, scal, wr64, wr8]
     (repeat' first | apply hK | apply And.intro) <;> try first | (show okH _ _ _ = true; kernel_rfl) | omega | rfl | (simp <;> omega)
     refine ⟨(z + 1, F, B, Q1), ⟨by simp only; omega, hP, R, hR⟩, by simp only; omega, ?_⟩
     refine wk_list [(0, some 0), (1, some 1), (2, some 2), (3, some 3)] rfl ?_ ?_ ?_ ?_
     all_goals try simp [ints, prS, prO]
   ·by_cases hd0 : d = 0
    ·have d0 : ((d : Int) == 0) = true := by simp [hd0]
     by_cases hij : i = j
     ·have d1 : ((i : Int) != (j : Int)) = false := by simp [hij]
      have hk1 : k = k0 * 2 + d := by rw [hke]; unfold nxD; rw [if_neg (fun h => h.2 hij)]
      refine awp_seqR fun K hK => ?_
      simp (disch := omega) [ints, rows, scal, wr64, wr8, d0, d1]
      (repeat' first | apply hK | apply And.intro) <;> try first | (show okH _ _ _ = true; kernel_rfl) | omega | rfl | (simp <;> omega)
      refine awp_cond (b := false) (p := 2) (by simp [scal, hij] <;> omega) ?_
      refine awp_skip ?_
      refine wk_list [(0, some 0), (1, some 1), (2, some 2), (3, some 3)] rfl ?_ ?_ ?_ ?_
      all_goals try simp [ints, prS, prO, hk1]
     ·have d1 : ((i : Int) != (j : Int)) = true := bne_iff_ne.2 (by omega)
      have hk1 : k = k0 * 2 + d + 1 := by rw [hke]; unfold nxD; rw [if_pos ⟨hd0, hij⟩]; omega
      refine awp_seqR fun K hK => ?_
      simp (disch := omega) [ints, rows, scal, wr64, wr8, d0, d1]
      (repeat' first | apply hK | apply And.intro) <;> try first | (show okH _ _ _ = true; kernel_rfl) | omega | rfl | (simp <;> omega)
      refine awp_cond (b := true) (p := 2) (by simp [scal, hij] <;> omega) ?_
      refine awp_R fun K hK => ?_
      simp (disch := omega) [ints, rows, scal, wr64, wr8]
      (repeat' first | apply hK | apply And.intro) <;> try first | (show okH _ _ _ = true; kernel_rfl) | omega | rfl | (simp <;> omega)
      refine wk_list [(0, some 0), (1, some 1), (2, some 2), (3, some 3)] rfl ?_ ?_ ?_ ?_
      all_goals try simp [ints, prS, prO, hk1]
    ·have d0 : ((d : Int) == 0) = false := beq_eq_false_iff_ne.2 (by omega)
     have hk1 : k = k0 * 2 + d := by rw [hke]; unfold nxD; rw [if_neg (fun h => hd0 h.1)]
     refine awp_seqR fun K hK => ?_
     simp (disch := omega) [ints, rows, scal, wr64, wr8, d0]
     (repeat' first | apply hK | apply And.intro) <;> try first | (show okH _ _ _ = true; kernel_rfl) | omega | rfl | (simp <;> omega)
     refine awp_cond (b := false) (p := 2) (by simp [scal, hd0] <;> omega) ?_
     refine awp_skip ?_
     refine wk_list [(0, some 0), (1, some 1), (2, some 2), (3, some 3)] rfl ?_ ?_ ?_ ?_
     all_goals try simp [ints, prS, prO, hk1]
  ·refine awp_cond (b := false) (p := 2) (by simp [scal, hzl] <;> omega) ?_
   refine awp_exit ?_
   show awp _ _ _ _
   refine awp_R fun K hK => ?_
   simp (disch := omega) [ints, rows, scal, wr64, wr8]
   (repeat' first | apply hK | apply And.intro) <;> try first | (show okH _ _ _ = true; kernel_rfl) | omega | rfl | (simp <;> omega)
   refine ⟨(x + 1, F, B, Q1), ⟨by simp only; omega, hP, R, hR⟩, by simp only; omega, ?_⟩
   refine wk_list [(0, some 0), (1, some 1), (2, some 2), (3, some 3)] rfl ?_ ?_ ?_ ?_
   all_goals try simp [ints, prH, prS, prO]
 ·refine awp_cond (b := false) (p := 2) (by simp [scal, hxl] <;> omega) ?_
  refine awp_exit ?_
  refine ⟨⟨_, _, ⟨F, B, Q1, hP, hR, rfl, rfl⟩, resQ_G ⟨.inl rfl, _, [(0, some 0), (1, some 1), (2, some 2), (3, some 3)], rfl, ?_, ?_, ?_, ?_⟩⟩, ?_⟩
  all_goals simp [ints, rows, scal, prH, prS, prO]

attribute [local simp] KL_ap KD_ap awpL_nil awpL_cons awpD_nil awpD_cons awpOp awpOpD wrE gd aop aBuiltin aNil aMin ASt.eval AV.ofV dstOk ASt.app Eff.heap dels upd_b aLoad aStore aField aFieldV aIndexAddr aIndex aSlice aSliceO aLen aBin iB sB aUn aConv aAlloc aBox aBuild afill avCells AV.leaf setR aBuildSlice frz frzL isOwn vecOf tsOf aMake srcOf aAppend aMkMap aMapUpd aLookup oint cut putL AObj.cnt mkS envOf_nil envOf_cons heapOf_nil heapOf_cons argS Nat.blt_eq callS outV outVs outO heap2 addL delL List.getElem?_cons_zero wkE wkP wkPs wkH wkO keysNd unm mpOf_nil mpOf_cons ghA ghA1 ndL okO inPs inP inOs inO
set_option linter.unusedSimpArgs false

theorem MoOK.sixM {L a : Nat} {m : Mo} (h : MoOK L a m) (hL : L ≤ 6) : MoOK 6 a m := by
 have e : 2 ^ L ≤ 2 ^ 6 := Nat.pow_le_pow_right (by omega) hL
 exact ⟨h.sl, h.ll, fun x hx => by have := h.sv x hx; omega, fun x hx => by have := h.lv x hx; omega⟩
theorem st_last {M W p q d : Nat} (hp : p < M) (hq : q < W) (hd : d < 2) (h : (p * W + q) * 2 + d + 1 = M * W * 2) : p = M - 1 ∧ q = W - 1 ∧ d = 1 := by
 have hd1 : d = 1 := by omega
 have e : p * W + q + 1 = M * W := by omega
 have hpM : p = M - 1 := by
  by_cases h2 : p + 1 < M
  ·have h3 : (p + 2) * W ≤ M * W := Nat.mul_le_mul_right _ h2
   rw [Nat.add_mul] at h3
   omega
  ·omega
 obtain ⟨M', rfl⟩ : ∃ M', M = M' + 1 := ⟨M - 1, by omega⟩
 have hp' : p = M' := by omega
 subst hp'
 rw [Nat.add_mul] at e
 exact ⟨by omega, by omega, hd1⟩
theorem rep0_T (N : Nat) : List.replicate N (T.int .i64 0) = i64T (List.replicate N 0) := by simp [i64T]
theorem rep0_U (N : Nat) : List.replicate N (T.int .u8 0) = u8T (List.replicate N 0) := by simp [u8T]
theorem PqI.start {m n : Mo} {I : Nat → Nat → Nat → Prop} {N : Nat} (hN : N = m.1.length * n.1.length * 2) (hm : 0 < m.1.length) (hn : 0 < n.1.length) (h0 : I 0 0 0) : PqI m n I ((List.replicate N (0 : Int)).set 0 1) (List.replicate N 0) [0] := by
 have hN0 : 0 < N := by rw [hN]; exact Nat.mul_pos (Nat.mul_pos hm hn) (by omega)
 refine ⟨by simp [hN], by simp [hN], ?_, fun e he => ?_⟩
 ·rw [countP_put (by simpa using hN0) (by simp) (by omega)]
  simp [List.countP_replicate]
 ·simp only [List.mem_singleton] at he
  exact ⟨0, 0, 0, hm, hn, by omega, h0, by omega⟩
set_option maxRecDepth 100000 in
set_option maxHeartbeats 16000000 in
theorem common_fn {L : Nat} {m n : Mo} (hm : MoOK 6 60 m) (hn : MoOK 6 60 n) (hL2 : L ≤ 6) {I : Nat → Nat → Nat → Prop} (h0 : I 0 0 0) (hcl : ∀ p q d a, p < m.1.length → q < n.1.length → d < 2 → a < L → I p q d → ∀ i ∈ tgM m p a, ∀ j ∈ tgM n q a, I i j (nxD d i j)) (hend : ¬ I (m.1.length - 1) (n.1.length - 1) 1) :
  FnA Tryd.prog 57 [moV 1 m, moV 1 n, .t 2 (.int .i64 L), .t 2 (.bool true)] (.tup [.t 2 (.str (strL [])), .t 2 (.bool false)]) := by
 have hms := hm.sl
 have hml := hm.ll
 have hns := hn.sl
 have hnl := hn.ll
 obtain ⟨N0, hN0⟩ : ∃ N0, N0 = m.1.length * n.1.length := ⟨_, rfl⟩
 have hN1 : N0 ≤ 3721 := by rw [hN0]; exact mul61 (by omega) (by omega)
 have hN2 : 0 < N0 := by rw [hN0]; exact Nat.mul_pos (by omega) (by omega)
 have kk : (m.1.length : Int) * (n.1.length : Int) = (N0 : Int) := by rw [hN0]; push_cast; rfl
 obtain ⟨N, hN⟩ : ∃ N, N = N0 * 2 := ⟨_, rfl⟩
 have kk2 : (N0 : Int) * 2 = (N : Int) := by rw [hN]; push_cast; rfl
 have hNe : N = m.1.length * n.1.length * 2 := by rw [hN, hN0]
 have hst := PqI.start (I := I) hNe (by omega) (by omega) h0
 refine fn_intro Tryd.func57 rfl (by simp [Tryd.f57]) ?_
 rw [show Tryd.f57.ntmps = 89 from rfl, show Tryd.f57.results = #[.tmp 8, .tmp 9] from rfl]
 refine awp_seqR fun K hK => ?_
 simp (disch := omega) [ints, rows, scal, wr64, wr8, moV]
 (repeat' first | apply hK | apply And.intro) <;> try first | (show okH _ _ _ = true; kernel_rfl) | omega | rfl | (simp <;> omega)
 refine awp_seqR fun K hK => ?_
 simp (disch := omega) [ints, rows, scal, wr64, wr8, kk, kk2]
 (repeat' first | apply hK | apply And.intro) <;> try first | (show okH _ _ _ = true; kernel_rfl) | omega | rfl | (simp <;> omega)
 refine awp_seqD (by kernel_rfl) (fun K hK => ?_)
 simp (disch := omega) [ints, rows, scal, wr64, wr8]
 (repeat' first | apply hK | apply And.intro) <;> try first | (show chkD _ _ = true; kernel_rfl) | (show okH _ _ _ = true; kernel_rfl) | omega | rfl | (simp <;> omega)
 refine awp_seqR fun K hK => ?_
 simp (disch := omega) [ints, rows, scal, wr64, wr8]
 (repeat' first | apply hK | apply And.intro) <;> try first | (show okH _ _ _ = true; kernel_rfl) | omega | rfl | (simp <;> omega)
 refine awp_seq ?_
 refine awp_seqR fun K hK => ?_
 simp (disch := omega) [ints, rows, scal, wr64, wr8]
 (repeat' first | apply hK | apply And.intro) <;> try first | (show okH _ _ _ = true; kernel_rfl) | omega | rfl | (simp <;> omega)
 refine awp_cond (b := true) (p := 2) (by simp [scal] <;> omega) ?_
 refine awp_R fun K hK => ?_
 simp (disch := omega) [ints, rows, scal, wr64, wr8]
 (repeat' first | apply hK | apply And.intro) <;> try first | (show okH _ _ _ = true; kernel_rfl) | omega | rfl | (simp <;> omega)
 show awp _ _ _ _
 refine awp_seqR fun K hK => ?_
 simp (disch := omega) [ints, rows, scal, wr64, wr8, rep0_T, i64T_set]
 (repeat' first | apply hK | apply And.intro) <;> try first | (show okH _ _ _ = true; kernel_rfl) | omega | rfl | (simp <;> omega)
 refine awp_seqR fun K hK => ?_
 simp (disch := omega) [ints, rows, scal, wr64, wr8]
 (repeat' first | apply hK | apply And.intro) <;> try first | (show okH _ _ _ = true; kernel_rfl) | omega | rfl | (simp <;> omega)
 refine awp_seq ?_
 refine awp_seqR fun K hK => ?_
 simp (disch := omega) [ints, rows, scal, wr64, wr8]
 (repeat' first | apply hK | apply And.intro) <;> try first | (show okH _ _ _ = true; kernel_rfl) | omega | rfl | (simp <;> omega)
 refine awp_block ?_
 refine awp_loop (fun y : Nat × List Int × List Int × List Nat => mkS [(2, .t 2 (.int .i64 L)), (10, .t 2 (.int .i64 N)), (11, .ptr 0 0 7), (12, .t 2 (.int .i64 0)), (13, .t 2 (.int .i64 y.1))] (prS m n y.2.1 y.2.2.1 y.2.2.2) 4 89 [.any, .any, .any, .any]) (fun y => y.1 ≤ y.2.2.2.length ∧ PqI m n I y.2.1 y.2.2.1 y.2.2.2) (fun y => N - y.1) ?_ ?_
 ·refine ⟨(0, (List.replicate N 0).set 0 1, List.replicate N 0, [0]), ⟨by simp, hst⟩, ?_⟩
  refine wk_list [(0, some 20000000), (1, some 41000000), (2, some 16000000), (3, some 18000000)] rfl ?_ ?_ ?_ ?_
  all_goals try simp [ints, prS, prO, rep0_T, rep0_U, i64T_set, natsT]
 rintro ⟨i, F, B, Q⟩ ⟨hi, hP⟩
 simp only at hi hP
 have hQN : Q.length ≤ N := by rw [hNe]; exact hP.le
 refine awp_seq ?_
 refine awp_seqR fun K hK => ?_
 simp (disch := omega) [ints, rows, scal, wr64, wr8, prS, prO]
 (repeat' first | apply hK | apply And.intro) <;> try first | (show okH _ _ _ = true; kernel_rfl) | omega | rfl | (simp <;> omega)
 by_cases hil : i < Q.length
 ·obtain ⟨p, q, d, hp, hq, hd, hI, he⟩ := hP.qi Q[i] (by simp)
  obtain ⟨s, hs⟩ : ∃ s, s = Q[i] := ⟨_, rfl⟩
  rw [← hs] at he
  have hQi : Q[i]? = some s := by rw [List.getElem?_eq_getElem hil, hs]
  have hTi := natsT_at hQi
  have hsl : s < N := by rw [he, hNe]; exact idq_lt hp hq hd
  have hne : ¬ s + 1 = N := fun h => by
   rw [he, hNe] at h
   obtain ⟨e1, e2, e3⟩ := st_last hp hq hd h
   subst e1 e2 e3
   exact hend hI
  have hnb : ((s : Int) == (N : Int) - 1) = false := beq_eq_false_iff_ne.2 (by omega)
  have hnp : ¬ (s : Int) = (N : Int) - 1 := by omega
  refine awp_cond (b := true) (p := 2) (by simp [scal, hil] <;> omega) ?_
  refine awp_skip ?_
  show awp _ _ _ _
  refine awp_seq ?_
  refine awp_block ?_
  refine awp_seq ?_
  refine awp_seqR fun K hK => ?_
  simp (disch := omega) [ints, rows, scal, wr64, wr8, prS, prO, hTi, hnb]
  (repeat' first | apply hK | apply And.intro) <;> try first | (show okH _ _ _ = true; kernel_rfl) | omega | rfl | (simp <;> omega)
  refine awp_cond (b := false) (p := 2) (by simp [scal, hnp, hnb] <;> omega) ?_
  refine awp_skip ?_
  show awp _ _ _ _
  refine awp_seqR fun K hK => ?_
  simp (disch := omega) [ints, rows, scal, wr64, wr8]
  (repeat' first | apply hK | apply And.intro) <;> try first | (show okH _ _ _ = true; kernel_rfl) | omega | rfl | (simp <;> omega)
  refine awp_block ?_
  refine awp_loop (fun y : Nat × List Int × List Int × List Nat => mkS [(2, .t 2 (.int .i64 L)), (10, .t 2 (.int .i64 N)), (11, .ptr 0 0 7), (12, .t 2 (.int .i64 0)), (13, .t 2 (.int .i64 i)), (74, .t 2 (.int .i64 L)), (75, .t 2 (.int .i64 y.1))] (prS m n y.2.1 y.2.2.1 y.2.2.2) 4 89 [.any, .any, .any, .any]) (fun y => y.1 ≤ L ∧ PqI m n I y.2.1 y.2.2.1 y.2.2.2 ∧ ∃ R, y.2.2.2 = Q ++ R) (fun y => L - y.1) ?_ ?_
  ·refine ⟨(0, F, B, Q), ⟨by simp, hP, [], by simp⟩, ?_⟩
   refine wk_list [(0, some 0), (1, some 1), (2, some 2), (3, some 3)] rfl ?_ ?_ ?_ ?_
   all_goals try simp [ints, prS, prO]
  clear hTi hP hs
  rintro ⟨a, F, B, Q2⟩ ⟨ha, hP, R, hR⟩
  simp only at ha hP hR
  have hQ2 : Q2.length = Q.length + R.length := by rw [hR]; simp
  have hQN2 : Q2.length ≤ N := by rw [hNe]; exact hP.le
  refine awp_seqR fun K hK => ?_
  simp (disch := omega) [ints, rows, scal, wr64, wr8]
  (repeat' first | apply hK | apply And.intro) <;> try first | (show okH _ _ _ = true; kernel_rfl) | omega | rfl | (simp <;> omega)
  refine awp_seq ?_
  by_cases hal : a < L
  ·have hQi2 : Q2[i]? = some s := by rw [hR, List.getElem?_append_left hil]; exact hQi
   have hTi := natsT_at hQi2
   have hil2 : i < Q2.length := by omega
   obtain ⟨_, _, ⟨F', B', Q', hP', ⟨R', hR'⟩, rfl, rfl⟩, hread⟩ := read_fn hm hn hp hq hd (show a < 6 by omega) (hcl p q d a hp hq hd hal hI) hP
   rw [← he] at hread
   refine awp_cond (b := true) (p := 2) (by simp [scal, hal] <;> omega) ?_
   refine awp_skip ?_
   show awp _ _ _ _
   refine awp_seq ?_
   refine awp_block ?_
   refine awp_seqR fun K hK => ?_
   simp (disch := omega) [ints, rows, scal, wr64, wr8]
   (repeat' first | apply hK | apply And.intro) <;> try first | (show okH _ _ _ = true; kernel_rfl) | omega | rfl | (simp <;> omega)
   refine awp_R fun K hK => ?_
   simp (disch := omega) [ints, rows, scal, wr64, wr8, prS, prO, hTi]
   (repeat' apply And.intro)
   all_goals (try omega)
   refine call_rule (caps := []) (hread) [0, 1, 2, 3] [0, 12000004, 12000005, 12000006] 1 rfl rfl rfl rfl (by kernel_rfl) (by simp) ?_ ?_ (by simp) rfl (by simp) ⟨.inr ⟨rfl, 0, _, _, _, _, _, rfl, rfl, (by first | rfl | simp [prH, prO]), rfl, (by first | rfl | simp [prH, prO])⟩, .inl ⟨by omega, by omega⟩, .inl ⟨by omega, by omega⟩, .inl ⟨by omega, by omega⟩, trivial⟩ (by simp [prH, prO]) ?_
   ·simp [scal, rows, ints, prH, prO]
   ·simp [scal, rows, ints, prH, prO]
   simp (disch := omega) [ints, rows, scal, wr64, wr8, prS, prH, prO]
   (repeat' first | apply hK | apply And.intro) <;> try first | (show okH _ _ _ = true; kernel_rfl) | omega | rfl | (simp <;> omega)
   show awp _ _ _ _
   refine awp_R fun K hK => ?_
   simp (disch := omega) [ints, rows, scal, wr64, wr8]
   (repeat' first | apply hK | apply And.intro) <;> try first | (show okH _ _ _ = true; kernel_rfl) | omega | rfl | (simp <;> omega)
   refine ⟨(a + 1, F', B', Q'), ⟨by simp only; omega, hP', R ++ R', by rw [hR', hR, List.append_assoc]⟩, by simp only; omega, ?_⟩
   refine wk_list [(0, some 0), (1, some 12000004), (2, some 12000005), (3, some 12000006)] rfl ?_ ?_ ?_ ?_
   all_goals try simp [ints, prS, prH, prO]
  ·refine awp_cond (b := false) (p := 2) (by simp [scal, hal] <;> omega) ?_
   refine awp_exit ?_
   show awp _ _ _ _
   refine awp_R fun K hK => ?_
   simp (disch := omega) [ints, rows, scal, wr64, wr8]
   (repeat' first | apply hK | apply And.intro) <;> try first | (show okH _ _ _ = true; kernel_rfl) | omega | rfl | (simp <;> omega)
   refine ⟨(i + 1, F, B, Q2), ⟨by simp only; omega, hP⟩, by simp only; omega, ?_⟩
   refine wk_list [(0, some 0), (1, some 1), (2, some 2), (3, some 3)] rfl ?_ ?_ ?_ ?_
   all_goals try simp [ints, prS, prO]
 ·refine awp_cond (b := false) (p := 2) (by simp [scal, hil] <;> omega) ?_
  refine awp_exit ?_
  show awp _ _ _ _
  refine awp_seqR fun K hK => ?_
  simp (disch := omega) [ints, rows, scal, wr64, wr8]
  (repeat' first | apply hK | apply And.intro) <;> try first | (show okH _ _ _ = true; kernel_rfl) | omega | rfl | (simp <;> omega)
  refine awp_ret ?_
  refine ⟨⟨.inr rfl, _, [], rfl, trivial, trivial, by simp [strL, moV], ?_⟩, by simp [strL, moV]⟩
  simp [strL, moV]
set_option maxRecDepth 100000 in
set_option maxHeartbeats 8000000 in
theorem unamb_fn {L : Nat} {m : Mo} (hm : MoOK L 60 m) (hL : 1 ≤ L) (hL2 : L ≤ 6) {I : Nat → Nat → Nat → Prop} (h0 : I 0 0 0) (hcl : ∀ p q d a, p < m.1.length → q < m.1.length → d < 2 → a < L → I p q d → ∀ i ∈ tgM m p a, ∀ j ∈ tgM m q a, I i j (nxD d i j)) (hend : ¬ I (m.1.length - 1) (m.1.length - 1) 1) :
  FnA Tryd.prog 27 [moV 1 m, .t 2 (.int .i64 L)] (.tup [.t 2 (.str (strL [])), .t 2 (.bool true), .t 2 (.int .i64 0)]) := by
 have h6 := hm.sixM hL2
 have hval := mvalidate_fn hm hL hL2
 have hcom := common_fn (L := L) h6 h6 hL2 h0 hcl hend
 refine fn_intro Tryd.func27 rfl (by simp [Tryd.f27]) ?_
 rw [show Tryd.f27.ntmps = 26 from rfl, show Tryd.f27.results = #[.tmp 4, .tmp 5, .tmp 6] from rfl]
 refine awp_seqR fun K hK => ?_
 simp (disch := omega) [ints, rows, scal, wr64, wr8, moV]
 (repeat' first | apply hK | apply And.intro) <;> try first | (show okH _ _ _ = true; kernel_rfl) | omega | rfl | (simp <;> omega)
 refine awp_seq ?_
 refine awp_seqR fun K hK => ?_
 simp (disch := omega) [ints, rows, scal, wr64, wr8]
 (repeat' apply And.intro)
 all_goals (try omega)
 refine call_rule (caps := []) (hval) [] [] 2 rfl rfl rfl rfl (by kernel_rfl) (by simp) ?_ trivial trivial rfl trivial trivial (by simp) ?_
 ·simp [scal, rows, ints, moV]
 simp (disch := omega) [ints, rows, scal, wr64, wr8]
 (repeat' first | apply hK | apply And.intro) <;> try first | (show okH _ _ _ = true; kernel_rfl) | omega | rfl | (simp <;> omega)
 refine awp_seqR fun K hK => ?_
 simp (disch := omega) [ints, rows, scal, wr64, wr8]
 (repeat' first | apply hK | apply And.intro) <;> try first | (show okH _ _ _ = true; kernel_rfl) | omega | rfl | (simp <;> omega)
 refine awp_cond (b := false) (p := 2) (by simp [scal] <;> omega) ?_
 refine awp_skip ?_
 show awp _ _ _ _
 refine awp_seqR fun K hK => ?_
 simp (disch := omega) [ints, rows, scal, wr64, wr8]
 (repeat' apply And.intro)
 all_goals (try omega)
 refine call_rule (caps := []) (hcom) [] [] 1 rfl rfl rfl rfl (by kernel_rfl) (by simp) ?_ ?_ (by simp) rfl (by simp) trivial (by simp [moV]) ?_
 ·simp [scal, rows, ints, moV]
 ·trivial
 simp (disch := omega) [ints, rows, scal, wr64, wr8]
 (repeat' first | apply hK | apply And.intro) <;> try first | (show okH _ _ _ = true; kernel_rfl) | omega | rfl | (simp <;> omega)
 refine awp_seqR fun K hK => ?_
 simp (disch := omega) [ints, rows, scal, wr64, wr8]
 (repeat' first | apply hK | apply And.intro) <;> try first | (show okH _ _ _ = true; kernel_rfl) | omega | rfl | (simp <;> omega)
 refine awp_ret ?_
 refine ⟨⟨.inr rfl, _, [], rfl, trivial, trivial, by simp [moV], ?_⟩, by simp [moV]⟩
 simp [moV]
theorem unambD_fn {L : Nat} {m : Mo} (hm : MoOK L 60 m) (hL : 1 ≤ L) (hL2 : L ≤ 6) (hd : ∀ k (h1 : k < m.1.length) (h2 : k < m.2.length), m.1[k].testBit m.2[k] = false) :
  FnA Tryd.prog 27 [moV 1 m, .t 2 (.int .i64 L)] (.tup [.t 2 (.str (strL [])), .t 2 (.bool true), .t 2 (.int .i64 0)]) := by
 refine unamb_fn hm hL hL2 (I := fun p q d => p = q ∧ d = 0) ⟨rfl, rfl⟩ ?_ (fun h => by have := h.2; omega)
 rintro p q d a hp hq hd2 ha ⟨rfl, rfl⟩ i hi j hj
 have e : i = j := by
  have e1 : m.1.getD p 0 = m.1[p] := by rw [List.getD_eq_getElem?_getD, List.getElem?_eq_getElem hp]; rfl
  unfold tgM at hi hj
  by_cases c2 : p < m.2.length ∧ m.2.getD p 0 = a
  ·have c1 := c2.1
   have e2 : m.2.getD p 0 = m.2[p] := by rw [List.getD_eq_getElem?_getD, List.getElem?_eq_getElem c1]; rfl
   have := hd p hp c1
   rw [← e2, c2.2] at this
   rw [e1, this, if_pos c2] at hi hj
   simp at hi hj
   omega
  ·rw [if_neg c2] at hi hj
   split at hi
   ·rw [if_pos (by assumption)] at hj
    simp at hi hj
    omega
   ·simp at hi
 subst e
 exact ⟨rfl, by simp [nxD]⟩
theorem unambC_fn {L : Nat} {m : Mo} (hm : MoOK L 60 m) (hL : 1 ≤ L) (hL2 : L ≤ 6) (hd : ∀ k (h1 : k + 1 < m.1.length) (h2 : k < m.2.length), m.1[k + 1].testBit m.2[k] = false) :
  FnA Tryd.prog 27 [moV 1 m, .t 2 (.int .i64 L)] (.tup [.t 2 (.str (strL [])), .t 2 (.bool true), .t 2 (.int .i64 0)]) := by
 have hs := hm.sl
 refine unamb_fn hm hL hL2 (I := fun p q d => p = q → d = 0) (fun _ => rfl) ?_ (fun h => by have := h rfl; omega)
 intro p q d a hp hq hd2 ha hI i hi j hj hij
 subst hij
 have key : ∀ r, r < m.1.length → i ∈ tgM m r a → (i = r ∧ (m.1.getD r 0).testBit a = true) ∨ (i = r + 1 ∧ ∃ h : r < m.2.length, m.2[r] = a) := fun r hr h => by
  unfold tgM at h
  rcases List.mem_append.1 h with h | h
  ·split at h
   ·simp at h; exact .inl ⟨h, by assumption⟩
   ·simp at h
  ·split at h
   ·rename_i c
    simp at h
    refine .inr ⟨h, c.1, ?_⟩
    have := c.2
    rwa [List.getD_eq_getElem?_getD, List.getElem?_eq_getElem c.1] at this
   ·simp at h
 have noth : ∀ r, (h : r < m.2.length) → m.2[r] = a → (m.1.getD (r + 1) 0).testBit a = true → False := fun r h e b => by
  have h1 : r + 1 < m.1.length := by omega
  have := hd r h1 h
  rw [e] at this
  rw [List.getD_eq_getElem?_getD, List.getElem?_eq_getElem h1, Option.getD_some, this] at b
  cases b
 have hpq : p = q := by
  rcases key p hp hi with ⟨e1, b1⟩ | ⟨e1, h1, l1⟩ <;> rcases key q hq hj with ⟨e2, b2⟩ | ⟨e2, h2, l2⟩
  ·omega
  ·exfalso
   have : p = q + 1 := by omega
   subst this
   exact noth q h2 l2 b1
  ·exfalso
   have : q = p + 1 := by omega
   subst this
   exact noth p h1 l1 b2
  ·omega
 have := hI hpq
 subst this
 simp [nxD]

attribute [local simp] KL_ap KD_ap awpL_nil awpL_cons awpD_nil awpD_cons awpOp awpOpD wrE gd aop aBuiltin aNil aMin ASt.eval AV.ofV dstOk ASt.app Eff.heap dels upd_b aLoad aStore aField aFieldV aIndexAddr aIndex aSlice aSliceO aLen aBin iB sB aUn aConv aAlloc aBox aBuild afill avCells AV.leaf setR aBuildSlice frz frzL isOwn vecOf tsOf aMake srcOf aAppend aMkMap aMapUpd aLookup oint cut putL AObj.cnt mkS envOf_nil envOf_cons heapOf_nil heapOf_cons argS Nat.blt_eq callS outV outVs outO heap2 addL delL List.getElem?_cons_zero wkE wkP wkPs wkH wkO keysNd unm mpOf_nil mpOf_cons ghA ghA1
set_option linter.unusedSimpArgs false

theorem shlM {x k : Nat} (hk : k ≤ 64) : shlI .u64 (x : Int) (k : Int) = ((x * 2 ^ k % 18446744073709551616 : Nat) : Int) := by
 unfold shlI
 have e : min (k : Int).toNat IntKind.u64.bits = k := by
  show min (k : Int).toNat 64 = k
  omega
 rw [e, show ((x : Int) * 2 ^ k) = ((x * 2 ^ k : Nat) : Int) by push_cast; rfl, IntKind.wrap_u64]
 rfl
theorem shl_bit_of {x k j : Nat} (h : (x * 2 ^ k % 18446744073709551616).testBit j = true) : k ≤ j ∧ x.testBit (j - k) = true := by
 rw [show (18446744073709551616 : Nat) = 2 ^ 64 from rfl, Nat.testBit_mod_two_pow, ← Nat.shiftLeft_eq, Nat.testBit_shiftLeft] at h
 simp only [Bool.and_eq_true, decide_eq_true_eq] at h
 exact ⟨h.2.1, h.2.2⟩
theorem mod64 (x : Nat) : x % 18446744073709551616 < 18446744073709551616 := Nat.mod_lt _ (by omega)
structure FlI (R : Nat → Prop) (now op s : Nat) : Prop where
 nl : now < 18446744073709551616
 ol : op < 18446744073709551616
 s1 : 1 ≤ s
 s2 : s ≤ 126
 rn : ∀ j, now.testBit j = true → R j
 ro : ∀ j, op.testBit j = true → s ≤ j → R (j - s) → R j
theorem FlI.next {R : Nat → Prop} {now op s : Nat} (h : FlI R now op s) (hs : s < 64) : FlI R (now ||| (op &&& (now * 2 ^ s % 18446744073709551616))) (op &&& (op * 2 ^ s % 18446744073709551616)) (s * 2) := by
 refine ⟨Nat.or_lt_two_pow (n := 64) h.nl (Nat.and_lt_two_pow (n := 64) _ (mod64 _)), Nat.and_lt_two_pow (n := 64) _ (mod64 _), by have := h.s1; omega, by omega, fun j hj => ?_, fun j hj hsj hR => ?_⟩
 ·rw [Nat.testBit_or, Nat.testBit_and, Bool.or_eq_true, Bool.and_eq_true] at hj
  rcases hj with hj | ⟨h1, h2⟩
  ·exact h.rn j hj
  ·obtain ⟨h3, h4⟩ := shl_bit_of h2
   exact h.ro j h1 h3 (h.rn _ h4)
 ·rw [Nat.testBit_and, Bool.and_eq_true] at hj
  obtain ⟨h3, h4⟩ := shl_bit_of hj.2
  refine h.ro j hj.1 h3 (h.ro (j - s) h4 (by omega) ?_)
  rw [show j - s - s = j - s * 2 by omega]
  exact hR
set_option maxRecDepth 100000 in
set_option maxHeartbeats 4000000 in
theorem flood_fn {now op : Nat} {R : Nat → Prop} (h1 : now < 18446744073709551616) (h2 : op < 18446744073709551616) (hn : ∀ j, now.testBit j = true → R j) (ho : ∀ j, op.testBit (j + 1) = true → R j → R (j + 1)) :
  ∃ res, (∃ r : Nat, r < 18446744073709551616 ∧ (∀ j, r.testBit j = true → R j) ∧ res = .t 2 (.int .u64 r)) ∧ FnS Tryd.prog 82 [.t 2 (.int .u64 (now : Nat)), .t 2 (.int .u64 (op : Nat))] [] res [] := by
 have hI : FlI R now op 1 := ⟨h1, h2, by omega, by omega, hn, fun j hj hj1 hR => by
  obtain ⟨k, rfl⟩ : ∃ k, j = k + 1 := ⟨j - 1, by omega⟩
  exact ho k hj hR⟩
 refine fn_introE Tryd.func82 rfl (by simp [Tryd.f82]) ?_
 rw [show Tryd.f82.ntmps = 23 from rfl, show Tryd.f82.results = #[.tmp 4] from rfl]
 refine awp_seqR fun K hK => ?_
 simp (disch := omega) [ints, rows, scal, wr64, wr8]
 (repeat' first | apply hK | apply And.intro) <;> try first | (show okH _ _ _ = true; kernel_rfl) | omega | rfl | (simp <;> omega)
 refine awp_seq ?_
 refine awp_seqR fun K hK => ?_
 simp (disch := omega) [ints, rows, scal, wr64, wr8]
 (repeat' first | apply hK | apply And.intro) <;> try first | (show okH _ _ _ = true; kernel_rfl) | omega | rfl | (simp <;> omega)
 refine awp_block ?_
 refine awp_loop (fun y : Nat × Nat × Nat => mkS [(0, .t 2 (.int .u64 (y.1 : Nat))), (1, .t 2 (.int .u64 (y.2.1 : Nat))), (5, .t 2 (.int .i64 (y.2.2 : Nat)))] [] 0 23 [.any, .any]) (fun y => FlI R y.1 y.2.1 y.2.2) (fun y => 128 - y.2.2) ?_ ?_
 ·refine ⟨(now, op, 1), hI, ?_⟩
  refine wk_list [] rfl ?_ ?_ ?_ ?_
  all_goals try simp [ints]
 rintro ⟨x, o, s⟩ hJ
 simp only at hJ
 clear hI
 have hs1 := hJ.s1
 have hs2 := hJ.s2
 refine awp_seq ?_
 refine awp_seqR fun K hK => ?_
 simp (disch := omega) [ints, rows, scal, wr64, wr8]
 (repeat' first | apply hK | apply And.intro) <;> try first | (show okH _ _ _ = true; kernel_rfl) | omega | rfl | (simp <;> omega)
 by_cases hc : s < 64
 ·have k1 : shlI .u64 (x : Int) (s : Int) = ((x * 2 ^ s % 18446744073709551616 : Nat) : Int) := shlM (by omega)
  have k2 : shlI .u64 (o : Int) (s : Int) = ((o * 2 ^ s % 18446744073709551616 : Nat) : Int) := shlM (by omega)
  have m1 := mod64 (x * 2 ^ s)
  have m2 := mod64 (o * 2 ^ s)
  have hJ' := hJ.next hc
  generalize x * 2 ^ s % 18446744073709551616 = x2 at k1 m1 hJ'
  generalize o * 2 ^ s % 18446744073709551616 = o2 at k2 m2 hJ'
  have k3 := andN hJ.ol m1
  have k4 := andN hJ.ol m2
  have k5 := orN hJ.nl (Nat.and_lt_two_pow (n := 64) o m1)
  refine awp_cond (b := true) (p := 2) (by simp [scal, hc] <;> omega) ?_
  refine awp_skip ?_
  show awp _ _ _ _
  refine awp_seq ?_
  refine awp_block ?_
  refine awp_seqR fun K hK => ?_
  simp (disch := omega) [ints, rows, scal, wr64, wr8, k1, k3, k5]
  (repeat' first | apply hK | apply And.intro) <;> try first | (show okH _ _ _ = true; kernel_rfl) | omega | rfl | (simp <;> omega)
  refine awp_R fun K hK => ?_
  simp (disch := omega) [ints, rows, scal, wr64, wr8, k2, k4]
  (repeat' first | apply hK | apply And.intro) <;> try first | (show okH _ _ _ = true; kernel_rfl) | omega | rfl | (simp <;> omega)
  show awp _ _ _ _
  refine awp_R fun K hK => ?_
  simp (disch := omega) [ints, rows, scal, wr64, wr8]
  (repeat' first | apply hK | apply And.intro) <;> try first | (show okH _ _ _ = true; kernel_rfl) | omega | rfl | (simp <;> omega)
  refine ⟨(x ||| (o &&& x2), o &&& o2, s * 2), hJ', by simp only; omega, ?_⟩
  refine wk_list [] rfl ?_ ?_ ?_ ?_
  all_goals try simp [ints]
 ·refine awp_cond (b := false) (p := 2) (by simp [scal, hc] <;> omega) ?_
  refine awp_exit ?_
  show awp _ _ _ _
  refine awp_seqR fun K hK => ?_
  simp (disch := omega) [ints, rows, scal, wr64, wr8]
  (repeat' first | apply hK | apply And.intro) <;> try first | (show okH _ _ _ = true; kernel_rfl) | omega | rfl | (simp <;> omega)
  refine awp_ret ?_
  refine ⟨_, ⟨x, hJ.nl, hJ.rn, rfl⟩, ?_⟩
  refine ⟨⟨.inr rfl, _, [], rfl, trivial, trivial, by simp, ?_⟩, by simp⟩
  simp

attribute [local simp] KL_ap KD_ap awpL_nil awpL_cons awpD_nil awpD_cons awpOp awpOpD wrE gd aop aBuiltin aNil aMin ASt.eval AV.ofV dstOk ASt.app Eff.heap dels upd_b aLoad aStore aField aFieldV aIndexAddr aIndex aSlice aSliceO aLen aBin iB sB aUn aConv aAlloc aBox aBuild afill avCells AV.leaf setR aBuildSlice frz frzL isOwn vecOf tsOf aMake srcOf aAppend aMkMap aMapUpd aLookup oint cut putL AObj.cnt mkS envOf_nil envOf_cons heapOf_nil heapOf_cons argS Nat.blt_eq callS outV outVs outO heap2 addL delL List.getElem?_cons_zero wkE wkP wkPs wkH wkO keysNd unm mpOf_nil mpOf_cons ghA ghA1 okO inPs inP idxF resV
set_option linter.unusedSimpArgs false

structure MeR (m n : Mo) (R : Nat → Nat → Prop) : Prop where
 r0 : R 0 0
 free : ∀ p q a, p < m.1.length → a < 6 → (m.1.getD p 0).testBit a = true → q < n.2.length → n.2.getD q 6 = a → R p q → R p (q + 1)
 stay : ∀ p q a, p < m.2.length → m.2.getD p 6 = a → q ≤ n.2.length → (n.1.getD q 0).testBit a = true → R p q → R (p + 1) q
 step : ∀ p q a, p < m.2.length → m.2.getD p 6 = a → q < n.2.length → n.2.getD q 6 = a → R p q → R (p + 1) (q + 1)
 no : ¬ R m.2.length n.2.length
def freF (s : Nat) (n : Mo) : Nat → Nat
 | 0 => 0
 | a + 1 => if s.testBit a then freF s n a ||| stepF n.2 a n.2.length else freF s n a
theorem freF_lt (s : Nat) (n : Mo) : ∀ a, freF s n a < 2 ^ n.2.length
 | 0 => Nat.pow_pos (by omega)
 | a + 1 => by
  unfold freF
  split
  ·exact Nat.or_lt_two_pow (freF_lt s n a) (stepF_lt _ _ _)
  ·exact freF_lt s n a
theorem freF_bit (s : Nat) (n : Mo) {q : Nat} : ∀ a, (freF s n a).testBit q = true → ∃ b, b < a ∧ s.testBit b = true ∧ q < n.2.length ∧ n.2.getD q 6 = b
 | 0, h => by simp [freF] at h
 | a + 1, h => by
  unfold freF at h
  split at h
  ·rename_i c
   rw [Nat.testBit_or, Bool.or_eq_true] at h
   rcases h with h | h
   ·obtain ⟨b, h1, h2⟩ := freF_bit s n a h
    exact ⟨b, by omega, h2⟩
   ·rw [stepF_bit] at h
    simp only [Bool.and_eq_true, decide_eq_true_eq] at h
    exact ⟨a, by omega, c, h.1, h.2⟩
  ·obtain ⟨b, h1, h2⟩ := freF_bit s n a h
   exact ⟨b, by omega, h2⟩
def mvTT (n : Mo) : List T := tab 12 fun k => .int .u64 (mvF n n.1.length n.2.length k : Nat)
theorem mvTT_get (n : Mo) {k : Nat} (h : k < 12) : (mvTT n)[k]? = some (.int .u64 (mvF n n.1.length n.2.length k : Nat)) := tab_get _ h
def stpT (n : Mo) : List AV := tab 6 fun a => .t 2 (.int .u64 (stepF n.2 a n.2.length : Nat))
theorem stpT_get (n : Mo) {a : Nat} (h : a < 6) : (stpT n)[a]? = some (.t 2 (.int .u64 (stepF n.2 a n.2.length : Nat))) := tab_get _ h
theorem stpT_getE (n : Mo) {a : Nat} (h : a < (stpT n).length) : (stpT n)[a] = .t 2 (.int .u64 (stepF n.2 a n.2.length : Nat)) := by
 have := stpT_get n (a := a) (by simpa [stpT] using h)
 rw [List.getElem?_eq_getElem h] at this
 exact Option.some.inj this
theorem stpT_len (n : Mo) : (stpT n).length = 6 := by simp [stpT]
theorem mv_cell {cs : List T} {n : Mo} {off : Nat} (hc : (cs.drop off).take 12 = mvTT n) {k : Nat} (hk : k < 12) : cs[off + k]? = some (.int .u64 (mvF n n.1.length n.2.length k : Nat)) := by
 rw [← mvTT_get n hk, ← hc, List.getElem?_take_of_lt hk, List.getElem?_drop]
theorem mv_step {cs : List T} {n : Mo} {off : Nat} (hc : (cs.drop off).take 12 = mvTT n) : List.take 6 (List.drop (off + 6) (List.map (fun x => AV.t (lvT 1 x) x) cs)) = stpT n := by
 rw [← List.map_drop, ← List.map_take]
 have e : List.take 6 (List.drop (off + 6) cs) = (tab 6 fun a => T.int .u64 (stepF n.2 a n.2.length : Nat)) := by
  refine List.ext_getElem? fun k => ?_
  by_cases hk : k < 6
  ·rw [List.getElem?_take_of_lt hk, List.getElem?_drop, Nat.add_assoc, mv_cell hc (by omega), tab_get _ hk]
   unfold mvF
   rw [if_neg (by omega), show 6 + k - 6 = k by omega]
  ·rw [List.getElem?_eq_none (by simp; omega), List.getElem?_eq_none (by simp; omega)]
 rw [e]
 rfl
set_option maxRecDepth 100000 in
set_option maxHeartbeats 16000000 in
theorem meet_fn {m n : Mo} (hm : MoOK 6 60 m) (hn : MoOK 6 60 n) {R : Nat → Nat → Prop} (hR : MeR m n R) {off : Nat} {cs : List T} (hc : (cs.drop off).take 12 = mvTT n) (hoff : off + 12 ≤ cs.length) (hcl : cs.length ≤ 100000) :
  FnK Tryd.prog 58 [moV 0 m, moV 0 n, .ptr 0 off cs.length] [.row 76 12 1 cs] (.t 2 (.bool false)) [.row 76 12 1 cs] [0] := by
 have hms := hm.sl
 have hml := hm.ll
 have hns := hn.sl
 have hnl := hn.ll
 have hp60 : (2 : Nat) ^ (n.2.length + 1) ≤ 2 ^ 61 := Nat.pow_le_pow_right (by omega) (by omega)
 have hp61 : (2 : Nat) ^ n.2.length ≤ 2 ^ 60 := Nat.pow_le_pow_right (by omega) (by omega)
 refine fn_introK 0 cs.length rfl rfl rfl rfl Tryd.func58 rfl (by simp [Tryd.f58]) ?_
 rw [show Tryd.f58.ntmps = 81 from rfl, show Tryd.f58.results = #[.tmp 6] from rfl]
 refine awp_seqR fun K hK => ?_
 simp (disch := omega) [ints, rows, scal, wr64, wr8, moV]
 (repeat' first | apply hK | apply And.intro) <;> try first | (show okH _ _ _ = true; kernel_rfl) | omega | rfl | (simp <;> omega)
 refine awp_seqR fun K hK => ?_
 simp (disch := omega) [ints, rows, scal, wr64, wr8]
 (repeat' first | apply hK | apply And.intro) <;> try first | (show okH _ _ _ = true; kernel_rfl) | omega | rfl | (simp <;> omega)
 refine awp_seq ?_
 refine awp_seqR fun K hK => ?_
 simp (disch := omega) [ints, rows, scal, wr64, wr8]
 (repeat' first | apply hK | apply And.intro) <;> try first | (show okH _ _ _ = true; kernel_rfl) | omega | rfl | (simp <;> omega)
 refine awp_block ?_
 refine awp_loop (fun y : Nat × Nat => mkS [(2, .ptr 0 off cs.length), (3, .ptr 1 0 2), (4, .ptr 2 0 2), (7, .t 2 (.int .u64 (y.2 : Nat))), (15, .t 0 (ints (nI m.1))), (16, .t 2 (.int .i64 m.1.length)), (17, .t 2 (.int .i64 y.1))] [(0, .row 76 12 1 cs), (1, .box 37 [.t 0 (ints (nI m.1)), .t 0 (ints (nI m.2))]), (2, .box 37 [.t 0 (ints (nI n.1)), .t 0 (ints (nI n.2))])] 3 81 [.any, .any, .ptr 0 off cs.length, .own 0 cs.length]) (fun y => y.1 ≤ m.1.length ∧ y.2 < 18446744073709551616 ∧ (y.1 ≤ m.2.length → ∀ j, y.2.testBit j = true → R y.1 j) ∧ (y.1 = m.1.length → ∀ j, y.2.testBit j = true → R m.2.length j)) (fun y => m.1.length - y.1) ?_ ?_
 ·refine ⟨(0, 1), ⟨by simp, by simp, fun _ j hj => ?_, fun h => by simp at h; omega⟩, ?_⟩
  ·have : j = 0 := by
    rw [Nat.testBit_one_eq_true_iff_self_eq_zero] at hj
    exact hj
   subst this
   exact hR.r0
  refine wk_list [(0, some 0), (1, some 1), (2, some 1000001)] rfl ?_ ?_ ?_ ?_
  all_goals try simp [ints]
 rintro ⟨p, now⟩ ⟨hp, hnw, hr1, hr2⟩
 simp only at hp hnw hr1 hr2
 refine awp_seqR fun K hK => ?_
 simp (disch := omega) [ints, rows, scal, wr64, wr8]
 (repeat' first | apply hK | apply And.intro) <;> try first | (show okH _ _ _ = true; kernel_rfl) | omega | rfl | (simp <;> omega)
 refine awp_seq ?_
 by_cases hpl : p < m.1.length
 ·have g1 : (nI m.1)[p]? = some (m.1[p] : Int) := nI_get hpl
  have hs64 := set64 hm hpl
  refine awp_cond (b := true) (p := 2) (by simp [scal, hpl] <;> omega) ?_
  refine awp_skip ?_
  show awp _ _ _ _
  refine awp_seq ?_
  refine awp_block ?_
  refine awp_seqR fun K hK => ?_
  simp (disch := omega) [ints, rows, scal, wr64, wr8, g1, hpl]
  (repeat' first | apply hK | apply And.intro) <;> try first | (show okH _ _ _ = true; kernel_rfl) | omega | rfl | (simp <;> omega)
  refine awp_seqR fun K hK => ?_
  simp (disch := omega) [ints, rows, scal, wr64, wr8]
  (repeat' first | apply hK | apply And.intro) <;> try first | (show okH _ _ _ = true; kernel_rfl) | omega | rfl | (simp <;> omega)
  refine awp_seq ?_
  have hag := mv_step hc
  refine awp_seqR fun K hK => ?_
  simp (disch := omega) [ints, rows, scal, wr64, wr8, hag]
  (repeat' first | apply hK | apply And.intro) <;> try first | (show okH _ _ _ = true; kernel_rfl) | omega | rfl | (simp <;> omega)
  refine awp_block ?_
  refine awp_loop (fun a : Nat => mkS [(2, .ptr 0 off cs.length), (3, .ptr 1 0 2), (4, .ptr 2 0 2), (7, .t 2 (.int .u64 (now : Nat))), (8, .t 2 (.int .i64 p)), (9, .t 2 (.int .i64 (m.1[p] : Nat))), (10, .t 2 (.int .u64 (freF m.1[p] n a : Nat))), (15, .t 0 (ints (nI m.1))), (16, .t 2 (.int .i64 m.1.length)), (17, .t 2 (.int .i64 p)), (25, .agg (stpT n)), (26, .t 2 (.int .i64 a))] [(0, .row 76 12 1 cs), (1, .box 37 [.t 0 (ints (nI m.1)), .t 0 (ints (nI m.2))]), (2, .box 37 [.t 0 (ints (nI n.1)), .t 0 (ints (nI n.2))])] 3 81 [.any, .any, .ptr 0 off cs.length, .own 0 cs.length]) (fun a => a ≤ 6) (fun a => 6 - a) ?_ ?_
  ·refine ⟨0, by omega, ?_⟩
   refine wk_list [(0, some 0), (1, some 1), (2, some 2)] rfl ?_ ?_ ?_ ?_
   all_goals try simp [ints, freF, stpT, wkPs_tab]
  intro a ha
  refine awp_seqR fun K hK => ?_
  simp (disch := omega) [ints, rows, scal, wr64, wr8]
  (repeat' first | apply hK | apply And.intro) <;> try first | (show okH _ _ _ = true; kernel_rfl) | omega | rfl | (simp <;> omega)
  refine awp_seq ?_
  by_cases ha6 : a < 6
  ·have hsg := stpT_get n ha6
   have hsl := stpT_len n
   obtain ⟨y, y1, y2⟩ := bit_ask (a := a) hs64 (by omega)
   have hf1 := freF_lt m.1[p] n a
   have hf2 := stepF_lt n.2 a n.2.length
   refine awp_cond (b := true) (p := 2) (by simp [scal, ha6] <;> omega) ?_
   refine awp_skip ?_
   show awp _ _ _ _
   refine awp_seq ?_
   refine awp_block ?_
   refine awp_seqR fun K hK => ?_
   simp (disch := omega) [ints, rows, scal, wr64, wr8, hsg, hsl, ha6, stpT_getE]
   (repeat' first | apply hK | apply And.intro) <;> try first | (show okH _ _ _ = true; kernel_rfl) | omega | rfl | (simp <;> omega)
   by_cases hb : m.1[p].testBit a = true
   ·rw [if_pos hb] at y2
    have k1 := orN (x := freF m.1[p] n a) (y := stepF n.2 a n.2.length) (by omega) (by omega)
    have hfn : freF m.1[p] n (a + 1) = freF m.1[p] n a ||| stepF n.2 a n.2.length := by simp only [freF]; rw [if_pos hb]
    refine awp_seqR fun K hK => ?_
    simp (disch := omega) [ints, rows, scal, wr64, wr8, y1, y2]
    (repeat' first | apply hK | apply And.intro) <;> try first | (show okH _ _ _ = true; kernel_rfl) | omega | rfl | (simp <;> omega)
    refine awp_cond (b := true) (p := 2) (by simp [scal] <;> omega) ?_
    refine awp_R fun K hK => ?_
    simp (disch := omega) [ints, rows, scal, wr64, wr8, k1]
    (repeat' first | apply hK | apply And.intro) <;> try first | (show okH _ _ _ = true; kernel_rfl) | omega | rfl | (simp <;> omega)
    show awp _ _ _ _
    refine awp_R fun K hK => ?_
    simp (disch := omega) [ints, rows, scal, wr64, wr8]
    (repeat' first | apply hK | apply And.intro) <;> try first | (show okH _ _ _ = true; kernel_rfl) | omega | rfl | (simp <;> omega)
    refine ⟨a + 1, by omega, by omega, ?_⟩
    refine wk_list [(0, some 0), (1, some 1), (2, some 2)] rfl ?_ ?_ ?_ ?_
    all_goals try simp [ints, hfn, stpT, wkPs_tab]
   ·rw [if_neg hb] at y2
    have hfn : freF m.1[p] n (a + 1) = freF m.1[p] n a := by simp only [freF]; rw [if_neg hb]
    refine awp_seqR fun K hK => ?_
    simp (disch := omega) [ints, rows, scal, wr64, wr8, y1, y2]
    (repeat' first | apply hK | apply And.intro) <;> try first | (show okH _ _ _ = true; kernel_rfl) | omega | rfl | (simp <;> omega)
    refine awp_cond (b := false) (p := 2) (by simp [scal] <;> omega) ?_
    refine awp_skip ?_
    show awp _ _ _ _
    refine awp_R fun K hK => ?_
    simp (disch := omega) [ints, rows, scal, wr64, wr8]
    (repeat' first | apply hK | apply And.intro) <;> try first | (show okH _ _ _ = true; kernel_rfl) | omega | rfl | (simp <;> omega)
    refine ⟨a + 1, by omega, by omega, ?_⟩
    refine wk_list [(0, some 0), (1, some 1), (2, some 2)] rfl ?_ ?_ ?_ ?_
    all_goals try simp [ints, hfn, stpT, wkPs_tab]
  ·obtain rfl : a = 6 := by omega
   have hf1 := freF_lt m.1[p] n 6
   have hfb : ∀ j, (freF m.1[p] n 6 * 2).testBit (j + 1) = true → R p j → R p (j + 1) := fun j hj hRj => by
    rw [Nat.testBit_succ, Nat.mul_div_cancel _ (by omega)] at hj
    obtain ⟨b, b1, b2, b3, b4⟩ := freF_bit m.1[p] n 6 hj
    refine hR.free p j b hpl b1 ?_ b3 b4 hRj
    rw [List.getD_eq_getElem?_getD, List.getElem?_eq_getElem hpl]
    exact b2
   obtain ⟨fr, hfr⟩ : ∃ fr, fr = freF m.1[p] n 6 := ⟨_, rfl⟩
   rw [← hfr] at hf1 hfb
   have k1 : shlI .u64 (fr : Int) 1 = ((fr * 2 : Nat) : Int) := shlN (k := 1) (by omega) (by omega)
   obtain ⟨_, ⟨now1, hn1, hnr, rfl⟩, hfl⟩ := flood_fn (now := now) (op := fr * 2) (R := fun j => R p j) hnw (by omega) (hr1 (by omega)) hfb
   refine awp_cond (b := false) (p := 2) (by simp [scal] <;> omega) ?_
   refine awp_exit ?_
   show awp _ _ _ _
   refine awp_seqR fun K hK => ?_
   simp (disch := omega) [ints, rows, scal, wr64, wr8, ← hfr, k1]
   (repeat' apply And.intro)
   all_goals (try omega)
   refine call_rule (caps := []) (hfl) [] [] 2 rfl rfl rfl rfl (by kernel_rfl) (by simp) ?_ trivial trivial rfl trivial trivial (by simp) ?_
   ·simp [scal, rows, ints]
   simp (disch := omega) [ints, rows, scal, wr64, wr8]
   (repeat' first | apply hK | apply And.intro) <;> try first | (show okH _ _ _ = true; kernel_rfl) | omega | rfl | (simp <;> omega)
   refine awp_join (fun σ' => ∃ now2 : Nat, (now2 < 18446744073709551616 ∧ (p < m.2.length → ∀ j, now2.testBit j = true → R (p + 1) j) ∧ (p = m.2.length → ∀ j, now2.testBit j = true → R p j)) ∧ Wk σ' (mkS [(2, .ptr 0 off cs.length), (3, .ptr 1 0 2), (4, .ptr 2 0 2), (7, .t 2 (.int .u64 (now2 : Nat))), (15, .t 0 (ints (nI m.1))), (16, .t 2 (.int .i64 m.1.length)), (17, .t 2 (.int .i64 p))] [(0, .row 76 12 1 cs), (1, .box 37 [.t 0 (ints (nI m.1)), .t 0 (ints (nI m.2))]), (2, .box 37 [.t 0 (ints (nI n.1)), .t 0 (ints (nI n.2))])] 3 81 [.any, .any, .ptr 0 off cs.length, .own 0 cs.length])) ?_ ?_
   ·rintro σ' ⟨now2, ⟨hn2, ha1, ha2⟩, hw⟩
    refine awp_weak hw ?_
    clear hw
    by_cases hz : now2 = 0
    ·have zb : ((now2 : Int) == 0) = true := by simp [hz]
     refine awp_seqR fun K hK => ?_
     simp (disch := omega) [ints, rows, scal, wr64, wr8, zb]
     (repeat' first | apply hK | apply And.intro) <;> try first | (show okH _ _ _ = true; kernel_rfl) | omega | rfl | (simp <;> omega)
     refine awp_cond (b := true) (p := 2) (by simp [scal, hz] <;> omega) ?_
     refine awp_seqR fun K hK => ?_
     simp (disch := omega) [ints, rows, scal, wr64, wr8]
     (repeat' first | apply hK | apply And.intro) <;> try first | (show okH _ _ _ = true; kernel_rfl) | omega | rfl | (simp <;> omega)
     refine awp_ret ?_
     refine ⟨⟨.inr rfl, _, [(0, some 0)], (by first | rfl | (simp [ints, rows, scal, tpO, moV]; rfl)), ?_, ?_, ?_, ?_⟩, ?_⟩
     all_goals try simp [ints, rows, scal, tpO, moV]
    ·have zb : ((now2 : Int) == 0) = false := beq_eq_false_iff_ne.2 (by omega)
     refine awp_seqR fun K hK => ?_
     simp (disch := omega) [ints, rows, scal, wr64, wr8, zb]
     (repeat' first | apply hK | apply And.intro) <;> try first | (show okH _ _ _ = true; kernel_rfl) | omega | rfl | (simp <;> omega)
     refine awp_cond (b := false) (p := 2) (by simp [scal, hz] <;> omega) ?_
     refine awp_skip ?_
     show awp _ _ _ _
     refine awp_R fun K hK => ?_
     simp (disch := omega) [ints, rows, scal, wr64, wr8]
     (repeat' first | apply hK | apply And.intro) <;> try first | (show okH _ _ _ = true; kernel_rfl) | omega | rfl | (simp <;> omega)
     refine ⟨(p + 1, now2), ⟨by simp only; omega, hn2, fun h => ha1 (by simp only at h; omega), fun h j hj => ?_⟩, by simp only; omega, ?_⟩
     ·have hpe : p = m.2.length := by simp only at h; omega
      have := ha2 hpe j hj
      rwa [hpe] at this
     refine wk_list [(0, some 0), (1, some 1), (2, some 2)] rfl ?_ ?_ ?_ ?_
     all_goals try simp [ints]
   ·by_cases hpm : p < m.2.length
    ·have g2 : (nI m.2)[p]? = some (m.2[p] : Int) := nI_get hpm
     have ha6 := let6 hm hpm
     have e6 : m.2.getD p 6 = m.2[p] := by rw [List.getD_eq_getElem?_getD, List.getElem?_eq_getElem hpm]; rfl
     obtain ⟨a, hae⟩ : ∃ a, a = m.2[p] := ⟨_, rfl⟩
     rw [← hae] at g2 ha6 e6
     have c1 := mv_cell hc (k := a) (by omega)
     have c2 := mv_cell hc (k := 6 + a) (by omega)
     rw [show mvF n n.1.length n.2.length a = stayF n.1 a n.1.length by unfold mvF; rw [if_pos ha6]] at c1
     rw [show mvF n n.1.length n.2.length (6 + a) = stepF n.2 a n.2.length by unfold mvF; rw [if_neg (by omega), show 6 + a - 6 = a by omega]] at c2
     have c1E : cs[off + a]'(by omega) = .int .u64 (stayF n.1 a n.1.length : Nat) := by rw [List.getElem?_eq_getElem (by omega)] at c1; exact Option.some.inj c1
     rw [← Nat.add_assoc] at c2
     have c2E : cs[off + 6 + a]'(by omega) = .int .u64 (stepF n.2 a n.2.length : Nat) := by rw [List.getElem?_eq_getElem (by omega)] at c2; exact Option.some.inj c2
     have b1 := stayF_lt n.1 a n.1.length
     have b2 := stepF_lt n.2 a n.2.length
     rw [hns] at b1
     have k2 := andN (x := now1) (y := stayF n.1 a n.1.length) hn1 (by rw [hns]; omega)
     have k3 := andN (x := now1) (y := stepF n.2 a n.2.length) hn1 (by omega)
     have b3 : now1 &&& stepF n.2 a n.2.length < 2 ^ n.2.length := Nat.and_lt_two_pow _ b2
     have b4 : now1 &&& stayF n.1 a n.1.length < 2 ^ (n.2.length + 1) := Nat.and_lt_two_pow _ (by rw [hns]; exact b1)
     have k4 : shlI .u64 ((now1 &&& stepF n.2 a n.2.length : Nat) : Int) 1 = (((now1 &&& stepF n.2 a n.2.length) * 2 : Nat) : Int) := shlN (k := 1) (by omega) (by omega)
     have k5 := orN (x := now1 &&& stayF n.1 a n.1.length) (y := (now1 &&& stepF n.2 a n.2.length) * 2) (by omega) (by omega)
     have hmat : matN n a now1 = (now1 &&& stayF n.1 a n.1.length) ||| (now1 &&& stepF n.2 a n.2.length) * 2 := rfl
     have hml2 := matN_lt n hns a now1
     have hsem : ∀ j, (matN n a now1).testBit j = true → R (p + 1) j := fun j hj => by
      rcases (matN_bit n hns a now1 j).1 hj with ⟨h1, h2, h3⟩ | ⟨i, rfl, h1, h2, h3⟩
      ·exact hR.stay p j a hpm e6 h2 h3 (hnr j h1)
      ·exact hR.step p i a hpm e6 h2 h3 (hnr i h1)
     rw [← hmat] at k5
     clear hmat
     generalize matN n a now1 = nw at *
     generalize (now1 &&& stepF n.2 a n.2.length) = x1 at *
     generalize (now1 &&& stayF n.1 a n.1.length) = x2 at *
     have k6 : orI .u64 (x2 : Int) ((x1 : Int) * 2) = (nw : Int) := by rw [show (x1 : Int) * 2 = ((x1 * 2 : Nat) : Int) by push_cast; rfl]; exact k5
     refine awp_seqR fun K hK => ?_
     simp (disch := omega) [ints, rows, scal, wr64, wr8]
     (repeat' first | apply hK | apply And.intro) <;> try first | (show okH _ _ _ = true; kernel_rfl) | omega | rfl | (simp <;> omega)
     refine awp_cond (b := true) (p := 2) (by simp [scal, hpm] <;> omega) ?_
     refine awp_seqR fun K hK => ?_
     simp (disch := omega) [ints, rows, scal, wr64, wr8, g2, hpm]
     (repeat' first | apply hK | apply And.intro) <;> try first | (show okH _ _ _ = true; kernel_rfl) | omega | rfl | (simp <;> omega)
     refine awp_RD (by kernel_rfl) (fun K hK => ?_)
     simp (disch := omega) [ints, rows, scal, wr64, wr8, c1, c2, c1E, c2E, k2, k3, k4, k5, k6, ha6]
     (repeat' first | apply hK | apply And.intro) <;> try first | (show chkD _ _ = true; kernel_rfl) | (show okH _ _ _ = true; kernel_rfl) | omega | rfl | (simp <;> omega)
     refine ⟨nw, ⟨by omega, fun _ => hsem, fun h => by omega⟩, ?_⟩
     refine wk_list [(0, some 0), (1, some 1), (2, some 2)] rfl ?_ ?_ ?_ ?_
     all_goals try simp [ints]
    ·have hpe : p = m.2.length := by omega
     refine awp_seqR fun K hK => ?_
     simp (disch := omega) [ints, rows, scal, wr64, wr8]
     (repeat' first | apply hK | apply And.intro) <;> try first | (show okH _ _ _ = true; kernel_rfl) | omega | rfl | (simp <;> omega)
     refine awp_cond (b := false) (p := 2) (by simp [scal, hpm] <;> omega) ?_
     refine awp_skip ?_
     refine ⟨now1, ⟨hn1, fun h => absurd h hpm, fun _ => hnr⟩, ?_⟩
     refine wk_list [(0, some 0), (1, some 1), (2, some 2)] rfl ?_ ?_ ?_ ?_
     all_goals try simp [ints]
 ·obtain rfl : p = m.1.length := by omega
  have hbit : now.testBit n.2.length = false := by
   cases e : now.testBit n.2.length with
   | false => rfl
   | true => exact absurd (hr2 rfl _ e) hR.no
  have z1 : shrI .u64 (now : Int) (n.2.length : Int) = ((now / 2 ^ n.2.length : Nat) : Int) := shrN (by show n.2.length ≤ 64; omega)
  have z2 : andI .u64 ((now / 2 ^ n.2.length : Nat) : Int) 1 = 0 := by
   have := andN (x := now / 2 ^ n.2.length) (y := 1) (Nat.lt_of_le_of_lt (Nat.div_le_self _ _) hnw) (by omega)
   rw [Nat.and_one_is_mod] at this
   rw [show (1 : Int) = ((1 : Nat) : Int) from rfl, this]
   rw [Nat.testBit_eq_decide_div_mod_eq] at hbit
   simp at hbit
   omega
  obtain ⟨z, hz⟩ : ∃ z, z = now / 2 ^ n.2.length := ⟨_, rfl⟩
  rw [← hz] at z1 z2
  refine awp_cond (b := false) (p := 2) (by simp [scal] <;> omega) ?_
  refine awp_exit ?_
  show awp _ _ _ _
  refine awp_seqR fun K hK => ?_
  simp (disch := omega) [ints, rows, scal, wr64, wr8, z1, z2]
  (repeat' first | apply hK | apply And.intro) <;> try first | (show okH _ _ _ = true; kernel_rfl) | omega | rfl | (simp <;> omega)
  refine awp_ret ?_
  refine ⟨⟨.inr rfl, _, [(0, some 0)], (by first | rfl | (simp [ints, rows, scal, tpO, moV]; rfl)), ?_, ?_, ?_, ?_⟩, ?_⟩
  all_goals try simp [ints, rows, scal, tpO, moV]

attribute [local simp] KL_ap KD_ap awpL_nil awpL_cons awpD_nil awpD_cons awpOp awpOpD wrE gd aop aBuiltin aNil aMin ASt.eval AV.ofV dstOk ASt.app Eff.heap dels upd_b aLoad aStore aField aFieldV aIndexAddr aIndex aSlice aSliceO aLen aBin iB sB aUn aConv aAlloc aBox aBuild afill avCells AV.leaf setR aBuildSlice frz frzL isOwn vecOf tsOf aMake srcOf aAppend aMkMap aMapUpd aLookup oint cut putL AObj.cnt mkS envOf_nil envOf_cons heapOf_nil heapOf_cons argS Nat.blt_eq callS outV outVs outO heap2 addL delL List.getElem?_cons_zero okO inPs inP wkE wkP wkPs wkH wkO keysNd unm mpOf_nil mpOf_cons ghA ghA1 ndL inOs inO
set_option linter.unusedSimpArgs false

def allC (ms : List Mo) (k : Nat) : List T := (ms.take k).flatMap mvTT ++ List.replicate ((ms.length - k) * 12) (.int .u64 0)
theorem mvTT_len (n : Mo) : (mvTT n).length = 12 := by simp [mvTT]
theorem flat_len (l : List Mo) : (l.flatMap mvTT).length = l.length * 12 := by
 induction l with
 | nil => rfl
 | cons m l ih => rw [List.flatMap_cons, List.length_append, ih, mvTT_len, List.length_cons]; omega
theorem allC_len {ms : List Mo} {k : Nat} (h : k ≤ ms.length) : (allC ms k).length = ms.length * 12 := by
 unfold allC
 rw [List.length_append, flat_len, List.length_replicate, List.length_take]
 omega
theorem allC_zero (ms : List Mo) : allC ms 0 = List.replicate (ms.length * 12) (.int .u64 0) := by simp [allC]
theorem allC_zN (ms : List Mo) : zN [.int .u64 0, .int .u64 0, .int .u64 0, .int .u64 0, .int .u64 0, .int .u64 0, .int .u64 0, .int .u64 0, .int .u64 0, .int .u64 0, .int .u64 0, .int .u64 0] 12 ms.length = allC ms 0 := by
 rw [allC_zero]
 unfold zN
 refine List.ext_getElem? fun j => ?_
 rw [List.getElem?_map]
 by_cases hj : j < ms.length * 12
 ·rw [List.getElem?_range hj, List.getElem?_replicate, if_pos hj, Option.map_some]
  have : j % 12 < 12 := Nat.mod_lt _ (by omega)
  generalize j % 12 = r at this
  rcases (by omega : r = 0 ∨ r = 1 ∨ r = 2 ∨ r = 3 ∨ r = 4 ∨ r = 5 ∨ r = 6 ∨ r = 7 ∨ r = 8 ∨ r = 9 ∨ r = 10 ∨ r = 11) with rfl | rfl | rfl | rfl | rfl | rfl | rfl | rfl | rfl | rfl | rfl | rfl <;> rfl
 ·rw [List.getElem?_eq_none (by simp; omega), List.getElem?_eq_none (by simp; omega)]
  rfl
theorem allC_at {ms : List Mo} {j : Nat} (h : j < ms.length) : ((allC ms ms.length).drop (j * 12)).take 12 = mvTT ms[j] := by
 unfold allC
 rw [List.take_length, Nat.sub_self, Nat.zero_mul, List.replicate_zero, List.append_nil]
 have hd : ∀ (l : List Mo) (k : Nat), (l.flatMap mvTT).drop (k * 12) = (l.drop k).flatMap mvTT := fun l => by
  induction l with
  | nil => intro k; simp
  | cons m l ih =>
   intro k
   cases k with
   | zero => simp
   | succ k =>
    rw [List.flatMap_cons, show (k + 1) * 12 = 12 + k * 12 by omega, ← List.drop_drop, List.drop_left' (mvTT_len m), ih]
    rfl
 rw [hd, List.drop_eq_getElem_cons h, List.flatMap_cons, List.take_left' (mvTT_len _)]
theorem allC_put {ms : List Mo} {k : Nat} (h : k < ms.length) : (allC ms k).take (k * 12) ++ mvTT ms[k] ++ (allC ms k).drop (k * 12 + 12) = allC ms (k + 1) := by
 have hl : ((ms.take k).flatMap mvTT).length = k * 12 := by rw [flat_len, List.length_take]; congr 1; omega
 unfold allC
 rw [List.take_left' hl, ← List.drop_drop, List.drop_left' hl, List.drop_replicate, List.take_succ_eq_append_getElem h, List.flatMap_append]
 simp only [List.flatMap_cons, List.flatMap_nil, List.append_nil]
 rw [show (ms.length - k) * 12 - 12 = (ms.length - (k + 1)) * 12 by omega]
theorem mosC_take (ms : List Mo) (j : Nat) : (mosC ms).take (j * 2) = mosC (ms.take j) := by
 induction ms generalizing j with
 | nil => simp [mosC]
 | cons m ms ih =>
  cases j with
  | zero => simp [mosC]
  | succ j =>
   have := ih j
   unfold mosC at this ⊢
   rw [List.flatMap_cons, List.take_succ_cons, List.flatMap_cons, show (j + 1) * 2 = ([ints (nI m.1), ints (nI m.2)] : List T).length + j * 2 by simp; omega, List.take_length_add_append, this]
theorem mos_divT {ms : List Mo} {j : Nat} (h : j < ms.length) : (mosC (ms.take j)).length / 2 = j := by
 rw [mosC_len, List.length_take]
 omega
set_option maxRecDepth 100000 in
set_option maxHeartbeats 16000000 in
theorem disjoint_fn {L : Nat} {ms : List Mo} (h : ∀ m ∈ ms, MoOK L 60 m) (hL : 1 ≤ L) (hL2 : L ≤ 6) (hl : ms.length ≤ 400) (hR : ∀ j i (hj : j < ms.length) (hi : i < j), ∃ R, MeR ms[i] ms[j] R) :
  FnA Tryd.prog 30 [.t 0 (.sl 2 (mosC ms)), .t 2 (.int .i64 L)] (.tup [.t 2 (.str (strL [])), .t 2 (.bool true), .t 2 (.int .i64 0)]) := by
 have hdv := mos_div ms
 have hval := validList_fn h hl hL hL2
 refine fn_intro Tryd.func30 rfl (by simp [Tryd.f30]) ?_
 rw [show Tryd.f30.ntmps = 70 from rfl, show Tryd.f30.results = #[.tmp 4, .tmp 5, .tmp 6] from rfl]
 refine awp_seqR fun K hK => ?_
 simp (disch := omega) [ints, rows, scal, wr64, wr8]
 (repeat' first | apply hK | apply And.intro) <;> try first | (show okH _ _ _ = true; kernel_rfl) | omega | rfl | (simp <;> omega)
 refine awp_seq ?_
 refine awp_seqR fun K hK => ?_
 simp (disch := omega) [ints, rows, scal, wr64, wr8]
 (repeat' apply And.intro)
 all_goals (try omega)
 refine call_rule (caps := []) (hval) [] [] 2 rfl rfl rfl rfl (by kernel_rfl) (by simp) ?_ trivial trivial rfl trivial trivial (by simp) ?_
 ·simp [scal, rows, ints]
 simp (disch := omega) [ints, rows, scal, wr64, wr8]
 (repeat' first | apply hK | apply And.intro) <;> try first | (show okH _ _ _ = true; kernel_rfl) | omega | rfl | (simp <;> omega)
 refine awp_seqR fun K hK => ?_
 simp (disch := omega) [ints, rows, scal, wr64, wr8]
 (repeat' first | apply hK | apply And.intro) <;> try first | (show okH _ _ _ = true; kernel_rfl) | omega | rfl | (simp <;> omega)
 refine awp_cond (b := false) (p := 2) (by simp [scal] <;> omega) ?_
 refine awp_skip ?_
 show awp _ _ _ _
 refine awp_seqR fun K hK => ?_
 simp (disch := omega) [ints, rows, scal, wr64, wr8, hdv, allC_zN]
 (repeat' first | apply hK | apply And.intro) <;> try first | (show okH _ _ _ = true; kernel_rfl) | omega | rfl | (simp <;> omega)
 refine awp_seq ?_
 refine awp_seqR fun K hK => ?_
 simp (disch := omega) [ints, rows, scal, wr64, wr8, hdv]
 (repeat' first | apply hK | apply And.intro) <;> try first | (show okH _ _ _ = true; kernel_rfl) | omega | rfl | (simp <;> omega)
 refine awp_block ?_
 refine awp_loop (fun k : Nat => mkS [(0, .t 0 (.sl 2 (mosC ms))), (1, .t 2 (.int .i64 L)), (8, .own 0 (ms.length * 12)), (26, .t 0 (.sl 2 (mosC ms))), (27, .t 2 (.int .i64 ms.length)), (28, .t 2 (.int .i64 k))] [(0, .row 76 12 1 (allC ms k))] 1 70 [.any, .any]) (fun k => k ≤ ms.length) (fun k => ms.length - k) ?_ ?_
 ·refine ⟨0, by omega, ?_⟩
  refine wk_list [(0, some 11000000)] rfl ?_ ?_ ?_ ?_
  all_goals try simp [ints, allC_zero]
 intro k hk
 refine awp_seqR fun K hK => ?_
 simp (disch := omega) [ints, rows, scal, wr64, wr8]
 (repeat' first | apply hK | apply And.intro) <;> try first | (show okH _ _ _ = true; kernel_rfl) | omega | rfl | (simp <;> omega)
 refine awp_seq ?_
 by_cases hkl : k < ms.length
 ·have hat := mos_at hkl
  have hin := mos_in hkl
  have hmv := movesOf_fn ((h ms[k] (by simp)).sixM hL2)
  have hal := allC_len (ms := ms) (k := k) hk
  have hput := allC_put hkl
  refine awp_cond (b := true) (p := 2) (by simp [scal, hkl] <;> omega) ?_
  refine awp_skip ?_
  show awp _ _ _ _
  refine awp_seq ?_
  refine awp_block ?_
  refine awp_seqR fun K hK => ?_
  simp (disch := omega) [ints, rows, scal, wr64, wr8, hat, hin]
  (repeat' first | apply hK | apply And.intro) <;> try first | (show okH _ _ _ = true; kernel_rfl) | omega | rfl | (simp <;> omega)
  refine awp_R fun K hK => ?_
  simp (disch := omega) [ints, rows, scal, wr64, wr8]
  (repeat' apply And.intro)
  all_goals (try omega)
  refine call_rule (caps := []) (hmv) [] [] 2 rfl rfl rfl rfl (by kernel_rfl) (by simp) ?_ trivial trivial rfl trivial trivial (by simp) ?_
  ·simp [scal, rows, ints, moV]
  simp (disch := omega) [ints, rows, scal, wr64, wr8, hal, mvT_eq]
  (repeat' first | apply hK | apply And.intro) <;> try first | (show okH _ _ _ = true; kernel_rfl) | omega | rfl | (simp <;> omega)
  show awp _ _ _ _
  refine awp_R fun K hK => ?_
  simp (disch := omega) [ints, rows, scal, wr64, wr8]
  (repeat' first | apply hK | apply And.intro) <;> try first | (show okH _ _ _ = true; kernel_rfl) | omega | rfl | (simp <;> omega)
  refine ⟨k + 1, by omega, by omega, ?_⟩
  rw [List.append_assoc] at hput
  refine wk_list [(0, some 0)] rfl ?_ ?_ ?_ ?_
  all_goals try simp [ints]
  exact hput
 ·obtain rfl : k = ms.length := by omega
  refine awp_cond (b := false) (p := 2) (by simp [scal] <;> omega) ?_
  refine awp_exit ?_
  show awp _ _ _ _
  clear hk hkl
  have hal := allC_len (ms := ms) (k := ms.length) (Nat.le_refl _)
  refine awp_seq ?_
  refine awp_seqR fun K hK => ?_
  simp (disch := omega) [ints, rows, scal, wr64, wr8, hdv]
  (repeat' first | apply hK | apply And.intro) <;> try first | (show okH _ _ _ = true; kernel_rfl) | omega | rfl | (simp <;> omega)
  refine awp_block ?_
  refine awp_loop (fun j : Nat => mkS [(0, .t 0 (.sl 2 (mosC ms))), (1, .t 2 (.int .i64 L)), (8, .own 0 (ms.length * 12)), (39, .t 0 (.sl 2 (mosC ms))), (40, .t 2 (.int .i64 ms.length)), (41, .t 2 (.int .i64 j))] [(0, .row 76 12 1 (allC ms ms.length))] 1 70 [.any, .any]) (fun j => j ≤ ms.length) (fun j => ms.length - j) ?_ ?_
  ·refine ⟨0, by omega, ?_⟩
   refine wk_list [(0, some 0)] rfl ?_ ?_ ?_ ?_
   all_goals try simp [ints]
  intro j hj
  refine awp_seqR fun K hK => ?_
  simp (disch := omega) [ints, rows, scal, wr64, wr8]
  (repeat' first | apply hK | apply And.intro) <;> try first | (show okH _ _ _ = true; kernel_rfl) | omega | rfl | (simp <;> omega)
  refine awp_seq ?_
  by_cases hjl : j < ms.length
  ·have hat := mos_at hjl
   have hin := mos_in hjl
   have hdt := mos_divT hjl
   refine awp_cond (b := true) (p := 2) (by simp [scal, hjl] <;> omega) ?_
   refine awp_skip ?_
   show awp _ _ _ _
   refine awp_seq ?_
   refine awp_block ?_
   refine awp_seqR fun K hK => ?_
   simp (disch := omega) [ints, rows, scal, wr64, wr8, hat, hin]
   (repeat' first | apply hK | apply And.intro) <;> try first | (show okH _ _ _ = true; kernel_rfl) | omega | rfl | (simp <;> omega)
   refine awp_seqR fun K hK => ?_
   simp (disch := omega) [ints, rows, scal, wr64, wr8, mosC_take, hdt]
   (repeat' first | apply hK | apply And.intro) <;> try first | (show okH _ _ _ = true; kernel_rfl) | omega | rfl | (simp <;> omega)
   refine awp_block ?_
   refine awp_loop (fun i : Nat => mkS [(0, .t 0 (.sl 2 (mosC ms))), (1, .t 2 (.int .i64 L)), (8, .own 0 (ms.length * 12)), (11, .t 2 (.int .i64 j)), (12, .ptr 1 0 2), (39, .t 0 (.sl 2 (mosC ms))), (40, .t 2 (.int .i64 ms.length)), (41, .t 2 (.int .i64 j)), (48, .t 0 (.sl 2 (mosC (ms.take j)))), (49, .t 2 (.int .i64 j)), (50, .t 2 (.int .i64 i))] [(0, .row 76 12 1 (allC ms ms.length)), (1, .box 37 [.t 0 (ints (nI ms[j].1)), .t 0 (ints (nI ms[j].2))])] 2 70 [.any, .any]) (fun i => i ≤ j) (fun i => j - i) ?_ ?_
   ·refine ⟨0, by omega, ?_⟩
    refine wk_list [(0, some 0), (1, some 4000001)] rfl ?_ ?_ ?_ ?_
    all_goals try simp [ints]
   intro i hi
   have htl : (ms.take j).length = j := by rw [List.length_take]; omega
   refine awp_seqR fun K hK => ?_
   simp (disch := omega) [ints, rows, scal, wr64, wr8]
   (repeat' first | apply hK | apply And.intro) <;> try first | (show okH _ _ _ = true; kernel_rfl) | omega | rfl | (simp <;> omega)
   refine awp_seq ?_
   by_cases hil : i < j
   ·have hit : i < (ms.take j).length := by omega
    have hat2 := mos_at hit
    have hin2 := mos_in hit
    rw [htl] at hin2
    rw [List.getElem_take] at hat2
    obtain ⟨R, hMR⟩ := hR j i hjl hil
    have hmt := meet_fn ((h ms[i] (by simp)).sixM hL2) ((h ms[j] (by simp)).sixM hL2) hMR (allC_at hjl) (by omega) (by omega)
    rw [hal] at hmt
    refine awp_cond (b := true) (p := 2) (by simp [scal, hil] <;> omega) ?_
    refine awp_skip ?_
    show awp _ _ _ _
    refine awp_seq ?_
    refine awp_block ?_
    refine awp_seqR fun K hK => ?_
    simp (disch := omega) [ints, rows, scal, wr64, wr8, hat2, hin2, mosC_len, htl]
    (repeat' first | apply hK | apply And.intro) <;> try first | (show okH _ _ _ = true; kernel_rfl) | omega | rfl | (simp <;> omega)
    refine awp_seqD (by kernel_rfl) (fun K hK => ?_)
    simp (disch := omega) [ints, rows, scal, wr64, wr8]
    (repeat' apply And.intro)
    all_goals (try omega)
    refine call_ruleDK (caps := []) (hmt) [0] [0] 1 rfl rfl rfl rfl (by kernel_rfl) (by simp) ?_ ?_ (by simp) rfl (by simp) ⟨.inr (.inr ⟨rfl, by simp, by simp⟩), trivial⟩ (by simp [moV]) ?_
    ·simp [scal, rows, ints, moV]
    ·simp [scal, rows, ints, moV]
    simp (disch := omega) [ints, rows, scal, wr64, wr8]
    (repeat' first | apply hK | apply And.intro) <;> try first | (show chkD _ _ = true; kernel_rfl) | (show okH _ _ _ = true; kernel_rfl) | omega | rfl | (simp <;> omega)
    refine awp_cond (b := false) (p := 2) (by simp [scal] <;> omega) ?_
    refine awp_skip ?_
    show awp _ _ _ _
    refine awp_R fun K hK => ?_
    simp (disch := omega) [ints, rows, scal, wr64, wr8]
    (repeat' first | apply hK | apply And.intro) <;> try first | (show okH _ _ _ = true; kernel_rfl) | omega | rfl | (simp <;> omega)
    refine ⟨i + 1, by omega, by omega, ?_⟩
    refine wk_list [(0, some 0), (1, some 1)] rfl ?_ ?_ ?_ ?_
    all_goals try simp [ints]
   ·obtain rfl : i = j := by omega
    refine awp_cond (b := false) (p := 2) (by simp [scal] <;> omega) ?_
    refine awp_exit ?_
    show awp _ _ _ _
    refine awp_R fun K hK => ?_
    simp (disch := omega) [ints, rows, scal, wr64, wr8]
    (repeat' first | apply hK | apply And.intro) <;> try first | (show okH _ _ _ = true; kernel_rfl) | omega | rfl | (simp <;> omega)
    refine ⟨i + 1, by omega, by omega, ?_⟩
    refine wk_list [(0, some 0)] rfl ?_ ?_ ?_ ?_
    all_goals try simp [ints]
  ·obtain rfl : j = ms.length := by omega
   refine awp_cond (b := false) (p := 2) (by simp [scal] <;> omega) ?_
   refine awp_exit ?_
   show awp _ _ _ _
   refine awp_seqR fun K hK => ?_
   simp (disch := omega) [ints, rows, scal, wr64, wr8]
   (repeat' first | apply hK | apply And.intro) <;> try first | (show okH _ _ _ = true; kernel_rfl) | omega | rfl | (simp <;> omega)
   refine awp_ret ?_
   refine ⟨⟨.inr rfl, _, [], rfl, trivial, trivial, by simp, ?_⟩, by simp⟩
   simp
   rfl
end Go.Proofs.YtnffigeofdagfaaDoor.M
