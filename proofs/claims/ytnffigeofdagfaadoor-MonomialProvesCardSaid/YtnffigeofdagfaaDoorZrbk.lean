/-
  Walk in my logic: visit (walker of monomial), by the rank of the state; the list's rows stay own rows.
  Walk in my logic: Right (monomial), of valid automata.
  Walk in my logic: paths (semigroupref35), by the rank of the state.
  Walk in my logic: Right (semigroupref35), of valid automata.
-/
import Derived.Test.YtnffigeofdagfaaDoorZrbh
import Derived.Test.YtnffigeofdagfaaDoorZran
import Derived.Test.YtnffigeofdagfaaDoorZrax
import Derived.Test.YtnffigeofdagfaaDoorZrbj
import Derived.Test.YtnffigeofdagfaaDoorZrbc
import Derived.Test.YtnffigeofdagfaaDoorZrbi
namespace Go.Proofs.YtnffigeofdagfaaDoor.M
open Go.RowKit
set_option linter.unusedVariables false
attribute [local simp] wkPs wkE wkP wkH wkO keysNd unm mpOf_nil mpOf_cons dels upd_b mkS mkF envOf_nil envOf_cons heapOf_nil heapOf_cons famM_at famM_lt famU famH_at famH_lt ovr_at ovr_lt List.getElem?_cons_zero argS callS heap2 addL delL outV outVs outO ghA ghA1 KL_ap KD_ap awpL_nil awpL_cons awpD_nil awpD_cons awpOp awpOpD wrE gd aop aBuiltin aNil aMin ASt.eval AV.ofV dstOk ASt.app Eff.heap aLoad aStore aField aFieldV aIndexAddr aIndex aSlice aSliceO aLen aBin iB sB aUn aConv aAlloc aBox aBuild afill avCells AV.leaf setR aBuildSlice frz frzL isOwn vecOf tsOf aMake srcOf aAppend aMkMap aMapUpd aLookup oint cut putL AObj.cnt Nat.blt_eq resV idxF ndL okO inPs inP inOs inO
set_option linter.unusedSimpArgs false

def niT (S : List Nat) : List T := (nI S).map (.int .i64)
@[simp] theorem niT_len (S : List Nat) : (niT S).length = S.length := by simp [niT]
theorem niT_snoc (S : List Nat) (a : Nat) : niT (S ++ [a]) = niT S ++ [.int .i64 (a : Int)] := by simp [niT, nI]
def wkW (L s : Nat) (bs : List Bool) (nx : List (List Int)) (us : List Bool) (a b c : AV) : AObj := .box 85 [.t 2 (.int .i64 L), .t 2 (.int .i64 s), .t 1 (bools bs), .t 1 (rows nx), .t 1 (bools us), a, b, c]
def moR (l : List Mo) (j : Nat) : List Nat := if j % 2 = 0 then (l.getD (j / 2) ([], [])).1 else (l.getD (j / 2) ([], [])).2
theorem moR_app {l : List Mo} {x : Mo} {j : Nat} (h : j < l.length * 2) : moR (l ++ [x]) j = moR l j := by
 unfold moR
 rw [List.getD_eq_getElem?_getD, List.getElem?_append_left (by omega), ← List.getD_eq_getElem?_getD]
theorem moR_fst (l : List Mo) (x : Mo) : moR (l ++ [x]) (l.length * 2) = x.1 := by
 unfold moR
 rw [if_pos (by omega), show l.length * 2 / 2 = l.length by omega]
 simp
theorem moR_snd (l : List Mo) (x : Mo) : moR (l ++ [x]) (l.length * 2 + 1) = x.2 := by
 unfold moR
 rw [if_neg (by omega), show (l.length * 2 + 1) / 2 = l.length by omega]
 simp
def famV (l : List Mo) (j : Nat) : AObj := .row 3 1 1 (niT (moR l j))
def vecV (b : Nat) (l : List Mo) : List AV := tab (l.length * 2) fun j => .own (b + j) (moR l j).length
@[simp] theorem vecV_len (b : Nat) (l : List Mo) : (vecV b l).length = l.length * 2 := by simp [vecV]
theorem vecV_snoc (b : Nat) (l : List Mo) (x : Mo) : vecV b (l ++ [x]) = vecV b l ++ [.own (b + l.length * 2) x.1.length] ++ [.own (b + (l.length * 2 + 1)) x.2.length] := by
 unfold vecV
 rw [show (l ++ [x]).length * 2 = l.length * 2 + 1 + 1 by simp; omega, tab_succ, tab_succ, moR_fst, moR_snd]
 congr 2
 exact tab_congr (fun j hj => by rw [moR_app hj])
theorem fam4_q {α : Type} {a b c d : α} {n j : Nat} {F : Nat → α} (h : j < n) : (a :: b :: c :: d :: tab n F)[4 + j]? = some (F j) := by
 rw [Nat.add_comm]
 simp only [List.getElem?_cons_succ]
 exact tab_get F h
theorem poF4_1 {a b c d B n : Nat} : (poF [a, b, c, d] B n)[1]?.getD 0 = b := rfl
theorem poF4_2 {a b c d B n : Nat} : (poF [a, b, c, d] B n)[2]?.getD 0 = c := rfl
theorem poF4_3 {a b c d B n : Nat} : (poF [a, b, c, d] B n)[3]?.getD 0 = d := rfl
theorem wkPs_app {H : Nat → Option AObj} {m : Nat → Option Nat} {un : Nat → Prop} {nx : Nat} : ∀ {xs ys cs ds : List AV}, wkPs H m un nx xs ys → wkPs H m un nx cs ds → wkPs H m un nx (xs ++ cs) (ys ++ ds)
 | [], [], _, _, _, h => h
 | a :: xs, b :: ys, cs, ds, h1, h2 => by
  simp only [wkPs] at h1
  simp only [List.cons_append, wkPs]
  exact ⟨h1.1, wkPs_app h1.2 h2⟩
 | [], _ :: _, _, _, h, _ => by simp at h
 | _ :: _, [], _, _, h, _ => by simp at h
theorem outVs_famJ {ph : List Nat} {b n q h : Nat} {L : Nat → Nat} (hh : h = ph.length) : outVs (poF ph b n) q (tab n fun j => .own (h + j) (L j)) = tab n fun j => AV.own (b + j) (L j) := by
 rw [outVs_tab]
 refine tab_congr (fun j hj => ?_)
 subst hh
 simp only [outV]
 rw [poF_at hj]
abbrev visHd (L s : Nat) (bs : List Bool) (nx : List (List Int)) (us : List Bool) (l : List Mo) (S U : List Nat) : List AObj := [wkW L s bs nx us (.own 1 (l.length * 2)) (.own 2 S.length) (.own 3 U.length), .vec 37 2 1 (vecV 4 l), .row 3 1 1 (niT S), .row 3 1 1 (niT U)]
def VisG (L m s : Nat) (bs : List Bool) (nx : List (List Int)) (us : List Bool) (l : List Mo) (S U : List Nat) (q : Nat) (res : AV) (H' : List AObj) : Prop := ∃ ok l' S' U', (ok = true ↔ Fits l.length U.length (pX L m bs nx q)) ∧ (ok = true → l' = l ++ preM S U (pX L m bs nx q) ∧ S' = S ∧ U' = U) ∧ l'.length ≤ 400 ∧ res = .t 2 (.bool ok) ∧ H' = visHd L s bs nx us l' S' U' ++ tab (l'.length * 2) (famV l')
theorem dropLast_snoc' (S : List Nat) (a : Nat) : (niT (S ++ [a])).take S.length = niT S := by
 rw [niT_snoc, List.take_append_of_le_length (by simp)]
 exact List.take_of_length_le (by simp)
set_option maxRecDepth 100000 in
set_option maxHeartbeats 32000000 in
theorem visit_fn {L m s : Nat} {bs us : List Bool} {nx : List (List Int)} (hD : DfL L m s bs nx) (hL : 1 ≤ L) (hL2 : L ≤ 6) (hm : m ≤ 512) (hA : Acy L m nx) (hul : us.length = m) (hus : ∀ q, q < m → (us.getD q false = true ↔ ∃ w, (∀ a ∈ w, a < L) ∧ accR bs nx q w = true)) :
  ∀ (k q : Nat) (l : List Mo) (S U : List Nat), rkA L m nx q < k → q < m → l.length ≤ 400 → S.length = U.length → U.length ≤ 60 → ∃ res H', VisG L m s bs nx us l S U q res H' ∧ FnS Tryd.prog 48 [.ptr 0 0 8, .t 2 (.int .i64 q)] (visHd L s bs nx us l S U ++ tab (l.length * 2) (famV l)) res H' := by
 intro k
 induction k
 ·intro q l S U h; omega
 rename_i k ih
 intro q l S U hk hq hl hST hU
 have hnl := hD.nl
 have hbl := hD.bl
 have hqx : q < nx.length := by omega
 have hqb : q < bs.length := by omega
 obtain ⟨hrl, -⟩ := hD.row nx[q] (by simp)
 have hlp := loopN_lt nx q
 have hl6 : ∀ x, x ≤ 6 → loopN nx q x < 64 := fun x hx => Nat.lt_of_lt_of_le (hlp x) (by rw [show 64 = 2 ^ 6 from rfl]; exact Nat.pow_le_pow_right (by omega) hx)
 have hpe := pX_eq hD hA hq
 refine fn_introGE Tryd.func48 rfl (by simp [Tryd.f48]) ?_
 rw [show Tryd.f48.ntmps = 152 from rfl, show Tryd.f48.results = #[.tmp 4] from rfl]
 rw [argS_fam]
 refine awp_weak (σ' := mkF [(0, .ptr 0 0 8), (1, .t 2 (.int .i64 q))]
   [(0, wkW L s bs nx us (.own 1 (l.length * 2)) (.own 2 S.length) (.own 3 U.length)), (1, .vec 37 2 1 (vecV 100 l)), (2, .row 3 1 1 (niT S)), (3, .row 3 1 1 (niT U))] 100 (l.length * 2) (famV l) 2000 152 [.ptr 0 0 8, .any]) ?_ ?_
 ·refine wk_fam [(0, some 0), (1, some 1), (2, some 2), (3, some 3)] (fun j => 4 + j) rfl ?_ ?_ ?_ ?_ ?_ ?_
  all_goals try simp +contextual (disch := omega) [beq_gt, beq_lt, eq_lt, eq_gt, lt_t, List.getElem?_cons_succ, Option.getD_some, callF, ints, scal, tpO, wkPs_snoc, wkPs_tab, vecV, famV, visHd, wkW, rows, bools, idxE]
  all_goals (try omega)
 refine awp_seqR fun K hK => ?_
 simp (disch := omega) [ints, rows, scal, wr64, wr8]
 (repeat' first | apply hK | apply And.intro) <;> try first | (show okH _ _ _ = true; kernel_rfl) | omega | rfl | (simp <;> omega)
 refine awp_seqR fun K hK => ?_
 simp (disch := omega) [ints, rows, scal, wr64, wr8]
 (repeat' first | apply hK | apply And.intro) <;> try first | (show okH _ _ _ = true; kernel_rfl) | omega | rfl | (simp <;> omega)
 refine awp_seq ?_
 refine awp_seqR fun K hK => ?_
 simp (disch := omega) [ints, rows, scal, wr64, wr8, wkW, rows, hqx, hrl]
 (repeat' first | apply hK | apply And.intro) <;> try first | (show okH _ _ _ = true; kernel_rfl) | omega | rfl | (simp <;> omega)
 refine awp_block ?_
 refine awp_loop (fun x : Nat => mkF [(0, .ptr 0 0 8), (1, .t 2 (.int .i64 q)), (5, .t 2 (.int .i64 (loopN nx q x : Nat))), (17, .t 0 (ints nx[q])), (18, .t 2 (.int .i64 L)), (19, .t 2 (.int .i64 x))]
   [(0, wkW L s bs nx us (.own 1 (l.length * 2)) (.own 2 S.length) (.own 3 U.length)), (1, .vec 37 2 1 (vecV 100 l)), (2, .row 3 1 1 (niT S)), (3, .row 3 1 1 (niT U))] 100 (l.length * 2) (famV l) 2000 152 [.ptr 0 0 8, .any]) (fun x => x ≤ L) (fun x => L - x) ?_ ?_
 ·refine ⟨0, by omega, ?_⟩
  refine wk_fam [(0, some 0), (1, some 1), (2, some 2), (3, some 3)] (fun j => 100 + j) rfl ?_ ?_ ?_ ?_ ?_ ?_
  all_goals try simp +contextual (disch := omega) [beq_gt, beq_lt, eq_lt, eq_gt, lt_t, List.getElem?_cons_succ, Option.getD_some, callF, ints, scal, tpO, wkPs_snoc, wkPs_tab, vecV, famV, wkW, rows, bools, loopN]
  all_goals (try omega)
 intro x hx
 refine awp_seqR fun K hK => ?_
 simp (disch := omega) [ints, rows, scal, wr64, wr8]
 (repeat' first | apply hK | apply And.intro) <;> try first | (show okH _ _ _ = true; kernel_rfl) | omega | rfl | (simp <;> omega)
 refine awp_seq ?_
 by_cases hxl : x < L
 ·obtain ⟨s1, s2, s3, s4⟩ := hD.rt.step hq hxl
  refine awp_cond (b := true) (p := 2) (by simp [scal, hxl] <;> omega) ?_
  refine awp_skip ?_
  show awp _ _ _ _
  refine awp_seq ?_
  refine awp_block ?_
  refine awp_seqR fun K hK => ?_
  simp (disch := omega) [ints, rows, scal, wr64, wr8, s3, s4]
  (repeat' first | apply hK | apply And.intro) <;> try first | (show okH _ _ _ = true; kernel_rfl) | omega | rfl | (simp <;> omega)
  refine awp_seqR fun K hK => ?_
  simp (disch := omega) [ints, rows, scal, wr64, wr8]
  (repeat' first | apply hK | apply And.intro) <;> try first | (show okH _ _ _ = true; kernel_rfl) | omega | rfl | (simp <;> omega)
  have hl1 := hl6 x (by omega)
  have h1x : 1 <<< x < 64 := by rw [Nat.one_shiftLeft, show 64 = 2 ^ 6 from rfl]; exact Nat.pow_lt_pow_right (by omega) (by omega)
  by_cases he : stepR nx q x = q
  ·have hei : (stepR nx q x : Int) = (q : Int) := by omega
   have hlo : loopN nx q (x + 1) = loopN nx q x ||| (1 <<< x) := by rw [loopN, if_pos he]
   have ho := orN64 (x := loopN nx q x) (y := 1 <<< x) (by omega) (by omega)
   have hs := shl1N64 (k := x) (by omega)
   generalize 1 <<< x = b at hlo ho hs h1x
   refine awp_cond (b := true) (p := 2) (by simp [scal, hei, he] <;> omega) ?_
   refine awp_R fun K hK => ?_
   simp (disch := omega) [ints, rows, scal, wr64, wr8, hs, ho]
   (repeat' first | apply hK | apply And.intro) <;> try first | (show okH _ _ _ = true; kernel_rfl) | omega | rfl | (simp <;> omega)
   show awp _ _ _ _
   refine awp_R fun K hK => ?_
   simp (disch := omega) [ints, rows, scal, wr64, wr8]
   (repeat' first | apply hK | apply And.intro) <;> try first | (show okH _ _ _ = true; kernel_rfl) | omega | rfl | (simp <;> omega)
   refine ⟨x + 1, by omega, by omega, ?_⟩
   refine wk_fam [(0, some 0), (1, some 1), (2, some 2), (3, some 3)] (fun j => 100 + j) rfl ?_ ?_ ?_ ?_ ?_ ?_
   all_goals try simp +contextual (disch := omega) [beq_gt, beq_lt, eq_lt, eq_gt, lt_t, List.getElem?_cons_succ, Option.getD_some, callF, ints, scal, tpO, wkPs_snoc, wkPs_tab, vecV, famV, wkW, rows, bools, hlo]
   all_goals (try omega)
  ·have hei : ¬ (stepR nx q x : Int) = (q : Int) := by omega
   have hlo : loopN nx q (x + 1) = loopN nx q x := by rw [loopN, if_neg he]
   refine awp_cond (b := false) (p := 2) (by simp [scal, hei, he] <;> omega) ?_
   refine awp_skip ?_
   show awp _ _ _ _
   refine awp_R fun K hK => ?_
   simp (disch := omega) [ints, rows, scal, wr64, wr8]
   (repeat' first | apply hK | apply And.intro) <;> try first | (show okH _ _ _ = true; kernel_rfl) | omega | rfl | (simp <;> omega)
   refine ⟨x + 1, by omega, by omega, ?_⟩
   refine wk_fam [(0, some 0), (1, some 1), (2, some 2), (3, some 3)] (fun j => 100 + j) rfl ?_ ?_ ?_ ?_ ?_ ?_
   all_goals try simp +contextual (disch := omega) [beq_gt, beq_lt, eq_lt, eq_gt, lt_t, List.getElem?_cons_succ, Option.getD_some, callF, ints, scal, tpO, wkPs_snoc, wkPs_tab, vecV, famV, wkW, rows, bools, hlo]
   all_goals (try omega)
 obtain rfl : x = L := by omega
 refine awp_cond (b := false) (p := 2) (by simp [scal] <;> omega) ?_
 refine awp_exit ?_
 show awp _ _ _ _
 refine awp_seqR fun K hK => ?_
 simp (disch := omega) [ints, rows, scal, wr64, wr8, wkW]
 (repeat' first | apply hK | apply And.intro) <;> try first | (show okH _ _ _ = true; kernel_rfl) | omega | rfl | (simp <;> omega)
 clear hlp
 obtain ⟨lo, hlo⟩ : ∃ lo, lo = loopN nx q x := ⟨_, rfl⟩
 rw [← hlo]
 have hz : pXL x m bs nx q 0 = if bs.getD q false then [([lo], [])] else [] := by rw [pXL_zero, hlo]
 have hbg : bs.getD q false = bs[q] := by rw [List.getD_eq_getElem?_getD, List.getElem?_eq_getElem hqb]; rfl
 obtain ⟨S1, hS1⟩ : ∃ S1, S1 = S ++ [lo] := ⟨_, rfl⟩
 have hS1l : S1.length = S.length + 1 := by rw [hS1]; simp
 have hS1n : niT S ++ [.int .i64 (lo : Int)] = niT S1 := by rw [hS1, niT_snoc]
 refine awp_weak (σ' := mkF [(0, .ptr 0 0 8), (1, .t 2 (.int .i64 q))]
   [(0, wkW x s bs nx us (.own 1 (l.length * 2)) (.own 2 S1.length) (.own 3 U.length)), (1, .vec 37 2 1 (vecV 100 l)), (2, .row 3 1 1 (niT S1)), (3, .row 3 1 1 (niT U))] 100 (l.length * 2) (famV l) 2000 152 [.ptr 0 0 8, .any]) ?_ ?_
 ·refine wk_fam [(0, some 0), (1, some 1), (2, some 2), (3, some 3)] (fun j => 100 + j) rfl ?_ ?_ ?_ ?_ ?_ ?_
  all_goals try simp +contextual (disch := omega) [beq_gt, beq_lt, eq_lt, eq_gt, lt_t, List.getElem?_cons_succ, Option.getD_some, callF, ints, scal, tpO, wkPs_snoc, wkPs_tab, vecV, famV, wkW, rows, bools, hS1n, hS1l]
  all_goals (try omega)
 refine awp_join (fun σ' => ∃ l2, (l2 = l ++ preM S U (pXL x m bs nx q 0) ∧ l2.length ≤ 400) ∧ Wk σ' (mkF [(0, .ptr 0 0 8), (1, .t 2 (.int .i64 q))]
   [(0, wkW x s bs nx us (.own 1 (l2.length * 2)) (.own 2 S1.length) (.own 3 U.length)), (1, .vec 37 2 1 (vecV 100 l2)), (2, .row 3 1 1 (niT S1)), (3, .row 3 1 1 (niT U))] 100 (l2.length * 2) (famV l2) 2000 152 [.ptr 0 0 8, .any])) ?_ ?_
 ·rintro σ' ⟨l2, ⟨hl2, hl2n⟩, hw⟩
  refine awp_weak hw ?_
  clear hw
  have hF0 : Fits l.length U.length (pXL x m bs nx q 0) := by
   rw [hz]
   rw [hl2, hz] at hl2n
   split at hl2n
   ·rename_i hh
    rw [if_pos hh]
    simp at hl2n
    exact ⟨by simp; omega, fun p hp => by simp only [List.mem_singleton] at hp; subst hp; simpa using hU⟩
   ·rename_i hh
    rw [if_neg hh]
    exact ⟨by simpa using hl, fun p hp => by simp at hp⟩
  refine awp_seq ?_
  refine awp_seqR fun K hK => ?_
  simp (disch := omega) [ints, rows, scal, wr64, wr8, wkW, rows, hqx, hrl]
  (repeat' first | apply hK | apply And.intro) <;> try first | (show okH _ _ _ = true; kernel_rfl) | omega | rfl | (simp <;> omega)
  refine awp_block ?_
  refine awp_loop (fun y : Nat × List Mo => mkF [(0, .ptr 0 0 8), (1, .t 2 (.int .i64 q)), (83, .t 0 (ints nx[q])), (84, .t 2 (.int .i64 x)), (85, .t 2 (.int .i64 y.1))]
    [(0, wkW x s bs nx us (.own 1 (y.2.length * 2)) (.own 2 S1.length) (.own 3 U.length)), (1, .vec 37 2 1 (vecV 100 y.2)), (2, .row 3 1 1 (niT S1)), (3, .row 3 1 1 (niT U))] 100 (y.2.length * 2) (famV y.2) 2000 152 [.ptr 0 0 8, .any])
   (fun y => y.1 ≤ x ∧ y.2 = l ++ preM S U (pXL x m bs nx q y.1) ∧ Fits l.length U.length (pXL x m bs nx q y.1)) (fun y => x - y.1) ?_ ?_
  ·refine ⟨(0, l2), ⟨by simp, hl2, hF0⟩, ?_⟩
   refine wk_fam [(0, some 0), (1, some 1), (2, some 2), (3, some 3)] (fun j => 100 + j) rfl ?_ ?_ ?_ ?_ ?_ ?_
   all_goals try simp +contextual (disch := omega) [beq_gt, beq_lt, eq_lt, eq_gt, lt_t, List.getElem?_cons_succ, Option.getD_some, callF, ints, scal, tpO, wkPs_snoc, wkPs_tab, vecV, famV, wkW, rows, bools]
   all_goals (try omega)
  clear hl2 hl2n hF0 l2
  rintro ⟨z, l2⟩ ⟨hzx, hl2, hF⟩
  simp only at hzx hl2 hF
  have hl2n : l2.length = l.length + (pXL x m bs nx q z).length := by rw [hl2]; simp
  have hl2m : l2.length ≤ 400 := by have := hF.1; omega
  refine awp_seqR fun K hK => ?_
  simp (disch := omega) [ints, rows, scal, wr64, wr8]
  (repeat' first | apply hK | apply And.intro) <;> try first | (show okH _ _ _ = true; kernel_rfl) | omega | rfl | (simp <;> omega)
  refine awp_seq ?_
  by_cases hzl : z < x
  ·obtain ⟨s1, s2, s3, s4⟩ := hD.rt.step hq hzl
   have hug : us.getD (stepR nx q z) false = us[stepR nx q z] := by rw [List.getD_eq_getElem?_getD, List.getElem?_eq_getElem (by omega)]; rfl
   have hup : stepR nx q z < us.length := by omega
   refine awp_cond (b := true) (p := 2) (by simp [scal, hzl] <;> omega) ?_
   refine awp_skip ?_
   show awp _ _ _ _
   refine awp_seq ?_
   refine awp_block ?_
   refine awp_seqR fun K hK => ?_
   simp (disch := omega) [ints, rows, scal, wr64, wr8, s3, s4]
   (repeat' first | apply hK | apply And.intro) <;> try first | (show okH _ _ _ = true; kernel_rfl) | omega | rfl | (simp <;> omega)
   refine awp_seq ?_
   by_cases he : stepR nx q z = q
   ·have hei : (stepR nx q z : Int) = (q : Int) := by omega
    have heb : ((stepR nx q z : Int) == (q : Int)) = true := by simp [he]
    refine awp_seqR fun K hK => ?_
    simp (disch := omega) [ints, rows, scal, wr64, wr8, heb]
    (repeat' first | apply hK | apply And.intro) <;> try first | (show okH _ _ _ = true; kernel_rfl) | omega | rfl | (simp <;> omega)
    refine awp_cond (b := true) (p := 2) (by simp [scal, hei, he] <;> omega) ?_
    refine awp_exit ?_
    show awp _ _ _ _
    refine awp_R fun K hK => ?_
    simp (disch := omega) [ints, rows, scal, wr64, wr8]
    (repeat' first | apply hK | apply And.intro) <;> try first | (show okH _ _ _ = true; kernel_rfl) | omega | rfl | (simp <;> omega)
    refine ⟨(z + 1, l2), ⟨by simp only; omega, by simp only; rw [pXL_loop he]; exact hl2, by simp only; rw [pXL_loop he]; exact hF⟩, by simp only; omega, ?_⟩
    refine wk_fam [(0, some 0), (1, some 1), (2, some 2), (3, some 3)] (fun j => 100 + j) rfl ?_ ?_ ?_ ?_ ?_ ?_
    all_goals try simp +contextual (disch := omega) [beq_gt, beq_lt, eq_lt, eq_gt, lt_t, List.getElem?_cons_succ, Option.getD_some, callF, ints, scal, tpO, wkPs_snoc, wkPs_tab, vecV, famV, wkW, rows, bools]
    all_goals (try omega)
   ·have hei : ¬ (stepR nx q z : Int) = (q : Int) := by omega
    have heb : ((stepR nx q z : Int) == (q : Int)) = false := beq_eq_false_iff_ne.2 hei
    have hpn := pXL_next (L := x) (m := m) (bs := bs) he
    have hlz : pXL x m bs nx q (z + 1) = pXL x m bs nx q z ++ (pX x m bs nx (stepR nx q z)).map (conM lo z) := by rw [hpn, hlo]
    obtain ⟨rest, hrest⟩ := pXL_mono (L := x) (m := m) (bs := bs) (nx := nx) q (show z + 1 ≤ x by omega)
    cases hu : us[stepR nx q z] with
    | false =>
     have hnil : pX x m bs nx (stepR nx q z) = [] := by
      apply Classical.byContradiction
      intro hne
      have := (hus _ s1).2 ((pX_acc hD hA s1).1 hne)
      rw [hug, hu] at this
      cases this
     rw [hnil, List.map_nil, List.append_nil] at hlz
     refine awp_seqR fun K hK => ?_
     simp (disch := omega) [ints, rows, scal, wr64, wr8, heb, wkW, bools, hup, hu]
     (repeat' first | apply hK | apply And.intro) <;> try first | (show okH _ _ _ = true; kernel_rfl) | omega | rfl | (simp <;> omega)
     refine awp_cond (b := true) (p := 2) (by simp [scal, hei, he] <;> omega) ?_
     refine awp_exit ?_
     show awp _ _ _ _
     refine awp_R fun K hK => ?_
     simp (disch := omega) [ints, rows, scal, wr64, wr8]
     (repeat' first | apply hK | apply And.intro) <;> try first | (show okH _ _ _ = true; kernel_rfl) | omega | rfl | (simp <;> omega)
     refine ⟨(z + 1, l2), ⟨by simp only; omega, by simp only; rw [hlz]; exact hl2, by simp only; rw [hlz]; exact hF⟩, by simp only; omega, ?_⟩
     refine wk_fam [(0, some 0), (1, some 1), (2, some 2), (3, some 3)] (fun j => 100 + j) rfl ?_ ?_ ?_ ?_ ?_ ?_
     all_goals try simp +contextual (disch := omega) [beq_gt, beq_lt, eq_lt, eq_gt, lt_t, List.getElem?_cons_succ, Option.getD_some, callF, ints, scal, tpO, wkPs_snoc, wkPs_tab, vecV, famV, wkW, rows, bools]
     all_goals (try omega)
    | true =>
     have hne : pX x m bs nx (stepR nx q z) ≠ [] := (pX_acc hD hA s1).2 ((hus _ s1).1 (by rw [hug, hu]))
     have hsub : Fits l.length U.length (pX x m bs nx q) → Fits l2.length (U.length + 1) (pX x m bs nx (stepR nx q z)) := fun hh => by
      rw [hpe, hrest, hlz, List.append_assoc] at hh
      have := hh.right.left
      rw [fits_map, ← hl2n] at this
      exact this
     refine awp_seqR fun K hK => ?_
     simp (disch := omega) [ints, rows, scal, wr64, wr8, heb, wkW, bools, hup, hu]
     (repeat' first | apply hK | apply And.intro) <;> try first | (show okH _ _ _ = true; kernel_rfl) | omega | rfl | (simp <;> omega)
     refine awp_cond (b := false) (p := 2) (by simp [scal, hei, he] <;> omega) ?_
     refine awp_skip ?_
     show awp _ _ _ _
     refine awp_seq ?_
     refine awp_seqR fun K hK => ?_
     simp (disch := omega) [ints, rows, scal, wr64, wr8, wkW]
     (repeat' first | apply hK | apply And.intro) <;> try first | (show okH _ _ _ = true; kernel_rfl) | omega | rfl | (simp <;> omega)
     by_cases h60 : U.length = 60
     ·have h60i : (U.length : Int) = 60 := by omega
      refine awp_cond (b := true) (p := 2) (by simp [scal, h60i, h60] <;> omega) ?_
      refine awp_seqR fun K hK => ?_
      simp (disch := omega) [ints, rows, scal, wr64, wr8]
      (repeat' first | apply hK | apply And.intro) <;> try first | (show okH _ _ _ = true; kernel_rfl) | omega | rfl | (simp <;> omega)
      refine awp_ret ?_
      refine ⟨⟨_, _, ⟨false, l2, S1, U, ⟨fun h => (by cases h), fun h => ?_⟩, fun h => (by cases h), hl2m, rfl, rfl⟩, ?_⟩, by simp⟩
      ·exfalso
       obtain ⟨p, hp⟩ := List.exists_mem_of_ne_nil _ hne
       have := (hsub h).2 p hp
       omega
      ·refine resF [(0, some 0), (1, some 1), (2, some 2), (3, some 3)] (fun j => 100 + j) (.inr rfl) ?_ ?_ ?_ ?_ ?_ _ ?_ (by first | (simp; rfl) | rfl)
       all_goals try simp +contextual (disch := omega) [beq_gt, beq_lt, eq_lt, eq_gt, lt_t, List.getElem?_cons_succ, Option.getD_some, callF, ints, scal, tpO, wkPs_snoc, wkPs_tab, wkW, vecV, famV, visHd, rows, bools]
     ·have h60i : ¬ (U.length : Int) = 60 := by omega
      obtain ⟨U1, hU1⟩ : ∃ U1, U1 = U ++ [z] := ⟨_, rfl⟩
      have hU1l : U1.length = U.length + 1 := by rw [hU1]; simp
      have hU1n : niT U ++ [.int .i64 (z : Int)] = niT U1 := by rw [hU1, niT_snoc]
      have hU1t : (niT U1).take U.length = niT U := by rw [hU1]; exact dropLast_snoc' U z
      have hrk := rkA_lt hD hA hq hzl he
      obtain ⟨_, _, ⟨ok, l3, S3, U3, hok, hres, hl3m, rfl, rfl⟩, hcall⟩ := ih (stepR nx q z) l2 S1 U1 (by omega) s1 hl2m (by omega) (by omega)
      refine awp_cond (b := false) (p := 2) (by simp [scal, h60i, h60] <;> omega) ?_
      refine awp_skip ?_
      show awp _ _ _ _
      refine awp_seqR fun K hK => ?_
      simp (disch := omega) [ints, rows, scal, wr64, wr8, wkW, hU1n]
      (repeat' first | apply hK | apply And.intro) <;> try first | (show okH _ _ _ = true; kernel_rfl) | omega | rfl | (simp <;> omega)
      refine awp_weak (σ' := mkF [(0, .ptr 0 0 8), (1, .t 2 (.int .i64 q)), (9, .t 2 (.int .i64 (stepR nx q z : Nat))), (83, .t 0 (ints nx[q])), (84, .t 2 (.int .i64 x)), (85, .t 2 (.int .i64 z))]
       [(0, wkW x s bs nx us (.own 1 (l2.length * 2)) (.own 2 S1.length) (.own 3 U1.length)), (1, .vec 37 2 1 (vecV 100 l2)), (2, .row 3 1 1 (niT S1)), (3, .row 3 1 1 (niT U1))] 100 (l2.length * 2) (famV l2) 2000 152 [.ptr 0 0 8, .any]) ?_ ?_
      ·refine wk_fam [(0, some 0), (1, some 1), (2, some 2), (3, some 3)] (fun j => 100 + j) rfl ?_ ?_ ?_ ?_ ?_ ?_
       all_goals try simp +contextual (disch := omega) [beq_gt, beq_lt, eq_lt, eq_gt, lt_t, List.getElem?_cons_succ, Option.getD_some, callF, ints, scal, tpO, wkPs_snoc, wkPs_tab, vecV, famV, wkW, rows, bools, hU1l]
       all_goals (try omega)
      refine awp_seq ?_
      refine awp_seqR fun K hK => ?_
      simp (disch := omega) [ints, rows, scal, wr64, wr8]
      (repeat' apply And.intro)
      all_goals (try omega)
      refine call_ruleFF (caps := []) (hcall) [0, 1, 2, 3] 100 [0, 2002000, 2002001, 2002002] 2002010 1 rfl rfl rfl rfl (by kernel_rfl) (by simp) ?_ ?_ ?_ (by simp) (by intro k hk; simp at hk; omega) rfl (by simp) ⟨.inr ⟨rfl, 0, _, _, _, _, _, rfl, rfl, (by first | rfl | simp [wkW, rows, bools, vecV, famV, fam4_q]), rfl, (by first | rfl | simp [wkW, rows, bools, vecV, famV, fam4_q])⟩, .inl ⟨by omega, by omega⟩, .inl ⟨by omega, by omega⟩, .inl ⟨by omega, by omega⟩, trivial⟩ (by omega) (by intro k hk; simp at hk; omega) (by simp [wkW, rows, bools, vecV, famV, fam4_q]) (fun j hj => rfl) ?_
      ·simp +contextual (disch := omega) [beq_gt, beq_lt, eq_lt, eq_gt, lt_t, List.getElem?_cons_succ, Option.getD_some, callF, ints, scal, tpO, wkPs_snoc, wkPs_tab, poF, scal, rows, ints, inPs_tabE, wkW, rows, bools, vecV, famV, fam4_q]
      ·simp +contextual (disch := omega) [beq_gt, beq_lt, eq_lt, eq_gt, lt_t, List.getElem?_cons_succ, Option.getD_some, callF, ints, scal, tpO, wkPs_snoc, wkPs_tab, poF, scal, rows, ints, inPs_tabE, wkW, rows, bools, vecV, famV, fam4_q]
      ·simp +contextual (disch := omega) [beq_gt, beq_lt, eq_lt, eq_gt, lt_t, List.getElem?_cons_succ, Option.getD_some, callF, ints, scal, tpO, wkPs_snoc, wkPs_tab, poF, scal, rows, ints, inPs_tabE, wkW, rows, bools, vecV, famV, fam4_q]
      simp (disch := omega) [ints, rows, scal, wr64, wr8, wkW, callFF, poF4_1, poF4_2, poF4_3]
      (repeat' first | apply hK | apply And.intro) <;> try first | (show okH _ _ _ = true; kernel_rfl) | omega | rfl | (simp <;> omega)
      rw [hU1l] at hok
      cases ok with
      | false =>
       refine awp_cond (b := true) (p := 2) (by simp [scal] <;> omega) ?_
       refine awp_seqR fun K hK => ?_
       simp (disch := omega) [ints, rows, scal, wr64, wr8]
       (repeat' first | apply hK | apply And.intro) <;> try first | (show okH _ _ _ = true; kernel_rfl) | omega | rfl | (simp <;> omega)
       refine awp_ret ?_
       refine ⟨⟨_, _, ⟨false, l3, S3, U3, ⟨fun h => (by cases h), fun h => ?_⟩, fun h => (by cases h), hl3m, rfl, rfl⟩, ?_⟩, by simp⟩
       ·exact hok.2 (hsub h)
       ·refine resF [(0, some 0), (1, some 2002000), (2, some 2002001), (3, some 2002002)] (fun j => 2002010 + j) (.inr rfl) ?_ ?_ ?_ ?_ ?_ _ ?_ (by first | (simp; rfl) | rfl)
        all_goals try simp +contextual (disch := omega) [wkE, wkP, wkPs, wkH, wkO, keysNd, unm, mpOf_nil, mpOf_cons, dels, upd_b, mkS, mkF, envOf_nil, envOf_cons, heapOf_nil, heapOf_cons, famM_at, famM_lt, famU, famH_at, famH_lt, ovr_at, ovr_lt, beq_gt, beq_lt, eq_lt, eq_gt, lt_t, List.getElem?_cons_zero, List.getElem?_cons_succ, Option.getD_some, argS, callS, callF, heap2, addL, delL, outV, outVs, outO, ghA, ghA1, ints, scal, tpO, wkPs_snoc, wkPs_tab, idxF, wkW, vecV, famV, visHd, rows, bools, callFF, delF_lt, poF4_1, poF4_2, poF4_3, outVs_famJ (show 4 = [0, 2002000, 2002001, 2002002].length from rfl)]
      | true =>
       obtain ⟨hl3, rfl, rfl⟩ := hres rfl
       have hFp := hok.1 rfl
       refine awp_cond (b := false) (p := 2) (by simp [scal] <;> omega) ?_
       refine awp_skip ?_
       show awp _ _ _ _
       refine awp_RD (by kernel_rfl) (fun K hK => ?_)
       simp (disch := omega) [ints, rows, scal, wr64, wr8, wkW, hU1l, hU1t]
       (repeat' first | apply hK | apply And.intro) <;> try first | (show chkD _ _ = true; kernel_rfl) | (show okH _ _ _ = true; kernel_rfl) | omega | rfl | (simp <;> omega)
       show awp _ _ _ _
       refine awp_R fun K hK => ?_
       simp (disch := omega) [ints, rows, scal, wr64, wr8]
       (repeat' first | apply hK | apply And.intro) <;> try first | (show okH _ _ _ = true; kernel_rfl) | omega | rfl | (simp <;> omega)
       refine ⟨(z + 1, l3), ⟨by simp only; omega, ?_, ?_⟩, by simp only; omega, ?_⟩
       ·simp only
        rw [hl3, hl2, hlz, preM_app, List.append_assoc, preM_con, hS1, hU1]
       ·simp only
        rw [hlz]
        refine hF.app ?_
        rw [fits_map, ← hl2n]
        exact hFp
       ·refine wk_fam [(0, some 0), (1, some 2002000), (2, some 2002001), (3, some 15002000)] (fun j => 2002010 + j) rfl ?_ ?_ ?_ ?_ ?_ ?_
        all_goals try simp +contextual (disch := omega) [wkE, wkP, wkPs, wkH, wkO, keysNd, unm, mpOf_nil, mpOf_cons, dels, upd_b, mkS, mkF, envOf_nil, envOf_cons, heapOf_nil, heapOf_cons, famM_at, famM_lt, famU, famH_at, famH_lt, ovr_at, ovr_lt, beq_gt, beq_lt, eq_lt, eq_gt, lt_t, List.getElem?_cons_zero, List.getElem?_cons_succ, Option.getD_some, argS, callS, callF, heap2, addL, delL, outV, outVs, outO, ghA, ghA1, ints, scal, tpO, wkPs_snoc, wkPs_tab, vecV, famV, wkW, rows, bools, hU1t, callFF, delF_lt, poF4_1, poF4_2, poF4_3, outVs_famJ (show 4 = [0, 2002000, 2002001, 2002002].length from rfl)]
        all_goals (try omega)
  ·obtain rfl : z = x := by omega
   have hSt : (niT S1).take S.length = niT S := by rw [hS1]; exact dropLast_snoc' S lo
   refine awp_cond (b := false) (p := 2) (by simp [scal] <;> omega) ?_
   refine awp_exit ?_
   show awp _ _ _ _
   refine awp_seqD (by kernel_rfl) (fun K hK => ?_)
   simp (disch := omega) [ints, rows, scal, wr64, wr8, wkW, hS1l]
   (repeat' first | apply hK | apply And.intro) <;> try first | (show chkD _ _ = true; kernel_rfl) | (show okH _ _ _ = true; kernel_rfl) | omega | rfl | (simp <;> omega)
   refine awp_seqR fun K hK => ?_
   simp (disch := omega) [ints, rows, scal, wr64, wr8]
   (repeat' first | apply hK | apply And.intro) <;> try first | (show okH _ _ _ = true; kernel_rfl) | omega | rfl | (simp <;> omega)
   refine awp_ret ?_
   refine ⟨⟨_, _, ⟨true, l2, S, U, ⟨fun _ => by rw [hpe]; exact hF, fun _ => rfl⟩, fun _ => ⟨by rw [hpe]; exact hl2, rfl, rfl⟩, hl2m, rfl, rfl⟩, ?_⟩, by simp⟩
   refine resF [(0, some 0), (1, some 1), (2, some 12002000), (3, some 3)] (fun j => 100 + j) (.inr rfl) ?_ ?_ ?_ ?_ ?_ _ ?_ (by first | (simp; rfl) | rfl)
   all_goals try simp +contextual (disch := omega) [beq_gt, beq_lt, eq_lt, eq_gt, lt_t, List.getElem?_cons_succ, Option.getD_some, callF, ints, scal, tpO, wkPs_snoc, wkPs_tab, wkW, vecV, famV, visHd, rows, bools, hSt]
 ·refine awp_seqR fun K hK => ?_
  simp (disch := omega) [ints, rows, scal, wr64, wr8, wkW, bools, hqb]
  (repeat' first | apply hK | apply And.intro) <;> try first | (show okH _ _ _ = true; kernel_rfl) | omega | rfl | (simp <;> omega)
  cases hb : bs[q] with
  | true =>
   refine awp_cond (b := true) (p := 2) (by simp [scal, hb] <;> omega) ?_
   rw [hbg, hb, if_pos rfl] at hz
   refine awp_seq ?_
   refine awp_seqR fun K hK => ?_
   simp (disch := omega) [ints, rows, scal, wr64, wr8, wkW]
   (repeat' first | apply hK | apply And.intro) <;> try first | (show okH _ _ _ = true; kernel_rfl) | omega | rfl | (simp <;> omega)
   by_cases h400 : l.length = 400
   ·have h400i : (l.length : Int) = 400 := by omega
    refine awp_cond (b := true) (p := 2) (by simp [scal, h400i, h400] <;> omega) ?_
    refine awp_seqR fun K hK => ?_
    simp (disch := omega) [ints, rows, scal, wr64, wr8]
    (repeat' first | apply hK | apply And.intro) <;> try first | (show okH _ _ _ = true; kernel_rfl) | omega | rfl | (simp <;> omega)
    refine awp_ret ?_
    refine ⟨⟨_, _, ⟨false, l, S1, U, ⟨fun h => (by cases h), fun h => ?_⟩, fun h => (by cases h), hl, rfl, rfl⟩, ?_⟩, by simp⟩
    ·exfalso
     obtain ⟨l', e⟩ := pXL_mono (L := x) (m := m) (bs := bs) (nx := nx) q (Nat.zero_le x)
     have := h.1
     rw [hpe, e, hz] at this
     simp at this
     omega
    ·refine resF [(0, some 0), (1, some 1), (2, some 2), (3, some 3)] (fun j => 100 + j) (.inr rfl) ?_ ?_ ?_ ?_ ?_ _ ?_ (by first | (simp; rfl) | rfl)
     all_goals try simp +contextual (disch := omega) [beq_gt, beq_lt, eq_lt, eq_gt, lt_t, List.getElem?_cons_succ, Option.getD_some, callF, ints, scal, tpO, wkPs_snoc, wkPs_tab, wkW, vecV, famV, visHd, rows, bools]
   ·have h400i : ¬ (l.length : Int) = 400 := by omega
    refine awp_cond (b := false) (p := 2) (by simp [scal, h400i, h400] <;> omega) ?_
    have hc1 := cloneO_fn (nI S1) (by simp; omega)
    have hc2 := cloneO_fn (nI U) (by simp; omega)
    rw [nI_len] at hc1 hc2
    refine awp_skip ?_
    show awp _ _ _ _
    refine awp_weak (σ' := mkF [(0, .ptr 0 0 8), (1, .t 2 (.int .i64 q))]
     [(0, wkW x s bs nx us (.own 1 (l.length * 2)) (.own 2 S1.length) (.own 3 U.length)), (1, .vec 37 2 1 (vecV 100 l)), (2, .row 3 1 1 (niT S1)), (3, .row 3 1 1 (niT U))] 100 (l.length * 2) (famV l) 2000 152 [.ptr 0 0 8, .any]) ?_ ?_
    ·refine wk_fam [(0, some 0), (1, some 1), (2, some 2), (3, some 3)] (fun j => 100 + j) rfl ?_ ?_ ?_ ?_ ?_ ?_
     all_goals try simp +contextual (disch := omega) [beq_gt, beq_lt, eq_lt, eq_gt, lt_t, List.getElem?_cons_succ, Option.getD_some, callF, ints, scal, tpO, wkPs_snoc, wkPs_tab, vecV, famV, wkW, rows, bools]
     all_goals (try omega)
    refine awp_RD (by kernel_rfl) (fun K hK => ?_)
    simp (disch := omega) [ints, rows, scal, wr64, wr8, wkW]
    (repeat' apply And.intro)
    all_goals (try omega)
    refine call_ruleD (caps := []) (hc1) [] [9002000] 2 rfl rfl rfl rfl (by kernel_rfl) (by simp) ?_ ?_ (by simp) rfl (by simp) ⟨.inl ⟨by omega, by omega⟩, trivial⟩ (by simp [wkW, niT]) ?_
    ·simp [scal, rows, ints, wkW, niT]
    ·trivial
    simp (disch := omega) [ints, rows, scal, wr64, wr8, wkW]
    (repeat' apply And.intro)
    all_goals (try omega)
    refine call_ruleD (caps := []) (hc2) [] [14002000] 2 rfl rfl rfl rfl (by kernel_rfl) (by simp) ?_ ?_ (by simp) rfl (by simp) ⟨.inl ⟨by omega, by omega⟩, trivial⟩ (by simp [wkW, niT]) ?_
    ·simp [scal, rows, ints, wkW, niT]
    ·trivial
    simp (disch := omega) [ints, rows, scal, wr64, wr8, wkW, rangeK_2]
    (repeat' first | apply hK | apply And.intro) <;> try first | (show chkD _ _ = true; kernel_rfl) | (show okH _ _ _ = true; kernel_rfl) | omega | rfl | (simp <;> omega)
    refine ⟨l ++ [(S1, U)], ⟨by rw [hz, hS1]; simp [preM], by simp; omega⟩, ?_⟩
    refine wk_fam [(0, some 0), (1, some 1), (2, some 2), (3, some 3)] (fun j => if j < l.length * 2 then 100 + j else if j = l.length * 2 then 9002000 else 14002000) rfl ?_ ?_ ?_ ?_ ?_ ?_
    all_goals try simp +contextual (disch := omega) [beq_gt, beq_lt, eq_lt, eq_gt, lt_t, List.getElem?_cons_succ, Option.getD_some, callF, ints, scal, tpO, wkPs_snoc, wkPs_tab, wkW, rows, bools, vecV_snoc, Nat.add_mul]
    all_goals (try omega)
    ·refine wkPs_app ?_ ?_
     ·unfold vecV
      rw [wkPs_tab]
      intro j hj
      simp +contextual (disch := omega) [beq_gt, beq_lt, eq_lt, eq_gt, lt_t, List.getElem?_cons_succ, Option.getD_some, callF, ints, scal, tpO, wkPs_snoc, wkPs_tab, hj]
     ·simp +contextual (disch := omega) [beq_gt, beq_lt, eq_lt, eq_gt, lt_t, List.getElem?_cons_succ, Option.getD_some, callF, ints, scal, tpO, wkPs_snoc, wkPs_tab]
    ·intro j hj
     by_cases h1 : j < l.length * 2
     ·simp +contextual (disch := omega) [beq_gt, beq_lt, eq_lt, eq_gt, lt_t, List.getElem?_cons_succ, Option.getD_some, callF, ints, scal, tpO, wkPs_snoc, wkPs_tab, h1, famV, moR_app h1]
     ·by_cases h2 : j = l.length * 2
      ·subst h2
       simp +contextual (disch := omega) [beq_gt, beq_lt, eq_lt, eq_gt, lt_t, List.getElem?_cons_succ, Option.getD_some, callF, ints, scal, tpO, wkPs_snoc, wkPs_tab, famV, moR_fst, niT]
      ·obtain rfl : j = l.length * 2 + 1 := by omega
       have h3 : ¬ l.length * 2 + 1 < l.length * 2 := by omega
       simp +contextual (disch := omega) [beq_gt, beq_lt, eq_lt, eq_gt, lt_t, List.getElem?_cons_succ, Option.getD_some, callF, ints, scal, tpO, wkPs_snoc, wkPs_tab, famV, moR_snd, niT, h3]
    ·intro i j hi hj h
     split at h <;> split at h <;> (try split at h) <;> (try split at h) <;> omega
  | false =>
   refine awp_cond (b := false) (p := 2) (by simp [scal, hb] <;> omega) ?_
   rw [hbg, hb] at hz
   refine awp_skip ?_
   refine ⟨l, ⟨by rw [hz]; simp [preM], hl⟩, ?_⟩
   refine wk_fam [(0, some 0), (1, some 1), (2, some 2), (3, some 3)] (fun j => 100 + j) rfl ?_ ?_ ?_ ?_ ?_ ?_
   all_goals try simp +contextual (disch := omega) [beq_gt, beq_lt, eq_lt, eq_gt, lt_t, List.getElem?_cons_succ, Option.getD_some, callF, ints, scal, tpO, wkPs_snoc, wkPs_tab, vecV, famV, wkW, rows, bools, hS1n, hS1l]
   all_goals (try omega)

attribute [local simp] KL_ap KD_ap awpL_nil awpL_cons awpD_nil awpD_cons awpOp awpOpD wrE gd aop aBuiltin aNil aMin ASt.eval AV.ofV dstOk ASt.app Eff.heap dels upd_b aLoad aStore aField aFieldV aIndexAddr aIndex aSlice aSliceO aLen aBin iB sB aUn aConv aAlloc aBox aBuild afill avCells AV.leaf setR aBuildSlice frz frzL isOwn vecOf tsOf aMake srcOf aAppend aMkMap aMapUpd aLookup oint cut putL AObj.cnt mkS envOf_nil envOf_cons heapOf_nil heapOf_cons argS Nat.blt_eq callS outV outVs outO heap2 addL delL List.getElem?_cons_zero okO inPs inP resV mkF famH_lt wkE wkP wkPs wkH wkO keysNd unm mpOf_nil mpOf_cons famM_at famM_lt famU famH_at ovr_at ovr_lt ghA ghA1 idxF ndL inOs inO
set_option linter.unusedSimpArgs false

noncomputable def rightP (L m : Nat) (bs : List Bool) (nx : List (List Int)) : List Mo × Int := @ite _ (Acy L m nx) (Classical.propDecidable _) (@ite _ (Fits 0 0 (pX L m bs nx 0)) (Classical.propDecidable _) (pX L m bs nx 0, 0) ([], 3)) ([], 20)
def monR (r : List Mo × Int) : AV := .tup [.t 2 (.sl 2 (mosC r.1)), .t 2 (.int .i64 r.2)]
def monE (e : Int) : AV := .tup [.t 2 (.sl 0 []), .t 2 (.int .i64 e)]
theorem rightP_cyc {L m : Nat} {bs : List Bool} {nx : List (List Int)} (h : ¬ Acy L m nx) : rightP L m bs nx = ([], 20) := by unfold rightP; rw [if_neg h]
theorem rightP_lim {L m : Nat} {bs : List Bool} {nx : List (List Int)} (h : Acy L m nx) (h2 : ¬ Fits 0 0 (pX L m bs nx 0)) : rightP L m bs nx = ([], 3) := by unfold rightP; rw [if_pos h, if_neg h2]
theorem rightP_ok {L m : Nat} {bs : List Bool} {nx : List (List Int)} (h : Acy L m nx) (h2 : Fits 0 0 (pX L m bs nx 0)) : rightP L m bs nx = (pX L m bs nx 0, 0) := by unfold rightP; rw [if_pos h, if_pos h2]
theorem FnS.resX {P : Program} {f : FuncId} {args : List AV} {H H' : List AObj} {r r' : AV} (h : FnS P f args H r H') (hr : ∀ E v, VR E v r → VR E v r') : FnS P f args H r' H' := fun w V ob vs hm hn hv => (h w V ob vs hm hn hv).mono fun e w' ⟨v, ob', h1, h2, h3, h4⟩ => ⟨v, ob', h1, h2, hr _ _ h3, h4⟩
theorem monE_R {E : Ev} {v : Value} {e : Int} (h : VR E v (monE e)) : VR E v (monR ([], e)) := by
 cases h with
 | tup vs cs hn hr =>
  refine .tup vs _ hn (fun i c hi => ?_)
  match i, hi with
  | 0, hi =>
   have hi : some (AV.t 2 (.sl 2 [])) = some c := hi
   injection hi with hi
   subst hi
   have h0 := (hr 0 _ rfl).rep
   refine .t _ _ _ ?_
   generalize vs.getD 0 undef = v0 at h0 ⊢
   cases h0 with
   | nil => exact .nil 2
   | emp a hz => omega
   | sl b o n cap z cs vs hz => omega
  | 1, hi => exact hr 1 c hi
  | n + 2, hi => exact absurd hi (by simp)
def wkW2 (L s : Nat) (bs : List Bool) (nx : List (List Int)) (us : List Bool) (a b c : AV) : AObj := .box 85 [.t 2 (.int .i64 L), .t 2 (.int .i64 s), .t 2 (bools bs), .t 2 (rows nx), .t 2 (bools us), a, b, c]
theorem moR_cons (m : Mo) (l : List Mo) (j : Nat) : moR (m :: l) (j + 2) = moR l j := by
 unfold moR
 rw [show (j + 2) % 2 = j % 2 by omega, show (j + 2) / 2 = j / 2 + 1 by omega]
 simp
theorem mosC_at : ∀ (l : List Mo) (j : Nat), j < l.length * 2 → (mosC l)[j]? = some (.sl 1 (niT (moR l j)))
 | [], j, h => by simp at h
 | m :: l, j, h => by
  have hc : mosC (m :: l) = [ints (nI m.1), ints (nI m.2)] ++ mosC l := by simp [mosC]
  rw [hc]
  by_cases h2 : j < 2
  ·rcases (by omega : j = 0 ∨ j = 1) with rfl | rfl <;> rfl
  ·obtain ⟨i, rfl⟩ : ∃ i, j = i + 2 := ⟨j - 2, by omega⟩
   rw [List.getElem?_append_right (by simp), moR_cons, show i + 2 - [ints (nI m.1), ints (nI m.2)].length = i by simp]
   exact mosC_at l i (by simp at h; omega)
theorem mosC_tab (l : List Mo) : mosC l = tab (l.length * 2) fun j => .sl 1 (niT (moR l j)) := by
 apply List.ext_getElem?
 intro j
 by_cases h : j < l.length * 2
 ·rw [mosC_at l j h, tab_get _ h]
 ·rw [tab_get_none _ (by omega), List.getElem?_eq_none (by simp; omega)]
def famW (l : List Mo) (j : Nat) : AObj := .row 3 1 2 (niT (moR l j))
def RigG (L n s : Nat) (bs : List Bool) (nxt : List (List Int)) (res : AV) (H' : List AObj) : Prop := ∃ m b2 nx, MiX L n s bs nxt m b2 nx ∧ ((∃ l, rightP L m b2 nx = (l, 0) ∧ l.length ≤ 400 ∧ res = .tup [.own 0 (l.length * 2), .t 2 (.int .i64 0)] ∧ H' = [.vec 37 2 2 (vecV 1 l)] ++ tab (l.length * 2) (famW l)) ∨ ∃ e, (e = 3 ∨ e = 20) ∧ rightP L m b2 nx = ([], e) ∧ res = monE e ∧ H' = [])
set_option maxRecDepth 100000 in
set_option maxHeartbeats 16000000 in
theorem right0_fn {L n s : Nat} {bs : List Bool} {nxt : List (List Int)} (h : DfL L n s bs nxt) (hL : 1 ≤ L) (hL2 : L ≤ 6) (hn : n ≤ 512) : ∃ res H', RigG L n s bs nxt res H' ∧ FnS Tryd.prog 18 [dfT 0 L s bs nxt] [] res H' := by
 obtain ⟨_, ⟨m, b2, nx, hX, rfl⟩, hmin⟩ := mzMinimal_fn h hL hL2 hn
 have hD := hX.mn.df
 have hmn := hX.le
 have hnl := hD.nl
 have hbl := hD.bl
 have hm1 := hD.n1
 obtain ⟨_, ⟨b, hb, rfl⟩, hord⟩ := mordered_fn hD hL hL2 (by omega)
 obtain ⟨_, ⟨us, hul, hus, rfl⟩, huse⟩ := useful_fn hD hL hL2 (by omega)
 refine fn_introGE Tryd.func18 rfl (by simp [Tryd.f18]) ?_
 rw [show Tryd.f18.ntmps = 41 from rfl, show Tryd.f18.results = #[.tmp 2, .tmp 3] from rfl]
 refine awp_seqR fun K hK => ?_
 simp (disch := omega) [ints, rows, scal, wr64, wr8, dfT, bools]
 (repeat' first | apply hK | apply And.intro) <;> try first | (show okH _ _ _ = true; kernel_rfl) | omega | rfl | (simp <;> omega)
 refine awp_seq ?_
 refine awp_seqR fun K hK => ?_
 simp (disch := omega) [ints, rows, scal, wr64, wr8]
 (repeat' apply And.intro)
 all_goals (try omega)
 refine call_rule (caps := []) (dvalidate_fn h hL hL2 hn) [] [] 2 rfl rfl rfl rfl (by kernel_rfl) (by simp) ?_ trivial trivial rfl trivial trivial (by simp) ?_
 ·simp [scal, rows, ints, dfT, bools]
 simp (disch := omega) [ints, rows, scal, wr64, wr8]
 (repeat' first | apply hK | apply And.intro) <;> try first | (show okH _ _ _ = true; kernel_rfl) | omega | rfl | (simp <;> omega)
 refine awp_seqR fun K hK => ?_
 simp (disch := omega) [ints, rows, scal, wr64, wr8]
 (repeat' first | apply hK | apply And.intro) <;> try first | (show okH _ _ _ = true; kernel_rfl) | omega | rfl | (simp <;> omega)
 refine awp_cond (b := false) (p := 2) (by simp [scal] <;> omega) ?_
 refine awp_skip ?_
 show awp _ _ _ _
 refine awp_seqR fun K hK => ?_
 simp (disch := omega) [ints, rows, scal, wr64, wr8]
 (repeat' apply And.intro)
 all_goals (try omega)
 refine call_rule (caps := []) (hmin) [] [] 2 rfl rfl rfl rfl (by kernel_rfl) (by simp) ?_ trivial trivial rfl trivial trivial (by simp) ?_
 ·simp [scal, rows, ints, dfT, bools]
 simp (disch := omega) [ints, rows, scal, wr64, wr8, dfT, bools]
 (repeat' first | apply hK | apply And.intro) <;> try first | (show okH _ _ _ = true; kernel_rfl) | omega | rfl | (simp <;> omega)
 refine awp_seq ?_
 refine awp_seqR fun K hK => ?_
 simp (disch := omega) [ints, rows, scal, wr64, wr8]
 (repeat' apply And.intro)
 all_goals (try omega)
 refine call_rule (caps := []) (hord) [] [] 2 rfl rfl rfl rfl (by kernel_rfl) (by simp) ?_ trivial trivial rfl trivial trivial (by simp) ?_
 ·simp [scal, rows, ints, dfT, bools]
 simp (disch := omega) [ints, rows, scal, wr64, wr8]
 (repeat' first | apply hK | apply And.intro) <;> try first | (show okH _ _ _ = true; kernel_rfl) | omega | rfl | (simp <;> omega)
 cases b with
 | false =>
  have hna : ¬ Acy L m nx := fun g => by have := hb.2 g; cases this
  refine awp_cond (b := true) (p := 2) (by simp [scal] <;> omega) ?_
  refine awp_seqR fun K hK => ?_
  simp (disch := omega) [ints, rows, scal, wr64, wr8]
  (repeat' first | apply hK | apply And.intro) <;> try first | (show okH _ _ _ = true; kernel_rfl) | omega | rfl | (simp <;> omega)
  refine awp_ret ?_
  refine ⟨⟨_, _, ⟨m, b2, nx, hX, .inr ⟨20, .inr rfl, rightP_cyc hna, rfl, rfl⟩⟩, ?_⟩, by simp [dfT]⟩
  refine resQ_G ?_
  refine ⟨.inr rfl, _, [], (by first | (simp; rfl) | rfl), ?_, ?_, ?_, ?_⟩
  all_goals try simp +contextual (disch := omega) [beq_gt, beq_lt, eq_lt, eq_gt, lt_t, List.getElem?_cons_succ, Option.getD_some, callF, ints, scal, tpO, wkPs_snoc, wkPs_tab, wkT_tab, wk1, rows, bools, monE]
 | true =>
  have hA : Acy L m nx := hb.1 rfl
  refine awp_cond (b := false) (p := 2) (by simp [scal] <;> omega) ?_
  refine awp_skip ?_
  show awp _ _ _ _
  refine awp_seqD (by kernel_rfl) (fun K hK => ?_)
  simp (disch := omega) [ints, rows, scal, wr64, wr8]
  (repeat' apply And.intro)
  all_goals (try omega)
  refine call_ruleD (caps := []) (huse) [] [] 2 rfl rfl rfl rfl (by kernel_rfl) (by simp) ?_ trivial trivial rfl trivial trivial (by simp) ?_
  ·simp [scal, rows, ints, dfT, bools]
  simp (disch := omega) [ints, rows, scal, wr64, wr8, bools]
  (repeat' first | apply hK | apply And.intro) <;> try first | (show chkD _ _ = true; kernel_rfl) | (show okH _ _ _ = true; kernel_rfl) | omega | rfl | (simp <;> omega)
  obtain ⟨z, hz⟩ : ∃ z : Nat, z = 0 := ⟨0, rfl⟩
  have hzm : z < m := by omega
  refine awp_weak (σ' := mkS [(5, .ptr 1 0 4), (6, .ptr 0 0 8)]
    [(0, wkW2 L z b2 nx us (.own 2 0) (.own 3 0) (.own 4 0)), (1, dfO2 L z b2 nx), (2, .vec 37 2 2 []), (3, .row 3 1 2 (niT [])), (4, .row 3 1 2 (niT []))] 5 41 [.any]) ?_ ?_
  ·refine wk_list [(0, some 19000000), (1, some 10000000), (2, none), (3, none), (4, none)] rfl ?_ ?_ ?_ ?_
   all_goals try simp [ints, wkW2, dfO2, rows, bools, dfT, niT, nI, hz]
  have hu0 : z < us.length := by omega
  have hug : us.getD z false = us[z] := by rw [List.getD_eq_getElem?_getD, List.getElem?_eq_getElem hu0]; rfl
  have hacc := pX_acc hD hA (q := z) (by omega)
  refine awp_seq ?_
  cases hu : us[z] with
  | false =>
   have hnil : pX L m b2 nx z = [] := by
    apply Classical.byContradiction
    intro hne
    have := (hus z (by omega)).2 (hacc.1 hne)
    rw [hug, hu] at this
    cases this
   refine awp_seqD (by kernel_rfl) (fun K hK => ?_)
   simp (disch := omega) [ints, rows, scal, wr64, wr8, wkW2, dfO2, bools, hu0, hu]
   (repeat' first | apply hK | apply And.intro) <;> try first | (show chkD _ _ = true; kernel_rfl) | (show okH _ _ _ = true; kernel_rfl) | omega | rfl | (simp <;> omega)
   refine awp_cond (b := false) (p := 2) (by simp [scal] <;> omega) ?_
   refine awp_skip ?_
   show awp _ _ _ _
   refine awp_seqR fun K hK => ?_
   simp (disch := omega) [ints, rows, scal, wr64, wr8, wkW2]
   (repeat' first | apply hK | apply And.intro) <;> try first | (show okH _ _ _ = true; kernel_rfl) | omega | rfl | (simp <;> omega)
   refine awp_ret ?_
   rw [hz] at hnil
   refine ⟨⟨_, _, ⟨m, b2, nx, hX, .inl ⟨[], by rw [rightP_ok hA (by rw [hnil]; exact ⟨by simp, by simp⟩), hnil], by simp, rfl, rfl⟩⟩, ?_⟩, by simp [dfT]⟩
   refine resF [(0, some 2)] (fun j => j) (.inr rfl) ?_ ?_ ?_ ?_ ?_ _ ?_ (by first | (simp; rfl) | rfl)
   all_goals try simp +contextual (disch := omega) [beq_gt, beq_lt, eq_lt, eq_gt, lt_t, List.getElem?_cons_succ, Option.getD_some, callF, ints, scal, tpO, wkPs_snoc, wkPs_tab, vecV, famW]
  | true =>
   obtain ⟨_, _, ⟨ok, l3, S3, U3, hok, hres, hl3m, rfl, rfl⟩, hcall⟩ := visit_fn (s := z) ⟨hD.n1, hzm, hD.bl, hD.nl, hD.row⟩ hL hL2 (by omega) hA hul hus (rkA L m nx z + 1) z [] [] [] (by omega) (by omega) (by simp) rfl (by simp)
   rw [hz] at hok hres
   have hcall : FnS Tryd.prog 48 [.ptr 0 0 8, .t 2 (.int .i64 z)] [wkW L z b2 nx us (.own 1 0) (.own 2 0) (.own 3 0), .vec 37 2 1 [], .row 3 1 1 [], .row 3 1 1 []] _ _ := hcall
   refine awp_seqD (by kernel_rfl) (fun K hK => ?_)
   simp (disch := omega) [ints, rows, scal, wr64, wr8, wkW2, dfO2, bools, hu0, hu]
   (repeat' apply And.intro)
   all_goals (try omega)
   refine call_ruleDF (caps := []) (hcall) [0, 2, 3, 4] [0, 12000005, 12000006, 12000007] 12000010 2 (by simp [wkW, wkW2, rows, bools, niT, nI]) rfl rfl rfl (by kernel_rfl) (by simp) ?_ ?_ (by simp) rfl (by simp) ⟨.inr ⟨rfl, 0, _, _, _, _, _, rfl, rfl, (by first | rfl | simp [wkW, wkW2, rows, bools, niT, nI]), rfl, (by first | rfl | simp [wkW, wkW2, rows, bools, niT, nI])⟩, .inl ⟨by omega, by omega⟩, .inl ⟨by omega, by omega⟩, .inl ⟨by omega, by omega⟩, trivial⟩ (by omega) (by intro k hk; simp at hk; omega) (by simp [wkW, wkW2, rows, bools, niT, nI]) (fun j hj => rfl) ?_
   ·simp +contextual (disch := omega) [beq_gt, beq_lt, eq_lt, eq_gt, lt_t, List.getElem?_cons_succ, Option.getD_some, callF, ints, scal, tpO, wkPs_snoc, wkPs_tab, poF, scal, rows, ints, inPs_tabE, wkW, wkW2, rows, bools, niT, nI]
   ·simp +contextual (disch := omega) [beq_gt, beq_lt, eq_lt, eq_gt, lt_t, List.getElem?_cons_succ, Option.getD_some, callF, ints, scal, tpO, wkPs_snoc, wkPs_tab, poF, scal, rows, ints, inPs_tabE, wkW, wkW2, rows, bools, niT, nI]
   simp (disch := omega) [ints, rows, scal, wr64, wr8, wkW, callF, poF4_1, poF4_2, poF4_3]
   (repeat' first | apply hK | apply And.intro) <;> try first | (show chkD _ _ = true; kernel_rfl) | (show okH _ _ _ = true; kernel_rfl) | omega | rfl | (simp <;> omega)
   cases ok with
   | false =>
    refine awp_cond (b := true) (p := 2) (by simp [scal] <;> omega) ?_
    refine awp_seqR fun K hK => ?_
    simp (disch := omega) [ints, rows, scal, wr64, wr8]
    (repeat' first | apply hK | apply And.intro) <;> try first | (show okH _ _ _ = true; kernel_rfl) | omega | rfl | (simp <;> omega)
    refine awp_ret ?_
    refine ⟨⟨_, _, ⟨m, b2, nx, hX, .inr ⟨3, .inl rfl, rightP_lim hA (fun g => by have := hok.2 g; cases this), rfl, rfl⟩⟩, ?_⟩, by simp [dfT]⟩
    refine resQ_G ?_
    refine ⟨.inr rfl, _, [], (by first | (simp; rfl) | rfl), ?_, ?_, ?_, ?_⟩
    all_goals try simp +contextual (disch := omega) [beq_gt, beq_lt, eq_lt, eq_gt, lt_t, List.getElem?_cons_succ, Option.getD_some, callF, ints, scal, tpO, wkPs_snoc, wkPs_tab, wkT_tab, wk1, rows, bools, monE]
   | true =>
    obtain ⟨hl3, rfl, rfl⟩ := hres rfl
    have hl : l3 = pX L m b2 nx 0 := by rw [hl3]; simp [preM_nil]
    refine awp_cond (b := false) (p := 2) (by simp [scal] <;> omega) ?_
    refine awp_skip ?_
    show awp _ _ _ _
    refine awp_seqR fun K hK => ?_
    simp (disch := omega) [ints, rows, scal, wr64, wr8, wkW]
    (repeat' first | apply hK | apply And.intro) <;> try first | (show okH _ _ _ = true; kernel_rfl) | omega | rfl | (simp <;> omega)
    refine awp_ret ?_
    refine ⟨⟨_, _, ⟨m, b2, nx, hX, .inl ⟨l3, by rw [rightP_ok hA (hok.1 rfl), hl], hl3m, rfl, rfl⟩⟩, ?_⟩, by simp [dfT]⟩
    refine resF [(0, some 12000005)] (fun j => 12000010 + j) (.inr rfl) ?_ ?_ ?_ ?_ ?_ _ ?_ (by first | (simp; rfl) | rfl)
    all_goals try simp +contextual (disch := omega) [wkE, wkP, wkPs, wkH, wkO, keysNd, unm, mpOf_nil, mpOf_cons, dels, upd_b, mkS, mkF, envOf_nil, envOf_cons, heapOf_nil, heapOf_cons, famM_at, famM_lt, famU, famH_at, famH_lt, ovr_at, ovr_lt, beq_gt, beq_lt, eq_lt, eq_gt, lt_t, List.getElem?_cons_zero, List.getElem?_cons_succ, Option.getD_some, argS, callS, callF, heap2, addL, delL, outV, outVs, outO, ghA, ghA1, ints, scal, tpO, wkPs_snoc, wkPs_tab, idxF, vecV, famW, famV, callF, poF4_1, poF4_2, poF4_3, outVs_famJ (show 4 = [0, 12000005, 12000006, 12000007].length from rfl)]
theorem right_fn {L n s : Nat} {bs : List Bool} {nxt : List (List Int)} (h : DfL L n s bs nxt) (hL : 1 ≤ L) (hL2 : L ≤ 6) (hn : n ≤ 512) : ∃ m b2 nx, MiX L n s bs nxt m b2 nx ∧ FnA Tryd.prog 18 [dfT 0 L s bs nxt] (monR (rightP L m b2 nx)) := by
 obtain ⟨res, H', ⟨m, b2, nx, hX, hr⟩, hs⟩ := right0_fn h hL hL2 hn
 refine ⟨m, b2, nx, hX, ?_⟩
 rcases hr with ⟨l, e1, -, rfl, rfl⟩ | ⟨e, -, e1, rfl, rfl⟩
 ·rw [e1]
  refine hs.frz ?_ (by simp [dfT])
  simp only [monR, wkP, wkPs, and_true]
  rw [mosC_tab]
  refine ⟨⟨by simp, trivial, rfl, Nat.le_refl _, ?_⟩, trivial, Nat.le_refl _⟩
  unfold vecV
  rw [wkT_tab]
  intro j hj
  have hg : ([AObj.vec 37 2 2 (tab (l.length * 2) fun j => AV.own (1 + j) (moR l j).length)] ++ tab (l.length * 2) (famW l))[1 + j]? = some (famW l j) := by
   rw [List.getElem?_append_right (by simp), show 1 + j - [AObj.vec 37 2 2 (tab (l.length * 2) fun j => AV.own (1 + j) (moR l j).length)].length = j by simp]
   exact tab_get _ hj
  simp only [wk1]
  rw [hg]
  simp [famW]
 ·rw [e1]
  exact hs.resX fun E v => monE_R

set_option linter.unusedSimpArgs false

def PaG (out l : List Mo) (S U : List Nat) (ps : List Mo) : Prop := l.length ≤ 401 ∧ (out.length + ps.length ≤ 400 → l = out ++ preM S U ps) ∧ (400 < out.length + ps.length → 400 < l.length)
theorem PaG.start {out : List Mo} {S U : List Nat} (h : out.length ≤ 400) : PaG out out S U [] := ⟨by omega, fun _ => by simp [preM], fun h2 => by simp at h2; omega⟩
theorem PaG.one {out : List Mo} {S U : List Nat} {lo : Nat} (h : out.length ≤ 400) : PaG out (out ++ [(S ++ [lo], U)]) S U [([lo], [])] := ⟨by simp; omega, fun _ => by simp [preM], fun h2 => by simp at h2 ⊢; omega⟩
theorem PaG.cut {out l : List Mo} {S U : List Nat} {ps qs : List Mo} (h : PaG out l S U ps) (hl : 400 < l.length) : PaG out l S U (ps ++ qs) := by
 have h1 : 400 < out.length + ps.length := by
  by_cases g : out.length + ps.length ≤ 400
  ·have := h.2.1 g
   rw [this] at hl
   simp at hl
   omega
  ·omega
 exact ⟨h.1, fun g => by simp at g; omega, fun _ => hl⟩
theorem PaG.call {out l l3 : List Mo} {S U : List Nat} {lo x : Nat} {ps qs : List Mo} (h : PaG out l S U ps) (hl : l.length ≤ 400) (h3 : PaG l l3 (S ++ [lo]) (U ++ [x]) qs) : PaG out l3 S U (ps ++ qs.map (conM lo x)) := by
 have h1 : out.length + ps.length ≤ 400 := by
  by_cases g : out.length + ps.length ≤ 400
  ·exact g
  ·have := h.2.2 (by omega)
   omega
 have e := h.2.1 h1
 have hn : l.length = out.length + ps.length := by rw [e]; simp
 refine ⟨h3.1, fun g => ?_, fun g => h3.2.2 (by simp at g; omega)⟩
 rw [h3.2.1 (by simp at g; omega), e, preM_app, List.append_assoc, preM_con]

set_option linter.unusedSimpArgs false

theorem MiX.eq {L n s m m' : Nat} {bs b1 b2 : List Bool} {nxt n1 n2 : List (List Int)} (hL : 0 < L) (h1 : MiX L n s bs nxt m b1 n1) (h2 : MiX L n s bs nxt m' b2 n2) : m = m' ∧ b1 = b2 ∧ n1 = n2 :=
 h1.mn.eq hL h2.mn fun w hw => by rw [h1.lang w hw, h2.lang w hw]
end Go.Proofs.YtnffigeofdagfaaDoor.M
