/-
  Walk in my logic: visit (walker of monomial), by the rank of the state; the list's rows stay own rows.
  Walk in my logic: Right (monomial), of valid automata.
  Walk in my logic: paths (semigroupref35), by the rank of the state.
  Walk in my logic: Right (semigroupref35), of valid automata.
-/
import Derived.Test.YtnffigeofdagfaaDoorZobb
import Derived.Test.YtnffigeofdagfaaDoorZoao
import Derived.Test.YtnffigeofdagfaaDoorZobd
import Derived.Test.YtnffigeofdagfaaDoorZobg
import Derived.Test.YtnffigeofdagfaaDoorZoaw
import Derived.Test.YtnffigeofdagfaaDoorZobf
namespace Go.Proofs.YtnffigeofdagfaaDoor.M
open Go.RowKit
set_option linter.unusedVariables false
attribute [local simp] wkPs wkE wkP wkH wkO keysNd unm mpOf_nil mpOf_cons dels upd_b mkS mkF envOf_nil envOf_cons heapOf_nil heapOf_cons famM_at famM_lt famU famH_at famH_lt ovr_at ovr_lt List.getElem?_cons_zero argS callS heap2 addL delL outV outVs outO ghA ghA1 KL_ap KD_ap awpL_nil awpL_cons awpD_nil awpD_cons awpOp awpOpD wrE gd aop aBuiltin aNil aMin ASt.eval AV.ofV dstOk ASt.app Eff.heap aLoad aStore aField aFieldV aIndexAddr aIndex aSlice aSliceO aLen aBin iB sB aUn aConv aAlloc aBox aBuild afill avCells AV.leaf setR aBuildSlice frz frzL isOwn vecOf tsOf aMake srcOf aAppend aMkMap aMapUpd aLookup oint cut putL AObj.cnt Nat.blt_eq resV idxF ndL okO inPs inP inOs inO
set_option linter.unusedSimpArgs false

def niT (S : List Nat) : List T := (nI S).map (.int .i64)
@[simp] theorem niT_len (S : List Nat) : (niT S).length = S.length := by simp [niT]
theorem niT_snoc (S : List Nat) (a : Nat) : niT (S ++ [a]) = niT S ++ [.int .i64 (a : Int)] := by simp [niT, nI]
def wkW (L s : Nat) (bs : List Bool) (nx : List (List Int)) (us : List Bool) (a b c : AV) : AObj := .box 85 [.t 2 (.int .i64 L), .t 2 (.int .i64 s), .t 1 (bools bs), .t 1 (rows nx), .t 1 (bools us), a, b, c]
def moR (l : List Mo) (j : Nat) : List Nat := if j % 2 = 0 then (l.getD (j / 2) ([], [])).1 else (l.getD (j / 2) ([], [])).2
theorem moR_app {l : List Mo} {x : Mo} {j : Nat} (h : j < l.length * 2) : moR (l ++ [x]) j = moR l j := by
 unfold moR
 rw [List.getD_eq_getElem?_getD, List.getElem?_append_left (by omega), ← List.getD_eq_getElem?_getD]
theorem moR_fst (l : List Mo) (x : Mo) : moR (l ++ [x]) (l.length * 2) = x.1 := by
 unfold moR
 rw [if_pos (by omega), show l.length * 2 / 2 = l.length by omega]
 simp
theorem moR_snd (l : List Mo) (x : Mo) : moR (l ++ [x]) (l.length * 2 + 1) = x.2 := by
 unfold moR
 rw [if_neg (by omega), show (l.length * 2 + 1) / 2 = l.length by omega]
 simp
def famV (l : List Mo) (j : Nat) : AObj := .row 3 1 1 (niT (moR l j))
def vecV (b : Nat) (l : List Mo) : List AV := tab (l.length * 2) fun j => .own (b + j) (moR l j).length
@[simp] theorem vecV_len (b : Nat) (l : List Mo) : (vecV b l).length = l.length * 2 := by simp [vecV]
theorem vecV_snoc (b : Nat) (l : List Mo) (x : Mo) : vecV b (l ++ [x]) = vecV b l ++ [.own (b + l.length * 2) x.1.length] ++ [.own (b + (l.length * 2 + 1)) x.2.length] := by
 unfold vecV
 rw [show (l ++ [x]).length * 2 = l.length * 2 + 1 + 1 by simp; omega, tab_succ, tab_succ, moR_fst, moR_snd]
 congr 2
 exact tab_congr (fun j hj => by rw [moR_app hj])
theorem fam4_q {α : Type} {a b c d : α} {n j : Nat} {F : Nat → α} (h : j < n) : (a :: b :: c :: d :: tab n F)[4 + j]? = some (F j) := by
 rw [Nat.add_comm]
 simp only [List.getElem?_cons_succ]
 exact tab_get F h
theorem poF4_1 {a b c d B n : Nat} : (poF [a, b, c, d] B n)[1]?.getD 0 = b := rfl
theorem poF4_2 {a b c d B n : Nat} : (poF [a, b, c, d] B n)[2]?.getD 0 = c := rfl
theorem poF4_3 {a b c d B n : Nat} : (poF [a, b, c, d] B n)[3]?.getD 0 = d := rfl
theorem wkPs_app {H : Nat → Option AObj} {m : Nat → Option Nat} {un : Nat → Prop} {nx : Nat} : ∀ {xs ys cs ds : List AV}, wkPs H m un nx xs ys → wkPs H m un nx cs ds → wkPs H m un nx (xs ++ cs) (ys ++ ds)
 | [], [], _, _, _, h => h
 | a :: xs, b :: ys, cs, ds, h1, h2 => by
  simp only [wkPs] at h1
  simp only [List.cons_append, wkPs]
  exact ⟨h1.1, wkPs_app h1.2 h2⟩
 | [], _ :: _, _, _, h, _ => by simp at h
 | _ :: _, [], _, _, h, _ => by simp at h
theorem outVs_famJ {ph : List Nat} {b n q h : Nat} {L : Nat → Nat} (hh : h = ph.length) : outVs (poF ph b n) q (tab n fun j => .own (h + j) (L j)) = tab n fun j => AV.own (b + j) (L j) := by
 rw [outVs_tab]
 refine tab_congr (fun j hj => ?_)
 subst hh
 simp only [outV]
 rw [poF_at hj]
abbrev visHd (L s : Nat) (bs : List Bool) (nx : List (List Int)) (us : List Bool) (l : List Mo) (S U : List Nat) : List AObj := [wkW L s bs nx us (.own 1 (l.length * 2)) (.own 2 S.length) (.own 3 U.length), .vec 37 2 1 (vecV 4 l), .row 3 1 1 (niT S), .row 3 1 1 (niT U)]
def VisG (L m s : Nat) (bs : List Bool) (nx : List (List Int)) (us : List Bool) (l : List Mo) (S U : List Nat) (q : Nat) (res : AV) (H' : List AObj) : Prop := ∃ ok l' S' U', (ok = true ↔ Fits l.length U.length (pX L m bs nx q)) ∧ (ok = true → l' = l ++ preM S U (pX L m bs nx q) ∧ S' = S ∧ U' = U) ∧ l'.length ≤ 400 ∧ res = .t 2 (.bool ok) ∧ H' = visHd L s bs nx us l' S' U' ++ tab (l'.length * 2) (famV l')
theorem dropLast_snoc' (S : List Nat) (a : Nat) : (niT (S ++ [a])).take S.length = niT S := by
 rw [niT_snoc, List.take_append_of_le_length (by simp)]
 exact List.take_of_length_le (by simp)
set_option maxRecDepth 100000 in
set_option maxHeartbeats 32000000 in
theorem visit_fn {L m s : Nat} {bs us : List Bool} {nx : List (List Int)} (hD : DfL L m s bs nx) (hL : 1 ≤ L) (hL2 : L ≤ 6) (hm : m ≤ 512) (hA : Acy L m nx) (hul : us.length = m) (hus : ∀ q, q < m → (us.getD q false = true ↔ ∃ w, (∀ a ∈ w, a < L) ∧ accR bs nx q w = true)) :
  ∀ (k q : Nat) (l : List Mo) (S U : List Nat), rkA L m nx q < k → q < m → l.length ≤ 400 → S.length = U.length → U.length ≤ 60 → ∃ res H', VisG L m s bs nx us l S U q res H' ∧ FnS Tryd.prog 48 [.ptr 0 0 8, .t 2 (.int .i64 q)] (visHd L s bs nx us l S U ++ tab (l.length * 2) (famV l)) res H' := by
 intro k
 induction k
 ·intro q l S U h; omega
 rename_i k ih
 intro q l S U hk hq hl hST hU
 have hnl := hD.nl
 have hbl := hD.bl
 have hqx : q < nx.length := by omega
 have hqb : q < bs.length := by omega
 obtain ⟨hrl, -⟩ := hD.row nx[q] (by simp)
 have hlp := loopN_lt nx q
 have hl6 : ∀ x, x ≤ 6 → loopN nx q x < 64 := fun x hx => Nat.lt_of_lt_of_le (hlp x) (by rw [show 64 = 2 ^ 6 from rfl]; exact Nat.pow_le_pow_right (by omega) hx)
 have hpe := pX_eq hD hA hq
 refine fn_introGE Tryd.func48 rfl (by simp [Tryd.f48]) ?_
 rw [show Tryd.f48.ntmps = 152 from rfl, show Tryd.f48.results = #[.tmp 4] from rfl]
 rw [argS_fam]
 refine awp_weak (σ' := mkF [(0, .ptr 0 0 8), (1, .t 2 (.int .i64 q))]
   [(0, wkW L s bs nx us (.own 1 (l.length * 2)) (.own 2 S.length) (.own 3 U.length)), (1, .vec 37 2 1 (vecV 100 l)), (2, .row 3 1 1 (niT S)), (3, .row 3 1 1 (niT U))] 100 (l.length * 2) (famV l) 2000 152 [.ptr 0 0 8, .any]) ?_ ?_
 ·refine wk_fam [(0, some 0), (1, some 1), (2, some 2), (3, some 3)] (fun j => 4 + j) rfl ?_ ?_ ?_ ?_ ?_ ?_
  all_goals try simp +contextual (disch := omega) [beq_gt, beq_lt, eq_lt, eq_gt, lt_t, List.getElem?_cons_succ, Option.getD_some, callF, ints, scal, tpO, wkPs_snoc, wkPs_tab, vecV, famV, visHd, wkW, rows, bools, idxE]
  all_goals (try omega)
 refine awp_seqR fun K hK => ?_
 simp (disch := omega) [ints, rows, scal, wr64, wr8]
 (repeat' first | apply hK | apply And.intro) <;> try first | (show okH _ _ _ = true; kernel_rfl) | omega | rfl | (simp <;> omega)
 refine awp_seqR fun K hK => ?_
 simp (disch := omega) [ints, rows, scal, wr64, wr8]
 (repeat' first | apply hK | apply And.intro) <;> try first | (show okH _ _ _ = true; kernel_rfl) | omega | rfl | (simp <;> omega)
 refine awp_seq ?_
 refine awp_seqR fun K hK => ?_
 simp (disch := omega) [ints, rows, scal, wr64, wr8, wkW, rows, hqx, hrl]
 (repeat' first | apply hK | apply And.intro) <;> try first | (show okH _ _ _ = true; kernel_rfl) | omega | rfl | (simp <;> omega)
 refine awp_block ?_
 refine awp_loop (fun x : Nat => mkF [(0, .ptr 0 0 8), (1, .t 2 (.int .i64 q)), (5, .t 2 (.int .i64 (loopN nx q x : Nat))), (17, .t 0 (ints nx[q])), (18, .t 2 (.int .i64 L)), (19, .t 2 (.int .i64 x))]
   [(0, wkW L s bs nx us (.own 1 (l.length * 2)) (.own 2 S.length) (.own 3 U.length)), (1, .vec 37 2 1 (vecV 100 l)), (2, .row 3 1 1 (niT S)), (3, .row 3 1 1 (niT U))] 100 (l.length * 2) (famV l) 2000 152 [.ptr 0 0 8, .any]) (fun x => x ≤ L) (fun x => L - x) ?_ ?_
 ·refine ⟨0, by omega, ?_⟩
  refine wk_fam [(0, some 0), (1, some 1), (2, some 2), (3, some 3)] (fun j => 100 + j) rfl ?_ ?_ ?_ ?_ ?_ ?_
  all_goals try simp +contextual (disch := omega) [beq_gt, beq_lt, eq_lt, eq_gt, lt_t, List.getElem?_cons_succ, Option.getD_some, callF, ints, scal, tpO, wkPs_snoc, wkPs_tab, vecV, famV, wkW, rows, bools, loopN]
  all_goals (try omega)
 intro x hx
 refine awp_seqR fun K hK => ?_
 simp (disch := omega) [ints, rows, scal, wr64, wr8]
 (repeat' first | apply hK | apply And.intro) <;> try first | (show okH _ _ _ = true; kernel_rfl) | omega | rfl | (simp <;> omega)
 refine awp_seq ?_
 by_cases hxl : x < L
 ·obtain ⟨s1, s2, s3, s4⟩ := hD.rt.step hq hxl
  refine awp_cond (b := true) (p := 2) (by simp [scal, hxl] <;> omega) ?_
  refine awp_skip ?_
  show awp _ _ _ _
  refine awp_seq ?_
  refine awp_block ?_
  refine awp_seqR fun K hK => ?_
  simp (disch := omega) [ints, rows, scal, wr64, wr8, s3, s4]
  (repeat' first | apply hK | apply And.intro) <;> try first | (show okH _ _ _ = true; kernel_rfl) | omega | rfl | (simp <;> omega)
  refine awp_seqR fun K hK => ?_
  simp (disch := omega) [ints, rows, scal, wr64, wr8]
  (repeat' first | apply hK | apply And.intro) <;> try first | (show okH _ _ _ = true; kernel_rfl) | omega | rfl | (simp <;> omega)
  have hl1 := hl6 x (by omega)
  have h1x : 1 <<< x < 64 := by rw [Nat.one_shiftLeft, show 64 = 2 ^ 6 from rfl]; exact Nat.pow_lt_pow_right (by omega) (by omega)
  by_cases he : stepR nx q x = q
  ·have hei : (stepR nx q x : Int) = (q : Int) := by omega
   have hlo : loopN nx q (x + 1) = loopN nx q x ||| (1 <<< x) := by rw [loopN, if_pos he]
   have ho := orN64 (x := loopN nx q x) (y := 1 <<< x) (by omega) (by omega)
   have hs := shl1N64 (k := x) (by omega)
   generalize 1 <<< x = b at hlo ho hs h1x
   refine awp_cond (b := true) (p := 2) (by simp [scal, hei, he] <;> omega) ?_
   refine awp_R fun K hK => ?_
   simp (disch := omega) [ints, rows, scal, wr64, wr8, hs, ho]
   (repeat' first | apply hK | apply And.intro) <;> try first | (show okH _ _ _ = true; kernel_rfl) | omega | rfl | (simp <;> omega)
   show awp _ _ _ _
   refine awp_R fun K hK => ?_
   simp (disch := omega) [ints, rows, scal, wr64, wr8]
   (repeat' first | apply hK | apply And.intro) <;> try first | (show okH _ _ _ = true; kernel_rfl) | omega | rfl | (simp <;> omega)
   refine ⟨x + 1, by omega, by omega, ?_⟩
   refine wk_fam [(0, some 0), (1, some 1), (2, some 2), (3, some 3)] (fun j => 100 + j) rfl ?_ ?_ ?_ ?_ ?_ ?_
   all_goals try simp +contextual (disch := omega) [beq_gt, beq_lt, eq_lt, eq_gt, lt_t, List.getElem?_cons_succ, Option.getD_some, callF, ints, scal, tpO, wkPs_snoc, wkPs_tab, vecV, famV, wkW, rows, bools, hlo]
   all_goals (try omega)
  ·have hei : ¬ (stepR nx q x : Int) = (q : Int) := by omega
   have hlo : loopN nx q (x + 1) = loopN nx q x := by rw [loopN, if_neg he]
   refine awp_cond (b := false) (p := 2) (by simp [scal, hei, he] <;> omega) ?_
   refine awp_skip ?_
   show awp _ _ _ _
   refine awp_R fun K hK => ?_
   simp (disch := omega) [ints, rows, scal, wr64, wr8]
   (repeat' first | apply hK | apply And.intro) <;> try first | (show okH _ _ _ = true; kernel_rfl) | omega | rfl | (simp <;> omega)
   refine ⟨x + 1, by omega, by omega, ?_⟩
   refine wk_fam [(0, some 0), (1, some 1), (2, some 2), (3, some 3)] (fun j => 100 + j) rfl ?_ ?_ ?_ ?_ ?_ ?_
   all_goals try simp +contextual (disch := omega) [beq_gt, beq_lt, eq_lt, eq_gt, lt_t, List.getElem?_cons_succ, Option.getD_some, callF, ints, scal, tpO, wkPs_snoc, wkPs_tab, vecV, famV, wkW, rows, bools, hlo]
   all_goals (try omega)
 obtain rfl : x = L := by omega
 refine awp_cond (b := false) (p := 2) (by simp [scal] <;> omega) ?_
 refine awp_exit ?_
 show awp _ _ _ _
 refine awp_seqR fun K hK => ?_
 simp (disch := omega) [ints, rows, scal, wr64, wr8, wkW]
 (repeat' first | apply hK | apply And.intro) <;> try first | (show okH _ _ _ = true; kernel_rfl) | omega | rfl | (simp <;> omega)
 clear hlp
 obtain ⟨lo, hlo⟩ : ∃ lo, lo = loopN nx q x := ⟨_, rfl⟩
 rw [← hlo]
 have hz : pXL x m bs nx q 0 = if bs.getD q false then [([lo], [])] else [] := by rw [pXL_zero, hlo]
 have hbg : bs.getD q false = bs[q] := by rw [List.getD_eq_getElem?_getD, List.getElem?_eq_getElem hqb]; rfl
 obtain ⟨S1, hS1⟩ : ∃ S1, S1 = S ++ [lo] := ⟨_, rfl⟩
 have hS1l : S1.length = S.length + 1 := by rw [hS1]; simp
 have hS1n : niT S ++ [.int .i64 (lo : Int)] = niT S1 := by rw [hS1, niT_snoc]
 refine awp_weak (σ' := mkF [(0, .ptr 0 0 8), (1, .t 2 (.int .i64 q))]
   [(0, wkW x s bs nx us (.own 1 (l.length * 2)) (.own 2 S1.length) (.own 3 U.length)), (1, .vec 37 2 1 (vecV 100 l)), (2, .row 3 1 1 (niT S1)), (3, .row 3 1 1 (niT U))] 100 (l.length * 2) (famV l) 2000 152 [.ptr 0 0 8, .any]) ?_ ?_
 ·refine wk_fam [(0, some 0), (1, some 1), (2, some 2), (3, some 3)] (fun j => 100 + j) rfl ?_ ?_ ?_ ?_ ?_ ?_
  all_goals try simp +contextual (disch := omega) [beq_gt, beq_lt, eq_lt, eq_gt, lt_t, List.getElem?_cons_succ, Option.getD_some, callF, ints, scal, tpO, wkPs_snoc, wkPs_tab, vecV, famV, wkW, rows, bools, hS1n, hS1l]
  all_goals (try omega)
 refine awp_join (fun σ' => ∃ l2, (l2 = l ++ preM S U (pXL x m bs nx q 0) ∧ l2.length ≤ 400) ∧ Wk σ' (mkF [(0, .ptr 0 0 8), (1, .t 2 (.int .i64 q))]
   [(0, wkW x s bs nx us (.own 1 (l2.length * 2)) (.own 2 S1.length) (.own 3 U.length)), (1, .vec 37 2 1 (vecV 100 l2)), (2, .row 3 1 1 (niT S1)), (3, .row 3 1 1 (niT U))] 100 (l2.length * 2) (famV l2) 2000 152 [.ptr 0 0 8, .any])) ?_ ?_
 ·rintro σ' ⟨l2, ⟨hl2, hl2n⟩, hw⟩
  refine awp_weak hw ?_
  clear hw
  have hF0 : Fits l.length U.length (pXL x m bs nx q 0) := by
   rw [hz]
   rw [hl2, hz] at hl2n
   split at hl2n
   ·rename_i hh
    rw [if_pos hh]
    simp at hl2n
    exact ⟨by simp; omega, fun p hp => by simp only [List.mem_singleton] at hp; subst hp; simpa using hU⟩
   ·rename_i hh
    rw [if_neg hh]
    exact ⟨by simpa using hl, fun p hp => by simp at hp⟩
  refine awp_seq ?_
  refine awp_seqR fun K hK => ?_
  simp (disch := omega) [ints, rows, scal, wr64, wr8, wkW, rows, hqx, hrl]
  (repeat' first | apply hK | apply And.intro) <;> try first | (show okH _ _ _ = true; kernel_rfl) | omega | rfl | (simp <;> omega)
  refine awp_block ?_
  refine awp_loop (fun y : Nat × List Mo => mkF [(0, .ptr 0 0 8), (1, .t 2 (.int .i64 q)), (83, .t 0 (ints nx[q])), (84, .t 2 (.int .i64 x)), (85, .t 2 (.int .i64 y.1))]
    [(0, wkW x s bs nx us (.own 1 (y.2.length * 2)) (.own 2 S1.length) (.own 3 U.length)), (1, .vec 37 2 1 (vecV 100 y.2)), (2, .row 3 1 1 (niT S1)), (3, .row 3 1 1 (niT U))] 100 (y.2.length * 2) (famV y.2) 2000 152 [.ptr 0 0 8, .any])
   (fun y => y.1 ≤ x ∧ y.2 = l ++ preM S U (pXL x m bs nx q y.1) ∧ Fits l.length U.length (pXL x m bs nx q y.1)) (fun y => x - y.1) ?_ ?_
  ·refine ⟨(0, l2), ⟨by simp, hl2, hF0⟩, ?_⟩
   refine wk_fam [(0, some 0), (1, some 1), (2, some 2), (3, some 3)] (fun j => 100 + j) rfl ?_ ?_ ?_ ?_ ?_ ?_
   all_goals try simp +contextual (disch := omega) [beq_gt, beq_lt, eq_lt, eq_gt, lt_t, List.getElem?_cons_succ, Option.getD_some, callF, ints, scal, tpO, wkPs_snoc, wkPs_tab, vecV, famV, wkW, rows, bools]
   all_goals (try omega)
  clear hl2 hl2n hF0 l2
  rintro ⟨z, l2⟩ ⟨hzx, hl2, hF⟩
  simp only at hzx hl2 hF
  have hl2n : l2.length = l.length + (pXL x m bs nx q z).length := by rw [hl2]; simp
  have hl2m : l2.length ≤ 400 := by have := hF.1; omega
  refine awp_seqR fun K hK => ?_
  simp (disch := omega) [ints, rows, scal, wr64, wr8]
  (repeat' first | apply hK | apply And.intro) <;> try first | (show okH _ _ _ = true; kernel_rfl) | omega | rfl | (simp <;> omega)
  refine awp_seq ?_
  by_cases hzl : z < x
  ·obtain ⟨s1, s2, s3, s4⟩ := hD.rt.step hq hzl
   have hug : us.getD (stepR nx q z) false = us[stepR nx q z] := by rw [List.getD_eq_getElem?_getD, List.getElem?_eq_getElem (by omega)]; rfl
   have hup : stepR nx q z < us.length := by omega
   refine awp_cond (b := true) (p := 2) (by simp [scal, hzl] <;> omega) ?_
   refine awp_skip ?_
   show awp _ _ _ _
   refine awp_seq ?_
   refine awp_block ?_
   refine awp_seqR fun K hK => ?_
   simp (disch := omega) [ints, rows, scal, wr64, wr8, s3, s4]
   (repeat' first | apply hK | apply And.intro) <;> try first | (show okH _ _ _ = true; kernel_rfl) | omega | rfl | (simp <;> omega)
   refine awp_seq ?_
   by_cases he : stepR nx q z = q
   ·have hei : (stepR nx q z : Int) = (q : Int) := by omega
    have heb : ((stepR nx q z : Int) == (q : Int)) = true := by simp [he]
    refine awp_seqR fun K hK => ?_
    simp (disch := omega) [ints, rows, scal, wr64, wr8, heb]
    (repeat' first | apply hK | apply And.intro) <;> try first | (show okH _ _ _ = true; kernel_rfl) | omega | rfl | (simp <;> omega)
    refine awp_cond (b := true) (p := 2) (by simp [scal, hei, he] <;> omega) ?_
    refine awp_exit ?_
    show awp _ _ _ _
    refine awp_R fun K hK => ?_
    simp (disch := omega) [ints, rows, scal, wr64, wr8]
    (repeat' first | apply hK | apply And.intro) <;> try first | (show okH _ _ _ = true; kernel_rfl) | omega | rfl | (simp <;> omega)
    refine ⟨(z + 1, l2), ⟨by simp only; omega, by simp only; rw [pXL_loop he]; exact hl2, by simp only; rw [pXL_loop he]; exact hF⟩, by simp only; omega, ?_⟩
    refine wk_fam [(0, some 0), (1, some 1), (2, some 2), (3, some 3)] (fun j => 100 + j) rfl ?_ ?_ ?_ ?_ ?_ ?_
    all_goals try simp +contextual (disch := omega) [beq_gt, beq_lt, eq_lt, eq_gt, lt_t, List.getElem?_cons_succ, Option.getD_some, callF, ints, scal, tpO, wkPs_snoc, wkPs_tab, vecV, famV, wkW, rows, bools]
    all_goals (try omega)
   ·have hei : ¬ (stepR nx q z : Int) = (q : Int) := by omega
    have heb : ((stepR nx q z : Int) == (q : Int)) = false := beq_eq_false_iff_ne.2 hei
    have hpn := pXL_next (L := x) (m := m) (bs := bs) he
    have hlz : pXL x m bs nx q (z + 1) = pXL x m bs nx q z ++ (pX x m bs nx (stepR nx q z)).map (conM lo z) := by rw [hpn, hlo]
    obtain ⟨rest, hrest⟩ := pXL_mono (L := x) (m := m) (bs := bs) (nx := nx) q (show z + 1 ≤ x by omega)
    cases hu : us[stepR nx q z] with
    | false =>
     have hnil : pX x m bs nx (stepR nx q z) = [] := by
      apply Classical.byContradiction
      intro hne
      have := (hus _ s1).2 ((pX_acc hD hA s1).1 hne)
      rw [hug, hu] at this
      cases this
     rw [hnil, List.map_nil, List.append_nil] at hlz
     refine awp_seqR fun K hK => ?_
     simp (disch := omega) [ints, rows, scal, wr64, wr8, heb, wkW, bools, hup, hu]
     (repeat' first | apply hK | apply And.intro) <;> try first | (show okH _ _ _ = true; kernel_rfl) | omega | rfl | (simp <;> omega)
     refine awp_cond (b := true) (p := 2) (by simp [scal, hei, he] <;> omega) ?_
     refine awp_exit ?_
     show awp _ _ _ _
     refine awp_R fun K hK => ?_
     simp (disch := omega) [ints, rows, scal, wr64, wr8]
     (repeat' first | apply hK | apply And.intro) <;> try first | (show okH _ _ _ = true; kernel_rfl) | omega | rfl | (simp <;> omega)
     refine ⟨(z + 1, l2), ⟨by simp only; omega, by simp only; rw [hlz]; exact hl2, by simp only; rw [hlz]; exact hF⟩, by simp only; omega, ?_⟩
     refine wk_fam [(0, some 0), (1, some 1), (2, some 2), (3, some 3)] (fun j => 100 + j) rfl ?_ ?_ ?_ ?_ ?_ ?_
     all_goals try simp +contextual (disch := omega) [beq_gt, beq_lt, eq_lt, eq_gt, lt_t, List.getElem?_cons_succ, Option.getD_some, callF, ints, scal, tpO, wkPs_snoc, wkPs_tab, vecV, famV, wkW, rows, bools]
     all_goals (try omega)
    | true =>
     have hne : pX x m bs nx (stepR nx q z) ≠ [] := (pX_acc hD hA s1).2 ((hus _ s1).1 (by rw [hug, hu]))
     have hsub : Fits l.length U.length (pX x m bs nx q) → Fits l2.length (U.length + 1) (pX x m bs nx (stepR nx q z)) := fun hh => by
      rw [hpe, hrest, hlz, List.append_assoc] at hh
      have := hh.right.left
      rw [fits_map, ← hl2n] at this
      exact this
     refine awp_seqR fun K hK => ?_
     simp (disch := omega) [ints, rows, scal, wr64, wr8, heb, wkW, bools, hup, hu]
     (repeat' first | apply hK | apply And.intro) <;> try first | (show okH _ _ _ = true; kernel_rfl) | omega | rfl | (simp <;> omega)
     refine awp_cond (b := false) (p := 2) (by simp [scal, hei, he] <;> omega) ?_
     refine awp_skip ?_
     show awp _ _ _ _
     refine awp_seq ?_
     refine awp_seqR fun K hK => ?_
     simp (disch := omega) [ints, rows, scal, wr64, wr8, wkW]
     (repeat' first | apply hK | apply And.intro) <;> try first | (show okH _ _ _ = true; kernel_rfl) | omega | rfl | (simp <;> omega)
     by_cases h60 : U.length = 60
     ·have h60i : (U.length : Int) = 60 := by omega
      refine awp_cond (b := true) (p := 2) (by simp [scal, h60i, h60] <;> omega) ?_
      refine awp_seqR fun K hK => ?_
      simp (disch := omega) [ints, rows, scal, wr64, wr8]
      (repeat' first | apply hK | apply And.intro) <;> try first | (show okH _ _ _ = true; kernel_rfl) | omega | rfl | (simp <;> omega)
      refine awp_ret ?_
      refine ⟨⟨_, _, ⟨false, l2, S1, U, ⟨fun h => (by cases h), fun h => ?_⟩, fun h => (by cases h), hl2m, rfl, rfl⟩, ?_⟩, by simp⟩
      ·exfalso
       obtain ⟨p, hp⟩ := List.exists_mem_of_ne_nil _ hne
       have := (hsub h).2 p hp
       omega
      ·refine resF [(0, some 0), (1, some 1), (2, some 2), (3, some 3)] (fun j => 100 + j) (.inr rfl) ?_ ?_ ?_ ?_ ?_ _ ?_ (by first | (simp; rfl) | rfl)
       all_goals try simp +contextual (disch := omega) [beq_gt, beq_lt, eq_lt, eq_gt, lt_t, List.getElem?_cons_succ, Option.getD_some, callF, ints, scal, tpO, wkPs_snoc, wkPs_tab, wkW, vecV, famV, visHd, rows, bools]
     ·have h60i : ¬ (U.length : Int) = 60 := by omega
      obtain ⟨U1, hU1⟩ : ∃ U1, U1 = U ++ [z] := ⟨_, rfl⟩
      have hU1l : U1.length = U.length + 1 := by rw [hU1]; simp
      have hU1n : niT U ++ [.int .i64 (z : Int)] = niT U1 := by rw [hU1, niT_snoc]
      have hU1t : (niT U1).take U.length = niT U := by rw [hU1]; exact dropLast_snoc' U z
      have hrk := rkA_lt hD hA hq hzl he
      obtain ⟨_, _, ⟨ok, l3, S3, U3, hok, hres, hl3m, rfl, rfl⟩, hcall⟩ := ih (stepR nx q z) l2 S1 U1 (by omega) s1 hl2m (by omega) (by omega)
      refine awp_cond (b := false) (p := 2) (by simp [scal, h60i, h60] <;> omega) ?_
      refine awp_skip ?_
      show awp _ _ _ _
      refine awp_seqR fun K hK => ?_
      simp (disch := omega) [ints, rows, scal, wr64, wr8, wkW, hU1n]
      (repeat' first | apply hK | apply And.intro) <;> try first | (show okH _ _ _ = true; kernel_rfl) | omega | rfl | (simp <;> omega)
      refine awp_weak (σ' := mkF [(0, .ptr 0 0 8), (1, .t 2 (.int .i64 q)), (9, .t 2 (.int .i64 (stepR nx q z : Nat))), (83, .t 0 (ints nx[q])), (84, .t 2 (.int .i64 x)), (85, .t 2 (.int .i64 z))]
       [(0, wkW x s bs nx us (.own 1 (l2.length * 2)) (.own 2 S1.length) (.own 3 U1.length)), (1, .vec 37 2 1 (vecV 100 l2)), (2, .row 3 1 1 (niT S1)), (3, .row 3 1 1 (niT U1))] 100 (l2.length * 2) (famV l2) 2000 152 [.ptr 0 0 8, .any]) ?_ ?_
      ·refine wk_fam [(0, some 0), (1, some 1), (2, some 2), (3, some 3)] (fun j => 100 + j) rfl ?_ ?_ ?_ ?_ ?_ ?_
       all_goals try simp +contextual (disch := omega) [beq_gt, beq_lt, eq_lt, eq_gt, lt_t, List.getElem?_cons_succ, Option.getD_some, callF, ints, scal, tpO, wkPs_snoc, wkPs_tab, vecV, famV, wkW, rows, bools, hU1l]
       all_goals (try omega)
      refine awp_seq ?_
      refine awp_seqR fun K hK => ?_
      simp (disch := omega) [ints, rows, scal, wr64, wr8]
      (repeat' apply And.intro)
      all_goals (try omega)
      refine call_ruleFF (caps := []) (hcall) [0, 1, 2, 3] 100 [0, 2002000, 2002001, 2002002] 2002010 1 rfl rfl rfl rfl (by kernel_rfl) (by simp) ?_ ?_ ?_ (by simp) (by intro k hk; simp at hk; omega) rfl (by simp) ⟨.inr ⟨rfl, 0, _, _, _, _, _, rfl, rfl, (by first | rfl | simp [wkW, rows, bools, vecV, famV, fam4_q]), rfl, (by first | rfl | simp [wkW, rows, bools, vecV, famV, fam4_q])⟩, .inl ⟨by omega, by omega⟩, .inl ⟨by omega, by omega⟩, .inl ⟨by omega, by omega⟩, trivial⟩ (by omega) (by intro k hk; simp at hk; omega) (by simp [wkW, rows, bools, vecV, famV, fam4_q]) (fun j hj => rfl) ?_
      ·simp +contextual (disch := omega) [beq_gt, beq_lt, eq_lt, eq_gt, lt_t, List.getElem?_cons_succ, Option.getD_some, callF, ints, scal, tpO, wkPs_snoc, wkPs_tab, poF, scal, rows, ints, inPs_tabE, wkW, rows, bools, vecV, famV, fam4_q]
      ·simp +contextual (disch := omega) [beq_gt, beq_lt, eq_lt, eq_gt, lt_t, List.getElem?_cons_succ, Option.getD_some, callF, ints, scal, tpO, wkPs_snoc, wkPs_tab, poF, scal, rows, ints, inPs_tabE, wkW, rows, bools, vecV, famV, fam4_q]
      ·simp +contextual (disch := omega) [beq_gt, beq_lt, eq_lt, eq_gt, lt_t, List.getElem?_cons_succ, Option.getD_some, callF, ints, scal, tpO, wkPs_snoc, wkPs_tab, poF, scal, rows, ints, inPs_tabE, wkW, rows, bools, vecV, famV, fam4_q]
      simp (disch := omega) [ints, rows, scal, wr64, wr8, wkW, callFF, poF4_1, poF4_2, poF4_3]
      (repeat' first | apply hK | apply And.intro) <;> try first | (show okH _ _ _ = true; kernel_rfl) | omega | rfl | (simp <;> omega)
      rw [hU1l] at hok
      cases ok with
      | false =>
       refine awp_cond (b := true) (p := 2) (by simp [scal] <;> omega) ?_
       refine awp_seqR fun K hK => ?_
       simp (disch := omega) [ints, rows, scal, wr64, wr8]
       (repeat' first | apply hK | apply And.intro) <;> try first | (show okH _ _ _ = true; kernel_rfl) | omega | rfl | (simp <;> omega)
       refine awp_ret ?_
       refine ⟨⟨_, _, ⟨false, l3, S3, U3, ⟨fun h => (by cases h), fun h => ?_⟩, fun h => (by cases h), hl3m, rfl, rfl⟩, ?_⟩, by simp⟩
       ·exact hok.2 (hsub h)
       ·refine resF [(0, some 0), (1, some 2002000), (2, some 2002001), (3, some 2002002)] (fun j => 2002010 + j) (.inr rfl) ?_ ?_ ?_ ?_ ?_ _ ?_ (by first | (simp; rfl) | rfl)
        all_goals try simp +contextual (disch := omega) [wkE, wkP, wkPs, wkH, wkO, keysNd, unm, mpOf_nil, mpOf_cons, dels, upd_b, mkS, mkF, envOf_nil, envOf_cons, heapOf_nil, heapOf_cons, famM_at, famM_lt, famU, famH_at, famH_lt, ovr_at, ovr_lt, beq_gt, beq_lt, eq_lt, eq_gt, lt_t, List.getElem?_cons_zero, List.getElem?_cons_succ, Option.getD_some, argS, callS, callF, heap2, addL, delL, outV, outVs, outO, ghA, ghA1, ints, scal, tpO, wkPs_snoc, wkPs_tab, idxF, wkW, vecV, famV, visHd, rows, bools, callFF, delF_lt, poF4_1, poF4_2, poF4_3, outVs_famJ (show 4 = [0, 2002000, 2002001, 2002002].length from rfl)]
      | true =>
       obtain ⟨hl3, rfl, rfl⟩ := hres rfl
       have hFp := hok.1 rfl
       refine awp_cond (b := false) (p := 2) (by simp [scal] <;> omega) ?_
       refine awp_skip ?_
       show awp _ _ _ _
       refine awp_RD (by kernel_rfl) (fun K hK => ?_)
       simp (disch := omega) [ints, rows, scal, wr64, wr8, wkW, hU1l, hU1t]
       (repeat' first | apply hK | apply And.intro) <;> try first | (show chkD _ _ = true; kernel_rfl) | (show okH _ _ _ = true; kernel_rfl) | omega | rfl | (simp <;> omega)
       show awp _ _ _ _
       refine awp_R fun K hK => ?_
       simp (disch := omega) [ints, rows, scal, wr64, wr8]
       (repeat' first | apply hK | apply And.intro) <;> try first | (show okH _ _ _ = true; kernel_rfl) | omega | rfl | (simp <;> omega)
       refine ⟨(z + 1, l3), ⟨by simp only; omega, ?_, ?_⟩, by simp only; omega, ?_⟩
       ·simp only
        rw [hl3, hl2, hlz, preM_app, List.append_assoc, preM_con, hS1, hU1]
       ·simp only
        rw [hlz]
        refine hF.app ?_
        rw [fits_map, ← hl2n]
        exact hFp
       ·refine wk_fam [(0, some 0), (1, some 2002000), (2, some 2002001), (3, some 15002000)] (fun j => 2002010 + j) rfl ?_ ?_ ?_ ?_ ?_ ?_
        all_goals try simp +contextual (disch := omega) [wkE, wkP, wkPs, wkH, wkO, keysNd, unm, mpOf_nil, mpOf_cons, dels, upd_b, mkS, mkF, envOf_nil, envOf_cons, heapOf_nil, heapOf_cons, famM_at, famM_lt, famU, famH_at, famH_lt, ovr_at, ovr_lt, beq_gt, beq_lt, eq_lt, eq_gt, lt_t, List.getElem?_cons_zero, List.getElem?_cons_succ, Option.getD_some, argS, callS, callF, heap2, addL, delL, outV, outVs, outO, ghA, ghA1, ints, scal, tpO, wkPs_snoc, wkPs_tab, vecV, famV, wkW, rows, bools, hU1t, callFF, delF_lt, poF4_1, poF4_2, poF4_3, outVs_famJ (show 4 = [0, 2002000, 2002001, 2002002].length from rfl)]
        all_goals (try omega)
  ·obtain rfl : z = x := by omega
   have hSt : (niT S1).take S.length = niT S := by rw [hS1]; exact dropLast_snoc' S lo
   refine awp_cond (b := false) (p := 2) (by simp [scal] <;> omega) ?_
   refine awp_exit ?_
   show awp _ _ _ _
   refine awp_seqD (by kernel_rfl) (fun K hK => ?_)
   simp (disch := omega) [ints, rows, scal, wr64, wr8, wkW, hS1l]
   (repeat' first | apply hK | apply And.intro) <;> try first | (show chkD _ _ = true; kernel_rfl) | (show okH _ _ _ = true; kernel_rfl) | omega | rfl | (simp <;> omega)
   refine awp_seqR fun K hK => ?_
   simp (disch := omega) [ints, rows, scal, wr64, wr8]
   (repeat' first | apply hK | apply And.intro) <;> try first | (show okH _ _ _ = true; kernel_rfl) | omega | rfl | (simp <;> omega)
   refine awp_ret ?_
   refine ⟨⟨_, _, ⟨true, l2, S, U, ⟨fun _ => by rw [hpe]; exact hF, fun _ => rfl⟩, fun _ => ⟨by rw [hpe]; exact hl2, rfl, rfl⟩, hl2m, rfl, rfl⟩, ?_⟩, by simp⟩
   refine resF [(0, some 0), (1, some 1), (2, some 12002000), (3, some 3)] (fun j => 100 + j) (.inr rfl) ?_ ?_ ?_ ?_ ?_ _ ?_ (by first | (simp; rfl) | rfl)
   all_goals try simp +contextual (disch := omega) [beq_gt, beq_lt, eq_lt, eq_gt, lt_t, List.getElem?_cons_succ, Option.getD_some, callF, ints, scal, tpO, wkPs_snoc, wkPs_tab, wkW, vecV, famV, visHd, rows, bools, hSt]
 ·refine awp_seqR fun K hK => ?_
  simp (disch := omega) [ints, rows, scal, wr64, wr8, wkW, bools, hqb]
  (repeat' first | apply hK | apply And.intro) <;> try first | (show okH _ _ _ = true; kernel_rfl) | omega | rfl | (simp <;> omega)
  cases hb : bs[q] with
  | true =>
   refine awp_cond (b := true) (p := 2) (by simp [scal, hb] <;> omega) ?_
   rw [hbg, hb, if_pos rfl] at hz
   refine awp_seq ?_
   refine awp_seqR fun K hK => ?_
   simp (disch := omega) [ints, rows, scal, wr64, wr8, wkW]
   (repeat' first | apply hK | apply And.intro) <;> try first | (show okH _ _ _ = true; kernel_rfl) | omega | rfl | (simp <;> omega)
   by_cases h400 : l.length = 400
   ·have h400i : (l.length : Int) = 400 := by omega
    refine awp_cond (b := true) (p := 2) (by simp [scal, h400i, h400] <;> omega) ?_
    refine awp_seqR fun K hK => ?_
    simp (disch := omega) [ints, rows, scal, wr64, wr8]
    (repeat' first | apply hK | apply And.intro) <;> try first | (show okH _ _ _ = true; kernel_rfl) | omega | rfl | (simp <;> omega)
    refine awp_ret ?_
    refine ⟨⟨_, _, ⟨false, l, S1, U, ⟨fun h => (by cases h), fun h => ?_⟩, fun h => (by cases h), hl, rfl, rfl⟩, ?_⟩, by simp⟩
    ·exfalso
     obtain ⟨l', e⟩ := pXL_mono (L := x) (m := m) (bs := bs) (nx := nx) q (Nat.zero_le x)
     have := h.1
     rw [hpe, e, hz] at this
     simp at this
     omega
    ·refine resF [(0, some 0), (1, some 1), (2, some 2), (3, some 3)] (fun j => 100 + j) (.inr rfl) ?_ ?_ ?_ ?_ ?_ _ ?_ (by first | (simp; rfl) | rfl)
     all_goals try simp +contextual (disch := omega) [beq_gt, beq_lt, eq_lt, eq_gt, lt_t, List.getElem?_cons_succ, Option.getD_some, callF, ints, scal, tpO, wkPs_snoc, wkPs_tab, wkW, vecV, famV, visHd, rows, bools]
   ·have h400i : ¬ (l.length : Int) = 400 := by omega
    refine awp_cond (b := false) (p := 2) (by simp [scal, h400i, h400] <;> omega) ?_
    have hc1 := cloneO_fn (nI S1) (by simp; omega)
    have hc2 := cloneO_fn (nI U) (by simp; omega)
    rw [nI_len] at hc1 hc2
    refine awp_skip ?_
    show awp _ _ _ _
    refine awp_weak (σ' := mkF [(0, .ptr 0 0 8), (1, .t 2 (.int .i64 q))]
     [(0, wkW x s bs nx us (.own 1 (l.length * 2)) (.own 2 S1.length) (.own 3 U.length)), (1, .vec 37 2 1 (vecV 100 l)), (2, .row 3 1 1 (niT S1)), (3, .row 3 1 1 (niT U))] 100 (l.length * 2) (famV l) 2000 152 [.ptr 0 0 8, .any]) ?_ ?_
    ·refine wk_fam [(0, some 0), (1, some 1), (2, some 2), (3, some 3)] (fun j => 100 + j) rfl ?_ ?_ ?_ ?_ ?_ ?_
     all_goals try simp +contextual (disch := omega) [beq_gt, beq_lt, eq_lt, eq_gt, lt_t, List.getElem?_cons_succ, Option.getD_some, callF, ints, scal, tpO, wkPs_snoc, wkPs_tab, vecV, famV, wkW, rows, bools]
     all_goals (try omega)
    refine awp_RD (by kernel_rfl) (fun K hK => ?_)
    simp (disch := omega) [ints, rows, scal, wr64, wr8, wkW]
    (repeat' apply And.intro)
    all_goals (try omega)
    refine call_ruleD (caps := []) (hc1) [] [9002000] 2 rfl rfl rfl rfl (by kernel_rfl) (by simp) ?_ ?_ (by simp) rfl (by simp) ⟨.inl ⟨by omega, by omega⟩, trivial⟩ (by simp [wkW, niT]) ?_
    ·simp [scal, rows, ints, wkW, niT]
    ·trivial
    simp (disch := omega) [ints, rows, scal, wr64, wr8, wkW]
    (repeat' apply And.intro)
    all_goals (try omega)
    refine call_ruleD (caps := []) (hc2) [] [14002000] 2 rfl rfl rfl rfl (by kernel_rfl) (by simp) ?_ ?_ (by simp) rfl (by simp) ⟨.inl ⟨by omega, by omega⟩, trivial⟩ (by simp [wkW, niT]) ?_
    ·simp [scal, rows, ints, wkW, niT]
    ·trivial
    simp (disch := omega) [ints, rows, scal, wr64, wr8, wkW, rangeK_2]
    (repeat' first | apply hK | apply And.intro) <;> try first | (show chkD _ _ = true; kernel_rfl) | (show okH _ _ _ = true; kernel_rfl) | omega | rfl | (simp <;> omega)
    refine ⟨l ++ [(S1, U)], ⟨by rw [hz, hS1]; simp [preM], by simp; omega⟩, ?_⟩
    refine wk_fam [(0, some 0), (1, some 1), (2, some 2), (3, some 3)] (fun j => if j < l.length * 2 then 100 + j else if j = l.length * 2 then 9002000 else 14002000) rfl ?_ ?_ ?_ ?_ ?_ ?_
    all_goals try simp +contextual (disch := omega) [beq_gt, beq_lt, eq_lt, eq_gt, lt_t, List.getElem?_cons_succ, Option.getD_some, callF, ints, scal, tpO, wkPs_snoc, wkPs_tab, wkW, rows, bools, vecV_snoc, Nat.add_mul]
    all_goals (try omega)
    ·refine wkPs_app ?_ ?_
     ·unfold vecV
      rw [wkPs_tab]
      intro j hj
      simp +contextual (disch := omega) [beq_gt, beq_lt, eq_lt, eq_gt, lt_t, List.getElem?_cons_succ, Option.getD_some, callF, ints, scal, tpO, wkPs_snoc, wkPs_tab, hj]
     ·simp +contextual (disch := omega) [beq_gt, beq_lt, eq_lt, eq_gt, lt_t, List.getElem?_cons_succ, Option.getD_some, callF, ints, scal, tpO, wkPs_snoc, wkPs_tab]
    ·intro j hj
     by_cases h1 : j < l.length * 2
     ·simp +contextual (disch := omega) [beq_gt, beq_lt, eq_lt, eq_gt, lt_t, List.getElem?_cons_succ, Option.getD_some, callF, ints, scal, tpO, wkPs_snoc, wkPs_tab, h1, famV, moR_app h1]
     ·by_cases h2 : j = l.length * 2
      ·subst h2
       simp +contextual (disch := omega) [beq_gt, beq_lt, eq_lt, eq_gt, lt_t, List.getElem?_cons_succ, Option.getD_some, callF, ints, scal, tpO, wkPs_snoc, wkPs_tab, famV, moR_fst, niT]
      ·obtain rfl : j = l.length * 2 + 1 := by omega
       have h3 : ¬ l.length * 2 + 1 < l.length * 2 := by omega
       simp +contextual (disch := omega) [beq_gt, beq_lt, eq_lt, eq_gt, lt_t, List.getElem?_cons_succ, Option.getD_some, callF, ints, scal, tpO, wkPs_snoc, wkPs_tab, famV, moR_snd, niT, h3]
    ·intro i j hi hj h
     split at h <;> split at h <;> (try split at h) <;> (try split at h) <;> omega
  | false =>
   refine awp_cond (b := false) (p := 2) (by simp [scal, hb] <;> omega) ?_
   rw [hbg, hb] at hz
   refine awp_skip ?_
   refine ⟨l, ⟨by rw [hz]; simp [preM], hl⟩, ?_⟩
   refine wk_fam [(0, some 0), (1, some 1), (2, some 2), (3, some 3)] (fun j => 100 + j) rfl ?_ ?_ ?_ ?_ ?_ ?_
   all_goals try simp +contextual (disch := omega) [beq_gt, beq_lt, eq_lt, eq_gt, lt_t, List.getElem?_cons_succ, Option.getD_some, callF, ints, scal, tpO, wkPs_snoc, wkPs_tab, vecV, famV, wkW, rows, bools, hS1n, hS1l]
   all_goals (try omega)

attribute [local simp] KL_ap KD_ap awpL_nil awpL_cons awpD_nil awpD_cons awpOp awpOpD wrE gd aop aBuiltin aNil aMin ASt.eval AV.ofV dstOk ASt.app Eff.heap dels upd_b aLoad aStore aField aFieldV aIndexAddr aIndex aSlice aSliceO aLen aBin iB sB aUn aConv aAlloc aBox aBuild afill avCells AV.leaf setR aBuildSlice frz frzL isOwn vecOf tsOf aMake srcOf aAppend aMkMap aMapUpd aLookup oint cut putL AObj.cnt mkS envOf_nil envOf_cons heapOf_nil heapOf_cons argS Nat.blt_eq callS outV outVs outO heap2 addL delL List.getElem?_cons_zero okO inPs inP resV mkF famH_lt wkE wkP wkPs wkH wkO keysNd unm mpOf_nil mpOf_cons famM_at famM_lt famU famH_at ovr_at ovr_lt ghA ghA1 idxF ndL inOs inO
set_option linter.unusedSimpArgs false

noncomputable def rightP (L m : Nat) (bs : List Bool) (nx : List (List Int)) : List Mo × Int := @ite _ (Acy L m nx) (Classical.propDecidable _) (@ite _ (Fits 0 0 (pX L m bs nx 0)) (Classical.propDecidable _) (pX L m bs nx 0, 0) ([], 3)) ([], 20)
def monR (r : List Mo × Int) : AV := .tup [.t 2 (.sl 2 (mosC r.1)), .t 2 (.int .i64 r.2)]
def monE (e : Int) : AV := .tup [.t 2 (.sl 0 []), .t 2 (.int .i64 e)]
theorem rightP_cyc {L m : Nat} {bs : List Bool} {nx : List (List Int)} (h : ¬ Acy L m nx) : rightP L m bs nx = ([], 20) := by unfold rightP; rw [if_neg h]
theorem rightP_lim {L m : Nat} {bs : List Bool} {nx : List (List Int)} (h : Acy L m nx) (h2 : ¬ Fits 0 0 (pX L m bs nx 0)) : rightP L m bs nx = ([], 3) := by unfold rightP; rw [if_pos h, if_neg h2]
theorem rightP_ok {L m : Nat} {bs : List Bool} {nx : List (List Int)} (h : Acy L m nx) (h2 : Fits 0 0 (pX L m bs nx 0)) : rightP L m bs nx = (pX L m bs nx 0, 0) := by unfold rightP; rw [if_pos h, if_pos h2]
theorem FnS.resX {P : Program} {f : FuncId} {args : List AV} {H H' : List AObj} {r r' : AV} (h : FnS P f args H r H') (hr : ∀ E v, VR E v r → VR E v r') : FnS P f args H r' H' := fun w V ob vs hm hn hv => (h w V ob vs hm hn hv).mono fun e w' ⟨v, ob', h1, h2, h3, h4⟩ => ⟨v, ob', h1, h2, hr _ _ h3, h4⟩
theorem monE_R {E : Ev} {v : Value} {e : Int} (h : VR E v (monE e)) : VR E v (monR ([], e)) := by
 cases h with
 | tup vs cs hn hr =>
  refine .tup vs _ hn (fun i c hi => ?_)
  match i, hi with
  | 0, hi =>
   have hi : some (AV.t 2 (.sl 2 [])) = some c := hi
   injection hi with hi
   subst hi
   have h0 := (hr 0 _ rfl).rep
   refine .t _ _ _ ?_
   generalize vs.getD 0 undef = v0 at h0 ⊢
   cases h0 with
   | nil => exact .nil 2
   | emp a hz => omega
   | sl b o n cap z cs vs hz => omega
  | 1, hi => exact hr 1 c hi
  | n + 2, hi => exact absurd hi (by simp)
def wkW2 (L s : Nat) (bs : List Bool) (nx : List (List Int)) (us : List Bool) (a b c : AV) : AObj := .box 85 [.t 2 (.int .i64 L), .t 2 (.int .i64 s), .t 2 (bools bs), .t 2 (rows nx), .t 2 (bools us), a, b, c]
theorem moR_cons (m : Mo) (l : List Mo) (j : Nat) : moR (m :: l) (j + 2) = moR l j := by
 unfold moR
 rw [show (j + 2) % 2 = j % 2 by omega, show (j + 2) / 2 = j / 2 + 1 by omega]
 simp
theorem mosC_at : ∀ (l : List Mo) (j : Nat), j < l.length * 2 → (mosC l)[j]? = some (.sl 1 (niT (moR l j)))
 | [], j, h => by simp at h
 | m :: l, j, h => by
  have hc : mosC (m :: l) = [ints (nI m.1), ints (nI m.2)] ++ mosC l := by simp [mosC]
  rw [hc]
  by_cases h2 : j < 2
  ·rcases (by omega : j = 0 ∨ j = 1) with rfl | rfl <;> rfl
  ·obtain ⟨i, rfl⟩ : ∃ i, j = i + 2 := ⟨j - 2, by omega⟩
   rw [List.getElem?_append_right (by simp), moR_cons, show i + 2 - [ints (nI m.1), ints (nI m.2)].length = i by simp]
   exact mosC_at l i (by simp at h; omega)
theorem mosC_tab (l : List Mo) : mosC l = tab (l.length * 2) fun j => .sl 1 (niT (moR l j)) := by
 apply List.ext_getElem?
 intro j
 by_cases h : j < l.length * 2
 ·rw [mosC_at l j h, tab_get _ h]
 ·rw [tab_get_none _ (by omega), List.getElem?_eq_none (by simp; omega)]
def famW (l : List Mo) (j : Nat) : AObj := .row 3 1 2 (niT (moR l j))
def RigG (L n s : Nat) (bs : List Bool) (nxt : List (List Int)) (res : AV) (H' : List AObj) : Prop := ∃ m b2 nx, MiX L n s bs nxt m b2 nx ∧ ((∃ l, rightP L m b2 nx = (l, 0) ∧ l.length ≤ 400 ∧ res = .tup [.own 0 (l.length * 2), .t 2 (.int .i64 0)] ∧ H' = [.vec 37 2 2 (vecV 1 l)] ++ tab (l.length * 2) (famW l)) ∨ ∃ e, (e = 3 ∨ e = 20) ∧ rightP L m b2 nx = ([], e) ∧ res = monE e ∧ H' = [])
set_option maxRecDepth 100000 in
set_option maxHeartbeats 16000000 in
theorem right0_fn {L n s : Nat} {bs : List Bool} {nxt : List (List Int)} (h : DfL L n s bs nxt) (hL : 1 ≤ L) (hL2 : L ≤ 6) (hn : n ≤ 512) : ∃ res H', RigG L n s bs nxt res H' ∧ FnS Tryd.prog 18 [dfT 0 L s bs nxt] [] res H' := by
 obtain ⟨_, ⟨m, b2, nx, hX, rfl⟩, hmin⟩ := mzMinimal_fn h hL hL2 hn
 have hD := hX.mn.df
 have hmn := hX.le
 have hnl := hD.nl
 have hbl := hD.bl
 have hm1 := hD.n1
 obtain ⟨_, ⟨b, hb, rfl⟩, hord⟩ := mordered_fn hD hL hL2 (by omega)
 obtain ⟨_, ⟨us, hul, hus, rfl⟩, huse⟩ := useful_fn hD hL hL2 (by omega)
 refine fn_introGE Tryd.func18 rfl (by simp [Tryd.f18]) ?_
 rw [show Tryd.f18.ntmps = 41 from rfl, show Tryd.f18.results = #[.tmp 2, .tmp 3] from rfl]
 refine awp_seqR fun K hK => ?_
 simp (disch := omega) [ints, rows, scal, wr64, wr8, dfT, bools]
 (repeat' first | apply hK | apply And.intro) <;> try first | (show okH _ _ _ = true; kernel_rfl) | omega | rfl | (simp <;> omega)
 refine awp_seq ?_
 refine awp_seqR fun K hK => ?_
 simp (disch := omega) [ints, rows, scal, wr64, wr8]
 (repeat' apply And.intro)
 all_goals (try omega)
 refine call_rule (caps := []) (dvalidate_fn h hL hL2 hn) [] [] 2 rfl rfl rfl rfl (by kernel_rfl) (by simp) ?_ trivial trivial rfl trivial trivial (by simp) ?_
 ·simp [scal, rows, ints, dfT, bools]
 simp (disch := omega) [ints, rows, scal, wr64, wr8]
 (repeat' first | apply hK | apply And.intro) <;> try first | (show okH _ _ _ = true; kernel_rfl) | omega | rfl | (simp <;> omega)
 refine awp_seqR fun K hK => ?_
 simp (disch := omega) [ints, rows, scal, wr64, wr8]
 (repeat' first | apply hK | apply And.intro) <;> try first | (show okH _ _ _ = true; kernel_rfl) | omega | rfl | (simp <;> omega)
 refine awp_cond (b := false) (p := 2) (by simp [scal] <;> omega) ?_
 refine awp_skip ?_
 show awp _ _ _ _
 refine awp_seqR fun K hK => ?_
 simp (disch := omega) [ints, rows, scal, wr64, wr8]
 (repeat' apply And.intro)
 all_goals (try omega)
 refine call_rule (caps := []) (hmin) [] [] 2 rfl rfl rfl rfl (by kernel_rfl) (by simp) ?_ trivial trivial rfl trivial trivial (by simp) ?_
 ·simp [scal, rows, ints, dfT, bools]
 simp (disch := omega) [ints, rows, scal, wr64, wr8, dfT, bools]
 (repeat' first | apply hK | apply And.intro) <;> try first | (show okH _ _ _ = true; kernel_rfl) | omega | rfl | (simp <;> omega)
 refine awp_seq ?_
 refine awp_seqR fun K hK => ?_
 simp (disch := omega) [ints, rows, scal, wr64, wr8]
 (repeat' apply And.intro)
 all_goals (try omega)
 refine call_rule (caps := []) (hord) [] [] 2 rfl rfl rfl rfl (by kernel_rfl) (by simp) ?_ trivial trivial rfl trivial trivial (by simp) ?_
 ·simp [scal, rows, ints, dfT, bools]
 simp (disch := omega) [ints, rows, scal, wr64, wr8]
 (repeat' first | apply hK | apply And.intro) <;> try first | (show okH _ _ _ = true; kernel_rfl) | omega | rfl | (simp <;> omega)
 cases b with
 | false =>
  have hna : ¬ Acy L m nx := fun g => by have := hb.2 g; cases this
  refine awp_cond (b := true) (p := 2) (by simp [scal] <;> omega) ?_
  refine awp_seqR fun K hK => ?_
  simp (disch := omega) [ints, rows, scal, wr64, wr8]
  (repeat' first | apply hK | apply And.intro) <;> try first | (show okH _ _ _ = true; kernel_rfl) | omega | rfl | (simp <;> omega)
  refine awp_ret ?_
  refine ⟨⟨_, _, ⟨m, b2, nx, hX, .inr ⟨20, .inr rfl, rightP_cyc hna, rfl, rfl⟩⟩, ?_⟩, by simp [dfT]⟩
  refine resQ_G ?_
  refine ⟨.inr rfl, _, [], (by first | (simp; rfl) | rfl), ?_, ?_, ?_, ?_⟩
  all_goals try simp +contextual (disch := omega) [beq_gt, beq_lt, eq_lt, eq_gt, lt_t, List.getElem?_cons_succ, Option.getD_some, callF, ints, scal, tpO, wkPs_snoc, wkPs_tab, wkT_tab, wk1, rows, bools, monE]
 | true =>
  have hA : Acy L m nx := hb.1 rfl
  refine awp_cond (b := false) (p := 2) (by simp [scal] <;> omega) ?_
  refine awp_skip ?_
  show awp _ _ _ _
  refine awp_seqD (by kernel_rfl) (fun K hK => ?_)
  simp (disch := omega) [ints, rows, scal, wr64, wr8]
  (repeat' apply And.intro)
  all_goals (try omega)
  refine call_ruleD (caps := []) (huse) [] [] 2 rfl rfl rfl rfl (by kernel_rfl) (by simp) ?_ trivial trivial rfl trivial trivial (by simp) ?_
  ·simp [scal, rows, ints, dfT, bools]
  simp (disch := omega) [ints, rows, scal, wr64, wr8, bools]
  (repeat' first | apply hK | apply And.intro) <;> try first | (show chkD _ _ = true; kernel_rfl) | (show okH _ _ _ = true; kernel_rfl) | omega | rfl | (simp <;> omega)
  obtain ⟨z, hz⟩ : ∃ z : Nat, z = 0 := ⟨0, rfl⟩
  have hzm : z < m := by omega
  refine awp_weak (σ' := mkS [(5, .ptr 1 0 4), (6, .ptr 0 0 8)]
    [(0, wkW2 L z b2 nx us (.own 2 0) (.own 3 0) (.own 4 0)), (1, dfO2 L z b2 nx), (2, .vec 37 2 2 []), (3, .row 3 1 2 (niT [])), (4, .row 3 1 2 (niT []))] 5 41 [.any]) ?_ ?_
  ·refine wk_list [(0, some 19000000), (1, some 10000000), (2, none), (3, none), (4, none)] rfl ?_ ?_ ?_ ?_
   all_goals try simp [ints, wkW2, dfO2, rows, bools, dfT, niT, nI, hz]
  have hu0 : z < us.length := by omega
  have hug : us.getD z false = us[z] := by rw [List.getD_eq_getElem?_getD, List.getElem?_eq_getElem hu0]; rfl
  have hacc := pX_acc hD hA (q := z) (by omega)
  refine awp_seq ?_
  cases hu : us[z] with
  | false =>
   have hnil : pX L m b2 nx z = [] := by
    apply Classical.byContradiction
    intro hne
    have := (hus z (by omega)).2 (hacc.1 hne)
    rw [hug, hu] at this
    cases this
   refine awp_seqD (by kernel_rfl) (fun K hK => ?_)
   simp (disch := omega) [ints, rows, scal, wr64, wr8, wkW2, dfO2, bools, hu0, hu]
   (repeat' first | apply hK | apply And.intro) <;> try first | (show chkD _ _ = true; kernel_rfl) | (show okH _ _ _ = true; kernel_rfl) | omega | rfl | (simp <;> omega)
   refine awp_cond (b := false) (p := 2) (by simp [scal] <;> omega) ?_
   refine awp_skip ?_
   show awp _ _ _ _
   refine awp_seqR fun K hK => ?_
   simp (disch := omega) [ints, rows, scal, wr64, wr8, wkW2]
   (repeat' first | apply hK | apply And.intro) <;> try first | (show okH _ _ _ = true; kernel_rfl) | omega | rfl | (simp <;> omega)
   refine awp_ret ?_
   rw [hz] at hnil
   refine ⟨⟨_, _, ⟨m, b2, nx, hX, .inl ⟨[], by rw [rightP_ok hA (by rw [hnil]; exact ⟨by simp, by simp⟩), hnil], by simp, rfl, rfl⟩⟩, ?_⟩, by simp [dfT]⟩
   refine resF [(0, some 2)] (fun j => j) (.inr rfl) ?_ ?_ ?_ ?_ ?_ _ ?_ (by first | (simp; rfl) | rfl)
   all_goals try simp +contextual (disch := omega) [beq_gt, beq_lt, eq_lt, eq_gt, lt_t, List.getElem?_cons_succ, Option.getD_some, callF, ints, scal, tpO, wkPs_snoc, wkPs_tab, vecV, famW]
  | true =>
   obtain ⟨_, _, ⟨ok, l3, S3, U3, hok, hres, hl3m, rfl, rfl⟩, hcall⟩ := visit_fn (s := z) ⟨hD.n1, hzm, hD.bl, hD.nl, hD.row⟩ hL hL2 (by omega) hA hul hus (rkA L m nx z + 1) z [] [] [] (by omega) (by omega) (by simp) rfl (by simp)
   rw [hz] at hok hres
   have hcall : FnS Tryd.prog 48 [.ptr 0 0 8, .t 2 (.int .i64 z)] [wkW L z b2 nx us (.own 1 0) (.own 2 0) (.own 3 0), .vec 37 2 1 [], .row 3 1 1 [], .row 3 1 1 []] _ _ := hcall
   refine awp_seqD (by kernel_rfl) (fun K hK => ?_)
   simp (disch := omega) [ints, rows, scal, wr64, wr8, wkW2, dfO2, bools, hu0, hu]
   (repeat' apply And.intro)
   all_goals (try omega)
   refine call_ruleDF (caps := []) (hcall) [0, 2, 3, 4] [0, 12000005, 12000006, 12000007] 12000010 2 (by simp [wkW, wkW2, rows, bools, niT, nI]) rfl rfl rfl (by kernel_rfl) (by simp) ?_ ?_ (by simp) rfl (by simp) ⟨.inr ⟨rfl, 0, _, _, _, _, _, rfl, rfl, (by first | rfl | simp [wkW, wkW2, rows, bools, niT, nI]), rfl, (by first | rfl | simp [wkW, wkW2, rows, bools, niT, nI])⟩, .inl ⟨by omega, by omega⟩, .inl ⟨by omega, by omega⟩, .inl ⟨by omega, by omega⟩, trivial⟩ (by omega) (by intro k hk; simp at hk; omega) (by simp [wkW, wkW2, rows, bools, niT, nI]) (fun j hj => rfl) ?_
   ·simp +contextual (disch := omega) [beq_gt, beq_lt, eq_lt, eq_gt, lt_t, List.getElem?_cons_succ, Option.getD_some, callF, ints, scal, tpO, wkPs_snoc, wkPs_tab, poF, scal, rows, ints, inPs_tabE, wkW, wkW2, rows, bools, niT, nI]
   ·simp +contextual (disch := omega) [beq_gt, beq_lt, eq_lt, eq_gt, lt_t, List.getElem?_cons_succ, Option.getD_some, callF, ints, scal, tpO, wkPs_snoc, wkPs_tab, poF, scal, rows, ints, inPs_tabE, wkW, wkW2, rows, bools, niT, nI]
   simp (disch := omega) [ints, rows, scal, wr64, wr8, wkW, callF, poF4_1, poF4_2, poF4_3]
   (repeat' first | apply hK | apply And.intro) <;> try first | (show chkD _ _ = true; kernel_rfl) | (show okH _ _ _ = true; kernel_rfl) | omega | rfl | (simp <;> omega)
   cases ok with
   | false =>
    refine awp_cond (b := true) (p := 2) (by simp [scal] <;> omega) ?_
    refine awp_seqR fun K hK => ?_
    simp (disch := omega) [ints, rows, scal, wr64, wr8]
    (repeat' first | apply hK | apply And.intro) <;> try first | (show okH _ _ _ = true; kernel_rfl) | omega | rfl | (simp <;> omega)
    refine awp_ret ?_
    refine ⟨⟨_, _, ⟨m, b2, nx, hX, .inr ⟨3, .inl rfl, rightP_lim hA (fun g => by have := hok.2 g; cases this), rfl, rfl⟩⟩, ?_⟩, by simp [dfT]⟩
    refine resQ_G ?_
    refine ⟨.inr rfl, _, [], (by first | (simp; rfl) | rfl), ?_, ?_, ?_, ?_⟩
    all_goals try simp +contextual (disch := omega) [beq_gt, beq_lt, eq_lt, eq_gt, lt_t, List.getElem?_cons_succ, Option.getD_some, callF, ints, scal, tpO, wkPs_snoc, wkPs_tab, wkT_tab, wk1, rows, bools, monE]
   | true =>
    obtain ⟨hl3, rfl, rfl⟩ := hres rfl
    have hl : l3 = pX L m b2 nx 0 := by rw [hl3]; simp [preM_nil]
    refine awp_cond (b := false) (p := 2) (by simp [scal] <;> omega) ?_
    refine awp_skip ?_
    show awp _ _ _ _
    refine awp_seqR fun K hK => ?_
    simp (disch := omega) [ints, rows, scal, wr64, wr8, wkW]
    (repeat' first | apply hK | apply And.intro) <;> try first | (show okH _ _ _ = true; kernel_rfl) | omega | rfl | (simp <;> omega)
    refine awp_ret ?_
    refine ⟨⟨_, _, ⟨m, b2, nx, hX, .inl ⟨l3, by rw [rightP_ok hA (hok.1 rfl), hl], hl3m, rfl, rfl⟩⟩, ?_⟩, by simp [dfT]⟩
    refine resF [(0, some 12000005)] (fun j => 12000010 + j) (.inr rfl) ?_ ?_ ?_ ?_ ?_ _ ?_ (by first | (simp; rfl) | rfl)
    all_goals try simp +contextual (disch := omega) [wkE, wkP, wkPs, wkH, wkO, keysNd, unm, mpOf_nil, mpOf_cons, dels, upd_b, mkS, mkF, envOf_nil, envOf_cons, heapOf_nil, heapOf_cons, famM_at, famM_lt, famU, famH_at, famH_lt, ovr_at, ovr_lt, beq_gt, beq_lt, eq_lt, eq_gt, lt_t, List.getElem?_cons_zero, List.getElem?_cons_succ, Option.getD_some, argS, callS, callF, heap2, addL, delL, outV, outVs, outO, ghA, ghA1, ints, scal, tpO, wkPs_snoc, wkPs_tab, idxF, vecV, famW, famV, callF, poF4_1, poF4_2, poF4_3, outVs_famJ (show 4 = [0, 12000005, 12000006, 12000007].length from rfl)]
theorem right_fn {L n s : Nat} {bs : List Bool} {nxt : List (List Int)} (h : DfL L n s bs nxt) (hL : 1 ≤ L) (hL2 : L ≤ 6) (hn : n ≤ 512) : ∃ m b2 nx, MiX L n s bs nxt m b2 nx ∧ FnA Tryd.prog 18 [dfT 0 L s bs nxt] (monR (rightP L m b2 nx)) := by
 obtain ⟨res, H', ⟨m, b2, nx, hX, hr⟩, hs⟩ := right0_fn h hL hL2 hn
 refine ⟨m, b2, nx, hX, ?_⟩
 rcases hr with ⟨l, e1, -, rfl, rfl⟩ | ⟨e, -, e1, rfl, rfl⟩
 ·rw [e1]
  refine hs.frz ?_ (by simp [dfT])
  simp only [monR, wkP, wkPs, and_true]
  rw [mosC_tab]
  refine ⟨⟨by simp, trivial, rfl, Nat.le_refl _, ?_⟩, trivial, Nat.le_refl _⟩
  unfold vecV
  rw [wkT_tab]
  intro j hj
  have hg : ([AObj.vec 37 2 2 (tab (l.length * 2) fun j => AV.own (1 + j) (moR l j).length)] ++ tab (l.length * 2) (famW l))[1 + j]? = some (famW l j) := by
   rw [List.getElem?_append_right (by simp), show 1 + j - [AObj.vec 37 2 2 (tab (l.length * 2) fun j => AV.own (1 + j) (moR l j).length)].length = j by simp]
   exact tab_get _ hj
  simp only [wk1]
  rw [hg]
  simp [famW]
 ·rw [e1]
  exact hs.resX fun E v => monE_R

attribute [local simp] ghA ghA1 wkE wkP wkPs wkH wkO keysNd unm mpOf_nil mpOf_cons dels upd_b mkS envOf_nil envOf_cons heapOf_nil heapOf_cons argS callS heap2 addL delL outV outVs outO KL_ap KD_ap awpL_nil awpL_cons awpD_nil awpD_cons awpOp awpOpD wrE gd aop aBuiltin aNil aMin ASt.eval AV.ofV dstOk ASt.app Eff.heap aLoad aStore aField aFieldV aIndexAddr aIndex aSlice aSliceO aLen aBin iB sB aUn aConv aAlloc aBox aBuild afill avCells AV.leaf setR aBuildSlice frz frzL isOwn vecOf tsOf aMake srcOf aAppend aMkMap aMapUpd aLookup oint cut putL AObj.cnt Nat.blt_eq List.getElem?_cons_zero ndL okO inPs inP inOs inO resV mkF famH_lt famM_at famM_lt famU famH_at ovr_at ovr_lt idxF
set_option linter.unusedSimpArgs false

def PaG (out l : List Mo) (S U : List Nat) (ps : List Mo) : Prop := l.length ≤ 401 ∧ (out.length + ps.length ≤ 400 → l = out ++ preM S U ps) ∧ (400 < out.length + ps.length → 400 < l.length)
theorem PaG.start {out : List Mo} {S U : List Nat} (h : out.length ≤ 400) : PaG out out S U [] := ⟨by omega, fun _ => by simp [preM], fun h2 => by simp at h2; omega⟩
theorem PaG.one {out : List Mo} {S U : List Nat} {lo : Nat} (h : out.length ≤ 400) : PaG out (out ++ [(S ++ [lo], U)]) S U [([lo], [])] := ⟨by simp; omega, fun _ => by simp [preM], fun h2 => by simp at h2 ⊢; omega⟩
theorem PaG.cut {out l : List Mo} {S U : List Nat} {ps qs : List Mo} (h : PaG out l S U ps) (hl : 400 < l.length) : PaG out l S U (ps ++ qs) := by
 have h1 : 400 < out.length + ps.length := by
  by_cases g : out.length + ps.length ≤ 400
  ·have := h.2.1 g
   rw [this] at hl
   simp at hl
   omega
  ·omega
 exact ⟨h.1, fun g => by simp at g; omega, fun _ => hl⟩
theorem PaG.call {out l l3 : List Mo} {S U : List Nat} {lo x : Nat} {ps qs : List Mo} (h : PaG out l S U ps) (hl : l.length ≤ 400) (h3 : PaG l l3 (S ++ [lo]) (U ++ [x]) qs) : PaG out l3 S U (ps ++ qs.map (conM lo x)) := by
 have h1 : out.length + ps.length ≤ 400 := by
  by_cases g : out.length + ps.length ≤ 400
  ·exact g
  ·have := h.2.2 (by omega)
   omega
 have e := h.2.1 h1
 have hn : l.length = out.length + ps.length := by rw [e]; simp
 refine ⟨h3.1, fun g => ?_, fun g => h3.2.2 (by simp at g; omega)⟩
 rw [h3.2.1 (by simp at g; omega), e, preM_app, List.append_assoc, preM_con]
def paA (b : Bool) (out : List Mo) : AV := if b then .own 0 (out.length * 2) else .t 0 (.sl 0 [])
def paH (b : Bool) (out : List Mo) : List AObj := if b then [.row 37 2 1 (mosC out)] else []
def PaR (L m : Nat) (bs : List Bool) (nx : List (List Int)) (out : List Mo) (S U : List Nat) (q : Nat) (res : AV) (H' : List AObj) : Prop := ∃ l, PaG out l S U (pX L m bs nx q) ∧ res = .own 0 (l.length * 2) ∧ H' = [.row 37 2 1 (mosC l)]
set_option maxRecDepth 100000 in
set_option maxHeartbeats 32000000 in
theorem paths_fn {L m s : Nat} {bs : List Bool} {nx : List (List Int)} (hD : DfL L m s bs nx) (hL : 1 ≤ L) (hL2 : L ≤ 6) (hm : m ≤ 512) (hA : Acy L m nx) :
  ∀ (k q : Nat) (b : Bool) (out : List Mo) (S U : List Nat), rkA L m nx q < k → q < m → (b = false → out = []) → out.length ≤ 400 → S.length + rkA L m nx q ≤ 600 → U.length + rkA L m nx q ≤ 600 →
   ∃ res H', PaR L m bs nx out S U q res H' ∧ FnS Tryd.prog 50 [dfT 0 L s bs nx, .t 2 (.int .i64 q), .t 0 (ints (nI S)), .t 0 (ints (nI U)), paA b out] (paH b out) res H' := by
 intro k
 induction k
 ·intro q b out S U h; omega
 rename_i k ih
 intro q b out S U hk hq hbo hout hS hU
 have hnl := hD.nl
 have hbl := hD.bl
 have hqx : q < nx.length := by omega
 have hqb : q < bs.length := by omega
 obtain ⟨hrl, -⟩ := hD.row nx[q] (by simp)
 have hlp := loopN_lt nx q
 have hl6 : ∀ x, x ≤ 6 → loopN nx q x < 64 := fun x hx => Nat.lt_of_lt_of_le (hlp x) (by rw [show 64 = 2 ^ 6 from rfl]; exact Nat.pow_le_pow_right (by omega) hx)
 have hpe := pX_eq hD hA hq
 refine fn_introGE Tryd.func50 rfl (by simp [Tryd.f50]) ?_
 rw [show Tryd.f50.ntmps = 87 from rfl, show Tryd.f50.results = #[.tmp 10] from rfl]
 have hgh : ghA [dfT 0 L s bs nx, .t 2 (.int .i64 q), .t 0 (ints (nI S)), .t 0 (ints (nI U)), paA b out] = [.any, .any, .any, .any, .any] := by cases b <;> simp [dfT, paA]
 rw [hgh]
 refine awp_weak (σ' := mkS [(0, dfT 0 L s bs nx), (1, .t 2 (.int .i64 q)), (2, .t 0 (ints (nI S))), (3, .t 0 (ints (nI U))), (4, .own 0 (out.length * 2))] [(0, .row 37 2 1 (mosC out))] 1 87 [.any, .any, .any, .any, .any]) ?_ ?_
 ·cases b with
  | true =>
   refine wk_list [(0, some 0)] rfl ?_ ?_ ?_ ?_
   all_goals try simp [ints, paA, paH, dfT]
  | false =>
   obtain rfl := hbo rfl
   refine wk_list [(0, none)] rfl ?_ ?_ ?_ ?_
   all_goals try simp [ints, paA, paH, dfT, mosC]
 refine awp_seqR fun K hK => ?_
 simp (disch := omega) [ints, rows, scal, wr64, wr8, dfT, bools]
 (repeat' first | apply hK | apply And.intro) <;> try first | (show okH _ _ _ = true; kernel_rfl) | omega | rfl | (simp <;> omega)
 refine awp_seqR fun K hK => ?_
 simp (disch := omega) [ints, rows, scal, wr64, wr8]
 (repeat' first | apply hK | apply And.intro) <;> try first | (show okH _ _ _ = true; kernel_rfl) | omega | rfl | (simp <;> omega)
 refine awp_seq ?_
 refine awp_seqR fun K hK => ?_
 simp (disch := omega) [ints, rows, scal, wr64, wr8, rows, hqx, hrl]
 (repeat' first | apply hK | apply And.intro) <;> try first | (show okH _ _ _ = true; kernel_rfl) | omega | rfl | (simp <;> omega)
 refine awp_block ?_
 refine awp_loop (fun x : Nat => mkS [(1, .t 2 (.int .i64 q)), (2, .t 0 (ints (nI S))), (3, .t 0 (ints (nI U))), (4, .own 0 (out.length * 2)), (5, .ptr 1 0 4), (11, .t 2 (.int .i64 (loopN nx q x : Nat))), (20, .t 0 (ints nx[q])), (21, .t 2 (.int .i64 L)), (22, .t 2 (.int .i64 x))]
   [(0, .row 37 2 1 (mosC out)), (1, dfO L s bs nx)] 2 87 [.any, .any, .any, .any, .any]) (fun x => x ≤ L) (fun x => L - x) ?_ ?_
 ·refine ⟨0, by omega, ?_⟩
  refine wk_list [(0, some 0), (1, some 1)] rfl ?_ ?_ ?_ ?_
  all_goals try simp [ints, rows, bools, loopN, dfO]
 intro x hx
 refine awp_seqR fun K hK => ?_
 simp (disch := omega) [ints, rows, scal, wr64, wr8]
 (repeat' first | apply hK | apply And.intro) <;> try first | (show okH _ _ _ = true; kernel_rfl) | omega | rfl | (simp <;> omega)
 refine awp_seq ?_
 by_cases hxl : x < L
 ·obtain ⟨s1, s2, s3, s4⟩ := hD.rt.step hq hxl
  refine awp_cond (b := true) (p := 2) (by simp [scal, hxl] <;> omega) ?_
  refine awp_skip ?_
  show awp _ _ _ _
  refine awp_seq ?_
  refine awp_block ?_
  refine awp_seqR fun K hK => ?_
  simp (disch := omega) [ints, rows, scal, wr64, wr8, s3, s4]
  (repeat' first | apply hK | apply And.intro) <;> try first | (show okH _ _ _ = true; kernel_rfl) | omega | rfl | (simp <;> omega)
  refine awp_seqR fun K hK => ?_
  simp (disch := omega) [ints, rows, scal, wr64, wr8]
  (repeat' first | apply hK | apply And.intro) <;> try first | (show okH _ _ _ = true; kernel_rfl) | omega | rfl | (simp <;> omega)
  have hl1 := hl6 x (by omega)
  have h1x : 1 <<< x < 64 := by rw [Nat.one_shiftLeft, show 64 = 2 ^ 6 from rfl]; exact Nat.pow_lt_pow_right (by omega) (by omega)
  by_cases he : stepR nx q x = q
  ·have hei : (stepR nx q x : Int) = (q : Int) := by omega
   have hlo : loopN nx q (x + 1) = loopN nx q x ||| (1 <<< x) := by rw [loopN, if_pos he]
   have ho := orN64 (x := loopN nx q x) (y := 1 <<< x) (by omega) (by omega)
   have hs := shl1N64 (k := x) (by omega)
   have hw := wrN (x := x) (by omega)
   generalize 1 <<< x = b at hlo ho hs h1x
   refine awp_cond (b := true) (p := 2) (by simp [scal, hei, he] <;> omega) ?_
   refine awp_R fun K hK => ?_
   simp (disch := omega) [ints, rows, scal, wr64, wr8, hs, ho, hw]
   (repeat' first | apply hK | apply And.intro) <;> try first | (show okH _ _ _ = true; kernel_rfl) | omega | rfl | (simp <;> omega)
   show awp _ _ _ _
   refine awp_R fun K hK => ?_
   simp (disch := omega) [ints, rows, scal, wr64, wr8]
   (repeat' first | apply hK | apply And.intro) <;> try first | (show okH _ _ _ = true; kernel_rfl) | omega | rfl | (simp <;> omega)
   refine ⟨x + 1, by omega, by omega, ?_⟩
   refine wk_list [(0, some 0), (1, some 1)] rfl ?_ ?_ ?_ ?_
   all_goals try simp [ints, rows, bools, hlo, dfO]
  ·have hei : ¬ (stepR nx q x : Int) = (q : Int) := by omega
   have hlo : loopN nx q (x + 1) = loopN nx q x := by rw [loopN, if_neg he]
   refine awp_cond (b := false) (p := 2) (by simp [scal, hei, he] <;> omega) ?_
   refine awp_skip ?_
   show awp _ _ _ _
   refine awp_R fun K hK => ?_
   simp (disch := omega) [ints, rows, scal, wr64, wr8]
   (repeat' first | apply hK | apply And.intro) <;> try first | (show okH _ _ _ = true; kernel_rfl) | omega | rfl | (simp <;> omega)
   refine ⟨x + 1, by omega, by omega, ?_⟩
   refine wk_list [(0, some 0), (1, some 1)] rfl ?_ ?_ ?_ ?_
   all_goals try simp [ints, rows, bools, hlo, dfO]
 obtain rfl : x = L := by omega
 refine awp_cond (b := false) (p := 2) (by simp [scal] <;> omega) ?_
 refine awp_exit ?_
 show awp _ _ _ _
 clear hlp
 obtain ⟨lo, hlo⟩ : ∃ lo, lo = loopN nx q x := ⟨_, rfl⟩
 rw [← hlo]
 have hz : pXL x m bs nx q 0 = if bs.getD q false then [([lo], [])] else [] := by rw [pXL_zero, hlo]
 have hbg : bs.getD q false = bs[q] := by rw [List.getD_eq_getElem?_getD, List.getElem?_eq_getElem hqb]; rfl
 obtain ⟨S1, hS1⟩ : ∃ S1, S1 = S ++ [lo] := ⟨_, rfl⟩
 have hS1l : S1.length = S.length + 1 := by rw [hS1]; simp
 have hS1n : (nI S).map (T.int .i64) ++ [T.int .i64 (lo : Int)] = (nI S1).map (T.int .i64) := by rw [hS1]; simp [nI]
 have hrk := rkA_le x m nx q
 refine awp_seqR fun K hK => ?_
 simp (disch := omega) [ints, rows, scal, wr64, wr8]
 (repeat' first | apply hK | apply And.intro) <;> try first | (show okH _ _ _ = true; kernel_rfl) | omega | rfl | (simp <;> omega)
 refine awp_weak (σ' := mkS [(1, .t 2 (.int .i64 q)), (2, .t 2 (ints (nI S1))), (3, .t 0 (ints (nI U))), (4, .own 0 (out.length * 2)), (5, .ptr 1 0 4)]
   [(0, .row 37 2 1 (mosC out)), (1, dfO x s bs nx)] 2 87 [.any, .any, .any, .any, .any]) ?_ ?_
 ·refine wk_list [(0, some 0), (1, some 1)] rfl ?_ ?_ ?_ ?_
  all_goals try simp [ints, rows, bools, dfO, hS1n, hS1l]
 refine awp_join (fun σ' => ∃ l2, PaG out l2 S U (pXL x m bs nx q 0) ∧ Wk σ' (mkS [(1, .t 2 (.int .i64 q)), (2, .t 2 (ints (nI S1))), (3, .t 0 (ints (nI U))), (4, .own 0 (l2.length * 2)), (5, .ptr 1 0 4)]
   [(0, .row 37 2 1 (mosC l2)), (1, dfO x s bs nx)] 2 87 [.any, .any, .any, .any, .any])) ?_ ?_
 ·rintro σ' ⟨l2, hP0, hw⟩
  refine awp_weak hw ?_
  clear hw
  refine awp_seq ?_
  refine awp_seqR fun K hK => ?_
  simp (disch := omega) [ints, rows, scal, wr64, wr8, dfO, rows, hqx, hrl]
  (repeat' first | apply hK | apply And.intro) <;> try first | (show okH _ _ _ = true; kernel_rfl) | omega | rfl | (simp <;> omega)
  refine awp_block ?_
  refine awp_loop (fun y : Nat × List Mo => mkS [(1, .t 2 (.int .i64 q)), (2, .t 2 (ints (nI S1))), (3, .t 0 (ints (nI U))), (4, .own 0 (y.2.length * 2)), (5, .ptr 1 0 4), (59, .t 0 (ints nx[q])), (60, .t 2 (.int .i64 x)), (61, .t 2 (.int .i64 y.1))]
    [(0, .row 37 2 1 (mosC y.2)), (1, dfO x s bs nx)] 2 87 [.any, .any, .any, .any, .any])
   (fun y => y.1 ≤ x ∧ PaG out y.2 S U (pXL x m bs nx q y.1)) (fun y => x - y.1) ?_ ?_
  ·refine ⟨(0, l2), ⟨by simp, hP0⟩, ?_⟩
   refine wk_list [(0, some 0), (1, some 1)] rfl ?_ ?_ ?_ ?_
   all_goals try simp [ints, rows, bools, dfO]
  clear hP0 l2
  rintro ⟨z, l2⟩ ⟨hzx, hP⟩
  simp only at hzx hP
  have hl1 := hP.1
  refine awp_seqR fun K hK => ?_
  simp (disch := omega) [ints, rows, scal, wr64, wr8]
  (repeat' first | apply hK | apply And.intro) <;> try first | (show okH _ _ _ = true; kernel_rfl) | omega | rfl | (simp <;> omega)
  refine awp_seq ?_
  by_cases hzl : z < x
  ·obtain ⟨s1, s2, s3, s4⟩ := hD.rt.step hq hzl
   refine awp_cond (b := true) (p := 2) (by simp [scal, hzl] <;> omega) ?_
   refine awp_skip ?_
   show awp _ _ _ _
   refine awp_seq ?_
   refine awp_block ?_
   refine awp_seqR fun K hK => ?_
   simp (disch := omega) [ints, rows, scal, wr64, wr8, s3, s4]
   (repeat' first | apply hK | apply And.intro) <;> try first | (show okH _ _ _ = true; kernel_rfl) | omega | rfl | (simp <;> omega)
   by_cases he : stepR nx q z = q
   ·have hei : (stepR nx q z : Int) = (q : Int) := by omega
    have heb : ((stepR nx q z : Int) != (q : Int)) = false := by simp [he]
    refine awp_seqR fun K hK => ?_
    simp (disch := omega) [ints, rows, scal, wr64, wr8, heb]
    (repeat' first | apply hK | apply And.intro) <;> try first | (show okH _ _ _ = true; kernel_rfl) | omega | rfl | (simp <;> omega)
    refine awp_cond (b := false) (p := 2) (by simp [scal, hei, he] <;> omega) ?_
    refine awp_skip ?_
    show awp _ _ _ _
    refine awp_R fun K hK => ?_
    simp (disch := omega) [ints, rows, scal, wr64, wr8]
    (repeat' first | apply hK | apply And.intro) <;> try first | (show okH _ _ _ = true; kernel_rfl) | omega | rfl | (simp <;> omega)
    refine ⟨(z + 1, l2), ⟨by simp only; omega, by simp only; rw [pXL_loop he]; exact hP⟩, by simp only; omega, ?_⟩
    refine wk_list [(0, some 0), (1, some 1)] rfl ?_ ?_ ?_ ?_
    all_goals try simp [ints, rows, bools, dfO]
   ·have hei : ¬ (stepR nx q z : Int) = (q : Int) := by omega
    have heb : ((stepR nx q z : Int) != (q : Int)) = true := bne_iff_ne.2 hei
    have hlz : pXL x m bs nx q (z + 1) = pXL x m bs nx q z ++ (pX x m bs nx (stepR nx q z)).map (conM lo z) := by rw [pXL_next he, hlo]
    by_cases hl4 : l2.length ≤ 400
    ·have hl4i : (l2.length : Int) ≤ 400 := by omega
     obtain ⟨U1, hU1⟩ : ∃ U1, U1 = U ++ [z] := ⟨_, rfl⟩
     have hU1l : U1.length = U.length + 1 := by rw [hU1]; simp
     have hU1n : (nI U).map (T.int .i64) ++ [T.int .i64 (z : Int)] = (nI U1).map (T.int .i64) := by rw [hU1]; simp [nI]
     have hrk2 := rkA_lt hD hA hq hzl he
     obtain ⟨_, _, ⟨l3, hl3, rfl, rfl⟩, hcall⟩ := ih (stepR nx q z) true l2 S1 U1 (by omega) s1 (by simp) hl4 (by omega) (by omega)
     simp only [paA, paH, if_true] at hcall
     refine awp_seqR fun K hK => ?_
     simp (disch := omega) [ints, rows, scal, wr64, wr8, heb, hl4i, hl4]
     (repeat' first | apply hK | apply And.intro) <;> try first | (show okH _ _ _ = true; kernel_rfl) | omega | rfl | (simp <;> omega)
     refine awp_cond (b := true) (p := 2) (by simp [scal, hei, he] <;> omega) ?_
     refine awp_RD (by kernel_rfl) (fun K hK => ?_)
     simp (disch := omega) [ints, rows, scal, wr64, wr8, dfO]
     (repeat' apply And.intro)
     all_goals (try omega)
     refine call_ruleD (caps := []) (hcall) [0] [24000002] 1 rfl rfl rfl rfl (by kernel_rfl) (by simp) ?_ ?_ (by simp) rfl (by simp) ⟨.inl ⟨by omega, by omega⟩, trivial⟩ (by simp [dfT, rows, bools, hU1n, hU1l]) ?_
     ·simp [scal, rows, ints, dfT, rows, bools, hU1n, hU1l]
     ·simp [scal, rows, ints, dfT, rows, bools, hU1n, hU1l]
     simp (disch := omega) [ints, rows, scal, wr64, wr8]
     (repeat' first | apply hK | apply And.intro) <;> try first | (show chkD _ _ = true; kernel_rfl) | (show okH _ _ _ = true; kernel_rfl) | omega | rfl | (simp <;> omega)
     show awp _ _ _ _
     refine awp_R fun K hK => ?_
     simp (disch := omega) [ints, rows, scal, wr64, wr8]
     (repeat' first | apply hK | apply And.intro) <;> try first | (show okH _ _ _ = true; kernel_rfl) | omega | rfl | (simp <;> omega)
     refine ⟨(z + 1, l3), ⟨by simp only; omega, ?_⟩, by simp only; omega, ?_⟩
     ·simp only
      rw [hlz]
      rw [hS1, hU1] at hl3
      exact hP.call hl4 hl3
     ·refine wk_list [(0, some 24000002), (1, some 1)] rfl ?_ ?_ ?_ ?_
      all_goals try simp [ints, rows, bools, dfO]
    ·have hl4i : ¬ (l2.length : Int) ≤ 400 := by omega
     refine awp_seqR fun K hK => ?_
     simp (disch := omega) [ints, rows, scal, wr64, wr8, heb, hl4i, hl4]
     (repeat' first | apply hK | apply And.intro) <;> try first | (show okH _ _ _ = true; kernel_rfl) | omega | rfl | (simp <;> omega)
     refine awp_cond (b := false) (p := 2) (by simp [scal, hei, he] <;> omega) ?_
     refine awp_skip ?_
     show awp _ _ _ _
     refine awp_R fun K hK => ?_
     simp (disch := omega) [ints, rows, scal, wr64, wr8]
     (repeat' first | apply hK | apply And.intro) <;> try first | (show okH _ _ _ = true; kernel_rfl) | omega | rfl | (simp <;> omega)
     refine ⟨(z + 1, l2), ⟨by simp only; omega, by simp only; rw [hlz]; exact hP.cut (by omega)⟩, by simp only; omega, ?_⟩
     refine wk_list [(0, some 0), (1, some 1)] rfl ?_ ?_ ?_ ?_
     all_goals try simp [ints, rows, bools, dfO]
  ·obtain rfl : z = x := by omega
   refine awp_cond (b := false) (p := 2) (by simp [scal] <;> omega) ?_
   refine awp_exit ?_
   show awp _ _ _ _
   refine awp_seqR fun K hK => ?_
   simp (disch := omega) [ints, rows, scal, wr64, wr8]
   (repeat' first | apply hK | apply And.intro) <;> try first | (show okH _ _ _ = true; kernel_rfl) | omega | rfl | (simp <;> omega)
   refine awp_ret ?_
   refine ⟨⟨_, _, ⟨l2, by rw [hpe]; exact hP, rfl, rfl⟩, ?_⟩, by simp⟩
   refine resQ_G ?_
   refine ⟨.inr rfl, _, [(0, some 0)], (by first | (simp; rfl) | rfl), ?_, ?_, ?_, ?_⟩
   all_goals try simp +contextual (disch := omega) [beq_gt, beq_lt, eq_lt, eq_gt, lt_t, List.getElem?_cons_succ, Option.getD_some, callF, ints, scal, tpO, wkPs_snoc, wkPs_tab, wkT_tab, wk1, rows, bools]
 ·refine awp_seqR fun K hK => ?_
  simp (disch := omega) [ints, rows, scal, wr64, wr8, dfO, bools, hqb]
  (repeat' first | apply hK | apply And.intro) <;> try first | (show okH _ _ _ = true; kernel_rfl) | omega | rfl | (simp <;> omega)
  cases hb : bs[q] with
  | true =>
   refine awp_cond (b := true) (p := 2) (by simp [scal, hb] <;> omega) ?_
   rw [hbg, hb, if_pos rfl] at hz
   refine awp_R2 5 fun K hK => ?_
   simp (disch := omega) [ints, rows, scal, wr64, wr8]
   (repeat' first | apply hK | apply And.intro) <;> try first | (show okH _ _ _ = true; kernel_rfl) | omega | rfl | (simp <;> omega)
   refine ⟨mkS [(1, .t 2 (.int .i64 q)), (2, .t 2 (ints (nI S1))), (3, .t 0 (ints (nI U))), (5, .ptr 1 0 4), (47, .own 0 (out.length * 2)), (48, .t 2 (ints (nI S1))), (51, .t 2 (ints (nI U)))]
    [(0, .row 37 2 1 (mosC out)), (1, dfO x s bs nx)] 2 87 [.any, .any, .any, .any, .any], ?_, fun K hK => ?_⟩
   ·refine wk_list [(0, some 0), (1, some 1)] rfl ?_ ?_ ?_ ?_
    all_goals try simp [ints, rows, bools, dfO]
   simp (disch := omega) [ints, rows, scal, wr64, wr8]
   (repeat' first | apply hK | apply And.intro) <;> try first | (show okH _ _ _ = true; kernel_rfl) | omega | rfl | (simp <;> omega)
   refine ⟨out ++ [(S1, U)], by rw [hz, hS1]; exact PaG.one hout, ?_⟩
   refine wk_list [(0, some 0), (1, some 1)] rfl ?_ ?_ ?_ ?_
   all_goals try simp [ints, rows, bools, dfO, mosC_snoc, Nat.add_mul]
  | false =>
   refine awp_cond (b := false) (p := 2) (by simp [scal, hb] <;> omega) ?_
   rw [hbg, hb] at hz
   refine awp_skip ?_
   refine ⟨out, by rw [hz]; exact PaG.start hout, ?_⟩
   refine wk_list [(0, some 0), (1, some 1)] rfl ?_ ?_ ?_ ?_
   all_goals try simp [ints, rows, bools, dfO]

attribute [local simp] ghA ghA1 KL_ap KD_ap awpL_nil awpL_cons awpD_nil awpD_cons awpOp awpOpD wrE gd aop aBuiltin aNil aMin ASt.eval AV.ofV dstOk ASt.app Eff.heap dels upd_b aLoad aStore aField aFieldV aIndexAddr aIndex aSlice aSliceO aLen aBin iB sB aUn aConv aAlloc aBox aBuild afill avCells AV.leaf setR aBuildSlice frz frzL isOwn vecOf tsOf aMake srcOf aAppend aMkMap aMapUpd aLookup oint cut putL AObj.cnt mkS envOf_nil envOf_cons heapOf_nil heapOf_cons argS Nat.blt_eq callS outV outVs outO heap2 addL delL List.getElem?_cons_zero okO inPs inP wkPs wkP unm ndL inOs inO wkE wkH wkO keysNd mpOf_nil mpOf_cons
set_option linter.unusedSimpArgs false

theorem FnS.argX {P : Program} {f : FuncId} {args args' : List AV} {H H' : List AObj} {res : AV} (h : FnS P f args H res H') (hl : args'.length = args.length) (hv : ∀ (i : Nat) c c', args[i]? = some c → args'[i]? = some c' → ∀ E v, VR E v c' → VR E v c) (hg : ghA args' = ghA args) : FnS P f args' H res H' := fun w V ob vs hm hn hr => by
 have := h w V ob vs hm (by rw [hn, hl]) (fun i c hi => by
  have hlt : i < args'.length := by rw [hl]; exact (List.getElem?_eq_some_iff.1 hi).1
  exact hv i c args'[i] hi (by simp) _ _ (hr i args'[i] (by simp)))
 rw [hg]
 exact this
theorem VR.nilz {E : Ev} {v : Value} {p z : Nat} (h : VR E v (.t p (.sl 0 []))) : VR E v (.t p (.sl z [])) := by
 have h0 := h.rep
 refine .t _ _ _ ?_
 cases h0 with
 | nil => exact .nil z
 | emp a hz => omega
 | sl b o n cap z cs vs hz => omega
theorem MiX.eq {L n s m m' : Nat} {bs b1 b2 : List Bool} {nxt n1 n2 : List (List Int)} (hL : 0 < L) (h1 : MiX L n s bs nxt m b1 n1) (h2 : MiX L n s bs nxt m' b2 n2) : m = m' ∧ b1 = b2 ∧ n1 = n2 :=
 h1.mn.eq hL h2.mn fun w hw => by rw [h1.lang w hw, h2.lang w hw]
theorem pathsN_fn {L m s : Nat} {bs : List Bool} {nx : List (List Int)} (hD : DfL L m s bs nx) (hL : 1 ≤ L) (hL2 : L ≤ 6) (hm : m ≤ 512) (hA : Acy L m nx) {q : Nat} (hq : q < m) :
  ∃ l, PaG [] l [] [] (pX L m bs nx q) ∧ FnS Tryd.prog 50 [dfT 0 L s bs nx, .t 2 (.int .i64 q), .t 0 (.sl 0 []), .t 0 (.sl 0 []), .t 0 (.sl 0 [])] [] (.own 0 (l.length * 2)) [.row 37 2 1 (mosC l)] := by
 have hr := rkA_le L m nx q
 obtain ⟨_, _, ⟨l, hl, rfl, rfl⟩, hs⟩ := paths_fn hD hL hL2 hm hA (rkA L m nx q + 1) q false [] [] [] (by omega) hq (fun _ => rfl) (by simp) (by simp; omega) (by simp; omega)
 refine ⟨l, hl, hs.argX (args' := [dfT 0 L s bs nx, .t 2 (.int .i64 q), .t 0 (.sl 0 []), .t 0 (.sl 0 []), .t 0 (.sl 0 [])]) rfl (fun i c c' h1 h2 E v hv => ?_) (by simp [paA])⟩
 match i, h1, h2 with
 | 0, h1, h2 => simp at h1 h2; subst h1 h2; exact hv
 | 1, h1, h2 => simp at h1 h2; subst h1 h2; exact hv
 | 2, h1, h2 => simp at h1 h2; subst h1 h2; exact hv.nilz
 | 3, h1, h2 => simp at h1 h2; subst h1 h2; exact hv.nilz
 | 4, h1, h2 => simp [paA] at h1 h2; subst h1 h2; exact hv
 | n + 5, h1, h2 => simp at h1
set_option maxRecDepth 100000 in
set_option maxHeartbeats 16000000 in
theorem rRight0_fn {L n s : Nat} {bs : List Bool} {nxt : List (List Int)} (h : DfL L n s bs nxt) (hL : 1 ≤ L) (hL2 : L ≤ 6) (hn : n ≤ 512) : ∃ res, (∃ m b2 nx, MiX L n s bs nxt m b2 nx ∧ (res = monR (rightP L m b2 nx) ∨ ∃ e, rightP L m b2 nx = ([], e) ∧ res = monE e)) ∧ FnS Tryd.prog 19 [dfT 0 L s bs nxt] [] res [] := by
 obtain ⟨_, ⟨m, b2, nx, hX, rfl⟩, hmin⟩ := minimalX_fn h hL hL2 hn
 obtain ⟨_, ⟨b, m', b3, nx3, hX3, hb, rfl⟩, hord⟩ := rOrdered_fn h hL hL2 hn
 obtain ⟨rfl, rfl, rfl⟩ := hX3.eq (by omega) hX
 have hD := hX.mn.df
 have hmn := hX.le
 have hnl := hD.nl
 have hbl := hD.bl
 have hm1 := hD.n1
 refine fn_introE Tryd.func19 rfl (by simp [Tryd.f19]) ?_
 rw [show Tryd.f19.ntmps = 40 from rfl, show Tryd.f19.results = #[.tmp 2, .tmp 3] from rfl]
 refine awp_seqR fun K hK => ?_
 simp (disch := omega) [ints, rows, scal, wr64, wr8, dfT, bools]
 (repeat' first | apply hK | apply And.intro) <;> try first | (show okH _ _ _ = true; kernel_rfl) | omega | rfl | (simp <;> omega)
 refine awp_seq ?_
 refine awp_seqR fun K hK => ?_
 simp (disch := omega) [ints, rows, scal, wr64, wr8]
 (repeat' apply And.intro)
 all_goals (try omega)
 refine call_rule (caps := []) (validate07_fn h hL hL2 hn) [] [] 2 rfl rfl rfl rfl (by kernel_rfl) (by simp) ?_ trivial trivial rfl trivial trivial (by simp) ?_
 ·simp [scal, rows, ints, dfT, bools]
 simp (disch := omega) [ints, rows, scal, wr64, wr8]
 (repeat' first | apply hK | apply And.intro) <;> try first | (show okH _ _ _ = true; kernel_rfl) | omega | rfl | (simp <;> omega)
 refine awp_seqR fun K hK => ?_
 simp (disch := omega) [ints, rows, scal, wr64, wr8]
 (repeat' first | apply hK | apply And.intro) <;> try first | (show okH _ _ _ = true; kernel_rfl) | omega | rfl | (simp <;> omega)
 refine awp_cond (b := false) (p := 2) (by simp [scal] <;> omega) ?_
 refine awp_skip ?_
 show awp _ _ _ _
 refine awp_seq ?_
 refine awp_seqR fun K hK => ?_
 simp (disch := omega) [ints, rows, scal, wr64, wr8]
 (repeat' apply And.intro)
 all_goals (try omega)
 refine call_rule (caps := []) (hord) [] [] 2 rfl rfl rfl rfl (by kernel_rfl) (by simp) ?_ trivial trivial rfl trivial trivial (by simp) ?_
 ·simp [scal, rows, ints, dfT, bools]
 simp (disch := omega) [ints, rows, scal, wr64, wr8]
 (repeat' first | apply hK | apply And.intro) <;> try first | (show okH _ _ _ = true; kernel_rfl) | omega | rfl | (simp <;> omega)
 cases b with
 | false =>
  have hna : ¬ Acy L m' nx3 := fun g => by have := hb.2 g; cases this
  refine awp_cond (b := true) (p := 2) (by simp [scal] <;> omega) ?_
  refine awp_seqR fun K hK => ?_
  simp (disch := omega) [ints, rows, scal, wr64, wr8]
  (repeat' first | apply hK | apply And.intro) <;> try first | (show okH _ _ _ = true; kernel_rfl) | omega | rfl | (simp <;> omega)
  refine awp_ret ?_
  refine ⟨_, ⟨m', b3, nx3, hX, .inr ⟨20, rightP_cyc hna, rfl⟩⟩, ?_⟩
  refine ⟨⟨.inr rfl, _, [], rfl, trivial, trivial, by simp [dfT, monE], ?_⟩, by simp [dfT, monE]⟩
  simp [dfT, monE]
 | true =>
  have hA : Acy L m' nx3 := hb.1 rfl
  obtain ⟨l, hl, hpa⟩ := pathsN_fn hD hL hL2 (by omega) hA (q := 0) (by omega)
  refine awp_cond (b := false) (p := 2) (by simp [scal] <;> omega) ?_
  refine awp_skip ?_
  show awp _ _ _ _
  refine awp_seqR fun K hK => ?_
  simp (disch := omega) [ints, rows, scal, wr64, wr8]
  (repeat' apply And.intro)
  all_goals (try omega)
  refine call_rule (caps := []) (hmin) [] [] 2 rfl rfl rfl rfl (by kernel_rfl) (by simp) ?_ trivial trivial rfl trivial trivial (by simp) ?_
  ·simp [scal, rows, ints, dfT, bools]
  simp (disch := omega) [ints, rows, scal, wr64, wr8, dfT, bools]
  (repeat' first | apply hK | apply And.intro) <;> try first | (show okH _ _ _ = true; kernel_rfl) | omega | rfl | (simp <;> omega)
  refine awp_seqR fun K hK => ?_
  simp (disch := omega) [ints, rows, scal, wr64, wr8]
  (repeat' apply And.intro)
  all_goals (try omega)
  refine call_rule (caps := []) (hpa) [] [18000000] 2 rfl rfl rfl rfl (by kernel_rfl) (by simp) ?_ ?_ (by simp) rfl (by simp) ⟨.inl ⟨by omega, by omega⟩, trivial⟩ (by simp [dfT, bools]) ?_
  ·simp [scal, rows, ints, dfT, bools]
  ·trivial
  simp (disch := omega) [ints, rows, scal, wr64, wr8]
  (repeat' first | apply hK | apply And.intro) <;> try first | (show okH _ _ _ = true; kernel_rfl) | omega | rfl | (simp <;> omega)
  refine awp_weak (σ' := mkS [(6, .t 2 (.sl 2 (mosC l)))] [] 1 40 [.any]) ?_ ?_
  ·refine wk_list [] rfl ?_ ?_ ?_ ?_
   all_goals try simp [ints]
  refine awp_seq ?_
  have hl1 := hl.1
  refine awp_seqR fun K hK => ?_
  simp (disch := omega) [ints, rows, scal, wr64, wr8]
  (repeat' first | apply hK | apply And.intro) <;> try first | (show okH _ _ _ = true; kernel_rfl) | omega | rfl | (simp <;> omega)
  refine awp_block ?_
  refine awp_loop (fun i : Nat => mkS [(6, .t 2 (.sl 2 (mosC l))), (23, .t 2 (.sl 2 (mosC l))), (24, .t 2 (.int .i64 l.length)), (25, .t 2 (.int .i64 i))] [] 1 40 [.any]) (fun i => i ≤ l.length ∧ (0 < i → l.length ≤ 400) ∧ ∀ j (hj : j < l.length), j < i → l[j].2.length ≤ 60) (fun i => l.length - i) ?_ ?_
  ·refine ⟨0, ⟨by omega, fun h => by omega, fun j hj h => by omega⟩, ?_⟩
   refine wk_list [] rfl ?_ ?_ ?_ ?_
   all_goals try simp [ints, mosC_len]
  rintro i ⟨hi, hi4, hi6⟩
  have hno : 400 < l.length → ¬ Fits 0 0 (pX L m' b3 nx3 0) := fun h4 hF => by
   have := hl.2.1 (by have := hF.1; simp; omega)
   rw [this] at h4
   have := hF.1
   simp at h4
   omega
  have hyes : l.length ≤ 400 → l = pX L m' b3 nx3 0 := fun h4 => by
   have h5 : ([] : List Mo).length + (pX L m' b3 nx3 0).length ≤ 400 := by
    apply Classical.byContradiction
    intro hc
    have := hl.2.2 (by omega)
    omega
   have := hl.2.1 h5
   rw [this, List.nil_append, preM_nil]
  refine awp_seqR fun K hK => ?_
  simp (disch := omega) [ints, rows, scal, wr64, wr8]
  (repeat' first | apply hK | apply And.intro) <;> try first | (show okH _ _ _ = true; kernel_rfl) | omega | rfl | (simp <;> omega)
  refine awp_seq ?_
  by_cases hil : i < l.length
  ·have hat := mos_at hil
   have hin := mos_in hil
   refine awp_cond (b := true) (p := 2) (by simp [scal, hil] <;> omega) ?_
   refine awp_skip ?_
   show awp _ _ _ _
   refine awp_seq ?_
   refine awp_block ?_
   refine awp_seqR fun K hK => ?_
   simp (disch := omega) [ints, rows, scal, wr64, wr8, hat, hin]
   (repeat' first | apply hK | apply And.intro) <;> try first | (show okH _ _ _ = true; kernel_rfl) | omega | rfl | (simp <;> omega)
   by_cases h4 : 400 < l.length
   ·have h4i : (400 : Int) < (l.length : Int) := by omega
    refine awp_seqR fun K hK => ?_
    simp (disch := omega) [ints, rows, scal, wr64, wr8, h4i, h4]
    (repeat' first | apply hK | apply And.intro) <;> try first | (show okH _ _ _ = true; kernel_rfl) | omega | rfl | (simp <;> omega)
    refine awp_cond (b := true) (p := 2) (by simp [scal, h4i, h4] <;> omega) ?_
    refine awp_seqR fun K hK => ?_
    simp (disch := omega) [ints, rows, scal, wr64, wr8]
    (repeat' first | apply hK | apply And.intro) <;> try first | (show okH _ _ _ = true; kernel_rfl) | omega | rfl | (simp <;> omega)
    refine awp_ret ?_
    refine ⟨_, ⟨m', b3, nx3, hX, .inr ⟨3, rightP_lim hA (hno h4), rfl⟩⟩, ?_⟩
    refine ⟨⟨.inr rfl, _, [], rfl, trivial, trivial, by simp [dfT, monE], ?_⟩, by simp [dfT, monE]⟩
    simp [dfT, monE]
   ·have h4i : ¬ (400 : Int) < (l.length : Int) := by omega
    by_cases h6 : 60 < l[i].2.length
    ·have h6i : (60 : Int) < (l[i].2.length : Int) := by omega
     refine awp_seqR fun K hK => ?_
     simp (disch := omega) [ints, rows, scal, wr64, wr8, h4i, h4, h6i, h6]
     (repeat' first | apply hK | apply And.intro) <;> try first | (show okH _ _ _ = true; kernel_rfl) | omega | rfl | (simp <;> omega)
     refine awp_cond (b := true) (p := 2) (by simp [scal, h4i, h4, h6i, h6] <;> omega) ?_
     refine awp_seqR fun K hK => ?_
     simp (disch := omega) [ints, rows, scal, wr64, wr8]
     (repeat' first | apply hK | apply And.intro) <;> try first | (show okH _ _ _ = true; kernel_rfl) | omega | rfl | (simp <;> omega)
     refine awp_ret ?_
     refine ⟨_, ⟨m', b3, nx3, hX, .inr ⟨3, rightP_lim hA (fun hF => by
      have := hF.2 l[i] (by rw [← hyes (by omega)]; simp)
      omega), rfl⟩⟩, ?_⟩
     refine ⟨⟨.inr rfl, _, [], rfl, trivial, trivial, by simp [dfT, monE], ?_⟩, by simp [dfT, monE]⟩
     simp [dfT, monE]
    ·have h6i : ¬ (60 : Int) < (l[i].2.length : Int) := by omega
     refine awp_seqR fun K hK => ?_
     simp (disch := omega) [ints, rows, scal, wr64, wr8, h4i, h4, h6i, h6]
     (repeat' first | apply hK | apply And.intro) <;> try first | (show okH _ _ _ = true; kernel_rfl) | omega | rfl | (simp <;> omega)
     refine awp_cond (b := false) (p := 2) (by simp [scal, h4i, h4, h6i, h6] <;> omega) ?_
     refine awp_skip ?_
     show awp _ _ _ _
     refine awp_R fun K hK => ?_
     simp (disch := omega) [ints, rows, scal, wr64, wr8]
     (repeat' first | apply hK | apply And.intro) <;> try first | (show okH _ _ _ = true; kernel_rfl) | omega | rfl | (simp <;> omega)
     refine ⟨i + 1, ⟨by omega, fun _ => by omega, fun j hj hji => ?_⟩, by omega, ?_⟩
     ·by_cases e : j = i
      ·subst e; omega
      ·exact hi6 j hj (by omega)
     ·refine wk_list [] rfl ?_ ?_ ?_ ?_
      all_goals try simp [ints]
  ·obtain rfl : i = l.length := by omega
   have hl4 : l.length ≤ 400 := by
    by_cases h0 : 0 < l.length
    ·exact hi4 h0
    ·omega
   have hlx := hyes hl4
   have hF : Fits 0 0 (pX L m' b3 nx3 0) := ⟨by rw [← hlx]; omega, fun p hp => by
    rw [← hlx] at hp
    obtain ⟨j, hj, e⟩ := List.getElem_of_mem hp
    have := hi6 j hj hj
    rw [e] at this
    omega⟩
   refine awp_cond (b := false) (p := 2) (by simp [scal] <;> omega) ?_
   refine awp_exit ?_
   show awp _ _ _ _
   refine awp_seqR fun K hK => ?_
   simp (disch := omega) [ints, rows, scal, wr64, wr8]
   (repeat' first | apply hK | apply And.intro) <;> try first | (show okH _ _ _ = true; kernel_rfl) | omega | rfl | (simp <;> omega)
   refine awp_ret ?_
   refine ⟨_, ⟨m', b3, nx3, hX, .inl rfl⟩, ?_⟩
   rw [rightP_ok hA hF, ← hlx]
   refine ⟨⟨.inr rfl, _, [], rfl, trivial, trivial, by simp [dfT, monR], ?_⟩, by simp [dfT, monR]⟩
   simp [dfT, monR]
theorem rRight_fn {L n s : Nat} {bs : List Bool} {nxt : List (List Int)} (h : DfL L n s bs nxt) (hL : 1 ≤ L) (hL2 : L ≤ 6) (hn : n ≤ 512) : ∃ m b2 nx, MiX L n s bs nxt m b2 nx ∧ FnA Tryd.prog 19 [dfT 0 L s bs nxt] (monR (rightP L m b2 nx)) := by
 obtain ⟨res, ⟨m, b2, nx, hX, hr⟩, hs⟩ := rRight0_fn h hL hL2 hn
 refine ⟨m, b2, nx, hX, ?_⟩
 rcases hr with rfl | ⟨e, e1, rfl⟩
 ·exact hs
 ·rw [e1]
  exact hs.resX fun E v => monE_R
end Go.Proofs.YtnffigeofdagfaaDoor.M
