/-
  Walks in my logic: Union; MonomialAgrees.
-/
import Derived.Test.YtnffigeofdagfaaDoorZmax
import Derived.Test.YtnffigeofdagfaaDoorZmaz
import Derived.Test.YtnffigeofdagfaaDoorZmbb
namespace Go.Proofs.YtnffigeofdagfaaDoor.M
open Go.RowKit
set_option linter.unusedVariables false
set_option linter.unusedSimpArgs false

theorem monP_len3 (L : Nat) (m : Mo) : ∀ k s, (monP L m k s).1.1.length ≤ s.1.length + k + 1
 | 0, s => addP_len _ _ _
 | k + 1, s => by
  have h1 := monP_len3 L m k s
  have h2 := addP_len L (monP L m k s).1 (sAt m (m.2.length - (k + 1)), (lAt m (m.2.length - (k + 1)) : Nat), ((monP L m k s).2 : Nat))
  simp only [monP]
  omega
theorem allP_len3 {L : Nat} {ms : List Mo} (h : ∀ m ∈ ms, MoOK L 3 m) : (allP L ms).1.1.length ≤ ms.length * 4 := by
 suffices H : ∀ k, k ≤ ms.length → (allP L (ms.take k)).1.1.length ≤ k * 4 by
  have := H ms.length (Nat.le_refl _)
  rwa [List.take_length] at this
 intro k
 induction k with
 | zero => intro _; simp [allP]
 | succ k ih =>
  intro hk
  have h1 := ih (by omega)
  have h2 := monP_len3 L ms[k] ms[k].2.length (allP L (ms.take k)).1
  have h3 := (h ms[k] (by simp)).ll
  rw [List.take_succ_eq_append_getElem (by omega), allP_snoc]
  simp only
  omega
theorem MoOK.more {L a b : Nat} {m : Mo} (h : MoOK L a m) (hab : a ≤ b) : MoOK L b m := ⟨h.sl, Nat.le_trans h.ll hab, h.sv, h.lv⟩
theorem MoOK.six {L a : Nat} {m : Mo} (h : MoOK L a m) (hL : L ≤ 6) : MoOK 6 a m := by
 have e : 2 ^ L ≤ 2 ^ 6 := Nat.pow_le_pow_right (by omega) hL
 exact ⟨h.sl, h.ll, fun x hx => by have := h.sv x hx; omega, fun x hx => by have := h.lv x hx; omega⟩
theorem DtI.mc {L : Nat} {ps : List PL} {ev : Int} {s0 : Nat} {ss nx : List Nat} {fb : List Bool} (hL : L = 1 ∨ L = 2) (hn : ps.length ≤ 12) (h : DtI L ps ev s0 ss nx fb ss.length 0 ss.length) : McI L ss.length nx fb := by
 refine ⟨(List.getElem?_eq_some_iff.1 h.z).1, h.len hn, by omega, by omega, h.fl, by rw [h.nl]; omega, fun a i ha hi => ?_⟩
 obtain ⟨t, u, h1, -, h3⟩ := h.at ha (List.getElem?_eq_getElem hi)
 rw [List.getD_eq_getElem?_getD, h1]
 exact (List.getElem?_eq_some_iff.1 h3).1
def UnG (L : Nat) (ms : List Mo) (m : Nat) (bs : List Bool) (nx : List (List Int)) : Prop := m ≤ 512 ∧ DfL L m 0 bs nx ∧ ∀ w, (∀ a ∈ w, a < L) → accR bs nx 0 w = ms.any fun m => matB m w
set_option maxRecDepth 100000 in
set_option maxHeartbeats 8000000 in
theorem union_fn {L : Nat} (hL : L = 1 ∨ L = 2) {ms : List Mo} (hms : ∀ m ∈ ms, MoOK L 3 m) (hl : ms.length ≤ 3) : ∃ res, (∃ m bs nx, UnG L ms m bs nx ∧ res = .tup [dfT 2 L 0 bs nx, .t 2 (.int .i64 0)]) ∧ FnS Tryd.prog 11 [.t 0 (.sl 2 (mosC ms)), .t 2 (.int .i64 L)] [] res [] := by
 have hms60 : ∀ m ∈ ms, MoOK L 60 m := fun m hm => (hms m hm).more (by omega)
 have hval := validList_fn hms60 (by omega) (by omega) (by omega)
 have hAll := allP_spec ms hms60
 have hlen := allP_len3 hms
 obtain ⟨⟨⟨ps, ev⟩, fs⟩, hps⟩ : ∃ s, allP L ms = s := ⟨_, rfl⟩
 rw [hps] at hAll hlen
 simp only at hAll hlen
 have hpo := placesOf_fn hL hms60 (by omega) hps (by omega)
 have hs0 : nrmP ev (ofL fs) < 2 ^ ps.length := by
  have h1 := ofL_lt hAll.lt
  unfold nrmP
  split
  ·rename_i h2
   have := (hAll.ev h2.1).1
   exact Nat.pow_lt_pow_right (by omega) (by omega)
  ·exact h1
 obtain ⟨_, _, ⟨ss, nx, fb, hD, rfl, rfl⟩, hdet⟩ := determine_fn hL hAll.pl hAll.ev (by omega) hs0
 have hmc := hD.mc hL (by omega)
 obtain ⟨_, ⟨m, bs', nx', hm, hDm, hlang, rfl⟩, hmin⟩ := mcminimal_fn hmc (fun c k hC => few_classes hL hms hl hAll hD hC)
 have hU : UnG L ms m bs' nx' := ⟨hm, hDm, fun w hw => by
  rw [hlang w hw, Bool.eq_iff_iff]
  have h1 := hD.lang hAll (w := []) (i := 0) .nil hw
  rw [h1, List.any_eq_true]
  refine exists_congr fun m => and_congr_right fun hmm => ?_
  rw [matB_acc (hms m hmm).sl]
  rfl⟩
 generalize nrmP ev (ofL fs) = s0 at *
 generalize hq : qOf ps.length = q at *
 refine fn_introE Tryd.func11 rfl (by simp [Tryd.f11]) ?_
 rw [show Tryd.f11.ntmps = 43 from rfl, show Tryd.f11.results = #[.cell 4 32, .tmp 5] from rfl]
 refine awp_seqR fun K hK => ?_
 simp (maxSteps := 2000000) (disch := omega) [ints, rows, scal, wr64, wr8]
 (repeat' first | apply hK | apply And.intro) <;> try first | (show okH _ _ _ = true; kernel_rfl) | omega | rfl | (simp <;> omega)
 refine awp_seq ?_
 refine awp_seqR fun K hK => ?_
 simp (maxSteps := 2000000) (disch := omega) [ints, rows, scal, wr64, wr8]
 (repeat' apply And.intro)
 all_goals (try omega)
 refine call_rule (caps := []) (hval) [] [] 2 rfl rfl rfl rfl (by kernel_rfl) (by simp) ?_ trivial trivial rfl trivial trivial (by simp) ?_
 ·simp [scal, rows, ints]
 simp (maxSteps := 2000000) (disch := omega) [ints, rows, scal, wr64, wr8]
 (repeat' first | apply hK | apply And.intro) <;> try first | (show okH _ _ _ = true; kernel_rfl) | omega | rfl | (simp <;> omega)
 refine awp_seqR fun K hK => ?_
 simp (maxSteps := 2000000) (disch := omega) [ints, rows, scal, wr64, wr8]
 (repeat' first | apply hK | apply And.intro) <;> try first | (show okH _ _ _ = true; kernel_rfl) | omega | rfl | (simp <;> omega)
 refine awp_cond (b := false) (p := 2) (by simp [scal] <;> omega) ?_
 refine awp_skip ?_
 show awp _ _ _ _
 refine awp_seqR fun K hK => ?_
 simp (maxSteps := 2000000) (disch := omega) [ints, rows, scal, wr64, wr8]
 (repeat' apply And.intro)
 all_goals (try omega)
 refine call_rule (caps := []) (hpo) [] [10000000] 1 rfl rfl rfl rfl (by kernel_rfl) (by simp) ?_ ?_ (by simp) rfl (by simp) ⟨.inl ⟨by omega, by omega⟩, trivial⟩ (by simp) ?_
 ·simp [scal, rows, ints]
 ·trivial
 simp (maxSteps := 2000000) (disch := omega) [ints, rows, scal, wr64, wr8]
 (repeat' first | apply hK | apply And.intro) <;> try first | (show okH _ _ _ = true; kernel_rfl) | omega | rfl | (simp <;> omega)
 refine awp_seqR fun K hK => ?_
 simp (maxSteps := 2000000) (disch := omega) [ints, rows, scal, wr64, wr8]
 (repeat' apply And.intro)
 all_goals (try omega)
 refine call_rule (caps := []) (hdet) [] [18000000] 2 rfl rfl rfl rfl (by kernel_rfl) (by simp) ?_ ?_ (by simp) rfl (by simp) ⟨.inl ⟨by omega, by omega⟩, trivial⟩ (by simp [pfx_plA]) ?_
 ·simp [scal, rows, ints, pfx_plA]
 ·trivial
 simp (maxSteps := 2000000) (disch := omega) [ints, rows, scal, wr64, wr8]
 (repeat' first | apply hK | apply And.intro) <;> try first | (show okH _ _ _ = true; kernel_rfl) | omega | rfl | (simp <;> omega)
 refine awp_seq ?_
 refine awp_seqR fun K hK => ?_
 simp (maxSteps := 2000000) (disch := omega) [ints, rows, scal, wr64, wr8]
 (repeat' first | apply hK | apply And.intro) <;> try first | (show okH _ _ _ = true; kernel_rfl) | omega | rfl | (simp <;> omega)
 refine awp_cond (b := false) (p := 2) (by simp [scal] <;> omega) ?_
 refine awp_skip ?_
 show awp _ _ _ _
 refine awp_seqR fun K hK => ?_
 simp (maxSteps := 2000000) (disch := omega) [ints, rows, scal, wr64, wr8]
 (repeat' apply And.intro)
 all_goals (try omega)
 refine call_rule (caps := []) (hmin) [] [] 2 rfl rfl rfl rfl (by kernel_rfl) (by simp) ?_ trivial trivial rfl trivial trivial (by simp) ?_
 ·simp [scal, rows, ints, mcT, bools]
 simp (maxSteps := 2000000) (disch := omega) [ints, rows, scal, wr64, wr8, dfT, bools]
 (repeat' first | apply hK | apply And.intro) <;> try first | (show okH _ _ _ = true; kernel_rfl) | omega | rfl | (simp <;> omega)
 refine awp_seq ?_
 refine awp_seqR fun K hK => ?_
 simp (maxSteps := 2000000) (disch := omega) [ints, rows, scal, wr64, wr8]
 (repeat' first | apply hK | apply And.intro) <;> try first | (show okH _ _ _ = true; kernel_rfl) | omega | rfl | (simp <;> omega)
 refine awp_cond (b := false) (p := 2) (by simp [scal] <;> omega) ?_
 refine awp_skip ?_
 show awp _ _ _ _
 refine awp_seqR fun K hK => ?_
 simp (maxSteps := 2000000) (disch := omega) [ints, rows, scal, wr64, wr8]
 (repeat' first | apply hK | apply And.intro) <;> try first | (show okH _ _ _ = true; kernel_rfl) | omega | rfl | (simp <;> omega)
 refine awp_ret ?_
 refine ⟨_, ⟨m, bs', nx', hU, rfl⟩, ?_⟩
 refine ⟨⟨.inr rfl, _, [], (by simp; rfl), trivial, trivial, by simp [dfT, bools], ?_⟩, by simp [dfT, bools]⟩
 simp [ints, rows, dfT, bools]
set_option maxRecDepth 100000 in
set_option maxHeartbeats 16000000 in
theorem monAgrees_fn (l w : List Int) : FnA Tryd.prog 3 [.t 1 (ints l), .t 1 (ints w)] (.t 2 (.bool true)) := by
 have hnew := new_fn l
 obtain ⟨xs, hxs⟩ : ∃ xs, xs = l.take 80 := ⟨_, rfl⟩
 have hxl : xs.length ≤ 80 := by rw [hxs]; simp; omega
 rw [← hxs] at hnew
 have hnew2 := new_fn w
 obtain ⟨ys, hys⟩ : ∃ ys, ys = w.take 80 := ⟨_, rfl⟩
 have hyl : ys.length ≤ 80 := by rw [hys]; simp; omega
 rw [← hys] at hnew2
 obtain ⟨v, b, hv, hb, hnext⟩ := next_fn xs 0 2 (by omega) hxl (by omega)
 have hv := hv (by omega)
 obtain ⟨L, hLe⟩ : ∃ L : Nat, L = 1 + v := ⟨_, rfl⟩
 have hL : L = 1 ∨ L = 2 := by omega
 have hLi : 1 + (v : Int) = (L : Nat) := by rw [hLe]; push_cast; rfl
 obtain ⟨_, _, ⟨ms, b2, hms, hml, hb2, rfl, rfl⟩, hlist⟩ := list35_fn xs b L hb hxl (by omega) (by omega)
 obtain ⟨_, _, ⟨wd, b3, hwl, hwx, hb3, rfl, rfl⟩, hword⟩ := tword_fn ys 0 L 12 (by omega) hyl (by omega) (by omega) (by omega)
 obtain ⟨_, ⟨m, bs, nx, ⟨hm, hD, hlang⟩, rfl⟩, hun⟩ := union_fn hL hms hml
 have hmd := mos_div ms
 have hacc := accepts_fn hD (by omega) (by omega) hm hwx (by omega)
 rw [hlang wd hwx] at hacc
 refine fn_intro Tryd.func3 rfl (by simp [Tryd.f3]) ?_
 rw [show Tryd.f3.ntmps = 57 from rfl, show Tryd.f3.results = #[.tmp 4] from rfl]
 refine awp_seqR fun K hK => ?_
 simp (maxSteps := 2000000) (disch := omega) [ints, rows, scal, wr64, wr8]
 (repeat' first | apply hK | apply And.intro) <;> try first | (show okH _ _ _ = true; kernel_rfl) | omega | rfl | (simp <;> omega)
 refine awp_seqR fun K hK => ?_
 simp (maxSteps := 2000000) (disch := omega) [ints, rows, scal, wr64, wr8]
 (repeat' apply And.intro)
 all_goals (try omega)
 refine call_rule (caps := []) (hnew) [] [2000000] 1 rfl rfl rfl rfl (by kernel_rfl) (by simp) ?_ ?_ (by simp) rfl (by simp) ⟨.inl ⟨by omega, by omega⟩, trivial⟩ (by simp [tpO]) ?_
 ·simp [scal, rows, ints, tpO]
 ·trivial
 simp (maxSteps := 2000000) (disch := omega) [ints, rows, scal, wr64, wr8, tpO]
 (repeat' first | apply hK | apply And.intro) <;> try first | (show okH _ _ _ = true; kernel_rfl) | omega | rfl | (simp <;> omega)
 refine awp_weak (σ' := mkS [(1, .t 1 (ints w)), (5, .ptr 0 0 2)] [(0, tpO 1 xs 0)] 1 57 [.any, .any]) ?_ ?_
 ·refine wk_list [(0, some 2000000)] rfl ?_ ?_ ?_ ?_
  all_goals try simp [ints, tpO]
 refine awp_seqR fun K hK => ?_
 simp (maxSteps := 2000000) (disch := omega) [ints, rows, scal, wr64, wr8]
 (repeat' apply And.intro)
 all_goals (try omega)
 refine call_rule (caps := []) (hnext) [0] [0] 1 rfl rfl rfl rfl (by kernel_rfl) (by simp) ?_ ?_ (by simp) rfl (by simp) ⟨.inr ⟨rfl, 0, _, _, _, _, _, rfl, rfl, rfl, rfl, rfl⟩, trivial⟩ (by simp [tpO]) ?_
 ·simp [scal, rows, ints, tpO]
 ·simp [scal, rows, ints, tpO]
 simp (maxSteps := 2000000) (disch := omega) [ints, rows, scal, wr64, wr8, tpO, hLi]
 (repeat' first | apply hK | apply And.intro) <;> try first | (show okH _ _ _ = true; kernel_rfl) | omega | rfl | (simp <;> omega)
 refine awp_seqR fun K hK => ?_
 simp (maxSteps := 2000000) (disch := omega) [ints, rows, scal, wr64, wr8]
 (repeat' apply And.intro)
 all_goals (try omega)
 refine call_rule (caps := []) (hlist) [0] [0] 1 rfl rfl rfl rfl (by kernel_rfl) (by simp) ?_ ?_ (by simp) rfl (by simp) ⟨.inr ⟨rfl, 0, _, _, _, _, _, rfl, rfl, rfl, rfl, rfl⟩, trivial⟩ (by simp [tpO]) ?_
 ·simp [scal, rows, ints, tpO]
 ·simp [scal, rows, ints, tpO]
 simp (maxSteps := 2000000) (disch := omega) [ints, rows, scal, wr64, wr8, tpO]
 (repeat' first | apply hK | apply And.intro) <;> try first | (show okH _ _ _ = true; kernel_rfl) | omega | rfl | (simp <;> omega)
 refine awp_weak (σ' := mkS [(1, .t 1 (ints w)), (6, .t 2 (.int .i64 L)), (7, .t 1 (.sl 2 (mosC ms)))] [] 0 57 [.any, .any]) ?_ ?_
 ·refine wk_list [] rfl ?_ ?_ ?_ ?_
  all_goals try simp [ints]
 refine awp_seqR fun K hK => ?_
 simp (maxSteps := 2000000) (disch := omega) [ints, rows, scal, wr64, wr8]
 (repeat' apply And.intro)
 all_goals (try omega)
 refine call_rule (caps := []) (hnew2) [] [1000000] 1 rfl rfl rfl rfl (by kernel_rfl) (by simp) ?_ ?_ (by simp) rfl (by simp) ⟨.inl ⟨by omega, by omega⟩, trivial⟩ (by simp [tpO]) ?_
 ·simp [scal, rows, ints, tpO]
 ·trivial
 simp (maxSteps := 2000000) (disch := omega) [ints, rows, scal, wr64, wr8, tpO]
 (repeat' apply And.intro)
 all_goals (try omega)
 refine call_rule (caps := []) (hword) [1000000] [1000000] 1 rfl rfl rfl rfl (by kernel_rfl) (by simp) ?_ ?_ (by simp) rfl (by simp) ⟨.inr ⟨rfl, 0, _, _, _, _, _, rfl, rfl, rfl, rfl, rfl⟩, trivial⟩ (by simp [tpO]) ?_
 ·simp [scal, rows, ints, tpO]
 ·simp [scal, rows, ints, tpO]
 simp (maxSteps := 2000000) (disch := omega) [ints, rows, scal, wr64, wr8, tpO]
 (repeat' first | apply hK | apply And.intro) <;> try first | (show okH _ _ _ = true; kernel_rfl) | omega | rfl | (simp <;> omega)
 refine awp_weak (σ' := mkS [(6, .t 2 (.int .i64 L)), (7, .t 1 (.sl 2 (mosC ms))), (8, .t 2 (.str (strL wd)))] [] 0 57 [.any, .any]) ?_ ?_
 ·refine wk_list [] rfl ?_ ?_ ?_ ?_
  all_goals try simp [ints]
 refine awp_seqR fun K hK => ?_
 simp (maxSteps := 2000000) (disch := omega) [ints, rows, scal, wr64, wr8]
 (repeat' apply And.intro)
 all_goals (try omega)
 refine call_rule (caps := []) (hun) [] [] 2 rfl rfl rfl rfl (by kernel_rfl) (by simp) ?_ trivial trivial rfl trivial trivial (by simp) ?_
 ·simp [scal, rows, ints]
 simp (maxSteps := 2000000) (disch := omega) [ints, rows, scal, wr64, wr8, dfT, bools]
 (repeat' first | apply hK | apply And.intro) <;> try first | (show okH _ _ _ = true; kernel_rfl) | omega | rfl | (simp <;> omega)
 refine awp_seqR fun K hK => ?_
 simp (maxSteps := 2000000) (disch := omega) [ints, rows, scal, wr64, wr8]
 (repeat' first | apply hK | apply And.intro) <;> try first | (show okH _ _ _ = true; kernel_rfl) | omega | rfl | (simp <;> omega)
 refine awp_seq ?_
 refine awp_seqR fun K hK => ?_
 simp (maxSteps := 2000000) (disch := omega) [ints, rows, scal, wr64, wr8, hmd]
 (repeat' first | apply hK | apply And.intro) <;> try first | (show okH _ _ _ = true; kernel_rfl) | omega | rfl | (simp <;> omega)
 refine awp_block ?_
 refine awp_loop (fun k : Nat => mkS [(8, .t 2 (.str (strL wd))), (9, .ptr 0 0 4), (10, .t 2 (.int .i64 0)), (11, .t 2 (.bool ((ms.take k).any fun m => matB m wd))), (32, .t 1 (.sl 2 (mosC ms))), (33, .t 2 (.int .i64 ms.length)), (34, .t 2 (.int .i64 k))] [(0, .box 32 [.t 2 (.int .i64 L), .t 2 (.int .i64 0), .t 2 (bools bs), .t 2 (rows nx)])] 1 57 [.any, .any]) (fun k => k ≤ ms.length) (fun k => ms.length - k) ?_ ?_
 ·refine ⟨0, by omega, ?_⟩
  refine wk_list [(0, some 6000000)] rfl ?_ ?_ ?_ ?_
  all_goals try simp [ints, rows, bools, dfT]
 intro k hk
 refine awp_seqR fun K hK => ?_
 simp (maxSteps := 2000000) (disch := omega) [ints, rows, scal, wr64, wr8]
 (repeat' first | apply hK | apply And.intro) <;> try first | (show okH _ _ _ = true; kernel_rfl) | omega | rfl | (simp <;> omega)
 refine awp_seq ?_
 by_cases hkl : k < ms.length
 ·have hat := mos_at hkl
  have hin := mos_in hkl
  have hmk := hms ms[k] (by simp)
  have hma := match_fn (w := wd) ((hmk.more (show 3 ≤ 60 by omega)).six (by omega)) (fun x hx => by have := hwx x hx; omega) (by omega)
  have htk : ((ms.take (k + 1)).any fun m => matB m wd) = (((ms.take k).any fun m => matB m wd) || matB ms[k] wd) := by
   rw [List.take_succ_eq_append_getElem hkl, List.any_append]
   simp
  refine awp_cond (b := true) (p := 2) (by simp [scal, hkl] <;> omega) ?_
  refine awp_skip ?_
  show awp _ _ _ _
  refine awp_seq ?_
  refine awp_block ?_
  refine awp_seqR fun K hK => ?_
  simp (maxSteps := 2000000) (disch := omega) [ints, rows, scal, wr64, wr8, hat, hin]
  (repeat' first | apply hK | apply And.intro) <;> try first | (show okH _ _ _ = true; kernel_rfl) | omega | rfl | (simp <;> omega)
  generalize hin0 : ((ms.take k).any fun m => matB m wd) = c at htk
  cases c with
  | true =>
   refine awp_R fun K hK => ?_
   simp (maxSteps := 2000000) (disch := omega) [ints, rows, scal, wr64, wr8]
   (repeat' first | apply hK | apply And.intro) <;> try first | (show okH _ _ _ = true; kernel_rfl) | omega | rfl | (simp <;> omega)
   show awp _ _ _ _
   refine awp_R fun K hK => ?_
   simp (maxSteps := 2000000) (disch := omega) [ints, rows, scal, wr64, wr8]
   (repeat' first | apply hK | apply And.intro) <;> try first | (show okH _ _ _ = true; kernel_rfl) | omega | rfl | (simp <;> omega)
   refine ⟨k + 1, by omega, by omega, ?_⟩
   rw [htk]
   refine wk_list [(0, some 0)] rfl ?_ ?_ ?_ ?_
   all_goals try simp [ints, rows, bools]
  | false =>
   refine awp_R fun K hK => ?_
   simp (maxSteps := 2000000) (disch := omega) [ints, rows, scal, wr64, wr8]
   (repeat' apply And.intro)
   all_goals (try omega)
   refine call_rule (caps := []) (hma) [] [] 2 (by simp [scal, rows, ints, moV]) rfl rfl rfl (by kernel_rfl) (by simp) ?_ trivial trivial rfl trivial trivial (by simp) ?_
   ·simp [scal, rows, ints, moV]
   simp (maxSteps := 2000000) (disch := omega) [ints, rows, scal, wr64, wr8]
   (repeat' first | apply hK | apply And.intro) <;> try first | (show okH _ _ _ = true; kernel_rfl) | omega | rfl | (simp <;> omega)
   show awp _ _ _ _
   refine awp_R fun K hK => ?_
   simp (maxSteps := 2000000) (disch := omega) [ints, rows, scal, wr64, wr8]
   (repeat' first | apply hK | apply And.intro) <;> try first | (show okH _ _ _ = true; kernel_rfl) | omega | rfl | (simp <;> omega)
   refine ⟨k + 1, by omega, by omega, ?_⟩
   rw [htk]
   refine wk_list [(0, some 0)] rfl ?_ ?_ ?_ ?_
   all_goals try simp [ints, rows, bools]
 ·have hke : k = ms.length := by omega
  subst hke
  rw [List.take_length]
  generalize (ms.any fun m => matB m wd) = c at hacc
  refine awp_cond (b := false) (p := 2) (by simp [scal] <;> omega) ?_
  refine awp_exit ?_
  show awp _ _ _ _
  refine awp_seqR fun K hK => ?_
  simp (maxSteps := 2000000) (disch := omega) [ints, rows, scal, wr64, wr8]
  (repeat' apply And.intro)
  all_goals (try omega)
  refine call_rule (caps := []) (hacc) [] [] 2 (by simp [scal, rows, ints, dfT, bools]) rfl rfl rfl (by kernel_rfl) (by simp) ?_ trivial trivial rfl trivial trivial (by simp) ?_
  ·simp [scal, rows, ints, dfT, bools]
  simp (maxSteps := 2000000) (disch := omega) [ints, rows, scal, wr64, wr8]
  (repeat' apply And.intro)
  all_goals (try omega)
  refine call_rule (caps := []) (known35_fn) [] [] 2 (by simp [scal, rows, ints]) rfl rfl rfl (by kernel_rfl) (by simp) ?_ trivial trivial rfl trivial trivial (by simp) ?_
  ·simp [scal, rows, ints]
  simp (maxSteps := 2000000) (disch := omega) [ints, rows, scal, wr64, wr8]
  (repeat' first | apply hK | apply And.intro) <;> try first | (show okH _ _ _ = true; kernel_rfl) | omega | rfl | (simp <;> omega)
  refine awp_ret ?_
  refine ⟨⟨.inr rfl, _, [], rfl, trivial, trivial, by simp, ?_⟩, by simp⟩
  simp
end Go.Proofs.YtnffigeofdagfaaDoor.M
