/-
  Walks in my logic: of, Of (semigroupref21).
-/
import Derived.Test.YtghnmmfkckneaaaGreatZsbc
import Derived.Test.YtghnmmfkckneaaaGreatZsbg
namespace Go.Proofs.YtghnmmfkckneaaaGreat.M
open Go.RowKit
set_option linter.unusedVariables false
set_option maxRecDepth 100000
set_option maxHeartbeats 32000000
attribute [local simp] ints rows scal wr64 wr8
set_option linter.unusedSimpArgs false

theorem PrI.wl {n : Nat} {gs els : List (List Int)} {pre last : List Int} {wds : List (List Nat)} {right : List (List Int)} {d : Nat} (h : PrI n gs els pre last wds right d) : ∀ w ∈ wds, ∀ x ∈ w, x < gs.length := fun w hw => by
 obtain ⟨i, hi, rfl⟩ := List.getElem_of_mem hw
 have hle := h.en.le
 exact (h.en.val i wds[i] (els[i]'(by omega)) (by simp) (by simp)).2.2
theorem tblR_rt {L m : Nat} {right : List (List Int)} {wds : List (List Nat)} (h : RtOK L m right) (hl : m = wds.length) (hw : ∀ w ∈ wds, ∀ x ∈ w, x < L) : RtOK m m (tblR right wds m) := by
 refine ⟨by simp, fun i r hr => ?_⟩
 have hi := (List.getElem?_eq_some_iff.1 hr).1
 simp only [tblR_len] at hi
 unfold tblR at hr
 rw [tab_get _ hi] at hr
 injection hr with hr
 subst hr
 refine ⟨by simp, fun x j hj => ?_⟩
 have hx := (List.getElem?_eq_some_iff.1 hj).1
 rw [tab_len] at hx
 rw [tab_get _ hx] at hj
 injection hj with hj
 refine ⟨_, hj.symm, h.walk (fun y hy => ?_) hi⟩
 have hxw : x < wds.length := by omega
 rw [List.getD_eq_getElem?_getD, List.getElem?_eq_getElem hxw] at hy
 exact hw _ (by simp) y hy
def imgL (gs els : List (List Int)) : List Int := gs.map (fIdx els)
@[simp] theorem imgL_len (gs els : List (List Int)) : (imgL gs els).length = gs.length := by simp [imgL]
def synT (p L m : Nat) (tbl : List (List Int)) (wds : List (List Nat)) (im : List Int) (ac : List Bool) (pl : Nat → Bool) : AV := .agg [.t 2 (.int .i64 L), .t p (rows tbl), .t p (.sl 1 (wsT wds)), .t p (ints im), .t p (bools ac), .t p (.sl 1 (boolT m pl))]
def synZ : AV := .agg [.t 2 (.int .i64 0), .t 2 (.sl 0 []), .t 2 (.sl 0 []), .t 2 (.sl 0 []), .t 2 (.sl 0 []), .t 2 (.sl 0 [])]
def OfG (L : Nat) (res : AV) : Prop := res = .tup [synZ, .t 2 (.int .i64 3)] ∨ ∃ n gs els pre last wds right ac pl, gs.length = L ∧ GnOK n gs ∧ PrI n gs els pre last wds right els.length ∧ els.length ≤ 400 ∧ ac.length = els.length ∧
 res = .tup [synT 2 L els.length (tblR right wds els.length) wds (imgL gs els) ac pl, .t 2 (.int .i64 0)]
theorem of_fn {n : Nat} {gs : List (List Int)} (h : GnOK n gs) (st : Nat) (fin : List Bool) (hst : st < n) (hfin : fin.length = n) : ∃ res, OfG gs.length res ∧ FnS Tryz.prog 62 [.t 0 (rows gs), .t 2 (.int .i64 st), .t 0 (bools fin)] [] res [] := by
 obtain ⟨res1, hB, hbuild⟩ := build_fn h
 have hg1 := h.g1
 have hg2 := h.g2
 have hn2 := h.n2
 refine fn_introE Tryz.func62 rfl (by simp [Tryz.f62]) ?_
 rw [show Tryz.f62.ntmps = 101 from rfl, show Tryz.f62.results = #[.cell 6 63, .tmp 7] from rfl]
 refine rgS fun K hK => ?_
 simp (maxSteps := 2000000) (disch := omega)
 (repeat' first | apply hK | apply And.intro) <;> try first | omega | rfl | (simp <;> omega)
 rcases hB with rfl | ⟨els, pre, last, wds, right, rls, rfl, hP⟩
 ·refine rgS fun K hK => ?_
  simp (maxSteps := 2000000) (disch := omega)
  (repeat' apply And.intro)
  all_goals (try omega)
  refine callO (hbuild) rfl rfl rfl rfl (by kernel_rfl) (by simp) ?_ ?_
  ·simp
  simp (maxSteps := 2000000) (disch := omega)
  and_intros <;> try first | apply hK | omega | rfl | simp <;> omega
  refine awp_seq ?_
  refine rgS fun K hK => ?_
  simp (maxSteps := 2000000) (disch := omega)
  and_intros <;> try first | apply hK | omega | rfl | simp <;> omega
  refine condT (by simp <;> omega) ?_
  refine rgS fun K hK => ?_
  simp (maxSteps := 2000000) (disch := omega)
  and_intros <;> try first | apply hK | omega | rfl | simp <;> omega
  refine awp_ret ?_
  refine ⟨_, .inl rfl, ?_⟩
  refine ⟨⟨.inr rfl, _, [], (by simp; rfl), trivial, trivial, by simp [synZ], ?_⟩, by simp [synZ]⟩
  simp [synZ]
 have hen := hP.en
 have hel := hP.el
 have hle := hen.le
 have hlp := hen.wd.lp
 have hll := hen.wd.ll
 have hwn : wds.length ≤ 1000000 := by omega
 have hg20 : gs.length ≤ 20 := by omega
 have hrt := hP.rt
 refine rgS fun K hK => ?_
 simp (maxSteps := 2000000) (disch := omega)
 (repeat' apply And.intro)
 all_goals (try omega)
 refine callO (hbuild) rfl rfl rfl rfl (by kernel_rfl) (by simp) ?_ ?_
 ·simp
 simp (maxSteps := 2000000) (disch := omega) [enT]
 and_intros <;> try first | apply hK | omega | rfl | simp <;> omega
 refine awp_seq ?_
 by_cases h400 : 400 < els.length
 ·have d1 : decide ((els.length : Int) > 400) = true := by simp; omega
  refine rgS fun K hK => ?_
  simp (maxSteps := 2000000) (disch := omega) [d1]
  and_intros <;> try first | apply hK | omega | rfl | simp <;> omega
  refine condT (by simp [d1] <;> omega) ?_
  refine rgS fun K hK => ?_
  simp (maxSteps := 2000000) (disch := omega)
  and_intros <;> try first | apply hK | omega | rfl | simp <;> omega
  refine awp_ret ?_
  refine ⟨_, .inl rfl, ?_⟩
  refine ⟨⟨.inr rfl, _, [], (by simp; rfl), trivial, trivial, by simp [synZ, enT], ?_⟩, by simp [synZ, enT]⟩
  simp [synZ, enT]
 have d1 : decide ((els.length : Int) > 400) = false := by simp; omega
 refine rgS fun K hK => ?_
 simp (maxSteps := 2000000) (disch := omega) [d1]
 and_intros <;> try first | apply hK | omega | rfl | simp <;> omega
 refine condF (by simp [d1] <;> omega) ?_
 refine awp_skip ?_
 show awp _ _ _ _
 refine awp_seqD (by kernel_rfl) (fun K hK => ?_)
 simp (maxSteps := 2000000) (disch := omega)
 (repeat' apply And.intro)
 all_goals (try omega)
 refine callOD (table12_fn (p := 0) (n := n) (gs := gs) (pre := pre) (last := last) (rls := rls) (done := els.length) hrt hen.wd hle hg20 (by omega) hP.wl) rfl rfl rfl rfl (by kernel_rfl) (by simp) ?_ ?_
 ·simp [enT]
 simp (maxSteps := 2000000) (disch := omega)
 and_intros <;> try first | apply hK | (show chkD _ _ = true; kernel_rfl) | omega | rfl | simp <;> omega
 refine awp_seq ?_
 refine rgS fun K hK => ?_
 simp (maxSteps := 2000000) (disch := omega)
 and_intros <;> try first | apply hK | omega | rfl | simp <;> omega
 refine awp_block ?_
 refine awp_loop (fun y : Nat × List Bool => mkS [(0, .t 0 (rows gs)), (1, .t 2 (.int .i64 st)), (2, .t 0 (bools fin)), (6, .ptr 0 0 6), (8, .ptr 1 0 9), (10, .ptr 2 0 6), (41, .t 2 (rows els)), (42, .t 2 (.int .i64 els.length)), (43, .t 2 (.int .i64 y.1))]
   [(0, .box 63 [.any, .any, .any, .any, .any, .any]), (1, .box 146 [.any, .any, .any, .t 2 (rows els), .t 2 (ints pre), .t 2 (ints last), .any, .any, .any]), (2, .box 63 [.t 2 (.int .i64 gs.length), .t 2 (rows (tblR right wds els.length)), .own 3 y.1, .t 2 (.sl 0 []), .own 4 y.1, .own 5 els.length]), (3, .row 9 1 2 (wsT (wds.take y.1))), (4, .row 4 1 2 (y.2.map .bool)), (5, .row 4 1 2 (boolT els.length fun _ => false))] 6 101 [.any, .any, .any])
  (fun y => y.1 ≤ els.length ∧ y.2.length = y.1) (fun y => els.length - y.1) ?_ ?_
 ·refine ⟨(0, []), ⟨by simp, rfl⟩, ?_⟩
  refine wk_list [(0, some 0), (1, some 7000000), (2, some 27000000), (3, none), (4, none), (5, some 25000000)] rfl ?_ ?_ ?_ ?_
  all_goals try simp [bools, enT, boolT, rep_tab, wsT]
 ·rintro ⟨k, ac⟩ ⟨hk, hac⟩
  simp only at hk hac
  refine rgS fun K hK => ?_
  simp (maxSteps := 2000000) (disch := omega)
  and_intros <;> try first | apply hK | omega | rfl | simp <;> omega
  refine awp_seq ?_
  by_cases hkn : k < els.length
  ·have hkw : k < wds.length := by omega
   obtain ⟨v1, v2, v3⟩ := hen.val k wds[k] els[k] (by simp) (by simp)
   have hes : st < els[k].length := by have := v2.1; omega
   obtain ⟨w1, w2⟩ := v2.2 els[k][st] (by simp)
   obtain ⟨z, hz⟩ : ∃ z : Nat, els[k][st] = (z : Int) := ⟨els[k][st].toNat, by omega⟩
   have hzf : z < fin.length := by omega
   refine condT (by simp [hkn] <;> omega) ?_
   refine awp_skip ?_
   show awp _ _ _ _
   refine awp_seq ?_
   refine awp_block ?_
   refine rgS fun K hK => ?_
   simp (maxSteps := 2000000) (disch := omega) [hkn]
   and_intros <;> try first | apply hK | omega | rfl | simp <;> omega
   refine awp_seqD (by kernel_rfl) (fun K hK => ?_)
   simp (maxSteps := 2000000) (disch := omega)
   (repeat' apply And.intro)
   all_goals (try omega)
   refine callOD (word_fn hen.wd hg20 hwn (i := k) (w := wds[k]) (by simp)) rfl rfl rfl rfl (by kernel_rfl) (by simp) ?_ ?_
   ·simp [enW]
   simp (maxSteps := 2000000) (disch := omega) [wsT]
   and_intros <;> try first | apply hK | (show chkD _ _ = true; kernel_rfl) | omega | rfl | simp <;> omega
   refine awp_RD (by kernel_rfl) (fun K hK => ?_)
   simp (maxSteps := 2000000) (disch := omega) [hes, hz, hzf, bools]
   and_intros <;> try first | apply hK | (show chkD _ _ = true; kernel_rfl) | omega | rfl | simp <;> omega
   show awp _ _ _ _
   refine rgL fun K hK => ?_
   simp (maxSteps := 2000000) (disch := omega)
   (repeat' first | apply hK | apply And.intro) <;> try first | omega | rfl | (simp <;> omega)
   refine ⟨(k + 1, ac ++ [fin[z]]), ⟨by omega, by simp [hac]⟩, by simp; omega, ?_⟩
   refine wk_list [(0, some 0), (1, some 1), (2, some 2), (3, some 3), (4, some 4), (5, some 5)] rfl ?_ ?_ ?_ ?_
   all_goals try simp [bools, wsT, hac]
   rw [List.take_succ_eq_append_getElem (by simpa using hkw)]
   simp
  ·have hke : k = els.length := by omega
   refine condF (by simp [hkn] <;> omega) ?_
   refine awp_exit ?_
   show awp _ _ _ _
   refine awp_seq ?_
   refine rgS fun K hK => ?_
   simp (maxSteps := 2000000) (disch := omega)
   and_intros <;> try first | apply hK | omega | rfl | simp <;> omega
   refine awp_block ?_
   refine awp_loop (fun y : Nat => mkS [(6, .ptr 0 0 6), (8, .ptr 1 0 9), (10, .ptr 2 0 6), (69, .t 0 (rows gs)), (70, .t 2 (.int .i64 gs.length)), (71, .t 2 (.int .i64 y))]
     [(0, .box 63 [.any, .any, .any, .any, .any, .any]), (1, .box 146 [.any, .any, .any, .t 2 (rows els), .any, .any, .any, .any, .any]), (2, .box 63 [.t 2 (.int .i64 gs.length), .t 2 (rows (tblR right wds els.length)), .t 2 (.sl 1 (wsT wds)), .own 3 y, .t 2 (bools ac), .own 5 els.length]), (3, .row 3 1 2 ((imgL (gs.take y) els).map (.int .i64))), (5, .row 4 1 2 (boolT els.length fun _ => false))] 6 101 [.any, .any, .any])
    (fun y => y ≤ gs.length) (fun y => gs.length - y) ?_ ?_
   ·refine ⟨0, by omega, ?_⟩
    refine wk_list [(0, some 0), (1, some 1), (2, some 2), (3, none), (5, some 5)] rfl ?_ ?_ ?_ ?_
    all_goals try simp [bools, imgL, hac, hke, wsT]
    exact ⟨by omega, by rw [List.take_of_length_le (by simp; omega)]⟩
   ·intro x hx
    refine rgS fun K hK => ?_
    simp (maxSteps := 2000000) (disch := omega)
    and_intros <;> try first | apply hK | omega | rfl | simp <;> omega
    refine awp_seq ?_
    by_cases hxg : x < gs.length
    ·have hels : ∀ e ∈ els, e.length ≤ 1000000 := fun e he => by
      obtain ⟨i, hi, rfl⟩ := List.getElem_of_mem he
      obtain ⟨h1, h2, h3⟩ := hen.val i (wds[i]'(by omega)) els[i] (by simp) (by simp)
      have := h2.1; omega
     refine condT (by simp [hxg] <;> omega) ?_
     refine awp_skip ?_
     show awp _ _ _ _
     refine awp_seq ?_
     refine awp_block ?_
     refine rgS fun K hK => ?_
     simp (maxSteps := 2000000) (disch := omega) [hxg]
     and_intros <;> try first | apply hK | omega | rfl | simp <;> omega
     refine awp_RD (by kernel_rfl) (fun K hK => ?_)
     simp (maxSteps := 2000000) (disch := omega)
     (repeat' apply And.intro)
     all_goals (try omega)
     refine callOD (find_fn els gs[x] (by omega) hels) rfl rfl rfl rfl (by kernel_rfl) (by simp) ?_ ?_
     ·simp
     simp (maxSteps := 2000000) (disch := omega)
     and_intros <;> try first | apply hK | (show chkD _ _ = true; kernel_rfl) | omega | rfl | simp <;> omega
     show awp _ _ _ _
     refine rgL fun K hK => ?_
     simp (maxSteps := 2000000) (disch := omega)
     (repeat' first | apply hK | apply And.intro) <;> try first | omega | rfl | (simp <;> omega)
     refine ⟨x + 1, by omega, by omega, ?_⟩
     refine wk_list [(0, some 0), (1, some 1), (2, some 2), (3, some 3), (5, some 5)] rfl ?_ ?_ ?_ ?_
     all_goals try simp [bools, imgL]
     rw [List.take_succ_eq_append_getElem (by simpa using hxg)]
     simp
    ·have hxe : x = gs.length := by omega
     have htb := tblR_rt hrt hle hP.wl
     obtain ⟨res3, ⟨gg, hG, rfl⟩, hgen⟩ := generated_fn (imgL gs els) htb (by omega) (by simp [imgL]; omega)
     have hml : ((List.range els.length).filter gg).length ≤ els.length := Nat.le_trans (List.length_filter_le _ _) (by simp)
     refine condF (by simp [hxg] <;> omega) ?_
     refine awp_exit ?_
     show awp _ _ _ _
     subst hxe
     refine awp_seq ?_
     refine rgS fun K hK => ?_
     simp (maxSteps := 2000000) (disch := omega)
     (repeat' apply And.intro)
     all_goals (try omega)
     refine callO (hgen) rfl rfl rfl rfl (by kernel_rfl) (by simp) ?_ ?_
     ·simp [imgL]
     simp (maxSteps := 2000000) (disch := omega)
     and_intros <;> try first | apply hK | omega | rfl | simp <;> omega
     refine awp_block ?_
     refine awp_loop (fun y : Nat × (Nat → Bool) => mkS [(6, .ptr 0 0 6), (10, .ptr 2 0 6), (89, .t 2 (.sl 1 (natsT ((List.range els.length).filter gg)))), (90, .t 2 (.int .i64 ((List.range els.length).filter gg).length)), (91, .t 2 (.int .i64 y.1))]
       [(0, .box 63 [.any, .any, .any, .any, .any, .any]), (2, .box 63 [.t 2 (.int .i64 gs.length), .t 2 (rows (tblR right wds els.length)), .t 2 (.sl 1 (wsT wds)), .t 2 (ints (imgL gs els)), .t 2 (bools ac), .own 5 els.length]), (5, .row 4 1 2 (boolT els.length y.2))] 6 101 [.any, .any, .any])
      (fun y => y.1 ≤ ((List.range els.length).filter gg).length) (fun y => ((List.range els.length).filter gg).length - y.1) ?_ ?_
     ·refine ⟨(0, fun _ => false), by simp, ?_⟩
      refine wk_list [(0, some 0), (2, some 2), (5, some 5)] rfl ?_ ?_ ?_ ?_
      all_goals try simp [bools, imgL]
     ·rintro ⟨y, pl⟩ hy
      simp only at hy
      refine rgS fun K hK => ?_
      simp (maxSteps := 2000000) (disch := omega)
      and_intros <;> try first | apply hK | omega | rfl | simp <;> omega
      refine awp_seq ?_
      by_cases hyl : y < ((List.range els.length).filter gg).length
      ·have hym : ((List.range els.length).filter gg)[y] < els.length := by
        have := List.getElem_mem hyl
        simp only [List.mem_filter, List.mem_range] at this
        exact this.1
       refine condT (by simp [hyl] <;> omega) ?_
       refine awp_skip ?_
       show awp _ _ _ _
       refine awp_seq ?_
       refine awp_block ?_
       obtain ⟨z, hz⟩ : ∃ z, z = ((List.range els.length).filter gg)[y] := ⟨_, rfl⟩
       rw [← hz] at hym
       refine rgS fun K hK => ?_
       simp (maxSteps := 2000000) (disch := omega) [natsT, hyl, ← hz]
       and_intros <;> try first | apply hK | omega | rfl | simp <;> omega
       refine rgL fun K hK => ?_
       simp (maxSteps := 2000000) (disch := omega) [boolT, hym]
       and_intros <;> try first | apply hK | omega | rfl | simp <;> omega
       show awp _ _ _ _
       refine rgL fun K hK => ?_
       simp (maxSteps := 2000000) (disch := omega)
       (repeat' first | apply hK | apply And.intro) <;> try first | omega | rfl | (simp <;> omega)
       refine ⟨(y + 1, fun i => if i = z then true else pl i), by simp; omega, by simp; omega, ?_⟩
       refine wk_list [(0, some 0), (2, some 2), (5, some 5)] rfl ?_ ?_ ?_ ?_
       all_goals try simp [bools, boolT, tab_set, natsT]
       refine tab_congr (fun i hi => ?_)
       by_cases e : i = z <;> simp [e]
      ·refine condF (by simp [hyl] <;> omega) ?_
       refine awp_exit ?_
       show awp _ _ _ _
       refine rgS fun K hK => ?_
       simp (maxSteps := 2000000) (disch := omega)
       and_intros <;> try first | apply hK | omega | rfl | simp <;> omega
       refine awp_ret ?_
       refine ⟨_, .inr ⟨n, gs, els, pre, last, wds, right, ac, pl, rfl, h, hP, by omega, by omega, rfl⟩, ?_⟩
       refine ⟨⟨.inr rfl, _, [], (by simp; rfl), trivial, trivial, by simp [synT, bools, enT], ?_⟩, by simp [synT, bools, enT]⟩
       simp [synT, bools, enT]
theorem Of_fn {L n s : Nat} {bs : List Bool} {nxt : List (List Int)} (h : DfL L n s bs nxt) (hL : 1 ≤ L) (hL2 : L ≤ 6) (hn : n ≤ 512) : ∃ res, OfG L res ∧ FnS Tryz.prog 31 [dfT 0 L s bs nxt] [] res [] := by
 obtain ⟨res1, ⟨m, bs1, nx1, hm, hD, rfl⟩, hmin⟩ := minimal_fn h hL hL2 hn
 have hbl := hD.bl
 refine fn_introE Tryz.func31 rfl (by simp [Tryz.f31]) ?_
 rw [show Tryz.f31.ntmps = 28 from rfl, show Tryz.f31.results = #[.cell 2 63, .tmp 3] from rfl]
 refine rgS fun K hK => ?_
 simp (maxSteps := 2000000) (disch := omega) [dfT, bools]
 and_intros <;> try first | apply hK | omega | rfl | simp <;> omega
 refine awp_seq ?_
 refine rgS fun K hK => ?_
 simp (maxSteps := 2000000) (disch := omega)
 (repeat' apply And.intro)
 all_goals (try omega)
 refine callO (validate07_fn h hL hL2 hn) rfl rfl rfl rfl (by kernel_rfl) (by simp) ?_ ?_
 ·simp [dfT, bools]
 simp (maxSteps := 2000000) (disch := omega)
 and_intros <;> try first | apply hK | omega | rfl | simp <;> omega
 refine rgS fun K hK => ?_
 simp (maxSteps := 2000000) (disch := omega)
 and_intros <;> try first | apply hK | omega | rfl | simp <;> omega
 refine condF (by simp <;> omega) ?_
 refine awp_skip ?_
 show awp _ _ _ _
 refine rgS fun K hK => ?_
 simp (maxSteps := 2000000) (disch := omega)
 (repeat' apply And.intro)
 all_goals (try omega)
 refine callO (hmin) rfl rfl rfl rfl (by kernel_rfl) (by simp) ?_ ?_
 ·simp [dfT, bools]
 simp (maxSteps := 2000000) (disch := omega) [dfT, bools]
 and_intros <;> try first | apply hK | omega | rfl | simp <;> omega
 refine awp_seq ?_
 refine rgS fun K hK => ?_
 simp (maxSteps := 2000000) (disch := omega) [hbl]
 (repeat' first | apply hK | apply And.intro) <;> try first | omega | rfl | (simp <;> omega)
 by_cases h32 : 32 < m
 ·refine condT (by simp [h32] <;> omega) ?_
  refine rgS fun K hK => ?_
  simp (maxSteps := 2000000) (disch := omega)
  and_intros <;> try first | apply hK | omega | rfl | simp <;> omega
  refine awp_ret ?_
  refine ⟨_, .inl rfl, ?_⟩
  refine ⟨⟨.inr rfl, _, [], (by simp; rfl), trivial, trivial, by simp [synZ, dfT, bools], ?_⟩, by simp [synZ, dfT, bools]⟩
  simp [synZ, dfT, bools]
 obtain ⟨res2, hO, hof⟩ := of_fn (hD.gn hL hL2 (by omega)) 0 bs1 hD.n1 hbl
 rw [tab_len] at hO
 refine condF (by simp [h32] <;> omega) ?_
 refine awp_skip ?_
 show awp _ _ _ _
 rcases hO with rfl | ⟨n', gs, els, pre, last, wds, right, ac, pl, e1, e2, e3, e4, e5, rfl⟩
 ·refine awp_seqD (by kernel_rfl) (fun K hK => ?_)
  simp (maxSteps := 2000000) (disch := omega)
  (repeat' apply And.intro)
  all_goals (try omega)
  refine callOD (ofDFA_fn hD hL hL2 (by omega)) rfl rfl rfl rfl (by kernel_rfl) (by simp) ?_ ?_
  ·simp [dfT, bools]
  simp (maxSteps := 2000000) (disch := omega)
  (repeat' apply And.intro)
  all_goals (try omega)
  refine callOD (hof) rfl rfl rfl rfl (by kernel_rfl) (by simp) ?_ ?_
  ·simp [dfT, bools]
  simp (maxSteps := 2000000) (disch := omega) [synZ]
  and_intros <;> try first | apply hK | (show chkD _ _ = true; kernel_rfl) | omega | rfl | simp <;> omega
  refine awp_ret ?_
  refine ⟨_, .inl rfl, ?_⟩
  refine ⟨⟨.inr rfl, _, [], (by simp; rfl), trivial, trivial, by simp [synZ, dfT, bools], ?_⟩, by simp [synZ, dfT, bools]⟩
  simp [synZ, dfT, bools]
 ·refine awp_seqD (by kernel_rfl) (fun K hK => ?_)
  simp (maxSteps := 2000000) (disch := omega)
  (repeat' apply And.intro)
  all_goals (try omega)
  refine callOD (ofDFA_fn hD hL hL2 (by omega)) rfl rfl rfl rfl (by kernel_rfl) (by simp) ?_ ?_
  ·simp [dfT, bools]
  simp (maxSteps := 2000000) (disch := omega)
  (repeat' apply And.intro)
  all_goals (try omega)
  refine callOD (hof) rfl rfl rfl rfl (by kernel_rfl) (by simp) ?_ ?_
  ·simp [dfT, bools]
  simp (maxSteps := 2000000) (disch := omega) [synT, bools]
  and_intros <;> try first | apply hK | (show chkD _ _ = true; kernel_rfl) | omega | rfl | simp <;> omega
  refine awp_ret ?_
  refine ⟨_, .inr ⟨n', gs, els, pre, last, wds, right, ac, pl, e1, e2, e3, e4, e5, rfl⟩, ?_⟩
  refine ⟨⟨.inr rfl, _, [], (by simp; rfl), trivial, trivial, by simp [synT, dfT, bools], ?_⟩, by simp [synT, dfT, bools]⟩
  simp [synT, dfT, bools]
end Go.Proofs.YtghnmmfkckneaaaGreat.M
