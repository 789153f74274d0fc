/-
  The examples of chapter 23: known returns true.
-/
import Derived.Test.YtgghmjnbkbiffaaZqbg
import Derived.Test.YtgghmjnbkbiffaaZqbh
namespace Go.Proofs.Ytgghmjnbkbiffaa.M
open Go.RowKit
set_option linter.unusedVariables false
set_option linter.unusedSimpArgs false

theorem wkT_nil {H : Nat → Option AObj} {un : Nat → Prop} {q : Nat} : wkT H un q [] [] = True := eq_true ⟨rfl, fun j x y hx _ => by simp at hx⟩
theorem wkT_cons {H : Nat → Option AObj} {un : Nat → Prop} {q : Nat} {a : AV} {t : T} {bs : List AV} {ts : List T} : wkT H un q (a :: bs) (t :: ts) = (wk1 H un q a t ∧ wkT H un q bs ts) := by
  apply propext
  constructor
  · intro h
    exact ⟨h.2 0 a t rfl rfl, by simpa using h.1, fun j x y hx hy => h.2 (j + 1) x y (by simpa using hx) (by simpa using hy)⟩
  · rintro ⟨h1, h2⟩
    refine ⟨by simpa using h2.1, fun j x y hx hy => ?_⟩
    cases j with
    | zero => simp at hx hy; subst hx hy; exact h1
    | succ j => exact h2.2 j x y (by simpa using hx) (by simpa using hy)
theorem range_2 : List.range 2 = [0, 1] := rfl
theorem kn_r3 : ∀ r, r < lnx [[(0 : Int), 0], [0, 1]] → rowOk [[0, 0], [0, 1]] r := by
  intro r hr
  have hr : r < 2 := hr
  rcases (by omega : r = 0 ∨ r = 1) with rfl | rfl
  all_goals
    refine ⟨rfl, fun i hi => ?_⟩
    have hi : i < 2 := hi
    rcases (by omega : i = 0 ∨ i = 1) with rfl | rfl <;> exact ⟨by decide, by decide⟩
theorem kn_e2 : vErr [[0, 0], [0, 1]] = 0 := vErr_ok (shape_good (by decide) (by decide) kn_r3) (by
  intro a b c ha hb hc
  have ha : a < 2 := ha
  have hb : b < 2 := hb
  have hc : c < 2 := hc
  rcases (by omega : a = 0 ∨ a = 1) with rfl | rfl <;> rcases (by omega : b = 0 ∨ b = 1) with rfl | rfl <;> rcases (by omega : c = 0 ∨ c = 1) with rfl | rfl <;> rfl)
theorem kn_gz : gensB [[0, 1], [1, 0]] [1] = true := gensB_t (inB_t (fun i hi => by
  have hi : i < 1 := hi
  obtain rfl : i = 0 := by omega
  exact ⟨by decide, by decide⟩)) (fun x hx => by
  have hx : x < 2 := hx
  have h1 : Gen (lnx [[(0 : Int), 1], [1, 0]]) (tabOf [[0, 1], [1, 0]]) [1] 1 := .base 0 (by decide) rfl (by decide)
  rcases (by omega : x = 0 ∨ x = 1) with rfl | rfl
  · exact Gen.mul h1 h1
  · exact h1)
theorem kn_find : FindR (tabOf [[0, 1], [1, 0]]) (tabOf [[0, 0], [0, 1]]) [1] 2 10 [] 2 9 := by
  refine .inr (.inl ⟨rfl, rfl, rfl, by omega, fun l h1 h2 h3 h4 => ?_⟩)
  obtain ⟨y, rfl⟩ : ∃ y, l = [y] := by
    cases l with
    | nil => simp at h1
    | cons y r => cases r with
      | nil => exact ⟨y, rfl⟩
      | cons _ _ => simp at h1
  have hy : y < 2 := h2 y (by simp)
  have hm : (1, y) ∈ zp [1] [y] := zp_mem.2 ⟨0, by simp, rfl⟩
  have b1 : DvR (tabOf [[0, 1], [1, 0]]) (tabOf [[0, 0], [0, 1]]) (zp [1] [y]) y 1 := .base hm
  have b2 := b1.step hm
  have e1 : tabOf [[0, 1], [1, 0]] 1 1 = 0 := rfl
  have e2 : tabOf [[0, 0], [0, 1]] y y = y := by rcases (by omega : y = 0 ∨ y = 1) with rfl | rfl <;> rfl
  simp only [e1, e2] at b2
  have := h4 y 1 0 b1 b2
  omega
theorem kn_find_fn : FnA Try.prog 45 [.t 1 (rows [[0, 1], [1, 0]]), .t 1 (ints [1]), .t 1 (rows [[0, 0], [0, 1]]), .t 2 (.int .i64 10)] (findU [] 2 9) := by
  obtain ⟨r, c, e, h1, h2⟩ := findD_fn [[0, 1], [1, 0]] [[0, 0], [0, 1]] [1] 10 kn_z2 kn_gz kn_e2 (by omega) (by omega) (by simp) (by simp)
  obtain ⟨rfl, rfl, rfl⟩ := h1.uniq kn_find
  exact h2
theorem kn_map_fn : FnA Try.prog 41 [.t 0 (rows [[0]]), .t 0 (ints [0]), .t 0 (rows [[0, 1], [1, 0]]), .t 0 (ints [1])] (.tup [.t 2 (ints [0, 1]), .t 2 (ints [0, 0]), .t 2 (.int .i64 0)]) := by
  have := map_fn [[0]] [0] [[0, 1], [1, 0]] [1] (by simp)
  rw [kn_map] at this
  exact this
set_option maxRecDepth 100000 in
set_option maxHeartbeats 8000000 in
theorem known23_fn : FnA Try.prog 43 [] (.t 2 (.bool true)) := by
  have hmap := kn_map_fn
  have hfind := kn_find_fn
  have hs1 := same_fn [0, 1] [0, 1] (by simp)
  have hs2 := same_fn [0, 0] [0, 0] (by simp)
  rw [decide_eq_true rfl] at hs1 hs2
  refine fn_intro Try.func43 rfl (by simp [Try.f43]) ?_
  rw [show Try.f43.ntmps = 56 from rfl, show Try.f43.results = #[.tmp 0] from rfl]
  refine awp_seqR (fun K hK => ?_)
  simp (maxSteps := 2000000) (disch := omega) [ints, rows, scal, wr64, wr8]
  (repeat' first | refine hK _ ?_ | apply And.intro) <;> clear hK K <;> try first | (show chkD _ _ = true; kernel_rfl) | omega | rfl | (simp; done) | (simp; omega)
  refine awp_seqR (fun K hK => ?_)
  simp (maxSteps := 2000000) (disch := omega) [ints, rows, scal, wr64, wr8]
  (repeat' first | refine hK _ ?_ | apply And.intro) <;> clear hK K <;> try first | (show chkD _ _ = true; kernel_rfl) | omega | rfl | (simp; done) | (simp; omega)
  refine awp_weak (σ' := mkS [(1, .t 2 (rows [[0, 1], [1, 0]]))] [] 0 56 []) ?_ ?_
  · refine wk_list [] rfl ?_ ?_ ?_ ?_
    all_goals try simp [ints, rows, ints, wkT_cons, wkT_nil, wk1, range_2]
  refine awp_seqR2 5 (fun K hK => ?_)
  simp (maxSteps := 2000000) (disch := omega) [ints, rows, scal, wr64, wr8]
  (repeat' first | refine hK _ ?_ | apply And.intro) <;> clear hK K <;> try first | (show chkD _ _ = true; kernel_rfl) | omega | rfl | (simp; done) | (simp; omega)
  refine ⟨mkS [(1, .t 2 (rows [[0, 1], [1, 0]])), (13, .t 2 (rows [[0]])), (14, .t 2 (ints [0])), (15, .t 2 (rows [[0, 1], [1, 0]])), (16, .t 2 (ints [1]))] [] 0 56 [], ?_, fun K hK => ?_⟩
  · refine wk_list [] rfl ?_ ?_ ?_ ?_
    all_goals try simp [ints, rows, ints, wkT_cons, wkT_nil, wk1, range_2]
  simp (maxSteps := 2000000) (disch := omega) [ints, rows, scal, wr64, wr8]
  (repeat' apply And.intro)
  all_goals (try omega)
  refine call_rule (caps := []) (hmap) [] [] 2 rfl rfl rfl rfl (by kernel_rfl) (by simp) ?_ trivial trivial rfl trivial trivial (by simp) ?_
  · simp [scal, rows, ints]
  simp (maxSteps := 2000000) (disch := omega) [ints, rows, scal, wr64, wr8]
  (repeat' first | refine hK _ ?_ | apply And.intro) <;> clear hK K <;> try first | (show chkD _ _ = true; kernel_rfl) | omega | rfl | (simp; done) | (simp; omega)
  refine awp_seqR2 5 (fun K hK => ?_)
  simp (maxSteps := 2000000) (disch := omega) [ints, rows, scal, wr64, wr8]
  (repeat' first | refine hK _ ?_ | apply And.intro) <;> clear hK K <;> try first | (show chkD _ _ = true; kernel_rfl) | omega | rfl | (simp; done) | (simp; omega)
  refine ⟨mkS [(2, .t 2 (ints [0, 1])), (3, .t 2 (ints [0, 0])), (4, .t 2 (.int .i64 0)), (22, .t 2 (rows [[0, 1], [1, 0]])), (23, .t 2 (ints [1])), (26, .t 2 (rows [[0, 0], [0, 1]]))] [] 0 56 [], ?_, fun K hK => ?_⟩
  · refine wk_list [] rfl ?_ ?_ ?_ ?_
    all_goals try simp [ints, rows, ints, wkT_cons, wkT_nil, wk1, range_2]
  simp (maxSteps := 2000000) (disch := omega) [ints, rows, scal, wr64, wr8]
  (repeat' apply And.intro)
  all_goals (try omega)
  refine call_rule (caps := []) (hfind) [] [] 2 rfl rfl rfl rfl (by kernel_rfl) (by simp) ?_ trivial trivial rfl trivial trivial (by simp) ?_
  · simp [scal, rows, ints]
  simp (maxSteps := 2000000) (disch := omega) [ints, rows, scal, wr64, wr8, findU]
  (repeat' first | refine hK _ ?_ | apply And.intro) <;> clear hK K <;> try first | (show chkD _ _ = true; kernel_rfl) | omega | rfl | (simp; done) | (simp; omega)
  refine awp_seqR (fun K hK => ?_)
  simp (maxSteps := 2000000) (disch := omega) [ints, rows, scal, wr64, wr8, range_2]
  (repeat' apply And.intro)
  all_goals (try omega)
  refine call_rule (caps := []) (hs1) [] [] 2 (by simp [scal, rows, ints]) rfl rfl rfl (by kernel_rfl) (by simp) ?_ trivial trivial rfl trivial trivial (by simp) ?_
  · simp [scal, rows, ints]
  simp (maxSteps := 2000000) (disch := omega) [ints, rows, scal, wr64, wr8, range_2]
  (repeat' apply And.intro)
  all_goals (try omega)
  refine call_rule (caps := []) (hs2) [] [] 2 (by simp [scal, rows, ints]) rfl rfl rfl (by kernel_rfl) (by simp) ?_ trivial trivial rfl trivial trivial (by simp) ?_
  · simp [scal, rows, ints]
  simp (maxSteps := 2000000) (disch := omega) [ints, rows, scal, wr64, wr8]
  (repeat' first | refine hK _ ?_ | apply And.intro) <;> clear hK K <;> try first | (show chkD _ _ = true; kernel_rfl) | omega | rfl | (simp; done) | (simp; omega)
  refine awp_ret ?_
  refine ⟨⟨.inr rfl, _, [], rfl, trivial, trivial, by simp [natsOf], ?_⟩, by simp [natsOf]⟩
  simp [natsOf]
end Go.Proofs.Ytgghmjnbkbiffaa.M
