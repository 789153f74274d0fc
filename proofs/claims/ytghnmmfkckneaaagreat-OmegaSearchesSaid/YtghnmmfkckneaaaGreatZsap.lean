/-
  Walks in my logic: powers in a table, programs of terms (omega).
  Walk in my logic: machines for terms (omega.newMachine).
  Walk in my logic: machines for terms (run); the program of a term computes its value.
  The program of a term computes its value (layer 28), in plain Lean.
-/
import Derived.Test.YtghnmmfkckneaaaGreatZsal
import Derived.Test.YtghnmmfkckneaaaGreatZsao
namespace Go.Proofs.YtghnmmfkckneaaaGreat.M
open Go.RowKit
set_option linter.unusedVariables false
set_option maxRecDepth 100000
set_option maxHeartbeats 32000000
attribute [local simp] ints rows scal wr64 wr8
set_option linter.unusedSimpArgs false

theorem TbL.get {tb : List (List Int)} {n : Nat} {T : Nat → Nat → Nat} (ht : TbL tb n T) {a b : Nat} (ha : a < n) (hb : b < n) : ∃ (h : a < tb.length) (h2 : b < tb[a].length), tb[a][b] = (T a b : Int) := by
 have h : a < tb.length := by rw [ht.len]; exact ha
 have h2 : b < tb[a].length := by rw [ht.row a h]; exact hb
 exact ⟨h, h2, ht.val a b h h2⟩
theorem power_fn (tb : List (List Int)) (n : Nat) (T : Nat → Nat → Nat) (ht : TbL tb n T) (hA : Assoc n T) (hn : n ≤ 1000) (x : Nat) (hx : x < n) (m : Int) (hm : -1 ≤ m) (hm9 : m ≤ 9) :
  FnA Tryz.prog 90 [.t 0 (rows tb), .t 2 (.int .i64 (x : Nat)), .t 2 (.int .i64 m)] (.t 2 (.int .i64 (powT T n x m : Nat))) := by
 obtain ⟨k0, hk0, hom, hid, hno⟩ := omT_spec ht.lt hA hx
 have hel := omT_lt ht.lt hA hx
 refine fn_intro Tryz.func90 rfl (by simp [Tryz.f90]) ?_
 rw [show Tryz.f90.ntmps = 66 from rfl, show Tryz.f90.results = #[.tmp 6] from rfl]
 refine rgS fun K hK => ?_
 simp (disch := omega)
 and_intros <;> try first | apply hK | omega | rfl | simp <;> omega
 refine rgS fun K hK => ?_
 simp (disch := omega)
 and_intros <;> try first | apply hK | omega | rfl | simp <;> omega
 refine awp_seq ?_
 refine awp_block ?_
 refine awp_loop (fun k : Nat => mkS [(0, .t 0 (rows tb)), (1, .t 2 (.int .i64 (x : Nat))), (2, .t 2 (.int .i64 m)), (7, .t 2 (.int .i64 (pw T x k : Nat)))] [] 0 66 [.any, .any, .any]) (fun k => k ≤ k0) (fun k => k0 - k) ?_ ?_
 ·refine ⟨0, by omega, ?_⟩
  refine wk_list [] rfl ?_ ?_ ?_ ?_
  all_goals try simp [pw, itT]
 intro k hk
 have hpl := pw_lt ht.lt hx k
 obtain ⟨g1, g2, g3⟩ := ht.get hpl hpl
 obtain ⟨g4, g5, g6⟩ := ht.get hpl hx
 have hps := pw_succ (T := T) x k
 refine awp_seq ?_
 by_cases he : T (pw T x k) (pw T x k) = pw T x k
 case neg =>
  have hlt : k < k0 := by
   rcases Nat.lt_or_ge k k0 with h | h
   ·exact h
   ·obtain rfl : k = k0 := by omega
    exact absurd hid he
  generalize pw T x (k + 1) = e1 at hps
  generalize hpk : pw T x k = e at hpl g1 g2 g3 g4 g5 g6 hps he ⊢
  refine rgS fun K hK => ?_
  simp (disch := omega) [g1, g2, g3]
  and_intros <;> try first | apply hK | omega | rfl | simp <;> omega
  refine condT (by simp [he] <;> omega) ?_
  refine awp_skip ?_
  show awp _ _ _ _
  refine awp_block ?_
  refine rgL fun K hK => ?_
  simp (disch := omega) [g4, g5, g6]
  (repeat' first | apply hK | apply And.intro) <;> try first | omega | rfl | (simp <;> omega)
  refine ⟨k + 1, by omega, by omega, ?_⟩
  refine wk_list [] rfl ?_ ?_ ?_ ?_
  all_goals try simp [pw_succ, hpk]
 obtain rfl : k = k0 := by
  rcases Nat.lt_or_ge k k0 with h | h
  ·exact absurd he (hno k h)
  ·omega
 rw [← hom] at he ⊢
 clear hps g1 g2 g3 g4 g5 g6 hpl
 obtain ⟨g1, g2, g3⟩ := ht.get hel hel
 obtain ⟨g4, g5, g6⟩ := ht.get hel hx
 refine rgS fun K hK => ?_
 simp (disch := omega) [g1, g2, g3]
 and_intros <;> try first | apply hK | omega | rfl | simp <;> omega
 refine condF (by simp [he] <;> omega) ?_
 refine awp_exit ?_
 show awp _ _ _ _
 refine rgS fun K hK => ?_
 simp (disch := omega)
 and_intros <;> try first | apply hK | omega | rfl | simp <;> omega
 refine awp_seq ?_
 refine rgS fun K hK => ?_
 simp (disch := omega)
 (repeat' first | apply hK | apply And.intro) <;> try first | omega | rfl | (simp <;> omega)
 by_cases hneg : m < 0
 ·obtain ⟨j0, hj0, hin, hjd, hjn⟩ := inv_spec ht.lt hA hx
  have hres : powT T n x m = itT T x j0 (omT T n x) := by unfold powT; rw [if_pos hneg, hin]
  have hg := inv_g ht.lt hA hx
  have hgl := ht.lt _ _ hel hx
  rw [hres]
  clear hin
  generalize omT T n x = e at hom hel g1 g2 g3 g4 g5 g6 he hjd hjn hg hgl ⊢
  refine condT (by simp [hneg] <;> omega) ?_
  refine rgS fun K hK => ?_
  simp (disch := omega) [g4, g5, g6]
  and_intros <;> try first | apply hK | omega | rfl | simp <;> omega
  refine awp_seq ?_
  refine awp_block ?_
  refine awp_loop (fun j : Nat => mkS [(0, .t 0 (rows tb)), (7, .t 2 (.int .i64 (e : Nat))), (8, .t 2 (.int .i64 (itT T x j e : Nat))), (9, .t 2 (.int .i64 (T e x : Nat)))] [] 0 66 [.any, .any, .any]) (fun j => j ≤ j0) (fun j => j0 - j) ?_ ?_
  ·refine ⟨0, by omega, ?_⟩
   refine wk_list [] rfl ?_ ?_ ?_ ?_
   all_goals try simp [itT]
  intro j hj
  have hyl := it_lt ht.lt hx hel j
  obtain ⟨b1, b2, b3⟩ := ht.get hyl hgl
  rw [hg j] at b3
  refine awp_seq ?_
  by_cases hq : T (itT T x j e) x = e
  ·obtain rfl : j = j0 := by
    rcases Nat.lt_or_ge j j0 with h | h
    ·exact absurd hq (hjn j h)
    ·omega
   refine rgS fun K hK => ?_
   simp (disch := omega) [b1, b2, b3]
   and_intros <;> try first | apply hK | omega | rfl | simp <;> omega
   refine condF (by simp [hq] <;> omega) ?_
   refine awp_exit ?_
   show awp _ _ _ _
   refine rgS fun K hK => ?_
   simp (disch := omega)
   and_intros <;> try first | apply hK | omega | rfl | simp <;> omega
   refine awp_ret ?_
   refine ⟨⟨.inr rfl, _, [], rfl, trivial, trivial, by simp, ?_⟩, by simp⟩
   simp
  ·have hlt : j < j0 := by
    rcases Nat.lt_or_ge j j0 with h | h
    ·exact h
    ·obtain rfl : j = j0 := by omega
     exact absurd hjd hq
   refine rgS fun K hK => ?_
   simp (disch := omega) [b1, b2, b3]
   and_intros <;> try first | apply hK | omega | rfl | simp <;> omega
   refine condT (by simp [hq] <;> omega) ?_
   refine awp_skip ?_
   show awp _ _ _ _
   refine awp_block ?_
   refine rgL fun K hK => ?_
   simp (disch := omega) [b1, b2, b3]
   (repeat' first | apply hK | apply And.intro) <;> try first | omega | rfl | (simp <;> omega)
   refine ⟨j + 1, by omega, by omega, ?_⟩
   refine wk_list [] rfl ?_ ?_ ?_ ?_
   all_goals try simp [itT]
 ·have hres : powT T n x m = itT T x m.toNat (omT T n x) := by unfold powT; rw [if_neg hneg]
  rw [hres]
  generalize omT T n x = e at hom hel g1 g2 g3 g4 g5 g6 he ⊢
  obtain ⟨q, rfl⟩ : ∃ q : Nat, m = (q : Int) := ⟨m.toNat, by omega⟩
  rw [Int.toNat_natCast]
  refine condF (by simp [hneg] <;> omega) ?_
  refine awp_skip ?_
  show awp _ _ _ _
  refine awp_seq ?_
  refine rgS fun K hK => ?_
  simp (disch := omega)
  and_intros <;> try first | apply hK | omega | rfl | simp <;> omega
  refine awp_block ?_
  refine awp_loop (fun j : Nat => mkS [(0, .t 0 (rows tb)), (1, .t 2 (.int .i64 (x : Nat))), (8, .t 2 (.int .i64 (itT T x j e : Nat))), (54, .t 2 (.int .i64 (q : Nat))), (55, .t 2 (.int .i64 (j : Nat)))] [] 0 66 [.any, .any, .any]) (fun j => j ≤ q) (fun j => q - j) ?_ ?_
  ·refine ⟨0, by omega, ?_⟩
   refine wk_list [] rfl ?_ ?_ ?_ ?_
   all_goals try simp [itT]
  intro j hj
  have hyl := it_lt ht.lt hx hel j
  obtain ⟨b1, b2, b3⟩ := ht.get hyl hx
  refine rgS fun K hK => ?_
  simp (disch := omega)
  and_intros <;> try first | apply hK | omega | rfl | simp <;> omega
  refine awp_seq ?_
  by_cases hjq : j < q
  ·refine condT (by simp [hjq] <;> omega) ?_
   refine awp_skip ?_
   show awp _ _ _ _
   refine awp_seq ?_
   refine awp_block ?_
   refine rgL fun K hK => ?_
   simp (disch := omega) [b1, b2, b3]
   and_intros <;> try first | apply hK | omega | rfl | simp <;> omega
   show awp _ _ _ _
   refine rgL fun K hK => ?_
   simp (disch := omega)
   (repeat' first | apply hK | apply And.intro) <;> try first | omega | rfl | (simp <;> omega)
   refine ⟨j + 1, by omega, by omega, ?_⟩
   refine wk_list [] rfl ?_ ?_ ?_ ?_
   all_goals try simp [itT]
  ·obtain rfl : j = q := by omega
   refine condF (by simp <;> omega) ?_
   refine awp_exit ?_
   show awp _ _ _ _
   refine rgS fun K hK => ?_
   simp (disch := omega)
   and_intros <;> try first | apply hK | omega | rfl | simp <;> omega
   refine awp_ret ?_
   refine ⟨⟨.inr rfl, _, [], rfl, trivial, trivial, by simp, ?_⟩, by simp⟩
   simp
def pgC (p : List (Int × Int)) : List T := p.flatMap fun s => [.int .i64 s.1, .int .i64 s.2]
def pgT (p : List (Int × Int)) : T := .sl 2 (pgC p)
@[simp] theorem pgC_len : ∀ p : List (Int × Int), (pgC p).length = p.length * 2
 | [] => rfl
 | s :: p => by
  show (pgC p).length + 2 = _
  rw [pgC_len p, List.length_cons]; omega
theorem pgC1 (s : Int × Int) : pgC [s] = [.int .i64 s.1, .int .i64 s.2] := rfl
theorem pgC_app (p q : List (Int × Int)) : pgC (p ++ q) = pgC p ++ pgC q := by simp [pgC]
mutual
def Tm.cmp : Tm → List (Int × Int)
 | .mk o n l => if o = 1 then [(0, 0)] else if o = 2 then [(1, n)] else cmpL true l ++ (if o = 4 then [(3, n)] else [])
def cmpL : Bool → List Tm → List (Int × Int)
 | _, [] => []
 | fst, a :: r => a.cmp ++ (if fst then [] else [(2, 0)]) ++ cmpL false r
end
theorem cmp_eq (t : Tm) : t.cmp = if t.op = 1 then [(0, 0)] else if t.op = 2 then [(1, t.n)] else cmpL true t.args ++ (if t.op = 4 then [(3, t.n)] else []) := by
 obtain ⟨o, n, l⟩ := t
 rw [Tm.cmp]
 rfl
theorem cmpL_app : ∀ (fst : Bool) (l r : List Tm), cmpL fst (l ++ r) = cmpL fst l ++ cmpL (fst && decide (l = [])) r
 | fst, [], r => by
  rw [show cmpL fst [] = [] from by rw [cmpL]]
  simp
 | fst, a :: l, r => by
  rw [List.cons_append, cmpL, cmpL, cmpL_app false l r]
  simp
theorem take_cmp {l : List Tm} {k : Nat} (h : k < l.length) : cmpL true (l.take (k + 1)) = cmpL true (l.take k) ++ l[k].cmp ++ (if k = 0 then [] else [(2, 0)]) := by
 rw [List.take_succ_eq_append_getElem h, cmpL_app, cmpL, show cmpL false [] = [] from by rw [cmpL]]
 by_cases hk : k = 0
 ·subst hk; simp
 ·have : l.take k ≠ [] := fun e => by
   have := congrArg List.length e
   rw [List.length_take, List.length_nil] at this
   omega
  simp [this, hk]
mutual
theorem cmp_len : ∀ t : Tm, t.cmp.length + 1 ≤ 2 * t.sz
 | .mk o n l => by
  have := cmpL_len true l
  rw [Tm.cmp, Tm.sz]
  split
  ·simp; omega
  ·split
   ·simp; omega
   ·split
    ·simp; omega
    ·simp; omega
theorem cmpL_len : ∀ (fst : Bool) (l : List Tm), (cmpL fst l).length ≤ 2 * szL l
 | fst, [] => by rw [cmpL, szL]; simp
 | fst, a :: r => by
  have := cmp_len a
  have := cmpL_len false r
  rw [cmpL, szL]
  cases fst <;> simp <;> omega
end
def pgO (p : List (Int × Int)) : AObj := .row 130 2 2 (pgC p)
def teO (t : Tm) : AObj := .box 29 [.t 2 (.int .i64 t.op), .t 2 (.int .i64 t.n), .t 0 (.sl 3 (cellsL t.args))]
theorem tsStep (h : 130 < Tryz.prog.types.size) : (Tryz.prog.types[130]'h).size = 2 := by rfl
theorem compile_fn : ∀ t : Tm, t.ok = true → t.sz ≤ 1000 → FnA Tryz.prog 51 [tmV 0 t] (.t 2 (pgT t.cmp)) := by
 intro t
 induction hsz : t.sz using Nat.strongRecOn generalizing t with
 | _ q ih =>
 intro ho hs1
 have hwf : t.wf = true := by rw [ok_eq, Bool.and_eq_true] at ho; exact ho.1
 have hokl : okL' t.args = true := by rw [ok_eq, Bool.and_eq_true] at ho; exact ho.2
 unfold Tm.wf at hwf
 rw [decide_eq_true_iff] at hwf
 have hsz2 := sz_eq t
 have hsl := szL_ge t.args
 rw [cmp_eq]
 unfold pgT
 refine fn_intro Tryz.func51 rfl (by simp [Tryz.f51]) ?_
 rw [show Tryz.f51.ntmps = 47 from rfl, show Tryz.f51.results = #[.tmp 2] from rfl]
 refine rgS fun K hK => ?_
 simp (disch := omega) [tmV]
 and_intros <;> try first | apply hK | omega | rfl | simp <;> omega
 refine awp_seq ?_
 refine rgS fun K hK => ?_
 simp (disch := omega)
 and_intros <;> try first | apply hK | omega | rfl | simp <;> omega
 refine awp_block ?_
 refine rgS fun K hK => ?_
 simp (disch := omega)
 (repeat' first | apply hK | apply And.intro) <;> try first | omega | rfl | (simp <;> omega)
 by_cases e1 : t.op = 1
 ·refine condT (by simp [e1] <;> omega) ?_
  refine rgS fun K hK => ?_
  simp (disch := omega) [tsStep]
  and_intros <;> try first | apply hK | omega | rfl | simp <;> omega
  refine awp_ret ?_
  rw [if_pos e1]
  refine ⟨⟨.inr rfl, _, [], (by first | rfl | (simp [tmV, pgC]; rfl)), ?_, ?_, ?_, ?_⟩, ?_⟩
  all_goals try simp [tmV, pgC]
 refine condF (by simp [e1] <;> omega) ?_
 refine rgS fun K hK => ?_
 simp (disch := omega)
 (repeat' first | apply hK | apply And.intro) <;> try first | omega | rfl | (simp <;> omega)
 by_cases e2 : t.op = 2
 ·refine condT (by simp [e2] <;> omega) ?_
  refine rgS fun K hK => ?_
  simp (disch := omega) [tsStep]
  and_intros <;> try first | apply hK | omega | rfl | simp <;> omega
  refine awp_ret ?_
  rw [if_neg e1, if_pos e2]
  refine ⟨⟨.inr rfl, _, [], (by first | rfl | (simp [tmV, pgC]; rfl)), ?_, ?_, ?_, ?_⟩, ?_⟩
  all_goals try simp [tmV, pgC]
 refine condF (by simp [e2] <;> omega) ?_
 refine awp_skip ?_
 show awp _ _ _ _
 rw [if_neg e1, if_neg e2]
 refine rgS fun K hK => ?_
 simp (disch := omega)
 and_intros <;> try first | apply hK | omega | rfl | simp <;> omega
 refine awp_seq ?_
 refine rgS fun K hK => ?_
 simp (disch := omega)
 and_intros <;> try first | apply hK | omega | rfl | simp <;> omega
 refine awp_block ?_
 refine awp_loop (fun k : Nat => mkS [(1, .ptr 0 0 3), (3, .own 1 ((cmpL true (t.args.take k)).length * 2)), (19, .t 0 (.sl 3 (cellsL t.args))), (20, .t 2 (.int .i64 t.args.length)), (21, .t 2 (.int .i64 k))] [(0, teO t), (1, pgO (cmpL true (t.args.take k)))] 2 47 [.any]) (fun k => k ≤ t.args.length) (fun k => t.args.length - k) ?_ ?_
 ·refine ⟨0, by omega, ?_⟩
  refine wk_list [(0, some 0), (1, none)] rfl ?_ ?_ ?_ ?_
  all_goals try simp [teO, pgO, cmpL, pgC, tmV]
 intro k hk
 have hcl := cmpL_len true (t.args.take k)
 have hslk := szL_take_le t.args k
 refine rgS fun K hK => ?_
 simp (disch := omega)
 and_intros <;> try first | apply hK | omega | rfl | simp <;> omega
 refine awp_seq ?_
 by_cases hkl : k < t.args.length
 ·obtain ⟨a, ha⟩ : ∃ a, a = t.args[k] := ⟨_, rfl⟩
  have hcut := cellsL_cut t.args k hkl
  rw [← ha, Tm.cells_eq] at hcut
  have ham : a ∈ t.args := by rw [ha]; exact List.getElem_mem hkl
  have htc := take_cmp hkl
  rw [← ha] at htc
  have hlt := sz_arg ham
  have hac := cmp_len a
  have hA := ih a.sz (by omega) a rfl (okL'_all.1 hokl a ham) (by omega)
  unfold pgT at hA
  refine condT (by simp [hkl] <;> omega) ?_
  refine awp_skip ?_
  show awp _ _ _ _
  refine awp_seq ?_
  refine awp_block ?_
  refine rgS fun K hK => ?_
  simp (disch := omega) [hcut, hkl, teO, pgO]
  and_intros <;> try first | apply hK | omega | rfl | simp <;> omega
  refine rgS fun K hK => ?_
  simp (disch := omega) [teO, pgO]
  (repeat' apply And.intro)
  all_goals (try omega)
  refine callO (hA) rfl rfl rfl rfl (by kernel_rfl) (by simp) ?_ ?_
  ·simp [tmV, teO, pgO]
  simp (disch := omega) [teO, pgO]
  and_intros <;> try first | apply hK | omega | rfl | simp <;> omega
  refine rgS fun K hK => ?_
  simp (disch := omega) [teO, pgO]
  (repeat' first | apply hK | apply And.intro) <;> try first | omega | rfl | (simp <;> omega)
  by_cases h0 : k = 0
  ·subst h0
   refine condF (by simp <;> omega) ?_
   refine awp_skip ?_
   show awp _ _ _ _
   refine rgL fun K hK => ?_
   simp (disch := omega) [teO, pgO]
   (repeat' first | apply hK | apply And.intro) <;> try first | omega | rfl | (simp <;> omega)
   refine ⟨1, by omega, by omega, ?_⟩
   rw [htc]
   refine wk_list [(0, some 0), (1, some 1)] rfl ?_ ?_ ?_ ?_
   all_goals try simp [teO, pgO, pgC_app]
   all_goals (try omega)
  ·have h0' : (0 : Int) < (k : Int) := by omega
   refine condT (by simp [h0'] <;> omega) ?_
   refine rgL fun K hK => ?_
   simp (disch := omega) [teO, pgO, tsStep]
   and_intros <;> try first | apply hK | omega | rfl | simp <;> omega
   show awp _ _ _ _
   refine rgL fun K hK => ?_
   simp (disch := omega) [teO, pgO]
   (repeat' first | apply hK | apply And.intro) <;> try first | omega | rfl | (simp <;> omega)
   refine ⟨k + 1, by omega, by omega, ?_⟩
   rw [htc, if_neg h0]
   refine wk_list [(0, some 0), (1, some 1)] rfl ?_ ?_ ?_ ?_
   all_goals try simp [teO, pgO, pgC_app, pgC1]
   all_goals (try omega)
 ·obtain rfl : k = t.args.length := by omega
  rw [List.take_length] at hcl ⊢
  refine condF (by simp <;> omega) ?_
  refine awp_exit ?_
  show awp _ _ _ _
  refine awp_seq ?_
  refine rgS fun K hK => ?_
  simp (disch := omega) [teO, pgO]
  (repeat' first | apply hK | apply And.intro) <;> try first | omega | rfl | (simp <;> omega)
  by_cases e4 : t.op = 4
  ·rw [if_pos e4]
   refine condT (by simp [e4] <;> omega) ?_
   refine rgL fun K hK => ?_
   simp (disch := omega) [teO, pgO, tsStep]
   and_intros <;> try first | apply hK | omega | rfl | simp <;> omega
   show awp _ _ _ _
   refine rgS fun K hK => ?_
   simp (disch := omega) [teO, pgO]
   and_intros <;> try first | apply hK | omega | rfl | simp <;> omega
   refine awp_ret ?_
   refine ⟨⟨.inr rfl, _, [], (by first | rfl | (simp [teO, pgO, pgC_app, pgC1, tmV]; rfl)), ?_, ?_, ?_, ?_⟩, ?_⟩
   all_goals try simp [teO, pgO, pgC_app, pgC1, tmV]
   all_goals (try omega)
  ·rw [if_neg e4, List.append_nil]
   refine condF (by simp [e4] <;> omega) ?_
   refine awp_skip ?_
   show awp _ _ _ _
   refine rgS fun K hK => ?_
   simp (disch := omega) [teO, pgO]
   and_intros <;> try first | apply hK | omega | rfl | simp <;> omega
   refine awp_ret ?_
   refine ⟨⟨.inr rfl, _, [], (by first | rfl | (simp [teO, pgO, pgC_app, tmV]; rfl)), ?_, ?_, ?_, ?_⟩, ?_⟩
   all_goals try simp [teO, pgO, pgC_app, tmV]
end Go.Proofs.YtghnmmfkckneaaaGreat.M

namespace Go.Proofs.YtghnmmfkckneaaaGreat.M
open Go.RowKit
set_option linter.unusedVariables false
set_option maxRecDepth 100000
set_option maxHeartbeats 32000000
attribute [local simp] ints rows scal wr64 wr8
set_option linter.unusedSimpArgs false

theorem pgC_cut : ∀ (p : List (Int × Int)) (i : Nat) (h : i < p.length), ((pgC p).drop (i * 2)).take 2 = [.int .i64 p[i].1, .int .i64 p[i].2]
 | s :: p, 0, h => rfl
 | s :: p, i + 1, h => by
  show (([T.int .i64 s.1, .int .i64 s.2] ++ pgC p).drop ((i + 1) * 2)).take 2 = _
  rw [show (i + 1) * 2 = ([T.int .i64 s.1, T.int .i64 s.2] : List T).length + i * 2 by simp; omega, List.drop_append]
  simp only [List.drop_eq_nil_of_le (show ([T.int .i64 s.1, T.int .i64 s.2] : List T).length ≤ ([T.int .i64 s.1, T.int .i64 s.2] : List T).length + i * 2 by omega), List.nil_append, Nat.add_sub_cancel_left]
  exact pgC_cut p i (by simpa using h)
def pwL (T : Nat → Nat → Nat) (n j : Nat) : List M.T := tab n fun x => .int .i64 (powT T n x ((j : Int) - 1) : Nat)
@[simp] theorem pwL_len (T : Nat → Nat → Nat) (n j : Nat) : (pwL T n j).length = n := by simp [pwL]
def pwA (T : Nat → Nat → Nat) (n : Nat) (u : Nat → Bool) (j : Nat) : AV := .t 1 (if u j = true then .sl 1 (pwL T n j) else .sl 0 [])
theorem pwA_t {T : Nat → Nat → Nat} {n : Nat} {u : Nat → Bool} {j : Nat} (h : u j = true) : pwA T n u j = .t 1 (.sl 1 (pwL T n j)) := by unfold pwA; rw [if_pos h]
theorem pwA_f {T : Nat → Nat → Nat} {n : Nat} {u : Nat → Bool} {j : Nat} (h : u j = false) : pwA T n u j = .t 1 (.sl 0 []) := by unfold pwA; rw [if_neg (by rw [h]; simp)]
def mcC (tb : List (List Int)) (T : Nat → Nat → Nat) (n : Nat) (one : Int) (u : Nat → Bool) : List AV := .t 1 (rows tb) :: .t 2 (.int .i64 one) :: tab 11 (pwA T n u)
def mcO (tb : List (List Int)) (T : Nat → Nat → Nat) (n : Nat) (one : Int) (u : Nat → Bool) : AObj := .box 134 (mcC tb T n one u)
section
variable {tb : List (List Int)} {T : Nat → Nat → Nat} {n : Nat} {one : Int} {u u' : Nat → Bool}
@[simp] theorem mcC_len : (mcC tb T n one u).length = 13 := by simp [mcC]
@[simp] theorem mcC_0 : (mcC tb T n one u)[0]? = some (.t 1 (rows tb)) := rfl
@[simp] theorem mcC_1 : (mcC tb T n one u)[1]? = some (.t 2 (.int .i64 one)) := rfl
theorem mcC_p {j : Nat} (h : j < 11) : (mcC tb T n one u)[2 + j]? = some (pwA T n u j) := by
 unfold mcC
 rw [show 2 + j = j + 1 + 1 by omega, List.getElem?_cons_succ, List.getElem?_cons_succ, tab_get _ h]
theorem mcC_get {i : Nat} {a : AV} (h : (mcC tb T n one u)[i]? = some a) : (i = 0 ∧ a = .t 1 (rows tb)) ∨ (i = 1 ∧ a = .t 2 (.int .i64 one)) ∨ ∃ j, j < 11 ∧ i = 2 + j ∧ a = pwA T n u j := by
 rcases i with _ | _ | j
 ·rw [mcC_0] at h; injection h with h; exact .inl ⟨rfl, h.symm⟩
 ·rw [mcC_1] at h; injection h with h; exact .inr (.inl ⟨rfl, h.symm⟩)
 ·have hl : j + 1 + 1 < 13 := by have := (List.getElem?_eq_some_iff.1 h).1; simpa using this
  rw [show j + 1 + 1 = 2 + j by omega, mcC_p (by omega)] at h
  injection h with h
  exact .inr (.inr ⟨j, by omega, by omega, h.symm⟩)
theorem pwA_wk {H : Nat → Option AObj} {m : Nat → Option Nat} {un : Nat → Prop} {nx j : Nat} (h : u' j = u j) : wkP H m un nx (pwA T n u j) (pwA T n u' j) := by
 unfold pwA
 rw [h]
 exact ⟨rfl, Nat.le_refl _⟩
theorem mcC_wk {H : Nat → Option AObj} {m : Nat → Option Nat} {un : Nat → Prop} {nx : Nat} : wkPs H m un nx (mcC tb T n one u) (mcC tb T n one u) = True := by
 refine eq_true (wkPs_of rfl (fun i a b ha hb => ?_))
 rw [ha] at hb
 injection hb with hb
 subst hb
 rcases mcC_get ha with ⟨-, rfl⟩ | ⟨-, rfl⟩ | ⟨j, -, -, rfl⟩
 ·exact ⟨rfl, Nat.le_refl _⟩
 ·exact ⟨rfl, Nat.le_refl _⟩
 ·exact ⟨rfl, Nat.le_refl _⟩
theorem mcC_set {H : Nat → Option AObj} {m : Nat → Option Nat} {un : Nat → Prop} {nx j : Nat} {v : AV} (hj : j < 11) (hu : ∀ i, i ≠ j → u' i = u i) (hv : wkP H m un nx v (pwA T n u' j)) : wkPs H m un nx ((mcC tb T n one u).set (2 + j) v) (mcC tb T n one u') := by
 refine wkPs_of (by simp) (fun i a b ha hb => ?_)
 by_cases hi : i = 2 + j
 ·subst hi
  rw [List.getElem?_set_self (by simp; omega)] at ha
  rw [mcC_p hj] at hb
  injection ha with ha
  injection hb with hb
  subst ha hb
  exact hv
 ·rw [List.getElem?_set_ne (by omega)] at ha
  rcases mcC_get ha with ⟨rfl, rfl⟩ | ⟨rfl, rfl⟩ | ⟨j', hj', rfl, rfl⟩
  ·rw [mcC_0] at hb; injection hb with hb; subst hb; exact ⟨rfl, Nat.le_refl _⟩
  ·rw [mcC_1] at hb; injection hb with hb; subst hb; exact ⟨rfl, Nat.le_refl _⟩
  ·rw [mcC_p hj'] at hb; injection hb with hb; subst hb
   exact pwA_wk (hu j' (by omega))
end
def addU (u : Nat → Bool) (s : Int × Int) : Nat → Bool := if s.1 = 3 then fun j => u j || decide ((j : Int) - 1 = s.2) else u
def zU : Nat → Bool := fun _ => false
theorem mcC_init {tb : List (List Int)} {T : Nat → Nat → Nat} {n : Nat} {one : Int} : mcC tb T n one zU = [.t 1 (rows tb), .t 2 (.int .i64 one), .t 1 (.sl 0 []), .t 1 (.sl 0 []), .t 1 (.sl 0 []), .t 1 (.sl 0 []), .t 1 (.sl 0 []), .t 1 (.sl 0 []), .t 1 (.sl 0 []), .t 1 (.sl 0 []), .t 1 (.sl 0 []), .t 1 (.sl 0 []), .t 1 (.sl 0 [])] := rfl
theorem fold_take {α β : Type} (f : β → α → β) (b : β) (l : List α) {k : Nat} (h : k < l.length) : (l.take (k + 1)).foldl f b = f ((l.take k).foldl f b) l[k] := by
 rw [List.take_succ_eq_append_getElem h, List.foldl_append]
 rfl
def useP (ps : List (List (Int × Int))) (u : Nat → Bool) : Nat → Bool := ps.foldl (fun u p => p.foldl addU u) u
theorem tsStepM (h : 134 < Tryz.prog.types.size) : (Tryz.prog.types[134]'h).size = 13 := by rfl
theorem newMachine_fn (tb : List (List Int)) (n : Nat) (T : Nat → Nat → Nat) (ht : TbL tb n T) (hA : Assoc n T) (hn0 : 0 < n) (hn : n ≤ 1000) (one : Int) (ps : List (List (Int × Int))) (hps : ps.length ≤ 1000)
  (hp : ∀ p ∈ ps, p.length ≤ 100000 ∧ ∀ s ∈ p, s.1 = 3 → -1 ≤ s.2 ∧ s.2 ≤ 9) :
  FnS Tryz.prog 52 [.t 1 (rows tb), .t 2 (.int .i64 one), .t 0 (.sl 1 (ps.map pgT))] [] (.ptr 0 0 13) [mcO tb T n one (useP ps zU)] := by
 have htl := ht.len
 refine fn_intro Tryz.func52 rfl (by simp [Tryz.f52]) ?_
 rw [show Tryz.f52.ntmps = 72 from rfl, show Tryz.f52.results = #[.tmp 6] from rfl]
 refine rgS fun K hK => ?_
 simp (disch := omega)
 and_intros <;> try first | apply hK | omega | rfl | simp <;> omega
 refine rgS fun K hK => ?_
 simp (disch := omega) [tsStepM]
 and_intros <;> try first | apply hK | omega | rfl | simp <;> omega
 refine awp_seq ?_
 refine rgS fun K hK => ?_
 simp (disch := omega)
 and_intros <;> try first | apply hK | omega | rfl | simp <;> omega
 refine awp_block ?_
 refine awp_loop (fun k : Nat => mkS [(0, .t 1 (rows tb)), (7, .ptr 0 0 13), (18, .t 0 (.sl 1 (ps.map pgT))), (19, .t 2 (.int .i64 ps.length)), (20, .t 2 (.int .i64 k))] [(0, mcO tb T n one (useP (ps.take k) zU))] 1 72 [.any, .any, .any]) (fun k => k ≤ ps.length) (fun k => ps.length - k) ?_ ?_
 ·refine ⟨0, by omega, ?_⟩
  rw [show useP (ps.take 0) zU = zU from rfl]
  refine wk_list [(0, some 4000000)] rfl ?_ ?_ ?_ ?_
  all_goals try simp [mcO, mcC_init, tsStepM]
 intro k hk
 refine rgS fun K hK => ?_
 simp (disch := omega)
 and_intros <;> try first | apply hK | omega | rfl | simp <;> omega
 refine awp_seq ?_
 by_cases hkl : k < ps.length
 case neg =>
  obtain rfl : k = ps.length := by omega
  rw [List.take_length]
  refine condF (by simp <;> omega) ?_
  refine awp_exit ?_
  show awp _ _ _ _
  refine rgS fun K hK => ?_
  simp (disch := omega)
  and_intros <;> try first | apply hK | omega | rfl | simp <;> omega
  refine awp_ret ?_
  refine ⟨⟨.inr rfl, _, [(0, some 0)], (by first | rfl | (simp [mcO, mcC_wk]; rfl)), ?_, ?_, ?_, ?_⟩, ?_⟩
  all_goals try simp [mcO, mcC_wk]
 obtain ⟨p, hpk⟩ : ∃ p, p = ps[k] := ⟨_, rfl⟩
 obtain ⟨hpl, hps3⟩ := hp p (by rw [hpk]; exact List.getElem_mem hkl)
 have hut : useP (ps.take (k + 1)) zU = p.foldl addU (useP (ps.take k) zU) := by
  unfold useP
  rw [fold_take _ _ _ hkl, hpk]
 generalize useP (ps.take k) zU = u0 at hut ⊢
 refine condT (by simp [hkl] <;> omega) ?_
 refine awp_skip ?_
 show awp _ _ _ _
 refine awp_seq ?_
 refine awp_block ?_
 refine rgS fun K hK => ?_
 simp (disch := omega) [hkl, ← hpk]
 and_intros <;> try first | apply hK | omega | rfl | simp <;> omega
 refine rgS fun K hK => ?_
 simp (disch := omega) [pgT]
 and_intros <;> try first | apply hK | omega | rfl | simp <;> omega
 refine awp_block ?_
 refine awp_loop (fun i : Nat => mkS [(0, .t 1 (rows tb)), (7, .ptr 0 0 13), (18, .t 0 (.sl 1 (ps.map pgT))), (19, .t 2 (.int .i64 ps.length)), (20, .t 2 (.int .i64 k)), (24, .t 0 (.sl 2 (pgC p))), (25, .t 2 (.int .i64 p.length)), (26, .t 2 (.int .i64 i))] [(0, mcO tb T n one ((p.take i).foldl addU u0))] 1 72 [.any, .any, .any]) (fun i => i ≤ p.length) (fun i => p.length - i) ?_ ?_
 ·refine ⟨0, by omega, ?_⟩
  rw [show (p.take 0).foldl addU u0 = u0 from rfl]
  refine wk_list [(0, some 0)] rfl ?_ ?_ ?_ ?_
  all_goals try simp [mcO, mcC_wk, pgT]
 intro i hi
 refine rgS fun K hK => ?_
 simp (disch := omega)
 and_intros <;> try first | apply hK | omega | rfl | simp <;> omega
 refine awp_seq ?_
 by_cases hil : i < p.length
 case neg =>
  obtain rfl : i = p.length := by omega
  rw [List.take_length, ← hut]
  refine condF (by simp <;> omega) ?_
  refine awp_exit ?_
  show awp _ _ _ _
  refine rgL fun K hK => ?_
  simp (disch := omega)
  (repeat' first | apply hK | apply And.intro) <;> try first | omega | rfl | (simp <;> omega)
  refine ⟨k + 1, by omega, by omega, ?_⟩
  refine wk_list [(0, some 0)] rfl ?_ ?_ ?_ ?_
  all_goals try simp [mcO, mcC_wk]
 have hut2 := fold_take addU u0 p hil
 have hcut := pgC_cut p i hil
 have hs3 := hps3 _ (List.getElem_mem hil)
 generalize p[i] = s at hut2 hcut hs3
 obtain ⟨kd, m⟩ := s
 simp only at hut2 hcut hs3
 generalize (p.take i).foldl addU u0 = u1 at hut2 ⊢
 refine condT (by simp [hil] <;> omega) ?_
 refine awp_skip ?_
 show awp _ _ _ _
 refine awp_seq ?_
 refine awp_block ?_
 by_cases e3 : kd = 3
 case neg =>
  have hu2 : (p.take (i + 1)).foldl addU u0 = u1 := by rw [hut2]; unfold addU; rw [if_neg e3]
  have e3b : (kd == 3) = false := by simpa using e3
  have e3c : (kd != 3) = true := by simpa using e3
  refine rgS fun K hK => ?_
  simp (disch := omega) [hcut, hil]
  and_intros <;> try first | apply hK | omega | rfl | simp <;> omega
  refine awp_seq ?_
  refine awp_seqD (by kernel_rfl) (fun K hK => ?_)
  simp (disch := omega) [e3, e3b, e3c]
  and_intros <;> try first | apply hK | (show chkD _ _ = true; kernel_rfl) | omega | rfl | simp <;> omega
  refine condT (by simp <;> omega) ?_
  refine awp_exit ?_
  show awp _ _ _ _
  refine rgL fun K hK => ?_
  simp (disch := omega)
  (repeat' first | apply hK | apply And.intro) <;> try first | omega | rfl | (simp <;> omega)
  refine ⟨i + 1, by omega, by omega, ?_⟩
  rw [hu2]
  refine wk_list [(0, some 0)] rfl ?_ ?_ ?_ ?_
  all_goals try simp [mcO, mcC_wk]
 subst e3
 obtain ⟨hm0, hm9⟩ := hs3 rfl
 obtain ⟨j, rfl⟩ : ∃ j : Nat, m = (j : Int) - 1 := ⟨(m + 1).toNat, by omega⟩
 have hj : j < 11 := by omega
 have hmp := mcC_p (tb := tb) (T := T) (n := n) (one := one) (u := u1) hj
 have hu2 : (p.take (i + 1)).foldl addU u0 = fun x => u1 x || decide ((x : Int) - 1 = (j : Int) - 1) := by rw [hut2]; unfold addU; rw [if_pos rfl]
 by_cases hu : u1 j = true
 ·have hu3 : (p.take (i + 1)).foldl addU u0 = u1 := by
   rw [hu2]
   funext x
   by_cases hx : x = j
   ·rw [hx, hu]; rfl
   ·have : ¬ ((x : Int) - 1 = (j : Int) - 1) := by omega
    rw [decide_eq_false this, Bool.or_false]
  rw [pwA_t hu] at hmp
  refine rgS fun K hK => ?_
  simp (disch := omega) [hcut, hil]
  and_intros <;> try first | apply hK | omega | rfl | simp <;> omega
  refine awp_seq ?_
  refine awp_seqD (by kernel_rfl) (fun K hK => ?_)
  simp (disch := omega) [mcO, hmp, hn0]
  and_intros <;> try first | apply hK | (show chkD _ _ = true; kernel_rfl) | omega | rfl | simp <;> omega
  refine condT (by simp <;> omega) ?_
  refine awp_exit ?_
  show awp _ _ _ _
  refine rgL fun K hK => ?_
  simp (disch := omega)
  (repeat' first | apply hK | apply And.intro) <;> try first | omega | rfl | (simp <;> omega)
  refine ⟨i + 1, by omega, by omega, ?_⟩
  rw [hu3]
  refine wk_list [(0, some 0)] rfl ?_ ?_ ?_ ?_
  all_goals try simp [mcO, mcC_wk]
 have hu : u1 j = false := by simpa using hu
 rw [pwA_f hu] at hmp
 refine rgS fun K hK => ?_
 simp (disch := omega) [hcut, hil]
 and_intros <;> try first | apply hK | omega | rfl | simp <;> omega
 refine awp_seq ?_
 refine awp_seqD (by kernel_rfl) (fun K hK => ?_)
 simp (disch := omega) [mcO, hmp, hn0]
 and_intros <;> try first | apply hK | (show chkD _ _ = true; kernel_rfl) | omega | rfl | simp <;> omega
 refine condF (by simp <;> omega) ?_
 refine awp_skip ?_
 show awp _ _ _ _
 refine awp_weak (σ' := mkS [(0, .t 1 (rows tb)), (7, .ptr 0 0 13), (11, .ptr 1 0 2), (18, .t 0 (.sl 1 (ps.map pgT))), (19, .t 2 (.int .i64 ps.length)), (20, .t 2 (.int .i64 k)), (24, .t 0 (.sl 2 (pgC p))), (25, .t 2 (.int .i64 p.length)), (26, .t 2 (.int .i64 i))] [(0, mcO tb T n one u1), (1, .box 130 [.t 2 (.int .i64 3), .t 2 (.int .i64 ((j : Int) - 1))])] 2 72 [.any, .any, .any]) ?_ ?_
 ·refine wk_list [(0, some 0), (1, some 3000001)] rfl ?_ ?_ ?_ ?_
  all_goals try simp [mcO, mcC_wk]
 refine rgS fun K hK => ?_
 simp (disch := omega)
 and_intros <;> try first | apply hK | omega | rfl | simp <;> omega
 refine awp_seq ?_
 refine rgS fun K hK => ?_
 simp (disch := omega)
 and_intros <;> try first | apply hK | omega | rfl | simp <;> omega
 refine awp_block ?_
 refine awp_loop (fun x : Nat => mkS [(0, .t 1 (rows tb)), (7, .ptr 0 0 13), (11, .ptr 1 0 2), (12, .own 2 n), (18, .t 0 (.sl 1 (ps.map pgT))), (19, .t 2 (.int .i64 ps.length)), (20, .t 2 (.int .i64 k)), (24, .t 0 (.sl 2 (pgC p))), (25, .t 2 (.int .i64 p.length)), (26, .t 2 (.int .i64 i)), (48, .t 2 (.int .i64 n)), (49, .t 2 (.int .i64 x))] [(0, mcO tb T n one u1), (1, .box 130 [.t 2 (.int .i64 3), .t 2 (.int .i64 ((j : Int) - 1))]), (2, .row 3 1 2 (tab n fun y => .int .i64 (if y < x then ((powT T n y ((j : Int) - 1) : Nat) : Int) else 0)))] 3 72 [.any, .any, .any]) (fun x => x ≤ n) (fun x => n - x) ?_ ?_
 ·refine ⟨0, by omega, ?_⟩
  refine wk_list [(0, some 0), (1, some 1), (2, some 2000002)] rfl ?_ ?_ ?_ ?_
  all_goals try simp [mcO, mcC_wk, rep_tab, htl]
 intro x hx
 refine rgS fun K hK => ?_
 simp (disch := omega)
 and_intros <;> try first | apply hK | omega | rfl | simp <;> omega
 refine awp_seq ?_
 by_cases hxn : x < n
 ·have hpw := power_fn tb n T ht hA hn x hxn ((j : Int) - 1) (by omega) (by omega)
  refine condT (by simp [hxn] <;> omega) ?_
  refine awp_skip ?_
  show awp _ _ _ _
  refine awp_seq ?_
  refine awp_block ?_
  refine rgS fun K hK => ?_
  simp (disch := omega)
  and_intros <;> try first | apply hK | omega | rfl | simp <;> omega
  refine rgL fun K hK => ?_
  simp (disch := omega) [mcO]
  (repeat' apply And.intro)
  all_goals (try omega)
  refine callO (hpw) rfl rfl rfl rfl (by kernel_rfl) (by simp) ?_ ?_
  ·simp [mcO]
  simp (disch := omega) [mcO]
  and_intros <;> try first | apply hK | omega | rfl | simp <;> omega
  show awp _ _ _ _
  refine rgL fun K hK => ?_
  simp (disch := omega)
  (repeat' first | apply hK | apply And.intro) <;> try first | omega | rfl | (simp <;> omega)
  refine ⟨x + 1, by omega, by omega, ?_⟩
  refine wk_list [(0, some 0), (1, some 1), (2, some 2)] rfl ?_ ?_ ?_ ?_
  all_goals try simp [mcO, mcC_wk]
  rw [tab_set]
  refine tab_congr (fun y hy => ?_)
  by_cases e : y = x
  ·simp [e]
  ·rw [if_neg e]
   by_cases e2 : y < x
   ·rw [if_pos e2, if_pos (by omega)]
   ·rw [if_neg e2, if_neg (by omega)]
 ·obtain rfl : x = n := by omega
  have hrow : (tab x fun y => M.T.int .i64 (if y < x then ((powT T x y ((j : Int) - 1) : Nat) : Int) else 0)) = pwL T x j := by
   unfold pwL
   refine tab_congr (fun y hy => ?_)
   rw [if_pos hy]
  have hu4 : pwA T x ((p.take (i + 1)).foldl addU u0) j = .t 1 (.sl 1 (pwL T x j)) := pwA_t (by rw [hu2]; simp)
  have hu5 : ∀ y, y ≠ j → ((p.take (i + 1)).foldl addU u0) y = u1 y := fun y hy => by
   rw [hu2]
   have : ¬ ((y : Int) - 1 = (j : Int) - 1) := by omega
   simp only [decide_eq_false this, Bool.or_false]
  refine condF (by simp <;> omega) ?_
  refine awp_exit ?_
  show awp _ _ _ _
  rw [hrow]
  refine awp_RD (by kernel_rfl) (fun K hK => ?_)
  simp (disch := omega) [mcO]
  and_intros <;> try first | apply hK | (show chkD _ _ = true; kernel_rfl) | omega | rfl | simp <;> omega
  show awp _ _ _ _
  refine rgL fun K hK => ?_
  simp (disch := omega) [mcO]
  (repeat' first | apply hK | apply And.intro) <;> try first | omega | rfl | (simp <;> omega)
  refine ⟨i + 1, by omega, by omega, ?_⟩
  refine wk_list [(0, some 0)] rfl ?_ ?_ ?_ ?_
  all_goals try simp [mcO]
  refine mcC_set hj hu5 ?_
  rw [hu4]
  simp
end Go.Proofs.YtghnmmfkckneaaaGreat.M

namespace Go.Proofs.YtghnmmfkckneaaaGreat.M
open Go.RowKit
set_option linter.unusedVariables false
set_option maxRecDepth 100000
set_option maxHeartbeats 32000000
attribute [local simp] ints rows scal wr64 wr8
set_option linter.unusedSimpArgs false

def Exn (T : Nat → Nat → Nat) (n : Nat) (one : Int) (u : Nat → Bool) (vs : List Int) : List Nat → List (Int × Int) → Nat → Prop
 | st, [], r => st = [r]
 | st, (kd, m) :: p, r => st.length < 61 ∧ (
  (kd = 0 ∧ ∃ o : Nat, one = o ∧ o < n ∧ Exn T n one u vs (o :: st) p r) ∨
  (kd = 1 ∧ ∃ i a : Nat, m = i ∧ vs[i]? = some (a : Int) ∧ a < n ∧ Exn T n one u vs (a :: st) p r) ∨
  (kd = 2 ∧ ∃ x y st', st = y :: x :: st' ∧ x < n ∧ y < n ∧ Exn T n one u vs (T x y :: st') p r) ∨
  (kd = 3 ∧ ∃ x st' j, st = x :: st' ∧ x < n ∧ m = (j : Nat) - 1 ∧ j < 11 ∧ u j = true ∧ Exn T n one u vs (powT T n x m :: st') p r))
def stC (S : Nat → Int) : List AV := tab 61 fun i => .t 2 (.int .i64 (S i))
@[simp] theorem stC_len (S : Nat → Int) : (stC S).length = 61 := by simp [stC]
theorem stC_get (S : Nat → Int) {k : Nat} (h : k < 61) : (stC S)[k]? = some (.t 2 (.int .i64 (S k))) := by
 unfold stC
 rw [tab_get _ h]
def upS (S : Nat → Int) (k : Nat) (x : Int) : Nat → Int := fun i => if i = k then x else S i
theorem stC_set (S : Nat → Int) (k : Nat) (x : Int) : (stC S).set k (.t 2 (.int .i64 x)) = stC (upS S k x) := by
 unfold stC
 rw [tab_set]
 refine tab_congr (fun i hi => ?_)
 unfold upS
 by_cases h : i = k
 ·rw [if_pos h, if_pos h]
 ·rw [if_neg h, if_neg h]
theorem stC_wk {H : Nat → Option AObj} {m : Nat → Option Nat} {un : Nat → Prop} {nx : Nat} (S : Nat → Int) : wkPs H m un nx (stC S) (stC S) = True := by
 refine eq_true (wkPs_of rfl (fun i a b ha hb => ?_))
 rw [ha] at hb
 injection hb with hb
 subst hb
 have hl : i < 61 := by have := (List.getElem?_eq_some_iff.1 ha).1; simpa using this
 rw [stC_get S hl] at ha
 injection ha with ha
 subst ha
 exact ⟨rfl, Nat.le_refl _⟩
theorem stC_init : stC (fun _ => 0) = List.replicate 61 (.t 2 (.int .i64 0)) := rfl
def StkS (S : Nat → Int) : List Nat → Prop
 | [] => True
 | x :: st => S st.length = (x : Int) ∧ StkS S st
theorem StkS.up {S : Nat → Int} {k : Nat} {v : Int} : ∀ {st : List Nat}, StkS S st → st.length ≤ k → StkS (upS S k v) st
 | [], _, _ => trivial
 | x :: st, h, hk => by
  have hk : st.length + 1 ≤ k := hk
  refine ⟨?_, StkS.up h.2 (by omega)⟩
  unfold upS
  rw [if_neg (by omega)]
  exact h.1
theorem StkS.push {S : Nat → Int} {st : List Nat} (h : StkS S st) (x : Nat) : StkS (upS S st.length (x : Int)) (x :: st) := by
 refine ⟨?_, h.up (Nat.le_refl _)⟩
 unfold upS
 rw [if_pos rfl]
theorem pwL_at {T : Nat → Nat → Nat} {n j x : Nat} (h : x < n) : (pwL T n j)[x]? = some (.int .i64 (powT T n x ((j : Int) - 1) : Nat)) := by
 unfold pwL
 rw [tab_get _ h]
theorem ints_at {vs : List Int} {i : Nat} {a : Int} (h : vs[i]? = some a) : (vs.map (M.T.int .i64))[i]? = some (.int .i64 a) := by
 rw [List.getElem?_map, h]
 rfl
theorem run_fn (tb : List (List Int)) (n : Nat) (T : Nat → Nat → Nat) (ht : TbL tb n T) (hA : Assoc n T) (hn : n ≤ 1000) (one : Int) (u : Nat → Bool) (vs : List Int) (p : List (Int × Int)) (hpl : p.length ≤ 100000) (r : Nat) (hp : Exn T n one u vs [] p r) :
  FnS Tryz.prog 53 [.ptr 0 0 13, .t 0 (pgT p), .t 0 (ints vs)] [mcO tb T n one u] (.t 2 (.int .i64 (r : Nat))) [mcO tb T n one u] := by
 refine fn_intro Tryz.func53 rfl (by simp [Tryz.f53]) ?_
 rw [show Tryz.f53.ntmps = 84 from rfl, show Tryz.f53.results = #[.tmp 6] from rfl]
 refine rgS fun K hK => ?_
 simp (disch := omega)
 and_intros <;> try first | apply hK | omega | rfl | simp <;> omega
 refine rgS fun K hK => ?_
 simp (disch := omega) [mcO]
 and_intros <;> try first | apply hK | omega | rfl | simp <;> omega
 refine rgS fun K hK => ?_
 simp (disch := omega) [mcO]
 and_intros <;> try first | apply hK | omega | rfl | simp <;> omega
 refine awp_seq ?_
 refine rgS fun K hK => ?_
 simp (disch := omega) [mcO, pgT]
 and_intros <;> try first | apply hK | omega | rfl | simp <;> omega
 refine awp_block ?_
 refine awp_loop (fun y : Nat × List Nat × (Nat → Int) => mkS [(0, .ptr 0 0 13), (2, .t 0 (ints vs)), (7, .ptr 1 0 61), (8, .t 2 (.int .i64 (y.2.1.length : Nat))), (11, .t 0 (pgT p)), (12, .t 2 (.int .i64 p.length)), (13, .t 2 (.int .i64 y.1))] [(0, mcO tb T n one u), (1, .box 136 (stC y.2.2))] 2 84 [.ptr 0 0 13, .any, .any]) (fun y => y.1 ≤ p.length ∧ Exn T n one u vs y.2.1 (p.drop y.1) r ∧ StkS y.2.2 y.2.1) (fun y => p.length - y.1) ?_ ?_
 ·refine ⟨(0, [], fun _ => 0), ⟨by simp, hp, trivial⟩, ?_⟩
  refine wk_list [(0, some 0), (1, some 1000001)] rfl ?_ ?_ ?_ ?_
  all_goals try simp [mcO, mcC_wk, pgT, stC_init, List.replicate]
 rintro ⟨k, st, S⟩ ⟨hk, hex, hS⟩
 simp only at hk hex hS
 refine rgS fun K hK => ?_
 simp (disch := omega) [pgT]
 and_intros <;> try first | apply hK | omega | rfl | simp <;> omega
 refine awp_seq ?_
 by_cases hkl : k < p.length
 case neg =>
  obtain rfl : k = p.length := by omega
  rw [List.drop_length] at hex
  obtain rfl : st = [r] := hex
  have hS0 : S 0 = (r : Int) := hS.1
  have hget := stC_get S (k := 0) (by omega)
  rw [hS0] at hget
  refine condF (by simp <;> omega) ?_
  refine awp_exit ?_
  show awp _ _ _ _
  refine rgS fun K hK => ?_
  simp (disch := omega) [hget]
  and_intros <;> try first | apply hK | omega | rfl | simp <;> omega
  refine awp_ret ?_
  refine ⟨⟨.inr rfl, _, [(0, some 0)], (by first | rfl | (simp [mcO, mcC_wk]; rfl)), ?_, ?_, ?_, ?_⟩, ?_⟩
  all_goals try simp [mcO, mcC_wk]
 have hcut := pgC_cut p k hkl
 rw [List.drop_eq_getElem_cons hkl] at hex
 generalize p[k] = s at hex hcut
 obtain ⟨kd, m⟩ := s
 simp only at hcut
 obtain ⟨hsl, hex⟩ := hex
 refine condT (by simp [hkl] <;> omega) ?_
 refine awp_skip ?_
 show awp _ _ _ _
 refine awp_seq ?_
 refine awp_block ?_
 refine rgS fun K hK => ?_
 simp (disch := omega) [hcut, hkl, pgT]
 and_intros <;> try first | apply hK | omega | rfl | simp <;> omega
 refine rgS fun K hK => ?_
 simp (disch := omega)
 and_intros <;> try first | apply hK | omega | rfl | simp <;> omega
 refine awp_block ?_
 refine rgS fun K hK => ?_
 simp (disch := omega)
 (repeat' first | apply hK | apply And.intro) <;> try first | omega | rfl | (simp <;> omega)
 rcases hex with ⟨rfl, o, rfl, ho, hex⟩ | ⟨rfl, i, a, rfl, hv, han, hex⟩ | ⟨rfl, x, y, st', rfl, hx, hy, hex⟩ | ⟨rfl, x, st', j, rfl, hx, rfl, hj, hu, hex⟩
 ·refine condT (by simp <;> omega) ?_
  refine rgS fun K hK => ?_
  simp (disch := omega) [mcO, stC_set]
  and_intros <;> try first | apply hK | omega | rfl | simp <;> omega
  refine rgL fun K hK => ?_
  simp (disch := omega)
  and_intros <;> try first | apply hK | omega | rfl | simp <;> omega
  show awp _ _ _ _
  refine rgL fun K hK => ?_
  simp (disch := omega)
  (repeat' first | apply hK | apply And.intro) <;> try first | omega | rfl | (simp <;> omega)
  refine ⟨(k + 1, o :: st, upS S st.length o), ⟨by simp only; omega, hex, hS.push o⟩, by simp only; omega, ?_⟩
  refine wk_list [(0, some 0), (1, some 1)] rfl ?_ ?_ ?_ ?_
  all_goals try simp [mcO, mcC_wk, pgT, stC_wk, stC_set]
 ·have hva := ints_at hv
  have hil := (List.getElem?_eq_some_iff.1 hv).1
  have hvg : vs[i] = (a : Int) := (List.getElem?_eq_some_iff.1 hv).2
  refine condF (by simp <;> omega) ?_
  refine rgS fun K hK => ?_
  simp (disch := omega)
  and_intros <;> try first | apply hK | omega | rfl | simp <;> omega
  refine condT (by simp <;> omega) ?_
  refine rgS fun K hK => ?_
  simp (disch := omega) [stC_set, hva, hvg]
  and_intros <;> try first | apply hK | omega | rfl | simp <;> omega
  refine rgL fun K hK => ?_
  simp (disch := omega)
  and_intros <;> try first | apply hK | omega | rfl | simp <;> omega
  show awp _ _ _ _
  refine rgL fun K hK => ?_
  simp (disch := omega)
  (repeat' first | apply hK | apply And.intro) <;> try first | omega | rfl | (simp <;> omega)
  refine ⟨(k + 1, a :: st, upS S st.length a), ⟨by simp only; omega, hex, hS.push a⟩, by simp only; omega, ?_⟩
  refine wk_list [(0, some 0), (1, some 1)] rfl ?_ ?_ ?_ ?_
  all_goals try simp [mcO, mcC_wk, pgT, stC_wk, stC_set]
 ·obtain ⟨hSy, hSx, hS'⟩ := hS
  obtain ⟨L, hL⟩ : ∃ L, L = st'.length := ⟨_, rfl⟩
  simp only [List.length_cons, ← hL] at hSy hSx hsl ⊢
  obtain ⟨g1, g2, g3⟩ := ht.get hx hy
  have q1 := stC_get S (k := L) (by omega)
  have q2 := stC_get S (k := L + 1) (by omega)
  rw [hSx] at q1
  rw [hSy] at q2
  refine condF (by simp <;> omega) ?_
  refine rgS fun K hK => ?_
  simp (disch := omega)
  and_intros <;> try first | apply hK | omega | rfl | simp <;> omega
  refine condF (by simp <;> omega) ?_
  refine rgS fun K hK => ?_
  simp (disch := omega)
  and_intros <;> try first | apply hK | omega | rfl | simp <;> omega
  refine condT (by simp <;> omega) ?_
  refine rgS fun K hK => ?_
  simp (disch := omega)
  and_intros <;> try first | apply hK | omega | rfl | simp <;> omega
  refine awp_RD (by kernel_rfl) (fun K hK => ?_)
  simp (disch := omega) [mcO, q1, q2, g1, g2, g3, stC_set]
  and_intros <;> try first | apply hK | (show chkD _ _ = true; kernel_rfl) | omega | rfl | simp <;> omega
  show awp _ _ _ _
  refine rgL fun K hK => ?_
  simp (disch := omega)
  (repeat' first | apply hK | apply And.intro) <;> try first | omega | rfl | (simp <;> omega)
  refine ⟨(k + 1, T x y :: st', upS S L (T x y : Nat)), ⟨by simp only; omega, hex, by rw [hL]; exact StkS.push hS' _⟩, by simp only; omega, ?_⟩
  refine wk_list [(0, some 0), (1, some 1)] rfl ?_ ?_ ?_ ?_
  all_goals try simp [mcO, mcC_wk, pgT, stC_wk, stC_set, ← hL]
 ·obtain ⟨hSx, hS'⟩ := hS
  obtain ⟨L, hL⟩ : ∃ L, L = st'.length := ⟨_, rfl⟩
  simp only [List.length_cons, ← hL] at hSx hsl ⊢
  have q1 := stC_get S (k := L) (by omega)
  rw [hSx] at q1
  have hmp := mcC_p (tb := tb) (T := T) (n := n) (one := one) (u := u) hj
  rw [pwA_t hu] at hmp
  have hpa := pwL_at (T := T) (j := j) hx
  refine condF (by simp <;> omega) ?_
  refine rgS fun K hK => ?_
  simp (disch := omega)
  and_intros <;> try first | apply hK | omega | rfl | simp <;> omega
  refine condF (by simp <;> omega) ?_
  refine rgS fun K hK => ?_
  simp (disch := omega)
  and_intros <;> try first | apply hK | omega | rfl | simp <;> omega
  refine condF (by simp <;> omega) ?_
  refine rgS fun K hK => ?_
  simp (disch := omega)
  and_intros <;> try first | apply hK | omega | rfl | simp <;> omega
  refine condT (by simp <;> omega) ?_
  refine awp_RD (by kernel_rfl) (fun K hK => ?_)
  simp (disch := omega) [mcO, q1, hmp, hpa, hx, stC_set]
  and_intros <;> try first | apply hK | (show chkD _ _ = true; kernel_rfl) | omega | rfl | simp <;> omega
  show awp _ _ _ _
  refine rgL fun K hK => ?_
  simp (disch := omega)
  (repeat' first | apply hK | apply And.intro) <;> try first | omega | rfl | (simp <;> omega)
  refine ⟨(k + 1, powT T n x ((j : Int) - 1) :: st', upS S L (powT T n x ((j : Int) - 1) : Nat)), ⟨by simp only; omega, hex, by rw [hL]; exact StkS.push hS' _⟩, by simp only; omega, ?_⟩
  refine wk_list [(0, some 0), (1, some 1)] rfl ?_ ?_ ?_ ?_
  all_goals try simp [mcO, mcC_wk, pgT, stC_wk, stC_set, ← hL]

mutual
def Tm.gr : Tm → Nat
 | .mk o n l => max (if o = 2 then n.toNat + 1 else 0) (grL l)
def grL : List Tm → Nat
 | [] => 0
 | a :: r => max a.gr (grL r)
end
mutual
def Tm.has1 : Tm → Bool
 | .mk o n l => decide (o = 1) || has1L l
def has1L : List Tm → Bool
 | [] => false
 | a :: r => a.has1 || has1L r
end
theorem gr_eq (t : Tm) : t.gr = max (if t.op = 2 then t.n.toNat + 1 else 0) (grL t.args) := by
 obtain ⟨o, n, l⟩ := t
 rw [Tm.gr]
 rfl
theorem has1_eq (t : Tm) : t.has1 = (decide (t.op = 1) || has1L t.args) := by
 obtain ⟨o, n, l⟩ := t
 rw [Tm.has1]
 rfl
structure VIn (n : Nat) (vs : List Int) (v : Nat → Nat) : Prop where
 get : ∀ i, i < vs.length → vs[i]? = some (v i : Int) ∧ v i < n
section
variable {T : Nat → Nat → Nat} {n : Nat} {one : Int} {u : Nat → Bool} {vs : List Int} {v : Nat → Nat} {o1 : Nat}
theorem ok_wf {o n : Int} {l : List Tm} (h : (Tm.mk o n l).ok = true) : ((o = 1 ∧ n = 0 ∧ l.length = 0) ∨ (o = 2 ∧ 0 ≤ n ∧ n < 6 ∧ l.length = 0) ∨ (o = 3 ∧ n = 0 ∧ 2 ≤ l.length) ∨ (o = 4 ∧ -1 ≤ n ∧ n ≤ 9 ∧ l.length = 1)) ∧ okL' l = true := by
 rw [ok_eq, Bool.and_eq_true] at h
 refine ⟨?_, h.2⟩
 have := h.1
 unfold Tm.wf at this
 exact of_decide_eq_true this
theorem exn_var {st : List Nat} {p : List (Int × Int)} {r : Nat} (hV : VIn n vs v) {m : Int} (h0 : 0 ≤ m) (hl : m.toNat < vs.length) (hs : st.length < 61) (h : Exn T n one u vs (v m.toNat :: st) p r) : Exn T n one u vs st ((1, m) :: p) r := by
 obtain ⟨h1, h2⟩ := hV.get _ hl
 rw [Exn]
 exact ⟨hs, .inr (.inl ⟨rfl, m.toNat, v m.toNat, by omega, h1, h2, h⟩)⟩
theorem exn_one {st : List Nat} {p : List (Int × Int)} {r : Nat} (h1 : one = (o1 : Int)) (h2 : o1 < n) (hs : st.length < 61) (h : Exn T n one u vs (o1 :: st) p r) : Exn T n one u vs st ((0, 0) :: p) r := by
 rw [Exn]
 exact ⟨hs, .inl ⟨rfl, o1, h1, h2, h⟩⟩
theorem exn_mul {st : List Nat} {x y : Nat} {p : List (Int × Int)} {r : Nat} (hx : x < n) (hy : y < n) (hs : st.length + 2 < 61) (h : Exn T n one u vs (T x y :: st) p r) : Exn T n one u vs (y :: x :: st) ((2, 0) :: p) r := by
 rw [Exn]
 exact ⟨hs, .inr (.inr (.inl ⟨rfl, x, y, st, rfl, hx, hy, h⟩))⟩
theorem exn_pow {st : List Nat} {x : Nat} {m : Int} {p : List (Int × Int)} {r : Nat} (hx : x < n) (hm : -1 ≤ m) (hm9 : m ≤ 9) (hu : u (m + 1).toNat = true) (hs : st.length + 1 < 61) (h : Exn T n one u vs (powT T n x m :: st) p r) : Exn T n one u vs (x :: st) ((3, m) :: p) r := by
 rw [Exn]
 exact ⟨hs, .inr (.inr (.inr ⟨rfl, x, st, (m + 1).toNat, rfl, hx, by omega, by omega, hu, h⟩))⟩
mutual
theorem exn_cmp (hT : ∀ r c, r < n → c < n → T r c < n) (hA : Assoc n T) (hV : VIn n vs v) : ∀ (t : Tm), t.ok = true → t.gr ≤ vs.length → (t.has1 = true → one = (o1 : Int) ∧ o1 < n) → (∀ s ∈ t.cmp, s.1 = 3 → u (s.2 + 1).toNat = true) →
  t.ev T n o1 v < n ∧ ∀ (st : List Nat) (p : List (Int × Int)) (r : Nat), st.length + t.sz ≤ 60 → Exn T n one u vs (t.ev T n o1 v :: st) p r → Exn T n one u vs st (t.cmp ++ p) r
 | .mk o m l, hok, hg, h1, hu => by
  obtain ⟨hwf, hl⟩ := ok_wf hok
  rw [Tm.gr] at hg
  rw [Tm.has1] at h1
  rw [Tm.cmp] at hu ⊢
  rw [Tm.ev, Tm.sz]
  by_cases e1 : o = 1
  ·rw [if_pos e1, if_pos e1]
   obtain ⟨a1, a2⟩ := h1 (by simp [e1])
   exact ⟨a2, fun st p r hs h => exn_one a1 a2 (by omega) h⟩
  rw [if_neg e1, if_neg e1]
  rw [if_neg e1] at hu
  by_cases e2 : o = 2
  ·rw [if_pos e2, if_pos e2]
   rw [if_pos e2] at hg
   have h0 : 0 ≤ m := by omega
   have hlt : m.toNat < vs.length := by omega
   exact ⟨(hV.get _ hlt).2, fun st p r hs h => exn_var hV h0 hlt (by omega) h⟩
  rw [if_neg e2, if_neg e2]
  rw [if_neg e2] at hu hg
  have hne : l ≠ [] := fun e => by subst e; simp at hwf; omega
  obtain ⟨b1, b2⟩ := exn_cmpN hT hA hV l hne hl (by omega) (fun h => h1 (by simp [h])) (fun s hs => hu s (by simp [hs]))
  by_cases e4 : o = 4
  ·rw [if_pos e4, if_pos e4]
   rw [if_pos e4] at hu
   have hm : -1 ≤ m ∧ m ≤ 9 := by omega
   refine ⟨powT_lt hT hA b1 m, fun st p r hs h => ?_⟩
   rw [List.append_assoc]
   refine b2 st _ r (by omega) ?_
   exact exn_pow b1 hm.1 hm.2 (hu (3, m) (by simp) rfl) (by omega) h
  ·rw [if_neg e4, if_neg e4, List.append_nil]
   exact ⟨b1, fun st p r hs h => b2 st p r (by omega) h⟩
theorem exn_cmpN (hT : ∀ r c, r < n → c < n → T r c < n) (hA : Assoc n T) (hV : VIn n vs v) : ∀ (l : List Tm), l ≠ [] → okL' l = true → grL l ≤ vs.length → (has1L l = true → one = (o1 : Int) ∧ o1 < n) → (∀ s ∈ cmpL true l, s.1 = 3 → u (s.2 + 1).toNat = true) →
  evL T n o1 v none l < n ∧ ∀ (st : List Nat) (p : List (Int × Int)) (r : Nat), st.length + 1 + szL l ≤ 60 → Exn T n one u vs (evL T n o1 v none l :: st) p r → Exn T n one u vs st (cmpL true l ++ p) r
 | [], hne, _, _, _, _ => absurd rfl hne
 | a :: l, _, hok, hg, h1, hu => by
  have hok2 : a.ok = true ∧ okL' l = true := by simpa [okL'] using hok
  rw [grL] at hg
  rw [has1L] at h1
  rw [cmpL] at hu ⊢
  rw [evL, szL]
  obtain ⟨a1, a2⟩ := exn_cmp hT hA hV a hok2.1 (by omega) (fun h => h1 (by simp [h])) (fun s hs => hu s (by simp [hs]))
  obtain ⟨b1, b2⟩ := exn_cmpS hT hA hV l (a.ev T n o1 v) a1 hok2.2 (by omega) (fun h => h1 (by simp [h])) (fun s hs => hu s (by simp [hs]))
  refine ⟨b1, fun st p r hs h => ?_⟩
  rw [show a.cmp ++ (if true = true then [] else [(2, 0)]) ++ cmpL false l ++ p = a.cmp ++ (cmpL false l ++ p) by simp]
  exact a2 st _ r (by omega) (b2 st p r (by omega) h)
theorem exn_cmpS (hT : ∀ r c, r < n → c < n → T r c < n) (hA : Assoc n T) (hV : VIn n vs v) : ∀ (l : List Tm) (y : Nat), y < n → okL' l = true → grL l ≤ vs.length → (has1L l = true → one = (o1 : Int) ∧ o1 < n) → (∀ s ∈ cmpL false l, s.1 = 3 → u (s.2 + 1).toNat = true) →
  evL T n o1 v (some y) l < n ∧ ∀ (st : List Nat) (p : List (Int × Int)) (r : Nat), st.length + 1 + szL l ≤ 60 → Exn T n one u vs (evL T n o1 v (some y) l :: st) p r → Exn T n one u vs (y :: st) (cmpL false l ++ p) r
 | [], y, hy, _, _, _, _ => by
  rw [evL, cmpL]
  exact ⟨hy, fun st p r _ h => h⟩
 | a :: l, y, hy, hok, hg, h1, hu => by
  have hok2 : a.ok = true ∧ okL' l = true := by simpa [okL'] using hok
  rw [grL] at hg
  rw [has1L] at h1
  rw [cmpL] at hu ⊢
  rw [evL, szL]
  have hap := sz_pos a
  obtain ⟨a1, a2⟩ := exn_cmp hT hA hV a hok2.1 (by omega) (fun h => h1 (by simp [h])) (fun s hs => hu s (by simp [hs]))
  obtain ⟨b1, b2⟩ := exn_cmpS hT hA hV l (T y (a.ev T n o1 v)) (hT _ _ hy a1) hok2.2 (by omega) (fun h => h1 (by simp [h])) (fun s hs => hu s (by simp [hs]))
  refine ⟨b1, fun st p r hs h => ?_⟩
  rw [show a.cmp ++ (if false = true then [] else [(2, 0)]) ++ cmpL false l ++ p = a.cmp ++ ((2, 0) :: (cmpL false l ++ p)) by simp]
  refine a2 (y :: st) _ r (by simp; omega) ?_
  exact exn_mul hy a1 (by omega) (b2 st p r (by omega) h)
end
theorem foldU_mono : ∀ (p : List (Int × Int)) (u : Nat → Bool) (j : Nat), u j = true → p.foldl addU u j = true
 | [], u, j, h => h
 | s :: p, u, j, h => by
  rw [List.foldl_cons]
  refine foldU_mono p _ j ?_
  unfold addU
  split
  ·simp [h]
  ·exact h
theorem foldU_mem : ∀ (p : List (Int × Int)) (u : Nat → Bool) (s : Int × Int) (j : Nat), s ∈ p → s.1 = 3 → s.2 = (j : Int) - 1 → p.foldl addU u j = true
 | s0 :: p, u, s, j, hm, h3, hj => by
  rw [List.foldl_cons]
  rcases List.mem_cons.1 hm with rfl | hm
  ·refine foldU_mono p _ j ?_
   unfold addU
   rw [if_pos h3]
   simp [hj]
  ·exact foldU_mem p _ s j hm h3 hj
theorem useP_mono : ∀ (ps : List (List (Int × Int))) (u : Nat → Bool) (j : Nat), u j = true → useP ps u j = true
 | [], u, j, h => h
 | p :: ps, u, j, h => useP_mono ps _ j (foldU_mono p u j h)
theorem useP_mem : ∀ (ps : List (List (Int × Int))) (u : Nat → Bool) (p : List (Int × Int)) (s : Int × Int) (j : Nat), p ∈ ps → s ∈ p → s.1 = 3 → s.2 = (j : Int) - 1 → useP ps u j = true
 | q :: ps, u, p, s, j, hp, hs, h3, hj => by
  rcases List.mem_cons.1 hp with rfl | hp
  ·exact useP_mono ps _ j (foldU_mem p u s j hs h3 hj)
  ·exact useP_mem ps _ p s j hp hs h3 hj
mutual
theorem cmp_rng : ∀ (t : Tm), t.ok = true → ∀ s ∈ t.cmp, s.1 = 3 → -1 ≤ s.2 ∧ s.2 ≤ 9
 | .mk o m l, hok, s, hs, h3 => by
  obtain ⟨hwf, hl⟩ := ok_wf hok
  rw [Tm.cmp] at hs
  split at hs
  ·simp at hs; rw [hs] at h3; cases h3
  ·split at hs
   ·simp at hs; rw [hs] at h3; cases h3
   ·rcases List.mem_append.1 hs with hs | hs
    ·exact cmpL_rng true l hl s hs h3
    ·split at hs
     ·simp at hs; rw [hs]; exact ⟨by simp only; omega, by simp only; omega⟩
     ·cases hs
theorem cmpL_rng : ∀ (b : Bool) (l : List Tm), okL' l = true → ∀ s ∈ cmpL b l, s.1 = 3 → -1 ≤ s.2 ∧ s.2 ≤ 9
 | b, [], _, s, hs, _ => by rw [cmpL] at hs; cases hs
 | b, a :: l, hok, s, hs, h3 => by
  have hok2 : a.ok = true ∧ okL' l = true := by simpa [okL'] using hok
  rw [cmpL] at hs
  rcases List.mem_append.1 hs with hs | hs
  ·rcases List.mem_append.1 hs with hs | hs
   ·exact cmp_rng a hok2.1 s hs h3
   ·cases b
    ·simp at hs; rw [hs] at h3; cases h3
    ·cases hs
  ·exact cmpL_rng false l hok2.2 s hs h3
end
theorem exn_top (hT : ∀ r c, r < n → c < n → T r c < n) (hA : Assoc n T) (hV : VIn n vs v) (t : Tm) (hval : t.val = true) (hg : t.gr ≤ vs.length) (h1 : t.has1 = true → one = (o1 : Int) ∧ o1 < n) (ps : List (List (Int × Int))) (hps : t.cmp ∈ ps) :
  t.ev T n o1 v < n ∧ Exn T n one (useP ps zU) vs [] t.cmp (t.ev T n o1 v) := by
 obtain ⟨hok, hsz⟩ := val_ok hval
 obtain ⟨a1, a2⟩ := exn_cmp (u := useP ps zU) hT hA hV t hok hg h1 (fun s hs h3 => by
  obtain ⟨g1, g2⟩ := cmp_rng t hok s hs h3
  exact useP_mem ps zU t.cmp s (s.2 + 1).toNat hps hs h3 (by omega))
 refine ⟨a1, ?_⟩
 have := a2 [] [] (t.ev T n o1 v) (by simpa using hsz) rfl
 rwa [List.append_nil] at this
end
end Go.Proofs.YtghnmmfkckneaaaGreat.M
