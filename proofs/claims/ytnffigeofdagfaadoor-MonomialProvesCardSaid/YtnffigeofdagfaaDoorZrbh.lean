/-
  Walks in my logic: Reverse (slices) of an own row of ints, which keeps it; Clone, which gives an own row.
-/
import Derived.Test.YtnffigeofdagfaaDoorZrbg
import Derived.Test.YtnffigeofdagfaaDoorZrah
namespace Go.Proofs.YtnffigeofdagfaaDoor.M
open Go.RowKit Go.Shelf
set_option linter.unusedVariables false
attribute [local simp] KL_ap KD_ap awpL_nil awpL_cons awpD_nil awpD_cons awpOp awpOpD wrE gd aop aBuiltin aNil aMin ASt.eval AV.ofV dstOk ASt.app Eff.heap dels upd_b aLoad aStore aField aFieldV aIndexAddr aIndex aSlice aSliceO aLen aBin iB sB aUn aConv aAlloc aBox aBuild afill avCells AV.leaf setR aBuildSlice frz frzL isOwn vecOf tsOf aMake srcOf aAppend aMkMap aMapUpd aLookup oint cut putL AObj.cnt mkS envOf_nil envOf_cons heapOf_nil heapOf_cons argS Nat.blt_eq callS outV outVs outO heap2 addL delL List.getElem?_cons_zero wkE wkP wkPs wkH wkO keysNd unm mpOf_nil mpOf_cons ghA ghA1 idxF resV
set_option linter.unusedSimpArgs false

def jR (n i : Nat) : Int := (n : Int) - 1 - i
def xchg (n : Nat) (X : Nat → Int) (i k : Nat) : Int := if k < i ∨ n - 1 - k < i then X (n - 1 - k) else X k
def rowX (n : Nat) (X : Nat → Int) : List T := tab n fun k => .int .i64 (X k)
@[simp] theorem rowX_len (n : Nat) (X : Nat → Int) : (rowX n X).length = n := by simp [rowX]
theorem rowX_at {n k : Nat} (X : Nat → Int) (h : k < n) : (rowX n X)[k]? = some (.int .i64 (X k)) := tab_get _ h
theorem rowX_two {n i j : Nat} {X : Nat → Int} (hi : i < j) (hj : j + i + 1 = n) : ((rowX n (xchg n X i)).set i (.int .i64 (xchg n X i j))).set j (.int .i64 (xchg n X i i)) = rowX n (xchg n X (i + 1)) := by
 unfold rowX
 rw [tab_set, tab_set]
 refine tab_congr (fun k hk => ?_)
 by_cases h1 : k = j
 ·subst h1
  rw [if_pos rfl]
  congr 1
  unfold xchg
  rw [if_neg (by omega), if_pos (by omega)]
  congr 1
  omega
 ·rw [if_neg h1]
  by_cases h2 : k = i
  ·subst h2
   rw [if_pos rfl]
   congr 1
   unfold xchg
   rw [if_neg (by omega), if_pos (by omega)]
   congr 1
   omega
  ·rw [if_neg h2]
   congr 1
   unfold xchg
   by_cases h3 : k < i ∨ n - 1 - k < i
   ·rw [if_pos h3, if_pos (by omega)]
   ·rw [if_neg h3, if_neg (by omega)]
set_option maxRecDepth 100000 in
set_option maxHeartbeats 4000000 in
theorem sreverse_fn (n : Nat) (X : Nat → Int) (hn : n ≤ 100000) : FnK Tryd.prog 52 [.own 0 n] [.row 3 1 1 (rowX n X)] (.tup []) [.row 3 1 1 (rowX n fun k => X (n - 1 - k))] [0] := by
 refine fn_introK 0 n rfl rfl (by simp) (by simp) Tryd.func52 rfl (by simp [Tryd.f52]) ?_
 rw [show Tryd.f52.ntmps = 28 from rfl, show Tryd.f52.results = #[] from rfl]
 refine awp_seqR fun K hK => ?_
 simp (disch := omega) [ints, rows, scal, wr64, wr8]
 (repeat' first | apply hK | apply And.intro) <;> try first | (show okH _ _ _ = true; kernel_rfl) | omega | rfl | (simp <;> omega)
 refine awp_block ?_
 refine awp_loop (fun i : Nat => mkS [(0, .own 0 n), (2, .t 2 (.int .i64 i)), (3, .t 2 (.int .i64 (jR n i)))] [(0, .row 3 1 1 (rowX n (xchg n X i)))] 1 28 [.any, .own 0 n]) (fun i => 2 * i ≤ n) (fun i => n - i) ?_ ?_
 ·refine ⟨0, by omega, ?_⟩
  have h0 : rowX n (xchg n X 0) = rowX n X := by
   unfold rowX
   refine tab_congr (fun k hk => ?_)
   simp [xchg]
  have h1 : jR n 0 = (n : Int) - 1 := by simp [jR]
  refine wk_list [(0, some 0)] rfl ?_ ?_ ?_ ?_
  all_goals try simp [ints, h0, h1]
 intro i hi
 refine awp_seq ?_
 by_cases hlt : (i : Int) < jR n i
 ·obtain ⟨j, hj⟩ : ∃ j : Nat, jR n i = (j : Int) := ⟨(jR n i).toNat, by omega⟩
  have hjn : j + i + 1 = n := by unfold jR at hj; omega
  have hij : i < j := by omega
  have hj1 : jR n (i + 1) = (j : Int) - 1 := by unfold jR at *; omega
  have hin : i < n := by omega
  have hjl : j < n := by omega
  have g1 := rowX_at (xchg n X i) hin
  have g2 := rowX_at (xchg n X i) hjl
  have htwo := rowX_two (X := X) hij hjn
  rw [hj] at hlt ⊢
  refine awp_seqR fun K hK => ?_
  simp (disch := omega) [ints, rows, scal, wr64, wr8, hij]
  (repeat' first | apply hK | apply And.intro) <;> try first | (show okH _ _ _ = true; kernel_rfl) | omega | rfl | (simp <;> omega)
  refine awp_cond (b := true) (p := 2) (by simp [scal, hij] <;> omega) ?_
  refine awp_skip ?_
  show awp _ _ _ _
  refine awp_seq ?_
  refine awp_block ?_
  refine awp_RD (by kernel_rfl) (fun K hK => ?_)
  simp (disch := omega) [ints, rows, scal, wr64, wr8, hin, hjl, g1, g2, htwo]
  (repeat' first | apply hK | apply And.intro) <;> try first | (show chkD _ _ = true; kernel_rfl) | (show okH _ _ _ = true; kernel_rfl) | omega | rfl | (simp <;> omega)
  show awp _ _ _ _
  refine awp_R fun K hK => ?_
  simp (disch := omega) [ints, rows, scal, wr64, wr8]
  (repeat' first | apply hK | apply And.intro) <;> try first | (show okH _ _ _ = true; kernel_rfl) | omega | rfl | (simp <;> omega)
  refine ⟨i + 1, by omega, by omega, ?_⟩
  refine wk_list [(0, some 0)] rfl ?_ ?_ ?_ ?_
  all_goals try simp [ints, hj1]
 ·have hfin : rowX n (xchg n X i) = rowX n fun k => X (n - 1 - k) := by
   unfold rowX
   refine tab_congr (fun k hk => ?_)
   congr 1
   unfold xchg
   unfold jR at hlt
   by_cases h3 : k < i ∨ n - 1 - k < i
   ·rw [if_pos h3]
   ·rw [if_neg h3]
    congr 1
    omega
  refine awp_seqR fun K hK => ?_
  simp (disch := omega) [ints, rows, scal, wr64, wr8, hlt]
  (repeat' first | apply hK | apply And.intro) <;> try first | (show okH _ _ _ = true; kernel_rfl) | omega | rfl | (simp <;> omega)
  refine awp_cond (b := false) (p := 2) (by simp [scal, hlt] <;> omega) ?_
  refine awp_exit ?_
  refine ⟨⟨.inl rfl, _, [(0, some 0)], (by first | rfl | (simp [ints, rows, scal, tpO, hfin]; rfl)), ?_, ?_, ?_, ?_⟩, ?_⟩
  all_goals try simp [ints, rows, scal, tpO, hfin]
set_option maxRecDepth 100000 in
set_option maxHeartbeats 4000000 in
theorem cloneP_fn (xs : List Int) (hx : 0 < xs.length) (hl : xs.length ≤ 100000) : FnS Tryd.prog 70 [.t 0 (ints xs)] [] (.own 0 xs.length) [.row 3 1 2 (xs.map (.int .i64))] := by
 have hne : ¬ xs = [] := fun e => by rw [e] at hx; simp at hx
 refine fn_intro Tryd.func70 rfl (by simp [Tryd.f70]) ?_
 rw [show Tryd.f70.ntmps = 8 from rfl, show Tryd.f70.results = #[.tmp 2] from rfl]
 refine awp_seqR fun K hK => ?_
 simp (disch := omega) [ints, rows, scal, wr64, wr8]
 (repeat' first | apply hK | apply And.intro) <;> try first | (show okH _ _ _ = true; kernel_rfl) | omega | rfl | (simp <;> omega)
 refine awp_seq ?_
 refine awp_seqR fun K hK => ?_
 simp (disch := omega) [ints, rows, scal, wr64, wr8, slB_ii, hx]
 (repeat' first | apply hK | apply And.intro) <;> try first | (show okH _ _ _ = true; kernel_rfl) | omega | rfl | (simp <;> omega)
 refine awp_cond (b := false) (p := 2) (by simp [scal, hne] <;> omega) ?_
 refine awp_skip ?_
 show awp _ _ _ _
 refine awp_seqR fun K hK => ?_
 simp (disch := omega) [ints, rows, scal, wr64, wr8]
 (repeat' first | apply hK | apply And.intro) <;> try first | (show okH _ _ _ = true; kernel_rfl) | omega | rfl | (simp <;> omega)
 refine awp_ret ?_
 refine ⟨⟨.inr rfl, _, [(0, some 3000000)], (by first | rfl | (simp [ints, rows, scal, tpO]; rfl)), ?_, ?_, ?_, ?_⟩, ?_⟩
 all_goals try simp [ints, rows, scal, tpO]
theorem own_base {w : World} {base e z n : Nat} {v : Value} {xs : List Value} (h : w.ownsRow base e z v n xs) : w.ownsRow 0 e z v n xs := ⟨h.1, by
 rcases h.2 with h | ⟨g, cap, cur, h1, -, h3⟩
 ·exact .inl h
 ·exact .inr ⟨g, cap, cur, h1, by omega, h3⟩⟩
theorem new_row0 {w w' : World} {V : Nat → Prop} {ob : Nat → Option (Value × Nat)} {v : Value} {e : Nat} (hm : MR w V (OB ob) (fun k => k < ([] : List AObj).length) (fun k => ([] : List AObj)[k]?) ob w) (hb : Below w.heap.size w w') (ho : w'.ownsRow w.heap.size e 1 v 0 []) :
  ∃ ob', MR w V (OB ob) (fun k => k < [AObj.row e 1 2 []].length) (fun k => [AObj.row e 1 2 []][k]?) ob' w' ∧ VR (evOf w.heap.size V ob' (fun k => k < [AObj.row e 1 2 []].length) w') v (.own 0 0) := by
 have hbl : ∀ k, blk v = some k → w.heap.size ≤ k := fun k hk => by
  rcases ho.2 with ⟨rfl, -⟩ | ⟨g, cap, cur, rfl, h2, -⟩
  ·cases hk
  ·obtain rfl : g = k := by simpa [blk] using hk
   exact h2
 have h1 : v.oneCell' = true := by
  rcases ho.2 with ⟨rfl, -⟩ | ⟨g, cap, cur, rfl, h2, -⟩ <;> rfl
 obtain ⟨m1, m2⟩ := hm.step 0 v (.row e 1 2 []) (w' := w') (Onl.of_below hb) (fun hU => absurd hU (by simp)) (fun k hk => .inr (hbl k hk))
  (fun hx => ⟨by omega, fun k hk => .inl (hbl k hk), 0, [], own_base ho, rfl, fun i c x hi => by simp at hi⟩)
 refine ⟨upd ob 0 (some (v, (AObj.row e 1 2 []).cnt)), ?_, .own v 0 0 h1 (by show 0 < 1; omega) (fun u n hu => ?_)⟩
 ·have hUU : (fun k => k < ([] : List AObj).length ∨ k = 0) = fun k => k < [AObj.row e 1 2 []].length := by
   funext k
   simp
  have hHH : upd (fun k => ([] : List AObj)[k]?) 0 (some (AObj.row e 1 2 [])) = fun k => [AObj.row e 1 2 []][k]? := by
   funext k
   by_cases e : k = 0
   ·subst e; rw [upd_same]; rfl
   ·rw [upd_ne _ _ e, List.getElem?_eq_none (by simp), List.getElem?_eq_none (by simp; omega)]
  rw [hUU, hHH] at m1
  exact m1
 ·have hu : upd ob 0 (some (v, (AObj.row e 1 2 []).cnt)) 0 = some (u, n) := hu
  rw [upd_same] at hu
  simp only [Option.some.injEq, Prod.mk.injEq] at hu
  obtain ⟨rfl, rfl⟩ := hu
  exact ⟨by simp, fun _ => rfl⟩
theorem cloneZ_fn : FnS Tryd.prog 70 [.t 0 (ints [])] [] (.own 0 0) [.row 3 1 2 []] := by
 intro w V ob vs hm hn hv
 have h0 := (hv 0 _ rfl).rep
 obtain ⟨v, rfl⟩ : ∃ v, vs = #[v] := ⟨vs.getD 0 undef, by
  have hs : vs.size = 1 := hn
  apply Array.ext
  ·simp [hs]
  ·intro i h1 h2
   have : i = 0 := by omega
   subst this
   simp [Array.getD, hs]⟩
 have h0 : Rep (memL w.heap.size V ob w 0) v (.sl 1 []) := h0
 have fin : ∀ (u : Value) (e : Ending) (w' : World), (∃ v', e = Ending.returned v' ∧ w'.ownsRow w.heap.size (cloneL_ren.t 23) 1 v' 0 [] ∧ v' ≠ .slice none 0 0 ∧ Below w.heap.size w w') → ∃ v ob', e = Ending.returned v ∧ MR w V (OB ob) (fun k => k < [AObj.row 3 1 2 []].length) (fun k => [AObj.row 3 1 2 []][k]?) ob' w' ∧ VR (evOf w.heap.size V ob' (fun k => k < [AObj.row 3 1 2 []].length) w') v (.own 0 0) ∧ GhR (evOf w.heap.size V ob' (fun k => k < [AObj.row 3 1 2 []].length) w') (fun i => (#[u] : Array Value).getD i undef) (ghA [.t 0 (ints [])]) := by
  rintro u e w' ⟨v', rfl, ho, hne, hb⟩
  obtain ⟨ob', k1, k2⟩ := new_row0 (e := 3) hm hb ho
  exact ⟨v', ob', rfl, k1, k2, gh_none (by simp)⟩
 cases h0 with
 | nil =>
  refine (show Calls Tryd.prog 70 #[.slice none 0 0] w _ from AnyG.slices_Clone_int_nil cloneL 0 0 w).mono ?_
  rintro e w' ⟨rfl, rfl⟩
  obtain ⟨ob', k1, k2⟩ := new_row0 (e := 3) hm (Below.refl _ _) (World.ownsRow_nil _ _ _ _)
  exact ⟨_, ob', rfl, k1, k2, gh_none (by simp)⟩
 | emp a hz => exact (show Calls Tryd.prog 70 #[.slice (some a) 0 0] w _ from AnyG.slices_Clone_int_zero cloneL a 0 w).mono (fin _)
 | sl b o n cap z cs vs hz hn2 h1 h2 hc hr =>
  obtain rfl : n = 0 := by simp at hn2; omega
  exact (show Calls Tryd.prog 70 #[.slice (some ⟨b, o, none⟩) 0 cap] w _ from AnyG.slices_Clone_int_zero cloneL ⟨b, o, none⟩ cap w).mono (fin _)
theorem cloneO_fn (xs : List Int) (hl : xs.length ≤ 100000) : FnS Tryd.prog 70 [.t 0 (ints xs)] [] (.own 0 xs.length) [.row 3 1 2 (xs.map (.int .i64))] := by
 by_cases h : 0 < xs.length
 ·exact cloneP_fn xs h hl
 ·obtain rfl : xs = [] := by
   cases xs with
   | nil => rfl
   | cons a l => simp at h
  exact cloneZ_fn
end Go.Proofs.YtnffigeofdagfaaDoor.M
