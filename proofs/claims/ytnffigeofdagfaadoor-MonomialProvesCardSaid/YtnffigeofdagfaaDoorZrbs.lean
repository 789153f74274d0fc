/-
  slices.SortFunc of edges, by the kit's contract: an own row of edges is sorted.
-/
import Derived.Test.YtnffigeofdagfaaDoorZrbr
import Derived.Test.YtnffigeofdagfaaDoorZrbg
import Derived.Test.YtnffigeofdagfaaDoorZrah
namespace Go.Proofs.YtnffigeofdagfaaDoor.M
open Go.RowKit Go.Shelf Go.Lib Go.Sort
set_option linter.unusedVariables false
set_option linter.unusedSimpArgs false

def encE (e : Ed) : List Value := [.int .i64 (e.1 : Int), .int .i64 (e.2.1 : Int), .int .i64 (e.2.2 : Int)]
def cfE (x y : Ed) : Int := cmpE (edZ x) (edZ y)
theorem cfE_neg {x y : Ed} : cfE x y < 0 ↔ edLt x y := by
 constructor
 ·intro h
  apply Classical.byContradiction
  intro hn
  obtain ⟨a1, a2, a3⟩ := x
  obtain ⟨b1, b2, b3⟩ := y
  unfold cfE cmpE edZ at h
  unfold edLt at hn
  simp only at h hn
  rcases Nat.lt_trichotomy a1 b1 with g | g | g
  ·exact hn (.inl g)
  ·subst g
   rw [cmpI_eq] at h
   rcases Nat.lt_trichotomy a2 b2 with g | g | g
   ·exact hn (.inr ⟨rfl, .inl g⟩)
   ·subst g
    rw [cmpI_eq] at h
    rcases Nat.lt_trichotomy a3 b3 with g | g | g
    ·exact hn (.inr ⟨rfl, .inr ⟨rfl, g⟩⟩)
    ·subst g; rw [cmpI_eq] at h; simp [orL] at h
    ·rw [cmpI_gt g] at h; simp [orL] at h
   ·rw [cmpI_gt g] at h; simp [orL] at h
  ·rw [cmpI_gt g] at h; simp [orL] at h
 ·intro h
  show cmpE (edZ x) (edZ y) < 0
  rw [cmpE_lt h]
  decide
instance (x y : Ed) : Decidable (edLt x y) := by unfold edLt; infer_instance
theorem ltE_iff (x y : Ed) : ltOf cfE x y = decide (edLt x y) := by
 unfold ltOf
 rw [Bool.eq_iff_iff, decide_eq_true_eq, decide_eq_true_eq]
 exact cfE_neg
theorem swoE : SWO (ltOf cfE) where
 irrefl x := by rw [ltE_iff]; simp only [decide_eq_false_iff_not, edLt]; omega
 trans x y z h1 h2 := by
  rw [ltE_iff, decide_eq_true_eq] at *
  unfold edLt at *
  omega
 ntrans x y z h1 h2 := by
  rw [ltE_iff, decide_eq_false_iff_not] at *
  unfold edLt at *
  omega
theorem totE (x y : Ed) (h1 : ltOf cfE x y = false) (h2 : ltOf cfE y x = false) : x = y := by
 rw [ltE_iff, decide_eq_false_iff_not] at h1 h2
 obtain ⟨a1, a2, a3⟩ := x
 obtain ⟨b1, b2, b3⟩ := y
 unfold edLt at h1 h2
 simp only at h1 h2
 rw [show a1 = b1 by omega, show a2 = b2 by omega, show a3 = b3 by omega]
def srtE (es : List Ed) : List Ed := es.mergeSort fun x y => !(ltOf cfE) y x
@[simp] theorem srtE_len (es : List Ed) : (srtE es).length = es.length := List.length_mergeSort es
theorem srtE_mem {es : List Ed} {e : Ed} : e ∈ srtE es ↔ e ∈ es := List.mem_mergeSort
theorem srtE_srt {es : List Ed} (hnd : es.Nodup) : ∀ i (h : i + 1 < (srtE es).length), edLt (srtE es)[i] (srtE es)[i + 1] := by
 have hp : (srtE es).Pairwise fun x y => (!(ltOf cfE) y x) = true := List.pairwise_mergeSort (fun a b c h1 h2 => by
  simp only [Bool.not_eq_true', ltE_iff, decide_eq_false_iff_not] at *
  unfold edLt at *
  omega) (fun a b => by
  simp only [Bool.or_eq_true, Bool.not_eq_true', ltE_iff, decide_eq_false_iff_not]
  unfold edLt
  omega) es
 have hn : (srtE es).Nodup := (List.mergeSort_perm es _).nodup_iff.2 hnd
 intro i h
 have h1 := List.pairwise_iff_getElem.1 hp i (i + 1) (by omega) h (by omega)
 have h2 := List.pairwise_iff_getElem.1 hn i (i + 1) (by omega) h (by omega)
 simp only [Bool.not_eq_true', ltE_iff, decide_eq_false_iff_not] at h1
 generalize (srtE es)[i] = x at *
 generalize (srtE es)[i + 1] = y at *
 apply Classical.byContradiction
 intro hn
 exact h2 (totE x y (by rw [ltE_iff]; simpa using hn) (by rw [ltE_iff]; simpa using h1))
def cmpnt (e : Ed) (r : Nat) : Int := if r = 0 then (e.1 : Int) else if r = 1 then (e.2.1 : Int) else (e.2.2 : Int)
theorem enc_at (e : Ed) {r : Nat} (h : r < 3) : (encE e)[r]! = .int .i64 (cmpnt e r) := by
 rcases (by omega : r = 0 ∨ r = 1 ∨ r = 2) with rfl | rfl | rfl <;> rfl
theorem edC_at : ∀ {es : List Ed} {j : Nat} (h : j < es.length * 3), (edC es)[j]? = some (.int .i64 (cmpnt (es[j / 3]'(by omega)) (j % 3)))
 | [], j, h => by simp at h
 | e :: es, j, h => by
  have hc : edC (e :: es) = [.int .i64 (e.1 : Int), .int .i64 (e.2.1 : Int), .int .i64 (e.2.2 : Int)] ++ edC es := by simp [edC]
  rw [hc]
  by_cases h3 : j < 3
  ·rcases (by omega : j = 0 ∨ j = 1 ∨ j = 2) with rfl | rfl | rfl <;> rfl
  ·obtain ⟨i, rfl⟩ : ∃ i, j = i + 3 := ⟨j - 3, by omega⟩
   have hi : i < es.length * 3 := by simp at h; omega
   rw [List.getElem?_append_right (by simp), show i + 3 - [T.int .i64 (e.1 : Int), .int .i64 (e.2.1 : Int), .int .i64 (e.2.2 : Int)].length = i by simp, edC_at hi]
   have e1 : (i + 3) / 3 = i / 3 + 1 := by omega
   have e2 : (i + 3) % 3 = i % 3 := by omega
   simp only [e1, e2, List.getElem_cons_succ]
theorem flat_at {es : List Ed} {j : Nat} (h : j < es.length * 3) : (flatK encE 3 es.toArray)[j]! = .int .i64 (cmpnt (es[j / 3]'(by omega)) (j % 3)) := by
 rw [get_flatK _ _ _ _ (by simpa using h), show es.toArray[j / 3]! = es[j / 3]'(by omega) by rw [getElem!_pos _ _ (by simp; omega)]; simp, enc_at _ (by omega)]
theorem own_put {w : World} {g n cap : Nat} {e : TypeId} {xs : List Value} (h : w.ownsRow 0 e 3 (.slice (some ⟨g, 0, none⟩) n cap) n xs) (F : Array Value) (hF : F.size = n * 3) (os : Array Obj) : (grow (putRow id w g 0 F) os).ownsRow 0 e 3 (.slice (some ⟨g, 0, none⟩) n cap) n F.toList ∧ Onl (fun k => k = g) w (grow (putRow id w g 0 F) os) := by
 rcases h.2 with ⟨hc, -⟩ | ⟨g', cap', cur, he, -, hg, hnc, hcm, hcs, htake⟩
 ·cases hc
 ·simp only [Value.slice.injEq, Option.some.injEq, Addr.mk.injEq, true_and, and_true] at he
  obtain ⟨rfl, rfl⟩ := he
  have hnz : n * 3 ≤ cap * 3 := Nat.mul_le_mul_right 3 hnc
  have hlt : g < w.heap.size := lt_of_block hg
  have hput : (putRow id w g 0 F).heap[g]? = some (.cells (putCells id 0 F cur) e (0, 0)) := by
   unfold putRow mapBlock
   simp only [Array.getElem?_modify, if_true]
   rw [hg]
   rfl
  have hsz : (putCells id 0 F cur).size = cur.size := by simp [putCells]
  refine ⟨⟨by simp [hF], .inr ⟨g, cap, putCells id 0 F cur, rfl, by omega, ?_, hnc, hcm, by omega, ?_⟩⟩, ⟨rfl, rfl, rfl, by simp [grow, putRow, mapBlock], fun k hk hn => ?_⟩⟩
  ·show ((putRow id w g 0 F).heap ++ os)[g]? = _
   rw [Array.getElem?_append_left (by simpa using hlt)]
   exact hput
  ·apply List.ext_getElem?
   intro k
   by_cases hk : k < n * 3
   ·have hkc : k < cur.size := by omega
    rw [List.getElem?_take, if_pos hk]
    simp [putCells, hkc, hF, hk]
   ·rw [List.getElem?_take, if_neg hk, List.getElem?_eq_none (by simp [hF]; omega)]
  ·show ((putRow id w g 0 F).heap ++ os)[k]? = _
   rw [Array.getElem?_append_left (by simpa using hk)]
   unfold putRow mapBlock
   simp only [Array.getElem?_modify]
   rw [if_neg (fun e => hn e.symm)]
theorem vsTwo {vs : Array Value} (hn : vs.size = 2) : vs = #[vs.getD 0 undef, vs.getD 1 undef] := by
 apply Array.ext
 ·simpa using hn
 ·intro i h1 h2
  have : i < 2 := by simpa using h2
  rcases (by omega : i = 0 ∨ i = 1) with rfl | rfl <;> simp [Array.getD, h1]
theorem ahead_own {w : World} {m e n : Nat} {v : Value} {xs : List Value} (h : w.ownsRow 0 e 3 v n xs) : (Sort.ahead w m).ownsRow 0 e 3 v n xs := h
set_option maxHeartbeats 2000000 in
theorem sortE_fn {es : List Ed} (h0 : 0 < es.length) (hl : es.length ≤ 100000) : FnK Tryd.prog 94 [.own 0 (es.length * 3), .fn 95 []] [.row 143 3 1 (edC es)] (.tup []) [.row 143 3 1 (edC (srtE es))] [0] := by
 intro w V ob vs hm hn hv
 have g0 := hv 0 _ rfl
 have g1 := hv 1 _ rfl
 rw [vsTwo hn]
 generalize vs.getD 0 undef = v0 at *
 generalize vs.getD 1 undef = v1 at *
 obtain ⟨e1, -⟩ := hm.own g0 (o := .row 143 3 1 (edC es)) rfl (by simp [AObj.cnt])
 obtain ⟨hU, u, e3, hz, hlv, n, vals, how, hlen, hr⟩ := hm.obj 0 (.row 143 3 1 (edC es)) rfl
 rw [e1] at e3
 simp only [Option.some.injEq, Prod.mk.injEq] at e3
 obtain ⟨rfl, -⟩ := e3
 have hn3 : n = es.length := by
  have := how.1
  simp at hlen
  omega
 subst hn3
 cases g1 with
 | fn f vs' cs hn' hr' =>
  obtain rfl : vs' = #[] := by
   apply Array.eq_empty_of_size_eq_zero
   simpa using hn'
  rcases how.2 with ⟨-, hc⟩ | ⟨g, cap, cur, hv0, -, hg, hnc, hcm, hcs, htake⟩
  ·omega
  ·subst hv0
   have hlt : g < w.heap.size := lt_of_block hg
   have hcell : ∀ j, j < es.length * 3 → w.cell? ⟨g, 0 + j, none⟩ = some ((flatK encE 3 es.toArray)[j]!) := fun j hj => by
    have hjv : j < vals.length := by simp at hlen; omega
    have h3 := how.cells (g := g) rfl j vals[j] (by simp)
    rw [Addr.add_lit] at h3
    rw [h3, flat_at hj]
    have := hr j _ vals[j] (edC_at hj) (by simp)
    generalize vals[j] = x at this ⊢
    cases this
    rfl
   have hH : HoldsK encE 3 w g 0 es.toArray := fun j hj => ⟨hcell j (by simpa using hj), by simp [World.frozen?, hg]⟩
   have eg : ∀ args W, (callFunc 95 args).run Tryd.prog W = .ok (.enter 95 args) W := enters_of Tryd.func95 (by kernel_rfl) rfl
   have hcmp : CmpLays Tryd.prog 95 #[] encE 3 cfE g 0 es.toArray.size w := fun m os dk hs x y => cmpEdgesC (edZ x) (edZ y) _
   have hcall := AnyQ.slices_SortFunc_total sortL 3 Tryd.isAgg143 Tryd.sizeOf143 encE (fun _ => rfl) (fun x v hv => by simp [encE] at hv; rcases hv with rfl | rfl | rfl <;> rfl) cfE swoE 95 #[] g 0 cap es.toArray w eg hcmp hH hlt (by simp; omega) totE
   have hcall : Calls Tryd.prog 94 #[.slice (some ⟨g, 0, none⟩) es.length cap, .func (.func 95) #[] #[]] w _ := hcall
   refine hcall.mono ?_
   rintro e w' ⟨rfl, q, os, hw⟩
   have hw : w' = grow (putRow id (Sort.ahead w q) g 0 (flatK encE 3 (srtE es).toArray)) os := hw
   obtain ⟨k1, k2⟩ := own_put (ahead_own (m := q) how) (flatK encE 3 (srtE es).toArray) (by simp) os
   rw [← hw] at k1 k2
   have k2 : Onl (fun k => k = g) w w' := ⟨k2.os, k2.tape, k2.output, k2.size, k2.block⟩
   obtain ⟨m1, m2⟩ := hm.step 0 (.slice (some ⟨g, 0, none⟩) es.length cap) (.row 143 3 1 (edC (srtE es))) (w' := w') (k2.mono (fun k _ hk => ⟨_, _, e1, by rw [hk]; rfl⟩)) (fun _ => ⟨_, _, e1, by simp [AObj.cnt], fun _ => rfl⟩) (fun k hk => .inl ⟨_, _, e1, hk⟩)
    (fun hx => ⟨hz, hlv, es.length, _, k1, by simp, fun j c x hj hx => by
     have hlt : j < es.length * 3 := by
      have := (List.getElem?_eq_some_iff.1 hj).1
      simpa using this
     have h5 := edC_at (es := srtE es) (j := j) (by simpa using hlt)
     rw [h5] at hj
     injection hj with hj
     subst hj
     have h6 : (flatK encE 3 (srtE es).toArray).toList[j]? = some ((flatK encE 3 (srtE es).toArray)[j]!) := by
      rw [getElem!_pos _ j (by simpa using hlt)]
      simp [hlt]
     rw [h6] at hx
     injection hx with hx
     subst hx
     rw [flat_at (by simpa using hlt)]
     exact .int _ _⟩)
   have hob : upd ob 0 (some (.slice (some ⟨g, 0, none⟩) es.length cap, (AObj.row 143 3 1 (edC (srtE es))).cnt)) = ob := by
    funext k
    by_cases e : k = 0
    ·subst e
     rw [upd_same, e1]
     simp [AObj.cnt]
    ·rw [upd_ne _ _ e]
   have hUU : (fun k => k < [AObj.row 143 3 1 (edC es)].length ∨ k = 0) = fun k => k < [AObj.row 143 3 1 (edC (srtE es))].length := by
    funext k
    simp
   have hHH : upd (fun k => [AObj.row 143 3 1 (edC es)][k]?) 0 (some (AObj.row 143 3 1 (edC (srtE es)))) = fun k => [AObj.row 143 3 1 (edC (srtE es))][k]? := by
    funext k
    by_cases e : k = 0
    ·subst e; rw [upd_same]; rfl
    ·rw [upd_ne _ _ e, List.getElem?_eq_none (by simp; omega), List.getElem?_eq_none (by simp; omega)]
   rw [hob, hUU, hHH] at m1
   exact ⟨_, ob, rfl, m1, .tup _ _ rfl (fun i c hi => by simp at hi), gh_none (by simp [ghA1]), fun j hj => rfl⟩
end Go.Proofs.YtnffigeofdagfaaDoor.M
