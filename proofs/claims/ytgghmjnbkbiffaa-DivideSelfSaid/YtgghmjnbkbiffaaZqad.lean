/-
  My own logic, part 20: a call in a region that draws its order.
  My own logic, part 21: the same walks with the continuation kept closed, so that the simplifier looks at one operation at a time.
  The words of the logic as rules of simp, so that the walks need not name them.
-/
import Derived.Test.YtgghmjnbkbiffaaZqac
namespace Go.Proofs.Ytgghmjnbkbiffaa.M
open Go.RowKit
set_option linter.unusedVariables false

def refsO (H : Nat → Option AObj) (k : Nat) : List Nat := match H k with
  | some (.box _ cs) => refsVs cs
  | _ => []
def cU (pi po : List Nat) (q : Nat) (H' : List AObj) : List (Nat × Option AObj) := ((po.zip (H'.map (outO po q))).map fun p => (p.1, some p.2)) ++ pi.map fun d => (d, none)
theorem lk_zip : ∀ (po : List Nat) (xs : List AObj) (k : Nat), po.length = xs.length → lk ((po.zip xs).map fun p => (p.1, some p.2)) k = match idx po k with | some j => (xs[j]?).map some | none => none
  | [], [], k, _ => rfl
  | [], _ :: _, _, h => by simp at h
  | _ :: _, [], _, h => by simp at h
  | a :: r, x :: xs, k, h => by
    simp only [List.zip_cons_cons, List.map_cons, lk, idx]
    by_cases e : k = a
    · simp [e]
    · rw [if_neg e, if_neg e, lk_zip r xs k (by simpa using h)]
      cases idx r k with
      | none => rfl
      | some j => simp
theorem idx_lt {po : List Nat} {k j : Nat} (h : idx po k = some j) : j < po.length := (List.getElem?_eq_some_iff.1 (idx_get h)).1
theorem callS_appU {σ : ASt} {dst : Option Tmp} {pi po : List Nat} {q : Nat} {res : AV} {H' : List AObj} (hl : po.length = H'.length) (tc : List Nat) : callS σ dst pi po q res H' = appU σ dst ⟨outV po q res, cU pi po q H', tc⟩ := by
  refine ASt.ext' (fun t => rfl) (fun k => ?_) rfl rfl rfl
  show heap2 σ.heap H' pi po q k = (lk (cU pi po q H') k).getD (σ.heap k)
  rw [heap2_eq hl]
  unfold cU
  rw [lk_append, lk_zip _ _ _ (by simpa using hl), lk_none_map]
  cases hq : idx po k with
  | none =>
    simp only [Option.none_or]
    by_cases e : k ∈ pi <;> simp [e]
  | some j =>
    have hj : j < H'.length := by rw [← hl]; exact idx_lt hq
    simp [hj]
theorem inO_local {H H2 : Nat → Option AObj} {pi : List Nat} {q : Nat} {k : Nat} {o : AObj} (h : inO H pi q (H k) o) (hk : H2 k = H k) (hr : ∀ j, j ∈ refsO H k → H2 j = H j) : inO H2 pi q (H2 k) o := by
  rw [hk]
  unfold inO at h ⊢
  split at h
  · exact h
  · rename_i ty cs ty' ds hH
    exact ⟨h.1, inPs_local _ _ h.2 (fun j hj => hr j (by unfold refsO; rw [hH]; exact hj))⟩
  · exact h.elim
theorem inOs_local {H H2 : Nat → Option AObj} {pi : List Nat} {q : Nat} : ∀ {ks : List Nat} {os : List AObj}, inOs H pi q ks os → (∀ k, k ∈ ks → H2 k = H k) → (∀ k, k ∈ ks → ∀ j, j ∈ refsO H k → H2 j = H j) → inOs H2 pi q ks os
  | [], [], _, _, _ => trivial
  | k :: ks, o :: os, h, h1, h2 => ⟨inO_local h.1 (h1 k (by simp)) (h2 k (by simp)), inOs_local h.2 (fun j hj => h1 j (by simp [hj])) (fun j hj => h2 j (by simp [hj]))⟩
  | [], _ :: _, h, _, _ => h.elim
  | _ :: _, [], h, _, _ => h.elim
theorem call_ruleD {P : Program} {ops : Array Oper} {i : Nat} {o : Oper} {σ : ASt} {K : ASt → List Nat × List Nat → Prop} {cl : Call} {fo : Operand} {f : FuncId} {caps : List AV} {args : List AV} {H H' : List AObj} {res : AV} (hspec : FnS P f args H res H') (pi po : List Nat) (q : Nat)
    (hg : o.guard = none) (hop : o.op = .call cl) (hc : cl.callee = .value fo) (hfo : σ.eval fo = .fn f caps) (hb : bodied P f = true) (hd : dstOk σ o = true)
    (hargs : inPs σ.heap pi q (cl.args.toList.map σ.eval ++ caps) args) (hobj : inOs σ.heap pi q pi H) (hndi : ndL pi) (hlen : po.length = H'.length) (hndo : ndL po) (hpo : poOk i pi args H H' 0 po) (hok : H'.all okO = true)
    (hK : K (callS σ o.dst pi po q res H') ((pi ++ po ++ refsVs (cl.args.toList.map σ.eval ++ caps) ++ pi.flatMap (refsO σ.heap)) ++ (po ++ pi), po ++ pi)) : awpCallD P ops i o σ K := by
  have hkeys : (cU pi po q H').map (·.1) = po ++ pi := by
    unfold cU
    rw [List.map_append, List.map_map, List.map_map]
    congr 1
    · have : ((·.1) ∘ fun (p : Nat × AObj) => (p.1, some p.2)) = Prod.fst := rfl
      show List.map ((fun x => x.1) ∘ fun (p : Nat × AObj) => (p.1, some p.2)) _ = po
      rw [show ((fun (x : Nat × Option AObj) => x.1) ∘ fun (p : Nat × AObj) => (p.1, some p.2)) = Prod.fst from rfl]
      exact List.map_fst_zip (by simpa using Nat.le_of_eq hlen)
    · exact List.map_id _
  refine ⟨⟨outV po q res, cU pi po q H', pi ++ po ++ refsVs (cl.args.toList.map σ.eval ++ caps) ++ pi.flatMap (refsO σ.heap)⟩, fun σ2 q1 q2 q3 => ?_, ?_⟩
  · have hev := eval_local q1
    rw [← callS_appU hlen]
    have hops : ∀ x, x ∈ cl.args.toList → σ2.eval x = σ.eval x := fun x hx => hev x (by rw [hop]; simp [Op.operands, Call.operands]; exact .inr (by simpa using hx))
    have hmap : cl.args.toList.map σ2.eval = cl.args.toList.map σ.eval := List.map_congr_left hops
    have hfo2 : σ2.eval fo = .fn f caps := by rw [hev fo (by rw [hop]; simp [Op.operands, Call.operands, hc])]; exact hfo
    refine call_ok pi po q (by unfold gd; rw [hg]) hop hc hfo2 hb hspec (by rw [dstOk_local q3]; exact hd) ?_ ?_ hndi hlen hndo hpo hok
    · rw [hmap]
      exact inPs_local _ _ hargs (fun k hk => q2 k (by simp only [List.mem_append]; exact .inl (.inr hk)))
    · exact inOs_local hobj (fun k hk => q2 k (by simp only [List.mem_append]; exact .inl (.inl (.inl hk)))) (fun k hk j hj => q2 j (by simp only [List.mem_append, List.mem_flatMap]; exact .inr ⟨k, hk, hj⟩))
  · rw [← callS_appU hlen]
    show K _ (_ ++ (cU pi po q H').map (·.1), (cU pi po q H').map (·.1))
    rw [hkeys]
    exact hK
end Go.Proofs.Ytgghmjnbkbiffaa.M

namespace Go.Proofs.Ytgghmjnbkbiffaa.M
open Go.RowKit
set_option linter.unusedVariables false

def KL (P : Program) (ops : Array Oper) (N : Nat) (r : List Oper) (k : Nat) (K : ASt → Prop) : ASt → Prop := fun σ => awpL P ops N r k σ K
def KD (P : Program) (ops : Array Oper) (N : Nat) (r : List Oper) (k : Nat) (sm : List (List Nat × List Nat)) (K : ASt → Prop) : ASt → List Nat × List Nat → Prop := fun σ s => awpD P ops N r k σ (sm ++ [s]) K
theorem KL_ap (P : Program) (ops : Array Oper) (N : Nat) (r : List Oper) (k : Nat) (K : ASt → Prop) (σ : ASt) : KL P ops N r k K σ = awpL P ops N r k σ K := rfl
theorem KD_ap (P : Program) (ops : Array Oper) (N : Nat) (r : List Oper) (k : Nat) (sm : List (List Nat × List Nat)) (K : ASt → Prop) (σ : ASt) (s : List Nat × List Nat) : KD P ops N r k sm K σ s = awpD P ops N r k σ (sm ++ [s]) K := rfl
theorem awpL_nil (P : Program) (ops : Array Oper) (N k : Nat) (σ : ASt) (K : ASt → Prop) : awpL P ops N [] k σ K = K { σ with nxt := N + k } := rfl
theorem awpL_cons (P : Program) (ops : Array Oper) (N k : Nat) (o : Oper) (r : List Oper) (σ : ASt) (K : ASt → Prop) : awpL P ops N (o :: r) k σ K = awpOp P ops (N + k) o σ (KL P ops N r (k + 1000000) K) := rfl
theorem awpD_nil (P : Program) (ops : Array Oper) (N k : Nat) (σ : ASt) (sm : List (List Nat × List Nat)) (K : ASt → Prop) : awpD P ops N [] k σ sm K = (chkD ops sm = true ∧ K { σ with nxt := N + k }) := rfl
theorem awpD_cons (P : Program) (ops : Array Oper) (N k : Nat) (o : Oper) (r : List Oper) (σ : ASt) (sm : List (List Nat × List Nat)) (K : ASt → Prop) : awpD P ops N (o :: r) k σ sm K = awpOpD P ops (N + k) o σ (KD P ops N r (k + 1000000) sm K) := rfl
theorem upd_b {α : Type} (f : Nat → α) (i : Nat) (x : α) (j : Nat) : upd f i x j = bif (j == i) then x else f j := by
  by_cases h : j = i
  · subst h; simp [upd]
  · simp [upd, h, beq_eq_false_iff_ne.2 h]
theorem envOf_nil (t : Nat) : envOf [] t = .any := rfl
theorem envOf_cons (k : Nat) (v : AV) (r : List (Nat × AV)) (t : Nat) : envOf ((k, v) :: r) t = bif (t == k) then v else envOf r t := by
  by_cases h : t = k
  · subst h; simp [envOf]
  · simp [envOf, h, beq_eq_false_iff_ne.2 h]
theorem heapOf_nil (t : Nat) : heapOf [] t = none := rfl
theorem heapOf_cons (k : Nat) (v : AObj) (r : List (Nat × AObj)) (t : Nat) : heapOf ((k, v) :: r) t = bif (t == k) then some v else heapOf r t := by
  by_cases h : t = k
  · subst h; simp [heapOf]
  · simp [heapOf, h, beq_eq_false_iff_ne.2 h]
theorem mpOf_nil (t : Nat) : mpOf [] t = none := rfl
theorem mpOf_cons (k : Nat) (v : Option Nat) (r : List (Nat × Option Nat)) (t : Nat) : mpOf ((k, v) :: r) t = bif (t == k) then v else mpOf r t := by
  by_cases h : t = k
  · subst h; simp [mpOf]
  · simp [mpOf, h, beq_eq_false_iff_ne.2 h]
/-! ## Many own objects that come back from a call -/

/-- The list of the values of a function. -/
def tab {α : Type} (n : Nat) (F : Nat → α) : List α := (List.range n).map F
@[simp] theorem tab_len {α : Type} (n : Nat) (F : Nat → α) : (tab n F).length = n := by simp [tab]
@[simp] theorem tab_get {α : Type} {n : Nat} (F : Nat → α) {k : Nat} (h : k < n) : (tab n F)[k]? = some (F k) := by simp [tab, h]
theorem tab_get_none {α : Type} {n : Nat} (F : Nat → α) {k : Nat} (h : n ≤ k) : (tab n F)[k]? = none := by simp [tab, h]
/-- n numbers from b on lie over H. -/
def ovr (b n : Nat) (G : Nat → AObj) (H : Nat → Option AObj) (k : Nat) : Option AObj := if k < b then H k else if k - b < n then some (G (k - b)) else H k
theorem ovr_lt (b n : Nat) (G : Nat → AObj) (H : Nat → Option AObj) {k : Nat} (h : k < b) : ovr b n G H k = H k := by unfold ovr; rw [if_pos h]
theorem ovr_at (b n : Nat) (G : Nat → AObj) (H : Nat → Option AObj) {j : Nat} (h : j < n) : ovr b n G H (b + j) = some (G j) := by
  unfold ovr
  rw [if_neg (by omega), if_pos (by omega)]
  congr 2
  omega
theorem famH_lt (hl : List (Nat × AObj)) (base n : Nat) (F : Nat → AObj) {k : Nat} (h : k < base) : famH hl base n F k = heapOf hl k := by unfold famH; rw [if_pos h]
theorem famH_at (hl : List (Nat × AObj)) (base n : Nat) (F : Nat → AObj) {j : Nat} (h : j < n) : famH hl base n F (base + j) = some (F j) := by
  unfold famH
  rw [if_neg (by omega), if_pos (by omega)]
  congr 2
  omega
theorem famM_lt (mp : List (Nat × Option Nat)) (base n : Nat) (g : Nat → Nat) {k : Nat} (h : k < base) : famM mp base n g k = mpOf mp k := by unfold famM; rw [if_pos h]
theorem famM_at (mp : List (Nat × Option Nat)) (base n : Nat) (g : Nat → Nat) {j : Nat} (h : j < n) : famM mp base n g (base + j) = some (g j) := by
  unfold famM
  rw [if_neg (by omega), if_pos (by omega)]
  congr 2
  omega
/-- The numbers of what comes back: those of a list, then n from b on. -/
def poF (ph : List Nat) (b n : Nat) : List Nat := ph ++ tab n fun j => b + j
theorem poF_lt {ph : List Nat} {b n k : Nat} (h : k < ph.length) : (poF ph b n).getD k 0 = ph.getD k 0 := by
  unfold poF
  rw [List.getD_eq_getElem?_getD, List.getElem?_append_left h, ← List.getD_eq_getElem?_getD]
theorem poF_at {ph : List Nat} {b n j : Nat} (h : j < n) : (poF ph b n).getD (ph.length + j) 0 = b + j := by
  unfold poF
  rw [List.getD_eq_getElem?_getD, List.getElem?_append_right (by omega), show ph.length + j - ph.length = j by omega, tab_get _ h]
  rfl
theorem poF_get {ph : List Nat} {b n j k : Nat} (h : (poF ph b n)[j]? = some k) : (j < ph.length ∧ ph[j]? = some k) ∨ (ph.length ≤ j ∧ j - ph.length < n ∧ k = b + (j - ph.length)) := by
  unfold poF at h
  by_cases hj : j < ph.length
  · rw [List.getElem?_append_left hj] at h; exact .inl ⟨hj, h⟩
  · rw [List.getElem?_append_right (by omega)] at h
    have h2 := (List.getElem?_eq_some_iff.1 h).1
    rw [tab_len] at h2
    rw [tab_get _ h2] at h
    injection h with h
    exact .inr ⟨by omega, h2, h.symm⟩
theorem ndL_of : ∀ {l : List Nat}, (∀ (i j : Nat) k, l[i]? = some k → l[j]? = some k → i = j) → ndL l
  | [], _ => trivial
  | a :: r, h => by
    refine ⟨fun ha => ?_, ndL_of (fun i j k hi hj => ?_)⟩
    · obtain ⟨i, hi, e⟩ := List.getElem_of_mem ha
      have := h 0 (i + 1) a rfl (by simp [hi, e])
      omega
    · have := h (i + 1) (j + 1) k (by simpa using hi) (by simpa using hj)
      omega
theorem poOk_of {i : Nat} {pi : List Nat} {args : List AV} {H H' : List AObj} : ∀ {po : List Nat} {j0 : Nat}, (∀ (j : Nat) k, po[j]? = some k → (i ≤ k ∧ k < i + 1000000) ∨ (pi[j0 + j]? = some k ∧ ∃ (t c ty : Nat) (cs : List AV) (ty' : Nat) (cs' : List AV), args[t]? = some (AV.ptr (j0 + j) 0 c) ∧ H[j0 + j]? = some (AObj.box ty cs) ∧ cs.length = c ∧ H'[j0 + j]? = some (AObj.box ty' cs') ∧ cs'.length = c)) → poOk i pi args H H' j0 po
  | [], j0, _ => trivial
  | a :: r, j0, h => by
    refine ⟨h 0 a rfl, poOk_of (fun j k hj => ?_)⟩
    have := h (j + 1) k (by simpa using hj)
    rw [show j0 + (j + 1) = j0 + 1 + j by omega] at this
    exact this
def callF (σ : ASt) (dst : Option Tmp) (pi ph : List Nat) (b n q : Nat) (res : AV) (hd : List AObj) (F : Nat → AObj) : ASt := { σ with env := match dst with | some d => upd σ.env d (outV (poF ph b n) q res) | none => σ.env, heap := ovr b n (fun j => outO (poF ph b n) q (F j)) (addL (delL σ.heap pi) (ph.zip (hd.map (outO (poF ph b n) q)))) }
theorem callF_eq {σ : ASt} {dst : Option Tmp} {pi ph : List Nat} {b n q : Nat} {res : AV} {hd : List AObj} {F : Nat → AObj} (hl : ph.length = hd.length) (hb : ∀ k, k ∈ ph → k < b) : callS σ dst pi (poF ph b n) q res (hd ++ tab n F) = callF σ dst pi ph b n q res hd F := by
  have hnd : ∀ (m : Nat) (k : Nat) (f : Nat → Option AObj) (G : Nat → AObj), addL f ((tab m fun j => b + j).zip (tab m G)) k = if k < b then f k else if k - b < m then some (G (k - b)) else f k := fun m k f G => by
    have hnd2 : ndL (tab m fun j => b + j) := ndL_of (fun i j k hi hj => by
      have a1 := (List.getElem?_eq_some_iff.1 hi).1
      have a2 := (List.getElem?_eq_some_iff.1 hj).1
      rw [tab_len] at a1 a2
      rw [tab_get _ a1] at hi
      rw [tab_get _ a2] at hj
      injection hi with hi
      injection hj with hj
      omega)
    rw [addL_zip _ _ _ _ (by simp)]
    cases hq : idx (tab m fun j => b + j) k with
    | none =>
      by_cases h1 : k < b
      · rw [if_pos h1]
      · rw [if_neg h1]
        by_cases h2 : k - b < m
        · have := idx_of hnd2 (k := k) (j := k - b) (by rw [tab_get _ h2]; congr 1; omega)
          rw [hq] at this; cases this
        · rw [if_neg h2]
    | some j =>
      have hj := idx_get hq
      have a1 := (List.getElem?_eq_some_iff.1 hj).1
      rw [tab_len] at a1
      rw [tab_get _ a1] at hj
      injection hj with hj
      show (tab m G)[j]? = _
      rw [tab_get _ a1, if_neg (by omega), if_pos (by omega)]
      congr 2
      omega
  have hzip : ∀ (po : List Nat) (q' : Nat), (poF ph b n).zip ((hd ++ tab n F).map (outO po q')) = ph.zip (hd.map (outO po q')) ++ (tab n fun j => b + j).zip (tab n fun j => outO po q' (F j)) := fun po q' => by
    unfold poF
    rw [List.map_append, List.zip_append (by simpa using hl)]
    congr 2
    unfold tab
    simp [Function.comp_def]
  have hadd : ∀ (l1 l2 : List (Nat × AObj)) (f : Nat → Option AObj), addL f (l1 ++ l2) = addL (addL f l2) l1 := fun l1 => by
    induction l1 with
    | nil => intro l2 f; rfl
    | cons x r ih => intro l2 f; obtain ⟨k, y⟩ := x; simp only [List.cons_append, addL, ih]
  refine ASt.ext' (fun t => rfl) (fun k => ?_) rfl rfl rfl
  show heap2 σ.heap (hd ++ tab n F) pi (poF ph b n) q k = ovr b n (fun j => outO (poF ph b n) q (F j)) (addL (delL σ.heap pi) (ph.zip (hd.map (outO (poF ph b n) q)))) k
  unfold heap2
  have hP := addL_zip (delL σ.heap pi) ph (hd.map (outO (poF ph b n) q)) k (by simp [hl])
  rw [hzip, hadd, addL_zip _ _ _ _ (by simp [hl])]
  unfold ovr
  rw [hP]
  cases hq : idx ph k with
  | none =>
    rw [hq] at hP
    simp only
    exact hnd n k _ _
  | some j =>
    have := hb k (List.mem_of_getElem? (idx_get hq))
    simp only
    rw [if_pos this]
theorem call_ruleF {P : Program} {ops : Array Oper} {i : Nat} {o : Oper} {σ : ASt} {K : ASt → Prop} {cl : Call} {fo : Operand} {f : FuncId} {caps : List AV} {args : List AV} {H hd : List AObj} {n : Nat} {F : Nat → AObj} {res : AV} (hspec : FnS P f args H res (hd ++ tab n F)) (pi ph : List Nat) (b q : Nat)
    (hg : gd ops σ o = some true) (hop : o.op = .call cl) (hc : cl.callee = .value fo) (hfo : σ.eval fo = .fn f caps) (hb : bodied P f = true) (hd' : dstOk σ o = true)
    (hargs : inPs σ.heap pi q (cl.args.toList.map σ.eval ++ caps) args) (hobj : inOs σ.heap pi q pi H) (hndi : ndL pi) (hlen : ph.length = hd.length) (hndo : ndL ph) (hpo : poOk i pi args H hd 0 ph) (hbb : i ≤ b ∧ b + n ≤ i + 1000000) (hlt : ∀ k, k ∈ ph → k < b) (hok : hd.all okO = true) (hok2 : ∀ j, j < n → okO (F j) = true)
    (hK : K (callF σ o.dst pi ph b n q res hd F)) : awpCall P ops i o σ K := by
  refine call_rule (K := K) hspec pi (poF ph b n) q hg hop hc hfo hb hd' hargs hobj hndi (by simp [poF, hlen]) (ndL_of (fun x y k hx hy => ?_)) (poOk_of (fun j k hj => ?_)) ?_ (by rw [callF_eq hlen hlt]; exact hK)
  · rcases poF_get hx with ⟨a1, a2⟩ | ⟨a1, a2, a3⟩ <;> rcases poF_get hy with ⟨b1, b2⟩ | ⟨b1, b2, b3⟩
    · exact ndL_inj hndo a2 b2
    · have := hlt k (List.mem_of_getElem? a2); omega
    · have := hlt k (List.mem_of_getElem? b2); omega
    · omega
  · rcases poF_get hj with ⟨a1, a2⟩ | ⟨a1, a2, a3⟩
    · rcases poOk_get hpo j k a2 with g | ⟨g, t, c, ty, cs, ty', cs', g1, g2, g3, g4, g5⟩
      · exact .inl g
      · exact .inr ⟨g, t, c, ty, cs, ty', cs', g1, g2, g3, by rw [List.getElem?_append_left (by omega)]; exact g4, g5⟩
    · exact .inl (by omega)
  · rw [List.all_append, Bool.and_eq_true]
    refine ⟨hok, List.all_eq_true.2 fun x hx => ?_⟩
    obtain ⟨j, hj, rfl⟩ := List.getElem_of_mem hx
    rw [tab_len] at hj
    have := tab_get F hj
    rw [List.getElem?_eq_getElem (by simpa using hj)] at this
    injection this with this
    rw [this]
    exact hok2 j hj
/-- The end of a function that gives a list of objects and n more. -/
theorem resF {P : Program} {rs : List ResultVar} {res : AV} {hd : List AObj} {n : Nat} {F : Nat → AObj} {e : Exit} {σ : ASt} (mp : List (Nat × Option Nat)) (g : Nat → Nat) (he : e = .normal ∨ e = .ret) (hh : wkH σ (famM mp hd.length n g) (famU mp n g) (hd.length + n) (idxF 0 hd) mp) (hn : keysNd mp) (hg : wkPs σ.heap (famM mp hd.length n g) (famU mp n g) (hd.length + n) σ.gh σ.gh)
    (hF : ∀ j, j < n → unm mp (g j) ∧ wkO σ.heap (famM mp hd.length n g) (famU mp n g) (hd.length + n) (some (g j)) (F j)) (hi : ∀ i j, i < n → j < n → g i = g j → i = j) (l : List AV)
    (hm : match l, res with
      | [a], r => wkP σ.heap (famM mp hd.length n g) (famU mp n g) (hd.length + n) a r
      | l, .tup bs => l.length ≠ 1 ∧ wkPs σ.heap (famM mp hd.length n g) (famU mp n g) (hd.length + n) l bs
      | _, _ => False) (hl : resV P σ rs = some l) : ∃ m un, resG P rs res (hd ++ tab n F) m un e σ := by
  have hlen : (hd ++ tab n F).length = hd.length + n := by simp
  have hheap : ∀ id, (hd ++ tab n F)[id]? = famH (idxF 0 hd) hd.length n F id := fun id => by
    unfold famH
    rw [heapOf_idx]
    by_cases h1 : id < hd.length
    · rw [if_pos h1, List.getElem?_append_left h1]; simp
    · rw [if_neg h1, List.getElem?_append_right (by omega)]
      by_cases h2 : id - hd.length < n
      · rw [if_pos h2, tab_get _ h2]
      · rw [if_neg h2, tab_get_none _ (by omega)]
  have key := wk_fam_mp (σ := σ) (hl := idxF 0 hd) (base := hd.length) (n := n) (F := F) (nx := hd.length + n) mp g hh hn (fun j hj => ⟨by omega, hF j hj⟩) hi
  refine ⟨famM mp hd.length n g, famU mp n g, he, fun id o ho => ?_, ⟨fun h1 h2 => key.2.inj h1 h2, fun h => key.2.un h, fun {id} h => ?_⟩, by rw [hlen]; exact hg, l, hl, by rw [hlen]; exact hm⟩
  · rw [hlen]
    rw [hheap] at ho
    exact (key.1 id o ho).2
  · have h : (hd ++ tab n F)[id]? = none := h
    rw [hheap] at h
    exact key.2.no h
end Go.Proofs.Ytgghmjnbkbiffaa.M

namespace Go.Proofs.Ytgghmjnbkbiffaa.M
attribute [simp] KL_ap KD_ap awpL_nil awpL_cons awpD_nil awpD_cons Nat.blt_eq List.getElem?_cons_zero awpOp awpOpD wrE gd aop aBuiltin aNil aMin ASt.eval AV.ofV dstOk ASt.app Eff.heap dels upd_b aLoad aStore aField aFieldV aIndexAddr aIndex aSlice aSliceO aLen aBin iB sB aUn aConv aAlloc aBox aBuild afill avCells AV.leaf setR aBuildSlice frz frzL isOwn vecOf tsOf aMake srcOf aAppend aMkMap aMapUpd aLookup oint cut putL AObj.cnt mkS envOf_nil envOf_cons heapOf_nil heapOf_cons argS callS outV outVs outO heap2 addL delL
attribute [simp] wkE wkP wkPs wkH wkO keysNd unm mpOf_nil mpOf_cons ghA ghA1 resV idxF inPs inP inOs inO ndL okO mkF famM_at famM_lt famU famH_at famH_lt ovr_at ovr_lt
end Go.Proofs.Ytgghmjnbkbiffaa.M
