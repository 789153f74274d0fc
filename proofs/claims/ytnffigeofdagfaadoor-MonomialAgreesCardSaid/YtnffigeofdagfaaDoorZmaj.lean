/-
  Drawn regions in which fields of a variable are pointed to while others are stored: the shape of the variable does not turn.
-/
import Derived.Test.YtnffigeofdagfaaDoorZmah
namespace Go.Proofs.YtnffigeofdagfaaDoor.M
open Go.RowKit
set_option linter.unusedVariables false

def sameB : Option AObj → Option AObj → Bool
 | some (.box ty cs), some (.box ty' ds) => decide (ty = ty') && decide (cs.length = ds.length)
 | _, _ => false
def okH : List Nat → (Nat → Option AObj) → (Nat → Option AObj) → Bool
 | [], _, _ => true
 | k :: r, H, H' => sameB (H k) (H' k) && okH r H H'
theorem okH_get {S : List Nat} {H H' : Nat → Option AObj} (h : okH S H H' = true) {k : Nat} (hk : k ∈ S) : sameB (H k) (H' k) = true := by
 induction S with
 | nil => cases hk
 | cons a r ih =>
  simp only [okH, Bool.and_eq_true] at h
  rcases List.mem_cons.1 hk with rfl | hk
  ·exact h.1
  ·exact ih h.2 hk
theorem sameB_get {a b : Option AObj} (h : sameB a b = true) : ∃ ty cs ds, a = some (.box ty cs) ∧ b = some (.box ty ds) ∧ cs.length = ds.length := by
 unfold sameB at h
 split at h
 ·simp only [Bool.and_eq_true, decide_eq_true_eq] at h
  obtain ⟨rfl, h2⟩ := h
  exact ⟨_, _, _, rfl, rfl, h2⟩
 ·cases h
theorem sameB_trans {a b c : Option AObj} (h : sameB a b = true) (k : sameB b c = true) : sameB a c = true := by
 obtain ⟨ty, cs, ds, rfl, rfl, h1⟩ := sameB_get h
 obtain ⟨ty', cs', ds', h2, rfl, h3⟩ := sameB_get k
 simp only [Option.some.injEq, AObj.box.injEq] at h2
 obtain ⟨rfl, rfl⟩ := h2
 simp [sameB, h1, h3]
theorem sameB_symm {a b : Option AObj} (h : sameB a b = true) : sameB b a = true := by
 obtain ⟨ty, cs, ds, rfl, rfl, h1⟩ := sameB_get h
 simp [sameB, h1]
def isShO : Op → Bool
 | .nilCheck _ => true
 | .fieldAddr _ _ _ => true
 | .indexAddr _ _ _ => true
 | _ => false
def outS (S tch : List Nat) : List Nat := tch.filter fun k => !S.contains k
def tchS (S : List Nat) (op : Op) (tch : List Nat) : List Nat := if isShO op = true then outS S tch else tch
section
variable {P : Program} {i : Nat} {H H2 : Nat → Option AObj} {c : Bool} {eff : Eff} {S : List Nat}
theorem shape_id {id : Nat} (hS : ∀ k, k ∈ S → sameB (H k) (H2 k) = true) (hH : id ∉ S → H2 id = H id) : (∃ o, H id = some o) → ∃ o o2, H id = some o ∧ H2 id = some o2 ∧ o.cnt = o2.cnt ∧ (id ∉ S → o2 = o) ∧ (id ∈ S → ∃ ty cs, o = .box ty cs) := by
 rintro ⟨o, ho⟩
 by_cases h : id ∈ S
 ·obtain ⟨ty, cs, ds, h1, h2, h3⟩ := sameB_get (hS id h)
  rw [ho] at h1
  injection h1 with h1
  subst h1
  exact ⟨_, _, ho, h2, by simp [AObj.cnt, h3], fun hn => absurd h hn, fun _ => ⟨ty, cs, rfl⟩⟩
 ·exact ⟨o, o, ho, by rw [hH h]; exact ho, rfl, fun _ => rfl, fun hn => absurd hn h⟩
theorem out_mem {k : Nat} {tch : List Nat} (h1 : k ∈ tch) (h2 : k ∉ S) : k ∈ outS S tch := by
 unfold outS
 rw [List.mem_filter]
 exact ⟨h1, by simpa using h2⟩
theorem aNil_shape {x : AV} (he : aNil x H = some (c, eff)) (hS : ∀ k, k ∈ S → sameB (H k) (H2 k) = true) (hH : ∀ k, k ∈ outS S eff.tch → H2 k = H k) : aNil x H2 = some (c, eff) := by
 unfold aNil at he ⊢
 split at he
 ·rename_i id off c'
  split at he
  ·rename_i o ho
   simp only [Option.some.injEq, Prod.mk.injEq] at he
   obtain ⟨h1, rfl⟩ := he
   obtain ⟨o1, o2, g1, g2, g3, -, -⟩ := shape_id hS (fun hn => hH id (out_mem (by simp) hn)) ⟨o, ho⟩
   rw [ho] at g1
   injection g1 with g1
   subst g1
   simp only [g2, ← g3, h1]
  ·cases he
 ·exact he
 ·exact he
 ·cases he
theorem aField_shape {s f : Nat} {x : AV} (he : aField P s f x H = some (c, eff)) (hS : ∀ k, k ∈ S → sameB (H k) (H2 k) = true) (hH : ∀ k, k ∈ outS S eff.tch → H2 k = H k) : aField P s f x H2 = some (c, eff) := by
 unfold aField at he ⊢
 split at he
 ·rename_i o sz a id off c' hf
  split at he
  ·rename_i ob ho
   simp only [Option.some.injEq, Prod.mk.injEq] at he
   obtain ⟨h1, rfl⟩ := he
   obtain ⟨o1, o2, g1, g2, g3, -, -⟩ := shape_id hS (fun hn => hH id (out_mem (by simp) hn)) ⟨ob, ho⟩
   rw [ho] at g1
   injection g1 with g1
   subst g1
   simp only [g2, ← g3, h1]
  ·cases he
 ·exact he
 ·cases he
theorem aIndexAddr_shape {t : TypeId} {x ix : AV} (he : aIndexAddr P t x ix H = some (c, eff)) (hS : ∀ k, k ∈ S → sameB (H k) (H2 k) = true) (hH : ∀ k, k ∈ outS S eff.tch → H2 k = H k) : aIndexAddr P t x ix H2 = some (c, eff) := by
 by_cases hq : ∀ k, k ∈ eff.tch → k ∉ S
 ·exact aIndexAddr_local he (fun k hk => hH k (out_mem hk (hq k hk)))
 ·unfold aIndexAddr at he ⊢
  split at he
  ·rename_i e hel
   exfalso
   apply hq
   intro k hk hkS
   obtain ⟨ty, cs, ds, g1, g2, g3⟩ := sameB_get (hS k hkS)
   split at he
   ·split at he
    ·simp only [Option.some.injEq, Prod.mk.injEq] at he; obtain ⟨-, rfl⟩ := he; simp at hk
    ·simp only [Option.some.injEq, Prod.mk.injEq] at he; obtain ⟨-, rfl⟩ := he; simp at hk
   ·split at he
    ·rename_i hh; simp only [Option.some.injEq, Prod.mk.injEq] at he; obtain ⟨-, rfl⟩ := he
     simp only [List.mem_singleton] at hk; subst hk; rw [g1] at hh; cases hh
    ·rename_i hh; simp only [Option.some.injEq, Prod.mk.injEq] at he; obtain ⟨-, rfl⟩ := he
     simp only [List.mem_singleton] at hk; subst hk; rw [g1] at hh; cases hh
    ·cases he
   ·split at he
    ·rename_i hh; simp only [Option.some.injEq, Prod.mk.injEq] at he; obtain ⟨-, rfl⟩ := he
     simp only [List.mem_singleton] at hk; subst hk; rw [g1] at hh; cases hh
    ·cases he
   ·cases he
  ·rename_i hel
   split at he
   ·rename_i n e har
    split at he
    ·rename_i s id off c' q k j hs
     split at he
     ·rename_i ob ho
      simp only [Option.some.injEq, Prod.mk.injEq] at he
      obtain ⟨h1, rfl⟩ := he
      obtain ⟨o1, o2, g1, g2, g3, -, -⟩ := shape_id hS (fun hn => hH id (out_mem (by simp) hn)) ⟨ob, ho⟩
      rw [ho] at g1
      injection g1 with g1
      subst g1
      simp only [g2, ← g3, h1]
     ·cases he
    ·exact he
    ·cases he
   ·cases he
theorem aop_shape {op : Op} {ev ev2 : Operand → AV} (he : aop P i op ev H = some (c, eff)) (hop : isShO op = true) (hev : ∀ x, x ∈ op.operands → ev2 x = ev x) (hS : ∀ k, k ∈ S → sameB (H k) (H2 k) = true) (hH : ∀ k, k ∈ outS S eff.tch → H2 k = H k) : aop P i op ev2 H2 = some (c, eff) := by
 cases op <;> simp only [isShO] at hop <;> first | (cases hop; done) | skip
 case nilCheck x =>
  simp only [aop] at he ⊢
  rw [hev x (by simp [Op.operands])]
  exact aNil_shape he hS hH
 case fieldAddr s x f =>
  simp only [aop] at he ⊢
  rw [hev x (by simp [Op.operands])]
  exact aField_shape he hS hH
 case indexAddr t x ix =>
  simp only [aop] at he ⊢
  rw [hev x (by simp [Op.operands]), hev ix (by simp [Op.operands])]
  exact aIndexAddr_shape he hS hH
end
def JS (S : List Nat) (H : Nat → Option AObj) (σ : ASt) : Prop := ∀ k, k ∈ S → sameB (H k) (σ.heap k) = true
def awpOpDS (P : Program) (ops : Array Oper) (S : List Nat) (i : Nat) (o : Oper) (σ : ASt) (K : ASt → List Nat × List Nat → Prop) : Prop := match gd ops σ o with
 | some true => match aop P i o.op σ.eval σ.heap with
  | some (c, eff) => c = true ∧ dstOk σ o = true ∧ okH S σ.heap (σ.app o.dst eff).heap = true ∧ K (σ.app o.dst eff) (tchS S o.op eff.tch ++ wrE eff, wrE eff)
  | none => awpCallD P ops i o σ (fun σ' s => okH S σ.heap σ'.heap = true ∧ K σ' s)
 | some false => dstOk σ o = true ∧ okH S σ.heap σ.heap = true ∧ K (σ.app o.dst { val := .tup [] }) ([], [])
 | none => False
def awpDS (P : Program) (ops : Array Oper) (S : List Nat) (N : Nat) : List Oper → Nat → ASt → List (List Nat × List Nat) → (ASt → Prop) → Prop
 | [], k, σ, sm, K => chkD ops sm = true ∧ K { σ with nxt := N + k }
 | o :: r, k, σ, sm, K => awpOpDS P ops S (N + k) o σ (fun σ' s => awpDS P ops S N r (k + 1000000) σ' (sm ++ [s]) K)
theorem okH_all {S : List Nat} {H H' : Nat → Option AObj} (h : okH S H H' = true) : ∀ k, k ∈ S → sameB (H k) (H' k) = true := fun k hk => okH_get h hk
theorem awpOpDS_sound {P : Program} {ops : Array Oper} {S : List Nat} {i : Nat} {o : Oper} {σ : ASt} {H0 : Nat → Option AObj} {K : ASt → List Nat × List Nat → Prop} (hJ : JS S H0 σ) (h : awpOpDS P ops S i o σ K) : ∃ l, LocJ (JS S H0) P ops i o σ l ∧ okH S σ.heap (appU σ o.dst l).heap = true ∧ K (appU σ o.dst l) (l.tch ++ l.ups.map (·.1), l.ups.map (·.1)) := by
 unfold awpOpDS at h
 split at h
 ·rename_i hg
  split at h
  ·rename_i c eff he
   obtain ⟨h1, h2, h3, h4⟩ := h
   refine ⟨⟨eff.val, effU eff, tchS S o.op eff.tch⟩, fun σ2 q0 q1 q2 q3 => ?_, ?_, ?_⟩
   ·have he2 : aop P i o.op σ2.eval σ2.heap = some (c, eff) := by
     by_cases hsh : isShO o.op = true
     ·refine aop_shape (S := S) he hsh (eval_local q1) (fun k hk => sameB_trans (sameB_symm (hJ k hk)) (q0 k hk)) (fun k hk => q2 k ?_)
      show k ∈ tchS S o.op eff.tch
      unfold tchS
      rw [if_pos hsh]; exact hk
     ·refine aop_local he (eval_local q1) (fun k hk => q2 k ?_)
      show k ∈ tchS S o.op eff.tch
      unfold tchS
      rw [if_neg hsh]; exact hk
    have hap : appU σ2 o.dst ⟨eff.val, effU eff, tchS S o.op eff.tch⟩ = σ2.app o.dst eff := by rw [app_appU]; rfl
    rw [hap]
    intro w0 V S0 gv U a w hR hi K' Q hK
    have hR' := hR
    obtain ⟨ob, m1, m2, m3, m4, m5⟩ := hR'
    rw [if_pos (gd_wanted (by rw [gd_local q1 q3]; exact hg) m2 m4)]
    exact hR.good (by rw [dstOk_local q3]; exact h2) (fun ob m1 m2 => aop_ok he2 h1 m1 (hi i (Nat.le_refl _) (by omega)) (fun x => VR.eval m1.glE m2 x)) hK
   ·have hap : appU σ o.dst ⟨eff.val, effU eff, tchS S o.op eff.tch⟩ = σ.app o.dst eff := by rw [app_appU]; rfl
    rw [hap]; exact h3
   ·have hap : appU σ o.dst ⟨eff.val, effU eff, tchS S o.op eff.tch⟩ = σ.app o.dst eff := by rw [app_appU]; rfl
    rw [hap]
    show K _ (tchS S o.op eff.tch ++ (effU eff).map (·.1), (effU eff).map (·.1))
    rw [effU_keys]; exact h4
  ·obtain ⟨l, h1, h2, h3⟩ := h
   exact ⟨l, h1.J, h2, h3⟩
 ·rename_i hg
  have hc : awpOpD P ops i o σ (fun σ' s => K σ' s) := by
   unfold awpOpD
   rw [hg]
   exact ⟨h.1, h.2.2⟩
  refine ⟨⟨.tup [], [], []⟩, fun σ2 q0 q1 q2 q3 => ?_, ?_, ?_⟩
  ·have e : appU σ2 o.dst ⟨.tup [], [], []⟩ = σ2.app o.dst { val := .tup [] } := by rw [app_appU]; rfl
   rw [e]
   intro w0 V S0 gv U a w hR hi K' Q hK
   obtain ⟨ob, m1, m2, m3, m4, m5⟩ := hR
   rw [if_neg (by rw [gd_wanted (by rw [gd_local q1 q3]; exact hg) m2 m4]; simp)]
   refine hK _ _ ?_
   obtain ⟨h5, h6⟩ := m1.used (U' := fun k => U k ∨ (i ≤ k ∧ k < i + 1000000)) (fun k hk => .inl hk)
   exact RelU.putv (σ := σ2) (o := o) (v := undef) (x := .tup []) h5 (fun t => (m2 t).ext h6) m3 m4 (m5.ext h6) (by rw [dstOk_local q3]; exact h.1) (.tup #[] [] rfl (fun i c h => by simp at h))
  ·exact h.2.1
  ·have e : appU σ o.dst ⟨.tup [], [], []⟩ = σ.app o.dst { val := .tup [] } := by rw [app_appU]; rfl
   rw [e]
   exact h.2.2
 ·exact h.elim
theorem JS_app {S : List Nat} {H0 : Nat → Option AObj} {σ σ2 : ASt} {d d2 : Option Tmp} {l : LE} (hJ : JS S H0 σ) (hok : okH S σ.heap (appU σ d l).heap = true) (h2 : JS S H0 σ2) : JS S H0 (appU σ2 d2 l) := fun k hk => by
 show sameB _ ((lk l.ups k).getD (σ2.heap k)) = true
 cases hq : lk l.ups k with
 | none => exact h2 k hk
 | some x =>
  have h3 := okH_get hok hk
  have h3 : sameB (σ.heap k) ((lk l.ups k).getD (σ.heap k)) = true := h3
  rw [hq] at h3
  exact sameB_trans (hJ k hk) h3
theorem listDS_sound {P : Program} {ops : Array Oper} {S : List Nat} {N : Nat} {σ0 : ASt} {H0 : Nat → Option AObj} {K : ASt → Prop} : ∀ (l : List Oper) (les : List LE) (sm : List (List Nat × List Nat)) (σ : ASt), awpDS P ops S N l (1000000 * les.length) σ sm K → les.length ≤ ops.size → (∀ j, ops[les.length + j]? = l[j]?) → σ = foldS ops (leL les) σ0 (fun _ => true) les.length → JS S H0 σ →
  (∀ j, j < les.length → ∀ σ2 d, JS S H0 σ2 → JS S H0 (appU σ2 d (leL les j))) →
  (∀ j o, j < les.length → ops[j]? = some o → LocJ (JS S H0) P ops (N + 1000000 * j) o (foldS ops (leL les) σ0 (fun _ => true) j) (leL les j)) → sm.length = les.length → (∀ j, j < les.length → sm.getD j ([], []) = ((leL les j).tch ++ (leL les j).ups.map (·.1), (leL les j).ups.map (·.1))) →
  ∃ les' sm', les'.length = ops.size ∧ K { foldS ops (leL les') σ0 (fun _ => true) ops.size with nxt := N + 1000000 * ops.size } ∧ chkD ops sm' = true ∧ (∀ j, j < ops.size → sm'.getD j ([], []) = ((leL les' j).tch ++ (leL les' j).ups.map (·.1), (leL les' j).ups.map (·.1))) ∧ (∀ j, j < ops.size → ∀ σ2 d, JS S H0 σ2 → JS S H0 (appU σ2 d (leL les' j))) ∧ ∀ j o, ops[j]? = some o → LocJ (JS S H0) P ops (N + 1000000 * j) o (foldS ops (leL les') σ0 (fun _ => true) j) (leL les' j)
 | [], les, sm, σ, h, hle, hops, hσ, hJ, hap, hloc, hsl, hsm => by
  have hsz : les.length = ops.size := by
   have h1 := hops 0
   simp at h1
   omega
  obtain ⟨h1, h2⟩ := h
  refine ⟨les, sm, hsz, ?_, h1, fun j hj => hsm j (by omega), fun j hj => hap j (by omega), fun j o ho => hloc j o (by rw [hsz]; exact (Array.getElem?_eq_some_iff.1 ho).1) ho⟩
  rw [← hsz, ← hσ]
  exact h2
 | o :: r, les, sm, σ, h, hle, hops, hσ, hJ, hap, hloc, hsl, hsm => by
  obtain ⟨l, h1, hok, h2⟩ := awpOpDS_sound hJ h
  have ho : ops[les.length]? = some o := by simpa using hops 0
  have hlen : (les ++ [l]).length = les.length + 1 := by simp
  have hfold : ∀ n, n ≤ les.length → foldS ops (leL (les ++ [l])) σ0 (fun _ => true) n = foldS ops (leL les) σ0 (fun _ => true) n := fun n hn => foldS_le n (fun j hj => leL_app (by omega))
  have hlt := (Array.getElem?_eq_some_iff.1 ho).1
  refine listDS_sound r (les ++ [l]) (sm ++ [(l.tch ++ l.ups.map (·.1), l.ups.map (·.1))]) (appU σ o.dst l) ?_ (by rw [hlen]; omega) (fun j => ?_) ?_ (JS_app hJ hok hJ) (fun j hj => ?_) (fun j o' hj hoj => ?_) (by simp [hsl]) (fun j hj => ?_)
  ·rw [hlen, show 1000000 * (les.length + 1) = 1000000 * les.length + 1000000 by omega]
   exact h2
  ·rw [hlen, show les.length + 1 + j = les.length + (j + 1) by omega, hops (j + 1)]
   simp
  ·rw [hlen]
   show _ = if true = true then _ else _
   rw [if_pos rfl, hfold _ (Nat.le_refl _), leL_new, ← hσ]
   unfold dstA
   rw [ho]
   rfl
  ·rw [hlen] at hj
   by_cases e : j < les.length
   ·rw [leL_app e]; exact hap j e
   ·obtain rfl : j = les.length := by omega
    rw [leL_new]
    exact fun σ2 d h2 => JS_app hJ hok h2
  ·rw [hlen] at hj
   rw [hfold j (by omega)]
   by_cases e : j < les.length
   ·rw [leL_app e]; exact hloc j o' e hoj
   ·obtain rfl : j = les.length := by omega
    rw [ho] at hoj
    injection hoj with hoj
    subst hoj
    rw [leL_new, ← hσ]
    exact h1
  ·rw [hlen] at hj
   by_cases e : j < les.length
   ·rw [leL_app e, List.getD_eq_getElem?_getD, List.getElem?_append_left (by omega), ← List.getD_eq_getElem?_getD]
    exact hsm j e
   ·obtain rfl : j = les.length := by omega
    rw [leL_new, List.getD_eq_getElem?_getD, List.getElem?_append_right (by omega)]
    simp [hsl]
theorem awp_regionDS {P : Program} {Q : Exit → ASt → Prop} {σ : ASt} {id : Nat} {ops : Array Oper} (S : List Nat) (hm : P.follows .mixedOrders = true) (hS : okH S σ.heap σ.heap = true) (h : awpDS P ops S σ.nxt ops.toList 0 σ [] (Q .normal)) : awp P (.region id ops true) Q σ := by
 obtain ⟨les, sm, h1, h2, h3, h4, h6, h5⟩ := listDS_sound (σ0 := σ) (H0 := σ.heap) ops.toList [] [] σ h (by simp) (fun j => by simp) rfl (okH_all hS) (fun j hj => by simp at hj) (fun j o hj => by simp at hj) rfl (fun j hj => by simp at hj)
 refine drawn_run hm h2 h3 h4 (J := JS S σ.heap) (fun L => ?_) h5
 have H : ∀ n, n ≤ ops.size → JS S σ.heap (foldS ops (leL les) σ L n) := by
  intro n
  induction n with
  | zero => intro _; exact okH_all hS
  | succ n ih =>
   intro hn
   unfold foldS
   split
   ·exact h6 n (by omega) _ _ (ih (by omega))
   ·exact ih (by omega)
 exact H _ (Nat.le_refl _)
theorem awp_RDS {P : Program} {Q : Exit → ASt → Prop} {σ : ASt} {id : Nat} {ops : Array Oper} (S : List Nat) (hm : P.follows .mixedOrders = true) (hS : okH S σ.heap σ.heap = true) (h : ∀ K : ASt → Prop, (∀ σ', Q .normal σ' → K σ') → awpDS P ops S σ.nxt ops.toList 0 σ [] K) : awp P (.region id ops true) Q σ :=
 awp_regionDS S hm hS (h _ (fun _ h => h))
def KDS (P : Program) (ops : Array Oper) (S : List Nat) (N : Nat) (r : List Oper) (k : Nat) (sm : List (List Nat × List Nat)) (K : ASt → Prop) : ASt → List Nat × List Nat → Prop := fun σ s => awpDS P ops S N r k σ (sm ++ [s]) K
theorem KDS_ap (P : Program) (ops : Array Oper) (S : List Nat) (N : Nat) (r : List Oper) (k : Nat) (sm : List (List Nat × List Nat)) (K : ASt → Prop) (σ : ASt) (s : List Nat × List Nat) : KDS P ops S N r k sm K σ s = awpDS P ops S N r k σ (sm ++ [s]) K := rfl
theorem awpDS_nil (P : Program) (ops : Array Oper) (S : List Nat) (N k : Nat) (σ : ASt) (sm : List (List Nat × List Nat)) (K : ASt → Prop) : awpDS P ops S N [] k σ sm K = (chkD ops sm = true ∧ K { σ with nxt := N + k }) := rfl
theorem awpDS_cons (P : Program) (ops : Array Oper) (S : List Nat) (N k : Nat) (o : Oper) (r : List Oper) (σ : ASt) (sm : List (List Nat × List Nat)) (K : ASt → Prop) : awpDS P ops S N (o :: r) k σ sm K = awpOpDS P ops S (N + k) o σ (KDS P ops S N r (k + 1000000) sm K) := rfl
end Go.Proofs.YtnffigeofdagfaaDoor.M
