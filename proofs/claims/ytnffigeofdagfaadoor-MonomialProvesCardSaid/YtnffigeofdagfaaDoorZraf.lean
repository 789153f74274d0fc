/-
  My own logic, part 9c: copy into an own row of as many cells.
-/
import Derived.Test.YtnffigeofdagfaaDoorZrae
import Derived.Laws.CopyRow
import Derived.Laws.IdiomCopy
namespace Go.Proofs.YtnffigeofdagfaaDoor.M
open Go.RowKit
set_option linter.unusedVariables false

@[simp] def aCopy (P : Program) (i : Nat) (t : TypeId) (d x : AV) (H : Nat → Option AObj) : Option (Bool × Eff) :=
 match elOf P t with
 | some e => match szOf P e with
  | some s => match srcOf H 1 x with
   | some (b, q, ys, rd) => match d with
    | .own id c => match H id with
     | some (.row e' z p cs) => some (b && decide (s = 1) && decide (z = 1) && decide (cs.length = c) && decide (ys.length = cs.length), { val := .t 2 (.int .i64 ys.length), new := some (id, .row e' z (min p (lvs q ys)) ys), tch := id :: rd })
     | _ => none
    | _ => none
   | none => none
  | none => none
 | none => none
section
variable {w0 w : World} {V S0 U : Nat → Prop} {H : Nat → Option AObj} {ob : Nat → Option (Value × Nat)} {i : Nat} {P : Program}
theorem ok_copy {t t' : TypeId} {d x : AV} {vd vx : Value} {eff : Eff} {b : Bool} (he : aCopy P i t d x H = some (b, eff)) (hb : b = true) (h : MR w0 V S0 U H ob w) (hd : VR (evOf w0.heap.size V ob U w) vd d) (hx : VR (evOf w0.heap.size V ob U w) vx x) (ty : TypeId) :
  Good w0 V S0 U ob w i (eff.heap H) eff.val ((Builtin.copy_ #[t, t'] ty #[vd, vx] >>= fun v => pure (.value v) : Sem Next).run P w) := by
 subst hb
 unfold aCopy at he
 split at he
 ·rename_i e hel
  have hu := und_el hel
  split at he
  ·rename_i s hs
   split at he
   ·rename_i b q ys rd hsrc
    split at he
    ·rename_i id c
     split at he
     ·rename_i e' z p cs hH
      simp only [Option.some.injEq, Prod.mk.injEq, Bool.and_eq_true, decide_eq_true_eq] at he
      obtain ⟨⟨⟨⟨⟨h1, h2⟩, h3⟩, h4⟩, h5⟩, rfl⟩ := he
      subst h2 h3
      obtain ⟨inf, hi1, hi2⟩ := info_sz hs
      have hsz1 : (P.info? e).map (·.size) = some 1 := by rw [hi1]; simp [hi2]
      obtain ⟨a, m', sc, news, rfl, hnl, hny, hnone, hcell, hrr⟩ := src_ok hsrc h1 h hx
      obtain ⟨e1, e2⟩ := h.own hd hH h4
      obtain ⟨-, u, e3, hzp, hlv, m, vs, how, hlen, hr⟩ := h.obj id _ hH
      rw [e1] at e3
      simp only [Option.some.injEq, Prod.mk.injEq] at e3
      obtain ⟨rfl, -⟩ := e3
      have hvl : vs.length = m * 1 := how.1
      have hreps : ∀ (E' : Ev), Ext (evOf w0.heap.size V ob U w) E' → (∀ b o u, (evOf w0.heap.size V ob U w).mem (min p (lvs q ys)) b o = some u → E'.mem (min p (lvs q ys)) b o = some u) → ∀ (j : Nat) (c : T) (x : Value), ys[j]? = some c → news[j]? = some x → Rep (E'.mem (min p (lvs q ys))) x c := fun E' hx' _ j c x hj hxx => by
       have h6 := (hrr j c x hj hxx).lvs (M := (evOf w0.heap.size V ob U w).mem) hj
       exact h6.mono fun b o u hu => hx'.mem _ _ _ _ (memL_le (Nat.min_le_right p (lvs q ys)) b o u hu)
      rcases how.2 with ⟨rfl, rfl⟩ | ⟨g, cap, cur, rfl, hgb, hg, hnc, hcm, hcs, htake⟩
      ·have hy0 : ys = [] := List.eq_nil_of_length_eq_zero (by rw [h5, ← hlen]; omega)
       subst hy0
       have hrun := run_copy_none (P := P) w t t' ty e none a 0 0 m' sc hu hsz1 (by simp)
       simp only [Sem.run_bind, hrun, Result.andThen_ok, Sem.run_pure]
       refine Good.step h (.inl rfl) id (.slice none 0 0) (.row e' 1 (min p (lvs q [])) []) (Onl.refl _ _) (fun _ => ⟨_, _, e1, by simp [AObj.cnt] at h5 ⊢; omega, fun _ => rfl⟩) (fun k hk => (by cases hk)) (.inr e2) (fun hx' => ⟨hzp, (fun k hk => (by cases hk)), 0, vs, how, by simpa using hvl, (fun j c x hj _ => (by simp at hj))⟩) (fun _ => ?_)
       exact .mkInt _ 2 .i64 0
      ·have hm' : m' = m := by omega
       subst hm'
       have hcur : m' * 1 ≤ cur.size := by rw [hcs]; exact Nat.mul_le_mul_right 1 hnc
       have hnone1 : ∀ v ∈ news, v.oneCell' = true := fun v hv => by
        obtain ⟨j, hj, rfl⟩ := List.getElem_of_mem hv
        exact (hrr j (ys[j]'(by omega)) news[j] (by simp) (by simp)).one
       have hrun : (Builtin.copy_ #[t, t'] ty #[.slice (some ⟨g, 0, none⟩) m' cap, .slice a m' sc]).run P w = .ok (goInt news.length) (w.setRow g (cur.toList.take 0 ++ news ++ cur.toList.drop (0 + news.length)).toArray) := by
        cases a with
        | none =>
         have h0 := hnone rfl
         subst h0
         have hn0 : news = [] := List.eq_nil_of_length_eq_zero (by omega)
         subst hn0
         have := run_copy_none (P := P) w t t' ty e (some ⟨g, 0, none⟩) none 0 cap 0 sc hu hsz1 (by simp)
         rw [this]
         simp only [List.take_zero, List.nil_append, List.length_nil, Nat.add_zero, List.drop_zero, Array.toArray_toList]
         rw [setRow_self w g cur _ (0, 0) hg]
         rfl
        | some ad =>
         exact run_copy_row (P := P) w t t' ty e g 0 m' cap ad m' sc cur _ news hu hsz1 hg (by simp; omega) (hcell ad rfl) (by omega) hnone1
       simp only [Sem.run_bind, hrun, Result.andThen_ok, Sem.run_pure]
       refine Good.step h (.inl rfl) id (.slice (some ⟨g, 0, none⟩) m' cap) (.row e' 1 (min p (lvs q ys)) ys) ⟨rfl, rfl, rfl, by simp [World.setRow], fun k hk hn => setRow_other w g k _ (fun e => hn ⟨_, _, e1, by rw [e]; rfl⟩)⟩ (fun _ => ⟨_, _, e1, by simp [AObj.cnt]; omega, fun _ => rfl⟩) (fun k hk => .inl ⟨_, _, e1, hk⟩) (.inr e2) (fun hx' => ⟨hzp, fun k hk => lvl_le (hlv k hk) (Nat.min_le_left p (lvs q ys)), m', news, ?_, by omega, hreps _ hx' (fun b o u hu => hx'.mem _ _ _ _ hu)⟩) (fun _ => ?_)
       ·refine ⟨by omega, .inr ⟨g, cap, _, rfl, by omega, setRow_heap w g cur _ _ _ hg, hnc, hcm, ?_, ?_⟩⟩
        ·simp only [List.size_toArray, List.length_append, List.length_take, List.length_drop, Array.length_toList]
         omega
        ·rw [show m' * 1 = news.length by omega]
         simp
       ·rw [show news.length = ys.length from hny]
        exact .mkInt _ 2 .i64 _
     ·cases he
    ·cases he
   ·cases he
  ·cases he
 ·cases he
end
end Go.Proofs.YtnffigeofdagfaaDoor.M
