/-
  My own logic, part 9d: clear of an own row with one cell for each element.
-/
import Derived.Test.YtnffigeofdagfaaDoorZraf
import Derived.Lib.SliceRun
namespace Go.Proofs.YtnffigeofdagfaaDoor.M
open Go.RowKit
set_option linter.unusedVariables false

@[simp] def aClear (P : Program) (t : TypeId) (d : AV) (H : Nat → Option AObj) : Option (Bool × Eff) :=
 match elOf P t with
 | some e => match zeroOf P e with
  | some [z0] => match d with
   | .own id c => match H id with
    | some (.row e' z p cs) => some (decide (z = 1) && decide (cs.length = c), { val := .tup [], new := some (id, .row e' z p (List.replicate cs.length z0)), tch := [id] })
    | _ => none
   | _ => none
  | _ => none
 | none => none
section
variable {w0 w : World} {V S0 U : Nat → Prop} {H : Nat → Option AObj} {ob : Nat → Option (Value × Nat)} {i : Nat} {P : Program}
theorem ok_clear {t : TypeId} {d : AV} {vd : Value} {eff : Eff} {b : Bool} (he : aClear P t d H = some (b, eff)) (hb : b = true) (h : MR w0 V S0 U H ob w) (hd : VR (evOf w0.heap.size V ob U w) vd d) (ty : TypeId) :
  Good w0 V S0 U ob w i (eff.heap H) eff.val ((Builtin.clear_ #[t] ty #[vd] >>= fun v => pure (.value v) : Sem Next).run P w) := by
 subst hb
 unfold aClear at he
 split at he
 ·rename_i e hel
  have hu := und_el hel
  split at he
  ·rename_i z0 hz
   split at he
   ·rename_i id c
    split at he
    ·rename_i e' z p cs hH
     simp only [Option.some.injEq, Prod.mk.injEq, Bool.and_eq_true, decide_eq_true_eq] at he
     obtain ⟨⟨h1, h2⟩, rfl⟩ := he
     subst h1
     obtain ⟨e1, e2⟩ := h.own hd hH h2
     obtain ⟨-, u, e3, hzp, hlv, m, vs, how, hlen, hr⟩ := h.obj id _ hH
     rw [e1] at e3
     simp only [Option.some.injEq, Prod.mk.injEq] at e3
     obtain ⟨rfl, -⟩ := e3
     have hvl : vs.length = m * 1 := how.1
     obtain ⟨zv, v0, hzrun, hzc, hz1, hzr⟩ : ∃ zv v0, (∀ w, (zeroValue e).run P w = .ok zv w) ∧ zv.cells = #[v0] ∧ v0.oneCell' = true ∧ ∀ m', Rep m' v0 z0 := by
      unfold zeroOf at hz
      cases hq : P.info? e with
      | none => rw [hq] at hz; cases hz
      | some inf =>
       rw [hq] at hz
       simp only [Option.bind_some] at hz
       cases hq2 : inf.zero with
       | none => rw [hq2] at hz; cases hz
       | some zv =>
        rw [hq2] at hz
        simp only [Option.bind_some] at hz
        obtain ⟨hl0, hg0⟩ := vTs_get hz
        obtain ⟨v0, hv0, hvt⟩ := hg0 0 z0 rfl
        have hv1 : zv.cells.toList = [v0] := by
         cases hq3 : zv.cells.toList with
         | nil => rw [hq3] at hl0; cases hl0
         | cons a r =>
          rw [hq3] at hl0 hv0
          have : r = [] := List.eq_nil_of_length_eq_zero (by simpa using hl0)
          subst this
          simp only [List.getElem?_cons_zero, Option.some.injEq] at hv0
          rw [hv0]
        have hone := (Rep.vT (m := fun _ _ => none) hvt).one
        exact ⟨zv, v0, fun w => by simp [zeroValue, typeInfo, hq, hq2], by rw [← Array.toArray_toList (xs := zv.cells), hv1], hone, fun m' => Rep.vT hvt⟩
     have hrep : ∀ (M : Mem) (j : Nat) c x, (List.replicate cs.length z0)[j]? = some c → (List.replicate m v0)[j]? = some x → Rep M x c := fun M j c x hj hx => by
      rw [List.getElem?_replicate] at hj hx
      split at hj
      ·split at hx
       ·injection hj with hj; injection hx with hx; subst hj; subst hx; exact hzr M
       ·cases hx
      ·cases hj
     have hm : m = cs.length := by omega
     rcases how.2 with ⟨rfl, rfl⟩ | ⟨g, cap, cur, rfl, hgb, hg, hnc, hcm, hcs, htake⟩
     ·have hrun : (Builtin.clear_ #[t] ty #[.slice none 0 0]).run P w = .ok (.tuple #[]) w := by
       simp [Builtin.clear_, run_underlying hu]
      simp only [Sem.run_bind, hrun, Result.andThen_ok, Sem.run_pure]
      refine Good.step h (.inl rfl) id (.slice none 0 0) (.row e' 1 p (List.replicate cs.length z0)) (Onl.refl _ _) (fun _ => ⟨_, _, e1, by simp [AObj.cnt]; omega, fun _ => rfl⟩) (fun k hk => (by cases hk)) (.inr e2) (fun hx' => ⟨hzp, (fun k hk => (by cases hk)), 0, [], ⟨by simp, .inl ⟨rfl, rfl⟩⟩, by simp; omega, (fun j c x hj hxx => (by simp at hxx))⟩) (fun _ => ?_)
      exact .tup _ _ rfl (fun j c hj => by simp at hj)
     ·by_cases hm0 : m = 0
      ·subst hm0
       have hrun : (Builtin.clear_ #[t] ty #[.slice (some ⟨g, 0, none⟩) 0 cap]).run P w = .ok (.tuple #[]) w := by
        simp [Builtin.clear_, run_underlying hu]
       simp only [Sem.run_bind, hrun, Result.andThen_ok, Sem.run_pure]
       refine Good.step h (.inl rfl) id (.slice (some ⟨g, 0, none⟩) 0 cap) (.row e' 1 p (List.replicate cs.length z0)) (Onl.refl _ _) (fun _ => ⟨_, _, e1, by simp [AObj.cnt]; omega, fun _ => rfl⟩) (fun k hk => .inl ⟨_, _, e1, hk⟩) (.inr e2) (fun hx' => ⟨hzp, hlv, 0, [], ⟨by simp, .inr ⟨g, cap, cur, rfl, hgb, hg, hnc, hcm, hcs, by simp⟩⟩, by simp; omega, (fun j c x hj hxx => (by simp at hxx))⟩) (fun _ => ?_)
       exact .tup _ _ rfl (fun j c hj => by simp at hj)
      ·have hcur : m * 1 ≤ cur.size := by rw [hcs]; exact Nat.mul_le_mul_right 1 hnc
       have hst := run_storeCells_at (P := P) g 0 _ (List.replicate m v0) 0 cur w hg (by simp; omega) (fun v hv => by rw [(List.mem_replicate.1 hv).2]; exact hz1)
       have hzcs : (Builtin.zeroCells zv.cells m).toList = List.replicate m v0 := by
        rw [hzc]
        simp [Builtin.zeroCells]
        apply List.ext_getElem
        ·simp
        ·intro i h1 h2
         simp [Nat.mod_one]
       have hrun : (Builtin.clear_ #[t] ty #[.slice (some ⟨g, 0, none⟩) m cap]).run P w = .ok (.tuple #[]) (w.setRow g (cur.toList.take (0 + 0) ++ List.replicate m v0 ++ cur.toList.drop (0 + 0 + (List.replicate m v0).length)).toArray) := by
        unfold Builtin.clear_
        simp only [List.getElem?_toArray, List.getElem?_cons_zero, Sem.run_bind, run_underlying hu, Result.andThen_ok]
        obtain ⟨m', rfl⟩ : ∃ m', m = m' + 1 := ⟨m - 1, by omega⟩
        simp only [hzrun, Result.andThen_ok, hzcs, hst, Sem.run_pure]
       simp only [Sem.run_bind, hrun, Result.andThen_ok, Sem.run_pure]
       refine Good.step h (.inl rfl) id (.slice (some ⟨g, 0, none⟩) m cap) (.row e' 1 p (List.replicate cs.length z0)) ⟨rfl, rfl, rfl, by simp [World.setRow], fun k hk hn => setRow_other w g k _ (fun e => hn ⟨_, _, e1, by rw [e]; rfl⟩)⟩ (fun _ => ⟨_, _, e1, by simp [AObj.cnt]; omega, fun _ => rfl⟩) (fun k hk => .inl ⟨_, _, e1, hk⟩) (.inr e2) (fun hx' => ⟨hzp, hlv, m, List.replicate m v0, ?_, by simp; omega, hrep _⟩) (fun _ => ?_)
       ·refine ⟨by simp, .inr ⟨g, cap, _, rfl, by omega, setRow_heap w g cur _ _ _ hg, hnc, hcm, ?_, ?_⟩⟩
        ·simp only [List.size_toArray, List.length_append, List.length_take, List.length_drop, Array.length_toList, List.length_replicate]
         omega
        ·simp
       ·exact .tup _ _ rfl (fun j c hj => by simp at hj)
    ·cases he
   ·cases he
  ·cases he
 ·cases he
end
end Go.Proofs.YtnffigeofdagfaaDoor.M
