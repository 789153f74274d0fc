/-
  Walk in my logic: the reader of the reference of layer 28: factor.
-/
import Derived.Test.YtghnmmfkckneaaaZraj
namespace Go.Proofs.Ytghnmmfkckneaaa.M
open Go.RowKit
set_option linter.unusedVariables false
set_option linter.unusedSimpArgs false

theorem Wk.trans {a b c : ASt} (h : Wk a b) (k : Wk b c) : Wk a c := fun w0 V S0 gv x w hr => k w0 V S0 gv x w (h w0 V S0 gv x w hr)
/-- What a variable holds may be read in other words. -/
theorem Wk.box {σ : ASt} {id ty : Nat} {cs cs' : List AV} (h : σ.heap id = some (.box ty cs)) (hu : ups cs cs') : Wk σ { σ with heap := upd σ.heap id (some (.box ty cs')) } := by
  intro w0 V S0 gv a w hR
  obtain ⟨ob, m, hrest⟩ := hR
  refine ⟨ob, ⟨fun i u n hi => ?_, fun i o hi => ?_, m.sep, m.new, m.only⟩, hrest⟩
  · obtain ⟨o, h1, h2⟩ := m.live i u n hi
    by_cases e : i = id
    · subst e
      rw [h] at h1
      injection h1 with h1
      subst h1
      exact ⟨.box ty cs', upd_same _ _ _, by rw [h2]; simp [ups_len hu]⟩
    · exact ⟨o, by show upd σ.heap id _ i = _; rw [upd_ne _ _ e]; exact h1, h2⟩
  · have hi : upd σ.heap id (some (.box ty cs')) i = some o := hi
    by_cases e : i = id
    · subst e
      rw [upd_same] at hi
      injection hi with hi
      subst hi
      obtain ⟨h1, u, h2, b, vs, rfl, h4, h5⟩ := m.obj i _ h
      exact ⟨h1, _, by rw [h2]; simp [ups_len hu], b, vs, rfl, h4, h5.upA hu⟩
    · rw [upd_ne _ _ e] at hi
      exact m.obj i o hi
theorem heap_upd3 {α β : AObj} {x y : AObj} : upd (heapOf [(0, α), (1, β), (2, x)]) 2 (some y) = heapOf [(0, α), (1, β), (2, y)] := by
  funext k
  by_cases h : k = 2
  · subst h; rw [upd_same]; rfl
  · rw [upd_ne _ _ h]
    by_cases h0 : k = 0
    · subst h0; rfl
    · by_cases h1 : k = 1
      · subst h1; rfl
      · have h0' : ¬ 0 = k := fun e => h0 e.symm
        have h1' : ¬ 1 = k := fun e => h1 e.symm
        have h2' : ¬ 2 = k := fun e => h e.symm
        simp [heapOf, h0, h1, h, h0', h1', h2']
theorem Wk.leaf {sl : List (Nat × AV)} {α β : AObj} {o n : Int} {nx nt : Nat} {gh : List AV} : Wk (mkS sl [(0, α), (1, β), (2, .box 26 [.t 2 (.int .i64 o), .t 2 (.int .i64 n), .t 2 (.sl 0 [])])] nx nt gh) (mkS sl [(0, α), (1, β), (2, tmO (.mk o n []))] nx nt gh) := by
  have h := Wk.box (σ := mkS sl [(0, α), (1, β), (2, .box 26 [.t 2 (.int .i64 o), .t 2 (.int .i64 n), .t 2 (.sl 0 [])])] nx nt gh) (id := 2) (ty := 26) (cs' := [.t 2 (.int .i64 o), .t 2 (.int .i64 n), .t 2 (.sl 3 [])]) rfl ⟨fun _ _ h => h, fun _ _ h => h, fun _ _ h => h.nil3 3, trivial⟩
  have e : (mkS sl [(0, α), (1, β), (2, .box 26 [.t 2 (.int .i64 o), .t 2 (.int .i64 n), .t 2 (.sl 0 [])])] nx nt gh) = ⟨(mkS sl [] nx nt gh).env, heapOf [(0, α), (1, β), (2, .box 26 [.t 2 (.int .i64 o), .t 2 (.int .i64 n), .t 2 (.sl 0 [])])], nx, nt, gh⟩ := rfl
  rw [e] at h ⊢
  simp only at h
  rw [heap_upd3] at h
  exact h
end Go.Proofs.Ytghnmmfkckneaaa.M
