/-
  My own logic, part 9b: append of a string to an own row of bytes.
-/
import Derived.Test.YtnffigeofdagfaaDoorZrac
import Derived.Lib.AppendStr
namespace Go.Proofs.YtnffigeofdagfaaDoor.M
open Go.RowKit
set_option linter.unusedVariables false

def bsT (b : ByteArray) : List T := b.data.toList.map fun x => .int .u8 x.toNat
@[simp] theorem bsT_len (b : ByteArray) : (bsT b).length = b.size := by
 unfold bsT
 rw [List.length_map, Array.length_toList]
 rfl
def u8El (P : Program) (e : TypeId) : Bool := match P.info? e with
 | some inf => (match inf.zero with
  | some (.int .u8 0) => true
  | _ => false) && decide (inf.size = 1) && decide (inf.bytes = 1)
 | none => false
@[simp] def aAppStr (P : Program) (i : Nat) (t t' : TypeId) (d x : AV) (H : Nat → Option AObj) : Option (Bool × Eff) :=
 match elOf P t with
 | some e => match x with
  | .t _ (.str b) => match d with
   | .own id c => match H id with
    | some (.row e' z p cs) => some (u8El P e && strB P t' && decide (cs.length = c) && decide (z = 1) && decide (e' = e) && decide ((cs ++ bsT b).length ≤ 140737488355328), { val := .own id (cs ++ bsT b).length, new := some (id, .row e 1 p (cs ++ bsT b)), tch := [id] })
    | _ => none
   | .t _ (.sl 0 []) => some (u8El P e && strB P t' && decide ((bsT b).length ≤ 140737488355328), { val := .own i (bsT b).length, new := some (i, .row e 1 2 (bsT b)), tch := [i] })
   | _ => none
  | _ => none
 | none => none
theorem u8El_inv {P : Program} {e : TypeId} (h : u8El P e = true) : ∃ inf, P.info? e = some inf ∧ inf.zero = some (.int .u8 0) ∧ inf.size = 1 ∧ inf.bytes = 1 := by
 unfold u8El at h
 split at h
 ·rename_i inf hi
  simp only [Bool.and_eq_true, decide_eq_true_eq] at h
  obtain ⟨⟨h1, h2⟩, h3⟩ := h
  refine ⟨inf, hi, ?_, h2, h3⟩
  split at h1
  ·assumption
  ·cases h1
 ·cases h
theorem str_block {P : Program} {w : World} {t u ty e : TypeId} {i : TypeInfo} (ht : P.underlying t = some (.slice e)) (hu : P.underlying u = some .string) (hi : P.info? e = some i) (hz : i.zero = some (.int .u8 0)) (hsize : i.size = 1) (hby : i.bytes = 1)
  {v : Value} {n : Nat} {xs : List Value} (hown : w.ownsRow 0 e 1 v n xs) (s : ByteArray) (hb : n + s.size ≤ 140737488355328) {v' : Value} {w' : World} (hr : (Builtin.append_ #[t, u] ty #[v, .string s]).run P w = .ok v' w') :
  (v'.ownBlock = v.ownBlock ∨ v'.ownBlock = some w.heap.size) ∧ (s.size = 0 → v' = v) := by
 have hxl : xs.length = n := by simpa using hown.1
 rcases hown.2 with ⟨rfl, rfl⟩ | ⟨g, cap, cur, rfl, hbg, hg, hnc, hcm, hcs, htake⟩
 ·by_cases hm : s.size = 0
  ·have hf := Go.Lib.run_firstCells_string (P := P) w 1 s
   rw [hm] at hf
   have hc0 : Go.Lib.strCells s = [] := List.eq_nil_of_length_eq_zero (by rw [Go.Lib.strCells_length]; exact hm)
   rw [hc0] at hf
   have : (Builtin.append_ #[t, u] ty #[Value.slice none 0 0, .string s]).run P w = .ok (.slice none 0 0) w := by
    simp [Builtin.append_, run_underlying ht, run_underlying hu, sizeOf, typeInfo, hi, hsize, Builtin.lenOf, hm, hf]
   rw [hr] at this
   injection this with this
   exact ⟨.inl (by rw [this]), fun _ => this⟩
  ·have h2 := run_append_nil_string (P := P) w t u ty e i (.int .u8 0) ht hu hi hz s (by omega) (by omega) (by rw [hby]; omega)
   rw [hr] at h2
   injection h2 with h2
   exact ⟨.inr (by rw [h2]; rfl), fun h => absurd h hm⟩
 ·by_cases hroom : n + s.size ≤ cap
  ·have hcs' : cur.size = cap := by simpa using hcs
   have h2 := Go.Lib.run_append_room_string (P := P) w t u ty e i ht hu hi hsize g n cap cur hg s hroom (by omega)
   rw [hr] at h2
   injection h2 with h2
   exact ⟨.inl (by rw [h2]; rfl), fun h => by rw [h2, h]; rfl⟩
  ·have holds : ∀ j u, xs[j]? = some u → w.cell? ((⟨g, 0, none⟩ : Addr).add j) = some u := hown.cells (g := g) rfl
   have h2 := Go.Lib.run_append_grow_string (P := P) w t u ty e i (.int .u8 0) ht hu hi hz ⟨g, 0, none⟩ n cap xs (by rw [hsize]; simpa using hxl) holds s (by omega) (by omega) (by rw [hby]; exact growslice_fits (by omega) (by omega))
   rw [hr] at h2
   injection h2 with h2
   exact ⟨.inr (by rw [h2]; rfl), fun h => absurd h (by omega)⟩
section
variable {w0 w : World} {V S0 U : Nat → Prop} {H : Nat → Option AObj} {ob : Nat → Option (Value × Nat)} {i : Nat} {P : Program}
theorem ok_appStr {t t' : TypeId} {d x : AV} {vd vx : Value} {eff : Eff} {b : Bool} (he : aAppStr P i t t' d x H = some (b, eff)) (hb : b = true) (h : MR w0 V S0 U H ob w) (hi : ¬ U i) (hd : VR (evOf w0.heap.size V ob U w) vd d) (hx : VR (evOf w0.heap.size V ob U w) vx x) (ty : TypeId) :
  Good w0 V S0 U ob w i (eff.heap H) eff.val ((Builtin.append_ #[t, t'] ty #[vd, vx] >>= fun v => pure (.value v) : Sem Next).run P w) := by
 subst hb
 unfold aAppStr at he
 split at he
 ·rename_i e hel
  have hu := und_el hel
  split at he
  ·rename_i q s
   obtain rfl := hx.str
   have hget : ∀ (m : Mem) (j : Nat) c x, (bsT s)[j]? = some c → (Go.Lib.strCells s)[j]? = some x → Rep m x c := fun m j c x hj hx => by
    unfold bsT at hj
    unfold Go.Lib.strCells at hx
    rw [List.getElem?_map] at hj hx
    cases hq : s.data.toList[j]? with
    | none => rw [hq] at hj; cases hj
    | some y =>
     rw [hq] at hj hx
     simp only [Option.map_some, Option.some.injEq] at hj hx
     subst hj hx
     exact .int .u8 _
   split at he
   ·rename_i id c
    split at he
    ·rename_i e' z p cs hH
     simp only [Option.some.injEq, Prod.mk.injEq, Bool.and_eq_true, decide_eq_true_eq] at he
     obtain ⟨⟨⟨⟨⟨⟨h1, h2⟩, hc⟩, h3⟩, h4⟩, h7⟩, rfl⟩ := he
     subst h3 h4
     obtain ⟨inf, z1, z2, z3, z4⟩ := u8El_inv h1
     have hu' := und_str h2
     obtain ⟨e1, e2⟩ := h.own hd hH hc
     obtain ⟨-, u, e3, hzp, hlv, n, vs, how, hlen, hr⟩ := h.obj id _ hH
     rw [e1] at e3
     simp only [Option.some.injEq, Prod.mk.injEq] at e3
     obtain ⟨rfl, -⟩ := e3
     have hvn : vs.length = n := by simpa using how.1
     have hbb : n + s.size ≤ 140737488355328 := by simpa [← hlen, hvn] using h7
     obtain ⟨v', w', hrun, r1, r2, -⟩ := Go.Lib.run_append_own_string (P := P) w 0 t t' ty e' inf hu hu' z1 z2 z3 z4 vd n vs how s (by simp only [maxLen]; omega) hbb (by omega)
     obtain ⟨r3, r4⟩ := str_block (ty := ty) hu hu' z1 z2 z3 z4 how s hbb hrun
     simp only [Sem.run_bind, hrun, Result.andThen_ok, Sem.run_pure]
     have hb1 := ownBlock_blk how
     have hb2 := ownBlock_blk r1
     refine Good.step h (.inl rfl) id v' (.row e' 1 p (cs ++ bsT s)) (Onl.grown r2 (fun k hk => ⟨_, _, e1, by rw [← hb1]; exact hk⟩)) (fun _ => ⟨_, _, e1, by simp [AObj.cnt, hc], fun heq => ?_⟩) (fun k hk => ?_) (.inr e2) (fun hx' => ⟨hzp, fun k hk => ?_, n + s.size, vs ++ Go.Lib.strCells s, r1, by simp [hlen, Go.Lib.strCells_length], fun j c x hj hxx => ?_⟩) (fun hx' => .own _ id _ ?_ (.inl e2) (fun u' n' hu' => ?_))
     ·simp [AObj.cnt] at heq
      exact (r4 (by omega)).symm
     ·rw [← hb2] at hk
      rcases r3 with g | g
      ·exact .inl ⟨_, _, e1, by rw [← hb1, ← g]; exact hk⟩
      ·rw [g] at hk; injection hk with hk; exact .inr (by omega)
     ·rw [← hb2] at hk
      rcases r3 with g | g
      ·exact hlv k (by rw [← hb1, ← g]; exact hk)
      ·rw [g] at hk; injection hk with hk
       have := h.only.size
       exact .inl (by omega)
     ·by_cases hlt : j < cs.length
      ·rw [List.getElem?_append_left hlt] at hj
       rw [List.getElem?_append_left (by omega)] at hxx
       exact (hr j c x hj hxx).mono (fun b o u hu => hx'.mem _ _ _ _ hu)
      ·rw [List.getElem?_append_right (by omega)] at hj
       rw [List.getElem?_append_right (by omega), hlen] at hxx
       exact hget _ _ c x hj hxx
     ·rcases r1.2 with ⟨rfl, _⟩ | ⟨g, cap, cur, rfl, _⟩ <;> rfl
     ·have hu' : upd ob id (some (v', (AObj.row e' 1 p (cs ++ bsT s)).cnt)) id = some (u', n') := hu'
      rw [upd_same] at hu'
      simp only [Option.some.injEq, Prod.mk.injEq] at hu'
      obtain ⟨rfl, rfl⟩ := hu'
      exact ⟨Nat.le_refl _, fun _ => rfl⟩
    ·cases he
   ·rename_i p0
    simp only [Option.some.injEq, Prod.mk.injEq, Bool.and_eq_true, decide_eq_true_eq] at he
    obtain ⟨⟨⟨h1, h2⟩, h7⟩, rfl⟩ := he
    obtain ⟨inf, z1, z2, z3, z4⟩ := u8El_inv h1
    have hu' := und_str h2
    obtain rfl := nil_val hd
    have hbb : 0 + s.size ≤ 140737488355328 := by simpa using h7
    have how := World.ownsRow_nil w 0 e 1
    obtain ⟨v', w', hrun, r1, r2, -⟩ := Go.Lib.run_append_own_string (P := P) w 0 t t' ty e inf hu hu' z1 z2 z3 z4 _ 0 [] how s (by simp only [maxLen]; omega) hbb (by omega)
    obtain ⟨r3, r4⟩ := str_block (ty := ty) hu hu' z1 z2 z3 z4 how s hbb hrun
    simp only [Sem.run_bind, hrun, Result.andThen_ok, Sem.run_pure]
    have hb2 := ownBlock_blk r1
    rw [List.nil_append] at r1
    refine Good.row h hi (n := 0 + s.size) (cap := 0) (vs := Go.Lib.strCells s) (by omega) (Onl.grown r2 (fun k hk => by cases hk)) r1 (by simp [Go.Lib.strCells_length]) (fun k hk => ?_) (fun j c x hj hx => hget _ j c x hj hx)
    rw [← hb2] at hk
    rcases r3 with g | g
    ·rw [g] at hk; cases hk
    ·rw [g] at hk; injection hk with hk; omega
   ·cases he
  ·cases he
 ·cases he
end
end Go.Proofs.YtnffigeofdagfaaDoor.M
