/-
  Walks: mult.spanning and its closure.
-/
import Derived.Test.YtgghmjnbkbiffaaAssoc
namespace Go.Proofs.Ytgghmjnbkbiffaa
open Go.RowKit
set_option linter.unusedVariables false

/-- A row of numbers that the call owns. -/
def OwnN (w : World) (base : Nat) (v : Value) (xs : List Nat) : Prop := w.ownsRow base 3 1 v (lnx xs) (xs.map fun x : Nat => Value.int .i64 (x : Int))

theorem OwnN.ints {w : World} {base : Nat} {v : Value} {xs : List Nat} (h : OwnN w base v xs) : Ints w v (natsOf xs) := by
  refine Sl.own (base := base) (e := 3) ?_
  rw [lnx_natsOf]
  simpa [natsOf, OwnN, Function.comp_def] using h
theorem OwnN.nil (w : World) (base : Nat) : OwnN w base (.slice none 0 0) [] := World.ownsRow_nil w base _ _
theorem OwnN.grown {w w' : World} {base : Nat} {v : Value} {xs : List Nat} {row : Option Nat} (h : OwnN w base v xs) (hg : w.grownBy w' row) (hne : v.ownBlock = none ∨ v.ownBlock ≠ row) : OwnN w' base v xs := World.ownsRow.kept h hg hne
theorem OwnN.only {S : Nat → Prop} {w w' : World} {base : Nat} {v : Value} {xs : List Nat} (h : OwnN w base v xs) (ho : Only S w w') (hn : ∀ k, v.ownBlock = some k → ¬ S k) : OwnN w' base v xs := by
  refine ⟨h.1, ?_⟩
  rcases h.2 with h2 | ⟨g, cap, cur, rfl, hb, hg, rest⟩
  · exact .inl h2
  · exact .inr ⟨g, cap, cur, rfl, hb, (ho.block g (lt_of_block hg) (hn g rfl)).trans hg, rest⟩
theorem OwnN.drewN {w : World} {base : Nat} {v : Value} {xs : List Nat} (h : OwnN w base v xs) (n : Nat) : OwnN (w.drewN n) base v xs := h
theorem OwnN.alloc {w : World} {base : Nat} {v : Value} {xs : List Nat} (h : OwnN w base v xs) (o : Obj) : OwnN (w.alloc o) base v xs := World.ownsRow.alloc h o
theorem OwnN.lt {w : World} {base : Nat} {v : Value} {xs : List Nat} (h : OwnN w base v xs) {k : Nat} (hk : v.ownBlock = some k) : base ≤ k ∧ k < w.heap.size := World.ownsRow.lt h k hk
theorem OwnN.push {w : World} {base : Nat} {v : Value} {xs : List Nat} {x : Nat} (h : w.ownsRow base 3 1 v (lnx xs + 1) ((xs.map fun x : Nat => Value.int .i64 (x : Int)) ++ [Value.int .i64 (x : Int)])) : OwnN w base v (xs ++ [x]) := by
  unfold OwnN
  rw [lnx_append, lnx_one]
  simpa using h

/-- What the closure finds: the box of isMade, isMade itself, the box of made, made. -/
structure SpanIn (w : World) (base n gb gi gm : Nat) (f : Nat → Bool) (vm : Value) (made : List Nat) : Prop where
  box : Arr 60 w gb 1 (fun _ => .slice (some ⟨gi, 0, none⟩) n n)
  arr : Arr 4 w gi n (fun j => .bool (f j))
  mbox : Arr 31 w gm 1 (fun _ => vm)
  own : OwnN w base vm made
  b1 : gb < base
  b2 : gi < base
  b3 : gm < base
  n1 : gb ≠ gi
  n2 : gb ≠ gm
  n3 : gi ≠ gm
  len : lnx made ≤ 400
  hb : base ≤ w.heap.size

def SpanPost (w : World) (base n gb gi gm : Nat) (f : Nat → Bool) (vm : Value) (made : List Nat) (x : Nat) (e : Ending) (w' : World) : Prop :=
  e = .returned (.tuple #[]) ∧ ∃ vm', SpanIn w' base n gb gi gm (fun j => if j = x then true else f j) vm' (made ++ [x]) ∧ Only (fun k => k = gi ∨ k = gm ∨ vm.ownBlock = some k) w w' ∧ (∀ k, vm'.ownBlock = some k → vm.ownBlock = some k ∨ w.heap.size ≤ k) ∧ ∀ g, vm.ownBlock = some g → ∀ j, j < lnx made → w'.cell? ⟨g, j, none⟩ = some (.int .i64 ((nthx made j : Nat) : Int))

set_option maxHeartbeats 1000000 in
theorem spanAdd_old (w : World) (base n gb gi gm : Nat) (f : Nat → Bool) (vm : Value) (made : List Nat) (h : SpanIn w base n gb gi gm f vm made) (x : Nat) (hx : x < n) (hn : n ≤ 400) (hf : f x = true) :
    Calls Try.prog 107 #[.int .i64 x, .pointer (some ⟨gb, 0, none⟩), .pointer (some ⟨gm, 0, none⟩)] w fun e w' => e = .returned (.tuple #[]) ∧ w = w' := by
  have c1 := h.box.cell (i := 0) (by omega)
  have c2 := h.arr.cell hx
  rw [hf] at c2
  clear h hf
  go_enter Try.func107, Try.ntmps107
  go_wp2
  go_end0
  exact ⟨rfl, rfl⟩

set_option maxHeartbeats 1000000 in
theorem spanAdd_new (w : World) (base n gb gi gm : Nat) (f : Nat → Bool) (vm : Value) (made : List Nat) (h : SpanIn w base n gb gi gm f vm made) (x : Nat) (hx : x < n) (hn : n ≤ 400) (hf : f x = false) (hlen : lnx made < 400) :
    Calls Try.prog 107 #[.int .i64 x, .pointer (some ⟨gb, 0, none⟩), .pointer (some ⟨gm, 0, none⟩)] w (SpanPost w base n gb gi gm f vm made x) := by
  have c1 := h.box.cell (i := 0) (by omega)
  have c2 := h.arr.cell hx
  have c3 := h.arr.frozen x
  rw [hf] at c2
  have n1 := h.n1
  have n2 := h.n2
  have n3 := h.n3
  have b1 := h.b1
  have b2 := h.b2
  have b3 := h.b3
  have hb := h.hb
  obtain ⟨W, hW⟩ : ∃ W, W = w.setCell ⟨gi, x, none⟩ (.bool true) := ⟨_, rfl⟩
  have d1 : Arr 60 W gb 1 (fun _ => .slice (some ⟨gi, 0, none⟩) n n) := by rw [hW]; exact h.box.far n1 _
  have d2 : Arr 4 W gi n (fun j => .bool (if j = x then true else f j)) := by
    rw [hW]
    exact (h.arr.set_ x (.bool true)).congr (fun i hi => by by_cases hh : i = x <;> simp [hh])
  have d3 : Arr 31 W gm 1 (fun _ => vm) := by rw [hW]; exact h.mbox.far (Ne.symm n3) _
  have d4 : OwnN W base vm made := by rw [hW]; exact ownsRow_setCell_below h.own b2 _
  have d5 : Only (fun k => k = gi ∨ k = gm ∨ vm.ownBlock = some k) w W := by rw [hW]; exact (Only.refl _ _).setCell (fun _ => .inl rfl) _
  have hsz : W.heap.size = w.heap.size := by rw [hW]; simp [World.setCell]
  have HSZ := Lib.hid hsz
  have hbW : base ≤ W.heap.size := by omega
  clear hsz h
  have hW' := hW.symm
  have c4 := d3.cell (i := 0) (by omega)
  clear hW hf
  have e1 : Arr 31 (W.alloc (.cells #[.int .i64 x] 3)) gm 1 (fun _ => vm) := d3.alloc _
  have e2 := World.cell?_alloc_new W #[.int .i64 (x : Int)] 3 0
  have e4 := d4.alloc (.cells #[.int .i64 x] 3)
  have D1 := Lib.hid d1
  have D2 := Lib.hid d2
  have D3 := Lib.hid d3
  have D5 := Lib.hid d5
  have E1 := Lib.hid e1
  clear d1 d2 d3 d4 d5 e1
  go_enter Try.func107, Try.ntmps107
  go_wp2_with (at_builtin; refine wpList_push _ rfl _ _ 31 rfl base 3 (.int .i64 0) 8 Try.underlying31 Try.infoInt rfl vm (lnx made) _ rfl W.heap.size (.int .i64 x) rfl e4 e2 rfl ?_ ?_ ?_ ?_)
  · simp only [maxLen]; omega
  · omega
  · simp; omega
  intro r cap' w2 hap
  have hown := hap.own
  have hgrow := hap.grown
  have hlt : ∀ k, vm.ownBlock = some k → base ≤ k ∧ k < W.heap.size + 1 := fun k hk => by simpa using e4.lt hk
  have hnm : some gm ≠ vm.ownBlock := fun e => by have := (hlt gm e.symm).1; omega
  have hni : some gi ≠ vm.ownBlock := fun e => by have := (hlt gi e.symm).1; omega
  have hnb : some gb ≠ vm.ownBlock := fun e => by have := (hlt gb e.symm).1; omega
  have hsz2 := hgrow.size
  simp only [World.size_alloc] at hsz2
  have f1 := E1.out.grown hgrow hnm
  have c5 := f1.cell (i := 0) (by omega)
  have c6 := f1.frozen 0
  have hr1 : gm ≠ r := fun e => by
    have := hown.lt r rfl
    omega
  have P1 : SpanPost w base n gb gi gm f vm made x (.returned (.tuple #[])) (w2.setCell ⟨gm, 0, none⟩ (.slice (some ⟨r, 0, none⟩) (lnx made + 1) cap')) := by
    refine ⟨rfl, .slice (some ⟨r, 0, none⟩) (lnx made + 1) cap', ⟨((D1.out.alloc _).grown hgrow hnb).far n2 _, ((D2.out.alloc _).grown hgrow hni).far n3 _, (f1.set_ 0 _).congr (fun i hi => by simp; omega), ?_, b1, b2, b3, n1, n2, n3, ?_, ?_⟩, ?_, ?_, ?_⟩
    · exact OwnN.push (ownsRow_setCell_below hown b3 _)
    · rw [lnx_append, lnx_one]; omega
    · simp [World.setCell]; omega
    · refine Only.setCell (Only.grown (D5.out.alloc _) hgrow ?_) (fun _ => .inr (.inl rfl)) _
      exact fun k hk e => .inr (.inr e)
    · intro k hk
      rcases hap.at_ hk with e | e
      · exact .inl e
      · exact .inr (by rw [e]; have := HSZ.out; simp; omega)
    · intro g hg j hj
      have hne : gm ≠ g := fun e => hnm (by rw [e, hg])
      rw [World.cell?_setCell_other _ _ _ _ (fun e => hne (congrArg Addr.block e))]
      exact hap.kept g hg j _ (by simp [nthx, lnx] at hj ⊢; simp [hj])
  have HP := Lib.hid P1
  clear P1 f1 hap hown hgrow hlt hnm hni hnb e4
  go_wp2
  go_end0
  exact HP.out

/-- made with x, if it is not there. -/
def addN (made : List Nat) (x : Nat) : List Nat := if x ∈ made then made else made ++ [x]
def memB (made : List Nat) (x : Nat) : Bool := decide (x ∈ made)

theorem nodup_le {n : Nat} : ∀ {l : List Nat}, l.Nodup → (∀ x ∈ l, x < n) → l.length ≤ n := by
  induction n with
  | zero =>
    intro l _ h
    cases l with
    | nil => simp
    | cons a l => have := h a (by simp); omega
  | succ n ih =>
    intro l hd h
    have h1 : (l.filter (fun x => x ≠ n)).length ≤ n := ih (hd.filter _) (by
      intro x hx
      simp at hx
      have := h x hx.1
      omega)
    have h2 : l.length ≤ (l.filter (fun x => x ≠ n)).length + 1 := by
      clear ih h h1
      induction l with
      | nil => simp
      | cons a l ih =>
        rw [List.nodup_cons] at hd
        by_cases ha : a = n
        · subst ha
          have : l.filter (fun x => x ≠ a) = l := by
            rw [List.filter_eq_self]
            intro x hx
            simp
            intro e
            exact hd.1 (e ▸ hx)
          rw [List.filter_cons_of_neg (by simp), this]
          simp
        · have := ih hd.2
          rw [List.filter_cons_of_pos (by simpa using ha)]
          simp only [List.length_cons]
          omega
    omega

theorem addN_mem (made : List Nat) (x y : Nat) : y ∈ addN made x ↔ y ∈ made ∨ y = x := by
  unfold addN
  by_cases h : x ∈ made
  · rw [if_pos h]
    exact ⟨.inl, fun hh => hh.elim id (fun e => e ▸ h)⟩
  · rw [if_neg h]
    simp
theorem addN_nodup {made : List Nat} (h : made.Nodup) (x : Nat) : (addN made x).Nodup := by
  unfold addN
  by_cases hx : x ∈ made
  · rw [if_pos hx]; exact h
  · rw [if_neg hx]
    rw [List.nodup_append]
    exact ⟨h, by simp, fun a ha b hb e => by simp at hb; subst hb; subst e; exact hx ha⟩
theorem addN_nth (made : List Nat) (x : Nat) {j : Nat} (h : j < lnx made) : nthx (addN made x) j = nthx made j := by
  unfold addN
  split
  · rfl
  · exact nthx_append_lt made [x] h
theorem addN_len (made : List Nat) (x : Nat) : lnx made ≤ lnx (addN made x) := by
  unfold addN
  split
  · exact Nat.le_refl _
  · rw [lnx_append, lnx_one]; omega

/-- What holds of the numbers. -/
structure SpanNums (n : Nat) (T : Nat → Nat → Nat) (gens made : List Nat) : Prop where
  nd : made.Nodup
  lt : ∀ x ∈ made, x < n
  prod : ∀ x ∈ made, Made T gens x
  glt : ∀ x ∈ gens, x < n

theorem SpanNums.len {n : Nat} {T : Nat → Nat → Nat} {gens made : List Nat} (h : SpanNums n T gens made) : lnx made ≤ n := nodup_le h.nd h.lt
theorem SpanNums.add {n : Nat} {T : Nat → Nat → Nat} {gens made : List Nat} (h : SpanNums n T gens made) {x : Nat} (hx : x < n) (hm : Made T gens x) : SpanNums n T gens (addN made x) :=
  ⟨addN_nodup h.nd x, fun y hy => ((addN_mem _ _ _).1 hy).elim (h.lt y) (fun e => e ▸ hx), fun y hy => ((addN_mem _ _ _).1 hy).elim (h.prod y) (fun e => e ▸ hm), h.glt⟩

/-- The closure, whatever it is handed. -/
def SpanAdds (w : World) (base n gb gi gm : Nat) (vm : Value) (made : List Nat) (x : Nat) (e : Ending) (w' : World) : Prop :=
  e = .returned (.tuple #[]) ∧ ∃ vm', SpanIn w' base n gb gi gm (memB (addN made x)) vm' (addN made x) ∧ Only (fun k => k = gi ∨ k = gm ∨ vm.ownBlock = some k) w w' ∧ (∀ k, vm'.ownBlock = some k → vm.ownBlock = some k ∨ w.heap.size ≤ k) ∧ ∀ g, vm.ownBlock = some g → ∀ j, j < lnx made → w'.cell? ⟨g, j, none⟩ = some (.int .i64 ((nthx made j : Nat) : Int))

theorem spanAdd (w : World) (base n gb gi gm : Nat) (vm : Value) (made : List Nat) (h : SpanIn w base n gb gi gm (memB made) vm made) (x : Nat) (hx : x < n) (hn : n ≤ 400) (hnd : made.Nodup) (hlt : ∀ y ∈ made, y < n) :
    Calls Try.prog 107 #[.int .i64 x, .pointer (some ⟨gb, 0, none⟩), .pointer (some ⟨gm, 0, none⟩)] w (SpanAdds w base n gb gi gm vm made x) := by
  by_cases hm : x ∈ made
  · refine (spanAdd_old w base n gb gi gm _ vm made h x hx hn (by simp [memB, hm])).mono ?_
    rintro e w' ⟨rfl, rfl⟩
    have ha : addN made x = made := by simp [addN, hm]
    refine ⟨rfl, vm, by rw [ha]; exact h, Only.refl _ _, fun k hk => .inl hk, fun g hg j hj => ?_⟩
    have := World.ownsRow.cells h.own hg j (.int .i64 ((nthx made j : Nat) : Int)) (by simp [nthx, lnx] at hj ⊢; simp [hj])
    rw [Addr.add_lit] at this
    simpa using this
  · have ha : addN made x = made ++ [x] := by simp [addN, hm]
    have hlen : lnx made < 400 := by
      have := nodup_le (addN_nodup hnd x) (fun y hy => ((addN_mem _ _ _).1 hy).elim (hlt y) (fun e => e ▸ hx))
      rw [ha] at this
      simp [lnx] at this ⊢
      omega
    refine (spanAdd_new w base n gb gi gm _ vm made h x hx hn (by simp [memB, hm]) hlen).mono ?_
    rintro e w' ⟨rfl, vm', h1, h2, h3⟩
    refine ⟨rfl, vm', ?_, h2, h3⟩
    rw [ha]
    have hf : (fun j => if j = x then true else memB made j) = memB (made ++ [x]) := by
      funext j
      by_cases hj : j = x <;> simp [memB, hj]
    rw [hf] at h1
    exact h1
end Go.Proofs.Ytgghmjnbkbiffaa
