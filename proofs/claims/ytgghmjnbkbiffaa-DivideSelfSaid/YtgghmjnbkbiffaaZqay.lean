/-
  The walk of morph.Extend.
  The walk of morph.Extend where its arguments are in order.
  Walk: divide.generates and its closure.
-/
import Derived.Test.YtgghmjnbkbiffaaZqaw
import Derived.Test.YtgghmjnbkbiffaaZqax
import Derived.StillTailTactics
namespace Go.Proofs.Ytgghmjnbkbiffaa
open Go.RowKit
set_option linter.unusedVariables false

/-- reached with x, if it is not there. -/
def addR (F : Nat → Int) (made : List Nat) (x : Nat) : List Nat := if F x < 0 then made ++ [x] else made

def ReGood (w : World) (base n gb gi gm : Nat) (F : Nat → Int) (vm : Value) (made : List Nat) (x im : Nat) (e : Ending) (w' : World) : Prop :=
  e = .returned (.bool true) ∧ ∃ vm', ReIn w' base n gb gi gm (upd F x im) vm' (addR F made x) ∧ Only (fun k => k = gi ∨ k = gm ∨ vm.ownBlock = some k) w w' ∧ ∀ g, vm.ownBlock = some g → ∀ j, j < lnx made → w'.cell? ⟨g, j, none⟩ = some (.int .i64 ((nthx made j : Nat) : Int))

/-- The numbers at the head of each loop. -/
structure RNum (t : List (List Int)) (gens : List Int) (s : List (List Int)) (images : List Int) (k : Nat) (F : Nat → Int) (made : List Nat) : Prop where
  inv : EInv t gens s images k F
  mem : ∀ x, x < lnx t → (0 ≤ F x ↔ x ∈ made)
  nd : made.Nodup
  lt : ∀ x, x ∈ made → x < lnx t
  gen : ∀ x, x ∈ made → Gen (lnx t) (tabOf t) gens x

section
variable {t : List (List Int)} {gens : List Int} {s : List (List Int)} {images : List Int} {k : Nat} {F : Nat → Int} {made : List Nat}
theorem RNum.len (h : RNum t gens s images k F made) : lnx made ≤ lnx t := nodup_le h.nd h.lt
theorem RNum.room (h : RNum t gens s images k F made) {x : Nat} (hx : x < lnx t) (hnm : x ∉ made) : lnx made < lnx t := by
  have := nodup_le (n := lnx t) (List.nodup_cons.2 ⟨hnm, h.nd⟩) (fun y hy => by
    rcases List.mem_cons.1 hy with rfl | hy
    · exact hx
    · exact h.lt y hy)
  simp only [lnx, List.length_cons] at this ⊢
  omega
theorem RNum.out (h : RNum t gens s images k F made) {x : Nat} (hx : x < lnx t) (hn : F x < 0) : x ∉ made := fun hm => by have := (h.mem x hx).2 hm; omega
theorem RNum.full (h : RNum t gens s images k F made) (hl : lnx t ≤ lnx made) {x : Nat} (hx : x < lnx t) : x ∈ made := Classical.byContradiction fun hn => by
  have := h.room hx hn
  omega
theorem cover_len : ∀ (n : Nat) (l : List Nat), (∀ x, x < n → x ∈ l) → n ≤ l.length
  | 0, _, _ => Nat.zero_le _
  | n + 1, l, h => by
    have h1 := cover_len n (l.erase n) (fun x hx => (List.mem_erase_of_ne (by omega)).2 (h x (by omega)))
    have h2 := List.length_erase_of_mem (h n (by omega))
    have h3 := List.length_pos_of_mem (h n (by omega))
    omega
theorem RNum.hom (h : RNum t gens s images (lnx gens) F made) (hl : lnx t ≤ lnx made) (v1 : vErr t = 0) (v2 : vErr s = 0) (hlen : lnx gens = lnx images) (ing : inB (lnx t) gens = true) (ini : inB (lnx s) images = true)
    (hc : ∀ x, x ∈ made → ∀ i, i < lnx gens → F (tabOf t x (nat_ gens i)) = (tabOf s (F x).toNat (F (nat_ gens i)).toNat : Int)) : ExtOK t gens s images (listF F (lnx t)) := by
  have hT : ∀ r c, r < lnx t → c < lnx t → tabOf t r c < lnx t := fun r c => tab_lt (vErr_inv v1).1
  have hU : ∀ r c, r < lnx s → c < lnx s → tabOf s r c < lnx s := fun r c => tab_lt (vErr_inv v2).1
  have aT := (vErr_inv v1).2
  have aU := (vErr_inv v2).2
  have h00 : ∀ x, x < lnx t → 0 ≤ F x := fun x hx => (h.mem x hx).2 (h.full hl hx)
  have hm : ∀ x, x < lnx t → (F x).toNat < lnx s := fun x hx => by have := h.inv.rng x hx; have := h00 x hx; omega
  have key : ∀ y, Gen (lnx t) (tabOf t) gens y → ∀ x, x < lnx t → (F (tabOf t x y)).toNat = tabOf s (F x).toNat (F y).toNat := by
    intro y hy
    induction hy with
    | base i hi e hx =>
      intro x hx
      rw [← nat_of e, hc x (h.full hl hx) i hi]
      exact Int.toNat_natCast _
    | mul h1 h2 e1 e2 =>
      intro x hx
      have l1 := h1.lt hT
      have l2 := h2.lt hT
      rw [← aT x _ _ hx l1 l2, e2 _ (hT x _ hx l1), e1 x hx, e2 _ l1, aU _ _ _ (hm x hx) (hm _ l1) (hm _ l2)]
  refine h.inv.ok v1 v2 hlen ing ini (fun x hx => h.gen x (h.full hl hx)) (homL_good (lnx_listF F _) (inB_t (fun i hi => ?_)) (fun x y hx hy => ?_))
  · rw [lnx_listF] at hi
    rw [nthx_listF F hi]
    exact ⟨h00 i hi, (h.inv.rng i hi).2⟩
  · rw [nat_listF F (hT x y hx hy), nat_listF F hx, nat_listF F hy]
    exact key y (h.gen y (h.full hl hy)) x hx
theorem addR_mem {x y : Nat} : y ∈ addR F made x ↔ y ∈ made ∨ (F x < 0 ∧ y = x) := by
  unfold addR
  by_cases h : F x < 0 <;> simp [h]
theorem RNum.add {k' x im : Nat} (h : RNum t gens s images k F made) (hx : x < lnx t) (hg : Gen (lnx t) (tabOf t) gens x) (hi : EInv t gens s images k' (upd F x im)) : RNum t gens s images k' (upd F x im) (addR F made x) := by
  refine ⟨hi, fun y hy => ?_, ?_, fun y hy => ?_, fun y hy => ?_⟩
  · rw [addR_mem]
    by_cases e : y = x
    · subst e
      rw [upd_same]
      have := h.mem y hy
      constructor
      · intro _
        by_cases hn : F y < 0
        · exact .inr ⟨hn, rfl⟩
        · exact .inl (this.1 (by omega))
      · intro _; omega
    · rw [upd_other F _ e, h.mem y hy]
      simp [e]
  · unfold addR
    split
    · rename_i hn
      rw [List.nodup_append]
      refine ⟨h.nd, by simp, fun a ha b hb => ?_⟩
      simp at hb
      subst hb
      rintro rfl
      have := (h.mem a hx).2 ha
      omega
    · exact h.nd
  · rcases addR_mem.1 hy with hy | ⟨_, rfl⟩
    · exact h.lt y hy
    · exact hx
  · rcases addR_mem.1 hy with hy | ⟨_, rfl⟩
    · exact h.gen y hy
    · exact hg
end
end Go.Proofs.Ytgghmjnbkbiffaa

namespace Go.Proofs.Ytgghmjnbkbiffaa
open Go.RowKit
set_option linter.unusedVariables false

/-- Memory at the head of each loop. -/
structure ReSt (w wr : World) (t : List (List Int)) (F : Nat → Int) (vm : Value) (made : List Nat) : Prop where
  sp : ReIn wr (w.heap.size + 3) (lnx t) (w.heap.size + 1) w.heap.size (w.heap.size + 2) F vm made
  below : Below w.heap.size w wr
theorem ReSt.drewN {w wr : World} {t : List (List Int)} {F : Nat → Int} {vm : Value} {made : List Nat} (h : ReSt w wr t F vm made) (k : Nat) : ReSt w (wr.drewN k) t F vm made := ⟨h.sp.drewN k, Below.drewN' h.below k⟩
theorem ReSt.drew {w wr : World} {t : List (List Int)} {F : Nat → Int} {vm : Value} {made : List Nat} (h : ReSt w wr t F vm made) : ReSt w wr.drew t F vm made := ⟨h.sp.drew, ⟨h.below.os, h.below.tape, h.below.output, h.below.size, h.below.block⟩⟩
theorem ReSt.start {w wr : World} {t : List (List Int)} {F : Nat → Int} (h : MEx w (lnx t) w.heap.size F wr) (hb : Arr 31 wr (w.heap.size + 1) 1 (fun _ => .slice (some ⟨w.heap.size, 0, none⟩) (lnx t) (lnx t))) (hs : wr.heap.size = w.heap.size + 2) :
    ReSt w (wr.alloc (.cells #[.slice none 0 0] 31)) t F (.slice none 0 0) [] := by
  refine ⟨⟨hb.alloc _, h.arr.alloc _, ?_, OwnN.nil _ _, by omega, by omega, by omega, by omega, by omega, by omega, by simp [lnx], by simp; omega⟩, h.below.alloc (by omega) _⟩
  have := Arr.one 31 wr (.slice none 0 0)
  rw [hs] at this
  exact this
theorem ReSt.add {w wr w' : World} {t : List (List Int)} {F : Nat → Int} {vm : Value} {made : List Nat} (h : ReSt w wr t F vm made) {x im : Nat} {e : Ending}
    (hp : ReGood wr (w.heap.size + 3) (lnx t) (w.heap.size + 1) w.heap.size (w.heap.size + 2) F vm made x im e w') :
    e = .returned (.bool true) ∧ ∃ vm', ReSt w w' t (upd F x im) vm' (addR F made x) ∧ ∀ {g0 q : Nat}, w.heap.size + 3 ≤ g0 → ∀ (D : List Nat), (∀ i, i < q → nthx made i = nthx D i) → q ≤ lnx made →
      (∀ i, i < q → wr.cell? ⟨g0, i, none⟩ = some (.int .i64 ((nthx D i : Nat) : Int))) → ∀ i, i < q → w'.cell? ⟨g0, i, none⟩ = some (.int .i64 ((nthx D i : Nat) : Int)) := by
  obtain ⟨rfl, vm', h1, h2, h3⟩ := hp
  have hs := h.sp.hb
  refine ⟨rfl, vm', ⟨h1, h.below.trans (h2.below ?_ (by omega))⟩, ?_⟩
  · intro k hk
    rintro (e | e | e)
    · omega
    · omega
    · have := (h.sp.own.lt e).1
      omega
  · intro g0 q hg0 D hpre hq hc i hi
    by_cases hb : vm.ownBlock = some g0
    · rw [h3 g0 hb i (by omega), hpre i hi]
    · have hlt := World.block_lt_of_cell? wr _ (hc i hi)
      have := h2.block g0 hlt (by rintro (e | e | e); omega; omega; exact hb e)
      rw [World.cell?_of_block (w := wr) (w' := w') this]
      exact hc i hi
theorem RNum.start (t : List (List Int)) (gens : List Int) (s : List (List Int)) (images : List Int) : RNum t gens s images 0 (fun _ => -1) [] :=
  ⟨EInv.start t gens s images, fun x hx => ⟨fun h => (by omega), fun h => (by cases h)⟩, List.nodup_nil, fun x h => (by cases h), fun x h => (by cases h)⟩
theorem upd_agree {F : Nat → Int} {z : Nat} {im : Int} (h : F z < 0 ∨ F z = im) {y : Nat} (hy : 0 ≤ F y) : upd F z im y = F y := by
  by_cases e : y = z
  · subst e
    rw [upd_same]
    rcases h with h | h
    · omega
    · exact h.symm
  · exact upd_other F _ e
/-- The products of the reached elements from the first ones with those of D, as far as the loops are. -/
def ClosedD (t s : List (List Int)) (F : Nat → Int) (x g : Nat) : Prop := 0 ≤ F x ∧ 0 ≤ F g ∧ F (tabOf t x g) = (tabOf s (F x).toNat (F g).toNat : Int)
theorem ClosedD.upd {t s : List (List Int)} {F : Nat → Int} {x g z : Nat} {im : Int} (h : ClosedD t s F x g) (hz : F z < 0 ∨ F z = im) : ClosedD t s (upd F z im) x g := by
  obtain ⟨h1, h2, h3⟩ := h
  unfold ClosedD
  rw [upd_agree hz h1, upd_agree hz h2, upd_agree hz (by rw [h3]; omega)]
  exact ⟨h1, h2, h3⟩
def DCells (B : Nat) (wr : World) (ma : Option Addr) (D : List Nat) : Prop := 0 < lnx D → ∃ g0, ma = some ⟨g0, 0, none⟩ ∧ B + 3 ≤ g0 ∧ ∀ j, j < lnx D → wr.cell? ⟨g0, j, none⟩ = some (.int .i64 ((nthx D j : Nat) : Int))

theorem slice3 (W : World) (a : Option Addr) (L c : Nat) (h1 : L ≤ c) (h0 : 0 < L → ∃ g, a = some ⟨g, 0, none⟩) (h2 : L = 0 → a = none ∧ c = 0) :
    (Instr.slice 31 (.slice a L c) none (some (.int .i64 L)) (some (.int .i64 L))).run Try.prog W = .ok (.slice a L L) W := by
  obtain ⟨i, hi, hz, hsz, hby⟩ := info_parts Try.infoInt
  by_cases h : L = 0
  · obtain ⟨rfl, rfl⟩ := h2 h
    subst h
    simp [Instr.slice, Instr.sliceBounds, Instr.sliceBound, asIntOf, run_underlying Try.underlying31, sizeOf, typeInfo, hi]
  · obtain ⟨g, rfl⟩ := h0 (by omega)
    have h5 : ¬ ((c : Int) < (L : Int)) := by omega
    have h6 : ¬ ((L : Int) < 0) := by omega
    simp [Instr.slice, Instr.sliceBounds, Instr.sliceBound, asIntOf, run_underlying Try.underlying31, sizeOf, typeInfo, hi, h1, Addr.add_lit]

end Go.Proofs.Ytgghmjnbkbiffaa

namespace Go.Proofs.Ytgghmjnbkbiffaa
open Go.RowKit
set_option linter.unusedVariables false

set_option maxHeartbeats 1000000 in
theorem divAdd_old (w : World) (base n gb gi gm : Nat) (f : Nat → Bool) (vm : Value) (made : List Nat) (h : SpanIn w base n gb gi gm f vm made) (x : Nat) (hx : x < n) (hn : n ≤ 400) (hf : f x = true) :
    Calls Try.prog 116 #[.int .i64 x, .pointer (some ⟨gb, 0, none⟩), .pointer (some ⟨gm, 0, none⟩)] w fun e w' => e = .returned (.tuple #[]) ∧ w = w' := by
  have c1 := h.box.cell (i := 0) (by omega)
  have c2 := h.arr.cell hx
  rw [hf] at c2
  clear h hf
  go_enter Try.func116, Try.ntmps116
  go_wp2
  go_end0
  exact ⟨rfl, rfl⟩

set_option maxHeartbeats 1000000 in
theorem divAdd_new (w : World) (base n gb gi gm : Nat) (f : Nat → Bool) (vm : Value) (made : List Nat) (h : SpanIn w base n gb gi gm f vm made) (x : Nat) (hx : x < n) (hn : n ≤ 400) (hf : f x = false) (hlen : lnx made < 400) :
    Calls Try.prog 116 #[.int .i64 x, .pointer (some ⟨gb, 0, none⟩), .pointer (some ⟨gm, 0, none⟩)] w (SpanPost w base n gb gi gm f vm made x) := by
  have c1 := h.box.cell (i := 0) (by omega)
  have c2 := h.arr.cell hx
  have c3 := h.arr.frozen x
  rw [hf] at c2
  have n1 := h.n1
  have n2 := h.n2
  have n3 := h.n3
  have b1 := h.b1
  have b2 := h.b2
  have b3 := h.b3
  have hb := h.hb
  obtain ⟨W, hW⟩ : ∃ W, W = w.setCell ⟨gi, x, none⟩ (.bool true) := ⟨_, rfl⟩
  have d1 : Arr 60 W gb 1 (fun _ => .slice (some ⟨gi, 0, none⟩) n n) := by rw [hW]; exact h.box.far n1 _
  have d2 : Arr 4 W gi n (fun j => .bool (if j = x then true else f j)) := by
    rw [hW]
    exact (h.arr.set_ x (.bool true)).congr (fun i hi => by by_cases hh : i = x <;> simp [hh])
  have d3 : Arr 31 W gm 1 (fun _ => vm) := by rw [hW]; exact h.mbox.far (Ne.symm n3) _
  have d4 : OwnN W base vm made := by rw [hW]; exact ownsRow_setCell_below h.own b2 _
  have d5 : Only (fun k => k = gi ∨ k = gm ∨ vm.ownBlock = some k) w W := by rw [hW]; exact (Only.refl _ _).setCell (fun _ => .inl rfl) _
  have hsz : W.heap.size = w.heap.size := by rw [hW]; simp [World.setCell]
  have HSZ := Lib.hid hsz
  have hbW : base ≤ W.heap.size := by omega
  clear hsz h
  have hW' := hW.symm
  have c4 := d3.cell (i := 0) (by omega)
  clear hW hf
  have e1 : Arr 31 (W.alloc (.cells #[.int .i64 x] 3)) gm 1 (fun _ => vm) := d3.alloc _
  have e2 := World.cell?_alloc_new W #[.int .i64 (x : Int)] 3 0
  have e4 := d4.alloc (.cells #[.int .i64 x] 3)
  have D1 := Lib.hid d1
  have D2 := Lib.hid d2
  have D3 := Lib.hid d3
  have D5 := Lib.hid d5
  have E1 := Lib.hid e1
  clear d1 d2 d3 d4 d5 e1
  go_enter Try.func116, Try.ntmps116
  go_wp2_with (at_builtin; refine wpList_push _ rfl _ _ 31 rfl base 3 (.int .i64 0) 8 Try.underlying31 Try.infoInt rfl vm (lnx made) _ rfl W.heap.size (.int .i64 x) rfl e4 e2 rfl ?_ ?_ ?_ ?_)
  · simp only [maxLen]; omega
  · omega
  · simp; omega
  intro r cap' w2 hap
  have hown := hap.own
  have hgrow := hap.grown
  have hlt : ∀ k, vm.ownBlock = some k → base ≤ k ∧ k < W.heap.size + 1 := fun k hk => by simpa using e4.lt hk
  have hnm : some gm ≠ vm.ownBlock := fun e => by have := (hlt gm e.symm).1; omega
  have hni : some gi ≠ vm.ownBlock := fun e => by have := (hlt gi e.symm).1; omega
  have hnb : some gb ≠ vm.ownBlock := fun e => by have := (hlt gb e.symm).1; omega
  have hsz2 := hgrow.size
  simp only [World.size_alloc] at hsz2
  have f1 := E1.out.grown hgrow hnm
  have c5 := f1.cell (i := 0) (by omega)
  have c6 := f1.frozen 0
  have hr1 : gm ≠ r := fun e => by
    have := hown.lt r rfl
    omega
  have P1 : SpanPost w base n gb gi gm f vm made x (.returned (.tuple #[])) (w2.setCell ⟨gm, 0, none⟩ (.slice (some ⟨r, 0, none⟩) (lnx made + 1) cap')) := by
    refine ⟨rfl, .slice (some ⟨r, 0, none⟩) (lnx made + 1) cap', ⟨((D1.out.alloc _).grown hgrow hnb).far n2 _, ((D2.out.alloc _).grown hgrow hni).far n3 _, (f1.set_ 0 _).congr (fun i hi => by simp; omega), ?_, b1, b2, b3, n1, n2, n3, ?_, ?_⟩, ?_, ?_, ?_⟩
    · exact OwnN.push (ownsRow_setCell_below hown b3 _)
    · rw [lnx_append, lnx_one]; omega
    · simp [World.setCell]; omega
    · refine Only.setCell (Only.grown (D5.out.alloc _) hgrow ?_) (fun _ => .inr (.inl rfl)) _
      exact fun k hk e => .inr (.inr e)
    · intro k hk
      rcases hap.at_ hk with e | e
      · exact .inl e
      · exact .inr (by rw [e]; have := HSZ.out; simp; omega)
    · intro g hg j hj
      have hne : gm ≠ g := fun e => hnm (by rw [e, hg])
      rw [World.cell?_setCell_other _ _ _ _ (fun e => hne (congrArg Addr.block e))]
      exact hap.kept g hg j _ (by simp [nthx, lnx] at hj ⊢; simp [hj])
  have HP := Lib.hid P1
  clear P1 f1 hap hown hgrow hlt hnm hni hnb e4
  go_wp2
  go_end0
  exact HP.out

theorem divAdd (w : World) (base n gb gi gm : Nat) (vm : Value) (made : List Nat) (h : SpanIn w base n gb gi gm (memB made) vm made) (x : Nat) (hx : x < n) (hn : n ≤ 400) (hnd : made.Nodup) (hlt : ∀ y ∈ made, y < n) :
    Calls Try.prog 116 #[.int .i64 x, .pointer (some ⟨gb, 0, none⟩), .pointer (some ⟨gm, 0, none⟩)] w (SpanAdds w base n gb gi gm vm made x) := by
  by_cases hm : x ∈ made
  · refine (divAdd_old w base n gb gi gm _ vm made h x hx hn (by simp [memB, hm])).mono ?_
    rintro e w' ⟨rfl, rfl⟩
    have ha : addN made x = made := by simp [addN, hm]
    refine ⟨rfl, vm, by rw [ha]; exact h, Only.refl _ _, fun k hk => .inl hk, fun g hg j hj => ?_⟩
    have := World.ownsRow.cells h.own hg j (.int .i64 ((nthx made j : Nat) : Int)) (by simp [nthx, lnx] at hj ⊢; simp [hj])
    rw [Addr.add_lit] at this
    simpa using this
  · have ha : addN made x = made ++ [x] := by simp [addN, hm]
    have hlen : lnx made < 400 := by
      have := nodup_le (addN_nodup hnd x) (fun y hy => ((addN_mem _ _ _).1 hy).elim (hlt y) (fun e => e ▸ hx))
      rw [ha] at this
      simp [lnx] at this ⊢
      omega
    refine (divAdd_new w base n gb gi gm _ vm made h x hx hn (by simp [memB, hm]) hlen).mono ?_
    rintro e w' ⟨rfl, vm', h1, h2, h3⟩
    refine ⟨rfl, vm', ?_, h2, h3⟩
    rw [ha]
    have hf : (fun j => if j = x then true else memB made j) = memB (made ++ [x]) := by
      funext j
      by_cases hj : j = x <;> simp [memB, hj]
    rw [hf] at h1
    exact h1

/-- Memory at the head of each loop of generates. -/
structure GnSt (w wr : World) (n : Nat) (vm : Value) (made : List Nat) : Prop where
  sp : SpanIn wr (w.heap.size + 3) n (w.heap.size + 1) w.heap.size (w.heap.size + 2) (memB made) vm made
  below : Below w.heap.size w wr
theorem GnSt.add {w wr w' : World} {n : Nat} {vm : Value} {made : List Nat} (h : GnSt w wr n vm made) {x : Nat} {e : Ending} (hp : SpanAdds wr (w.heap.size + 3) n (w.heap.size + 1) w.heap.size (w.heap.size + 2) vm made x e w') :
    e = .returned (.tuple #[]) ∧ ∃ vm', GnSt w w' n vm' (addN made x) ∧ ∀ {g0 q : Nat}, w.heap.size + 3 ≤ g0 → ∀ (D : List Nat), (∀ i, i < q → nthx made i = nthx D i) → q ≤ lnx made →
      (∀ i, i < q → wr.cell? ⟨g0, i, none⟩ = some (.int .i64 ((nthx D i : Nat) : Int))) → ∀ i, i < q → w'.cell? ⟨g0, i, none⟩ = some (.int .i64 ((nthx D i : Nat) : Int)) := by
  obtain ⟨rfl, vm', h1, h2, -, h3⟩ := hp
  have hs := h.sp.hb
  refine ⟨rfl, vm', ⟨h1, h.below.trans (h2.below ?_ (by omega))⟩, ?_⟩
  · intro k hk
    rintro (e | e | e)
    · omega
    · omega
    · have := (h.sp.own.lt e).1
      omega
  · intro g0 q hg0 D hpre hq hc i hi
    by_cases hb : vm.ownBlock = some g0
    · rw [h3 g0 hb i (by omega), hpre i hi]
    · have hlt := World.block_lt_of_cell? wr _ (hc i hi)
      have := h2.block g0 hlt (by rintro (e | e | e); omega; omega; exact hb e)
      rw [World.cell?_of_block (w := wr) (w' := w') this]
      exact hc i hi

open Classical in
/-- All gens are elements, and they generate all. -/
noncomputable def gensB (t : List (List Int)) (gens : List Int) : Bool := decide (inB (lnx t) gens = true ∧ ∀ x, x < lnx t → Gen (lnx t) (tabOf t) gens x)
open Classical in
theorem gensB_t {t : List (List Int)} {gens : List Int} (h1 : inB (lnx t) gens = true) (h2 : ∀ x, x < lnx t → Gen (lnx t) (tabOf t) gens x) : gensB t gens = true := decide_eq_true ⟨h1, h2⟩
open Classical in
theorem gensB_f {t : List (List Int)} {gens : List Int} (h : ¬ (inB (lnx t) gens = true ∧ ∀ x, x < lnx t → Gen (lnx t) (tabOf t) gens x)) : gensB t gens = false := decide_eq_false h
open Classical in
theorem gensB_inv {t : List (List Int)} {gens : List Int} (h : gensB t gens = true) : inB (lnx t) gens = true ∧ ∀ x, x < lnx t → Gen (lnx t) (tabOf t) gens x := of_decide_eq_true h

/-- The numbers: reached elements are generated. -/
structure GnNum (t : List (List Int)) (gens : List Int) (made : List Nat) : Prop where
  nd : made.Nodup
  lt : ∀ x, x ∈ made → x < lnx t
  gen : ∀ x, x ∈ made → Gen (lnx t) (tabOf t) gens x
section
variable {t : List (List Int)} {gens : List Int} {made : List Nat}
theorem GnNum.len (h : GnNum t gens made) : lnx made ≤ lnx t := nodup_le h.nd h.lt
theorem GnNum.add (h : GnNum t gens made) {x : Nat} (hx : x < lnx t) (hg : Gen (lnx t) (tabOf t) gens x) : GnNum t gens (addN made x) :=
  ⟨addN_nodup h.nd x, fun y hy => ((addN_mem _ _ _).1 hy).elim (h.lt y) (fun e => e ▸ hx), fun y hy => ((addN_mem _ _ _).1 hy).elim (h.gen y) (fun e => e ▸ hg)⟩
theorem GnNum.all (h : GnNum t gens made) (ha : Assoc (lnx t) (tabOf t)) (hT : ∀ r c, r < lnx t → c < lnx t → tabOf t r c < lnx t) (hb : ∀ i, i < lnx gens → nat_ gens i ∈ made) (hc : ∀ x, x ∈ made → ∀ i, i < lnx gens → tabOf t x (nat_ gens i) ∈ made) {y : Nat} (hy : Gen (lnx t) (tabOf t) gens y) :
    y ∈ made ∧ ∀ x, x ∈ made → tabOf t x y ∈ made := by
  induction hy with
  | base i hi e hx =>
    rw [← nat_of e]
    exact ⟨hb i hi, fun x hx => hc x hx i hi⟩
  | mul h1 h2 e1 e2 =>
    refine ⟨e2.2 _ e1.1, fun x hx => ?_⟩
    rw [← ha x _ _ (h.lt x hx) (h1.lt hT) (h2.lt hT)]
    exact e2.2 _ (e1.2 x hx)
theorem GnNum.result (h : GnNum t gens made) (ing : inB (lnx t) gens = true) (ha : Assoc (lnx t) (tabOf t)) (hT : ∀ r c, r < lnx t → c < lnx t → tabOf t r c < lnx t) (hb : ∀ i, i < lnx gens → nat_ gens i ∈ made) (hc : ∀ x, x ∈ made → ∀ i, i < lnx gens → tabOf t x (nat_ gens i) ∈ made) :
    gensB t gens = ((lnx made : Int) == (lnx t : Int)) := by
  by_cases e : lnx made = lnx t
  · rw [beq_t (by omega)]
    refine gensB_t ing (fun x hx => h.gen x ?_)
    refine Classical.byContradiction fun hn => ?_
    have := nodup_le (n := lnx t) (List.nodup_cons.2 ⟨hn, h.nd⟩) (fun y hy => by
      rcases List.mem_cons.1 hy with rfl | hy
      · exact hx
      · exact h.lt y hy)
    simp only [lnx, List.length_cons] at this e
    omega
  · rw [beq_f (by omega)]
    refine gensB_f (fun hh => e ?_)
    have h1 := cover_len (lnx t) made (fun x hx => (h.all ha hT hb hc (hh.2 x hx)).1)
    have h2 := h.len
    have e2 : lnx made = made.length := rfl
    omega
end

set_option maxRecDepth 100000 in
set_option maxHeartbeats 2000000 in
theorem generates_any (w : World) (vt vg : Value) (t : List (List Int)) (gens : List Int) (ht : Rows2 w vt t) (hg : Ints w vg gens) (v1 : vErr t = 0) :
    Calls Try.prog 103 #[vt, vg] w fun e w' => e = .returned (.bool (gensB t gens)) ∧ Below w.heap.size w w' := by
  have htab := Tab.of_rows ht (vErr_inv v1).1
  have HAS := Lib.hid (vErr_inv v1).2
  obtain ⟨b, o, cap, rb, ro, rc, rfl, h0, h4, hR, hC, hT⟩ := htab
  obtain ⟨ga, gc, rfl, hg1, hg2, hg3⟩ := hg
  have HHR := Lib.hid hR
  have HHC := Lib.hid hC
  have HHT := Lib.hid hT
  have HG3 := Lib.hid hg3
  have hmk := fun W => run_mk (P := Try.prog) Try.underlying60 Try.infoBool rfl (lnx t) (by omega) (by omega) W
  have hmf : ∀ (fn : Fn) (first cap : Array Value) (w : World), (Instr.makeFunc fn first cap).run Try.prog w = .ok (.func fn first cap) w := fun _ _ _ _ => rfl
  have hst0 : GnSt w (((w.alloc (.cells (zeros (.bool false) (lnx t)) 4)).alloc (.cells #[.slice (some ⟨w.heap.size, 0, none⟩) (lnx t) (lnx t)] 60)).alloc (.cells #[.slice none 0 0] 31)) (lnx t) (.slice none 0 0) [] := by
    refine ⟨⟨?_, ?_, ?_, OwnN.nil _ _, by omega, by omega, by omega, by omega, by omega, by omega, by simp [lnx], by simp⟩, ?_⟩
    · have := (Arr.one 60 (w.alloc (.cells (zeros (.bool false) (lnx t)) 4)) (.slice (some ⟨w.heap.size, 0, none⟩) (lnx t) (lnx t))).alloc (.cells #[.slice none 0 0] 31)
      simpa using this
    · exact (((Arr.zeros 4 w (.bool false) (lnx t)).alloc _).alloc _).congr (fun i hi => by simp [memB])
    · have := Arr.one 31 ((w.alloc (.cells (zeros (.bool false) (lnx t)) 4)).alloc (.cells #[.slice (some ⟨w.heap.size, 0, none⟩) (lnx t) (lnx t)] 60)) (.slice none 0 0)
      simpa using this
    · exact (((Below.refl _ _).alloc (Nat.le_refl _) _).alloc (by simp) _).alloc (by simp; omega) _
  have HST0 := Lib.hid hst0
  clear hR hC hT hg3 v1 ht hst0
  go_enter Try.func103, Try.ntmps103
  go_wp2
  clear hmk hmf
  go_loopw [20] (fun i wr => ∃ (k : Nat) (vm : Value) (made : List Nat), k ≤ lnx gens ∧ i = .int .i64 k ∧ GnSt w wr (lnx t) vm made ∧ GnNum t gens made ∧ (∀ i, i < k → 0 ≤ nthx gens i ∧ nthx gens i < (lnx t : Int) ∧ nat_ gens i ∈ made) ∧ (lnx made = 0 → vm = .slice none 0 0)) (fun i _ => lnx gens - (intOf i).toNat)
  case atStart => exact ⟨0, _, [], by omega, rfl, HST0.out, ⟨List.nodup_nil, by simp, by simp⟩, fun i hi => by omega, fun _ => rfl⟩
  case round =>
    clear HST0
    obtain ⟨k, vm, made, hk, rfl, hst, hnum, hin, hnil⟩ := hrel
    by_cases hlt : k < lnx gens
    · obtain ⟨pb, po, rfl, hpc⟩ := HG3.out (by omega)
      have d1 := (Keeps.below hst.below) _ _ (hpc k hlt)
      by_cases hok : 0 ≤ nthx gens k ∧ nthx gens k < (lnx t : Int)
      · obtain ⟨x, hx⟩ : ∃ x : Nat, nthx gens k = (x : Int) := ⟨(nthx gens k).toNat, by omega⟩
        have hxt : x < lnx t := by omega
        have hnx : nat_ gens k = x := nat_of hx
        have hgen : Gen (lnx t) (tabOf t) gens x := .base k hlt hx hxt
        rw [hx] at d1
        have HC := Lib.hid (divAdd wr _ _ _ _ _ vm made hst.sp x hxt h4 hnum.nd hnum.lt)
        have HST := Lib.hid hst
        have HN2 := Lib.hid (hnum.add hxt hgen)
        have HIN : Hid (∀ i, i < k + 1 → 0 ≤ nthx gens i ∧ nthx gens i < (lnx t : Int) ∧ nat_ gens i ∈ addN made x) := fun i hi => by
          by_cases e : i = k
          · rw [e]; exact ⟨hok.1, hok.2, (addN_mem _ _ _).2 (.inr hnx)⟩
          · obtain ⟨a1, a2, a3⟩ := hin i (by omega)
            exact ⟨a1, a2, (addN_mem _ _ _).2 (.inl a3)⟩
        clear hpc hst hnum hin hok hx hnx hgen hnil
        go_wp2_with fail
        refine HC.out.mono ?_
        intro e w3 hp
        obtain ⟨rfl, vm3, hst3, -⟩ := HST.out.add hp
        have HST3 := Lib.hid hst3
        clear hp hst3 HC HST
        go_wp2
        go_roundw
        case rel => exact ⟨k + 1, vm3, _, by omega, by go_num, HST3.out, HN2.out, HIN.out, fun h => by
          exfalso
          have h1 := (addN_mem made x x).2 (.inr rfl)
          have h2 := List.length_pos_of_mem h1
          have e : lnx (addN made x) = (addN made x).length := rfl
          omega⟩
        case measure => simp [intOf]; omega
      · have HNO : Hid (gensB t gens = false) := gensB_f (fun hh => hok (by
          have := nat_cast hh.1 hlt
          omega))
        have HB := Lib.hid hst.below
        clear hpc hst hnum hin hnil
        go_wp2
        all_goals
          go_ret
          exact ⟨by rw [HNO.out]; rfl, HB.out⟩
    · obtain rfl : k = lnx gens := by omega
      have ing : inB (lnx t) gens = true := inB_t (fun i hi => ⟨(hin i hi).1, (hin i hi).2.1⟩)
      obtain ⟨ma, mc, rfl, hmc1, hmc2, hmc3⟩ := hst.sp.own.shape
      have hs3 := fun W => slice3 W ma (lnx made) mc hmc1 (fun h => by obtain ⟨g, e, _⟩ := hmc3 h; exact ⟨g, e⟩) (fun h => by have := hnil h; injection this with e1 e2 e3; exact ⟨e1, e3⟩)
      have c1 := hst.sp.mbox.cell (i := 0) (by omega)
      have hml := hnum.len
      have HD0 : Hid (DCells w.heap.size wr ma made) := fun h => by
        obtain ⟨g0, e, h1, h2⟩ := hmc3 h
        exact ⟨g0, e, h1, h2⟩
      have HON : Hid (∀ i, i < lnx gens → nat_ gens i ∈ made) := fun i hi => (hin i hi).2.2
      have HING := Lib.hid ing
      have HST := Lib.hid hst
      have HNUM := Lib.hid hnum
      clear hst hnum hin hnil hmc3 ing
      go_wp2
      obtain ⟨D, hDD⟩ : ∃ D, D = made := ⟨_, rfl⟩
      have HLOOP : Hid (∃ (vm : Value) (made : List Nat), GnSt w wr (lnx t) vm made ∧ GnNum t gens made ∧ lnx D ≤ lnx made ∧ (∀ j, j < lnx D → nthx made j = nthx D j) ∧ DCells w.heap.size wr ma D) := ⟨_, made, HST.out, HNUM.out, by rw [hDD]; exact Nat.le_refl _, fun j _ => by rw [hDD], by rw [hDD]; exact HD0.out⟩
      clear HST HNUM HD0 c1 hs3 hmc1 hmc2
      subst hDD
      go_loopw [11] (fun i wr => ∃ (ii : Nat) (vm : Value) (made : List Nat), i = .int .i64 ii ∧ ii ≤ lnx made ∧ GnSt w wr (lnx t) vm made ∧ GnNum t gens made ∧ lnx D ≤ lnx made ∧ (∀ j, j < lnx D → nthx made j = nthx D j) ∧ DCells w.heap.size wr ma D ∧ (∀ j d, j < ii → d < lnx D → tabOf t (nthx made j) (nthx D d) ∈ made)) (fun i _ => lnx t - (intOf i).toNat)
      case atStart =>
        obtain ⟨vm, made, h1, h2, h3, h4, h5⟩ := HLOOP.out
        exact ⟨0, vm, made, rfl, by omega, h1, h2, h3, h4, h5, fun j d hj => by omega⟩
      case round =>
        clear HLOOP hml
        obtain ⟨ii, vm, made, rfl, hii, hst, hnum, hDm, hpre, hdc, hcl⟩ := hrel
        have hml := hnum.len
        obtain ⟨na, nc, rfl, hmc1, hmc2, hmc3⟩ := hst.sp.own.shape
        have c1 := hst.sp.mbox.cell (i := 0) (by omega)
        by_cases hlt3 : ii < lnx made
        · have HL4 : Hid (∃ (vm : Value) (made : List Nat), ii < lnx made ∧ GnSt w wr (lnx t) vm made ∧ GnNum t gens made ∧ lnx D ≤ lnx made ∧ (∀ j, j < lnx D → nthx made j = nthx D j) ∧ DCells w.heap.size wr ma D ∧ (∀ j d, j < ii → d < lnx D → tabOf t (nthx made j) (nthx D d) ∈ made)) := ⟨_, made, hlt3, hst, hnum, hDm, hpre, hdc, hcl⟩
          clear hst hnum hpre hdc hcl hmc3
          go_wp2
          clear c1
          clear hml hmc1 hDm hii
          go_loopw [50] (fun i wr => ∃ (dd : Nat) (vm : Value) (made : List Nat), i = .int .i64 dd ∧ dd ≤ lnx D ∧ ii < lnx made ∧ GnSt w wr (lnx t) vm made ∧ GnNum t gens made ∧ lnx D ≤ lnx made ∧ (∀ j, j < lnx D → nthx made j = nthx D j) ∧ DCells w.heap.size wr ma D ∧ (∀ j d, j < ii → d < lnx D → tabOf t (nthx made j) (nthx D d) ∈ made) ∧ (∀ d, d < dd → tabOf t (nthx made ii) (nthx D d) ∈ made)) (fun i _ => lnx D - (intOf i).toNat)
          case atStart =>
            obtain ⟨vm, made, h1, h2, h3, h4, h5, h6, h7⟩ := HL4.out
            exact ⟨0, vm, made, rfl, by omega, h1, h2, h3, h4, h5, h6, h7, fun d hd => by omega⟩
          case round =>
            clear HL4
            obtain ⟨dd, vm, made, rfl, hdd, hlt3, hst, hnum, hDm, hpre, hdc, hcl, hcd⟩ := hrel
            have hml2 := hnum.len
            by_cases hdl : dd < lnx D
            · obtain ⟨g0, rfl, hg0, hcs⟩ := hdc (by omega)
              have c2 := hcs dd hdl
              obtain ⟨g, hg⟩ : ∃ g, nthx D dd = g := ⟨_, rfl⟩
              rw [hg] at c2
              have hgm : g ∈ made := by rw [← hg, ← hpre dd hdl]; exact nthx_mem (by omega)
              obtain ⟨na, nc, rfl, hmc1, hmc2, hmc3⟩ := hst.sp.own.shape
              have c1 := hst.sp.mbox.cell (i := 0) (by omega)
              obtain ⟨gm0, rfl, -, hms⟩ := hmc3 (by omega)
              have c3 := hms ii hlt3
              obtain ⟨x, hx⟩ : ∃ x, nthx made ii = x := ⟨_, rfl⟩
              rw [hx] at c3
              have hxm : x ∈ made := by rw [← hx]; exact nthx_mem hlt3
              have hgn := hnum.lt g hgm
              have hxn := hnum.lt x hxm
              have hTz := HHT.out x g hxn hgn
              have hkp := Keeps.below hst.below
              have r1 := hkp _ _ (HHR.out x hxn)
              have r2 := hkp _ _ (HHC.out x g hxn hgn)
              have HC := Lib.hid (divAdd wr _ _ _ _ _ _ made hst.sp (tabOf t x g) hTz h4 hnum.nd hnum.lt)
              have HN2 := Lib.hid (hnum.add hTz ((hnum.gen x hxm).mul (hnum.gen g hgm)))
              have HST := Lib.hid hst
              have HPRE := Lib.hid hpre
              have HCS := Lib.hid hcs
              have hla := addN_len made (tabOf t x g)
              have HC2 : Hid ((∀ j d, j < ii → d < lnx D → tabOf t (nthx (addN made (tabOf t x g)) j) (nthx D d) ∈ addN made (tabOf t x g)) ∧ (∀ d, d < dd + 1 → tabOf t (nthx (addN made (tabOf t x g)) ii) (nthx D d) ∈ addN made (tabOf t x g)) ∧ (∀ j, j < lnx D → nthx (addN made (tabOf t x g)) j = nthx D j)) := by
                refine ⟨fun j d hj hd => ?_, fun d hd => ?_, fun j hj => ?_⟩
                · rw [addN_nth _ _ (by omega)]
                  exact (addN_mem _ _ _).2 (.inl (hcl j d hj hd))
                · rw [addN_nth _ _ hlt3, hx]
                  by_cases e : d = dd
                  · rw [e, hg]; exact (addN_mem _ _ _).2 (.inr rfl)
                  · have := hcd d (by omega)
                    rw [hx] at this
                    exact (addN_mem _ _ _).2 (.inl this)
                · rw [addN_nth _ _ (by omega)]
                  exact hpre j hj
              clear hst hnum hpre hdc hcl hcd hcs hms hmc3 hx hg hkp hxm hgm
              go_wp2_with fail
              refine HC.out.mono ?_
              intro e w3 hp
              obtain ⟨rfl, vm3, hst3, hold⟩ := HST.out.add hp
              have hD3 : DCells w.heap.size w3 (some ⟨g0, 0, none⟩) D := fun _ => ⟨g0, rfl, hg0, hold hg0 D (q := lnx D) HPRE.out hDm HCS.out⟩
              have HST3 := Lib.hid hst3
              have HD3 := Lib.hid hD3
              clear hp hst3 HC HST hold hD3 HPRE HCS
              go_wp2
              go_roundw
              case rel => exact ⟨dd + 1, vm3, _, by go_num, by omega, by omega, HST3.out, HN2.out, by omega, HC2.out.2.2, HD3.out, HC2.out.1, HC2.out.2.1⟩
              case measure => simp [intOf]; omega
            · have P1 : Hid (ii + 1 ≤ lnx made ∧ GnSt w wr (lnx t) vm made ∧ GnNum t gens made ∧ lnx D ≤ lnx made ∧ (∀ j, j < lnx D → nthx made j = nthx D j) ∧ DCells w.heap.size wr ma D ∧ (∀ j d, j < ii + 1 → d < lnx D → tabOf t (nthx made j) (nthx D d) ∈ made)) := ⟨hlt3, hst, hnum, hDm, hpre, hdc, fun j d hj hd => by
                by_cases e : j < ii
                · exact hcl j d e hd
                · obtain rfl : j = ii := by omega
                  exact hcd d (by omega)⟩
              clear hst hnum hpre hdc hcl hcd
              go_wp2
              go_roundw
              case rel => exact ⟨ii + 1, vm, made, by go_num, P1.out⟩
              case measure => simp [intOf]; omega
        · have hall : ∀ x, x ∈ made → ∀ i, i < lnx gens → tabOf t x (nat_ gens i) ∈ made := fun x hx i hi => by
            obtain ⟨j, hj, rfl⟩ := mem_nthx hx
            obtain ⟨d, hd, e⟩ := mem_nthx (HON.out i hi)
            rw [← e]
            exact hcl j d (by omega) hd
          have hon : ∀ i, i < lnx gens → nat_ gens i ∈ made := fun i hi => by
            obtain ⟨d, hd, e⟩ := mem_nthx (HON.out i hi)
            rw [← e, ← hpre d hd]
            exact nthx_mem (by omega)
          have HRES := Lib.hid (hnum.result HING.out HAS.out HHT.out hon hall)
          have HB := Lib.hid hst.below
          clear hst hnum hpre hdc hcl hmc3 hall hon
          go_wp2
          go_ret
          exact ⟨by rw [HRES.out]; rfl, HB.out⟩
end Go.Proofs.Ytgghmjnbkbiffaa
