/-
  The walk of the closure of morph.Extend: 'reach'.
-/
import Derived.Test.YtgghmjnbkbiffaaExtM
import Derived.Test.YtgghmjnbkbiffaaSpanW
namespace Go.Proofs.Ytgghmjnbkbiffaa
open Go.RowKit
set_option linter.unusedVariables false

/-- What the closure finds: the box of f, f itself, the box of reached, reached. -/
structure ReIn (w : World) (base n gb gi gm : Nat) (F : Nat → Int) (vm : Value) (made : List Nat) : Prop where
  box : Arr 31 w gb 1 (fun _ => .slice (some ⟨gi, 0, none⟩) n n)
  arr : Arr 3 w gi n (fun j => .int .i64 (F j))
  mbox : Arr 31 w gm 1 (fun _ => vm)
  own : OwnN w base vm made
  b1 : gb < base
  b2 : gi < base
  b3 : gm < base
  n1 : gb ≠ gi
  n2 : gb ≠ gm
  n3 : gi ≠ gm
  len : lnx made ≤ 400
  hb : base ≤ w.heap.size
theorem ReIn.drewN {w : World} {base n gb gi gm : Nat} {F : Nat → Int} {vm : Value} {made : List Nat} (h : ReIn w base n gb gi gm F vm made) (k : Nat) : ReIn (w.drewN k) base n gb gi gm F vm made := ⟨h.box, h.arr, h.mbox, h.own, h.b1, h.b2, h.b3, h.n1, h.n2, h.n3, h.len, h.hb⟩
theorem ReIn.drew {w : World} {base n gb gi gm : Nat} {F : Nat → Int} {vm : Value} {made : List Nat} (h : ReIn w base n gb gi gm F vm made) : ReIn w.drew base n gb gi gm F vm made := ⟨h.box, h.arr, h.mbox, h.own, h.b1, h.b2, h.b3, h.n1, h.n2, h.n3, h.len, h.hb⟩

set_option maxHeartbeats 1000000 in
theorem reach_old (w : World) (base n gb gi gm : Nat) (F : Nat → Int) (vm : Value) (made : List Nat) (h : ReIn w base n gb gi gm F vm made) (x im : Nat) (hx : x < n) (hn : n ≤ 400) (hf : 0 ≤ F x) :
    Calls Try.prog 66 #[.int .i64 x, .int .i64 im, .pointer (some ⟨gb, 0, none⟩), .pointer (some ⟨gm, 0, none⟩)] w fun e w' => e = .returned (.bool (F x == (im : Int))) ∧ w = w' := by
  have c1 := h.box.cell (i := 0) (by omega)
  have c2 := h.arr.cell hx
  clear h
  go_enter Try.func66, Try.ntmps66
  go_wp2
  go_ret
  exact ⟨rfl, rfl⟩

def RePost (w : World) (base n gb gi gm : Nat) (F : Nat → Int) (vm : Value) (made : List Nat) (x im : Nat) (e : Ending) (w' : World) : Prop :=
  e = .returned (.bool true) ∧ ∃ vm', ReIn w' base n gb gi gm (upd F x im) vm' (made ++ [x]) ∧ Only (fun k => k = gi ∨ k = gm ∨ vm.ownBlock = some k) w w' ∧ (∀ k, vm'.ownBlock = some k → vm.ownBlock = some k ∨ w.heap.size ≤ k) ∧ ∀ g, vm.ownBlock = some g → ∀ j, j < lnx made → w'.cell? ⟨g, j, none⟩ = some (.int .i64 ((nthx made j : Nat) : Int))

set_option maxRecDepth 100000 in
set_option maxHeartbeats 1000000 in
theorem reach_new (w : World) (base n gb gi gm : Nat) (F : Nat → Int) (vm : Value) (made : List Nat) (h : ReIn w base n gb gi gm F vm made) (x im : Nat) (hx : x < n) (hn : n ≤ 400) (hf : F x < 0) (hlen : lnx made < 400) :
    Calls Try.prog 66 #[.int .i64 x, .int .i64 im, .pointer (some ⟨gb, 0, none⟩), .pointer (some ⟨gm, 0, none⟩)] w (RePost w base n gb gi gm F vm made x im) := by
  have c1 := h.box.cell (i := 0) (by omega)
  have c2 := h.arr.cell hx
  have c3 := h.arr.frozen x
  have n1 := h.n1
  have n2 := h.n2
  have n3 := h.n3
  have b1 := h.b1
  have b2 := h.b2
  have b3 := h.b3
  have hb := h.hb
  obtain ⟨W, hW⟩ : ∃ W, W = w.setCell ⟨gi, x, none⟩ (.int .i64 im) := ⟨_, rfl⟩
  have d1 : Arr 31 W gb 1 (fun _ => .slice (some ⟨gi, 0, none⟩) n n) := by rw [hW]; exact h.box.far n1 _
  have d2 : Arr 3 W gi n (fun j => .int .i64 (upd F x im j)) := by
    rw [hW]
    exact (h.arr.set_ x (.int .i64 im)).congr (fun i hi => by unfold upd; by_cases hh : i = x <;> simp [hh])
  have d3 : Arr 31 W gm 1 (fun _ => vm) := by rw [hW]; exact h.mbox.far (Ne.symm n3) _
  have d4 : OwnN W base vm made := by rw [hW]; exact ownsRow_setCell_below h.own b2 _
  have d5 : Only (fun k => k = gi ∨ k = gm ∨ vm.ownBlock = some k) w W := by rw [hW]; exact (Only.refl _ _).setCell (fun _ => .inl rfl) _
  have hsz : W.heap.size = w.heap.size := by rw [hW]; simp [World.setCell]
  have HSZ := Lib.hid hsz
  have hbW : base ≤ W.heap.size := by omega
  clear hsz h
  have hW' := hW.symm
  have c4 := d3.cell (i := 0) (by omega)
  clear hW
  have e1 : Arr 31 (W.alloc (.cells #[.int .i64 x] 3)) gm 1 (fun _ => vm) := d3.alloc _
  have e2 := World.cell?_alloc_new W #[.int .i64 (x : Int)] 3 0
  have e4 := d4.alloc (.cells #[.int .i64 x] 3)
  have D1 := Lib.hid d1
  have D2 := Lib.hid d2
  have D3 := Lib.hid d3
  have D5 := Lib.hid d5
  have E1 := Lib.hid e1
  clear d1 d2 d3 d4 d5 e1
  go_enter Try.func66, Try.ntmps66
  go_wp2_with (at_builtin; refine wpList_push _ rfl _ _ 31 rfl base 3 (.int .i64 0) 8 Try.underlying31 Try.infoInt rfl vm (lnx made) _ rfl W.heap.size (.int .i64 x) rfl e4 e2 rfl ?_ ?_ ?_ ?_)
  · simp only [maxLen]; omega
  · omega
  · simp; omega
  intro r cap' w2 hap
  have hown := hap.own
  have hgrow := hap.grown
  have hlt : ∀ k, vm.ownBlock = some k → base ≤ k ∧ k < W.heap.size + 1 := fun k hk => by simpa using e4.lt hk
  have hnm : some gm ≠ vm.ownBlock := fun e => by have := (hlt gm e.symm).1; omega
  have hni : some gi ≠ vm.ownBlock := fun e => by have := (hlt gi e.symm).1; omega
  have hnb : some gb ≠ vm.ownBlock := fun e => by have := (hlt gb e.symm).1; omega
  have hsz2 := hgrow.size
  simp only [World.size_alloc] at hsz2
  have f1 := E1.out.grown hgrow hnm
  have c5 := f1.cell (i := 0) (by omega)
  have c6 := f1.frozen 0
  have c7 := ((D1.out.alloc (.cells #[.int .i64 x] 3)).grown hgrow hnb).cell (i := 0) (by omega)
  have c8 := ((D2.out.alloc (.cells #[.int .i64 x] 3)).grown hgrow hni).cell hx
  rw [upd_same] at c8
  have P1 : RePost w base n gb gi gm F vm made x im (.returned (.bool true)) (w2.setCell ⟨gm, 0, none⟩ (.slice (some ⟨r, 0, none⟩) (lnx made + 1) cap')) := by
    refine ⟨rfl, .slice (some ⟨r, 0, none⟩) (lnx made + 1) cap', ⟨((D1.out.alloc _).grown hgrow hnb).far n2 _, ((D2.out.alloc _).grown hgrow hni).far n3 _, (f1.set_ 0 _).congr (fun i hi => by simp; omega), ?_, b1, b2, b3, n1, n2, n3, ?_, ?_⟩, ?_, ?_, ?_⟩
    · exact OwnN.push (ownsRow_setCell_below hown b3 _)
    · rw [lnx_append, lnx_one]; omega
    · simp [World.setCell]; omega
    · refine Only.setCell (Only.grown (D5.out.alloc _) hgrow ?_) (fun _ => .inr (.inl rfl)) _
      exact fun k hk e => .inr (.inr e)
    · intro k hk
      rcases hap.at_ hk with e | e
      · exact .inl e
      · exact .inr (by rw [e]; have := HSZ.out; simp; omega)
    · intro g hg j hj
      have hne : gm ≠ g := fun e => hnm (by rw [e, hg])
      rw [World.cell?_setCell_other _ _ _ _ (fun e => hne (congrArg Addr.block e))]
      exact hap.kept g hg j _ (by simp [nthx, lnx] at hj ⊢; simp [hj])
  have HP := Lib.hid P1
  clear P1 f1 hap hown hgrow hlt hnm hni hnb e4
  go_wp2
  go_ret
  simpa using HP.out
end Go.Proofs.Ytgghmjnbkbiffaa
