/-
  Walks: mult.newClosure, closure.add, closure.generator, mult.Generators.
-/
import Derived.Test.YtgghmjnbkbiffaaValid
import Derived.Test.YtgghmjnbkbiffaaGen
import Derived.StillTailTactics
namespace Go.Proofs.Ytgghmjnbkbiffaa
open Go.RowKit
set_option linter.unusedVariables false

/-- A closure in memory. -/
structure ClIn (w : World) (base n gc gi : Nat) (vt vg vm : Value) (gens made : List Nat) : Prop where
  blk : w.heap[gc]? = some (.cells #[vt, vg, .slice (some ⟨gi, 0, none⟩) n n, vm] 104 (0, 0))
  arr : Arr 4 w gi n (fun j => .bool (memB made j))
  og : OwnN w base vg gens
  om : OwnN w base vm made
  ne : ∀ k, vg.ownBlock = some k → vm.ownBlock ≠ some k
  b1 : gc < base
  b2 : gi < base
  n1 : gc ≠ gi
  hb : base ≤ w.heap.size
section
variable {w w' : World} {base n gc gi : Nat} {vt vg vm : Value} {gens made : List Nat}
theorem ClIn.cell0 (h : ClIn w base n gc gi vt vg vm gens made) : w.cell? ⟨gc, 0, none⟩ = some vt := by simp [World.cell?, h.blk]
theorem ClIn.cell1 (h : ClIn w base n gc gi vt vg vm gens made) : w.cell? ⟨gc, 1, none⟩ = some vg := by simp [World.cell?, h.blk]
theorem ClIn.cell2 (h : ClIn w base n gc gi vt vg vm gens made) : w.cell? ⟨gc, 2, none⟩ = some (.slice (some ⟨gi, 0, none⟩) n n) := by simp [World.cell?, h.blk]
theorem ClIn.cell3 (h : ClIn w base n gc gi vt vg vm gens made) : w.cell? ⟨gc, 3, none⟩ = some vm := by simp [World.cell?, h.blk]
theorem ClIn.frozen (h : ClIn w base n gc gi vt vg vm gens made) (i : Nat) : w.frozen? ⟨gc, i, none⟩ = false := by simp [World.frozen?, h.blk]
theorem ClIn.drew (h : ClIn w base n gc gi vt vg vm gens made) : ClIn w.drew base n gc gi vt vg vm gens made := ⟨h.blk, h.arr, h.og, h.om, h.ne, h.b1, h.b2, h.n1, h.hb⟩
end

def ClAdds (w : World) (B base n gc gi : Nat) (vt vg : Value) (gens made : List Nat) (x : Nat) (e : Ending) (w' : World) : Prop :=
  e = .returned (.tuple #[]) ∧ ∃ vm', ClIn w' base n gc gi vt vg vm' gens (addN made x) ∧ Below B w w'

set_option maxHeartbeats 1000000 in
theorem clAdd_old (w : World) (base n gc gi : Nat) (vt vg vm : Value) (gens made : List Nat) (h : ClIn w base n gc gi vt vg vm gens made) (x : Nat) (hx : x < n) (hn : n ≤ 400) (hm : x ∈ made) :
    Calls Try.prog 105 #[.pointer (some ⟨gc, 0, none⟩), .int .i64 x] w fun e w' => e = .returned (.tuple #[]) ∧ w = w' := by
  have c1 := h.cell2
  have c2 := h.arr.cell hx
  rw [show memB made x = true by simpa [memB] using hm] at c2
  clear h
  go_enter Try.func105, Try.ntmps105
  go_wp2
  go_end0
  exact ⟨rfl, rfl⟩

set_option maxRecDepth 100000 in
set_option maxHeartbeats 1000000 in
theorem clAdd_new (w : World) (B base n gc gi : Nat) (vt vg vm : Value) (gens made : List Nat) (h : ClIn w base n gc gi vt vg vm gens made) (x : Nat) (hx : x < n) (hn : n ≤ 400) (hm : x ∉ made) (hlen : lnx made < 400) (hB1 : B ≤ gc) (hB2 : B ≤ gi) :
    Calls Try.prog 105 #[.pointer (some ⟨gc, 0, none⟩), .int .i64 x] w (ClAdds w B base n gc gi vt vg gens made x) := by
  have c0 := h.cell2
  have c3 := h.cell3
  have c2 := h.arr.cell hx
  have f2 := h.arr.frozen x
  rw [show memB made x = false by simpa [memB] using hm] at c2
  have n1 := h.n1
  have b1 := h.b1
  have b2 := h.b2
  have hb := h.hb
  obtain ⟨W, hW⟩ : ∃ W, W = w.setCell ⟨gi, x, none⟩ (.bool true) := ⟨_, rfl⟩
  have d1 : W.heap[gc]? = some (.cells #[vt, vg, .slice (some ⟨gi, 0, none⟩) n n, vm] 104 (0, 0)) := by rw [hW]; exact (Below.heap_setCell w _ _ gc n1).trans h.blk
  have d2 : Arr 4 W gi n (fun j => .bool (memB (addN made x) j)) := by
    rw [hW]
    refine (h.arr.set_ x (.bool true)).congr (fun i hi => ?_)
    unfold addN
    rw [if_neg hm]
    by_cases hh : i = x <;> simp [hh, memB]
  have d3 : OwnN W base vg gens := by rw [hW]; exact ownsRow_setCell_below h.og b2 _
  have d4 : OwnN W base vm made := by rw [hW]; exact ownsRow_setCell_below h.om b2 _
  have d5 : Below B w W := by rw [hW]; exact (Below.refl _ _).setCell (p := ⟨gi, x, none⟩) hB2 _
  have hsz : W.heap.size = w.heap.size := by rw [hW]; simp [World.setCell]
  have hbW : base ≤ W.heap.size := by omega
  have NE := Lib.hid h.ne
  clear hsz h
  have hW' := hW.symm
  have c5 : W.cell? ⟨gc, 3, none⟩ = some vm := by simp [World.cell?, d1]
  clear hW
  have e2 := World.cell?_alloc_new W #[.int .i64 (x : Int)] 3 0
  have e4 := d4.alloc (.cells #[.int .i64 x] 3)
  have D1 := Lib.hid d1
  have D2 := Lib.hid d2
  have D3 := Lib.hid d3
  have D4 := Lib.hid d4
  have D5 := Lib.hid d5
  clear d1 d2 d3 d4 d5
  go_enter Try.func105, Try.ntmps105
  go_wp2_with (at_builtin; refine wpList_push _ rfl _ _ 31 rfl base 3 (.int .i64 0) 8 Try.underlying31 Try.infoInt rfl vm (lnx made) _ rfl W.heap.size (.int .i64 x) rfl e4 e2 rfl ?_ ?_ ?_ ?_)
  · simp only [maxLen]; omega
  · omega
  · simp; omega
  intro r cap' w2 hap
  have hgrow := hap.grown
  have hlt : ∀ k, vm.ownBlock = some k → base ≤ k ∧ k < W.heap.size := fun k hk => D4.out.lt hk
  have hsz2 := hgrow.size
  simp only [World.size_alloc] at hsz2
  have f1 : w2.heap[gc]? = some (.cells #[vt, vg, .slice (some ⟨gi, 0, none⟩) n n, vm] 104 (0, 0)) := by
    rw [hgrow.block gc (by simp; omega) (fun e => by have := (hlt gc e.symm).1; omega), Below.heap_alloc W _ gc (by omega)]
    exact D1.out
  have c6 : w2.cell? ⟨gc, 3, none⟩ = some vm := by simp [World.cell?, f1]
  have c7 : w2.frozen? ⟨gc, 3, none⟩ = false := by simp [World.frozen?, f1]
  have P1 : ClAdds w B base n gc gi vt vg gens made x (.returned (.tuple #[])) (w2.setCell ⟨gc, 3, none⟩ (.slice (some ⟨r, 0, none⟩) (lnx made + 1) cap')) := by
    have o1 : Below B w w2 := by
      refine D5.out.trans ?_
      exact ⟨hgrow.os, hgrow.tape, hgrow.output, by omega, fun k hk => (hgrow.block k (by simp; omega) (fun e => by have := (hlt k e.symm).1; omega)).trans (Below.heap_alloc W _ k (by omega))⟩
    refine ⟨rfl, .slice (some ⟨r, 0, none⟩) (lnx made + 1) cap', ⟨?_, ?_, ?_, ?_, ?_, b1, b2, n1, ?_⟩, o1.setCell (p := ⟨gc, 3, none⟩) hB1 _⟩
    · simp [World.setCell, Array.getElem?_modify, f1]
    · exact ((D2.out.alloc _).grown hgrow (fun e => by have := (hlt gi e.symm).1; omega)).far (fun e => n1 e.symm) _
    · have h1 : OwnN w2 base vg gens := (D3.out.alloc _).grown hgrow (by
        cases hv : vg.ownBlock with
        | none => exact .inl rfl
        | some k => exact .inr (fun e => NE.out k hv e.symm))
      exact ownsRow_setCell_below h1 b1 _
    · have h1 : OwnN w2 base (.slice (some ⟨r, 0, none⟩) (lnx made + 1) cap') (addN made x) := by
        unfold addN
        rw [if_neg hm]
        exact OwnN.push hap.own
      exact ownsRow_setCell_below h1 b1 _
    · intro k hk e
      rcases hap.at_ e with e2 | e2
      · exact NE.out k hk e2
      · have := (D3.out.lt hk).2
        simp at e2
        omega
    · simp [World.setCell]; omega
  have HP := Lib.hid P1
  clear P1 hap hgrow hlt f1 e4
  go_wp2
  go_end0
  exact HP.out

theorem clAdd (w : World) (B base n gc gi : Nat) (vt vg vm : Value) (gens made : List Nat) (h : ClIn w base n gc gi vt vg vm gens made) (x : Nat) (hx : x < n) (hn : n ≤ 400) (hnd : made.Nodup) (hlt : ∀ y ∈ made, y < n) (hB1 : B ≤ gc) (hB2 : B ≤ gi) :
    Calls Try.prog 105 #[.pointer (some ⟨gc, 0, none⟩), .int .i64 x] w (ClAdds w B base n gc gi vt vg gens made x) := by
  by_cases hm : x ∈ made
  · refine (clAdd_old w base n gc gi vt vg vm gens made h x hx hn hm).mono ?_
    rintro e w' ⟨rfl, rfl⟩
    refine ⟨rfl, vm, ?_, Below.refl _ _⟩
    rw [show addN made x = made by simp [addN, hm]]
    exact h
  · have hlen : lnx made < 400 := by
      have := nodup_le (addN_nodup hnd x) (fun y hy => ((addN_mem _ _ _).1 hy).elim (hlt y) (fun e => e ▸ hx))
      rw [show addN made x = made ++ [x] by simp [addN, hm]] at this
      simp [lnx] at this ⊢
      omega
    exact clAdd_new w B base n gc gi vt vg vm gens made h x hx hn hm hlen hB1 hB2

/-- What generator leaves. -/
def ClGens (w : World) (B base n : Nat) (T : Nat → Nat → Nat) (gc gi : Nat) (vt : Value) (gens made : List Nat) (x : Nat) (e : Ending) (w' : World) : Prop :=
  e = .returned (.tuple #[]) ∧ ∃ vg' vm' gens' made', ClIn w' base n gc gi vt vg' vm' gens' made' ∧ SpanNums n T gens' made' ∧ lnx gens' ≤ lnx made' ∧ x ∈ made' ∧ (∀ y, y ∈ made → y ∈ made') ∧ Below B w w'

set_option maxRecDepth 100000 in
set_option maxHeartbeats 2000000 in
theorem clGenerator (w0 w : World) (base n gc gi : Nat) (T : Nat → Nat → Nat) (vt vg vm : Value) (gens made : List Nat) (ht : Tab w0 vt n T) (hw0 : Below w0.heap.size w0 w) (h : ClIn w base n gc gi vt vg vm gens made) (hnum : SpanNums n T gens made) (hlg : lnx gens ≤ lnx made) (x : Nat) (hx : x < n) (hB1 : w0.heap.size ≤ gc) (hB2 : w0.heap.size ≤ gi) :
    Calls Try.prog 84 #[.pointer (some ⟨gc, 0, none⟩), .int .i64 x] w (ClGens w w0.heap.size base n T gc gi vt gens made x) := by
  obtain ⟨b, o, cap, rb, ro, rc, rfl, h0, h4, hR, hC, hT⟩ := ht
  have HR := Lib.hid hR
  have HC := Lib.hid hC
  have HT := Lib.hid hT
  clear hR hC hT
  have c2 := h.cell2
  have ca := h.arr.cell hx
  by_cases hm : x ∈ made
  · rw [show memB made x = true by simpa [memB] using hm] at ca
    have HP : Hid (ClGens w w0.heap.size base n T gc gi (.slice (some ⟨b, o, none⟩) n cap) gens made x (.returned (.tuple #[])) w) := ⟨rfl, vg, vm, gens, made, h, hnum, hlg, hm, fun y hy => hy, Below.refl _ _⟩
    clear h hnum hm
    go_enter Try.func84, Try.ntmps84
    go_wp2
    go_end0
    exact HP.out
  · rw [show memB made x = false by simpa [memB] using hm] at ca
    have c3 := h.cell3
    have c1 := h.cell1
    have b1 := h.b1
    have b2 := h.b2
    have hb := h.hb
    have e4 := h.og.alloc (.cells #[.int .i64 x] 3)
    have e2 := World.cell?_alloc_new w #[.int .i64 (x : Int)] 3 0
    have hml := hnum.len
    obtain ⟨ma, mc, rfl, hmc1, hmc2, -⟩ := h.om.shape
    have HH := Lib.hid h
    have HNUM := Lib.hid hnum
    have HW0 := Lib.hid hw0
    clear h hnum hw0
    go_enter Try.func84, Try.ntmps84
    go_wp2_with (at_builtin; refine wpList_push _ rfl _ _ 31 rfl base 3 (.int .i64 0) 8 Try.underlying31 Try.infoInt rfl vg (lnx gens) _ rfl w.heap.size (.int .i64 x) rfl e4 e2 rfl ?_ ?_ ?_ ?_)
    · simp only [maxLen]; omega
    · omega
    · simp; omega
    intro r cap' w2 hap
    have hgrow := hap.grown
    have hlt : ∀ k, vg.ownBlock = some k → base ≤ k ∧ k < w.heap.size := fun k hk => HH.out.og.lt hk
    have hsz2 := hgrow.size
    simp only [World.size_alloc] at hsz2
    have f1 : w2.heap[gc]? = some (.cells #[.slice (some ⟨b, o, none⟩) n cap, vg, .slice (some ⟨gi, 0, none⟩) n n, .slice ma (lnx made) mc] 104 (0, 0)) := by
      rw [hgrow.block gc (by simp; omega) (fun e => by have := (hlt gc e.symm).1; omega), Below.heap_alloc w _ gc (by omega)]
      exact HH.out.blk
    have c6 : w2.cell? ⟨gc, 1, none⟩ = some vg := by simp [World.cell?, f1]
    have c7 : w2.frozen? ⟨gc, 1, none⟩ = false := by simp [World.frozen?, f1]
    have hst : ClIn (w2.setCell ⟨gc, 1, none⟩ (.slice (some ⟨r, 0, none⟩) (lnx gens + 1) cap')) base n gc gi (.slice (some ⟨b, o, none⟩) n cap) (.slice (some ⟨r, 0, none⟩) (lnx gens + 1) cap') (.slice ma (lnx made) mc) (gens ++ [x]) made := by
      refine ⟨?_, ?_, ?_, ?_, ?_, b1, b2, HH.out.n1, ?_⟩
      · simp [World.setCell, Array.getElem?_modify, f1]
      · exact ((HH.out.arr.alloc _).grown hgrow (fun e => by have := (hlt gi e.symm).1; omega)).far (fun e => HH.out.n1 e.symm) _
      · exact ownsRow_setCell_below (OwnN.push hap.own) b1 _
      · have h1 : OwnN w2 base (.slice ma (lnx made) mc) made := (HH.out.om.alloc _).grown hgrow (by
          cases hv : (Value.slice ma (lnx made) mc).ownBlock with
          | none => exact .inl rfl
          | some k => exact .inr (fun e => HH.out.ne k e.symm hv))
        exact ownsRow_setCell_below h1 b1 _
      · intro k hk e
        rcases hap.at_ hk with e2 | e2
        · exact HH.out.ne k e2 e
        · have := (HH.out.om.lt e).2
          simp at e2
          omega
      · simp [World.setCell]; omega
    have hbel : Below w0.heap.size w (w2.setCell ⟨gc, 1, none⟩ (.slice (some ⟨r, 0, none⟩) (lnx gens + 1) cap')) := by
      refine Below.setCell ?_ (p := ⟨gc, 1, none⟩) hB1 _
      exact ⟨hgrow.os, hgrow.tape, hgrow.output, by omega, fun k hk => (hgrow.block k (by simp; omega) (fun e => by have := (hlt k e.symm).1; omega)).trans (Below.heap_alloc w _ k (by omega))⟩
    have hnum2 : SpanNums n T (gens ++ [x]) made := ⟨HNUM.out.nd, HNUM.out.lt, fun y hy => (HNUM.out.prod y hy).mono (fun z hz => by simp [hz]), fun y hy => by
      rcases List.mem_append.1 hy with hy | hy
      · exact HNUM.out.glt y hy
      · simp at hy; subst hy; exact hx⟩
    have hgx : Made T (gens ++ [x]) x := Made.gen (by simp)
    have HADD := Lib.hid (clAdd _ w0.heap.size base n gc gi _ _ _ _ _ hst x hx h4 hnum2.nd hnum2.lt hB1 hB2)
    have HN2 := Lib.hid (hnum2.add hx hgx)
    have HBEL := Lib.hid hbel
    have hlg2 : lnx (gens ++ [x]) ≤ lnx (addN made x) := by
      unfold addN
      rw [if_neg hm, lnx_append, lnx_append]
      omega
    have hlgn : lnx gens + 1 = lnx (gens ++ [x]) := by rw [lnx_append, lnx_one]
    have HLG := Lib.hid hlgn
    have HLG2 := Lib.hid hlg2
    clear hst hbel hnum2 hgx hap hgrow hlt f1 e4 HH HNUM hlgn hlg2
    go_wp2_with fail
    refine HADD.out.mono ?_
    rintro e w3 ⟨rfl, vm3, hst3, hb3⟩
    have HST3 := Lib.hid hst3
    have HB3 := Lib.hid (HBEL.out.trans hb3)
    obtain ⟨G, hG⟩ : ∃ G, G = gens ++ [x] := ⟨_, rfl⟩
    rw [← hG] at HST3 HN2 HLG HLG2
    have HXG : Hid (x ∈ G) := by rw [hG]; show x ∈ gens ++ [x]; simp
    clear hst3 hb3 HBEL HADD hG
    go_wp2
    go_loopw [5] (fun i wr => ∃ (ii : Nat) (vm : Value) (md : List Nat), i = .int .i64 ii ∧ ii ≤ lnx md ∧ ClIn wr base n gc gi (.slice (some ⟨b, o, none⟩) n cap) (.slice (some ⟨r, 0, none⟩) (lnx gens + 1) cap') vm G md ∧ SpanNums n T G md ∧ lnx G ≤ lnx md ∧ (∀ y, y ∈ addN made x → y ∈ md) ∧ Below w0.heap.size w wr) (fun i _ => n - (intOf i).toNat)
    case atStart => exact ⟨0, vm3, _, rfl, by omega, HST3.out, HN2.out, HLG2.out, fun y hy => hy, HB3.out⟩
    case round =>
      clear HST3 HN2 HLG2 HB3
      obtain ⟨ii, vm, md, rfl, hii, hst, hnum, hlm, hsub, hbe⟩ := hrel
      have hmdl := hnum.len
      have d3 := hst.cell3
      have d0 := hst.cell0
      have d1 := hst.cell1
      obtain ⟨va, vc, rfl, hv1, hv2, hv3⟩ := hst.om.shape
      by_cases hlt2 : ii < lnx md
      · obtain ⟨vgb, rfl, hvb, hvc⟩ := hv3 (by omega)
        have e1 := hvc ii hlt2
        obtain ⟨z, hz⟩ : ∃ z, z = nthx md ii := ⟨_, rfl⟩
        have hzn : z < n := by rw [hz]; exact hnum.lt _ (nthx_mem hlt2)
        have hzm : z ∈ md := by rw [hz]; exact nthx_mem hlt2
        rw [← hz] at e1
        have hkp := Keeps.below (HW0.out.trans hbe)
        have e2 := hkp _ _ (HR.out z hzn)
        have HST := Lib.hid hst
        have HNUM := Lib.hid hnum
        have HSUB := Lib.hid hsub
        have HBE := Lib.hid hbe
        have HZM := Lib.hid hzm
        have HKP := Lib.hid hkp
        have HZE := Lib.hid hz
        clear hst hnum hsub hbe hzm hkp hz hv3 hvc
        by_cases hbef : ii < lnx made
        · have e3 := HKP.out _ _ (HC.out z x hzn hx)
          have hTz := HT.out z x hzn hx
          have hmk : Made T G (T z x) := (HNUM.out.prod z HZM.out).mul (Made.gen HXG.out)
          have HADD := Lib.hid (clAdd wr.drew w0.heap.size base n gc gi _ _ _ _ _ HST.out.drew (T z x) hTz h4 HNUM.out.nd HNUM.out.lt hB1 hB2)
          have HN2 := Lib.hid (HNUM.out.add hTz hmk)
          clear hmk
          go_wp2
          go_still_tail 17, (by kernel_rfl)
          change wpList _ _ _ _ _ wr.drew
          go_wp2_with fail
          refine HADD.out.mono ?_
          rintro e w5 ⟨rfl, vm5, hst5, hb5⟩
          have P1 : Hid (ii + 1 ≤ lnx (addN md (T z x)) ∧ ClIn w5 base n gc gi (.slice (some ⟨b, o, none⟩) n cap) (.slice (some ⟨r, 0, none⟩) (lnx gens + 1) cap') vm5 G (addN md (T z x)) ∧ SpanNums n T G (addN md (T z x)) ∧ lnx G ≤ lnx (addN md (T z x)) ∧ (∀ y, y ∈ addN made x → y ∈ addN md (T z x)) ∧ Below w0.heap.size w w5) :=
            ⟨by have := addN_len md (T z x); omega, hst5, HN2.out, by have := addN_len md (T z x); omega, fun y hy => (addN_mem _ _ _).2 (.inl (HSUB.out y hy)), HBE.out.drew.trans hb5⟩
          clear hst5 hb5 HADD HN2
          go_wp2
          go_roundw
          case rel => exact ⟨ii + 1, _, _, by go_num, P1.out⟩
          case measure => simp [intOf]; omega
        · obtain ⟨ga, gcp, he, hg1, hg2, hg3⟩ := HST.out.og.shape
          injection he with he1 he2 he3
          subst he1 he3
          have hGl := HLG.out
          have P0 : Hid (∃ (vm : Value) (md : List Nat), ii < lnx md ∧ nthx md ii = z ∧ ClIn wr base n gc gi (.slice (some ⟨b, o, none⟩) n cap) (.slice (some ⟨r, 0, none⟩) (lnx gens + 1) cap') vm G md ∧ SpanNums n T G md ∧ lnx G ≤ lnx md ∧ (∀ y, y ∈ addN made x → y ∈ md) ∧ Below w0.heap.size w wr) :=
            ⟨_, md, hlt2, HZE.out.symm, HST.out, HNUM.out, hlm, HSUB.out, HBE.out⟩
          have hz2 : z < n := hzn
          clear HST HNUM HSUB HBE HZM HKP he2 hg3 hGl HZE
          go_wp2
          go_loopw [68] (fun i wz => ∃ (dd : Nat) (vm : Value) (md : List Nat), i = .int .i64 dd ∧ dd ≤ lnx gens + 1 ∧ ii < lnx md ∧ nthx md ii = z ∧ ClIn wz base n gc gi (.slice (some ⟨b, o, none⟩) n cap) (.slice (some ⟨r, 0, none⟩) (lnx gens + 1) cap') vm G md ∧ SpanNums n T G md ∧ lnx G ≤ lnx md ∧ (∀ y, y ∈ addN made x → y ∈ md) ∧ Below w0.heap.size w wz) (fun i _ => lnx gens + 1 - (intOf i).toNat)
          case atStart =>
            obtain ⟨vm, md, q1, q2, q3⟩ := P0.out
            exact ⟨0, vm, md, rfl, by omega, q1, q2, q3⟩
          case round =>
            clear P0
            obtain ⟨dd, vm, md, rfl, hdd, hii2, hze, hst, hnum, hlm, hsub, hbe⟩ := hrel
            have hmdl2 := hnum.len
            by_cases hlt4 : dd < lnx gens + 1
            · have hGl := HLG.out
              have d3 := hst.cell3
              have d0 := hst.cell0
              obtain ⟨va, vc, rfl, hv1, hv2, hv3⟩ := hst.om.shape
              obtain ⟨vgb, rfl, hvb, hvc⟩ := hv3 (by omega)
              have e1 := hvc ii hii2
              rw [hze] at e1
              obtain ⟨ga, gcp, he, hg1, hg2, hg3⟩ := hst.og.shape
              injection he with he1 he2 he3
              subst he1 he3
              obtain ⟨g0, hg0, hg4, hg5⟩ := hg3 (by omega)
              injection hg0 with hg0
              injection hg0 with hg0
              subst hg0
              have e5 := hg5 dd (by omega)
              obtain ⟨y, hy⟩ : ∃ y, y = nthx G dd := ⟨_, rfl⟩
              have hyG : y ∈ G := by rw [hy]; exact nthx_mem (by omega)
              rw [← hy] at e5
              have hyn := hnum.glt y hyG
              have hzm : z ∈ md := by rw [← hze]; exact nthx_mem hii2
              have hkp := Keeps.below (HW0.out.trans hbe)
              have e2 := hkp _ _ (HR.out z hz2)
              have e3 := hkp _ _ (HC.out z y hz2 hyn)
              have hTz := HT.out z y hz2 hyn
              have hmk : Made T G (T z y) := (hnum.prod z hzm).mul (Made.gen hyG)
              have HADD := Lib.hid (clAdd wr.drew w0.heap.size base n gc gi _ _ _ _ _ hst.drew (T z y) hTz h4 hnum.nd hnum.lt hB1 hB2)
              have HN2 := Lib.hid (hnum.add hTz hmk)
              have HSUB := Lib.hid hsub
              have HBE := Lib.hid hbe
              have HZE2 := Lib.hid hze
              clear hst hnum hmk hsub hbe hkp hy hyG hzm hg3 hg5 hv3 hvc he2 hGl hze
              go_wp2
              go_still_tail 17, (by kernel_rfl)
              change wpList _ _ _ _ _ wr.drew
              go_wp2_with fail
              refine HADD.out.mono ?_
              rintro e w5 ⟨rfl, vm5, hst5, hb5⟩
              have P1 : Hid (ii < lnx (addN md (T z y)) ∧ nthx (addN md (T z y)) ii = z ∧ ClIn w5 base n gc gi (.slice (some ⟨b, o, none⟩) n cap) (.slice (some ⟨r, 0, none⟩) (lnx gens + 1) cap') vm5 G (addN md (T z y)) ∧ SpanNums n T G (addN md (T z y)) ∧ lnx G ≤ lnx (addN md (T z y)) ∧ (∀ y', y' ∈ addN made x → y' ∈ addN md (T z y)) ∧ Below w0.heap.size w w5) :=
                ⟨by have := addN_len md (T z y); omega, by rw [addN_nth md (T z y) hii2]; exact HZE2.out, hst5, HN2.out, by have := addN_len md (T z y); omega, fun y' hy => (addN_mem _ _ _).2 (.inl (HSUB.out y' hy)), HBE.out.drew.trans hb5⟩
              clear hst5 hb5 HADD HN2
              go_wp2
              go_roundw
              case rel => exact ⟨dd + 1, _, _, by go_num, by omega, P1.out⟩
              case measure => simp [intOf]; omega
            · have P1 : Hid (ii + 1 ≤ lnx md ∧ ClIn wr base n gc gi (.slice (some ⟨b, o, none⟩) n cap) (.slice (some ⟨r, 0, none⟩) (lnx gens + 1) cap') vm G md ∧ SpanNums n T G md ∧ lnx G ≤ lnx md ∧ (∀ y, y ∈ addN made x → y ∈ md) ∧ Below w0.heap.size w wr) := ⟨hii2, hst, hnum, hlm, hsub, hbe⟩
              clear hst hnum hsub hbe hze
              go_wp2
              go_roundw
              case rel => exact ⟨ii + 1, _, _, by go_num, P1.out⟩
              case measure => simp [intOf]; omega
      · have P1 : Hid (ClGens w w0.heap.size base n T gc gi (.slice (some ⟨b, o, none⟩) n cap) gens made x (.returned (.tuple #[])) wr) :=
          ⟨rfl, _, _, _, _, hst, hnum, hlm, hsub x ((addN_mem _ _ _).2 (.inr rfl)), fun y hy => hsub y ((addN_mem _ _ _).2 (.inl hy)), hbe⟩
        clear hst hnum hsub hbe hv3
        go_wp2
        go_end0
        exact P1.out

/-- A list of generators. -/
def GensPost (w : World) (t : List (List Int)) (e : Ending) (w' : World) : Prop :=
  ∃ v gens, e = .returned v ∧ Ints w' v (natsOf gens) ∧ Below w.heap.size w w' ∧ (∀ g, g ∈ gens → g < lnx t) ∧ lnx gens ≤ lnx t ∧ ∀ x, x < lnx t → Made (tabOf t) gens x

theorem newClosure_any (w : World) (v : Value) (n : Nat) (T : Nat → Nat → Nat) (ht : Tab w v n T) :
    Calls Try.prog 83 #[v] w fun e w' => e = .returned (.pointer (some ⟨w.heap.size + 1, 0, none⟩)) ∧ ClIn w' (w.heap.size + 2) n (w.heap.size + 1) w.heap.size v (.slice none 0 0) (.slice none 0 0) [] [] ∧ Below w.heap.size w w' := by
  obtain ⟨b, o, cap, rb, ro, rc, rfl, h0, h4, hR, hC, hT⟩ := ht
  have hmk := fun W => run_mk (P := Try.prog) Try.underlying60 Try.infoBool rfl n (by omega) (by omega) W
  clear hR hC hT
  have P1 : ClIn ((w.alloc (.cells (zeros (.bool false) n) 4)).alloc (.cells #[.slice (some ⟨b, o, none⟩) n cap, .slice none 0 0, .slice (some ⟨w.heap.size, 0, none⟩) n n, .slice none 0 0] 104)) (w.heap.size + 2) n (w.heap.size + 1) w.heap.size (.slice (some ⟨b, o, none⟩) n cap) (.slice none 0 0) (.slice none 0 0) [] [] := by
    refine ⟨?_, ((Arr.zeros _ w _ _).alloc _).congr (fun i hi => by simp [memB]), OwnN.nil _ _, OwnN.nil _ _, by simp [Value.ownBlock], by omega, by omega, by omega, by simp⟩
    have := heap_alloc_new (w.alloc (.cells (zeros (.bool false) n) 4)) (.cells #[.slice (some ⟨b, o, none⟩) n cap, .slice none 0 0, .slice (some ⟨w.heap.size, 0, none⟩) n n, .slice none 0 0] 104)
    simpa using this
  have P2 := Lib.hid P1
  have P3 : Hid (Below w.heap.size w ((w.alloc (.cells (zeros (.bool false) n) 4)).alloc (.cells #[.slice (some ⟨b, o, none⟩) n cap, .slice none 0 0, .slice (some ⟨w.heap.size, 0, none⟩) n n, .slice none 0 0] 104))) := ((Below.refl _ _).alloc (Nat.le_refl _) _).alloc (by simp) _
  clear P1
  go_enter Try.func83, Try.ntmps83
  go_wp2
  go_ret
  exact ⟨rfl, P2.out, P3.out⟩

theorem multValid_any (w : World) (v : Value) (t : List (List Int)) (ht : Rows2 w v t) :
    Calls Try.prog 82 #[v] w fun e w' => e = .returned (.bool (vErr t == 0)) ∧ Below w.heap.size w w' := by
  have H1 := Lib.hid (validate_any w v t ht)
  go_enter Try.func82, Try.ntmps82
  go_wp2_with fail
  refine H1.out.mono ?_
  rintro e w1 ⟨rfl, hb⟩
  have HB := Lib.hid hb
  clear hb
  go_wp2
  go_ret
  exact ⟨rfl, HB.out⟩

set_option maxRecDepth 100000 in
set_option maxHeartbeats 1000000 in
theorem generators_any (w : World) (v : Value) (t : List (List Int)) (ht : Rows2 w v t) (ev : vErr t = 0) : Calls Try.prog 48 #[v] w (GensPost w t) := by
  have H1 := multValid_any w v t ht
  rw [ev] at H1
  replace H1 := Lib.hid H1
  have htab := Tab.of_rows ht (vErr_inv ev).1
  have H2 := Lib.hid (fun W (hb : Below w.heap.size w W) => newClosure_any W v _ _ (htab.keep (Keeps.below hb)))
  have HT := Lib.hid htab
  obtain ⟨b, o, cap, rb, ro, rc, rfl, h0, h4, -, -, -⟩ := htab
  clear ht
  go_enter Try.func48, Try.ntmps48
  go_wp2_with fail
  refine H1.out.mono ?_
  rintro e w1 ⟨rfl, hb⟩
  have HB1 := Lib.hid hb
  clear hb H1
  go_wp2_with fail
  refine (H2.out _ HB1.out).mono ?_
  rintro e w2 ⟨rfl, hst, hb⟩
  have HB2 := Lib.hid (belowThen HB1.out hb)
  have HST := Lib.hid hst
  have hs1 := HB1.out.size
  obtain ⟨B, hB⟩ : ∃ B, B = w1.heap.size := ⟨_, rfl⟩
  rw [← hB] at HST hs1 ⊢
  clear hst hb hB H2 HB1
  go_wp2
  go_loopw [12] (fun i wr => ∃ (k : Nat) (vg vm : Value) (gens made : List Nat), k ≤ lnx t ∧ i = .int .i64 k ∧ ClIn wr (B + 2) (lnx t) (B + 1) B (.slice (some ⟨b, o, none⟩) (lnx t) cap) vg vm gens made ∧ SpanNums (lnx t) (tabOf t) gens made ∧ lnx gens ≤ lnx made ∧ (∀ x, x < k → x ∈ made) ∧ Below w.heap.size w wr) (fun i _ => lnx t - (intOf i).toNat)
  case atStart => exact ⟨0, _, _, [], [], by omega, rfl, HST.out, ⟨List.nodup_nil, by simp, by simp, by simp⟩, Nat.le_refl _, fun x hx => by omega, HB2.out⟩
  case round =>
    clear HST HB2
    obtain ⟨k, vg, vm, gens, made, hk, rfl, hst, hnum, hlg, hall, hbe⟩ := hrel
    by_cases hlt : k < lnx t
    · have HG := Lib.hid (clGenerator w wr _ _ _ _ _ _ _ _ _ _ HT.out hbe hst hnum hlg k hlt (by omega) hs1)
      have HALL := Lib.hid hall
      have HBE := Lib.hid hbe
      clear hst hnum hlg hall hbe
      go_wp2_with fail
      refine HG.out.mono ?_
      rintro e w3 ⟨rfl, vg', vm', gens', made', q1, q2, q3, q4, q5, q6⟩
      have P1 : Hid (ClIn w3 (B + 2) (lnx t) (B + 1) B (.slice (some ⟨b, o, none⟩) (lnx t) cap) vg' vm' gens' made' ∧ SpanNums (lnx t) (tabOf t) gens' made' ∧ lnx gens' ≤ lnx made' ∧ (∀ x, x < k + 1 → x ∈ made') ∧ Below w.heap.size w w3) :=
        ⟨q1, q2, q3, fun x hx => by
          by_cases e : x = k
          · subst e; exact q4
          · exact q5 x (HALL.out x (by omega)), HBE.out.trans q6⟩
      clear q1 q2 q3 q4 q5 q6 HG
      go_wp2
      go_roundw
      case rel => exact ⟨k + 1, vg', vm', gens', made', by omega, by go_num, P1.out⟩
      case measure => simp [intOf]; omega
    · have P1 : Hid (GensPost w t (.returned vg) wr) := ⟨_, gens, rfl, hst.og.ints, hbe, hnum.glt, by have := hnum.len; omega, fun x hx => hnum.prod x (hall x (by omega))⟩
      have c1 := hst.cell1
      clear hst hnum hall hbe
      go_wp2
      go_ret
      exact P1.out
end Go.Proofs.Ytgghmjnbkbiffaa
