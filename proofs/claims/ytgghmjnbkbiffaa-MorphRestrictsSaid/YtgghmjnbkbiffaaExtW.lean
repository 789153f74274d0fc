/-
  The walk of morph.Extend where its arguments are in order.
-/
import Derived.Test.YtgghmjnbkbiffaaExtP
namespace Go.Proofs.Ytgghmjnbkbiffaa
open Go.RowKit
set_option linter.unusedVariables false

/-- Memory at the head of each loop. -/
structure ReSt (w wr : World) (t : List (List Int)) (F : Nat → Int) (vm : Value) (made : List Nat) : Prop where
  sp : ReIn wr (w.heap.size + 3) (lnx t) (w.heap.size + 1) w.heap.size (w.heap.size + 2) F vm made
  below : Below w.heap.size w wr
theorem ReSt.drewN {w wr : World} {t : List (List Int)} {F : Nat → Int} {vm : Value} {made : List Nat} (h : ReSt w wr t F vm made) (k : Nat) : ReSt w (wr.drewN k) t F vm made := ⟨h.sp.drewN k, Below.drewN' h.below k⟩
theorem ReSt.drew {w wr : World} {t : List (List Int)} {F : Nat → Int} {vm : Value} {made : List Nat} (h : ReSt w wr t F vm made) : ReSt w wr.drew t F vm made := ⟨h.sp.drew, ⟨h.below.os, h.below.tape, h.below.output, h.below.size, h.below.block⟩⟩
theorem ReSt.start {w wr : World} {t : List (List Int)} {F : Nat → Int} (h : MEx w (lnx t) w.heap.size F wr) (hb : Arr 31 wr (w.heap.size + 1) 1 (fun _ => .slice (some ⟨w.heap.size, 0, none⟩) (lnx t) (lnx t))) (hs : wr.heap.size = w.heap.size + 2) :
    ReSt w (wr.alloc (.cells #[.slice none 0 0] 31)) t F (.slice none 0 0) [] := by
  refine ⟨⟨hb.alloc _, h.arr.alloc _, ?_, OwnN.nil _ _, by omega, by omega, by omega, by omega, by omega, by omega, by simp [lnx], by simp; omega⟩, h.below.alloc (by omega) _⟩
  have := Arr.one 31 wr (.slice none 0 0)
  rw [hs] at this
  exact this
theorem ReSt.add {w wr w' : World} {t : List (List Int)} {F : Nat → Int} {vm : Value} {made : List Nat} (h : ReSt w wr t F vm made) {x im : Nat} {e : Ending}
    (hp : ReGood wr (w.heap.size + 3) (lnx t) (w.heap.size + 1) w.heap.size (w.heap.size + 2) F vm made x im e w') :
    e = .returned (.bool true) ∧ ∃ vm', ReSt w w' t (upd F x im) vm' (addR F made x) ∧ ∀ {g0 q : Nat}, w.heap.size + 3 ≤ g0 → ∀ (D : List Nat), (∀ i, i < q → nthx made i = nthx D i) → q ≤ lnx made →
      (∀ i, i < q → wr.cell? ⟨g0, i, none⟩ = some (.int .i64 ((nthx D i : Nat) : Int))) → ∀ i, i < q → w'.cell? ⟨g0, i, none⟩ = some (.int .i64 ((nthx D i : Nat) : Int)) := by
  obtain ⟨rfl, vm', h1, h2, h3⟩ := hp
  have hs := h.sp.hb
  refine ⟨rfl, vm', ⟨h1, h.below.trans (h2.below ?_ (by omega))⟩, ?_⟩
  · intro k hk
    rintro (e | e | e)
    · omega
    · omega
    · have := (h.sp.own.lt e).1
      omega
  · intro g0 q hg0 D hpre hq hc i hi
    by_cases hb : vm.ownBlock = some g0
    · rw [h3 g0 hb i (by omega), hpre i hi]
    · have hlt := World.block_lt_of_cell? wr _ (hc i hi)
      have := h2.block g0 hlt (by rintro (e | e | e); omega; omega; exact hb e)
      rw [World.cell?_of_block (w := wr) (w' := w') this]
      exact hc i hi
theorem RNum.start (t : List (List Int)) (gens : List Int) (s : List (List Int)) (images : List Int) : RNum t gens s images 0 (fun _ => -1) [] :=
  ⟨EInv.start t gens s images, fun x hx => ⟨fun h => (by omega), fun h => (by cases h)⟩, List.nodup_nil, fun x h => (by cases h), fun x h => (by cases h)⟩
theorem upd_agree {F : Nat → Int} {z : Nat} {im : Int} (h : F z < 0 ∨ F z = im) {y : Nat} (hy : 0 ≤ F y) : upd F z im y = F y := by
  by_cases e : y = z
  · subst e
    rw [upd_same]
    rcases h with h | h
    · omega
    · exact h.symm
  · exact upd_other F _ e
theorem upd_id {F : Nat → Int} {z : Nat} {im : Int} (h : F z = im) : upd F z im = F := by
  funext y
  by_cases e : y = z
  · subst e; rw [upd_same, h]
  · exact upd_other F _ e
/-- The products of the reached elements from the first ones with those of D, as far as the loops are. -/
def ClosedD (t s : List (List Int)) (F : Nat → Int) (x g : Nat) : Prop := 0 ≤ F x ∧ 0 ≤ F g ∧ F (tabOf t x g) = (tabOf s (F x).toNat (F g).toNat : Int)
theorem ClosedD.upd {t s : List (List Int)} {F : Nat → Int} {x g z : Nat} {im : Int} (h : ClosedD t s F x g) (hz : F z < 0 ∨ F z = im) : ClosedD t s (upd F z im) x g := by
  obtain ⟨h1, h2, h3⟩ := h
  unfold ClosedD
  rw [upd_agree hz h1, upd_agree hz h2, upd_agree hz (by rw [h3]; omega)]
  exact ⟨h1, h2, h3⟩
def DCells (B : Nat) (wr : World) (ma : Option Addr) (D : List Nat) : Prop := 0 < lnx D → ∃ g0, ma = some ⟨g0, 0, none⟩ ∧ B + 3 ≤ g0 ∧ ∀ j, j < lnx D → wr.cell? ⟨g0, j, none⟩ = some (.int .i64 ((nthx D j : Nat) : Int))

theorem slice3 (W : World) (a : Option Addr) (L c : Nat) (h1 : L ≤ c) (h0 : 0 < L → ∃ g, a = some ⟨g, 0, none⟩) (h2 : L = 0 → a = none ∧ c = 0) :
    (Instr.slice 31 (.slice a L c) none (some (.int .i64 L)) (some (.int .i64 L))).run Try.prog W = .ok (.slice a L L) W := by
  obtain ⟨i, hi, hz, hsz, hby⟩ := info_parts Try.infoInt
  by_cases h : L = 0
  · obtain ⟨rfl, rfl⟩ := h2 h
    subst h
    simp [Instr.slice, Instr.sliceBounds, Instr.sliceBound, asIntOf, run_underlying Try.underlying31, sizeOf, typeInfo, hi]
  · obtain ⟨g, rfl⟩ := h0 (by omega)
    have h5 : ¬ ((c : Int) < (L : Int)) := by omega
    have h6 : ¬ ((L : Int) < 0) := by omega
    simp [Instr.slice, Instr.sliceBounds, Instr.sliceBound, asIntOf, run_underlying Try.underlying31, sizeOf, typeInfo, hi, h1, Addr.add_lit]

set_option maxRecDepth 100000 in
set_option maxHeartbeats 4000000 in
theorem extend_good (w : World) (vt vg vu vi : Value) (t : List (List Int)) (gens : List Int) (s : List (List Int)) (images : List Int) (ht : Rows2 w vt t) (hg : Ints w vg gens) (hs : Rows2 w vu s) (hi : Ints w vi images)
    (v1 : vErr t = 0) (v2 : vErr s = 0) (hl : lnx gens = lnx images) (ing : inB (lnx t) gens = true) (ini : inB (lnx s) images = true) :
    Calls Try.prog 29 #[vt, vg, vu, vi] w (MexPost w t gens s images) := by
  have HT := Lib.hid ht
  have HS := Lib.hid hs
  have H1 := validate_any w vt t ht
  have H2 := (fun W (hb : Below w.heap.size w W) => validate_any W vu s (hs.keep (Keeps.below hb)))
  rw [v1] at H1
  rw [v2] at H2
  replace H1 := Lib.hid H1
  replace H2 := Lib.hid H2
  have htab := Tab.of_rows ht (vErr_inv v1).1
  have hsab := Tab.of_rows hs (vErr_inv v2).1
  have HV1 := Lib.hid v1
  have HV2 := Lib.hid v2
  obtain ⟨b, o, cap, rb, ro, rc, rfl, h0, h4, hR, hC, hT⟩ := htab
  obtain ⟨ub, uo, ucap, urb, uro, urc, rfl, uh0, uh4, uR, uC, hU⟩ := hsab
  have H3 := (fun W (hb : Below w.heap.size w W) => within_any W (lnx t) (by omega) vg gens (hg.keep (Keeps.below hb)))
  have H4 := (fun W (hb : Below w.heap.size w W) => within_any W (lnx s) (by omega) vi images (hi.keep (Keeps.below hb)))
  rw [ing] at H3
  rw [ini] at H4
  replace H3 := Lib.hid H3
  replace H4 := Lib.hid H4
  obtain ⟨ga, gc, rfl, hg1, hg2, hg3⟩ := hg
  obtain ⟨ia, ic, rfl, hi1, hi2, hi3⟩ := hi
  have g1 : ((lnx gens : Int) != (lnx images : Int)) = false := bne_f (by rw [hl])
  have HL := Lib.hid hl
  have HG3 := Lib.hid hg3
  have HI3 := Lib.hid hi3
  have HING := Lib.hid ing
  have HINI := Lib.hid ini
  have hil : lnx images ≤ ic ∧ lnx gens ≤ lnx images := by omega
  clear hl hg3 hi3 ing ini v1 v2 ht hs
  have HHR := Lib.hid hR
  have HHC := Lib.hid hC
  have HHT := Lib.hid hT
  have HUR := Lib.hid uR
  have HUC := Lib.hid uC
  have HUT := Lib.hid hU
  clear hR hC hT uR uC hU
  have hmk := fun W => run_mk (P := Try.prog) Try.underlying31 Try.infoInt rfl (lnx t) (by omega) (by omega) W
  have hmf : ∀ (fn : Fn) (first cap : Array Value) (w : World), (Instr.makeFunc fn first cap).run Try.prog w = .ok (.func fn first cap) w := fun _ _ _ _ => rfl
  go_enter Try.func29, Try.ntmps29
  go_wp2_with fail
  refine H1.out.mono ?_
  rintro e w2 ⟨rfl, hb⟩
  have HB := Lib.hid hb
  clear H1 hb
  go_wp2_with fail
  refine (H2.out _ HB.out).mono ?_
  rintro e w1 ⟨rfl, hb⟩
  have HB1 := Lib.hid (belowThen HB.out hb)
  clear H2 hb HB
  go_wp2_with fail
  refine (H3.out _ HB1.out).mono ?_
  rintro e w' ⟨rfl, rfl⟩
  clear H3
  go_wp2_with fail
  refine (H4.out _ HB1.out).mono ?_
  rintro e w' ⟨rfl, rfl⟩
  clear H4
  go_wp2
  clear hmk g1
  go_loopg [55] (lnx t) (fun kk i wr => ∃ k : Nat, k ≤ lnx t ∧ lnx t - k ≤ kk ∧ i = .int .i64 k ∧ MEx w1 (lnx t) w1.heap.size (fillF k) wr ∧ Arr 31 wr (w1.heap.size + 1) 1 (fun _ => .slice (some ⟨w1.heap.size, 0, none⟩) (lnx t) (lnx t)) ∧ wr.heap.size = w1.heap.size + 2)
  case atStart =>
    refine ⟨0, by omega, by omega, rfl, ⟨((Arr.zeros _ _ _ _).alloc _).congr (fun i hi => by simp [fillF]), ((Below.refl _ _).alloc (Nat.le_refl _) _).alloc (by simp) _⟩, ?_, by simp⟩
    have := Arr.one 31 (w1.alloc (.cells (zeros (.int .i64 0) (lnx t)) 3)) (.slice (some ⟨w1.heap.size, 0, none⟩) (lnx t) (lnx t))
    rw [World.size_alloc] at this
    exact this
  case round =>
    obtain ⟨k, hk, hkk, rfl, hst, hbx, hwz⟩ := hrel
    have hsz := hst.arr.lt
    have c3 := hbx.cell (i := 0) (by omega)
    by_cases hlt : k < lnx t
    · have c1 := hst.arr.cell hlt
      have c2 := hst.arr.frozen k
      have P1 := hst.set_ k (-1)
      rw [fillF_step] at P1
      have P2 : Hid (MEx w1 (lnx t) w1.heap.size (fillF (k + 1)) (wr.setCell ⟨w1.heap.size, k, none⟩ (.int .i64 (-1))) ∧ Arr 31 (wr.setCell ⟨w1.heap.size, k, none⟩ (.int .i64 (-1))) (w1.heap.size + 1) 1 (fun _ => .slice (some ⟨w1.heap.size, 0, none⟩) (lnx t) (lnx t)) ∧ (wr.setCell ⟨w1.heap.size, k, none⟩ (.int .i64 (-1))).heap.size = w1.heap.size + 2) := ⟨P1, hbx.far (by simp) _, by simp [World.setCell, hwz]⟩
      clear hst P1 hbx hwz
      go_wp2
      go_roundg (lnx t - (k + 1))
      case measure => omega
      case rel => exact ⟨k + 1, by omega, Nat.le_refl _, by go_num, P2.out⟩
    · have P0 := Lib.hid (ReSt.start (t := t) (hst.congr (G := fun _ => -1) (fun i hi => by unfold fillF; rw [if_pos (by omega)])) hbx hwz)
      clear hst hbx
      have HWZ := Lib.hid hwz
      go_wp2
      clear hwz hmf
      go_loopg [65] (lnx gens) (fun kk i wr => ∃ (k : Nat) (F : Nat → Int) (vm : Value) (made : List Nat), k ≤ lnx gens ∧ lnx gens - k ≤ kk ∧ i = .int .i64 k ∧ ReSt w1 wr t F vm made ∧ RNum t gens s images k F made ∧ (lnx made = 0 → vm = .slice none 0 0))
      case atStart => exact ⟨0, _, _, [], by omega, by omega, rfl, P0.out, RNum.start t gens s images, fun _ => rfl⟩
      case round =>
        clear P0 hsz HWZ
        obtain ⟨k, F, vm, made, hk, hkk, rfl, hst, hnum, hnil⟩ := hrel
        by_cases hlt : k < lnx gens
        · have hkp := Keeps.below (belowThen HB1.out hst.below)
          obtain ⟨pb, po, rfl, hpc⟩ := HG3.out (by omega)
          obtain ⟨qb, qo, rfl, hqc⟩ := HI3.out (by omega)
          have d1 := hkp _ _ (hpc k hlt)
          have d2 := hkp _ _ (hqc k (by omega))
          have hgk := nat_cast HING.out hlt
          have hik := nat_cast HINI.out (i := k) (by omega)
          have hgen : Gen (lnx t) (tabOf t) gens (nat_ gens k) := .base k hlt hgk.1.symm hgk.2
          rw [← hgk.1] at d1
          rw [← hik.1] at d2
          have hgl := hgk.2
          have HST := Lib.hid hst
          have HNUM := Lib.hid hnum
          clear hpc hqc hkp hst hnum hgk hik
          by_cases hgood : F (nat_ gens k) < 0 ∨ F (nat_ gens k) = (nat_ images k : Int)
          · have HC := Lib.hid (reach_good wr _ _ _ _ _ F vm made HST.out.sp (nat_ gens k) (nat_ images k) hgl h4 hgood (fun h => by have := HNUM.out.room hgl (HNUM.out.out hgl h); omega))
            have HN2 := Lib.hid (HNUM.out.add hgl hgen (HNUM.out.inv.gen hlt HL.out HINI.out hgood))
            have HNIL : Hid (lnx (addR F made (nat_ gens k)) = 0 → False) := fun h => by
              have h1 := addR_len (F := F) (made := made) (nat_ gens k)
              by_cases hn : F (nat_ gens k) < 0
              · unfold addR at h
                rw [if_pos hn, lnx_append, lnx_one] at h
                omega
              · have h2 := (HNUM.out.mem _ hgl).1 (by omega)
                have h3 := List.length_pos_of_mem h2
                have e : lnx made = made.length := rfl
                omega
            clear hgood hnil
            go_wp2_with fail
            refine HC.out.mono ?_
            intro e w3 hp
            obtain ⟨rfl, vm3, hst3, -⟩ := HST.out.add hp
            have HST3 := Lib.hid hst3
            clear hp hst3 HC HST
            go_wp2
            go_roundg (lnx gens - (k + 1))
            case measure => omega
            case rel => exact ⟨k + 1, _, vm3, _, by omega, Nat.le_refl _, by go_num, HST3.out, HN2.out, fun h => (HNIL.out h).elim⟩
          · have h0F : 0 ≤ F (nat_ gens k) := by omega
            have hneF : F (nat_ gens k) ≠ (nat_ images k : Int) := fun h => hgood (.inr h)
            have HC := reach_old wr _ _ _ _ _ F vm made HST.out.sp (nat_ gens k) (nat_ images k) hgl h4 h0F
            rw [beq_f hneF] at HC
            replace HC := Lib.hid HC
            have HNO := Lib.hid (HNUM.out.inv.clash hlt h0F hneF)
            have HB2 := Lib.hid (belowThen HB1.out HST.out.below)
            clear hgood hnil h0F hneF
            go_wp2_with fail
            refine HC.out.mono ?_
            rintro e w3 ⟨rfl, rfl⟩
            go_wp2
            refine bodyPost_ret (results_tmp2 rfl _ _ _) rfl ?_
            exact mex_no HB2.out HNO.out
        · have hk2 : k = lnx gens := by omega
          rw [hk2] at hnum
          obtain ⟨ma, mc, rfl, hmc1, hmc2, hmc3⟩ := hst.sp.own.shape
          have hs3 := fun W => slice3 W ma (lnx made) mc hmc1 (fun h => by obtain ⟨g, e, _⟩ := hmc3 h; exact ⟨g, e⟩) (fun h => by have := hnil h; injection this with e1 e2 e3; exact ⟨e1, e3⟩)
          have c1 := hst.sp.mbox.cell (i := 0) (by omega)
          have hml := hnum.len
          have HST := Lib.hid hst
          have HNUM := Lib.hid hnum
          have HMC := Lib.hid hmc3
          clear hst hnum hk2 hnil hmc3
          have hD0 : DCells w1.heap.size wr ma made := fun h => by
            obtain ⟨g0, e, h1, h2⟩ := HMC.out h
            exact ⟨g0, e, h1, h2⟩
          have HD0 := Lib.hid hD0
          have HON : Hid (∀ i, i < lnx gens → nat_ gens i ∈ made) := fun i hi => by
            have hx := (nat_cast HING.out hi).2
            refine (HNUM.out.mem _ hx).1 ?_
            rw [HNUM.out.inv.on i hi]
            omega
          have HDL : Hid (∀ d, d < lnx made → nthx made d < lnx t) := fun d hd => HNUM.out.lt _ (nthx_mem hd)
          clear hD0 HMC
          go_wp2
          obtain ⟨D, hDD⟩ : ∃ D, D = made := ⟨_, rfl⟩
          have HLOOP : Hid (∃ (F : Nat → Int) (vm : Value) (made : List Nat), ReSt w1 wr t F vm made ∧ RNum t gens s images (lnx gens) F made ∧ lnx D ≤ lnx made ∧ (∀ j, j < lnx D → nthx made j = nthx D j) ∧ DCells w1.heap.size wr ma D) := ⟨F, _, made, HST.out, HNUM.out, by rw [hDD]; exact Nat.le_refl _, fun j _ => by rw [hDD], by rw [hDD]; exact HD0.out⟩
          clear HST HNUM HD0 c1 hs3 hmc1 hmc2
          subst hDD
          go_loopg [17] (lnx t) (fun kk i wr => ∃ (ii : Nat) (F : Nat → Int) (vm : Value) (made : List Nat), i = .int .i64 ii ∧ ii ≤ lnx made ∧ lnx t - ii ≤ kk ∧ ReSt w1 wr t F vm made ∧ RNum t gens s images (lnx gens) F made ∧ lnx D ≤ lnx made ∧ (∀ j, j < lnx D → nthx made j = nthx D j) ∧ DCells w1.heap.size wr ma D ∧ (∀ j d, j < ii → d < lnx D → ClosedD t s F (nthx made j) (nthx D d)))
          case atStart =>
            obtain ⟨F, vm, made, h1, h2, h3, h4, h5⟩ := HLOOP.out
            exact ⟨0, F, vm, made, rfl, by omega, by omega, h1, h2, h3, h4, h5, fun j d hj => by omega⟩
          case round =>
            clear HLOOP hml F
            obtain ⟨ii, F, vm, made, rfl, hii, hkk3, hst, hnum, hDm, hpre, hdc, hcl⟩ := hrel
            have hml := hnum.len
            obtain ⟨na, nc, rfl, hmc1, hmc2, hmc3⟩ := hst.sp.own.shape
            have c1 := hst.sp.mbox.cell (i := 0) (by omega)
            by_cases hlt3 : ii < lnx made
            · obtain ⟨gm0, rfl, -, hcs⟩ := hmc3 (by omega)
              have c2 := hcs ii hlt3
              obtain ⟨x, hx⟩ : ∃ x, nthx made ii = x := ⟨_, rfl⟩
              rw [hx] at c2
              have hxm : x ∈ made := by rw [← hx]; exact nthx_mem hlt3
              have hxn := hnum.lt x hxm
              have HL4 : Hid (∃ (F : Nat → Int) (vm : Value) (made : List Nat), ReSt w1 wr t F vm made ∧ RNum t gens s images (lnx gens) F made ∧ lnx D ≤ lnx made ∧ (∀ j, j < lnx D → nthx made j = nthx D j) ∧ DCells w1.heap.size wr ma D ∧ (∀ j d, j < ii → d < lnx D → ClosedD t s F (nthx made j) (nthx D d)) ∧ ii < lnx made ∧ nthx made ii = x) := ⟨F, _, made, hst, hnum, hDm, hpre, hdc, hcl, hlt3, hx⟩
              clear hst hnum hpre hdc hcl hcs hmc3 hx hxm
              go_wp2
              clear c1 c2
              clear hlt3 hml hmc1 hDm hii
              go_loopg [97] (lnx D) (fun kk i wr => ∃ (dd : Nat) (F : Nat → Int) (vm : Value) (made : List Nat), i = .int .i64 dd ∧ dd ≤ lnx D ∧ lnx D - dd ≤ kk ∧ ReSt w1 wr t F vm made ∧ RNum t gens s images (lnx gens) F made ∧ lnx D ≤ lnx made ∧ (∀ j, j < lnx D → nthx made j = nthx D j) ∧ DCells w1.heap.size wr ma D ∧ (∀ j d, j < ii → d < lnx D → ClosedD t s F (nthx made j) (nthx D d)) ∧ ii < lnx made ∧ nthx made ii = x ∧ (∀ d, d < dd → ClosedD t s F x (nthx D d)))
              case atStart =>
                obtain ⟨F, vm, made, h1, h2, h3, h4, h5, h6, h7, h8⟩ := HL4.out
                exact ⟨0, F, vm, made, rfl, by omega, by omega, h1, h2, h3, h4, h5, h6, h7, h8, fun d hd => by omega⟩
              case round =>
                clear HL4
                obtain ⟨dd, F, vm, made, rfl, hdd, hkd, hst, hnum, hDm, hpre, hdc, hcl, hlt3, hx, hcd⟩ := hrel
                have hml2 := hnum.len
                by_cases hdl : dd < lnx D
                · obtain ⟨g0, rfl, hg0, hcs⟩ := hdc (by omega)
                  have c2 := hcs dd hdl
                  obtain ⟨g, hg⟩ : ∃ g, nthx D dd = g := ⟨_, rfl⟩
                  rw [hg] at c2
                  have hgm : g ∈ made := by rw [← hg, ← hpre dd hdl]; exact nthx_mem (by omega)
                  have hxm : x ∈ made := by rw [← hx]; exact nthx_mem hlt3
                  have hgn := hnum.lt g hgm
                  have hF1 := (hnum.mem x hxn).2 hxm
                  have hF2 := (hnum.mem g hgn).2 hgm
                  obtain ⟨fx, hfx⟩ : ∃ fx : Nat, F x = fx := ⟨(F x).toNat, by omega⟩
                  obtain ⟨fg, hfg⟩ : ∃ fg : Nat, F g = fg := ⟨(F g).toNat, by omega⟩
                  have hfxm : fx < lnx s := by have := hnum.inv.rng x hxn; omega
                  have hfgm : fg < lnx s := by have := hnum.inv.rng g hgn; omega
                  have hTz := HHT.out x g hxn hgn
                  have hkp := Keeps.below (belowThen HB1.out hst.below)
                  have r1 := hkp _ _ (HHR.out x hxn)
                  have r2 := hkp _ _ (HHC.out x g hxn hgn)
                  have r3 := hkp _ _ (HUR.out fx hfxm)
                  have r4 := hkp _ _ (HUC.out fx fg hfxm hfgm)
                  have c3 := hst.sp.box.cell (i := 0) (by omega)
                  have c4 := hst.sp.arr.cell hxn
                  have c5 := hst.sp.arr.cell hgn
                  rw [hfx] at c4
                  rw [hfg] at c5
                  have hgen := Gen.mul (hnum.gen x hxm) (hnum.gen g hgm)
                  have HST := Lib.hid hst.drew
                  have HNUM := Lib.hid hnum
                  have HPRE := Lib.hid hpre
                  have HCS : Hid (∀ j, j < lnx D → wr.drew.cell? ⟨g0, j, none⟩ = some (.int .i64 ((nthx D j : Nat) : Int))) := hcs
                  have HCL := Lib.hid hcl
                  have HCD := Lib.hid hcd
                  have HX := Lib.hid hx
                  have HG := Lib.hid hg
                  have HFX := Lib.hid hfx
                  have HFG := Lib.hid hfg
                  clear hst hnum hpre hcs hcl hcd hx hg hfx hfg hkp hdc hgm hxm hF1 hF2
                  by_cases hgood : F (tabOf t x g) < 0 ∨ F (tabOf t x g) = (tabOf s fx fg : Int)
                  · have HC := Lib.hid (reach_good wr.drew _ _ _ _ _ F vm made HST.out.sp (tabOf t x g) (tabOf s fx fg) hTz h4 hgood (fun h => by have := HNUM.out.room hTz (HNUM.out.out hTz h); omega))
                    have hinv2 : EInv t gens s images (lnx gens) (upd F (tabOf t x g) (tabOf s fx fg)) := by
                      rcases hgood with h | h
                      · exact HNUM.out.inv.mul HUT.out hxn hgn HFX.out HFG.out h
                      · rw [upd_id h]; exact HNUM.out.inv
                    have HN2 := Lib.hid (HNUM.out.add hTz hgen hinv2)
                    have HC2 : Hid ((∀ j d, j < ii → d < lnx D → ClosedD t s (upd F (tabOf t x g) (tabOf s fx fg)) (nthx (addR F made (tabOf t x g)) j) (nthx D d)) ∧ ii < lnx (addR F made (tabOf t x g)) ∧ nthx (addR F made (tabOf t x g)) ii = x ∧ (∀ d, d < dd + 1 → ClosedD t s (upd F (tabOf t x g) (tabOf s fx fg)) x (nthx D d))) := by
                      have hal := addR_len (F := F) (made := made) (tabOf t x g)
                      refine ⟨fun j d hj hd => ?_, by omega, by rw [addR_nth _ hlt3]; exact HX.out, fun d hd => ?_⟩
                      · rw [addR_nth _ (by omega)]
                        exact (HCL.out j d hj hd).upd hgood
                      · by_cases e : d < dd
                        · exact (HCD.out d e).upd hgood
                        · obtain rfl : d = dd := by omega
                          rw [HG.out]
                          have e1 : upd F (tabOf t x g) (tabOf s fx fg) x = fx := by rw [upd_agree hgood (by rw [HFX.out]; omega), HFX.out]
                          have e2 : upd F (tabOf t x g) (tabOf s fx fg) g = fg := by rw [upd_agree hgood (by rw [HFG.out]; omega), HFG.out]
                          refine ⟨by omega, by omega, ?_⟩
                          rw [upd_same, e1, e2, Int.toNat_natCast, Int.toNat_natCast]
                    have HD2 : Hid (lnx D ≤ lnx (addR F made (tabOf t x g)) ∧ (∀ j, j < lnx D → nthx (addR F made (tabOf t x g)) j = nthx D j)) :=
                      ⟨Nat.le_trans hDm (addR_len _), fun j hj => by rw [addR_nth _ (by omega)]; exact HPRE.out j hj⟩
                    clear hgood hinv2 HCL HCD HX HG HFX HFG HNUM
                    go_wp2
                    go_still_tail 21, (by kernel_rfl)
                    change wpList _ _ _ _ _ wr.drew
                    go_wp2_with fail
                    refine HC.out.mono ?_
                    intro e w3 hp
                    obtain ⟨rfl, vm3, hst3, hold⟩ := HST.out.add hp
                    have hD3 : DCells w1.heap.size w3 (some ⟨g0, 0, none⟩) D := fun _ => ⟨g0, rfl, hg0, hold hg0 D (q := lnx D) HPRE.out hDm HCS.out⟩
                    have HST3 := Lib.hid hst3
                    have HD3 := Lib.hid hD3
                    clear hp hst3 HC HST hold hD3 HPRE HCS
                    go_wp2
                    go_roundg (lnx D - (dd + 1))
                    case measure => omega
                    case rel => exact ⟨dd + 1, _, vm3, _, by go_num, by omega, Nat.le_refl _, HST3.out, HN2.out, HD2.out.1, HD2.out.2, HD3.out, HC2.out⟩
                  · have h0F : 0 ≤ F (tabOf t x g) := by omega
                    have hneF : F (tabOf t x g) ≠ (tabOf s fx fg : Int) := fun h => hgood (.inr h)
                    have HC := reach_old wr.drew _ _ _ _ _ F vm made HST.out.sp (tabOf t x g) (tabOf s fx fg) hTz h4 h0F
                    rw [beq_f hneF] at HC
                    replace HC := Lib.hid HC
                    have HNO := Lib.hid (HNUM.out.inv.no hxn hgn HFX.out HFG.out hTz h0F hneF)
                    have HB2 := Lib.hid (belowThen HB1.out HST.out.below)
                    clear hgood h0F hneF
                    go_wp2
                    go_still_tail 21, (by kernel_rfl)
                    change wpList _ _ _ _ _ wr.drew
                    go_wp2_with fail
                    refine HC.out.mono ?_
                    rintro e w3 ⟨rfl, rfl⟩
                    go_wp2
                    refine bodyPost_ret (results_tmp2 rfl _ _ _) rfl ?_
                    exact mex_no HB2.out HNO.out
                · have P1 : Hid (∃ (F : Nat → Int) (vm : Value) (made : List Nat), ii + 1 ≤ lnx made ∧ ReSt w1 wr t F vm made ∧ RNum t gens s images (lnx gens) F made ∧ lnx D ≤ lnx made ∧ (∀ j, j < lnx D → nthx made j = nthx D j) ∧ DCells w1.heap.size wr ma D ∧ (∀ j d, j < ii + 1 → d < lnx D → ClosedD t s F (nthx made j) (nthx D d))) := ⟨F, vm, made, hlt3, hst, hnum, hDm, hpre, hdc, fun j d hj hd => by
                    by_cases e : j < ii
                    · exact hcl j d e hd
                    · obtain rfl : j = ii := by omega
                      rw [hx]
                      exact hcd d (by omega)⟩
                  have hil2 : ii < lnx t := Nat.lt_of_lt_of_le hlt3 hnum.len
                  clear hst hnum hpre hdc hcl hcd hx
                  go_wp2
                  go_roundg (lnx t - (ii + 1))
                  case measure => omega
                  case rel =>
                    obtain ⟨F, vm, made, q1, q2, q3, q4, q5, q6, q7⟩ := P1.out
                    exact ⟨ii + 1, F, vm, made, by go_num, q1, Nat.le_refl _, q2, q3, q4, q5, q6, q7⟩
            · have hieq : ii = lnx made := by omega
              have hall : ∀ x, x ∈ made → ∀ i, i < lnx gens → ClosedD t s F x (nat_ gens i) := fun x hx i hi => by
                obtain ⟨j, hj, rfl⟩ := mem_nthx hx
                obtain ⟨d, hd, e⟩ := mem_nthx (HON.out i hi)
                rw [← e]
                exact hcl j d (by omega) hd
              have hon : ∀ i, i < lnx gens → nat_ gens i ∈ made := fun i hi => by
                obtain ⟨d, hd, e⟩ := mem_nthx (HON.out i hi)
                rw [← e, ← hpre d hd]
                exact nthx_mem (by omega)
              have HB2 := Lib.hid (belowThen HB1.out hst.below)
              have cb := hst.sp.box.cell (i := 0) (by omega)
              by_cases hfull : lnx made < lnx t
              · have HNO := Lib.hid (hnum.fails HHT.out hon (fun x hx i hi => by
                  obtain ⟨a1, a2, a3⟩ := hall x hx i hi
                  exact (hnum.mem _ (HHT.out x _ (hnum.lt x hx) (hnum.lt _ (hon i hi)))).1 (by rw [a3]; omega)) hfull)
                clear hst hnum hpre hdc hcl hall hon hieq hmc3
                go_wp2
                refine bodyPost_ret (results_tmp2 rfl _ _ _) rfl ?_
                exact mex_no HB2.out HNO.out
              · have HOK := Lib.hid (hnum.hom (by omega) HV1.out HV2.out HL.out HING.out HINI.out (fun x hx i hi => (hall x hx i hi).2.2))
                have hI : Ints wr (.slice (some ⟨w1.heap.size, 0, none⟩) (lnx t) (lnx t)) (listF F (lnx t)) :=
                  Arr.ints (E := 3) _ (lnx_listF F _).symm (by omega) (hst.sp.arr.congr (fun i hi => by rw [nthx_listF F hi]))
                have HII := Lib.hid hI
                clear hst hnum hpre hdc hcl hall hon hieq hmc3 hI
                go_wp2
                refine bodyPost_ret (results_tmp2 rfl _ _ _) rfl ?_
                exact ⟨_, true, rfl, HB2.out, fun _ => ⟨_, HII.out, HOK.out⟩, fun h => (by cases h)⟩
end Go.Proofs.Ytgghmjnbkbiffaa
