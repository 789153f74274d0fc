/-
  The walk of the law MorphRenames.
-/
import Derived.Test.YtgghmjnbkbiffaaGrid
import Derived.StillTailTactics
namespace Go.Proofs.Ytgghmjnbkbiffaa
open Go.RowKit
set_option linter.unusedVariables false

theorem mod_two (s : Int) {n : Nat} (hn : 0 < n) (hn2 : n ≤ 1000000) : ∃ x : Nat, x < n ∧ Int.tmod (wrap64 (Int.tmod s n + n)) n = (x : Int) := by
  have h1 := Int.tmod_lt_of_pos s (b := (n : Int)) (by omega)
  have h2 : -(n : Int) < Int.tmod s n := by
    have h := Int.natAbs_tmod s n
    have h2 := Nat.mod_lt s.natAbs (show 0 < (n : Int).natAbs by omega)
    omega
  have h3 : 0 ≤ Int.tmod s n + n := by omega
  rw [show wrap64 (Int.tmod s n + n) = Int.tmod s n + n by unfold wrap64; omega]
  have h4 := Int.tmod_lt_of_pos (Int.tmod s n + n) (b := (n : Int)) (by omega)
  have h5 := Int.tmod_nonneg (b := (n : Int)) (a := Int.tmod s n + n) (by omega)
  exact ⟨(Int.tmod (Int.tmod s n + n) n).toNat, by omega, by omega⟩

/-- Memory of the law: the permutation. -/
structure RenP (w wr : World) (n gp : Nat) (P Q : Nat → Nat) : Prop where
  row : RowAt wr gp n (fun i => (P i : Int))
  perm : PermPQ n P Q
  below : Below w.heap.size w wr
  gp : w.heap.size ≤ gp

/-- The renumbered table in the making: rows below x are done, and row x below y. -/
structure RenG (w wr : World) (t : List (List Int)) (gp B g : Nat) (P Q : Nat → Nat) (rb rc : Nat → Nat) (G : Nat → Nat → Int) (x y : Nat) : Prop where
  p : RenP w wr (lnx t) gp P Q
  grid : Grid wr B (lnx t) (lnx t) g rb rc G
  lt : gp < B
  hB : w.heap.size ≤ B
  done : ∀ a b, a < lnx t → b < lnx t → (a < x ∨ (a = x ∧ b < y)) → G (P a) (P b) = (P (tabOf t a b) : Int)
theorem RenG.next {w wr : World} {t : List (List Int)} {gp B g : Nat} {P Q : Nat → Nat} {rb rc : Nat → Nat} {G : Nat → Nat → Int} {x y : Nat} (h : RenG w wr t gp B g P Q rb rc G x y) (hx : x < lnx t) (hy : y < lnx t) :
    RenG w ((wr.setCell ⟨rb (P x), P y, none⟩ (.int .i64 (P (tabOf t x y)))).drew) t gp B g P Q rb rc (fun a b => if a = P x ∧ b = P y then (P (tabOf t x y) : Int) else G a b) x (y + 1) := by
  have hpx := h.p.perm.pl x hx
  have hpy := h.p.perm.pl y hy
  have hrb := (h.grid.row (P x) hpx).2.1
  have hg := h.grid.set_ hpx (P y) (P (tabOf t x y))
  refine ⟨⟨h.p.row.far (p := ⟨rb (P x), P y, none⟩) (by have := h.lt; show gp ≠ rb (P x); omega) _, h.p.perm, (h.p.below.setCell (p := ⟨rb (P x), P y, none⟩) (by have := h.hB; show w.heap.size ≤ rb (P x); omega) _).drew, h.p.gp⟩, ⟨hg.top, hg.gb, hg.row, hg.inj⟩, h.lt, h.hB, fun a b ha hb hd => ?_⟩
  by_cases e : a = x ∧ b = y
  · obtain ⟨rfl, rfl⟩ := e
    simp
  · rw [if_neg]
    · exact h.done a b ha hb (by omega)
    · rintro ⟨e1, e2⟩
      refine e ⟨?_, ?_⟩
      · rw [← h.p.perm.qp a ha, e1, h.p.perm.qp x hx]
      · rw [← h.p.perm.qp b hb, e2, h.p.perm.qp y hy]

set_option maxRecDepth 100000 in
set_option maxHeartbeats 2000000 in
theorem renames_walk (w : World) (vt vs : Value) (i j : Int) (t : List (List Int)) (sw : List Int) (ht : Rows2 w vt t) (hs : Ints w vs sw) (hi : (Lit.int .i64 i).wf = true) (hj : (Lit.int .i64 j).wf = true) :
    Calls Try.prog 7 #[vt, vs, .int .i64 i, .int .i64 j] w fun e w' => e = .returned (.bool true) ∧ Below w.heap.size w w' := by
  have HT := Lib.hid ht
  have HS := Lib.hid hs
  have L1 := Lib.hid (small_any w vt t ht 6 (by omega))
  obtain ⟨a, cap, rfl, h1, h2, -⟩ := ht
  obtain ⟨sa, sc, rfl, hs1, hs2, hs3⟩ := hs
  have HS3 := Lib.hid hs3
  clear hs3
  cases hs1 : smallB t 6 with
  | false =>
    rw [hs1] at L1
    clear hs1
    go_enter Try.func7, Try.ntmps7
    go_wp2_with fail
    refine L1.out.mono ?_
    rintro e w1 ⟨rfl, hq⟩
    have HQ := Lib.hid hq
    have HA := Lib.hid (awake_any w1)
    clear hq
    go_wp2_with fail
    refine HA.out.mono ?_
    rintro e w2 ⟨rfl, hb⟩
    have HB := Lib.hid (belowThen (Below.quiet HQ.out) hb)
    clear hb
    go_wp2
    go_ret
    exact ⟨rfl, HB.out⟩
  | true =>
  rw [hs1] at L1
  obtain ⟨l6, ev⟩ := small_inv hs1
  have h0 := (shape_inv (vErr_inv ev).1).1
  have HEV := Lib.hid ev
  clear hs1 ev
  go_enter Try.func7, Try.ntmps7
  go_wp2_with fail
  refine L1.out.mono ?_
  rintro e w1 ⟨rfl, hq⟩
  have HB0 := Lib.hid (Below.quiet hq)
  have HD := Lib.hid (discrete_any w1 (lnx t) (by omega))
  clear hq L1
  go_wp2_with fail
  refine HD.out.mono ?_
  rintro e w2 ⟨rfl, hrow, hb2⟩
  have hp0 : RenP w w2 (lnx t) w1.heap.size (fun i => i) (fun i => i) := ⟨hrow, PermPQ.id _, belowThen HB0.out hb2, HB0.out.size⟩
  have HP0 := Lib.hid hp0
  obtain ⟨gp, hgp⟩ : ∃ gp, gp = w1.heap.size := ⟨_, rfl⟩
  rw [← hgp] at HP0 ⊢
  clear hrow hb2 HD hp0 hgp HB0
  go_wp2
  go_loopw [41] (fun i wr => ∃ (k : Nat) (P Q : Nat → Nat), k ≤ lnx sw ∧ i = .int .i64 k ∧ RenP w wr (lnx t) gp P Q) (fun i _ => lnx sw - (intOf i).toNat)
  case atStart => exact ⟨0, _, _, by omega, rfl, HP0.out⟩
  case round =>
    clear HP0
    obtain ⟨k, P, Q, hk, rfl, hst⟩ := hrel
    by_cases hlt : k < lnx sw
    · obtain ⟨pb, po, rfl, hpc⟩ := HS3.out (by omega)
      have c1 := (Keeps.below hst.below) _ _ (hpc k hlt)
      clear hpc
      by_cases hkn : k < lnx t
      · obtain ⟨x, hx, hmod⟩ := mod_two (nthx sw k) h0 (by omega)
        have d1 := hst.row.cell hkn
        have d2 := hst.row.cell hx
        have f1 := hst.row.frozen k
        have f2 := hst.row.frozen x
        have hs1 := hst.row.set_ k (P x)
        have d3 := hs1.cell hx
        have f3 := hs1.frozen x
        have hs2 := hs1.set_ x (P k)
        have P1 : Hid (RenP w (((wr.setCell ⟨gp, k, none⟩ (.int .i64 (P x))).setCell ⟨gp, x, none⟩ (.int .i64 (P k))).drew) (lnx t) gp (swapP P k x) (fun i => sg k x (Q i))) :=
          ⟨hs2.congr (fun i hi => by unfold upd swapP; split; rfl; split <;> rfl), hst.perm.swap hkn hx, (Below.setCell (Below.setCell hst.below (p := ⟨gp, k, none⟩) hst.gp _) (p := ⟨gp, x, none⟩) hst.gp _).drew, hst.gp⟩
        clear hst hs1 hs2
        go_wp2
        go_region
        go_wp2
        go_roundw
        case rel => exact ⟨k + 1, _, _, by omega, by go_num, P1.out⟩
        case measure => simp [intOf]; omega
      · have P1 := Lib.hid hst
        clear hst
        go_wp2
        go_roundw
        case rel => exact ⟨k + 1, _, _, by omega, by go_num, P1.out⟩
        case measure => simp [intOf]; omega
    · have hcop := copy_any wr _ t (lnx t) (HT.out.keep (Keeps.below hst.below)) h0 (by omega) (by omega) (fun r hr => ((shape_inv (vErr_inv HEV.out).1).2.2 r hr).1)
      have HCOP := Lib.hid hcop
      have HST := Lib.hid hst
      clear hst hcop
      go_wp2_with fail
      refine HCOP.out.mono ?_
      rintro e w3 ⟨g, ucap, rb, rc, rfl, hc1, hc2, hgrid, hb3⟩
      have hst3 : RenP w w3 (lnx t) gp P Q := ⟨HST.out.row.only (Only.of_below hb3) (by have := HST.out.row.lt; omega), HST.out.perm, belowThen HST.out.below hb3, HST.out.gp⟩
      have hg0 : RenG w w3 t gp wr.heap.size g P Q rb rc (fun r c => nthx (nthx t r) c) 0 0 := ⟨hst3, hgrid, HST.out.row.lt, HST.out.below.size, fun a b _ _ h => by omega⟩
      obtain ⟨B, hB⟩ : ∃ B, B = wr.heap.size := ⟨_, rfl⟩
      rw [← hB] at hg0
      have HG0 := Lib.hid hg0
      obtain ⟨tb, tof, tcap, trb, tro, trc, he, -, -, hR, hC, hT⟩ := Tab.of_rows HT.out (vErr_inv HEV.out).1
      injection he with he1 _ he2
      subst he1 he2
      have HR := Lib.hid hR
      have HC := Lib.hid hC
      have HTT := Lib.hid hT
      clear hst3 hgrid hb3 hg0 HST HCOP hB hR hC hT
      go_wp2
      go_loopw [75] (fun i wr => ∃ (x : Nat) (G : Nat → Nat → Int), x ≤ lnx t ∧ i = .int .i64 x ∧ RenG w wr t gp B g P Q rb rc G x 0) (fun i _ => lnx t - (intOf i).toNat)
      case atStart => exact ⟨0, _, by omega, rfl, HG0.out⟩
      case round =>
        clear HG0
        obtain ⟨x, G, hx, rfl, hst⟩ := hrel
        by_cases hlt2 : x < lnx t
        · have HST := Lib.hid hst
          clear hst
          go_wp2
          go_loopw [80] (fun i wr => ∃ (y : Nat) (G : Nat → Nat → Int), y ≤ lnx t ∧ i = .int .i64 y ∧ RenG w wr t gp B g P Q rb rc G x y) (fun i _ => lnx t - (intOf i).toNat)
          case atStart => exact ⟨0, _, by omega, rfl, HST.out⟩
          case round =>
            clear HST
            obtain ⟨y, G, hy, rfl, hst⟩ := hrel
            by_cases hlt3 : y < lnx t
            · have hkp := Keeps.below hst.p.below
              have c1 := hkp _ _ (HR.out x hlt2)
              have c2 := hkp _ _ (HC.out x y hlt2 hlt3)
              have hTz := HTT.out x y hlt2 hlt3
              have c3 := hst.p.row.cell hlt2
              have c4 := hst.p.row.cell hlt3
              have c5 := hst.p.row.cell hTz
              have hpx := hst.p.perm.pl x hlt2
              have hpy := hst.p.perm.pl y hlt3
              have c6 := hst.grid.cell hpx
              have c7 := (hst.grid.row _ hpx).1.cell hpy
              have f7 := (hst.grid.row _ hpx).1.frozen (P y)
              have P1 := Lib.hid (hst.next hlt2 hlt3)
              clear hst hkp
              go_wp2
              go_region
              go_wp2
              go_roundw
              case rel => exact ⟨y + 1, _, by omega, by go_num, P1.out⟩
              case measure => simp [intOf]; omega
            · have P1 : Hid (RenG w wr t gp B g P Q rb rc G (x + 1) 0) := ⟨hst.p, hst.grid, hst.lt, hst.hB, fun a b ha hb h => hst.done a b ha hb (by omega)⟩
              clear hst
              go_wp2
              go_roundw
              case rel => exact ⟨x + 1, _, by omega, by go_num, P1.out⟩
              case measure => simp [intOf]; omega
        · obtain rfl : x = lnx t := by omega
          have hG : ∀ a b, a < lnx t → b < lnx t → G (P a) (P b) = (P (tabOf t a b) : Int) := fun a b ha hb => hst.done a b ha hb (.inl ha)
          have hu := hst.grid.rows hc1 hc2
          have ev2 := ren_valid HEV.out hst.p.perm hG
          obtain ⟨hh1, hh2⟩ := ren_hom HEV.out hst.p.perm hG
          have hlu := lnx_rowsG (lnx t) (lnx t) G
          obtain ⟨u, hu0⟩ : ∃ u, u = rowsG (lnx t) (lnx t) G := ⟨_, rfl⟩
          rw [← hu0] at hu ev2 hh1 hlu
          obtain ⟨h, hiso, hf1, hf2⟩ := iso_some HEV.out hlu (by rw [hlu]; exact hh1) hh2
          have hm1 : mayErr t u = 0 := mayErr_0 HEV.out ev2 (by omega)
          have hm2 : mayErr t t = 0 := mayErr_0 HEV.out HEV.out (by omega)
          have hc6 := autos_six l6
          have hE2 : listErr t t true = 0 := by unfold listErr; rw [hm2, if_neg (by simp), if_neg (by omega)]
          have hR2 : listRows t t true = (homsT t t true).map natsOf := by unfold listRows; rw [hE2, if_pos rfl]
          have HB1 := Lib.hid hst.p.below
          have H1 := iso_any wr _ _ t u (HT.out.keep (Keeps.below hst.p.below)) hu
          unfold IsoPost at H1
          rw [hm1] at H1
          have hisH : isHomB t u (natsOf h) = true := by unfold isHomB; rw [HEV.out, ev2, hf1]; rfl
          have himg : lnx (imgRes t u (natsOf h)) = lnx t := by
            obtain ⟨p1, p2, _⟩ := homL_inv hf1
            unfold imgRes
            rw [if_pos hisH, lnx_natsOf, hlu]
            rw [hlu] at p2
            exact (inj_img p1 p2).1 hf2
          have H2 := (fun W vf (hb : Below wr.heap.size wr W) (hvf : Ints W vf (natsOf h)) => isHomProg_any W _ _ vf t u (natsOf h) (HT.out.keep (Keeps.below (belowThen HB1.out hb))) (hu.keep (Keeps.below hb)) hvf)
          rw [hisH] at H2
          have H3 := Lib.hid (fun W vf (hb : Below wr.heap.size wr W) (hvf : Ints W vf (natsOf h)) => image_any W _ _ vf t u (natsOf h) (HT.out.keep (Keeps.below (belowThen HB1.out hb))) (hu.keep (Keeps.below hb)) hvf)
          have H4 := (fun W (hb : Below w.heap.size w W) => autos_any W _ t (HT.out.keep (Keeps.below hb)))
          rw [hE2, hR2] at H4
          obtain ⟨R, hR⟩ : ∃ R, R = (homsT t t true).map natsOf := ⟨_, rfl⟩
          rw [← hR] at H4
          have hRl : 0 < lnx R ∧ lnx R ≤ 720 := by
            obtain ⟨a0, ha0⟩ := id_auto HEV.out
            rw [← hR] at ha0
            have e1 : lnx R = lnx (homsT t t true) := by rw [hR]; simp [lnx]
            have e2 : 0 < lnx R := List.length_pos_of_mem ha0
            omega
          have HRlen : Hid (∀ k, k < lnx R → lnx (nthx R k) = lnx t ∧ inB (lnx t) (nthx R k) = true) := fun k hk => by
            have h1 := nthx_mem hk
            rw [hR] at h1
            obtain ⟨q1, _⟩ := (mem_homs HEV.out).1 h1
            obtain ⟨q2, q3, _⟩ := homL_inv q1
            exact ⟨by rw [← hR] at q2; exact q2, by rw [← hR] at q3; exact q3⟩
          have HCOMP : Hid (∀ b c, b ∈ R → c ∈ R → natsOf (compN b c (lnx t)) ∈ R) := fun b c hb hc => by
            rw [hR] at hb hc ⊢
            exact comp_auto HEV.out hb hc
          replace H1 := Lib.hid H1
          replace H2 := Lib.hid H2
          replace H4 := Lib.hid H4
          have HISO := Lib.hid hiso
          have HIMG := Lib.hid himg
          obtain ⟨hR0, hR7⟩ := hRl
          clear hst hG hu ev2 hh1 hh2 hu0 hiso hf1 hf2 hm1 hm2 hc6 hE2 hR2 hisH himg hR HR HC HTT HS HS3
          go_wp2_with fail
          refine H1.out.mono ?_
          rintro e w4 ⟨vf, ok, rfl, hb4, -, hyes⟩
          obtain ⟨rfl, hvf⟩ := (hyes trivial).2 h HISO.out
          have HB4 := Lib.hid hb4
          have HVF := Lib.hid hvf
          obtain ⟨fa, fc, rfl, hfa1, hfa2, -⟩ := hvf
          clear H1 hyes hb4
          go_wp2_with fail
          refine (H2.out _ _ HB4.out HVF.out).mono ?_
          rintro e w5 ⟨rfl, hb5⟩
          have HB5 := Lib.hid (belowThen HB4.out hb5)
          have HVF5 := Lib.hid (HVF.out.keep (Keeps.below hb5))
          clear H2 hb5 HVF HB4
          go_wp2_with fail
          refine (H3.out _ _ HB5.out HVF5.out).mono ?_
          rintro e w6 ⟨vi, rfl, hi6, hb6⟩
          have HB6 := Lib.hid (belowThen HB1.out (belowThen HB5.out hb6))
          obtain ⟨ia, ic, rfl, -, -, -⟩ := hi6
          have g1 : ((lnx (imgRes t u (natsOf h)) : Int) != (lnx t : Int)) = false := bne_f (by rw [HIMG.out])
          clear H3 hb6 HVF5 HB5
          go_wp2_with fail
          refine (H4.out _ HB6.out).mono ?_
          rintro e w7 ⟨va, rfl, hr7, hb7⟩
          have HB7 := Lib.hid (belowThen HB6.out hb7)
          obtain ⟨ra, rcp, rfl, hrc1, hrc2, hr7c⟩ := hr7
          obtain ⟨ab, ao, rfl, hab⟩ := hr7c hR0
          have HAB := Lib.hid hab
          obtain ⟨r0, hr0, hs0⟩ := hab 0 hR0
          obtain ⟨ra0, rc0, rfl, -, -, -⟩ := hs0
          rw [Nat.add_zero] at hr0
          have hl0 := (HRlen.out 0 hR0).1
          rw [hl0] at hr0
          obtain ⟨ib, hib, hmi⟩ := mod_two i hR0 (by omega)
          obtain ⟨jc, hjc, hmj⟩ := mod_two j hR0 (by omega)
          obtain ⟨vb, hvb, hsb⟩ := hab ib hib
          obtain ⟨vc, hvc, hsc⟩ := hab jc hjc
          have HSB := Lib.hid hsb
          have HSC := Lib.hid hsc
          have hbl := HRlen.out ib hib
          have hcl := HRlen.out jc hjc
          have HD := Lib.hid (HCOMP.out _ _ (nthx_mem hib) (nthx_mem hjc))
          obtain ⟨ba, bc, rfl, hb1, hb2, hb3⟩ := hsb
          obtain ⟨ca, cc, rfl, hcc1, hcc2, hcc3⟩ := hsc
          obtain ⟨b', hb'⟩ : ∃ b', b' = nthx R ib := ⟨_, rfl⟩
          obtain ⟨c', hc'⟩ : ∃ c', c' = nthx R jc := ⟨_, rfl⟩
          rw [← hb'] at hbl hb3 HSB HD hvb hb1
          rw [← hc'] at hcl hcc3 HSC HD hvc hcc1
          rw [hbl.1] at hb3 hvb hb1
          rw [hcl.1] at hcc3 hvc hcc1
          obtain ⟨bb, bo, rfl, hbc⟩ := hb3 h0
          obtain ⟨cb, co, rfl, hcc⟩ := hcc3 h0
          have HBC := Lib.hid hbc
          have HCC := Lib.hid hcc
          have HBL := Lib.hid hbl
          have HCL := Lib.hid hcl
          clear H4 hab hr7c hb7 HB6 hl0 hb3 hcc3 hb' hc' hbc hcc hbl hcl HCOMP HRlen
          go_wp2
          go_quiet (fail)
          go_wp2
          go_loopw [25, 179] (fun v i wr => ∃ (q k : Nat), k ≤ lnx t ∧ i = .int .i64 k ∧ Below w7.heap.size w7 wr ∧ OwnN wr w7.heap.size v (compN b' c' k)) (fun _ i _ => lnx t - (intOf i).toNat)
          case atStart => exact ⟨0, 0, by omega, rfl, by first | exact Below.refl _ _ | exact (Below.refl _ _).drew | exact Below.drewN' (Below.refl _ _) _, OwnN.nil _ _⟩
          case round =>
            obtain ⟨_, k, hk, rfl, hb, ho⟩ := hrel
            have hsz7 := hb.size
            by_cases hlt2 : k < lnx t
            · have hkp := Keeps.below hb
              have d1 := hkp _ _ (HBC.out k hlt2)
              have hnk := nat_cast HBL.out.2 (i := k) (by rw [HBL.out.1]; exact hlt2)
              have d2 := hkp _ _ (HCC.out (nat_ b' k) hnk.2)
              have hnc := nat_cast HCL.out.2 (i := nat_ b' k) (by rw [HCL.out.1]; exact hnk.2)
              rw [← hnk.1] at d1
              rw [← hnc.1] at d2
              have hnk2 := hnk.2
              have HCS := Lib.hid (compN_succ b' c' k)
              have HLC := Lib.hid (lnx_compN b' c' k)
              have HO := Lib.hid ho
              have HBB := Lib.hid hb
              have e4 := ho.alloc (.cells #[.int .i64 (nat_ c' (nat_ b' k))] 3)
              have e2 := World.cell?_alloc_new wr #[.int .i64 ((nat_ c' (nat_ b' k) : Nat) : Int)] 3 0
              obtain ⟨va, vcp, rfl, -, -, -⟩ := ho.shape
              clear hkp hnk hnc hb ho
              go_wp2_with (at_builtin; refine wpList_push _ rfl _ _ 31 rfl w7.heap.size 3 (.int .i64 0) 8 Try.underlying31 Try.infoInt rfl _ _ _ rfl wr.heap.size (.int .i64 ((nat_ c' (nat_ b' k) : Nat) : Int)) rfl e4 e2 rfl ?_ ?_ ?_ ?_)
              · rw [HLC.out]; simp only [maxLen]; omega
              · rw [HLC.out]; omega
              · simp only [World.size_alloc]; omega
              intro r2 c2 w8 hap
              have ho2 : Only (fun k => w7.heap.size ≤ k) wr w8 := Only.grown ((Only.refl _ wr).alloc _) hap.grown (fun k hk e => (HO.out.lt e).1)
              have P1 : Hid (Below w7.heap.size w7 w8 ∧ OwnN w8 w7.heap.size (.slice (some ⟨r2, 0, none⟩) (lnx (compN b' c' k) + 1) c2) (compN b' c' (k + 1))) :=
                ⟨HBB.out.trans (ho2.below (by omega) (by omega)), by rw [HCS.out]; exact OwnN.push hap.own⟩
              clear hap ho2 HBB HO HCS HLC e4 e2
              go_wp2
              go_roundw
              case rel => exact ⟨0, k + 1, by omega, by go_num, P1.out⟩
              case measure => simp [intOf]; omega
            · obtain rfl : k = lnx t := by omega
              have HDI := Lib.hid ho.ints
              obtain ⟨da, dc, rfl, hd1, hd2, -⟩ := ho.ints
              have HB8 := Lib.hid hb
              have HD2 := Lib.hid (hasR_all.2 HD.out)
              obtain ⟨d', hd'⟩ : ∃ d', d' = natsOf (compN b' c' (lnx t)) := ⟨_, rfl⟩
              rw [← hd'] at HDI HD2 ⊢
              clear hb ho hd' HD
              go_wp2
              go_loopw [28, 201] (fun b i wz => ∃ k : Nat, k ≤ lnx R ∧ i = .int .i64 k ∧ b = .bool (hasR R d' k) ∧ ∃ q, wz = wr.drewN q) (fun _ i _ => lnx R - (intOf i).toNat)
              case atStart => exact ⟨0, by omega, rfl, by simp [hasR], by first | exact ⟨0, rfl⟩ | exact ⟨_, rfl⟩⟩
              case round =>
                obtain ⟨k, hk, rfl, rfl, q5, rfl⟩ := hrel
                by_cases hlt : k < lnx R
                · obtain ⟨x, hx, hxi⟩ := HAB.out k hlt
                  have hx2 := (Keeps.below HB8.out) _ _ hx
                  have HSM := Lib.hid (same_any (wr.drewN q5) x _ _ _ ((hxi.keep (Keeps.below HB8.out)).keep (Keeps.drewN wr q5)) (HDI.out.keep (Keeps.drewN wr q5)))
                  have HSU := Lib.hid (hasR_succ R d' k)
                  obtain ⟨xa, xc, rfl, -, -, -⟩ := hxi
                  clear hx
                  cases hh : hasR R d' k with
                  | true =>
                    rw [hh, Bool.true_or] at HSU
                    clear hh HSM
                    go_wp2
                    go_roundw
                    case rel => exact ⟨k + 1, by omega, by go_num, by rw [HSU.out], ⟨_, rfl⟩⟩
                    case measure => simp [intOf]; omega
                  | false =>
                    rw [hh, Bool.false_or] at HSU
                    clear hh
                    go_wp2_with fail
                    refine HSM.out.mono ?_
                    rintro e w5 ⟨rfl, q6, rfl⟩
                    clear HSM
                    go_wp2
                    go_roundw
                    case rel => exact ⟨k + 1, by omega, by go_num, by rw [HSU.out], first_drew⟩
                    case measure => simp [intOf]; omega
                · obtain rfl : k = lnx R := by omega
                  have HB9 := Lib.hid (belowThen HB7.out (belowThen HB8.out (Below.quiet ⟨q5, rfl⟩)))
                  have HA := Lib.hid (awake_any (wr.drewN q5))
                  rw [HD2.out]
                  clear hlt hk HD2
                  go_wp2_with fail
                  refine HA.out.mono ?_
                  rintro e w9 ⟨rfl, hb9⟩
                  have HB10 := Lib.hid (belowThen HB9.out hb9)
                  clear hb9 HA HB9
                  go_wp2
                  go_ret
                  exact ⟨rfl, HB10.out⟩
end Go.Proofs.Ytgghmjnbkbiffaa
