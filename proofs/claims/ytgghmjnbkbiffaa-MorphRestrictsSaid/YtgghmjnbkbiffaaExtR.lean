/-
  The walk of ref20.Extend.
-/
import Derived.Test.YtgghmjnbkbiffaaExtM
import Derived.BigRegion
namespace Go.Proofs.Ytgghmjnbkbiffaa
open Go.RowKit
set_option linter.unusedVariables false

/-- The cells of a map in the making, in block g. -/
structure MEx (w : World) (n g : Nat) (F : Nat → Int) (wr : World) : Prop where
  arr : Arr 3 wr g n (fun j => .int .i64 (F j))
  below : Below g w wr
theorem MEx.set_ {w wr : World} {n g : Nat} {F : Nat → Int} (h : MEx w n g F wr) (z : Nat) (y : Int) : MEx w n g (upd F z y) (wr.setCell ⟨g, z, none⟩ (.int .i64 y)) :=
  ⟨(h.arr.set_ _ _).congr (fun i hi => by unfold upd; by_cases e : i = z <;> simp [e]), h.below.setCell (p := ⟨g, z, none⟩) (Nat.le_refl _) _⟩
theorem MEx.drewN {w wr : World} {n g : Nat} {F : Nat → Int} (h : MEx w n g F wr) (q : Nat) : MEx w n g F (wr.drewN q) := ⟨h.arr.drewN q, Below.drewN' h.below q⟩
theorem MEx.drew {w wr : World} {n g : Nat} {F : Nat → Int} (h : MEx w n g F wr) : MEx w n g F wr.drew := ⟨h.arr.drew, ⟨h.below.os, h.below.tape, h.below.output, h.below.size, h.below.block⟩⟩
theorem MEx.congr {w wr : World} {n g : Nat} {F G : Nat → Int} (h : MEx w n g F wr) (he : ∀ i, i < n → F i = G i) : MEx w n g G wr := ⟨h.arr.congr (fun i hi => by rw [he i hi]), h.below⟩

def fillF (k : Nat) : Nat → Int := fun j => if j < k then -1 else 0
theorem fillF_step (k : Nat) : upd (fillF k) k (-1) = fillF (k + 1) := by
  funext i
  unfold upd fillF
  by_cases e : i = k
  · rw [if_pos e, if_pos (by omega)]
  · rw [if_neg e]
    by_cases e2 : i < k
    · rw [if_pos e2, if_pos (by omega)]
    · rw [if_neg e2, if_neg (by omega)]
theorem mex_no {w w' : World} {t : List (List Int)} {gens : List Int} {s : List (List Int)} {images : List Int} (hb : Below w.heap.size w w') (h : ∀ f, ¬ ExtOK t gens s images f) :
    MexPost w t gens s images (.returned (.tuple #[.slice none 0 0, .bool false])) w' := ⟨_, false, rfl, hb, fun h => (by cases h), fun _ => ⟨Sl.nil _, h⟩⟩

set_option maxRecDepth 100000 in
set_option maxHeartbeats 4000000 in
theorem refExtend_good (w : World) (vt vg vu vi : Value) (t : List (List Int)) (gens : List Int) (s : List (List Int)) (images : List Int) (ht : Rows2 w vt t) (hg : Ints w vg gens) (hs : Rows2 w vu s) (hi : Ints w vi images)
    (v1 : vErr t = 0) (v2 : vErr s = 0) (hl : lnx gens = lnx images) (ing : inB (lnx t) gens = true) (ini : inB (lnx s) images = true) (hgen : ∀ x, x < lnx t → Gen (lnx t) (tabOf t) gens x) :
    Calls Try.prog 30 #[vt, vg, vu, vi] w (MexPost w t gens s images) := by
  have HT := Lib.hid ht
  have HS := Lib.hid hs
  have H1 := validRef_any w vt t ht
  have H2 := (fun q => validRef_any (w.drewN q) vu s (hs.keep (Keeps.drewN w q)))
  rw [v1] at H1
  rw [v2] at H2
  replace H1 := Lib.hid H1
  replace H2 := Lib.hid H2
  have htab := Tab.of_rows ht (vErr_inv v1).1
  have hsab := Tab.of_rows hs (vErr_inv v2).1
  have H5 := (fun q => generated_any (w.drewN q) _ _ vt vg gens (htab.keep (Keeps.drewN w q)) (hg.keep (Keeps.drewN w q)))
  have hall := all_gen.2 hgen
  have HV1 := Lib.hid v1
  have HV2 := Lib.hid v2
  have HGEN := Lib.hid hgen
  obtain ⟨b, o, cap, rb, ro, rc, rfl, h0, h4, hR, hC, hT⟩ := htab
  obtain ⟨ub, uo, ucap, urb, uro, urc, rfl, uh0, uh4, uR, uC, hU⟩ := hsab
  have H3 := (fun q => inRef_any (w.drewN q) (some ⟨b, o, none⟩) cap (lnx t) (by omega) vg gens (hg.keep (Keeps.drewN w q)))
  have H4 := (fun q => inRef_any (w.drewN q) (some ⟨ub, uo, none⟩) ucap (lnx s) (by omega) vi images (hi.keep (Keeps.drewN w q)))
  rw [ing] at H3
  rw [ini] at H4
  replace H3 := Lib.hid H3
  replace H4 := Lib.hid H4
  replace H5 := Lib.hid H5
  have HI := Lib.hid hi
  have HG := Lib.hid hg
  obtain ⟨ga, gc, rfl, hg1, hg2, hg3⟩ := hg
  obtain ⟨ia, ic, rfl, hi1, hi2, hi3⟩ := hi
  have g1 : ((lnx gens : Int) != (lnx images : Int)) = false := bne_f (by rw [hl])
  have HL := Lib.hid hl
  have HG3 := Lib.hid hg3
  have HI3 := Lib.hid hi3
  have HING := Lib.hid ing
  have HINI := Lib.hid ini
  have hil : lnx images ≤ ic ∧ lnx gens ≤ lnx images := by omega
  clear hl hg3 hi3 ing ini v1 v2 hgen ht hs
  have HHR := Lib.hid hR
  have HHC := Lib.hid hC
  have HHT := Lib.hid hT
  have HUR := Lib.hid uR
  have HUC := Lib.hid uC
  have HUT := Lib.hid hU
  clear hR hC hT uR uC hU
  have hmk := fun W => run_mk (P := Try.prog) Try.underlying31 Try.infoInt rfl (lnx t) (by omega) (by omega) W
  obtain ⟨R, hR⟩ : ∃ R, R = natsOf ((List.range (lnx t)).filter (genB (lnx t) (tabOf t) gens)) := ⟨_, rfl⟩
  rw [← hR] at hall H5
  clear hR
  go_enter Try.func30, Try.ntmps30
  go_wp2_with fail
  refine H1.out.mono ?_
  rintro e w' ⟨rfl, q, rfl⟩
  clear H1
  go_wp2_with fail
  refine (H2.out q).mono ?_
  rintro e w' ⟨rfl, q2, rfl⟩
  clear H2
  go_wp2_with fail
  refine (H3.out _).mono ?_
  rintro e w' ⟨rfl, rfl⟩
  clear H3
  go_wp2_with fail
  refine (H4.out _).mono ?_
  rintro e w' ⟨rfl, rfl⟩
  clear H4
  go_wp2_with fail
  refine (H5.out _).mono ?_
  rintro e w1 ⟨ug, rfl, hug, hb⟩
  obtain ⟨ra, rcc, rfl, -⟩ := hug
  have HB1 : Hid (Below w.heap.size w w1) := belowThen (Below.quiet ⟨_, rfl⟩) hb
  rw [hall]
  clear hb H5
  have g2 : ((lnx t : Int) != (lnx t : Int)) = false := bne_f rfl
  go_wp2
  clear hmk g1 g2 hall
  go_loopg [58] (lnx t) (fun kk i wr => ∃ k : Nat, k ≤ lnx t ∧ lnx t - k ≤ kk ∧ i = .int .i64 k ∧ MEx w1 (lnx t) w1.heap.size (fillF k) wr)
  case atStart => exact ⟨0, by omega, by omega, rfl, (Arr.zeros _ _ _ _).congr (fun i hi => by simp [fillF]), (Below.refl _ _).alloc (Nat.le_refl _) _⟩
  case round =>
    obtain ⟨k, hk, hkk, rfl, hst⟩ := hrel
    have hsz := hst.arr.lt
    by_cases hlt : k < lnx t
    · have c1 := hst.arr.cell hlt
      have c2 := hst.arr.frozen k
      have P1 := hst.set_ k (-1)
      rw [fillF_step] at P1
      replace P1 := Lib.hid P1
      clear hst
      go_wp2
      go_roundg (lnx t - (k + 1))
      case measure => omega
      case rel => exact ⟨k + 1, by omega, Nat.le_refl _, by go_num, P1.out⟩
    · have P0 : Hid (MEx w1 (lnx t) w1.heap.size (fun _ => -1) wr) := hst.congr (fun i hi => by unfold fillF; rw [if_pos (by omega)])
      clear hst
      go_wp2
      go_loopg [67] (lnx gens) (fun kk i wr => ∃ (k : Nat) (F : Nat → Int), k ≤ lnx gens ∧ lnx gens - k ≤ kk ∧ i = .int .i64 k ∧ MEx w1 (lnx t) w1.heap.size F wr ∧ EInv t gens s images k F)
      case atStart => exact ⟨0, _, by omega, by omega, rfl, P0.out, EInv.start t gens s images⟩
      case round =>
        clear P0 hsz
        obtain ⟨k, F, hk, hkk, rfl, hst, hinv⟩ := hrel
        have hsz := hst.arr.lt
        by_cases hlt : k < lnx gens
        · have hkp := Keeps.below (belowThen HB1.out hst.below)
          obtain ⟨pb, po, rfl, hpc⟩ := HG3.out (by omega)
          obtain ⟨qb, qo, rfl, hqc⟩ := HI3.out (by omega)
          have d1 := hkp _ _ (hpc k hlt)
          have d2 := hkp _ _ (hqc k (by omega))
          have hgk := nat_cast HING.out hlt
          have hik := nat_cast HINI.out (i := k) (by omega)
          rw [← hgk.1] at d1
          rw [← hik.1] at d2
          have hgl := hgk.2
          have c1 := hst.arr.cell hgl
          have c2 := hst.arr.frozen (nat_ gens k)
          have HST := Lib.hid hst
          have HINV := Lib.hid hinv
          clear hpc hqc hkp hst hinv hgk hik
          by_cases hneg : F (nat_ gens k) < 0
          · have P1 := Lib.hid (fun q => (HST.out.drewN q).set_ (nat_ gens k) (nat_ images k))
            have P2 := Lib.hid (HINV.out.gen hlt HL.out HINI.out (.inl hneg))
            have gd : decide (0 ≤ F (nat_ gens k)) = false := by simp; omega
            go_wp2
            go_quiet (fail)
            go_wp2
            go_roundg (lnx gens - (k + 1))
            case measure => omega
            case rel => exact ⟨k + 1, _, by omega, Nat.le_refl _, by go_num, P1.out _, P2.out⟩
          · have gd : decide (0 ≤ F (nat_ gens k)) = true := by simp; omega
            by_cases heq : F (nat_ gens k) = (nat_ images k : Int)
            · have g3 : (F (nat_ gens k) != (nat_ images k : Int)) = false := bne_f heq
              have P1 := Lib.hid (fun q => (HST.out.drewN q).set_ (nat_ gens k) (nat_ images k))
              have P2 := Lib.hid (HINV.out.gen hlt HL.out HINI.out (.inr heq))
              clear heq
              go_wp2
              go_quiet (fail)
              go_wp2
              go_roundg (lnx gens - (k + 1))
              case measure => omega
              case rel => exact ⟨k + 1, _, by omega, Nat.le_refl _, by go_num, P1.out _, P2.out⟩
            · have g3 : (F (nat_ gens k) != (nat_ images k : Int)) = true := bne_t heq
              have HNO := Lib.hid (HINV.out.clash hlt (by omega) heq)
              have HB2 := Lib.hid (belowThen HB1.out HST.out.below)
              clear heq
              go_wp2
              go_quiet (fail)
              go_wp2
              refine bodyPost_ret (results_tmp2 rfl _ _ _) rfl ?_
              exact mex_no (Below.drewN' HB2.out _) HNO.out
        · have hk2 : k = lnx gens := by omega
          rw [hk2] at hinv
          have HST := Lib.hid (⟨hst, hinv⟩ : MEx w1 (lnx t) w1.heap.size F wr ∧ EInv t gens s images (lnx gens) F)
          clear hst hinv hk2
          go_wp2
          go_loopg [14] (lnx t + 1) (fun kk c wr => ∃ (F : Nat → Int) (ch : Bool), c = .bool ch ∧ MEx w1 (lnx t) w1.heap.size F wr ∧ EInv t gens s images (lnx gens) F ∧ (ch = true → undC (lnx t) F + 1 ≤ kk) ∧ (ch = false → ∀ a b, a < lnx t → b < lnx t → 0 ≤ F a → 0 ≤ F b → 0 ≤ F (tabOf t a b)))
          case atStart => exact ⟨F, true, rfl, HST.out.1, HST.out.2, fun _ => (by have := undC_le F (lnx t); omega), fun h => by cases h⟩
          case round =>
            clear HST hsz
            clear F
            obtain ⟨F0, ch, rfl, hst, hinv, hfu, hcl⟩ := hrel
            cases ch with
            | false =>
              have hsz := hst.arr.lt
              have h00 : ∀ x, x < lnx t → 0 ≤ F0 x := fun x hx => hinv.total HHT.out (hcl rfl) (HGEN.out x hx)
              have hI : Ints wr (.slice (some ⟨w1.heap.size, 0, none⟩) (lnx t) (lnx t)) (listF F0 (lnx t)) :=
                Arr.ints (E := 3) _ (lnx_listF F0 _).symm (by omega) (hst.arr.congr (fun i hi => by rw [nthx_listF F0 hi]))
              have hbw := belowThen HB1.out hst.below
              have H6 := refIsHom_any wr _ _ _ t s (listF F0 (lnx t)) (HT.out.keep (Keeps.below hbw)) (HS.out.keep (Keeps.below hbw)) hI
              have HV : isHomB t s (listF F0 (lnx t)) = homL (lnx t) (lnx s) (tabOf t) (tabOf s) (listF F0 (lnx t)) := by unfold isHomB; rw [HV1.out, HV2.out]; simp
              rw [HV] at H6
              cases hh : homL (lnx t) (lnx s) (tabOf t) (tabOf s) (listF F0 (lnx t)) with
              | false =>
                have HNO : Hid (∀ f, ¬ ExtOK t gens s images f) := fun f hf => by
                  have := hf.hom
                  rw [hinv.is h00 hf, hh] at this
                  cases this
                rw [hh] at H6
                replace H6 := Lib.hid H6
                have HB2 := Lib.hid hbw
                clear hst hinv hfu hcl h00 hI hbw HV hh
                go_wp2_with fail
                refine H6.out.mono ?_
                rintro e w2 ⟨rfl, hq⟩
                have HB3 := Lib.hid (belowThen HB2.out (Below.quiet hq))
                clear hq
                go_wp2
                refine bodyPost_ret (results_tmp2 rfl _ _ _) rfl ?_
                exact mex_no HB3.out HNO.out
              | true =>
                have HOK := Lib.hid (hinv.ok HV1.out HV2.out HL.out HING.out HINI.out HGEN.out hh)
                rw [hh] at H6
                replace H6 := Lib.hid H6
                have HB2 := Lib.hid hbw
                have HII := Lib.hid hI
                clear hst hinv hfu hcl h00 hI hbw HV hh
                go_wp2_with fail
                refine H6.out.mono ?_
                rintro e w2 ⟨rfl, hq⟩
                have HB3 := Lib.hid (belowThen HB2.out (Below.quiet hq))
                have HI3 := Lib.hid (HII.out.keep (Keeps.below (Below.quiet hq)))
                clear hq
                go_wp2
                refine bodyPost_ret (results_tmp2 rfl _ _ _) rfl ?_
                exact ⟨_, true, rfl, HB3.out, fun _ => ⟨_, HI3.out, HOK.out⟩, fun h => by cases h⟩
            | true =>
              replace hfu := hfu rfl
              obtain ⟨c0, hc0⟩ : ∃ c0, c0 = undC (lnx t) F0 := ⟨_, rfl⟩
              rw [← hc0] at hfu
              have HFU := Lib.hid hfu
              clear hfu
              have HST : Hid (∃ F, MEx w1 (lnx t) w1.heap.size F wr ∧ EInv t gens s images (lnx gens) F ∧ undC (lnx t) F ≤ c0) := ⟨F0, hst, hinv, by omega⟩
              clear hst hinv hcl hc0
              clear F0
              go_wp2
              go_loopg [14, 99] (lnx t) (fun kk c i wr => ∃ (F : Nat → Int) (ch : Bool) (x : Nat), c = .bool ch ∧ i = .int .i64 x ∧ x ≤ lnx t ∧ lnx t - x ≤ kk ∧ MEx w1 (lnx t) w1.heap.size F wr ∧ EInv t gens s images (lnx gens) F ∧ (undC (lnx t) F + (if ch = true then 1 else 0) ≤ c0) ∧ (ch = false → ∀ a b, a < x → b < lnx t → 0 ≤ F a → 0 ≤ F b → 0 ≤ F (tabOf t a b)))
              case atStart =>
                obtain ⟨F, h1, h2, h3⟩ := HST.out
                exact ⟨F, false, 0, rfl, rfl, by omega, by omega, h1, h2, by simpa using h3, fun _ a b ha => by omega⟩
              case round =>
                clear HST
                obtain ⟨F1, ch, x, rfl, rfl, hx, hkx, hst, hinv, hof, hcl⟩ := hrel
                by_cases hxn : x < lnx t
                · have HST := Lib.hid hst
                  have HINV := Lib.hid hinv
                  have HCL := Lib.hid hcl
                  have HOF := Lib.hid hof
                  clear hst hcl hinv hof
                  go_wp2
                  go_loopg [14, 104] (lnx t) (fun kk c i wr => ∃ (F : Nat → Int) (ch : Bool) (y : Nat), c = .bool ch ∧ i = .int .i64 y ∧ y ≤ lnx t ∧ lnx t - y ≤ kk ∧ MEx w1 (lnx t) w1.heap.size F wr ∧ EInv t gens s images (lnx gens) F ∧ (undC (lnx t) F + (if ch = true then 1 else 0) ≤ c0) ∧ (ch = false → (∀ a b, a < x → b < lnx t → 0 ≤ F a → 0 ≤ F b → 0 ≤ F (tabOf t a b)) ∧ ∀ b, b < y → 0 ≤ F x → 0 ≤ F b → 0 ≤ F (tabOf t x b)))
                  case atStart => exact ⟨F1, ch, 0, rfl, rfl, by omega, by omega, HST.out, HINV.out, HOF.out, fun h => ⟨HCL.out h, fun b hb => by omega⟩⟩
                  case round =>
                    clear HST HCL HOF HINV
                    clear F1 ch
                    obtain ⟨F, ch, y, rfl, rfl, hy, hky, hst, hinv, hof, hcl⟩ := hrel
                    by_cases hyn : y < lnx t
                    · have hTz := HHT.out x y hxn hyn
                      have hkp := Keeps.below (belowThen HB1.out hst.below)
                      have r1 := hkp _ _ (HHR.out x hxn)
                      have r2 := hkp _ _ (HHC.out x y hxn hyn)
                      have cx := hst.arr.cell hxn
                      have cy := hst.arr.cell hyn
                      have cz := hst.arr.cell hTz
                      have fz := hst.arr.frozen (tabOf t x y)
                      have hsz := hst.arr.lt
                      have HST := Lib.hid hst
                      have HCL := Lib.hid hcl
                      have HINV := Lib.hid hinv
                      clear hst hcl hinv
                      by_cases hall : 0 ≤ F x ∧ 0 ≤ F y ∧ F (tabOf t x y) < 0
                      · obtain ⟨px, py, pz⟩ := hall
                        obtain ⟨fx, hfx⟩ : ∃ fx : Nat, F x = fx := ⟨(F x).toNat, by omega⟩
                        obtain ⟨fy, hfy⟩ : ∃ fy : Nat, F y = fy := ⟨(F y).toNat, by omega⟩
                        have hfxm : fx < lnx s := by have := HINV.out.rng x hxn; omega
                        have hfym : fy < lnx s := by have := HINV.out.rng y hyn; omega
                        have r3 := hkp _ _ (HUR.out fx hfxm)
                        have r4 := hkp _ _ (HUC.out fx fy hfxm hfym)
                        have P1 := Lib.hid (HST.out.set_ (tabOf t x y) (tabOf s fx fy)).drew
                        have P2 := Lib.hid (HINV.out.mul HUT.out hxn hyn hfx hfy pz)
                        have hoff := undC_upd F pz (y := (tabOf s fx fy : Int)) (by omega) (lnx t) hTz
                        have HO : Hid (undC (lnx t) (upd F (tabOf t x y) (tabOf s fx fy)) + (if true = true then 1 else 0) ≤ c0) := by
                          show _ ≤ _
                          rw [if_pos rfl]
                          split at hof <;> omega
                        rw [hfx] at cx
                        rw [hfy] at cy
                        clear px py hoff hof HST HCL hkp hfx hfy HINV
                        go_wp2
                        go_region
                        go_wp2
                        go_roundg (lnx t - (y + 1))
                        case measure => omega
                        case rel => exact ⟨_, true, y + 1, rfl, by go_num, by omega, Nat.le_refl _, P1.out, P2.out, HO.out, fun h => by cases h⟩
                      · have HCL2 : Hid (ch = false → (∀ a b, a < x → b < lnx t → 0 ≤ F a → 0 ≤ F b → 0 ≤ F (tabOf t a b)) ∧ ∀ b, b < y + 1 → 0 ≤ F x → 0 ≤ F b → 0 ≤ F (tabOf t x b)) := fun h => ⟨(HCL.out h).1, fun c hc hpx hpc => by
                          by_cases e : c < y
                          · exact (HCL.out h).2 c e hpx hpc
                          · obtain rfl : c = y := by omega
                            by_cases e2 : F (tabOf t x c) < 0
                            · exact absurd ⟨hpx, hpc, e2⟩ hall
                            · omega⟩
                        have HO := Lib.hid hof
                        clear HCL hof hkp
                        by_cases px : 0 ≤ F x
                        · by_cases py : 0 ≤ F y
                          · have pz : ¬ F (tabOf t x y) < 0 := fun h => hall ⟨px, py, h⟩
                            clear hall
                            go_wp2
                            go_roundg (lnx t - (y + 1))
                            case measure => omega
                            case rel => exact ⟨_, ch, y + 1, rfl, by go_num, by omega, Nat.le_refl _, HST.out, HINV.out, HO.out, HCL2.out⟩
                          · clear hall
                            go_wp2
                            go_roundg (lnx t - (y + 1))
                            case measure => omega
                            case rel => exact ⟨_, ch, y + 1, rfl, by go_num, by omega, Nat.le_refl _, HST.out, HINV.out, HO.out, HCL2.out⟩
                        · clear hall
                          go_wp2
                          go_roundg (lnx t - (y + 1))
                          case measure => omega
                          case rel => exact ⟨_, ch, y + 1, rfl, by go_num, by omega, Nat.le_refl _, HST.out, HINV.out, HO.out, HCL2.out⟩
                    · have P1 : Hid (MEx w1 (lnx t) w1.heap.size F wr ∧ EInv t gens s images (lnx gens) F ∧ (undC (lnx t) F + (if ch = true then 1 else 0) ≤ c0) ∧ (ch = false → ∀ a b, a < x + 1 → b < lnx t → 0 ≤ F a → 0 ≤ F b → 0 ≤ F (tabOf t a b))) := ⟨hst, hinv, hof, fun h a c ha hc hpa hpc => by
                        by_cases e : a < x
                        · exact (hcl h).1 a c e hc hpa hpc
                        · obtain rfl : a = x := by omega
                          exact (hcl h).2 c (by omega) hpa hpc⟩
                      clear hst hof hcl hinv
                      go_wp2
                      go_roundg (lnx t - (x + 1))
                      case measure => omega
                      case rel => exact ⟨F, ch, x + 1, rfl, by go_num, by omega, Nat.le_refl _, P1.out⟩
                · have P1 : Hid (MEx w1 (lnx t) w1.heap.size F1 wr ∧ EInv t gens s images (lnx gens) F1 ∧ (ch = true → undC (lnx t) F1 + 1 ≤ c0) ∧ (ch = false → ∀ a b, a < lnx t → b < lnx t → 0 ≤ F1 a → 0 ≤ F1 b → 0 ≤ F1 (tabOf t a b))) := ⟨hst, hinv, fun h => by
                      subst h
                      simpa using hof, fun h a b ha hb => hcl h a b (by omega) hb⟩
                  clear hst hof hcl hinv
                  go_wp2
                  go_roundg c0
                  case measure => exact HFU.out
                  case rel => exact ⟨F1, ch, rfl, P1.out⟩
end Go.Proofs.Ytgghmjnbkbiffaa
