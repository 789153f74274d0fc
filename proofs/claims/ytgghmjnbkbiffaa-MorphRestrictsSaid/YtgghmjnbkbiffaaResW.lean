/-
  The walk of the law MorphRestricts.
-/
import Derived.Test.YtgghmjnbkbiffaaClos
import Derived.Test.YtgghmjnbkbiffaaRenM
import Derived.Test.YtgghmjnbkbiffaaExtL
namespace Go.Proofs.Ytgghmjnbkbiffaa
open Go.RowKit
set_option linter.unusedVariables false

theorem Made.toGen {n : Nat} {T : Nat → Nat → Nat} {gens : List Nat} (hg : ∀ g, g ∈ gens → g < n) {x : Nat} (h : Made T gens x) : Gen n T (natsOf gens) x := by
  refine h (Gen n T (natsOf gens)) (fun g hgm => ?_) (fun x y => Gen.mul)
  obtain ⟨i, hi, rfl⟩ := mem_nthx hgm
  exact .base i (by rw [lnx_natsOf]; exact hi) (nthx_natsOf _ hi) (hg _ hgm)
/-- The values of f at the generators. -/
def valsN (f : List Int) (gens : List Nat) (k : Nat) : List Nat := (List.range k).map fun i => nat_ f (nthx gens i)
theorem lnx_valsN (f : List Int) (gens : List Nat) (k : Nat) : lnx (valsN f gens k) = k := by simp [valsN, lnx]
theorem nthx_valsN (f : List Int) (gens : List Nat) {k i : Nat} (h : i < k) : nthx (valsN f gens k) i = nat_ f (nthx gens i) := by simp [valsN, nthx, h]
theorem valsN_succ (f : List Int) (gens : List Nat) (k : Nat) : valsN f gens (k + 1) = valsN f gens k ++ [nat_ f (nthx gens k)] := by simp [valsN, List.range_succ]
theorem restr_ok {t s : List (List Int)} {f : List Int} {gens : List Nat} (h : isHomB t s f = true) (hg : ∀ g, g ∈ gens → g < lnx t) (hm : ∀ x, x < lnx t → Made (tabOf t) gens x) : ExtOK t (natsOf gens) s (natsOf (valsN f gens (lnx gens))) f := by
  unfold isHomB at h
  simp only [Bool.and_eq_true, beq_iff_eq] at h
  obtain ⟨⟨v1, v2⟩, hh⟩ := h
  obtain ⟨f1, f2, f3⟩ := homL_inv hh
  refine ⟨v1, v2, by rw [lnx_natsOf, lnx_natsOf, lnx_valsN], inB_t (fun i hi => ?_), inB_t (fun i hi => ?_), fun x hx => (hm x hx).toGen hg, hh, fun i hi => ?_⟩
  · rw [lnx_natsOf] at hi
    rw [nthx_natsOf _ hi]
    have := hg _ (nthx_mem hi)
    omega
  · rw [lnx_natsOf] at hi
    rw [nthx_natsOf _ hi]
    rw [lnx_valsN] at hi
    rw [nthx_valsN f gens hi]
    have := (nat_cast f2 (i := nthx gens i) (by rw [f1]; exact hg _ (nthx_mem hi))).2
    omega
  · rw [lnx_natsOf] at hi
    rw [nat_natsOf _ hi, nat_natsOf _ (by rw [lnx_valsN]; exact hi), nthx_valsN f gens hi]

set_option maxRecDepth 100000 in
set_option maxHeartbeats 2000000 in
theorem restricts_walk (w : World) (vt vu vf : Value) (t s : List (List Int)) (f : List Int) (ht : Rows2 w vt t) (hs : Rows2 w vu s) (hf : Ints w vf f) :
    Calls Try.prog 14 #[vt, vu, vf] w fun e w' => e = .returned (.bool true) ∧ Below w.heap.size w w' := by
  have HT := Lib.hid ht
  have HS := Lib.hid hs
  have HF := Lib.hid hf
  have L1 := Lib.hid (small_any w vt t ht 12 (by omega))
  have L2 := Lib.hid (fun q => small_any (w.drewN q) vu s (hs.keep (Keeps.drewN w q)) 16 (by omega))
  obtain ⟨a, cap, rfl, h1, h2, -⟩ := ht
  obtain ⟨a', cap', rfl, h1', h2', -⟩ := hs
  obtain ⟨fa, fc, rfl, hf1, hf2, hf3⟩ := hf
  have HF3 := Lib.hid hf3
  clear hf3
  cases hs1 : smallB t 12 with
  | false =>
    rw [hs1] at L1
    clear hs1
    go_enter Try.func14, Try.ntmps14
    go_wp2_with fail
    refine L1.out.mono ?_
    rintro e w1 ⟨rfl, hq⟩
    have HQ := Lib.hid hq
    have HA := Lib.hid (awake_any w1)
    clear hq
    go_wp2_with fail
    refine HA.out.mono ?_
    rintro e w2 ⟨rfl, hb⟩
    have HB := Lib.hid (belowThen (Below.quiet HQ.out) hb)
    clear hb
    go_wp2
    go_ret
    exact ⟨rfl, HB.out⟩
  | true =>
  rw [hs1] at L1
  cases hs2 : smallB s 16 with
  | false =>
    rw [hs2] at L2
    clear hs1 hs2
    go_enter Try.func14, Try.ntmps14
    go_wp2_with fail
    refine L1.out.mono ?_
    rintro e w1 ⟨rfl, q, rfl⟩
    go_wp2_with fail
    refine (L2.out q).mono ?_
    rintro e w1 ⟨rfl, q2, rfl⟩
    have HA := Lib.hid (awake_any (w.drewN (q + q2)))
    go_wp2_with fail
    refine HA.out.mono ?_
    rintro e w2 ⟨rfl, hb⟩
    have HB := Lib.hid (belowThen (Below.quiet ⟨q + q2, rfl⟩) hb)
    clear hb
    go_wp2
    go_ret
    exact ⟨rfl, HB.out⟩
  | true =>
  rw [hs2] at L2
  obtain ⟨l4, ev1⟩ := small_inv hs1
  obtain ⟨l4', ev2⟩ := small_inv hs2
  have HI1 := (fun W (hb : Below w.heap.size w W) => isHomProg_any W _ _ _ t s f (HT.out.keep (Keeps.below hb)) (HS.out.keep (Keeps.below hb)) (HF.out.keep (Keeps.below hb)))
  cases hom : isHomB t s f with
  | false =>
    rw [hom] at HI1
    replace HI1 := Lib.hid HI1
    clear hs1 hs2 ev1 ev2 hom
    go_enter Try.func14, Try.ntmps14
    go_wp2_with fail
    refine L1.out.mono ?_
    rintro e w1 ⟨rfl, q, rfl⟩
    go_wp2_with fail
    refine (L2.out q).mono ?_
    rintro e w1 ⟨rfl, q2, rfl⟩
    have HB0 := Lib.hid (Below.quiet (quiet2 w q q2))
    rw [drew_add] at HB0 ⊢
    go_wp2_with fail
    refine (HI1.out _ HB0.out).mono ?_
    rintro e w2 ⟨rfl, hb⟩
    have HB := Lib.hid (belowThen HB0.out hb)
    have HA := Lib.hid (awake_any w2)
    clear hb
    go_wp2_with fail
    refine HA.out.mono ?_
    rintro e w3 ⟨rfl, hb⟩
    have HB2 := Lib.hid (belowThen HB.out hb)
    clear hb
    go_wp2
    go_ret
    exact ⟨rfl, HB2.out⟩
  | true =>
  rw [hom] at HI1
  replace HI1 := Lib.hid HI1
  have hlf : lnx f = lnx t := by
    unfold isHomB at hom
    simp only [Bool.and_eq_true, beq_iff_eq] at hom
    exact (homL_inv hom.2).1
  have hinf : inB (lnx s) f = true := by
    unfold isHomB at hom
    simp only [Bool.and_eq_true, beq_iff_eq] at hom
    exact (homL_inv hom.2).2.1
  have g1 : ((lnx f : Int) != (lnx t : Int)) = false := bne_f (by rw [hlf])
  have HG := Lib.hid (fun W (hb : Below w.heap.size w W) => generators_any W _ t (HT.out.keep (Keeps.below hb)) ev1)
  have HOM := Lib.hid hom
  have HLF := Lib.hid hlf
  have HINF := Lib.hid hinf
  clear hs1 hs2 ev1 ev2 hom hlf hinf
  go_enter Try.func14, Try.ntmps14
  go_wp2_with fail
  refine L1.out.mono ?_
  rintro e w1 ⟨rfl, q, rfl⟩
  go_wp2_with fail
  refine (L2.out q).mono ?_
  rintro e w1 ⟨rfl, q2, rfl⟩
  have HB0 := Lib.hid (Below.quiet (quiet2 w q q2))
  rw [drew_add] at HB0 ⊢
  go_wp2_with fail
  refine (HI1.out _ HB0.out).mono ?_
  rintro e w2 ⟨rfl, hb⟩
  have HB := Lib.hid (belowThen HB0.out hb)
  clear hb L1 L2 HI1 HB0
  go_wp2_with fail
  refine (HG.out _ HB.out).mono ?_
  rintro e w3 ⟨vg, gens, rfl, hvg, hb, hgl, hgn, hgm⟩
  have HB3 := Lib.hid (belowThen HB.out hb)
  have HOK := Lib.hid (restr_ok HOM.out hgl hgm)
  have HVG := Lib.hid hvg
  have HGL := Lib.hid hgl
  obtain ⟨ga, gc, rfl, hg1, hg2, hg3⟩ := hvg
  rw [lnx_natsOf] at *
  have HG3 := Lib.hid hg3
  clear hb hgl hgm hg3 HG HB HOM
  go_wp2
  go_loopw [8, 40] (fun v i wr => ∃ k : Nat, k ≤ lnx gens ∧ i = .int .i64 k ∧ Below w3.heap.size w3 wr ∧ OwnN wr w3.heap.size v (valsN f gens k)) (fun _ i _ => lnx gens - (intOf i).toNat)
  case atStart => exact ⟨0, by omega, rfl, Below.refl _ _, OwnN.nil _ _⟩
  case round =>
    obtain ⟨k, hk, rfl, hb, ho⟩ := hrel
    have hsz := hb.size
    by_cases hlt : k < lnx gens
    · obtain ⟨gb, gof, rfl, hgc⟩ := HG3.out (by omega)
      have hkp := Keeps.below hb
      have d1 := hkp _ _ (hgc k hlt)
      rw [nthx_natsOf _ hlt] at d1
      obtain ⟨x, hx⟩ : ∃ x, x = nthx gens k := ⟨_, rfl⟩
      have hxt : x < lnx t := by rw [hx]; exact HGL.out _ (nthx_mem hlt)
      rw [← hx] at d1
      obtain ⟨fb, fo, rfl, hfc⟩ := HF3.out (by rw [HLF.out]; omega)
      have d2 := hkp _ _ ((Keeps.below HB3.out) _ _ (hfc x (by rw [HLF.out]; exact hxt)))
      have hnx := nat_cast HINF.out (i := x) (by rw [HLF.out]; exact hxt)
      rw [← hnx.1] at d2
      have hin := inRef_any (wr.alloc (.cells #[.int .i64 x] 3)) a cap (lnx t) (by omega) (.slice (some ⟨wr.heap.size, 0, none⟩) 1 1) [(x : Int)] ⟨_, 1, rfl, by simp [lnx], by omega, fun _ => ⟨_, 0, rfl, fun i hi => by
        have : i = 0 := by simp [lnx] at hi; omega
        subst this
        exact World.cell?_alloc_new wr #[.int .i64 (x : Int)] 3 0⟩⟩
      rw [show inB (lnx t) [(x : Int)] = true from inB_t (fun i hi => by
        have : i = 0 := by simp [lnx] at hi; omega
        subst this
        simp [nthx]; omega)] at hin
      have HIN := Lib.hid hin
      have hfx : x < lnx f := by rw [HLF.out]; exact hxt
      have d3 := (Keeps.alloc wr (.cells #[.int .i64 x] 3)) _ _ d2
      have HCS := Lib.hid (valsN_succ f gens k)
      rw [← hx] at HCS
      have HLC := Lib.hid (lnx_valsN f gens k)
      have HBB := Lib.hid hb
      obtain ⟨W, hW⟩ : ∃ W, W = wr.alloc (.cells #[.int .i64 x] 3) := ⟨_, rfl⟩
      have hoW : OwnN W w3.heap.size u8 (valsN f gens k) := by rw [hW]; exact ho.alloc _
      have HBW : Hid (Below wr.heap.size wr W) := by rw [hW]; exact (Below.refl _ _).alloc (Nat.le_refl _) _
      rw [← hW] at d3 HIN
      have e4 := hoW.alloc (.cells #[.int .i64 (nat_ f x)] 3)
      have e2 := World.cell?_alloc_new W #[.int .i64 ((nat_ f x : Nat) : Int)] 3 0
      have HO := Lib.hid hoW
      obtain ⟨va, vcp, rfl, -, -, -⟩ := ho.shape
      have hW' := hW.symm
      clear hkp hnx hb ho hgc hfc hx hin hoW hW d2
      go_wp2_with fail
      refine HIN.out.mono ?_
      rintro e w4 ⟨rfl, rfl⟩
      have hszW := HBW.out.size
      go_wp2_with (at_builtin; refine wpList_push _ rfl _ _ 31 rfl w3.heap.size 3 (.int .i64 0) 8 Try.underlying31 Try.infoInt rfl _ _ _ rfl W.heap.size (.int .i64 ((nat_ f x : Nat) : Int)) rfl e4 e2 rfl ?_ ?_ ?_ ?_)
      · rw [HLC.out]; simp only [maxLen]; omega
      · rw [HLC.out]; omega
      · simp only [World.size_alloc]; omega
      intro r2 c2 w8 hap
      have ho2 : Only (fun k => w3.heap.size ≤ k) W w8 := Only.grown ((Only.refl _ W).alloc _) hap.grown (fun k hk e => (HO.out.lt e).1)
      have P1 : Hid (Below w3.heap.size w3 w8 ∧ OwnN w8 w3.heap.size (.slice (some ⟨r2, 0, none⟩) (lnx (valsN f gens k) + 1) c2) (valsN f gens (k + 1))) :=
        ⟨(belowThen HBB.out HBW.out).trans (ho2.below (by omega) (by omega)), by rw [HCS.out]; exact OwnN.push hap.own⟩
      clear hap ho2 HBB HO HCS HLC e4 e2 HIN hW' d3 HBW
      go_wp2
      go_roundw
      case rel => exact ⟨k + 1, by omega, by go_num, P1.out⟩
      case measure => simp [intOf]; omega
    · obtain rfl : k = lnx gens := by omega
      have hkp := Keeps.below hb
      have HB4 := Lib.hid (belowThen HB3.out hb)
      have hkw := Keeps.below HB4.out
      have H1 := Lib.hid (morphExtend_any wr _ _ _ _ t (natsOf gens) s (natsOf (valsN f gens (lnx gens))) (HT.out.keep hkw) (HVG.out.keep hkp) (HS.out.keep hkw) ho.ints)
      obtain ⟨va, vcp, rfl, -, -, -⟩ := ho.shape
      clear hb ho hkp hkw
      go_wp2_with fail
      refine H1.out.mono ?_
      rintro e w5 ⟨v5, ok, rfl, hb5, hyes, hno⟩
      obtain rfl : ok = true := by
        cases ok with
        | true => rfl
        | false => exact absurd HOK.out ((hno rfl).2 f)
      obtain ⟨f5, hf5, hok5⟩ := hyes rfl
      have e5 := hok5.unique HOK.out
      subst e5
      have HB5 := Lib.hid (belowThen HB4.out hb5)
      have H3 := same_any w5 v5 _ f5 f5 hf5 (HF.out.keep (Keeps.below HB5.out))
      rw [sameB_t rfl] at H3
      replace H3 := Lib.hid H3
      clear hyes hno hf5 hok5 hb5 H1
      go_wp2_with fail
      refine H3.out.mono ?_
      rintro e w6 ⟨rfl, hq⟩
      have HB6 := Lib.hid (belowThen HB5.out (Below.quiet hq))
      have HA := Lib.hid (awake_any w6)
      clear hq
      go_wp2_with fail
      refine HA.out.mono ?_
      rintro e w7 ⟨rfl, hb⟩
      have HB7 := Lib.hid (belowThen HB6.out hb)
      clear hb
      go_wp2
      go_ret
      exact ⟨rfl, HB7.out⟩
end Go.Proofs.Ytgghmjnbkbiffaa
