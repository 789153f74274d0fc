/-
  Walks: partition.Valid, Count, congr.IsCongruence, Quotient, where the partition is a congruence.
-/
import Derived.Test.YtgghmjnbkbiffaaFacM
import Derived.Test.YtgghmjnbkbiffaaGrid
namespace Go.Proofs.Ytgghmjnbkbiffaa
open Go.RowKit
set_option linter.unusedVariables false

set_option maxRecDepth 100000 in
set_option maxHeartbeats 1000000 in
theorem partValid_ok (w : World) (v : Value) (p : List Int) (hv : Ints w v p) (hp : PartOK p) (hl : lnx p ≤ 4096) :
    Calls Try.prog 88 #[v] w fun e w' => e = .returned (.bool true) ∧ w = w' := by
  obtain ⟨a, cap, rfl, hcap, hmx, hv⟩ := hv
  have HV := Lib.hid hv
  have HP := Lib.hid hp
  clear hv hp
  go_enter Try.func88, Try.ntmps88
  go_wp2
  go_loopw [3, 11] (fun c i wr => ∃ k : Nat, k ≤ lnx p ∧ i = .int .i64 k ∧ c = .int .i64 (cntV p k) ∧ wr = w) (fun _ i _ => lnx p - (intOf i).toNat)
  case atStart => exact ⟨0, by omega, rfl, rfl, rfl⟩
  case round =>
    obtain ⟨k, hk, rfl, rfl, rfl⟩ := hrel
    have hcl := cntV_le p k
    by_cases hlt : k < lnx p
    · obtain ⟨pb, po, rfl, hc⟩ := HV.out (by omega)
      have c1 := hc k hlt
      obtain ⟨h1, h2⟩ := HP.out k hlt
      have HS := Lib.hid (cntV_succ p k)
      clear hc
      by_cases e : nthx p k = (cntV p k : Int)
      · have g1 : (nthx p k == (cntV p k : Int)) = true := beq_t e
        have HS2 : Hid ((cntV p (k + 1) : Int) = (cntV p k : Int) + 1) := by show _ = _; rw [HS.out, if_pos e]; omega
        clear HS e
        go_wp2
        go_roundw
        case rel => exact ⟨k + 1, by omega, by go_num, by rw [HS2.out], by first | rfl | trivial⟩
        case measure => simp [intOf]; omega
      · have g1 : (nthx p k == (cntV p k : Int)) = false := beq_f e
        have HS2 : Hid (cntV p (k + 1) = cntV p k) := by show _ = _; rw [HS.out, if_neg e]
        clear HS e
        go_wp2
        go_roundw
        case rel => exact ⟨k + 1, by omega, by go_num, by rw [HS2.out], by first | rfl | trivial⟩
        case measure => simp [intOf]; omega
    · go_wp2
      go_ret
      exact ⟨rfl, rfl⟩

set_option maxRecDepth 100000 in
set_option maxHeartbeats 1000000 in
theorem partCount_ok (w : World) (v : Value) (p : List Int) (hv : Ints w v p) (hp : PartOK p) (hl : lnx p ≤ 4096) :
    Calls Try.prog 87 #[v] w fun e w' => e = .returned (.int .i64 (cntV p (lnx p))) ∧ w = w' := by
  have H1 := Lib.hid (partValid_ok w v p hv hp hl)
  obtain ⟨a, cap, rfl, hcap, hmx, hv⟩ := hv
  have HV := Lib.hid hv
  have HP := Lib.hid hp
  clear hv hp
  go_enter Try.func87, Try.ntmps87
  go_wp2_with fail
  refine H1.out.mono ?_
  rintro e w1 ⟨rfl, rfl⟩
  clear H1
  go_wp2
  go_loopw [3, 11] (fun c i wr => ∃ k : Nat, k ≤ lnx p ∧ i = .int .i64 k ∧ c = .int .i64 (cntV p k) ∧ wr = w) (fun _ i _ => lnx p - (intOf i).toNat)
  case atStart => exact ⟨0, by omega, rfl, rfl, rfl⟩
  case round =>
    obtain ⟨k, hk, rfl, rfl, rfl⟩ := hrel
    have hcl := cntV_le p k
    by_cases hlt : k < lnx p
    · obtain ⟨pb, po, rfl, hc⟩ := HV.out (by omega)
      have c1 := hc k hlt
      obtain ⟨h1, h2⟩ := HP.out k hlt
      have HS2 : Hid ((cntV p (k + 1) : Int) = max (cntV p k : Int) (nthx p k + 1)) := by
        show _ = _
        rw [cntV_succ]
        split <;> omega
      clear hc
      go_wp2
      go_roundw
      case rel => exact ⟨k + 1, by omega, by go_num, by rw [HS2.out]; first | rfl | (congr 1; omega) | simp [max_def], by first | rfl | trivial⟩
      case measure => simp [intOf]; omega
    · obtain rfl : k = lnx p := by omega
      go_wp2
      go_ret
      exact ⟨rfl, rfl⟩

/-- The least points of the classes, as far as the loop is. -/
structure FirstIn (w0 w : World) (v : Value) (p : List Int) (k : Nat) (fs : List Nat) : Prop where
  own : OwnN w w0.heap.size v fs
  len : lnx fs = cntV p k
  at_ : ∀ c, c < lnx fs → nthx fs c < lnx p ∧ nthx p (nthx fs c) = (c : Int)
  below : Below w0.heap.size w0 w

set_option maxRecDepth 100000 in
set_option maxHeartbeats 1000000 in
theorem isCong_ok (w : World) (vt vp : Value) (t : List (List Int)) (p : List Int) (ht : Rows2 w vt t) (hv : Ints w vp p) (ev : vErr t = 0) (hl : lnx p = lnx t) (hp : PartOK p) (hc : CongP t p) :
    Calls Try.prog 55 #[vt, vp, .int .i64 0] w fun e w' => e = .returned (.bool true) ∧ Below w.heap.size w w' := by
  have htab := Tab.of_rows ht (vErr_inv ev).1
  have H1 := validate_any w vt t ht
  rw [ev] at H1
  replace H1 := Lib.hid H1
  obtain ⟨b, o, cap, rb, ro, rc, rfl, h0, h4, hR, hC, hT⟩ := htab
  have H0 := Lib.hid (partValid_ok w vp p hv hp (by omega))
  obtain ⟨a, pcap, rfl, hcap, hmx, hv⟩ := hv
  have HL := Lib.hid hl
  rw [hl] at hcap hv H0 ⊢
  obtain ⟨pb, po, rfl, hPC⟩ := hv h0
  have HR := Lib.hid hR
  have HC := Lib.hid hC
  have HT := Lib.hid hT
  have HPC := Lib.hid hPC
  have HP := Lib.hid hp
  have HCG := Lib.hid hc
  clear hR hC hT hPC hp hc hl ev ht hv
  have g1 : ((lnx t : Int) != (lnx t : Int)) = false := bne_f rfl
  go_enter Try.func55, Try.ntmps55
  go_wp2_with fail
  refine H0.out.mono ?_
  rintro e w1 ⟨rfl, rfl⟩
  clear H0
  go_wp2_with fail
  refine H1.out.mono ?_
  rintro e w1 ⟨rfl, hb⟩
  have HB1 := Lib.hid hb
  clear hb H1
  go_wp2
  go_loopw [7, 37] (fun v i wr => ∃ (k : Nat) (fs : List Nat), k ≤ lnx t ∧ i = .int .i64 k ∧ FirstIn w1 wr v p k fs) (fun _ i _ => lnx t - (intOf i).toNat)
  case atStart => exact ⟨0, [], by omega, rfl, OwnN.nil _ _, rfl, fun c hc => by simp [lnx] at hc, Below.refl _ _⟩
  case round =>
    obtain ⟨k, fs, hk, rfl, hst⟩ := hrel
    have hsz := hst.below.size
    by_cases hlt : k < lnx t
    · have hkp := Keeps.below (belowThen HB1.out hst.below)
      have c1 := hkp _ _ (HPC.out k hlt)
      obtain ⟨q1, q2⟩ := HP.out.lt (k := k) (by rw [HL.out]; exact hlt)
      have q3 := HP.out k (by rw [HL.out]; exact hlt)
      have q4 := cntV_le p k
      obtain ⟨c, hc⟩ : ∃ c, c = nat_ p k := ⟨_, rfl⟩
      rw [← hc] at q1 q2
      rw [← q2] at c1 q3
      have hlen := hst.len
      obtain ⟨va, vc, rfl, hv1, hv2, hv3⟩ := hst.own.shape
      have HST := Lib.hid hst
      have HV3 := Lib.hid hv3
      have HLEN := Lib.hid hlen
      have hfl : lnx fs ≤ k := by omega
      have HS := Lib.hid (cntV_succ p k)
      have HCE := Lib.hid hc
      have HQ2 := Lib.hid q2
      clear hst hv3 hlen hc q2
      go_upto_if 45 with (fail)
      go_cut [7] (fun v wx => ∃ fs2, FirstIn w1 wx v p (k + 1) fs2)
      case first =>
        by_cases e : c = lnx fs
        · have g2 : ((c : Int) == (lnx fs : Int)) = true := beq_t (by omega)
          have e4 := HST.out.own.alloc (.cells #[.int .i64 k] 3)
          have e2 := World.cell?_alloc_new wr #[.int .i64 (k : Int)] 3 0
          have HE := Lib.hid e
          clear e
          go_wp2_with (at_builtin; refine wpList_push _ rfl _ _ 31 rfl w1.heap.size 3 (.int .i64 0) 8 Try.underlying31 Try.infoInt rfl _ _ _ rfl wr.heap.size (.int .i64 k) rfl e4 e2 rfl ?_ ?_ ?_ ?_)
          · simp only [maxLen]; omega
          · omega
          · simp only [World.size_alloc]; omega
          intro r2 c2 w2 hap
          have ho2 : Only (fun k => w1.heap.size ≤ k) wr w2 := Only.grown ((Only.refl _ wr).alloc _) hap.grown (fun k hk e => (HST.out.own.lt e).1)
          have P1 : Hid (FirstIn w1 w2 (.slice (some ⟨r2, 0, none⟩) (lnx fs + 1) c2) p (k + 1) (fs ++ [k])) := by
            have hce := HCE.out
            have hq := HQ2.out
            have hln := HLEN.out
            have he := HE.out
            refine ⟨OwnN.push hap.own, ?_, fun d hd => ?_, HST.out.below.trans (ho2.below (by omega) (by omega))⟩
            · rw [lnx_append, lnx_one, HS.out, if_pos (by omega), hln]
            · rw [lnx_append, lnx_one] at hd
              by_cases e3 : d = lnx fs
              · subst e3
                rw [nthx_append_new]
                exact ⟨by rw [HL.out]; exact hlt, by omega⟩
              · rw [nthx_append_lt _ _ (by omega)]
                exact HST.out.at_ d (by omega)
          clear hap ho2 HST HS e4 e2 HV3 HLEN HCE HQ2 HE
          go_wp2
          go_meet
          exact ⟨_, P1.out⟩
        · have g2 : ((c : Int) == (lnx fs : Int)) = false := beq_f (by omega)
          have P1 : Hid (FirstIn w1 wr (.slice va (lnx fs) vc) p (k + 1) fs) := by
            have hce := HCE.out
            have hq := HQ2.out
            have hln := HLEN.out
            exact ⟨HST.out.own, by rw [HS.out, if_neg (by omega)]; exact hln, HST.out.at_, HST.out.below⟩
          clear HST HS HV3 HLEN HCE HQ2 e
          go_wp2
          go_meet
          exact ⟨_, P1.out⟩
      case rest =>
        clear HST HV3 HLEN HS hfl hkp
        obtain ⟨fs2, hst⟩ := hcut
        have hcl : c < lnx fs2 := by rw [hst.len]; exact q1
        obtain ⟨hy1, hy2⟩ := hst.at_ c hcl
        obtain ⟨y, hy⟩ : ∃ y, y = nthx fs2 c := ⟨_, rfl⟩
        rw [← hy] at hy1 hy2
        rw [HL.out] at hy1
        have hxy : nthx p k = nthx p y := by rw [hy2, ← HQ2.out]
        obtain ⟨va2, vc2, rfl, hw1, hw2, hw3⟩ := hst.own.shape
        obtain ⟨g, rfl, hgb, hgc⟩ := hw3 (by omega)
        have c2 := hgc c hcl
        rw [← hy] at c2
        have HST := Lib.hid hst
        have HXY := Lib.hid hxy
        clear hst hw3 hgc hy hy2 hxy HCE HQ2
        go_wp2
        go_loopw [56] (fun i wz => ∃ (z q : Nat), z ≤ lnx t ∧ i = .int .i64 z ∧ wz = wc.drewN q) (fun i _ => lnx t - (intOf i).toNat)
        case atStart => exact ⟨0, 0, by omega, rfl, rfl⟩
        case round =>
          obtain ⟨z, q, hz, rfl, rfl⟩ := hrel
          by_cases hzt : z < lnx t
          · have hkp := Keeps.below (belowThen HB1.out HST.out.below)
            obtain ⟨e1, e2⟩ := HCG.out k y z hlt hy1 hzt HXY.out
            have d1 := hkp _ _ (HR.out z hzt)
            have d2 := hkp _ _ (HC.out z k hzt hlt)
            have d3 := hkp _ _ (HC.out z y hzt hy1)
            have d4 := hkp _ _ (HR.out k hlt)
            have d5 := hkp _ _ (HC.out k z hlt hzt)
            have d6 := hkp _ _ (HR.out y hy1)
            have d7 := hkp _ _ (HC.out y z hy1 hzt)
            have t1 := HT.out z k hzt hlt
            have t2 := HT.out z y hzt hy1
            have t3 := HT.out k z hlt hzt
            have t4 := HT.out y z hy1 hzt
            have d8 := hkp _ _ (HPC.out _ t1)
            have d9 := hkp _ _ (HPC.out _ t2)
            have d10 := hkp _ _ (HPC.out _ t3)
            have d11 := hkp _ _ (HPC.out _ t4)
            rw [e1] at d8
            rw [e2] at d10
            have g3 : (nthx p (tabOf t z y) != nthx p (tabOf t z y)) = false := bne_f rfl
            have g4 : (nthx p (tabOf t y z) != nthx p (tabOf t y z)) = false := bne_f rfl
            clear hkp e1 e2 c1 c2
            go_wp2
            go_quiet (fail)
            go_wp2
            go_roundw
            case rel => exact ⟨z + 1, _, by omega, by go_num, rfl⟩
            case measure => simp [intOf]; omega
          · have P1 : Hid (FirstIn w1 (wc.drewN q) (.slice (some ⟨g, 0, none⟩) (lnx fs2) vc2) p (k + 1) fs2) := ⟨HST.out.own, HST.out.len, HST.out.at_, Below.drewN' HST.out.below q⟩
            clear HST c1 c2
            go_wp2
            go_roundw
            case rel => exact ⟨k + 1, fs2, by omega, by go_num, P1.out⟩
            case measure => simp [intOf]; omega
    · have P1 := Lib.hid (belowThen HB1.out hst.below)
      clear hst
      go_wp2
      go_ret
      exact ⟨rfl, P1.out⟩
end Go.Proofs.Ytgghmjnbkbiffaa
