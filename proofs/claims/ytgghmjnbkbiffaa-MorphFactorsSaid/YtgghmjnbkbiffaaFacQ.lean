/-
  Walk: congr.Quotient, where the partition is a congruence.
-/
import Derived.Test.YtgghmjnbkbiffaaFacV
namespace Go.Proofs.Ytgghmjnbkbiffaa
open Go.RowKit
set_option linter.unusedVariables false

/-- The quotient in the making: the first k rows are there. -/
structure QuSt (w1 wr : World) (m k : Nat) (rb : Nat → Nat) (G : Nat → Nat → Int) : Prop where
  top : Arr 31 wr w1.heap.size m (fun r => if r < k then .slice (some ⟨rb r, 0, none⟩) m m else .slice none 0 0)
  row : ∀ r, r < k → RowAt wr (rb r) m (G r) ∧ w1.heap.size < rb r
  inj : ∀ r s, r < k → s < k → rb r = rb s → r = s
  below : Below w1.heap.size w1 wr
section
variable {w1 wr : World} {m k : Nat} {rb : Nat → Nat} {G : Nat → Nat → Int}
theorem QuSt.new (h : QuSt w1 wr m k rb G) : QuSt w1 ((wr.alloc (.cells (zeros (.int .i64 0) m) 3)).setCell ⟨w1.heap.size, k, none⟩ (.slice (some ⟨wr.heap.size, 0, none⟩) m m)) m (k + 1) (fun r => if r = k then wr.heap.size else rb r) (fun r => if r = k then fun _ => 0 else G r) := by
  have hlt := h.top.lt
  refine ⟨((h.top.alloc _).set_ k _).congr (fun i hi => ?_), fun r hr => ?_, fun r s hr hs e => ?_, Below.setCell (h.below.alloc h.below.size _) (p := ⟨w1.heap.size, k, none⟩) (Nat.le_refl _) _⟩
  · by_cases e : i = k
    · subst e; simp
    · simp only [if_neg e]
      by_cases h2 : i < k
      · rw [if_pos h2, if_pos (by omega)]
      · rw [if_neg h2, if_neg (by omega)]
  · by_cases e : r = k
    · simp only [if_pos e]
      exact ⟨RowAt.far (RowAt.of_arr (Arr.zeros _ _ _ _)) (p := ⟨w1.heap.size, k, none⟩) (by show wr.heap.size ≠ w1.heap.size; omega) _, hlt⟩
    · simp only [if_neg e]
      obtain ⟨a1, a2⟩ := h.row r (by omega)
      refine ⟨RowAt.far (a1.same (Below.heap_alloc wr _ _ a1.lt)) (p := ⟨w1.heap.size, k, none⟩) (by show rb r ≠ w1.heap.size; omega) _, a2⟩
  · by_cases e1 : r = k
    · by_cases e2 : s = k
      · omega
      · simp only [if_pos e1, if_neg e2] at e
        have := (h.row s (by omega)).1.lt
        omega
    · by_cases e2 : s = k
      · simp only [if_neg e1, if_pos e2] at e
        have := (h.row r (by omega)).1.lt
        omega
      · simp only [if_neg e1, if_neg e2] at e
        exact h.inj r s (by omega) (by omega) e
theorem QuSt.write (h : QuSt w1 wr m k rb G) {r : Nat} (hr : r < k) (d : Nat) (u : Int) : QuSt w1 ((wr.setCell ⟨rb r, d, none⟩ (.int .i64 u)).drew) m k rb (fun a b => if a = r ∧ b = d then u else G a b) := by
  have h1 := (h.row r hr).2
  refine ⟨h.top.far (p := ⟨rb r, d, none⟩) (by show w1.heap.size ≠ rb r; omega) _, fun s hs => ⟨?_, (h.row s hs).2⟩, h.inj, (h.below.setCell (p := ⟨rb r, d, none⟩) (by show w1.heap.size ≤ rb r; omega) _).drew⟩
  by_cases e : s = r
  · subst e
    refine ((h.row s hs).1.set_ d u).congr (fun i hi => ?_)
    unfold upd
    by_cases e2 : i = d <;> simp [e2]
  · refine ((h.row s hs).1.far (p := ⟨rb r, d, none⟩) (fun e2 => e (h.inj s r hs hr e2)) _).congr (fun i hi => ?_)
    simp [e]
theorem QuSt.rows (h : QuSt w1 wr m m rb G) (hm : m ≤ 9223372036854775807) : Rows2 wr (.slice (some ⟨w1.heap.size, 0, none⟩) m m) (rowsG m m G) := by
  refine ⟨_, m, by rw [lnx_rowsG], by rw [lnx_rowsG]; exact Nat.le_refl _, hm, fun _ => ⟨w1.heap.size, 0, rfl, fun i hi => ?_⟩⟩
  rw [lnx_rowsG] at hi
  rw [nthx_rowsG _ _ hi, Nat.zero_add]
  have c := h.top.cell hi
  rw [if_pos hi] at c
  exact ⟨_, c, (h.row i hi).1.ints (Nat.le_refl _) hm⟩
end
theorem rowsG_congr {n m : Nat} {G G' : Nat → Nat → Int} (h : ∀ a b, a < n → b < m → G a b = G' a b) : rowsG n m G = rowsG n m G' := by
  unfold rowsG
  refine List.map_congr_left (fun r hr => ?_)
  unfold listF
  exact List.map_congr_left (fun c hc => h r c (List.mem_range.1 hr) (List.mem_range.1 hc))

/-- The values of the quotient. -/
noncomputable def quoV (t : List (List Int)) (p : List Int) (r d : Nat) : Int := nthx p (tabOf t (rep p r) (rep p d))
theorem quoV_at {t : List (List Int)} {p : List Int} (hp : PartOK p) (hl : lnx p = lnx t) (hc : CongP t p) (hT : ∀ r c, r < lnx t → c < lnx t → tabOf t r c < lnx t) {x y : Nat} (hx : x < lnx t) (hy : y < lnx t) : nthx p (tabOf t x y) = quoV t p (nat_ p x) (nat_ p y) := by
  have h1 := hp.ltn (k := x) (by omega)
  have h2 := hp.ltn (k := y) (by omega)
  have r1 := rep_spec h1
  have r2 := rep_spec h2
  exact (hc.two hT (by omega) (by omega) hx hy (by rw [r1.2, (hp.lt (by omega)).2]) (by rw [r2.2, (hp.lt (by omega)).2])).symm

def QuoPost (w : World) (q : List (List Int)) (e : Ending) (w' : World) : Prop := ∃ v, e = .returned (.tuple #[v, .int .i64 0]) ∧ Rows2 w' v q ∧ Below w.heap.size w w'

set_option maxRecDepth 100000 in
set_option maxHeartbeats 1000000 in
theorem quotient_ok (w : World) (vt vp : Value) (t : List (List Int)) (p : List Int) (ht : Rows2 w vt t) (hv : Ints w vp p) (ev : vErr t = 0) (hl : lnx p = lnx t) (hp : PartOK p) (hc : CongP t p) :
    Calls Try.prog 54 #[vt, vp] w (QuoPost w (quoL t p)) := by
  have htab := Tab.of_rows ht (vErr_inv ev).1
  have H1 := validate_any w vt t ht
  rw [ev] at H1
  replace H1 := Lib.hid H1
  have H2 := Lib.hid (fun W (hb : Below w.heap.size w W) => isCong_ok W vt vp t p (ht.keep (Keeps.below hb)) (hv.keep (Keeps.below hb)) ev hl hp hc)
  obtain ⟨b, o, cap, rb, ro, rc, rfl, h0, h4, hR, hC, hT⟩ := htab
  have H3 := Lib.hid (fun W (hb : Below w.heap.size w W) => partCount_ok W vp p (hv.keep (Keeps.below hb)) hp (by omega))
  have hm1 : cntV p (lnx p) ≤ lnx t := by rw [← hl]; exact cntV_le p _
  have hm0 : 0 < cntV p (lnx p) := by have := hp.ltn (k := 0) (by omega); omega
  obtain ⟨a, pcap, rfl, hcap, hmx, hv⟩ := hv
  have HL := Lib.hid hl
  have HQL : Hid (quoL t p = rowsG (cntV p (lnx p)) (cntV p (lnx p)) (quoV t p)) := rfl
  have HCM : Hid (∀ k, k ≤ lnx t → cntV p k ≤ cntV p (lnx p)) := fun k hk => cntV_mono' p (by omega)
  have HLN : Hid (∀ k, k < lnx t → nat_ p k < cntV p (lnx p)) := fun k hk => hp.ltn (by omega)
  have HCE : Hid (cntV p (lnx t) = cntV p (lnx p)) := by show _ = _; rw [hl]
  rw [hl] at hcap hv H2 H3 ⊢
  rw [hl] at HCM HLN HCE HQL hm1 hm0
  obtain ⟨m, hm⟩ : ∃ m, m = cntV p (lnx t) := ⟨_, rfl⟩
  rw [← hm] at HCM HLN HCE HQL hm1 hm0 H3
  obtain ⟨pb, po, rfl, hPC⟩ := hv h0
  have HR := Lib.hid hR
  have HC := Lib.hid hC
  have HT := Lib.hid hT
  have HPC := Lib.hid hPC
  have HP := Lib.hid hp
  have HCG := Lib.hid hc
  have HM := Lib.hid hm
  have hmk2 := fun W => run_mk (P := Try.prog) Try.underlying22 Try.infoRow rfl m (by omega) (by omega) W
  have hmk := fun W => run_mk (P := Try.prog) Try.underlying31 Try.infoInt rfl m (by omega) (by omega) W
  clear hR hC hT hPC hp hc hl ev ht hv hm
  go_enter Try.func54, Try.ntmps54
  go_wp2_with fail
  refine H1.out.mono ?_
  rintro e w0 ⟨rfl, hb⟩
  have HB0 := Lib.hid hb
  clear hb H1
  go_wp2_with fail
  refine (H2.out _ HB0.out).mono ?_
  rintro e w1 ⟨rfl, hb⟩
  have HB1 := Lib.hid (belowThen HB0.out hb)
  clear hb H2 HB0
  go_wp2_with fail
  refine (H3.out _ HB1.out).mono ?_
  rintro e w2 ⟨rfl, rfl⟩
  clear H3
  go_wp2
  clear hmk2
  go_loopw [26] (fun i wr => ∃ (k : Nat) (rb : Nat → Nat) (G : Nat → Nat → Int), k ≤ lnx t ∧ i = .int .i64 k ∧ QuSt w1 wr m (cntV p k) rb G ∧ ∀ r d, r < cntV p k → d < m → G r d = quoV t p r d) (fun i _ => lnx t - (intOf i).toNat)
  case atStart => exact ⟨0, fun _ => 0, fun _ _ => 0, by omega, rfl, ⟨(Arr.zeros _ _ _ _).congr (fun i hi => by simp [cntV]), fun r hr => by simp [cntV] at hr, fun r s hr => by simp [cntV] at hr, (Below.refl _ _).alloc (Nat.le_refl _) _⟩, fun r d hr => by simp [cntV] at hr⟩
  case round =>
    obtain ⟨k, rb2, G, hk, rfl, hst, hval⟩ := hrel
    have hsz := hst.below.size
    by_cases hlt : k < lnx t
    · have hkp := Keeps.below (belowThen HB1.out hst.below)
      have c1 := hkp _ _ (HPC.out k hlt)
      have q2 := (HP.out.lt (k := k) (by rw [HL.out]; exact hlt)).2
      have q3 := HP.out k (by rw [HL.out]; exact hlt)
      have q5 := HLN.out k hlt
      have q6 := HCM.out k hk
      have hsu := cntV_succ p k
      obtain ⟨c, hc⟩ : ∃ c, c = nat_ p k := ⟨_, rfl⟩
      rw [← hc] at q2 q5
      rw [← q2] at c1 q3 hsu
      have c2 := hst.top.cell q5
      have f2 := hst.top.frozen c
      by_cases e : c < cntV p k
      · rw [if_pos e] at c2
        rw [if_neg (by omega)] at hsu
        have P1 : Hid (QuSt w1 wr m (cntV p (k + 1)) rb2 G ∧ ∀ r d, r < cntV p (k + 1) → d < m → G r d = quoV t p r d) := by rw [hsu]; exact ⟨hst, hval⟩
        clear hst hval hkp hsu q2 hc
        go_wp2
        go_roundw
        case rel => exact ⟨k + 1, _, _, by omega, by go_num, P1.out⟩
        case measure => simp [intOf]; omega
      · rw [if_neg e] at c2
        obtain rfl : c = cntV p k := by omega
        rw [if_pos rfl] at hsu
        have hnew := hst.new
        rw [World.setCell_alloc_past _ _ _ _ hst.top.lt] at hnew
        have HNEW := Lib.hid hnew
        have HVAL := Lib.hid hval
        have HQ2 := Lib.hid q2
        have HSU := Lib.hid hsu
        have HHC := Lib.hid hc
        have hglt := hst.top.lt
        have e1 := (hst.top.alloc (.cells (zeros (.int .i64 0) m) 3)).cell q5
        rw [if_neg e] at e1
        have e2 := (hst.top.alloc (.cells (zeros (.int .i64 0) m) 3)).frozen (cntV p k)
        have HHAS : Hid (∀ d, d < m → ∃ x, x < lnx t ∧ nat_ p x = d) := fun d hd => by
          rw [HM.out] at hd
          obtain ⟨x, hx, ex⟩ := class_has (p := p) (lnx t) d hd
          exact ⟨x, hx, by unfold nat_; rw [ex]; exact Int.toNat_natCast _⟩
        have HQV : Hid (∀ y, y < lnx t → nthx p (tabOf t k y) = quoV t p (cntV p k) (nat_ p y)) := fun y hy => by
          have := quoV_at HP.out HL.out HCG.out HT.out hlt hy
          rw [← HHC.out] at this
          exact this
        clear hst hval hkp hsu q2 hc hnew e
        go_wp2
        clear e1 e2 c1 c2 f2
        go_loopw [44] (fun i wz => ∃ (y : Nat) (rb : Nat → Nat) (G : Nat → Nat → Int), y ≤ lnx t ∧ i = .int .i64 y ∧ QuSt w1 wz m (cntV p k + 1) rb G ∧ (∀ r d, r < cntV p k → d < m → G r d = quoV t p r d) ∧ ∀ x, x < y → G (cntV p k) (nat_ p x) = quoV t p (cntV p k) (nat_ p x)) (fun i _ => lnx t - (intOf i).toNat)
        case atStart =>
          refine ⟨0, _, _, by omega, rfl, HNEW.out, fun r d hr hd => ?_, fun x hx => by omega⟩
          rw [if_neg (by omega)]
          exact HVAL.out r d hr hd
        case round =>
          clear HNEW HVAL
          obtain ⟨y, rb3, G3, hy, rfl, hst, hval, hdone⟩ := hrel
          by_cases hyt : y < lnx t
          · have hkp := Keeps.below (belowThen HB1.out hst.below)
            have d1 := hkp _ _ (HPC.out y hyt)
            have d2 := hkp _ _ (HR.out k hlt)
            have d3 := hkp _ _ (HC.out k y hlt hyt)
            have tz := HT.out k y hlt hyt
            have d4 := hkp _ _ (HPC.out _ tz)
            have hdm := HLN.out y hyt
            have hd2 := (HP.out.lt (k := y) (by rw [HL.out]; exact hyt)).2
            obtain ⟨d, hd⟩ : ∃ d, d = nat_ p y := ⟨_, rfl⟩
            rw [← hd] at hdm hd2
            rw [← hd2] at d1
            have d5 := hst.top.cell q5
            rw [if_pos (by omega)] at d5
            have hrow := hst.row (cntV p k) (by omega)
            have d6 := hrow.1.cell hdm
            have f6 := hrow.1.frozen d
            have P1 : Hid (QuSt w1 ((wr.setCell ⟨rb3 (cntV p k), d, none⟩ (.int .i64 (nthx p (tabOf t k y)))).drew) m (cntV p k + 1) rb3 (fun a b => if a = cntV p k ∧ b = d then nthx p (tabOf t k y) else G3 a b)) := hst.write (by omega) d _
            have HQ := Lib.hid (HQV.out y hyt)
            have HD := Lib.hid hd
            have HVAL := Lib.hid hval
            have HDONE := Lib.hid hdone
            clear hst hval hdone hkp hd hd2 hrow
            go_wp2
            go_region
            go_wp2
            go_roundw
            case rel =>
              refine ⟨y + 1, _, _, by omega, by go_num, P1.out, fun r d' hr hd' => ?_, fun x hx => ?_⟩
              · rw [if_neg (by omega)]
                exact HVAL.out r d' hr hd'
              · by_cases e : nat_ p x = d
                · rw [if_pos ⟨rfl, e⟩, HQ.out, ← HD.out, e]
                · rw [if_neg (fun h => e h.2)]
                  refine HDONE.out x ?_
                  by_cases e2 : x = y
                  · exact absurd (by rw [e2, HD.out]) e
                  · omega
            case measure => simp [intOf]; omega
          · have P1 : Hid (QuSt w1 wr m (cntV p (k + 1)) rb3 G3 ∧ ∀ r d, r < cntV p (k + 1) → d < m → G3 r d = quoV t p r d) := by
              rw [HSU.out]
              refine ⟨hst, fun r d hr hd => ?_⟩
              by_cases e : r = cntV p k
              · obtain ⟨x, hx, ex⟩ := HHAS.out d hd
                rw [e, ← ex]
                exact hdone x (by omega)
              · exact hval r d (by omega) hd
            clear hst hval hdone
            go_wp2
            go_roundw
            case rel => exact ⟨k + 1, _, _, by omega, by go_num, P1.out⟩
            case measure => simp [intOf]; omega
    · obtain rfl : k = lnx t := by omega
      have P1 : Hid (QuoPost w (quoL t p) (.returned (.tuple #[.slice (some ⟨w1.heap.size, 0, none⟩) m m, .int .i64 0])) wr) := by
        rw [← HM.out] at hst hval
        refine ⟨_, rfl, ?_, belowThen HB1.out hst.below⟩
        rw [HQL.out, ← rowsG_congr (fun a b ha hb => hval a b ha hb)]
        exact hst.rows (by omega)
      clear hst hval
      go_wp2
      refine bodyPost_ret (results_tmp2 rfl _ _ _) rfl ?_
      exact P1.out
end Go.Proofs.Ytgghmjnbkbiffaa
