/-
  The walk of morph's extend where a value is open; extend as a whole; run.
-/
import Derived.Test.YtgghmjnbkbiffaaExtend
namespace Go.Proofs.Ytgghmjnbkbiffaa
open Go.RowKit
set_option linter.unusedVariables false

theorem FoundAt.shape {w : World} {base : Nat} {vf : Value} {L : List (List Nat)} (h : FoundAt w base vf L) : ∃ a c, vf = .slice a (lnx L) c ∧ lnx L ≤ c := by
  obtain ⟨vs, h1, _⟩ := h
  rcases h1.2 with ⟨rfl, h0⟩ | ⟨g, cap, cur, rfl, _, _, hnc, _⟩
  · exact ⟨none, 0, by rw [h0], by omega⟩
  · exact ⟨_, cap, rfl, hnc⟩

theorem take_lt {α : Type} {xs ys : List α} {lim : Nat} (h : lnx xs < lim) (hy : ys = xs) : ys.take lim = xs := by
  subst hy
  exact List.take_of_length_le (by have : ys.length = lnx ys := rfl; omega)
theorem take_pre {α : Type} (xs ys : List α) {lim : Nat} (h : lim ≤ lnx (xs.take lim)) : (xs ++ ys).take lim = xs.take lim := by
  have h1 : lnx (xs.take lim) = min lim xs.length := by simp [lnx]
  rw [List.take_append_of_le_length (by omega)]

/-- What the searches know of a branch. -/
noncomputable def Branch (n m : Nat) (T U : Nat → Nat → Nat) (inj : Bool) (F : Nat → Int) (x y : Nat) : List (List Nat) := (lexExt (homB n m T U inj) m (n - (x + 1)) (preF F x ++ [y])).filter (agreeB n F)

theorem homsY_mono (n m : Nat) (T U : Nat → Nat → Nat) (inj : Bool) (F : Nat → Int) (x : Nat) : ∀ y d, ∃ R, homsY n m T U inj F x (y + d) = homsY n m T U inj F x y ++ R
  | y, 0 => ⟨[], by simp⟩
  | y, d + 1 => by
    obtain ⟨R, hR⟩ := homsY_mono n m T U inj F x y d
    exact ⟨R ++ _, by rw [show y + (d + 1) = (y + d) + 1 by omega, homsY_succ, hR, List.append_assoc]⟩
theorem branch_list {n m : Nat} {T U : Nat → Nat → Nat} {inj : Bool} {F : Nat → Int} {x y lim : Nat} {L L1 L5 : List (List Nat)} (hy : y < m) (h1 : L1 = L ++ homsY n m T U inj F x y) (h5 : L5 = (L1 ++ Branch n m T U inj F x y).take lim) :
    (lim ≤ lnx L5 → L5 = (L ++ homsY n m T U inj F x m).take lim) ∧ (¬ lim ≤ lnx L5 → L5 = L ++ homsY n m T U inj F x (y + 1)) := by
  have e : L1 ++ Branch n m T U inj F x y = L ++ homsY n m T U inj F x (y + 1) := by rw [h1, homsY_succ, List.append_assoc]; rfl
  rw [e] at h5
  obtain ⟨R, hR⟩ := homsY_mono n m T U inj F x (y + 1) (m - (y + 1))
  rw [show y + 1 + (m - (y + 1)) = m by omega] at hR
  constructor
  · intro hl
    rw [hR, ← List.append_assoc, take_pre _ _ (by rw [← h5]; exact hl)]
    exact h5
  · intro hl
    rw [h5] at hl
    have h2 : lnx ((L ++ homsY n m T U inj F x (y + 1)).take lim) = min lim (L ++ homsY n m T U inj F x (y + 1)).length := by simp [lnx]
    rw [h5]
    exact List.take_of_length_le (by omega)

def ExtIH (w0 : World) (sb base n m : Nat) (T U : Nat → Nat → Nat) (inj : Bool) (vt vu : Value) (lim x : Nat) : Prop :=
  ∀ (w : World) (vf : Value) (L : List (List Nat)) (F : Nat → Int), SearchSt w sb base vt vu inj lim vf L → Below w0.heap.size w0 w → lnx L < lim → (∀ a, a < n → F a < m) → Closed n T U inj F → (∀ a, a < x → 0 ≤ F a) →
    Calls Try.prog 90 #[.pointer (some ⟨sb, 0, none⟩), .agg (agg8 F), .int .i64 x] w (ExtPost w sb base vt vu inj lim vf ((L ++ homsF n m T U inj F x).take lim))

/-- Memory at the head of the loop over the values. -/
structure ESt (w wr : World) (sb base : Nat) (vt vu : Value) (inj : Bool) (lim : Nat) (vf vf' : Value) (L' : List (List Nat)) (F : Nat → Int) : Prop where
  ss : SearchSt wr sb base vt vu inj lim vf' L'
  f8 : Blk8 112 wr w.heap.size F
  only : Only (fun k => k = sb ∨ vf.ownBlock = some k) w wr
  loc : ∀ k, vf'.ownBlock = some k → vf.ownBlock = some k ∨ w.heap.size ≤ k

theorem ESt.call {w wr w' : World} {sb base : Nat} {vt vu : Value} {inj : Bool} {lim : Nat} {vf vf' : Value} {L' : List (List Nat)} {F : Nat → Int} (h : ESt w wr sb base vt vu inj lim vf vf' L' F) (hb : Below wr.heap.size wr w') : ESt w w' sb base vt vu inj lim vf vf' L' F :=
  ⟨h.ss.call hb, h.f8.same (hb.block _ h.f8.lt), h.only.call hb, h.loc⟩
theorem ESt.ext {w wr w' : World} {sb base : Nat} {vt vu : Value} {inj : Bool} {lim : Nat} {vf vf' : Value} {L' L2 : List (List Nat)} {F : Nat → Int} (h : ESt w wr sb base vt vu inj lim vf vf' L' F) (hsb : sb < w.heap.size) {e : Ending}
    (hp : ExtPost wr sb base vt vu inj lim vf' L2 e w') : e = .returned (.tuple #[]) ∧ ∃ vf2, ESt w w' sb base vt vu inj lim vf vf2 L2 F := by
  obtain ⟨rfl, vf2, h1, h2, h3⟩ := hp
  refine ⟨rfl, vf2, h1, ?_, ?_, ?_⟩
  · refine h.f8.only h2 ?_
    rintro (e | e)
    · omega
    · obtain ⟨vs, ho, _⟩ := h.ss.found
      have hf : Foreign wr base w.heap.size := .inr (.inr ⟨_, _, h.f8, by decide, by decide⟩)
      exact hf.not_own (.inr rfl) ho e
  · refine ⟨h2.os.trans h.only.os, h2.tape.trans h.only.tape, h2.output.trans h.only.output, Nat.le_trans h.only.size h2.size, fun k hk hn => ?_⟩
    refine (h2.block k (Nat.lt_of_lt_of_le hk h.only.size) ?_).trans (h.only.block k hk hn)
    rintro (e | e)
    · exact hn (.inl e)
    · rcases h.loc k e with e | e
      · exact hn (.inr e)
      · omega
  · intro k hk
    rcases h3 k hk with e | e
    · exact h.loc k e
    · right
      have := h.only.size
      omega

theorem ESt.below {w0 w wr : World} {sb base : Nat} {vt vu : Value} {inj : Bool} {lim : Nat} {vf vf' : Value} {L L' : List (List Nat)} {F : Nat → Int} (h : ESt w wr sb base vt vu inj lim vf vf' L' F) (hs : SearchSt w sb base vt vu inj lim vf L) (hb : Below w0.heap.size w0 w) (hsb : w0.heap.size ≤ sb) : Below w0.heap.size w0 wr := by
  refine hb.trans (h.only.below (fun k hk => ?_) hb.size)
  rintro (e | e)
  · omega
  · obtain ⟨vs, ho, _⟩ := hs.found
    have := (ho.lt k e).1
    have := hs.lt
    omega

set_option maxRecDepth 100000 in
set_option maxHeartbeats 2000000 in
theorem extend_branch (w0 w : World) (sb base n m : Nat) (T U : Nat → Nat → Nat) (inj : Bool) (vt vu vf : Value) (lim : Nat) (L : List (List Nat)) (hs : SearchSt w sb base vt vu inj lim vf L) (hw0 : Below w0.heap.size w0 w) (hsb : w0.heap.size ≤ sb) (ht : Tab w0 vt n T) (hu : Tab w0 vu m U) (hlim : lim ≤ 3000) (hL : lnx L < lim)
    (F : Nat → Int) (x x1 : Nat) (hn : n ≤ 8) (hm : m ≤ 8) (hx1 : x1 < n) (hxx : x ≤ x1) (hd : ∀ a, a < x1 → 0 ≤ F a) (hF : F x1 < 0) (hrng : ∀ a, a < n → F a < m) (hcl : Closed n T U inj F) (ih : ExtIH w0 sb base n m T U inj vt vu lim (x1 + 1)) :
    Calls Try.prog 90 #[.pointer (some ⟨sb, 0, none⟩), .agg (agg8 F), .int .i64 x] w (ExtPost w sb base vt vu inj lim vf ((L ++ homsY n m T U inj F x1 m).take lim)) := by
  have htk := ht
  have huk := hu
  obtain ⟨b, o, cap, rb, ro, rc, rfl, h0, h4, -⟩ := ht
  obtain ⟨ub, uo, ucap, urb, uro, urc, rfl, uh0, uh4, -⟩ := hu
  have hbel : Below w.heap.size w (w.alloc (.cells (agg8 F) 112)) := (Below.refl _ w).alloc (Nat.le_refl _) _
  have hst0 : ESt w (w.alloc (.cells (agg8 F) 112)) sb base _ _ inj lim vf vf L F := ⟨hs.call hbel, Blk8.new _ w F, (Only.refl _ w).alloc _, fun k hk => .inl hk⟩
  have hsbw : sb < w.heap.size := lt_of_block hs.blk
  obtain ⟨W, hW⟩ : ∃ W, w.alloc (.cells (agg8 F) 112) = W := ⟨_, rfl⟩
  rw [hW] at hst0
  have c0 : W.cell? ⟨sb, 0, none⟩ = some (.slice (some ⟨b, o, none⟩) n cap) := by simp [World.cell?, hst0.ss.blk]
  have c1 : W.cell? ⟨sb, 1, none⟩ = some (.slice (some ⟨ub, uo, none⟩) m ucap) := by simp [World.cell?, hst0.ss.blk]
  have HS := Lib.hid hs
  have HST := Lib.hid hst0
  have HD := Lib.hid hd
  have HF := Lib.hid hF
  have HRG := Lib.hid hrng
  have HCL := Lib.hid hcl
  have HW0 := Lib.hid hw0
  have HT := Lib.hid htk
  have HU := Lib.hid huk
  have IH := Lib.hid ih
  clear hs hst0 hd hF hrng hcl hw0 hbel htk huk ih
  go_enter Try.func90, Try.ntmps90
  go_wp2
  go_loop [2] (fun i => ∃ x : Nat, x ≤ x1 ∧ i = .int .i64 x) (fun i => n - (intOf i).toNat)
  case atStart => exact ⟨x, hxx, rfl⟩
  case round =>
    clear hxx x
    obtain ⟨x, hx, rfl⟩ := hrel
    by_cases hxn : x < x1
    · have hc := HST.out.f8.cell (i := x) (by omega)
      obtain ⟨fx, hfx⟩ : ∃ fx : Nat, F x = fx := ⟨(F x).toNat, by have := HD.out x hxn; omega⟩
      rw [hfx] at hc
      have hxx : x < n := by omega
      clear hfx
      go_wp2
      go_round
      case rel => exact ⟨x + 1, by omega, by go_num⟩
      case measure => simp [intOf]; omega
    · obtain rfl : x = x1 := by omega
      have hc := HST.out.f8.cell (i := x) (by omega)
      have hg := HF.out
      have hg1 : decide (0 ≤ F x) = false := by simp; omega
      have hg2 : ((x : Int) == (n : Int)) = false := beq_f (by omega)
      go_wp2
      clear hW hc hg hg1 hg2
      go_loopw [46] (fun i wr => ∃ (y : Nat) (vf' : Value), i = .int .i64 y ∧ y ≤ m ∧ ESt w wr sb base (.slice (some ⟨b, o, none⟩) n cap) (.slice (some ⟨ub, uo, none⟩) m ucap) inj lim vf vf' (L ++ homsY n m T U inj F x y) F ∧ lnx (L ++ homsY n m T U inj F x y) < lim) (fun i _ => m - (intOf i).toNat)
      case atStart => exact ⟨0, vf, rfl, by omega, by rw [homsY_zero, List.append_nil]; exact HST.out, by rw [homsY_zero, List.append_nil]; exact hL⟩
      case round =>
        clear HST c0 c1
        obtain ⟨y, vf1, rfl, hy, hst, hlt⟩ := hrel
        obtain ⟨L1, hL1⟩ : ∃ L1, L1 = L ++ homsY n m T U inj F x y := ⟨_, rfl⟩
        rw [← hL1] at hst hlt
        have HL1 := Lib.hid hL1
        clear hL1
        by_cases hym : y < m
        · have hbw := hst.below HS.out HW0.out hsb
          have c0 : wr.cell? ⟨sb, 0, none⟩ = some (.slice (some ⟨b, o, none⟩) n cap) := by simp [World.cell?, hst.ss.blk]
          have c1 : wr.cell? ⟨sb, 1, none⟩ = some (.slice (some ⟨ub, uo, none⟩) m ucap) := by simp [World.cell?, hst.ss.blk]
          have c2 : wr.cell? ⟨sb, 2, none⟩ = some (.bool inj) := by simp [World.cell?, hst.ss.blk]
          have HDef := Lib.hid (define_any wr sb n m T U inj _ _ (HT.out.keep (Keeps.below hbw)) (HU.out.keep (Keeps.below hbw)) c0 c1 c2 F x y hn hm hx1 hym HF.out HRG.out HCL.out)
          have HST := Lib.hid hst
          have HBW := Lib.hid hbw
          clear hst c0 c1 c2 hbw
          go_wp2_with (refine wpList_load8 rfl 112 _ rfl w.heap.size rfl 112 3 F Try.underlying112 Try.info8 HST.out.f8 ?_)
          refine HDef.out.mono ?_
          rintro e w1 ⟨F', ok, rfl, hb1, hyes, hno⟩
          have hst1 := HST.out.call hb1
          have g8 := Blk8.new 112 w1 (fun _ => 0)
          have hz8 := zero8
          have HB1 := Lib.hid (belowThen HBW.out hb1)
          have HST1 := Lib.hid hst1
          have HY := Lib.hid hyes
          have HN := Lib.hid hno
          have G8 := Lib.hid g8
          clear HST HDef hst1 hb1 HBW hyes hno g8
          go_wp2_with (refine wpList_store8 rfl 112 _ _ rfl w1.heap.size rfl F' rfl 112 (fun _ => 0) Try.info8 G8.out ?_)
          intro w2 hb2 ho2
          have hbel2 : Below w1.heap.size w1 w2 := ((Below.refl _ w1).alloc (Nat.le_refl _) _).trans (ho2.below (fun k hk => by omega) (by simp))
          have hst2 := HST1.out.call hbel2
          have HB2 := Lib.hid (belowThen HB1.out hbel2)
          have HST2 := Lib.hid hst2
          have G8' := Lib.hid hb2
          clear HST1 HB1 G8 hst2 hbel2 hb2 ho2 hz8
          cases ok with
          | true =>
            obtain ⟨hinv, hcl'⟩ := HY.out rfl
            have hbr : Branch n m T U inj F x y = homsF n m T U inj F' (x + 1) := branch_some hx1 HF.out HD.out y hinv
            have hd' : ∀ a, a < x + 1 → 0 ≤ F' a := fun a ha => by
              by_cases e : a = x
              · subst e
                have := hinv.ext a hx1 (by rw [upd_same]; omega)
                rw [this, upd_same]; omega
              · have h2 := HD.out a (by omega)
                have := hinv.ext a (by omega) (by rw [upd_other F _ e]; exact h2)
                rw [this, upd_other F _ e]; exact h2
            have HI := Lib.hid (IH.out w2 vf1 L1 F' HST2.out.ss HB2.out hlt hinv.rng hcl' hd')
            rw [← hbr] at HI
            clear hinv hcl' hbr hd' HY HN
            go_wp2_with (refine wpList_load8 rfl 112 _ rfl w1.heap.size rfl 112 3 F' Try.underlying112 Try.info8 G8'.out ?_)
            refine HI.out.mono ?_
            intro e w5 hp
            obtain ⟨rfl, vf5, hst5⟩ := HST2.out.ext hsbw hp
            obtain ⟨L5, hL5⟩ : ∃ L5, L5 = (L1 ++ Branch n m T U inj F x y).take lim := ⟨_, rfl⟩
            rw [← hL5] at hst5
            have HL5 : Hid ((lim ≤ lnx L5 → L5 = (L ++ homsY n m T U inj F x m).take lim) ∧ (¬ lim ≤ lnx L5 → L5 = L ++ homsY n m T U inj F x (y + 1))) := branch_list hym HL1.out hL5
            clear hp HI HST2 hL5 G8' HB2
            obtain ⟨fa, fc, rfl, hfc⟩ := hst5.ss.found.shape
            have d3 : w5.cell? ⟨sb, 3, none⟩ = some (.int .i64 lim) := by simp [World.cell?, hst5.ss.blk]
            have d4 : w5.cell? ⟨sb, 4, none⟩ = some (.slice fa (lnx L5) fc) := by simp [World.cell?, hst5.ss.blk]
            have HST5 := Lib.hid hst5
            clear hst5
            by_cases hfull : lim ≤ lnx L5
            · have g3 : decide ((lim : Int) ≤ (lnx L5 : Int)) = true := by simp; omega
              go_wp2
              go_quiet (fail)
              go_wp2
              refine bodyPost_ret (results_none rfl _ _ _) rfl ?_
              have hfin := HL5.out
              rw [(hfin.1 hfull)] at HST5
              have hh := HST5.out
              exact ⟨rfl, _, ⟨hh.ss.blk, hh.ss.found.only ((Only.refl (fun _ => False) _).drewN _) (by simp), hh.ss.lt, hh.ss.hb⟩, hh.only.drewN _, hh.loc⟩
            · have g3 : decide ((lim : Int) ≤ (lnx L5 : Int)) = false := by simp; omega
              go_wp2
              go_quiet (fail)
              go_wp2
              go_roundw
              case rel =>
                have hfin := HL5.out.2 hfull
                rw [hfin] at HST5 hfull
                have hh := HST5.out
                exact ⟨y + 1, _, by go_num, by omega, ⟨⟨hh.ss.blk, hh.ss.found.only ((Only.refl (fun _ => False) _).drewN _) (by simp), hh.ss.lt, hh.ss.hb⟩, hh.f8.drewN _, hh.only.drewN _, hh.loc⟩, by omega⟩
              case measure => simp [intOf]; omega
          | false =>
            have hbr : Branch n m T U inj F x y = [] := branch_none hx1 y (HN.out rfl)
            obtain ⟨L5, hL5⟩ : ∃ L5, L5 = L1 := ⟨_, rfl⟩
            have hL5' : L5 = (L1 ++ Branch n m T U inj F x y).take lim := by
              rw [hbr, List.append_nil, hL5]
              exact (List.take_of_length_le (by have : L1.length = lnx L1 := rfl; omega)).symm
            have HL5 : Hid ((lim ≤ lnx L5 → L5 = (L ++ homsY n m T U inj F x m).take lim) ∧ (¬ lim ≤ lnx L5 → L5 = L ++ homsY n m T U inj F x (y + 1))) := branch_list hym HL1.out hL5'
            have hst5 := HST2.out
            rw [← hL5] at hst5
            obtain ⟨w5, hw5⟩ : ∃ w5, w5 = w2 := ⟨_, rfl⟩
            rw [← hw5] at hst5 ⊢
            clear hbr hL5 hL5' HST2 G8' HB2 HY HN hw5
            obtain ⟨fa, fc, rfl, hfc⟩ := hst5.ss.found.shape
            have d3 : w5.cell? ⟨sb, 3, none⟩ = some (.int .i64 lim) := by simp [World.cell?, hst5.ss.blk]
            have d4 : w5.cell? ⟨sb, 4, none⟩ = some (.slice fa (lnx L5) fc) := by simp [World.cell?, hst5.ss.blk]
            have HST5 := Lib.hid hst5
            clear hst5
            by_cases hfull : lim ≤ lnx L5
            · have g3 : decide ((lim : Int) ≤ (lnx L5 : Int)) = true := by simp; omega
              go_wp2
              go_quiet (fail)
              go_wp2
              refine bodyPost_ret (results_none rfl _ _ _) rfl ?_
              have hfin := HL5.out
              rw [(hfin.1 hfull)] at HST5
              have hh := HST5.out
              exact ⟨rfl, _, ⟨hh.ss.blk, hh.ss.found.only ((Only.refl (fun _ => False) _).drewN _) (by simp), hh.ss.lt, hh.ss.hb⟩, hh.only.drewN _, hh.loc⟩
            · have g3 : decide ((lim : Int) ≤ (lnx L5 : Int)) = false := by simp; omega
              go_wp2
              go_quiet (fail)
              go_wp2
              go_roundw
              case rel =>
                have hfin := HL5.out.2 hfull
                rw [hfin] at HST5 hfull
                have hh := HST5.out
                exact ⟨y + 1, _, by go_num, by omega, ⟨⟨hh.ss.blk, hh.ss.found.only ((Only.refl (fun _ => False) _).drewN _) (by simp), hh.ss.lt, hh.ss.hb⟩, hh.f8.drewN _, hh.only.drewN _, hh.loc⟩, by omega⟩
              case measure => simp [intOf]; omega
        · go_wp2
          go_end0
          have hh := hst
          have e1 : L1 = (L ++ homsY n m T U inj F x m).take lim := by
            have e2 : y = m := by omega
            have e3 := HL1.out
            rw [e2] at e3
            rw [← e3]
            exact (List.take_of_length_le (by have : L1.length = lnx L1 := rfl; omega)).symm
          rw [e1] at hh
          exact ⟨rfl, vf1, hh.ss, hh.only, hh.loc⟩
end Go.Proofs.Ytgghmjnbkbiffaa
