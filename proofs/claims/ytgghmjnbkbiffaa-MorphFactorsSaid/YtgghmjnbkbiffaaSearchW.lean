/-
  The walk of semigroupref20.search and Homs.
-/
import Derived.Test.YtgghmjnbkbiffaaSearch
namespace Go.Proofs.Ytgghmjnbkbiffaa
open Go.RowKit
set_option linter.unusedVariables false

def SeaPost (w : World) (base : Nat) (vo : Value) (L : List (List Nat)) (e : Ending) (w' : World) : Prop :=
  ∃ v, e = .returned v ∧ FoundAt w' base v L ∧ Only (fun k => vo.ownBlock = some k) w w' ∧ ∀ k, v.ownBlock = some k → vo.ownBlock = some k ∨ w.heap.size ≤ k

/-- An empty slice that is not nil. -/
theorem own_empty (w : World) (base : Nat) (e : TypeId) (hb : base ≤ w.heap.size) : (w.alloc (.cells #[] e)).ownsRow base e 1 (.slice (some ⟨w.heap.size, 0, none⟩) 0 0) 0 [] := World.ownsRow_made w #[] 0 hb (by simp [maxLen]) rfl

theorem nv_map (p : List Nat) : (natsOf p).map (Value.int .i64) = nv p := by simp [natsOf, nv]

theorem sea_leaf {w w1 w2 : World} {base n g1 c1 : Nat} {vo : Value} {v2 : Value} {L : List (List Nat)} {p : List Nat} {o0 : Obj} {vs : List Value} (hf : FoundAt w base vo L) (hb : base ≤ w.heap.size)
    (hown : w.ownsRow base 31 1 vo (lnx L) vs) (hrows : ∀ (i : Nat) (h : List Nat), L[i]? = some h → ∃ u, vs[i]? = some u ∧ OwnN w base u h)
    (hap1 : App base 3 (w.alloc (.cells #[] 3)) w1 (.slice (some ⟨w.heap.size, 0, none⟩) 0 0) (.slice (some ⟨g1, 0, none⟩) n c1) 0 n [] (nv p)) (hn : lnx p = n)
    (hap2 : App base 31 (w1.alloc (.cells #[.slice (some ⟨g1, 0, none⟩) n c1] 31)) w2 vo v2 (lnx L) 1 vs [.slice (some ⟨g1, 0, none⟩) n c1]) :
    SeaPost w base vo (L ++ [p]) (.returned v2) w2 := by
  have o1 : Only (fun _ => False) w w1 := Only.grown ((Only.refl _ w).alloc _) hap1.grown (fun k hk e => by simp [Value.ownBlock] at e; omega)
  have o2 := o1.alloc (.cells #[.slice (some ⟨g1, 0, none⟩) n c1] 31)
  have o3 : Only (fun k => vo.ownBlock = some k) w w2 := Only.grown (o2.mono (fun _ _ h => h.elim)) hap2.grown (fun k _ e => e)
  have hown2 : (w1.alloc (.cells #[.slice (some ⟨g1, 0, none⟩) n c1] 31)).ownsRow base 31 1 vo (lnx L) vs := own_only hown o2 (by simp)
  have hrows2 : ∀ (i : Nat) (h : List Nat), L[i]? = some h → ∃ u, vs[i]? = some u ∧ OwnN (w1.alloc (.cells #[.slice (some ⟨g1, 0, none⟩) n c1] 31)) base u h := fun i h hi => by
    obtain ⟨u, h1, h2⟩ := hrows i h hi
    exact ⟨u, h1, h2.only o2 (by simp)⟩
  have hu : OwnN (w1.alloc (.cells #[.slice (some ⟨g1, 0, none⟩) n c1] 31)) base (.slice (some ⟨g1, 0, none⟩) n c1) p := by
    have h1 := hap1.own
    rw [Nat.zero_add, List.nil_append] at h1
    have h2 : OwnN w1 base (.slice (some ⟨g1, 0, none⟩) n c1) p := by
      unfold OwnN
      rw [hn]
      exact h1
    exact h2.alloc _
  refine ⟨v2, rfl, FoundAt.push hown2 hrows2 hu hap2, o3, fun k hk => ?_⟩
  rcases hap2.at_ hk with e | e
  · exact .inl e
  · right
    have := o1.size
    simp only [World.size_alloc] at e
    omega

set_option maxRecDepth 100000 in
set_option maxHeartbeats 1000000 in
theorem search_leaf (w : World) (base n m : Nat) (inj : Bool) (ta : Option Addr) (tc : Nat) (vu vf vo : Value) (most : Nat) (L : List (List Nat)) (p : List Nat) (hf : OwnN w base vf p) (ho : FoundAt w base vo L) (hb : base ≤ w.heap.size) (hn : lnx p = n) (hn8 : n ≤ 8) (hL : lnx L < most) (hm : most ≤ 3000) :
    Calls Try.prog 58 #[.slice ta n tc, vu, vf, .bool inj, .int .i64 most, vo] w (SeaPost w base vo (L ++ [p])) := by
  have hsl := hf.ints
  have HSL := Lib.hid (fun o => hsl.keep (Keeps.alloc w o))
  have HO := Lib.hid ho
  obtain ⟨vs, hown, hrows⟩ := ho
  have HOWN := Lib.hid hown
  have HROWS := Lib.hid hrows
  obtain ⟨fa, fc, rfl, hf1, hf2, -⟩ := hsl
  rw [lnx_natsOf, hn] at HSL ⊢
  have hg : ((n : Int) == (n : Int)) = true := beq_t rfl
  have HN := Lib.hid hn
  clear hf hown hrows hn
  go_enter Try.func58, Try.ntmps58
  go_wp2_with (at_builtin; refine wpList_app' _ rfl (.tmp 21) (.tmp 22) 31 rfl base 3 (.int .i64 0) 8 Try.underlying31 Try.infoInt rfl w.heap.size 0 0 [] rfl (Value.int .i64) (.slice fa n fc) (natsOf p) rfl (own_empty w base 3 hb) (HSL.out _) (fun _ => rfl) ?_ ?_ ?_ ?_)
  · rw [lnx_natsOf, HN.out]; simp only [maxLen]; omega
  · rw [lnx_natsOf, HN.out]; omega
  · simp only [World.size_alloc]; omega
  intro g1 c1 w1 hap1
  rw [lnx_natsOf, HN.out, nv_map] at hap1
  rw [lnx_natsOf, HN.out]
  have o1 : Only (fun _ => False) w w1 := Only.grown ((Only.refl _ w).alloc _) hap1.grown (fun k hk e => by simp [Value.ownBlock] at e; omega)
  have hown1 := own_only HOWN.out (o1.alloc (.cells #[.slice (some ⟨g1, 0, none⟩) n c1] 31)) (by simp)
  have hsz1 := o1.size
  have hc1 := World.cell?_alloc_new w1 #[.slice (some ⟨g1, 0, none⟩) n c1] 31 0
  have HA1 := Lib.hid hap1
  have HO1 := Lib.hid hown1
  have HC1 := Lib.hid hc1
  clear hap1 o1 hown1 hc1 HSL
  go_wp2_with (at_builtin; refine wpList_push _ rfl (.tmp 20) (.tmp 24) 22 rfl base 31 (.slice none 0 0) 24 Try.underlying22 Try.infoRow rfl vo (lnx L) vs rfl w1.heap.size (.slice (some ⟨g1, 0, none⟩) n c1) rfl HO1.out HC1.out rfl ?_ ?_ ?_ ?_)
  · simp only [maxLen]; omega
  · omega
  · simp only [World.size_alloc]; omega
  intro r2 c2 w2 hap2
  have HP := Lib.hid (sea_leaf HO.out hb HOWN.out HROWS.out HA1.out HN.out hap2 (o0 := .cells #[] 0))
  clear hap2 HA1 HO1 HC1 HOWN HROWS HO
  go_wp2
  go_ret
  exact HP.out

def SeaIH (w0 : World) (base n m : Nat) (T U : Nat → Nat → Nat) (inj : Bool) (vt vu : Value) (most l : Nat) : Prop :=
  ∀ (w : World) (vf vo : Value) (L : List (List Nat)) (p : List Nat), lnx p = l → OwnN w base vf p → FoundAt w base vo L → base ≤ w.heap.size → Below w0.heap.size w0 w → lnx L < most → ConsP m T U inj p →
    Calls Try.prog 58 #[vt, vu, vf, .bool inj, .int .i64 most, vo] w (SeaPost w base vo ((L ++ lexExt (homB n m T U inj) m (n - lnx p) p).take most))

/-- Memory at the head of the loop. -/
structure SeaSt (w wr : World) (base : Nat) (vf vo vo' : Value) (p : List Nat) (L' : List (List Nat)) : Prop where
  f : OwnN wr base vf p
  o : FoundAt wr base vo' L'
  only : Only (fun k => vo.ownBlock = some k) w wr
  loc : ∀ k, vo'.ownBlock = some k → vo.ownBlock = some k ∨ w.heap.size ≤ k
  hb : base ≤ wr.heap.size

theorem SeaSt.call {w wr w' : World} {base : Nat} {vf vo vo' : Value} {p : List Nat} {L' : List (List Nat)} (h : SeaSt w wr base vf vo vo' p L') (hb : Below wr.heap.size wr w') : SeaSt w w' base vf vo vo' p L' :=
  ⟨h.f.only (Only.of_below hb) (fun k hk => by have := (h.f.lt hk).2; omega), h.o.call hb, h.only.call hb, h.loc, Nat.le_trans h.hb hb.size⟩
theorem SeaSt.ext {w wr w' : World} {base : Nat} {vf vo vo' : Value} {p : List Nat} {L' L2 : List (List Nat)} (h : SeaSt w wr base vf vo vo' p L') {e : Ending} (hp : SeaPost wr base vo' L2 e w') : ∃ v, e = .returned v ∧ SeaSt w w' base vf vo v p L2 := by
  obtain ⟨v, rfl, h1, h2, h3⟩ := hp
  refine ⟨v, rfl, h.f.only h2 ?_, h1, ?_, ?_, Nat.le_trans h.hb h2.size⟩
  · obtain ⟨vs, ho, _⟩ := h.o
    exact fun k hk => rows_ne ho h.f k hk
  · refine ⟨h2.os.trans h.only.os, h2.tape.trans h.only.tape, h2.output.trans h.only.output, Nat.le_trans h.only.size h2.size, fun k hk hn => ?_⟩
    refine (h2.block k (Nat.lt_of_lt_of_le hk h.only.size) ?_).trans (h.only.block k hk hn)
    intro e
    rcases h.loc k e with e | e
    · exact hn e
    · omega
  · intro k hk
    rcases h3 k hk with e | e
    · exact h.loc k e
    · right
      have := h.only.size
      omega
theorem SeaSt.below {w0 w wr : World} {base : Nat} {vf vo vo' : Value} {p : List Nat} {L L' : List (List Nat)} (h : SeaSt w wr base vf vo vo' p L') (ho : FoundAt w base vo L) (hb : Below w0.heap.size w0 w) (hs : w0.heap.size ≤ base) : Below w0.heap.size w0 wr := by
  refine hb.trans (h.only.below (fun k hk e => ?_) hb.size)
  obtain ⟨vs, h1, _⟩ := ho
  have := (h1.lt k e).1
  omega

theorem sea_list {n m : Nat} {T U : Nat → Nat → Nat} {inj : Bool} {p : List Nat} {y most : Nat} {L L1 L5 : List (List Nat)} (hy : y < m) (hp : lnx p < n) (h1 : L1 = (L ++ lexY n m T U inj p y).take most) (hl : lnx L1 < most) (h5 : L5 = (L1 ++ lexExt (homB n m T U inj) m (n - (lnx p + 1)) (p ++ [y])).take most) :
    L5 = (L ++ lexY n m T U inj p (y + 1)).take most := by
  have h2 : lnx ((L ++ lexY n m T U inj p y).take most) = min most (L ++ lexY n m T U inj p y).length := by simp [lnx]
  have h3 : L1 = L ++ lexY n m T U inj p y := by
    rw [h1]
    exact List.take_of_length_le (by rw [← h1] at h2; omega)
  rw [h5, h3, lexY_succ, List.append_assoc]
theorem sea_full {n m : Nat} {T U : Nat → Nat → Nat} {inj : Bool} {p : List Nat} {y most : Nat} {L L1 : List (List Nat)} (hy : y ≤ m) (hp : lnx p < n) (h1 : L1 = (L ++ lexY n m T U inj p y).take most) (hl : most ≤ lnx L1 ∨ y = m) : L1 = (L ++ lexExt (homB n m T U inj) m (n - lnx p) p).take most := by
  rw [← lexY_all hp]
  rcases hl with hl | rfl
  · obtain ⟨R, hR⟩ := lexY_mono n m T U inj p y (m - y)
    rw [show y + (m - y) = m by omega] at hR
    rw [hR, ← List.append_assoc, take_pre _ _ (by rw [← h1]; exact hl)]
    exact h1
  · exact h1

set_option maxRecDepth 100000 in
set_option maxHeartbeats 1000000 in
theorem search_branch (w0 w : World) (base n m : Nat) (T U : Nat → Nat → Nat) (inj : Bool) (vt vu vf vo : Value) (most : Nat) (L : List (List Nat)) (p : List Nat) (hf : OwnN w base vf p) (ho : FoundAt w base vo L) (hb : base ≤ w.heap.size) (hw0 : Below w0.heap.size w0 w) (hs : w0.heap.size ≤ base) (ht : Tab w0 vt n T) (hu : Tab w0 vu m U)
    (hn : lnx p < n) (hn8 : n ≤ 8) (hm8 : m ≤ 8) (hL : lnx L < most) (hm : most ≤ 3000) (hcons : ConsP m T U inj p) (ih : SeaIH w0 base n m T U inj vt vu most (lnx p + 1)) :
    Calls Try.prog 58 #[vt, vu, vf, .bool inj, .int .i64 most, vo] w (SeaPost w base vo ((L ++ lexExt (homB n m T U inj) m (n - lnx p) p).take most)) := by
  have htk := ht
  have huk := hu
  obtain ⟨b, o, cap, rb, ro, rc, rfl, h0, h4, -, -, hT⟩ := ht
  obtain ⟨ub, uo, ucap, urb, uro, urc, rfl, uh0, uh4, -⟩ := hu
  obtain ⟨fa, fc, rfl, hf1, hf2, -⟩ := hf.ints
  rw [lnx_natsOf] at *
  have hst : SeaSt w w base (.slice fa (lnx p) fc) vo vo p L := ⟨hf, ho, Only.refl _ _, fun k hk => .inl hk, hb⟩
  have hg : ((lnx p : Int) == (n : Int)) = false := beq_f (by omega)
  have HO := Lib.hid ho
  have HST := Lib.hid hst
  have HT := Lib.hid htk
  have HU := Lib.hid huk
  have HTT := Lib.hid hT
  have IH := Lib.hid ih
  have HC := Lib.hid hcons
  have HW0 := Lib.hid hw0
  clear hf ho hst htk huk hT ih hcons hw0
  go_enter Try.func58, Try.ntmps58
  go_wp2
  go_loopw [5, 28] (fun v i wr => ∃ (y : Nat) (L1 : List (List Nat)), i = .int .i64 y ∧ y ≤ m ∧ L1 = (L ++ lexY n m T U inj p y).take most ∧ SeaSt w wr base (.slice fa (lnx p) fc) vo v p L1) (fun _ i _ => m - (intOf i).toNat)
  case atStart => exact ⟨0, L, rfl, by omega, by simp [lexY]; exact (List.take_of_length_le (by have : L.length = lnx L := rfl; omega)).symm, HST.out⟩
  case round =>
    clear HST
    obtain ⟨y, L1, rfl, hy, hL1, hst⟩ := hrel
    have HL1 := Lib.hid hL1
    clear hL1
    by_cases hym : y < m
    · obtain ⟨oa, oc, rfl, hoc⟩ := hst.o.shape
      by_cases hfull : most ≤ lnx L1
      · have g1 : decide ((most : Int) ≤ (lnx L1 : Int)) = true := by simp; omega
        have hfin := sea_full hy hn HL1.out (.inl hfull)
        have HP : Hid (SeaPost w base vo ((L ++ lexExt (homB n m T U inj) m (n - lnx p) p).take most) (.returned (.slice oa (lnx L1) oc)) wr) := ⟨_, rfl, by rw [← hfin]; exact hst.o, hst.only, hst.loc⟩
        clear hst hfin
        go_wp2
        go_ret
        exact HP.out
      · have g1 : decide ((most : Int) ≤ (lnx L1 : Int)) = false := by simp; omega
        have HSL := Lib.hid (fun o => hst.f.ints.keep (Keeps.alloc wr o))
        have hbr := hst.hb
        have HST := Lib.hid hst
        clear hst
        go_wp2_with (at_builtin; refine wpList_app' _ rfl (.tmp 36) (.tmp 37) 31 rfl base 3 (.int .i64 0) 8 Try.underlying31 Try.infoInt rfl wr.heap.size 0 0 [] rfl (Value.int .i64) (.slice fa (lnx p) fc) (natsOf p) rfl (own_empty wr base 3 hbr) (HSL.out _) (fun _ => rfl) ?_ ?_ ?_ ?_)
        · rw [lnx_natsOf]; simp only [maxLen]; omega
        · rw [lnx_natsOf]; omega
        · simp only [World.size_alloc]; omega
        intro g1 c1 w1 hap1
        rw [lnx_natsOf, nv_map] at hap1
        rw [lnx_natsOf]
        have o1 : Only (fun _ => False) wr w1 := Only.grown ((Only.refl _ wr).alloc _) hap1.grown (fun k hk e => by simp [Value.ownBlock] at e; omega)
        have hloc : wr.heap.size ≤ g1 := by
          rcases hap1.at_ (k := g1) rfl with e | e
          · simp [Value.ownBlock] at e; omega
          · simp at e; omega
        have hg1 : OwnN w1 base (.slice (some ⟨g1, 0, none⟩) (lnx p) c1) p := by
          have h1 := hap1.own
          rw [Nat.zero_add, List.nil_append] at h1
          exact h1
        have e4 := hg1.alloc (.cells #[.int .i64 y] 3)
        have e2 := World.cell?_alloc_new w1 #[.int .i64 (y : Int)] 3 0
        have hsz1 := o1.size
        have HO1 := Lib.hid o1
        clear hap1 o1 hg1 HSL
        go_wp2_with (at_builtin; refine wpList_push _ rfl (.tmp 38) (.tmp 40) 31 rfl base 3 (.int .i64 0) 8 Try.underlying31 Try.infoInt rfl _ (lnx p) _ rfl w1.heap.size (.int .i64 y) rfl e4 e2 rfl ?_ ?_ ?_ ?_)
        · simp only [maxLen]; omega
        · omega
        · simp only [World.size_alloc]; omega
        intro r2 c2 w2 hap2
        have o2 : Only (fun _ => False) wr w2 := Only.grown (HO1.out.alloc (.cells #[.int .i64 y] 3)) hap2.grown (fun k hk e => by simp [Value.ownBlock] at e; omega)
        have hbel2 : Below wr.heap.size wr w2 := o2.below (by simp) (Nat.le_refl _)
        have hst2 := HST.out.call hbel2
        have hg2 : OwnN w2 base (.slice (some ⟨r2, 0, none⟩) (lnx p + 1) c2) (p ++ [y]) := OwnN.push hap2.own
        have hb2 := hst2.below HO.out HW0.out hs
        have hlp : lnx (p ++ [y]) = lnx p + 1 := by rw [lnx_append, lnx_one]
        have HFit := Lib.hid (fits_any w2 n m T U inj _ _ _ (lnx p) (p ++ [y]) (HT.out.keep (Keeps.below hb2)) (HU.out.keep (Keeps.below hb2)) hg2.ints hlp hn (fun i hi => by
          by_cases e : i = lnx p
          · subst e; rw [nthx_append_new]; exact hym
          · rw [nthx_append_lt p [y] (by omega)]; exact HC.out.lt i (by omega)))
        have HST2 := Lib.hid hst2
        have HG2 := Lib.hid hg2
        have HB2 := Lib.hid hb2
        have HLP := Lib.hid hlp
        clear hap2 o2 hbel2 hst2 hg2 hb2 hlp HO1 HST e4 e2
        go_wp2_with fail
        refine HFit.out.mono ?_
        rintro e w3 ⟨rr, rfl, hyes, hno, q, rfl⟩
        have hst3 := HST2.out.call (Below.quiet ⟨q, rfl⟩)
        have HST3 := Lib.hid hst3
        clear HFit HST2 hst3
        cases rr with
        | true =>
          have hcons2 := HC.out.snoc hym (hyes rfl)
          have hi := IH.out (w2.drewN q) (.slice (some ⟨r2, 0, none⟩) (lnx p + 1) c2) (.slice oa (lnx L1) oc) L1 (p ++ [y]) HLP.out (HG2.out.drewN q) HST3.out.o HST3.out.hb (Below.drewN' HB2.out q) (by omega) hcons2
          rw [HLP.out] at hi
          have HI := Lib.hid hi
          clear hyes hno hcons2 hi HG2 HB2
          go_wp2_with fail
          refine HI.out.mono ?_
          intro e w5 hp
          obtain ⟨v5, rfl, hst5⟩ := HST3.out.ext hp
          have hl5 := sea_list hym hn HL1.out (by omega) rfl
          rw [hl5] at hst5
          have HST5 := Lib.hid hst5
          clear hp HI HST3 hst5 hl5
          go_wp2
          go_roundw
          case rel => exact ⟨y + 1, _, by go_num, by omega, rfl, HST5.out⟩
          case measure => simp [intOf]; omega
        | false =>
          have hnone := fit_none (m := m) HTT.out hn (hno rfl) (n - (lnx p + 1))
          have hl5 : L1 = (L ++ lexY n m T U inj p (y + 1)).take most := sea_list hym hn HL1.out (by omega) (by rw [hnone, List.append_nil]; exact (List.take_of_length_le (by have : L1.length = lnx L1 := rfl; omega)).symm)
          have HL5 := Lib.hid hl5
          clear hyes hno hnone hl5 HG2 HB2
          go_wp2
          go_roundw
          case rel => exact ⟨y + 1, L1, by go_num, by omega, HL5.out, HST3.out⟩
          case measure => simp [intOf]; omega
    · have hfin := sea_full hy hn HL1.out (.inr (by omega))
      rw [hfin] at hst
      have HP := Lib.hid hst
      clear hst hfin
      go_wp2
      go_ret
      exact ⟨_, rfl, HP.out.o, HP.out.only, HP.out.loc⟩

theorem search_any (w0 : World) (base n m : Nat) (T U : Nat → Nat → Nat) (inj : Bool) (vt vu : Value) (most : Nat) (hs : w0.heap.size ≤ base) (ht : Tab w0 vt n T) (hu : Tab w0 vu m U) (hn : n ≤ 8) (hm : m ≤ 8) (hmo : most ≤ 3000) :
    ∀ k l, n - l ≤ k → l ≤ n → SeaIH w0 base n m T U inj vt vu most l := by
  have hT : ∀ r c, r < n → c < n → T r c < n := by
    obtain ⟨_, _, _, _, _, _, _, _, _, _, _, h⟩ := ht
    exact h
  have leaf : SeaIH w0 base n m T U inj vt vu most n := by
    intro w vf vo L p hl hf ho hb hw0 hL hc
    obtain ⟨b, o, cap, rb, ro, rc, rfl, _⟩ := ht
    refine (search_leaf w base n m inj _ _ vu vf vo most L p hf ho hb hl hn hL hmo).mono ?_
    intro e w' hp
    have h1 : lexExt (homB n m T U inj) m (n - lnx p) p = [p] := by
      rw [hl, Nat.sub_self]
      unfold lexExt
      rw [if_pos (hc.hom hl hT)]
    rw [h1, List.take_of_length_le (by simp [lnx] at hL ⊢; omega)]
    exact hp
  intro k
  induction k with
  | zero =>
    intro l hk hl
    obtain rfl : l = n := by omega
    exact leaf
  | succ k ih =>
    intro l hk hl
    by_cases e : l = n
    · rw [e]; exact leaf
    · intro w vf vo L p hlp hf ho hb hw0 hL hc
      exact search_branch w0 w base n m T U inj vt vu vf vo most L p hf ho hb hw0 hs ht hu (by omega) hn hm hL hmo hc (by rw [hlp]; exact ih (l + 1) (by omega) (by omega))

theorem refHoms_any (w : World) (n m : Nat) (T U : Nat → Nat → Nat) (inj : Bool) (vt vu : Value) (most : Nat) (ht : Tab w vt n T) (hu : Tab w vu m U) (hmo : most ≤ 3000) (hm0 : 0 < most) (hn : n ≤ 8) (hm : m ≤ 8) :
    Calls Try.prog 21 #[vt, vu, .bool inj, .int .i64 most] w (RunPost w ((homs n m T U inj).take most)) := by
  have h := search_any w w.heap.size n m T U inj vt vu most (Nat.le_refl _) ht hu hn hm hmo n 0 (by omega) (by omega) w (.slice none 0 0) (.slice none 0 0) [] [] rfl (OwnN.nil _ _) (FoundAt.nil _ _) (Nat.le_refl _) (Below.refl _ _) (by simpa [lnx] using hm0) (ConsP.nil _ _ _ _)
  rw [List.nil_append] at h
  have H := Lib.hid h
  clear h
  go_enter Try.func21, Try.ntmps21
  go_wp2_with fail
  refine H.out.mono ?_
  rintro e w' ⟨v, rfl, h1, h2, -⟩
  have HP : Hid (RunPost w ((homs n m T U inj).take most) (.returned v) w') := ⟨v, rfl, h1.rows, h2.below (by simp [Value.ownBlock]) (Nat.le_refl _)⟩
  clear h1 h2 H
  go_wp2
  go_ret
  exact HP.out
end Go.Proofs.Ytgghmjnbkbiffaa
