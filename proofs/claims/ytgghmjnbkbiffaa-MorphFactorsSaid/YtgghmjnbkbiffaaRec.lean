/-
  The walks of Set, Members, Image and IsHom of the references.
-/
import Derived.Test.YtgghmjnbkbiffaaCanon
import Derived.Test.YtgghmjnbkbiffaaImage
namespace Go.Proofs.Ytgghmjnbkbiffaa
open Go.RowKit
set_option linter.unusedVariables false

/-- A row of n truth values. -/
def Bits (w : World) (v : Value) (n : Nat) (p : Nat → Bool) : Prop := ∃ g cap, v = .slice (some ⟨g, 0, none⟩) n cap ∧ n ≤ cap ∧ cap ≤ 9223372036854775807 ∧ ∀ i, i < n → w.cell? ⟨g, i, none⟩ = some (.bool (p i))
theorem Bits.keep {w w' : World} {v : Value} {n : Nat} {p : Nat → Bool} (h : Bits w v n p) (hk : Keeps w w') : Bits w' v n p := by
  obtain ⟨g, cap, e, h1, h2, h3⟩ := h
  exact ⟨g, cap, e, h1, h2, fun i hi => hk _ _ (h3 i hi)⟩
theorem Bits.congr {w : World} {v : Value} {n : Nat} {p q : Nat → Bool} (h : Bits w v n p) (hk : ∀ i, i < n → p i = q i) : Bits w v n q := by
  obtain ⟨g, cap, e, h1, h2, h3⟩ := h
  exact ⟨g, cap, e, h1, h2, fun i hi => by rw [h3 i hi, hk i hi]⟩

open Classical in
/-- y is among the first k numbers. -/
noncomputable def setB (l : List Int) (k y : Nat) : Bool := decide (∃ i, i < k ∧ nthx l i = (y : Int))
open Classical in
theorem setB_iff {l : List Int} {k y : Nat} : setB l k y = true ↔ ∃ i, i < k ∧ nthx l i = (y : Int) := by simp [setB]
theorem setB_succ (l : List Int) (k y : Nat) : setB l (k + 1) y = if nthx l k = (y : Int) then true else setB l k y := by
  rw [Bool.eq_iff_iff]
  by_cases e : nthx l k = (y : Int)
  · rw [if_pos e, setB_iff]
    simp only [iff_true]
    exact ⟨k, by omega, e⟩
  · rw [if_neg e, setB_iff, setB_iff]
    constructor
    · rintro ⟨i, hi, h⟩
      by_cases e2 : i = k
      · subst e2; exact absurd h e
      · exact ⟨i, by omega, h⟩
    · rintro ⟨i, hi, h⟩
      exact ⟨i, by omega, h⟩

def SetPost (w : World) (n : Nat) (p : Nat → Bool) (e : Ending) (w' : World) : Prop := ∃ v, e = .returned v ∧ Bits w' v n p ∧ Below w.heap.size w w'

set_option maxRecDepth 100000 in
set_option maxHeartbeats 1000000 in
theorem set_any (w : World) (n : Nat) (hn : n ≤ 1000000) (v : Value) (xs : List Int) (hv : Ints w v xs) :
    Calls Try.prog 70 #[v, .int .i64 n] w (SetPost w n (setB xs (lnx xs))) := by
  obtain ⟨a, cap, rfl, hcap, hmx, hv⟩ := hv
  have HV := Lib.hid hv
  have hmk := fun W => run_mk (P := Try.prog) Try.underlying60 Try.infoBool rfl n (by omega) (by omega) W
  clear hv
  go_enter Try.func70, Try.ntmps70
  go_wp2
  clear hmk
  go_loopw [12] (fun i wr => ∃ k : Nat, k ≤ lnx xs ∧ i = .int .i64 k ∧ Arr 4 wr w.heap.size n (fun j => .bool (setB xs k j)) ∧ Below w.heap.size w wr) (fun i _ => lnx xs - (intOf i).toNat)
  case atStart => exact ⟨0, by omega, rfl, (Arr.zeros _ _ _ _).congr (fun i hi => by simp [setB]), (Below.refl _ _).alloc (Nat.le_refl _) _⟩
  case round =>
    obtain ⟨k, hk, rfl, hA, hb⟩ := hrel
    have hsz := hA.lt
    by_cases hlt : k < lnx xs
    · obtain ⟨pb, po, rfl, hc⟩ := HV.out (by omega)
      have hck := (Keeps.below hb) _ _ (hc k hlt)
      clear hc
      by_cases hin : 0 ≤ nthx xs k ∧ nthx xs k < (n : Int)
      · obtain ⟨y, hy⟩ : ∃ y : Nat, nthx xs k = (y : Int) := ⟨(nthx xs k).toNat, by omega⟩
        have hyn : y < n := by omega
        have c1 := hA.cell hyn
        have c2 := hA.frozen y
        have P1 : Hid (Arr 4 (wr.setCell ⟨w.heap.size, y, none⟩ (.bool true)) w.heap.size n (fun j => .bool (setB xs (k + 1) j)) ∧ Below w.heap.size w (wr.setCell ⟨w.heap.size, y, none⟩ (.bool true))) :=
          ⟨(hA.set_ y (.bool true)).congr (fun i hi => by rw [setB_succ, hy]; by_cases e : i = y <;> simp [e, Int.ofNat_inj]; intro e2; omega), hb.setCell (p := ⟨w.heap.size, y, none⟩) (Nat.le_refl _) _⟩
        rw [hy] at hck
        clear hA hb hy hin
        go_wp2
        go_roundw
        case rel => exact ⟨k + 1, by omega, by go_num, P1.out⟩
        case measure => simp [intOf]; omega
      · have P1 : Hid (Arr 4 wr w.heap.size n (fun j => .bool (setB xs (k + 1) j)) ∧ Below w.heap.size w wr) :=
          ⟨hA.congr (fun i hi => by rw [setB_succ, if_neg (by omega)]), hb⟩
        clear hA hb
        go_wp2
        all_goals
          go_roundw
          case rel => exact ⟨k + 1, by omega, by go_num, P1.out⟩
          case measure => simp [intOf]; omega
    · have P1 : Hid (SetPost w n (setB xs (lnx xs)) (.returned (.slice (some ⟨w.heap.size, 0, none⟩) n n)) wr) := by
        refine ⟨_, rfl, ⟨_, _, rfl, Nat.le_refl _, by omega, fun i hi => ?_⟩, hb⟩
        have : k = lnx xs := by omega
        subst this
        exact hA.cell hi
      clear hA hb
      go_wp2
      go_ret
      exact P1.out

set_option maxRecDepth 100000 in
set_option maxHeartbeats 1000000 in
theorem members_any (w : World) (n : Nat) (hn : n ≤ 1000000) (v : Value) (p : Nat → Bool) (hv : Bits w v n p) :
    Calls Try.prog 69 #[v] w (CanPost w (natsOf ((List.range n).filter p))) := by
  obtain ⟨g, cap, rfl, hcap, hmx, hv⟩ := hv
  have HV := Lib.hid hv
  clear hv
  go_enter Try.func69, Try.ntmps69
  go_wp2
  go_loopw [3, 8] (fun v i wz => ∃ y : Nat, y ≤ n ∧ i = .int .i64 y ∧ Below w.heap.size w wz ∧ OwnN wz w.heap.size v ((List.range y).filter p)) (fun _ i _ => n - (intOf i).toNat)
  case atStart => exact ⟨0, by omega, rfl, Below.refl _ _, OwnN.nil _ _⟩
  case round =>
    obtain ⟨y, hy, rfl, hb, ho⟩ := hrel
    have hsz2 := hb.size
    by_cases hym : y < n
    · have c1 := (Keeps.below hb) _ _ (HV.out y hym)
      have hfl := filter_len p y
      cases hhas : p y with
      | false =>
        rw [hhas] at c1
        have hs := filter_succ p y
        rw [hhas, if_neg (by simp)] at hs
        rw [← hs] at ho
        have P1 : Hid (Below w.heap.size w wr ∧ OwnN wr w.heap.size u3 ((List.range (y + 1)).filter p)) := ⟨hb, ho⟩
        clear hb ho hs hhas
        go_wp2
        go_roundw
        case rel => exact ⟨y + 1, by omega, by go_num, P1.out⟩
        case measure => simp [intOf]; omega
      | true =>
        rw [hhas] at c1
        have hs := filter_succ p y
        rw [hhas, if_pos rfl] at hs
        have e4 := ho.alloc (.cells #[.int .i64 y] 3)
        have e2 := World.cell?_alloc_new wr #[.int .i64 (y : Int)] 3 0
        have HBB := Lib.hid hb
        have HO := Lib.hid ho
        have HS := Lib.hid hs
        clear hb ho hs hhas
        go_wp2_with (at_builtin; refine wpList_push _ rfl _ _ 31 rfl w.heap.size 3 (.int .i64 0) 8 Try.underlying31 Try.infoInt rfl _ _ _ rfl wr.heap.size (.int .i64 y) rfl e4 e2 rfl ?_ ?_ ?_ ?_)
        · simp only [maxLen]; omega
        · omega
        · simp only [World.size_alloc]; omega
        intro r2 c2 w2 hap
        have ho2 : Only (fun k => w.heap.size ≤ k) wr w2 := Only.grown ((Only.refl _ wr).alloc _) hap.grown (fun k hk e => (HO.out.lt e).1)
        have P1 : Hid (Below w.heap.size w w2 ∧ OwnN w2 w.heap.size (.slice (some ⟨r2, 0, none⟩) (lnx ((List.range y).filter p) + 1) c2) ((List.range (y + 1)).filter p)) :=
          ⟨HBB.out.trans (ho2.below (by omega) (by omega)), by rw [HS.out]; exact OwnN.push hap.own⟩
        clear hap ho2 HBB HO HS e4 e2
        go_wp2
        go_roundw
        case rel => exact ⟨y + 1, by omega, by go_num, P1.out⟩
        case measure => simp [intOf]; omega
    · have P1 : Hid (CanPost w (natsOf ((List.range n).filter p)) (.returned u3) wr) := ⟨_, rfl, by
        have := ho.ints
        rw [show y = n by omega] at this
        exact this, hb⟩
      clear hb ho
      go_wp2
      go_ret
      exact P1.out

set_option maxRecDepth 100000 in
set_option maxHeartbeats 1000000 in
theorem refImage_any (w : World) (vu vf : Value) (s : List (List Int)) (f : List Int) (hs : Rows2 w vu s) (hf : Ints w vf f) (hm : lnx s ≤ 1000) (hin : inB (lnx s) f = true) :
    Calls Try.prog 35 #[vu, vf] w (CanPost w (natsOf (imgN (lnx s) f))) := by
  have H1 := Lib.hid (set_any w (lnx s) (by omega) vf f hf)
  have HE : Hid ((List.range (lnx s)).filter (setB f (lnx f)) = imgN (lnx s) f) := by
    show _ = _
    unfold imgN
    apply List.filter_congr
    intro y hy
    rw [Bool.eq_iff_iff, setB_iff, hasB_iff]
    constructor
    · rintro ⟨i, hi, e⟩
      refine ⟨i, hi, ?_⟩
      unfold nat_
      omega
    · rintro ⟨i, hi, e⟩
      refine ⟨i, hi, ?_⟩
      rw [← (nat_cast hin hi).1, e]
  obtain ⟨a', cap', rfl, h1', h2', -⟩ := hs
  clear hf hin
  go_enter Try.func35, Try.ntmps35
  go_wp2_with fail
  refine H1.out.mono ?_
  rintro e w1 ⟨u, rfl, hu, hb⟩
  have H2 := Lib.hid (members_any w1 _ (by omega) u _ hu)
  have HB := Lib.hid hb
  clear hu hb H1
  go_wp2_with fail
  refine H2.out.mono ?_
  rintro e w2 ⟨u2, rfl, hu, hb⟩
  have P1 : Hid (CanPost w (natsOf (imgN (lnx s) f)) (.returned u2) w2) := ⟨_, rfl, by rw [← HE.out]; exact hu, belowThen HB.out hb⟩
  clear hu hb
  go_wp2
  go_ret
  exact P1.out

set_option maxRecDepth 100000 in
set_option maxHeartbeats 1000000 in
theorem refIsHom_any (w : World) (vt vu vf : Value) (t s : List (List Int)) (f : List Int) (ht : Rows2 w vt t) (hs : Rows2 w vu s) (hf : Ints w vf f) :
    Calls Try.prog 34 #[vt, vu, vf] w fun e w' => e = .returned (.bool (isHomB t s f)) ∧ Quiet w w' := by
  have HT := Lib.hid ht
  have HS := Lib.hid hs
  have HF := Lib.hid hf
  have H1 := Lib.hid (validRef_any w vt t ht)
  have H2 := Lib.hid (fun q => validRef_any (w.drewN q) vu s (hs.keep (Keeps.drewN w q)))
  obtain ⟨a', cap', e', h1', h2', -⟩ := hs
  have H3 := Lib.hid (fun q => inRef_any (w.drewN q) a' cap' (lnx s) (by omega) vf f (hf.keep (Keeps.drewN w q)))
  by_cases e1 : vErr t = 0
  case neg =>
    have g2 : (vErr t == 0) = false := beq_f e1
    have HV : Hid (isHomB t s f = false) := by show _ = _; unfold isHomB; rw [g2]; simp
    rw [g2] at H1
    clear e' h1' h2' H3 e1
    go_enter Try.func34, Try.ntmps34
    go_wp2_with fail
    refine H1.out.mono ?_
    rintro e w' ⟨rfl, hq⟩
    have HQ := Lib.hid hq
    clear hq
    go_wp2
    go_ret
    exact ⟨ret_bool HV.out.symm, HQ.out⟩
  have gt1 : (vErr t == 0) = true := beq_t e1
  rw [gt1] at H1
  by_cases e2 : vErr s = 0
  case neg =>
    have g2 : (vErr s == 0) = false := beq_f e2
    have HV : Hid (isHomB t s f = false) := by show _ = _; unfold isHomB; rw [g2]; simp
    rw [g2] at H2
    clear e' h1' h2' H3 e1 e2 gt1
    go_enter Try.func34, Try.ntmps34
    go_wp2_with fail
    refine H1.out.mono ?_
    rintro e w' ⟨rfl, q, rfl⟩
    go_wp2_with fail
    refine (H2.out q).mono ?_
    rintro e w' ⟨rfl, q2, rfl⟩
    go_wp2
    go_ret
    exact ⟨ret_bool HV.out.symm, ⟨_, rfl⟩⟩
  have gt2 : (vErr s == 0) = true := beq_t e2
  rw [gt2] at H2
  have HV : Hid (isHomB t s f = homL (lnx t) (lnx s) (tabOf t) (tabOf s) f) := by show _ = _; unfold isHomB; rw [e1, e2]; simp
  have htab := Tab.of_rows HT.out (vErr_inv e1).1
  have hsab := Tab.of_rows HS.out (vErr_inv e2).1
  rw [HV.out]
  clear HT HS HF HV e1 e2 gt1 gt2 ht
  obtain ⟨n, hn⟩ : ∃ n, lnx t = n := ⟨_, rfl⟩
  obtain ⟨m, hm⟩ : ∃ m, lnx s = m := ⟨_, rfl⟩
  obtain ⟨T, hTT⟩ : ∃ n, tabOf t = n := ⟨_, rfl⟩
  obtain ⟨U, hUU⟩ : ∃ m, tabOf s = m := ⟨_, rfl⟩
  rw [hn, hTT] at htab
  rw [hm, hUU] at hsab
  rw [hn, hm, hTT, hUU]
  rw [hm] at H3 e' h1'
  clear hn hm hTT hUU
  obtain ⟨b, o, cap, rb, ro, rc, rfl, h0, h4, hR, hC, hT⟩ := htab
  obtain ⟨ub, uo, ucap, urb, uro, urc, rfl, uh0, uh4, uR, uC, hU⟩ := hsab
  injection e' with ee1 ee2 ee3
  subst ee1 ee3
  clear ee2
  obtain ⟨fa, fc, rfl, hf1, hf2, hf3⟩ := hf
  by_cases hl : lnx f = n
  case neg =>
    have g1 : ((lnx f : Int) != (n : Int)) = true := bne_t (by omega)
    have HV := Lib.hid (homL_len (m := m) (T := T) (U := U) hl)
    clear hf3 hR hC hT uR uC hU
    go_enter Try.func34, Try.ntmps34
    go_wp2_with fail
    refine H1.out.mono ?_
    rintro e w' ⟨rfl, q, rfl⟩
    go_wp2_with fail
    refine (H2.out q).mono ?_
    rintro e w' ⟨rfl, q2, rfl⟩
    go_wp2
    go_ret
    exact ⟨ret_bool HV.out.symm, ⟨_, rfl⟩⟩
  have g1 : ((lnx f : Int) != (n : Int)) = false := bne_f (by rw [hl])
  cases hin : inB m f with
  | false =>
    rw [hin] at H3
    have HV := Lib.hid (homL_in (n := n) (T := T) (U := U) hin)
    clear hf3 hR hC hT uR uC hU hl hin
    go_enter Try.func34, Try.ntmps34
    go_wp2_with fail
    refine H1.out.mono ?_
    rintro e w' ⟨rfl, q, rfl⟩
    go_wp2_with fail
    refine (H2.out q).mono ?_
    rintro e w' ⟨rfl, q2, rfl⟩
    go_wp2_with fail
    refine (H3.out (q + q2)).mono ?_
    rintro e w' ⟨rfl, rfl⟩
    go_wp2
    go_ret
    exact ⟨ret_bool HV.out.symm, ⟨_, rfl⟩⟩
  | true =>
    rw [hin] at H3
    obtain ⟨pb, po, rfl, hpc⟩ := hf3 (by omega)
    have hP : ∀ i, i < n → w.cell? ⟨pb, po + i, none⟩ = some (.int .i64 ((nat_ f i : Nat) : Int)) := fun i hi => by
      rw [hpc i (by omega), (nat_cast hin (by omega)).1]
    have hpm : ∀ i, i < n → nat_ f i < m := fun i hi => (nat_cast hin (by omega)).2
    have HL := Lib.hid hl
    have HIN := Lib.hid hin
    rw [hl] at H3 ⊢
    clear hf3 hpc hl hin g1 hf1
    have g1 : ((n : Int) != (n : Int)) = false := bne_f rfl
    go_enter Try.func34, Try.ntmps34
    go_wp2_with fail
    refine H1.out.mono ?_
    rintro e w' ⟨rfl, q, rfl⟩
    clear H1
    go_wp2_with fail
    refine (H2.out q).mono ?_
    rintro e w' ⟨rfl, q2, rfl⟩
    clear H2
    go_wp2_with fail
    refine (H3.out (q + q2)).mono ?_
    rintro e w' ⟨rfl, rfl⟩
    clear H3
    go_wp2
    go_loopw [32] (fun i wr => ∃ x : Nat, x ≤ n ∧ i = .int .i64 x ∧ (∃ k, wr = w.drewN k) ∧ ∀ a b, a < x → b < n → nat_ f (T a b) = U (nat_ f a) (nat_ f b)) (fun i _ => n - (intOf i).toNat)
    case atStart => exact ⟨0, by omega, rfl, ⟨_, rfl⟩, by omega⟩
    case round =>
      obtain ⟨x, hx, rfl, ⟨k1, rfl⟩, hX⟩ := hrel
      have HX := Lib.hid hX
      clear hX
      by_cases hxn : x < n
      · go_wp2
        go_loopw [37] (fun i wr => ∃ y : Nat, y ≤ n ∧ i = .int .i64 y ∧ (∃ k, wr = w.drewN k) ∧ ∀ b, b < y → nat_ f (T x b) = U (nat_ f x) (nat_ f b)) (fun i _ => n - (intOf i).toNat)
        case atStart => exact ⟨0, by omega, rfl, ⟨_, rfl⟩, by omega⟩
        case round =>
          obtain ⟨y, hy, rfl, ⟨k2, rfl⟩, hY⟩ := hrel
          have HY := Lib.hid hY
          clear hY
          by_cases hyn : y < n
          · by_cases heq : nat_ f (T x y) = U (nat_ f x) (nat_ f y)
            · have g2 : (((nat_ f (T x y) : Nat) : Int) != ((U (nat_ f x) (nat_ f y) : Nat) : Int)) = false := bne_f (by rw [heq])
              have HE := Lib.hid heq
              clear heq
              go_wp2
              go_quiet (fail)
              go_wp2
              go_roundw
              case rel => exact ⟨y + 1, by omega, by go_num, ⟨_, rfl⟩, fun c hc => by
                by_cases hcz : c < y
                · exact HY.out c hcz
                · obtain rfl : c = y := by omega
                  exact HE.out⟩
              case measure => simp [intOf]; omega
            · have g2 : (((nat_ f (T x y) : Nat) : Int) != ((U (nat_ f x) (nat_ f y) : Nat) : Int)) = true := bne_t (by omega)
              have HV := Lib.hid (homL_bad (m := m) hxn hyn heq)
              clear heq
              go_wp2
              go_quiet (fail)
              go_wp2
              go_ret
              exact ⟨ret_bool HV.out.symm, quiet2 _ _ _⟩
          · go_wp2
            go_roundw
            case rel => exact ⟨x + 1, by omega, by go_num, ⟨_, rfl⟩, fun a c ha hc => by
              by_cases hax : a < x
              · exact HX.out a c hax hc
              · obtain rfl : a = x := by omega
                exact HY.out c (by omega)⟩
            case measure => simp [intOf]; omega
      · have HV := Lib.hid (homL_good (T := T) (U := U) HL.out HIN.out (fun a c ha hc => HX.out a c (by omega) hc))
        go_wp2
        go_ret
        exact ⟨ret_bool HV.out.symm, ⟨_, rfl⟩⟩
end Go.Proofs.Ytgghmjnbkbiffaa
