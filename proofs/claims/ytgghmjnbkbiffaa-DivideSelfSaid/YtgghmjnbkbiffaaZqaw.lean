/-
  The walks of Set, Members, Image and IsHom of the references.
  The elements that some elements generate, and the walk of ref14.Generated.
  Extensions of maps of generators, in plain Lean.
  The walk of the closure of morph.Extend: 'reach'.
-/
import Derived.Test.YtgghmjnbkbiffaaZqav
import Derived.Test.YtgghmjnbkbiffaaZqau
import Derived.Test.YtgghmjnbkbiffaaZqaq
import Derived.Test.YtgghmjnbkbiffaaZqao
namespace Go.Proofs.Ytgghmjnbkbiffaa
open Go.RowKit
set_option linter.unusedVariables false

/-- A row of n truth values. -/
def Bits (w : World) (v : Value) (n : Nat) (p : Nat → Bool) : Prop := ∃ g cap, v = .slice (some ⟨g, 0, none⟩) n cap ∧ n ≤ cap ∧ cap ≤ 9223372036854775807 ∧ ∀ i, i < n → w.cell? ⟨g, i, none⟩ = some (.bool (p i))
theorem Bits.keep {w w' : World} {v : Value} {n : Nat} {p : Nat → Bool} (h : Bits w v n p) (hk : Keeps w w') : Bits w' v n p := by
  obtain ⟨g, cap, e, h1, h2, h3⟩ := h
  exact ⟨g, cap, e, h1, h2, fun i hi => hk _ _ (h3 i hi)⟩
theorem Bits.congr {w : World} {v : Value} {n : Nat} {p q : Nat → Bool} (h : Bits w v n p) (hk : ∀ i, i < n → p i = q i) : Bits w v n q := by
  obtain ⟨g, cap, e, h1, h2, h3⟩ := h
  exact ⟨g, cap, e, h1, h2, fun i hi => by rw [h3 i hi, hk i hi]⟩

open Classical in
/-- y is among the first k numbers. -/
noncomputable def setB (l : List Int) (k y : Nat) : Bool := decide (∃ i, i < k ∧ nthx l i = (y : Int))
open Classical in
theorem setB_iff {l : List Int} {k y : Nat} : setB l k y = true ↔ ∃ i, i < k ∧ nthx l i = (y : Int) := by simp [setB]
theorem setB_succ (l : List Int) (k y : Nat) : setB l (k + 1) y = if nthx l k = (y : Int) then true else setB l k y := by
  rw [Bool.eq_iff_iff]
  by_cases e : nthx l k = (y : Int)
  · rw [if_pos e, setB_iff]
    simp only [iff_true]
    exact ⟨k, by omega, e⟩
  · rw [if_neg e, setB_iff, setB_iff]
    constructor
    · rintro ⟨i, hi, h⟩
      by_cases e2 : i = k
      · subst e2; exact absurd h e
      · exact ⟨i, by omega, h⟩
    · rintro ⟨i, hi, h⟩
      exact ⟨i, by omega, h⟩

set_option maxRecDepth 100000 in
set_option maxHeartbeats 1000000 in
theorem members_any (w : World) (n : Nat) (hn : n ≤ 1000000) (v : Value) (p : Nat → Bool) (hv : Bits w v n p) :
    Calls Try.prog 69 #[v] w (CanPost w (natsOf ((List.range n).filter p))) := by
  obtain ⟨g, cap, rfl, hcap, hmx, hv⟩ := hv
  have HV := Lib.hid hv
  clear hv
  go_enter Try.func69, Try.ntmps69
  go_wp2
  go_loopw [3, 8] (fun v i wz => ∃ y : Nat, y ≤ n ∧ i = .int .i64 y ∧ Below w.heap.size w wz ∧ OwnN wz w.heap.size v ((List.range y).filter p)) (fun _ i _ => n - (intOf i).toNat)
  case atStart => exact ⟨0, by omega, rfl, Below.refl _ _, OwnN.nil _ _⟩
  case round =>
    obtain ⟨y, hy, rfl, hb, ho⟩ := hrel
    have hsz2 := hb.size
    by_cases hym : y < n
    · have c1 := (Keeps.below hb) _ _ (HV.out y hym)
      have hfl := filter_len p y
      cases hhas : p y with
      | false =>
        rw [hhas] at c1
        have hs := filter_succ p y
        rw [hhas, if_neg (by simp)] at hs
        rw [← hs] at ho
        have P1 : Hid (Below w.heap.size w wr ∧ OwnN wr w.heap.size u3 ((List.range (y + 1)).filter p)) := ⟨hb, ho⟩
        clear hb ho hs hhas
        go_wp2
        go_roundw
        case rel => exact ⟨y + 1, by omega, by go_num, P1.out⟩
        case measure => simp [intOf]; omega
      | true =>
        rw [hhas] at c1
        have hs := filter_succ p y
        rw [hhas, if_pos rfl] at hs
        have e4 := ho.alloc (.cells #[.int .i64 y] 3)
        have e2 := World.cell?_alloc_new wr #[.int .i64 (y : Int)] 3 0
        have HBB := Lib.hid hb
        have HO := Lib.hid ho
        have HS := Lib.hid hs
        clear hb ho hs hhas
        go_wp2_with (at_builtin; refine wpList_push _ rfl _ _ 31 rfl w.heap.size 3 (.int .i64 0) 8 Try.underlying31 Try.infoInt rfl _ _ _ rfl wr.heap.size (.int .i64 y) rfl e4 e2 rfl ?_ ?_ ?_ ?_)
        · simp only [maxLen]; omega
        · omega
        · simp only [World.size_alloc]; omega
        intro r2 c2 w2 hap
        have ho2 : Only (fun k => w.heap.size ≤ k) wr w2 := Only.grown ((Only.refl _ wr).alloc _) hap.grown (fun k hk e => (HO.out.lt e).1)
        have P1 : Hid (Below w.heap.size w w2 ∧ OwnN w2 w.heap.size (.slice (some ⟨r2, 0, none⟩) (lnx ((List.range y).filter p) + 1) c2) ((List.range (y + 1)).filter p)) :=
          ⟨HBB.out.trans (ho2.below (by omega) (by omega)), by rw [HS.out]; exact OwnN.push hap.own⟩
        clear hap ho2 HBB HO HS e4 e2
        go_wp2
        go_roundw
        case rel => exact ⟨y + 1, by omega, by go_num, P1.out⟩
        case measure => simp [intOf]; omega
    · have P1 : Hid (CanPost w (natsOf ((List.range n).filter p)) (.returned u3) wr) := ⟨_, rfl, by
        have := ho.ints
        rw [show y = n by omega] at this
        exact this, hb⟩
      clear hb ho
      go_wp2
      go_ret
      exact P1.out

end Go.Proofs.Ytgghmjnbkbiffaa

namespace Go.Proofs.Ytgghmjnbkbiffaa
open Go.RowKit
set_option linter.unusedVariables false

/-- The products of the generators. -/
inductive Gen (n : Nat) (T : Nat → Nat → Nat) (gens : List Int) : Nat → Prop
  | base {x : Nat} (i : Nat) : i < lnx gens → nthx gens i = (x : Int) → x < n → Gen n T gens x
  | mul {x y : Nat} : Gen n T gens x → Gen n T gens y → Gen n T gens (T x y)
theorem Gen.lt {n : Nat} {T : Nat → Nat → Nat} {gens : List Int} (hT : ∀ r c, r < n → c < n → T r c < n) {x : Nat} (h : Gen n T gens x) : x < n := by
  induction h with
  | base i hi e hx => exact hx
  | mul _ _ h1 h2 => exact hT _ _ h1 h2
open Classical in
noncomputable def genB (n : Nat) (T : Nat → Nat → Nat) (gens : List Int) (x : Nat) : Bool := decide (Gen n T gens x)
open Classical in
theorem genB_iff {n : Nat} {T : Nat → Nat → Nat} {gens : List Int} {x : Nat} : genB n T gens x = true ↔ Gen n T gens x := by simp [genB]

def bF (p : Nat → Bool) : Nat → Int := fun i => if p i = true then 0 else -1
def onB (p : Nat → Bool) (z : Nat) : Nat → Bool := fun j => if j = z then true else p j
theorem bF_on (p : Nat → Bool) (z : Nat) : bF (onB p z) = upd (bF p) z 0 := by
  funext j
  unfold bF onB upd
  by_cases e : j = z <;> simp [e]
def offC (n : Nat) (p : Nat → Bool) : Nat := undC n (bF p)
theorem offC_on {n : Nat} {p : Nat → Bool} {z : Nat} (hz : z < n) (h : p z = false) : offC n (onB p z) + 1 = offC n p := by
  unfold offC
  rw [bF_on]
  exact undC_upd (bF p) (by simp [bF, h]) (by omega) n hz
theorem offC_le (n : Nat) (p : Nat → Bool) : offC n p ≤ n := undC_le _ _

/-- Between the generators and what they generate. -/
structure GInv (n : Nat) (T : Nat → Nat → Nat) (gens : List Int) (p : Nat → Bool) : Prop where
  base : ∀ i, i < n → setB gens (lnx gens) i = true → p i = true
  gen : ∀ i, i < n → p i = true → Gen n T gens i
theorem GInv.start (n : Nat) (T : Nat → Nat → Nat) (gens : List Int) : GInv n T gens (setB gens (lnx gens)) :=
  ⟨fun i _ h => h, fun i hi h => by
    obtain ⟨j, hj, e⟩ := setB_iff.1 h
    exact .base j hj e hi⟩
theorem GInv.step {n : Nat} {T : Nat → Nat → Nat} {gens : List Int} {p : Nat → Bool} (h : GInv n T gens p) {x y : Nat} (hx : x < n) (hy : y < n) (px : p x = true) (py : p y = true) : GInv n T gens (onB p (T x y)) :=
  ⟨fun i hi hb => by unfold onB; by_cases e : i = T x y <;> simp [e, h.base i hi hb], fun i hi hb => by
    unfold onB at hb
    by_cases e : i = T x y
    · rw [e]; exact .mul (h.gen x hx px) (h.gen y hy py)
    · simp [e] at hb
      exact h.gen i hi hb⟩
theorem GInv.done {n : Nat} {T : Nat → Nat → Nat} {gens : List Int} {p : Nat → Bool} (h : GInv n T gens p) (hT : ∀ r c, r < n → c < n → T r c < n) (hc : ∀ a b, a < n → b < n → p a = true → p b = true → p (T a b) = true) (i : Nat) (hi : i < n) : p i = genB n T gens i := by
  rw [Bool.eq_iff_iff, genB_iff]
  refine ⟨h.gen i hi, fun hg => ?_⟩
  clear hi
  induction hg with
  | base j hj e hx => exact h.base _ hx (setB_iff.2 ⟨j, hj, e⟩)
  | mul h1 h2 e1 e2 => exact hc _ _ (h1.lt hT) (h2.lt hT) e1 e2

def SetArr (w : World) (n : Nat) (p : Nat → Bool) (e : Ending) (w' : World) : Prop := e = .returned (.slice (some ⟨w.heap.size, 0, none⟩) n n) ∧ Arr 4 w' w.heap.size n (fun j => .bool (p j)) ∧ Below w.heap.size w w'

set_option maxRecDepth 100000 in
set_option maxHeartbeats 1000000 in
theorem set_arr (w : World) (n : Nat) (hn : n ≤ 1000000) (v : Value) (xs : List Int) (hv : Ints w v xs) :
    Calls Try.prog 70 #[v, .int .i64 n] w (SetArr w n (setB xs (lnx xs))) := by
  obtain ⟨a, cap, rfl, hcap, hmx, hv⟩ := hv
  have HV := Lib.hid hv
  have hmk := fun W => run_mk (P := Try.prog) Try.underlying60 Try.infoBool rfl n (by omega) (by omega) W
  clear hv
  go_enter Try.func70, Try.ntmps70
  go_wp2
  clear hmk
  go_loopw [12] (fun i wr => ∃ k : Nat, k ≤ lnx xs ∧ i = .int .i64 k ∧ Arr 4 wr w.heap.size n (fun j => .bool (setB xs k j)) ∧ Below w.heap.size w wr) (fun i _ => lnx xs - (intOf i).toNat)
  case atStart => exact ⟨0, by omega, rfl, (Arr.zeros _ _ _ _).congr (fun i hi => by simp [setB]), (Below.refl _ _).alloc (Nat.le_refl _) _⟩
  case round =>
    obtain ⟨k, hk, rfl, hA, hb⟩ := hrel
    have hsz := hA.lt
    by_cases hlt : k < lnx xs
    · obtain ⟨pb, po, rfl, hc⟩ := HV.out (by omega)
      have hck := (Keeps.below hb) _ _ (hc k hlt)
      clear hc
      by_cases hin : 0 ≤ nthx xs k ∧ nthx xs k < (n : Int)
      · obtain ⟨y, hy⟩ : ∃ y : Nat, nthx xs k = (y : Int) := ⟨(nthx xs k).toNat, by omega⟩
        have hyn : y < n := by omega
        have c1 := hA.cell hyn
        have c2 := hA.frozen y
        have P1 : Hid (Arr 4 (wr.setCell ⟨w.heap.size, y, none⟩ (.bool true)) w.heap.size n (fun j => .bool (setB xs (k + 1) j)) ∧ Below w.heap.size w (wr.setCell ⟨w.heap.size, y, none⟩ (.bool true))) :=
          ⟨(hA.set_ y (.bool true)).congr (fun i hi => by rw [setB_succ, hy]; by_cases e : i = y <;> simp [e, Int.ofNat_inj]; intro e2; omega), hb.setCell (p := ⟨w.heap.size, y, none⟩) (Nat.le_refl _) _⟩
        rw [hy] at hck
        clear hA hb hy hin
        go_wp2
        go_roundw
        case rel => exact ⟨k + 1, by omega, by go_num, P1.out⟩
        case measure => simp [intOf]; omega
      · have P1 : Hid (Arr 4 wr w.heap.size n (fun j => .bool (setB xs (k + 1) j)) ∧ Below w.heap.size w wr) :=
          ⟨hA.congr (fun i hi => by rw [setB_succ, if_neg (by omega)]), hb⟩
        clear hA hb
        go_wp2
        all_goals
          go_roundw
          case rel => exact ⟨k + 1, by omega, by go_num, P1.out⟩
          case measure => simp [intOf]; omega
    · have P1 : Hid (SetArr w n (setB xs (lnx xs)) (.returned (.slice (some ⟨w.heap.size, 0, none⟩) n n)) wr) := by
        refine ⟨rfl, ?_, hb⟩
        have : k = lnx xs := by omega
        subst this
        exact hA
      clear hA hb
      go_wp2
      go_ret
      exact P1.out

structure GSt (w : World) (n : Nat) (T : Nat → Nat → Nat) (gens : List Int) (p : Nat → Bool) (wr : World) : Prop where
  arr : Arr 4 wr w.heap.size n (fun j => .bool (p j))
  below : Below w.heap.size w wr
  inv : GInv n T gens p
theorem GSt.step {w wr : World} {n : Nat} {T : Nat → Nat → Nat} {gens : List Int} {p : Nat → Bool} (h : GSt w n T gens p wr) {x y : Nat} (hx : x < n) (hy : y < n) (px : p x = true) (py : p y = true) : GSt w n T gens (onB p (T x y)) (wr.setCell ⟨w.heap.size, T x y, none⟩ (.bool true)) :=
  ⟨(h.arr.set_ _ _).congr (fun i hi => by unfold onB; by_cases e : i = T x y <;> simp [e]), h.below.setCell (p := ⟨w.heap.size, T x y, none⟩) (Nat.le_refl _) _, h.inv.step hx hy px py⟩

set_option maxRecDepth 100000 in
set_option maxHeartbeats 2000000 in
theorem generated_any (w : World) (n : Nat) (T : Nat → Nat → Nat) (vt vg : Value) (gens : List Int) (ht : Tab w vt n T) (hg : Ints w vg gens) :
    Calls Try.prog 67 #[vt, vg] w (CanPost w (natsOf ((List.range n).filter (genB n T gens)))) := by
  obtain ⟨b, o, cap, rb, ro, rc, rfl, h0, h4, hR, hC, hT⟩ := ht
  have H1 := Lib.hid (set_arr w n (by omega) vg gens hg)
  have HR := Lib.hid hR
  have HC := Lib.hid hC
  have HT := Lib.hid hT
  clear hg hR hC hT
  go_enter Try.func67, Try.ntmps67
  go_wp2_with fail
  refine H1.out.mono ?_
  rintro e w1 ⟨rfl, hA, hb⟩
  have HS : Hid (GSt w n T gens (setB gens (lnx gens)) w1) := ⟨hA, hb, GInv.start n T gens⟩
  clear hA hb H1
  go_wp2
  go_loopg [6] (n + 1) (fun kk c wr => ∃ (p : Nat → Bool) (ch : Bool), c = .bool ch ∧ GSt w n T gens p wr ∧ (ch = true → offC n p + 1 ≤ kk) ∧ (ch = false → ∀ a b, a < n → b < n → p a = true → p b = true → p (T a b) = true))
  case atStart => exact ⟨_, true, rfl, HS.out, fun _ => (by have := offC_le n (setB gens (lnx gens)); omega), fun h => by cases h⟩
  case round =>
    clear HS
    obtain ⟨p0, ch, rfl, hst, hfu, hcl⟩ := hrel
    cases ch with
    | false =>
      have hM : Bits wr (.slice (some ⟨w.heap.size, 0, none⟩) n n) n p0 := ⟨_, _, rfl, Nat.le_refl _, by omega, fun i hi => hst.arr.cell hi⟩
      have H2 := Lib.hid (members_any wr n (by omega) _ _ (hM.congr (hst.inv.done HT.out (hcl rfl))))
      have HB := Lib.hid hst.below
      clear hst hM hcl
      go_wp2_with fail
      refine H2.out.mono ?_
      rintro e w2 ⟨u, rfl, hu, hb⟩
      have P1 : Hid (CanPost w (natsOf ((List.range n).filter (genB n T gens))) (.returned u) w2) := ⟨_, rfl, hu, HB.out.trans (hb.mono HB.out.size)⟩
      clear hu hb
      go_wp2
      go_ret
      exact P1.out
    | true =>
      have hfu := hfu rfl
      obtain ⟨c0, hc0⟩ : ∃ c0, c0 = offC n p0 := ⟨_, rfl⟩
      rw [← hc0] at hfu
      have HFU := Lib.hid hfu
      clear hfu
      have HST : Hid (∃ p, GSt w n T gens p wr ∧ offC n p ≤ c0) := ⟨p0, hst, by omega⟩
      clear hst hcl hc0
      go_wp2
      go_loopg [6, 16] n (fun kk c i wr => ∃ (p : Nat → Bool) (ch : Bool) (x : Nat), c = .bool ch ∧ i = .int .i64 x ∧ x ≤ n ∧ n - x ≤ kk ∧ GSt w n T gens p wr ∧ (offC n p + (if ch = true then 1 else 0) ≤ c0) ∧ (ch = false → ∀ a b, a < x → b < n → p a = true → p b = true → p (T a b) = true))
      case atStart =>
        obtain ⟨p, h1, h2⟩ := HST.out
        exact ⟨p, false, 0, rfl, rfl, by omega, by omega, h1, by simpa using h2, fun _ a b ha => by omega⟩
      case round =>
        clear HST
        obtain ⟨p1, ch, x, rfl, rfl, hx, hkx, hst, hof, hcl⟩ := hrel
        by_cases hxn : x < n
        · have HST := Lib.hid hst
          have HCL := Lib.hid hcl
          clear hst hcl
          go_wp2
          go_loopg [6, 21] n (fun kk c i wr => ∃ (p : Nat → Bool) (ch : Bool) (y : Nat), c = .bool ch ∧ i = .int .i64 y ∧ y ≤ n ∧ n - y ≤ kk ∧ GSt w n T gens p wr ∧ (offC n p + (if ch = true then 1 else 0) ≤ c0) ∧ (ch = false → (∀ a b, a < x → b < n → p a = true → p b = true → p (T a b) = true) ∧ ∀ b, b < y → p x = true → p b = true → p (T x b) = true))
          case atStart => exact ⟨p1, ch, 0, rfl, rfl, by omega, by omega, HST.out, hof, fun h => ⟨HCL.out h, fun b hb => by omega⟩⟩
          case round =>
            clear HST HCL hof
            clear p1 ch
            obtain ⟨p, ch, y, rfl, rfl, hy, hky, hst, hof, hcl⟩ := hrel
            by_cases hyn : y < n
            · have hTz := HT.out x y hxn hyn
              have hkp := Keeps.below hst.below
              have r1 := hkp _ _ (HR.out x hxn)
              have r2 := hkp _ _ (HC.out x y hxn hyn)
              have cx := hst.arr.cell hxn
              have cy := hst.arr.cell hyn
              have cz := hst.arr.cell hTz
              have fz := hst.arr.frozen (T x y)
              have hsz := hst.arr.lt
              have HST := Lib.hid hst
              have HCL := Lib.hid hcl
              clear hst hcl hkp
              by_cases hall : p x = true ∧ p y = true ∧ p (T x y) = false
              · obtain ⟨px, py, pz⟩ := hall
                have P1 := Lib.hid (HST.out.step hxn hyn px py)
                have hoff := offC_on hTz pz
                have HO : Hid (offC n (onB p (T x y)) + (if true = true then 1 else 0) ≤ c0) := by
                  show _ ≤ _
                  rw [if_pos rfl]
                  split at hof <;> omega
                rw [px] at cx
                rw [py] at cy
                rw [pz] at cz
                clear px py pz hoff hof HST HCL
                go_wp2
                go_roundg (n - (y + 1))
                case measure => omega
                case rel => exact ⟨_, true, y + 1, rfl, by go_num, by omega, Nat.le_refl _, P1.out, HO.out, fun h => by cases h⟩
              · have HCL2 : Hid (ch = false → (∀ a b, a < x → b < n → p a = true → p b = true → p (T a b) = true) ∧ ∀ b, b < y + 1 → p x = true → p b = true → p (T x b) = true) := fun h => ⟨(HCL.out h).1, fun c hc hpx hpc => by
                  by_cases e : c < y
                  · exact (HCL.out h).2 c e hpx hpc
                  · obtain rfl : c = y := by omega
                    cases e2 : p (T x c) with
                    | true => rfl
                    | false => exact absurd ⟨hpx, hpc, e2⟩ hall⟩
                have HO := Lib.hid hof
                clear HCL hof
                cases px : p x with
                | false =>
                  rw [px] at cx
                  clear px hall
                  go_wp2
                  go_roundg (n - (y + 1))
                  case measure => omega
                  case rel => exact ⟨_, ch, y + 1, rfl, by go_num, by omega, Nat.le_refl _, HST.out, HO.out, HCL2.out⟩
                | true =>
                  rw [px] at cx
                  cases py : p y with
                  | false =>
                    rw [py] at cy
                    clear px py hall
                    go_wp2
                    go_roundg (n - (y + 1))
                    case measure => omega
                    case rel => exact ⟨_, ch, y + 1, rfl, by go_num, by omega, Nat.le_refl _, HST.out, HO.out, HCL2.out⟩
                  | true =>
                    rw [py] at cy
                    have pz : p (T x y) = true := by
                      cases e2 : p (T x y) with
                      | true => rfl
                      | false => exact absurd ⟨px, py, e2⟩ hall
                    rw [pz] at cz
                    clear px py pz hall
                    go_wp2
                    go_roundg (n - (y + 1))
                    case measure => omega
                    case rel => exact ⟨_, ch, y + 1, rfl, by go_num, by omega, Nat.le_refl _, HST.out, HO.out, HCL2.out⟩
            · have P1 : Hid (GSt w n T gens p wr ∧ (offC n p + (if ch = true then 1 else 0) ≤ c0) ∧ (ch = false → ∀ a b, a < x + 1 → b < n → p a = true → p b = true → p (T a b) = true)) := ⟨hst, hof, fun h a c ha hc hpa hpc => by
                by_cases e : a < x
                · exact (hcl h).1 a c e hc hpa hpc
                · obtain rfl : a = x := by omega
                  exact (hcl h).2 c (by omega) hpa hpc⟩
              clear hst hof hcl
              go_wp2
              go_roundg (n - (x + 1))
              case measure => omega
              case rel => exact ⟨p, ch, x + 1, rfl, by go_num, by omega, Nat.le_refl _, P1.out⟩
        · have P1 : Hid (GSt w n T gens p1 wr ∧ (ch = true → offC n p1 + 1 ≤ c0) ∧ (ch = false → ∀ a b, a < n → b < n → p1 a = true → p1 b = true → p1 (T a b) = true)) := ⟨hst, fun h => by
              subst h
              simpa using hof, fun h a b ha hb => hcl h a b (by omega) hb⟩
          clear hst hof hcl
          go_wp2
          go_roundg c0
          case measure => exact HFU.out
          case rel => exact ⟨p1, ch, rfl, P1.out⟩
end Go.Proofs.Ytgghmjnbkbiffaa

namespace Go.Proofs.Ytgghmjnbkbiffaa
open Go.RowKit
set_option linter.unusedVariables false

/-- f is the homomorphism that extends the map of the generators. -/
structure ExtOK (t : List (List Int)) (gens : List Int) (s : List (List Int)) (images : List Int) (f : List Int) : Prop where
  vt : vErr t = 0
  vs : vErr s = 0
  len : lnx gens = lnx images
  ing : inB (lnx t) gens = true
  ini : inB (lnx s) images = true
  gen : ∀ x, x < lnx t → Gen (lnx t) (tabOf t) gens x
  hom : homL (lnx t) (lnx s) (tabOf t) (tabOf s) f = true
  on : ∀ i, i < lnx gens → nat_ f (nat_ gens i) = nat_ images i

theorem nat_of {gens : List Int} {i x : Nat} (e : nthx gens i = (x : Int)) : nat_ gens i = x := by unfold nat_; rw [e]; exact Int.toNat_natCast _
/-- The cells of a map in the making. -/
structure EInv (t : List (List Int)) (gens : List Int) (s : List (List Int)) (images : List Int) (k : Nat) (F : Nat → Int) : Prop where
  rng : ∀ x, x < lnx t → -1 ≤ F x ∧ F x < (lnx s : Int)
  on : ∀ i, i < k → F (nat_ gens i) = (nat_ images i : Int)
  sound : ∀ f, ExtOK t gens s images f → ∀ x, x < lnx t → 0 ≤ F x → (nat_ f x : Int) = F x

theorem EInv.start (t : List (List Int)) (gens : List Int) (s : List (List Int)) (images : List Int) : EInv t gens s images 0 (fun _ => -1) :=
  ⟨fun x _ => by omega, fun i hi => by omega, fun f _ x _ h => by omega⟩
theorem EInv.gen {t : List (List Int)} {gens : List Int} {s : List (List Int)} {images : List Int} {k : Nat} {F : Nat → Int} (h : EInv t gens s images k F) (hk : k < lnx gens) (hl : lnx gens = lnx images) (hi : inB (lnx s) images = true)
    (hc : F (nat_ gens k) < 0 ∨ F (nat_ gens k) = (nat_ images k : Int)) : EInv t gens s images (k + 1) (upd F (nat_ gens k) (nat_ images k)) := by
  refine ⟨fun x hx => ?_, fun i hi2 => ?_, fun f hf x hx h0 => ?_⟩
  · have := (nat_cast hi (i := k) (by omega)).2
    by_cases e : x = nat_ gens k
    · rw [e, upd_same]; omega
    · rw [upd_other F _ e]; exact h.rng x hx
  · by_cases e : nat_ gens i = nat_ gens k
    · rw [e, upd_same]
      by_cases e2 : i = k
      · rw [e2]
      · have := h.on i (by omega)
        rw [e] at this
        rcases hc with hc | hc
        · omega
        · omega
    · rw [upd_other F _ e]
      by_cases e2 : i = k
      · rw [e2] at e; exact absurd rfl e
      · exact h.on i (by omega)
  · by_cases e : x = nat_ gens k
    · rw [e, upd_same, hf.on k hk]
    · rw [upd_other F _ e] at h0 ⊢
      exact h.sound f hf x hx h0
theorem EInv.clash {t : List (List Int)} {gens : List Int} {s : List (List Int)} {images : List Int} {k : Nat} {F : Nat → Int} (h : EInv t gens s images k F) (hk : k < lnx gens)
    (h0 : 0 ≤ F (nat_ gens k)) (hc : F (nat_ gens k) ≠ (nat_ images k : Int)) (f : List Int) : ¬ ExtOK t gens s images f := by
  intro hf
  have hx := (nat_cast hf.ing hk).2
  have := h.sound f hf _ hx h0
  rw [hf.on k hk] at this
  exact hc this.symm
/-- A product of two whose images are known. -/
theorem EInv.mul {t : List (List Int)} {gens : List Int} {s : List (List Int)} {images : List Int} {k : Nat} {F : Nat → Int} (h : EInv t gens s images k F) (hU : ∀ r c, r < lnx s → c < lnx s → tabOf s r c < lnx s) {x y fx fy : Nat} (hx : x < lnx t) (hy : y < lnx t) (ex : F x = fx) (ey : F y = fy)
    (hz : F (tabOf t x y) < 0) : EInv t gens s images k (upd F (tabOf t x y) (tabOf s fx fy)) := by
  have hfx : fx < lnx s := by have := h.rng x hx; omega
  have hfy : fy < lnx s := by have := h.rng y hy; omega
  refine ⟨fun a ha => ?_, fun i hi => ?_, fun f hf a ha h0 => ?_⟩
  · have := hU fx fy hfx hfy
    by_cases e : a = tabOf t x y
    · rw [e, upd_same]; omega
    · rw [upd_other F _ e]; exact h.rng a ha
  · by_cases e : nat_ gens i = tabOf t x y
    · have := h.on i hi
      rw [e] at this
      omega
    · rw [upd_other F _ e]; exact h.on i hi
  · by_cases e : a = tabOf t x y
    · rw [e, upd_same, (homL_inv hf.hom).2.2 x y hx hy]
      have e1 := h.sound f hf x hx (by omega)
      have e2 := h.sound f hf y hy (by omega)
      rw [show nat_ f x = fx by omega, show nat_ f y = fy by omega]
    · rw [upd_other F _ e] at h0 ⊢
      exact h.sound f hf a ha h0
theorem EInv.no {t : List (List Int)} {gens : List Int} {s : List (List Int)} {images : List Int} {k : Nat} {F : Nat → Int} (h : EInv t gens s images k F) {x y fx fy : Nat} (hx : x < lnx t) (hy : y < lnx t) (ex : F x = fx) (ey : F y = fy) (hzl : tabOf t x y < lnx t)
    (h0 : 0 ≤ F (tabOf t x y)) (hz : F (tabOf t x y) ≠ (tabOf s fx fy : Int)) (f : List Int) : ¬ ExtOK t gens s images f := by
  intro hf
  have e1 := h.sound f hf x hx (by omega)
  have e2 := h.sound f hf y hy (by omega)
  have e3 := h.sound f hf _ hzl h0
  rw [(homL_inv hf.hom).2.2 x y hx hy, show nat_ f x = fx by omega, show nat_ f y = fy by omega] at e3
  exact hz e3.symm

/-- The first n values as a list. -/
def listF (F : Nat → Int) (n : Nat) : List Int := (List.range n).map F
theorem lnx_listF (F : Nat → Int) (n : Nat) : lnx (listF F n) = n := by simp [listF, lnx]
theorem nthx_listF (F : Nat → Int) {n i : Nat} (h : i < n) : nthx (listF F n) i = F i := by simp [listF, nthx, h]
theorem nat_listF (F : Nat → Int) {n i : Nat} (h : i < n) : nat_ (listF F n) i = (F i).toNat := by unfold nat_; rw [nthx_listF F h]

theorem EInv.is {t : List (List Int)} {gens : List Int} {s : List (List Int)} {images : List Int} {k : Nat} {F : Nat → Int} (h : EInv t gens s images k F) (h0 : ∀ x, x < lnx t → 0 ≤ F x) {f : List Int} (hf : ExtOK t gens s images f) : f = listF F (lnx t) := by
  obtain ⟨f1, f2, f3⟩ := homL_inv hf.hom
  refine list_ext (by rw [lnx_listF]; exact f1) (fun i hi => ?_)
  rw [nthx_listF F (by omega), ← (nat_cast f2 hi).1]
  exact h.sound f hf i (by omega) (h0 i (by omega))
theorem EInv.ok {t : List (List Int)} {gens : List Int} {s : List (List Int)} {images : List Int} {F : Nat → Int} (h : EInv t gens s images (lnx gens) F) (vt : vErr t = 0) (vs : vErr s = 0) (hl : lnx gens = lnx images) (hg : inB (lnx t) gens = true) (hi : inB (lnx s) images = true)
    (gen : ∀ x, x < lnx t → Gen (lnx t) (tabOf t) gens x) (hh : homL (lnx t) (lnx s) (tabOf t) (tabOf s) (listF F (lnx t)) = true) : ExtOK t gens s images (listF F (lnx t)) :=
  ⟨vt, vs, hl, hg, hi, gen, hh, fun i hi2 => by
    rw [nat_listF F (nat_cast hg hi2).2, h.on i hi2]
    exact Int.toNat_natCast _⟩
theorem all_gen {n : Nat} {T : Nat → Nat → Nat} {gens : List Int} : lnx (natsOf ((List.range n).filter (genB n T gens))) = n ↔ ∀ x, x < n → Gen n T gens x := by
  rw [lnx_natsOf]
  have h : lnx ((List.range n).filter (genB n T gens)) = n ↔ ((List.range n).filter (genB n T gens)).length = (List.range n).length := by simp [lnx]
  rw [h, List.length_filter_eq_length_iff]
  constructor
  · intro h x hx
    exact genB_iff.1 (h x (by simpa using hx))
  · intro h x hx
    exact genB_iff.2 (h x (by simpa using hx))
end Go.Proofs.Ytgghmjnbkbiffaa

namespace Go.Proofs.Ytgghmjnbkbiffaa
open Go.RowKit
set_option linter.unusedVariables false

/-- What the closure finds: the box of f, f itself, the box of reached, reached. -/
structure ReIn (w : World) (base n gb gi gm : Nat) (F : Nat → Int) (vm : Value) (made : List Nat) : Prop where
  box : Arr 31 w gb 1 (fun _ => .slice (some ⟨gi, 0, none⟩) n n)
  arr : Arr 3 w gi n (fun j => .int .i64 (F j))
  mbox : Arr 31 w gm 1 (fun _ => vm)
  own : OwnN w base vm made
  b1 : gb < base
  b2 : gi < base
  b3 : gm < base
  n1 : gb ≠ gi
  n2 : gb ≠ gm
  n3 : gi ≠ gm
  len : lnx made ≤ 400
  hb : base ≤ w.heap.size
theorem ReIn.drewN {w : World} {base n gb gi gm : Nat} {F : Nat → Int} {vm : Value} {made : List Nat} (h : ReIn w base n gb gi gm F vm made) (k : Nat) : ReIn (w.drewN k) base n gb gi gm F vm made := ⟨h.box, h.arr, h.mbox, h.own, h.b1, h.b2, h.b3, h.n1, h.n2, h.n3, h.len, h.hb⟩
theorem ReIn.drew {w : World} {base n gb gi gm : Nat} {F : Nat → Int} {vm : Value} {made : List Nat} (h : ReIn w base n gb gi gm F vm made) : ReIn w.drew base n gb gi gm F vm made := ⟨h.box, h.arr, h.mbox, h.own, h.b1, h.b2, h.b3, h.n1, h.n2, h.n3, h.len, h.hb⟩

end Go.Proofs.Ytgghmjnbkbiffaa
