/-
  The walk of mult.spanning.
-/
import Derived.Test.YtgghmjnbkbiffaaSpan
namespace Go.Proofs.Ytgghmjnbkbiffaa
open Go.RowKit
set_option linter.unusedVariables false

/-- What holds at the head of each loop of spanning: B is the heap's size at the call. -/
structure SpanSt (w wr : World) (n : Nat) (T : Nat → Nat → Nat) (vg vm : Value) (gens made : List Nat) : Prop where
  sp : SpanIn wr (w.heap.size + 3) n (w.heap.size + 1 + 1) (w.heap.size + 1) w.heap.size (memB made) vm made
  own : OwnN wr (w.heap.size + 3) vg gens
  ap : ∀ k, vg.ownBlock = some k → vm.ownBlock ≠ some k
  below : Below w.heap.size w wr
  nums : SpanNums n T gens made

theorem SpanSt.add {w wr w' : World} {n : Nat} {T : Nat → Nat → Nat} {vg vm : Value} {gens made : List Nat} (h : SpanSt w wr n T vg vm gens made) {x : Nat} (hx : x < n) (hm : Made T gens x) {e : Ending}
    (hp : SpanAdds wr (w.heap.size + 3) n (w.heap.size + 1 + 1) (w.heap.size + 1) w.heap.size vm made x e w') :
    e = .returned (.tuple #[]) ∧ ∃ vm', SpanSt w w' n T vg vm' gens (addN made x) ∧ (∀ g, vm.ownBlock = some g → ∀ j, j < lnx made → w'.cell? ⟨g, j, none⟩ = some (.int .i64 ((nthx made j : Nat) : Int))) ∧ (∀ k, vm'.ownBlock = some k → vm.ownBlock = some k ∨ wr.heap.size ≤ k) ∧
      Only (fun k => k = w.heap.size + 1 ∨ k = w.heap.size ∨ vm.ownBlock = some k) wr w' := by
  obtain ⟨rfl, vm', h1, h2, h3, h4⟩ := hp
  refine ⟨rfl, vm', ⟨h1, ?_, ?_, ?_, h.nums.add hx hm⟩, h4, h3, h2⟩
  · refine h.own.only h2 (fun k hk => ?_)
    have := (h.own.lt hk).1
    have := h.ap k hk
    rintro (e | e | e)
    · omega
    · omega
    · exact this e
  · intro k hk e
    have := (h.own.lt hk).2
    rcases h3 k e with e | e
    · exact h.ap k hk e
    · omega
  · have hs := h.sp.hb
    refine h.below.trans (h2.below ?_ (by omega))
    intro k hk
    rintro (e | e | e)
    · omega
    · omega
    · have := (h.sp.own.lt e).1
      omega
theorem SpanSt.push {w wr w' : World} {n : Nat} {T : Nat → Nat → Nat} {vg vm : Value} {gens made : List Nat} (h : SpanSt w wr n T vg vm gens made) {x r cap : Nat} (hx : x < n) {o : Obj}
    (hp : App (w.heap.size + 3) 3 (wr.alloc o) w' vg (.slice (some ⟨r, 0, none⟩) (lnx gens + 1) cap) (lnx gens) 1 (gens.map fun x : Nat => Value.int .i64 (x : Int)) [Value.int .i64 (x : Int)]) :
    SpanSt w w' n T (.slice (some ⟨r, 0, none⟩) (lnx gens + 1) cap) vm (gens ++ [x]) made := by
  have hal := h.own.alloc o
  have ho : Only (fun k => vg.ownBlock = some k) wr w' := (Only.grown ((Only.refl _ wr).alloc o) hp.grown (fun k _ e => e))
  have hs := h.sp.hb
  have hsz := ho.size
  have b1 := h.sp.b1
  have b2 := h.sp.b2
  have b3 := h.sp.b3
  have hfar : ∀ k, k < w.heap.size + 3 → ¬ vg.ownBlock = some k := fun k hk e => by
    have := (h.own.lt e).1
    omega
  refine ⟨⟨h.sp.box.only ho (hfar _ b1), h.sp.arr.only ho (hfar _ b2), h.sp.mbox.only ho (hfar _ b3), ?_, b1, b2, b3, h.sp.n1, h.sp.n2, h.sp.n3, h.sp.len, by omega⟩, OwnN.push hp.own, ?_, ?_, ?_⟩
  · exact h.sp.own.only ho (fun k hk e => h.ap k e hk)
  · intro k hk e
    have hlt := (h.sp.own.lt e).2
    rcases hp.at_ hk with e2 | e2
    · exact h.ap k e2 e
    · simp at e2; omega
  · exact h.below.trans (ho.below (fun k hk => hfar k (by omega)) (by omega))
  · exact ⟨h.nums.nd, h.nums.lt, fun y hy => (h.nums.prod y hy).mono (fun z hz => by simp [hz]), fun y hy => by
      simp at hy
      rcases hy with hy | rfl
      · exact h.nums.glt y hy
      · exact hx⟩

theorem SpanSt.drewN {w wr : World} {n : Nat} {T : Nat → Nat → Nat} {vg vm : Value} {gens made : List Nat} (h : SpanSt w wr n T vg vm gens made) (k : Nat) : SpanSt w (wr.drewN k) n T vg vm gens made :=
  ⟨⟨h.sp.box, h.sp.arr, h.sp.mbox, h.sp.own, h.sp.b1, h.sp.b2, h.sp.b3, h.sp.n1, h.sp.n2, h.sp.n3, h.sp.len, h.sp.hb⟩, h.own, h.ap, Below.drewN' h.below k, h.nums⟩

theorem SpanSt.start (w : World) (n : Nat) (T : Nat → Nat → Nat) :
    SpanSt w (((w.alloc (.cells #[.slice none 0 0] 31)).alloc (.cells (zeros (.bool false) n) 4)).alloc (.cells #[.slice (some ⟨w.heap.size + 1, 0, none⟩) n n] 60)) n T (.slice none 0 0) (.slice none 0 0) [] [] := by
  refine ⟨⟨?_, ?_, ?_, OwnN.nil _ _, by omega, by omega, by omega, by omega, by omega, by omega, by simp [lnx], by simp⟩, OwnN.nil _ _, by simp [Value.ownBlock], ?_, ⟨by simp, by simp, by simp, by simp⟩⟩
  · have := Arr.one 60 ((w.alloc (.cells #[.slice none 0 0] 31)).alloc (.cells (zeros (.bool false) n) 4)) (.slice (some ⟨w.heap.size + 1, 0, none⟩) n n)
    simpa using this
  · have := (Arr.zeros 4 (w.alloc (.cells #[.slice none 0 0] 31)) (.bool false) n).alloc (.cells #[.slice (some ⟨w.heap.size + 1, 0, none⟩) n n] 60)
    simpa [memB] using this
  · exact ((Arr.one 31 w (.slice none 0 0)).alloc _).alloc _
  · exact ((((Below.refl _ _).alloc (Nat.le_refl _) _).alloc (by simp) _).alloc (by simp; omega) _)

/-- What spanning answers. -/
def SpanRes (w : World) (n : Nat) (T : Nat → Nat → Nat) (e : Ending) (w' : World) : Prop :=
  ∃ v gens, e = .returned v ∧ Ints w' v (natsOf gens) ∧ (∀ i, i < lnx gens → nthx gens i < n) ∧ (∀ x, x < n → Made T gens x) ∧ Below w.heap.size w w'

theorem OwnN.shape {w : World} {base : Nat} {v : Value} {xs : List Nat} (h : OwnN w base v xs) : ∃ a c, v = .slice a (lnx xs) c ∧ lnx xs ≤ c ∧ c ≤ 9223372036854775807 ∧ (0 < lnx xs → ∃ g, a = some ⟨g, 0, none⟩ ∧ base ≤ g ∧ ∀ j, j < lnx xs → w.cell? ⟨g, j, none⟩ = some (.int .i64 ((nthx xs j : Nat) : Int))) := by
  rcases h.2 with ⟨rfl, h0⟩ | ⟨g, cap, cur, rfl, hb, hg, hnc, hm, _, htake⟩
  · exact ⟨none, 0, by rw [h0], by omega, by omega, fun hh => by omega⟩
  · refine ⟨_, cap, rfl, hnc, by simpa [maxLen] using hm, fun _ => ⟨g, rfl, hb, fun j hj => ?_⟩⟩
    have := World.ownsRow.cells h (g := g) rfl j (.int .i64 ((nthx xs j : Nat) : Int)) (by simp [nthx, lnx] at hj ⊢; simp [hj])
    rw [Addr.add_lit] at this
    simpa using this

/-- The cells of an elder row of made stay. -/
theorem SpanSt.old {w wr w' : World} {n : Nat} {T : Nat → Nat → Nat} {vg vm : Value} {gens made' : List Nat} (h : SpanSt w wr n T vg vm gens made')
    (hk : ∀ g, vm.ownBlock = some g → ∀ j, j < lnx made' → w'.cell? ⟨g, j, none⟩ = some (.int .i64 ((nthx made' j : Nat) : Int)))
    (ho : Only (fun k => k = w.heap.size + 1 ∨ k = w.heap.size ∨ vm.ownBlock = some k) wr w') {g0 q : Nat} (hg0 : w.heap.size + 3 ≤ g0) (made : List Nat) (hpre : ∀ i, i < q → nthx made' i = nthx made i) (hq : q ≤ lnx made')
    (hc : ∀ i, i < q → wr.cell? ⟨g0, i, none⟩ = some (.int .i64 ((nthx made i : Nat) : Int))) : ∀ i, i < q → w'.cell? ⟨g0, i, none⟩ = some (.int .i64 ((nthx made i : Nat) : Int)) := by
  intro i hi
  by_cases hb : vm.ownBlock = some g0
  · rw [hk g0 hb i (by omega), hpre i hi]
  · have hlt := World.block_lt_of_cell? wr _ (hc i hi)
    have := ho.block g0 hlt (by rintro (e | e | e); omega; omega; exact hb e)
    rw [World.cell?_of_block (w := wr) (w' := w') this]
    exact hc i hi

theorem SpanSt.nth_lt {w wr : World} {n : Nat} {T : Nat → Nat → Nat} {vg vm : Value} {gens made : List Nat} (h : SpanSt w wr n T vg vm gens made) {i : Nat} (hi : i < lnx made) : nthx made i < n := h.nums.lt _ (nthx_mem hi)
theorem SpanSt.nth_made {w wr : World} {n : Nat} {T : Nat → Nat → Nat} {vg vm : Value} {gens made : List Nat} (h : SpanSt w wr n T vg vm gens made) {i : Nat} (hi : i < lnx made) : Made T gens (nthx made i) := h.nums.prod _ (nthx_mem hi)

set_option maxHeartbeats 2000000 in
theorem spanning_any (w : World) (v : Value) (n : Nat) (T : Nat → Nat → Nat) (hv : Tab w v n T) :
    Calls Try.prog 93 #[v] w (SpanRes w n T) := by
  obtain ⟨b, o, cap, rb, ro, rc, rfl, h0, h4, hR, hC, hT⟩ := hv
  have HR := Lib.hid hR
  have HC := Lib.hid hC
  have HT := Lib.hid hT
  clear hR hC hT
  have hmk := fun W => run_mk (P := Try.prog) Try.underlying60 Try.infoBool rfl n (by omega) (by omega) W
  have hmf : ∀ (fn : Fn) (first cap : Array Value) (w : World), (Instr.makeFunc fn first cap).run Try.prog w = .ok (.func fn first cap) w := fun _ _ _ _ => rfl
  go_enter Try.func93, Try.ntmps93
  go_wp2
  clear hmk hmf
  go_loopw [3, 7, 18] (fun vg mu i wr => ∃ (k m : Nat) (vm : Value) (gens made : List Nat), k ≤ n ∧ i = .int .i64 k ∧ mu = .int .i64 m ∧ m ≤ lnx made ∧ lnx gens ≤ k ∧ SpanSt w wr n T vg vm gens made ∧ (∀ x, x < k → Made T gens x)) (fun _ _ i _ => n - (intOf i).toNat)
  case atStart => exact ⟨0, 0, .slice none 0 0, [], [], by omega, rfl, rfl, by simp [lnx], by simp [lnx], SpanSt.start w n T, by omega⟩
  case round =>
    obtain ⟨k, m, vm, gens, made, hk, rfl, rfl, hm, hgk, hst, hmd⟩ := hrel
    have HMD := Lib.hid hmd
    clear hmd
    by_cases hlt : k < n
    · have c1 := hst.sp.box.cell (i := 0) (by omega)
      have c2 := hst.sp.arr.cell hlt
      by_cases hmem : k ∈ made
      · have hb : memB made k = true := by simp [memB, hmem]
        rw [hb] at c2
        have HST := Lib.hid hst
        clear hst hb
        go_wp2
        go_roundw
        case rel => exact ⟨k + 1, m, vm, gens, made, by omega, by go_num, rfl, hm, by omega, HST.out, fun x hx => by
          by_cases hxk : x < k
          · exact HMD.out x hxk
          · obtain rfl : x = k := by omega
            exact HST.out.nums.prod x hmem⟩
        case measure => simp [intOf]; omega
      · have hb : memB made k = false := by simp [memB, hmem]
        rw [hb] at c2
        have e4 := hst.own.alloc (.cells #[.int .i64 k] 3)
        have e2 := World.cell?_alloc_new wr #[.int .i64 (k : Int)] 3 0
        have hsz := hst.sp.hb
        have HST := Lib.hid hst
        clear hst hb
        go_wp2_with (at_builtin; refine wpList_push _ rfl _ _ 31 rfl (w.heap.size + 3) 3 (.int .i64 0) 8 Try.underlying31 Try.infoInt rfl _ (lnx gens) _ rfl wr.heap.size (.int .i64 k) rfl e4 e2 rfl ?_ ?_ ?_ ?_)
        · simp only [maxLen]; omega
        · omega
        · simp; omega
        intro r cap' w2 hap
        have hst2 := HST.out.push hlt hap
        clear hap HST e4 e2 c1 c2 hsz
        have hmk : Made T (gens ++ [k]) k := Made.gen (by simp)
        have HAdd := Lib.hid (spanAdd w2 _ n _ _ _ vm made hst2.sp k hlt h4 hst2.nums.nd hst2.nums.lt)
        have HST := Lib.hid hst2
        clear hst2
        go_wp2_with fail
        refine HAdd.out.mono ?_
        intro e w3 hp
        obtain ⟨rfl, vm3, hst3, -, -, -⟩ := HST.out.add hlt hmk hp
        clear hp HAdd HST
        have hm3 : m ≤ lnx (addN made k) := Nat.le_trans hm (addN_len _ _)
        have hk3 : k ∈ addN made k := (addN_mem _ _ _).2 (.inr rfl)
        have HM : Hid (∀ x, x < k → Made T (gens ++ [k]) x) := fun x hx => (HMD.out x hx).mono (fun z hz => by simp [hz])
        have hgk3 : lnx (gens ++ [k]) ≤ k + 1 := by rw [lnx_append, lnx_one]; omega
        obtain ⟨made3, hmade3⟩ : ∃ made3, made3 = addN made k := ⟨_, rfl⟩
        rw [← hmade3] at hst3 hm3 hk3
        obtain ⟨gens3, hgens3⟩ : ∃ gens3, gens3 = gens ++ [k] := ⟨_, rfl⟩
        rw [← hgens3] at hst3 hgk3 HM
        clear hmade3 hgens3 HMD hm hmem hmk hgk
        have HST3 := Lib.hid hst3
        clear hst3
        go_wp2
        go_loopw [7] (fun mu wr => ∃ (m : Nat) (vm : Value) (made : List Nat), mu = .int .i64 m ∧ m ≤ lnx made ∧ k ∈ made ∧ SpanSt w wr n T (.slice (some ⟨r, 0, none⟩) (lnx gens + 1) cap') vm gens3 made) (fun mu _ => n - (intOf mu).toNat)
        case atStart => exact ⟨m, vm3, made3, rfl, hm3, hk3, HST3.out⟩
        case round =>
          clear HST3 hm3 hk3
          obtain ⟨mm, vm, md, rfl, hmm, hkm, hst⟩ := hrel
          have hlen : lnx md ≤ n := hst.nums.len
          obtain ⟨ma, mc, rfl, hmc1, hmc2, hmc3⟩ := hst.sp.own.shape
          have c1 := hst.sp.mbox.cell (i := 0) (by omega)
          by_cases hmlt : mm < lnx md
          · obtain ⟨g0, rfl, hg0, hcs⟩ := hmc3 (by omega)
            have c2 := hcs mm hmlt
            have HCS := Lib.hid hcs
            clear hmc3 hcs
            obtain ⟨x, hx⟩ : ∃ x, nthx md mm = x := ⟨_, rfl⟩
            rw [hx] at c2
            have hxn : x < n := by rw [← hx]; exact hst.nth_lt hmlt
            have hxm : Made T gens3 x := by rw [← hx]; exact hst.nth_made hmlt
            clear hx
            have HST := Lib.hid hst
            clear hst
            go_wp2
            have hml1 : mm + 1 ≤ lnx md := by omega
            go_loopw [47] (fun j wz => ∃ (jj : Nat) (vm' : Value) (md' : List Nat), j = .int .i64 jj ∧ jj ≤ mm + 1 ∧ k ∈ md' ∧ lnx md ≤ lnx md' ∧ SpanSt w wz n T (.slice (some ⟨r, 0, none⟩) (lnx gens + 1) cap') vm' gens3 md' ∧ (∀ i, i < mm + 1 → nthx md' i = nthx md i) ∧ (∀ i, i < mm + 1 → wz.cell? ⟨g0, i, none⟩ = some (.int .i64 ((nthx md i : Nat) : Int)))) (fun j _ => mm + 1 - (intOf j).toNat)
            case atStart => exact ⟨0, _, md, rfl, by omega, hkm, Nat.le_refl _, HST.out, fun _ _ => rfl, fun i hi => HCS.out i (by omega)⟩
            case round =>
              obtain ⟨jj, vm', md', rfl, hjj, hkm', hlen', hst', hpre, hold⟩ := hrel
              by_cases hjlt : jj < mm + 1
              · have d1 := hold jj hjlt
                obtain ⟨y, hy⟩ : ∃ y, nthx md jj = y := ⟨_, rfl⟩
                rw [hy] at d1
                have hyn : y < n := by rw [← hy]; exact HST.out.nth_lt (by omega)
                have hym : Made T gens3 y := by rw [← hy]; exact HST.out.nth_made (by omega)
                clear hy
                have hTxy := HT.out x y hxn hyn
                have hTyx := HT.out y x hyn hxn
                have hkp := Keeps.below hst'.below
                have r1 := hkp _ _ (HR.out x hxn)
                have r2 := hkp _ _ (HC.out x y hxn hyn)
                have HAdd := Lib.hid (spanAdd wr _ n _ _ _ vm' md' hst'.sp (T x y) hTxy h4 hst'.nums.nd hst'.nums.lt)
                have HST' := Lib.hid hst'
                have HPre := Lib.hid hpre
                have HOld := Lib.hid hold
                clear hst' hpre hold hkp
                go_wp2_with fail
                refine HAdd.out.mono ?_
                intro e w4 hp
                obtain ⟨rfl, vm4, hst4, hk4, hl4, ho4⟩ := HST'.out.add hTxy (Made.mul hxm hym) hp
                have hold4 := HST'.out.old hk4 ho4 hg0 md HPre.out (by omega) HOld.out
                have hpre4 : ∀ i, i < mm + 1 → nthx (addN md' (T x y)) i = nthx md i := fun i hi => (addN_nth _ _ (by omega)).trans (HPre.out i hi)
                have hlen4 := addN_len md' (T x y)
                have hkm4 : k ∈ addN md' (T x y) := (addN_mem _ _ _).2 (.inl hkm')
                clear hp HAdd HST' HPre HOld hk4 hl4 ho4 r1 r2 d1
                have hkp := Keeps.below hst4.below
                have r1 := hkp _ _ (HR.out y hyn)
                have r2 := hkp _ _ (HC.out y x hyn hxn)
                have HAdd := Lib.hid (spanAdd w4 _ n _ _ _ vm4 _ hst4.sp (T y x) hTyx h4 hst4.nums.nd hst4.nums.lt)
                have HST4 := Lib.hid hst4
                have HPre := Lib.hid hpre4
                have HOld := Lib.hid hold4
                clear hst4 hpre4 hold4 hkp
                go_wp2_with fail
                refine HAdd.out.mono ?_
                intro e w5 hp
                obtain ⟨rfl, vm5, hst5, hk5, hl5, ho5⟩ := HST4.out.add hTyx (Made.mul hym hxm) hp
                have hold5 := HST4.out.old hk5 ho5 hg0 md HPre.out (by omega) HOld.out
                have hpre5 : ∀ i, i < mm + 1 → nthx (addN (addN md' (T x y)) (T y x)) i = nthx md i := fun i hi => (addN_nth _ _ (by omega)).trans (HPre.out i hi)
                have hlen5 := addN_len (addN md' (T x y)) (T y x)
                have hkm5 : k ∈ addN (addN md' (T x y)) (T y x) := (addN_mem _ _ _).2 (.inl hkm4)
                have HREL : Hid (SpanSt w w5 n T (.slice (some ⟨r, 0, none⟩) (lnx gens + 1) cap') vm5 gens3 (addN (addN md' (T x y)) (T y x)) ∧ (∀ i, i < mm + 1 → nthx (addN (addN md' (T x y)) (T y x)) i = nthx md i) ∧ (∀ i, i < mm + 1 → w5.cell? ⟨g0, i, none⟩ = some (.int .i64 ((nthx md i : Nat) : Int)))) := ⟨hst5, hpre5, hold5⟩
                clear hp HAdd HST4 HPre HOld hk5 hl5 ho5 r1 r2 hst5 hpre5 hold5
                go_wp2
                go_roundw
                case rel => exact ⟨jj + 1, vm5, _, by go_num, by omega, hkm5, by omega, HREL.out⟩
                case measure => simp [intOf]; omega
              · have HST' := Lib.hid hst'
                have h1 : mm + 1 ≤ lnx md' := by omega
                clear hst' hpre hold
                go_wp2
                go_roundw
                case rel => exact ⟨mm + 1, vm', md', by go_num, h1, hkm', HST'.out⟩
                case measure => simp [intOf]; omega
          · have HST := Lib.hid hst
            clear hst
            go_wp2
            go_roundw
            case rel => exact ⟨k + 1, mm, _, gens3, md, by omega, by go_num, rfl, hmm, hgk3, HST.out, fun x hx => by
              by_cases hxk : x < k
              · exact HM.out x hxk
              · obtain rfl : x = k := by omega
                exact HST.out.nums.prod x hkm⟩
            case measure => simp [intOf]; omega
    · go_wp2
      go_ret
      exact ⟨_, gens, rfl, hst.own.ints, fun i hi => hst.nums.glt _ (nthx_mem hi), fun x hx => HMD.out x (by omega), hst.below⟩
end Go.Proofs.Ytgghmjnbkbiffaa
