/-
  The walk of morph's extend and run.
-/
import Derived.Test.YtgghmjnbkbiffaaFound
namespace Go.Proofs.Ytgghmjnbkbiffaa
open Go.RowKit
set_option linter.unusedVariables false

theorem kept_none {w w' : World} {base : Nat} {e : TypeId} {v : Value} {n : Nat} {xs : List Value} (h : w.ownsRow base e 1 v n xs) (hg : w.grownBy w' none) : w'.ownsRow base e 1 v n xs := h.kept hg (by cases hv : v.ownBlock <;> simp)

theorem slice8 (W : World) (g n : Nat) (hn : n ≤ 8) : (Instr.sliceAt 112 (.pointer (some ⟨g, 0, none⟩)) none (some (.int .i64 n)) none).run Try.prog W = .ok (.slice (some ⟨g, 0, none⟩) n 8) W := by
  obtain ⟨i, hi, hz, hsz, hby⟩ := info_parts Try.infoInt
  have h1 : (0 : Int) ≤ (n : Int) := by omega
  have h2 : ¬ 8 < n := by omega
  simp [Instr.sliceAt, Instr.sliceBounds, Instr.sliceBound, Instr.sureAddr, asIntOf, run_underlying Try.underlying112, sizeOf, typeInfo, hi, h1, h2, Addr.add_lit]

theorem ext_a1 {W w1 : World} {base sb n r1 cap1 : Nat} {vf : Value} {L : List (List Nat)} {vs news : List Value} (hown : W.ownsRow base 31 1 vf (lnx L) vs) (hap : App base 3 W.drew w1 (.slice none 0 0) (.slice (some ⟨r1, 0, none⟩) (0 + n) cap1) 0 n [] news)
    (hbb : base ≤ W.heap.size) (hsb : sb < base) (c4 : W.cell? ⟨sb, 4, none⟩ = some vf) (z4 : W.frozen? ⟨sb, 4, none⟩ = false) :
    (w1.alloc (.cells #[.slice (some ⟨r1, 0, none⟩) n cap1] 31)).ownsRow base 31 1 vf (lnx L) vs ∧
    (∀ j u, [Value.slice (some ⟨r1, 0, none⟩) n cap1][j]? = some u → (w1.alloc (.cells #[.slice (some ⟨r1, 0, none⟩) n cap1] 31)).cell? ((⟨w1.heap.size, 0, none⟩ : Addr).add j) = some u) ∧
    base ≤ (w1.alloc (.cells #[.slice (some ⟨r1, 0, none⟩) n cap1] 31)).heap.size ∧ w1.cell? ⟨sb, 4, none⟩ = some vf ∧ sb < w1.heap.size ∧ w1.frozen? ⟨sb, 4, none⟩ = false := by
  have hg : W.drew.grownBy w1 none := hap.grown
  have hsz : W.heap.size ≤ w1.heap.size := hg.size
  refine ⟨(kept_none (World.ownsRow.drew hown) hg).alloc _, cell_one_new w1 _ _, by simp only [World.size_alloc]; omega, hg.cell (a := ⟨sb, 4, none⟩) c4 (by simp), by omega, ?_⟩
  exact (World.frozen?_of_block (hg.block sb (show sb < W.heap.size by omega) (by simp))).trans z4
theorem ext_a2 {W w1 w2 : World} {base sb n m : Nat} {o : Obj} {vf v' : Value} {vs news : List Value} (hown : W.ownsRow base 31 1 vf n vs) (hap : App base 31 (w1.alloc o) w2 vf v' n m vs news) (hsb : sb < base) (h1 : sb < w1.heap.size)
    (c4 : w1.cell? ⟨sb, 4, none⟩ = some vf) (z4 : w1.frozen? ⟨sb, 4, none⟩ = false) : w2.cell? ⟨sb, 4, none⟩ = some vf ∧ w2.frozen? ⟨sb, 4, none⟩ = false := by
  have hne : some sb ≠ vf.ownBlock := fun e => by have := (hown.lt sb e.symm).1; omega
  refine ⟨hap.grown.cell (a := ⟨sb, 4, none⟩) (by rw [World.cell?_alloc_past _ _ _ h1]; exact c4) hne, ?_⟩
  exact (World.frozen?_of_block (hap.grown.block sb (by simp only [World.size_alloc]; omega) hne)).trans (by rw [World.frozen?_alloc_past _ _ _ h1]; exact z4)

def ExtPost (w : World) (sb base : Nat) (vt vu : Value) (inj : Bool) (lim : Nat) (vf : Value) (L : List (List Nat)) (e : Ending) (w' : World) : Prop :=
  e = .returned (.tuple #[]) ∧ ∃ vf', SearchSt w' sb base vt vu inj lim vf' L ∧ Only (fun k => k = sb ∨ vf.ownBlock = some k) w w' ∧ ∀ k, vf'.ownBlock = some k → vf.ownBlock = some k ∨ w.heap.size ≤ k

theorem news_nv {F : Nat → Int} {n : Nat} (hd : ∀ a, a < n → 0 ≤ F a) : (List.range n).map (fun i => Value.int .i64 (F i)) = nv (preF F n) := by
  unfold nv preF
  rw [List.map_map]
  apply List.map_congr_left
  intro i hi
  have := hd i (List.mem_range.1 hi)
  simp only [Function.comp]
  rw [Int.toNat_of_nonneg this]

theorem ext_done {w W w1 w2 : World} {sb base n : Nat} {vt vu vf : Value} {inj : Bool} {lim : Nat} {L : List (List Nat)} {F : Nat → Int} (hd : ∀ a, a < n → 0 ≤ F a) (hs : SearchSt W sb base vt vu inj lim vf L) (hbs : Below w.heap.size w W) (hbw : base ≤ w.heap.size) {vs : List Value}
    (hown : W.ownsRow base 31 1 vf (lnx L) vs) (hrows : ∀ (i : Nat) (h : List Nat), L[i]? = some h → ∃ u, vs[i]? = some u ∧ OwnN W base u h) {r1 cap1 r2 cap2 : Nat}
    (hap1 : App base 3 W.drew w1 (.slice none 0 0) (.slice (some ⟨r1, 0, none⟩) (0 + n) cap1) 0 n [] (nv (preF F n)))
    (hap2 : App base 31 (w1.alloc (.cells #[.slice (some ⟨r1, 0, none⟩) n cap1] 31)) w2 vf (.slice (some ⟨r2, 0, none⟩) (lnx L + 1) cap2) (lnx L) 1 vs [.slice (some ⟨r1, 0, none⟩) n cap1]) :
    ExtPost w sb base vt vu inj lim vf (L ++ [preF F n]) (.returned (.tuple #[])) (w2.setCell ⟨sb, 4, none⟩ (.slice (some ⟨r2, 0, none⟩) (lnx L + 1) cap2)) := by
  have hg1 : W.drew.grownBy w1 none := hap1.grown
  have o1 : Only (fun _ => False) W w1 := ⟨hg1.os, hg1.tape, hg1.output, hg1.size, fun k hk _ => hg1.block k hk (by simp)⟩
  have o2 := o1.alloc (.cells #[.slice (some ⟨r1, 0, none⟩) n cap1] 31)
  have o3 : Only (fun k => vf.ownBlock = some k) W w2 := Only.grown (o2.mono (fun _ _ h => h.elim)) hap2.grown (fun k _ e => e)
  have hl := hs.lt
  have hb := hs.hb
  have hne : ¬ vf.ownBlock = some sb := fun e => by have := (hown.lt sb e).1; omega
  have hown2 : (w1.alloc (.cells #[.slice (some ⟨r1, 0, none⟩) n cap1] 31)).ownsRow base 31 1 vf (lnx L) vs := own_only hown o2 (by simp)
  have hrows2 : ∀ (i : Nat) (h : List Nat), L[i]? = some h → ∃ u, vs[i]? = some u ∧ OwnN (w1.alloc (.cells #[.slice (some ⟨r1, 0, none⟩) n cap1] 31)) base u h := fun i h hi => by
    obtain ⟨u, h1, h2⟩ := hrows i h hi
    exact ⟨u, h1, h2.only o2 (by simp)⟩
  have hu : OwnN (w1.alloc (.cells #[.slice (some ⟨r1, 0, none⟩) n cap1] 31)) base (.slice (some ⟨r1, 0, none⟩) n cap1) (preF F n) := by
    have h1 := hap1.own
    rw [Nat.zero_add, List.nil_append] at h1
    have h2 : OwnN w1 base (.slice (some ⟨r1, 0, none⟩) n cap1) (preF F n) := by
      unfold OwnN
      rw [show lnx (preF F n) = n from preF_len F n]
      exact h1
    exact h2.alloc _
  have hf2 := FoundAt.push hown2 hrows2 hu hap2
  have ho : Only (fun k => k = sb ∨ vf.ownBlock = some k) W (w2.setCell ⟨sb, 4, none⟩ (.slice (some ⟨r2, 0, none⟩) (lnx L + 1) cap2)) := (o3.mono (fun _ _ h => .inr h)).setCell (fun _ => .inl rfl) _
  have hsz2 := o3.size
  refine ⟨rfl, .slice (some ⟨r2, 0, none⟩) (lnx L + 1) cap2, ⟨?_, ?_, hl, by simp [World.setCell]; omega⟩, ?_, ?_⟩
  · have h3 : w2.heap[sb]? = some (.cells #[vt, vu, .bool inj, .int .i64 lim, vf] 110 (0, 0)) := (o3.block sb (lt_of_block hs.blk) hne).trans hs.blk
    simp [World.setCell, Array.getElem?_modify, h3]
  · exact hf2.only ((Only.refl (fun k => k = sb) w2).setCell (p := ⟨sb, 4, none⟩) (fun _ => rfl) _) (fun k hk => .inl (by omega))
  · exact ⟨ho.os.trans hbs.os, ho.tape.trans hbs.tape, ho.output.trans hbs.output, Nat.le_trans hbs.size ho.size, fun k hk hn => (ho.block k (Nat.lt_of_lt_of_le hk hbs.size) hn).trans (hbs.block k hk)⟩
  · intro k hk
    rcases hap2.at_ hk with e | e
    · exact .inl e
    · right
      have := hbs.size
      have := o1.size
      simp only [World.size_alloc] at e
      omega

set_option maxRecDepth 100000 in
set_option maxHeartbeats 2000000 in
/-- The leaf. -/
theorem extend_leaf (w : World) (sb base n m : Nat) (T U : Nat → Nat → Nat) (inj : Bool) (vt vu vf : Value) (lim : Nat) (L : List (List Nat)) (hs : SearchSt w sb base vt vu inj lim vf L) (ht : Tab w vt n T) (hlim : lim ≤ 3000) (hL : lnx L < lim)
    (F : Nat → Int) (x : Nat) (hn : n ≤ 8) (hd : ∀ a, a < n → 0 ≤ F a) (hx : x ≤ n) :
    Calls Try.prog 90 #[.pointer (some ⟨sb, 0, none⟩), .agg (agg8 F), .int .i64 x] w (ExtPost w sb base vt vu inj lim vf (L ++ [preF F n])) := by
  obtain ⟨b, o, cap, rb, ro, rc, rfl, h0, h4, hR, hC, hT⟩ := ht
  clear hR hC hT
  have hs0 := hs.call ((Below.refl _ w).alloc (Nat.le_refl _) (.cells (agg8 F) 112))
  have f8 := Blk8.new 112 w F
  have hbs : Below w.heap.size w (w.alloc (.cells (agg8 F) 112)) := (Below.refl _ w).alloc (Nat.le_refl _) _
  obtain ⟨W, hW⟩ : ∃ W, w.alloc (.cells (agg8 F) 112) = W := ⟨_, rfl⟩
  rw [hW] at hs0 f8 hbs
  have c0 : W.cell? ⟨sb, 0, none⟩ = some (.slice (some ⟨b, o, none⟩) n cap) := by simp [World.cell?, hs0.blk]
  have c4 : W.cell? ⟨sb, 4, none⟩ = some vf := by simp [World.cell?, hs0.blk]
  have z4 : W.frozen? ⟨sb, 4, none⟩ = false := by simp [World.frozen?, hs0.blk]
  have hbw := hs.hb
  have HS := Lib.hid hs0
  have F8 := Lib.hid f8
  have HD := Lib.hid hd
  have HBS := Lib.hid hbs
  clear hs hs0 f8 hd hbs
  go_enter Try.func90, Try.ntmps90
  go_wp2
  go_loop [2] (fun i => ∃ x : Nat, x ≤ n ∧ i = .int .i64 x) (fun i => n - (intOf i).toNat)
  case atStart => exact ⟨x, hx, rfl⟩
  case round =>
    clear hx x
    obtain ⟨x, hx, rfl⟩ := hrel
    by_cases hxn : x < n
    · have hc := F8.out.cell (i := x) (by omega)
      obtain ⟨fx, hfx⟩ : ∃ fx : Nat, F x = fx := ⟨(F x).toNat, by have := HD.out x hxn; omega⟩
      rw [hfx] at hc
      clear hfx
      go_wp2
      go_round
      case rel => exact ⟨x + 1, by omega, by go_num⟩
      case measure => simp [intOf]; omega
    · have hg : decide ((x : Int) < (n : Int)) = false := by simp; omega
      have hg2 : ((x : Int) == (n : Int)) = true := beq_t (by omega)
      obtain ⟨vs, hown, hrows⟩ := HS.out.found
      obtain ⟨news, hnews⟩ : ∃ news : List Value, news = (List.range n).map (fun i => Value.int .i64 (F i)) := ⟨_, rfl⟩
      have hnl : news.length = n := by rw [hnews]; simp
      have hnc : ∀ j u, news[j]? = some u → W.cell? ((⟨w.heap.size, 0, none⟩ : Addr).add j) = some u := by
        intro j u hu
        have hj : j < n := by rw [← hnl]; exact (List.getElem?_eq_some_iff.1 hu).1
        rw [Addr.add_lit, Nat.zero_add, F8.out.cell (by omega)]
        rw [hnews] at hu
        simp [hj] at hu
        rw [hu]
      have hn1 : ∀ u ∈ news, u.oneCell' = true := by
        intro u hu
        rw [hnews] at hu
        simp at hu
        obtain ⟨i, _, rfl⟩ := hu
        rfl
      have hsbb := HS.out.lt
      have hbb := HS.out.hb
      have HNEWS := Lib.hid hnews
      have HNL := Lib.hid hnl
      have HNC := Lib.hid hnc
      have HN1 := Lib.hid hn1
      have HOWN := Lib.hid hown
      have HROWS := Lib.hid hrows
      clear hnews hnl hnc hn1 hown hrows
      have hsl := fun W => slice8 W w.heap.size n hn
      go_wp2
      go_region_law (first
        | (refine step_app rfl (.const (.slice none 0 0)) _ 31 rfl base 3 (.int .i64 0) 8 Try.underlying31 Try.infoInt rfl (.slice none 0 0) 0 [] rfl ⟨w.heap.size, 0, none⟩ n _ news rfl (World.ownsRow_nil _ _ _ _) HNL.out HNC.out HN1.out h0 (by simp only [maxLen]; omega) (by omega) hbb ?_; intro r1 cap1 w1 hap1; obtain ⟨K1, K2, K3, k4, k5, k6⟩ := ext_a1 HOWN.out hap1 hbb hsbb c4 z4)
        | (refine step_app rfl (.tmp 33) (.tmp 37) 22 rfl base 31 (.slice none 0 0) 24 Try.underlying22 Try.infoRow rfl vf (lnx L) vs rfl ⟨w1.heap.size, 0, none⟩ 1 1 [.slice (some ⟨r1, 0, none⟩) n cap1] rfl K1 rfl K2 (by simp [Value.oneCell']) (by omega) (by simp only [maxLen]; omega) (by omega) K3 ?_; intro r2 cap2 w2 hap2; obtain ⟨k7, k8⟩ := ext_a2 HOWN.out hap2 hsbb k5 k4 k6))
      all_goals
        rw [HNEWS.out, news_nv HD.out] at hap1
        have HP := Lib.hid (ext_done HD.out HS.out HBS.out hbw HOWN.out HROWS.out hap1 hap2)
        clear hap1 hap2 K1 K2 K3 k4 k5 k6 k7 k8 hW hsl
        go_wp2
        refine bodyPost_ret (results_none rfl _ _ _) rfl ?_
        exact HP.out
end Go.Proofs.Ytgghmjnbkbiffaa
