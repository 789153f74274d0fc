/-
  The walk of morph's define.
-/
import Derived.Test.YtgghmjnbkbiffaaQueue
import Derived.Test.YtgghmjnbkbiffaaValid
import Derived.Deep.LoopGhost
import Derived.Deep.DeepCutAuto
namespace Go.Proofs.Ytgghmjnbkbiffaa
open Go.RowKit
set_option linter.unusedVariables false

theorem Try.alloc8 (w : World) : (Instr.alloc 112 true (.tuple #[])).run Try.prog w = .ok (.pointer (some ⟨w.heap.size, 0, none⟩)) (w.alloc (.cells (agg8 fun _ => 0) 112)) := by kernel_rfl

theorem Try.info8 : (Try.prog.info? 112).map (·.size) = some 8 := by kernel_rfl

theorem zero8 : #[Value.int IntKind.i64 0, Value.int IntKind.i64 0, Value.int IntKind.i64 0, Value.int IntKind.i64 0, Value.int IntKind.i64 0, Value.int IntKind.i64 0, Value.int IntKind.i64 0, Value.int IntKind.i64 0] = agg8 (fun _ => 0) := by kernel_rfl

def DefPost (w : World) (n m : Nat) (T U : Nat → Nat → Nat) (inj : Bool) (F : Nat → Int) (x y : Nat) (e : Ending) (w' : World) : Prop :=
  ∃ F' ok, e = .returned (.tuple #[.agg (agg8 F'), .bool ok]) ∧ Below w.heap.size w w' ∧
    (ok = true → DInv n m T U inj (upd F x y) F' [] ∧ Closed n T U inj F') ∧ (ok = false → ∀ f, IsHomF n m T U inj f → ¬ Agree n (upd F x y) f)

def nv (xs : List Nat) : List Value := xs.map fun z : Nat => Value.int .i64 (z : Int)
theorem lnx_nv (xs : List Nat) : lnx (nv xs) = lnx xs := by simp [lnx, nv]
theorem nv_append (xs ys : List Nat) : nv (xs ++ ys) = nv xs ++ nv ys := by simp [nv]

theorem pair_first (x0 x1 x2 x3 : Value) (w : World) : (Instr.index 136 (.agg #[x0, x1, x2, x3]) (.int .i64 0)).run Try.prog w = .ok (.agg #[x0, x1]) w := by kernel_rfl
theorem pair_second (x0 x1 x2 x3 : Value) (w : World) : (Instr.index 136 (.agg #[x0, x1, x2, x3]) (.int .i64 1)).run Try.prog w = .ok (.agg #[x2, x3]) w := by kernel_rfl

/-- Memory at the heads of define's loops. -/
structure DSt (w wr : World) (F : Nat → Int) (v : Value) (work : List Nat) : Prop where
  f8 : Blk8 112 wr w.heap.size F
  r8 : Blk8 112 wr (w.heap.size + 1) (fun _ => 0)
  q : OwnQ wr (w.heap.size + 2) 3 v (nv work)
  below : Below w.heap.size w wr
  sz : w.heap.size + 2 ≤ wr.heap.size

theorem DSt.drewN {w wr : World} {F : Nat → Int} {v : Value} {work : List Nat} (h : DSt w wr F v work) (k : Nat) : DSt w (wr.drewN k) F v work := ⟨h.f8, h.r8, h.q, Below.drewN' h.below k, h.sz⟩
theorem DSt.alloc {w wr : World} {F : Nat → Int} {v : Value} {work : List Nat} (h : DSt w wr F v work) (o : Obj) : DSt w (wr.alloc o) F v work :=
  ⟨h.f8.alloc o, h.r8.alloc o, h.q.alloc o, h.below.alloc (by have := h.sz; omega) o, by have := h.sz; simp; omega⟩
theorem DSt.set_ {w wr : World} {F : Nat → Int} {v : Value} {work : List Nat} (h : DSt w wr F v work) (x : Nat) (y : Int) : DSt w (wr.setCell ⟨w.heap.size, x, none⟩ (.int .i64 y)) (upd F x y) v work :=
  ⟨h.f8.set_ x y, h.r8.far (by simp) _, h.q.setCell (by simp) _, h.below.setCell (p := ⟨w.heap.size, x, none⟩) (Nat.le_refl _) _, by have := h.sz; simp [World.setCell]; omega⟩
theorem DSt.push {w wr w' : World} {F : Nat → Int} {v v' : Value} {work : List Nat} {z : Nat} (h : DSt w wr F v work) (hq : OwnQ w' (w.heap.size + 2) 3 v' (nv work ++ [.int .i64 (z : Int)])) (ho : Only (fun k => w.heap.size + 2 ≤ k) wr w') : DSt w w' F v' (work ++ [z]) :=
  ⟨h.f8.only ho (by omega), h.r8.only ho (by omega), by rw [nv_append]; exact hq, h.below.trans (ho.below (fun k hk => by omega) (by have := h.sz; omega)), by have := h.sz; have := ho.size; omega⟩
theorem DSt.start (w : World) (F : Nat → Int) (x : Nat) : DSt w (((w.alloc (.cells (agg8 F) 112)).alloc (.cells (agg8 fun _ => 0) 112)).alloc (.cells #[.int .i64 x] 3)) F (.slice (some ⟨w.heap.size + 1 + 1, 0, none⟩) 1 1) [x] := by
  refine ⟨((Blk8.new _ w F).alloc _).alloc _, ?_, ?_, ?_, by simp⟩
  · have := (Blk8.new 112 (w.alloc (.cells (agg8 F) 112)) (fun _ => 0)).alloc (.cells #[.int .i64 x] 3)
    simpa using this
  · have := OwnQ.one ((w.alloc (.cells (agg8 F) 112)).alloc (.cells (agg8 fun _ => 0) 112)) (w.heap.size + 2) 3 (.int .i64 x) (by simp)
    simpa [nv] using this
  · exact ((((Below.refl _ _).alloc (Nat.le_refl _) _).alloc (by simp) _).alloc (by simp; omega) _)

theorem slice_tail (W : World) (qb qo L qc : Nat) (h1 : L + 1 ≤ qc) :
    (Instr.slice 31 (.slice (some ⟨qb, qo, none⟩) (L + 1) qc) (some (.int .i64 1)) none none).run Try.prog W = .ok (.slice (some ⟨qb, if qc = 1 then qo else qo + 1, none⟩) L (qc - 1)) W := by
  obtain ⟨i, hi, hz, hsz, hby⟩ := info_parts Try.infoInt
  by_cases h : qc = 1
  · subst h
    obtain rfl : L = 0 := by omega
    simp [Instr.slice, Instr.sliceBounds, Instr.sliceBound, asIntOf, run_underlying Try.underlying31, sizeOf, typeInfo, hi]
  · have hlt : ¬ ((L : Int) + 1 < 1) := by omega
    simp [Instr.slice, Instr.sliceBounds, Instr.sliceBound, asIntOf, run_underlying Try.underlying31, sizeOf, typeInfo, hi, hsz, h, hlt, Addr.add_lit]

set_option maxRecDepth 100000 in
set_option maxHeartbeats 2000000 in
theorem define_any (w : World) (sb n m : Nat) (T U : Nat → Nat → Nat) (inj : Bool) (vt vu : Value) (ht : Tab w vt n T) (hu : Tab w vu m U) (c0 : w.cell? ⟨sb, 0, none⟩ = some vt) (c1 : w.cell? ⟨sb, 1, none⟩ = some vu) (c2 : w.cell? ⟨sb, 2, none⟩ = some (.bool inj))
    (F : Nat → Int) (x y : Nat) (hn : n ≤ 8) (hm : m ≤ 8) (hx : x < n) (hy : y < m) (hF : F x < 0) (hrng : ∀ a, a < n → F a < m) (hcl : Closed n T U inj F) :
    Calls Try.prog 106 #[.pointer (some ⟨sb, 0, none⟩), .agg (agg8 F), .int .i64 x, .int .i64 y] w (DefPost w n m T U inj F x y) := by
  obtain ⟨b, o, cap, rb, ro, rc, rfl, h0, h4, hR, hC, hT⟩ := ht
  obtain ⟨ub, uo, ucap, urb, uro, urc, rfl, uh0, uh4, uR, uC, hU⟩ := hu
  have hal := Try.alloc8
  have HR := Lib.hid hR
  have HC := Lib.hid hC
  have HT := Lib.hid hT
  have UR := Lib.hid uR
  have UC := Lib.hid uC
  have HU := Lib.hid hU
  clear hR hC hT uR uC hU
  have hsb := World.block_lt_of_cell? w _ c0
  simp only at hsb
  have hget := get_agg8 F (show x < 8 by omega)
  have hset := set_agg8 F x (y : Int)
  have hz8 := zero8
  have HF := Lib.hid hF
  have HRG := Lib.hid hrng
  have HCL := Lib.hid hcl
  clear hF hrng hcl
  go_enter Try.func106, Try.ntmps106
  go_wp2
  have hst := DSt.start w (upd F x y) x
  obtain ⟨W, hW⟩ : ∃ W, W = (((w.alloc (.cells (agg8 (upd F x y)) 112)).alloc (.cells (agg8 fun _ => 0) 112)).alloc (.cells #[.int .i64 x] 3)) := ⟨_, rfl⟩
  rw [← hW] at hst ⊢
  clear hW hal hget hset hz8
  have hinv0 : DInv n m T U inj (upd F x y) (upd F x y) [x] := ⟨fun a ha => by
      unfold upd; split
      · omega
      · exact HRG.out a ha, fun _ _ _ => rfl, fun _ _ h => h, fun z hz => by
      simp at hz; subst hz; rw [upd_same]; omega⟩
  have hcl0 : ∀ c d, c < n → d < n → 0 ≤ upd F x y c → 0 ≤ upd F x y d → c ∉ [x] → d ∉ [x] → Cl T U inj (upd F x y) c d := fun c d hc hd dc dd wc wd => by
    simp at wc wd
    rw [upd_other F _ wc] at dc
    rw [upd_other F _ wd] at dd
    exact (HCL.out c d hc hd dc dd).keep wc wd HF.out
  obtain ⟨F0, hF0⟩ : ∃ F0, F0 = upd F x y := ⟨_, rfl⟩
  rw [← hF0] at hst hinv0 hcl0
  have HF0 := Lib.hid hF0
  have HST := Lib.hid hst
  have HINV := Lib.hid hinv0
  have HCL0 := Lib.hid hcl0
  clear hF0 hst hinv0 hcl0 HF HRG HCL
  go_loopg [11] (2 * undC n F0 + 1) (fun k v wr => ∃ (F : Nat → Int) (work : List Nat), DSt w wr F v work ∧ DInv n m T U inj F0 F work ∧ (∀ c d, c < n → d < n → 0 ≤ F c → 0 ≤ F d → c ∉ work → d ∉ work → Cl T U inj F c d) ∧ 2 * undC n F + lnx work ≤ k ∧ k ≤ 1000)
  case atStart => exact ⟨F0, [x], HST.out, HINV.out, HCL0.out, by simp [lnx], by have := undC_le F0 n; omega⟩
  case round =>
    clear HST HINV HCL0
    obtain ⟨F1, work, hst, hinv, hcl, hms, hgk0⟩ := hrel
    cases work with
    | nil =>
      obtain ⟨qb, qo, qc, rfl, -, hq1, hq2, -⟩ := hst.q.shape
      have e0 : lnx (nv []) = 0 := rfl
      rw [e0] at *
      have f8 := hst.f8
      have r8 := hst.r8
      have HB := Lib.hid hst.below
      have HSZ := hst.sz
      have HI := Lib.hid hinv
      have HCC := Lib.hid hcl
      clear hst hinv hcl e0
      have F8 := Lib.hid f8
      have R8 := Lib.hid r8
      clear f8 r8
      go_wp2_with (first | (refine wpList_load8 rfl 112 _ rfl w.heap.size rfl 112 3 F1 Try.underlying112 Try.info8 F8.out ?_) | (refine wpList_store8 rfl 112 _ _ rfl (w.heap.size + 1) rfl F1 rfl 112 (fun _ => 0) Try.info8 R8.out ?_; intro w5 hb5 ho5))
      have hres := @results8 Try.prog Try.f106 8 9 _ rfl
      refine bodyPost_ret (hres _ w5 (w.heap.size + 1) _ _ F1 Try.underlying112 Try.info8 hb5 rfl) rfl ?_
      rw [HF0.out] at HI
      exact ⟨F1, true, rfl, HB.out.trans (ho5.below (by omega) (by omega)), fun _ => ⟨HI.out, fun a b ha hb da db => HCC.out a b ha hb da db (by simp) (by simp)⟩, fun h => by cases h⟩
    | cons a rest =>
      obtain ⟨qb, qo, qc, rfl, hqb, hq1, hq2, hqc⟩ := hst.q.shape
      have e1 : lnx (nv (a :: rest)) = lnx rest + 1 := by simp [lnx, nv]
      have e2 : lnx (a :: rest) = lnx rest + 1 := by simp [lnx]
      have hpop := hst.q.pop (x := .int .i64 (a : Int)) (xs := nv rest)
      rw [lnx_nv] at hpop
      obtain ⟨off1, hoff⟩ : ∃ off1, off1 = if qc = 1 then qo else qo + 1 := ⟨_, rfl⟩
      have hfr := hqc 0 (.int .i64 (a : Int)) (by simp [nv])
      rw [Nat.add_zero] at hfr
      rw [e1] at hq1 ⊢
      rw [e2] at hms
      have hsl := fun W => slice_tail W qb qo (lnx rest) qc hq1
      rw [← hoff] at hpop
      simp only [← hoff] at hsl
      have hst1 : DSt w wr F1 (.slice (some ⟨qb, off1, none⟩) (lnx rest) (qc - 1)) rest := ⟨hst.f8, hst.r8, hpop, hst.below, hst.sz⟩
      have hmid : DMid n m T U inj F0 F1 rest a 0 := DMid.start hinv hcl
      have hlr : lnx rest ≤ 9223372036854775806 := by omega
      have HST1 := Lib.hid hst1
      have HMID := Lib.hid hmid
      clear hst hst1 hmid hpop hoff hqc hinv hcl e1 e2
      go_wp2
      clear hsl hfr
      obtain ⟨gz, hgz⟩ : ∃ gz, gz = gk := ⟨_, rfl⟩
      rw [← hgz] at hms
      have HGZ := Lib.hid hgz
      have HGZ0 : Hid (gz ≤ 1000) := by show gz ≤ 1000; rw [hgz]; exact hgk0
      clear hgz
      go_loopg [11, 37] n (fun kk v j wr => ∃ (bb : Nat) (F : Nat → Int) (work : List Nat), j = .int .i64 bb ∧ bb ≤ n ∧ n - bb ≤ kk ∧ DSt w wr F v work ∧ DMid n m T U inj F0 F work a bb ∧ 2 * undC n F + lnx work + 1 ≤ gz)
      case atStart => exact ⟨0, F1, rest, rfl, by omega, by omega, HST1.out, HMID.out, by omega⟩
      case round =>
        clear HST1 HMID
        obtain ⟨bb, F2, work2, rfl, hbb, hkk, hst, hmid, hms2⟩ := hrel
        have HST := Lib.hid hst
        have HMID := Lib.hid hmid
        by_cases hbn : bb < n
        · have hcb := hst.f8.cell (i := bb) (by omega)
          by_cases hneg : F2 bb < 0
          · clear hst hmid
            go_wp2
            go_roundg (n - (bb + 1))
            case measure => omega
            case rel => exact ⟨bb + 1, F2, work2, by go_num, by omega, Nat.le_refl _, HST.out, HMID.out.next (.inl hneg), hms2⟩
          · have han := hmid.an
            have had := hmid.ad
            obtain ⟨fb, hfb⟩ : ∃ fb : Nat, F2 bb = fb := ⟨(F2 bb).toNat, by omega⟩
            obtain ⟨fa, hfa⟩ : ∃ fa : Nat, F2 a = fa := ⟨(F2 a).toNat, by omega⟩
            have hca := hst.f8.cell (i := a) (by omega)
            have hfbm : fb < m := by have := hmid.inv.rng bb hbn; omega
            have hfam : fa < m := by have := hmid.inv.rng a han; omega
            rw [hfb] at hcb
            rw [hfa] at hca
            have HFB := Lib.hid hfb
            have HFA := Lib.hid hfa
            have hkp := Keeps.below hst.below
            have d0 := hkp _ _ c0
            have d1 := hkp _ _ c1
            have d2 := hkp _ _ c2
            have hb0 : decide ((fb : Int) < 0) = false := by simp
            clear hst hmid hkp hfb hfa hneg had
            by_cases hclash : inj = true ∧ bb ≠ a ∧ fb = fa
            · obtain ⟨hi, hne, heq⟩ := hclash
              subst hi
              have g1 : ((bb : Int) != (a : Int)) = true := bne_t (by omega)
              have g2 : ((fb : Int) == (fa : Int)) = true := beq_t (by omega)
              have HB := Lib.hid HST.out.below
              have HSZ := HST.out.sz
              have F8 := Lib.hid (fun k => HST.out.f8.drewN k)
              have R8 := Lib.hid (fun k => HST.out.r8.drewN k)
              have HNO := Lib.hid (HMID.out.inv.clash hbn han (by rw [HFB.out]; omega) rfl hne (by rw [HFB.out, HFA.out, heq]))
              clear HST HMID heq hne
              go_wp2
              go_quiet (fail)
              go_wp2_with (first | (refine wpList_load8 rfl 112 _ rfl w.heap.size rfl 112 3 F2 Try.underlying112 Try.info8 (F8.out _) ?_) | (refine wpList_store8 rfl 112 _ _ rfl (w.heap.size + 1) rfl F2 rfl 112 (fun _ => 0) Try.info8 (R8.out _) ?_; intro w5 hb5 ho5))
              have hres := @results8 Try.prog Try.f106 8 9 _ rfl
              refine bodyPost_ret (hres _ w5 (w.heap.size + 1) _ _ F2 Try.underlying112 Try.info8 hb5 rfl) rfl ?_
              rw [HF0.out] at HNO
              exact ⟨F2, false, rfl, (Below.drewN' HB.out _).trans (ho5.below (by omega) (by simp; omega)), fun h => (by cases h), fun _ => HNO.out⟩
            · have hinj : inj = true → bb ≠ a → fb ≠ fa := fun h1 h2 h3 => hclash ⟨h1, h2, h3⟩
              have HINJ := Lib.hid hinj
              clear hclash hinj
              have hq : ∀ (Q : Exit → Act → World → Prop), True := fun _ => trivial
              clear hq
              go_upto_region 11 with (fail)
              go_cut [61] (fun s wx => s = .bool false ∧ ∃ q, wx = wr.drewN q)
              case first =>
                cases inj with
                | false =>
                  go_quiet (fail)
                  go_wp2
                  go_meet
                  exact ⟨rfl, _, rfl⟩
                | true =>
                  by_cases hba : bb = a
                  · have g1 : ((bb : Int) != (a : Int)) = false := bne_f (by omega)
                    clear hba
                    go_quiet (fail)
                    go_wp2
                    go_meet
                    exact ⟨rfl, _, rfl⟩
                  · have g1 : ((bb : Int) != (a : Int)) = true := bne_t (by omega)
                    have g2 : ((fb : Int) == (fa : Int)) = false := beq_f (by have := HINJ.out rfl hba; omega)
                    clear hba
                    go_quiet (fail)
                    go_wp2
                    go_meet
                    exact ⟨rfl, _, rfl⟩
              case rest =>
                obtain ⟨rfl, q, rfl⟩ := hcut
                clear d0 d1 d2 hca hcb
                go_wp2
                have hst0 := HST.out.drewN q
                have HST0 := Lib.hid hst0
                clear hst0
                go_loopg [11, 70] 3 (fun kk v p wr => ∃ (pp : Nat) (F : Nat → Int) (work : List Nat), p = .int .i64 pp ∧ pp ≤ 2 ∧ 3 - pp ≤ kk ∧ DSt w wr F v work ∧ DMid n m T U inj F0 F work a bb ∧ 2 * undC n F + lnx work + 1 ≤ gz ∧ F a = fa ∧ F bb = fb ∧ (1 ≤ pp → F (T a bb) = (U fa fb : Nat)) ∧ (2 ≤ pp → F (T bb a) = (U fb fa : Nat)))
                case atStart => exact ⟨0, F2, work2, rfl, by omega, by omega, HST0.out, HMID.out, hms2, HFA.out, HFB.out, by omega, by omega⟩
                case round =>
                  clear HST HST0 HMID HFA HFB
                  obtain ⟨pp, F3, work3, rfl, hpp, hkk3, hst, hmid, hms3, hfa3, hfb3, hp1, hp2⟩ := hrel
                  have HST3 := Lib.hid hst
                  have HMID3 := Lib.hid hmid
                  have HFA3 := Lib.hid hfa3
                  have HFB3 := Lib.hid hfb3
                  have HP1 := Lib.hid hp1
                  have HP2 := Lib.hid hp2
                  clear hst hmid hfa3 hfb3 hp1 hp2
                  have ix0 := pair_first
                  have ix1 := pair_second
                  have hcases : pp = 0 ∨ pp = 1 ∨ pp = 2 := by omega
                  rcases hcases with rfl | rfl | rfl
                  · -- the pair (a, bb)
                    have hst4 := HST3.out.alloc (.cells #[.int .i64 (a : Int), .int .i64 (bb : Int)] 97)
                    have p0 := World.cell?_alloc_new wr #[.int .i64 (a : Int), .int .i64 (bb : Int)] 97 0
                    have p1 := World.cell?_alloc_new wr #[.int .i64 (a : Int), .int .i64 (bb : Int)] 97 1
                    go_wp2
                    clear ix0 ix1
                    obtain ⟨W1, hW1⟩ : ∃ W1, W1 = wr.alloc (.cells #[.int .i64 (a : Int), .int .i64 (bb : Int)] 97) := ⟨_, rfl⟩
                    rw [← hW1] at hst4 p0 p1 ⊢
                    clear hW1
                    have HST4 := Lib.hid hst4
                    clear hst4
                    have hTz := HT.out a bb han hbn
                    have hUz := HU.out fa fb hfam hfbm
                    have hkp := Keeps.below HST4.out.below
                    have r1 := hkp _ _ (HR.out a han)
                    have r2 := hkp _ _ (HC.out a bb han hbn)
                    have r3 := hkp _ _ (UR.out fa hfam)
                    have r4 := hkp _ _ (UC.out fa fb hfam hfbm)
                    have d0 := hkp _ _ c0
                    have d1 := hkp _ _ c1
                    have hca := HST4.out.f8.cell (i := a) (by omega)
                    have hcb := HST4.out.f8.cell (i := bb) (by omega)
                    rw [HFA3.out] at hca
                    rw [HFB3.out] at hcb
                    clear hkp
                    obtain ⟨z, hz⟩ : ∃ z, T a bb = z := ⟨_, rfl⟩
                    obtain ⟨im, him⟩ : ∃ im, U fa fb = im := ⟨_, rfl⟩
                    rw [hz] at r2 hTz
                    rw [him] at r4 hUz
                    have HZ := Lib.hid hz
                    have HIM := Lib.hid him
                    clear hz him
                    have hcz := HST4.out.f8.cell (i := z) (by omega)
                    have hfz := HST4.out.f8.frozen z
                    by_cases hzneg : F3 z < 0
                    · have hmid4 := HMID3.out.set_ HT.out HU.out han hbn (by rw [HFA3.out]; omega) (by rw [HFB3.out]; omega) (by rw [HZ.out]; exact hzneg)
                      rw [HFA3.out, HFB3.out, Int.toNat_natCast, Int.toNat_natCast, HZ.out, HIM.out] at hmid4
                      have hund := undC_upd F3 hzneg (show (0 : Int) ≤ (im : Int) by omega) n hTz
                      have hlw : lnx (work3 ++ [z]) = lnx work3 + 1 := by rw [lnx_append, lnx_one]
                      have hne1 : a ≠ z := fun e => by have := HFA3.out; rw [e] at this; omega
                      have hne2 : bb ≠ z := fun e => by have := HFB3.out; rw [e] at this; omega
                      have HMID4 := Lib.hid hmid4
                      have HLW := Lib.hid hlw
                      have hwl : lnx work3 ≤ 1000 := by have := undC_le F0 n; have := HGZ0.out; omega
                      clear hmid4 hlw
                      go_quiet (fail)
                      have hst5 := (HST4.out.drewN nq).set_ z (im : Int)
                      have hW5 : ∃ W5, (W1.drewN nq).setCell ⟨w.heap.size, z, none⟩ (.int .i64 (im : Int)) = W5 := ⟨_, rfl⟩
                      obtain ⟨W5, hW5⟩ := hW5
                      have hW5' : (W1.setCell ⟨w.heap.size, z, none⟩ (.int .i64 (im : Int))).drewN nq = W5 := by rw [← hW5]; rfl
                      rw [hW5] at hst5
                      have e2 := World.cell?_alloc_new W5 #[.int .i64 (z : Int)] 3 0
                      have e4 := hst5.alloc (.cells #[.int .i64 (z : Int)] 3)
                      have hcz5 := e4.f8.cell (i := z) (by omega)
                      rw [upd_same] at hcz5
                      have hsz5 := hst5.sz
                      have HST5 := Lib.hid hst5
                      have Q4 := Lib.hid e4.q
                      have hne0 : ((im : Int) != (im : Int)) = false := bne_f rfl
                      have E4 := Lib.hid e4
                      clear hst5 e4
                      go_wp2_with (at_builtin; refine wpList_pushQ _ rfl _ _ 31 rfl (w.heap.size + 2) 3 (.int .i64 0) 8 Try.underlying31 Try.infoInt rfl _ (nv work3) rfl W5.heap.size (.int .i64 (z : Int)) rfl Q4.out e2 rfl ?_ ?_ ?_ ?_)
                      · rw [lnx_nv]; simp only [maxLen]; omega
                      · rw [lnx_nv]; omega
                      · simp; omega
                      intro b6 o6 c6 w6 hq6 ho6
                      have hst6 := E4.out.push hq6 ho6
                      have hcz6 := hst6.f8.cell (i := z) (by omega)
                      rw [upd_same] at hcz6
                      have HST6 := Lib.hid hst6
                      clear hst6 hq6 ho6 E4 Q4 HST5 hW5 hW5' e2 hcz5
                      go_wp2
                      go_roundg 2
                      case measure => omega
                      case rel => exact ⟨1, _, _, rfl, by omega, by omega, HST6.out, HMID4.out, by rw [HLW.out]; omega, by rw [upd_other F3 _ hne1]; exact HFA3.out, by rw [upd_other F3 _ hne2]; exact HFB3.out, fun _ => by rw [HZ.out, HIM.out, upd_same], by omega⟩
                    · obtain ⟨fz, hfz0⟩ : ∃ fz : Nat, F3 z = fz := ⟨(F3 z).toNat, by omega⟩
                      rw [hfz0] at hcz
                      have HFZ := Lib.hid hfz0
                      clear hfz0 hzneg
                      by_cases heq : fz = im
                      · have g1 : ((fz : Int) != (im : Int)) = false := bne_f (by omega)
                        have HEQ : Hid (F3 (T a bb) = ((U fa fb : Nat) : Int)) := by
                          show F3 (T a bb) = ((U fa fb : Nat) : Int)
                          rw [HZ.out, HIM.out, HFZ.out, heq]
                        clear heq
                        go_quiet (fail)
                        go_wp2
                        go_roundg 2
                        case measure => omega
                        case rel => exact ⟨1, F3, work3, rfl, by omega, by omega, HST4.out.drewN _, HMID3.out, hms3, HFA3.out, HFB3.out, fun _ => HEQ.out, by omega⟩
                      · have g1 : ((fz : Int) != (im : Int)) = true := bne_t (by omega)
                        have HB := Lib.hid HST4.out.below
                        have HSZ := HST4.out.sz
                        have F8 := Lib.hid (fun k => HST4.out.f8.drewN k)
                        have R8 := Lib.hid (fun k => HST4.out.r8.drewN k)
                        have HNO := Lib.hid (HMID3.out.inv.conflict HT.out han hbn (by rw [HFA3.out]; omega) (by rw [HFB3.out]; omega) (by rw [HZ.out, HFZ.out]; omega) (by rw [HFA3.out, HFB3.out, Int.toNat_natCast, Int.toNat_natCast, HZ.out, HIM.out, HFZ.out]; omega))
                        go_quiet (fail)
                        go_wp2_with (first | (refine wpList_load8 rfl 112 _ rfl w.heap.size rfl 112 3 F3 Try.underlying112 Try.info8 (F8.out _) ?_) | (refine wpList_store8 rfl 112 _ _ rfl (w.heap.size + 1) rfl F3 rfl 112 (fun _ => 0) Try.info8 (R8.out _) ?_; intro w5 hb5 ho5))
                        have hres := @results8 Try.prog Try.f106 8 9 _ rfl
                        refine bodyPost_ret (hres _ w5 (w.heap.size + 1) _ _ F3 Try.underlying112 Try.info8 hb5 rfl) rfl ?_
                        rw [HF0.out] at HNO
                        exact ⟨F3, false, rfl, (Below.drewN' HB.out _).trans (ho5.below (by omega) (by simp; omega)), fun h => (by cases h), fun _ => HNO.out⟩
                  · -- the pair (bb, a)
                    have hst4 := HST3.out.alloc (.cells #[.int .i64 (bb : Int), .int .i64 (a : Int)] 97)
                    have p0 := World.cell?_alloc_new wr #[.int .i64 (bb : Int), .int .i64 (a : Int)] 97 0
                    have p1 := World.cell?_alloc_new wr #[.int .i64 (bb : Int), .int .i64 (a : Int)] 97 1
                    go_wp2
                    clear ix0 ix1
                    obtain ⟨W1, hW1⟩ : ∃ W1, W1 = wr.alloc (.cells #[.int .i64 (bb : Int), .int .i64 (a : Int)] 97) := ⟨_, rfl⟩
                    rw [← hW1] at hst4 p0 p1 ⊢
                    clear hW1
                    have HST4 := Lib.hid hst4
                    clear hst4
                    have hTz := HT.out bb a hbn han
                    have hUz := HU.out fb fa hfbm hfam
                    have hkp := Keeps.below HST4.out.below
                    have r1 := hkp _ _ (HR.out bb hbn)
                    have r2 := hkp _ _ (HC.out bb a hbn han)
                    have r3 := hkp _ _ (UR.out fb hfbm)
                    have r4 := hkp _ _ (UC.out fb fa hfbm hfam)
                    have d0 := hkp _ _ c0
                    have d1 := hkp _ _ c1
                    have hca := HST4.out.f8.cell (i := a) (by omega)
                    have hcb := HST4.out.f8.cell (i := bb) (by omega)
                    rw [HFA3.out] at hca
                    rw [HFB3.out] at hcb
                    clear hkp
                    obtain ⟨z, hz⟩ : ∃ z, T bb a = z := ⟨_, rfl⟩
                    obtain ⟨im, him⟩ : ∃ im, U fb fa = im := ⟨_, rfl⟩
                    rw [hz] at r2 hTz
                    rw [him] at r4 hUz
                    have HZ := Lib.hid hz
                    have HIM := Lib.hid him
                    clear hz him
                    have hcz := HST4.out.f8.cell (i := z) (by omega)
                    have hfz := HST4.out.f8.frozen z
                    by_cases hzneg : F3 z < 0
                    · have hmid4 := HMID3.out.set_ HT.out HU.out hbn han (by rw [HFB3.out]; omega) (by rw [HFA3.out]; omega) (by rw [HZ.out]; exact hzneg)
                      rw [HFB3.out, HFA3.out, Int.toNat_natCast, Int.toNat_natCast, HZ.out, HIM.out] at hmid4
                      have hund := undC_upd F3 hzneg (show (0 : Int) ≤ (im : Int) by omega) n hTz
                      have hlw : lnx (work3 ++ [z]) = lnx work3 + 1 := by rw [lnx_append, lnx_one]
                      have hne1 : a ≠ z := fun e => by have := HFA3.out; rw [e] at this; omega
                      have hne2 : bb ≠ z := fun e => by have := HFB3.out; rw [e] at this; omega
                      have HMID4 := Lib.hid hmid4
                      have HLW := Lib.hid hlw
                      have hwl : lnx work3 ≤ 1000 := by have := undC_le F0 n; have := HGZ0.out; omega
                      clear hmid4 hlw
                      go_quiet (fail)
                      have hst5 := (HST4.out.drewN nq).set_ z (im : Int)
                      have hW5 : ∃ W5, (W1.drewN nq).setCell ⟨w.heap.size, z, none⟩ (.int .i64 (im : Int)) = W5 := ⟨_, rfl⟩
                      obtain ⟨W5, hW5⟩ := hW5
                      have hW5' : (W1.setCell ⟨w.heap.size, z, none⟩ (.int .i64 (im : Int))).drewN nq = W5 := by rw [← hW5]; rfl
                      rw [hW5] at hst5
                      have e2 := World.cell?_alloc_new W5 #[.int .i64 (z : Int)] 3 0
                      have e4 := hst5.alloc (.cells #[.int .i64 (z : Int)] 3)
                      have hcz5 := e4.f8.cell (i := z) (by omega)
                      rw [upd_same] at hcz5
                      have hsz5 := hst5.sz
                      have HST5 := Lib.hid hst5
                      have Q4 := Lib.hid e4.q
                      have hne0 : ((im : Int) != (im : Int)) = false := bne_f rfl
                      have E4 := Lib.hid e4
                      clear hst5 e4
                      go_wp2_with (at_builtin; refine wpList_pushQ _ rfl _ _ 31 rfl (w.heap.size + 2) 3 (.int .i64 0) 8 Try.underlying31 Try.infoInt rfl _ (nv work3) rfl W5.heap.size (.int .i64 (z : Int)) rfl Q4.out e2 rfl ?_ ?_ ?_ ?_)
                      · rw [lnx_nv]; simp only [maxLen]; omega
                      · rw [lnx_nv]; omega
                      · simp; omega
                      intro b6 o6 c6 w6 hq6 ho6
                      have hst6 := E4.out.push hq6 ho6
                      have hcz6 := hst6.f8.cell (i := z) (by omega)
                      rw [upd_same] at hcz6
                      have HST6 := Lib.hid hst6
                      clear hst6 hq6 ho6 E4 Q4 HST5 hW5 hW5' e2 hcz5
                      go_wp2
                      go_roundg 1
                      case measure => omega
                      case rel => exact ⟨2, _, _, rfl, by omega, by omega, HST6.out, HMID4.out, by rw [HLW.out]; omega, by rw [upd_other F3 _ hne1]; exact HFA3.out, by rw [upd_other F3 _ hne2]; exact HFB3.out, fun _ => by rw [upd_other F3 _ (fun e => by have h1 := HP1.out (by omega); rw [e] at h1; omega)]; exact HP1.out (by omega), fun _ => by rw [HZ.out, HIM.out, upd_same]⟩
                    · obtain ⟨fz, hfz0⟩ : ∃ fz : Nat, F3 z = fz := ⟨(F3 z).toNat, by omega⟩
                      rw [hfz0] at hcz
                      have HFZ := Lib.hid hfz0
                      clear hfz0 hzneg
                      by_cases heq : fz = im
                      · have g1 : ((fz : Int) != (im : Int)) = false := bne_f (by omega)
                        have HEQ : Hid (F3 (T bb a) = ((U fb fa : Nat) : Int)) := by
                          show F3 (T bb a) = ((U fb fa : Nat) : Int)
                          rw [HZ.out, HIM.out, HFZ.out, heq]
                        clear heq
                        go_quiet (fail)
                        go_wp2
                        go_roundg 1
                        case measure => omega
                        case rel => exact ⟨2, F3, work3, rfl, by omega, by omega, HST4.out.drewN _, HMID3.out, hms3, HFA3.out, HFB3.out, fun _ => HP1.out (by omega), fun _ => HEQ.out⟩
                      · have g1 : ((fz : Int) != (im : Int)) = true := bne_t (by omega)
                        have HB := Lib.hid HST4.out.below
                        have HSZ := HST4.out.sz
                        have F8 := Lib.hid (fun k => HST4.out.f8.drewN k)
                        have R8 := Lib.hid (fun k => HST4.out.r8.drewN k)
                        have HNO := Lib.hid (HMID3.out.inv.conflict HT.out hbn han (by rw [HFB3.out]; omega) (by rw [HFA3.out]; omega) (by rw [HZ.out, HFZ.out]; omega) (by rw [HFB3.out, HFA3.out, Int.toNat_natCast, Int.toNat_natCast, HZ.out, HIM.out, HFZ.out]; omega))
                        go_quiet (fail)
                        go_wp2_with (first | (refine wpList_load8 rfl 112 _ rfl w.heap.size rfl 112 3 F3 Try.underlying112 Try.info8 (F8.out _) ?_) | (refine wpList_store8 rfl 112 _ _ rfl (w.heap.size + 1) rfl F3 rfl 112 (fun _ => 0) Try.info8 (R8.out _) ?_; intro w5 hb5 ho5))
                        have hres := @results8 Try.prog Try.f106 8 9 _ rfl
                        refine bodyPost_ret (hres _ w5 (w.heap.size + 1) _ _ F3 Try.underlying112 Try.info8 hb5 rfl) rfl ?_
                        rw [HF0.out] at HNO
                        exact ⟨F3, false, rfl, (Below.drewN' HB.out _).trans (ho5.below (by omega) (by simp; omega)), fun h => (by cases h), fun _ => HNO.out⟩
                  · -- both pairs are done
                    clear ix0 ix1
                    go_wp2
                    go_roundg (n - (bb + 1))
                    case measure => omega
                    case rel => exact ⟨bb + 1, F3, work3, by go_num, by omega, Nat.le_refl _, HST3.out, HMID3.out.next (.inr ⟨⟨by rw [HFA3.out, HFB3.out]; exact HP1.out (by omega), fun h1 h2 => by rw [HFA3.out, HFB3.out]; have := HINJ.out h1 (Ne.symm h2); omega⟩, ⟨by rw [HFA3.out, HFB3.out]; exact HP2.out (by omega), fun h1 h2 => by rw [HFA3.out, HFB3.out]; have := HINJ.out h1 h2; omega⟩⟩), hms3⟩
        · clear hst hmid
          go_wp2
          go_roundg (2 * undC n F2 + lnx work2)
          case measure => have := HGZ.out; omega
          case rel =>
            have hh := HMID.out
            rw [show bb = n by omega] at hh
            exact ⟨F2, work2, HST.out, hh.inv, hh.end_, Nat.le_refl _, by have := HGZ0.out; omega⟩
end Go.Proofs.Ytgghmjnbkbiffaa
