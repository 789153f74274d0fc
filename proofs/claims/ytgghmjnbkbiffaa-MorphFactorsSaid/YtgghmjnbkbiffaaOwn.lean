/-
  My own library, on memory that a call makes itself: 'Only' (which blocks may have turned), 'Arr' (a block known whole), rows that grow, and the laws of make and append in the forms that I use.
-/
import Derived.Test.YtgghmjnbkbiffaaQuiet
import Derived.Maps.AppendAt
import Derived.Deep.AppendLies
import Derived.OneCell
namespace Go.Proofs.Ytgghmjnbkbiffaa
open Go.RowKit
set_option linter.unusedVariables false

/-- Only blocks of S may have turned; new ones may have come. -/
structure Only (S : Nat → Prop) (w w' : World) : Prop where
  os : w'.os = w.os
  tape : w'.tape = w.tape
  output : w'.output = w.output
  size : w.heap.size ≤ w'.heap.size
  block : ∀ k, k < w.heap.size → ¬ S k → w'.heap[k]? = w.heap[k]?

theorem Only.refl (S : Nat → Prop) (w : World) : Only S w w := ⟨rfl, rfl, rfl, Nat.le_refl _, fun _ _ _ => rfl⟩
theorem Only.trans {S : Nat → Prop} {a b c : World} (h : Only S a b) (k : Only S b c) : Only S a c :=
  ⟨k.os.trans h.os, k.tape.trans h.tape, k.output.trans h.output, Nat.le_trans h.size k.size, fun i hi hn => (k.block i (Nat.lt_of_lt_of_le hi h.size) hn).trans (h.block i hi hn)⟩
theorem Only.mono {S S' : Nat → Prop} {w w' : World} (h : Only S w w') (hs : ∀ k, k < w.heap.size → S k → S' k) : Only S' w w' :=
  ⟨h.os, h.tape, h.output, h.size, fun k hk hn => h.block k hk (fun hS => hn (hs k hk hS))⟩
theorem Only.alloc {S : Nat → Prop} {a w : World} (h : Only S a w) (o : Obj) : Only S a (w.alloc o) :=
  ⟨h.os, h.tape, h.output, by simp; exact Nat.le_succ_of_le h.size, fun k hk hn => (Below.heap_alloc w o k (Nat.lt_of_lt_of_le hk h.size)).trans (h.block k hk hn)⟩
theorem Only.setCell {S : Nat → Prop} {a w : World} (h : Only S a w) {p : Addr} (hp : p.block < a.heap.size → S p.block) (u : Value) : Only S a (w.setCell p u) :=
  ⟨h.os, h.tape, h.output, by simp [World.setCell]; exact h.size, fun k hk hn => (Below.heap_setCell w p u k (fun e => hn (by rw [e]; exact hp (by omega)))).trans (h.block k hk hn)⟩
theorem Only.drew {S : Nat → Prop} {a w : World} (h : Only S a w) : Only S a w.drew := ⟨h.os, h.tape, h.output, h.size, h.block⟩
theorem Only.drewN {S : Nat → Prop} {a w : World} (h : Only S a w) (n : Nat) : Only S a (w.drewN n) := ⟨h.os, h.tape, h.output, h.size, h.block⟩
theorem Only.grown {S : Nat → Prop} {a w w' : World} {row : Option Nat} (h : Only S a w) (hg : w.grownBy w' row) (hr : ∀ k, k < a.heap.size → row = some k → S k) : Only S a w' :=
  ⟨hg.os.trans h.os, hg.tape.trans h.tape, hg.output.trans h.output, Nat.le_trans h.size hg.size, fun k hk hn =>
    (hg.block k (Nat.lt_of_lt_of_le hk h.size) (fun e => hn (hr k hk e.symm))).trans (h.block k hk hn)⟩
theorem Only.of_below {B : Nat} {w w' : World} (h : Below B w w') : Only (fun k => B ≤ k) w w' := ⟨h.os, h.tape, h.output, h.size, fun k _ hn => h.block k (by omega)⟩
theorem Only.below {S : Nat → Prop} {B : Nat} {w w' : World} (h : Only S w w') (hS : ∀ k, k < B → ¬ S k) (hB : B ≤ w.heap.size) : Below B w w' :=
  ⟨h.os, h.tape, h.output, h.size, fun k hk => h.block k (by omega) (hS k hk)⟩
/-- A call that makes new memory alone. -/
theorem Only.call {S : Nat → Prop} {a w w' : World} (h : Only S a w) (hb : Below w.heap.size w w') : Only S a w' :=
  ⟨hb.os.trans h.os, hb.tape.trans h.tape, hb.output.trans h.output, Nat.le_trans h.size hb.size, fun k hk hn => (hb.block k (Nat.lt_of_lt_of_le hk h.size)).trans (h.block k hk hn)⟩

theorem Below.drewN' {B : Nat} {a w : World} (h : Below B a w) (n : Nat) : Below B a (w.drewN n) := ⟨h.os, h.tape, h.output, h.size, h.block⟩
theorem Below.quiet {w w' : World} (h : Quiet w w') : Below w.heap.size w w' := by obtain ⟨k, rfl⟩ := h; exact Below.drewN' (Below.refl _ _) k
theorem belowThen {a w w' : World} (h : Below a.heap.size a w) (k : Below w.heap.size w w') : Below a.heap.size a w' := h.trans (k.mono h.size)
theorem Below.then_ {B : Nat} {a w w' : World} (h : Below B a w) (hB : B ≤ w.heap.size) (k : Below w.heap.size w w') : Below B a w' := h.trans (k.mono hB)

/-- Block g is an array of n cells of element type E, as f says. -/
def Arr (E : TypeId) (w : World) (g n : Nat) (f : Nat → Value) : Prop := ∃ cs : Array Value, w.heap[g]? = some (.cells cs E (0, 0)) ∧ cs.size = n ∧ ∀ i, i < n → cs[i]? = some (f i)

section
variable {E : TypeId} {w w' : World} {g n : Nat} {f : Nat → Value}
theorem Arr.lt (h : Arr E w g n f) : g < w.heap.size := by
  obtain ⟨cs, h1, _⟩ := h
  exact lt_of_block h1
theorem Arr.cell (h : Arr E w g n f) {i : Nat} (hi : i < n) : w.cell? ⟨g, i, none⟩ = some (f i) := by
  obtain ⟨cs, h1, _, h3⟩ := h
  simp [World.cell?, h1, h3 i hi]
theorem Arr.frozen (h : Arr E w g n f) (i : Nat) : w.frozen? ⟨g, i, none⟩ = false := by
  obtain ⟨cs, h1, _⟩ := h
  simp [World.frozen?, h1]
theorem Arr.same (h : Arr E w g n f) (hb : w'.heap[g]? = w.heap[g]?) : Arr E w' g n f := by
  obtain ⟨cs, h1, h2⟩ := h
  exact ⟨cs, hb.trans h1, h2⟩
theorem Arr.only {S : Nat → Prop} (h : Arr E w g n f) (ho : Only S w w') (hn : ¬ S g) : Arr E w' g n f := h.same (ho.block g h.lt hn)
theorem Arr.alloc (h : Arr E w g n f) (o : Obj) : Arr E (w.alloc o) g n f := h.same (Below.heap_alloc w o g h.lt)
theorem Arr.far (h : Arr E w g n f) {p : Addr} (hp : g ≠ p.block) (u : Value) : Arr E (w.setCell p u) g n f := h.same (Below.heap_setCell w p u g hp)
theorem Arr.below {B : Nat} (h : Arr E w g n f) (hb : Below B w w') (hg : g < B) : Arr E w' g n f := h.same (hb.block g hg)
theorem Arr.grown {row : Option Nat} (h : Arr E w g n f) (hb : w.grownBy w' row) (hg : some g ≠ row) : Arr E w' g n f := h.same (hb.block g h.lt hg)
theorem Arr.drewN (h : Arr E w g n f) (k : Nat) : Arr E (w.drewN k) g n f := h
theorem Arr.drew (h : Arr E w g n f) : Arr E w.drew g n f := h
theorem Arr.set_ (h : Arr E w g n f) (i : Nat) (u : Value) : Arr E (w.setCell ⟨g, i, none⟩ u) g n (fun j => if j = i then u else f j) := by
  obtain ⟨cs, h1, h2, h3⟩ := h
  refine ⟨cs.setIfInBounds i u, by simp [World.setCell, Array.getElem?_modify, h1], by simpa using h2, fun j hj => ?_⟩
  rw [Array.getElem?_setIfInBounds]
  by_cases hji : j = i
  · subst hji
    simp [h2, hj]
  · rw [if_neg (fun e => hji e.symm), h3 j hj]
    simp [hji]
theorem Arr.congr {f' : Nat → Value} (h : Arr E w g n f) (hf : ∀ i, i < n → f i = f' i) : Arr E w g n f' := by
  obtain ⟨cs, h1, h2, h3⟩ := h
  exact ⟨cs, h1, h2, fun i hi => by rw [h3 i hi, hf i hi]⟩
end

/-- n zeros. -/
def zeros (z : Value) (n : Nat) : Array Value := madeCells #[z] n
theorem Arr.zeros (E : TypeId) (w : World) (z : Value) (n : Nat) : Arr E (w.alloc (.cells (zeros z n) E)) w.heap.size n (fun _ => z) := by
  refine ⟨_, heap_alloc_new w _, size_madeCells _ _, fun i hi => ?_⟩
  simp [Proofs.Ytgghmjnbkbiffaa.zeros, madeCells, hi, Nat.mod_one]
theorem Arr.one (E : TypeId) (w : World) (z : Value) : Arr E (w.alloc (.cells #[z] E)) w.heap.size 1 (fun _ => z) := by
  refine ⟨_, heap_alloc_new w _, rfl, fun i hi => ?_⟩
  obtain rfl : i = 0 := by omega
  rfl

/-- 'make([]T, n)'. -/
theorem run_mk {P : Program} {t e : TypeId} {z : Value} {bytes : Nat} (ht : P.underlying t = some (.slice e)) (hinfo : (P.info? e).map (fun i => (i.zero, i.size, i.bytes)) = some (some z, 1, bytes)) (hz1 : z.cells = #[z])
    (n : Nat) (hb : bytes * n ≤ 281474976710656) (hm : n ≤ 9223372036854775807) (w : World) :
    (Instr.makeSlice t (.int .i64 n) (.int .i64 n)).run P w = .ok (.slice (some ⟨w.heap.size, 0, none⟩) n n) (w.alloc (.cells (zeros z n) e)) := by
  obtain ⟨i, hi, h1, h2, h3⟩ := info_parts hinfo
  have hb' : (i.bytes : Int) * (n : Int) ≤ 281474976710656 := by
    have h : ((bytes * n : Nat) : Int) ≤ 281474976710656 := by omega
    rw [h3]
    rwa [Int.natCast_mul] at h
  have hr := run_make (P := P) w t e i z ht hi h1 .i64 .i64 n n (by omega) (Int.le_refl _) hb' (by omega)
  simp only [Int.toNat_natCast, h2, hz1, Nat.mul_one] at hr
  exact hr

/-- What append onto a row of the call's own leaves. -/
structure App (base : Nat) (e : TypeId) (w w' : World) (v v' : Value) (n m : Nat) (xs news : List Value) : Prop where
  own : w'.ownsRow base e 1 v' (n + m) (xs ++ news)
  grown : w.grownBy w' v.ownBlock
  loc : v'.ownBlock = v.ownBlock ∨ v'.ownBlock = some w.heap.size
  kept : ∀ g, v.ownBlock = some g → ∀ j u, xs[j]? = some u → w'.cell? ⟨g, j, none⟩ = some u

theorem run_append_kept {P : Program} (w : World) (base : Nat) (t ty e : TypeId) (z : Value) (bytes : Nat) (ht : P.underlying t = some (.slice e)) (hinfo : (P.info? e).map (fun i => (i.zero, i.size, i.bytes)) = some (some z, 1, bytes)) (hzs : z.cells.size = 1)
    (v : Value) (n : Nat) (xs : List Value) (hown : w.ownsRow base e 1 v n xs)
    (ad : Addr) (m c : Nat) (news : List Value) (hl : news.length = m) (hnews : ∀ j u, news[j]? = some u → w.cell? (ad.add j) = some u) (h1 : ∀ u ∈ news, u.oneCell' = true)
    (h63 : n + m ≤ maxLen) (hbytes : (n + m) * bytes ≤ 140737488355328) (hbase : base ≤ w.heap.size) :
    ∃ v' w', (Builtin.append_ #[t, t] ty #[v, .slice (some ad) m c]).run P w = .ok v' w' ∧ App base e w w' v v' n m xs news := by
  obtain ⟨i, hi, hz, hsz, hby⟩ := info_parts hinfo
  obtain ⟨v', w', hrun, r1, r2, _, r4⟩ := run_append_own_at (P := P) w base t ty e i z 1 bytes ht hi hz hsz hby hzs (by omega) v n xs hown ad m c news (by omega) hnews h1 h63 hbytes hbase
  refine ⟨v', w', hrun, r1, r2, r4, ?_⟩
  intro g hg j u hu
  rcases hown.2 with ⟨rfl, _⟩ | ⟨g', cap, cur, rfl, hbg, hgg, hnc, hcm, hcs, htake⟩
  · simp [Value.ownBlock] at hg
  · obtain rfl : g' = g := by simpa [Value.ownBlock] using hg
    have hold : w.cell? ⟨g', j, none⟩ = some u := by
      have := hown.cells (g := g') rfl j u hu
      rw [Addr.add_lit] at this
      simpa using this
    have hsmall : n + m ≤ 9223372036854775807 := by simp only [maxLen] at h63; omega
    by_cases hroom : n + m ≤ cap
    · have hr := run_append_room (P := P) w t ty e i ht hi g' n cap cur hgg ad m c news (by rw [hsz]; omega) hnews h1 hroom (by rw [hsz]; omega)
      rw [hrun] at hr
      injection hr with hv hw
      subst hv
      have hlt : j < xs.length := (List.getElem?_eq_some_iff.1 hu).1
      have := r1.cells (g := g') rfl j u (by rw [List.getElem?_append_left hlt]; exact hu)
      rw [Addr.add_lit] at this
      simpa using this
    · have hr := run_append_grow (P := P) w t ty e i z ht hi hz ⟨g', 0, none⟩ n cap xs (by rw [hsz]; exact hown.1) (hown.cells (g := g') rfl) ad m c news (by rw [hsz]; omega) hnews (by omega) (by omega) (growslice_fits (by omega) (by rw [hby]; exact hbytes))
      rw [hrun] at hr
      injection hr with hv hw
      subst hw
      rw [World.cell?_alloc_lt _ _ _ (by have := World.block_lt_of_cell? w _ hold; simpa using this)]
      exact hold

/-- append of one element that lies alone in a block. -/
theorem wpList_push {P : Program} (w : World) {ops : Array Oper} {rest : List Oper} {o : Oper} {a : Act} {Q : Exit → Act → World → Prop} (hgd : o.guard = none) (s x : Operand) (t : TypeId)
    (ho : o.op = .call { callee := .builtin .append, args := #[s, x], argTypes := #[t, t] })
    (base : Nat) (e : TypeId) (z : Value) (bytes : Nat) (ht : P.underlying t = some (.slice e)) (hinfo : (P.info? e).map (fun i => (i.zero, i.size, i.bytes)) = some (some z, 1, bytes)) (hzs : z.cells.size = 1)
    (v : Value) (n : Nat) (xs : List Value) (hs : a.eval s = v) (g : Nat) (u : Value) (hx : a.eval x = .slice (some ⟨g, 0, none⟩) 1 1)
    (hown : w.ownsRow base e 1 v n xs) (hu : w.cell? ⟨g, 0, none⟩ = some u) (h1 : u.oneCell' = true)
    (h63 : n + 1 ≤ maxLen) (hbytes : (n + 1) * bytes ≤ 140737488355328) (hbase : base ≤ w.heap.size)
    (h : ∀ r cap w', App base e w w' v (.slice (some ⟨r, 0, none⟩) (n + 1) cap) n 1 xs [u] → wpList P ops Q rest (a.put o.dst (.slice (some ⟨r, 0, none⟩) (n + 1) cap)) w') :
    wpList P ops Q (o :: rest) a w := by
  refine wpList_plain hgd fun K hK => ?_
  have hnews : ∀ j y, [u][j]? = some y → w.cell? ((⟨g, 0, none⟩ : Addr).add j) = some y := by
    intro j y hy
    cases j with
    | zero =>
      simp at hy
      subst hy
      simpa [Addr.add] using hu
    | succ j => simp at hy
  obtain ⟨v', w', hrun, r1⟩ := run_append_kept (P := P) w base t o.type e z bytes ht hinfo hzs v n xs hown ⟨g, 0, none⟩ 1 1 [u] rfl hnews (by simpa using h1) h63 hbytes hbase
  unfold Oper.wp execOp
  simp only [ho, resolve, invoke, builtin, Sem.run_bind, Sem.run_pure, Result.andThen_ok, List.map_toArray, List.map_cons, List.map_nil, hs, hx, hrun]
  obtain ⟨r, cap, rfl, _, _⟩ := r1.own.form (by omega)
  exact hK _ _ (h r cap w' r1)

section
variable {base : Nat} {e : TypeId} {w w' : World} {v v' : Value} {n m : Nat} {xs news : List Value}
/-- The block of the new row: the old one, or a new one. -/
theorem App.at_ (h : App base e w w' v v' n m xs news) {k : Nat} (hk : v'.ownBlock = some k) : v.ownBlock = some k ∨ k = w.heap.size := by
  rcases h.loc with e | e
  · exact .inl (by rw [← e]; exact hk)
  · exact .inr (by rw [e] at hk; simpa using hk.symm)
/-- Every cell but those of the row's own block stays. -/
theorem App.cell (h : App base e w w' v v' n m xs news) {p : Addr} {u : Value} (hp : w.cell? p = some u) (hne : v.ownBlock ≠ some p.block) : w'.cell? p = some u := h.grown.cell hp (fun e => hne e.symm)
end

/-- A row that the call owns reads as its list. -/
theorem Sl.own {α : Type} [Inhabited α] {enc : α → Value} {w : World} {base : Nat} {e : TypeId} {v : Value} {xs : List α} (h : w.ownsRow base e 1 v (lnx xs) (xs.map enc)) : Sl enc w v xs := by
  rcases h.2 with ⟨rfl, h0⟩ | ⟨g, cap, cur, rfl, _, hg, hnc, hm, _, htake⟩
  · exact ⟨none, 0, by rw [h0], by omega, by omega, fun hh => by omega⟩
  · refine ⟨_, cap, rfl, hnc, by simpa [maxLen] using hm, fun _ => ⟨g, 0, rfl, fun i hi => ?_⟩⟩
    have := h.cells (g := g) rfl i (enc (nthx xs i)) (by simp [nthx, lnx] at hi ⊢; simp [hi])
    rw [Addr.add_lit] at this
    simpa using this
theorem lnx_append {α : Type} (xs ys : List α) : lnx (xs ++ ys) = lnx xs + lnx ys := by simp [lnx]
theorem lnx_one {α : Type} (x : α) : lnx [x] = 1 := rfl
theorem lnx_nil {α : Type} : lnx ([] : List α) = 0 := rfl
theorem nthx_append_lt {α : Type} [Inhabited α] (xs ys : List α) {i : Nat} (h : i < lnx xs) : nthx (xs ++ ys) i = nthx xs i := by
  simp [nthx, lnx] at h ⊢
  rw [List.getElem?_append_left h]
theorem nthx_append_new {α : Type} [Inhabited α] (xs : List α) (y : α) : nthx (xs ++ [y]) (lnx xs) = y := by simp [nthx, lnx]
theorem nthx_mem {α : Type} [Inhabited α] {xs : List α} {i : Nat} (h : i < lnx xs) : nthx xs i ∈ xs := by
  simp [nthx, lnx] at h ⊢
  simp [h]
theorem mem_nthx {α : Type} [Inhabited α] {xs : List α} {x : α} (h : x ∈ xs) : ∃ i, i < lnx xs ∧ nthx xs i = x := by
  obtain ⟨i, hi, rfl⟩ := List.getElem_of_mem h
  exact ⟨i, hi, by simp [nthx, hi]⟩
end Go.Proofs.Ytgghmjnbkbiffaa
