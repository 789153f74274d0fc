/-
  Partitions of states in plain Lean: dividing classes by marks.
  Walks in my logic: split and classes (monomial).
-/
import Derived.Test.YtnffigeofdagfaaDoorZmap
import Derived.Test.YtnffigeofdagfaaDoorZmaq
namespace Go.Proofs.YtnffigeofdagfaaDoor.M
open Go.RowKit
set_option linter.unusedVariables false
set_option linter.unusedSimpArgs false

def clF (key c : Nat → Nat) (ds : List Nat) (s i : Nat) : Nat := if i < s then (ixA (key i) ds).getD 0 else c i
theorem ixA_app {x : Nat} {ys : List Nat} : ∀ {cl : List Nat} {t : Nat}, ixA x cl = some t → ixA x (cl ++ ys) = some t := by
 intro cl
 induction cl with
 | nil => intro t h; simp [ixA] at h
 | cons y r ih =>
  intro t h
  simp only [List.cons_append, ixA] at h ⊢
  by_cases e : x = y
  ·simpa [e] using h
  ·simp only [e, if_false] at h ⊢
   cases hr : ixA x r with
   | none => rw [hr] at h; simp at h
   | some u => rw [hr] at h; rw [ih hr]; exact h
theorem ixA_self {x : Nat} {ds : List Nat} (h : x ∉ ds) : ixA x (ds ++ [x]) = some ds.length := by
 induction ds with
 | nil => simp [ixA]
 | cons y r ih =>
  rw [List.mem_cons, not_or] at h
  simp only [List.cons_append, ixA]
  rw [if_neg h.1, ih h.2]
  rfl
theorem ixA_other {x y : Nat} {ds : List Nat} (h : x ≠ y) : ixA x (ds ++ [y]) = ixA x ds := by
 induction ds with
 | nil => simp [ixA, h]
 | cons z r ih =>
  simp only [List.cons_append, ixA]
  rw [ih]
theorem ixA_no {x : Nat} {ds : List Nat} (h : x ∉ ds) : ixA x ds = none := by
 cases hx : ixA x ds with
 | none => rfl
 | some t => exact absurd (List.mem_of_getElem? (ixA_get hx)) h
theorem ixA_inj {ds : List Nat} {x y t : Nat} (hx : ixA x ds = some t) (hy : ixA y ds = some t) : x = y := by
 have h1 := ixA_get hx
 have h2 := ixA_get hy
 rw [h1] at h2
 injection h2
structure SpI (key : Nat → Nat) (ds : List Nat) (s : Nat) : Prop where
 nd : ds.Nodup
 met : ∀ i, i < s → key i ∈ ds
 src : ∀ x ∈ ds, ∃ i, i < s ∧ key i = x
 len : ds.length ≤ s
theorem SpI.start (key : Nat → Nat) : SpI key [] 0 := ⟨by simp, fun i h => by omega, fun x h => by simp at h, by simp⟩
theorem SpI.hit {key : Nat → Nat} {ds : List Nat} {s : Nat} (h : SpI key ds s) (hk : key s ∈ ds) : SpI key ds (s + 1) :=
 ⟨h.nd, fun i hi => by
  by_cases e : i = s
  ·rw [e]; exact hk
  ·exact h.met i (by omega), fun x hx => by
  obtain ⟨i, h1, h2⟩ := h.src x hx
  exact ⟨i, by omega, h2⟩, by have := h.len; omega⟩
theorem SpI.add {key : Nat → Nat} {ds : List Nat} {s : Nat} (h : SpI key ds s) (hk : key s ∉ ds) : SpI key (ds ++ [key s]) (s + 1) :=
 ⟨List.nodup_append.2 ⟨h.nd, by simp, fun x hx y hy => by
  simp only [List.mem_singleton] at hy
  subst hy
  intro e
  exact hk (e ▸ hx)⟩, fun i hi => by
  by_cases e : i = s
  ·rw [e]; simp
  ·exact List.mem_append.2 (.inl (h.met i (by omega))), fun x hx => by
  rcases List.mem_append.1 hx with hx | hx
  ·obtain ⟨i, h1, h2⟩ := h.src x hx
   exact ⟨i, by omega, h2⟩
  ·simp only [List.mem_singleton] at hx
   exact ⟨s, by omega, hx.symm⟩, by have := h.len; simp; omega⟩
theorem clF_hit {key c : Nat → Nat} {ds : List Nat} {s t : Nat} (ht : ixA (key s) ds = some t) (i : Nat) : (if i = s then t else clF key c ds s i) = clF key c ds (s + 1) i := by
 unfold clF
 by_cases e : i = s
 ·subst e; rw [if_pos rfl, if_pos (by omega), ht]; rfl
 ·rw [if_neg e]
  by_cases e2 : i < s
  ·rw [if_pos e2, if_pos (by omega)]
  ·rw [if_neg e2, if_neg (by omega)]
theorem clF_add {key c : Nat → Nat} {ds : List Nat} {s : Nat} (h : SpI key ds s) (hk : key s ∉ ds) (i : Nat) : (if i = s then ds.length else clF key c ds s i) = clF key c (ds ++ [key s]) (s + 1) i := by
 unfold clF
 by_cases e : i = s
 ·subst e; rw [if_pos rfl, if_pos (by omega), ixA_self hk]; rfl
 ·rw [if_neg e]
  by_cases e2 : i < s
  ·obtain ⟨t, ht⟩ := ixA_some (h.met i e2)
   rw [if_pos e2, if_pos (by omega), ht, ixA_app ht]
  ·rw [if_neg e2, if_neg (by omega)]
def dsL (key : Nat → Nat) : Nat → List Nat
 | 0 => []
 | s + 1 => if key s ∈ dsL key s then dsL key s else dsL key s ++ [key s]
theorem dsL_hit {key : Nat → Nat} {s : Nat} (h : key s ∈ dsL key s) : dsL key (s + 1) = dsL key s := by
 show (if _ then _ else _) = _
 rw [if_pos h]
theorem dsL_add {key : Nat → Nat} {s : Nat} (h : key s ∉ dsL key s) : dsL key (s + 1) = dsL key s ++ [key s] := by
 show (if _ then _ else _) = _
 rw [if_neg h]
theorem dsL_ok (key : Nat → Nat) : ∀ s, SpI key (dsL key s) s
 | 0 => SpI.start key
 | s + 1 => by
  by_cases h : key s ∈ dsL key s
  ·rw [dsL_hit h]; exact (dsL_ok key s).hit h
  ·rw [dsL_add h]; exact (dsL_ok key s).add h
structure Part (n : Nat) (c : Nat → Nat) (k : Nat) : Prop where
 lt : ∀ i, i < n → c i < k
 sur : ∀ t, t < k → ∃ i, i < n ∧ c i = t
theorem Part.le {n k : Nat} {c : Nat → Nat} (h : Part n c k) : k ≤ n := by
 have := nodup_len (l := List.range k) (s := (List.range n).map c) List.nodup_range (fun t ht => by
  obtain ⟨i, h1, h2⟩ := h.sur t (List.mem_range.1 ht)
  exact List.mem_map.2 ⟨i, List.mem_range.2 h1, h2⟩)
 simpa using this
theorem full_mem {k : Nat} {l : List Nat} (hnd : l.Nodup) (hl : l.length = k) (hlt : ∀ x ∈ l, x < k) {x : Nat} (hx : x < k) : x ∈ l := by
 refine Classical.byContradiction fun h => ?_
 have := nodup_len (l := x :: l) (s := List.range k) (List.nodup_cons.2 ⟨h, hnd⟩) (fun y hy => by
  rcases List.mem_cons.1 hy with rfl | hy
  ·exact List.mem_range.2 hx
  ·exact List.mem_range.2 (hlt y hy))
 simp at this
 omega
theorem Part.finer {n k k' : Nat} {c c' : Nat → Nat} (h : Part n c k) (h' : Part n c' k') (hf : ∀ i j, i < n → j < n → c' i = c' j → c i = c j) :
  k ≤ k' ∧ (k = k' → ∀ i j, i < n → j < n → c i = c j → c' i = c' j) := by
 have hr : ∃ rep : Nat → Nat, ∀ t, t < k → rep t < n ∧ c (rep t) = t := by
  refine ⟨fun t => if ht : t < k then (h.sur t ht).choose else 0, fun t ht => ?_⟩
  simp only [dif_pos ht]
  exact (h.sur t ht).choose_spec
 obtain ⟨rep, hrep⟩ := hr
 have hnd : ((List.range k).map fun t => c' (rep t)).Nodup := by
  have h0 : ((List.range k).map fun t => t).Nodup := by rw [List.map_id']; exact List.nodup_range
  refine map_nodup h0 fun x hx y hy e => ?_
  rw [List.mem_range] at hx hy
  have := hf _ _ (hrep x hx).1 (hrep y hy).1 e
  rw [(hrep x hx).2, (hrep y hy).2] at this
  exact this
 have hlt : ∀ x ∈ (List.range k).map fun t => c' (rep t), x < k' := fun x hx => by
  obtain ⟨t, ht, rfl⟩ := List.mem_map.1 hx
  exact h'.lt _ (hrep t (List.mem_range.1 ht)).1
 refine ⟨?_, fun e => ?_⟩
 ·have := nodup_len (s := List.range k') hnd (fun x hx => List.mem_range.2 (hlt x hx))
  simpa using this
 ·subst e
  have key : ∀ i, i < n → c' (rep (c i)) = c' i := fun i hi => by
   have hm := full_mem hnd (by simp) hlt (h'.lt i hi)
   obtain ⟨t, ht, e⟩ := List.mem_map.1 hm
   have ht := List.mem_range.1 ht
   have := hf _ _ (hrep t ht).1 hi e
   rw [(hrep t ht).2] at this
   rw [← this]
   exact e
  intro i j hi hj e
  rw [← key i hi, ← key j hj, e]
def SpR (n : Nat) (c m : Nat → Nat) (c' : Nat → Nat) (k : Nat) : Prop := Part n c' k ∧ ∀ i j, i < n → j < n → (c' i = c' j ↔ c i = c j ∧ m i = m j)
theorem key_eq {a b x y M : Nat} (hx : x < M) (hy : y < M) : a * M + x = b * M + y ↔ a = b ∧ x = y := by
 constructor
 ·intro h
  have h1 : (a * M + x) / M = (b * M + y) / M := by rw [h]
  rw [Nat.mul_comm a, Nat.mul_comm b, Nat.mul_add_div (by omega), Nat.mul_add_div (by omega), Nat.div_eq_of_lt hx, Nat.div_eq_of_lt hy] at h1
  have : a = b := by omega
  subst this
  exact ⟨rfl, by omega⟩
 ·rintro ⟨rfl, rfl⟩; rfl
def kyF (M : Nat) (c m : Nat → Nat) (i : Nat) : Nat := c i * M + m i
def spF (n M : Nat) (c m : Nat → Nat) : Nat → Nat := clF (kyF M c m) c (dsL (kyF M c m) n) n
def spN (n M : Nat) (c m : Nat → Nat) : Nat := (dsL (kyF M c m) n).length
theorem spF_ok {n M : Nat} {c m : Nat → Nat} (hm : ∀ i, i < n → m i < M) : SpR n c m (spF n M c m) (spN n M c m) := by
 have h := dsL_ok (kyF M c m) n
 unfold spF spN
 generalize dsL (kyF M c m) n = ds at h ⊢
 have hg : ∀ i, i < n → ∃ t, ixA (kyF M c m i) ds = some t ∧ clF (kyF M c m) c ds n i = t := fun i hi => by
  obtain ⟨t, ht⟩ := ixA_some (h.met i hi)
  refine ⟨t, ht, ?_⟩
  rw [clF, if_pos hi, ht]
  rfl
 refine ⟨⟨fun i hi => ?_, fun t ht => ?_⟩, fun i j hi hj => ?_⟩
 ·obtain ⟨t, h1, h2⟩ := hg i hi
  rw [h2]
  exact ixA_lt h1
 ·obtain ⟨i, h1, h2⟩ := h.src ds[t] (by simp)
  obtain ⟨u, h3, h4⟩ := hg i h1
  refine ⟨i, h1, ?_⟩
  rw [h4]
  have h5 := ixA_get h3
  rw [h2] at h5
  have hnd := h.nd
  have h6 : ds[t]? = some ds[t] := List.getElem?_eq_getElem ht
  exact (List.getElem?_inj (List.getElem?_eq_some_iff.1 h5).1 hnd).1 (h5.trans h6.symm)
 ·obtain ⟨t, h1, h2⟩ := hg i hi
  obtain ⟨u, h3, h4⟩ := hg j hj
  rw [h2, h4, ← key_eq (hm i hi) (hm j hj)]
  constructor
  ·intro e; rw [e] at h1; exact ixA_inj h1 h3
  ·intro e
   have e' : kyF M c m i = kyF M c m j := e
   rw [e', h3] at h1; injection h1 with h1; exact h1.symm
def walkN (nx : List Nat) (L : Nat) : Nat → List Nat → Nat
 | s, [] => s
 | s, a :: w => walkN nx L (nx.getD (s * L + a) 0) w
def accN (nx : List Nat) (fb : List Bool) (L s : Nat) (w : List Nat) : Bool := fb.getD (walkN nx L s w) false
def LEq (nx : List Nat) (fb : List Bool) (L i j : Nat) : Prop := ∀ w, (∀ a ∈ w, a < L) → accN nx fb L i w = accN nx fb L j w
theorem LEq.step {nx : List Nat} {fb : List Bool} {L i j a : Nat} (h : LEq nx fb L i j) (ha : a < L) : LEq nx fb L (nx.getD (i * L + a) 0) (nx.getD (j * L + a) 0) := fun w hw => h (a :: w) (fun b hb => by
 rcases List.mem_cons.1 hb with rfl | hb
 ·exact ha
 ·exact hw b hb)
structure ClI (nx : List Nat) (fb : List Bool) (L n : Nat) (c : Nat → Nat) (k : Nat) : Prop where
 part : Part n c k
 fin : ∀ i j, i < n → j < n → c i = c j → fb.getD i false = fb.getD j false
 snd : ∀ i j, i < n → j < n → LEq nx fb L i j → c i = c j
def Cong (nx : List Nat) (L n : Nat) (c : Nat → Nat) (a : Nat) : Prop := ∀ b, b < a → ∀ i j, i < n → j < n → c i = c j → c (nx.getD (i * L + b) 0) = c (nx.getD (j * L + b) 0)
theorem ClI.start {nx : List Nat} {fb : List Bool} {L n : Nat} {c' : Nat → Nat} {k : Nat} (h : SpR n (fun _ => 0) (fun i => if fb.getD i false = true then 1 else 0) c' k) : ClI nx fb L n c' k := by
 refine ⟨h.1, fun i j hi hj e => ?_, fun i j hi hj e => ?_⟩
 ·have := ((h.2 i j hi hj).1 e).2
  cases hi : fb.getD i false <;> cases hj : fb.getD j false <;> simp_all
 ·have e := e [] (by simp)
  simp only [accN, walkN] at e
  exact (h.2 i j hi hj).2 ⟨rfl, by simp only [e]⟩
structure RdI (nx : List Nat) (fb : List Bool) (L n : Nat) (c0 : Nat → Nat) (k0 : Nat) (c : Nat → Nat) (k a : Nat) : Prop where
 cl0 : ClI nx fb L n c0 k0
 cl : ClI nx fb L n c k
 fine : ∀ i j, i < n → j < n → c i = c j → c0 i = c0 j
 eq : k = k0 → Cong nx L n c0 a
theorem RdI.start {nx : List Nat} {fb : List Bool} {L n : Nat} {c : Nat → Nat} {k : Nat} (h : ClI nx fb L n c k) : RdI nx fb L n c k c k 0 := ⟨h, h, fun i j _ _ e => e, fun _ b hb => by omega⟩
theorem RdI.le {nx : List Nat} {fb : List Bool} {L n : Nat} {c0 c : Nat → Nat} {k0 k a : Nat} (h : RdI nx fb L n c0 k0 c k a) : k0 ≤ k := (h.cl0.part.finer h.cl.part h.fine).1
theorem RdI.step {nx : List Nat} {fb : List Bool} {L n : Nat} {c0 c c' : Nat → Nat} {k0 k k' a : Nat} (h : RdI nx fb L n c0 k0 c k a) (ha : a < L) (hn : ∀ i, i < n → nx.getD (i * L + a) 0 < n)
  (hs : SpR n (fun i => c i) (fun i => c (nx.getD (i * L + a) 0)) c' k') : RdI nx fb L n c0 k0 c' k' (a + 1) := by
 have h1 := h.cl.part.finer hs.1 (fun i j hi hj e => ((hs.2 i j hi hj).1 e).1)
 have hf : ∀ i j, i < n → j < n → c' i = c' j → c0 i = c0 j := fun i j hi hj e => h.fine i j hi hj ((hs.2 i j hi hj).1 e).1
 refine ⟨h.cl0, ⟨hs.1, fun i j hi hj e => h.cl.fin i j hi hj ((hs.2 i j hi hj).1 e).1, fun i j hi hj e => (hs.2 i j hi hj).2 ⟨h.cl.snd i j hi hj e, h.cl.snd _ _ (hn i hi) (hn j hj) (e.step ha)⟩⟩, hf, fun e => ?_⟩
 have h2 := h.le
 have hk : k = k0 := by omega
 have h3 := (h.cl0.part.finer hs.1 hf).2 e.symm
 intro b hb i j hi hj ei
 by_cases eb : b = a
 ·subst eb
  exact h.fine _ _ (hn i hi) (hn j hj) ((hs.2 i j hi hj).1 (h3 i j hi hj ei)).2
 ·exact h.eq hk b (by omega) i j hi hj ei
theorem RdI.cong {nx : List Nat} {fb : List Bool} {L n : Nat} {c0 c : Nat → Nat} {k0 k : Nat} (h : RdI nx fb L n c0 k0 c k L) (e : k0 = k) (hn : ∀ a i, a < L → i < n → nx.getD (i * L + a) 0 < n) : Cong nx L n c L := by
 intro b hb i j hi hj ei
 have h1 := h.eq e.symm b hb i j hi hj (h.fine i j hi hj ei)
 exact (h.cl0.part.finer h.cl.part h.fine).2 e _ _ (hn b i hb hi) (hn b j hb hj) h1

set_option linter.unusedSimpArgs false

def rwN (n : Nat) (c : Nat → Nat) : List T := tab n fun i => .int .i64 (c i : Int)
@[simp] theorem rwN_len (n : Nat) (c : Nat → Nat) : (rwN n c).length = n := by simp [rwN]
theorem rwN_at {n : Nat} {c : Nat → Nat} {i : Nat} (h : i < n) : (rwN n c)[i]? = some (.int .i64 (c i : Int)) := tab_get _ h
theorem rwN_set (n : Nat) (c : Nat → Nat) (k x : Nat) : (rwN n c).set k (.int .i64 (x : Int)) = rwN n (fun i => if i = k then x else c i) := by
 rw [rwN, tab_set]
 refine tab_congr fun i hi => ?_
 by_cases e : i = k <;> simp [e]
theorem rwN_congr {n : Nat} {c d : Nat → Nat} (h : ∀ i, i < n → c i = d i) : rwN n c = rwN n d := tab_congr fun i hi => by rw [h i hi]
theorem rwN_zero (n : Nat) : List.replicate n (T.int .i64 0) = rwN n fun _ => 0 := by
 unfold rwN tab
 rw [List.map_const', List.length_range]
 rfl
@[simp] theorem lvs_rwN (p n : Nat) (c : Nat → Nat) : lvs p (rwN n c) = 2 := by
 unfold lvs
 rw [if_pos]
 simp [rwN, tab, scal]
def nmF (ds : List Nat) (x : Nat) : Nat := match ixA x ds with | some t => t + 1 | none => 0
theorem nmF_add {ds : List Nat} {x : Nat} (hx : x ∉ ds) (i : Nat) : (if i = x then ds.length + 1 else nmF ds i) = nmF (ds ++ [x]) i := by
 unfold nmF
 by_cases e : i = x
 ·subst e; rw [if_pos rfl, ixA_self hx]
 ·rw [if_neg e, ixA_other e]
theorem key_lt {a b M K : Nat} (h : a < K) (hb : b < M) : a * M + b < K * M := by
 have : (a + 1) * M ≤ K * M := Nat.mul_le_mul_right _ h
 rw [Nat.add_mul] at this
 omega
set_option maxRecDepth 100000 in
set_option maxHeartbeats 4000000 in
theorem split_fn {n count M : Nat} (c m : Nat → Nat) (hn : n ≤ 4096) (hcl : count ≤ 512) (hM : M ≤ 512) (hc : ∀ i, i < n → c i < count) (hm : ∀ i, i < n → m i < M) :
  FnK Tryd.prog 86 [.own 0 n, .t 0 (.sl 1 (rwN n m)), .t 2 (.int .i64 count), .t 2 (.int .i64 M)] [.row 3 1 1 (rwN n c)] (.t 2 (.int .i64 (spN n M c m : Nat))) [.row 3 1 1 (rwN n (spF n M c m))] [0] := by
 obtain ⟨KM, hKM⟩ : ∃ KM, KM = count * M := ⟨_, rfl⟩
 have hKi : (count : Int) * (M : Int) = (KM : Nat) := by rw [hKM]; push_cast; rfl
 have hK2 : KM ≤ 262144 := by rw [hKM]; exact Nat.mul_le_mul hcl hM
 refine fn_introK 0 n rfl rfl (by simp) (by simp) Tryd.func86 rfl (by simp [Tryd.f86]) ?_
 rw [show Tryd.f86.ntmps = 54 from rfl, show Tryd.f86.results = #[.tmp 8] from rfl]
 refine awp_seqR fun K hK => ?_
 simp (maxSteps := 2000000) (disch := omega) [ints, rows, scal, wr64, wr8]
 (repeat' first | apply hK | apply And.intro) <;> try first | (show okH _ _ _ = true; kernel_rfl) | omega | rfl | (simp <;> omega)
 refine awp_seqR fun K hK => ?_
 simp (maxSteps := 2000000) (disch := omega) [ints, rows, scal, wr64, wr8, hKi]
 (repeat' first | apply hK | apply And.intro) <;> try first | (show okH _ _ _ = true; kernel_rfl) | omega | rfl | (simp <;> omega)
 refine awp_seqR fun K hK => ?_
 simp (maxSteps := 2000000) (disch := omega) [ints, rows, scal, wr64, wr8]
 (repeat' first | apply hK | apply And.intro) <;> try first | (show okH _ _ _ = true; kernel_rfl) | omega | rfl | (simp <;> omega)
 refine awp_seq ?_
 refine awp_seqR fun K hK => ?_
 simp (maxSteps := 2000000) (disch := omega) [ints, rows, scal, wr64, wr8]
 (repeat' first | apply hK | apply And.intro) <;> try first | (show okH _ _ _ = true; kernel_rfl) | omega | rfl | (simp <;> omega)
 refine awp_block ?_
 refine awp_loop (fun y : Nat × List Nat => mkS [(0, .own 0 n), (1, .t 0 (.sl 1 (rwN n m))), (3, .t 2 (.int .i64 M)), (9, .own 1 KM), (10, .t 2 (.int .i64 y.2.length)), (18, .t 2 (.int .i64 n)), (19, .t 2 (.int .i64 y.1))] [(0, .row 3 1 1 (rwN n (clF (kyF M c m) c y.2 y.1))), (1, .row 3 1 2 (rwN KM (nmF y.2)))] 2 54 [.any, .any, .any, .any, .own 0 n]) (fun y => y.1 ≤ n ∧ y.2 = dsL (kyF M c m) y.1) (fun y => n - y.1) ?_ ?_
 ·refine ⟨(0, []), ⟨by simp, rfl⟩, ?_⟩
  have e1 : rwN n (clF (kyF M c m) c [] 0) = rwN n c := rwN_congr fun i hi => by simp [clF]
  have e2 : rwN KM (nmF []) = rwN KM fun _ => 0 := rwN_congr fun i hi => by simp [nmF, ixA]
  refine wk_list [(0, some 0), (1, some 4000001)] rfl ?_ ?_ ?_ ?_
  all_goals try simp [ints, rwN_zero, e1, e2]
 rintro ⟨s, ds⟩ ⟨hs, hds⟩
 simp only at hs hds
 have hI : SpI (kyF M c m) ds s := by rw [hds]; exact dsL_ok _ s
 have hdl := hI.len
 refine awp_seqR fun K hK => ?_
 simp (maxSteps := 2000000) (disch := omega) [ints, rows, scal, wr64, wr8]
 (repeat' first | apply hK | apply And.intro) <;> try first | (show okH _ _ _ = true; kernel_rfl) | omega | rfl | (simp <;> omega)
 refine awp_seq ?_
 by_cases hsn : s < n
 ·refine awp_cond (b := true) (p := 2) (by simp [scal, hsn] <;> omega) ?_
  obtain ⟨ky, hky⟩ : ∃ ky, ky = kyF M c m s := ⟨_, rfl⟩
  have hkl : ky < KM := by rw [hky, hKM]; exact key_lt (hc s hsn) (hm s hsn)
  have hms := hm s hsn
  have hcs := hc s hsn
  have hcf : clF (kyF M c m) c ds s s = c s := by simp [clF]
  obtain ⟨a, ha⟩ : ∃ a, a = c s * M := ⟨_, rfl⟩
  have hai : (c s : Int) * (M : Int) = (a : Nat) := by rw [ha]; push_cast; rfl
  have hai2 : (a : Int) + (m s : Int) = (ky : Nat) := by rw [hky, ha]; rfl
  have hg0 := rwN_at (c := clF (kyF M c m) c ds s) hsn
  have hg1 := rwN_at (c := m) hsn
  rw [hcf] at hg0
  have hg2 := rwN_at (c := nmF ds) hkl
  refine awp_skip ?_
  show awp _ _ _ _
  refine awp_seq ?_
  refine awp_block ?_
  refine awp_seqR fun K hK => ?_
  simp (maxSteps := 2000000) (disch := omega) [ints, rows, scal, wr64, wr8]
  (repeat' first | apply hK | apply And.intro) <;> try first | (show okH _ _ _ = true; kernel_rfl) | omega | rfl | (simp <;> omega)
  refine awp_seqD (by kernel_rfl) (fun K hK => ?_)
  simp (maxSteps := 2000000) (disch := omega) [ints, rows, scal, wr64, wr8, hg0, hg1, hai, hai2]
  (repeat' first | apply hK | apply And.intro) <;> try first | (show chkD _ _ = true; kernel_rfl) | (show okH _ _ _ = true; kernel_rfl) | omega | rfl | (simp <;> omega)
  refine awp_seq ?_
  by_cases hmem : ky ∈ ds
  ·obtain ⟨t, ht⟩ := ixA_some hmem
   have htl := ixA_lt ht
   have hds2 : ds = dsL (kyF M c m) (s + 1) := by rw [hds, hky] at hmem; rw [dsL_hit hmem]; exact hds
   have hnm : nmF ds ky = t + 1 := by simp [nmF, ht]
   rw [hnm] at hg2
   push_cast at hg2
   have hrw : rwN n (fun i => if i = s then t else clF (kyF M c m) c ds s i) = rwN n (clF (kyF M c m) c ds (s + 1)) := rwN_congr fun i hi => clF_hit (by rw [← hky]; exact ht) i
   clear hky ha
   refine awp_seqR fun K hK => ?_
   simp (maxSteps := 2000000) (disch := omega) [ints, rows, scal, wr64, wr8, hg2]
   (repeat' first | apply hK | apply And.intro) <;> try first | (show okH _ _ _ = true; kernel_rfl) | omega | rfl | (simp <;> omega)
   refine awp_cond (b := false) (p := 2) (by simp [scal] <;> omega) ?_
   refine awp_skip ?_
   show awp _ _ _ _
   refine awp_R fun K hK => ?_
   simp (maxSteps := 2000000) (disch := omega) [ints, rows, scal, wr64, wr8, hg2]
   (repeat' first | apply hK | apply And.intro) <;> try first | (show okH _ _ _ = true; kernel_rfl) | omega | rfl | (simp <;> omega)
   show awp _ _ _ _
   refine awp_R fun K hK => ?_
   simp (maxSteps := 2000000) (disch := omega) [ints, rows, scal, wr64, wr8]
   (repeat' first | apply hK | apply And.intro) <;> try first | (show okH _ _ _ = true; kernel_rfl) | omega | rfl | (simp <;> omega)
   refine ⟨(s + 1, ds), ⟨by omega, hds2⟩, by simp only; omega, ?_⟩
   refine wk_list [(0, some 0), (1, some 1)] rfl ?_ ?_ ?_ ?_
   all_goals try simp [ints, rwN_set, hrw]
  ·have hds2 : ds ++ [ky] = dsL (kyF M c m) (s + 1) := by rw [hds, hky] at hmem; rw [dsL_add hmem, hds, hky]
   have hnm : nmF ds ky = 0 := by simp [nmF, ixA_no hmem]
   rw [hnm] at hg2
   have hrw : rwN n (fun i => if i = s then ds.length else clF (kyF M c m) c ds s i) = rwN n (clF (kyF M c m) c (ds ++ [ky]) (s + 1)) := rwN_congr fun i hi => by rw [hky]; exact clF_add hI (by rw [← hky]; exact hmem) i
   have hn2 : (rwN KM (nmF ds)).set ky (.int .i64 ((ds.length : Int) + 1)) = rwN KM (nmF (ds ++ [ky])) := by
    have := rwN_set KM (nmF ds) ky (ds.length + 1)
    rw [show ((ds.length + 1 : Nat) : Int) = (ds.length : Int) + 1 by push_cast; rfl] at this
    rw [this]
    exact rwN_congr fun i hi => nmF_add hmem i
   have hg3 : ((rwN KM (nmF ds)).set ky (.int .i64 ((ds.length : Int) + 1)))[ky]? = some (.int .i64 ((ds.length : Int) + 1)) := List.getElem?_set_self (by simpa using hkl)
   clear hky ha
   refine awp_seqR fun K hK => ?_
   simp (maxSteps := 2000000) (disch := omega) [ints, rows, scal, wr64, wr8, hg2]
   (repeat' first | apply hK | apply And.intro) <;> try first | (show okH _ _ _ = true; kernel_rfl) | omega | rfl | (simp <;> omega)
   refine awp_cond (b := true) (p := 2) (by simp [scal] <;> omega) ?_
   refine awp_seqR fun K hK => ?_
   simp (maxSteps := 2000000) (disch := omega) [ints, rows, scal, wr64, wr8]
   (repeat' first | apply hK | apply And.intro) <;> try first | (show okH _ _ _ = true; kernel_rfl) | omega | rfl | (simp <;> omega)
   refine awp_R fun K hK => ?_
   simp (maxSteps := 2000000) (disch := omega) [ints, rows, scal, wr64, wr8, hg2]
   (repeat' first | apply hK | apply And.intro) <;> try first | (show okH _ _ _ = true; kernel_rfl) | omega | rfl | (simp <;> omega)
   show awp _ _ _ _
   refine awp_R fun K hK => ?_
   simp (maxSteps := 2000000) (disch := omega) [ints, rows, scal, wr64, wr8, hg3]
   (repeat' first | apply hK | apply And.intro) <;> try first | (show okH _ _ _ = true; kernel_rfl) | omega | rfl | (simp <;> omega)
   show awp _ _ _ _
   refine awp_R fun K hK => ?_
   simp (maxSteps := 2000000) (disch := omega) [ints, rows, scal, wr64, wr8]
   (repeat' first | apply hK | apply And.intro) <;> try first | (show okH _ _ _ = true; kernel_rfl) | omega | rfl | (simp <;> omega)
   refine ⟨(s + 1, ds ++ [ky]), ⟨by omega, hds2⟩, by simp only; omega, ?_⟩
   refine wk_list [(0, some 0), (1, some 1)] rfl ?_ ?_ ?_ ?_
   all_goals try simp [ints, rwN_set, hrw, hn2]
 ·obtain rfl : s = n := by omega
  refine awp_cond (b := false) (p := 2) (by simp [scal] <;> omega) ?_
  refine awp_exit ?_
  show awp _ _ _ _
  refine awp_seqR fun K hK => ?_
  simp (maxSteps := 2000000) (disch := omega) [ints, rows, scal, wr64, wr8]
  (repeat' first | apply hK | apply And.intro) <;> try first | (show okH _ _ _ = true; kernel_rfl) | omega | rfl | (simp <;> omega)
  refine awp_ret ?_
  refine ⟨⟨.inr rfl, _, [(0, some 0)], (by first | rfl | (simp [ints, rows, scal, tpO, spN, spF, ← hds]; rfl)), ?_, ?_, ?_, ?_⟩, ?_⟩
  all_goals try simp [ints, rows, scal, tpO, spN, spF, ← hds]
end Go.Proofs.YtnffigeofdagfaaDoor.M
