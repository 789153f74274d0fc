/-
  What divide.Find answers, in plain Lean.
-/
import Derived.Test.YtgghmjnbkbiffaaZqbd
import Derived.Test.YtgghmjnbkbiffaaZqbb
namespace Go.Proofs.Ytgghmjnbkbiffaa
open Go.RowKit
set_option linter.unusedVariables false

/-- The number of a list of images in the order of the lists. -/
def valL (m : Nat) : List Nat → Nat
  | [] => 0
  | x :: r => x * m ^ r.length + valL m r
theorem valL_app (m : Nat) : ∀ l r : List Nat, valL m (l ++ r) = valL m l * m ^ r.length + valL m r
  | [], r => by simp [valL]
  | x :: l, r => by
    simp only [List.cons_append, valL, List.length_append, valL_app m l r]
    rw [Nat.pow_add, Nat.add_mul, Nat.mul_assoc, Nat.add_assoc]
theorem valL_snoc (m : Nat) (l : List Nat) (x : Nat) : valL m (l ++ [x]) = valL m l * m + x := by
  rw [valL_app]; simp [valL]
theorem valL_lt (m : Nat) : ∀ l : List Nat, (∀ x ∈ l, x < m) → valL m l < m ^ l.length
  | [], _ => by simp [valL]
  | x :: l, h => by
    have h1 := valL_lt m l (fun y hy => h y (List.mem_cons_of_mem _ hy))
    have h2 := h x (List.mem_cons_self ..)
    simp only [valL, List.length_cons]
    calc x * m ^ l.length + valL m l < x * m ^ l.length + m ^ l.length := by omega
      _ = (x + 1) * m ^ l.length := by rw [Nat.add_mul, Nat.one_mul]
      _ ≤ m * m ^ l.length := Nat.mul_le_mul_right _ h2
      _ = m ^ (l.length + 1) := by rw [Nat.pow_succ, Nat.mul_comm]
theorem divmod_inj {a b a' b' d : Nat} (h : a * d + b = a' * d + b') (hb : b < d) (hb' : b' < d) : a = a' ∧ b = b' := by
  have h0 : 0 < d := by omega
  have e1 : (a * d + b) / d = a := by rw [Nat.mul_comm, Nat.mul_add_div h0, Nat.div_eq_of_lt hb]; omega
  have e2 : (a' * d + b') / d = a' := by rw [Nat.mul_comm, Nat.mul_add_div h0, Nat.div_eq_of_lt hb']; omega
  have : a = a' := by rw [← e1, ← e2, h]
  subst this
  exact ⟨rfl, by omega⟩
theorem valL_inj (m : Nat) : ∀ l l' : List Nat, (∀ x ∈ l, x < m) → (∀ x ∈ l', x < m) → l.length = l'.length → valL m l = valL m l' → l = l'
  | [], [], _, _, _, _ => rfl
  | [], _ :: _, _, _, h, _ => by simp at h
  | _ :: _, [], _, _, h, _ => by simp at h
  | x :: l, y :: l', h1, h2, hl, hv => by
    have hl : l.length = l'.length := by simpa using hl
    have g1 := valL_lt m l (fun z hz => h1 z (List.mem_cons_of_mem _ hz))
    have g2 := valL_lt m l' (fun z hz => h2 z (List.mem_cons_of_mem _ hz))
    simp only [valL] at hv
    rw [← hl] at hv g2
    obtain ⟨e1, e2⟩ := divmod_inj hv g1 g2
    rw [e1, valL_inj m l l' (fun z hz => h1 z (List.mem_cons_of_mem _ hz)) (fun z hz => h2 z (List.mem_cons_of_mem _ hz)) hl e2]
/-- The generators with the images of a list that may be shorter. -/
def zp (gens : List Int) (l : List Nat) : List (Nat × Nat) := gpairs gens (natsOf l) l.length
theorem zp_mem {gens : List Int} {l : List Nat} {p : Nat × Nat} : p ∈ zp gens l ↔ ∃ i, i < l.length ∧ p = (nat_ gens i, nthx l i) := by
  unfold zp
  rw [gpairs_mem]
  constructor
  · rintro ⟨i, hi, rfl⟩; exact ⟨i, hi, by rw [nat_natsOf l (show i < lnx l from hi)]⟩
  · rintro ⟨i, hi, rfl⟩; exact ⟨i, hi, by rw [nat_natsOf l (show i < lnx l from hi)]⟩
theorem nthx_app {l r : List Nat} {i : Nat} (h : i < l.length) : nthx (l ++ r) i = nthx l i := by simp [nthx, List.getElem?_append_left h]
theorem nthx_last (l : List Nat) (x : Nat) : nthx (l ++ [x]) l.length = x := by simp [nthx]
theorem zp_snoc {gens : List Int} {l : List Nat} {x : Nat} {p : Nat × Nat} : p ∈ zp gens (l ++ [x]) ↔ p ∈ zp gens l ∨ p = (nat_ gens l.length, x) := by
  rw [zp_mem, zp_mem]
  constructor
  · rintro ⟨i, hi, rfl⟩
    simp only [List.length_append, List.length_cons, List.length_nil] at hi
    by_cases h : i < l.length
    · exact .inl ⟨i, h, by rw [nthx_app h]⟩
    · obtain rfl : i = l.length := by omega
      exact .inr (by rw [nthx_last])
  · rintro (⟨i, hi, rfl⟩ | rfl)
    · exact ⟨i, by simp; omega, by rw [nthx_app hi]⟩
    · exact ⟨l.length, by simp, by rw [nthx_last]⟩
theorem zp_app {gens : List Int} {l r : List Nat} {p : Nat × Nat} (h : p ∈ zp gens l) : p ∈ zp gens (l ++ r) := by
  obtain ⟨i, hi, rfl⟩ := zp_mem.1 h
  exact zp_mem.2 ⟨i, by simp; omega, by rw [nthx_app hi]⟩

section
variable (T U : Nat → Nat → Nat) (gens : List Int)
def okL (l : List Nat) : Prop := DvFun T U (zp gens l)
/-- No full list below this number is a division. -/
def noB (m N : Nat) : Prop := ∀ l : List Nat, l.length = gens.length → (∀ x ∈ l, x < m) → valL m l < N → ¬ okL T U gens l
/-- What Find returns for good arguments. -/
def FindR (m budget : Nat) (res : List Nat) (cnt : Nat) (err : Int) : Prop :=
  (err = 0 ∧ res.length = gens.length ∧ (∀ x ∈ res, x < m) ∧ okL T U gens res ∧ noB T U gens m (valL m res) ∧ cnt = valL m res + 1 ∧ cnt ≤ budget) ∨
  (err = 9 ∧ res = [] ∧ cnt = m ^ gens.length ∧ cnt ≤ budget ∧ noB T U gens m cnt) ∨
  (err = 7 ∧ res = [] ∧ cnt = 0 ∧ budget < m ^ gens.length ∧ noB T U gens m budget)
end
section
variable {T U : Nat → Nat → Nat} {gens : List Int}
theorem FindR.uniq {m budget : Nat} {r r' : List Nat} {c c' : Nat} {e e' : Int} (h : FindR T U gens m budget r c e) (h' : FindR T U gens m budget r' c' e') : r = r' ∧ c = c' ∧ e = e' := by
  rcases h with ⟨rfl, a1, a2, a3, a4, rfl, a6⟩ | ⟨rfl, rfl, rfl, a1, a2⟩ | ⟨rfl, rfl, rfl, a1, a2⟩ <;> rcases h' with ⟨rfl, b1, b2, b3, b4, rfl, b6⟩ | ⟨rfl, rfl, rfl, b1, b2⟩ | ⟨rfl, rfl, rfl, b1, b2⟩
  · have h1 : ¬ valL m r < valL m r' := fun h => b4 r a1 a2 h a3
    have h2 : ¬ valL m r' < valL m r := fun h => a4 r' b1 b2 h b3
    have e : valL m r = valL m r' := by omega
    exact ⟨valL_inj m r r' a2 b2 (by omega) e, by rw [e], rfl⟩
  · exact (b2 r a1 a2 (by have := valL_lt m r a2; rw [a1] at this; exact this) a3).elim
  · exact (b2 r a1 a2 (by omega) a3).elim
  · exact (a2 r' b1 b2 (by have := valL_lt m r' b2; rw [b1] at this; exact this) b3).elim
  · exact ⟨rfl, rfl, rfl⟩
  · omega
  · exact (a2 r' b1 b2 (by omega) b3).elim
  · omega
  · exact ⟨rfl, rfl, rfl⟩
theorem okL.pre {l r : List Nat} (h : okL T U gens (l ++ r)) : okL T U gens l := DvFun.mono (fun p hp => zp_app hp) h
theorem noB.mono {m N N' : Nat} (h : noB T U gens m N) (hl : N' ≤ N) : noB T U gens m N' := fun l h1 h2 h3 => h l h1 h2 (by omega)
/-- A list that is no division, with all that follow. -/
theorem noB.more {m : Nat} {l : List Nat} {N : Nat} (hN : N = valL m l * m ^ (gens.length - l.length)) (h : noB T U gens m N) (hm : ∀ x ∈ l, x < m) (hl : l.length ≤ gens.length) (hno : ¬ okL T U gens l) : noB T U gens m (N + m ^ (gens.length - l.length)) := by
  intro l' h1 h2 h3 hok
  by_cases hlt : valL m l' < N
  · exact h l' h1 h2 hlt hok
  have e : l' = l'.take l.length ++ l'.drop l.length := (List.take_append_drop ..).symm
  have ed : (l'.drop l.length).length = gens.length - l.length := by simp; omega
  have hv : valL m l' = valL m (l'.take l.length) * m ^ (gens.length - l.length) + valL m (l'.drop l.length) := by
    have := valL_app m (l'.take l.length) (l'.drop l.length)
    rw [← e, ed] at this
    exact this
  have hb : valL m (l'.drop l.length) < m ^ (gens.length - l.length) := by
    have := valL_lt m (l'.drop l.length) (fun x hx => h2 x (List.mem_of_mem_drop hx))
    rwa [ed] at this
  have hq : valL m (l'.take l.length) * m ^ (gens.length - l.length) + valL m (l'.drop l.length) = valL m l * m ^ (gens.length - l.length) + (valL m l' - N) := by omega
  obtain ⟨e1, -⟩ := divmod_inj hq hb (by omega)
  have e2 := valL_inj m (l'.take l.length) l (fun x hx => h2 x (List.mem_of_mem_take hx)) hm (by simp; omega) e1
  rw [e, e2] at hok
  exact hno hok.pre
theorem val_bound {m : Nat} {l : List Nat} {x : Nat} (hm : ∀ x ∈ l, x < m) (hx : x < m) (hl : l.length + 1 ≤ gens.length) : valL m (l ++ [x]) * m ^ (gens.length - (l ++ [x]).length) + m ^ (gens.length - (l ++ [x]).length) ≤ m ^ gens.length := by
  have := valL_lt m (l ++ [x]) (fun y hy => by
    rcases List.mem_append.1 hy with hy | hy
    · exact hm y hy
    · simp at hy; omega)
  have h2 : (l ++ [x]).length ≤ gens.length := by simp; omega
  have e1 : m ^ gens.length = m ^ (l ++ [x]).length * m ^ (gens.length - (l ++ [x]).length) := by rw [← Nat.pow_add]; congr 1; omega
  rw [e1, ← Nat.succ_mul]
  exact Nat.mul_le_mul_right _ this

/-- What a state of the search is, for the images before. -/
structure Lev (T U : Nat → Nat → Nat) (n m : Nat) (gens : List Int) (pre : List Nat) (S : List (Nat × Nat)) (F : Nat → Int) (l : List Nat) : Prop where
  num : DvNum T U n m S F l
  cl : DvClosed T U S F l
  sub : ∀ p ∈ S, p ∈ zp gens pre
  all : ∀ p ∈ zp gens pre, p.2 < m ∧ F p.2 = (p.1 : Int)
  slen : S.length ≤ pre.length
theorem Lev.start (T U : Nat → Nat → Nat) (n m : Nat) (gens : List Int) : Lev T U n m gens [] [] (fun _ => -1) [] := ⟨DvNum.start T U n m, DvClosed.start T U, fun p hp => by simp at hp, fun p hp => by
  obtain ⟨i, hi, -⟩ := zp_mem.1 hp
  simp at hi, by simp⟩
/-- Two functions that say the same of what has been found. -/
def Alike (m : Nat) (F G : Nat → Int) : Prop := ∀ y, y < m → (0 ≤ F y ↔ 0 ≤ G y) ∧ (0 ≤ F y → G y = F y)
theorem Lev.alike {n m : Nat} {pre : List Nat} {S : List (Nat × Nat)} {F G : Nat → Int} {l : List Nat} (hU : ∀ r c, r < m → c < m → U r c < m) (h : Lev T U n m gens pre S F l) (hg : Alike m F G) : Lev T U n m gens pre S G l := by
  have hb : ∀ p, p ∈ S → G p.2 = (p.1 : Int) := fun p hp => by
    have := h.cl.base p hp
    rw [(hg _ (h.num.rng p hp).2).2 (by omega), this]
  refine ⟨⟨h.num.rng, h.num.nd, h.num.lt, fun y hy => by rw [← (hg y hy).1]; exact h.num.mem y hy, fun y hy h0 => ?_⟩, ⟨hb, fun y hy p hp => ?_⟩, h.sub, fun p hp => ?_, h.slen⟩
  · have := (hg y hy).1.2 h0
    rw [(hg y hy).2 this]
    exact h.num.snd y hy this
  · have hym := h.num.lt y hy
    have h0 := (h.num.mem y hym).2 hy
    have hs := h.cl.step y hy p hp
    rw [(hg _ (hU _ _ hym (h.num.rng p hp).2)).2 (by omega), (hg y hym).2 h0]
    exact hs
  · obtain ⟨h1, h2⟩ := h.all p hp
    exact ⟨h1, by rw [(hg _ h1).2 (by omega), h2]⟩
theorem Lev.ok {n m : Nat} {pre : List Nat} {S : List (Nat × Nat)} {F : Nat → Int} {l : List Nat} (hT : ∀ r c, r < n → c < n → T r c < n) (hU : ∀ r c, r < m → c < m → U r c < m) (aT : Assoc n T) (aU : Assoc m U) (h : Lev T U n m gens pre S F l) : okL T U gens pre := by
  have hr : ∀ y x, DvR T U (zp gens pre) y x → F y = (x : Int) := fun y x hx => h.cl.graph h.num hT hU (DvR.same h.num.rng hT hU aT aU (fun p hp => by
    obtain ⟨h1, h2⟩ := h.all p hp
    have := h.num.snd p.2 h1 (by omega)
    rw [h2] at this
    simpa using this) hx)
  intro y x x' h1 h2
  have := hr y x h1
  have := hr y x' h2
  omega
theorem Alike.bk {m : Nat} {F G : Nat → Int} (h : Alike m F G) (l : List Nat) : Alike m (M.bkF F l) (M.bkF G l) := fun y hy => by
  unfold M.bkF
  by_cases e : y ∈ l
  · simp [e]
  · simp only [e, if_false]; exact h y hy
/-- The state of the search with the numbers of pairs and steps before each image. -/
inductive Stk (T U : Nat → Nat → Nat) (n m : Nat) (gens : List Int) : List Nat → List (Nat × Nat) → List (Nat × Nat) → (Nat → Int) → List Nat → Prop
  | nil {S : List (Nat × Nat)} {F : Nat → Int} {l : List Nat} : Lev T U n m gens [] S F l → Stk T U n m gens [] [] S F l
  | push {pre : List Nat} {sizes S : List (Nat × Nat)} {F : Nat → Int} {l : List Nat} {p s x : Nat} : Stk T U n m gens pre sizes (S.take s) (M.bkF F (l.drop p)) (l.take p) → p ≤ l.length → s ≤ S.length → Lev T U n m gens (pre ++ [x]) S F l → Stk T U n m gens (pre ++ [x]) (sizes ++ [(p, s)]) S F l
theorem Stk.lev {n m : Nat} {pre : List Nat} {sizes S : List (Nat × Nat)} {F : Nat → Int} {l : List Nat} (h : Stk T U n m gens pre sizes S F l) : Lev T U n m gens pre S F l := by
  cases h with
  | nil h => exact h
  | push _ _ _ h => exact h
theorem Stk.len {n m : Nat} {pre : List Nat} {sizes S : List (Nat × Nat)} {F : Nat → Int} {l : List Nat} (h : Stk T U n m gens pre sizes S F l) : sizes.length = pre.length := by
  induction h with
  | nil h => rfl
  | push _ _ _ _ ih => simp [ih]
theorem Stk.alike {n m : Nat} (hU : ∀ r c, r < m → c < m → U r c < m) {pre : List Nat} {sizes S : List (Nat × Nat)} {F : Nat → Int} {l : List Nat} (h : Stk T U n m gens pre sizes S F l) : ∀ {G : Nat → Int}, Alike m F G → Stk T U n m gens pre sizes S G l := by
  induction h with
  | nil h => exact fun hg => .nil (h.alike hU hg)
  | push _ h1 h2 h3 ih => exact fun hg => .push (ih (hg.bk _)) h1 h2 (h3.alike hU hg)
theorem Stk.pop {n m : Nat} {pre : List Nat} {x : Nat} {sizes S : List (Nat × Nat)} {F : Nat → Int} {l : List Nat} (h : Stk T U n m gens (pre ++ [x]) sizes S F l) : ∃ sizes0 p s, sizes = sizes0 ++ [(p, s)] ∧ p ≤ l.length ∧ s ≤ S.length ∧ Stk T U n m gens pre sizes0 (S.take s) (M.bkF F (l.drop p)) (l.take p) := by
  generalize hq : pre ++ [x] = q at h
  cases h with
  | nil h => simp at hq
  | push h1 h2 h3 h4 =>
    obtain ⟨rfl, -⟩ := List.append_inj' hq rfl
    exact ⟨_, _, _, rfl, h2, h3, h1⟩
/-- What add leaves is, behind the pairs before, like before. -/
theorem add_alike {n m : Nat} {F F' : Nat → Int} {l l' : List Nat} {S S' : List (Nat × Nat)} {g im : Nat} {ok : Bool} (h0 : DvNum T U n m S F l) (h : M.AddG T U n m F l S g im ok F' l' S') : Alike m F (M.bkF F' (l'.drop l.length)) ∧ l'.take l.length = l ∧ S'.take S.length = S ∧ l.length ≤ l'.length ∧ S.length ≤ S'.length := by
  obtain ⟨rest, hr⟩ := h.pre
  have hd : l'.drop l.length = rest := by rw [hr]; simp
  refine ⟨fun y hy => ?_, by rw [hr]; simp, ?_, by rw [hr]; simp, ?_⟩
  · rw [hd]
    unfold M.bkF
    have hm := h.num.mem y hy
    have hm0 := h0.mem y hy
    rw [hr, List.mem_append] at hm
    have hnd := h.num.nd
    rw [hr] at hnd
    by_cases e : y ∈ rest
    · simp only [e, if_true]
      have : ¬ y ∈ l := fun h => (List.nodup_append.1 hnd).2.2 y h y e rfl
      constructor
      · constructor
        · intro h; exact absurd (hm0.1 h) this
        · intro h; omega
      · intro h; exact absurd (hm0.1 h) this
    · simp only [e, if_false]
      constructor
      · rw [hm0, hm]; simp [e]
      · exact h.agree y
  · rcases h.stp with e | e <;> rw [e] <;> simp
  · rcases h.stp with e | e <;> rw [e] <;> simp
theorem Stk.fail {n m : Nat} {pre : List Nat} {sizes S S' : List (Nat × Nat)} {F F' : Nat → Int} {l l' : List Nat} {g im : Nat} {ok : Bool} (hU : ∀ r c, r < m → c < m → U r c < m) (h : Stk T U n m gens pre sizes S F l) (ha : M.AddG T U n m F l S g im ok F' l' S') : Stk T U n m gens pre sizes (S'.take S.length) (M.bkF F' (l'.drop l.length)) (l'.take l.length) := by
  obtain ⟨h1, h2, h3, -, -⟩ := add_alike h.lev.num ha
  rw [h2, h3]
  exact h.alike hU h1
theorem Lev.add {n m : Nat} {pre : List Nat} {S S' : List (Nat × Nat)} {F F' : Nat → Int} {l l' : List Nat} {im : Nat} (him : im < m) (h : Lev T U n m gens pre S F l) (ha : M.AddG T U n m F l S (nat_ gens pre.length) im true F' l' S') : Lev T U n m gens (pre ++ [im]) S' F' l' := by
  refine ⟨ha.num, (ha.yes rfl).1, fun p hp => ?_, fun p hp => ?_, by have := h.slen; rcases ha.stp with e | e <;> rw [e] <;> simp <;> omega⟩
  · rw [zp_snoc]
    rcases ha.stp with e | e
    · rw [e] at hp; exact .inl (h.sub p hp)
    · rw [e] at hp
      rcases List.mem_append.1 hp with hp | hp
      · exact .inl (h.sub p hp)
      · exact .inr (by simpa using hp)
  · rcases zp_snoc.1 hp with hp | rfl
    · obtain ⟨h1, h2⟩ := h.all p hp
      exact ⟨h1, by rw [ha.agree _ (by omega), h2]⟩
    · exact ⟨him, (ha.yes rfl).2⟩
theorem Stk.add {n m : Nat} {pre : List Nat} {sizes S S' : List (Nat × Nat)} {F F' : Nat → Int} {l l' : List Nat} {im : Nat} (hU : ∀ r c, r < m → c < m → U r c < m) (him : im < m) (h : Stk T U n m gens pre sizes S F l) (ha : M.AddG T U n m F l S (nat_ gens pre.length) im true F' l' S') : Stk T U n m gens (pre ++ [im]) (sizes ++ [(l.length, S.length)]) S' F' l' := by
  obtain ⟨-, -, -, h4, h5⟩ := add_alike h.lev.num ha
  exact .push (h.fail hU ha) h4 h5 (h.lev.add him ha)
theorem Lev.bad {n m : Nat} {pre : List Nat} {S S' : List (Nat × Nat)} {F F' : Nat → Int} {l l' : List Nat} {im : Nat} (h : Lev T U n m gens pre S F l) (ha : M.AddG T U n m F l S (nat_ gens pre.length) im false F' l' S') : ¬ okL T U gens (pre ++ [im]) := fun hf => ha.no rfl (DvFun.mono (fun p hp => by
  rw [zp_snoc]
  rcases ha.stp with e | e
  · rw [e] at hp; exact .inl (h.sub p hp)
  · rw [e] at hp
    rcases List.mem_append.1 hp with hp | hp
    · exact .inl (h.sub p hp)
    · exact .inr (by simpa using hp)) hf)

/-- A state of Find. -/
structure FSt where
  pre : List Nat
  x : Nat
  tried : Nat
  sizes : List (Nat × Nat)
  S : List (Nat × Nat)
  F : Nat → Int
  l : List Nat
structure FInv (T U : Nat → Nat → Nat) (n m : Nat) (gens : List Int) (budget : Nat) (y : FSt) : Prop where
  len : y.pre.length < gens.length
  xm : y.x ≤ m
  prem : ∀ v ∈ y.pre, v < m
  stk : Stk T U n m gens y.pre y.sizes y.S y.F y.l
  tr : y.tried = valL m (y.pre ++ [y.x]) * m ^ (gens.length - (y.pre.length + 1))
  bud : y.tried ≤ budget
  no : noB T U gens m y.tried
def FSt.mu (m g budget : Nat) (y : FSt) : Nat := (budget + 1 - y.tried) * (3 * g + 3) + (if y.x < m then g - (y.pre.length + 1) else g + 1 + (y.pre.length + 1))
variable {n m budget : Nat}
theorem FInv.start (hg : 0 < gens.length) : FInv T U n m gens budget ⟨[], 0, 0, [], [], fun _ => -1, []⟩ :=
  ⟨hg, Nat.zero_le _, fun v hv => by simp at hv, .nil (Lev.start T U n m gens), by simp [valL], Nat.zero_le _, fun l h1 h2 h3 => by simp at h3⟩
theorem FInv.none {y : FSt} (h : FInv T U n m gens budget y) (hx : y.x = m) (hp : y.pre = []) : FindR T U gens m budget [] y.tried 9 := by
  refine .inr (.inl ⟨rfl, rfl, ?_, h.bud, h.no⟩)
  have h1 := h.tr
  have h2 := h.len
  rw [hp, hx] at h1
  rw [hp] at h2
  simp only [List.nil_append, valL, List.length_nil, Nat.pow_zero, Nat.mul_one, Nat.add_zero, Nat.zero_add] at h1 h2
  rw [h1, Nat.mul_comm, ← Nat.pow_succ]
  congr 1
  omega
theorem FInv.pop {pre : List Nat} {x0 tried p s : Nat} {sizes0 S : List (Nat × Nat)} {F : Nat → Int} {l : List Nat} (h : FInv T U n m gens budget ⟨pre ++ [x0], m, tried, sizes0 ++ [(p, s)], S, F, l⟩) (hm : 0 < m) :
    FInv T U n m gens budget ⟨pre, x0 + 1, tried, sizes0, S.take s, M.bkF F (l.drop p), l.take p⟩ ∧ p ≤ l.length ∧ s ≤ S.length ∧ FSt.mu m gens.length budget ⟨pre, x0 + 1, tried, sizes0, S.take s, M.bkF F (l.drop p), l.take p⟩ < FSt.mu m gens.length budget ⟨pre ++ [x0], m, tried, sizes0 ++ [(p, s)], S, F, l⟩ := by
  obtain ⟨sz, p', s', e, h1, h2, h3⟩ := h.stk.pop
  obtain ⟨rfl, e2⟩ := List.append_inj' e rfl
  simp only [List.cons.injEq, Prod.mk.injEq, and_true] at e2
  obtain ⟨rfl, rfl⟩ := e2
  have hl : pre.length + 1 < gens.length := by have := h.len; simpa using this
  have hx0 : x0 < m := h.prem x0 (by simp)
  refine ⟨⟨by simp only; omega, by simp only; omega, fun v hv => h.prem v (List.mem_append_left _ hv), h3, ?_, h.bud, h.no⟩, h1, h2, ?_⟩
  · have h4 := h.tr
    simp only [valL_snoc, List.length_append, List.length_cons, List.length_nil, Nat.zero_add] at h4 ⊢
    rw [h4]
    have e : gens.length - (pre.length + 1) = (gens.length - (pre.length + 1 + 1)) + 1 := by omega
    rw [e, Nat.pow_succ, Nat.mul_comm (m ^ _) m, ← Nat.mul_assoc]
    congr 1
    rw [← Nat.add_assoc, Nat.add_mul (valL m pre * m + x0), Nat.one_mul]
  · unfold FSt.mu
    simp only [List.length_append, List.length_cons, List.length_nil]
    rw [if_neg (Nat.lt_irrefl m)]
    split <;> omega
theorem FInv.full {y : FSt} (h : FInv T U n m gens budget y) (hx : y.x < m) (hl : y.pre.length + 1 = gens.length) (hb : y.tried = budget) : FindR T U gens m budget [] 0 7 := by
  refine .inr (.inr ⟨rfl, rfl, rfl, ?_, by rw [← hb]; exact h.no⟩)
  have := val_bound h.prem hx (gens := gens) (by omega)
  have h1 := h.tr
  simp only [List.length_append, List.length_cons, List.length_nil, Nat.zero_add] at this
  have h2 : 0 < m ^ (gens.length - (y.pre.length + 1)) := Nat.pow_pos (by omega)
  omega
theorem FInv.found {y : FSt} (h : FInv T U n m gens budget y) (hx : y.x < m) (hl : y.pre.length + 1 = gens.length) (hb : y.tried ≠ budget) (hok : okL T U gens (y.pre ++ [y.x])) : FindR T U gens m budget (y.pre ++ [y.x]) (y.tried + 1) 0 := by
  have h1 := h.tr
  rw [← hl, Nat.sub_self, Nat.pow_zero, Nat.mul_one] at h1
  have h2 := h.bud
  have h3 := h.no
  refine .inl ⟨rfl, by simpa using hl, fun v hv => ?_, hok, by rw [← h1]; exact h3, by rw [h1], by omega⟩
  rcases List.mem_append.1 hv with hv | hv
  · exact h.prem v hv
  · simp at hv; omega
theorem FInv.push {pre : List Nat} {x tried : Nat} {sizes S : List (Nat × Nat)} {F : Nat → Int} {l : List Nat} (hU : ∀ r c, r < m → c < m → U r c < m) (h : FInv T U n m gens budget ⟨pre, x, tried, sizes, S, F, l⟩) (hx : x < m) (hl : pre.length + 1 ≠ gens.length) {F' : Nat → Int} {l' : List Nat} {S' : List (Nat × Nat)} (ha : M.AddG T U n m F l S (nat_ gens pre.length) x true F' l' S') :
    FInv T U n m gens budget ⟨pre ++ [x], 0, tried, sizes ++ [(l.length, S.length)], S', F', l'⟩ ∧ FSt.mu m gens.length budget ⟨pre ++ [x], 0, tried, sizes ++ [(l.length, S.length)], S', F', l'⟩ < FSt.mu m gens.length budget ⟨pre, x, tried, sizes, S, F, l⟩ := by
  have hlen := h.len
  simp only at hlen
  refine ⟨⟨by simp; omega, by simp, fun v hv => ?_, h.stk.add hU hx ha, ?_, h.bud, h.no⟩, ?_⟩
  · rcases List.mem_append.1 hv with hv | hv
    · exact h.prem v hv
    · simp at hv; omega
  · have h4 := h.tr
    rw [valL_snoc]
    simp only [List.length_append, List.length_cons, List.length_nil, Nat.zero_add, Nat.add_zero] at h4 ⊢
    rw [h4, Nat.mul_assoc]
    congr 1
    rw [show gens.length - (pre.length + 1) = (gens.length - (pre.length + 1 + 1)) + 1 by omega, Nat.pow_succ, Nat.mul_comm]
  · unfold FSt.mu
    simp only [List.length_append, List.length_cons, List.length_nil]
    rw [if_pos hx, if_pos (by omega)]
    omega
theorem FInv.more {y : FSt} (h : FInv T U n m gens budget y) (hx : y.x < m) (hno : ¬ okL T U gens (y.pre ++ [y.x])) : noB T U gens m (y.tried + m ^ (gens.length - 1 - y.pre.length)) := by
  have hl := h.len
  have h1 := h.tr
  have := noB.more (l := y.pre ++ [y.x]) (N := y.tried) (by simpa using h1) h.no (fun v hv => by
    rcases List.mem_append.1 hv with hv | hv
    · exact h.prem v hv
    · simp at hv; omega) (by simp; omega) hno
  rw [show gens.length - 1 - y.pre.length = gens.length - (y.pre ++ [y.x]).length by simp; omega]
  exact this
theorem FInv.out {y : FSt} (h : FInv T U n m gens budget y) (hx : y.x < m) (hno : ¬ okL T U gens (y.pre ++ [y.x])) (hb : budget < y.tried + M.powL m (gens.length - 1 - y.pre.length) (budget + 1)) : FindR T U gens m budget [] 0 7 := by
  have hp : M.powL m (gens.length - 1 - y.pre.length) (budget + 1) ≤ m ^ (gens.length - 1 - y.pre.length) := by unfold M.powL; omega
  have hl := h.len
  refine .inr (.inr ⟨rfl, rfl, rfl, ?_, (h.more hx hno).mono (by omega)⟩)
  have := val_bound h.prem hx (gens := gens) (by omega)
  have h1 := h.tr
  rw [show gens.length - 1 - y.pre.length = gens.length - (y.pre.length + 1) by omega] at hp hb
  simp only [List.length_append, List.length_cons, List.length_nil, Nat.zero_add] at this
  omega
theorem FInv.next {pre : List Nat} {x tried : Nat} {sizes S : List (Nat × Nat)} {F : Nat → Int} {l : List Nat} (hU : ∀ r c, r < m → c < m → U r c < m) (h : FInv T U n m gens budget ⟨pre, x, tried, sizes, S, F, l⟩) (hx : x < m) (hno : ¬ okL T U gens (pre ++ [x])) (hb : ¬ budget < tried + M.powL m (gens.length - 1 - pre.length) (budget + 1)) {F' : Nat → Int} {l' : List Nat} {S' : List (Nat × Nat)} (ha : M.AddG T U n m F l S (nat_ gens pre.length) x false F' l' S') :
    FInv T U n m gens budget ⟨pre, x + 1, tried + M.powL m (gens.length - 1 - pre.length) (budget + 1), sizes, S'.take S.length, M.bkF F' (l'.drop l.length), l'.take l.length⟩ ∧ FSt.mu m gens.length budget ⟨pre, x + 1, tried + M.powL m (gens.length - 1 - pre.length) (budget + 1), sizes, S'.take S.length, M.bkF F' (l'.drop l.length), l'.take l.length⟩ < FSt.mu m gens.length budget ⟨pre, x, tried, sizes, S, F, l⟩ := by
  have hlen := h.len
  simp only at hlen
  have hpw : M.powL m (gens.length - 1 - pre.length) (budget + 1) = m ^ (gens.length - 1 - pre.length) := by unfold M.powL at hb ⊢; omega
  have hpp : 0 < m ^ (gens.length - 1 - pre.length) := Nat.pow_pos (by omega)
  have hno2 := h.more hx hno
  refine ⟨⟨hlen, by simp only; omega, h.prem, h.stk.fail hU ha, ?_, by simp only; omega, by rw [hpw]; exact hno2⟩, ?_⟩
  · have h4 := h.tr
    simp only at h4 ⊢
    rw [hpw, h4, valL_snoc, valL_snoc, ← Nat.add_assoc, Nat.add_mul (valL m pre * m + x), Nat.one_mul]
    congr 2
    omega
  · unfold FSt.mu
    simp only
    rw [hpw]
    rw [hpw] at hb
    obtain ⟨d, hd⟩ : ∃ d, d = m ^ (gens.length - 1 - pre.length) := ⟨_, rfl⟩
    rw [← hd] at hb hpp ⊢
    have h5 : (budget + 1 - (tried + d)) * (3 * gens.length + 3) + (3 * gens.length + 3) ≤ (budget + 1 - tried) * (3 * gens.length + 3) := by
      rw [← Nat.succ_mul]
      exact Nat.mul_le_mul_right _ (by omega)
    rw [if_pos hx]
    split <;> omega
end
end Go.Proofs.Ytgghmjnbkbiffaa
