/-
  Plain mathematics of the search of homomorphisms (chapter 20): partial maps, and what a step of morph's 'define' does to them. No program in sight.
-/
import Derived.Test.YtgghmjnbkbiffaaZqan
namespace Go.Proofs.Ytgghmjnbkbiffaa
set_option linter.unusedVariables false

/-- h is a homomorphism of the tables T (n elements) and U (m elements); an injective one if inj. -/
structure IsHomF (n m : Nat) (T U : Nat → Nat → Nat) (inj : Bool) (h : Nat → Nat) : Prop where
  mul : ∀ a b, a < n → b < n → h (T a b) = U (h a) (h b)
  lt : ∀ a, a < n → h a < m
  inj : inj = true → ∀ a b, a < n → b < n → a ≠ b → h a ≠ h b

/-- h agrees with the partial map F (negative: not defined). -/
def Agree (n : Nat) (F : Nat → Int) (h : Nat → Nat) : Prop := ∀ a, a < n → 0 ≤ F a → F a = (h a : Int)

def upd (F : Nat → Int) (x : Nat) (y : Int) : Nat → Int := fun j => if j = x then y else F j
theorem upd_same (F : Nat → Int) (x : Nat) (y : Int) : upd F x y x = y := by simp [upd]
theorem upd_other (F : Nat → Int) {x j : Nat} (y : Int) (h : j ≠ x) : upd F x y j = F j := by simp [upd, h]

/-- The products of a and b are as they must be. -/
def Cl (T U : Nat → Nat → Nat) (inj : Bool) (F : Nat → Int) (a b : Nat) : Prop := F (T a b) = (U (F a).toNat (F b).toNat : Int) ∧ (inj = true → a ≠ b → F a ≠ F b)

def Closed (n : Nat) (T U : Nat → Nat → Nat) (inj : Bool) (F : Nat → Int) : Prop := ∀ a b, a < n → b < n → 0 ≤ F a → 0 ≤ F b → Cl T U inj F a b

/-- How many are not defined. -/
def undC : Nat → (Nat → Int) → Nat
  | 0, _ => 0
  | n + 1, F => undC n F + if F n < 0 then 1 else 0

theorem undC_le (F : Nat → Int) : ∀ n, undC n F ≤ n
  | 0 => Nat.le_refl _
  | n + 1 => by have := undC_le F n; unfold undC; split <;> omega
theorem undC_upd_ge (F : Nat → Int) {x : Nat} (y : Int) : ∀ n, n ≤ x → undC n (upd F x y) = undC n F
  | 0, _ => rfl
  | n + 1, h => by
    unfold undC
    rw [undC_upd_ge F y n (by omega), upd_other F y (by omega)]
theorem undC_upd (F : Nat → Int) {x : Nat} {y : Int} (hx : F x < 0) (hy : 0 ≤ y) : ∀ n, x < n → undC n (upd F x y) + 1 = undC n F
  | 0, h => by omega
  | n + 1, h => by
    unfold undC
    by_cases hn : x = n
    · subst hn
      rw [undC_upd_ge F y x (Nat.le_refl _), upd_same, if_neg (by omega), if_pos hx]
    · have := undC_upd F hx hy n (by omega)
      rw [upd_other F y (fun e => hn e.symm)]
      omega

section
variable {n m : Nat} {T U : Nat → Nat → Nat} {inj : Bool} {F0 F : Nat → Int} {work : List Nat}

structure DInv (n m : Nat) (T U : Nat → Nat → Nat) (inj : Bool) (F0 F : Nat → Int) (work : List Nat) : Prop where
  rng : ∀ a, a < n → F a < m
  ext : ∀ a, a < n → 0 ≤ F0 a → F a = F0 a
  hom : ∀ h, IsHomF n m T U inj h → Agree n F0 h → Agree n F h
  wk : ∀ z, z ∈ work → z < n ∧ 0 ≤ F z

/-- A new value is forced. -/
theorem DInv.set_ (h : DInv n m T U inj F0 F work) (hT : ∀ r c, r < n → c < n → T r c < n) (hU : ∀ r c, r < m → c < m → U r c < m) {c d : Nat} (hc : c < n) (hd : d < n) (dc : 0 ≤ F c) (dd : 0 ≤ F d) (hz : F (T c d) < 0) :
    DInv n m T U inj F0 (upd F (T c d) (U (F c).toNat (F d).toNat : Nat)) (work ++ [T c d]) := by
  have rc := h.rng c hc
  have rd := h.rng d hd
  have hu := hU (F c).toNat (F d).toNat (by omega) (by omega)
  refine ⟨fun a ha => ?_, fun a ha h0 => ?_, fun f hf hg a ha h0 => ?_, fun z hz' => ?_⟩
  · unfold upd; split
    · omega
    · exact h.rng a ha
  · have := h.ext a ha h0
    rw [upd_other F _ (fun e => by subst e; omega)]
    exact this
  · have hag := h.hom f hf hg
    by_cases e : a = T c d
    · subst e
      rw [upd_same, hf.mul c d hc hd, hag c hc dc, hag d hd dd]
      simp
    · rw [upd_other F _ e] at h0 ⊢
      exact hag a ha h0
  · simp at hz'
    by_cases e : z = T c d
    · subst e
      exact ⟨hT c d hc hd, by rw [upd_same]; omega⟩
    · rcases hz' with hz' | hz'
      · rw [upd_other F _ e]; exact h.wk z hz'
      · exact absurd hz' e
theorem DInv.clash (h : DInv n m T U inj F0 F work) {c d : Nat} (hc : c < n) (hd : d < n) (dc : 0 ≤ F c) (hi : inj = true) (hne : c ≠ d) (he : F c = F d) : ∀ f, IsHomF n m T U inj f → ¬ Agree n F0 f := by
  intro f hf hg
  have hag := h.hom f hf hg
  apply hf.inj hi c d hc hd hne
  have h1 := hag c hc dc
  have h2 := hag d hd (by omega)
  omega
theorem DInv.tail {a : Nat} (h : DInv n m T U inj F0 F (a :: work)) : DInv n m T U inj F0 F work := ⟨h.rng, h.ext, h.hom, fun z hz => h.wk z (by simp [hz])⟩

theorem Cl.keep {a b z : Nat} {y : Int} (h : Cl T U inj F a b) (ha : a ≠ z) (hb : b ≠ z) (hz : F z < 0) : Cl T U inj (upd F z y) a b := by
  refine ⟨?_, fun hi hne => ?_⟩
  · rw [upd_other F y ha, upd_other F y hb]
    have h1 := h.1
    rw [upd_other F y (fun e => by rw [e] at h1; omega)]
    exact h1
  · rw [upd_other F y ha, upd_other F y hb]
    exact h.2 hi hne

/-- While a is held against the elements below b. -/
structure DMid (n m : Nat) (T U : Nat → Nat → Nat) (inj : Bool) (F0 F : Nat → Int) (work : List Nat) (a b : Nat) : Prop where
  inv : DInv n m T U inj F0 F work
  an : a < n
  ad : 0 ≤ F a
  els : ∀ c d, c < n → d < n → 0 ≤ F c → 0 ≤ F d → c ∉ work → d ∉ work → c ≠ a → d ≠ a → Cl T U inj F c d
  mine : ∀ c, c < b → c < n → 0 ≤ F c → c ∉ work → Cl T U inj F a c ∧ Cl T U inj F c a

theorem DMid.start {a : Nat} (h : DInv n m T U inj F0 F (a :: work)) (hc : ∀ c d, c < n → d < n → 0 ≤ F c → 0 ≤ F d → c ∉ a :: work → d ∉ a :: work → Cl T U inj F c d) : DMid n m T U inj F0 F work a 0 :=
  ⟨h.tail, (h.wk a (by simp)).1, (h.wk a (by simp)).2, fun c d hc' hd' dc dd wc wd nc nd => hc c d hc' hd' dc dd (by simp [nc, wc]) (by simp [nd, wd]), fun c h0 => by omega⟩
theorem DMid.set_ {a b : Nat} (h : DMid n m T U inj F0 F work a b) (hT : ∀ r c, r < n → c < n → T r c < n) (hU : ∀ r c, r < m → c < m → U r c < m) {c d : Nat} (hc : c < n) (hd : d < n) (dc : 0 ≤ F c) (dd : 0 ≤ F d) (hz : F (T c d) < 0) :
    DMid n m T U inj F0 (upd F (T c d) (U (F c).toNat (F d).toNat : Nat)) (work ++ [T c d]) a b := by
  have hza : a ≠ T c d := fun e => by have := h.ad; rw [e] at this; omega
  have def_ : ∀ e, e ≠ T c d → upd F (T c d) (U (F c).toNat (F d).toNat : Nat) e = F e := fun e he => upd_other F _ he
  refine ⟨h.inv.set_ hT hU hc hd dc dd hz, h.an, by rw [def_ a hza]; exact h.ad, fun c' d' hc' hd' dc' dd' wc wd nc nd => ?_, fun c' hb hc' dc' wc => ?_⟩
  · simp at wc wd
    rw [def_ c' wc.2] at dc'
    rw [def_ d' wd.2] at dd'
    exact (h.els c' d' hc' hd' dc' dd' wc.1 wd.1 nc nd).keep wc.2 wd.2 hz
  · simp at wc
    rw [def_ c' wc.2] at dc'
    have := h.mine c' hb hc' dc' wc.1
    exact ⟨this.1.keep hza wc.2 hz, this.2.keep wc.2 hza hz⟩
theorem DMid.next {a b : Nat} (h : DMid n m T U inj F0 F work a b) (hb : F b < 0 ∨ (Cl T U inj F a b ∧ Cl T U inj F b a)) : DMid n m T U inj F0 F work a (b + 1) := by
  refine ⟨h.inv, h.an, h.ad, h.els, fun c hcb hc dc wc => ?_⟩
  by_cases e : c < b
  · exact h.mine c e hc dc wc
  · obtain rfl : c = b := by omega
    rcases hb with hb | hb
    · omega
    · exact hb
end
end Go.Proofs.Ytgghmjnbkbiffaa
