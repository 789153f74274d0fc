/-
  My own library: how slices of integers, of bools and of rows read in a world, and what keeps them; small laws on endings.
  Plain mathematics of multiplication tables (chapter 14): the shape of a table, associativity, Light's test. No program in sight.
  Walks of functions that only read: In, within, Same, SameRows, MaySearch, small, large.
  My own library, on memory that a call makes itself: 'Only' (which blocks may have turned), 'Arr' (a block known whole), rows that grow, and the laws of make and append in the forms that I use.
  How the arguments of a statement read: a slice of slices of integers as rows, a slice of integers as a list.
-/
import Derived.Test.YtjkeafkjjaploaaGreatProg
import Derived.WalkKit
import Derived.WalkSpells
import Derived.WalkLawsBesides
import Derived.Lib.Hide
import Derived.Deep.QuietTactic
import Derived.BigQuiet
import Derived.Maps.AppendAt
import Derived.Deep.AppendLies
import Derived.OneCell
import Derived.Test.YtjkeafkjjaploaaGreatRows
import Derived.ProofKit
import Derived.OpenShut
import Derived.ChangeOld
import Derived.Deep.Matrix
namespace Go.Proofs.YtjkeafkjjaploaaGreat
open Go.RowKit
set_option linter.unusedVariables false

def lnx {α : Type} (xs : List α) : Nat:=xs.length
def zDG {α : Type} [Inhabited α] (xs : List α) (i : Nat) : α:=xs.getD i default

def Sl {α : Type} [Inhabited α] (enc : α -> Value) (w : World) (v : Value) (xs : List α) : Prop :=
 ∃ a cap,v = .slice a (lnx xs) cap /\ lnx xs <= cap /\ cap <= 9223372036854775807 /\ (0 < lnx xs -> ∃ b o,a = some ⟨b,o,none⟩ /\ ∀ i,i < lnx xs -> w.cell? ⟨b,o + i,none⟩ = some (enc (zDG xs i)))

abbrev zQW:=Sl (Value.int .i64)
end Go.Proofs.YtjkeafkjjaploaaGreat

namespace Go.Proofs.YtjkeafkjjaploaaGreat
set_option linter.unusedVariables false
open Go.RowKit

def zOd (t : List (List Int)) (r : Nat) : Prop:=lnx (zDG t r) = lnx t /\ ∀ i,i < lnx (zDG t r) -> 0 <= zDG (zDG t r) i /\ zDG (zDG t r) i < lnx t

open Classical in
noncomputable def zDF (t : List (List Int)) : Int :=
 if 400 < lnx t then 3 else if lnx t = 0 then 4 else if ∀ r,r < lnx t -> zOd t r then 0 else 4

theorem zIo {t : List (List Int)} (h1 : ¬ 400 < lnx t) (h0 : 0 < lnx t) (h : ∀ r,r < lnx t -> zOd t r) : zDF t = 0:=by
 unfold zDF
 rw [if_neg h1,if_neg (by omega),if_pos h]
theorem zJh {t : List (List Int)} (h : zDF t = 0) : 0 < lnx t /\ lnx t <= 400 /\ ∀ r,r < lnx t -> zOd t r:=by
 unfold zDF at h
 split at h
 ·cases h
 ·split at h
  ·cases h
  ·split at h
   ·exact ⟨by omega,by omega,by assumption⟩
   ·cases h

def ze (t : List (List Int)) (r c : Nat) : Nat:=(zDG (zDG t r) c).toNat

def zDN (n : Nat) (T : Nat -> Nat -> Nat) : Prop:=∀ x y z,x < n -> y < n -> z < n -> T (T x y) z = T x (T y z)

open Classical in
noncomputable def zPJ (t : List (List Int)) : Int:=if zDF t = 0 then (if zDN (lnx t) (ze t) then 0 else 5) else zDF t

theorem zN4 {t : List (List Int)} (h : zDF t = 0) (ha : zDN (lnx t) (ze t)) : zPJ t = 0:=by unfold zPJ; rw [if_pos h,if_pos ha]
theorem zMg {t : List (List Int)} (h : zPJ t = 0) : zDF t = 0 /\ zDN (lnx t) (ze t):=by
 unfold zPJ at h
 split at h
 ·rename_i hs
  split at h
  ·rename_i ha; exact ⟨hs,ha⟩
  ·cases h
 ·rename_i hs; exact absurd h hs

end Go.Proofs.YtjkeafkjjaploaaGreat

namespace Go.Proofs.YtjkeafkjjaploaaGreat
open Go.RowKit
set_option linter.unusedVariables false

open Classical in
noncomputable def inB (n : Nat) (xs : List Int) : Bool:=decide (∀ i,i < lnx xs -> 0 <= zDG xs i /\ zDG xs i < (n : Int))
theorem zLr {n : Nat} {xs : List Int} (h : ∀ i,i < lnx xs -> 0 <= zDG xs i /\ zDG xs i < (n : Int)) : inB n xs = true:=decide_eq_true h
theorem zNo {n : Nat} {xs : List Int} (i : Nat) (hi : i < lnx xs) (h : ¬ (0 <= zDG xs i /\ zDG xs i < (n : Int))) : inB n xs = false:=decide_eq_false (fun H=>h (H i hi))
def sameB (xs ys : List Int) : Bool:=xs == ys
end Go.Proofs.YtjkeafkjjaploaaGreat

namespace Go.Proofs.YtjkeafkjjaploaaGreat
open Go.RowKit
set_option linter.unusedVariables false

structure zSA (S : Nat -> Prop) (w w' : World) : Prop where
 os : w'.os = w.os
 tape : w'.tape = w.tape
 output : w'.output = w.output
 size : w.heap.size <= w'.heap.size
 block : ∀ k,k < w.heap.size -> ¬ S k -> w'.heap[k]? = w.heap[k]?

section
variable {E : TypeId} {w w' : World} {g n : Nat} {f : Nat -> Value}
end

def zL3 (z : Value) (n : Nat) : Array Value:=madeCells #[z] n
section
variable {base : Nat} {e : TypeId} {w w' : World} {v v' : Value} {n m : Nat} {xs news : List Value}
end

end Go.Proofs.YtjkeafkjjaploaaGreat

namespace Go.Proofs.YtjkeafkjjaploaaGreat
open Go.ChangeShapes Go.WideShapes Go.ChangeAt Go.RowKit
set_option linter.unusedVariables false

theorem own : ownKnob Tryz.prog.godebug = none:=by kernel_rfl
theorem laidOut : laidOutB Tryz.prog = true:=by kernel_rfl

theorem zJ2 {w : World} {a : Addr} {v : Value} (h : w.cell? (a.add 0) = some v) : ∃ b o,a = ⟨b,o,none⟩:=by
 obtain ⟨b,o,sp⟩:=a
 have h2 : (⟨b,o,sp⟩ : Addr).add 0 = ⟨b,o,sp⟩:=by simp [Addr.add]
 rw [h2] at h
 have:=World.cell?_spot h
 simp at this
 subst this
 exact ⟨b,o,rfl⟩

theorem zGO {H : Type} {enc : TypeId × Value -> H} {W : World} {a : Option Addr} {len cap fuel : Nat} {held : Bool} {x : DataW H × List MemPlace} (hf : DataW.trod enc Tryz.prog W 0 (fun _=>true) held fuel 22 [.slice a len cap] = some x) : ∃ xs,zQW W (.slice a len cap) xs:=by
 rcases open_ints Tryz.underlying22 Tryz.underlying3 (by kernel_rfl) hf with ⟨hcs,_⟩ | ⟨ad,l,c,zs,hcs,_,hl,hm,hz,_,hcell,_⟩
 ·simp at hcs
  obtain ⟨rfl,rfl,rfl⟩:=hcs
  exact ⟨[],none,0,rfl,by simp [lnx],by omega,fun h=>by simp [lnx] at h⟩
 ·simp at hcs
  obtain ⟨rfl,rfl,rfl⟩:=hcs
  simp only [if_true] at hz
  have hln : lnx (zs.take len) = len:=by simp [lnx,hz]; omega
  refine ⟨zs.take len,some ad,cap,by rw [hln],by omega,by simpa [maxLen] using hm,fun h0=>?_⟩
  rw [hln] at h0 ⊢
  obtain ⟨b,o,rfl⟩:=zJ2 (hcell 0 (by omega))
  refine ⟨b,o,rfl,fun i hi=>?_⟩
  have:=hcell i (by omega)
  rw [Addr.add_lit] at this
  rw [this]
  have h2 : i < zs.length:=by omega
  simp [zDG,hi,h2]

end Go.Proofs.YtjkeafkjjaploaaGreat
