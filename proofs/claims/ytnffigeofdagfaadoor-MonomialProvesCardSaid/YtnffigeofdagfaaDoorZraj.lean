/-
  Drawn regions in which fields of a variable are pointed to while others are stored: the shape of the variable does not turn.
-/
import Derived.Test.YtnffigeofdagfaaDoorZrah
namespace Go.Proofs.YtnffigeofdagfaaDoor.M
open Go.RowKit
set_option linter.unusedVariables false

def sameB : Option AObj → Option AObj → Bool
 | some (.box ty cs), some (.box ty' ds) => decide (ty = ty') && decide (cs.length = ds.length)
 | _, _ => false
def okH : List Nat → (Nat → Option AObj) → (Nat → Option AObj) → Bool
 | [], _, _ => true
 | k :: r, H, H' => sameB (H k) (H' k) && okH r H H'
def isShO : Op → Bool
 | .nilCheck _ => true
 | .fieldAddr _ _ _ => true
 | .indexAddr _ _ _ => true
 | _ => false
def outS (S tch : List Nat) : List Nat := tch.filter fun k => !S.contains k
def tchS (S : List Nat) (op : Op) (tch : List Nat) : List Nat := if isShO op = true then outS S tch else tch
section
variable {P : Program} {i : Nat} {H H2 : Nat → Option AObj} {c : Bool} {eff : Eff} {S : List Nat}
end
def awpOpDS (P : Program) (ops : Array Oper) (S : List Nat) (i : Nat) (o : Oper) (σ : ASt) (K : ASt → List Nat × List Nat → Prop) : Prop := match gd ops σ o with
 | some true => match aop P i o.op σ.eval σ.heap with
  | some (c, eff) => c = true ∧ dstOk σ o = true ∧ okH S σ.heap (σ.app o.dst eff).heap = true ∧ K (σ.app o.dst eff) (tchS S o.op eff.tch ++ wrE eff, wrE eff)
  | none => awpCallD P ops i o σ (fun σ' s => okH S σ.heap σ'.heap = true ∧ K σ' s)
 | some false => dstOk σ o = true ∧ okH S σ.heap σ.heap = true ∧ K (σ.app o.dst { val := .tup [] }) ([], [])
 | none => False
def awpDS (P : Program) (ops : Array Oper) (S : List Nat) (N : Nat) : List Oper → Nat → ASt → List (List Nat × List Nat) → (ASt → Prop) → Prop
 | [], k, σ, sm, K => chkD ops sm = true ∧ K { σ with nxt := N + k }
 | o :: r, k, σ, sm, K => awpOpDS P ops S (N + k) o σ (fun σ' s => awpDS P ops S N r (k + 1000000) σ' (sm ++ [s]) K)
def KDS (P : Program) (ops : Array Oper) (S : List Nat) (N : Nat) (r : List Oper) (k : Nat) (sm : List (List Nat × List Nat)) (K : ASt → Prop) : ASt → List Nat × List Nat → Prop := fun σ s => awpDS P ops S N r k σ (sm ++ [s]) K
theorem KDS_ap (P : Program) (ops : Array Oper) (S : List Nat) (N : Nat) (r : List Oper) (k : Nat) (sm : List (List Nat × List Nat)) (K : ASt → Prop) (σ : ASt) (s : List Nat × List Nat) : KDS P ops S N r k sm K σ s = awpDS P ops S N r k σ (sm ++ [s]) K := rfl
theorem awpDS_nil (P : Program) (ops : Array Oper) (S : List Nat) (N k : Nat) (σ : ASt) (sm : List (List Nat × List Nat)) (K : ASt → Prop) : awpDS P ops S N [] k σ sm K = (chkD ops sm = true ∧ K { σ with nxt := N + k }) := rfl
theorem awpDS_cons (P : Program) (ops : Array Oper) (S : List Nat) (N k : Nat) (o : Oper) (r : List Oper) (σ : ASt) (sm : List (List Nat × List Nat)) (K : ASt → Prop) : awpDS P ops S N (o :: r) k σ sm K = awpOpDS P ops S (N + k) o σ (KDS P ops S N r (k + 1000000) sm K) := rfl
end Go.Proofs.YtnffigeofdagfaaDoor.M
