/-
  No cell of these rows narrows 'for every input' (looked for: loops, veiled, ifaces, maps, wideKeys, modest, calm, conditions, laid).
  DERIVED. THE GIVEN ROWS OF THIS SEAT. 4 by the template 'for every input the law returns true; each argument reads behind the call as it read before'; 0 by the template 'total and deterministic' (their statements: YtjkeafkjjaploaaGreatTotals.lean).
  GIVEN WITH THE SEED: the statements are not yours to turn. If you find one false, say at which input.
  Laid BY PROGRAM, IN A SANDBOX (cutbox-rows.mjs): the forced cells as the released guide's own fill.sh prints them over the translation 3d5a42b2c4b7c1aa… (all of the seat's roots in one cut). By AI agents, Wed Nov 11 2026. No macro, syntax, notation, axiom, sorry.
-/
import Derived.Test.YtjkeafkjjaploaaGreatChecked
import GoSem.Claim
import GoSem.ClaimJoined
import GoSem.ClaimMapViews
import Derived.JoinedTies
import Derived.KernelRfl
namespace Go.Proofs.YtjkeafkjjaploaaGreat
/- THE CELL 'sum', in the pinned program and in every row, IS THE sha256 OF THE DUMP (.gsa) THAT YtjkeafkjjaploaaGreatProg.lean LOADS. Nothing in Lean hashes anything: it is a label: what it is worth is what the hold of that sum in a sandbox is worth. -/
noncomputable def Tryz.pinned : Pinned := { name := "ytjkeafkjjaploaagreat", sum := "3d5a42b2c4b7c1aaaa842485cc3b332a94df0354670abf7ded90f729aa871bf2", checked := Tryz.checked }
namespace Rows
def none {H : Type} : Left H := { results := [], args := [] }

/-- 'semigrouplaw32.AperiodicErrors': WHATEVER THE INPUT: true; the input reads as it did. -/
def aperiodicErrorsSpec : ChangeSpec := { name := "aperiodicErrors", fn := fun _ => fun
  | [d1, d2, d3] => { results := [.lit (.bool true)], args := [d1, d2, d3] }
  | _ => none }
def aperiodicErrorsRow : OpenClaim := { program := "ytjkeafkjjaploaagreat", sum := "3d5a42b2c4b7c1aaaa842485cc3b332a94df0354670abf7ded90f729aa871bf2", func := "semigroup/semigrouplaw32.AperiodicErrors", spec := "aperiodicErrors", unfollowed := true, recurses := true, plainKeys := false, apart := false }
def AperiodicErrorsSaid : Prop := aperiodicErrorsRow.holds Tryz.pinned (OpenSpec.ofChange aperiodicErrorsSpec)

/-- ITS FALSE NEIGHBOUR: 'it returns false'. Refute it at one input. -/
def aperiodicErrorsWrong : ChangeSpec := { name := "aperiodicErrors", fn := fun _ => fun
  | [d1, d2, d3] => { results := [.lit (.bool false)], args := [d1, d2, d3] }
  | _ => none }
def AperiodicErrorsWrongFalsely : Prop := aperiodicErrorsRow.holds Tryz.pinned (OpenSpec.ofChange aperiodicErrorsWrong)

/-- 'semigrouplaw32.AperiodicNodes': WHATEVER THE INPUT: true; the input reads as it did. -/
def aperiodicNodesSpec : ChangeSpec := { name := "aperiodicNodes", fn := fun _ => fun
  | [d] => { results := [.lit (.bool true)], args := [d] }
  | _ => none }
def aperiodicNodesRow : OpenClaim := { program := "ytjkeafkjjaploaagreat", sum := "3d5a42b2c4b7c1aaaa842485cc3b332a94df0354670abf7ded90f729aa871bf2", func := "semigroup/semigrouplaw32.AperiodicNodes", spec := "aperiodicNodes", unfollowed := true, recurses := true, plainKeys := false, apart := false }
def AperiodicNodesSaid : Prop := aperiodicNodesRow.holds Tryz.pinned (OpenSpec.ofChange aperiodicNodesSpec)

/-- ITS FALSE NEIGHBOUR: 'it returns false'. Refute it at one input. -/
def aperiodicNodesWrong : ChangeSpec := { name := "aperiodicNodes", fn := fun _ => fun
  | [d] => { results := [.lit (.bool false)], args := [d] }
  | _ => none }
def AperiodicNodesWrongFalsely : Prop := aperiodicNodesRow.holds Tryz.pinned (OpenSpec.ofChange aperiodicNodesWrong)

/-- 'semigrouplaw32.AperiodicWords': WHATEVER THE INPUT: true; the input reads as it did. -/
def aperiodicWordsSpec : ChangeSpec := { name := "aperiodicWords", fn := fun _ => fun
  | [d1, d2] => { results := [.lit (.bool true)], args := [d1, d2] }
  | _ => none }
def aperiodicWordsRow : OpenClaim := { program := "ytjkeafkjjaploaagreat", sum := "3d5a42b2c4b7c1aaaa842485cc3b332a94df0354670abf7ded90f729aa871bf2", func := "semigroup/semigrouplaw32.AperiodicWords", spec := "aperiodicWords", unfollowed := true, recurses := true, plainKeys := false, apart := false }
def AperiodicWordsSaid : Prop := aperiodicWordsRow.holds Tryz.pinned (OpenSpec.ofChange aperiodicWordsSpec)

/-- ITS FALSE NEIGHBOUR: 'it returns false'. Refute it at one input. -/
def aperiodicWordsWrong : ChangeSpec := { name := "aperiodicWords", fn := fun _ => fun
  | [d1, d2] => { results := [.lit (.bool false)], args := [d1, d2] }
  | _ => none }
def AperiodicWordsWrongFalsely : Prop := aperiodicWordsRow.holds Tryz.pinned (OpenSpec.ofChange aperiodicWordsWrong)

/-- 'semigrouplaw32.AperiodicMember': WHATEVER THE INPUT: true; the input reads as it did. -/
def aperiodicMemberSpec : ChangeSpec := { name := "aperiodicMember", fn := fun _ => fun
  | [d] => { results := [.lit (.bool true)], args := [d] }
  | _ => none }
def aperiodicMemberRow : OpenClaim := { program := "ytjkeafkjjaploaagreat", sum := "3d5a42b2c4b7c1aaaa842485cc3b332a94df0354670abf7ded90f729aa871bf2", func := "semigroup/semigrouplaw32.AperiodicMember", spec := "aperiodicMember", inPlace := ["internal/bytealg.IndexByteString"], unfollowed := true, recurses := true, plainKeys := false, apart := false }
def AperiodicMemberSaid : Prop := aperiodicMemberRow.holds Tryz.pinned (OpenSpec.ofChange aperiodicMemberSpec)

/-- ITS FALSE NEIGHBOUR: 'it returns false'. Refute it at one input. -/
def aperiodicMemberWrong : ChangeSpec := { name := "aperiodicMember", fn := fun _ => fun
  | [d] => { results := [.lit (.bool false)], args := [d] }
  | _ => none }
def AperiodicMemberWrongFalsely : Prop := aperiodicMemberRow.holds Tryz.pinned (OpenSpec.ofChange aperiodicMemberWrong)

/- THE SECOND FORM. 'bulk': how many values and letters a reading holds, each counted each time it is reached (what is shared counts as often as it is met; a slice's spare places count too). A statement '..UptoSaid' is the law's where the arguments, and the package variables that the reading takes, are together of bulk at most 1048576: NARROWER than '..Said'. Prove '..Said' where nothing that the law and all that it calls make is longer than what came in: it says more and counts as full. Else prove '..UptoSaid'. A law counts once. -/
mutual
def uptoBulk {H : Type} : DataW H → Nat
  | .lit (.string bytes) => bytes.length + 1
  | .lit _ => 1
  | .nil => 1
  | .ptr d => uptoBulk d + 1
  | .slice elems spare => uptoBulkAll elems + uptoBulkAll spare + 1
  | .agg parts => uptoBulkAll parts + 1
  | .iface _ d => uptoBulk d + 1
  | .map entries => uptoBulkEntries entries + 1
  | .held _ => 1
def uptoBulkAll {H : Type} : List (DataW H) → Nat
  | [] => 0
  | d :: r => uptoBulk d + uptoBulkAll r
def uptoBulkEntries {H : Type} : List (Lit × DataW H) → Nat
  | [] => 0
  | x :: r => uptoBulkEntry x + uptoBulkEntries r
def uptoBulkEntry {H : Type} : Lit × DataW H → Nat
  | (.string bytes, d) => bytes.length + uptoBulk d + 1
  | (_, d) => uptoBulk d + 1
 end
def uptoSmall : (H : Type) → List (DataW H) → Bool := fun _ ds => decide (uptoBulkAll ds ≤ 1048576)
def OpenSpec.upto (s : _root_.Go.ChangeSpec) : _root_.Go.OpenSpec := { _root_.Go.OpenSpec.ofChange s with cond := some uptoSmall }

/-- 'semigrouplaw32.AperiodicErrors', WHERE WHAT IT READS IS OF BULK AT MOST 1048576: true; the input reads as it did. -/
def aperiodicErrorsUptoRow : OpenClaim := { program := "ytjkeafkjjaploaagreat", sum := "3d5a42b2c4b7c1aaaa842485cc3b332a94df0354670abf7ded90f729aa871bf2", func := "semigroup/semigrouplaw32.AperiodicErrors", spec := "aperiodicErrors", unfollowed := true, recurses := true, plainKeys := false, apart := false, narrowed := true }
def AperiodicErrorsUptoSaid : Prop := aperiodicErrorsUptoRow.holds Tryz.pinned (OpenSpec.upto aperiodicErrorsSpec)

/-- 'semigrouplaw32.AperiodicNodes', WHERE WHAT IT READS IS OF BULK AT MOST 1048576: true; the input reads as it did. -/
def aperiodicNodesUptoRow : OpenClaim := { program := "ytjkeafkjjaploaagreat", sum := "3d5a42b2c4b7c1aaaa842485cc3b332a94df0354670abf7ded90f729aa871bf2", func := "semigroup/semigrouplaw32.AperiodicNodes", spec := "aperiodicNodes", unfollowed := true, recurses := true, plainKeys := false, apart := false, narrowed := true }
def AperiodicNodesUptoSaid : Prop := aperiodicNodesUptoRow.holds Tryz.pinned (OpenSpec.upto aperiodicNodesSpec)

/-- 'semigrouplaw32.AperiodicWords', WHERE WHAT IT READS IS OF BULK AT MOST 1048576: true; the input reads as it did. -/
def aperiodicWordsUptoRow : OpenClaim := { program := "ytjkeafkjjaploaagreat", sum := "3d5a42b2c4b7c1aaaa842485cc3b332a94df0354670abf7ded90f729aa871bf2", func := "semigroup/semigrouplaw32.AperiodicWords", spec := "aperiodicWords", unfollowed := true, recurses := true, plainKeys := false, apart := false, narrowed := true }
def AperiodicWordsUptoSaid : Prop := aperiodicWordsUptoRow.holds Tryz.pinned (OpenSpec.upto aperiodicWordsSpec)

/-- 'semigrouplaw32.AperiodicMember', WHERE WHAT IT READS IS OF BULK AT MOST 1048576: true; the input reads as it did. -/
def aperiodicMemberUptoRow : OpenClaim := { program := "ytjkeafkjjaploaagreat", sum := "3d5a42b2c4b7c1aaaa842485cc3b332a94df0354670abf7ded90f729aa871bf2", func := "semigroup/semigrouplaw32.AperiodicMember", spec := "aperiodicMember", inPlace := ["internal/bytealg.IndexByteString"], unfollowed := true, recurses := true, plainKeys := false, apart := false, narrowed := true }
def AperiodicMemberUptoSaid : Prop := aperiodicMemberUptoRow.holds Tryz.pinned (OpenSpec.upto aperiodicMemberSpec)

end Rows
end Go.Proofs.YtjkeafkjjaploaaGreat
