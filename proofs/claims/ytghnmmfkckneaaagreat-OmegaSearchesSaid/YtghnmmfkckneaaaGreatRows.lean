/-
  No cell of these rows narrows 'for every input' (looked for: loops, veiled, ifaces, maps, wideKeys, modest, calm, conditions, laid).
  DERIVED. THE GIVEN ROWS OF THIS SEAT. 3 by the template 'for every input the law returns true; each argument reads behind the call as it read before'; 0 by the template 'total and deterministic' (their statements: YtghnmmfkckneaaaGreatTotals.lean).
  GIVEN WITH THE SEED: the statements are not yours to turn. If you find one false, say at which input.
  Laid BY PROGRAM, IN A SANDBOX (cutbox-rows.mjs): the forced cells as the released guide's own fill.sh prints them over the translation 9428144fa09292fb… (all of the seat's roots in one cut). By AI agents, Wed Nov 11 2026. No macro, syntax, notation, axiom, sorry.
-/
import Derived.Test.YtghnmmfkckneaaaGreatChecked
import GoSem.Claim
import GoSem.ClaimJoined
import GoSem.ClaimMapViews
import Derived.JoinedTies
import Derived.KernelRfl
namespace Go.Proofs.YtghnmmfkckneaaaGreat
/- THE CELL 'sum', in the pinned program and in every row, IS THE sha256 OF THE DUMP (.gsa) THAT YtghnmmfkckneaaaGreatProg.lean LOADS. Nothing in Lean hashes anything: it is a label: what it is worth is what the hold of that sum in a sandbox is worth. -/
noncomputable def Tryz.pinned : Pinned := { name := "ytghnmmfkckneaaagreat", sum := "9428144fa09292fb650f16149ef43686f77312ec9911e7ffb0bf3baaa278002a", checked := Tryz.checked }
namespace Rows
def none {H : Type} : Left H := { results := [], args := [] }

/-- 'semigrouplaw28.OmegaLeast': WHATEVER THE INPUT: true; the input reads as it did. -/
def omegaLeastSpec : ChangeSpec := { name := "omegaLeast", fn := fun _ => fun
  | [d1, d2] => { results := [.lit (.bool true)], args := [d1, d2] }
  | _ => none }
def omegaLeastRow : OpenClaim := { program := "ytghnmmfkckneaaagreat", sum := "9428144fa09292fb650f16149ef43686f77312ec9911e7ffb0bf3baaa278002a", func := "semigroup/semigrouplaw28.OmegaLeast", spec := "omegaLeast", inPlace := ["internal/bytealg.IndexByteString"], unfollowed := true, recurses := true, apart := false }
def OmegaLeastSaid : Prop := omegaLeastRow.holds Tryz.pinned (OpenSpec.ofChange omegaLeastSpec)

/-- ITS FALSE NEIGHBOUR: 'it returns false'. Refute it at one input. -/
def omegaLeastWrong : ChangeSpec := { name := "omegaLeast", fn := fun _ => fun
  | [d1, d2] => { results := [.lit (.bool false)], args := [d1, d2] }
  | _ => none }
def OmegaLeastWrongFalsely : Prop := omegaLeastRow.holds Tryz.pinned (OpenSpec.ofChange omegaLeastWrong)

/-- 'semigrouplaw28.OmegaValues': WHATEVER THE INPUT: true; the input reads as it did. -/
def omegaValuesSpec : ChangeSpec := { name := "omegaValues", fn := fun _ => fun
  | [d] => { results := [.lit (.bool true)], args := [d] }
  | _ => none }
def omegaValuesRow : OpenClaim := { program := "ytghnmmfkckneaaagreat", sum := "9428144fa09292fb650f16149ef43686f77312ec9911e7ffb0bf3baaa278002a", func := "semigroup/semigrouplaw28.OmegaValues", spec := "omegaValues", inPlace := ["internal/bytealg.IndexByteString"], unfollowed := true, recurses := true, apart := false }
def OmegaValuesSaid : Prop := omegaValuesRow.holds Tryz.pinned (OpenSpec.ofChange omegaValuesSpec)

/-- ITS FALSE NEIGHBOUR: 'it returns false'. Refute it at one input. -/
def omegaValuesWrong : ChangeSpec := { name := "omegaValues", fn := fun _ => fun
  | [d] => { results := [.lit (.bool false)], args := [d] }
  | _ => none }
def OmegaValuesWrongFalsely : Prop := omegaValuesRow.holds Tryz.pinned (OpenSpec.ofChange omegaValuesWrong)

/-- 'semigrouplaw28.OmegaSearches': WHATEVER THE INPUT: true; the input reads as it did. -/
def omegaSearchesSpec : ChangeSpec := { name := "omegaSearches", fn := fun _ => fun
  | [d1, d2] => { results := [.lit (.bool true)], args := [d1, d2] }
  | _ => none }
def omegaSearchesRow : OpenClaim := { program := "ytghnmmfkckneaaagreat", sum := "9428144fa09292fb650f16149ef43686f77312ec9911e7ffb0bf3baaa278002a", func := "semigroup/semigrouplaw28.OmegaSearches", spec := "omegaSearches", inPlace := ["internal/bytealg.IndexByteString"], unfollowed := true, recurses := true, apart := false }
def OmegaSearchesSaid : Prop := omegaSearchesRow.holds Tryz.pinned (OpenSpec.ofChange omegaSearchesSpec)

/-- ITS FALSE NEIGHBOUR: 'it returns false'. Refute it at one input. -/
def omegaSearchesWrong : ChangeSpec := { name := "omegaSearches", fn := fun _ => fun
  | [d1, d2] => { results := [.lit (.bool false)], args := [d1, d2] }
  | _ => none }
def OmegaSearchesWrongFalsely : Prop := omegaSearchesRow.holds Tryz.pinned (OpenSpec.ofChange omegaSearchesWrong)

/- THE SECOND FORM. 'bulk': how many values and letters a reading holds, each counted each time it is reached (what is shared counts as often as it is met; a slice's spare places count too). A statement '..UptoSaid' is the law's where the arguments, and the package variables that the reading takes, are together of bulk at most 1048576: NARROWER than '..Said'. Prove '..Said' where nothing that the law and all that it calls make is longer than what came in: it says more and counts as full. Else prove '..UptoSaid'. A law counts once. -/
mutual
def uptoBulk {H : Type} : DataW H → Nat
  | .lit (.string bytes) => bytes.length + 1
  | .lit _ => 1
  | .nil => 1
  | .ptr d => uptoBulk d + 1
  | .slice elems spare => uptoBulkAll elems + uptoBulkAll spare + 1
  | .agg parts => uptoBulkAll parts + 1
  | .iface _ d => uptoBulk d + 1
  | .map entries => uptoBulkEntries entries + 1
  | .held _ => 1
def uptoBulkAll {H : Type} : List (DataW H) → Nat
  | [] => 0
  | d :: r => uptoBulk d + uptoBulkAll r
def uptoBulkEntries {H : Type} : List (Lit × DataW H) → Nat
  | [] => 0
  | x :: r => uptoBulkEntry x + uptoBulkEntries r
def uptoBulkEntry {H : Type} : Lit × DataW H → Nat
  | (.string bytes, d) => bytes.length + uptoBulk d + 1
  | (_, d) => uptoBulk d + 1
 end
def uptoSmall : (H : Type) → List (DataW H) → Bool := fun _ ds => decide (uptoBulkAll ds ≤ 1048576)
def OpenSpec.upto (s : _root_.Go.ChangeSpec) : _root_.Go.OpenSpec := { _root_.Go.OpenSpec.ofChange s with cond := some uptoSmall }

/-- 'semigrouplaw28.OmegaLeast', WHERE WHAT IT READS IS OF BULK AT MOST 1048576: true; the input reads as it did. -/
def omegaLeastUptoRow : OpenClaim := { program := "ytghnmmfkckneaaagreat", sum := "9428144fa09292fb650f16149ef43686f77312ec9911e7ffb0bf3baaa278002a", func := "semigroup/semigrouplaw28.OmegaLeast", spec := "omegaLeast", inPlace := ["internal/bytealg.IndexByteString"], unfollowed := true, recurses := true, apart := false, narrowed := true }
def OmegaLeastUptoSaid : Prop := omegaLeastUptoRow.holds Tryz.pinned (OpenSpec.upto omegaLeastSpec)

/-- 'semigrouplaw28.OmegaValues', WHERE WHAT IT READS IS OF BULK AT MOST 1048576: true; the input reads as it did. -/
def omegaValuesUptoRow : OpenClaim := { program := "ytghnmmfkckneaaagreat", sum := "9428144fa09292fb650f16149ef43686f77312ec9911e7ffb0bf3baaa278002a", func := "semigroup/semigrouplaw28.OmegaValues", spec := "omegaValues", inPlace := ["internal/bytealg.IndexByteString"], unfollowed := true, recurses := true, apart := false, narrowed := true }
def OmegaValuesUptoSaid : Prop := omegaValuesUptoRow.holds Tryz.pinned (OpenSpec.upto omegaValuesSpec)

/-- 'semigrouplaw28.OmegaSearches', WHERE WHAT IT READS IS OF BULK AT MOST 1048576: true; the input reads as it did. -/
def omegaSearchesUptoRow : OpenClaim := { program := "ytghnmmfkckneaaagreat", sum := "9428144fa09292fb650f16149ef43686f77312ec9911e7ffb0bf3baaa278002a", func := "semigroup/semigrouplaw28.OmegaSearches", spec := "omegaSearches", inPlace := ["internal/bytealg.IndexByteString"], unfollowed := true, recurses := true, apart := false, narrowed := true }
def OmegaSearchesUptoSaid : Prop := omegaSearchesUptoRow.holds Tryz.pinned (OpenSpec.upto omegaSearchesSpec)

end Rows
end Go.Proofs.YtghnmmfkckneaaaGreat
