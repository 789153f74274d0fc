/-
  NARROWER THAN 'FOR EVERY INPUT', by the rows' own cells (each row's printed sentence says how): OmegaRaw: loops.
  DERIVED. THE GIVEN ROWS OF THIS SEAT. 6 by the template 'for every input the law returns true; each argument reads behind the call as it read before'; 0 by the template 'total and deterministic' (their statements: YtghnmmfkckneaaaTotals.lean).
  GIVEN WITH THE SEED: the statements are not yours to turn. If you find one false, say at which input.
  Laid BY PROGRAM, IN A SANDBOX (cutbox-rows.mjs): the forced cells as the released guide's own fill.sh prints them over the translation f5ebe32076e28ea2… (all of the seat's roots in one cut). By AI agents, Wed Nov 11 2026. No macro, syntax, notation, axiom, sorry.
-/
import Derived.Test.YtghnmmfkckneaaaChecked
import GoSem.Claim
import GoSem.ClaimJoined
import GoSem.ClaimMapViews
import Derived.JoinedTies
import Derived.KernelRfl
namespace Go.Proofs.Ytghnmmfkckneaaa
/- THE CELL 'sum', in the pinned program and in every row, IS THE sha256 OF THE DUMP (.gsa) THAT YtghnmmfkckneaaaProg.lean LOADS. Nothing in Lean hashes anything: it is a label: what it is worth is what the hold of that sum in a sandbox is worth. -/
noncomputable def Try.pinned : Pinned := { name := "ytghnmmfkckneaaa", sum := "f5ebe32076e28ea297dadf869b80c41c73a002404235085adfd1bd95faa8f695", checked := Try.checked }
namespace Rows
def none {H : Type} : Left H := { results := [], args := [] }

/-- 'semigrouplaw28.OmegaParses': WHATEVER THE INPUT: true; the input reads as it did. -/
def omegaParsesSpec : ChangeSpec := { name := "omegaParses", fn := fun _ => fun
  | [d1, d2] => { results := [.lit (.bool true)], args := [d1, d2] }
  | _ => none }
def omegaParsesRow : OpenClaim := { program := "ytghnmmfkckneaaa", sum := "f5ebe32076e28ea297dadf869b80c41c73a002404235085adfd1bd95faa8f695", func := "semigroup/semigrouplaw28.OmegaParses", spec := "omegaParses", inPlace := ["internal/bytealg.IndexByteString"], unfollowed := true, recurses := true, apart := false }
def OmegaParsesSaid : Prop := omegaParsesRow.holds Try.pinned (OpenSpec.ofChange omegaParsesSpec)

/-- ITS FALSE NEIGHBOUR: 'it returns false'. Refute it at one input. -/
def omegaParsesWrong : ChangeSpec := { name := "omegaParses", fn := fun _ => fun
  | [d1, d2] => { results := [.lit (.bool false)], args := [d1, d2] }
  | _ => none }
def OmegaParsesWrongFalsely : Prop := omegaParsesRow.holds Try.pinned (OpenSpec.ofChange omegaParsesWrong)

/-- 'semigrouplaw28.OmegaChanges': WHATEVER THE INPUT: true; the input reads as it did. -/
def omegaChangesSpec : ChangeSpec := { name := "omegaChanges", fn := fun _ => fun
  | [d1, d2, d3, d4] => { results := [.lit (.bool true)], args := [d1, d2, d3, d4] }
  | _ => none }
def omegaChangesRow : OpenClaim := { program := "ytghnmmfkckneaaa", sum := "f5ebe32076e28ea297dadf869b80c41c73a002404235085adfd1bd95faa8f695", func := "semigroup/semigrouplaw28.OmegaChanges", spec := "omegaChanges", inPlace := ["internal/bytealg.IndexByteString"], unfollowed := true, recurses := true, apart := false }
def OmegaChangesSaid : Prop := omegaChangesRow.holds Try.pinned (OpenSpec.ofChange omegaChangesSpec)

/-- ITS FALSE NEIGHBOUR: 'it returns false'. Refute it at one input. -/
def omegaChangesWrong : ChangeSpec := { name := "omegaChanges", fn := fun _ => fun
  | [d1, d2, d3, d4] => { results := [.lit (.bool false)], args := [d1, d2, d3, d4] }
  | _ => none }
def OmegaChangesWrongFalsely : Prop := omegaChangesRow.holds Try.pinned (OpenSpec.ofChange omegaChangesWrong)

/-- 'semigrouplaw28.OmegaBack': WHATEVER THE INPUT: true; the input reads as it did. -/
def omegaBackSpec : ChangeSpec := { name := "omegaBack", fn := fun _ => fun
  | [d] => { results := [.lit (.bool true)], args := [d] }
  | _ => none }
def omegaBackRow : OpenClaim := { program := "ytghnmmfkckneaaa", sum := "f5ebe32076e28ea297dadf869b80c41c73a002404235085adfd1bd95faa8f695", func := "semigroup/semigrouplaw28.OmegaBack", spec := "omegaBack", inPlace := ["internal/bytealg.IndexByteString"], unfollowed := true, recurses := true, apart := false }
def OmegaBackSaid : Prop := omegaBackRow.holds Try.pinned (OpenSpec.ofChange omegaBackSpec)

/-- ITS FALSE NEIGHBOUR: 'it returns false'. Refute it at one input. -/
def omegaBackWrong : ChangeSpec := { name := "omegaBack", fn := fun _ => fun
  | [d] => { results := [.lit (.bool false)], args := [d] }
  | _ => none }
def OmegaBackWrongFalsely : Prop := omegaBackRow.holds Try.pinned (OpenSpec.ofChange omegaBackWrong)

/-- 'semigrouplaw28.OmegaRaw': WHATEVER THE INPUT: true; the input reads as it did. -/
def omegaRawSpec : ChangeSpec := { name := "omegaRaw", fn := fun _ => fun
  | [d1, d2, d3, d4] => { results := [.lit (.bool true)], args := [d1, d2, d3, d4] }
  | _ => none }
def omegaRawRow : OpenClaim := { program := "ytghnmmfkckneaaa", sum := "f5ebe32076e28ea297dadf869b80c41c73a002404235085adfd1bd95faa8f695", func := "semigroup/semigrouplaw28.OmegaRaw", spec := "omegaRaw", inPlace := ["internal/bytealg.IndexByteString"], unfollowed := true, recurses := true, loops := true, apart := false }
def OmegaRawSaid : Prop := omegaRawRow.holds Try.pinned (OpenSpec.ofChange omegaRawSpec)

/-- ITS FALSE NEIGHBOUR: 'it returns false'. Refute it at one input. -/
def omegaRawWrong : ChangeSpec := { name := "omegaRaw", fn := fun _ => fun
  | [d1, d2, d3, d4] => { results := [.lit (.bool false)], args := [d1, d2, d3, d4] }
  | _ => none }
def OmegaRawWrongFalsely : Prop := omegaRawRow.holds Try.pinned (OpenSpec.ofChange omegaRawWrong)

/-- 'semigrouplaw28.OmegaResumes': WHATEVER THE INPUT: true; the input reads as it did. -/
def omegaResumesSpec : ChangeSpec := { name := "omegaResumes", fn := fun _ => fun
  | [d1, d2] => { results := [.lit (.bool true)], args := [d1, d2] }
  | _ => none }
def omegaResumesRow : OpenClaim := { program := "ytghnmmfkckneaaa", sum := "f5ebe32076e28ea297dadf869b80c41c73a002404235085adfd1bd95faa8f695", func := "semigroup/semigrouplaw28.OmegaResumes", spec := "omegaResumes", inPlace := ["internal/bytealg.IndexByteString"], unfollowed := true, recurses := true, apart := false }
def OmegaResumesSaid : Prop := omegaResumesRow.holds Try.pinned (OpenSpec.ofChange omegaResumesSpec)

/-- ITS FALSE NEIGHBOUR: 'it returns false'. Refute it at one input. -/
def omegaResumesWrong : ChangeSpec := { name := "omegaResumes", fn := fun _ => fun
  | [d1, d2] => { results := [.lit (.bool false)], args := [d1, d2] }
  | _ => none }
def OmegaResumesWrongFalsely : Prop := omegaResumesRow.holds Try.pinned (OpenSpec.ofChange omegaResumesWrong)

/-- 'semigrouplaw28.OmegaPowers': WHATEVER THE INPUT: true; the input reads as it did. -/
def omegaPowersSpec : ChangeSpec := { name := "omegaPowers", fn := fun _ => fun
  | [d] => { results := [.lit (.bool true)], args := [d] }
  | _ => none }
def omegaPowersRow : OpenClaim := { program := "ytghnmmfkckneaaa", sum := "f5ebe32076e28ea297dadf869b80c41c73a002404235085adfd1bd95faa8f695", func := "semigroup/semigrouplaw28.OmegaPowers", spec := "omegaPowers", inPlace := ["internal/bytealg.IndexByteString"], unfollowed := true, recurses := true, apart := false }
def OmegaPowersSaid : Prop := omegaPowersRow.holds Try.pinned (OpenSpec.ofChange omegaPowersSpec)

/-- ITS FALSE NEIGHBOUR: 'it returns false'. Refute it at one input. -/
def omegaPowersWrong : ChangeSpec := { name := "omegaPowers", fn := fun _ => fun
  | [d] => { results := [.lit (.bool false)], args := [d] }
  | _ => none }
def OmegaPowersWrongFalsely : Prop := omegaPowersRow.holds Try.pinned (OpenSpec.ofChange omegaPowersWrong)

/- THE SECOND FORM. 'bulk': how many values and letters a reading holds, each counted each time it is reached (what is shared counts as often as it is met; a slice's spare places count too). A statement '..UptoSaid' is the law's where the arguments, and the package variables that the reading takes, are together of bulk at most 1048576: NARROWER than '..Said'. Prove '..Said' where nothing that the law and all that it calls make is longer than what came in: it says more and counts as full. Else prove '..UptoSaid'. A law counts once. -/
mutual
def uptoBulk {H : Type} : DataW H → Nat
  | .lit (.string bytes) => bytes.length + 1
  | .lit _ => 1
  | .nil => 1
  | .ptr d => uptoBulk d + 1
  | .slice elems spare => uptoBulkAll elems + uptoBulkAll spare + 1
  | .agg parts => uptoBulkAll parts + 1
  | .iface _ d => uptoBulk d + 1
  | .map entries => uptoBulkEntries entries + 1
  | .held _ => 1
def uptoBulkAll {H : Type} : List (DataW H) → Nat
  | [] => 0
  | d :: r => uptoBulk d + uptoBulkAll r
def uptoBulkEntries {H : Type} : List (Lit × DataW H) → Nat
  | [] => 0
  | x :: r => uptoBulkEntry x + uptoBulkEntries r
def uptoBulkEntry {H : Type} : Lit × DataW H → Nat
  | (.string bytes, d) => bytes.length + uptoBulk d + 1
  | (_, d) => uptoBulk d + 1
 end
def uptoSmall : (H : Type) → List (DataW H) → Bool := fun _ ds => decide (uptoBulkAll ds ≤ 1048576)
def OpenSpec.upto (s : _root_.Go.ChangeSpec) : _root_.Go.OpenSpec := { _root_.Go.OpenSpec.ofChange s with cond := some uptoSmall }

/-- 'semigrouplaw28.OmegaParses', WHERE WHAT IT READS IS OF BULK AT MOST 1048576: true; the input reads as it did. -/
def omegaParsesUptoRow : OpenClaim := { program := "ytghnmmfkckneaaa", sum := "f5ebe32076e28ea297dadf869b80c41c73a002404235085adfd1bd95faa8f695", func := "semigroup/semigrouplaw28.OmegaParses", spec := "omegaParses", inPlace := ["internal/bytealg.IndexByteString"], unfollowed := true, recurses := true, apart := false, narrowed := true }
def OmegaParsesUptoSaid : Prop := omegaParsesUptoRow.holds Try.pinned (OpenSpec.upto omegaParsesSpec)

/-- 'semigrouplaw28.OmegaChanges', WHERE WHAT IT READS IS OF BULK AT MOST 1048576: true; the input reads as it did. -/
def omegaChangesUptoRow : OpenClaim := { program := "ytghnmmfkckneaaa", sum := "f5ebe32076e28ea297dadf869b80c41c73a002404235085adfd1bd95faa8f695", func := "semigroup/semigrouplaw28.OmegaChanges", spec := "omegaChanges", inPlace := ["internal/bytealg.IndexByteString"], unfollowed := true, recurses := true, apart := false, narrowed := true }
def OmegaChangesUptoSaid : Prop := omegaChangesUptoRow.holds Try.pinned (OpenSpec.upto omegaChangesSpec)

/-- 'semigrouplaw28.OmegaBack', WHERE WHAT IT READS IS OF BULK AT MOST 1048576: true; the input reads as it did. -/
def omegaBackUptoRow : OpenClaim := { program := "ytghnmmfkckneaaa", sum := "f5ebe32076e28ea297dadf869b80c41c73a002404235085adfd1bd95faa8f695", func := "semigroup/semigrouplaw28.OmegaBack", spec := "omegaBack", inPlace := ["internal/bytealg.IndexByteString"], unfollowed := true, recurses := true, apart := false, narrowed := true }
def OmegaBackUptoSaid : Prop := omegaBackUptoRow.holds Try.pinned (OpenSpec.upto omegaBackSpec)

/-- 'semigrouplaw28.OmegaRaw', WHERE WHAT IT READS IS OF BULK AT MOST 1048576: true; the input reads as it did. -/
def omegaRawUptoRow : OpenClaim := { program := "ytghnmmfkckneaaa", sum := "f5ebe32076e28ea297dadf869b80c41c73a002404235085adfd1bd95faa8f695", func := "semigroup/semigrouplaw28.OmegaRaw", spec := "omegaRaw", inPlace := ["internal/bytealg.IndexByteString"], unfollowed := true, recurses := true, loops := true, apart := false, narrowed := true }
def OmegaRawUptoSaid : Prop := omegaRawUptoRow.holds Try.pinned (OpenSpec.upto omegaRawSpec)

/-- 'semigrouplaw28.OmegaResumes', WHERE WHAT IT READS IS OF BULK AT MOST 1048576: true; the input reads as it did. -/
def omegaResumesUptoRow : OpenClaim := { program := "ytghnmmfkckneaaa", sum := "f5ebe32076e28ea297dadf869b80c41c73a002404235085adfd1bd95faa8f695", func := "semigroup/semigrouplaw28.OmegaResumes", spec := "omegaResumes", inPlace := ["internal/bytealg.IndexByteString"], unfollowed := true, recurses := true, apart := false, narrowed := true }
def OmegaResumesUptoSaid : Prop := omegaResumesUptoRow.holds Try.pinned (OpenSpec.upto omegaResumesSpec)

/-- 'semigrouplaw28.OmegaPowers', WHERE WHAT IT READS IS OF BULK AT MOST 1048576: true; the input reads as it did. -/
def omegaPowersUptoRow : OpenClaim := { program := "ytghnmmfkckneaaa", sum := "f5ebe32076e28ea297dadf869b80c41c73a002404235085adfd1bd95faa8f695", func := "semigroup/semigrouplaw28.OmegaPowers", spec := "omegaPowers", inPlace := ["internal/bytealg.IndexByteString"], unfollowed := true, recurses := true, apart := false, narrowed := true }
def OmegaPowersUptoSaid : Prop := omegaPowersUptoRow.holds Try.pinned (OpenSpec.upto omegaPowersSpec)

end Rows
end Go.Proofs.Ytghnmmfkckneaaa
