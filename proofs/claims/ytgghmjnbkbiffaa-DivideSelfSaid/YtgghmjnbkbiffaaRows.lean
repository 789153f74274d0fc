/-
  No cell of these rows narrows 'for every input' (looked for: loops, veiled, ifaces, maps, wideKeys, modest, calm, conditions, laid).
  DERIVED. THE GIVEN ROWS OF THIS SEAT. 14 by the template 'for every input the law returns true; each argument reads behind the call as it read before'; 0 by the template 'total and deterministic' (their statements: YtgghmjnbkbiffaaTotals.lean).
  GIVEN WITH THE SEED: the statements are not yours to turn. If you find one false, say at which input.
  Laid BY PROGRAM, IN A SANDBOX (cutbox-rows.mjs): the forced cells as the released guide's own fill.sh prints them over the translation 54ff50cf30aecbb1… (all of the seat's roots in one cut). By AI agents, Wed Nov 11 2026. No macro, syntax, notation, axiom, sorry.
-/
import Derived.Test.YtgghmjnbkbiffaaChecked
import GoSem.Claim
import GoSem.ClaimJoined
import GoSem.ClaimMapViews
import Derived.JoinedTies
import Derived.KernelRfl
namespace Go.Proofs.Ytgghmjnbkbiffaa
/- THE CELL 'sum', in the pinned program and in every row, IS THE sha256 OF THE DUMP (.gsa) THAT YtgghmjnbkbiffaaProg.lean LOADS. Nothing in Lean hashes anything: it is a label: what it is worth is what the hold of that sum in a sandbox is worth. -/
noncomputable def Try.pinned : Pinned := { name := "ytgghmjnbkbiffaa", sum := "54ff50cf30aecbb13b5bc98f7444b7ce5295896d08defa0da6e9f4c224525f51", checked := Try.checked }
namespace Rows
def none {H : Type} : Left H := { results := [], args := [] }

/-- 'semigrouplaw20.MorphLists': WHATEVER THE INPUT: true; the input reads as it did. -/
def morphListsSpec : ChangeSpec := { name := "morphLists", fn := fun _ => fun
  | [d1, d2] => { results := [.lit (.bool true)], args := [d1, d2] }
  | _ => none }
def morphListsRow : OpenClaim := { program := "ytgghmjnbkbiffaa", sum := "54ff50cf30aecbb13b5bc98f7444b7ce5295896d08defa0da6e9f4c224525f51", func := "semigroup/semigrouplaw20.MorphLists", spec := "morphLists", unfollowed := true, recurses := true, apart := false }
def MorphListsSaid : Prop := morphListsRow.holds Try.pinned (OpenSpec.ofChange morphListsSpec)

/-- ITS FALSE NEIGHBOUR: 'it returns false'. Refute it at one input. -/
def morphListsWrong : ChangeSpec := { name := "morphLists", fn := fun _ => fun
  | [d1, d2] => { results := [.lit (.bool false)], args := [d1, d2] }
  | _ => none }
def MorphListsWrongFalsely : Prop := morphListsRow.holds Try.pinned (OpenSpec.ofChange morphListsWrong)

/-- 'semigrouplaw20.MorphIsomorphic': WHATEVER THE INPUT: true; the input reads as it did. -/
def morphIsomorphicSpec : ChangeSpec := { name := "morphIsomorphic", fn := fun _ => fun
  | [d1, d2] => { results := [.lit (.bool true)], args := [d1, d2] }
  | _ => none }
def morphIsomorphicRow : OpenClaim := { program := "ytgghmjnbkbiffaa", sum := "54ff50cf30aecbb13b5bc98f7444b7ce5295896d08defa0da6e9f4c224525f51", func := "semigroup/semigrouplaw20.MorphIsomorphic", spec := "morphIsomorphic", unfollowed := true, recurses := true, apart := false }
def MorphIsomorphicSaid : Prop := morphIsomorphicRow.holds Try.pinned (OpenSpec.ofChange morphIsomorphicSpec)

/-- ITS FALSE NEIGHBOUR: 'it returns false'. Refute it at one input. -/
def morphIsomorphicWrong : ChangeSpec := { name := "morphIsomorphic", fn := fun _ => fun
  | [d1, d2] => { results := [.lit (.bool false)], args := [d1, d2] }
  | _ => none }
def MorphIsomorphicWrongFalsely : Prop := morphIsomorphicRow.holds Try.pinned (OpenSpec.ofChange morphIsomorphicWrong)

/-- 'semigrouplaw20.MorphComplete': WHATEVER THE INPUT: true; the input reads as it did. -/
def morphCompleteSpec : ChangeSpec := { name := "morphComplete", fn := fun _ => fun
  | [d1, d2, d3] => { results := [.lit (.bool true)], args := [d1, d2, d3] }
  | _ => none }
def morphCompleteRow : OpenClaim := { program := "ytgghmjnbkbiffaa", sum := "54ff50cf30aecbb13b5bc98f7444b7ce5295896d08defa0da6e9f4c224525f51", func := "semigroup/semigrouplaw20.MorphComplete", spec := "morphComplete", unfollowed := true, recurses := true, apart := false }
def MorphCompleteSaid : Prop := morphCompleteRow.holds Try.pinned (OpenSpec.ofChange morphCompleteSpec)

/-- ITS FALSE NEIGHBOUR: 'it returns false'. Refute it at one input. -/
def morphCompleteWrong : ChangeSpec := { name := "morphComplete", fn := fun _ => fun
  | [d1, d2, d3] => { results := [.lit (.bool false)], args := [d1, d2, d3] }
  | _ => none }
def MorphCompleteWrongFalsely : Prop := morphCompleteRow.holds Try.pinned (OpenSpec.ofChange morphCompleteWrong)

/-- 'semigrouplaw20.MorphExtends': WHATEVER THE INPUT: true; the input reads as it did. -/
def morphExtendsSpec : ChangeSpec := { name := "morphExtends", fn := fun _ => fun
  | [d1, d2, d3, d4] => { results := [.lit (.bool true)], args := [d1, d2, d3, d4] }
  | _ => none }
def morphExtendsRow : OpenClaim := { program := "ytgghmjnbkbiffaa", sum := "54ff50cf30aecbb13b5bc98f7444b7ce5295896d08defa0da6e9f4c224525f51", func := "semigroup/semigrouplaw20.MorphExtends", spec := "morphExtends", unfollowed := true, recurses := true, apart := false }
def MorphExtendsSaid : Prop := morphExtendsRow.holds Try.pinned (OpenSpec.ofChange morphExtendsSpec)

/-- ITS FALSE NEIGHBOUR: 'it returns false'. Refute it at one input. -/
def morphExtendsWrong : ChangeSpec := { name := "morphExtends", fn := fun _ => fun
  | [d1, d2, d3, d4] => { results := [.lit (.bool false)], args := [d1, d2, d3, d4] }
  | _ => none }
def MorphExtendsWrongFalsely : Prop := morphExtendsRow.holds Try.pinned (OpenSpec.ofChange morphExtendsWrong)

/-- 'semigrouplaw20.MorphRenames': WHATEVER THE INPUT: true; the input reads as it did. -/
def morphRenamesSpec : ChangeSpec := { name := "morphRenames", fn := fun _ => fun
  | [d1, d2, d3, d4] => { results := [.lit (.bool true)], args := [d1, d2, d3, d4] }
  | _ => none }
def morphRenamesRow : OpenClaim := { program := "ytgghmjnbkbiffaa", sum := "54ff50cf30aecbb13b5bc98f7444b7ce5295896d08defa0da6e9f4c224525f51", func := "semigroup/semigrouplaw20.MorphRenames", spec := "morphRenames", unfollowed := true, recurses := true, apart := false }
def MorphRenamesSaid : Prop := morphRenamesRow.holds Try.pinned (OpenSpec.ofChange morphRenamesSpec)

/-- ITS FALSE NEIGHBOUR: 'it returns false'. Refute it at one input. -/
def morphRenamesWrong : ChangeSpec := { name := "morphRenames", fn := fun _ => fun
  | [d1, d2, d3, d4] => { results := [.lit (.bool false)], args := [d1, d2, d3, d4] }
  | _ => none }
def MorphRenamesWrongFalsely : Prop := morphRenamesRow.holds Try.pinned (OpenSpec.ofChange morphRenamesWrong)

/-- 'semigrouplaw20.MorphRecognizes': WHATEVER THE INPUT: true; the input reads as it did. -/
def morphRecognizesSpec : ChangeSpec := { name := "morphRecognizes", fn := fun _ => fun
  | [d1, d2, d3] => { results := [.lit (.bool true)], args := [d1, d2, d3] }
  | _ => none }
def morphRecognizesRow : OpenClaim := { program := "ytgghmjnbkbiffaa", sum := "54ff50cf30aecbb13b5bc98f7444b7ce5295896d08defa0da6e9f4c224525f51", func := "semigroup/semigrouplaw20.MorphRecognizes", spec := "morphRecognizes", unfollowed := true, recurses := true, apart := false }
def MorphRecognizesSaid : Prop := morphRecognizesRow.holds Try.pinned (OpenSpec.ofChange morphRecognizesSpec)

/-- ITS FALSE NEIGHBOUR: 'it returns false'. Refute it at one input. -/
def morphRecognizesWrong : ChangeSpec := { name := "morphRecognizes", fn := fun _ => fun
  | [d1, d2, d3] => { results := [.lit (.bool false)], args := [d1, d2, d3] }
  | _ => none }
def MorphRecognizesWrongFalsely : Prop := morphRecognizesRow.holds Try.pinned (OpenSpec.ofChange morphRecognizesWrong)

/-- 'semigrouplaw23.DivideMaps': WHATEVER THE INPUT: true; the input reads as it did. -/
def divideMapsSpec : ChangeSpec := { name := "divideMaps", fn := fun _ => fun
  | [d] => { results := [.lit (.bool true)], args := [d] }
  | _ => none }
def divideMapsRow : OpenClaim := { program := "ytgghmjnbkbiffaa", sum := "54ff50cf30aecbb13b5bc98f7444b7ce5295896d08defa0da6e9f4c224525f51", func := "semigroup/semigrouplaw23.DivideMaps", spec := "divideMaps", unfollowed := true, recurses := true, apart := false }
def DivideMapsSaid : Prop := divideMapsRow.holds Try.pinned (OpenSpec.ofChange divideMapsSpec)

/-- ITS FALSE NEIGHBOUR: 'it returns false'. Refute it at one input. -/
def divideMapsWrong : ChangeSpec := { name := "divideMaps", fn := fun _ => fun
  | [d] => { results := [.lit (.bool false)], args := [d] }
  | _ => none }
def DivideMapsWrongFalsely : Prop := divideMapsRow.holds Try.pinned (OpenSpec.ofChange divideMapsWrong)

/-- 'semigrouplaw23.DivideFinds': WHATEVER THE INPUT: true; the input reads as it did. -/
def divideFindsSpec : ChangeSpec := { name := "divideFinds", fn := fun _ => fun
  | [d1, d2] => { results := [.lit (.bool true)], args := [d1, d2] }
  | _ => none }
def divideFindsRow : OpenClaim := { program := "ytgghmjnbkbiffaa", sum := "54ff50cf30aecbb13b5bc98f7444b7ce5295896d08defa0da6e9f4c224525f51", func := "semigroup/semigrouplaw23.DivideFinds", spec := "divideFinds", unfollowed := true, recurses := true, apart := false }
def DivideFindsSaid : Prop := divideFindsRow.holds Try.pinned (OpenSpec.ofChange divideFindsSpec)

/-- ITS FALSE NEIGHBOUR: 'it returns false'. Refute it at one input. -/
def divideFindsWrong : ChangeSpec := { name := "divideFinds", fn := fun _ => fun
  | [d1, d2] => { results := [.lit (.bool false)], args := [d1, d2] }
  | _ => none }
def DivideFindsWrongFalsely : Prop := divideFindsRow.holds Try.pinned (OpenSpec.ofChange divideFindsWrong)

/-- 'semigrouplaw23.DivideHom': WHATEVER THE INPUT: true; the input reads as it did. -/
def divideHomSpec : ChangeSpec := { name := "divideHom", fn := fun _ => fun
  | [d] => { results := [.lit (.bool true)], args := [d] }
  | _ => none }
def divideHomRow : OpenClaim := { program := "ytgghmjnbkbiffaa", sum := "54ff50cf30aecbb13b5bc98f7444b7ce5295896d08defa0da6e9f4c224525f51", func := "semigroup/semigrouplaw23.DivideHom", spec := "divideHom", unfollowed := true, recurses := true, apart := false }
def DivideHomSaid : Prop := divideHomRow.holds Try.pinned (OpenSpec.ofChange divideHomSpec)

/-- ITS FALSE NEIGHBOUR: 'it returns false'. Refute it at one input. -/
def divideHomWrong : ChangeSpec := { name := "divideHom", fn := fun _ => fun
  | [d] => { results := [.lit (.bool false)], args := [d] }
  | _ => none }
def DivideHomWrongFalsely : Prop := divideHomRow.holds Try.pinned (OpenSpec.ofChange divideHomWrong)

/-- 'semigrouplaw23.DivideSelf': WHATEVER THE INPUT: true; the input reads as it did. -/
def divideSelfSpec : ChangeSpec := { name := "divideSelf", fn := fun _ => fun
  | [d] => { results := [.lit (.bool true)], args := [d] }
  | _ => none }
def divideSelfRow : OpenClaim := { program := "ytgghmjnbkbiffaa", sum := "54ff50cf30aecbb13b5bc98f7444b7ce5295896d08defa0da6e9f4c224525f51", func := "semigroup/semigrouplaw23.DivideSelf", spec := "divideSelf", unfollowed := true, recurses := true, apart := false }
def DivideSelfSaid : Prop := divideSelfRow.holds Try.pinned (OpenSpec.ofChange divideSelfSpec)

/-- ITS FALSE NEIGHBOUR: 'it returns false'. Refute it at one input. -/
def divideSelfWrong : ChangeSpec := { name := "divideSelf", fn := fun _ => fun
  | [d] => { results := [.lit (.bool false)], args := [d] }
  | _ => none }
def DivideSelfWrongFalsely : Prop := divideSelfRow.holds Try.pinned (OpenSpec.ofChange divideSelfWrong)

/-- 'semigrouplaw23.DivideSmaller': WHATEVER THE INPUT: true; the input reads as it did. -/
def divideSmallerSpec : ChangeSpec := { name := "divideSmaller", fn := fun _ => fun
  | [d] => { results := [.lit (.bool true)], args := [d] }
  | _ => none }
def divideSmallerRow : OpenClaim := { program := "ytgghmjnbkbiffaa", sum := "54ff50cf30aecbb13b5bc98f7444b7ce5295896d08defa0da6e9f4c224525f51", func := "semigroup/semigrouplaw23.DivideSmaller", spec := "divideSmaller", unfollowed := true, recurses := true, apart := false }
def DivideSmallerSaid : Prop := divideSmallerRow.holds Try.pinned (OpenSpec.ofChange divideSmallerSpec)

/-- ITS FALSE NEIGHBOUR: 'it returns false'. Refute it at one input. -/
def divideSmallerWrong : ChangeSpec := { name := "divideSmaller", fn := fun _ => fun
  | [d] => { results := [.lit (.bool false)], args := [d] }
  | _ => none }
def DivideSmallerWrongFalsely : Prop := divideSmallerRow.holds Try.pinned (OpenSpec.ofChange divideSmallerWrong)

/-- 'semigrouplaw20.MorphRestricts': WHATEVER THE INPUT: true; the input reads as it did. -/
def morphRestrictsSpec : ChangeSpec := { name := "morphRestricts", fn := fun _ => fun
  | [d1, d2, d3] => { results := [.lit (.bool true)], args := [d1, d2, d3] }
  | _ => none }
def morphRestrictsRow : OpenClaim := { program := "ytgghmjnbkbiffaa", sum := "54ff50cf30aecbb13b5bc98f7444b7ce5295896d08defa0da6e9f4c224525f51", func := "semigroup/semigrouplaw20.MorphRestricts", spec := "morphRestricts", unfollowed := true, recurses := true, apart := false }
def MorphRestrictsSaid : Prop := morphRestrictsRow.holds Try.pinned (OpenSpec.ofChange morphRestrictsSpec)

/-- ITS FALSE NEIGHBOUR: 'it returns false'. Refute it at one input. -/
def morphRestrictsWrong : ChangeSpec := { name := "morphRestricts", fn := fun _ => fun
  | [d1, d2, d3] => { results := [.lit (.bool false)], args := [d1, d2, d3] }
  | _ => none }
def MorphRestrictsWrongFalsely : Prop := morphRestrictsRow.holds Try.pinned (OpenSpec.ofChange morphRestrictsWrong)

/-- 'semigrouplaw23.DivideComposes': WHATEVER THE INPUT: true; the input reads as it did. -/
def divideComposesSpec : ChangeSpec := { name := "divideComposes", fn := fun _ => fun
  | [d] => { results := [.lit (.bool true)], args := [d] }
  | _ => none }
def divideComposesRow : OpenClaim := { program := "ytgghmjnbkbiffaa", sum := "54ff50cf30aecbb13b5bc98f7444b7ce5295896d08defa0da6e9f4c224525f51", func := "semigroup/semigrouplaw23.DivideComposes", spec := "divideComposes", unfollowed := true, recurses := true, apart := false }
def DivideComposesSaid : Prop := divideComposesRow.holds Try.pinned (OpenSpec.ofChange divideComposesSpec)

/-- ITS FALSE NEIGHBOUR: 'it returns false'. Refute it at one input. -/
def divideComposesWrong : ChangeSpec := { name := "divideComposes", fn := fun _ => fun
  | [d] => { results := [.lit (.bool false)], args := [d] }
  | _ => none }
def DivideComposesWrongFalsely : Prop := divideComposesRow.holds Try.pinned (OpenSpec.ofChange divideComposesWrong)

/-- 'semigrouplaw20.MorphFactors': WHATEVER THE INPUT: true; the input reads as it did. -/
def morphFactorsSpec : ChangeSpec := { name := "morphFactors", fn := fun _ => fun
  | [d1, d2, d3] => { results := [.lit (.bool true)], args := [d1, d2, d3] }
  | _ => none }
def morphFactorsRow : OpenClaim := { program := "ytgghmjnbkbiffaa", sum := "54ff50cf30aecbb13b5bc98f7444b7ce5295896d08defa0da6e9f4c224525f51", func := "semigroup/semigrouplaw20.MorphFactors", spec := "morphFactors", unfollowed := true, recurses := true, apart := false }
def MorphFactorsSaid : Prop := morphFactorsRow.holds Try.pinned (OpenSpec.ofChange morphFactorsSpec)

/-- ITS FALSE NEIGHBOUR: 'it returns false'. Refute it at one input. -/
def morphFactorsWrong : ChangeSpec := { name := "morphFactors", fn := fun _ => fun
  | [d1, d2, d3] => { results := [.lit (.bool false)], args := [d1, d2, d3] }
  | _ => none }
def MorphFactorsWrongFalsely : Prop := morphFactorsRow.holds Try.pinned (OpenSpec.ofChange morphFactorsWrong)

/- THE SECOND FORM. 'bulk': how many values and letters a reading holds, each counted each time it is reached (what is shared counts as often as it is met; a slice's spare places count too). A statement '..UptoSaid' is the law's where the arguments, and the package variables that the reading takes, are together of bulk at most 1048576: NARROWER than '..Said'. Prove '..Said' where nothing that the law and all that it calls make is longer than what came in: it says more and counts as full. Else prove '..UptoSaid'. A law counts once. -/
mutual
def uptoBulk {H : Type} : DataW H → Nat
  | .lit (.string bytes) => bytes.length + 1
  | .lit _ => 1
  | .nil => 1
  | .ptr d => uptoBulk d + 1
  | .slice elems spare => uptoBulkAll elems + uptoBulkAll spare + 1
  | .agg parts => uptoBulkAll parts + 1
  | .iface _ d => uptoBulk d + 1
  | .map entries => uptoBulkEntries entries + 1
  | .held _ => 1
def uptoBulkAll {H : Type} : List (DataW H) → Nat
  | [] => 0
  | d :: r => uptoBulk d + uptoBulkAll r
def uptoBulkEntries {H : Type} : List (Lit × DataW H) → Nat
  | [] => 0
  | x :: r => uptoBulkEntry x + uptoBulkEntries r
def uptoBulkEntry {H : Type} : Lit × DataW H → Nat
  | (.string bytes, d) => bytes.length + uptoBulk d + 1
  | (_, d) => uptoBulk d + 1
 end
def uptoSmall : (H : Type) → List (DataW H) → Bool := fun _ ds => decide (uptoBulkAll ds ≤ 1048576)
def OpenSpec.upto (s : _root_.Go.ChangeSpec) : _root_.Go.OpenSpec := { _root_.Go.OpenSpec.ofChange s with cond := some uptoSmall }

/-- 'semigrouplaw20.MorphLists', WHERE WHAT IT READS IS OF BULK AT MOST 1048576: true; the input reads as it did. -/
def morphListsUptoRow : OpenClaim := { program := "ytgghmjnbkbiffaa", sum := "54ff50cf30aecbb13b5bc98f7444b7ce5295896d08defa0da6e9f4c224525f51", func := "semigroup/semigrouplaw20.MorphLists", spec := "morphLists", unfollowed := true, recurses := true, apart := false, narrowed := true }
def MorphListsUptoSaid : Prop := morphListsUptoRow.holds Try.pinned (OpenSpec.upto morphListsSpec)

/-- 'semigrouplaw20.MorphIsomorphic', WHERE WHAT IT READS IS OF BULK AT MOST 1048576: true; the input reads as it did. -/
def morphIsomorphicUptoRow : OpenClaim := { program := "ytgghmjnbkbiffaa", sum := "54ff50cf30aecbb13b5bc98f7444b7ce5295896d08defa0da6e9f4c224525f51", func := "semigroup/semigrouplaw20.MorphIsomorphic", spec := "morphIsomorphic", unfollowed := true, recurses := true, apart := false, narrowed := true }
def MorphIsomorphicUptoSaid : Prop := morphIsomorphicUptoRow.holds Try.pinned (OpenSpec.upto morphIsomorphicSpec)

/-- 'semigrouplaw20.MorphComplete', WHERE WHAT IT READS IS OF BULK AT MOST 1048576: true; the input reads as it did. -/
def morphCompleteUptoRow : OpenClaim := { program := "ytgghmjnbkbiffaa", sum := "54ff50cf30aecbb13b5bc98f7444b7ce5295896d08defa0da6e9f4c224525f51", func := "semigroup/semigrouplaw20.MorphComplete", spec := "morphComplete", unfollowed := true, recurses := true, apart := false, narrowed := true }
def MorphCompleteUptoSaid : Prop := morphCompleteUptoRow.holds Try.pinned (OpenSpec.upto morphCompleteSpec)

/-- 'semigrouplaw20.MorphExtends', WHERE WHAT IT READS IS OF BULK AT MOST 1048576: true; the input reads as it did. -/
def morphExtendsUptoRow : OpenClaim := { program := "ytgghmjnbkbiffaa", sum := "54ff50cf30aecbb13b5bc98f7444b7ce5295896d08defa0da6e9f4c224525f51", func := "semigroup/semigrouplaw20.MorphExtends", spec := "morphExtends", unfollowed := true, recurses := true, apart := false, narrowed := true }
def MorphExtendsUptoSaid : Prop := morphExtendsUptoRow.holds Try.pinned (OpenSpec.upto morphExtendsSpec)

/-- 'semigrouplaw20.MorphRenames', WHERE WHAT IT READS IS OF BULK AT MOST 1048576: true; the input reads as it did. -/
def morphRenamesUptoRow : OpenClaim := { program := "ytgghmjnbkbiffaa", sum := "54ff50cf30aecbb13b5bc98f7444b7ce5295896d08defa0da6e9f4c224525f51", func := "semigroup/semigrouplaw20.MorphRenames", spec := "morphRenames", unfollowed := true, recurses := true, apart := false, narrowed := true }
def MorphRenamesUptoSaid : Prop := morphRenamesUptoRow.holds Try.pinned (OpenSpec.upto morphRenamesSpec)

/-- 'semigrouplaw20.MorphRecognizes', WHERE WHAT IT READS IS OF BULK AT MOST 1048576: true; the input reads as it did. -/
def morphRecognizesUptoRow : OpenClaim := { program := "ytgghmjnbkbiffaa", sum := "54ff50cf30aecbb13b5bc98f7444b7ce5295896d08defa0da6e9f4c224525f51", func := "semigroup/semigrouplaw20.MorphRecognizes", spec := "morphRecognizes", unfollowed := true, recurses := true, apart := false, narrowed := true }
def MorphRecognizesUptoSaid : Prop := morphRecognizesUptoRow.holds Try.pinned (OpenSpec.upto morphRecognizesSpec)

/-- 'semigrouplaw23.DivideMaps', WHERE WHAT IT READS IS OF BULK AT MOST 1048576: true; the input reads as it did. -/
def divideMapsUptoRow : OpenClaim := { program := "ytgghmjnbkbiffaa", sum := "54ff50cf30aecbb13b5bc98f7444b7ce5295896d08defa0da6e9f4c224525f51", func := "semigroup/semigrouplaw23.DivideMaps", spec := "divideMaps", unfollowed := true, recurses := true, apart := false, narrowed := true }
def DivideMapsUptoSaid : Prop := divideMapsUptoRow.holds Try.pinned (OpenSpec.upto divideMapsSpec)

/-- 'semigrouplaw23.DivideFinds', WHERE WHAT IT READS IS OF BULK AT MOST 1048576: true; the input reads as it did. -/
def divideFindsUptoRow : OpenClaim := { program := "ytgghmjnbkbiffaa", sum := "54ff50cf30aecbb13b5bc98f7444b7ce5295896d08defa0da6e9f4c224525f51", func := "semigroup/semigrouplaw23.DivideFinds", spec := "divideFinds", unfollowed := true, recurses := true, apart := false, narrowed := true }
def DivideFindsUptoSaid : Prop := divideFindsUptoRow.holds Try.pinned (OpenSpec.upto divideFindsSpec)

/-- 'semigrouplaw23.DivideHom', WHERE WHAT IT READS IS OF BULK AT MOST 1048576: true; the input reads as it did. -/
def divideHomUptoRow : OpenClaim := { program := "ytgghmjnbkbiffaa", sum := "54ff50cf30aecbb13b5bc98f7444b7ce5295896d08defa0da6e9f4c224525f51", func := "semigroup/semigrouplaw23.DivideHom", spec := "divideHom", unfollowed := true, recurses := true, apart := false, narrowed := true }
def DivideHomUptoSaid : Prop := divideHomUptoRow.holds Try.pinned (OpenSpec.upto divideHomSpec)

/-- 'semigrouplaw23.DivideSelf', WHERE WHAT IT READS IS OF BULK AT MOST 1048576: true; the input reads as it did. -/
def divideSelfUptoRow : OpenClaim := { program := "ytgghmjnbkbiffaa", sum := "54ff50cf30aecbb13b5bc98f7444b7ce5295896d08defa0da6e9f4c224525f51", func := "semigroup/semigrouplaw23.DivideSelf", spec := "divideSelf", unfollowed := true, recurses := true, apart := false, narrowed := true }
def DivideSelfUptoSaid : Prop := divideSelfUptoRow.holds Try.pinned (OpenSpec.upto divideSelfSpec)

/-- 'semigrouplaw23.DivideSmaller', WHERE WHAT IT READS IS OF BULK AT MOST 1048576: true; the input reads as it did. -/
def divideSmallerUptoRow : OpenClaim := { program := "ytgghmjnbkbiffaa", sum := "54ff50cf30aecbb13b5bc98f7444b7ce5295896d08defa0da6e9f4c224525f51", func := "semigroup/semigrouplaw23.DivideSmaller", spec := "divideSmaller", unfollowed := true, recurses := true, apart := false, narrowed := true }
def DivideSmallerUptoSaid : Prop := divideSmallerUptoRow.holds Try.pinned (OpenSpec.upto divideSmallerSpec)

/-- 'semigrouplaw20.MorphRestricts', WHERE WHAT IT READS IS OF BULK AT MOST 1048576: true; the input reads as it did. -/
def morphRestrictsUptoRow : OpenClaim := { program := "ytgghmjnbkbiffaa", sum := "54ff50cf30aecbb13b5bc98f7444b7ce5295896d08defa0da6e9f4c224525f51", func := "semigroup/semigrouplaw20.MorphRestricts", spec := "morphRestricts", unfollowed := true, recurses := true, apart := false, narrowed := true }
def MorphRestrictsUptoSaid : Prop := morphRestrictsUptoRow.holds Try.pinned (OpenSpec.upto morphRestrictsSpec)

/-- 'semigrouplaw23.DivideComposes', WHERE WHAT IT READS IS OF BULK AT MOST 1048576: true; the input reads as it did. -/
def divideComposesUptoRow : OpenClaim := { program := "ytgghmjnbkbiffaa", sum := "54ff50cf30aecbb13b5bc98f7444b7ce5295896d08defa0da6e9f4c224525f51", func := "semigroup/semigrouplaw23.DivideComposes", spec := "divideComposes", unfollowed := true, recurses := true, apart := false, narrowed := true }
def DivideComposesUptoSaid : Prop := divideComposesUptoRow.holds Try.pinned (OpenSpec.upto divideComposesSpec)

/-- 'semigrouplaw20.MorphFactors', WHERE WHAT IT READS IS OF BULK AT MOST 1048576: true; the input reads as it did. -/
def morphFactorsUptoRow : OpenClaim := { program := "ytgghmjnbkbiffaa", sum := "54ff50cf30aecbb13b5bc98f7444b7ce5295896d08defa0da6e9f4c224525f51", func := "semigroup/semigrouplaw20.MorphFactors", spec := "morphFactors", unfollowed := true, recurses := true, apart := false, narrowed := true }
def MorphFactorsUptoSaid : Prop := morphFactorsUptoRow.holds Try.pinned (OpenSpec.upto morphFactorsSpec)

end Rows
end Go.Proofs.Ytgghmjnbkbiffaa
