/-
  No cell of these rows narrows 'for every input' (looked for: loops, veiled, ifaces, maps, wideKeys, modest, calm, conditions, laid).
  DERIVED. THE GIVEN ROWS OF THIS SEAT. 6 by the template 'for every input the law returns true; each argument reads behind the call as it read before'; 0 by the template 'total and deterministic' (their statements: YtpoagcbdgkljaaaTotals.lean).
  GIVEN WITH THE SEED: the statements are not yours to turn. If you find one false, say at which input.
  Laid BY PROGRAM, IN A SANDBOX (cutbox-rows.mjs): the forced cells as the released guide's own fill.sh prints them over the translation 96d54c38d98a5a39… (all of the seat's roots in one cut). By AI agents, Wed Nov 11 2026. No macro, syntax, notation, axiom, sorry.
-/
import Derived.Test.YtpoagcbdgkljaaaChecked
import GoSem.Claim
import GoSem.ClaimJoined
import GoSem.ClaimMapViews
import Derived.JoinedTies
import Derived.KernelRfl
namespace Go.Proofs.Ytpoagcbdgkljaaa
/- THE CELL 'sum', in the pinned program and in every row, IS THE sha256 OF THE DUMP (.gsa) THAT YtpoagcbdgkljaaaProg.lean LOADS. Nothing in Lean hashes anything: it is a label: what it is worth is what the hold of that sum in a sandbox is worth. -/
noncomputable def Try.pinned : Pinned := { name := "ytpoagcbdgkljaaa", sum := "96d54c38d98a5a39706af82e806512ee35b5bb5d7059a7b090a8187fa1729cc5", checked := Try.checked }
namespace Rows
def none {H : Type} : Left H := { results := [], args := [] }

/-- 'feluccalaw12.PathTells': WHATEVER THE INPUT: true; the input reads as it did. -/
def pathTellsSpec : ChangeSpec := { name := "pathTells", fn := fun _ => fun
  | [d1, d2, d3, d4, d5, d6, d7, d8] => { results := [.lit (.bool true)], args := [d1, d2, d3, d4, d5, d6, d7, d8] }
  | _ => none }
def pathTellsRow : OpenClaim := { program := "ytpoagcbdgkljaaa", sum := "96d54c38d98a5a39706af82e806512ee35b5bb5d7059a7b090a8187fa1729cc5", func := "felucca/feluccalaw12.PathTells", spec := "pathTells", apart := false }
def PathTellsSaid : Prop := pathTellsRow.holds Try.pinned (OpenSpec.ofChange pathTellsSpec)

/-- ITS FALSE NEIGHBOUR: 'it returns false'. Refute it at one input. -/
def pathTellsWrong : ChangeSpec := { name := "pathTells", fn := fun _ => fun
  | [d1, d2, d3, d4, d5, d6, d7, d8] => { results := [.lit (.bool false)], args := [d1, d2, d3, d4, d5, d6, d7, d8] }
  | _ => none }
def PathTellsWrongFalsely : Prop := pathTellsRow.holds Try.pinned (OpenSpec.ofChange pathTellsWrong)

/-- 'feluccalaw12.PathEarlier': WHATEVER THE INPUT: true; the input reads as it did. -/
def pathEarlierSpec : ChangeSpec := { name := "pathEarlier", fn := fun _ => fun
  | [d1, d2, d3, d4, d5, d6] => { results := [.lit (.bool true)], args := [d1, d2, d3, d4, d5, d6] }
  | _ => none }
def pathEarlierRow : OpenClaim := { program := "ytpoagcbdgkljaaa", sum := "96d54c38d98a5a39706af82e806512ee35b5bb5d7059a7b090a8187fa1729cc5", func := "felucca/feluccalaw12.PathEarlier", spec := "pathEarlier", apart := false }
def PathEarlierSaid : Prop := pathEarlierRow.holds Try.pinned (OpenSpec.ofChange pathEarlierSpec)

/-- ITS FALSE NEIGHBOUR: 'it returns false'. Refute it at one input. -/
def pathEarlierWrong : ChangeSpec := { name := "pathEarlier", fn := fun _ => fun
  | [d1, d2, d3, d4, d5, d6] => { results := [.lit (.bool false)], args := [d1, d2, d3, d4, d5, d6] }
  | _ => none }
def PathEarlierWrongFalsely : Prop := pathEarlierRow.holds Try.pinned (OpenSpec.ofChange pathEarlierWrong)

/-- 'feluccalaw12.PathParts': WHATEVER THE INPUT: true; the input reads as it did. -/
def pathPartsSpec : ChangeSpec := { name := "pathParts", fn := fun _ => fun
  | [d1, d2, d3, d4, d5, d6] => { results := [.lit (.bool true)], args := [d1, d2, d3, d4, d5, d6] }
  | _ => none }
def pathPartsRow : OpenClaim := { program := "ytpoagcbdgkljaaa", sum := "96d54c38d98a5a39706af82e806512ee35b5bb5d7059a7b090a8187fa1729cc5", func := "felucca/feluccalaw12.PathParts", spec := "pathParts", apart := false }
def PathPartsSaid : Prop := pathPartsRow.holds Try.pinned (OpenSpec.ofChange pathPartsSpec)

/-- ITS FALSE NEIGHBOUR: 'it returns false'. Refute it at one input. -/
def pathPartsWrong : ChangeSpec := { name := "pathParts", fn := fun _ => fun
  | [d1, d2, d3, d4, d5, d6] => { results := [.lit (.bool false)], args := [d1, d2, d3, d4, d5, d6] }
  | _ => none }
def PathPartsWrongFalsely : Prop := pathPartsRow.holds Try.pinned (OpenSpec.ofChange pathPartsWrong)

/-- 'feluccalaw12.PathSizes': WHATEVER THE INPUT: true; the input reads as it did. -/
def pathSizesSpec : ChangeSpec := { name := "pathSizes", fn := fun _ => fun
  | [d1, d2, d3, d4, d5, d6] => { results := [.lit (.bool true)], args := [d1, d2, d3, d4, d5, d6] }
  | _ => none }
def pathSizesRow : OpenClaim := { program := "ytpoagcbdgkljaaa", sum := "96d54c38d98a5a39706af82e806512ee35b5bb5d7059a7b090a8187fa1729cc5", func := "felucca/feluccalaw12.PathSizes", spec := "pathSizes", apart := false }
def PathSizesSaid : Prop := pathSizesRow.holds Try.pinned (OpenSpec.ofChange pathSizesSpec)

/-- ITS FALSE NEIGHBOUR: 'it returns false'. Refute it at one input. -/
def pathSizesWrong : ChangeSpec := { name := "pathSizes", fn := fun _ => fun
  | [d1, d2, d3, d4, d5, d6] => { results := [.lit (.bool false)], args := [d1, d2, d3, d4, d5, d6] }
  | _ => none }
def PathSizesWrongFalsely : Prop := pathSizesRow.holds Try.pinned (OpenSpec.ofChange pathSizesWrong)

/-- 'feluccalaw12.PathBack': WHATEVER THE INPUT: true; the input reads as it did. -/
def pathBackSpec : ChangeSpec := { name := "pathBack", fn := fun _ => fun
  | [d1, d2, d3, d4, d5, d6, d7] => { results := [.lit (.bool true)], args := [d1, d2, d3, d4, d5, d6, d7] }
  | _ => none }
def pathBackRow : OpenClaim := { program := "ytpoagcbdgkljaaa", sum := "96d54c38d98a5a39706af82e806512ee35b5bb5d7059a7b090a8187fa1729cc5", func := "felucca/feluccalaw12.PathBack", spec := "pathBack", apart := false }
def PathBackSaid : Prop := pathBackRow.holds Try.pinned (OpenSpec.ofChange pathBackSpec)

/-- ITS FALSE NEIGHBOUR: 'it returns false'. Refute it at one input. -/
def pathBackWrong : ChangeSpec := { name := "pathBack", fn := fun _ => fun
  | [d1, d2, d3, d4, d5, d6, d7] => { results := [.lit (.bool false)], args := [d1, d2, d3, d4, d5, d6, d7] }
  | _ => none }
def PathBackWrongFalsely : Prop := pathBackRow.holds Try.pinned (OpenSpec.ofChange pathBackWrong)

/-- 'feluccalaw12.PathFollows': WHATEVER THE INPUT: true; the input reads as it did. -/
def pathFollowsSpec : ChangeSpec := { name := "pathFollows", fn := fun _ => fun
  | [d1, d2, d3, d4, d5, d6] => { results := [.lit (.bool true)], args := [d1, d2, d3, d4, d5, d6] }
  | _ => none }
def pathFollowsRow : OpenClaim := { program := "ytpoagcbdgkljaaa", sum := "96d54c38d98a5a39706af82e806512ee35b5bb5d7059a7b090a8187fa1729cc5", func := "felucca/feluccalaw12.PathFollows", spec := "pathFollows", apart := false }
def PathFollowsSaid : Prop := pathFollowsRow.holds Try.pinned (OpenSpec.ofChange pathFollowsSpec)

/-- ITS FALSE NEIGHBOUR: 'it returns false'. Refute it at one input. -/
def pathFollowsWrong : ChangeSpec := { name := "pathFollows", fn := fun _ => fun
  | [d1, d2, d3, d4, d5, d6] => { results := [.lit (.bool false)], args := [d1, d2, d3, d4, d5, d6] }
  | _ => none }
def PathFollowsWrongFalsely : Prop := pathFollowsRow.holds Try.pinned (OpenSpec.ofChange pathFollowsWrong)

/- THE SECOND FORM. 'bulk': how many values and letters a reading holds, each counted each time it is reached (what is shared counts as often as it is met; a slice's spare places count too). A statement '..UptoSaid' is the law's where the arguments, and the package variables that the reading takes, are together of bulk at most 1048576: NARROWER than '..Said'. Prove '..Said' where nothing that the law and all that it calls make is longer than what came in: it says more and counts as full. Else prove '..UptoSaid'. A law counts once. -/
mutual
def uptoBulk {H : Type} : DataW H → Nat
  | .lit (.string bytes) => bytes.length + 1
  | .lit _ => 1
  | .nil => 1
  | .ptr d => uptoBulk d + 1
  | .slice elems spare => uptoBulkAll elems + uptoBulkAll spare + 1
  | .agg parts => uptoBulkAll parts + 1
  | .iface _ d => uptoBulk d + 1
  | .map entries => uptoBulkEntries entries + 1
  | .held _ => 1
def uptoBulkAll {H : Type} : List (DataW H) → Nat
  | [] => 0
  | d :: r => uptoBulk d + uptoBulkAll r
def uptoBulkEntries {H : Type} : List (Lit × DataW H) → Nat
  | [] => 0
  | x :: r => uptoBulkEntry x + uptoBulkEntries r
def uptoBulkEntry {H : Type} : Lit × DataW H → Nat
  | (.string bytes, d) => bytes.length + uptoBulk d + 1
  | (_, d) => uptoBulk d + 1
 end
def uptoSmall : (H : Type) → List (DataW H) → Bool := fun _ ds => decide (uptoBulkAll ds ≤ 1048576)
def OpenSpec.upto (s : _root_.Go.ChangeSpec) : _root_.Go.OpenSpec := { _root_.Go.OpenSpec.ofChange s with cond := some uptoSmall }

/-- 'feluccalaw12.PathTells', WHERE WHAT IT READS IS OF BULK AT MOST 1048576: true; the input reads as it did. -/
def pathTellsUptoRow : OpenClaim := { program := "ytpoagcbdgkljaaa", sum := "96d54c38d98a5a39706af82e806512ee35b5bb5d7059a7b090a8187fa1729cc5", func := "felucca/feluccalaw12.PathTells", spec := "pathTells", apart := false, narrowed := true }
def PathTellsUptoSaid : Prop := pathTellsUptoRow.holds Try.pinned (OpenSpec.upto pathTellsSpec)

/-- 'feluccalaw12.PathEarlier', WHERE WHAT IT READS IS OF BULK AT MOST 1048576: true; the input reads as it did. -/
def pathEarlierUptoRow : OpenClaim := { program := "ytpoagcbdgkljaaa", sum := "96d54c38d98a5a39706af82e806512ee35b5bb5d7059a7b090a8187fa1729cc5", func := "felucca/feluccalaw12.PathEarlier", spec := "pathEarlier", apart := false, narrowed := true }
def PathEarlierUptoSaid : Prop := pathEarlierUptoRow.holds Try.pinned (OpenSpec.upto pathEarlierSpec)

/-- 'feluccalaw12.PathParts', WHERE WHAT IT READS IS OF BULK AT MOST 1048576: true; the input reads as it did. -/
def pathPartsUptoRow : OpenClaim := { program := "ytpoagcbdgkljaaa", sum := "96d54c38d98a5a39706af82e806512ee35b5bb5d7059a7b090a8187fa1729cc5", func := "felucca/feluccalaw12.PathParts", spec := "pathParts", apart := false, narrowed := true }
def PathPartsUptoSaid : Prop := pathPartsUptoRow.holds Try.pinned (OpenSpec.upto pathPartsSpec)

/-- 'feluccalaw12.PathSizes', WHERE WHAT IT READS IS OF BULK AT MOST 1048576: true; the input reads as it did. -/
def pathSizesUptoRow : OpenClaim := { program := "ytpoagcbdgkljaaa", sum := "96d54c38d98a5a39706af82e806512ee35b5bb5d7059a7b090a8187fa1729cc5", func := "felucca/feluccalaw12.PathSizes", spec := "pathSizes", apart := false, narrowed := true }
def PathSizesUptoSaid : Prop := pathSizesUptoRow.holds Try.pinned (OpenSpec.upto pathSizesSpec)

/-- 'feluccalaw12.PathBack', WHERE WHAT IT READS IS OF BULK AT MOST 1048576: true; the input reads as it did. -/
def pathBackUptoRow : OpenClaim := { program := "ytpoagcbdgkljaaa", sum := "96d54c38d98a5a39706af82e806512ee35b5bb5d7059a7b090a8187fa1729cc5", func := "felucca/feluccalaw12.PathBack", spec := "pathBack", apart := false, narrowed := true }
def PathBackUptoSaid : Prop := pathBackUptoRow.holds Try.pinned (OpenSpec.upto pathBackSpec)

/-- 'feluccalaw12.PathFollows', WHERE WHAT IT READS IS OF BULK AT MOST 1048576: true; the input reads as it did. -/
def pathFollowsUptoRow : OpenClaim := { program := "ytpoagcbdgkljaaa", sum := "96d54c38d98a5a39706af82e806512ee35b5bb5d7059a7b090a8187fa1729cc5", func := "felucca/feluccalaw12.PathFollows", spec := "pathFollows", apart := false, narrowed := true }
def PathFollowsUptoSaid : Prop := pathFollowsUptoRow.holds Try.pinned (OpenSpec.upto pathFollowsSpec)

end Rows
end Go.Proofs.Ytpoagcbdgkljaaa
