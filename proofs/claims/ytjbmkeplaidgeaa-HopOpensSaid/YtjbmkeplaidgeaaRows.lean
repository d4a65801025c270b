/-
  No cell of these rows narrows 'for every input' (looked for: loops, veiled, ifaces, maps, wideKeys, modest, calm, conditions, laid).
  DERIVED. THE GIVEN ROWS OF THIS SEAT. 10 by the template 'for every input the law returns true; each argument reads behind the call as it read before'; 0 by the template 'total and deterministic' (their statements: YtjbmkeplaidgeaaTotals.lean).
  GIVEN WITH THE SEED: the statements are not yours to turn. If you find one false, say at which input.
  Laid BY PROGRAM, IN A SANDBOX (cutbox-rows.mjs): the forced cells as the released guide's own fill.sh prints them over the translation 5ec13a37f851a59b… (all of the seat's roots in one cut). By AI agents, Wed Nov 11 2026. No macro, syntax, notation, axiom, sorry.
-/
import Derived.Test.YtjbmkeplaidgeaaChecked
import GoSem.Claim
import GoSem.ClaimJoined
import GoSem.ClaimMapViews
import Derived.JoinedTies
import Derived.KernelRfl
namespace Go.Proofs.Ytjbmkeplaidgeaa
/- THE CELL 'sum', in the pinned program and in every row, IS THE sha256 OF THE DUMP (.gsa) THAT YtjbmkeplaidgeaaProg.lean LOADS. Nothing in Lean hashes anything: it is a label: what it is worth is what the hold of that sum in a sandbox is worth. -/
noncomputable def Try.pinned : Pinned := { name := "ytjbmkeplaidgeaa", sum := "5ec13a37f851a59bdfe71695e5da14e1419a98e4695b6df56bdaebecbde740d7", checked := Try.checked }
namespace Rows
def none {H : Type} : Left H := { results := [], args := [] }

/-- 'feluccalaw03.CheckTells': WHATEVER THE INPUT: true; the input reads as it did. -/
def checkTellsSpec : ChangeSpec := { name := "checkTells", fn := fun _ => fun
  | [d1, d2, d3, d4] => { results := [.lit (.bool true)], args := [d1, d2, d3, d4] }
  | _ => none }
def checkTellsRow : OpenClaim := { program := "ytjbmkeplaidgeaa", sum := "5ec13a37f851a59bdfe71695e5da14e1419a98e4695b6df56bdaebecbde740d7", func := "felucca/feluccalaw03.CheckTells", spec := "checkTells", apart := false }
def CheckTellsSaid : Prop := checkTellsRow.holds Try.pinned (OpenSpec.ofChange checkTellsSpec)

/-- ITS FALSE NEIGHBOUR: 'it returns false'. Refute it at one input. -/
def checkTellsWrong : ChangeSpec := { name := "checkTells", fn := fun _ => fun
  | [d1, d2, d3, d4] => { results := [.lit (.bool false)], args := [d1, d2, d3, d4] }
  | _ => none }
def CheckTellsWrongFalsely : Prop := checkTellsRow.holds Try.pinned (OpenSpec.ofChange checkTellsWrong)

/-- 'feluccalaw03.CheckVolumes': WHATEVER THE INPUT: true; the input reads as it did. -/
def checkVolumesSpec : ChangeSpec := { name := "checkVolumes", fn := fun _ => fun
  | [d] => { results := [.lit (.bool true)], args := [d] }
  | _ => none }
def checkVolumesRow : OpenClaim := { program := "ytjbmkeplaidgeaa", sum := "5ec13a37f851a59bdfe71695e5da14e1419a98e4695b6df56bdaebecbde740d7", func := "felucca/feluccalaw03.CheckVolumes", spec := "checkVolumes", apart := false }
def CheckVolumesSaid : Prop := checkVolumesRow.holds Try.pinned (OpenSpec.ofChange checkVolumesSpec)

/-- ITS FALSE NEIGHBOUR: 'it returns false'. Refute it at one input. -/
def checkVolumesWrong : ChangeSpec := { name := "checkVolumes", fn := fun _ => fun
  | [d] => { results := [.lit (.bool false)], args := [d] }
  | _ => none }
def CheckVolumesWrongFalsely : Prop := checkVolumesRow.holds Try.pinned (OpenSpec.ofChange checkVolumesWrong)

/-- 'feluccalaw03.CheckSides': WHATEVER THE INPUT: true; the input reads as it did. -/
def checkSidesSpec : ChangeSpec := { name := "checkSides", fn := fun _ => fun
  | [d1, d2, d3] => { results := [.lit (.bool true)], args := [d1, d2, d3] }
  | _ => none }
def checkSidesRow : OpenClaim := { program := "ytjbmkeplaidgeaa", sum := "5ec13a37f851a59bdfe71695e5da14e1419a98e4695b6df56bdaebecbde740d7", func := "felucca/feluccalaw03.CheckSides", spec := "checkSides", apart := false }
def CheckSidesSaid : Prop := checkSidesRow.holds Try.pinned (OpenSpec.ofChange checkSidesSpec)

/-- ITS FALSE NEIGHBOUR: 'it returns false'. Refute it at one input. -/
def checkSidesWrong : ChangeSpec := { name := "checkSides", fn := fun _ => fun
  | [d1, d2, d3] => { results := [.lit (.bool false)], args := [d1, d2, d3] }
  | _ => none }
def CheckSidesWrongFalsely : Prop := checkSidesRow.holds Try.pinned (OpenSpec.ofChange checkSidesWrong)

/-- 'feluccalaw03.CheckEnds': WHATEVER THE INPUT: true; the input reads as it did. -/
def checkEndsSpec : ChangeSpec := { name := "checkEnds", fn := fun _ => fun
  | [d] => { results := [.lit (.bool true)], args := [d] }
  | _ => none }
def checkEndsRow : OpenClaim := { program := "ytjbmkeplaidgeaa", sum := "5ec13a37f851a59bdfe71695e5da14e1419a98e4695b6df56bdaebecbde740d7", func := "felucca/feluccalaw03.CheckEnds", spec := "checkEnds", apart := false }
def CheckEndsSaid : Prop := checkEndsRow.holds Try.pinned (OpenSpec.ofChange checkEndsSpec)

/-- ITS FALSE NEIGHBOUR: 'it returns false'. Refute it at one input. -/
def checkEndsWrong : ChangeSpec := { name := "checkEnds", fn := fun _ => fun
  | [d] => { results := [.lit (.bool false)], args := [d] }
  | _ => none }
def CheckEndsWrongFalsely : Prop := checkEndsRow.holds Try.pinned (OpenSpec.ofChange checkEndsWrong)

/-- 'feluccalaw10.HopTells': WHATEVER THE INPUT: true; the input reads as it did. -/
def hopTellsSpec : ChangeSpec := { name := "hopTells", fn := fun _ => fun
  | [d1, d2, d3] => { results := [.lit (.bool true)], args := [d1, d2, d3] }
  | _ => none }
def hopTellsRow : OpenClaim := { program := "ytjbmkeplaidgeaa", sum := "5ec13a37f851a59bdfe71695e5da14e1419a98e4695b6df56bdaebecbde740d7", func := "felucca/feluccalaw10.HopTells", spec := "hopTells", apart := false }
def HopTellsSaid : Prop := hopTellsRow.holds Try.pinned (OpenSpec.ofChange hopTellsSpec)

/-- ITS FALSE NEIGHBOUR: 'it returns false'. Refute it at one input. -/
def hopTellsWrong : ChangeSpec := { name := "hopTells", fn := fun _ => fun
  | [d1, d2, d3] => { results := [.lit (.bool false)], args := [d1, d2, d3] }
  | _ => none }
def HopTellsWrongFalsely : Prop := hopTellsRow.holds Try.pinned (OpenSpec.ofChange hopTellsWrong)

/-- 'feluccalaw10.HopEarlier': WHATEVER THE INPUT: true; the input reads as it did. -/
def hopEarlierSpec : ChangeSpec := { name := "hopEarlier", fn := fun _ => fun
  | [d1, d2, d3, d4] => { results := [.lit (.bool true)], args := [d1, d2, d3, d4] }
  | _ => none }
def hopEarlierRow : OpenClaim := { program := "ytjbmkeplaidgeaa", sum := "5ec13a37f851a59bdfe71695e5da14e1419a98e4695b6df56bdaebecbde740d7", func := "felucca/feluccalaw10.HopEarlier", spec := "hopEarlier", apart := false }
def HopEarlierSaid : Prop := hopEarlierRow.holds Try.pinned (OpenSpec.ofChange hopEarlierSpec)

/-- ITS FALSE NEIGHBOUR: 'it returns false'. Refute it at one input. -/
def hopEarlierWrong : ChangeSpec := { name := "hopEarlier", fn := fun _ => fun
  | [d1, d2, d3, d4] => { results := [.lit (.bool false)], args := [d1, d2, d3, d4] }
  | _ => none }
def HopEarlierWrongFalsely : Prop := hopEarlierRow.holds Try.pinned (OpenSpec.ofChange hopEarlierWrong)

/-- 'feluccalaw10.HopLatest': WHATEVER THE INPUT: true; the input reads as it did. -/
def hopLatestSpec : ChangeSpec := { name := "hopLatest", fn := fun _ => fun
  | [d1, d2, d3] => { results := [.lit (.bool true)], args := [d1, d2, d3] }
  | _ => none }
def hopLatestRow : OpenClaim := { program := "ytjbmkeplaidgeaa", sum := "5ec13a37f851a59bdfe71695e5da14e1419a98e4695b6df56bdaebecbde740d7", func := "felucca/feluccalaw10.HopLatest", spec := "hopLatest", apart := false }
def HopLatestSaid : Prop := hopLatestRow.holds Try.pinned (OpenSpec.ofChange hopLatestSpec)

/-- ITS FALSE NEIGHBOUR: 'it returns false'. Refute it at one input. -/
def hopLatestWrong : ChangeSpec := { name := "hopLatest", fn := fun _ => fun
  | [d1, d2, d3] => { results := [.lit (.bool false)], args := [d1, d2, d3] }
  | _ => none }
def HopLatestWrongFalsely : Prop := hopLatestRow.holds Try.pinned (OpenSpec.ofChange hopLatestWrong)

/-- 'feluccalaw10.HopSizes': WHATEVER THE INPUT: true; the input reads as it did. -/
def hopSizesSpec : ChangeSpec := { name := "hopSizes", fn := fun _ => fun
  | [d1, d2, d3, d4] => { results := [.lit (.bool true)], args := [d1, d2, d3, d4] }
  | _ => none }
def hopSizesRow : OpenClaim := { program := "ytjbmkeplaidgeaa", sum := "5ec13a37f851a59bdfe71695e5da14e1419a98e4695b6df56bdaebecbde740d7", func := "felucca/feluccalaw10.HopSizes", spec := "hopSizes", apart := false }
def HopSizesSaid : Prop := hopSizesRow.holds Try.pinned (OpenSpec.ofChange hopSizesSpec)

/-- ITS FALSE NEIGHBOUR: 'it returns false'. Refute it at one input. -/
def hopSizesWrong : ChangeSpec := { name := "hopSizes", fn := fun _ => fun
  | [d1, d2, d3, d4] => { results := [.lit (.bool false)], args := [d1, d2, d3, d4] }
  | _ => none }
def HopSizesWrongFalsely : Prop := hopSizesRow.holds Try.pinned (OpenSpec.ofChange hopSizesWrong)

/-- 'feluccalaw10.HopShifts': WHATEVER THE INPUT: true; the input reads as it did. -/
def hopShiftsSpec : ChangeSpec := { name := "hopShifts", fn := fun _ => fun
  | [d1, d2, d3, d4] => { results := [.lit (.bool true)], args := [d1, d2, d3, d4] }
  | _ => none }
def hopShiftsRow : OpenClaim := { program := "ytjbmkeplaidgeaa", sum := "5ec13a37f851a59bdfe71695e5da14e1419a98e4695b6df56bdaebecbde740d7", func := "felucca/feluccalaw10.HopShifts", spec := "hopShifts", apart := false }
def HopShiftsSaid : Prop := hopShiftsRow.holds Try.pinned (OpenSpec.ofChange hopShiftsSpec)

/-- ITS FALSE NEIGHBOUR: 'it returns false'. Refute it at one input. -/
def hopShiftsWrong : ChangeSpec := { name := "hopShifts", fn := fun _ => fun
  | [d1, d2, d3, d4] => { results := [.lit (.bool false)], args := [d1, d2, d3, d4] }
  | _ => none }
def HopShiftsWrongFalsely : Prop := hopShiftsRow.holds Try.pinned (OpenSpec.ofChange hopShiftsWrong)

/-- 'feluccalaw10.HopOpens': WHATEVER THE INPUT: true; the input reads as it did. -/
def hopOpensSpec : ChangeSpec := { name := "hopOpens", fn := fun _ => fun
  | [d1, d2, d3] => { results := [.lit (.bool true)], args := [d1, d2, d3] }
  | _ => none }
def hopOpensRow : OpenClaim := { program := "ytjbmkeplaidgeaa", sum := "5ec13a37f851a59bdfe71695e5da14e1419a98e4695b6df56bdaebecbde740d7", func := "felucca/feluccalaw10.HopOpens", spec := "hopOpens", apart := false }
def HopOpensSaid : Prop := hopOpensRow.holds Try.pinned (OpenSpec.ofChange hopOpensSpec)

/-- ITS FALSE NEIGHBOUR: 'it returns false'. Refute it at one input. -/
def hopOpensWrong : ChangeSpec := { name := "hopOpens", fn := fun _ => fun
  | [d1, d2, d3] => { results := [.lit (.bool false)], args := [d1, d2, d3] }
  | _ => none }
def HopOpensWrongFalsely : Prop := hopOpensRow.holds Try.pinned (OpenSpec.ofChange hopOpensWrong)

/- THE SECOND FORM. 'bulk': how many values and letters a reading holds, each counted each time it is reached (what is shared counts as often as it is met; a slice's spare places count too). A statement '..UptoSaid' is the law's where the arguments, and the package variables that the reading takes, are together of bulk at most 1048576: NARROWER than '..Said'. Prove '..Said' where nothing that the law and all that it calls make is longer than what came in: it says more and counts as full. Else prove '..UptoSaid'. A law counts once. -/
mutual
def uptoBulk {H : Type} : DataW H → Nat
  | .lit (.string bytes) => bytes.length + 1
  | .lit _ => 1
  | .nil => 1
  | .ptr d => uptoBulk d + 1
  | .slice elems spare => uptoBulkAll elems + uptoBulkAll spare + 1
  | .agg parts => uptoBulkAll parts + 1
  | .iface _ d => uptoBulk d + 1
  | .map entries => uptoBulkEntries entries + 1
  | .held _ => 1
def uptoBulkAll {H : Type} : List (DataW H) → Nat
  | [] => 0
  | d :: r => uptoBulk d + uptoBulkAll r
def uptoBulkEntries {H : Type} : List (Lit × DataW H) → Nat
  | [] => 0
  | x :: r => uptoBulkEntry x + uptoBulkEntries r
def uptoBulkEntry {H : Type} : Lit × DataW H → Nat
  | (.string bytes, d) => bytes.length + uptoBulk d + 1
  | (_, d) => uptoBulk d + 1
 end
def uptoSmall : (H : Type) → List (DataW H) → Bool := fun _ ds => decide (uptoBulkAll ds ≤ 1048576)
def OpenSpec.upto (s : _root_.Go.ChangeSpec) : _root_.Go.OpenSpec := { _root_.Go.OpenSpec.ofChange s with cond := some uptoSmall }

/-- 'feluccalaw03.CheckTells', WHERE WHAT IT READS IS OF BULK AT MOST 1048576: true; the input reads as it did. -/
def checkTellsUptoRow : OpenClaim := { program := "ytjbmkeplaidgeaa", sum := "5ec13a37f851a59bdfe71695e5da14e1419a98e4695b6df56bdaebecbde740d7", func := "felucca/feluccalaw03.CheckTells", spec := "checkTells", apart := false, narrowed := true }
def CheckTellsUptoSaid : Prop := checkTellsUptoRow.holds Try.pinned (OpenSpec.upto checkTellsSpec)

/-- 'feluccalaw03.CheckVolumes', WHERE WHAT IT READS IS OF BULK AT MOST 1048576: true; the input reads as it did. -/
def checkVolumesUptoRow : OpenClaim := { program := "ytjbmkeplaidgeaa", sum := "5ec13a37f851a59bdfe71695e5da14e1419a98e4695b6df56bdaebecbde740d7", func := "felucca/feluccalaw03.CheckVolumes", spec := "checkVolumes", apart := false, narrowed := true }
def CheckVolumesUptoSaid : Prop := checkVolumesUptoRow.holds Try.pinned (OpenSpec.upto checkVolumesSpec)

/-- 'feluccalaw03.CheckSides', WHERE WHAT IT READS IS OF BULK AT MOST 1048576: true; the input reads as it did. -/
def checkSidesUptoRow : OpenClaim := { program := "ytjbmkeplaidgeaa", sum := "5ec13a37f851a59bdfe71695e5da14e1419a98e4695b6df56bdaebecbde740d7", func := "felucca/feluccalaw03.CheckSides", spec := "checkSides", apart := false, narrowed := true }
def CheckSidesUptoSaid : Prop := checkSidesUptoRow.holds Try.pinned (OpenSpec.upto checkSidesSpec)

/-- 'feluccalaw03.CheckEnds', WHERE WHAT IT READS IS OF BULK AT MOST 1048576: true; the input reads as it did. -/
def checkEndsUptoRow : OpenClaim := { program := "ytjbmkeplaidgeaa", sum := "5ec13a37f851a59bdfe71695e5da14e1419a98e4695b6df56bdaebecbde740d7", func := "felucca/feluccalaw03.CheckEnds", spec := "checkEnds", apart := false, narrowed := true }
def CheckEndsUptoSaid : Prop := checkEndsUptoRow.holds Try.pinned (OpenSpec.upto checkEndsSpec)

/-- 'feluccalaw10.HopTells', WHERE WHAT IT READS IS OF BULK AT MOST 1048576: true; the input reads as it did. -/
def hopTellsUptoRow : OpenClaim := { program := "ytjbmkeplaidgeaa", sum := "5ec13a37f851a59bdfe71695e5da14e1419a98e4695b6df56bdaebecbde740d7", func := "felucca/feluccalaw10.HopTells", spec := "hopTells", apart := false, narrowed := true }
def HopTellsUptoSaid : Prop := hopTellsUptoRow.holds Try.pinned (OpenSpec.upto hopTellsSpec)

/-- 'feluccalaw10.HopEarlier', WHERE WHAT IT READS IS OF BULK AT MOST 1048576: true; the input reads as it did. -/
def hopEarlierUptoRow : OpenClaim := { program := "ytjbmkeplaidgeaa", sum := "5ec13a37f851a59bdfe71695e5da14e1419a98e4695b6df56bdaebecbde740d7", func := "felucca/feluccalaw10.HopEarlier", spec := "hopEarlier", apart := false, narrowed := true }
def HopEarlierUptoSaid : Prop := hopEarlierUptoRow.holds Try.pinned (OpenSpec.upto hopEarlierSpec)

/-- 'feluccalaw10.HopLatest', WHERE WHAT IT READS IS OF BULK AT MOST 1048576: true; the input reads as it did. -/
def hopLatestUptoRow : OpenClaim := { program := "ytjbmkeplaidgeaa", sum := "5ec13a37f851a59bdfe71695e5da14e1419a98e4695b6df56bdaebecbde740d7", func := "felucca/feluccalaw10.HopLatest", spec := "hopLatest", apart := false, narrowed := true }
def HopLatestUptoSaid : Prop := hopLatestUptoRow.holds Try.pinned (OpenSpec.upto hopLatestSpec)

/-- 'feluccalaw10.HopSizes', WHERE WHAT IT READS IS OF BULK AT MOST 1048576: true; the input reads as it did. -/
def hopSizesUptoRow : OpenClaim := { program := "ytjbmkeplaidgeaa", sum := "5ec13a37f851a59bdfe71695e5da14e1419a98e4695b6df56bdaebecbde740d7", func := "felucca/feluccalaw10.HopSizes", spec := "hopSizes", apart := false, narrowed := true }
def HopSizesUptoSaid : Prop := hopSizesUptoRow.holds Try.pinned (OpenSpec.upto hopSizesSpec)

/-- 'feluccalaw10.HopShifts', WHERE WHAT IT READS IS OF BULK AT MOST 1048576: true; the input reads as it did. -/
def hopShiftsUptoRow : OpenClaim := { program := "ytjbmkeplaidgeaa", sum := "5ec13a37f851a59bdfe71695e5da14e1419a98e4695b6df56bdaebecbde740d7", func := "felucca/feluccalaw10.HopShifts", spec := "hopShifts", apart := false, narrowed := true }
def HopShiftsUptoSaid : Prop := hopShiftsUptoRow.holds Try.pinned (OpenSpec.upto hopShiftsSpec)

/-- 'feluccalaw10.HopOpens', WHERE WHAT IT READS IS OF BULK AT MOST 1048576: true; the input reads as it did. -/
def hopOpensUptoRow : OpenClaim := { program := "ytjbmkeplaidgeaa", sum := "5ec13a37f851a59bdfe71695e5da14e1419a98e4695b6df56bdaebecbde740d7", func := "felucca/feluccalaw10.HopOpens", spec := "hopOpens", apart := false, narrowed := true }
def HopOpensUptoSaid : Prop := hopOpensUptoRow.holds Try.pinned (OpenSpec.upto hopOpensSpec)

end Rows
end Go.Proofs.Ytjbmkeplaidgeaa
