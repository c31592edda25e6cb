/-
  No cell of these rows narrows 'for every input' (looked for: loops, veiled, ifaces, maps, wideKeys, modest, calm, conditions, laid).
  DERIVED. THE GIVEN ROWS OF THIS SEAT. 10 by the template 'for every input the law returns true; each argument reads behind the call as it read before'; 0 by the template 'total and deterministic' (their statements: YtdlkcohfgfnkbaaTotals.lean).
  GIVEN WITH THE SEED: the statements are not yours to turn. If you find one false, say at which input.
  Laid BY PROGRAM, IN A SANDBOX (cutbox-rows.mjs): the forced cells as the released guide's own fill.sh prints them over the translation b6ee73ce0376e783… (all of the seat's roots in one cut). By AI agents, Wed Nov 11 2026. No macro, syntax, notation, axiom, sorry.
-/
import Derived.Test.YtdlkcohfgfnkbaaChecked
import GoSem.Claim
import GoSem.ClaimJoined
import GoSem.ClaimMapViews
import Derived.JoinedTies
import Derived.KernelRfl
namespace Go.Proofs.Ytdlkcohfgfnkbaa
/- THE CELL 'sum', in the pinned program and in every row, IS THE sha256 OF THE DUMP (.gsa) THAT YtdlkcohfgfnkbaaProg.lean LOADS. Nothing in Lean hashes anything: it is a label: what it is worth is what the hold of that sum in a sandbox is worth. -/
noncomputable def Try.pinned : Pinned := { name := "ytdlkcohfgfnkbaa", sum := "b6ee73ce0376e783d70c9b68a75910f305c1388c6869ed8ae4b4492907d9f907", checked := Try.checked }
namespace Rows
def none {H : Type} : Left H := { results := [], args := [] }

/-- 'windbreaklaw14.BitsetJoins': WHATEVER THE INPUT: true; the input reads as it did. -/
def bitsetJoinsSpec : ChangeSpec := { name := "bitsetJoins", fn := fun _ => fun
  | [d1, d2] => { results := [.lit (.bool true)], args := [d1, d2] }
  | _ => none }
def bitsetJoinsRow : OpenClaim := { program := "ytdlkcohfgfnkbaa", sum := "b6ee73ce0376e783d70c9b68a75910f305c1388c6869ed8ae4b4492907d9f907", func := "windbreak/windbreaklaw14.BitsetJoins", spec := "bitsetJoins", unfollowed := true, recurses := true, apart := false }
def BitsetJoinsSaid : Prop := bitsetJoinsRow.holds Try.pinned (OpenSpec.ofChange bitsetJoinsSpec)

/-- ITS FALSE NEIGHBOUR: 'it returns false'. Refute it at one input. -/
def bitsetJoinsWrong : ChangeSpec := { name := "bitsetJoins", fn := fun _ => fun
  | [d1, d2] => { results := [.lit (.bool false)], args := [d1, d2] }
  | _ => none }
def BitsetJoinsWrongFalsely : Prop := bitsetJoinsRow.holds Try.pinned (OpenSpec.ofChange bitsetJoinsWrong)

/-- 'windbreaklaw14.BitsetMakes': WHATEVER THE INPUT: true; the input reads as it did. -/
def bitsetMakesSpec : ChangeSpec := { name := "bitsetMakes", fn := fun _ => fun
  | [d1, d2] => { results := [.lit (.bool true)], args := [d1, d2] }
  | _ => none }
def bitsetMakesRow : OpenClaim := { program := "ytdlkcohfgfnkbaa", sum := "b6ee73ce0376e783d70c9b68a75910f305c1388c6869ed8ae4b4492907d9f907", func := "windbreak/windbreaklaw14.BitsetMakes", spec := "bitsetMakes", unfollowed := true, recurses := true, apart := false }
def BitsetMakesSaid : Prop := bitsetMakesRow.holds Try.pinned (OpenSpec.ofChange bitsetMakesSpec)

/-- ITS FALSE NEIGHBOUR: 'it returns false'. Refute it at one input. -/
def bitsetMakesWrong : ChangeSpec := { name := "bitsetMakes", fn := fun _ => fun
  | [d1, d2] => { results := [.lit (.bool false)], args := [d1, d2] }
  | _ => none }
def BitsetMakesWrongFalsely : Prop := bitsetMakesRow.holds Try.pinned (OpenSpec.ofChange bitsetMakesWrong)

/-- 'windbreaklaw14.BitsetParts': WHATEVER THE INPUT: true; the input reads as it did. -/
def bitsetPartsSpec : ChangeSpec := { name := "bitsetParts", fn := fun _ => fun
  | [d1, d2] => { results := [.lit (.bool true)], args := [d1, d2] }
  | _ => none }
def bitsetPartsRow : OpenClaim := { program := "ytdlkcohfgfnkbaa", sum := "b6ee73ce0376e783d70c9b68a75910f305c1388c6869ed8ae4b4492907d9f907", func := "windbreak/windbreaklaw14.BitsetParts", spec := "bitsetParts", unfollowed := true, recurses := true, apart := false }
def BitsetPartsSaid : Prop := bitsetPartsRow.holds Try.pinned (OpenSpec.ofChange bitsetPartsSpec)

/-- ITS FALSE NEIGHBOUR: 'it returns false'. Refute it at one input. -/
def bitsetPartsWrong : ChangeSpec := { name := "bitsetParts", fn := fun _ => fun
  | [d1, d2] => { results := [.lit (.bool false)], args := [d1, d2] }
  | _ => none }
def BitsetPartsWrongFalsely : Prop := bitsetPartsRow.holds Try.pinned (OpenSpec.ofChange bitsetPartsWrong)

/-- 'windbreaklaw15.DatasetAligns': WHATEVER THE INPUT: true; the input reads as it did. -/
def datasetAlignsSpec : ChangeSpec := { name := "datasetAligns", fn := fun _ => fun
  | [d] => { results := [.lit (.bool true)], args := [d] }
  | _ => none }
def datasetAlignsRow : OpenClaim := { program := "ytdlkcohfgfnkbaa", sum := "b6ee73ce0376e783d70c9b68a75910f305c1388c6869ed8ae4b4492907d9f907", func := "windbreak/windbreaklaw15.DatasetAligns", spec := "datasetAligns", unfollowed := true, recurses := true, apart := false }
def DatasetAlignsSaid : Prop := datasetAlignsRow.holds Try.pinned (OpenSpec.ofChange datasetAlignsSpec)

/-- ITS FALSE NEIGHBOUR: 'it returns false'. Refute it at one input. -/
def datasetAlignsWrong : ChangeSpec := { name := "datasetAligns", fn := fun _ => fun
  | [d] => { results := [.lit (.bool false)], args := [d] }
  | _ => none }
def DatasetAlignsWrongFalsely : Prop := datasetAlignsRow.holds Try.pinned (OpenSpec.ofChange datasetAlignsWrong)

/-- 'windbreaklaw15.DatasetRights': WHATEVER THE INPUT: true; the input reads as it did. -/
def datasetRightsSpec : ChangeSpec := { name := "datasetRights", fn := fun _ => fun
  | [d] => { results := [.lit (.bool true)], args := [d] }
  | _ => none }
def datasetRightsRow : OpenClaim := { program := "ytdlkcohfgfnkbaa", sum := "b6ee73ce0376e783d70c9b68a75910f305c1388c6869ed8ae4b4492907d9f907", func := "windbreak/windbreaklaw15.DatasetRights", spec := "datasetRights", unfollowed := true, recurses := true, apart := false }
def DatasetRightsSaid : Prop := datasetRightsRow.holds Try.pinned (OpenSpec.ofChange datasetRightsSpec)

/-- ITS FALSE NEIGHBOUR: 'it returns false'. Refute it at one input. -/
def datasetRightsWrong : ChangeSpec := { name := "datasetRights", fn := fun _ => fun
  | [d] => { results := [.lit (.bool false)], args := [d] }
  | _ => none }
def DatasetRightsWrongFalsely : Prop := datasetRightsRow.holds Try.pinned (OpenSpec.ofChange datasetRightsWrong)

/-- 'windbreaklaw15.DatasetTakes': WHATEVER THE INPUT: true; the input reads as it did. -/
def datasetTakesSpec : ChangeSpec := { name := "datasetTakes", fn := fun _ => fun
  | [d1, d2] => { results := [.lit (.bool true)], args := [d1, d2] }
  | _ => none }
def datasetTakesRow : OpenClaim := { program := "ytdlkcohfgfnkbaa", sum := "b6ee73ce0376e783d70c9b68a75910f305c1388c6869ed8ae4b4492907d9f907", func := "windbreak/windbreaklaw15.DatasetTakes", spec := "datasetTakes", unfollowed := true, recurses := true, apart := false }
def DatasetTakesSaid : Prop := datasetTakesRow.holds Try.pinned (OpenSpec.ofChange datasetTakesSpec)

/-- ITS FALSE NEIGHBOUR: 'it returns false'. Refute it at one input. -/
def datasetTakesWrong : ChangeSpec := { name := "datasetTakes", fn := fun _ => fun
  | [d1, d2] => { results := [.lit (.bool false)], args := [d1, d2] }
  | _ => none }
def DatasetTakesWrongFalsely : Prop := datasetTakesRow.holds Try.pinned (OpenSpec.ofChange datasetTakesWrong)

/-- 'windbreaklaw15.DatasetLefts': WHATEVER THE INPUT: true; the input reads as it did. -/
def datasetLeftsSpec : ChangeSpec := { name := "datasetLefts", fn := fun _ => fun
  | [d1, d2, d3] => { results := [.lit (.bool true)], args := [d1, d2, d3] }
  | _ => none }
def datasetLeftsRow : OpenClaim := { program := "ytdlkcohfgfnkbaa", sum := "b6ee73ce0376e783d70c9b68a75910f305c1388c6869ed8ae4b4492907d9f907", func := "windbreak/windbreaklaw15.DatasetLefts", spec := "datasetLefts", unfollowed := true, recurses := true, apart := false }
def DatasetLeftsSaid : Prop := datasetLeftsRow.holds Try.pinned (OpenSpec.ofChange datasetLeftsSpec)

/-- ITS FALSE NEIGHBOUR: 'it returns false'. Refute it at one input. -/
def datasetLeftsWrong : ChangeSpec := { name := "datasetLefts", fn := fun _ => fun
  | [d1, d2, d3] => { results := [.lit (.bool false)], args := [d1, d2, d3] }
  | _ => none }
def DatasetLeftsWrongFalsely : Prop := datasetLeftsRow.holds Try.pinned (OpenSpec.ofChange datasetLeftsWrong)

/-- 'windbreaklaw15.DatasetJoins': WHATEVER THE INPUT: true; the input reads as it did. -/
def datasetJoinsSpec : ChangeSpec := { name := "datasetJoins", fn := fun _ => fun
  | [d] => { results := [.lit (.bool true)], args := [d] }
  | _ => none }
def datasetJoinsRow : OpenClaim := { program := "ytdlkcohfgfnkbaa", sum := "b6ee73ce0376e783d70c9b68a75910f305c1388c6869ed8ae4b4492907d9f907", func := "windbreak/windbreaklaw15.DatasetJoins", spec := "datasetJoins", unfollowed := true, recurses := true, apart := false }
def DatasetJoinsSaid : Prop := datasetJoinsRow.holds Try.pinned (OpenSpec.ofChange datasetJoinsSpec)

/-- ITS FALSE NEIGHBOUR: 'it returns false'. Refute it at one input. -/
def datasetJoinsWrong : ChangeSpec := { name := "datasetJoins", fn := fun _ => fun
  | [d] => { results := [.lit (.bool false)], args := [d] }
  | _ => none }
def DatasetJoinsWrongFalsely : Prop := datasetJoinsRow.holds Try.pinned (OpenSpec.ofChange datasetJoinsWrong)

/-- 'windbreaklaw15.DatasetMeets': WHATEVER THE INPUT: true; the input reads as it did. -/
def datasetMeetsSpec : ChangeSpec := { name := "datasetMeets", fn := fun _ => fun
  | [d] => { results := [.lit (.bool true)], args := [d] }
  | _ => none }
def datasetMeetsRow : OpenClaim := { program := "ytdlkcohfgfnkbaa", sum := "b6ee73ce0376e783d70c9b68a75910f305c1388c6869ed8ae4b4492907d9f907", func := "windbreak/windbreaklaw15.DatasetMeets", spec := "datasetMeets", unfollowed := true, recurses := true, apart := false }
def DatasetMeetsSaid : Prop := datasetMeetsRow.holds Try.pinned (OpenSpec.ofChange datasetMeetsSpec)

/-- ITS FALSE NEIGHBOUR: 'it returns false'. Refute it at one input. -/
def datasetMeetsWrong : ChangeSpec := { name := "datasetMeets", fn := fun _ => fun
  | [d] => { results := [.lit (.bool false)], args := [d] }
  | _ => none }
def DatasetMeetsWrongFalsely : Prop := datasetMeetsRow.holds Try.pinned (OpenSpec.ofChange datasetMeetsWrong)

/-- 'windbreaklaw15.DatasetCuts': WHATEVER THE INPUT: true; the input reads as it did. -/
def datasetCutsSpec : ChangeSpec := { name := "datasetCuts", fn := fun _ => fun
  | [d1, d2, d3] => { results := [.lit (.bool true)], args := [d1, d2, d3] }
  | _ => none }
def datasetCutsRow : OpenClaim := { program := "ytdlkcohfgfnkbaa", sum := "b6ee73ce0376e783d70c9b68a75910f305c1388c6869ed8ae4b4492907d9f907", func := "windbreak/windbreaklaw15.DatasetCuts", spec := "datasetCuts", unfollowed := true, recurses := true, apart := false }
def DatasetCutsSaid : Prop := datasetCutsRow.holds Try.pinned (OpenSpec.ofChange datasetCutsSpec)

/-- ITS FALSE NEIGHBOUR: 'it returns false'. Refute it at one input. -/
def datasetCutsWrong : ChangeSpec := { name := "datasetCuts", fn := fun _ => fun
  | [d1, d2, d3] => { results := [.lit (.bool false)], args := [d1, d2, d3] }
  | _ => none }
def DatasetCutsWrongFalsely : Prop := datasetCutsRow.holds Try.pinned (OpenSpec.ofChange datasetCutsWrong)

/- THE SECOND FORM. 'bulk': how many values and letters a reading holds, each counted each time it is reached (what is shared counts as often as it is met; a slice's spare places count too). A statement '..UptoSaid' is the law's where the arguments, and the package variables that the reading takes, are together of bulk at most 1048576: NARROWER than '..Said'. Prove '..Said' where nothing that the law and all that it calls make is longer than what came in: it says more and counts as full. Else prove '..UptoSaid'. A law counts once. -/
mutual
def uptoBulk {H : Type} : DataW H → Nat
  | .lit (.string bytes) => bytes.length + 1
  | .lit _ => 1
  | .nil => 1
  | .ptr d => uptoBulk d + 1
  | .slice elems spare => uptoBulkAll elems + uptoBulkAll spare + 1
  | .agg parts => uptoBulkAll parts + 1
  | .iface _ d => uptoBulk d + 1
  | .map entries => uptoBulkEntries entries + 1
  | .held _ => 1
def uptoBulkAll {H : Type} : List (DataW H) → Nat
  | [] => 0
  | d :: r => uptoBulk d + uptoBulkAll r
def uptoBulkEntries {H : Type} : List (Lit × DataW H) → Nat
  | [] => 0
  | x :: r => uptoBulkEntry x + uptoBulkEntries r
def uptoBulkEntry {H : Type} : Lit × DataW H → Nat
  | (.string bytes, d) => bytes.length + uptoBulk d + 1
  | (_, d) => uptoBulk d + 1
 end
def uptoSmall : (H : Type) → List (DataW H) → Bool := fun _ ds => decide (uptoBulkAll ds ≤ 1048576)
def OpenSpec.upto (s : _root_.Go.ChangeSpec) : _root_.Go.OpenSpec := { _root_.Go.OpenSpec.ofChange s with cond := some uptoSmall }

/-- 'windbreaklaw14.BitsetJoins', WHERE WHAT IT READS IS OF BULK AT MOST 1048576: true; the input reads as it did. -/
def bitsetJoinsUptoRow : OpenClaim := { program := "ytdlkcohfgfnkbaa", sum := "b6ee73ce0376e783d70c9b68a75910f305c1388c6869ed8ae4b4492907d9f907", func := "windbreak/windbreaklaw14.BitsetJoins", spec := "bitsetJoins", unfollowed := true, recurses := true, apart := false, narrowed := true }
def BitsetJoinsUptoSaid : Prop := bitsetJoinsUptoRow.holds Try.pinned (OpenSpec.upto bitsetJoinsSpec)

/-- 'windbreaklaw14.BitsetMakes', WHERE WHAT IT READS IS OF BULK AT MOST 1048576: true; the input reads as it did. -/
def bitsetMakesUptoRow : OpenClaim := { program := "ytdlkcohfgfnkbaa", sum := "b6ee73ce0376e783d70c9b68a75910f305c1388c6869ed8ae4b4492907d9f907", func := "windbreak/windbreaklaw14.BitsetMakes", spec := "bitsetMakes", unfollowed := true, recurses := true, apart := false, narrowed := true }
def BitsetMakesUptoSaid : Prop := bitsetMakesUptoRow.holds Try.pinned (OpenSpec.upto bitsetMakesSpec)

/-- 'windbreaklaw14.BitsetParts', WHERE WHAT IT READS IS OF BULK AT MOST 1048576: true; the input reads as it did. -/
def bitsetPartsUptoRow : OpenClaim := { program := "ytdlkcohfgfnkbaa", sum := "b6ee73ce0376e783d70c9b68a75910f305c1388c6869ed8ae4b4492907d9f907", func := "windbreak/windbreaklaw14.BitsetParts", spec := "bitsetParts", unfollowed := true, recurses := true, apart := false, narrowed := true }
def BitsetPartsUptoSaid : Prop := bitsetPartsUptoRow.holds Try.pinned (OpenSpec.upto bitsetPartsSpec)

/-- 'windbreaklaw15.DatasetAligns', WHERE WHAT IT READS IS OF BULK AT MOST 1048576: true; the input reads as it did. -/
def datasetAlignsUptoRow : OpenClaim := { program := "ytdlkcohfgfnkbaa", sum := "b6ee73ce0376e783d70c9b68a75910f305c1388c6869ed8ae4b4492907d9f907", func := "windbreak/windbreaklaw15.DatasetAligns", spec := "datasetAligns", unfollowed := true, recurses := true, apart := false, narrowed := true }
def DatasetAlignsUptoSaid : Prop := datasetAlignsUptoRow.holds Try.pinned (OpenSpec.upto datasetAlignsSpec)

/-- 'windbreaklaw15.DatasetRights', WHERE WHAT IT READS IS OF BULK AT MOST 1048576: true; the input reads as it did. -/
def datasetRightsUptoRow : OpenClaim := { program := "ytdlkcohfgfnkbaa", sum := "b6ee73ce0376e783d70c9b68a75910f305c1388c6869ed8ae4b4492907d9f907", func := "windbreak/windbreaklaw15.DatasetRights", spec := "datasetRights", unfollowed := true, recurses := true, apart := false, narrowed := true }
def DatasetRightsUptoSaid : Prop := datasetRightsUptoRow.holds Try.pinned (OpenSpec.upto datasetRightsSpec)

/-- 'windbreaklaw15.DatasetTakes', WHERE WHAT IT READS IS OF BULK AT MOST 1048576: true; the input reads as it did. -/
def datasetTakesUptoRow : OpenClaim := { program := "ytdlkcohfgfnkbaa", sum := "b6ee73ce0376e783d70c9b68a75910f305c1388c6869ed8ae4b4492907d9f907", func := "windbreak/windbreaklaw15.DatasetTakes", spec := "datasetTakes", unfollowed := true, recurses := true, apart := false, narrowed := true }
def DatasetTakesUptoSaid : Prop := datasetTakesUptoRow.holds Try.pinned (OpenSpec.upto datasetTakesSpec)

/-- 'windbreaklaw15.DatasetLefts', WHERE WHAT IT READS IS OF BULK AT MOST 1048576: true; the input reads as it did. -/
def datasetLeftsUptoRow : OpenClaim := { program := "ytdlkcohfgfnkbaa", sum := "b6ee73ce0376e783d70c9b68a75910f305c1388c6869ed8ae4b4492907d9f907", func := "windbreak/windbreaklaw15.DatasetLefts", spec := "datasetLefts", unfollowed := true, recurses := true, apart := false, narrowed := true }
def DatasetLeftsUptoSaid : Prop := datasetLeftsUptoRow.holds Try.pinned (OpenSpec.upto datasetLeftsSpec)

/-- 'windbreaklaw15.DatasetJoins', WHERE WHAT IT READS IS OF BULK AT MOST 1048576: true; the input reads as it did. -/
def datasetJoinsUptoRow : OpenClaim := { program := "ytdlkcohfgfnkbaa", sum := "b6ee73ce0376e783d70c9b68a75910f305c1388c6869ed8ae4b4492907d9f907", func := "windbreak/windbreaklaw15.DatasetJoins", spec := "datasetJoins", unfollowed := true, recurses := true, apart := false, narrowed := true }
def DatasetJoinsUptoSaid : Prop := datasetJoinsUptoRow.holds Try.pinned (OpenSpec.upto datasetJoinsSpec)

/-- 'windbreaklaw15.DatasetMeets', WHERE WHAT IT READS IS OF BULK AT MOST 1048576: true; the input reads as it did. -/
def datasetMeetsUptoRow : OpenClaim := { program := "ytdlkcohfgfnkbaa", sum := "b6ee73ce0376e783d70c9b68a75910f305c1388c6869ed8ae4b4492907d9f907", func := "windbreak/windbreaklaw15.DatasetMeets", spec := "datasetMeets", unfollowed := true, recurses := true, apart := false, narrowed := true }
def DatasetMeetsUptoSaid : Prop := datasetMeetsUptoRow.holds Try.pinned (OpenSpec.upto datasetMeetsSpec)

/-- 'windbreaklaw15.DatasetCuts', WHERE WHAT IT READS IS OF BULK AT MOST 1048576: true; the input reads as it did. -/
def datasetCutsUptoRow : OpenClaim := { program := "ytdlkcohfgfnkbaa", sum := "b6ee73ce0376e783d70c9b68a75910f305c1388c6869ed8ae4b4492907d9f907", func := "windbreak/windbreaklaw15.DatasetCuts", spec := "datasetCuts", unfollowed := true, recurses := true, apart := false, narrowed := true }
def DatasetCutsUptoSaid : Prop := datasetCutsUptoRow.holds Try.pinned (OpenSpec.upto datasetCutsSpec)

end Rows
end Go.Proofs.Ytdlkcohfgfnkbaa
