/-
  No cell of these rows narrows 'for every input' (looked for: loops, veiled, ifaces, maps, wideKeys, modest, calm, conditions, laid).
  DERIVED. THE GIVEN ROWS OF THIS SEAT. 7 by the template 'for every input the law returns true; each argument reads behind the call as it read before'; 0 by the template 'total and deterministic' (their statements: YtkdelfpjaaemnaaTotals.lean).
  GIVEN WITH THE SEED: the statements are not yours to turn. If you find one false, say at which input.
  Laid BY PROGRAM, IN A SANDBOX (cutbox-rows.mjs): the forced cells as the released guide's own fill.sh prints them over the translation dcaac7b521213546… (all of the seat's roots in one cut). By AI agents, Wed Nov 11 2026. No macro, syntax, notation, axiom, sorry.
-/
import Derived.Test.YtkdelfpjaaemnaaChecked
import GoSem.Claim
import GoSem.ClaimJoined
import GoSem.ClaimMapViews
import Derived.JoinedTies
import Derived.KernelRfl
namespace Go.Proofs.Ytkdelfpjaaemnaa
/- THE CELL 'sum', in the pinned program and in every row, IS THE sha256 OF THE DUMP (.gsa) THAT YtkdelfpjaaemnaaProg.lean LOADS. Nothing in Lean hashes anything: it is a label: what it is worth is what the hold of that sum in a sandbox is worth. -/
noncomputable def Try.pinned : Pinned := { name := "ytkdelfpjaaemnaa", sum := "dcaac7b521213546999b8e7b8007eb13652cfa671a91d2c1cdcc658c7f79e1c9", checked := Try.checked }
namespace Rows
def none {H : Type} : Left H := { results := [], args := [] }

/-- 'windbreaklaw09.CodecNumbers': WHATEVER THE INPUT: true; the input reads as it did. -/
def codecNumbersSpec : ChangeSpec := { name := "codecNumbers", fn := fun _ => fun
  | [d] => { results := [.lit (.bool true)], args := [d] }
  | _ => none }
def codecNumbersRow : OpenClaim := { program := "ytkdelfpjaaemnaa", sum := "dcaac7b521213546999b8e7b8007eb13652cfa671a91d2c1cdcc658c7f79e1c9", func := "windbreak/windbreaklaw09.CodecNumbers", spec := "codecNumbers", apart := false }
def CodecNumbersSaid : Prop := codecNumbersRow.holds Try.pinned (OpenSpec.ofChange codecNumbersSpec)

/-- ITS FALSE NEIGHBOUR: 'it returns false'. Refute it at one input. -/
def codecNumbersWrong : ChangeSpec := { name := "codecNumbers", fn := fun _ => fun
  | [d] => { results := [.lit (.bool false)], args := [d] }
  | _ => none }
def CodecNumbersWrongFalsely : Prop := codecNumbersRow.holds Try.pinned (OpenSpec.ofChange codecNumbersWrong)

/-- 'windbreaklaw09.CodecInts': WHATEVER THE INPUT: true; the input reads as it did. -/
def codecIntsSpec : ChangeSpec := { name := "codecInts", fn := fun _ => fun
  | [d] => { results := [.lit (.bool true)], args := [d] }
  | _ => none }
def codecIntsRow : OpenClaim := { program := "ytkdelfpjaaemnaa", sum := "dcaac7b521213546999b8e7b8007eb13652cfa671a91d2c1cdcc658c7f79e1c9", func := "windbreak/windbreaklaw09.CodecInts", spec := "codecInts", apart := false }
def CodecIntsSaid : Prop := codecIntsRow.holds Try.pinned (OpenSpec.ofChange codecIntsSpec)

/-- ITS FALSE NEIGHBOUR: 'it returns false'. Refute it at one input. -/
def codecIntsWrong : ChangeSpec := { name := "codecInts", fn := fun _ => fun
  | [d] => { results := [.lit (.bool false)], args := [d] }
  | _ => none }
def CodecIntsWrongFalsely : Prop := codecIntsRow.holds Try.pinned (OpenSpec.ofChange codecIntsWrong)

/-- 'windbreaklaw09.CodecBytes': WHATEVER THE INPUT: true; the input reads as it did. -/
def codecBytesSpec : ChangeSpec := { name := "codecBytes", fn := fun _ => fun
  | [d] => { results := [.lit (.bool true)], args := [d] }
  | _ => none }
def codecBytesRow : OpenClaim := { program := "ytkdelfpjaaemnaa", sum := "dcaac7b521213546999b8e7b8007eb13652cfa671a91d2c1cdcc658c7f79e1c9", func := "windbreak/windbreaklaw09.CodecBytes", spec := "codecBytes", apart := false }
def CodecBytesSaid : Prop := codecBytesRow.holds Try.pinned (OpenSpec.ofChange codecBytesSpec)

/-- ITS FALSE NEIGHBOUR: 'it returns false'. Refute it at one input. -/
def codecBytesWrong : ChangeSpec := { name := "codecBytes", fn := fun _ => fun
  | [d] => { results := [.lit (.bool false)], args := [d] }
  | _ => none }
def CodecBytesWrongFalsely : Prop := codecBytesRow.holds Try.pinned (OpenSpec.ofChange codecBytesWrong)

/-- 'windbreaklaw09.CodecBack': WHATEVER THE INPUT: true; the input reads as it did. -/
def codecBackSpec : ChangeSpec := { name := "codecBack", fn := fun _ => fun
  | [d1, d2] => { results := [.lit (.bool true)], args := [d1, d2] }
  | _ => none }
def codecBackRow : OpenClaim := { program := "ytkdelfpjaaemnaa", sum := "dcaac7b521213546999b8e7b8007eb13652cfa671a91d2c1cdcc658c7f79e1c9", func := "windbreak/windbreaklaw09.CodecBack", spec := "codecBack", apart := false }
def CodecBackSaid : Prop := codecBackRow.holds Try.pinned (OpenSpec.ofChange codecBackSpec)

/-- ITS FALSE NEIGHBOUR: 'it returns false'. Refute it at one input. -/
def codecBackWrong : ChangeSpec := { name := "codecBack", fn := fun _ => fun
  | [d1, d2] => { results := [.lit (.bool false)], args := [d1, d2] }
  | _ => none }
def CodecBackWrongFalsely : Prop := codecBackRow.holds Try.pinned (OpenSpec.ofChange codecBackWrong)

/-- 'windbreaklaw09.CodecAgain': WHATEVER THE INPUT: true; the input reads as it did. -/
def codecAgainSpec : ChangeSpec := { name := "codecAgain", fn := fun _ => fun
  | [d] => { results := [.lit (.bool true)], args := [d] }
  | _ => none }
def codecAgainRow : OpenClaim := { program := "ytkdelfpjaaemnaa", sum := "dcaac7b521213546999b8e7b8007eb13652cfa671a91d2c1cdcc658c7f79e1c9", func := "windbreak/windbreaklaw09.CodecAgain", spec := "codecAgain", apart := false }
def CodecAgainSaid : Prop := codecAgainRow.holds Try.pinned (OpenSpec.ofChange codecAgainSpec)

/-- ITS FALSE NEIGHBOUR: 'it returns false'. Refute it at one input. -/
def codecAgainWrong : ChangeSpec := { name := "codecAgain", fn := fun _ => fun
  | [d] => { results := [.lit (.bool false)], args := [d] }
  | _ => none }
def CodecAgainWrongFalsely : Prop := codecAgainRow.holds Try.pinned (OpenSpec.ofChange codecAgainWrong)

/-- 'windbreaklaw09.CodecReads': WHATEVER THE INPUT: true; the input reads as it did. -/
def codecReadsSpec : ChangeSpec := { name := "codecReads", fn := fun _ => fun
  | [d1, d2] => { results := [.lit (.bool true)], args := [d1, d2] }
  | _ => none }
def codecReadsRow : OpenClaim := { program := "ytkdelfpjaaemnaa", sum := "dcaac7b521213546999b8e7b8007eb13652cfa671a91d2c1cdcc658c7f79e1c9", func := "windbreak/windbreaklaw09.CodecReads", spec := "codecReads", apart := false }
def CodecReadsSaid : Prop := codecReadsRow.holds Try.pinned (OpenSpec.ofChange codecReadsSpec)

/-- ITS FALSE NEIGHBOUR: 'it returns false'. Refute it at one input. -/
def codecReadsWrong : ChangeSpec := { name := "codecReads", fn := fun _ => fun
  | [d1, d2] => { results := [.lit (.bool false)], args := [d1, d2] }
  | _ => none }
def CodecReadsWrongFalsely : Prop := codecReadsRow.holds Try.pinned (OpenSpec.ofChange codecReadsWrong)

/-- 'windbreaklaw09.CodecSame': WHATEVER THE INPUT: true; the input reads as it did. -/
def codecSameSpec : ChangeSpec := { name := "codecSame", fn := fun _ => fun
  | [d1, d2] => { results := [.lit (.bool true)], args := [d1, d2] }
  | _ => none }
def codecSameRow : OpenClaim := { program := "ytkdelfpjaaemnaa", sum := "dcaac7b521213546999b8e7b8007eb13652cfa671a91d2c1cdcc658c7f79e1c9", func := "windbreak/windbreaklaw09.CodecSame", spec := "codecSame", apart := false }
def CodecSameSaid : Prop := codecSameRow.holds Try.pinned (OpenSpec.ofChange codecSameSpec)

/-- ITS FALSE NEIGHBOUR: 'it returns false'. Refute it at one input. -/
def codecSameWrong : ChangeSpec := { name := "codecSame", fn := fun _ => fun
  | [d1, d2] => { results := [.lit (.bool false)], args := [d1, d2] }
  | _ => none }
def CodecSameWrongFalsely : Prop := codecSameRow.holds Try.pinned (OpenSpec.ofChange codecSameWrong)

/- THE SECOND FORM. 'bulk': how many values and letters a reading holds, each counted each time it is reached (what is shared counts as often as it is met; a slice's spare places count too). A statement '..UptoSaid' is the law's where the arguments, and the package variables that the reading takes, are together of bulk at most 1048576: NARROWER than '..Said'. Prove '..Said' where nothing that the law and all that it calls make is longer than what came in: it says more and counts as full. Else prove '..UptoSaid'. A law counts once. -/
mutual
def uptoBulk {H : Type} : DataW H → Nat
  | .lit (.string bytes) => bytes.length + 1
  | .lit _ => 1
  | .nil => 1
  | .ptr d => uptoBulk d + 1
  | .slice elems spare => uptoBulkAll elems + uptoBulkAll spare + 1
  | .agg parts => uptoBulkAll parts + 1
  | .iface _ d => uptoBulk d + 1
  | .map entries => uptoBulkEntries entries + 1
  | .held _ => 1
def uptoBulkAll {H : Type} : List (DataW H) → Nat
  | [] => 0
  | d :: r => uptoBulk d + uptoBulkAll r
def uptoBulkEntries {H : Type} : List (Lit × DataW H) → Nat
  | [] => 0
  | x :: r => uptoBulkEntry x + uptoBulkEntries r
def uptoBulkEntry {H : Type} : Lit × DataW H → Nat
  | (.string bytes, d) => bytes.length + uptoBulk d + 1
  | (_, d) => uptoBulk d + 1
 end
def uptoSmall : (H : Type) → List (DataW H) → Bool := fun _ ds => decide (uptoBulkAll ds ≤ 1048576)
def OpenSpec.upto (s : _root_.Go.ChangeSpec) : _root_.Go.OpenSpec := { _root_.Go.OpenSpec.ofChange s with cond := some uptoSmall }

/-- 'windbreaklaw09.CodecNumbers', WHERE WHAT IT READS IS OF BULK AT MOST 1048576: true; the input reads as it did. -/
def codecNumbersUptoRow : OpenClaim := { program := "ytkdelfpjaaemnaa", sum := "dcaac7b521213546999b8e7b8007eb13652cfa671a91d2c1cdcc658c7f79e1c9", func := "windbreak/windbreaklaw09.CodecNumbers", spec := "codecNumbers", apart := false, narrowed := true }
def CodecNumbersUptoSaid : Prop := codecNumbersUptoRow.holds Try.pinned (OpenSpec.upto codecNumbersSpec)

/-- 'windbreaklaw09.CodecInts', WHERE WHAT IT READS IS OF BULK AT MOST 1048576: true; the input reads as it did. -/
def codecIntsUptoRow : OpenClaim := { program := "ytkdelfpjaaemnaa", sum := "dcaac7b521213546999b8e7b8007eb13652cfa671a91d2c1cdcc658c7f79e1c9", func := "windbreak/windbreaklaw09.CodecInts", spec := "codecInts", apart := false, narrowed := true }
def CodecIntsUptoSaid : Prop := codecIntsUptoRow.holds Try.pinned (OpenSpec.upto codecIntsSpec)

/-- 'windbreaklaw09.CodecBytes', WHERE WHAT IT READS IS OF BULK AT MOST 1048576: true; the input reads as it did. -/
def codecBytesUptoRow : OpenClaim := { program := "ytkdelfpjaaemnaa", sum := "dcaac7b521213546999b8e7b8007eb13652cfa671a91d2c1cdcc658c7f79e1c9", func := "windbreak/windbreaklaw09.CodecBytes", spec := "codecBytes", apart := false, narrowed := true }
def CodecBytesUptoSaid : Prop := codecBytesUptoRow.holds Try.pinned (OpenSpec.upto codecBytesSpec)

/-- 'windbreaklaw09.CodecBack', WHERE WHAT IT READS IS OF BULK AT MOST 1048576: true; the input reads as it did. -/
def codecBackUptoRow : OpenClaim := { program := "ytkdelfpjaaemnaa", sum := "dcaac7b521213546999b8e7b8007eb13652cfa671a91d2c1cdcc658c7f79e1c9", func := "windbreak/windbreaklaw09.CodecBack", spec := "codecBack", apart := false, narrowed := true }
def CodecBackUptoSaid : Prop := codecBackUptoRow.holds Try.pinned (OpenSpec.upto codecBackSpec)

/-- 'windbreaklaw09.CodecAgain', WHERE WHAT IT READS IS OF BULK AT MOST 1048576: true; the input reads as it did. -/
def codecAgainUptoRow : OpenClaim := { program := "ytkdelfpjaaemnaa", sum := "dcaac7b521213546999b8e7b8007eb13652cfa671a91d2c1cdcc658c7f79e1c9", func := "windbreak/windbreaklaw09.CodecAgain", spec := "codecAgain", apart := false, narrowed := true }
def CodecAgainUptoSaid : Prop := codecAgainUptoRow.holds Try.pinned (OpenSpec.upto codecAgainSpec)

/-- 'windbreaklaw09.CodecReads', WHERE WHAT IT READS IS OF BULK AT MOST 1048576: true; the input reads as it did. -/
def codecReadsUptoRow : OpenClaim := { program := "ytkdelfpjaaemnaa", sum := "dcaac7b521213546999b8e7b8007eb13652cfa671a91d2c1cdcc658c7f79e1c9", func := "windbreak/windbreaklaw09.CodecReads", spec := "codecReads", apart := false, narrowed := true }
def CodecReadsUptoSaid : Prop := codecReadsUptoRow.holds Try.pinned (OpenSpec.upto codecReadsSpec)

/-- 'windbreaklaw09.CodecSame', WHERE WHAT IT READS IS OF BULK AT MOST 1048576: true; the input reads as it did. -/
def codecSameUptoRow : OpenClaim := { program := "ytkdelfpjaaemnaa", sum := "dcaac7b521213546999b8e7b8007eb13652cfa671a91d2c1cdcc658c7f79e1c9", func := "windbreak/windbreaklaw09.CodecSame", spec := "codecSame", apart := false, narrowed := true }
def CodecSameUptoSaid : Prop := codecSameUptoRow.holds Try.pinned (OpenSpec.upto codecSameSpec)

end Rows
end Go.Proofs.Ytkdelfpjaaemnaa
