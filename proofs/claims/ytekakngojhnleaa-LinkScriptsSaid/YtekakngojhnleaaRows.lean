/-
  No cell of these rows narrows 'for every input' (looked for: loops, veiled, ifaces, maps, wideKeys, modest, calm, conditions, laid).
  DERIVED. THE GIVEN ROWS OF THIS SEAT. 11 by the template 'for every input the law returns true; each argument reads behind the call as it read before'; 0 by the template 'total and deterministic' (their statements: YtekakngojhnleaaTotals.lean).
  GIVEN WITH THE SEED: the statements are not yours to turn. If you find one false, say at which input.
  Laid BY PROGRAM, IN A SANDBOX (cutbox-rows.mjs): the forced cells as the released guide's own fill.sh prints them over the translation e1ae18b1c9370d91… (all of the seat's roots in one cut). By AI agents, Wed Nov 11 2026. No macro, syntax, notation, axiom, sorry.
-/
import Derived.Test.YtekakngojhnleaaChecked
import GoSem.Claim
import GoSem.ClaimJoined
import GoSem.ClaimMapViews
import Derived.JoinedTies
import Derived.KernelRfl
namespace Go.Proofs.Ytekakngojhnleaa
/- THE CELL 'sum', in the pinned program and in every row, IS THE sha256 OF THE DUMP (.gsa) THAT YtekakngojhnleaaProg.lean LOADS. Nothing in Lean hashes anything: it is a label: what it is worth is what the hold of that sum in a sandbox is worth. -/
noncomputable def Try.pinned : Pinned := { name := "ytekakngojhnleaa", sum := "e1ae18b1c9370d9163bfa010aaac17289cfb4f39beaf1e781eab51e59aaea6e7", checked := Try.checked }
namespace Rows
def none {H : Type} : Left H := { results := [], args := [] }

/-- 'windbreaklaw11.LinkEnds': WHATEVER THE INPUT: true; the input reads as it did. -/
def linkEndsSpec : ChangeSpec := { name := "linkEnds", fn := fun _ => fun
  | [d] => { results := [.lit (.bool true)], args := [d] }
  | _ => none }
def linkEndsRow : OpenClaim := { program := "ytekakngojhnleaa", sum := "e1ae18b1c9370d9163bfa010aaac17289cfb4f39beaf1e781eab51e59aaea6e7", func := "windbreak/windbreaklaw11.LinkEnds", spec := "linkEnds", apart := false }
def LinkEndsSaid : Prop := linkEndsRow.holds Try.pinned (OpenSpec.ofChange linkEndsSpec)

/-- ITS FALSE NEIGHBOUR: 'it returns false'. Refute it at one input. -/
def linkEndsWrong : ChangeSpec := { name := "linkEnds", fn := fun _ => fun
  | [d] => { results := [.lit (.bool false)], args := [d] }
  | _ => none }
def LinkEndsWrongFalsely : Prop := linkEndsRow.holds Try.pinned (OpenSpec.ofChange linkEndsWrong)

/-- 'windbreaklaw10.FrameSums': WHATEVER THE INPUT: true; the input reads as it did. -/
def frameSumsSpec : ChangeSpec := { name := "frameSums", fn := fun _ => fun
  | [d] => { results := [.lit (.bool true)], args := [d] }
  | _ => none }
def frameSumsRow : OpenClaim := { program := "ytekakngojhnleaa", sum := "e1ae18b1c9370d9163bfa010aaac17289cfb4f39beaf1e781eab51e59aaea6e7", func := "windbreak/windbreaklaw10.FrameSums", spec := "frameSums", apart := false }
def FrameSumsSaid : Prop := frameSumsRow.holds Try.pinned (OpenSpec.ofChange frameSumsSpec)

/-- ITS FALSE NEIGHBOUR: 'it returns false'. Refute it at one input. -/
def frameSumsWrong : ChangeSpec := { name := "frameSums", fn := fun _ => fun
  | [d] => { results := [.lit (.bool false)], args := [d] }
  | _ => none }
def FrameSumsWrongFalsely : Prop := frameSumsRow.holds Try.pinned (OpenSpec.ofChange frameSumsWrong)

/-- 'windbreaklaw10.FrameAll': WHATEVER THE INPUT: true; the input reads as it did. -/
def frameAllSpec : ChangeSpec := { name := "frameAll", fn := fun _ => fun
  | [d] => { results := [.lit (.bool true)], args := [d] }
  | _ => none }
def frameAllRow : OpenClaim := { program := "ytekakngojhnleaa", sum := "e1ae18b1c9370d9163bfa010aaac17289cfb4f39beaf1e781eab51e59aaea6e7", func := "windbreak/windbreaklaw10.FrameAll", spec := "frameAll", apart := false }
def FrameAllSaid : Prop := frameAllRow.holds Try.pinned (OpenSpec.ofChange frameAllSpec)

/-- ITS FALSE NEIGHBOUR: 'it returns false'. Refute it at one input. -/
def frameAllWrong : ChangeSpec := { name := "frameAll", fn := fun _ => fun
  | [d] => { results := [.lit (.bool false)], args := [d] }
  | _ => none }
def FrameAllWrongFalsely : Prop := frameAllRow.holds Try.pinned (OpenSpec.ofChange frameAllWrong)

/-- 'windbreaktop.TopLinks': WHATEVER THE INPUT: true; the input reads as it did. -/
def topLinksSpec : ChangeSpec := { name := "topLinks", fn := fun _ => fun
  | [d1, d2, d3] => { results := [.lit (.bool true)], args := [d1, d2, d3] }
  | _ => none }
def topLinksRow : OpenClaim := { program := "ytekakngojhnleaa", sum := "e1ae18b1c9370d9163bfa010aaac17289cfb4f39beaf1e781eab51e59aaea6e7", func := "windbreak/windbreaktop.TopLinks", spec := "topLinks", unfollowed := true, recurses := true, apart := false }
def TopLinksSaid : Prop := topLinksRow.holds Try.pinned (OpenSpec.ofChange topLinksSpec)

/-- ITS FALSE NEIGHBOUR: 'it returns false'. Refute it at one input. -/
def topLinksWrong : ChangeSpec := { name := "topLinks", fn := fun _ => fun
  | [d1, d2, d3] => { results := [.lit (.bool false)], args := [d1, d2, d3] }
  | _ => none }
def TopLinksWrongFalsely : Prop := topLinksRow.holds Try.pinned (OpenSpec.ofChange topLinksWrong)

/-- 'windbreaklaw10.FrameEncodes': WHATEVER THE INPUT: true; the input reads as it did. -/
def frameEncodesSpec : ChangeSpec := { name := "frameEncodes", fn := fun _ => fun
  | [d] => { results := [.lit (.bool true)], args := [d] }
  | _ => none }
def frameEncodesRow : OpenClaim := { program := "ytekakngojhnleaa", sum := "e1ae18b1c9370d9163bfa010aaac17289cfb4f39beaf1e781eab51e59aaea6e7", func := "windbreak/windbreaklaw10.FrameEncodes", spec := "frameEncodes", unfollowed := true, recurses := true, apart := false }
def FrameEncodesSaid : Prop := frameEncodesRow.holds Try.pinned (OpenSpec.ofChange frameEncodesSpec)

/-- ITS FALSE NEIGHBOUR: 'it returns false'. Refute it at one input. -/
def frameEncodesWrong : ChangeSpec := { name := "frameEncodes", fn := fun _ => fun
  | [d] => { results := [.lit (.bool false)], args := [d] }
  | _ => none }
def FrameEncodesWrongFalsely : Prop := frameEncodesRow.holds Try.pinned (OpenSpec.ofChange frameEncodesWrong)

/-- 'windbreaklaw10.FrameDecodes': WHATEVER THE INPUT: true; the input reads as it did. -/
def frameDecodesSpec : ChangeSpec := { name := "frameDecodes", fn := fun _ => fun
  | [d] => { results := [.lit (.bool true)], args := [d] }
  | _ => none }
def frameDecodesRow : OpenClaim := { program := "ytekakngojhnleaa", sum := "e1ae18b1c9370d9163bfa010aaac17289cfb4f39beaf1e781eab51e59aaea6e7", func := "windbreak/windbreaklaw10.FrameDecodes", spec := "frameDecodes", unfollowed := true, recurses := true, apart := false }
def FrameDecodesSaid : Prop := frameDecodesRow.holds Try.pinned (OpenSpec.ofChange frameDecodesSpec)

/-- ITS FALSE NEIGHBOUR: 'it returns false'. Refute it at one input. -/
def frameDecodesWrong : ChangeSpec := { name := "frameDecodes", fn := fun _ => fun
  | [d] => { results := [.lit (.bool false)], args := [d] }
  | _ => none }
def FrameDecodesWrongFalsely : Prop := frameDecodesRow.holds Try.pinned (OpenSpec.ofChange frameDecodesWrong)

/-- 'windbreaklaw10.FrameBack': WHATEVER THE INPUT: true; the input reads as it did. -/
def frameBackSpec : ChangeSpec := { name := "frameBack", fn := fun _ => fun
  | [d] => { results := [.lit (.bool true)], args := [d] }
  | _ => none }
def frameBackRow : OpenClaim := { program := "ytekakngojhnleaa", sum := "e1ae18b1c9370d9163bfa010aaac17289cfb4f39beaf1e781eab51e59aaea6e7", func := "windbreak/windbreaklaw10.FrameBack", spec := "frameBack", unfollowed := true, recurses := true, apart := false }
def FrameBackSaid : Prop := frameBackRow.holds Try.pinned (OpenSpec.ofChange frameBackSpec)

/-- ITS FALSE NEIGHBOUR: 'it returns false'. Refute it at one input. -/
def frameBackWrong : ChangeSpec := { name := "frameBack", fn := fun _ => fun
  | [d] => { results := [.lit (.bool false)], args := [d] }
  | _ => none }
def FrameBackWrongFalsely : Prop := frameBackRow.holds Try.pinned (OpenSpec.ofChange frameBackWrong)

/-- 'windbreaklaw10.FrameTurned': WHATEVER THE INPUT: true; the input reads as it did. -/
def frameTurnedSpec : ChangeSpec := { name := "frameTurned", fn := fun _ => fun
  | [d1, d2] => { results := [.lit (.bool true)], args := [d1, d2] }
  | _ => none }
def frameTurnedRow : OpenClaim := { program := "ytekakngojhnleaa", sum := "e1ae18b1c9370d9163bfa010aaac17289cfb4f39beaf1e781eab51e59aaea6e7", func := "windbreak/windbreaklaw10.FrameTurned", spec := "frameTurned", unfollowed := true, recurses := true, apart := false }
def FrameTurnedSaid : Prop := frameTurnedRow.holds Try.pinned (OpenSpec.ofChange frameTurnedSpec)

/-- ITS FALSE NEIGHBOUR: 'it returns false'. Refute it at one input. -/
def frameTurnedWrong : ChangeSpec := { name := "frameTurned", fn := fun _ => fun
  | [d1, d2] => { results := [.lit (.bool false)], args := [d1, d2] }
  | _ => none }
def FrameTurnedWrongFalsely : Prop := frameTurnedRow.holds Try.pinned (OpenSpec.ofChange frameTurnedWrong)

/-- 'windbreaklaw11.LinkScripts': WHATEVER THE INPUT: true; the input reads as it did. -/
def linkScriptsSpec : ChangeSpec := { name := "linkScripts", fn := fun _ => fun
  | [d1, d2] => { results := [.lit (.bool true)], args := [d1, d2] }
  | _ => none }
def linkScriptsRow : OpenClaim := { program := "ytekakngojhnleaa", sum := "e1ae18b1c9370d9163bfa010aaac17289cfb4f39beaf1e781eab51e59aaea6e7", func := "windbreak/windbreaklaw11.LinkScripts", spec := "linkScripts", unfollowed := true, recurses := true, apart := false }
def LinkScriptsSaid : Prop := linkScriptsRow.holds Try.pinned (OpenSpec.ofChange linkScriptsSpec)

/-- ITS FALSE NEIGHBOUR: 'it returns false'. Refute it at one input. -/
def linkScriptsWrong : ChangeSpec := { name := "linkScripts", fn := fun _ => fun
  | [d1, d2] => { results := [.lit (.bool false)], args := [d1, d2] }
  | _ => none }
def LinkScriptsWrongFalsely : Prop := linkScriptsRow.holds Try.pinned (OpenSpec.ofChange linkScriptsWrong)

/-- 'windbreaklaw11.LinkOrder': WHATEVER THE INPUT: true; the input reads as it did. -/
def linkOrderSpec : ChangeSpec := { name := "linkOrder", fn := fun _ => fun
  | [d1, d2] => { results := [.lit (.bool true)], args := [d1, d2] }
  | _ => none }
def linkOrderRow : OpenClaim := { program := "ytekakngojhnleaa", sum := "e1ae18b1c9370d9163bfa010aaac17289cfb4f39beaf1e781eab51e59aaea6e7", func := "windbreak/windbreaklaw11.LinkOrder", spec := "linkOrder", unfollowed := true, recurses := true, apart := false }
def LinkOrderSaid : Prop := linkOrderRow.holds Try.pinned (OpenSpec.ofChange linkOrderSpec)

/-- ITS FALSE NEIGHBOUR: 'it returns false'. Refute it at one input. -/
def linkOrderWrong : ChangeSpec := { name := "linkOrder", fn := fun _ => fun
  | [d1, d2] => { results := [.lit (.bool false)], args := [d1, d2] }
  | _ => none }
def LinkOrderWrongFalsely : Prop := linkOrderRow.holds Try.pinned (OpenSpec.ofChange linkOrderWrong)

/-- 'windbreaklaw11.LinkArrives': WHATEVER THE INPUT: true; the input reads as it did. -/
def linkArrivesSpec : ChangeSpec := { name := "linkArrives", fn := fun _ => fun
  | [d1, d2] => { results := [.lit (.bool true)], args := [d1, d2] }
  | _ => none }
def linkArrivesRow : OpenClaim := { program := "ytekakngojhnleaa", sum := "e1ae18b1c9370d9163bfa010aaac17289cfb4f39beaf1e781eab51e59aaea6e7", func := "windbreak/windbreaklaw11.LinkArrives", spec := "linkArrives", unfollowed := true, recurses := true, apart := false }
def LinkArrivesSaid : Prop := linkArrivesRow.holds Try.pinned (OpenSpec.ofChange linkArrivesSpec)

/-- ITS FALSE NEIGHBOUR: 'it returns false'. Refute it at one input. -/
def linkArrivesWrong : ChangeSpec := { name := "linkArrives", fn := fun _ => fun
  | [d1, d2] => { results := [.lit (.bool false)], args := [d1, d2] }
  | _ => none }
def LinkArrivesWrongFalsely : Prop := linkArrivesRow.holds Try.pinned (OpenSpec.ofChange linkArrivesWrong)

/- THE SECOND FORM. 'bulk': how many values and letters a reading holds, each counted each time it is reached (what is shared counts as often as it is met; a slice's spare places count too). A statement '..UptoSaid' is the law's where the arguments, and the package variables that the reading takes, are together of bulk at most 1048576: NARROWER than '..Said'. Prove '..Said' where nothing that the law and all that it calls make is longer than what came in: it says more and counts as full. Else prove '..UptoSaid'. A law counts once. -/
mutual
def uptoBulk {H : Type} : DataW H → Nat
  | .lit (.string bytes) => bytes.length + 1
  | .lit _ => 1
  | .nil => 1
  | .ptr d => uptoBulk d + 1
  | .slice elems spare => uptoBulkAll elems + uptoBulkAll spare + 1
  | .agg parts => uptoBulkAll parts + 1
  | .iface _ d => uptoBulk d + 1
  | .map entries => uptoBulkEntries entries + 1
  | .held _ => 1
def uptoBulkAll {H : Type} : List (DataW H) → Nat
  | [] => 0
  | d :: r => uptoBulk d + uptoBulkAll r
def uptoBulkEntries {H : Type} : List (Lit × DataW H) → Nat
  | [] => 0
  | x :: r => uptoBulkEntry x + uptoBulkEntries r
def uptoBulkEntry {H : Type} : Lit × DataW H → Nat
  | (.string bytes, d) => bytes.length + uptoBulk d + 1
  | (_, d) => uptoBulk d + 1
 end
def uptoSmall : (H : Type) → List (DataW H) → Bool := fun _ ds => decide (uptoBulkAll ds ≤ 1048576)
def OpenSpec.upto (s : _root_.Go.ChangeSpec) : _root_.Go.OpenSpec := { _root_.Go.OpenSpec.ofChange s with cond := some uptoSmall }

/-- 'windbreaklaw11.LinkEnds', WHERE WHAT IT READS IS OF BULK AT MOST 1048576: true; the input reads as it did. -/
def linkEndsUptoRow : OpenClaim := { program := "ytekakngojhnleaa", sum := "e1ae18b1c9370d9163bfa010aaac17289cfb4f39beaf1e781eab51e59aaea6e7", func := "windbreak/windbreaklaw11.LinkEnds", spec := "linkEnds", apart := false, narrowed := true }
def LinkEndsUptoSaid : Prop := linkEndsUptoRow.holds Try.pinned (OpenSpec.upto linkEndsSpec)

/-- 'windbreaklaw10.FrameSums', WHERE WHAT IT READS IS OF BULK AT MOST 1048576: true; the input reads as it did. -/
def frameSumsUptoRow : OpenClaim := { program := "ytekakngojhnleaa", sum := "e1ae18b1c9370d9163bfa010aaac17289cfb4f39beaf1e781eab51e59aaea6e7", func := "windbreak/windbreaklaw10.FrameSums", spec := "frameSums", apart := false, narrowed := true }
def FrameSumsUptoSaid : Prop := frameSumsUptoRow.holds Try.pinned (OpenSpec.upto frameSumsSpec)

/-- 'windbreaklaw10.FrameAll', WHERE WHAT IT READS IS OF BULK AT MOST 1048576: true; the input reads as it did. -/
def frameAllUptoRow : OpenClaim := { program := "ytekakngojhnleaa", sum := "e1ae18b1c9370d9163bfa010aaac17289cfb4f39beaf1e781eab51e59aaea6e7", func := "windbreak/windbreaklaw10.FrameAll", spec := "frameAll", apart := false, narrowed := true }
def FrameAllUptoSaid : Prop := frameAllUptoRow.holds Try.pinned (OpenSpec.upto frameAllSpec)

/-- 'windbreaktop.TopLinks', WHERE WHAT IT READS IS OF BULK AT MOST 1048576: true; the input reads as it did. -/
def topLinksUptoRow : OpenClaim := { program := "ytekakngojhnleaa", sum := "e1ae18b1c9370d9163bfa010aaac17289cfb4f39beaf1e781eab51e59aaea6e7", func := "windbreak/windbreaktop.TopLinks", spec := "topLinks", unfollowed := true, recurses := true, apart := false, narrowed := true }
def TopLinksUptoSaid : Prop := topLinksUptoRow.holds Try.pinned (OpenSpec.upto topLinksSpec)

/-- 'windbreaklaw10.FrameEncodes', WHERE WHAT IT READS IS OF BULK AT MOST 1048576: true; the input reads as it did. -/
def frameEncodesUptoRow : OpenClaim := { program := "ytekakngojhnleaa", sum := "e1ae18b1c9370d9163bfa010aaac17289cfb4f39beaf1e781eab51e59aaea6e7", func := "windbreak/windbreaklaw10.FrameEncodes", spec := "frameEncodes", unfollowed := true, recurses := true, apart := false, narrowed := true }
def FrameEncodesUptoSaid : Prop := frameEncodesUptoRow.holds Try.pinned (OpenSpec.upto frameEncodesSpec)

/-- 'windbreaklaw10.FrameDecodes', WHERE WHAT IT READS IS OF BULK AT MOST 1048576: true; the input reads as it did. -/
def frameDecodesUptoRow : OpenClaim := { program := "ytekakngojhnleaa", sum := "e1ae18b1c9370d9163bfa010aaac17289cfb4f39beaf1e781eab51e59aaea6e7", func := "windbreak/windbreaklaw10.FrameDecodes", spec := "frameDecodes", unfollowed := true, recurses := true, apart := false, narrowed := true }
def FrameDecodesUptoSaid : Prop := frameDecodesUptoRow.holds Try.pinned (OpenSpec.upto frameDecodesSpec)

/-- 'windbreaklaw10.FrameBack', WHERE WHAT IT READS IS OF BULK AT MOST 1048576: true; the input reads as it did. -/
def frameBackUptoRow : OpenClaim := { program := "ytekakngojhnleaa", sum := "e1ae18b1c9370d9163bfa010aaac17289cfb4f39beaf1e781eab51e59aaea6e7", func := "windbreak/windbreaklaw10.FrameBack", spec := "frameBack", unfollowed := true, recurses := true, apart := false, narrowed := true }
def FrameBackUptoSaid : Prop := frameBackUptoRow.holds Try.pinned (OpenSpec.upto frameBackSpec)

/-- 'windbreaklaw10.FrameTurned', WHERE WHAT IT READS IS OF BULK AT MOST 1048576: true; the input reads as it did. -/
def frameTurnedUptoRow : OpenClaim := { program := "ytekakngojhnleaa", sum := "e1ae18b1c9370d9163bfa010aaac17289cfb4f39beaf1e781eab51e59aaea6e7", func := "windbreak/windbreaklaw10.FrameTurned", spec := "frameTurned", unfollowed := true, recurses := true, apart := false, narrowed := true }
def FrameTurnedUptoSaid : Prop := frameTurnedUptoRow.holds Try.pinned (OpenSpec.upto frameTurnedSpec)

/-- 'windbreaklaw11.LinkScripts', WHERE WHAT IT READS IS OF BULK AT MOST 1048576: true; the input reads as it did. -/
def linkScriptsUptoRow : OpenClaim := { program := "ytekakngojhnleaa", sum := "e1ae18b1c9370d9163bfa010aaac17289cfb4f39beaf1e781eab51e59aaea6e7", func := "windbreak/windbreaklaw11.LinkScripts", spec := "linkScripts", unfollowed := true, recurses := true, apart := false, narrowed := true }
def LinkScriptsUptoSaid : Prop := linkScriptsUptoRow.holds Try.pinned (OpenSpec.upto linkScriptsSpec)

/-- 'windbreaklaw11.LinkOrder', WHERE WHAT IT READS IS OF BULK AT MOST 1048576: true; the input reads as it did. -/
def linkOrderUptoRow : OpenClaim := { program := "ytekakngojhnleaa", sum := "e1ae18b1c9370d9163bfa010aaac17289cfb4f39beaf1e781eab51e59aaea6e7", func := "windbreak/windbreaklaw11.LinkOrder", spec := "linkOrder", unfollowed := true, recurses := true, apart := false, narrowed := true }
def LinkOrderUptoSaid : Prop := linkOrderUptoRow.holds Try.pinned (OpenSpec.upto linkOrderSpec)

/-- 'windbreaklaw11.LinkArrives', WHERE WHAT IT READS IS OF BULK AT MOST 1048576: true; the input reads as it did. -/
def linkArrivesUptoRow : OpenClaim := { program := "ytekakngojhnleaa", sum := "e1ae18b1c9370d9163bfa010aaac17289cfb4f39beaf1e781eab51e59aaea6e7", func := "windbreak/windbreaklaw11.LinkArrives", spec := "linkArrives", unfollowed := true, recurses := true, apart := false, narrowed := true }
def LinkArrivesUptoSaid : Prop := linkArrivesUptoRow.holds Try.pinned (OpenSpec.upto linkArrivesSpec)

end Rows
end Go.Proofs.Ytekakngojhnleaa
