/-
  No cell of these rows narrows 'for every input' (looked for: loops, veiled, ifaces, maps, wideKeys, modest, calm, conditions, laid).
  DERIVED. THE GIVEN ROWS OF THIS SEAT. 3 by the template 'for every input the law returns true; each argument reads behind the call as it read before'; 0 by the template 'total and deterministic' (their statements: YtfimakplmkbbjaaTotals.lean).
  GIVEN WITH THE SEED: the statements are not yours to turn. If you find one false, say at which input.
  Laid BY PROGRAM, IN A SANDBOX (cutbox-rows.mjs): the forced cells as the released guide's own fill.sh prints them over the translation d1c7c6af449c8bcd… (all of the seat's roots in one cut). By AI agents, Wed Nov 11 2026. No macro, syntax, notation, axiom, sorry.
-/
import Derived.Test.YtfimakplmkbbjaaChecked
import GoSem.Claim
import GoSem.ClaimJoined
import GoSem.ClaimMapViews
import Derived.JoinedTies
import Derived.KernelRfl
namespace Go.Proofs.Ytfimakplmkbbjaa
/- THE CELL 'sum', in the pinned program and in every row, IS THE sha256 OF THE DUMP (.gsa) THAT YtfimakplmkbbjaaProg.lean LOADS. Nothing in Lean hashes anything: it is a label: what it is worth is what the hold of that sum in a sandbox is worth. -/
noncomputable def Try.pinned : Pinned := { name := "ytfimakplmkbbjaa", sum := "d1c7c6af449c8bcdd87a0d7a7b4ce4248c45bf036501b445015e2056d8f87b2d", checked := Try.checked }
namespace Rows
def none {H : Type} : Left H := { results := [], args := [] }

/-- 'windbreaklaw13.SessionPatience': WHATEVER THE INPUT: true; the input reads as it did. -/
def sessionPatienceSpec : ChangeSpec := { name := "sessionPatience", fn := fun _ => fun
  | [d1, d2, d3] => { results := [.lit (.bool true)], args := [d1, d2, d3] }
  | _ => none }
def sessionPatienceRow : OpenClaim := { program := "ytfimakplmkbbjaa", sum := "d1c7c6af449c8bcdd87a0d7a7b4ce4248c45bf036501b445015e2056d8f87b2d", func := "windbreak/windbreaklaw13.SessionPatience", spec := "sessionPatience", unfollowed := true, recurses := true, apart := false }
def SessionPatienceSaid : Prop := sessionPatienceRow.holds Try.pinned (OpenSpec.ofChange sessionPatienceSpec)

/-- ITS FALSE NEIGHBOUR: 'it returns false'. Refute it at one input. -/
def sessionPatienceWrong : ChangeSpec := { name := "sessionPatience", fn := fun _ => fun
  | [d1, d2, d3] => { results := [.lit (.bool false)], args := [d1, d2, d3] }
  | _ => none }
def SessionPatienceWrongFalsely : Prop := sessionPatienceRow.holds Try.pinned (OpenSpec.ofChange sessionPatienceWrong)

/-- 'windbreaklaw13.SessionScripts': WHATEVER THE INPUT: true; the input reads as it did. -/
def sessionScriptsSpec : ChangeSpec := { name := "sessionScripts", fn := fun _ => fun
  | [d1, d2] => { results := [.lit (.bool true)], args := [d1, d2] }
  | _ => none }
def sessionScriptsRow : OpenClaim := { program := "ytfimakplmkbbjaa", sum := "d1c7c6af449c8bcdd87a0d7a7b4ce4248c45bf036501b445015e2056d8f87b2d", func := "windbreak/windbreaklaw13.SessionScripts", spec := "sessionScripts", unfollowed := true, recurses := true, apart := false }
def SessionScriptsSaid : Prop := sessionScriptsRow.holds Try.pinned (OpenSpec.ofChange sessionScriptsSpec)

/-- ITS FALSE NEIGHBOUR: 'it returns false'. Refute it at one input. -/
def sessionScriptsWrong : ChangeSpec := { name := "sessionScripts", fn := fun _ => fun
  | [d1, d2] => { results := [.lit (.bool false)], args := [d1, d2] }
  | _ => none }
def SessionScriptsWrongFalsely : Prop := sessionScriptsRow.holds Try.pinned (OpenSpec.ofChange sessionScriptsWrong)

/-- 'windbreaklaw13.SessionStays': WHATEVER THE INPUT: true; the input reads as it did. -/
def sessionStaysSpec : ChangeSpec := { name := "sessionStays", fn := fun _ => fun
  | [d1, d2, d3] => { results := [.lit (.bool true)], args := [d1, d2, d3] }
  | _ => none }
def sessionStaysRow : OpenClaim := { program := "ytfimakplmkbbjaa", sum := "d1c7c6af449c8bcdd87a0d7a7b4ce4248c45bf036501b445015e2056d8f87b2d", func := "windbreak/windbreaklaw13.SessionStays", spec := "sessionStays", unfollowed := true, recurses := true, apart := false }
def SessionStaysSaid : Prop := sessionStaysRow.holds Try.pinned (OpenSpec.ofChange sessionStaysSpec)

/-- ITS FALSE NEIGHBOUR: 'it returns false'. Refute it at one input. -/
def sessionStaysWrong : ChangeSpec := { name := "sessionStays", fn := fun _ => fun
  | [d1, d2, d3] => { results := [.lit (.bool false)], args := [d1, d2, d3] }
  | _ => none }
def SessionStaysWrongFalsely : Prop := sessionStaysRow.holds Try.pinned (OpenSpec.ofChange sessionStaysWrong)

/- THE SECOND FORM. 'bulk': how many values and letters a reading holds, each counted each time it is reached (what is shared counts as often as it is met; a slice's spare places count too). A statement '..UptoSaid' is the law's where the arguments, and the package variables that the reading takes, are together of bulk at most 1048576: NARROWER than '..Said'. Prove '..Said' where nothing that the law and all that it calls make is longer than what came in: it says more and counts as full. Else prove '..UptoSaid'. A law counts once. -/
mutual
def uptoBulk {H : Type} : DataW H → Nat
  | .lit (.string bytes) => bytes.length + 1
  | .lit _ => 1
  | .nil => 1
  | .ptr d => uptoBulk d + 1
  | .slice elems spare => uptoBulkAll elems + uptoBulkAll spare + 1
  | .agg parts => uptoBulkAll parts + 1
  | .iface _ d => uptoBulk d + 1
  | .map entries => uptoBulkEntries entries + 1
  | .held _ => 1
def uptoBulkAll {H : Type} : List (DataW H) → Nat
  | [] => 0
  | d :: r => uptoBulk d + uptoBulkAll r
def uptoBulkEntries {H : Type} : List (Lit × DataW H) → Nat
  | [] => 0
  | x :: r => uptoBulkEntry x + uptoBulkEntries r
def uptoBulkEntry {H : Type} : Lit × DataW H → Nat
  | (.string bytes, d) => bytes.length + uptoBulk d + 1
  | (_, d) => uptoBulk d + 1
 end
def uptoSmall : (H : Type) → List (DataW H) → Bool := fun _ ds => decide (uptoBulkAll ds ≤ 1048576)
def OpenSpec.upto (s : _root_.Go.ChangeSpec) : _root_.Go.OpenSpec := { _root_.Go.OpenSpec.ofChange s with cond := some uptoSmall }

/-- 'windbreaklaw13.SessionPatience', WHERE WHAT IT READS IS OF BULK AT MOST 1048576: true; the input reads as it did. -/
def sessionPatienceUptoRow : OpenClaim := { program := "ytfimakplmkbbjaa", sum := "d1c7c6af449c8bcdd87a0d7a7b4ce4248c45bf036501b445015e2056d8f87b2d", func := "windbreak/windbreaklaw13.SessionPatience", spec := "sessionPatience", unfollowed := true, recurses := true, apart := false, narrowed := true }
def SessionPatienceUptoSaid : Prop := sessionPatienceUptoRow.holds Try.pinned (OpenSpec.upto sessionPatienceSpec)

/-- 'windbreaklaw13.SessionScripts', WHERE WHAT IT READS IS OF BULK AT MOST 1048576: true; the input reads as it did. -/
def sessionScriptsUptoRow : OpenClaim := { program := "ytfimakplmkbbjaa", sum := "d1c7c6af449c8bcdd87a0d7a7b4ce4248c45bf036501b445015e2056d8f87b2d", func := "windbreak/windbreaklaw13.SessionScripts", spec := "sessionScripts", unfollowed := true, recurses := true, apart := false, narrowed := true }
def SessionScriptsUptoSaid : Prop := sessionScriptsUptoRow.holds Try.pinned (OpenSpec.upto sessionScriptsSpec)

/-- 'windbreaklaw13.SessionStays', WHERE WHAT IT READS IS OF BULK AT MOST 1048576: true; the input reads as it did. -/
def sessionStaysUptoRow : OpenClaim := { program := "ytfimakplmkbbjaa", sum := "d1c7c6af449c8bcdd87a0d7a7b4ce4248c45bf036501b445015e2056d8f87b2d", func := "windbreak/windbreaklaw13.SessionStays", spec := "sessionStays", unfollowed := true, recurses := true, apart := false, narrowed := true }
def SessionStaysUptoSaid : Prop := sessionStaysUptoRow.holds Try.pinned (OpenSpec.upto sessionStaysSpec)

end Rows
end Go.Proofs.Ytfimakplmkbbjaa
