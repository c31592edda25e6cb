/- SessionStays as its row asks for it. -/
import Derived.Test.YtfimakplmkbbjaaOa
import Derived.Test.YtfimakplmkbbjaaSs
namespace Go.Proofs.Ytfimakplmkbbjaa.Os
open Go.RowKit Go.Proofs.Ytfimakplmkbbjaa.Oa Go.Proofs.Ytfimakplmkbbjaa.Sd Go.Proofs.Ytfimakplmkbbjaa.Ss
set_option linter.unusedVariables false
theorem stays_row (l : Int × Int × Int) (x : List Ac × Option Addr × Nat) (y : List Ac × Option Addr × Nat) (W : World) (hl : wf l.1 ∧ wf l.2.1 ∧ wf l.2.2) (hx : IsActs W x.2.1 x.2.2 x.1) (hy : IsActs W y.2.1 y.2.2 y.1) :
    Calls Try.prog 5 #[.agg #[.int .i64 l.1, .int .i64 l.2.1, .int .i64 l.2.2], .slice x.2.1 x.1.length x.2.2, .slice y.2.1 y.1.length y.2.2] W fun e W' => e = .returned (.bool true) ∧ Below W.heap.size W W' :=
  stays_calls _ _ _ _ _ _ _ _ _ W hx.reads hx.len hx.good hy.reads hy.len hy.good
end Go.Proofs.Ytfimakplmkbbjaa.Os
