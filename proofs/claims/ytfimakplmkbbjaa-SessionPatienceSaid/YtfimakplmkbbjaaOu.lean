/- SessionPatience as its row asks for it. -/
import Derived.Test.YtfimakplmkbbjaaOa
import Derived.Test.YtfimakplmkbbjaaSu
namespace Go.Proofs.Ytfimakplmkbbjaa.Ou
open Go.RowKit Go.Proofs.Ytfimakplmkbbjaa.Oa Go.Proofs.Ytfimakplmkbbjaa.Sd Go.Proofs.Ytfimakplmkbbjaa.Su
set_option linter.unusedVariables false
theorem patience_row (l : Int × Int × Int) (x : List Ac × Option Addr × Nat) (peer : Int) (W : World) (hl : wf l.1 ∧ wf l.2.1 ∧ wf l.2.2) (hx : IsActs W x.2.1 x.2.2 x.1) (hp : (Lit.int .i64 peer).wf = true) :
    Calls Try.prog 3 #[.agg #[.int .i64 l.1, .int .i64 l.2.1, .int .i64 l.2.2], .slice x.2.1 x.1.length x.2.2, .int .i64 peer] W fun e W' => e = .returned (.bool true) ∧ Below W.heap.size W W' :=
  patience_calls _ _ _ _ _ _ _ W hx.reads hx.len hx.good hp
end Go.Proofs.Ytfimakplmkbbjaa.Ou
