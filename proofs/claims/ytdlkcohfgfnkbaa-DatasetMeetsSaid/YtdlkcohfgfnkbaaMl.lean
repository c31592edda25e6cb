/- DatasetMeets: how an argument that is tables is opened. -/
import Derived.Test.YtdlkcohfgfnkbaaMe
import Derived.Test.YtdlkcohfgfnkbaaJl
namespace Go.Proofs.Ytdlkcohfgfnkbaa.Me
open Go.ChangeShapes Go.WideShapes Go.RowKit Go.Proofs.Ytdlkcohfgfnkbaa.PDatasetJoins Go.Proofs.Ytdlkcohfgfnkbaa.Tp Go.Proofs.Ytdlkcohfgfnkbaa.Jt Go.Proofs.YtdlkcohfgfnkbaaW.PrintWords
set_option linter.unusedVariables false
set_option maxRecDepth 100000 in
theorem open_tabs (j : Nat) {H : Type} {enc : TypeId × Value → H} {W : World} {base r0 : Nat} {r : Reach} {spare : Nat → Bool} {held : Bool} {ts : List TypeId} {ds : List (DataW H)} {dd : DataW H} {p : List MemPlace} (hj : ts[j]? = some 51) (hd : ds[j]? = some dd)
    {v : Value} (hv : Value.okWide Try.prog W r r0 51 v) (h : DataW.Trod enc Try.prog W base spare held 51 v dd p) (hsz : (DataW.weightsEach Try.prog ts ds).all (· ≤ reachBytes) = true) :
    ∃ x : List S43 × Option Addr × Nat, v = .slice x.2.1 x.1.length x.2.2 ∧ Kd.C k43 W x.2.1 x.1.length x.1 ∧ x.1.length * 72 ≤ 140737488351232 ∧ ∀ y ∈ x.1, okT y := by
  obtain ⟨A, c, xs, rfl, hl, hr, hb, hg⟩ := Opn.open_arg Jw.opens_tabs Try.underlying51 hv h hsz hj hd
  exact ⟨(xs, A, c), rfl, hr, hb, fun y hy => Jw.good_okT (hg y hy)⟩
theorem meets_walk (x : List S43 × Option Addr × Nat) (w : World) (h : Kd.C k43 w x.2.1 x.1.length x.1 ∧ x.1.length * 72 ≤ 140737488351232 ∧ ∀ y ∈ x.1, okT y) :
    Calls Try.prog 11 #[.slice x.2.1 x.1.length x.2.2] w fun e w' => e = .returned (.bool true) ∧ Below w.heap.size w w' := meets_calls _ _ _ w h.1 h.2.1 h.2.2
end Go.Proofs.Ytdlkcohfgfnkbaa.Me
