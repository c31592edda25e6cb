/- Frames: how an argument that is a frame is opened. -/
import Derived.Test.YtekakngojhnleaaProg
import Derived.Test.YtekakngojhnleaaOpn
import Derived.WideShapes
namespace Go.Proofs.Ytekakngojhnleaa.Of
open Go.ChangeShapes Go.WideShapes Go.RowKit Go.Proofs.YtekakngojhnleaaW.PrintWords Go.Proofs.Ytekakngojhnleaa
set_option linter.unusedVariables false

abbrev Fr := Bool × Int × Int × List Int
def kFr : Kd Fr := Kd.pair Kd.bool (Kd.pair (Kd.int .i64) (Kd.pair (Kd.int .i64) (Kd.slice 5 (Kd.int .u8))))
def goodFr (x : Fr) : Prop := True ∧ (Lit.int .i64 x.2.1).wf = true ∧ (Lit.int .i64 x.2.2.1).wf = true ∧ (x.2.2.2.length * 1 ≤ reachBytes ∧ ∀ y ∈ x.2.2.2, (Lit.int .u8 y).wf = true)
theorem opens_frame : Opn.Opens Try.prog 53 kFr goodFr :=
  Opn.opens_struct Try.underlying53 (Opn.Flds.more (Opn.opens_bool Try.underlying4) rfl (by kernel_rfl) (Opn.Flds.more (Opn.opens_int Try.underlying3) rfl (by kernel_rfl) (Opn.Flds.more (Opn.opens_int Try.underlying3) rfl (by kernel_rfl)
    (Opn.Flds.one (Opn.opens_slice (Opn.opens_int Try.underlying5) Try.underlying30 (by kernel_rfl) 5 (by kernel_rfl)) rfl (by kernel_rfl))))) (by kernel_rfl)
theorem frame_cells {w : World} {x : Fr} {cs : List Value} (h : kFr.K w x cs) : ∃ A c, cs = [.bool x.1, .int .i64 x.2.1, .int .i64 x.2.2.1, .slice A x.2.2.2.length c] ∧ x.2.2.2.length ≤ c ∧ (Kd.int .u8).C w A x.2.2.2.length x.2.2.2 := by
  obtain ⟨c0, c1, rfl, h0, c2, c3, rfl, h2, c4, c5, rfl, h4, A, c, rfl, hc, hr⟩ := h
  have h0' : c0 = [.bool x.1] := h0
  have h2' : c2 = [.int .i64 x.2.1] := h2
  have h4' : c4 = [.int .i64 x.2.2.1] := h4
  subst h0' h2' h4'
  exact ⟨A, c, rfl, hc, hr⟩
/-- An argument that is a frame. -/
structure IsFr (W : World) (A : Option Addr) (c : Nat) (x : Fr) : Prop where
  cap : x.2.2.2.length ≤ c
  reads : (Kd.int .u8).C W A x.2.2.2.length x.2.2.2
  good : goodFr x
set_option maxRecDepth 100000 in
theorem open_frame (j : Nat) {H : Type} {enc : TypeId × Value → H} {W : World} {base r0 : Nat} {r : Reach} {spare : Nat → Bool} {held : Bool} {ts : List TypeId} {ds : List (DataW H)} {dd : DataW H} {p : List MemPlace} (hj : ts[j]? = some 53) (hd : ds[j]? = some dd)
    {v : Value} (hv : Value.okWide Try.prog W r r0 53 v) (h : DataW.Trod enc Try.prog W base spare held 53 v dd p) (hsz : (DataW.weightsEach Try.prog ts ds).all (· ≤ reachBytes) = true) :
    ∃ x : Fr × Option Addr × Nat, v = .agg #[.bool x.1.1, .int .i64 x.1.2.1, .int .i64 x.1.2.2.1, .slice x.2.1 x.1.2.2.2.length x.2.2] ∧ IsFr W x.2.1 x.2.2 x.1 := by
  obtain ⟨cs, x, rfl, hk, hg⟩ := Opn.open_struct_arg opens_frame Try.underlying53 hv h hsz hj hd
  obtain ⟨A, c, hcs, hc, hr⟩ := frame_cells hk
  refine ⟨(x, A, c), ?_, hc, hr, hg⟩
  rw [← Array.toArray_toList (xs := cs), hcs]
end Go.Proofs.Ytekakngojhnleaa.Of
