/- Sets of bits: how an argument that is one is opened. -/
import Derived.Test.YtdlkcohfgfnkbaaDoorProg
import Derived.Test.YtdlkcohfgfnkbaaDoorOpn
import Derived.Test.YtdlkcohfgfnkbaaDoorBp
import Derived.WideShapes
namespace Go.Proofs.YtdlkcohfgfnkbaaDoor.Ob
open Go.ChangeShapes Go.WideShapes Go.RowKit Go.Proofs.YtdlkcohfgfnkbaaDoorW.PrintWords Go.Proofs.YtdlkcohfgfnkbaaDoor Go.Proofs.YtdlkcohfgfnkbaaDoor.Bp
set_option linter.unusedVariables false

abbrev Bt := Int × List Int
def kBt : Kd Bt := Kd.pair (Kd.int .i64) (Kd.slice 30 (Kd.int .u64))
def goodBt (x : Bt) : Prop := (Lit.int .i64 x.1).wf = true ∧ (x.2.length * 8 ≤ reachBytes ∧ ∀ y ∈ x.2, (Lit.int .u64 y).wf = true)
theorem opens_bits : Opn.Opens Tryd.prog 24 kBt goodBt :=
  Opn.opens_struct Tryd.underlying24 (Opn.Flds.more (Opn.opens_int Tryd.underlying3) rfl (by kernel_rfl) (Opn.Flds.one (Opn.opens_slice (Opn.opens_int Tryd.underlying30) Tryd.underlying22 (by kernel_rfl) 30 (by kernel_rfl)) rfl (by kernel_rfl))) (by kernel_rfl)
theorem u64_bounds {x : Int} (h : (Lit.int .u64 x).wf = true) : 0 ≤ x ∧ x < 18446744073709551616 := by
  simp only [Lit.wf, Bool.and_eq_true, IntKind.min, IntKind.max, IntKind.bits, IntKind.signed] at h
  simp at h
  omega
theorem i64_bounds {x : Int} (h : (Lit.int .i64 x).wf = true) : -9223372036854775808 ≤ x ∧ x < 9223372036854775808 := by
  simp only [Lit.wf, Bool.and_eq_true, IntKind.min, IntKind.max, IntKind.bits, IntKind.signed] at h
  simp at h
  omega
theorem bits_cells {w : World} {x : Bt} {cs : List Value} (h : kBt.K w x cs) : ∃ A c, cs = [.int .i64 x.1, .slice A x.2.length c] ∧ x.2.length ≤ c ∧ (Kd.int .u64).C w A x.2.length x.2 := by
  obtain ⟨c0, c1, rfl, h0, A, c, rfl, hc, hr⟩ := h
  have h0' : c0 = [.int .i64 x.1] := h0
  subst h0'
  exact ⟨A, c, rfl, hc, hr⟩
/-- An argument that is a set. -/
structure IsBt (W : World) (A : Option Addr) (c : Nat) (x : Bt) : Prop where
  cap : x.2.length ≤ c
  reads : (Kd.int .u64).C W A x.2.length x.2
  num : -9223372036854775808 ≤ x.1 ∧ x.1 < 9223372036854775808
  wf : Wf x.2
  len : x.2.length ≤ 140737488351232
set_option maxRecDepth 100000 in
theorem open_bits (j : Nat) {H : Type} {enc : TypeId × Value → H} {W : World} {base r0 : Nat} {r : Reach} {spare : Nat → Bool} {held : Bool} {ts : List TypeId} {ds : List (DataW H)} {dd : DataW H} {p : List MemPlace} (hj : ts[j]? = some 24) (hd : ds[j]? = some dd)
    {v : Value} (hv : Value.okWide Tryd.prog W r r0 24 v) (h : DataW.Trod enc Tryd.prog W base spare held 24 v dd p) (hsz : (DataW.weightsEach Tryd.prog ts ds).all (· ≤ reachBytes) = true) :
    ∃ x : Bt × Option Addr × Nat, v = .agg #[.int .i64 x.1.1, .slice x.2.1 x.1.2.length x.2.2] ∧ IsBt W x.2.1 x.2.2 x.1 := by
  obtain ⟨cs, x, rfl, hk, hg⟩ := Opn.open_struct_arg opens_bits Tryd.underlying24 hv h hsz hj hd
  obtain ⟨A, c, hcs, hc, hr⟩ := bits_cells hk
  refine ⟨(x, A, c), ?_, hc, hr, i64_bounds hg.1, fun y hy => u64_bounds (hg.2.2 y hy), ?_⟩
  · rw [← Array.toArray_toList (xs := cs), hcs]
  · have h2 : x.2.length * 8 ≤ 140737488351232 := hg.2.1
    show x.2.length ≤ 140737488351232
    omega
end Go.Proofs.YtdlkcohfgfnkbaaDoor.Ob
