/- Tables: how an argument that is one is opened, and one that is lists. -/
import Derived.Test.YtdlkcohfgfnkbaaOpn
import Derived.WideShapes
import Derived.Test.YtdlkcohfgfnkbaaTs
namespace Go.Proofs.Ytdlkcohfgfnkbaa.Ot
open Go.ChangeShapes Go.WideShapes Go.RowKit Go.Proofs.YtdlkcohfgfnkbaaW.PrintWords Go.Proofs.Ytdlkcohfgfnkbaa Go.Proofs.Ytdlkcohfgfnkbaa.Tr Go.Proofs.Ytdlkcohfgfnkbaa.Mp
set_option linter.unusedVariables false

abbrev Tb := List Int × List Int × List (List Int)
def goodL (xs : List Int) : Prop := xs.length * 8 ≤ reachBytes ∧ ∀ y ∈ xs, (Lit.int .i64 y).wf = true
def goodLL (xs : List (List Int)) : Prop := xs.length * 24 ≤ reachBytes ∧ ∀ y ∈ xs, goodL y
theorem opens_ints : Opn.Opens Try.prog 31 (Kd.slice 3 (Kd.int .i64)) goodL := Opn.opens_slice (Opn.opens_int Try.underlying3) Try.underlying31 (by kernel_rfl) 3 (by kernel_rfl)
theorem opens_lists : Opn.Opens Try.prog 36 (Kd.slice 31 (Kd.slice 3 (Kd.int .i64))) goodLL := Opn.opens_slice opens_ints Try.underlying36 (by kernel_rfl) 31 (by kernel_rfl)
def kTb : Kd Tb := Kd.pair (Kd.slice 3 (Kd.int .i64)) (Kd.pair (Kd.slice 3 (Kd.int .i64)) (Kd.slice 31 (Kd.slice 3 (Kd.int .i64))))
def goodTb (x : Tb) : Prop := goodL x.1 ∧ goodL x.2.1 ∧ goodLL x.2.2
theorem opens_tab : Opn.Opens Try.prog 43 kTb goodTb :=
  Opn.opens_struct Try.underlying43 (Opn.Flds.more opens_ints rfl (by kernel_rfl) (Opn.Flds.more opens_ints rfl (by kernel_rfl) (Opn.Flds.one opens_lists rfl (by kernel_rfl)))) (by kernel_rfl)
theorem tab_cells {w : World} {x : Tb} {cs : List Value} (h : kTb.K w x cs) : ∃ A0 c0 A1 c1 A2 c2, cs = [.slice A0 x.1.length c0, .slice A1 x.2.1.length c1, .slice A2 x.2.2.length c2] ∧ x.1.length ≤ c0 ∧ x.2.1.length ≤ c1 ∧ x.2.2.length ≤ c2 ∧
    (Kd.int .i64).C w A0 x.1.length x.1 ∧ (Kd.int .i64).C w A1 x.2.1.length x.2.1 ∧ (Kd.slice 3 (Kd.int .i64)).C w A2 x.2.2.length x.2.2 := by
  obtain ⟨s0, s1, rfl, ⟨A0, c0, rfl, h0, r0⟩, s2, s3, rfl, ⟨A1, c1, rfl, h1, r1⟩, A2, c2, rfl, h2, r2⟩ := h
  exact ⟨A0, c0, A1, c1, A2, c2, rfl, h0, h1, h2, r0, r1, r2⟩
theorem good_ints {xs : List Int} (h : goodL xs) : xs.length ≤ 140737488351232 ∧ ∀ x ∈ xs, I64 x := by
  have h2 : xs.length * 8 ≤ 140737488351232 := h.1
  exact ⟨by omega, h.2⟩
theorem good_lists {xs : List (List Int)} (h : goodLL xs) : xs.length ≤ 140737488351232 ∧ ∀ x ∈ xs, x.length ≤ 140737488351232 ∧ ∀ y ∈ x, I64 y := by
  have h2 : xs.length * 24 ≤ 140737488351232 := h.1
  exact ⟨by omega, fun x hx => good_ints (h.2 x hx)⟩
/-- A table whose numbers are ints. -/
def Nums (x : Tb) : Prop := (∀ y ∈ x.1, I64 y) ∧ (∀ y ∈ x.2.1, I64 y) ∧ ∀ c ∈ x.2.2, ∀ y ∈ c, I64 y
structure At where
  A0 : Option Addr
  c0 : Nat
  A1 : Option Addr
  c1 : Nat
  A2 : Option Addr
  c2 : Nat
abbrev atV (p : At) (x : Tb) : Array Value := tbV p.A0 p.A1 p.A2 p.c0 p.c1 p.c2 x.1 x.2.1 x.2.2
abbrev IsT (W : World) (p : At) (x : Tb) : Prop := IsTb W p.A0 p.A1 p.A2 p.c0 p.c1 p.c2 x.1 x.2.1 x.2.2
set_option maxRecDepth 100000 in
theorem open_tab (j : Nat) {H : Type} {enc : TypeId × Value → H} {W : World} {base r0 : Nat} {r : Reach} {spare : Nat → Bool} {held : Bool} {ts : List TypeId} {ds : List (DataW H)} {dd : DataW H} {p : List MemPlace} (hj : ts[j]? = some 43) (hd : ds[j]? = some dd)
    {v : Value} (hv : Value.okWide Try.prog W r r0 43 v) (h : DataW.Trod enc Try.prog W base spare held 43 v dd p) (hsz : (DataW.weightsEach Try.prog ts ds).all (· ≤ reachBytes) = true) :
    ∃ x : Tb × At, v = .agg (atV x.2 x.1) ∧ IsT W x.2 x.1 ∧ Nums x.1 := by
  obtain ⟨cs, x, rfl, hk, hg0, hg1, hg2⟩ := Opn.open_struct_arg opens_tab Try.underlying43 hv h hsz hj hd
  obtain ⟨A0, c0, A1, c1, A2, c2, hcs, h0, h1, h2, r0, r1, r2⟩ := tab_cells hk
  refine ⟨(x, ⟨A0, c0, A1, c1, A2, c2⟩), ?_, ⟨h0, h1, h2, r0, r1, r2, (good_ints hg0).1, (good_ints hg1).1, (good_lists hg2).1, fun c hc => ((good_lists hg2).2 c hc).1⟩, (good_ints hg0).2, (good_ints hg1).2, fun c hc => ((good_lists hg2).2 c hc).2⟩
  rw [← Array.toArray_toList (xs := cs), hcs]
set_option maxRecDepth 100000 in
theorem open_lists (j : Nat) {H : Type} {enc : TypeId × Value → H} {W : World} {base r0 : Nat} {r : Reach} {spare : Nat → Bool} {held : Bool} {ts : List TypeId} {ds : List (DataW H)} {dd : DataW H} {p : List MemPlace} (hj : ts[j]? = some 36) (hd : ds[j]? = some dd)
    {v : Value} (hv : Value.okWide Try.prog W r r0 36 v) (h : DataW.Trod enc Try.prog W base spare held 36 v dd p) (hsz : (DataW.weightsEach Try.prog ts ds).all (· ≤ reachBytes) = true) :
    ∃ x : List (List Int) × Option Addr × Nat, v = .slice x.2.1 x.1.length x.2.2 ∧ x.1.length ≤ x.2.2 ∧ (Kd.slice 3 (Kd.int .i64)).C W x.2.1 x.1.length x.1 ∧ x.1.length ≤ 140737488351232 ∧ ∀ y ∈ x.1, y.length ≤ 140737488351232 ∧ ∀ z ∈ y, I64 z := by
  obtain ⟨A, c, xs, rfl, hl, hr, hb, hg⟩ := Opn.open_arg opens_lists Try.underlying36 hv h hsz hj hd
  exact ⟨(xs, A, c), rfl, hl, hr, good_lists ⟨hb, hg⟩⟩
end Go.Proofs.Ytdlkcohfgfnkbaa.Ot
