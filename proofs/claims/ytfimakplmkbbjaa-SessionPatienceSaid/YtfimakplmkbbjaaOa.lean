/- How the acts, and a row of three numbers, are opened as arguments. -/
import Derived.Test.YtfimakplmkbbjaaOpn
import Derived.WideShapes
import Derived.Laws.IdiomArrays
import Derived.Test.YtfimakplmkbbjaaSl
namespace Go.Proofs.Ytfimakplmkbbjaa.Oa
open Go.ChangeShapes Go.WideShapes Go.RowKit Go.Proofs.YtfimakplmkbbjaaW.PrintWords Go.Proofs.Ytfimakplmkbbjaa Go.Proofs.Ytfimakplmkbbjaa.Mp Go.Proofs.Ytfimakplmkbbjaa.Sd Go.Proofs.Ytfimakplmkbbjaa.Sl
set_option linter.unusedVariables false

def goodL (xs : List Int) : Prop := xs.length * 8 ≤ reachBytes ∧ ∀ y ∈ xs, (Lit.int .i64 y).wf = true
def wf (x : Int) : Prop := (Lit.int .i64 x).wf = true
theorem opens_ints : Opn.Opens Try.prog 32 (Kd.slice 3 (Kd.int .i64)) goodL := Opn.opens_slice (Opn.opens_int Try.underlying3) Try.underlying32 (by kernel_rfl) 3 (by kernel_rfl)
abbrev Tup := Int × Int × Int × Int × List Int
def kTup : Kd Tup := Kd.pair (Kd.int .i64) (Kd.pair (Kd.int .i64) (Kd.pair (Kd.int .i64) (Kd.pair (Kd.int .i64) (Kd.slice 3 (Kd.int .i64)))))
def goodTup (x : Tup) : Prop := wf x.1 ∧ wf x.2.1 ∧ wf x.2.2.1 ∧ wf x.2.2.2.1 ∧ goodL x.2.2.2.2
theorem opens_act : Opn.Opens Try.prog 34 kTup goodTup :=
  Opn.opens_struct Try.underlying34 (Opn.Flds.more (Opn.opens_int Try.underlying3) rfl (by kernel_rfl) (Opn.Flds.more (Opn.opens_int Try.underlying3) rfl (by kernel_rfl) (Opn.Flds.more (Opn.opens_int Try.underlying3) rfl (by kernel_rfl) (Opn.Flds.more (Opn.opens_int Try.underlying3) rfl (by kernel_rfl)
    (Opn.Flds.one opens_ints rfl (by kernel_rfl)))))) (by kernel_rfl)
/-- The acts, as they lie. -/
structure IsActs (W : World) (A : Option Addr) (c : Nat) (xs : List Ac) : Prop where
  reads : Kd.C kAc W A xs.length xs
  len : xs.length ≤ 140737488351232
  good : ∀ x ∈ xs, GoodA x
set_option maxRecDepth 100000 in
theorem open_acts (j : Nat) {H : Type} {enc : TypeId × Value → H} {W : World} {base r0 : Nat} {r : Reach} {spare : Nat → Bool} {held : Bool} {ts : List TypeId} {ds : List (DataW H)} {dd : DataW H} {p : List MemPlace} (hj : ts[j]? = some 23) (hd : ds[j]? = some dd)
    {v : Value} (hv : Value.okWide Try.prog W r r0 23 v) (h : DataW.Trod enc Try.prog W base spare held 23 v dd p) (hsz : (DataW.weightsEach Try.prog ts ds).all (· ≤ reachBytes) = true) :
    ∃ x : List Ac × Option Addr × Nat, v = .slice x.2.1 x.1.length x.2.2 ∧ IsActs W x.2.1 x.2.2 x.1 := by
  obtain ⟨A, len, cap, rfl⟩ := okWide_slice Try.underlying23 hv
  obtain ⟨fuel, hf⟩ := h
  obtain ⟨xs, ⟨A', c', he, hl, hr⟩, h1, h2⟩ := Opn.opens_slice (Opn.opens_iso (d := kTup) (g := goodTup) opens_act (fun x : Ac => (x.f0, x.f1, x.f2, x.f3, x.f4)) (fun t => ⟨t.1, t.2.1, t.2.2.1, t.2.2.2.1, t.2.2.2.2⟩) (fun a => rfl)) Try.underlying23 (by kernel_rfl) 34 (B := 56) (by kernel_rfl) hf (fun b hb => by
    have := List.all_eq_true.1 hsz _ (DataW.weights_mem_each hj hd b hb)
    simpa using this)
  simp [Value.cells] at he
  obtain ⟨rfl, rfl, rfl⟩ := he
  refine ⟨(xs, A, cap), rfl, hr, ?_, fun x hx => ?_⟩
  · have h3 : xs.length * 56 ≤ 140737488351232 := h1
    show xs.length ≤ _
    omega
  · have h3 := h2 x hx
    have h4 : x.f4.length * 8 ≤ 140737488351232 := h3.2.2.2.2.1
    exact ⟨h3.2.1, by omega⟩
set_option maxRecDepth 100000 in
theorem open_three (j : Nat) {H : Type} {enc : TypeId × Value → H} {W : World} {base r0 : Nat} {r : Reach} {spare : Nat → Bool} {held : Bool} {ts : List TypeId} {ds : List (DataW H)} {dd : DataW H} {p : List MemPlace} (hj : ts[j]? = some 22) (hd : ds[j]? = some dd)
    {v : Value} (hv : Value.okWide Try.prog W r r0 22 v) (h : DataW.Trod enc Try.prog W base spare held 22 v dd p) (hsz : (DataW.weightsEach Try.prog ts ds).all (· ≤ reachBytes) = true) :
    ∃ x : Int × Int × Int, v = .agg #[.int .i64 x.1, .int .i64 x.2.1, .int .i64 x.2.2] ∧ wf x.1 ∧ wf x.2.1 ∧ wf x.2.2 := by
  simp only [Value.okWide, Try.underlying22] at hv
  obtain ⟨cs, rfl, hcs, _⟩ := hv
  obtain ⟨fuel, hf⟩ := h
  have h3 : cs.size = 3 := hcs.trans (by kernel_rfl)
  obtain ⟨c0, c1, c2, rfl⟩ : ∃ c0 c1 c2, cs = #[c0, c1, c2] := by
    obtain ⟨l⟩ := cs
    match l, h3 with
    | [c0, c1, c2], _ => exact ⟨c0, c1, c2, rfl⟩
  obtain ⟨y0, y1, y2, n, _, t0, t1, t2⟩ := Go.ChangeShapes.trod_array3 Try.underlying22 (by kernel_rfl) hf
  obtain ⟨m0, e0, _, g0⟩ := DataW.trod_int Try.underlying3 t0
  obtain ⟨m1, e1, _, g1⟩ := DataW.trod_int Try.underlying3 t1
  obtain ⟨m2, e2, _, g2⟩ := DataW.trod_int Try.underlying3 t2
  cases e0; cases e1; cases e2
  exact ⟨(m0, m1, m2), rfl, g0, g1, g2⟩
theorem scripts_row (l : Int × Int × Int) (x : List Ac × Option Addr × Nat) (W : World) (hl : wf l.1 ∧ wf l.2.1 ∧ wf l.2.2) (hx : IsActs W x.2.1 x.2.2 x.1) :
    Calls Try.prog 4 #[.agg #[.int .i64 l.1, .int .i64 l.2.1, .int .i64 l.2.2], .slice x.2.1 x.1.length x.2.2] W fun e w' => e = .returned (.bool true) ∧ Below W.heap.size W w' :=
  scripts_calls _ _ _ _ _ _ W hx.reads hx.len hx.good
end Go.Proofs.Ytfimakplmkbbjaa.Oa
