/- CodecBack, CodecAgain, CodecSame: the law's Go function answers true at every input. -/
import Derived.Test.YtekakngojhnleaaNx2
import Derived.Test.YtekakngojhnleaaNew
import Derived.Test.YtekakngojhnleaaRfB
namespace Go.Proofs.Ytekakngojhnleaa.Rd
set_option linter.unusedSimpArgs false
set_option linter.unusedVariables false
open Go.RowKit Go.Proofs.Ytekakngojhnleaa.Rf Go.Proofs.Ytekakngojhnleaa.Fns Go.Proofs.Ytekakngojhnleaa.Plain Go.Proofs.YtekakngojhnleaaW.PrintWords Go.Proofs.YtekakngojhnleaaW.PrintLast Go.Proofs.YtekakngojhnleaaW.PrintMore

/-- append(v, xs...) of bytes, v the call's own. -/
theorem bytes_app {ops : Array Oper} {rest : List Oper} {o : Oper} {a : Act} {Q : Exit → Act → World → Prop} {w0 W : World} (base : Nat) (hg : o.guard = none) (s x : Operand)
    (ho : o.op = .call { callee := .builtin .append, args := #[s, x], argTypes := #[30, 30] }) (v : Value) (xs ys : List Int) (A : Option Addr) (m c : Nat) (hs : a.eval s = v) (hx : a.eval x = .slice A m c)
    (HO : (Kd.int .u8).R 5 W base (fun _ => True) v xs) (HR : (Kd.int .u8).C W A m ys) (HB : Below base w0 W) (hbase : base ≤ W.heap.size) (hl : xs.length + m ≤ 140737488355328)
    (h : ∀ A1 n1 c1 w1, Aside0 (n1 = (xs ++ ys).length) → (Kd.int .u8).R 5 w1 base (fun _ => True) (.slice A1 n1 c1) (xs ++ ys) → (Kd.int .u8).C w1 A1 n1 (xs ++ ys) → Below base w0 w1 → W.grownBy w1 v.ownBlock → wpList Try.prog ops Q rest (a.put o.dst (.slice A1 n1 c1)) w1) :
    wpList Try.prog ops Q (o :: rest) a W := by
  refine Kd.R_append_rows (Kd.int .u8) (w0 := w0) base hg s x 30 5 (.int .u8 0) 1 ho Try.underlying30 PFrameDecodes.info5 rfl (by decide) (by omega) v xs ys A m c (fun _ => True) (fun _ => False) hs hx HO HR
    (fun _ _ h => h) (fun _ h => h.elim) (fun _ _ => trivial) HB hbase (by omega) (fun v1 w1 h1 h2 h3 _ => ?_)
  obtain ⟨A1, c1, rfl, hc, hr⟩ := Kd.R_reads h1
  exact h A1 _ c1 w1 ⟨rfl⟩ h1 hr h2 h3

theorem new_calls' (A : Option Addr) (n c : Nat) (xs : List Int) (w : World) (hr : Kd.C (Kd.int .u8) w A n xs) (hl : xs.length ≤ 140737488355328) :
    Calls Try.prog 54 #[.slice A n c] w fun e w' => ∃ g w0, e = .returned (.pointer (some ⟨g, 0, none⟩)) ∧ IsRd w0 w' g xs ∧ Below w0.heap.size w0 w' ∧ Below w.heap.size w w0 ∧ Below w.heap.size w w' := by
  obtain rfl : xs.length = n := Kd.C_len hr
  exact new_calls A c xs w hr hl

theorem u8_bytes {xs : List Int} (h : ∀ x ∈ xs, (Lit.int .u8 x).wf = true) : ∀ x ∈ xs, 0 ≤ x ∧ x < 256 := by
  intro x hx
  have := h x hx
  simp only [Lit.wf, Bool.and_eq_true, IntKind.min, IntKind.max, IntKind.bits, IntKind.signed] at this
  simp at this
  omega
end Go.Proofs.Ytekakngojhnleaa.Rd
