/- Numbers of 64 bits: a sum and a difference with what is carried (functions that the model stands in for), as steps of a walk. -/
import Derived.Test.YtdaelbihfdlgkaaProg
import Derived.Test.YtdaelbihfdlgkaaWWords
import Derived.Test.YtdaelbihfdlgkaaWLast
import Derived.Laws.Externs
namespace Go.Proofs.Ytdaelbihfdlgkaa.Na
open Go.RowKit Go.Proofs.YtdaelbihfdlgkaaW.PrintWords Go.Proofs.YtdaelbihfdlgkaaW.PrintLast
set_option linter.unusedVariables false

/-- A call that yields its value here and now. -/
def CallsX (P : Program) (f : FuncId) (args : Array Value) (w : World) (Q : Ending → World → Prop) : Prop := ∃ v, (callFunc f args).run P w = .ok (.value v) w ∧ Q (.returned v) w
theorem CallsX.mono {P : Program} {f : FuncId} {args : Array Value} {w : World} {Q Q' : Ending → World → Prop} (h : CallsX P f args w Q) (hq : ∀ e w', Q e w' → Q' e w') : CallsX P f args w Q' := by
  obtain ⟨v, h1, h2⟩ := h
  exact ⟨v, h1, hq _ _ h2⟩
section
variable {P : Program} {ops : Array Oper} {Q : Exit → Act → World → Prop}
theorem goesX_ {rest : List Oper} {oi : Oper} {a : Act} {w : World} (N : Option Tmp) (hd : oi.dst = N) (hg : oi.guard = none) {f : FuncId} {xs : Array Operand} {ts : Array TypeId} (args : Array Value)
    (hop : oi.op = .call { callee := .value (.func f), args := xs, argTypes := ts }) (hargs : xs.map a.eval = args)
    (h : CallsX P f args w fun e w' => ∃ v, e = .returned v ∧ wpList P ops Q rest (a.put N v) w') : wpList P ops Q (oi :: rest) a w := by
  obtain ⟨v, he, v', hv, hk⟩ := h
  cases hv
  refine wpList_plain hg fun K hK => ?_
  have hrun : (execOp a.eval oi).run P w = .ok (.value v) w := by
    unfold execOp
    simp [hop, resolve, Deferred.ofValue, invoke, Act.eval, hargs, he]
  unfold Oper.wp
  rw [hrun]
  subst hd
  exact hK _ _ hk
end
def sub64Entry : Array Value → Sem Value := fun args => do
  let (x, y, b) ← Extern.MathBitsCarry.three "Sub64" args
  pure (Extern.MathBitsCarry.pair ((x + Extern.MathBitsCarry.m64 - y - b) % Extern.MathBitsCarry.m64) (if x < y + b then 1 else 0))
theorem run_sub64 {P : Program} (x y b : Nat) (hb : b ≤ 1) (w : World) :
    (sub64Entry #[.int .u64 x, .int .u64 y, .int .u64 b]).run P w =
      .ok (.tuple #[.int .u64 (((x + 18446744073709551616 - y - b) % 18446744073709551616 : Nat) : Int), .int .u64 ((if x < y + b then 1 else 0 : Nat) : Int)]) w := by
  have : b = 0 ∨ b = 1 := by omega
  rcases this with rfl | rfl <;> rfl
def in64 (x : Int) : Prop := 0 ≤ x ∧ x < 18446744073709551616
instance (x : Int) : Decidable (in64 x) := inferInstanceAs (Decidable (_ ∧ _))
/-- The sum, and what is carried. -/
def bits_Add64.f (a0 a1 a2 : Int) : Option (Int × Int) := if in64 a0 ∧ in64 a1 ∧ 0 ≤ a2 ∧ a2 ≤ 1 then some ((a0 + a1 + a2) % 18446744073709551616, (a0 + a1 + a2) / 18446744073709551616) else none
theorem bits_Add64.calls (a0 a1 a2 r1 r2 : Int) (w : World) (h : bits_Add64.f a0 a1 a2 = some (r1, r2)) :
    CallsX Try.prog 13 #[.int .u64 a0, .int .u64 a1, .int .u64 a2] w fun e w' => e = .returned (.tuple #[.int .u64 r1, .int .u64 r2]) ∧ Drawn0 w w' := by
  unfold bits_Add64.f at h
  split at h
  · rename_i hc
    simp only [Option.some.injEq, Prod.mk.injEq] at h
    obtain ⟨rfl, rfl⟩ := h
    refine ⟨_, ?_, rfl, ⟨0, rfl⟩⟩
    rw [run_callFunc_extern Try.func13 (by kernel_rfl) (by kernel_rfl) (by kernel_rfl) (e := add64Entry) (by kernel_rfl), run_add64 a0 a1 a2 hc.1.1 hc.2.1.1 hc.2.2.1 hc.2.2.2]
    rfl
  · cases h
/-- The difference, and what is borrowed. -/
def bits_Sub64.f (a0 a1 a2 : Int) : Option (Int × Int) := if in64 a0 ∧ in64 a1 ∧ 0 ≤ a2 ∧ a2 ≤ 1 then some ((a0 + 18446744073709551616 - a1 - a2) % 18446744073709551616, if a0 < a1 + a2 then 1 else 0) else none
theorem bits_Sub64.calls (a0 a1 a2 r1 r2 : Int) (w : World) (h : bits_Sub64.f a0 a1 a2 = some (r1, r2)) :
    CallsX Try.prog 43 #[.int .u64 a0, .int .u64 a1, .int .u64 a2] w fun e w' => e = .returned (.tuple #[.int .u64 r1, .int .u64 r2]) ∧ Drawn0 w w' := by
  unfold bits_Sub64.f at h
  split at h
  · rename_i hc
    obtain ⟨⟨x0, x1⟩, ⟨y0, y1⟩, c0, c1⟩ := hc
    simp only [Option.some.injEq, Prod.mk.injEq] at h
    obtain ⟨rfl, rfl⟩ := h
    obtain ⟨x, rfl⟩ := Int.eq_ofNat_of_zero_le x0
    obtain ⟨y, rfl⟩ := Int.eq_ofNat_of_zero_le y0
    obtain ⟨b, rfl⟩ := Int.eq_ofNat_of_zero_le c0
    refine ⟨_, ?_, rfl, ⟨0, rfl⟩⟩
    rw [run_callFunc_extern Try.func43 (by kernel_rfl) (by kernel_rfl) (by kernel_rfl) (e := sub64Entry) (by kernel_rfl), run_sub64 x y b (by omega)]
    simp only [Result.andThen]
    congr 5
    · congr 1
      omega
    · congr 1
      by_cases hlt : x < y + b
      · rw [if_pos hlt, if_pos (by omega)]; rfl
      · rw [if_neg hlt, if_neg (by omega)]; rfl
  · cases h
/-- What is left and a limb, by a limb that is more than what is left. -/
def bits_Div64.f (a0 a1 a2 : Int) : Option (Int × Int) := if in64 a0 ∧ in64 a1 ∧ in64 a2 ∧ a0 < a2 then some ((a0 * 18446744073709551616 + a1) / a2, (a0 * 18446744073709551616 + a1) % a2) else none
end Go.Proofs.Ytdaelbihfdlgkaa.Na
