/- How many bits a number of 64 bits has. -/
import Derived.Test.YtdaelbihfdlgkaaNa
import Derived.Test.YtdaelbihfdlgkaaNk
namespace Go.Proofs.Ytdaelbihfdlgkaa.Na
open Go.RowKit Go.Proofs.YtdaelbihfdlgkaaW.PrintWords Go.Proofs.YtdaelbihfdlgkaaW.PrintLast
def bits_Len64.f (a0 : Int) : Option Int := if in64 a0 then some (Lib.bitLen a0.toNat : Int) else none
theorem bits_Len64.calls (a0 r : Int) (w : World) (h : bits_Len64.f a0 = some r) : Calls Try.prog 29 #[.int .u64 a0] w fun e w' => e = .returned (.int .i64 r) ∧ Drawn0 w w' := by
  unfold bits_Len64.f at h
  split at h
  · rename_i hc
    simp only [Option.some.injEq] at h
    subst h
    refine (Nk.len64 a0 w hc.1 (by have := hc.2; omega)).mono ?_
    rintro e w' ⟨rfl, rfl⟩
    exact ⟨rfl, Drawn0.refl _⟩
  · cases h
end Go.Proofs.Ytdaelbihfdlgkaa.Na
