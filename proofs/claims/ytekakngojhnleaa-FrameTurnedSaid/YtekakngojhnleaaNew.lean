/- codec.New: a reader over a copy of the bytes. -/
import Derived.Test.YtekakngojhnleaaRd2
namespace Go.Proofs.Ytekakngojhnleaa.Rd
set_option linter.unusedSimpArgs false
set_option linter.unusedVariables false
open Go.RowKit Go.Proofs.Ytekakngojhnleaa.PFrameDecodes Go.Proofs.YtekakngojhnleaaW.PrintWords Go.Proofs.YtekakngojhnleaaW.PrintLast Go.Proofs.YtekakngojhnleaaW.PrintMore

set_option maxHeartbeats 400000 in
theorem new_calls (A : Option Addr) (c : Nat) (xs : List Int) (w : World) (hr : Kd.C (Kd.int .u8) w A xs.length xs) (hl : xs.length ≤ 140737488355328) :
    Calls Try.prog 54 #[.slice A xs.length c] w fun e w' => ∃ g w0, e = .returned (.pointer (some ⟨g, 0, none⟩)) ∧ IsRd w0 w' g xs ∧ Below w0.heap.size w0 w' ∧ Below w.heap.size w w0 ∧ Below w.heap.size w w' := by
  have HR := Aside0.mk hr
  clear hr
  go_enter Try.func54, Try.ntmps54
  go_wp2_with fail
  refine (clone_calls A c xs _ HR.out hl).mono ?_
  rintro e w1 ⟨v, rfl, ho, hb⟩
  obtain ⟨A1, c1, rfl, hc1, hr1⟩ := Kd.R_reads ho
  have HB := Aside0.mk hb
  have HR1 := Aside0.mk hr1
  clear hb hr1 ho
  go_wp2_with fail
  go_ret
  exact ⟨_, w1, rfl, ⟨A1, c1, by simpa using heap_alloc_new w1 _, Nat.le_refl _, hc1, HR1.out⟩, below_alloc (Below.refl _ _) _, HB.out, below_alloc HB.out _⟩
end Go.Proofs.Ytekakngojhnleaa.Rd
