/- math/bits.TrailingZeros64 over this program: the walk. -/
import Derived.Test.YtdlkcohfgfnkbaaDoorProg
import Derived.Shelf.Spec.TrailingZeros
import Derived.WalkKit
import Derived.Outline
namespace Go.Proofs.YtdlkcohfgfnkbaaDoor.Tz
open Go.RowKit
set_option linter.unusedSimpArgs false
set_option linter.unusedVariables false

/-- The table of TrailingZeros64 lies in its variable. -/
def Tab (w : World) : Prop := ∀ j, j < 64 → w.cell? ⟨0, j, none⟩ = some (.int .u8 (Lib.deBruijn64tab.getD j 0))
set_option maxHeartbeats 1000000 in
theorem tz_calls (x : Nat) (hx : x < 18446744073709551616) (h0 : x ≠ 0) (w : World) (hT : Tab w) :
    Calls Tryd.prog 26 #[.int .u64 x] w fun e w' => e = .returned (.int .i64 (Lib.ctz 64 x)) ∧ w = w' := by
  obtain ⟨hlow, hk⟩ := Lib.lowest_bit 64 x h0 hx
  obtain ⟨hi, htab⟩ := Lib.deBruijn64_at _ hk
  have hcell := hT _ hi
  rw [htab] at hcell
  have key := tz64_key x _ hx h0 hlow
  obtain ⟨idx, hidx⟩ : ∃ i, i = 2 ^ Lib.ctz 64 x * 285870213051353865 % 18446744073709551616 / 288230376151711744 := ⟨_, rfl⟩
  obtain ⟨k, hkk⟩ : ∃ k, k = Lib.ctz 64 x := ⟨_, rfl⟩
  rw [← hidx] at key hcell hi
  rw [← hkk] at hcell hk ⊢
  have hx0 : ((x : Int) == 0) = false := by rw [beq_eq_false_iff_ne]; omega
  clear hlow htab hidx hkk h0 hT
  go_enter Tryd.func26, Tryd.ntmps26
  go_wp2_with (simp only [key])
  go_ret
  exact ⟨rfl, rfl⟩
end Go.Proofs.YtdlkcohfgfnkbaaDoor.Tz
