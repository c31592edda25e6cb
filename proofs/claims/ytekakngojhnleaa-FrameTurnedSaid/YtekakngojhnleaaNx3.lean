/- The document's reader tells what the program's does: Number and Int as plain functions; and the frame of two readers side by side. -/
import Derived.Test.YtekakngojhnleaaNx2
namespace Go.Proofs.Ytekakngojhnleaa.Rd
set_option linter.unusedSimpArgs false
set_option linter.unusedVariables false
open Go.RowKit Go.Proofs.Ytekakngojhnleaa.Rf Go.Proofs.YtekakngojhnleaaW.PrintWords Go.Proofs.YtekakngojhnleaaW.PrintLast Go.Proofs.YtekakngojhnleaaW.PrintMore

theorem drop_at {xs : List Int} {a m : Nat} : (xs.drop a).drop m = xs.drop (a + m) := by rw [List.drop_drop]

theorem wrap_sum (a m : Nat) (h : a + m ≤ 140737488355328) : wrap64 ((a : Int) + (m : Int)) = ((a + m : Nat) : Int) := by unfold wrap64; omega

/-- Number: both readers. -/
theorem ref_number (xs : List Int) (hb : ∀ c ∈ xs, 0 ≤ c ∧ c < 256) (hlen : xs.length ≤ 140737488355328) (at_ : Nat) (hat : at_ ≤ xs.length) (most : Int) :
    ∃ x e at', at' ≤ xs.length ∧ rNum most (xs.drop at_) = (x, e, xs.drop at') ∧ windbreakref09_Reader_Number.f 32 xs (at_ : Int) most = some (x, e, (at' : Int)) := by
  have hn := ref_next xs hb (by omega) at_ hat
  have hle := nx_le (xs.drop at_) 0 0
  simp only [List.length_drop] at hle
  unfold rNum windbreakref09_Reader_Number.f
  obtain ⟨n, m, hx⟩ : ∃ n m, nx 0 0 (xs.drop at_) = (n, m) := ⟨_, _, rfl⟩
  rw [hx] at hn hle ⊢
  rw [hn, Option.bind_some]
  simp only
  by_cases h0 : m = 0
  · exact ⟨0, 13, at_, hat, by rw [if_pos (.inl h0)], by rw [if_pos (by omega)]⟩
  · by_cases h1 : most < n
    · exact ⟨0, 13, at_, hat, by rw [if_pos (.inr h1)], by rw [if_neg (by omega), if_pos h1]⟩
    · refine ⟨n, 0, at_ + m, by simp only at hle; omega, by rw [if_neg (by omega), drop_at], ?_⟩
      rw [if_neg (by omega), if_neg (by omega), wrap_sum at_ m (by simp only at hle; omega)]

theorem below_of_keep {w0 W W' wx : World} {h : Nat} {B B' : Nat} (hB : Below w0.heap.size w0 W) (hK : KeepBut W W' h none) (hh : w0.heap.size ≤ h) (h1 : Below B wx W) (h2 : Below B' wx W') : Below w0.heap.size w0 W' :=
  ⟨h2.os.trans (h1.os.symm.trans hB.os), h2.tape.trans (h1.tape.symm.trans hB.tape), h2.output.trans (h1.output.symm.trans hB.output), Nat.le_trans hB.size hK.1,
    fun k hk => (hK.2 k (Nat.lt_of_lt_of_le hk hB.size) (by omega) (by simp)).trans (hB.block k hk)⟩
theorem IsS118.same {w0 W W' : World} {g : Nat} {f0 : List Int} {f1 : Int} (h : IsS118 w0 W g f0 f1) (e : W'.heap[g]? = W.heap[g]?) : IsS118 w0 W' g f0 f1 := by
  obtain ⟨A, c, hb, hg, hr⟩ := h
  exact ⟨A, c, e.trans hb, hg, hr⟩
end Go.Proofs.Ytekakngojhnleaa.Rd
