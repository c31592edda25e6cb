/- The document's reader tells what the program's does: Number and Int as plain functions; and the frame of two readers side by side. -/
import Derived.Test.YtkdelfpjaaemnaaNx2
namespace Go.Proofs.Ytkdelfpjaaemnaa.Rd
set_option linter.unusedSimpArgs false
set_option linter.unusedVariables false
open Go.RowKit Go.Proofs.Ytkdelfpjaaemnaa.Rf Go.Proofs.YtkdelfpjaaemnaaW.PrintWords Go.Proofs.YtkdelfpjaaemnaaW.PrintLast Go.Proofs.YtkdelfpjaaemnaaW.PrintMore

theorem drop_at {xs : List Int} {a m : Nat} : (xs.drop a).drop m = xs.drop (a + m) := by rw [List.drop_drop]

theorem wrap_sum (a m : Nat) (h : a + m ≤ 140737488355328) : wrap64 ((a : Int) + (m : Int)) = ((a + m : Nat) : Int) := by unfold wrap64; omega

/-- Number: both readers. -/
theorem ref_number (xs : List Int) (hb : ∀ c ∈ xs, 0 ≤ c ∧ c < 256) (hlen : xs.length ≤ 140737488355328) (at_ : Nat) (hat : at_ ≤ xs.length) (most : Int) :
    ∃ x e at', at' ≤ xs.length ∧ rNum most (xs.drop at_) = (x, e, xs.drop at') ∧ windbreakref09_Reader_Number.f 32 xs (at_ : Int) most = some (x, e, (at' : Int)) := by
  have hn := ref_next xs hb (by omega) at_ hat
  have hle := nx_le (xs.drop at_) 0 0
  simp only [List.length_drop] at hle
  unfold rNum windbreakref09_Reader_Number.f
  obtain ⟨n, m, hx⟩ : ∃ n m, nx 0 0 (xs.drop at_) = (n, m) := ⟨_, _, rfl⟩
  rw [hx] at hn hle ⊢
  rw [hn, Option.bind_some]
  simp only
  by_cases h0 : m = 0
  · exact ⟨0, 13, at_, hat, by rw [if_pos (.inl h0)], by rw [if_pos (by omega)]⟩
  · by_cases h1 : most < n
    · exact ⟨0, 13, at_, hat, by rw [if_pos (.inr h1)], by rw [if_neg (by omega), if_pos h1]⟩
    · refine ⟨n, 0, at_ + m, by simp only at hle; omega, by rw [if_neg (by omega), drop_at], ?_⟩
      rw [if_neg (by omega), if_neg (by omega), wrap_sum at_ m (by simp only at hle; omega)]

theorem ref_j1 (k : Nat) (most n m sz at_ : Int) (xs : List Int) : windbreakref09_Reader_Int.j1 (k + 1) most n m sz xs at_ =
    if sz > IntKind.u64.wrap most then some (0, 13, at_) else if Int.tmod n 2 = 1 then some (wrap64 ((wrap64 (-(wrap64 (IntKind.u64.wrap (Int.tdiv n 2))))) - 1), 0, wrap64 (at_ + m)) else some (wrap64 (IntKind.u64.wrap (Int.tdiv n 2)), 0, wrap64 (at_ + m)) := rfl
theorem ref_j0 (k : Nat) (most n m at_ : Int) (b : Bool) (xs : List Int) : windbreakref09_Reader_Int.j0 (k + 1) most n m b xs at_ =
    if b = true then some (0, 13, at_) else if Int.tmod n 2 = 1 then windbreakref09_Reader_Int.j1 k most n m (IntKind.u64.wrap ((IntKind.u64.wrap (Int.tdiv n 2)) + 1)) xs at_ else windbreakref09_Reader_Int.j1 k most n m (IntKind.u64.wrap (Int.tdiv n 2)) xs at_ := rfl

theorem tdiv_two (n : Nat) : Int.tdiv (n : Int) 2 = ((n / 2 : Nat) : Int) := by rw [Int.tdiv_eq_ediv_of_nonneg (by omega)]; omega
theorem tmod_two (n : Nat) : Int.tmod (n : Int) 2 = ((n % 2 : Nat) : Int) := by rw [Int.tmod_eq_emod_of_nonneg (by omega)]; omega
theorem u64_val (q : Nat) (h : q ≤ 9223372036854775808) : IntKind.u64.wrap (q : Int) = (q : Int) := by rw [IntKind.wrap_u64]; omega
theorem pos_val (q : Nat) (h : q < 9223372036854775808) : wrap64 (q : Int) = (q : Int) := by unfold wrap64; omega
theorem neg_val (q : Nat) (h : q < 9223372036854775808) : wrap64 (wrap64 (-(wrap64 (q : Int))) - 1) = -(q : Int) - 1 := by
  rw [pos_val q h]
  have e : wrap64 (-(q : Int)) = -(q : Int) := by unfold wrap64; omega
  rw [e]
  unfold wrap64
  omega
theorem not_three {m : Nat} {a b c d : Int} (h0 : ¬ m = 0) (h1 : ¬ a < b) (h2 : ¬ c < d) : ¬ (m = 0 ∨ a < b ∨ c < d) := by
  rintro (h | h | h)
  · exact h0 h
  · exact h1 h
  · exact h2 h
/-- Int: both readers. -/
theorem ref_int (xs : List Int) (hb : ∀ c ∈ xs, 0 ≤ c ∧ c < 256) (hlen : xs.length ≤ 140737488355328) (at_ : Nat) (hat : at_ ≤ xs.length) (most : Int) :
    ∃ x e at', at' ≤ xs.length ∧ rInt most (xs.drop at_) = (x, e, xs.drop at') ∧ windbreakref09_Reader_Int.f 32 xs (at_ : Int) most = some (x, e, (at' : Int)) := by
  have hn := ref_next xs hb (by omega) at_ hat
  have hle := nx_le (xs.drop at_) 0 0
  have hr := nx_range (xs.drop at_) 0 0
  simp only [List.length_drop] at hle
  unfold rInt windbreakref09_Reader_Int.f
  obtain ⟨n', m, hx⟩ : ∃ n m, nx 0 0 (xs.drop at_) = (n, m) := ⟨_, _, rfl⟩
  rw [hx] at hn hle hr ⊢
  simp only at hr hle
  obtain ⟨n, rfl⟩ := Int.eq_ofNat_of_zero_le hr.1
  have hn64 : n < 18446744073709551616 := by have := hr.2; omega
  rw [hn, Option.bind_some]
  simp only
  by_cases h0 : m = 0
  · exact ⟨0, 13, at_, hat, by rw [if_pos (.inl h0)], by rw [if_pos (by omega), ref_j0, if_pos rfl]⟩
  · rw [if_neg (show ¬ (m : Int) = 0 by omega), ref_j0]
    by_cases hneg : most < 0
    · exact ⟨0, 13, at_, hat, by rw [if_pos (.inr (.inl hneg))], by rw [if_pos (by simpa using hneg)]⟩
    · rw [if_neg (show ¬ decide (most < 0) = true by simpa using hneg)]
      have hq : n / 2 < 9223372036854775808 := by omega
      have hd := tdiv_two n
      have ht := tmod_two n
      have hw := u64_val (n / 2) (Nat.le_of_lt hq)
      have hat2 : at_ + m ≤ xs.length := by omega
      have hsum := wrap_sum at_ m (by omega)
      rw [hd, ht, hw, szI_eq n hn64, valI_eq n hn64]
      by_cases hp : n % 2 = 1
      · have hw1 : IntKind.u64.wrap (((n / 2 : Nat) : Int) + 1) = ((n / 2 + n % 2 : Nat) : Int) := by rw [hp]; exact u64_val (n / 2 + 1) (Nat.succ_le_of_lt hq)
        rw [if_pos (show ((n % 2 : Nat) : Int) = 1 by omega), hw1, ref_j1]
        by_cases hs : IntKind.u64.wrap most < ((n / 2 + n % 2 : Nat) : Int)
        · exact ⟨0, 13, at_, hat, by rw [if_pos (.inr (.inr hs))], by rw [if_pos hs]⟩
        · refine ⟨-((n / 2 : Nat) : Int) - 1, 0, at_ + m, hat2, by rw [if_neg (not_three h0 hneg hs), if_pos hp, drop_at], ?_⟩
          have hv := neg_val (n / 2) hq
          rw [if_neg hs, hd, ht, hw, if_pos (show ((n % 2 : Nat) : Int) = 1 by omega), hv, hsum]
      · have hw1 : ((n / 2 : Nat) : Int) = ((n / 2 + n % 2 : Nat) : Int) := by omega
        rw [if_neg (show ¬ ((n % 2 : Nat) : Int) = 1 by omega), ref_j1]
        by_cases hs : IntKind.u64.wrap most < ((n / 2 + n % 2 : Nat) : Int)
        · exact ⟨0, 13, at_, hat, by rw [if_pos (.inr (.inr hs))], by rw [if_pos (by rw [hw1]; exact hs)]⟩
        · refine ⟨((n / 2 : Nat) : Int), 0, at_ + m, hat2, by rw [if_neg (not_three h0 hneg hs), if_neg hp, drop_at], ?_⟩
          have hv := pos_val (n / 2) hq
          rw [if_neg (by rw [hw1]; exact hs), hd, ht, hw, if_neg (show ¬ ((n % 2 : Nat) : Int) = 1 by omega), hv, hsum]

theorem below_of_keep {w0 W W' wx : World} {h : Nat} {B B' : Nat} (hB : Below w0.heap.size w0 W) (hK : KeepBut W W' h none) (hh : w0.heap.size ≤ h) (h1 : Below B wx W) (h2 : Below B' wx W') : Below w0.heap.size w0 W' :=
  ⟨h2.os.trans (h1.os.symm.trans hB.os), h2.tape.trans (h1.tape.symm.trans hB.tape), h2.output.trans (h1.output.symm.trans hB.output), Nat.le_trans hB.size hK.1,
    fun k hk => (hK.2 k (Nat.lt_of_lt_of_le hk hB.size) (by omega) (by simp)).trans (hB.block k hk)⟩
theorem IsS40.same {w0 W W' : World} {g : Nat} {f0 : List Int} {f1 : Int} (h : IsS40 w0 W g f0 f1) (e : W'.heap[g]? = W.heap[g]?) : IsS40 w0 W' g f0 f1 := by
  obtain ⟨A, c, hb, hg, hr⟩ := h
  exact ⟨A, c, e.trans hb, hg, hr⟩
end Go.Proofs.Ytkdelfpjaaemnaa.Rd
