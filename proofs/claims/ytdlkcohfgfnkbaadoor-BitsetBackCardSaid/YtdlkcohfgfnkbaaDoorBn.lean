/- The numbers of a set of bits: plain laws. -/
import Derived.Lib.TrailingZeros
import Derived.Test.YtdlkcohfgfnkbaaDoorWWords
namespace Go.Proofs.YtdlkcohfgfnkbaaDoor.Bn
open Go.RowKit
set_option linter.unusedSimpArgs false
set_option linter.unusedVariables false

/-- The numbers of the bits of a word, rising. -/
def bitsW (x : Nat) : List Nat := (List.range 64).filter (fun j => x.testBit j)
theorem bitsW_zero : bitsW 0 = [] := by unfold bitsW; simp
/-- What x & (x - 1) is. -/
theorem low_parts (x : Nat) (h0 : x ≠ 0) (h : x < 18446744073709551616) : ∃ m, x = 2 ^ Lib.ctz 64 x * (2 * m + 1) ∧ Lib.ctz 64 x < 64 := by
  obtain ⟨m, h1, h2⟩ := Lib.ctzFrom_spec 64 x (by omega) (by omega)
  have : Lib.ctz 64 x = Lib.ctzFrom 64 x := by unfold Lib.ctz; rw [if_neg h0]
  rw [this]
  exact ⟨m, h1, h2⟩
theorem less_bit (x : Nat) (h0 : x ≠ 0) (h : x < 18446744073709551616) (j : Nat) : (x &&& (x - 1)).testBit j = (x.testBit j && decide (j ≠ Lib.ctz 64 x)) := by
  obtain ⟨m, hx, hk⟩ := low_parts x h0 h
  generalize Lib.ctz 64 x = k at hx hk ⊢
  have hp : 0 < 2 ^ k := Nat.two_pow_pos k
  have e1 : x = 2 ^ k * (2 * m + 1) + 0 := by rw [hx]; omega
  have e2 : x - 1 = 2 ^ k * (2 * m) + (2 ^ k - 1) := by
    rw [hx, Nat.mul_add, Nat.mul_one]
    omega
  rw [Nat.testBit_and, e2]
  have t1 : x.testBit j = if j < k then (0 : Nat).testBit j else (2 * m + 1).testBit (j - k) := by rw [e1]; exact Nat.testBit_two_pow_mul_add _ hp j
  rw [t1, Nat.testBit_two_pow_mul_add _ (by omega) j]
  by_cases hj : j < k
  · rw [if_pos hj, Nat.zero_testBit]; simp
  · rw [if_neg hj, if_neg hj]
    by_cases he : j = k
    · subst he
      simp
    · obtain ⟨d, hd⟩ : ∃ d, j - k = d + 1 := ⟨j - k - 1, by omega⟩
      rw [hd, Nat.testBit_succ, Nat.testBit_succ, show (2 * m + 1) / 2 = m by omega, show 2 * m / 2 = m by omega]
      simp [he]
theorem ctz_bit (x : Nat) (h0 : x ≠ 0) (h : x < 18446744073709551616) : x.testBit (Lib.ctz 64 x) = true ∧ (∀ j, j < Lib.ctz 64 x → x.testBit j = false) ∧ Lib.ctz 64 x < 64 := by
  obtain ⟨m, hx, hk⟩ := low_parts x h0 h
  generalize Lib.ctz 64 x = k at hx hk ⊢
  have hp : 0 < 2 ^ k := Nat.two_pow_pos k
  have e1 : x = 2 ^ k * (2 * m + 1) + 0 := by rw [hx]; omega
  have t1 : ∀ j, x.testBit j = if j < k then (0 : Nat).testBit j else (2 * m + 1).testBit (j - k) := fun j => by rw [e1]; exact Nat.testBit_two_pow_mul_add _ hp j
  refine ⟨?_, fun j hj => ?_, hk⟩
  · rw [t1, if_neg (by omega), Nat.sub_self]
    simp
  · rw [t1, if_pos hj, Nat.zero_testBit]
theorem less_lt (x : Nat) (h0 : x ≠ 0) : x &&& (x - 1) < x := Nat.lt_of_le_of_lt Nat.and_le_right (by omega)
theorem filter_split (p q : Nat → Bool) (k : Nat) : ∀ n, k < n → (∀ j, j < k → p j = false) → p k = true → (∀ j, q j = (p j && decide (j ≠ k))) → (List.range n).filter p = k :: (List.range n).filter q
  | 0, h, _, _, _ => by omega
  | n + 1, h, h1, h2, h3 => by
    rw [List.range_succ, List.filter_append, List.filter_append]
    by_cases e : k = n
    · subst e
      have z1 : (List.range k).filter p = [] := List.filter_eq_nil_iff.2 (fun j hj => by rw [h1 j (List.mem_range.1 hj)]; decide)
      have z2 : (List.range k).filter q = [] := List.filter_eq_nil_iff.2 (fun j hj => by rw [h3, h1 j (List.mem_range.1 hj)]; simp)
      rw [z1, z2, List.filter_cons_of_pos h2, List.filter_cons_of_neg (by rw [h3]; simp)]
      rfl
    · rw [filter_split p q k n (by omega) h1 h2 h3]
      have : [n].filter p = [n].filter q := by
        have hq : q n = p n := by rw [h3]; simp [show ¬ n = k from fun h => e h.symm]
        rw [List.filter_cons, List.filter_cons, hq]
        rfl
      rw [this]
      rfl
theorem bitsW_next (x : Nat) (h0 : x ≠ 0) (h : x < 18446744073709551616) : bitsW x = Lib.ctz 64 x :: bitsW (x &&& (x - 1)) := by
  obtain ⟨h1, h2, h3⟩ := ctz_bit x h0 h
  exact filter_split _ _ _ 64 h3 h2 h1 (fun j => less_bit x h0 h j)
/-- The numbers of word i. -/
def wordN (ws : List Int) (i : Nat) : List Int := (bitsW (ws.getD i 0).toNat).map (fun b => ((64 * i + b : Nat) : Int))
/-- The numbers of the first i words. -/
def numsTo (ws : List Int) (i : Nat) : List Int := (List.range i).flatMap (wordN ws)
theorem numsTo_zero (ws : List Int) : numsTo ws 0 = [] := rfl
theorem numsTo_succ (ws : List Int) (i : Nat) : numsTo ws (i + 1) = numsTo ws i ++ wordN ws i := by
  unfold numsTo
  rw [List.range_succ, List.flatMap_append]
  simp
theorem bitsW_len (x : Nat) : (bitsW x).length ≤ 64 := by
  unfold bitsW
  exact Nat.le_trans (List.length_filter_le _ _) (by simp)
theorem numsTo_len (ws : List Int) : ∀ i, (numsTo ws i).length ≤ 64 * i
  | 0 => Nat.le_refl _
  | i + 1 => by
    have := numsTo_len ws i
    have h := bitsW_len (ws.getD i 0).toNat
    rw [numsTo_succ, List.length_append]
    unfold wordN
    rw [List.length_map]
    omega
end Go.Proofs.YtdlkcohfgfnkbaaDoor.Bn
