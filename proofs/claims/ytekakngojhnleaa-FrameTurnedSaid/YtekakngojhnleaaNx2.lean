/- What a number's code is, and that it is read as it was made; plain laws. -/
import Derived.Test.YtekakngojhnleaaNx
namespace Go.Proofs.Ytekakngojhnleaa.Rd
set_option linter.unusedSimpArgs false
set_option linter.unusedVariables false
open Go.RowKit Go.Proofs.Ytekakngojhnleaa.Rf Go.Proofs.Ytekakngojhnleaa.Fns Go.Proofs.Ytekakngojhnleaa.Plain Go.Proofs.YtekakngojhnleaaW.PrintWords Go.Proofs.YtekakngojhnleaaW.PrintLast Go.Proofs.YtekakngojhnleaaW.PrintMore

/-- The code of a number below 128 ^ (k + 1). -/
def enc : Nat → Nat → List Int
  | 0, x => [(x : Int)]
  | k + 1, x => if x < 128 then [(x : Int)] else ((x % 128 + 128 : Nat) : Int) :: enc k (x / 128)

theorem enc_pos (k x : Nat) : 1 ≤ (enc k x).length := by
  cases k with
  | zero => simp [enc]
  | succ k => unfold enc; split <;> simp
theorem enc_le (k : Nat) : ∀ x, (enc k x).length ≤ k + 1 := by
  induction k with
  | zero => intro x; simp [enc]
  | succ k ih =>
    intro x
    unfold enc
    split
    · simp
    · have := ih (x / 128); simp only [List.length_cons]; omega
theorem enc_bytes (k : Nat) : ∀ x, x < 128 ^ (k + 1) → ∀ c ∈ enc k x, 0 ≤ c ∧ c < 256 := by
  induction k with
  | zero =>
    intro x hx c hc
    simp [enc] at hc hx
    omega
  | succ k ih =>
    intro x hx c hc
    unfold enc at hc
    split at hc
    · simp at hc; omega
    · rcases List.mem_cons.1 hc with rfl | hc
      · omega
      · refine ih (x / 128) ?_ c hc
        have hp : (128 : Nat) ^ (k + 1 + 1) = 128 ^ (k + 1) * 128 := Nat.pow_succ ..
        rw [hp] at hx
        exact Nat.div_lt_of_lt_mul (by omega)

theorem number_enc (k : Nat) : ∀ (x : Nat) (acc : List Int), x < 128 ^ (k + 1) → acc.length + k < 140737488355328 → codec_Number.l0 (k + 1) (x : Int) acc = some (acc ++ enc k x) := by
  induction k with
  | zero =>
    intro x acc hx ha
    simp at hx
    rw [codec_Number.l0, if_neg (by omega), if_pos (by omega)]
    simp [enc]
    omega
  | succ k ih =>
    intro x acc hx ha
    rw [codec_Number.l0]
    by_cases h : x < 128
    · rw [if_neg (by omega), if_pos (by omega)]
      have e : ((x : Int) % 256) = x := by omega
      rw [e]
      simp [enc, h]
    · rw [if_pos (by omega), if_pos (by omega), or_digit]
      have hd : (x : Int) / 128 = ((x / 128 : Nat) : Int) := by omega
      have hm : (x : Int) % 128 + 128 = ((x % 128 + 128 : Nat) : Int) := by omega
      have hp : (128 : Nat) ^ (k + 1 + 1) = 128 ^ (k + 1) * 128 := Nat.pow_succ ..
      rw [hp] at hx
      rw [hd, hm, ih (x / 128) _ (Nat.div_lt_of_lt_mul (by omega)) (by simp; omega)]
      conv => rhs; rw [enc]
      rw [if_neg h]
      simp

theorem number_is (x : Nat) (hx : x < 18446744073709551616) : codec_Number.f 10 (x : Int) = some (enc 9 x) := by
  have h10 : (128 : Nat) ^ (9 + 1) = 1180591620717411303424 := by decide
  have := number_enc 9 x [] (by rw [h10]; omega) (by simp)
  unfold codec_Number.f
  simpa using this

/-- A code is read as it was made. -/
theorem sp_enc (k : Nat) : ∀ (x i m : Nat) (rest : List Int), x < 128 ^ (k + 1) → x * 128 ^ i < 18446744073709551616 → i ≤ 9 → (0 < x ∨ i = 0) →
    sp i (m : Int) (enc k x ++ rest) = (((m + x * 128 ^ i : Nat) : Int), i + (enc k x).length) := by
  have small : ∀ (x i m : Nat) (rest : List Int), x < 128 → x * 128 ^ i < 18446744073709551616 → (0 < x ∨ i = 0) → sp i (m : Int) ((x : Int) :: rest) = (((m + x * 128 ^ i : Nat) : Int), i + 1) := by
    intro x i m rest hx hlt hz
    have h9 : ¬ (i = 9 ∧ (((x : Int) % 128) > 1 ∨ ¬ (x : Int) < 128)) := by
      rintro ⟨rfl, h⟩
      have e : (128 : Nat) ^ 9 = 9223372036854775808 := by decide
      rw [e] at hlt
      omega
    unfold sp
    rw [if_neg h9, if_neg (by omega), if_pos (by omega), sum_cast]
    have e : (x : Int) % 128 = x := by omega
    rw [e]
  induction k with
  | zero =>
    intro x i m rest hx hlt hi hz
    simp at hx
    exact small x i m rest hx hlt hz
  | succ k ih =>
    intro x i m rest hx hlt hi hz
    rw [enc]
    by_cases h : x < 128
    · rw [if_pos h]
      exact small x i m rest h hlt hz
    · rw [if_neg h]
      have hi8 : i ≤ 8 := by
        rcases Nat.lt_or_ge i 9 with h' | h'
        · omega
        · exfalso
          obtain rfl : i = 9 := by omega
          have e : (128 : Nat) ^ 9 = 9223372036854775808 := by decide
          rw [e] at hlt
          omega
      have hp : (128 : Nat) ^ (k + 1 + 1) = 128 ^ (k + 1) * 128 := Nat.pow_succ ..
      rw [hp] at hx
      have hpi : (128 : Nat) ^ (i + 1) = 128 ^ i * 128 := Nat.pow_succ ..
      have hx128 : x = x / 128 * 128 + x % 128 := by omega
      have hmul : x * 128 ^ i = x / 128 * (128 ^ i * 128) + x % 128 * 128 ^ i := by
        conv => lhs; rw [hx128]
        rw [Nat.add_mul, Nat.mul_assoc, Nat.mul_comm 128]
      have hlt' : x / 128 * 128 ^ (i + 1) < 18446744073709551616 := by rw [hpi]; omega
      rw [List.cons_append, sp]
      have e2 : ((x % 128 + 128 : Nat) : Int) % 128 = ((x % 128 : Nat) : Int) := by omega
      rw [if_neg (fun h' => by omega), if_neg (fun h' => by omega), if_neg (by omega), e2, ← sum_cast, ih (x / 128) (i + 1) _ rest (Nat.div_lt_of_lt_mul (by omega)) hlt' (by omega) (.inl (by omega))]
      have : m + x % 128 * 128 ^ i + x / 128 * 128 ^ (i + 1) = m + x * 128 ^ i := by rw [hpi]; omega
      rw [this]
      simp only [List.length_cons]
      congr 1
      omega

theorem nx_enc (x : Nat) (hx : x < 18446744073709551616) (rest : List Int) (hr : ∀ c ∈ rest, 0 ≤ c ∧ c < 256) : nx 0 0 (enc 9 x ++ rest) = ((x : Int), (enc 9 x).length) := by
  have h10 : (128 : Nat) ^ (9 + 1) = 1180591620717411303424 := by decide
  have hb : ∀ c ∈ enc 9 x ++ rest, 0 ≤ c ∧ c < 256 := by
    intro c hc
    rcases List.mem_append.1 hc with hc | hc
    · exact enc_bytes 9 x (by rw [h10]; omega) c hc
    · exact hr c hc
  have h := nx_sp (enc 9 x ++ rest) hb 0 0 (by omega) (by simp)
  have h2 := sp_enc 9 x 0 0 rest (by rw [h10]; omega) (by simpa using hx) (by omega) (.inr rfl)
  simp only [Nat.pow_zero, Nat.mul_one, Nat.zero_add] at h2
  rw [← h2]
  exact h

/-- What was read, made again, are the bytes that were read. -/
theorem sp_again (b : List Int) : (∀ c ∈ b, 0 ≤ c ∧ c < 256) → ∀ (i m : Nat) (v : Int) (K : Nat), i ≤ 9 → sp i (m : Int) b = (v, K) → K ≠ 0 →
    ∃ x : Nat, v = ((m + x * 128 ^ i : Nat) : Int) ∧ (0 < x ∨ i = 0) ∧ i < K ∧ ∀ k, 9 ≤ k + i → enc k x = b.take (K - i) := by
  induction b with
  | nil =>
    intro _ i m v K _ h hK
    simp [sp] at h
    omega
  | cons c cs ih =>
    intro hb i m v K hi h hK
    obtain ⟨h0, h1⟩ := hb c (by simp)
    rw [sp] at h
    by_cases ha : i = 9 ∧ (c % 128 > 1 ∨ ¬ c < 128)
    · rw [if_pos ha] at h
      injection h with _ h
      omega
    · rw [if_neg ha] at h
      by_cases hz : c < 128 ∧ c % 128 = 0 ∧ i > 0
      · rw [if_pos hz] at h
        injection h with _ h
        omega
      · rw [if_neg hz] at h
        obtain ⟨n, rfl⟩ := Int.eq_ofNat_of_zero_le h0
        by_cases hl : (n : Int) < 128
        · rw [if_pos hl] at h
          injection h with h2 h3
          have e : (n : Int) % 128 = n := by omega
          rw [e, ← sum_cast] at h2
          subst h2 h3
          refine ⟨n, rfl, by omega, by omega, fun k hk => ?_⟩
          have e1 : i + 1 - i = 1 := by omega
          rw [e1]
          cases k with
          | zero => simp [enc]
          | succ k => rw [enc, if_pos (by omega)]; simp
        · rw [if_neg hl] at h
          have e : (n : Int) % 128 = ((n % 128 : Nat) : Int) := by omega
          rw [e, ← sum_cast] at h
          have hi8 : i ≤ 8 := by omega
          obtain ⟨x, hv, hx, hK2, henc⟩ := ih (fun d hd => hb d (by simp [hd])) (i + 1) _ v K (by omega) h hK
          have hx0 : 0 < x := by omega
          refine ⟨n % 128 + 128 * x, ?_, .inl (by omega), by omega, fun k hk => ?_⟩
          · rw [hv]
            congr 1
            rw [Nat.pow_succ, Nat.add_mul, Nat.mul_comm (128 ^ i) 128, ← Nat.mul_assoc, Nat.mul_comm x 128]
            omega
          · obtain ⟨k, rfl⟩ : ∃ k', k = k' + 1 := ⟨k - 1, by omega⟩
            rw [enc, if_neg (by omega)]
            have e3 : K - i = (K - (i + 1)) + 1 := by omega
            rw [e3, List.take_succ_cons, ← henc k (by omega)]
            have e4 : (n % 128 + 128 * x) % 128 + 128 = n := by omega
            have e5 : (n % 128 + 128 * x) / 128 = x := by omega
            rw [e4, e5]

theorem and_one (n : Nat) (h : n < 18446744073709551616) : Go.bits .and .u64 (n : Int) 1 = ((n % 2 : Nat) : Int) := by
  have := u64_and_nat n 1 h (by omega)
  rw [nat_mask1] at this
  exact this
theorem bits_xor_i64 (a b : Int) : Go.bits .xor .i64 a b = IntKind.i64.wrap ((BitVec.ofInt 64 a ^^^ BitVec.ofInt 64 b).toNat : Int) := rfl
theorem xor_zero (a : Int) (h0 : 0 ≤ a) (h1 : a < 9223372036854775808) : Go.bits .xor .i64 a 0 = a := by
  rw [bits_xor_i64]
  have e : BitVec.ofInt 64 0 = 0#64 := rfl
  rw [e, BitVec.xor_zero, BitVec.toNat_ofInt, IntKind.wrap_i64]
  have : (2 ^ 64 : Nat) = 18446744073709551616 := by decide
  rw [this]
  omega
theorem xor_ones (a : Int) (h0 : 0 ≤ a) (h1 : a < 9223372036854775808) : Go.bits .xor .i64 a (-1) = -a - 1 := by
  rw [bits_xor_i64]
  have e : BitVec.ofInt 64 (-1) = BitVec.allOnes 64 := rfl
  rw [e, BitVec.xor_allOnes, BitVec.toNat_not, BitVec.toNat_ofInt, IntKind.wrap_i64]
  have : (2 ^ 64 : Nat) = 18446744073709551616 := by decide
  rw [this]
  omega

/-- The number whose size and sign a whole number's code tells. -/
theorem valI_eq (n : Nat) (h : n < 18446744073709551616) : valI (n : Int) = if n % 2 = 1 then -((n / 2 : Nat) : Int) - 1 else ((n / 2 : Nat) : Int) := by
  unfold valI
  rw [and_one n h]
  have hd : wrap64 ((n : Int) / 2) = ((n / 2 : Nat) : Int) := by unfold wrap64; omega
  rw [hd]
  by_cases hp : n % 2 = 1
  · rw [if_pos hp, hp]
    have : wrap64 (-wrap64 ((1 : Nat) : Int)) = -1 := by unfold wrap64; omega
    rw [this, xor_ones _ (by omega) (by omega)]
  · rw [if_neg hp]
    have h0 : n % 2 = 0 := by omega
    rw [h0]
    have : wrap64 (-wrap64 ((0 : Nat) : Int)) = 0 := by unfold wrap64; omega
    rw [this, xor_zero _ (by omega) (by omega)]
theorem szI_eq (n : Nat) (h : n < 18446744073709551616) : szI (n : Int) = ((n / 2 + n % 2 : Nat) : Int) := by
  unfold szI
  rw [and_one n h, IntKind.wrap_u64]
  omega
end Go.Proofs.Ytekakngojhnleaa.Rd
