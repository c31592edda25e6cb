/- Division of two limbs by one: plain laws of a quotient's halves. -/
import Derived.Test.YtdaelbihfdlgkaaNl
set_option linter.unusedVariables false
namespace Go.Proofs.Ytdaelbihfdlgkaa.Ne
/-- A limb of 32 bits of a quotient. -/
structure KD (y yn1 yn0 U u qs : Int) : Prop where
  hy : y = yn1 * 4294967296 + yn0
  n0 : 0 ≤ yn0 ∧ yn0 < 4294967296
  n1 : 0 < yn1 ∧ yn1 < 4294967296
  hU : 0 ≤ U ∧ U < y
  hu : 0 ≤ u ∧ u < 4294967296
  lo : qs * y ≤ U * 4294967296 + u
  hi : U * 4294967296 + u < qs * y + y
  q0 : 0 ≤ qs
variable {y yn1 yn0 U u qs q rh : Int}
theorem KD.mk' (hy : y = yn1 * 4294967296 + yn0) (n0 : 0 ≤ yn0 ∧ yn0 < 4294967296) (n1 : 0 < yn1 ∧ yn1 < 4294967296) (hU : 0 ≤ U ∧ U < y) (hu : 0 ≤ u ∧ u < 4294967296) : KD y yn1 yn0 U u ((U * 4294967296 + u) / y) := by
  have hp : 0 < y := by omega
  have h1 := Int.ediv_mul_le (U * 4294967296 + u) (Int.ne_of_gt hp)
  have h2 := Int.lt_ediv_add_one_mul_self (U * 4294967296 + u) hp
  rw [Int.add_mul, Int.one_mul] at h2
  exact ⟨hy, n0, n1, hU, hu, h1, h2, Int.ediv_nonneg (by omega) (by omega)⟩
theorem KD.lt (h : KD y yn1 yn0 U u qs) : qs < 4294967296 := by
  rcases Int.lt_or_le qs 4294967296 with h1 | h1
  · exact h1
  · have h2 : 4294967296 * y ≤ qs * y := Int.mul_le_mul_of_nonneg_right h1 (by have := h.hU; omega)
    have := h.lo; have := h.hU; have := h.hu
    omega
theorem KD.prod (h : KD y yn1 yn0 U u qs) (e : q * yn1 + rh = U) : q * y = (U - rh) * 4294967296 + q * yn0 := by
  have h1 := h.hy
  rw [h1, ← e]
  grind
theorem KD.up (h : KD y yn1 yn0 U u qs) (hq : q * y ≤ U * 4294967296 + u) : q ≤ qs := by
  rcases Int.lt_or_le qs q with h1 | h1
  · have h2 : (qs + 1) * y ≤ q * y := Int.mul_le_mul_of_nonneg_right (by omega) (by have := h.hU; omega)
    rw [Int.add_mul, Int.one_mul] at h2
    have := h.hi
    omega
  · exact h1
theorem KD.step (h : KD y yn1 yn0 U u qs) (e : q * yn1 + rh = U) (hq : qs ≤ q) (hc : 4294967296 ≤ q ∨ 4294967296 * rh + u < q * yn0) : qs ≤ q - 1 := by
  rcases Int.lt_or_le qs q with h1 | h1
  · omega
  · have e1 : qs = q := by omega
    exfalso
    rcases hc with hc | hc
    · have := h.lt; omega
    · have h2 := h.prod e
      have h3 := h.lo
      rw [e1] at h3
      omega
theorem KD.exit1 (h : KD y yn1 yn0 U u qs) (e : q * yn1 + rh = U) (hq : qs ≤ q) (hc : q * yn0 ≤ 4294967296 * rh + u) : q = qs := by
  have h2 := h.prod e
  have h3 := h.up (q := q) (by omega)
  omega
theorem KD.exit2 (h : KD y yn1 yn0 U u qs) (e : q * yn1 + rh = U) (hq : qs ≤ q) (hr : 4294967296 ≤ rh) : q = qs := by
  have hq0 : 0 ≤ q := by have := h.q0; omega
  have hlt : q < 4294967296 := by
    rcases Int.lt_or_le q 4294967296 with h1 | h1
    · exact h1
    · have h2 : 4294967296 * yn1 ≤ q * yn1 := Int.mul_le_mul_of_nonneg_right h1 (by have := h.n1; omega)
      have := h.hy; have := h.n0; have := h.hU
      omega
  refine h.exit1 e hq ?_
  have h3 : q * yn0 ≤ q * 4294967296 := Int.mul_le_mul_of_nonneg_left (by have := h.n0; omega) hq0
  have := h.hu
  omega
theorem KD.start (h : KD y yn1 yn0 U u qs) : qs ≤ U / yn1 ∧ U / yn1 * yn1 + U % yn1 = U ∧ 0 ≤ U % yn1 ∧ U % yn1 < yn1 := by
  have hp := h.n1.1
  have h1 : U / yn1 * yn1 + U % yn1 = U := Int.ediv_mul_add_emod U yn1
  have h2 := Int.emod_nonneg U (Int.ne_of_gt hp)
  have h3 := Int.emod_lt_of_pos U hp
  refine ⟨?_, h1, h2, h3⟩
  rcases Int.lt_or_le (U / yn1) qs with h4 | h4
  · exfalso
    have h5 : (U / yn1 + 1) * yn1 ≤ qs * yn1 := Int.mul_le_mul_of_nonneg_right (by omega) (by omega)
    rw [Int.add_mul, Int.one_mul] at h5
    have h6 : qs * y = qs * yn1 * 4294967296 + qs * yn0 := by rw [h.hy]; grind
    have h7 : 0 ≤ qs * yn0 := Int.mul_nonneg h.q0 h.n0.1
    have := h.lo; have := h.hu
    omega
  · exact h4
/-- What is left behind it. -/
theorem KD.rest (h : KD y yn1 yn0 U u qs) : 0 ≤ U * 4294967296 + u - qs * y ∧ U * 4294967296 + u - qs * y < y := by
  have := h.lo; have := h.hi
  omega
/-- Two limbs of 32 bits are the quotient. -/
theorem two {y yn1 yn0 U u1 u0 q1 q0 : Int} (h1 : KD y yn1 yn0 U u1 q1) (h0 : KD y yn1 yn0 (U * 4294967296 + u1 - q1 * y) u0 q0) {N : Int} (hN : N = U * 18446744073709551616 + u1 * 4294967296 + u0) :
    N / y = q1 * 4294967296 + q0 ∧ N % y = (U * 4294967296 + u1 - q1 * y) * 4294967296 + u0 - q0 * y := by
  have hp : 0 < y := by have := h1.hU; omega
  have hr := h0.rest
  have e : N = (U * 4294967296 + u1 - q1 * y) * 4294967296 + u0 - q0 * y + y * (q1 * 4294967296 + q0) := by rw [hN]; grind
  rw [e]
  constructor
  · rw [Int.add_mul_ediv_left _ _ (Int.ne_of_gt hp), Int.ediv_eq_zero_of_lt hr.1 hr.2]
    omega
  · rw [Int.add_mul_emod_self_left, Int.emod_eq_of_lt hr.1 hr.2]
/-- Both moved up by s bits. -/
theorem scale {a y s r : Int} (hs : 0 < s) (hy : 0 < y) (h : r = (a * s) % (y * s)) : (a * s) / (y * s) = a / y ∧ r / s = a % y := by
  have e1 : (a * s) / (y * s) = a / y := Int.mul_ediv_mul_of_pos_left a y hs
  have e2 : (a * s) % (y * s) = (a % y) * s := by rw [Int.mul_comm a s, Int.mul_comm y s, Int.mul_emod_mul_of_pos _ _ hs, Int.mul_comm]
  exact ⟨e1, by rw [h, e2, Int.mul_ediv_cancel _ (Int.ne_of_gt hs)]⟩

/-- A number's length in bits. -/
theorem bitLen_bounds : ∀ (x : Nat), x < 2 ^ 64 → x < 2 ^ Lib.bitLen x ∧ (x ≠ 0 → 2 ^ (Lib.bitLen x - 1) ≤ x ∧ 0 < Lib.bitLen x) := by
  intro x
  induction x using Nat.strongRecOn with
  | _ x ih =>
    intro hx
    by_cases h0 : x = 0
    · subst h0
      refine ⟨?_, fun h => absurd rfl h⟩
      exact Nat.pow_pos (by omega)
    · obtain ⟨h1, h2⟩ := ih (x / 2) (by omega) (by omega)
      have hh := Lib.bitLen_half x h0 hx
      obtain ⟨L, hL⟩ : ∃ L, L = Lib.bitLen (x / 2) := ⟨_, rfl⟩
      obtain ⟨M, hM⟩ : ∃ M, M = Lib.bitLen x := ⟨_, rfl⟩
      rw [← hL] at h1 h2 hh
      rw [← hM] at hh ⊢
      subst hh
      refine ⟨?_, fun _ => ⟨?_, by omega⟩⟩
      · rw [Nat.add_comm, Nat.pow_succ]; omega
      · rw [Nat.add_sub_cancel_left]
        by_cases h3 : x / 2 = 0
        · have : x = 1 := by omega
          subst this
          have h4 : L = 0 := by
            rcases Nat.eq_zero_or_pos L with h | h
            · exact h
            · have := (Lib.bitLen_le 0 0 (by omega) (by omega))
              rw [show (1 : Nat) / 2 = 0 from rfl] at hL
              omega
          rw [h4]
          exact Nat.le_refl _
        · obtain ⟨h4, h5⟩ := h2 h3
          obtain ⟨K, rfl⟩ : ∃ K, L = K + 1 := ⟨L - 1, by omega⟩
          rw [Nat.add_sub_cancel] at h4
          rw [Nat.pow_succ]
          omega
theorem ofInt_nat {x : Int} (h : Na.in64 x) : (BitVec.ofInt 64 x).toNat = x.toNat := by
  rw [BitVec.toNat_ofInt]
  have := h.1; have := h.2
  rw [Int.emod_eq_of_lt h.1 (by omega)]
theorem and32 {x : Int} (h : Na.in64 x) : bits .and .u64 x 4294967295 = x % 4294967296 := by
  have e1 : (BitVec.ofInt 64 4294967295).toNat = 2 ^ 32 - 1 := by decide
  have key : (BitVec.ofInt 64 x &&& BitVec.ofInt 64 4294967295).toNat = x.toNat % 2 ^ 32 := by
    rw [BitVec.toNat_and, ofInt_nat h, e1, Nat.and_two_pow_sub_one_eq_mod]
  show IntKind.u64.wrap ((BitVec.ofInt 64 x &&& BitVec.ofInt 64 4294967295).toNat : Nat) = _
  rw [key, IntKind.wrap_u64]
  have := h.1; have := h.2
  omega
theorem or_add {a b : Int} (s : Nat) (ha : 0 ≤ a) (hb : 0 ≤ b ∧ b < 2 ^ s) (h : a * 2 ^ s + b < 18446744073709551616) : bits .or .u64 (a * 2 ^ s) b = a * 2 ^ s + b := by
  have h1 : 0 ≤ a * 2 ^ s := Int.mul_nonneg ha (Int.le_of_lt (Int.pow_pos (by omega)))
  have key : (BitVec.ofInt 64 (a * 2 ^ s) ||| BitVec.ofInt 64 b).toNat = (a * 2 ^ s + b).toNat := by
    rw [BitVec.toNat_or, ofInt_nat ⟨h1, by omega⟩, ofInt_nat ⟨hb.1, by omega⟩]
    obtain ⟨A, rfl⟩ := Int.eq_ofNat_of_zero_le ha
    obtain ⟨C, rfl⟩ := Int.eq_ofNat_of_zero_le hb.1
    have e1 : ((A : Int) * 2 ^ s).toNat = 2 ^ s * A := by
      rw [show ((A : Int) * 2 ^ s) = ((2 ^ s * A : Nat) : Int) by push_cast; rw [Int.mul_comm]]
      exact Int.toNat_natCast _
    have e2 : C < 2 ^ s := by have := hb.2; exact_mod_cast this
    rw [e1, Int.toNat_natCast, ← Nat.two_pow_add_eq_or_of_lt e2]
    rw [show ((A : Int) * 2 ^ s + (C : Int)) = ((2 ^ s * A + C : Nat) : Int) by push_cast; rw [Int.mul_comm]]
    exact (Int.toNat_natCast _).symm
  show IntKind.u64.wrap ((BitVec.ofInt 64 (a * 2 ^ s) ||| BitVec.ofInt 64 b).toNat : Nat) = _
  rw [key, IntKind.wrap_u64]
  have := hb.1
  omega
end Go.Proofs.Ytdaelbihfdlgkaa.Ne
