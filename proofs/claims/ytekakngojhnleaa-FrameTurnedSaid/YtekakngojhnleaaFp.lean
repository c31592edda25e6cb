/- FrameSums, FrameAll: the plain law: the table's step is eight bits' steps; bits' steps are linear; what the reference sums. -/
import Derived.Test.YtekakngojhnleaaFs
import Derived.Test.YtekakngojhnleaaFns
namespace Go.Proofs.Ytekakngojhnleaa.Fp
open Go.RowKit Go.Proofs.YtekakngojhnleaaW.PrintWords Go.Proofs.Ytekakngojhnleaa.Fs Go.Proofs.Ytekakngojhnleaa.Fns
set_option linter.unusedSimpArgs false
set_option linter.unusedVariables false

theorem nstep_xor (a b : Nat) : nstep (a ^^^ b) = nstep a ^^^ nstep b := by
  unfold nstep
  rw [Nat.xor_div_two]
  have h := @Nat.xor_mod_two_eq_one a b
  by_cases ha : a % 2 = 1 <;> by_cases hb : b % 2 = 1
  · rw [if_neg (by rw [h]; simp [ha, hb]), if_pos ha, if_pos hb]
    rw [Nat.xor_zero]
    apply Nat.eq_of_testBit_eq
    intro i
    simp only [Nat.testBit_xor]
    cases (a / 2).testBit i <;> cases (b / 2).testBit i <;> cases (3988292384 : Nat).testBit i <;> rfl
  · rw [if_pos (by rw [h]; simp [ha, hb]), if_pos ha, if_neg hb, Nat.xor_zero]
    apply Nat.eq_of_testBit_eq
    intro i
    simp only [Nat.testBit_xor]
    cases (a / 2).testBit i <;> cases (b / 2).testBit i <;> cases (3988292384 : Nat).testBit i <;> rfl
  · rw [if_pos (by rw [h]; simp [ha, hb]), if_neg ha, if_pos hb, Nat.xor_zero, Nat.xor_assoc]
  · rw [if_neg (by rw [h]; simp [ha, hb]), if_neg ha, if_neg hb]
    simp only [Nat.xor_zero]
theorem niter_xor : ∀ (k a b : Nat), niter k (a ^^^ b) = niter k a ^^^ niter k b
  | 0, _, _ => rfl
  | k + 1, a, b => by
    unfold niter
    rw [nstep_xor, niter_xor k]
theorem nstep_even (x : Nat) : nstep (2 * x) = x := by
  unfold nstep
  rw [if_neg (by omega), Nat.xor_zero]
  omega
theorem niter_8 (h : Nat) : niter 8 (256 * h) = h := by
  show nstep (nstep (nstep (nstep (nstep (nstep (nstep (nstep (256 * h)))))))) = h
  rw [show 256 * h = 2 * (2 * (2 * (2 * (2 * (2 * (2 * (2 * h))))))) by omega]
  simp only [nstep_even]
/-- High and low apart. -/
theorem xor_low (h l : Nat) (hl : l < 256) : (256 * h) ^^^ l = 256 * h + l := by
  have h1 : ((256 * h) ^^^ l) % 2 ^ 8 = l := by
    rw [Nat.xor_mod_two_pow, show (256 * h) % 2 ^ 8 = 0 by omega, Nat.zero_xor]
    omega
  have h2 : ((256 * h) ^^^ l) >>> 8 = h := by
    rw [Nat.shiftRight_xor_distrib, Nat.shiftRight_eq_div_pow, Nat.shiftRight_eq_div_pow, show (256 * h) / 2 ^ 8 = h by omega, show l / 2 ^ 8 = 0 by omega, Nat.xor_zero]
  rw [Nat.shiftRight_eq_div_pow] at h2
  omega
theorem bstep_eq (r b : Nat) (hb : b < 256) : bstep r b = niter 8 (r ^^^ b) := by
  have h1 : r ^^^ b = (256 * (r / 256)) ^^^ ((r % 256) ^^^ b) := by
    rw [← Nat.xor_assoc, xor_low _ _ (by omega)]
    congr 1
    omega
  rw [h1, niter_xor, niter_8]
  rfl
/-- Two bytes at once. -/
theorem niter_byte (x b : Nat) : niter 8 x ^^^ b = niter 8 (x ^^^ 256 * b) := by
  rw [niter_xor, niter_8]

/-- The reference's inner loop. -/
theorem ref_inner (l : List Int) (x4 : Int) (k : Nat) : ∀ (m r : Nat), m ≤ 8 → r < 4294967296 →
    windbreakref10_Sum.l1 (k + 1 + m) l (r : Int) x4 (8 - m : Int) = windbreakref10_Sum.l0 k l ((niter m r : Nat) : Int) (wrap64 (x4 + 1))
  | 0, r, _, _ => by
    simp only [windbreakref10_Sum.l1]
    rw [if_neg (by omega)]
    rfl
  | m + 1, r, hm, hr => by
    rw [show k + 1 + (m + 1) = (k + 1 + m) + 1 by omega]
    simp only [windbreakref10_Sum.l1]
    rw [if_pos (by omega)]
    have hw : wrap64 ((8 - ((m + 1 : Nat) : Int)) + 1) = (8 - (m : Int)) := by
      rw [wrap64_small (by omega) (by omega)]
      omega
    have hq : (Int.tdiv (r : Int) 2) % 4294967296 = ((r / 2 : Nat) : Int) := by
      rw [Int.tdiv_eq_ediv_of_nonneg (by omega)]
      omega
    have ht : Int.tmod (r : Int) 2 = ((r % 2 : Nat) : Int) := by
      rw [Int.tmod_eq_emod_of_nonneg (by omega)]
      omega
    rw [hw, hq, ht]
    unfold niter
    by_cases e : r % 2 = 1
    · rw [if_pos (by omega)]
      have hs : bits .xor .u32 ((r / 2 : Nat) : Int) 3988292384 = ((nstep r : Nat) : Int) := by
        rw [show (3988292384 : Int) = ((3988292384 : Nat) : Int) from rfl, u32_xor_nat _ _ (by omega) (by omega)]
        unfold nstep
        rw [if_pos e]
      rw [hs]
      exact ref_inner l x4 k m (nstep r) (by omega) (nstep_lt r hr)
    · rw [if_neg (by omega)]
      have hs : r / 2 = nstep r := by
        unfold nstep
        rw [if_neg e, Nat.xor_zero]
      rw [hs]
      exact ref_inner l x4 k m (nstep r) (by omega) (nstep_lt r hr)
theorem ref_outer (l : List Int) (hl : l.length < 140737488351232) (hb : ∀ x ∈ l, 0 ≤ x ∧ x < 256) : ∀ (d i r : Nat), i + d = l.length → r < 4294967296 →
    windbreakref10_Sum.l0 (1 + 10 * d) l (r : Int) (i : Int) = some (((4294967295 ^^^ crc (l.drop i) r : Nat)) : Int)
  | 0, i, r, hi, hr => by
    simp only [Nat.mul_zero, Nat.add_zero, windbreakref10_Sum.l0]
    rw [if_neg (by omega), show i = l.length by omega, List.drop_length]
    unfold crc
    rw [show (4294967295 : Int) = ((4294967295 : Nat) : Int) from rfl, u32_xor_nat _ _ hr (by omega), Nat.xor_comm]
  | d + 1, i, r, hi, hr => by
    have hil : i < l.length := by omega
    rw [show 1 + 10 * (d + 1) = ((1 + 10 * d) + 1 + 8) + 1 by omega]
    simp only [windbreakref10_Sum.l0]
    rw [if_pos (by omega), if_pos (by omega)]
    obtain ⟨h0, h1⟩ := hb _ (rd_mem l i hil)
    obtain ⟨b, hbe⟩ : ∃ b : Nat, rd l (i : Int) = (b : Int) := ⟨(rd l (i : Int)).toNat, by omega⟩
    rw [rd_drop l i hil, hbe]
    rw [hbe] at h0 h1
    have hx : bits .xor .u32 (r : Int) ((b : Int) % 4294967296) = ((r ^^^ b : Nat) : Int) := by
      rw [show (b : Int) % 4294967296 = (b : Int) by omega, u32_xor_nat _ _ hr (by omega)]
    rw [hx]
    have hlt : r ^^^ b < 4294967296 := Nat.xor_lt_two_pow (n := 32) hr (by omega)
    have := ref_inner l (i : Int) (1 + 10 * d) 8 (r ^^^ b) (by omega) hlt
    rw [show (8 - ((8 : Nat) : Int)) = 0 from rfl] at this
    rw [this, wrap64_small (by omega) (by omega), show (i : Int) + 1 = ((i + 1 : Nat) : Int) by omega]
    rw [ref_outer l hl hb d (i + 1) _ (by omega) (niter_lt 8 _ hlt)]
    show _ = some (((4294967295 ^^^ crc (l.drop (i + 1)) (bstep r ((b : Int).toNat)) : Nat)) : Int)
    rw [Int.toNat_natCast, bstep_eq r b (by omega)]
theorem ref_sum (l : List Int) (hl : l.length < 140737488351232) (hb : ∀ x ∈ l, 0 ≤ x ∧ x < 256) : windbreakref10_Sum.f (1 + 10 * l.length) l = some (((4294967295 ^^^ crc l 4294967295 : Nat)) : Int) := by
  have := ref_outer l hl hb l.length 0 4294967295 (by omega) (by omega)
  exact this

theorem crc_append : ∀ (a b : List Int) (r : Nat), crc (a ++ b) r = crc b (crc a r)
  | [], _, _ => rfl
  | x :: a, b, r => by
    show crc (a ++ b) (bstep r x.toNat) = crc b (crc a (bstep r x.toNat))
    exact crc_append a b _
theorem crc_lt (l : List Int) (hb : ∀ x ∈ l, 0 ≤ x ∧ x < 256) : ∀ (r : Nat), r < 4294967296 → crc l r < 4294967296 := by
  induction l with
  | nil => exact fun r h => h
  | cons x l ih =>
    intro r h
    have := hb x List.mem_cons_self
    exact ih (fun y hy => hb y (List.mem_cons_of_mem _ hy)) _ (bstep_lt r _ h (by omega))
theorem mul256_xor (a b : Nat) : 256 * (a ^^^ b) = 256 * a ^^^ 256 * b := by
  apply Nat.eq_of_testBit_eq
  intro i
  rw [Nat.testBit_xor, show (256 : Nat) = 2 ^ 8 from rfl, Nat.testBit_two_pow_mul, Nat.testBit_two_pow_mul, Nat.testBit_two_pow_mul, Nat.testBit_xor]
  cases decide (i ≥ 8) <;> simp
/-- The four bytes of a number behind a state. -/
theorem crc_four (r b0 b1 b2 b3 : Nat) (h0 : b0 < 256) (h1 : b1 < 256) (h2 : b2 < 256) (h3 : b3 < 256) :
    crc [(b0 : Int), b1, b2, b3] r = niter 8 (niter 8 (niter 8 (niter 8 (r ^^^ (b0 + 256 * b1 + 65536 * b2 + 16777216 * b3))))) := by
  show bstep (bstep (bstep (bstep r b0) b1) b2) b3 = _
  rw [bstep_eq _ b0 h0, bstep_eq _ b1 h1, bstep_eq _ b2 h2, bstep_eq _ b3 h3]
  rw [niter_byte _ b3, niter_byte _ b2, niter_byte _ (256 * b3), niter_byte (r ^^^ b0) b1, niter_byte (r ^^^ b0 ^^^ 256 * b1) (256 * b2), niter_byte _ (256 * (256 * b3))]
  have e : b0 + 256 * b1 + 65536 * b2 + 16777216 * b3 = b0 ^^^ 256 * b1 ^^^ 256 * (256 * b2) ^^^ 256 * (256 * (256 * b3)) := by
    have e1 : b2 + 256 * b3 = (256 * b3) ^^^ b2 := by rw [xor_low _ _ h2]; omega
    have e2 : b1 + 256 * (b2 + 256 * b3) = (256 * (b2 + 256 * b3)) ^^^ b1 := by rw [xor_low _ _ h1]; omega
    have e3 : b0 + 256 * b1 + 65536 * b2 + 16777216 * b3 = (256 * (b1 + 256 * (b2 + 256 * b3))) ^^^ b0 := by rw [xor_low _ _ h0]; omega
    rw [e3, e2, e1, mul256_xor, mul256_xor, mul256_xor, Nat.xor_comm _ b0]
    rw [Nat.xor_comm (256 * (256 * (256 * b3))) _, Nat.xor_comm _ (256 * b1)]
    simp only [Nat.xor_assoc]
  rw [e]
  simp only [Nat.xor_assoc]
/-- Four bytes of a state's own complement behind it: one and the same always. -/
theorem crc_own (r b0 b1 b2 b3 : Nat) (h0 : b0 < 256) (h1 : b1 < 256) (h2 : b2 < 256) (h3 : b3 < 256) (h : b0 + 256 * b1 + 65536 * b2 + 16777216 * b3 = 4294967295 ^^^ r) :
    4294967295 ^^^ crc [(b0 : Int), b1, b2, b3] r = 558161692 := by
  rw [crc_four r b0 b1 b2 b3 h0 h1 h2 h3, h, Nat.xor_comm 4294967295 r, ← Nat.xor_assoc, Nat.xor_self, Nat.zero_xor]
  decide +kernel
theorem crc_nine : 4294967295 ^^^ crc [49, 50, 51, 52, 53, 54, 55, 56, 57] 4294967295 = 3421780262 := by decide +kernel
end Go.Proofs.Ytekakngojhnleaa.Fp
