/- The codec's writers and the document's give the same bytes: plain laws on numbers and lists. -/
import Derived.Test.YtekakngojhnleaaFns
import Derived.Laws.BitsAllLaws
import Derived.Laws.Bits64
namespace Go.Proofs.Ytekakngojhnleaa.Plain
open Go.RowKit Go.Proofs.Ytekakngojhnleaa.Fns Go.Proofs.YtekakngojhnleaaW.PrintWords Go.Proofs.YtekakngojhnleaaW.PrintLast

theorem u64_bounds {x : Int} (h : (Lit.int .u64 x).wf = true) : 0 ≤ x ∧ x < 18446744073709551616 := by
  simp only [Lit.wf, Bool.and_eq_true, IntKind.min, IntKind.max, IntKind.bits, IntKind.signed] at h
  simp at h
  omega

theorem i64_bounds {x : Int} (h : (Lit.int .i64 x).wf = true) : -9223372036854775808 ≤ x ∧ x < 9223372036854775808 := by
  simp only [Lit.wf, Bool.and_eq_true, IntKind.min, IntKind.max, IntKind.bits, IntKind.signed] at h
  simp at h
  omega

theorem or_digit (x : Int) : Go.bits .or .u8 (x % 256) 128 = x % 128 + 128 := by
  rw [u8_or _ _ (by omega) (by omega) (by omega) (by omega)]
  obtain ⟨n, hn⟩ : ∃ n : Nat, x % 256 = n := ⟨(x % 256).toNat, by omega⟩
  rw [hn]
  have hlt : n < 256 := by omega
  have key : ∀ n : Nat, n < 256 → n ||| 128 = n % 128 + 128 := by decide +kernel
  have h128 : (128 : Int).toNat = 128 := rfl
  rw [Int.toNat_natCast, h128, key n hlt]
  omega

theorem ref_digit (x : Int) (h : 0 ≤ x) : (IntKind.u64.wrap ((Int.tmod x 128) + 128)) % 256 = x % 128 + 128 := by
  rw [IntKind.wrap_u64, Int.tmod_eq_emod_of_nonneg h]
  omega

theorem ref_next (x : Int) (h : 0 ≤ x) (hx : x < 18446744073709551616) : IntKind.u64.wrap (Int.tdiv x 128) = x / 128 := by
  rw [IntKind.wrap_u64, Int.tdiv_eq_ediv_of_nonneg h]
  omega

theorem number_eq (k : Nat) : ∀ (x : Int) (acc : List Int), 0 ≤ x → x < 18446744073709551616 → windbreakref09_Number.l0 k x acc = codec_Number.l0 k x acc := by
  induction k with
  | zero => intros; rfl
  | succ k ih =>
    intro x acc h0 h1
    simp only [windbreakref09_Number.l0, codec_Number.l0]
    rw [ref_next x h0 h1, ref_digit x h0, or_digit, ih _ _ (by omega) (by omega)]

theorem number_some (k : Nat) : ∀ (x : Int) (acc : List Int), x < 128 ^ (k + 1) → acc.length + k < 140737488355328 → ∃ r, codec_Number.l0 (k + 1) x acc = some r ∧ r.length ≤ acc.length + k + 1 := by
  induction k with
  | zero =>
    intro x acc hx ha
    rw [codec_Number.l0, if_neg (by omega), if_pos (by omega)]
    exact ⟨_, rfl, by simp⟩
  | succ k ih =>
    intro x acc hx ha
    rw [codec_Number.l0]
    by_cases h : x ≥ 128
    · rw [if_pos h, if_pos (by omega)]
      have hp : (128 : Int) ^ (k + 1 + 1) = 128 ^ (k + 1) * 128 := by rw [Int.pow_succ]
      obtain ⟨r, hr, hl⟩ := ih (x / 128) (acc ++ [Go.bits .or .u8 (x % 256) 128]) (by omega) (by simp; omega)
      exact ⟨r, hr, by simp at hl; omega⟩
    · rw [if_neg h, if_pos (by omega)]
      exact ⟨_, rfl, by simp⟩

theorem number_all (x : Int) (h : 0 ≤ x) (hx : x < 18446744073709551616) : ∃ r, codec_Number.f 10 x = some r ∧ windbreakref09_Number.f 10 x = some r ∧ r.length ≤ 10 := by
  obtain ⟨r, hr, hl⟩ := number_some 9 x [] (by omega) (by simp)
  exact ⟨r, hr, by unfold windbreakref09_Number.f; rw [number_eq _ _ _ h hx]; exact hr, by simpa using hl⟩

theorem bits_range (a b : Int) : 0 ≤ Go.bits .xor .u64 a b ∧ Go.bits .xor .u64 a b < 18446744073709551616 := by
  have e : Go.bits .xor .u64 a b = IntKind.u64.wrap ((BitVec.ofInt 64 a ^^^ BitVec.ofInt 64 b).toNat : Int) := rfl
  rw [e, IntKind.wrap_u64]
  omega


end Go.Proofs.Ytekakngojhnleaa.Plain
