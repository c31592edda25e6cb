/- FrameEncodes: what the document's Encode tells, as plain numbers. -/
import Derived.Test.YtekakngojhnleaaEn
namespace Go.Proofs.Ytekakngojhnleaa.En
set_option linter.unusedSimpArgs false
set_option linter.unusedVariables false
open Go.RowKit Go.Proofs.Ytekakngojhnleaa.Fns Go.Proofs.Ytekakngojhnleaa.Rd Go.Proofs.Ytekakngojhnleaa.Rt Go.Proofs.Ytekakngojhnleaa.Fs Go.Proofs.Ytekakngojhnleaa.Fp Go.Proofs.Ytekakngojhnleaa.Plain Go.Proofs.YtekakngojhnleaaW.PrintWords Go.Proofs.YtekakngojhnleaaW.PrintLast Go.Proofs.YtekakngojhnleaaW.PrintMore

theorem refnumber_is (x : Nat) (hx : x < 18446744073709551616) (k : Nat) (hk : 10 ≤ k) : windbreakref09_Number.f k (x : Int) = some (enc 9 x) := by
  obtain ⟨r, h1, h2, _⟩ := number_all (x : Int) (by omega) (by omega)
  rw [number_is x hx] at h1
  obtain rfl := Option.some.inj h1
  exact at_rounds (fun k => windbreakref09_Number.mono (x : Int) k) hk h2
theorem refbytes_is (l : List Int) (h : l.length ≤ 1048576) (k : Nat) (hk : 10 ≤ k) : windbreakref09_Bytes.f k l = some (enc 9 l.length ++ l) := by
  have hw : IntKind.u64.wrap (l.length : Int) = (l.length : Int) := by rw [IntKind.wrap_u64]; omega
  unfold windbreakref09_Bytes.f
  rw [hw, refnumber_is l.length (by omega) k hk, Option.bind_some, if_pos (by have := enc_le 9 l.length; omega)]

theorem rightB_ref (d : Bool) (s a : Int) (l : List Int) : windbreakref10_Right.f d s a l = some (rightB d s a l.length) := by
  unfold windbreakref10_Right.f rightB within
  by_cases h1 : s < 0
  · rw [if_pos h1]; simp; omega
  · rw [if_neg h1]
    by_cases h2 : s > 1073741824
    · rw [if_pos h2]; simp; omega
    · rw [if_neg h2]
      by_cases h3 : a < 0
      · rw [if_pos h3]; simp; omega
      · rw [if_neg h3]
        by_cases h4 : a > 1073741824
        · rw [if_pos h4]; simp; omega
        · rw [if_neg h4]
          by_cases h5 : (l.length : Int) > 1048576
          · rw [if_pos h5]; simp; omega
          · rw [if_neg h5]
            have e1 : decide (0 ≤ s ∧ s ≤ 1073741824) = true := by simp; omega
            have e2 : decide (0 ≤ a ∧ a ≤ 1073741824) = true := by simp; omega
            have e3 : decide ((l.length : Int) ≤ 1048576) = true := by simp; omega
            rw [e1, e2, e3]
            cases d
            · by_cases h6 : s = 0
              · subst h6; simp
              · simp [h6]
            · simp
theorem be4_ref (S : Nat) (h : S < 4294967296) : [((Int.tdiv (S : Int) 16777216) % 4294967296) % 256, ((Int.tdiv (S : Int) 65536) % 4294967296) % 256, ((Int.tdiv (S : Int) 256) % 4294967296) % 256, ((S : Int)) % 256] = be4 S := by
  unfold be4
  rw [Int.tdiv_eq_ediv_of_nonneg (by omega), Int.tdiv_eq_ediv_of_nonneg (by omega), Int.tdiv_eq_ediv_of_nonneg (by omega)]
  have e1 : (S : Int) / 16777216 % 4294967296 % 256 = ((S / 16777216 % 256 : Nat) : Int) := by omega
  have e2 : (S : Int) / 65536 % 4294967296 % 256 = ((S / 65536 % 256 : Nat) : Int) := by omega
  have e3 : (S : Int) / 256 % 4294967296 % 256 = ((S / 256 % 256 : Nat) : Int) := by omega
  have e4 : (S : Int) % 256 = ((S % 256 : Nat) : Int) := by omega
  rw [e1, e2, e3, e4]
theorem sumN_lt (l : List Int) (hb : ∀ x ∈ l, 0 ≤ x ∧ x < 256) : sumN l < 4294967296 := Nat.xor_lt_two_pow (n := 32) (by omega) (crc_lt l hb _ (by omega))

theorem refj0 (d : Bool) (s a : Nat) (l : List Int) (hs : s ≤ 1073741824) (ha : a ≤ 1073741824) (hl : l.length ≤ 1048576) (hb : ∀ x ∈ l, 0 ≤ x ∧ x < 256) (k : Nat) (hk : 10 ≤ k) (hk2 : 1 + 10 * (headL d s a l).length ≤ k) :
    windbreakref10_Encode.j0 (k + 1) [if d then 1 else 0] d (s : Int) (a : Int) l = some (frameL d s a l, 0) := by
  have hws : IntKind.u64.wrap (s : Int) = s := by rw [IntKind.wrap_u64]; omega
  have hwa : IntKind.u64.wrap (a : Int) = a := by rw [IntKind.wrap_u64]; omega
  have l1 := enc_le 9 s
  have l2 := enc_le 9 a
  have l3 := enc_le 9 l.length
  have hD : (([if d then 1 else 0] ++ enc 9 s) ++ enc 9 a) ++ (enc 9 l.length ++ l) = headL d s a l := rfl
  have hbD := head_bytes d s a l hs ha hl hb
  have hlD : (headL d s a l).length ≤ 1048610 := by rw [← hD]; simp only [List.length_append, List.length_cons, List.length_nil]; omega
  have hsum := at_rounds (fun k => windbreakref10_Sum.mono (headL d s a l) k) hk2 (ref_sum (headL d s a l) (by omega) hbD)
  simp only [windbreakref10_Encode.j0]
  rw [hws, hwa, refnumber_is s (by omega) k hk, Option.bind_some, if_pos (by simp only [List.length_cons, List.length_nil]; omega), Option.bind_some, refnumber_is a (by omega) k hk, Option.bind_some, if_pos (by simp only [List.length_append, List.length_cons, List.length_nil]; omega), Option.bind_some,
    refbytes_is l hl k hk, Option.bind_some, if_pos (by simp only [List.length_append, List.length_cons, List.length_nil]; omega), Option.bind_some, hD, hsum, Option.bind_some, Option.bind_some]
  have hb4 := be4_ref (sumN (headL d s a l)) (sumN_lt _ hbD)
  unfold sumN at hb4
  rw [hb4, if_pos (by unfold be4; simp only [List.length_cons, List.length_nil]; omega)]
  rfl
theorem refencode_is (d : Bool) (s a : Nat) (l : List Int) (hs : s ≤ 1073741824) (ha : a ≤ 1073741824) (hl : l.length ≤ 1048576) (hb : ∀ x ∈ l, 0 ≤ x ∧ x < 256) (hr : rightB d (s : Int) (a : Int) l.length = true) :
    windbreakref10_Encode.f ((10 + (1 + 10 * (headL d s a l).length)) + 1) d (s : Int) (a : Int) l = some (frameL d s a l, 0) := by
  unfold windbreakref10_Encode.f
  rw [rightB_ref, hr, Option.bind_some, if_pos rfl, Option.bind_some]
  have h := refj0 d s a l hs ha hl hb (10 + (1 + 10 * (headL d s a l).length)) (by omega) (by omega)
  cases d
  · rw [if_neg (by decide)]
    exact h
  · rw [if_pos rfl, if_pos (by decide)]
    exact h
theorem refencode_no (d : Bool) (s a : Int) (l : List Int) (hr : rightB d s a l.length = false) (k : Nat) : windbreakref10_Encode.f k d s a l = some ([], 1) := by
  unfold windbreakref10_Encode.f
  rw [rightB_ref, hr, Option.bind_some, if_neg (by decide)]
/-- What a right frame's numbers are. -/
theorem right_facts {d : Bool} {s a : Int} {n : Nat} (h : rightB d s a n = true) : ∃ S B : Nat, s = S ∧ a = B ∧ S ≤ 1073741824 ∧ B ≤ 1073741824 ∧ n ≤ 1048576 := by
  unfold rightB within at h
  simp only [Bool.and_eq_true, decide_eq_true_eq] at h
  obtain ⟨h1, h2, h3, _⟩ := h
  exact ⟨s.toNat, a.toNat, by omega, by omega, by omega, by omega, by omega⟩
end Go.Proofs.Ytekakngojhnleaa.En
