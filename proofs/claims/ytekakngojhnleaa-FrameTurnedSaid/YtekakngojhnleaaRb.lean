/- The document's reader: Left and Bytes. -/
import Derived.Test.YtekakngojhnleaaNx3
import Derived.Test.YtekakngojhnleaaRfB
namespace Go.Proofs.Ytekakngojhnleaa.Rd
set_option linter.unusedSimpArgs false
set_option linter.unusedVariables false
open Go.RowKit Go.Proofs.Ytekakngojhnleaa.Rf Go.Proofs.YtekakngojhnleaaW.PrintWords Go.Proofs.YtekakngojhnleaaW.PrintLast Go.Proofs.YtekakngojhnleaaW.PrintMore

/-- What is left, as the document's reader tells it. -/
theorem ref_left (xs : List Int) (hl : xs.length ≤ 140737488351232) (a : Nat) (ha : a ≤ xs.length) : windbreakref09_Reader_Left.f xs (a : Int) = some (((xs.drop a).length : Int), (a : Int)) := by
  unfold windbreakref09_Reader_Left.f
  have e : wrap64 ((xs.length : Int) - (a : Int)) = ((xs.drop a).length : Int) := by rw [List.length_drop]; unfold wrap64; omega
  rw [e]

theorem row_kept {w0 W W' : World} {h : Nat} {xs r : List Int} {b : Int} {base : Nat} {v : Value} (ho : (Kd.int .u8).R 5 W base (fun _ => True) v r) (hI : IsS118 w0 W h xs b) (hK : KeepBut W W' h none) : (Kd.int .u8).R 5 W' base (fun k => True ∧ k ≠ h) v r := by
  obtain ⟨A, c, hb, _, _⟩ := hI
  refine Kd.R_keep (Kd.R_types ho hb ?_) hK (fun k hk => hk.2)
  intro q hq
  simp [Kd.int, Kd.scalar] at hq
  subst hq
  decide

/-- Bytes: both readers. -/
theorem ref_bytes (xs : List Int) (hb : ∀ c ∈ xs, 0 ≤ c ∧ c < 256) (hlen : xs.length ≤ 140737488355328) (a : Nat) (hat : a ≤ xs.length) (most : Int) (hmost : most < 9223372036854775808) (w0 : World) (h : Nat) :
    ∃ x e a', a' ≤ xs.length ∧ rByt most (xs.drop a) = (x, e, xs.drop a') ∧ ∀ W, IsS118 w0 W h xs (a : Int) → Below w0.heap.size w0 W →
      Calls Try.prog 69 #[.pointer (some ⟨h, 0, none⟩), .int .i64 most] W fun e' w' => ∃ v, e' = .returned (.tuple #[v, .int .i64 e]) ∧ (Kd.int .u8).R 5 w' W.heap.size (fun _ => True) v x ∧ IsS118 w0 w' h xs (a' : Int) ∧ Below w0.heap.size w0 w' ∧ KeepBut W w' h none := by
  have hn := ref_next xs hb (by omega) a hat
  have hle := nx_le (xs.drop a) 0 0
  have hr := nx_range (xs.drop a) 0 0
  simp only [List.length_drop] at hle
  unfold rByt
  obtain ⟨n', m, hx⟩ : ∃ n m, nx 0 0 (xs.drop a) = (n, m) := ⟨_, _, rfl⟩
  rw [hx] at hn hle hr ⊢
  simp only at hr hle hn
  obtain ⟨n, rfl⟩ := Int.eq_ofNat_of_zero_le hr.1
  have no : ∀ W, (m = 0 ∨ most < 0 ∨ (0 ≤ most ∧ IntKind.u64.wrap most = most ∧ most < (n : Int)) ∨ (0 ≤ most ∧ (n : Int) ≤ IntKind.u64.wrap most ∧ (xs.length : Int) - (a : Int) - (m : Int) < (n : Int))) → IsS118 w0 W h xs (a : Int) → Below w0.heap.size w0 W →
      Calls Try.prog 69 #[.pointer (some ⟨h, 0, none⟩), .int .i64 most] W fun e' w' => ∃ v, e' = .returned (.tuple #[v, .int .i64 13]) ∧ (Kd.int .u8).R 5 w' W.heap.size (fun _ => True) v [] ∧ IsS118 w0 w' h xs (a : Int) ∧ Below w0.heap.size w0 w' ∧ KeepBut W w' h none := by
    intro W hc hI hB
    refine (fbytes_no h xs a n m most w0 W hI hB hlen (by omega) hn hc).mono ?_
    rintro e w' ⟨rfl, h1, h2, h3⟩
    exact ⟨_, rfl, Kd.R_nil _ _ _ _ _, h1, h2, h3⟩
  by_cases h0 : m = 0
  · exact ⟨[], 13, a, hat, by rw [if_pos (.inl h0)], fun W => no W (.inl h0)⟩
  · by_cases h1 : most < 0
    · exact ⟨[], 13, a, hat, by rw [if_pos (.inr (.inl h1))], fun W => no W (.inr (.inl h1))⟩
    · have hw : IntKind.u64.wrap most = most := by rw [IntKind.wrap_u64]; omega
      by_cases h2 : most < (n : Int)
      · exact ⟨[], 13, a, hat, by rw [if_pos (.inr (.inr (.inl h2)))], fun W => no W (.inr (.inr (.inl ⟨by omega, hw, h2⟩)))⟩
      · by_cases h3 : (xs.length : Int) - (a : Int) - (m : Int) < (n : Int)
        · exact ⟨[], 13, a, hat, by rw [if_pos (.inr (.inr (.inr (by rw [List.length_drop]; omega))))], fun W => no W (.inr (.inr (.inr ⟨by omega, by rw [hw]; omega, h3⟩)))⟩
        · obtain ⟨M, rfl⟩ := Int.eq_ofNat_of_zero_le (show 0 ≤ most by omega)
          have hc : ¬ (m = 0 ∨ (M : Int) < 0 ∨ (M : Int) < (n : Int) ∨ ((xs.drop a).length : Int) - (m : Int) < (n : Int)) := by rw [List.length_drop]; omega
          refine ⟨(xs.drop (a + m)).take n, 0, a + m + n, by omega, ?_, fun W hI hB => fbytes_yes h xs a n m M w0 W hI hB hlen hn (by omega) hw (by omega) (by omega)⟩
          rw [if_neg hc, drop_at, Int.toNat_natCast, drop_at, Nat.add_assoc]


end Go.Proofs.Ytekakngojhnleaa.Rd
