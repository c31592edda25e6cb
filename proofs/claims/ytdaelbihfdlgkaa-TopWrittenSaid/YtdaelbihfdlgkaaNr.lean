/- A quotient's guessed limb; limbs moved up by bits: plain laws. -/
import Derived.Test.YtdaelbihfdlgkaaNq
import Derived.Test.YtdaelbihfdlgkaaNe
namespace Go.Proofs.Ytdaelbihfdlgkaa.Nr
open Go.RowKit Go.Proofs.Ytdaelbihfdlgkaa.Na Go.Proofs.Ytdaelbihfdlgkaa.Nv Go.Proofs.Ytdaelbihfdlgkaa.Np Go.Proofs.Ytdaelbihfdlgkaa.Nq Go.Proofs.Ytdaelbihfdlgkaa.Fns Go.Proofs.YtdaelbihfdlgkaaW.PrintWords Go.Proofs.YtdaelbihfdlgkaaW.PrintLast Go.Proofs.YtdaelbihfdlgkaaW.PrintMore
set_option linter.unusedVariables false
set_option linter.unusedSimpArgs false
theorem wrap_over {x : Int} (h0 : B ≤ x) (h1 : x < 2 * B) : IntKind.u64.wrap x = x - B := by
  have hB : B = 18446744073709551616 := rfl
  rw [IntKind.wrap_u64]
  rw [hB] at h0 h1 ⊢
  omega
theorem guess_not {b q g d1 d0 N r0 rest h l : Int} (hb : 0 < b) (hq : q * (d1 * b + d0) ≤ N * b + r0) (hN : g * d1 + rest = N) (hm : g * d0 = h * b + l) (hl : 0 ≤ l) (hc : rest < h ∨ (h = rest ∧ r0 < l)) (hr0 : r0 < b) (he : q = g) : False := by
  have e1 : g * (d1 * b + d0) = (N - rest) * b + (h * b + l) := by
    rw [← hN, ← hm]
    grind
  rw [he, e1] at hq
  rcases hc with hc | ⟨hc, hc2⟩
  · have h1 : (rest + 1) * b ≤ h * b := Int.mul_le_mul_of_nonneg_right (by omega) (Int.le_of_lt hb)
    rw [Int.add_mul, Int.one_mul] at h1
    rw [Int.sub_mul] at hq
    omega
  · rw [hc, Int.sub_mul] at hq
    omega
theorem guess_l {q d1 d0 N r0 : Int} (h1 : 0 < d1 ∧ d1 < B) (h0 : 0 ≤ d0 ∧ d0 < B) (hr0 : 0 ≤ r0 ∧ r0 < B) (hq0 : 0 ≤ q) (hq : q * (d1 * B + d0) ≤ N * B + r0) :
    ∀ (n : Nat) (rest : Int), (n : Int) < B → (n : Int) * d1 + rest = N → 0 ≤ rest ∧ rest < B → q ≤ (n : Int) → ∃ k g, nat_guess.l0 k r0 d1 d0 (n : Int) rest = some g ∧ q ≤ g ∧ 0 ≤ g ∧ g < B := by
  intro n
  induction n with
  | zero =>
    intro rest _ hN hr hqn
    obtain ⟨h, l, e1, e2, e3, e4, e5, e6⟩ := mul64_ok (x := 0) (y := d0) (by have := B_pos; omega) h0
    rw [Int.zero_mul] at e2
    have hh : h = 0 := by
      rcases Int.lt_or_le 0 h with hp | hp
      · have : 1 * B ≤ h * B := Int.mul_le_mul_of_nonneg_right (by omega) (Int.le_of_lt B_pos)
        have := B_pos
        omega
      · omega
    have hl : l = 0 := by rw [hh, Int.zero_mul] at e2; omega
    rw [hh, hl] at e1
    refine ⟨2, 0, ?_, hqn, Int.le_refl _, B_pos⟩
    show nat_guess.l0 2 r0 d1 d0 0 rest = some 0
    rw [nat_guess.l0, e1, Option.bind_some]
    by_cases h2 : 0 < rest
    · rw [if_pos h2, nat_guess.j1, if_pos rfl]
    · rw [if_neg h2, if_pos (by omega), decide_eq_true hr0.1, nat_guess.j1, if_pos rfl]
  | succ n ih =>
    intro rest hnB hN hr hqn
    obtain ⟨h, l, e1, e2, e3, e4, e5, e6⟩ := mul64_ok (x := ((n + 1 : Nat) : Int)) (y := d0) (by omega) h0
    have hw1 : IntKind.u64.wrap (((n + 1 : Nat) : Int) - 1) = (n : Int) := by rw [show ((n + 1 : Nat) : Int) - 1 = (n : Int) by omega, wrapB (by omega) (by omega)]
    have done : ∃ k g, nat_guess.j1 k r0 d1 d0 ((n + 1 : Nat) : Int) rest true = some g ∧ q ≤ g ∧ 0 ≤ g ∧ g < B := ⟨1, _, by rw [nat_guess.j1, if_pos rfl], hqn, by omega, hnB⟩
    have on : (rest < h ∨ (h = rest ∧ r0 < l)) → ∃ k g, nat_guess.j1 k r0 d1 d0 ((n + 1 : Nat) : Int) rest false = some g ∧ q ≤ g ∧ 0 ≤ g ∧ g < B := by
      intro hc
      have hne : q ≠ ((n + 1 : Nat) : Int) := fun he => guess_not B_pos hq hN e2 e3 hc hr0.2 he
      have hqn2 : q ≤ (n : Int) := by omega
      by_cases ho : rest + d1 < B
      · have hw2 : IntKind.u64.wrap (rest + d1) = rest + d1 := wrapB (by omega) ho
        obtain ⟨k, g, i1, i2⟩ := ih (rest + d1) (by omega) (by rw [← hN]; push_cast; grind) (by omega) hqn2
        refine ⟨k + 1, g, ?_, i2⟩
        rw [nat_guess.j1, if_neg (by simp), hw2, if_neg (by omega), hw1]
        exact i1
      · have hw2 : IntKind.u64.wrap (rest + d1) = rest + d1 - B := wrap_over (by omega) (by omega)
        refine ⟨1, (n : Int), ?_, hqn2, by omega, by omega⟩
        rw [nat_guess.j1, if_neg (by simp), hw2, if_pos (by omega), hw1]
    have fin : ∀ t, (t = true ∨ (t = false ∧ (rest < h ∨ (h = rest ∧ r0 < l)))) → ∃ k g, nat_guess.j1 k r0 d1 d0 ((n + 1 : Nat) : Int) rest t = some g ∧ q ≤ g ∧ 0 ≤ g ∧ g < B := by
      rintro t (rfl | ⟨rfl, hc⟩)
      · exact done
      · exact on hc
    by_cases c1 : h < rest
    · obtain ⟨k, g, i1, i2⟩ := fin true (.inl rfl)
      exact ⟨k + 1, g, by rw [nat_guess.l0, e1, Option.bind_some, if_pos c1]; exact i1, i2⟩
    · by_cases c2 : h = rest
      · obtain ⟨k, g, i1, i2⟩ := fin (decide (l ≤ r0)) (by
          by_cases c3 : l ≤ r0
          · exact .inl (decide_eq_true c3)
          · exact .inr ⟨decide_eq_false c3, .inr ⟨c2, by omega⟩⟩)
        exact ⟨k + 1, g, by rw [nat_guess.l0, e1, Option.bind_some, if_neg c1, if_pos c2]; exact i1, i2⟩
      · obtain ⟨k, g, i1, i2⟩ := fin false (.inr ⟨rfl, .inl (by omega)⟩)
        exact ⟨k + 1, g, by rw [nat_guess.l0, e1, Option.bind_some, if_neg c1, if_neg c2]; exact i1, i2⟩
/-- A guess is never too small. -/
theorem guess_ok {q r2 r1 r0 d1 d0 : Int} (h2 : 0 ≤ r2 ∧ r2 < B) (hr1 : 0 ≤ r1 ∧ r1 < B) (hr0 : 0 ≤ r0 ∧ r0 < B) (h1 : 0 < d1 ∧ d1 < B) (h0 : 0 ≤ d0 ∧ d0 < B) (hq0 : 0 ≤ q ∧ q < B) (hq : q * (d1 * B + d0) ≤ (r2 * B + r1) * B + r0) :
    ∃ k g, nat_guess.f k r2 r1 r0 d1 d0 = some g ∧ q ≤ g ∧ 0 ≤ g ∧ g < B := by
  by_cases hc : r2 ≥ d1
  · refine ⟨0, _, by rw [nat_guess.f, if_pos hc], ?_, by omega, ?_⟩
    · have := hq0.2
      have hB : B = 18446744073709551616 := rfl
      rw [hB] at this
      omega
    · unfold B; omega
  · obtain ⟨g, s, e1, e2, e3, e4⟩ := div64_ok (r := r2) (x := r1) (d := d1) (by omega) hr1 h1
    obtain ⟨n, rfl⟩ := Int.eq_ofNat_of_zero_le e3.1
    have hqn : q ≤ (n : Int) := by
      rcases Int.lt_or_le (n : Int) q with hlt | hle
      · exfalso
        have t1 : ((n : Int) + 1) * d1 ≤ q * d1 := Int.mul_le_mul_of_nonneg_right (by omega) (by omega)
        have t2 : 0 ≤ q * d0 := Int.mul_nonneg hq0.1 h0.1
        have t3 : q * (d1 * B + d0) = q * d1 * B + q * d0 := by grind
        have t4 : ((n : Int) * d1 + d1) * B ≤ q * d1 * B := Int.mul_le_mul_of_nonneg_right (by rw [Int.add_mul, Int.one_mul] at t1; exact t1) (Int.le_of_lt B_pos)
        have t5 : (r2 * B + r1 + 1) * B ≤ ((n : Int) * d1 + d1) * B := Int.mul_le_mul_of_nonneg_right (by omega) (Int.le_of_lt B_pos)
        rw [Int.add_mul _ 1 B, Int.one_mul] at t5
        rw [t3] at hq
        omega
      · exact hle
    obtain ⟨k, g, i1, i2⟩ := guess_l h1 h0 hr0 hq0.1 hq n s e3.2 e2.symm ⟨e4.1, by omega⟩ hqn
    refine ⟨k, g, ?_, i2⟩
    rw [nat_guess.f, if_neg hc, e1, Option.bind_some]
    exact i1
/-! ### up -/
theorem pow_mul {s : Nat} (hs : s ≤ 64) : (2 : Int) ^ (64 - s) * 2 ^ s = B := by
  rw [← Int.pow_add, Nat.sub_add_cancel hs]
  rfl
theorem up_or {x c : Int} {s : Nat} (hs : s < 64) (hx : 0 ≤ x ∧ x < B) (hc : 0 ≤ c ∧ c < 2 ^ s) : ∃ h l, bits .or .u64 c (shl .u64 x (s : Int)) = c + l ∧ (0 < s → shr .u64 x (IntKind.u64.wrap (64 - (s : Int))) = h) ∧ x * 2 ^ s = h * B + l ∧ (0 ≤ c + l ∧ c + l < B) ∧ (0 ≤ h ∧ h < 2 ^ s) ∧ (s = 0 → h = 0) := by
  have hm := pow_mul (s := s) (by omega)
  have ht : (0 : Int) < 2 ^ s := Int.pow_pos (by omega)
  have hu : (0 : Int) < 2 ^ (64 - s) := Int.pow_pos (by omega)
  obtain ⟨h, hh⟩ : ∃ h, h = x / 2 ^ (64 - s) := ⟨_, rfl⟩
  obtain ⟨m, hmm⟩ : ∃ m, m = x % 2 ^ (64 - s) := ⟨_, rfl⟩
  have hd : h * 2 ^ (64 - s) + m = x := by rw [hh, hmm]; exact Int.ediv_mul_add_emod x _
  have hm0 : 0 ≤ m := by rw [hmm]; exact Int.emod_nonneg _ (Int.ne_of_gt hu)
  have hmu : m < 2 ^ (64 - s) := by rw [hmm]; exact Int.emod_lt_of_pos _ hu
  have hh0 : 0 ≤ h := by rw [hh]; exact Int.ediv_nonneg hx.1 (Int.le_of_lt hu)
  have hhs : h < 2 ^ s := by
    rw [hh]
    refine Int.ediv_lt_of_lt_mul hu ?_
    rw [Int.mul_comm, hm]
    exact hx.2
  have hls : (m + 1) * 2 ^ s ≤ 2 ^ (64 - s) * 2 ^ s := Int.mul_le_mul_of_nonneg_right (by omega) (Int.le_of_lt ht)
  rw [hm, Int.add_mul, Int.one_mul] at hls
  have hl0 : 0 ≤ m * 2 ^ s := Int.mul_nonneg hm0 (Int.le_of_lt ht)
  have e : x * 2 ^ s = h * B + m * 2 ^ s := by rw [← hd, ← hm]; grind
  have hshl : shl .u64 x (s : Int) = m * 2 ^ s := by
    unfold shl
    rw [Int.toNat_natCast, show min s IntKind.u64.bits = s from Nat.min_eq_left (by show s ≤ 64; omega), e, IntKind.wrap_u64]
    show (h * B + m * 2 ^ s) % B = _
    rw [Int.add_comm, Int.add_mul_emod_self_right]
    exact Int.emod_eq_of_lt hl0 (by omega)
  refine ⟨h, m * 2 ^ s, ?_, ?_, e, ⟨by omega, by omega⟩, ⟨hh0, hhs⟩, ?_⟩
  · rw [hshl]
    have hor := Ne.or_add s hm0 hc (by have : m * 2 ^ s + c < B := by omega
                                       exact this)
    have hcomm : bits .or .u64 c (m * 2 ^ s) = bits .or .u64 (m * 2 ^ s) c := by
      show IntKind.u64.wrap ((BitVec.ofInt 64 c ||| BitVec.ofInt 64 (m * 2 ^ s)).toNat : Nat) = IntKind.u64.wrap ((BitVec.ofInt 64 (m * 2 ^ s) ||| BitVec.ofInt 64 c).toNat : Nat)
      rw [BitVec.or_comm]
    rw [hcomm, hor, Int.add_comm]
  · intro hs0
    have hw : IntKind.u64.wrap (64 - (s : Int)) = ((64 - s : Nat) : Int) := by rw [IntKind.wrap_u64]; omega
    rw [hw]
    unfold shr
    rw [Int.toNat_natCast, show min (64 - s) IntKind.u64.bits = 64 - s from Nat.min_eq_left (by show 64 - s ≤ 64; omega), hh]
  · intro hs0
    subst hs0
    rw [Int.pow_zero] at hhs
    omega
theorem up_step {k i s : Nat} {a o : List Int} {h l : Int} (hi : i < a.length) (ho : i + 1 < o.length) (hs : i < 1000000) (hs2 : s < 64) (e1 : bits .or .u64 o[i] (shl .u64 a[i] (s : Int)) = l) (e2 : 0 < s → shr .u64 a[i] (IntKind.u64.wrap (64 - (s : Int))) = h) :
    nat_up.l0 (k + 1) (s : Int) o a (a.length : Int) (i : Int) = nat_up.l0 k (s : Int) (if 0 < s then (o.set i l).set (i + 1) h else o.set i l) a (a.length : Int) ((i + 1 : Nat) : Int) := by
  have p1 : (i : Int) < (a.length : Int) := by omega
  have p2 : (0 : Int) ≤ (i : Int) := by omega
  have p3 : (i : Int) < (o.length : Int) := by omega
  have p4 : (0 : Int) ≤ (s : Int) := by omega
  have p5 : (0 : Int) ≤ ((i + 1 : Nat) : Int) := by omega
  have p6 : ((i + 1 : Nat) : Int) < (o.length : Int) := by omega
  have hw := w_one (m := i) (by omega)
  rw [nat_up.l0, if_pos p1, if_pos p2, if_pos p1, if_pos p3, if_pos p4, rd_nat (by omega : i < o.length), rd_nat hi, e1, Option.bind_some, hw]
  by_cases h0 : 0 < s
  · have p7 : (s : Int) > 0 := by omega
    have p8 : (0 : Int) ≤ IntKind.u64.wrap (64 - (s : Int)) := by rw [IntKind.wrap_u64]; omega
    rw [if_pos p7, if_pos p8, if_pos p5, if_pos p6, e2 h0, if_pos h0, Int.toNat_natCast, Int.toNat_natCast]
  · have p7 : ¬ (s : Int) > 0 := by omega
    rw [if_neg p7, if_neg h0, Int.toNat_natCast]
theorem up_l {a : List Int} {s : Nat} (la : Lim a) (hs2 : s < 64) (hs : a.length ≤ 100000) : ∀ (m i : Nat) (hi : i + m = a.length) (o : List Int) (hl : o.length = a.length + 1), Lim o → Z o (i + 1) → o[i]'(by omega) < 2 ^ s → V o = V (a.take i) * 2 ^ s →
    ∃ k r, nat_up.l0 k (s : Int) o a (a.length : Int) (i : Int) = some r ∧ r.length = a.length + 1 ∧ Lim r ∧ V r = V a * 2 ^ s := by
  intro m
  induction m with
  | zero =>
    intro i hi o hl lo hz hc hv
    have p1 : ¬ (i : Int) < (a.length : Int) := by omega
    refine ⟨1, o, by rw [nat_up.l0, if_neg p1], hl, lo, ?_⟩
    rw [hv, List.take_of_length_le (by omega)]
  | succ m ih =>
    intro i hi o hl lo hz hc hv
    have hia : i < a.length := by omega
    have hio : i < o.length := by omega
    have hio1 : i + 1 < o.length := by omega
    have hz1 := hz (i + 1) hio1 (Nat.le_refl _)
    have hlo := lo _ (List.getElem_mem hio)
    obtain ⟨h, l, e1, e2, e3, e4, e5, e6⟩ := up_or hs2 (la _ (List.getElem_mem hia)) ⟨hlo.1, hc⟩
    have hset : (if 0 < s then (o.set i (o[i] + l)).set (i + 1) h else o.set i (o[i] + l)) = (o.set i (o[i] + l)).set (i + 1) h := by
      split
      · rfl
      · rw [e6 (by omega)]
        have : (o.set i (o[i] + l))[i + 1]'(by rw [List.length_set]; exact hio1) = 0 := by rw [List.getElem_set_ne (by omega)]; exact hz1
        conv => rhs; rw [← this]
        rw [List.set_getElem_self]
    have hhB : h < B := by
      have h64 : (2 : Int) ^ s ≤ 2 ^ 64 := by
        have := Nat.pow_le_pow_right (show 0 < 2 by omega) (show s ≤ 64 by omega)
        exact_mod_cast this
      have hB : B = 2 ^ 64 := rfl
      omega
    have hlen : ((o.set i (o[i] + l)).set (i + 1) h).length = a.length + 1 := by rw [List.length_set, List.length_set]; exact hl
    have hv2 : V ((o.set i (o[i] + l)).set (i + 1) h) = V (a.take (i + 1)) * 2 ^ s := by
      rw [V_set (by rw [List.length_set]; exact hio1), List.getElem_set_ne (by omega), hz1, Int.sub_zero, V_set hio, V_take_succ hia, hv, Int.pow_succ]
      generalize B ^ i = P
      generalize (2 : Int) ^ s = T at *
      grind
    obtain ⟨k, r, i1, i2⟩ := ih (i + 1) (by omega) ((o.set i (o[i] + l)).set (i + 1) h) hlen ((lo.set _ e4).set _ ⟨e5.1, hhB⟩) (by
      intro j hj hp
      rw [List.getElem_set_ne (by omega), List.getElem_set_ne (by omega)]
      exact hz j (by omega) (by omega)) (by rw [List.getElem_set_self]; exact e5.2) hv2
    exact ⟨k + 1, r, by rw [up_step hia hio1 (by omega) hs2 e1 e2, hset]; exact i1, i2⟩
theorem up_ok {a : List Int} {s : Nat} (la : Lim a) (hs2 : s < 64) (hs : a.length ≤ 100000) : ∃ k r, nat_up.f k a (s : Int) = some r ∧ r.length = a.length + 1 ∧ Lim r ∧ V r = V a * 2 ^ s := by
  obtain ⟨k, r, h1, h2⟩ := up_l la hs2 hs a.length 0 (by omega) (List.replicate (a.length + 1) 0) (by simp) (Lim.zeros _) (fun i h _ => by simp) (by simp; exact Int.pow_pos (by omega)) (by rw [V_zeros, List.take_zero]; show (0 : Int) = 0 * _; omega)
  refine ⟨k, r, ?_, h2⟩
  have hw := w_one (m := a.length) (by omega)
  have p1 : (0 : Int) ≤ ((a.length + 1 : Nat) : Int) := by omega
  have p2 : a.length + 1 ≤ 35184372088832 := by omega
  rw [nat_up.f, hw, if_pos p1, Int.toNat_natCast, if_pos p2]
  exact h1
end Go.Proofs.Ytdaelbihfdlgkaa.Nr
