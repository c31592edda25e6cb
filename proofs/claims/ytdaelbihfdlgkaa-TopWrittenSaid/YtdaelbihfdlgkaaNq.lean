/- Differences, adding into, comparing, quotients by a limb, guesses: plain laws. -/
import Derived.Test.YtdaelbihfdlgkaaNp
namespace Go.Proofs.Ytdaelbihfdlgkaa.Nq
open Go.RowKit Go.Proofs.Ytdaelbihfdlgkaa.Na Go.Proofs.Ytdaelbihfdlgkaa.Nv Go.Proofs.Ytdaelbihfdlgkaa.Np Go.Proofs.Ytdaelbihfdlgkaa.Fns Go.Proofs.YtdaelbihfdlgkaaW.PrintWords Go.Proofs.YtdaelbihfdlgkaaW.PrintLast Go.Proofs.YtdaelbihfdlgkaaW.PrintMore
set_option linter.unusedVariables false
set_option linter.unusedSimpArgs false
theorem sub64_ok {x y c : Int} (hx : 0 ≤ x ∧ x < B) (hy : 0 ≤ y ∧ y < B) (hc : 0 ≤ c ∧ c ≤ 1) : ∃ d k, bits_Sub64.f x y c = some (d, k) ∧ x + B * k = y + c + d ∧ (0 ≤ d ∧ d < B) ∧ 0 ≤ k ∧ k ≤ 1 := by
  have hB : B = 18446744073709551616 := rfl
  rw [hB] at hx hy ⊢
  by_cases h : x < y + c
  · exact ⟨_, _, by unfold bits_Sub64.f; rw [if_pos ⟨hx, hy, hc.1, hc.2⟩, if_pos h], by omega, by omega, by omega, by omega⟩
  · exact ⟨_, _, by unfold bits_Sub64.f; rw [if_pos ⟨hx, hy, hc.1, hc.2⟩, if_neg h], by omega, by omega, by omega, by omega⟩
theorem w_sub {m n : Nat} (h : m ≤ 1000000) (h2 : n ≤ m) : wrap64 ((m : Int) - (n : Int)) = ((m - n : Nat) : Int) := by unfold wrap64; omega
theorem w_pred {m : Nat} (h : m ≤ 1000000) : wrap64 ((m : Int) - 1) = (m : Int) - 1 := by unfold wrap64; omega
/-! ### less -/
theorem less_step {k i : Nat} {a b o : List Int} {c d e : Int} (hi : i < a.length) (ho : i < o.length) (hs : i < 1000000) (f : bits_Sub64.f a[i] (at0 b i) c = some (d, e)) :
    nat_less.l0 (k + 1) a b o c (a.length : Int) (i : Int) = nat_less.l0 k a b (o.set i d) e (a.length : Int) ((i + 1 : Nat) : Int) := by
  have p1 : (i : Int) < (a.length : Int) := by omega
  have p2 : (0 : Int) ≤ (i : Int) := by omega
  have p3 : (i : Int) < (o.length : Int) := by omega
  have hw := w_one (m := i) (by omega)
  rcases Nat.lt_or_ge i b.length with hb | hb
  · have p4 : (i : Int) < (b.length : Int) := by omega
    rw [at0, dif_pos hb] at f
    rw [nat_less.l0, if_pos p1, if_pos p4, if_pos p2, if_pos p1, rd_nat hi, rd_nat hb, f, Option.bind_some, if_pos p3, hw, Int.toNat_natCast]
  · have p4 : ¬ (i : Int) < (b.length : Int) := by omega
    rw [at0, dif_neg (by omega)] at f
    rw [nat_less.l0, if_pos p1, if_neg p4, if_pos p2, if_pos p1, rd_nat hi, f, Option.bind_some, if_pos p3, hw, Int.toNat_natCast]
theorem less_l {a b : List Int} (la : Lim a) (lb : Lim b) (hs : a.length ≤ 100000) : ∀ (m i : Nat), i + m = a.length → ∀ (o : List Int) (c : Int), o.length = a.length → Lim o → Z o i → 0 ≤ c ∧ c ≤ 1 → V o + V (b.take i) = V (a.take i) + c * B ^ i →
    ∃ k r c', nat_less.l0 k a b o c (a.length : Int) (i : Int) = some r ∧ r.length = a.length ∧ Lim r ∧ 0 ≤ c' ∧ V r + V (b.take a.length) = V a + c' * B ^ a.length := by
  intro m
  induction m with
  | zero =>
    intro i hi o c ho lo hz hc hv
    have e : i = a.length := by omega
    subst e
    rw [List.take_of_length_le (Nat.le_refl a.length)] at hv
    refine ⟨1, o, c, ?_, ho, lo, hc.1, hv⟩
    have p1 : ¬ (a.length : Int) < (a.length : Int) := by omega
    rw [nat_less.l0, if_neg p1]
  | succ m ih =>
    intro i hi o c ho lo hz hc hv
    have hia : i < a.length := by omega
    have hio : i < o.length := by omega
    have hz0 := hz i hio (Nat.le_refl _)
    obtain ⟨d, e, f1, f2, f3, f4⟩ := sub64_ok (la _ (List.getElem_mem hia)) (at0_lim lb i) hc
    have hv2 : V (o.set i d) + V (b.take (i + 1)) = V (a.take (i + 1)) + e * B ^ (i + 1) := by
      rw [V_set hio, hz0, Int.sub_zero, V_take_at0, V_take_succ hia, Int.pow_succ]
      generalize B ^ i = P at *
      grind
    obtain ⟨k, r, c', h1, h2⟩ := ih (i + 1) (by omega) (o.set i d) e (by rw [List.length_set]; exact ho) (lo.set _ f3) (hz.set2 d) f4 hv2
    exact ⟨k + 1, r, c', by rw [less_step hia hio (by omega) f1]; exact h1, h2⟩
theorem less_ok {a b : List Int} (la : Lim a) (lb : Lim b) (hs : a.length ≤ 100000) (hl : b.length ≤ a.length) (hv : V b ≤ V a) : ∃ k r, nat_less.f k a b = some r ∧ r.length = a.length ∧ Lim r ∧ V r = V a - V b := by
  obtain ⟨k, r, c, h1, h2, h3, h4, h5⟩ := less_l la lb hs a.length 0 (by omega) (List.replicate a.length 0) 0 (by simp) (Lim.zeros _) (fun i h _ => by simp) (by omega) (by rw [V_zeros, List.take_zero, List.take_zero]; show (0 : Int) + 0 = 0 + 0 * _; omega)
  refine ⟨k, r, ?_, h2, h3, ?_⟩
  · unfold nat_less.f
    have p1 : (0 : Int) ≤ (a.length : Int) := by omega
    have p2 : (a.length : Int).toNat ≤ 35184372088832 := by omega
    rw [if_pos p1, if_pos p2, Int.toNat_natCast]
    exact h1
  · rw [List.take_of_length_le hl] at h5
    have h6 := V_lt h3
    rw [h2] at h6
    have hc : c = 0 := by
      rcases Int.lt_or_le 0 c with hc | hc
      · exfalso
        have h7 : 1 * B ^ a.length ≤ c * B ^ a.length := Int.mul_le_mul_of_nonneg_right (by omega) (Int.le_of_lt (pow_pos _))
        generalize c * B ^ a.length = X at *
        generalize B ^ a.length = Y at *
        omega
      · omega
    rw [hc, Int.zero_mul] at h5
    omega
/-! ### into -/
theorem into_step {k j t : Nat} {o a : List Int} {c d e : Int} (ho : t + j < o.length) (hs : t + j < 1000000) (hgo : j < a.length ∨ 0 < c) (f : bits_Add64.f o[t + j] (at0 a j) c = some (d, e)) :
    nat_into.l0 (k + 2) o a (t : Int) c ((t + j : Nat) : Int) = nat_into.l0 k (o.set (t + j) d) a (t : Int) e ((t + (j + 1) : Nat) : Int) := by
  have p1 : ((t + j : Nat) : Int) < (o.length : Int) := by omega
  have p2 : (0 : Int) ≤ ((t + j : Nat) : Int) := by omega
  have hw : wrap64 (((t + j : Nat) : Int) - (t : Int)) = (j : Int) := by rw [w_sub (by omega) (by omega)]; congr 1; omega
  have hw2 := w_one (m := t + j) (by omega)
  rw [show t + (j + 1) = t + j + 1 by omega]
  rcases Nat.lt_or_ge j a.length with hb | hb
  · have p4 : (j : Int) < (a.length : Int) := by omega
    have p5 : (0 : Int) ≤ (j : Int) := by omega
    rw [at0, dif_pos hb] at f
    rw [nat_into.l0, if_pos p1, hw, if_pos p4, nat_into.j1, if_pos rfl, hw, if_pos p4, if_pos p5, if_pos p2, if_pos p1, rd_nat ho, rd_nat hb, f, Option.bind_some, hw2, Int.toNat_natCast]
  · have p4 : ¬ (j : Int) < (a.length : Int) := by omega
    have p5 : c > 0 := by omega
    rw [at0, dif_neg (by omega)] at f
    rw [nat_into.l0, if_pos p1, hw, if_neg p4, decide_eq_true p5, nat_into.j1, if_pos rfl, hw, if_neg p4, if_pos p2, if_pos p1, rd_nat ho, f, Option.bind_some, hw2, Int.toNat_natCast]
theorem into_end {k j t : Nat} {o a : List Int} {c : Int} (hs : t + j < 1000000) (hstop : o.length ≤ t + j ∨ (a.length ≤ j ∧ c = 0)) :
    nat_into.l0 (k + 2) o a (t : Int) c ((t + j : Nat) : Int) = some o := by
  have hw : wrap64 (((t + j : Nat) : Int) - (t : Int)) = (j : Int) := by rw [w_sub (by omega) (by omega)]; congr 1; omega
  rcases Nat.lt_or_ge (t + j) o.length with hb | hb
  · have p1 : ((t + j : Nat) : Int) < (o.length : Int) := by omega
    obtain ⟨h1, h2⟩ : a.length ≤ j ∧ c = 0 := by rcases hstop with h | h; omega; exact h
    have p4 : ¬ (j : Int) < (a.length : Int) := by omega
    rw [nat_into.l0, if_pos p1, hw, if_neg p4, h2, decide_eq_false (by omega), nat_into.j1, if_neg (by simp)]
  · have p1 : ¬ ((t + j : Nat) : Int) < (o.length : Int) := by omega
    rw [nat_into.l0, if_neg p1, nat_into.j1, if_neg (by simp)]
theorem into_l {a : List Int} {t N : Nat} {V0 : Int} (la : Lim a) (hN : N ≤ 100000) (hfit : t + a.length ≤ N) (hv0 : V0 + V a * B ^ t < B ^ N) :
    ∀ (m j : Nat), t + j + m = N → ∀ (o : List Int) (c : Int), o.length = N → Lim o → 0 ≤ c ∧ c ≤ 1 → V o + c * B ^ (t + j) = V0 + V (a.take j) * B ^ t →
    ∃ k r, nat_into.l0 k o a (t : Int) c ((t + j : Nat) : Int) = some r ∧ r.length = N ∧ Lim r ∧ V r = V0 + V a * B ^ t := by
  intro m
  induction m with
  | zero =>
    intro j hj o c ho lo hc hv
    refine ⟨2, o, into_end (by omega) (by omega), ho, lo, ?_⟩
    rw [List.take_of_length_le (by omega), show t + j = N by omega] at hv
    have h1 := V_nonneg lo
    have hc0 : c = 0 := by
      rcases Int.lt_or_le 0 c with hc1 | hc1
      · exfalso
        have h7 : 1 * B ^ N ≤ c * B ^ N := Int.mul_le_mul_of_nonneg_right (by omega) (Int.le_of_lt (pow_pos _))
        generalize c * B ^ N = X at *
        generalize B ^ N = Y at *
        generalize V a * B ^ t = W at *
        omega
      · omega
    rw [hc0, Int.zero_mul] at hv
    generalize V a * B ^ t = W at *
    omega
  | succ m ih =>
    intro j hj o c ho lo hc hv
    by_cases hgo : j < a.length ∨ 0 < c
    · have hp : t + j < o.length := by omega
      obtain ⟨d, e, f1, f2, f3, f4, f5, f6⟩ := add64_ok (lo _ (List.getElem_mem hp)) (at0_lim la j) hc
      have hv2 : V (o.set (t + j) d) + e * B ^ (t + (j + 1)) = V0 + V (a.take (j + 1)) * B ^ t := by
        rw [V_set hp, V_take_at0, show t + (j + 1) = (t + j) + 1 by omega, Int.pow_succ]
        have e2 : B ^ (t + j) = B ^ t * B ^ j := Int.pow_add B t j
        rw [e2] at hv ⊢
        generalize B ^ t = P at *
        generalize B ^ j = Q at *
        grind
      obtain ⟨k, r, h1, h2⟩ := ih (j + 1) (by omega) (o.set (t + j) d) e (by rw [List.length_set]; exact ho) (lo.set _ ⟨f3, f4⟩) ⟨f5, f6⟩ hv2
      exact ⟨k + 2, r, by rw [into_step hp (by omega) hgo f1]; exact h1, h2⟩
    · have hc0 : c = 0 := by omega
      refine ⟨2, o, into_end (by omega) (by omega), ho, lo, ?_⟩
      rw [hc0, Int.zero_mul, List.take_of_length_le (by omega)] at hv
      omega
theorem into_ok {a o : List Int} {t : Nat} (la : Lim a) (lo : Lim o) (hN : o.length ≤ 100000) (hfit : t + a.length ≤ o.length) (hv0 : V o + V a * B ^ t < B ^ o.length) :
    ∃ k r, nat_into.f k o a (t : Int) = some r ∧ r.length = o.length ∧ Lim r ∧ V r = V o + V a * B ^ t := by
  obtain ⟨k, r, h1, h2⟩ := into_l la hN hfit hv0 (o.length - t) 0 (by omega) o 0 rfl lo (by omega) (by rw [List.take_zero]; show V o + 0 * _ = V o + 0 * _; omega)
  exact ⟨k, r, h1, h2⟩
/-! ### compare -/
theorem drop_cons {xs : List Int} {n : Nat} (h : n < xs.length) : xs.drop n = xs[n] :: xs.drop (n + 1) := List.drop_eq_getElem_cons h
theorem V_split (xs : List Int) (n : Nat) (h : n ≤ xs.length) : V xs = V (xs.take n) + B ^ n * V (xs.drop n) := by
  have := V_append (xs.take n) (xs.drop n)
  rw [List.take_append_drop, List.length_take, Nat.min_eq_left h] at this
  exact this
theorem cmp_lt {a b : List Int} (la : Lim a) (lb : Lim b) (hl : a.length = b.length) {n : Nat} (hn : n < a.length) (hd : a.drop (n + 1) = b.drop (n + 1)) (h : a[n] < b[n]'(hl ▸ hn)) : V a < V b := by
  have hnb : n < b.length := hl ▸ hn
  rw [V_split a n (by omega), V_split b n (by omega), drop_cons hn, drop_cons hnb, hd]
  have h1 := V_lt (la.take n)
  have h2 := V_nonneg (lb.take n)
  rw [List.length_take, Nat.min_eq_left (by omega)] at h1
  have h3 : B ^ n * (V (a[n] :: b.drop (n + 1)) + 1) ≤ B ^ n * V (b[n]'(hl ▸ hn) :: b.drop (n + 1)) := Int.mul_le_mul_of_nonneg_left (by show a[n] + _ + 1 ≤ b[n]'(hl ▸ hn) + _; omega) (Int.le_of_lt (pow_pos _))
  rw [Int.mul_add, Int.mul_one] at h3
  omega
theorem compare_l {a b : List Int} (la : Lim a) (lb : Lim b) (hl : a.length = b.length) (hs : a.length ≤ 100000) : ∀ n : Nat, n ≤ a.length → a.drop n = b.drop n →
    ∃ k c, nat_compare.l0 k a b ((n : Int) - 1) = some c ∧ ((V a < V b ∧ c = -1) ∨ (V b ≤ V a ∧ 0 ≤ c)) := by
  intro n
  induction n with
  | zero =>
    intro _ hd
    refine ⟨1, 0, ?_, .inr ⟨?_, by omega⟩⟩
    · have p1 : ¬ ((0 : Nat) : Int) - 1 ≥ 0 := by omega
      rw [nat_compare.l0, if_neg p1]
    · rw [List.drop_zero, List.drop_zero] at hd
      rw [hd]; exact Int.le_refl _
  | succ n ih =>
    intro hn hd
    have na : n < a.length := by omega
    have nb : n < b.length := by omega
    have e : ((n + 1 : Nat) : Int) - 1 = (n : Int) := by omega
    have p1 : (n : Int) ≥ 0 := by omega
    have p2 : (0 : Int) ≤ (n : Int) := by omega
    have p3 : (n : Int) < (a.length : Int) := by omega
    have p4 : (n : Int) < (b.length : Int) := by omega
    rw [e]
    by_cases heq : a[n] = b[n]
    · obtain ⟨k, c, h1, h2⟩ := ih (by omega) (by rw [drop_cons na, drop_cons nb, heq, hd])
      refine ⟨k + 1, c, ?_, h2⟩
      rw [nat_compare.l0, if_pos p1, if_pos p2, if_pos p3, if_pos p4, rd_nat na, rd_nat nb, if_pos heq, w_pred (by omega)]
      exact h1
    · by_cases hlt : a[n] < b[n]
      · refine ⟨1, -1, ?_, .inl ⟨cmp_lt la lb hl na hd hlt, rfl⟩⟩
        rw [nat_compare.l0, if_pos p1, if_pos p2, if_pos p3, if_pos p4, rd_nat na, rd_nat nb, if_neg heq, if_pos hlt]
      · have hlt2 : b[n] < a[n] := by omega
        refine ⟨1, 1, ?_, .inr ⟨Int.le_of_lt (cmp_lt lb la hl.symm nb hd.symm hlt2), by omega⟩⟩
        rw [nat_compare.l0, if_pos p1, if_pos p2, if_pos p3, if_pos p4, rd_nat na, rd_nat nb, if_neg heq, if_neg hlt]
theorem compare_ok {a b : List Int} (la : Lim a) (lb : Lim b) (ra : Rt a) (rb : Rt b) (hs : a.length ≤ 100000) (hs2 : b.length ≤ 100000) :
    ∃ k c, nat_compare.f k a b = some c ∧ ((V a < V b ∧ c = -1) ∨ (V b ≤ V a ∧ 0 ≤ c)) := by
  by_cases hl : a.length = b.length
  · obtain ⟨k, c, h1, h2⟩ := compare_l la lb hl hs a.length (Nat.le_refl _) (by rw [List.drop_of_length_le (Nat.le_refl _), List.drop_of_length_le (by omega)])
    refine ⟨k, c, ?_, h2⟩
    have p : (a.length : Int) = (b.length : Int) := by omega
    rw [nat_compare.f, if_pos p, w_pred (by omega)]
    exact h1
  · have p : ¬ (a.length : Int) = (b.length : Int) := by omega
    by_cases hlt : a.length < b.length
    · have p2 : (a.length : Int) < (b.length : Int) := by omega
      refine ⟨0, -1, by rw [nat_compare.f, if_neg p, if_pos p2], .inl ⟨?_, rfl⟩⟩
      rcases Int.lt_or_le (V a) (V b) with h | h
      · exact h
      · have := Rt.len_le lb la rb h; omega
    · have p2 : ¬ (a.length : Int) < (b.length : Int) := by omega
      refine ⟨0, 1, by rw [nat_compare.f, if_neg p, if_neg p2], .inr ⟨?_, by omega⟩⟩
      rcases Int.lt_or_le (V a) (V b) with h | h
      · have := Rt.len_le la lb ra (Int.le_of_lt h); omega
      · exact h
/-! ### a limb's number -/
theorem of_ok {x : Int} (hx : 0 ≤ x ∧ x < B) : ∃ k r, nat_Of.f k x = some r ∧ Lim r ∧ V r = x ∧ Rt r ∧ r.length ≤ 1 := by
  obtain ⟨k, r, h1, h2, h3, h4, h5⟩ := trim_ok (xs := [x]) (by simp) (Lim.cons hx Lim.nil)
  refine ⟨k, r, by rw [nat_Of.f, h1]; rfl, h2, ?_, h4, h5⟩
  rw [h3]
  show x + B * 0 = x
  omega
theorem told_ok {a : List Int} (la : Lim a) (hs : a.length ≤ 100000) (h : V a < B ^ 64) : ∃ k r, nat_told.f k a = some (r, 0) ∧ Lim r ∧ V r = V a ∧ Rt r ∧ r.length ≤ 64 := by
  obtain ⟨k, r, h1, h2, h3, h4, h5⟩ := trim_ok hs la
  have hl : r.length ≤ 64 := by
    rcases Nat.lt_or_ge 64 r.length with hg | hg
    · exfalso
      have h6 := V_ge h2 h4 (by intro e; rw [e] at hg; simp at hg)
      have h7 := pow_mono (show 64 ≤ r.length - 1 by omega)
      rw [h3] at h6
      generalize B ^ 64 = X at *
      generalize B ^ (r.length - 1) = Y at *
      omega
    · exact hg
  refine ⟨k, r, ?_, h2, h3, h4, hl⟩
  have p : ¬ (r.length : Int) > 64 := by omega
  rw [nat_told.f, h1, Option.bind_some, if_neg p]
/-! ### by a limb -/
theorem div64_ok {r x d : Int} (hr : 0 ≤ r ∧ r < d) (hx : 0 ≤ x ∧ x < B) (hd : 0 < d ∧ d < B) : ∃ q s, bits_Div64.f r x d = some (q, s) ∧ r * B + x = q * d + s ∧ (0 ≤ q ∧ q < B) ∧ 0 ≤ s ∧ s < d := by
  have h0 : d ≠ 0 := Int.ne_of_gt hd.1
  refine ⟨(r * B + x) / d, (r * B + x) % d, ?_, (Int.ediv_mul_add_emod _ d).symm, ⟨?_, ?_⟩, Int.emod_nonneg _ h0, Int.emod_lt_of_pos _ hd.1⟩
  · have hrB : r < B := Int.lt_trans hr.2 hd.2
    unfold bits_Div64.f
    rw [if_pos ⟨⟨hr.1, hrB⟩, hx, ⟨Int.le_of_lt hd.1, hd.2⟩, hr.2⟩]
    rfl
  · refine Int.ediv_nonneg ?_ (Int.le_of_lt hd.1)
    exact Int.add_nonneg (Int.mul_nonneg hr.1 (Int.le_of_lt B_pos)) hx.1
  · refine Int.ediv_lt_of_lt_mul hd.1 ?_
    have h1 : (r + 1) * B ≤ d * B := Int.mul_le_mul_of_nonneg_right (by omega) (Int.le_of_lt B_pos)
    rw [Int.add_mul, Int.one_mul, Int.mul_comm d B] at h1
    omega
theorem short_step {k n : Nat} {a o : List Int} {d s q s' : Int} (hn : n < a.length) (ho : n < o.length) (hs : n < 1000000) (f : bits_Div64.f s a[n] d = some (q, s')) :
    nat_short.l0 (k + 1) a d o s (n : Int) = nat_short.l0 k a d (o.set n q) s' ((n : Int) - 1) := by
  have p1 : (n : Int) ≥ 0 := by omega
  have p2 : (0 : Int) ≤ (n : Int) := by omega
  have p3 : (n : Int) < (a.length : Int) := by omega
  have p4 : (n : Int) < (o.length : Int) := by omega
  rw [nat_short.l0, if_pos p1, if_pos p2, if_pos p3, rd_nat hn, f, Option.bind_some, if_pos p4, w_pred (by omega), Int.toNat_natCast]
theorem short_l {a : List Int} {d : Int} (la : Lim a) (hd : 0 < d ∧ d < B) (hs : a.length ≤ 100000) : ∀ n : Nat, n ≤ a.length → ∀ (o : List Int) (s : Int), o.length = a.length → Lim o → 0 ≤ s ∧ s < d → V (a.drop n) = V (o.drop n) * d + s →
    ∃ k q r, nat_short.l0 k a d o s ((n : Int) - 1) = some (q, r) ∧ Lim q ∧ Rt q ∧ q.length ≤ a.length ∧ (0 ≤ r ∧ r < d) ∧ V a = V q * d + r := by
  intro n
  induction n with
  | zero =>
    intro _ o s ho lo hsd hv
    obtain ⟨k, r, h1, h2, h3, h4, h5⟩ := trim_ok (xs := o) (by omega) lo
    refine ⟨k + 1, r, s, ?_, h2, h4, by omega, hsd, ?_⟩
    · have p1 : ¬ ((0 : Nat) : Int) - 1 ≥ 0 := by omega
      rw [nat_short.l0, if_neg p1, h1, Option.bind_some]
    · rw [List.drop_zero, List.drop_zero] at hv
      rw [h3]; exact hv
  | succ n ih =>
    intro hn o s ho lo hsd hv
    have na : n < a.length := by omega
    have no : n < o.length := by omega
    obtain ⟨q, s', f1, f2, f3, f4⟩ := div64_ok hsd (la _ (List.getElem_mem na)) hd
    have hv2 : V (a.drop n) = V ((o.set n q).drop n) * d + s' := by
      have e1 : (o.set n q).drop n = q :: o.drop (n + 1) := by
        rw [drop_cons (by rw [List.length_set]; exact no), List.getElem_set_self, List.drop_set_of_lt (by omega)]
      rw [e1, drop_cons na]
      show a[n] + B * V (a.drop (n + 1)) = (q + B * V (o.drop (n + 1))) * d + s'
      rw [hv]
      grind
    obtain ⟨k, q', r, h1, h2⟩ := ih (by omega) (o.set n q) s' (by rw [List.length_set]; exact ho) (lo.set _ f3) f4 hv2
    refine ⟨k + 1, q', r, ?_, h2⟩
    rw [show ((n + 1 : Nat) : Int) - 1 = (n : Int) by omega, short_step na no (by omega) f1]
    exact h1
theorem short_ok {a : List Int} {d : Int} (la : Lim a) (hd : 0 < d ∧ d < B) (hs : a.length ≤ 100000) : ∃ k q r, nat_short.f k a d = some (q, r) ∧ Lim q ∧ Rt q ∧ q.length ≤ a.length ∧ (0 ≤ r ∧ r < d) ∧ V a = V q * d + r := by
  obtain ⟨k, q, r, h1, h2⟩ := short_l la hd hs a.length (Nat.le_refl _) (List.replicate a.length 0) 0 (by simp) (Lim.zeros _) ⟨Int.le_refl _, hd.1⟩ (by rw [List.drop_of_length_le (Nat.le_refl _), List.drop_of_length_le (by simp)]; show (0 : Int) = 0 * d + 0; omega)
  refine ⟨k, q, r, ?_, h2⟩
  have p1 : (0 : Int) ≤ (a.length : Int) := by omega
  have p2 : (a.length : Int).toNat ≤ 35184372088832 := by omega
  rw [nat_short.f, if_pos p1, if_pos p2, Int.toNat_natCast, w_pred (by omega)]
  exact h1
end Go.Proofs.Ytdaelbihfdlgkaa.Nq
