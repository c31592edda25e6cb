/- Products limb by limb: plain laws. -/
import Derived.Test.YtdaelbihfdlgkaaFc
import Derived.Test.YtdaelbihfdlgkaaNv
import Derived.Shelf.Bits.Mul64
namespace Go.Proofs.Ytdaelbihfdlgkaa.Np
open Go.RowKit Go.Proofs.Ytdaelbihfdlgkaa.Na Go.Proofs.Ytdaelbihfdlgkaa.Nv Go.Proofs.Ytdaelbihfdlgkaa.Fns Go.Proofs.YtdaelbihfdlgkaaW.PrintWords Go.Proofs.YtdaelbihfdlgkaaW.PrintLast Go.Proofs.YtdaelbihfdlgkaaW.PrintMore
set_option linter.unusedVariables false
set_option linter.unusedSimpArgs false
theorem mul64_nat (x y : Nat) (hx : x < 18446744073709551616) (hy : y < 18446744073709551616) : bits_Mul64.f (x : Int) (y : Int) = some (((x * y / 18446744073709551616 : Nat) : Int), ((x * y % 18446744073709551616 : Nat) : Int)) := by
  obtain ⟨bd, bt, bw, hhi⟩ := Lib.mul64_hi x y hx hy
  have ba := Lib.half_mul_le (a := x / 4294967296) (b := y / 4294967296) (by omega) (by omega)
  have bb := Lib.half_mul_le (a := x / 4294967296) (b := y % 4294967296) (by omega) (by omega)
  have bc := Lib.half_mul_le (a := x % 4294967296) (b := y / 4294967296) (by omega) (by omega)
  have ba' : x / 4294967296 * (y / 4294967296) < 18446744073709551616 := by omega
  have bb' : x / 4294967296 * (y % 4294967296) < 18446744073709551616 := by omega
  have bc' : x % 4294967296 * (y / 4294967296) < 18446744073709551616 := by omega
  have bh1 : x / 4294967296 * (y / 4294967296) + (x / 4294967296 * (y % 4294967296) + x % 4294967296 * (y % 4294967296) / 4294967296) / 4294967296 < 18446744073709551616 := by omega
  have bh : x / 4294967296 * (y / 4294967296) + (x / 4294967296 * (y % 4294967296) + x % 4294967296 * (y % 4294967296) / 4294967296) / 4294967296 + ((x / 4294967296 * (y % 4294967296) + x % 4294967296 * (y % 4294967296) / 4294967296) % 4294967296 + x % 4294967296 * (y / 4294967296)) / 4294967296 < 18446744073709551616 := by omega
  unfold bits_Mul64.f
  simp only [Mul64.maskN x hx, Mul64.maskN y hy, Mul64.divN, Mul64.mulN, Mul64.addN, Mul64.wrapN _ bd, Mul64.wrapN _ bb', Mul64.wrapN _ bt, Mul64.maskN _ bt, Mul64.wrapN _ bc', Mul64.wrapN _ bw, Mul64.wrapN _ ba', Mul64.wrapN _ bh1, Mul64.wrapN _ bh, Mul64.wrapM (x * y)]
  rw [hhi]
/-- The product of two limbs. -/
theorem mul64_ok {x y : Int} (hx : 0 ≤ x ∧ x < B) (hy : 0 ≤ y ∧ y < B) : ∃ h l, bits_Mul64.f x y = some (h, l) ∧ x * y = h * B + l ∧ 0 ≤ l ∧ l < B ∧ 0 ≤ h ∧ h ≤ B - 2 := by
  obtain ⟨X, rfl⟩ := Int.eq_ofNat_of_zero_le hx.1
  obtain ⟨Y, rfl⟩ := Int.eq_ofNat_of_zero_le hy.1
  have hB : B = 18446744073709551616 := rfl
  rw [hB] at hx hy ⊢
  refine ⟨_, _, mul64_nat X Y (by omega) (by omega), ?_, by omega, by omega, by omega, ?_⟩
  · rw [← Int.natCast_mul]; omega
  · have h1 : X * Y ≤ 18446744073709551615 * 18446744073709551615 := Nat.mul_le_mul (by omega) (by omega)
    omega
theorem add64_ok {x y c : Int} (hx : 0 ≤ x ∧ x < B) (hy : 0 ≤ y ∧ y < B) (hc : 0 ≤ c ∧ c ≤ 1) : ∃ d k, bits_Add64.f x y c = some (d, k) ∧ x + y + c = k * B + d ∧ 0 ≤ d ∧ d < B ∧ 0 ≤ k ∧ k ≤ 1 := by
  have hB : B = 18446744073709551616 := rfl
  rw [hB] at hx hy ⊢
  refine ⟨_, _, by unfold bits_Add64.f; rw [if_pos ⟨hx, hy, hc.1, hc.2⟩], by omega, by omega, by omega, by omega, by omega⟩
theorem V_set : ∀ {o : List Int} {p : Nat} (h : p < o.length) (v : Int), V (o.set p v) = V o + B ^ p * (v - o[p])
  | x :: o, 0, _, v => by
    show v + B * V o = x + B * V o + B ^ 0 * (v - x)
    rw [Int.pow_zero]; omega
  | x :: o, p + 1, h, v => by
    show x + B * V (o.set p v) = x + B * V o + B ^ (p + 1) * (v - o[p]'(Nat.lt_of_succ_lt_succ h))
    rw [V_set (Nat.lt_of_succ_lt_succ h) v, Int.pow_succ]
    grind
theorem rd_nat {xs : List Int} {i : Nat} (h : i < xs.length) : rd xs (i : Int) = xs[i] := by
  simp [rd, h]
theorem w_add {m n : Nat} (h : m + n ≤ 1000000) : wrap64 ((m : Int) + (n : Int)) = ((m + n : Nat) : Int) := by unfold wrap64; omega
theorem w_one {m : Nat} (h : m ≤ 1000000) : wrap64 ((m : Int) + 1) = ((m + 1 : Nat) : Int) := by unfold wrap64; omega
theorem w_nat {n : Nat} (h : n ≤ 1000000) : wrap64 (n : Int) = (n : Int) := by unfold wrap64; omega
/-- What stands at a place and behind is nought. -/
def Z (o : List Int) (p : Nat) : Prop := ∀ i (h : i < o.length), p ≤ i → o[i] = 0
theorem trim_l (xs : List Int) (hn : xs.length ≤ 100000) (hl : Lim xs) : ∀ n : Nat, n ≤ xs.length → V (xs.take n) = V xs → ∃ k r, nat_trim.l0 k xs (n : Int) = some r ∧ Lim r ∧ V r = V xs ∧ Rt r ∧ r.length ≤ n := by
  intro n
  induction n with
  | zero =>
    intro h hv
    refine ⟨1, [], ?_, Lim.nil, by rw [← hv]; rfl, (fun x h => by cases h), Nat.le_refl _⟩
    unfold nat_trim.l0
    rw [if_neg (by omega), if_pos (by omega), if_pos (by omega)]
    rfl
  | succ n ih =>
    intro h hv
    have hw : wrap64 (((n + 1 : Nat) : Int) - 1) = (n : Int) := by unfold wrap64; omega
    by_cases hz : xs[n] = 0
    · have hv2 : V (xs.take n) = V xs := by rw [← hv, V_take_succ (by omega : n < xs.length), hz, Int.mul_zero, Int.add_zero]
      obtain ⟨k, r, h1, h2, h3, h4, h5⟩ := ih (by omega) hv2
      refine ⟨k + 1, r, ?_, h2, h3, h4, by omega⟩
      unfold nat_trim.l0
      rw [if_pos (by omega), hw, if_pos (by omega), if_pos (by omega), rd_nat (by omega : n < xs.length), if_pos hz]
      exact h1
    · refine ⟨1, xs.take (n + 1), ?_, hl.take _, hv, ?_, by rw [List.length_take]; omega⟩
      · unfold nat_trim.l0
        rw [if_pos (by omega), hw, if_pos (by omega), if_pos (by omega), rd_nat (by omega : n < xs.length), if_neg hz, if_pos (by omega), if_pos (by omega), Int.toNat_natCast]
      · intro x hx
        rw [List.take_succ_eq_append_getElem (by omega : n < xs.length), List.getLast?_append, List.getLast?_singleton, Option.some_or] at hx
        cases hx
        exact hz
theorem trim_ok {xs : List Int} (hn : xs.length ≤ 100000) (hl : Lim xs) : ∃ k r, nat_trim.f k xs = some r ∧ Lim r ∧ V r = V xs ∧ Rt r ∧ r.length ≤ xs.length := by
  unfold nat_trim.f
  exact trim_l xs hn hl xs.length (Nat.le_refl _) (by rw [List.take_of_length_le (Nat.le_refl _)])
theorem Z.set {o : List Int} {p q : Nat} (h : Z o p) (hq : q < p) (v : Int) : Z (o.set q v) p := fun i hi hp => by
  rw [List.getElem_set_ne (by omega)]
  exact h i (by simpa using hi) hp
theorem Z.set2 {o : List Int} {p : Nat} (h : Z o p) (v : Int) : Z (o.set p v) (p + 1) := fun i hi hp => by
  rw [List.getElem_set_ne (by omega)]
  exact h i (by simpa using hi) (by omega)
theorem wrapB {x : Int} (h0 : 0 ≤ x) (h : x < B) : IntKind.u64.wrap x = x := by
  rw [IntKind.wrap_u64]
  exact Int.emod_eq_of_lt h0 h
theorem step_sum {b x y h l o c d1 k1 d2 k2 : Int} (hb : 0 < b) (hx : 0 ≤ x ∧ x < b) (hy : 0 ≤ y ∧ y < b) (ho : 0 ≤ o ∧ o < b) (hc : 0 ≤ c ∧ c < b) (e : x * y = h * b + l) (e1 : l + o + 0 = k1 * b + d1) (e2 : d1 + c + 0 = k2 * b + d2) (hd : 0 ≤ d2) : x * y + o + c = d2 + b * (h + k1 + k2) ∧ h + k1 + k2 < b := by
  have t : x * y + o + c = d2 + b * (h + k1 + k2) := by grind
  refine ⟨t, ?_⟩
  have t1 : x * y ≤ x * (b - 1) := Int.mul_le_mul_of_nonneg_left (by omega) hx.1
  have t2 : x * (b - 1) ≤ (b - 1) * (b - 1) := Int.mul_le_mul_of_nonneg_right (by omega) (by omega)
  have t3 : (b - 1) * (b - 1) = b * b - 2 * b + 1 := by grind
  have t4 : b * (h + k1 + k2) < b * b := by
    generalize x * y = P at *
    generalize x * (b - 1) = P2 at *
    generalize b * (h + k1 + k2) = P3 at *
    rw [t3] at t2
    generalize b * b = P4 at *
    clear e e1 e2 t3
    omega
  exact Int.lt_of_mul_lt_mul_left t4 (by omega)
theorem step_ok {x y o c : Int} (hx : 0 ≤ x ∧ x < B) (hy : 0 ≤ y ∧ y < B) (ho : 0 ≤ o ∧ o < B) (hc : 0 ≤ c ∧ c < B) : ∃ h l d1 k1 d2 k2, bits_Mul64.f x y = some (h, l) ∧ bits_Add64.f l o 0 = some (d1, k1) ∧ bits_Add64.f d1 c 0 = some (d2, k2) ∧ IntKind.u64.wrap (IntKind.u64.wrap (h + k1) + k2) = h + k1 + k2 ∧ x * y + o + c = d2 + B * (h + k1 + k2) ∧ (0 ≤ d2 ∧ d2 < B) ∧ 0 ≤ h + k1 + k2 ∧ h + k1 + k2 < B := by
  obtain ⟨h, l, e1, e2, e3, e4, e5, e6⟩ := mul64_ok hx hy
  obtain ⟨d1, k1, f1, f2, f3, f4, f5, f6⟩ := add64_ok ⟨e3, e4⟩ ho (c := 0) (by omega)
  obtain ⟨d2, k2, g1, g2, g3, g4, g5, g6⟩ := add64_ok ⟨f3, f4⟩ hc (c := 0) (by omega)
  obtain ⟨t1, t2⟩ := step_sum B_pos hx hy ho hc e2 f2 g2 g3
  have p1 : 0 ≤ h + k1 := Int.add_nonneg e5 f5
  have p2 : 0 ≤ h + k1 + k2 := Int.add_nonneg p1 g5
  have p3 : h + k1 < B := Int.lt_of_le_of_lt (Int.le_add_of_nonneg_right g5) t2
  exact ⟨h, l, d1, k1, d2, k2, e1, f1, g1, by rw [wrapB p1 p3, wrapB p2 t2], t1, ⟨g3, g4⟩, p2, t2⟩
theorem l1_step {k i j : Nat} {a b o : List Int} {x c h l d1 k1 d2 k2 c' : Int} (hj : j < b.length) (hp : i + j < o.length) (hs : i + j < 1000000) (e1 : bits_Mul64.f x b[j] = some (h, l)) (f1 : bits_Add64.f l o[i + j] 0 = some (d1, k1)) (g1 : bits_Add64.f d1 c 0 = some (d2, k2)) (hw2 : IntKind.u64.wrap (IntKind.u64.wrap (h + k1) + k2) = c') :
    nat_school.l1 (k + 1) b o (i : Int) x c a (a.length : Int) (i : Int) b (b.length : Int) (j : Int) = nat_school.l1 k b (o.set (i + j) d2) (i : Int) x c' a (a.length : Int) (i : Int) b (b.length : Int) ((j + 1 : Nat) : Int) := by
  have p1 : (j : Int) < (b.length : Int) := by omega
  have p2 : (0 : Int) ≤ (j : Int) := by omega
  have p3 : (0 : Int) ≤ ((i + j : Nat) : Int) := by omega
  have p4 : ((i + j : Nat) : Int) < (o.length : Int) := by omega
  have hw := w_add (m := i) (n := j) (by omega)
  have hw3 := w_one (m := j) (by omega)
  rw [nat_school.l1, if_pos p1, if_pos p2, if_pos p1, rd_nat hj, e1, Option.bind_some, hw, if_pos p3, if_pos p4, rd_nat hp, f1, Option.bind_some, g1, Option.bind_some, hw2, hw3, Int.toNat_natCast]
theorem l1_end {k i : Nat} {a b o : List Int} {x c : Int} (hp : i + b.length < o.length) (hs : i + b.length < 1000000) :
    nat_school.l1 (k + 1) b o (i : Int) x c a (a.length : Int) (i : Int) b (b.length : Int) (b.length : Int) = nat_school.l0 k b (o.set (i + b.length) c) a (a.length : Int) ((i + 1 : Nat) : Int) := by
  have p1 : ¬ (b.length : Int) < (b.length : Int) := by omega
  have p3 : (0 : Int) ≤ ((i + b.length : Nat) : Int) := by omega
  have p4 : ((i + b.length : Nat) : Int) < (o.length : Int) := by omega
  have hw := w_add (m := i) (n := b.length) (by omega)
  have hw3 := w_one (m := i) (by omega)
  rw [nat_school.l1, if_neg p1, hw, if_pos p3, if_pos p4, hw3, Int.toNat_natCast]
/-- One limb by all of the other number's. -/
theorem inner {a b : List Int} {i n : Nat} {x V0 : Int} {P : List Int → Prop} (lb : Lim b) (hx : 0 ≤ x ∧ x < B) (hi : i < a.length) (hn : n = a.length + b.length) (hs : n ≤ 100000)
    (next : ∀ o : List Int, o.length = n → Lim o → Z o (i + b.length + 1) → V o = V0 + x * V b * B ^ i → ∃ k r, nat_school.l0 k b o a (a.length : Int) ((i + 1 : Nat) : Int) = some r ∧ P r) :
    ∀ (m j : Nat), j + m = b.length → ∀ (o : List Int) (c : Int), o.length = n → Lim o → Z o (i + b.length) → 0 ≤ c ∧ c < B → V o + c * B ^ (i + j) = V0 + x * V (b.take j) * B ^ i →
      ∃ k r, nat_school.l1 k b o (i : Int) x c a (a.length : Int) (i : Int) b (b.length : Int) (j : Int) = some r ∧ P r := by
  intro m
  induction m with
  | zero =>
    intro j hj o c ho lo hz hc hv
    have hp : i + b.length < o.length := by omega
    have hz0 := hz (i + b.length) hp (Nat.le_refl _)
    obtain ⟨k, r, h1, h2⟩ := next (o.set (i + b.length) c) (by rw [List.length_set]; exact ho) (lo.set _ hc) (hz.set2 c) (by
      rw [V_set hp, hz0, Int.sub_zero]
      have e : b.take j = b := List.take_of_length_le (by omega)
      rw [e, show i + j = i + b.length by omega] at hv
      rw [← hv]
      grind)
    refine ⟨k + 1, r, ?_, h2⟩
    rw [show j = b.length by omega, l1_end hp (by omega)]
    exact h1
  | succ m ih =>
    intro j hj o c ho lo hz hc hv
    have hjb : j < b.length := by omega
    have hp : i + j < o.length := by omega
    have hy := lb _ (List.getElem_mem hjb)
    have ho1 := lo _ (List.getElem_mem hp)
    obtain ⟨h, l, d1, k1, d2, k2, e1, f1, g1, hw2, t, g3, hk0, hk⟩ := step_ok hx hy ho1 hc
    obtain ⟨k, r, h1, h2⟩ := ih (j + 1) (by omega) (o.set (i + j) d2) (h + k1 + k2) (by rw [List.length_set]; exact ho) (lo.set _ g3) (hz.set (by omega) d2) ⟨hk0, hk⟩ (by
      rw [V_set hp, V_take_succ hjb, show i + (j + 1) = (i + j) + 1 by omega, Int.pow_succ]
      have t2 : B ^ (i + j) = B ^ i * B ^ j := Int.pow_add B i j
      have e : V o + B ^ (i + j) * (d2 - o[i + j]) + (h + k1 + k2) * (B ^ (i + j) * B) = V o + c * B ^ (i + j) + B ^ (i + j) * (x * b[j]) := by grind
      rw [e, hv, t2]
      grind)
    refine ⟨k + 1, r, ?_, h2⟩
    rw [l1_step hjb hp (by omega) e1 f1 g1 hw2]
    exact h1
theorem outer {a b : List Int} {n : Nat} (la : Lim a) (lb : Lim b) (hn : n = a.length + b.length) (hs : n ≤ 100000) :
    ∀ (m i : Nat), i + m = a.length → ∀ o : List Int, o.length = n → Lim o → Z o (i + b.length) → V o = V (a.take i) * V b →
      ∃ k r, nat_school.l0 k b o a (a.length : Int) (i : Int) = some r ∧ Lim r ∧ V r = V a * V b ∧ Rt r ∧ r.length ≤ n := by
  intro m
  induction m with
  | zero =>
    intro i hi o ho lo hz hv
    obtain ⟨k, r, h1, h2, h3, h4, h5⟩ := trim_ok (xs := o) (by omega) lo
    refine ⟨k + 1, r, ?_, h2, ?_, h4, by omega⟩
    · unfold nat_school.l0
      rw [if_neg (by omega), h1]
      rfl
    · rw [h3, hv, List.take_of_length_le (by omega)]
  | succ m ih =>
    intro i hi o ho lo hz hv
    have hia : i < a.length := by omega
    obtain ⟨k, r, h1, h2⟩ := inner (a := a) (b := b) (i := i) (n := n) (x := a[i]) (V0 := V o) (P := fun r => Lim r ∧ V r = V a * V b ∧ Rt r ∧ r.length ≤ n) lb (la _ (List.getElem_mem hia)) hia hn hs (fun o' e1 e2 e3 e4 => ih (i + 1) (by omega) o' e1 e2 (by rw [show i + 1 + b.length = i + b.length + 1 by omega]; exact e3) (by
      rw [e4, hv, V_take_succ hia]
      grind)) b.length 0 (by omega) o 0 ho lo hz (by unfold B; omega) (by rw [List.take_zero]; show V o + 0 * _ = V o + a[i] * 0 * _; grind)
    refine ⟨k + 1, r, ?_, h2⟩
    unfold nat_school.l0
    rw [if_pos (by omega), if_pos (by omega), if_pos (by omega), rd_nat hia]
    exact h1
/-- The product, limb by limb. -/
theorem school_ok {a b : List Int} (la : Lim a) (lb : Lim b) (hs : a.length + b.length ≤ 100000) : ∃ k r, nat_school.f k a b = some r ∧ Lim r ∧ V r = V a * V b ∧ Rt r ∧ r.length ≤ a.length + b.length := by
  have hw : wrap64 ((a.length : Int) + (b.length : Int)) = ((a.length + b.length : Nat) : Int) := by unfold wrap64; omega
  obtain ⟨k, r, h1, h2⟩ := outer la lb rfl hs a.length 0 (by omega) (List.replicate (a.length + b.length) 0) (by simp) (Lim.zeros _) (fun i h _ => by simp) (by rw [V_zeros, List.take_zero]; show (0 : Int) = 0 * V b; rw [Int.zero_mul])
  refine ⟨k, r, ?_, h2⟩
  unfold nat_school.f
  rw [hw, if_pos (by omega), Int.toNat_natCast, if_pos (by omega)]
  exact h1
end Go.Proofs.Ytdaelbihfdlgkaa.Np
