/- Division by two limbs and more: plain laws. -/
import Derived.Test.YtdaelbihfdlgkaaNw
namespace Go.Proofs.Ytdaelbihfdlgkaa.Lo
open Go.RowKit Go.Proofs.Ytdaelbihfdlgkaa.Na Go.Proofs.Ytdaelbihfdlgkaa.Nv Go.Proofs.Ytdaelbihfdlgkaa.Np Go.Proofs.Ytdaelbihfdlgkaa.Nq Go.Proofs.Ytdaelbihfdlgkaa.Nr Go.Proofs.Ytdaelbihfdlgkaa.Nw Go.Proofs.Ytdaelbihfdlgkaa.Fns Go.Proofs.YtdaelbihfdlgkaaW.PrintWords Go.Proofs.YtdaelbihfdlgkaaW.PrintLast Go.Proofs.YtdaelbihfdlgkaaW.PrintMore
set_option linter.unusedVariables false
set_option linter.unusedSimpArgs false
theorem V_cons (x : Int) (xs : List Int) : V (x :: xs) = x + B * V xs := rfl
/-- The quotient under way: limbs from i on are found. -/
structure LI (R0 D : Int) (k m i : Nat) (r q : List Int) : Prop where
  rn : r.length = m
  rl : Lim r
  qn : q.length + k = m
  ql : Lim q
  hi : i ≤ q.length
  lo : V (r.drop i) < D
  v : R0 = V (q.drop i) * D * B ^ i + V r
  D0 : 0 < D ∧ D < B ^ k
/-- The limbs that are divided next. -/
def part (r : List Int) (k j : Nat) : List Int := (r.take (j + k + 1)).drop j
section
variable {R0 D : Int} {k m j : Nat} {r q : List Int}
theorem LI.top (h : LI R0 D k m (j + 1) r q) : V (r.drop (j + k + 1)) = 0 ∧ V (r.drop (j + 1)) = V ((r.drop (j + 1)).take k) := by
  have hk : k ≤ (r.drop (j + 1)).length := by
    rw [List.length_drop, h.rn]
    have := h.hi; have := h.qn
    omega
  have e := V_split (r.drop (j + 1)) k hk
  rw [List.drop_drop, show j + 1 + k = j + k + 1 by omega] at e
  have h1 := V_nonneg ((h.rl.drop (j + 1)).take k)
  have h2 := V_nonneg (h.rl.drop (j + k + 1))
  have h3 := h.lo
  have h4 := h.D0
  have h5 : V (r.drop (j + k + 1)) = 0 := by
    rcases Int.lt_or_le 0 (V (r.drop (j + k + 1))) with h6 | h6
    · exfalso
      have h7 : B ^ k * 1 ≤ B ^ k * V (r.drop (j + k + 1)) := Int.mul_le_mul_of_nonneg_left (by omega) (Int.le_of_lt (pow_pos k))
      omega
    · omega
  refine ⟨h5, ?_⟩
  rw [h5, Int.mul_zero, Int.add_zero] at e
  exact e
theorem LI.part_eq (h : LI R0 D k m (j + 1) r q) : part r k j = (r[j]'(by have := h.rn; have := h.hi; have := h.qn; omega)) :: (r.drop (j + 1)).take k := by
  have hj : j < r.length := by have := h.rn; have := h.hi; have := h.qn; omega
  unfold part
  rw [List.drop_take, show j + k + 1 - j = k + 1 by omega, drop_cons hj, List.take_succ_cons]
theorem LI.part_len (h : LI R0 D k m (j + 1) r q) : (part r k j).length = k + 1 := by
  rw [h.part_eq, List.length_cons, List.length_take, List.length_drop, h.rn]
  have := h.hi; have := h.qn
  omega
theorem part_lim (rl : Lim r) : Lim (part r k j) := (rl.take _).drop _
theorem LI.part_val (h : LI R0 D k m (j + 1) r q) : 0 ≤ V (part r k j) ∧ V (part r k j) < B * D ∧ V (r.drop j) = V (part r k j) := by
  have hj : j < r.length := by have := h.rn; have := h.hi; have := h.qn; omega
  have h1 := h.rl _ (List.getElem_mem hj)
  have h2 := h.top.2
  have h3 := h.lo
  refine ⟨V_nonneg (part_lim h.rl), ?_, ?_⟩
  · rw [h.part_eq, V_cons, ← h2]
    have h4 : B * (V (r.drop (j + 1)) + 1) ≤ B * D := Int.mul_le_mul_of_nonneg_left (by omega) (Int.le_of_lt B_pos)
    rw [Int.mul_add, Int.mul_one] at h4
    omega
  · rw [h.part_eq, V_cons, ← h2, drop_cons hj, V_cons]
/-- The quotient's limb. -/
theorem LI.limb (h : LI R0 D k m (j + 1) r q) {g : Int} (h1 : g * D ≤ V (part r k j)) (h2 : V (part r k j) < g * D + D) : 0 ≤ g ∧ g < B := by
  have h3 := h.part_val
  have h4 := h.D0.1
  constructor
  · rcases Int.lt_or_le g 0 with h5 | h5
    · exfalso
      have : (g + 1) * D ≤ 0 * D := Int.mul_le_mul_of_nonneg_right (by omega) (by omega)
      rw [Int.add_mul, Int.one_mul, Int.zero_mul] at this
      omega
    · exact h5
  · rcases Int.lt_or_le g B with h5 | h5
    · exact h5
    · exfalso
      have : B * D ≤ g * D := Int.mul_le_mul_of_nonneg_right h5 (by omega)
      omega
/-- One limb further. -/
theorem LI.step (h : LI R0 D k m (j + 1) r q) {g : Int} {nw : List Int} (hn : nw.length = k + 1) (ln : Lim nw) (hv : V nw = V (part r k j) - g * D) (hlt : V nw < D) :
    LI R0 D k m j (r.take j ++ nw ++ r.drop (j + k + 1)) (q.set j g) := by
  have hj : j < r.length := by have := h.rn; have := h.hi; have := h.qn; omega
  have hjq : j < q.length := by have := h.hi; omega
  have hjk : j + k + 1 ≤ r.length := by have := h.rn; have := h.hi; have := h.qn; omega
  have hg : 0 ≤ g ∧ g < B := h.limb (by have := V_nonneg ln; omega) (by omega)
  have hlt2 : (r.take j).length = j := by rw [List.length_take]; omega
  have e1 : (r.take j ++ nw ++ r.drop (j + k + 1)).drop j = nw ++ r.drop (j + k + 1) := by
    rw [List.append_assoc, List.drop_append, hlt2, Nat.sub_self, List.drop_zero, List.drop_of_length_le (by omega), List.nil_append]
  have e2 : V (nw ++ r.drop (j + k + 1)) = V nw := by
    rw [V_append, h.top.1, Int.mul_zero, Int.add_zero]
  refine ⟨?_, ((h.rl.take j).append ln).append (h.rl.drop _), by rw [List.length_set]; exact h.qn, h.ql.set _ hg, by rw [List.length_set]; omega, ?_, ?_, h.D0⟩
  · rw [List.length_append, List.length_append, hlt2, hn, List.length_drop, h.rn]
    have := h.hi; have := h.qn
    omega
  · rw [e1, e2]; exact hlt
  · have e3 : V (r.take j ++ nw ++ r.drop (j + k + 1)) = V (r.take j) + B ^ j * V nw := by
      rw [List.append_assoc, V_append, hlt2, e2]
    have e4 : V r = V (r.take j) + B ^ j * V (part r k j) := by
      rw [← h.part_val.2.2]
      exact V_split r j (by omega)
    have e5 : (q.set j g).drop j = g :: q.drop (j + 1) := by
      rw [drop_cons (by rw [List.length_set]; exact hjq), List.getElem_set_self, List.drop_set_of_lt (by omega)]
    rw [e3, e5, V_cons, h.v, e4, hv, Int.pow_succ]
    generalize V (q.drop (j + 1)) = Q
    generalize B ^ j = P
    generalize V (part r k j) = Y
    generalize V (r.take j) = X
    grind
end
theorem LI.start {R0 D : Int} {k m : Nat} {r q : List Int} (rn : r.length = m) (rl : Lim r) (qn : q.length + k = m) (ql : Lim q) (hD : 0 < D ∧ D < B ^ k) (hR : R0 = V r) (hlt : V r < D * B ^ q.length) : LI R0 D k m q.length r q := by
  refine ⟨rn, rl, qn, ql, Nat.le_refl _, ?_, ?_, hD⟩
  · have e := V_split r q.length (by omega)
    have h1 := V_nonneg (rl.take q.length)
    have h2 : B ^ q.length * V (r.drop q.length) < B ^ q.length * D := by rw [Int.mul_comm _ D]; omega
    exact Int.lt_of_mul_lt_mul_left h2 (Int.le_of_lt (pow_pos _))
  · rw [List.drop_of_length_le (Nat.le_refl _), hR]
    show V r = 0 * D * _ + V r
    rw [Int.zero_mul, Int.zero_mul, Int.zero_add]
theorem V_three (x y z : Int) : V [x, y, z] = (z * B + y) * B + x := by
  rw [V_cons, V_cons, V_cons]
  show x + B * (y + B * (z + B * 0)) = _
  grind
theorem V_two (x y : Int) : V [x, y] = y * B + x := by
  rw [V_cons, V_cons]
  show x + B * (y + B * 0) = _
  grind
/-- What the guess is taken of. -/
theorem guess_pre {p d : List Int} {k : Nat} (lp : Lim p) (ld : Lim d) (hp : p.length = k + 3) (hd : d.length = k + 2) {g : Int} (hg : 0 ≤ g) (h : g * V d ≤ V p) :
    g * (d[k + 1]'(by omega) * B + d[k]'(by omega)) ≤ (p[k + 2]'(by omega) * B + p[k + 1]'(by omega)) * B + p[k]'(by omega) := by
  have e1 := V_split p k (by omega)
  have e2 := V_split d k (by omega)
  rw [drop_cons (by omega : k < p.length), drop_cons (by omega : k + 1 < p.length), drop_cons (by omega : k + 1 + 1 < p.length), List.drop_of_length_le (by omega), V_three] at e1
  rw [drop_cons (by omega : k < d.length), drop_cons (by omega : k + 1 < d.length), List.drop_of_length_le (by omega), V_two] at e2
  have h1 := V_lt (lp.take k)
  rw [List.length_take, Nat.min_eq_left (by omega)] at h1
  have h2 : 0 ≤ g * V (d.take k) := Int.mul_nonneg hg (V_nonneg (ld.take k))
  generalize d[k + 1] * B + d[k] = X at *
  have e3 : (p[k + 1 + 1] * B + p[k + 1]) * B + p[k] = (p[k + 2] * B + p[k + 1]) * B + p[k] := rfl
  rw [e3] at e1
  generalize (p[k + 2] * B + p[k + 1]) * B + p[k] = Y at *
  have h3 : B ^ k * (g * X) < B ^ k * (Y + 1) := by
    rw [e1, e2] at h
    have e4 : g * (V (d.take k) + B ^ k * X) = g * V (d.take k) + B ^ k * (g * X) := by grind
    rw [e4] at h
    rw [Int.mul_add, Int.mul_one]
    omega
  have h4 := Int.lt_of_mul_lt_mul_left h3 (Int.le_of_lt (pow_pos k))
  omega
/-! ### moved up, moved back -/
theorem two_pos (s : Nat) : (0 : Int) < 2 ^ s := Int.pow_pos (by omega)
theorem two_split {L s : Nat} (h : L + s = 64) : (2 : Int) ^ L * 2 ^ s = B := by
  rw [← Int.pow_add, h]
  rfl
theorem norm_lt {b : List Int} {L s : Nat} (lb : Lim b) (h0 : 0 < b.length) (hL : b[b.length - 1] < 2 ^ L) (hs : L + s = 64) : V b * 2 ^ s < B ^ b.length := by
  have h1 := V_top lb h0 hL
  have h2 := Int.mul_lt_mul_of_pos_right h1 (two_pos s)
  rw [Int.mul_assoc, two_split hs, ← Int.pow_succ, show (b.length - 1).succ = b.length by omega] at h2
  exact h2
theorem norm_ge {b : List Int} (lb : Lim b) (rb : Rt b) (h0 : 0 < b.length) : B ^ (b.length - 1) ≤ V b := V_ge lb rb (by intro e; rw [e] at h0; simp at h0)
theorem norm_len {b d : List Int} {s : Nat} (lb : Lim b) (rb : Rt b) (h0 : 0 < b.length) (ld : Lim d) (rd : Rt d) (hd : V d = V b * 2 ^ s) (hlt : V b * 2 ^ s < B ^ b.length) : d.length = b.length := by
  have h1 := norm_ge lb rb h0
  have h2 : V b * 1 ≤ V b * 2 ^ s := Int.mul_le_mul_of_nonneg_left (by have := two_pos s; omega) (V_nonneg lb)
  have h3 := V_lt ld
  have h4 : d.length ≤ b.length := by
    rcases Nat.lt_or_ge b.length d.length with hg | hg
    · exfalso
      have h6 := V_ge ld rd (by intro e; rw [e] at hg; simp at hg)
      have h7 := pow_mono (show b.length ≤ d.length - 1 by omega)
      omega
    · exact hg
  rcases Nat.lt_or_ge d.length b.length with hg | hg
  · exfalso
    have h7 := pow_mono (show d.length ≤ b.length - 1 by omega)
    omega
  · omega
theorem start_lt {a b : List Int} {s n : Nat} (la : Lim a) (lb : Lim b) (rb : Rt b) (h0 : 0 < b.length) (hn : n + b.length = a.length + 1) : V a * 2 ^ s < V b * 2 ^ s * B ^ n := by
  have h1 := V_lt la
  have h2 := norm_ge lb rb h0
  have h3 : B ^ (b.length - 1) * B ^ n ≤ V b * B ^ n := Int.mul_le_mul_of_nonneg_right h2 (Int.le_of_lt (pow_pos n))
  rw [← Int.pow_add, show b.length - 1 + n = a.length by omega] at h3
  have h4 : V a * 2 ^ s < V b * B ^ n * 2 ^ s := Int.mul_lt_mul_of_pos_right (by omega) (two_pos s)
  have e : V b * 2 ^ s * B ^ n = V b * B ^ n * 2 ^ s := by grind
  rw [e]
  exact h4
/-- The rest moved back, under way. -/
structure OI (rs : List Int) (s i : Nat) (o : List Int) : Prop where
  n : o.length = rs.length
  l : Lim o
  hi : i ≤ rs.length
  z : Z o i
  v : V o * 2 ^ s + at0 rs 0 % 2 ^ s = V (rs.take i) + at0 rs i % 2 ^ s * B ^ i
theorem OI.start (rs : List Int) (s : Nat) : OI rs s 0 (List.replicate rs.length 0) :=
  ⟨List.length_replicate, Lim.zeros _, Nat.zero_le _, fun i h _ => by simp, by rw [V_zeros, List.take_zero, Int.zero_mul, Int.pow_zero, Int.mul_one]; rfl⟩
theorem at0_len {rs : List Int} {i : Nat} (h : rs.length ≤ i) : at0 rs i = 0 := by unfold at0; rw [dif_neg (by omega)]
theorem at0_get {rs : List Int} {i : Nat} (h : i < rs.length) : at0 rs i = rs[i] := by unfold at0; rw [dif_pos h]
theorem shr_val {x : Int} {s : Nat} (hs : s < 64) : shr .u64 x (s : Int) = x / 2 ^ s := by
  unfold shr
  rw [Int.toNat_natCast, show min s IntKind.u64.bits = s from Nat.min_eq_left (by show s ≤ 64; omega)]
theorem shl_back {y : Int} {s : Nat} (h0 : 0 < s) (hs : s < 64) (hy : 0 ≤ y ∧ y < B) : shl .u64 y ((64 - s : Nat) : Int) = y % 2 ^ s * 2 ^ (64 - s) := by
  have hm : (2 : Int) ^ (64 - s) * 2 ^ s = B := two_split (by omega)
  unfold shl
  rw [Int.toNat_natCast, show min (64 - s) IntKind.u64.bits = 64 - s from Nat.min_eq_left (by show 64 - s ≤ 64; omega), IntKind.wrap_u64]
  have hd := Int.emod_add_mul_ediv y (2 ^ s)
  have e : y * 2 ^ (64 - s) = y % 2 ^ s * 2 ^ (64 - s) + y / 2 ^ s * B := by
    rw [← hm]
    conv => lhs; rw [← hd]
    grind
  show y * 2 ^ (64 - s) % B = _
  rw [e, Int.add_mul_emod_self_right]
  have h1 := Int.emod_nonneg y (Int.ne_of_gt (two_pos s))
  have h2 := Int.emod_lt_of_pos y (two_pos s)
  have h3 : (y % 2 ^ s + 1) * 2 ^ (64 - s) ≤ 2 ^ s * 2 ^ (64 - s) := Int.mul_le_mul_of_nonneg_right (by omega) (Int.le_of_lt (two_pos _))
  rw [Int.add_mul, Int.one_mul, Int.mul_comm (2 ^ s), hm] at h3
  have h4 := two_pos (64 - s)
  exact Int.emod_eq_of_lt (Int.mul_nonneg h1 (Int.le_of_lt h4)) (by omega)
/-- What a limb becomes. -/
def back (rs : List Int) (s i : Nat) : Int := at0 rs i / 2 ^ s + at0 rs (i + 1) % 2 ^ s * 2 ^ (64 - s)
theorem back_or {rs : List Int} {s i : Nat} (lr : Lim rs) (h0 : 0 < s) (hs : s < 64) (hi : i + 1 < rs.length) : bits .or .u64 (rs[i] / 2 ^ s) (shl .u64 rs[i + 1] ((64 - s : Nat) : Int)) = back rs s i := by
  have hx := lr _ (List.getElem_mem (show i < rs.length by omega))
  have hy := lr _ (List.getElem_mem hi)
  have hm : (2 : Int) ^ s * 2 ^ (64 - s) = B := two_split (by omega)
  rw [shl_back h0 hs hy]
  have hc : bits .or .u64 (rs[i] / 2 ^ s) (rs[i + 1] % 2 ^ s * 2 ^ (64 - s)) = bits .or .u64 (rs[i + 1] % 2 ^ s * 2 ^ (64 - s)) (rs[i] / 2 ^ s) := by
    show IntKind.u64.wrap ((BitVec.ofInt 64 _ ||| BitVec.ofInt 64 _).toNat : Nat) = IntKind.u64.wrap ((BitVec.ofInt 64 _ ||| BitVec.ofInt 64 _).toNat : Nat)
    rw [BitVec.or_comm]
  have h1 := Int.emod_nonneg rs[i + 1] (Int.ne_of_gt (two_pos s))
  have h2 := Int.emod_lt_of_pos rs[i + 1] (two_pos s)
  have h3 : 0 ≤ rs[i] / 2 ^ s := Int.ediv_nonneg hx.1 (Int.le_of_lt (two_pos s))
  have h4 : rs[i] / 2 ^ s < 2 ^ (64 - s) := by
    refine Int.ediv_lt_of_lt_mul (two_pos s) ?_
    rw [Int.mul_comm, hm]
    exact hx.2
  have h5 : (rs[i + 1] % 2 ^ s + 1) * 2 ^ (64 - s) ≤ 2 ^ s * 2 ^ (64 - s) := Int.mul_le_mul_of_nonneg_right (by omega) (Int.le_of_lt (two_pos _))
  rw [Int.add_mul, Int.one_mul, hm] at h5
  have h6 : rs[i + 1] % 2 ^ s * 2 ^ (64 - s) + rs[i] / 2 ^ s < B := by omega
  rw [hc, Ne.or_add (64 - s) h1 ⟨h3, h4⟩ h6]
  unfold back
  rw [at0_get hi, at0_get (show i < rs.length by omega), Int.add_comm]
theorem back_plain {rs : List Int} {s i : Nat} (hi : i < rs.length) (h : s = 0 ∨ rs.length ≤ i + 1) : rs[i] / 2 ^ s = back rs s i := by
  unfold back
  have e : at0 rs (i + 1) % 2 ^ s = 0 := by
    rcases h with rfl | h
    · rw [Int.pow_zero, Int.emod_one]
    · rw [at0_len h, Int.zero_emod]
  rw [e, at0_get hi]
  omega
theorem back_lim {rs : List Int} {s i : Nat} (lr : Lim rs) (hs : s < 64) : 0 ≤ back rs s i ∧ back rs s i < B := by
  have hx := at0_lim lr i
  have hm : (2 : Int) ^ s * 2 ^ (64 - s) = B := two_split (by omega)
  have h1 := Int.emod_nonneg (at0 rs (i + 1)) (Int.ne_of_gt (two_pos s))
  have h2 := Int.emod_lt_of_pos (at0 rs (i + 1)) (two_pos s)
  have h3 : 0 ≤ at0 rs i / 2 ^ s := Int.ediv_nonneg hx.1 (Int.le_of_lt (two_pos s))
  have h4 : at0 rs i / 2 ^ s < 2 ^ (64 - s) := by
    refine Int.ediv_lt_of_lt_mul (two_pos s) ?_
    rw [Int.mul_comm, hm]
    exact hx.2
  have h5 : (at0 rs (i + 1) % 2 ^ s + 1) * 2 ^ (64 - s) ≤ 2 ^ s * 2 ^ (64 - s) := Int.mul_le_mul_of_nonneg_right (by omega) (Int.le_of_lt (two_pos _))
  rw [Int.add_mul, Int.one_mul, hm] at h5
  have h6 := Int.mul_nonneg h1 (Int.le_of_lt (two_pos (64 - s)))
  unfold back
  omega
theorem OI.step {rs o : List Int} {s i : Nat} (h : OI rs s i o) (hi : i < rs.length) (lr : Lim rs) (hs : s < 64) : OI rs s (i + 1) (o.set i (back rs s i)) := by
  have hio : i < o.length := by rw [h.n]; exact hi
  refine ⟨by rw [List.length_set]; exact h.n, h.l.set _ (back_lim lr hs), hi, h.z.set2 _, ?_⟩
  have hm : (2 : Int) ^ (64 - s) * 2 ^ s = B := two_split (by omega)
  have hd := Int.emod_add_mul_ediv (at0 rs i) (2 ^ s)
  rw [V_set hio, h.z i hio (Nat.le_refl _), Int.sub_zero, V_take_succ hi, ← at0_get hi, Int.pow_succ]
  have hv := h.v
  unfold back
  have e : (V o + B ^ i * (at0 rs i / 2 ^ s + at0 rs (i + 1) % 2 ^ s * 2 ^ (64 - s))) * 2 ^ s + at0 rs 0 % 2 ^ s = (V o * 2 ^ s + at0 rs 0 % 2 ^ s) + B ^ i * (2 ^ s * (at0 rs i / 2 ^ s)) + B ^ i * (at0 rs (i + 1) % 2 ^ s) * (2 ^ (64 - s) * 2 ^ s) := by grind
  rw [e, hv, hm]
  generalize at0 rs i / 2 ^ s = H at *
  generalize at0 rs i % 2 ^ s = L at *
  generalize at0 rs (i + 1) % 2 ^ s = L2 at *
  rw [← hd]
  grind
theorem OI.done {rs o : List Int} {s : Nat} (h : OI rs s rs.length o) {ρ : Int} (hr : V rs = ρ * 2 ^ s) (lr : Lim rs) : V o = ρ := by
  have hv := h.v
  rw [at0_len (Nat.le_refl _), Int.zero_emod, Int.zero_mul, Int.add_zero, List.take_of_length_le (Nat.le_refl _), hr] at hv
  have h1 := Int.emod_nonneg (at0 rs 0) (Int.ne_of_gt (two_pos s))
  have h2 := Int.emod_lt_of_pos (at0 rs 0) (two_pos s)
  have h3 : (ρ - V o) * 2 ^ s = at0 rs 0 % 2 ^ s := by rw [Int.sub_mul]; omega
  have h4 : ρ - V o = 0 := by
    rcases Int.lt_or_le (ρ - V o) 1 with h5 | h5
    · rcases Int.lt_or_le (-1) (ρ - V o) with h6 | h6
      · omega
      · exfalso
        have : (ρ - V o) * 2 ^ s ≤ (-1) * 2 ^ s := Int.mul_le_mul_of_nonneg_right h6 (Int.le_of_lt (two_pos s))
        have := two_pos s
        omega
    · exfalso
      have : 1 * 2 ^ s ≤ (ρ - V o) * 2 ^ s := Int.mul_le_mul_of_nonneg_right h5 (Int.le_of_lt (two_pos s))
      omega
  omega
end Go.Proofs.Ytdaelbihfdlgkaa.Lo
