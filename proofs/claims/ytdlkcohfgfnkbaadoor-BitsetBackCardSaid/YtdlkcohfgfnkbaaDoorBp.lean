/- Sets of bits: the plain laws: words as bits; what the document's functions answer. -/
import Derived.Test.YtdlkcohfgfnkbaaDoorPBitsetTellsx2
namespace Go.Proofs.YtdlkcohfgfnkbaaDoor.Bp
open Go.RowKit Go.Proofs.YtdlkcohfgfnkbaaDoor.PBitsetTells Go.Proofs.YtdlkcohfgfnkbaaDoorW.PrintWords Go.Proofs.YtdlkcohfgfnkbaaDoorW.PrintLast Go.Proofs.YtdlkcohfgfnkbaaDoorW.PrintMore
set_option linter.unusedSimpArgs false
set_option linter.unusedVariables false

theorem wrap64_small {x : Int} (h0 : -9223372036854775808 ≤ x) (h1 : x < 9223372036854775808) : wrap64 x = x := by
  unfold wrap64
  omega
theorem rd_drop (xs : List Int) (at_ : Nat) (h : at_ < xs.length) : xs.drop at_ = rd xs (at_ : Int) :: xs.drop (at_ + 1) := by
  rw [List.drop_eq_getElem_cons h]
  congr 1
  simp [rd, h]
theorem rd_mem (xs : List Int) (j : Nat) (h : j < xs.length) : rd xs (j : Int) ∈ xs := by
  simp only [rd, Int.toNat_natCast, List.getD_eq_getElem?_getD, List.getElem?_eq_getElem h, Option.getD_some]
  exact List.getElem_mem h

/-- Words of 64 bits. -/
def Wf (ws : List Int) : Prop := ∀ x ∈ ws, 0 ≤ x ∧ x < 18446744073709551616
def wbit (ws : List Int) (i : Nat) : Bool := (ws.getD (i / 64) 0).toNat.testBit (i % 64)
def setB (ws : List Int) (i : Nat) : List Int := ws.set (i / 64) (((ws.getD (i / 64) 0).toNat ||| 2 ^ (i % 64) : Nat) : Int)
theorem Wf.get {ws : List Int} (h : Wf ws) (j : Nat) : 0 ≤ ws.getD j 0 ∧ ws.getD j 0 < 18446744073709551616 := by
  rw [List.getD_eq_getElem?_getD]
  by_cases hj : j < ws.length
  · rw [List.getElem?_eq_getElem hj]
    exact h _ (List.getElem_mem hj)
  · rw [List.getElem?_eq_none (by omega)]
    decide
theorem Wf.zeros (n : Nat) : Wf (List.replicate n 0) := by
  intro x hx
  rw [List.eq_of_mem_replicate hx]
  decide
theorem Wf.set {ws : List Int} (h : Wf ws) (j : Nat) (v : Int) (h0 : 0 ≤ v) (h1 : v < 18446744073709551616) : Wf (ws.set j v) := by
  intro x hx
  rcases List.mem_or_eq_of_mem_set hx with h2 | h2
  · exact h x h2
  · subst h2
    exact ⟨h0, h1⟩
theorem setB_word (x : Nat) (i : Nat) (hx : x < 18446744073709551616) : x ||| 2 ^ (i % 64) < 18446744073709551616 :=
  Nat.or_lt_two_pow (n := 64) hx (Nat.pow_lt_pow_right (by omega) (by omega))
theorem Wf.setB {ws : List Int} (h : Wf ws) (i : Nat) : Wf (setB ws i) := by
  have := h.get (i / 64)
  refine h.set _ _ (by omega) ?_
  have := setB_word (ws.getD (i / 64) 0).toNat i (by omega)
  omega
theorem setB_length (ws : List Int) (i : Nat) : (setB ws i).length = ws.length := List.length_set
theorem wbit_zeros (n i : Nat) : wbit (List.replicate n 0) i = false := by
  unfold wbit
  have : (List.replicate n (0 : Int)).getD (i / 64) 0 = 0 := by
    rw [List.getD_eq_getElem?_getD, List.getElem?_replicate]
    split <;> rfl
  rw [this]
  exact Nat.zero_testBit _
theorem wbit_out (ws : List Int) (i : Nat) (h : ws.length ≤ i / 64) : wbit ws i = false := by
  unfold wbit
  rw [List.getD_eq_getElem?_getD, List.getElem?_eq_none h]
  exact Nat.zero_testBit _
theorem wbit_setB (ws : List Int) (i j : Nat) (h : i / 64 < ws.length) : wbit (setB ws i) j = (wbit ws j || decide (j = i)) := by
  unfold wbit setB
  by_cases hq : i / 64 = j / 64
  · rw [← hq]
    have h1 : (ws.set (i / 64) (((ws.getD (i / 64) 0).toNat ||| 2 ^ (i % 64) : Nat) : Int)).getD (i / 64) 0 = (((ws.getD (i / 64) 0).toNat ||| 2 ^ (i % 64) : Nat) : Int) := by
      rw [List.getD_eq_getElem?_getD (l := ws.set _ _), List.getElem?_set_self h]
      rfl
    rw [h1, Int.toNat_natCast, Nat.testBit_or, Nat.testBit_two_pow]
    congr 1
    apply decide_eq_decide.2
    omega
  · have h1 : (ws.set (i / 64) (((ws.getD (i / 64) 0).toNat ||| 2 ^ (i % 64) : Nat) : Int)).getD (j / 64) 0 = ws.getD (j / 64) 0 := by
      rw [List.getD_eq_getElem?_getD (l := ws.set _ _), List.getElem?_set_ne hq, List.getD_eq_getElem?_getD]
    rw [h1, decide_eq_false (by omega), Bool.or_false]
theorem setB_same (ws : List Int) (i : Nat) (h : i / 64 < ws.length) (hw : Wf ws) (hb : wbit ws i = true) : setB ws i = ws := by
  have := hw.get (i / 64)
  unfold setB
  have h1 : (ws.getD (i / 64) 0).toNat ||| 2 ^ (i % 64) = (ws.getD (i / 64) 0).toNat := by
    apply Nat.eq_of_testBit_eq
    intro k
    rw [Nat.testBit_or, Nat.testBit_two_pow]
    by_cases hk : i % 64 = k
    · subst hk
      unfold wbit at hb
      rw [hb]
      rfl
    · rw [decide_eq_false hk, Bool.or_false]
  rw [h1]
  apply List.ext_getElem?
  intro k
  by_cases hk : i / 64 = k
  · subst hk
    rw [List.getElem?_set_self h, List.getElem?_eq_getElem h]
    congr 1
    rw [List.getD_eq_getElem?_getD, List.getElem?_eq_getElem h] at this ⊢
    simp only [Option.getD_some] at this ⊢
    omega
  · rw [List.getElem?_set_ne hk]
/-- Words are known by their bits. -/
theorem wbit_ext {a b : List Int} (ha : Wf a) (hb : Wf b) (hl : a.length = b.length) (h : ∀ i, i < 64 * a.length → wbit a i = wbit b i) : a = b := by
  apply List.ext_getElem hl
  intro k h1 h2
  have ea : a.getD k 0 = a[k] := by rw [List.getD_eq_getElem?_getD, List.getElem?_eq_getElem h1]; rfl
  have eb : b.getD k 0 = b[k] := by rw [List.getD_eq_getElem?_getD, List.getElem?_eq_getElem h2]; rfl
  have wa := ha.get k
  have wb := hb.get k
  rw [← ea, ← eb]
  have : (a.getD k 0).toNat = (b.getD k 0).toNat := by
    apply Nat.eq_of_testBit_eq
    intro j
    by_cases hj : j < 64
    · have := h (64 * k + j) (by omega)
      unfold wbit at this
      rwa [show (64 * k + j) / 64 = k by omega, show (64 * k + j) % 64 = j by omega] at this
    · rw [Nat.testBit_lt_two_pow, Nat.testBit_lt_two_pow]
      · exact Nat.lt_of_lt_of_le (show (b.getD k 0).toNat < 2 ^ 64 by omega) (Nat.pow_le_pow_right (by omega) (by omega))
      · exact Nat.lt_of_lt_of_le (show (a.getD k 0).toNat < 2 ^ 64 by omega) (Nat.pow_le_pow_right (by omega) (by omega))
  omega
theorem add_bit (x k : Nat) (h : x.testBit k = false) : x + 2 ^ k = x ||| 2 ^ k := by
  have e1 : x = 2 ^ k * (x / 2 ^ k) + x % 2 ^ k := (Nat.div_add_mod x (2 ^ k)).symm
  have hlt : x % 2 ^ k < 2 ^ k := Nat.mod_lt _ (Nat.two_pow_pos k)
  rw [Nat.testBit_eq_decide_div_mod_eq] at h
  have hev : x / 2 ^ k % 2 = 0 := by
    have := of_decide_eq_false h
    omega
  have e2 : (x / 2 ^ k) ||| 1 = x / 2 ^ k + 1 := by
    have : x / 2 ^ k = 2 * (x / 2 ^ k / 2) := by omega
    rw [this, ← Nat.two_pow_add_eq_or_of_lt (i := 1) (by omega)]
  apply Nat.eq_of_testBit_eq
  intro j
  have e3 : x + 2 ^ k = 2 ^ k * (x / 2 ^ k + 1) + x % 2 ^ k := by
    rw [Nat.mul_add, Nat.mul_one]
    omega
  rw [e3, ← e2, Nat.testBit_two_pow_mul_add _ hlt, Nat.testBit_or, Nat.testBit_or x, Nat.testBit_two_pow]
  by_cases hj : j < k
  · rw [if_pos hj, Nat.testBit_mod_two_pow, decide_eq_true hj, decide_eq_false (by omega), Bool.or_false, Bool.true_and]
  · rw [if_neg hj, show ((1 : Nat)) = 2 ^ 0 from rfl, Nat.testBit_two_pow, Nat.testBit_div_two_pow, show j - k + k = j by omega]
    congr 1
    apply decide_eq_decide.2
    omega

/-! ### the document's bit -/
theorem bit_l0 (i : Nat) (k : Nat) : ∀ (d j x : Nat), j + d = i % 64 → x < 18446744073709551616 → i < 4611686018427387904 →
    windbreakref14_bit.l0 (k + 1 + d) (i : Int) (x : Int) (j : Int) = some (x.testBit d)
  | 0, j, x, hj, hx, hi => by
    have hm : Int.tmod (i : Int) 64 = ((i % 64 : Nat) : Int) := by rw [Int.tmod_eq_emod_of_nonneg (by omega)]; omega
    have hx2 : Int.tmod (x : Int) 2 = ((x % 2 : Nat) : Int) := by rw [Int.tmod_eq_emod_of_nonneg (by omega)]; omega
    simp only [Nat.add_zero, windbreakref14_bit.l0]
    rw [hm, hx2, if_neg (by omega), Nat.testBit_zero]
    congr 1
    rcases Nat.mod_two_eq_zero_or_one x with h | h <;> rw [h] <;> rfl
  | d + 1, j, x, hj, hx, hi => by
    have hm : Int.tmod (i : Int) 64 = ((i % 64 : Nat) : Int) := by rw [Int.tmod_eq_emod_of_nonneg (by omega)]; omega
    have hx2 : IntKind.u64.wrap (Int.tdiv (x : Int) 2) = ((x / 2 : Nat) : Int) := by rw [Int.tdiv_eq_ediv_of_nonneg (by omega), IntKind.wrap_u64]; omega
    rw [show k + 1 + (d + 1) = (k + 1 + d) + 1 by omega]
    simp only [windbreakref14_bit.l0]
    rw [hm, hx2, if_pos (by omega), wrap64_small (by omega) (by omega), show (j : Int) + 1 = ((j + 1 : Nat) : Int) by omega, bit_l0 i k d (j + 1) (x / 2) (by omega) (by omega) hi, Nat.testBit_succ]
theorem bit_at (N : Int) (ws : List Int) (hw : Wf ws) (i : Nat) (hi : i / 64 < ws.length) (hi2 : i < 4611686018427387904) (k : Nat) : windbreakref14_bit.f (k + 65) N ws (i : Int) = some (wbit ws i) := by
  have hd : wrap64 (Int.tdiv (i : Int) 64) = ((i / 64 : Nat) : Int) := by rw [Int.tdiv_eq_ediv_of_nonneg (by omega), wrap64_small (by omega) (by omega)]; omega
  have hwg := hw.get (i / 64)
  unfold windbreakref14_bit.f wbit
  rw [hd, if_pos (by omega), if_pos (by omega)]
  have e : rd ws ((i / 64 : Nat) : Int) = (((ws.getD (i / 64) 0).toNat : Nat) : Int) := by
    unfold rd
    rw [Int.toNat_natCast]
    omega
  rw [e, show k + 65 = (k + (64 - i % 64)) + 1 + i % 64 by omega]
  exact bit_l0 i (k + (64 - i % 64)) (i % 64) 0 _ (by omega) (by omega) hi2
theorem ev_bit (N : Int) (ws : List Int) (hw : Wf ws) (i : Nat) (hi : i / 64 < ws.length) (hi2 : i < 4611686018427387904) : Ev (fun k => windbreakref14_bit.f k N ws (i : Int)) (wbit ws i) :=
  Ev.of (windbreakref14_bit.mono N ws i) (bit_at N ws hw i hi hi2 0)

/-! ### the document's Of -/
/-- The set of some numbers, on from some words. -/
def ofL (N : Int) : List Int → List Int → Int × List Int × Int
  | ws, [] => (N, ws, 0)
  | ws, e :: l => if e < 0 ∨ N ≤ e then (0, [], 1) else ofL N (setB ws e.toNat) l
def ofS (N : Int) (l : List Int) : Int × List Int × Int := if N < 0 ∨ 65536 < N then (0, [], 1) else ofL N (List.replicate ((N + 63) / 64).toNat 0) l
theorem ev_false {α : Type} {g : Nat → Option α} {r : α} {c : Prop} [Decidable c] {a b : Nat → Option α} (hc : ¬ c) (h : Ev b r) (hg : ∀ k, g k = if c then a k else b k) : Ev g r := by
  refine Ev.congr (f := b) (fun k => ?_) h
  rw [hg, if_neg hc]
theorem ev_true {α : Type} {g : Nat → Option α} {r : α} {c : Prop} [Decidable c] {a b : Nat → Option α} (hc : c) (h : Ev a r) (hg : ∀ k, g k = if c then a k else b k) : Ev g r := by
  refine Ev.congr (f := a) (fun k => ?_) h
  rw [hg, if_pos hc]
end Go.Proofs.YtdlkcohfgfnkbaaDoor.Bp
