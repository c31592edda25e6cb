/- What stands next: the program's reader and the document's tell the same number and size. Plain laws. -/
import Derived.Test.YtekakngojhnleaaRd2
import Derived.Test.YtekakngojhnleaaRf
import Derived.Laws.BitsAllLaws
namespace Go.Proofs.Ytekakngojhnleaa.Rd
set_option linter.unusedSimpArgs false
set_option linter.unusedVariables false
open Go.RowKit Go.Proofs.Ytekakngojhnleaa.Rf Go.Proofs.YtekakngojhnleaaW.PrintWords Go.Proofs.YtekakngojhnleaaW.PrintLast Go.Proofs.YtekakngojhnleaaW.PrintMore

/-- The number that stands next, by the document: plain arithmetic. -/
def sp (i : Nat) (n : Int) : List Int → Int × Nat
  | [] => (0, 0)
  | c :: cs =>
    if i = 9 ∧ (c % 128 > 1 ∨ ¬ c < 128) then (0, 0)
    else if c < 128 ∧ c % 128 = 0 ∧ i > 0 then (0, 0)
    else if c < 128 then (n + c % 128 * 128 ^ i, i + 1)
    else sp (i + 1) (n + c % 128 * 128 ^ i) cs

theorem dg_eq (c : Int) (h0 : 0 ≤ c) (h1 : c < 256) : dg c = c % 128 := by
  unfold dg
  rw [u8_andNot _ _ h0 h1 (by omega) (by omega), IntKind.wrap_u64]
  obtain ⟨n, rfl⟩ := Int.eq_ofNat_of_zero_le h0
  have hlt : n < 256 := by omega
  have key : ∀ n : Nat, n < 256 → n &&& (255 - 128) = n % 128 := by decide +kernel
  have h128 : (128 : Int).toNat = 128 := rfl
  rw [Int.toNat_natCast, h128, key n hlt]
  omega

theorem pow7 (i : Nat) : (2 : Nat) ^ (7 * i) = 128 ^ i := by rw [Nat.pow_mul]
theorem pow7i (i : Nat) : (2 : Int) ^ (7 * i) = 128 ^ i := by rw [Int.pow_mul]; rfl

theorem pow_le9 (i : Nat) (h : i ≤ 9) : (128 : Nat) ^ i ≤ 9223372036854775808 := by
  have : (128 : Nat) ^ i ≤ 128 ^ 9 := Nat.pow_le_pow_right (by omega) h
  have e : (128 : Nat) ^ 9 = 9223372036854775808 := by decide
  omega

theorem or_eq (n d : Nat) (i : Nat) (hi : i ≤ 9) (hn : n < 128 ^ i) (hd : d * 128 ^ i < 18446744073709551616) :
    Go.bits .or .u64 (n : Int) (IntKind.u64.wrap ((d : Int) * 2 ^ (7 * i))) = ((n + d * 128 ^ i : Nat) : Int) := by
  have h9 := pow_le9 i hi
  have e1 : IntKind.u64.wrap ((d : Int) * 2 ^ (7 * i)) = ((d * 128 ^ i : Nat) : Int) := by
    rw [pow7i, IntKind.wrap_u64]
    have : ((d * 128 ^ i : Nat) : Int) = (d : Int) * 128 ^ i := by push_cast; rfl
    omega
  rw [e1, u64_or_nat _ _ (by omega) hd, Nat.or_comm, nat_join (7 * i) _ _ (by rw [pow7]; exact Nat.mul_mod_left _ _) (by rw [pow7]; exact hn)]
  congr 1
  omega

/-- A byte's digit, as a number. -/
theorem digit_nat (c : Int) (h0 : 0 ≤ c) (h1 : c < 256) : ∃ d : Nat, dg c = d ∧ c % 128 = d ∧ d < 128 :=
  ⟨(c % 128).toNat, by rw [dg_eq c h0 h1]; omega, by omega, by omega⟩

theorem step_lt (n d i : Nat) (hn : n < 128 ^ i) (hd : d < 128) : n + d * 128 ^ i < 128 ^ (i + 1) := by
  have : d * 128 ^ i ≤ 127 * 128 ^ i := Nat.mul_le_mul_right _ (by omega)
  rw [Nat.pow_succ]
  omega

theorem digit_lt (d i : Nat) (hi : i ≤ 9) (hd : d < 128) (h9 : i = 9 → d ≤ 1) : d * 128 ^ i < 18446744073709551616 := by
  rcases Nat.lt_or_ge i 9 with h | h
  · have h8 : (128 : Nat) ^ i ≤ 128 ^ 8 := Nat.pow_le_pow_right (by omega) (by omega)
    have e : (128 : Nat) ^ 8 = 72057594037927936 := by decide
    have : d * 128 ^ i ≤ 127 * 128 ^ i := Nat.mul_le_mul_right _ (by omega)
    omega
  · obtain rfl : i = 9 := by omega
    have e : (128 : Nat) ^ 9 = 9223372036854775808 := by decide
    have := h9 rfl
    have : d * 128 ^ 9 ≤ 1 * 128 ^ 9 := Nat.mul_le_mul_right _ this
    omega

theorem nx_sp (xs : List Int) : (∀ c ∈ xs, 0 ≤ c ∧ c < 256) → ∀ (i n : Nat), i ≤ 9 → n < 128 ^ i → nx i (n : Int) xs = sp i (n : Int) xs := by
  induction xs with
  | nil => intros; rfl
  | cons c cs ih =>
    intro hb i n hi hn
    obtain ⟨h0, h1⟩ := hb c (by simp)
    obtain ⟨d, e1, e2, hd⟩ := digit_nat c h0 h1
    unfold nx sp
    rw [e1, e2]
    by_cases ha : i = 9 ∧ ((d : Int) > 1 ∨ ¬ c < 128)
    · rw [if_pos ha, if_pos ha]
    · rw [if_neg ha, if_neg ha]
      by_cases hz : c < 128 ∧ (d : Int) = 0 ∧ i > 0
      · rw [if_pos hz, if_pos hz]
      · rw [if_neg hz, if_neg hz]
        have hlt := digit_lt d i hi hd (by omega)
        have ho := or_eq n d i hi hn hlt
        have hc : ((n + d * 128 ^ i : Nat) : Int) = (n : Int) + (d : Int) * 128 ^ i := by push_cast; rfl
        by_cases hl : c < 128
        · rw [if_pos hl, if_pos hl, ho, hc]
        · rw [if_neg hl, if_neg hl, ho, ih (fun x hx => hb x (by simp [hx])) (i + 1) _ (by omega) (step_lt n d i hn hd), hc]

theorem sp_le (xs : List Int) : ∀ (i : Nat) (n : Int), (sp i n xs).2 ≤ i + xs.length := by
  induction xs with
  | nil => intro i n; simp [sp]
  | cons c cs ih =>
    intro i n
    unfold sp
    split
    · simp
    · split
      · simp
      · split
        · simp
        · have := ih (i + 1) (n + c % 128 * 128 ^ i)
          simp only [List.length_cons]
          omega

/-- Read behind another number: only what is left counts. -/
theorem rd_drop (xs : List Int) (at_ : Nat) (h : at_ < xs.length) : xs.drop at_ = rd xs (at_ : Int) :: xs.drop (at_ + 1) := by
  rw [List.drop_eq_getElem_cons h]
  congr 1
  simp [rd, h]

theorem rd_mem (xs : List Int) (j : Nat) (h : j < xs.length) : rd xs (j : Int) ∈ xs := by
  simp only [rd, Int.toNat_natCast, List.getD_eq_getElem?_getD, List.getElem?_eq_getElem h, Option.getD_some]
  exact List.getElem_mem h
theorem wrap_at (a i n : Nat) (hn : n ≤ 9223372036854775791) (h : a + i ≤ n) : wrap64 ((a : Int) + (i : Int)) = ((a + i : Nat) : Int) := by unfold wrap64; push_cast; omega

theorem ref_in (K : Nat) (xs : List Int) (at_ i : Nat) (n p : Int) (hlen : xs.length ≤ 9223372036854775791) (hlt : at_ + i < xs.length) (hi : i ≤ 8) :
    windbreakref09_Reader_next.l0 (K + 1 + 1) n p (i : Int) xs (at_ : Int) =
      windbreakref09_Reader_next.j2 K n p (i : Int) (Int.tmod (IntKind.u64.wrap (rd xs ((at_ + i : Nat) : Int))) 128) (decide (IntKind.u64.wrap (rd xs ((at_ + i : Nat) : Int)) ≥ 128)) false xs (at_ : Int) := by
  have hw := wrap_at at_ i _ hlen (by omega)
  rw [windbreakref09_Reader_next.l0, hw, if_pos (show ((at_ + i : Nat) : Int) < (xs.length : Int) by omega), windbreakref09_Reader_next.j1,
    if_pos (show decide ((i : Int) < 10) = true by simp; omega), hw, if_pos (show (0 : Int) ≤ ((at_ + i : Nat) : Int) by omega), if_pos (show ((at_ + i : Nat) : Int) < (xs.length : Int) by omega), if_neg (show ¬ (i : Int) = 9 by omega)]
theorem ref_in9 (K : Nat) (xs : List Int) (at_ : Nat) (n p : Int) (hlen : xs.length ≤ 9223372036854775791) (hlt : at_ + 9 < xs.length) :
    windbreakref09_Reader_next.l0 (K + 1 + 1) n p 9 xs (at_ : Int) =
      windbreakref09_Reader_next.j2 K n p 9 (Int.tmod (IntKind.u64.wrap (rd xs ((at_ + 9 : Nat) : Int))) 128) (decide (IntKind.u64.wrap (rd xs ((at_ + 9 : Nat) : Int)) ≥ 128)) (decide ((Int.tmod (IntKind.u64.wrap (rd xs ((at_ + 9 : Nat) : Int))) 128) > 1)) xs (at_ : Int) := by
  have hw : wrap64 ((at_ : Int) + 9) = ((at_ + 9 : Nat) : Int) := wrap_at at_ 9 _ hlen (by omega)
  rw [windbreakref09_Reader_next.l0, hw, if_pos (show ((at_ + 9 : Nat) : Int) < (xs.length : Int) by omega), windbreakref09_Reader_next.j1,
    if_pos (show decide ((9 : Int) < 10) = true by decide), hw, if_pos (show (0 : Int) ≤ ((at_ + 9 : Nat) : Int) by omega), if_pos (show ((at_ + 9 : Nat) : Int) < (xs.length : Int) by omega), if_pos rfl]
theorem ref_out (K : Nat) (xs : List Int) (at_ i : Nat) (n p : Int) (hlen : xs.length ≤ 9223372036854775791) (h : at_ + i = xs.length) :
    windbreakref09_Reader_next.l0 (K + 1 + 1) n p (i : Int) xs (at_ : Int) = some (0, 0, (at_ : Int)) := by
  have hw := wrap_at at_ i _ hlen (by omega)
  rw [windbreakref09_Reader_next.l0, hw, if_neg (show ¬ ((at_ + i : Nat) : Int) < (xs.length : Int) by omega), windbreakref09_Reader_next.j1, if_neg (by simp)]
theorem ref_ten (K : Nat) (xs : List Int) (at_ : Nat) (n p : Int) (hlen : xs.length ≤ 9223372036854775791) (h : at_ + 10 ≤ xs.length) :
    windbreakref09_Reader_next.l0 (K + 1 + 1) n p 10 xs (at_ : Int) = some (0, 0, (at_ : Int)) := by
  have hw : wrap64 ((at_ : Int) + 10) = ((at_ + 10 : Nat) : Int) := wrap_at at_ 10 _ hlen (by omega)
  rw [windbreakref09_Reader_next.l0, hw]
  by_cases h' : ((at_ + 10 : Nat) : Int) < (xs.length : Int)
  · rw [if_pos h', windbreakref09_Reader_next.j1, if_neg (by decide)]
  · rw [if_neg h', windbreakref09_Reader_next.j1, if_neg (by simp)]
theorem ref_j2 (K : Nat) (n p i d at_ : Int) (more b : Bool) (xs : List Int) : windbreakref09_Reader_next.j2 (K + 1) n p i d more b xs at_ =
    if b = true then some (0, 0, at_) else if more = true then windbreakref09_Reader_next.l0 K (IntKind.u64.wrap (n + IntKind.u64.wrap (d * p))) (IntKind.u64.wrap (p * 128)) (wrap64 (i + 1)) xs at_
      else if i > 0 then (if d = 0 then some (0, 0, at_) else some (IntKind.u64.wrap (n + IntKind.u64.wrap (d * p)), wrap64 (i + 1), at_)) else some (IntKind.u64.wrap (n + IntKind.u64.wrap (d * p)), wrap64 (i + 1), at_) := rfl

theorem val_eq (n d i : Nat) (hlt : d * 128 ^ i < 18446744073709551616) (hs : n + d * 128 ^ i < 18446744073709551616) :
    IntKind.u64.wrap ((n : Int) + IntKind.u64.wrap ((d : Int) * ((128 ^ i : Nat) : Int))) = ((n + d * 128 ^ i : Nat) : Int) := by
  generalize hm : d * 128 ^ i = m at hlt hs
  have : (d : Int) * ((128 ^ i : Nat) : Int) = (m : Int) := by rw [← hm, Int.natCast_mul]
  rw [this, IntKind.wrap_u64, IntKind.wrap_u64]
  omega
theorem place_eq (i : Nat) (h : i ≤ 8) : IntKind.u64.wrap (((128 ^ i : Nat) : Int) * 128) = ((128 ^ (i + 1) : Nat) : Int) := by
  have h64 := pow_le9 (i + 1) (by omega)
  rw [Nat.pow_succ] at h64 ⊢
  generalize 128 ^ i = m at h64
  rw [IntKind.wrap_u64]
  omega

theorem sum_cast (n d i : Nat) : ((n + d * 128 ^ i : Nat) : Int) = (n : Int) + (d : Int) * 128 ^ i := by rw [Int.natCast_add, Int.natCast_mul, Int.natCast_pow]; rfl
theorem wrap_next (i : Nat) (h : i ≤ 9) : wrap64 ((i : Int) + 1) = ((i + 1 : Nat) : Int) := by unfold wrap64; omega
theorem wrap_ten : wrap64 (9 + 1) = 10 := by unfold wrap64; omega
theorem dec_ge (c : Int) (h : ¬ c < 128) : decide (c ≥ 128) = true := decide_eq_true (by omega)
theorem dec_lt (c : Int) (h : c < 128) : ¬ decide (c ≥ 128) = true := by rw [decide_eq_true_eq]; omega

theorem ref_sp (xs : List Int) (hb : ∀ c ∈ xs, 0 ≤ c ∧ c < 256) (hlen : xs.length ≤ 9223372036854775791) (at_ : Nat) : ∀ (d i n k : Nat), i + d = 9 → at_ + i ≤ xs.length → n < 128 ^ i →
    windbreakref09_Reader_next.l0 (k + 3 * d + 5) (n : Int) ((128 ^ i : Nat) : Int) (i : Int) xs (at_ : Int) = some ((sp i (n : Int) (xs.drop (at_ + i))).1, (((sp i (n : Int) (xs.drop (at_ + i))).2 : Nat) : Int), (at_ : Int)) := by
  intro d
  induction d with
  | zero =>
    intro i n k hi hat hn
    obtain rfl : i = 9 := by omega
    rcases Nat.lt_or_ge (at_ + 9) xs.length with hlt | hge
    · rw [show k + 3 * 0 + 5 = (k + 1 + 1) + 1 + 1 + 1 by omega, show ((9 : Nat) : Int) = 9 from rfl, ref_in9 _ xs at_ _ _ hlen hlt, ref_j2, rd_drop xs _ hlt]
      obtain ⟨h0, h1⟩ := hb _ (rd_mem xs _ hlt)
      obtain ⟨dd, _, e2, hd⟩ := digit_nat _ h0 h1
      generalize rd xs ((at_ + 9 : Nat) : Int) = c at h0 h1 e2
      have hw : IntKind.u64.wrap c = c := by rw [IntKind.wrap_u64]; omega
      have ht : Int.tmod c 128 = (dd : Int) := by rw [Int.tmod_eq_emod_of_nonneg h0, e2]
      rw [hw, ht]
      unfold sp
      rw [e2]
      by_cases hd1 : (dd : Int) > 1
      · rw [if_pos (by simpa using hd1), if_pos ⟨rfl, .inl hd1⟩]
        rfl
      · rw [if_neg (by simpa using hd1)]
        by_cases hl : c < 128
        · rw [if_neg (dec_lt c hl), if_pos (show (9 : Int) > 0 by omega), if_neg (show ¬ (9 = 9 ∧ ((dd : Int) > 1 ∨ ¬ c < 128)) by omega)]
          by_cases hz : (dd : Int) = 0
          · rw [if_pos hz, if_pos ⟨hl, hz, by omega⟩]
            rfl
          · rw [if_neg hz, if_neg (show ¬ (c < 128 ∧ (dd : Int) = 0 ∧ 9 > 0) by omega), if_pos hl]
            have hdl := digit_lt dd 9 (by omega) hd (by omega)
            have e9 : (128 : Nat) ^ 9 = 9223372036854775808 := by decide
            have hs : n + dd * 128 ^ 9 < 18446744073709551616 := by
              have : dd * 128 ^ 9 ≤ 1 * 128 ^ 9 := Nat.mul_le_mul_right _ (by omega)
              omega
            rw [val_eq n dd 9 hdl hs]
            rw [sum_cast, wrap_ten]
            rfl
        · rw [if_pos (dec_ge c hl), if_pos (show (9 = 9 ∧ ((dd : Int) > 1 ∨ ¬ c < 128)) from ⟨rfl, .inr hl⟩)]
          rw [wrap_ten]
          exact ref_ten _ xs at_ _ _ hlen (by omega)
    · rw [show k + 3 * 0 + 5 = (k + 3) + 1 + 1 by omega, ref_out _ xs at_ 9 _ _ hlen (by omega)]
      have : xs.drop (at_ + 9) = [] := by rw [List.drop_eq_nil_iff]; omega
      rw [this]
      rfl
  | succ d ih =>
    intro i n k hi hat hn
    have hi8 : i ≤ 8 := by omega
    have hi9 : ¬ i = 9 := by omega
    have hid : i + 1 + d = 9 := by omega
    rcases Nat.lt_or_ge (at_ + i) xs.length with hlt | hge
    · rw [show k + 3 * (d + 1) + 5 = (k + 3 * d + 5) + 1 + 1 + 1 by omega, ref_in _ xs at_ i _ _ hlen hlt hi8, ref_j2, rd_drop xs _ hlt]
      obtain ⟨h0, h1⟩ := hb _ (rd_mem xs _ hlt)
      obtain ⟨dd, _, e2, hd⟩ := digit_nat _ h0 h1
      generalize rd xs ((at_ + i : Nat) : Int) = c at h0 h1 e2
      have hw : IntKind.u64.wrap c = c := by rw [IntKind.wrap_u64]; omega
      have ht : Int.tmod c 128 = (dd : Int) := by rw [Int.tmod_eq_emod_of_nonneg h0, e2]
      have hsl := step_lt n dd i hn hd
      have hv : IntKind.u64.wrap ((n : Int) + IntKind.u64.wrap ((dd : Int) * ((128 ^ i : Nat) : Int))) = ((n + dd * 128 ^ i : Nat) : Int) := by
        have h64 := pow_le9 (i + 1) (Nat.succ_le_succ hi8)
        exact val_eq n dd i (by omega) (by omega)
      have hc := sum_cast n dd i
      have hi1 := wrap_next i (Nat.le_succ_of_le hi8)
      rw [hw, ht, hv, place_eq i hi8, hi1, if_neg (show ¬ false = true by simp)]
      unfold sp
      rw [e2, if_neg (show ¬ (i = 9 ∧ ((dd : Int) > 1 ∨ ¬ c < 128)) from fun h => hi9 h.1)]
      by_cases hl : c < 128
      · rw [if_neg (dec_lt c hl)]
        by_cases hz : (dd : Int) = 0 ∧ i > 0
        · rw [if_pos (show (i : Int) > 0 from Int.natCast_pos.2 hz.2), if_pos hz.1, if_pos ⟨hl, hz⟩]
          rfl
        · rw [if_neg (show ¬ (c < 128 ∧ (dd : Int) = 0 ∧ i > 0) from fun h => hz h.2), if_pos hl, ← hc]
          by_cases hi0 : (i : Int) > 0
          · rw [if_pos hi0, if_neg (show ¬ (dd : Int) = 0 from fun h => hz ⟨h, Int.natCast_pos.1 hi0⟩)]
          · rw [if_neg hi0]
      · rw [if_pos (dec_ge c hl), if_neg (show ¬ (c < 128 ∧ (dd : Int) = 0 ∧ i > 0) from fun h => hl h.1), if_neg hl, ← hc]
        have h := ih (i + 1) (n + dd * 128 ^ i) k hid (show at_ + (i + 1) ≤ xs.length from hlt) hsl
        rw [← Nat.add_assoc at_ i 1] at h
        exact h
    · rw [show k + 3 * (d + 1) + 5 = (k + 3 * d + 6) + 1 + 1 by omega, ref_out _ xs at_ i _ _ hlen (by omega)]
      have : xs.drop (at_ + i) = [] := by rw [List.drop_eq_nil_iff]; omega
      rw [this]
      rfl

theorem ref_next (xs : List Int) (hb : ∀ c ∈ xs, 0 ≤ c ∧ c < 256) (hlen : xs.length ≤ 9223372036854775791) (at_ : Nat) (hat : at_ ≤ xs.length) :
    windbreakref09_Reader_next.f 32 xs (at_ : Int) = some ((nx 0 0 (xs.drop at_)).1, (((nx 0 0 (xs.drop at_)).2 : Nat) : Int), (at_ : Int)) := by
  have h := ref_sp xs hb hlen at_ 9 0 0 0 (by omega) (by omega) (by simp)
  have e : nx 0 0 (xs.drop at_) = sp 0 0 (xs.drop at_) := nx_sp (xs.drop at_) (fun c hc => hb c (List.mem_of_mem_drop hc)) 0 0 (by omega) (by simp)
  rw [e]
  exact h
end Go.Proofs.Ytekakngojhnleaa.Rd
