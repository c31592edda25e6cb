/- Parts of the proof of LinkScripts, merged: each is proved for all its inputs. -/
import Derived.Test.YtekakngojhnleaaMgLinkScriptsc
import Derived.Laws.BitsAllLaws
import Derived.Deep.RegionLaw
import Derived.Deep.RegionHeld3
import Derived.Test.YtekakngojhnleaaProg
import Derived.Test.YtekakngojhnleaaWWords
import Derived.Outline
import Derived.Deep.LoopGhost
import Derived.Deep.WholeRow
import Derived.Laws.CopyOwn
import Derived.Test.YtekakngojhnleaaMgLinkScriptsb
/- What stands next: the program's reader and the document's tell the same number and size. Plain laws. -/
namespace Go.Proofs.Ytekakngojhnleaa.Rd
set_option linter.unusedSimpArgs false
set_option linter.unusedVariables false
open Go.RowKit Go.Proofs.Ytekakngojhnleaa.Rf Go.Proofs.YtekakngojhnleaaW.PrintWords Go.Proofs.YtekakngojhnleaaW.PrintLast Go.Proofs.YtekakngojhnleaaW.PrintMore

/-- The number that stands next, by the document: plain arithmetic. -/
def sp (i : Nat) (n : Int) : List Int → Int × Nat
  | [] => (0, 0)
  | c :: cs =>
    if i = 9 ∧ (c % 128 > 1 ∨ ¬ c < 128) then (0, 0)
    else if c < 128 ∧ c % 128 = 0 ∧ i > 0 then (0, 0)
    else if c < 128 then (n + c % 128 * 128 ^ i, i + 1)
    else sp (i + 1) (n + c % 128 * 128 ^ i) cs

theorem dg_eq (c : Int) (h0 : 0 ≤ c) (h1 : c < 256) : dg c = c % 128 := by
  unfold dg
  rw [u8_andNot _ _ h0 h1 (by omega) (by omega), IntKind.wrap_u64]
  obtain ⟨n, rfl⟩ := Int.eq_ofNat_of_zero_le h0
  have hlt : n < 256 := by omega
  have key : ∀ n : Nat, n < 256 → n &&& (255 - 128) = n % 128 := by decide +kernel
  have h128 : (128 : Int).toNat = 128 := rfl
  rw [Int.toNat_natCast, h128, key n hlt]
  omega

theorem pow7 (i : Nat) : (2 : Nat) ^ (7 * i) = 128 ^ i := by rw [Nat.pow_mul]
theorem pow7i (i : Nat) : (2 : Int) ^ (7 * i) = 128 ^ i := by rw [Int.pow_mul]; rfl

theorem pow_le9 (i : Nat) (h : i ≤ 9) : (128 : Nat) ^ i ≤ 9223372036854775808 := by
  have : (128 : Nat) ^ i ≤ 128 ^ 9 := Nat.pow_le_pow_right (by omega) h
  have e : (128 : Nat) ^ 9 = 9223372036854775808 := by decide
  omega

theorem or_eq (n d : Nat) (i : Nat) (hi : i ≤ 9) (hn : n < 128 ^ i) (hd : d * 128 ^ i < 18446744073709551616) :
    Go.bits .or .u64 (n : Int) (IntKind.u64.wrap ((d : Int) * 2 ^ (7 * i))) = ((n + d * 128 ^ i : Nat) : Int) := by
  have h9 := pow_le9 i hi
  have e1 : IntKind.u64.wrap ((d : Int) * 2 ^ (7 * i)) = ((d * 128 ^ i : Nat) : Int) := by
    rw [pow7i, IntKind.wrap_u64]
    have : ((d * 128 ^ i : Nat) : Int) = (d : Int) * 128 ^ i := by push_cast; rfl
    omega
  rw [e1, u64_or_nat _ _ (by omega) hd, Nat.or_comm, nat_join (7 * i) _ _ (by rw [pow7]; exact Nat.mul_mod_left _ _) (by rw [pow7]; exact hn)]
  congr 1
  omega

/-- A byte's digit, as a number. -/
theorem digit_nat (c : Int) (h0 : 0 ≤ c) (h1 : c < 256) : ∃ d : Nat, dg c = d ∧ c % 128 = d ∧ d < 128 :=
  ⟨(c % 128).toNat, by rw [dg_eq c h0 h1]; omega, by omega, by omega⟩

theorem step_lt (n d i : Nat) (hn : n < 128 ^ i) (hd : d < 128) : n + d * 128 ^ i < 128 ^ (i + 1) := by
  have : d * 128 ^ i ≤ 127 * 128 ^ i := Nat.mul_le_mul_right _ (by omega)
  rw [Nat.pow_succ]
  omega

theorem digit_lt (d i : Nat) (hi : i ≤ 9) (hd : d < 128) (h9 : i = 9 → d ≤ 1) : d * 128 ^ i < 18446744073709551616 := by
  rcases Nat.lt_or_ge i 9 with h | h
  · have h8 : (128 : Nat) ^ i ≤ 128 ^ 8 := Nat.pow_le_pow_right (by omega) (by omega)
    have e : (128 : Nat) ^ 8 = 72057594037927936 := by decide
    have : d * 128 ^ i ≤ 127 * 128 ^ i := Nat.mul_le_mul_right _ (by omega)
    omega
  · obtain rfl : i = 9 := by omega
    have e : (128 : Nat) ^ 9 = 9223372036854775808 := by decide
    have := h9 rfl
    have : d * 128 ^ 9 ≤ 1 * 128 ^ 9 := Nat.mul_le_mul_right _ this
    omega

theorem nx_sp (xs : List Int) : (∀ c ∈ xs, 0 ≤ c ∧ c < 256) → ∀ (i n : Nat), i ≤ 9 → n < 128 ^ i → nx i (n : Int) xs = sp i (n : Int) xs := by
  induction xs with
  | nil => intros; rfl
  | cons c cs ih =>
    intro hb i n hi hn
    obtain ⟨h0, h1⟩ := hb c (by simp)
    obtain ⟨d, e1, e2, hd⟩ := digit_nat c h0 h1
    unfold nx sp
    rw [e1, e2]
    by_cases ha : i = 9 ∧ ((d : Int) > 1 ∨ ¬ c < 128)
    · rw [if_pos ha, if_pos ha]
    · rw [if_neg ha, if_neg ha]
      by_cases hz : c < 128 ∧ (d : Int) = 0 ∧ i > 0
      · rw [if_pos hz, if_pos hz]
      · rw [if_neg hz, if_neg hz]
        have hlt := digit_lt d i hi hd (by omega)
        have ho := or_eq n d i hi hn hlt
        have hc : ((n + d * 128 ^ i : Nat) : Int) = (n : Int) + (d : Int) * 128 ^ i := by push_cast; rfl
        by_cases hl : c < 128
        · rw [if_pos hl, if_pos hl, ho, hc]
        · rw [if_neg hl, if_neg hl, ho, ih (fun x hx => hb x (by simp [hx])) (i + 1) _ (by omega) (step_lt n d i hn hd), hc]

theorem sp_le (xs : List Int) : ∀ (i : Nat) (n : Int), (sp i n xs).2 ≤ i + xs.length := by
  induction xs with
  | nil => intro i n; simp [sp]
  | cons c cs ih =>
    intro i n
    unfold sp
    split
    · simp
    · split
      · simp
      · split
        · simp
        · have := ih (i + 1) (n + c % 128 * 128 ^ i)
          simp only [List.length_cons]
          omega

/-- Read behind another number: only what is left counts. -/
theorem rd_drop (xs : List Int) (at_ : Nat) (h : at_ < xs.length) : xs.drop at_ = rd xs (at_ : Int) :: xs.drop (at_ + 1) := by
  rw [List.drop_eq_getElem_cons h]
  congr 1
  simp [rd, h]

theorem rd_mem (xs : List Int) (j : Nat) (h : j < xs.length) : rd xs (j : Int) ∈ xs := by
  simp only [rd, Int.toNat_natCast, List.getD_eq_getElem?_getD, List.getElem?_eq_getElem h, Option.getD_some]
  exact List.getElem_mem h
theorem wrap_at (a i n : Nat) (hn : n ≤ 9223372036854775791) (h : a + i ≤ n) : wrap64 ((a : Int) + (i : Int)) = ((a + i : Nat) : Int) := by unfold wrap64; push_cast; omega

theorem ref_in (K : Nat) (xs : List Int) (at_ i : Nat) (n p : Int) (hlen : xs.length ≤ 9223372036854775791) (hlt : at_ + i < xs.length) (hi : i ≤ 8) :
    windbreakref09_Reader_next.l0 (K + 1 + 1) n p (i : Int) xs (at_ : Int) =
      windbreakref09_Reader_next.j2 K n p (i : Int) (Int.tmod (IntKind.u64.wrap (rd xs ((at_ + i : Nat) : Int))) 128) (decide (IntKind.u64.wrap (rd xs ((at_ + i : Nat) : Int)) ≥ 128)) false xs (at_ : Int) := by
  have hw := wrap_at at_ i _ hlen (by omega)
  rw [windbreakref09_Reader_next.l0, hw, if_pos (show ((at_ + i : Nat) : Int) < (xs.length : Int) by omega), windbreakref09_Reader_next.j1,
    if_pos (show decide ((i : Int) < 10) = true by simp; omega), hw, if_pos (show (0 : Int) ≤ ((at_ + i : Nat) : Int) by omega), if_pos (show ((at_ + i : Nat) : Int) < (xs.length : Int) by omega), if_neg (show ¬ (i : Int) = 9 by omega)]
theorem ref_in9 (K : Nat) (xs : List Int) (at_ : Nat) (n p : Int) (hlen : xs.length ≤ 9223372036854775791) (hlt : at_ + 9 < xs.length) :
    windbreakref09_Reader_next.l0 (K + 1 + 1) n p 9 xs (at_ : Int) =
      windbreakref09_Reader_next.j2 K n p 9 (Int.tmod (IntKind.u64.wrap (rd xs ((at_ + 9 : Nat) : Int))) 128) (decide (IntKind.u64.wrap (rd xs ((at_ + 9 : Nat) : Int)) ≥ 128)) (decide ((Int.tmod (IntKind.u64.wrap (rd xs ((at_ + 9 : Nat) : Int))) 128) > 1)) xs (at_ : Int) := by
  have hw : wrap64 ((at_ : Int) + 9) = ((at_ + 9 : Nat) : Int) := wrap_at at_ 9 _ hlen (by omega)
  rw [windbreakref09_Reader_next.l0, hw, if_pos (show ((at_ + 9 : Nat) : Int) < (xs.length : Int) by omega), windbreakref09_Reader_next.j1,
    if_pos (show decide ((9 : Int) < 10) = true by decide), hw, if_pos (show (0 : Int) ≤ ((at_ + 9 : Nat) : Int) by omega), if_pos (show ((at_ + 9 : Nat) : Int) < (xs.length : Int) by omega), if_pos rfl]
theorem ref_out (K : Nat) (xs : List Int) (at_ i : Nat) (n p : Int) (hlen : xs.length ≤ 9223372036854775791) (h : at_ + i = xs.length) :
    windbreakref09_Reader_next.l0 (K + 1 + 1) n p (i : Int) xs (at_ : Int) = some (0, 0, (at_ : Int)) := by
  have hw := wrap_at at_ i _ hlen (by omega)
  rw [windbreakref09_Reader_next.l0, hw, if_neg (show ¬ ((at_ + i : Nat) : Int) < (xs.length : Int) by omega), windbreakref09_Reader_next.j1, if_neg (by simp)]
theorem ref_ten (K : Nat) (xs : List Int) (at_ : Nat) (n p : Int) (hlen : xs.length ≤ 9223372036854775791) (h : at_ + 10 ≤ xs.length) :
    windbreakref09_Reader_next.l0 (K + 1 + 1) n p 10 xs (at_ : Int) = some (0, 0, (at_ : Int)) := by
  have hw : wrap64 ((at_ : Int) + 10) = ((at_ + 10 : Nat) : Int) := wrap_at at_ 10 _ hlen (by omega)
  rw [windbreakref09_Reader_next.l0, hw]
  by_cases h' : ((at_ + 10 : Nat) : Int) < (xs.length : Int)
  · rw [if_pos h', windbreakref09_Reader_next.j1, if_neg (by decide)]
  · rw [if_neg h', windbreakref09_Reader_next.j1, if_neg (by simp)]
theorem ref_j2 (K : Nat) (n p i d at_ : Int) (more b : Bool) (xs : List Int) : windbreakref09_Reader_next.j2 (K + 1) n p i d more b xs at_ =
    if b = true then some (0, 0, at_) else if more = true then windbreakref09_Reader_next.l0 K (IntKind.u64.wrap (n + IntKind.u64.wrap (d * p))) (IntKind.u64.wrap (p * 128)) (wrap64 (i + 1)) xs at_
      else if i > 0 then (if d = 0 then some (0, 0, at_) else some (IntKind.u64.wrap (n + IntKind.u64.wrap (d * p)), wrap64 (i + 1), at_)) else some (IntKind.u64.wrap (n + IntKind.u64.wrap (d * p)), wrap64 (i + 1), at_) := rfl

theorem val_eq (n d i : Nat) (hlt : d * 128 ^ i < 18446744073709551616) (hs : n + d * 128 ^ i < 18446744073709551616) :
    IntKind.u64.wrap ((n : Int) + IntKind.u64.wrap ((d : Int) * ((128 ^ i : Nat) : Int))) = ((n + d * 128 ^ i : Nat) : Int) := by
  generalize hm : d * 128 ^ i = m at hlt hs
  have : (d : Int) * ((128 ^ i : Nat) : Int) = (m : Int) := by rw [← hm, Int.natCast_mul]
  rw [this, IntKind.wrap_u64, IntKind.wrap_u64]
  omega
theorem place_eq (i : Nat) (h : i ≤ 8) : IntKind.u64.wrap (((128 ^ i : Nat) : Int) * 128) = ((128 ^ (i + 1) : Nat) : Int) := by
  have h64 := pow_le9 (i + 1) (by omega)
  rw [Nat.pow_succ] at h64 ⊢
  generalize 128 ^ i = m at h64
  rw [IntKind.wrap_u64]
  omega

theorem sum_cast (n d i : Nat) : ((n + d * 128 ^ i : Nat) : Int) = (n : Int) + (d : Int) * 128 ^ i := by rw [Int.natCast_add, Int.natCast_mul, Int.natCast_pow]; rfl
theorem wrap_next (i : Nat) (h : i ≤ 9) : wrap64 ((i : Int) + 1) = ((i + 1 : Nat) : Int) := by unfold wrap64; omega
theorem wrap_ten : wrap64 (9 + 1) = 10 := by unfold wrap64; omega
theorem dec_ge (c : Int) (h : ¬ c < 128) : decide (c ≥ 128) = true := decide_eq_true (by omega)
theorem dec_lt (c : Int) (h : c < 128) : ¬ decide (c ≥ 128) = true := by rw [decide_eq_true_eq]; omega

theorem ref_sp (xs : List Int) (hb : ∀ c ∈ xs, 0 ≤ c ∧ c < 256) (hlen : xs.length ≤ 9223372036854775791) (at_ : Nat) : ∀ (d i n k : Nat), i + d = 9 → at_ + i ≤ xs.length → n < 128 ^ i →
    windbreakref09_Reader_next.l0 (k + 3 * d + 5) (n : Int) ((128 ^ i : Nat) : Int) (i : Int) xs (at_ : Int) = some ((sp i (n : Int) (xs.drop (at_ + i))).1, (((sp i (n : Int) (xs.drop (at_ + i))).2 : Nat) : Int), (at_ : Int)) := by
  intro d
  induction d with
  | zero =>
    intro i n k hi hat hn
    obtain rfl : i = 9 := by omega
    rcases Nat.lt_or_ge (at_ + 9) xs.length with hlt | hge
    · rw [show k + 3 * 0 + 5 = (k + 1 + 1) + 1 + 1 + 1 by omega, show ((9 : Nat) : Int) = 9 from rfl, ref_in9 _ xs at_ _ _ hlen hlt, ref_j2, rd_drop xs _ hlt]
      obtain ⟨h0, h1⟩ := hb _ (rd_mem xs _ hlt)
      obtain ⟨dd, _, e2, hd⟩ := digit_nat _ h0 h1
      generalize rd xs ((at_ + 9 : Nat) : Int) = c at h0 h1 e2
      have hw : IntKind.u64.wrap c = c := by rw [IntKind.wrap_u64]; omega
      have ht : Int.tmod c 128 = (dd : Int) := by rw [Int.tmod_eq_emod_of_nonneg h0, e2]
      rw [hw, ht]
      unfold sp
      rw [e2]
      by_cases hd1 : (dd : Int) > 1
      · rw [if_pos (by simpa using hd1), if_pos ⟨rfl, .inl hd1⟩]
        rfl
      · rw [if_neg (by simpa using hd1)]
        by_cases hl : c < 128
        · rw [if_neg (dec_lt c hl), if_pos (show (9 : Int) > 0 by omega), if_neg (show ¬ (9 = 9 ∧ ((dd : Int) > 1 ∨ ¬ c < 128)) by omega)]
          by_cases hz : (dd : Int) = 0
          · rw [if_pos hz, if_pos ⟨hl, hz, by omega⟩]
            rfl
          · rw [if_neg hz, if_neg (show ¬ (c < 128 ∧ (dd : Int) = 0 ∧ 9 > 0) by omega), if_pos hl]
            have hdl := digit_lt dd 9 (by omega) hd (by omega)
            have e9 : (128 : Nat) ^ 9 = 9223372036854775808 := by decide
            have hs : n + dd * 128 ^ 9 < 18446744073709551616 := by
              have : dd * 128 ^ 9 ≤ 1 * 128 ^ 9 := Nat.mul_le_mul_right _ (by omega)
              omega
            rw [val_eq n dd 9 hdl hs]
            rw [sum_cast, wrap_ten]
            rfl
        · rw [if_pos (dec_ge c hl), if_pos (show (9 = 9 ∧ ((dd : Int) > 1 ∨ ¬ c < 128)) from ⟨rfl, .inr hl⟩)]
          rw [wrap_ten]
          exact ref_ten _ xs at_ _ _ hlen (by omega)
    · rw [show k + 3 * 0 + 5 = (k + 3) + 1 + 1 by omega, ref_out _ xs at_ 9 _ _ hlen (by omega)]
      have : xs.drop (at_ + 9) = [] := by rw [List.drop_eq_nil_iff]; omega
      rw [this]
      rfl
  | succ d ih =>
    intro i n k hi hat hn
    have hi8 : i ≤ 8 := by omega
    have hi9 : ¬ i = 9 := by omega
    have hid : i + 1 + d = 9 := by omega
    rcases Nat.lt_or_ge (at_ + i) xs.length with hlt | hge
    · rw [show k + 3 * (d + 1) + 5 = (k + 3 * d + 5) + 1 + 1 + 1 by omega, ref_in _ xs at_ i _ _ hlen hlt hi8, ref_j2, rd_drop xs _ hlt]
      obtain ⟨h0, h1⟩ := hb _ (rd_mem xs _ hlt)
      obtain ⟨dd, _, e2, hd⟩ := digit_nat _ h0 h1
      generalize rd xs ((at_ + i : Nat) : Int) = c at h0 h1 e2
      have hw : IntKind.u64.wrap c = c := by rw [IntKind.wrap_u64]; omega
      have ht : Int.tmod c 128 = (dd : Int) := by rw [Int.tmod_eq_emod_of_nonneg h0, e2]
      have hsl := step_lt n dd i hn hd
      have hv : IntKind.u64.wrap ((n : Int) + IntKind.u64.wrap ((dd : Int) * ((128 ^ i : Nat) : Int))) = ((n + dd * 128 ^ i : Nat) : Int) := by
        have h64 := pow_le9 (i + 1) (Nat.succ_le_succ hi8)
        exact val_eq n dd i (by omega) (by omega)
      have hc := sum_cast n dd i
      have hi1 := wrap_next i (Nat.le_succ_of_le hi8)
      rw [hw, ht, hv, place_eq i hi8, hi1, if_neg (show ¬ false = true by simp)]
      unfold sp
      rw [e2, if_neg (show ¬ (i = 9 ∧ ((dd : Int) > 1 ∨ ¬ c < 128)) from fun h => hi9 h.1)]
      by_cases hl : c < 128
      · rw [if_neg (dec_lt c hl)]
        by_cases hz : (dd : Int) = 0 ∧ i > 0
        · rw [if_pos (show (i : Int) > 0 from Int.natCast_pos.2 hz.2), if_pos hz.1, if_pos ⟨hl, hz⟩]
          rfl
        · rw [if_neg (show ¬ (c < 128 ∧ (dd : Int) = 0 ∧ i > 0) from fun h => hz h.2), if_pos hl, ← hc]
          by_cases hi0 : (i : Int) > 0
          · rw [if_pos hi0, if_neg (show ¬ (dd : Int) = 0 from fun h => hz ⟨h, Int.natCast_pos.1 hi0⟩)]
          · rw [if_neg hi0]
      · rw [if_pos (dec_ge c hl), if_neg (show ¬ (c < 128 ∧ (dd : Int) = 0 ∧ i > 0) from fun h => hl h.1), if_neg hl, ← hc]
        have h := ih (i + 1) (n + dd * 128 ^ i) k hid (show at_ + (i + 1) ≤ xs.length from hlt) hsl
        rw [← Nat.add_assoc at_ i 1] at h
        exact h
    · rw [show k + 3 * (d + 1) + 5 = (k + 3 * d + 6) + 1 + 1 by omega, ref_out _ xs at_ i _ _ hlen (by omega)]
      have : xs.drop (at_ + i) = [] := by rw [List.drop_eq_nil_iff]; omega
      rw [this]
      rfl

theorem ref_next (xs : List Int) (hb : ∀ c ∈ xs, 0 ≤ c ∧ c < 256) (hlen : xs.length ≤ 9223372036854775791) (at_ : Nat) (hat : at_ ≤ xs.length) :
    windbreakref09_Reader_next.f 32 xs (at_ : Int) = some ((nx 0 0 (xs.drop at_)).1, (((nx 0 0 (xs.drop at_)).2 : Nat) : Int), (at_ : Int)) := by
  have h := ref_sp xs hb hlen at_ 9 0 0 0 (by omega) (by omega) (by simp)
  have e : nx 0 0 (xs.drop at_) = sp 0 0 (xs.drop at_) := nx_sp (xs.drop at_) (fun c hc => hb c (List.mem_of_mem_drop hc)) 0 0 (by omega) (by simp)
  rw [e]
  exact h
end Go.Proofs.Ytekakngojhnleaa.Rd
/- What a number's code is, and that it is read as it was made; plain laws. -/
namespace Go.Proofs.Ytekakngojhnleaa.Rd
set_option linter.unusedSimpArgs false
set_option linter.unusedVariables false
open Go.RowKit Go.Proofs.Ytekakngojhnleaa.Rf Go.Proofs.Ytekakngojhnleaa.Fns Go.Proofs.Ytekakngojhnleaa.Plain Go.Proofs.YtekakngojhnleaaW.PrintWords Go.Proofs.YtekakngojhnleaaW.PrintLast Go.Proofs.YtekakngojhnleaaW.PrintMore

/-- The code of a number below 128 ^ (k + 1). -/
def enc : Nat → Nat → List Int
  | 0, x => [(x : Int)]
  | k + 1, x => if x < 128 then [(x : Int)] else ((x % 128 + 128 : Nat) : Int) :: enc k (x / 128)

theorem enc_pos (k x : Nat) : 1 ≤ (enc k x).length := by
  cases k with
  | zero => simp [enc]
  | succ k => unfold enc; split <;> simp
theorem enc_le (k : Nat) : ∀ x, (enc k x).length ≤ k + 1 := by
  induction k with
  | zero => intro x; simp [enc]
  | succ k ih =>
    intro x
    unfold enc
    split
    · simp
    · have := ih (x / 128); simp only [List.length_cons]; omega
theorem enc_bytes (k : Nat) : ∀ x, x < 128 ^ (k + 1) → ∀ c ∈ enc k x, 0 ≤ c ∧ c < 256 := by
  induction k with
  | zero =>
    intro x hx c hc
    simp [enc] at hc hx
    omega
  | succ k ih =>
    intro x hx c hc
    unfold enc at hc
    split at hc
    · simp at hc; omega
    · rcases List.mem_cons.1 hc with rfl | hc
      · omega
      · refine ih (x / 128) ?_ c hc
        have hp : (128 : Nat) ^ (k + 1 + 1) = 128 ^ (k + 1) * 128 := Nat.pow_succ ..
        rw [hp] at hx
        exact Nat.div_lt_of_lt_mul (by omega)

theorem number_enc (k : Nat) : ∀ (x : Nat) (acc : List Int), x < 128 ^ (k + 1) → acc.length + k < 140737488355328 → codec_Number.l0 (k + 1) (x : Int) acc = some (acc ++ enc k x) := by
  induction k with
  | zero =>
    intro x acc hx ha
    simp at hx
    rw [codec_Number.l0, if_neg (by omega), if_pos (by omega)]
    simp [enc]
    omega
  | succ k ih =>
    intro x acc hx ha
    rw [codec_Number.l0]
    by_cases h : x < 128
    · rw [if_neg (by omega), if_pos (by omega)]
      have e : ((x : Int) % 256) = x := by omega
      rw [e]
      simp [enc, h]
    · rw [if_pos (by omega), if_pos (by omega), or_digit]
      have hd : (x : Int) / 128 = ((x / 128 : Nat) : Int) := by omega
      have hm : (x : Int) % 128 + 128 = ((x % 128 + 128 : Nat) : Int) := by omega
      have hp : (128 : Nat) ^ (k + 1 + 1) = 128 ^ (k + 1) * 128 := Nat.pow_succ ..
      rw [hp] at hx
      rw [hd, hm, ih (x / 128) _ (Nat.div_lt_of_lt_mul (by omega)) (by simp; omega)]
      conv => rhs; rw [enc]
      rw [if_neg h]
      simp

theorem number_is (x : Nat) (hx : x < 18446744073709551616) : codec_Number.f 10 (x : Int) = some (enc 9 x) := by
  have h10 : (128 : Nat) ^ (9 + 1) = 1180591620717411303424 := by decide
  have := number_enc 9 x [] (by rw [h10]; omega) (by simp)
  unfold codec_Number.f
  simpa using this

/-- A code is read as it was made. -/
theorem sp_enc (k : Nat) : ∀ (x i m : Nat) (rest : List Int), x < 128 ^ (k + 1) → x * 128 ^ i < 18446744073709551616 → i ≤ 9 → (0 < x ∨ i = 0) →
    sp i (m : Int) (enc k x ++ rest) = (((m + x * 128 ^ i : Nat) : Int), i + (enc k x).length) := by
  have small : ∀ (x i m : Nat) (rest : List Int), x < 128 → x * 128 ^ i < 18446744073709551616 → (0 < x ∨ i = 0) → sp i (m : Int) ((x : Int) :: rest) = (((m + x * 128 ^ i : Nat) : Int), i + 1) := by
    intro x i m rest hx hlt hz
    have h9 : ¬ (i = 9 ∧ (((x : Int) % 128) > 1 ∨ ¬ (x : Int) < 128)) := by
      rintro ⟨rfl, h⟩
      have e : (128 : Nat) ^ 9 = 9223372036854775808 := by decide
      rw [e] at hlt
      omega
    unfold sp
    rw [if_neg h9, if_neg (by omega), if_pos (by omega), sum_cast]
    have e : (x : Int) % 128 = x := by omega
    rw [e]
  induction k with
  | zero =>
    intro x i m rest hx hlt hi hz
    simp at hx
    exact small x i m rest hx hlt hz
  | succ k ih =>
    intro x i m rest hx hlt hi hz
    rw [enc]
    by_cases h : x < 128
    · rw [if_pos h]
      exact small x i m rest h hlt hz
    · rw [if_neg h]
      have hi8 : i ≤ 8 := by
        rcases Nat.lt_or_ge i 9 with h' | h'
        · omega
        · exfalso
          obtain rfl : i = 9 := by omega
          have e : (128 : Nat) ^ 9 = 9223372036854775808 := by decide
          rw [e] at hlt
          omega
      have hp : (128 : Nat) ^ (k + 1 + 1) = 128 ^ (k + 1) * 128 := Nat.pow_succ ..
      rw [hp] at hx
      have hpi : (128 : Nat) ^ (i + 1) = 128 ^ i * 128 := Nat.pow_succ ..
      have hx128 : x = x / 128 * 128 + x % 128 := by omega
      have hmul : x * 128 ^ i = x / 128 * (128 ^ i * 128) + x % 128 * 128 ^ i := by
        conv => lhs; rw [hx128]
        rw [Nat.add_mul, Nat.mul_assoc, Nat.mul_comm 128]
      have hlt' : x / 128 * 128 ^ (i + 1) < 18446744073709551616 := by rw [hpi]; omega
      rw [List.cons_append, sp]
      have e2 : ((x % 128 + 128 : Nat) : Int) % 128 = ((x % 128 : Nat) : Int) := by omega
      rw [if_neg (fun h' => by omega), if_neg (fun h' => by omega), if_neg (by omega), e2, ← sum_cast, ih (x / 128) (i + 1) _ rest (Nat.div_lt_of_lt_mul (by omega)) hlt' (by omega) (.inl (by omega))]
      have : m + x % 128 * 128 ^ i + x / 128 * 128 ^ (i + 1) = m + x * 128 ^ i := by rw [hpi]; omega
      rw [this]
      simp only [List.length_cons]
      congr 1
      omega

theorem nx_enc (x : Nat) (hx : x < 18446744073709551616) (rest : List Int) (hr : ∀ c ∈ rest, 0 ≤ c ∧ c < 256) : nx 0 0 (enc 9 x ++ rest) = ((x : Int), (enc 9 x).length) := by
  have h10 : (128 : Nat) ^ (9 + 1) = 1180591620717411303424 := by decide
  have hb : ∀ c ∈ enc 9 x ++ rest, 0 ≤ c ∧ c < 256 := by
    intro c hc
    rcases List.mem_append.1 hc with hc | hc
    · exact enc_bytes 9 x (by rw [h10]; omega) c hc
    · exact hr c hc
  have h := nx_sp (enc 9 x ++ rest) hb 0 0 (by omega) (by simp)
  have h2 := sp_enc 9 x 0 0 rest (by rw [h10]; omega) (by simpa using hx) (by omega) (.inr rfl)
  simp only [Nat.pow_zero, Nat.mul_one, Nat.zero_add] at h2
  rw [← h2]
  exact h

/-- What was read, made again, are the bytes that were read. -/
theorem sp_again (b : List Int) : (∀ c ∈ b, 0 ≤ c ∧ c < 256) → ∀ (i m : Nat) (v : Int) (K : Nat), i ≤ 9 → sp i (m : Int) b = (v, K) → K ≠ 0 →
    ∃ x : Nat, v = ((m + x * 128 ^ i : Nat) : Int) ∧ (0 < x ∨ i = 0) ∧ i < K ∧ ∀ k, 9 ≤ k + i → enc k x = b.take (K - i) := by
  induction b with
  | nil =>
    intro _ i m v K _ h hK
    simp [sp] at h
    omega
  | cons c cs ih =>
    intro hb i m v K hi h hK
    obtain ⟨h0, h1⟩ := hb c (by simp)
    rw [sp] at h
    by_cases ha : i = 9 ∧ (c % 128 > 1 ∨ ¬ c < 128)
    · rw [if_pos ha] at h
      injection h with _ h
      omega
    · rw [if_neg ha] at h
      by_cases hz : c < 128 ∧ c % 128 = 0 ∧ i > 0
      · rw [if_pos hz] at h
        injection h with _ h
        omega
      · rw [if_neg hz] at h
        obtain ⟨n, rfl⟩ := Int.eq_ofNat_of_zero_le h0
        by_cases hl : (n : Int) < 128
        · rw [if_pos hl] at h
          injection h with h2 h3
          have e : (n : Int) % 128 = n := by omega
          rw [e, ← sum_cast] at h2
          subst h2 h3
          refine ⟨n, rfl, by omega, by omega, fun k hk => ?_⟩
          have e1 : i + 1 - i = 1 := by omega
          rw [e1]
          cases k with
          | zero => simp [enc]
          | succ k => rw [enc, if_pos (by omega)]; simp
        · rw [if_neg hl] at h
          have e : (n : Int) % 128 = ((n % 128 : Nat) : Int) := by omega
          rw [e, ← sum_cast] at h
          have hi8 : i ≤ 8 := by omega
          obtain ⟨x, hv, hx, hK2, henc⟩ := ih (fun d hd => hb d (by simp [hd])) (i + 1) _ v K (by omega) h hK
          have hx0 : 0 < x := by omega
          refine ⟨n % 128 + 128 * x, ?_, .inl (by omega), by omega, fun k hk => ?_⟩
          · rw [hv]
            congr 1
            rw [Nat.pow_succ, Nat.add_mul, Nat.mul_comm (128 ^ i) 128, ← Nat.mul_assoc, Nat.mul_comm x 128]
            omega
          · obtain ⟨k, rfl⟩ : ∃ k', k = k' + 1 := ⟨k - 1, by omega⟩
            rw [enc, if_neg (by omega)]
            have e3 : K - i = (K - (i + 1)) + 1 := by omega
            rw [e3, List.take_succ_cons, ← henc k (by omega)]
            have e4 : (n % 128 + 128 * x) % 128 + 128 = n := by omega
            have e5 : (n % 128 + 128 * x) / 128 = x := by omega
            rw [e4, e5]

theorem and_one (n : Nat) (h : n < 18446744073709551616) : Go.bits .and .u64 (n : Int) 1 = ((n % 2 : Nat) : Int) := by
  have := u64_and_nat n 1 h (by omega)
  rw [nat_mask1] at this
  exact this
theorem bits_xor_i64 (a b : Int) : Go.bits .xor .i64 a b = IntKind.i64.wrap ((BitVec.ofInt 64 a ^^^ BitVec.ofInt 64 b).toNat : Int) := rfl
theorem xor_zero (a : Int) (h0 : 0 ≤ a) (h1 : a < 9223372036854775808) : Go.bits .xor .i64 a 0 = a := by
  rw [bits_xor_i64]
  have e : BitVec.ofInt 64 0 = 0#64 := rfl
  rw [e, BitVec.xor_zero, BitVec.toNat_ofInt, IntKind.wrap_i64]
  have : (2 ^ 64 : Nat) = 18446744073709551616 := by decide
  rw [this]
  omega
theorem xor_ones (a : Int) (h0 : 0 ≤ a) (h1 : a < 9223372036854775808) : Go.bits .xor .i64 a (-1) = -a - 1 := by
  rw [bits_xor_i64]
  have e : BitVec.ofInt 64 (-1) = BitVec.allOnes 64 := rfl
  rw [e, BitVec.xor_allOnes, BitVec.toNat_not, BitVec.toNat_ofInt, IntKind.wrap_i64]
  have : (2 ^ 64 : Nat) = 18446744073709551616 := by decide
  rw [this]
  omega

/-- The number whose size and sign a whole number's code tells. -/
theorem valI_eq (n : Nat) (h : n < 18446744073709551616) : valI (n : Int) = if n % 2 = 1 then -((n / 2 : Nat) : Int) - 1 else ((n / 2 : Nat) : Int) := by
  unfold valI
  rw [and_one n h]
  have hd : wrap64 ((n : Int) / 2) = ((n / 2 : Nat) : Int) := by unfold wrap64; omega
  rw [hd]
  by_cases hp : n % 2 = 1
  · rw [if_pos hp, hp]
    have : wrap64 (-wrap64 ((1 : Nat) : Int)) = -1 := by unfold wrap64; omega
    rw [this, xor_ones _ (by omega) (by omega)]
  · rw [if_neg hp]
    have h0 : n % 2 = 0 := by omega
    rw [h0]
    have : wrap64 (-wrap64 ((0 : Nat) : Int)) = 0 := by unfold wrap64; omega
    rw [this, xor_zero _ (by omega) (by omega)]
theorem szI_eq (n : Nat) (h : n < 18446744073709551616) : szI (n : Int) = ((n / 2 + n % 2 : Nat) : Int) := by
  unfold szI
  rw [and_one n h, IntKind.wrap_u64]
  omega
end Go.Proofs.Ytekakngojhnleaa.Rd
/- codec.New: a reader over a copy of the bytes. -/
namespace Go.Proofs.Ytekakngojhnleaa.Rd
set_option linter.unusedSimpArgs false
set_option linter.unusedVariables false
open Go.RowKit Go.Proofs.Ytekakngojhnleaa.PFrameDecodes Go.Proofs.YtekakngojhnleaaW.PrintWords Go.Proofs.YtekakngojhnleaaW.PrintLast Go.Proofs.YtekakngojhnleaaW.PrintMore

set_option maxHeartbeats 400000 in
theorem new_calls (A : Option Addr) (c : Nat) (xs : List Int) (w : World) (hr : Kd.C (Kd.int .u8) w A xs.length xs) (hl : xs.length ≤ 140737488355328) :
    Calls Try.prog 54 #[.slice A xs.length c] w fun e w' => ∃ g w0, e = .returned (.pointer (some ⟨g, 0, none⟩)) ∧ IsRd w0 w' g xs ∧ Below w0.heap.size w0 w' ∧ Below w.heap.size w w0 ∧ Below w.heap.size w w' := by
  have HR := Aside0.mk hr
  clear hr
  go_enter Try.func54, Try.ntmps54
  go_wp2_with fail
  refine (clone_calls A c xs _ HR.out hl).mono ?_
  rintro e w1 ⟨v, rfl, ho, hb⟩
  obtain ⟨A1, c1, rfl, hc1, hr1⟩ := Kd.R_reads ho
  have HB := Aside0.mk hb
  have HR1 := Aside0.mk hr1
  clear hb hr1 ho
  go_wp2_with fail
  go_ret
  exact ⟨_, w1, rfl, ⟨A1, c1, by simpa using heap_alloc_new w1 _, Nat.le_refl _, hc1, HR1.out⟩, below_alloc (Below.refl _ _) _, HB.out, below_alloc HB.out _⟩
end Go.Proofs.Ytekakngojhnleaa.Rd
/- The document's reader: Bytes. -/
namespace Go.Proofs.Ytekakngojhnleaa.Rd
set_option linter.unusedSimpArgs false
set_option linter.unusedVariables false
open Go.RowKit Go.Proofs.Ytekakngojhnleaa.Rf Go.Proofs.YtekakngojhnleaaW.PrintWords Go.Proofs.YtekakngojhnleaaW.PrintLast Go.Proofs.YtekakngojhnleaaW.PrintMore

/-- append(v, xs...) of bytes, v the call's own: one step of a region that draws its order. -/
theorem bytes_step {ops : Array Oper} {o : Oper} {a : Act} {Q : Exit → Act → World → Prop} {K : Act → World → Prop} {w0 W : World} (base : Nat) (hg : o.guard = none) (s x : Operand)
    (ho : o.op = .call { callee := .builtin .append, args := #[s, x], argTypes := #[30, 30] }) (v : Value) (xs ys : List Int) (A : Option Addr) (m c : Nat) (hs : a.eval s = v) (hx : a.eval x = .slice A m c)
    (HO : (Kd.int .u8).R 5 W base (fun _ => True) v xs) (HR : (Kd.int .u8).C W A m ys) (HB : Below base w0 W) (hbase : base ≤ W.heap.size) (hl : xs.length + m ≤ 140737488355328)
    (h : ∀ v1 w1, (Kd.int .u8).R 5 w1 base (fun _ => True) v1 (xs ++ ys) → Below base w0 w1 → W.grownBy w1 v.ownBlock → K (a.put o.dst v1) w1) :
    if Region.wanted o (yielded ops a.tmps) = true then Oper.wp Try.prog o a W K Q else K (a.put o.dst undef) W :=
  Kd.R_append_rows_step (Kd.int .u8) (w0 := w0) base (by simp [Region.wanted, hg]) s x 30 5 (.int .u8 0) 1 ho Try.underlying30 PFrameDecodes.info5 rfl (by decide) (by omega) v xs ys A m c (fun _ => True) (fun _ => False) hs hx HO HR
    (fun _ _ h => h) (fun _ h => h.elim) (fun _ _ => trivial) HB hbase (by omega) (fun v1 w1 h1 h2 h3 _ => h v1 w1 h1 h2 h3)

set_option maxHeartbeats 800000 in
theorem fbytes_yes (g : Nat) (xs : List Int) (at_ n m M : Nat) (w0 w : World) (hI : IsS118 w0 w g xs (at_ : Int)) (hB : Below w0.heap.size w0 w) (hl : xs.length ≤ 140737488355328)
    (hf : windbreakref09_Reader_next.f 32 xs (at_ : Int) = some ((n : Int), (m : Int), (at_ : Int))) (h0 : 0 < m) (hw : IntKind.u64.wrap (M : Int) = M) (h1 : n ≤ M) (h2 : at_ + m + n ≤ xs.length) :
    Calls Try.prog 69 #[.pointer (some ⟨g, 0, none⟩), .int .i64 (M : Int)] w fun e' w' => ∃ v, e' = .returned (.tuple #[v, .int .i64 0]) ∧ (Kd.int .u8).R 5 w' w.heap.size (fun _ => True) v ((xs.drop (at_ + m)).take n) ∧ IsS118 w0 w' g xs ((at_ + m + n : Nat) : Int) ∧ Below w0.heap.size w0 w' ∧ KeepBut w w' g none := by
  have HF := Aside0.mk hf
  have HI := Aside0.mk hI
  have HB := Aside0.mk hB
  have HW := Aside0.mk hw
  clear hf hI hB hw
  go_enter Try.func69, Try.ntmps69
  go_wp2_with fail
  refine (windbreakref09_Reader_next.calls 32 g xs (at_ : Int) _ _ _ w0 _ HI.out HB.out HF.out).mono ?_
  rintro e w1 ⟨rfl, hI1, hB1, hK1⟩
  obtain ⟨A, c, hb, ⟨hg, hcap⟩, hr⟩ := hI1
  have hcell0 : w1.cell? ⟨g, 0, none⟩ = some (.slice A xs.length c) := (blk_cell hb 0).trans rfl
  have hcell1 : w1.cell? ⟨g, 1, none⟩ = some (.int .i64 (at_ : Int)) := (blk_cell hb 1).trans rfl
  have hfr1 : w1.frozen? ⟨g, 1, none⟩ = false := blk_frozen hb 1
  have HBl := Aside0.mk hb
  have HR := Aside0.mk hr
  have HB1 := Aside0.mk hB1
  have HK1 := Aside0.mk hK1
  clear hb hr hB1 hK1
  have hb0 : ((m : Int) == 0) = false := by simp; omega
  have hng : decide ((M : Int) < 0) = false := by simp
  have hle : (n : Int) ≤ IntKind.u64.wrap (M : Int) := by rw [HW.out]; omega
  have hsub : IntKind.u64.wrap (IntKind.i64.wrap (IntKind.i64.wrap ((xs.length : Int) - (at_ : Int)) - (m : Int))) = (xs.length : Int) - (at_ : Int) - (m : Int) := by
    rw [IntKind.wrap_u64, IntKind.wrap_i64, IntKind.wrap_i64]; omega
  go_wp2_with fail
  go_quiet (fail)
  go_wp2_with fail
  obtain ⟨W2, hW2⟩ : ∃ W2, W2 = (w1.drewN nq).setCell ⟨g, 1, none⟩ (.int .i64 ((at_ : Int) + (m : Int) + (n : Int))) := ⟨_, rfl⟩
  rw [← hW2]
  have hb2 : W2.heap[g]? = some (.cells #[.slice A xs.length c, .int .i64 ((at_ : Int) + (m : Int) + (n : Int))] 118 (0, 0)) := by
    rw [hW2]
    have hq : (w1.drewN nq).heap[g]? = w1.heap[g]? := rfl
    simpa using blk_set (hq.trans HBl.out) 1 (.int .i64 ((at_ : Int) + (m : Int) + (n : Int)))
  have hB2 : Below w0.heap.size w0 W2 := by rw [hW2]; exact below_set (pw_below_drewN HB1.out nq) hg
  have hK2 : KeepBut w W2 g none := by rw [hW2]; exact (keep_drewN HK1.out nq).set_ _ _
  clear hW2 hcell0 hcell1 hfr1 hsub hle hng hb0
  have hcell0 : W2.drew.cell? ⟨g, 0, none⟩ = some (.slice A xs.length c) := (blk_cell hb2 0).trans rfl
  have hcell1 : W2.drew.cell? ⟨g, 1, none⟩ = some (.int .i64 ((at_ : Int) + (m : Int) + (n : Int))) := (blk_cell hb2 1).trans rfl
  have HBl2 := Aside0.mk hb2
  have HB2 := Aside0.mk hB2
  have HK2 := Aside0.mk hK2
  clear hb2 hB2 hK2
  have e1 : (0 : Int) ≤ (at_ : Int) + (m : Int) := by omega
  have e2 : (at_ : Int) + (m : Int) ≤ (at_ : Int) + (m : Int) + (n : Int) := by omega
  have e3 : (at_ : Int) + (m : Int) + (n : Int) ≤ (c : Int) := by omega
  have hne : ¬ W2.heap.size = g := Nat.ne_of_gt (blk_lt HBl2.out)
  have hcell0' : W2.cell? ⟨g, 0, none⟩ = some (.slice A xs.length c) := hcell0
  have hcell1' : W2.cell? ⟨g, 1, none⟩ = some (.int .i64 ((at_ : Int) + (m : Int) + (n : Int))) := hcell1
  have HC := Aside0.mk (show (Kd.int .u8).C (W2.alloc (.cells #[] 5)).drew (if c = ((at_ : Int) + (m : Int)).toNat then A else A.map fun x => x.add ((at_ : Int) + (m : Int)).toNat) (((at_ : Int) + (m : Int) + (n : Int)).toNat - ((at_ : Int) + (m : Int)).toNat) ((xs.drop (at_ + m)).take n) from by
    have h := Kd.C_below (Kd.C_mid HR.out (show at_ + m ≤ at_ + m + n by omega) (by omega) hcap) HB2.out
    have e : (xs.take (at_ + m + n)).drop (at_ + m) = (xs.drop (at_ + m)).take n := by rw [List.drop_take]; congr 1; omega
    rw [e] at h
    have e' : ((xs.drop (at_ + m)).take n).length = ((at_ : Int) + (m : Int) + (n : Int)).toNat - ((at_ : Int) + (m : Int)).toNat := by simp; omega
    have e'' : ((at_ : Int) + (m : Int)).toNat = at_ + m := by omega
    rw [e'] at h
    rw [e''] at h ⊢
    have h1 : (at_ + m) * (Kd.int .u8).sz = at_ + m := Nat.mul_one _
    rw [h1] at h
    exact Kd.C_drew (Kd.C_alloc h _))
  have HE := Aside0.mk (show (Kd.int .u8).R 5 (W2.alloc (.cells #[] 5)).drew W2.heap.size (fun _ => True) (.slice (some ⟨W2.heap.size, 0, none⟩) 0 0) [] from Kd.R_drew (R_empty (Kd.int .u8) 5 W2 W2.heap.size (Nat.le_refl _)))
  have HBE := Aside0.mk (show Below W2.heap.size W2 (W2.alloc (.cells #[] 5)).drew from below_drew (below_alloc (Below.refl _ _) _))
  have hS : W2.heap.size ≤ (W2.alloc (.cells #[] 5)).drew.heap.size := by simp
  have hL : (([] : List Int).length + (((at_ : Int) + (m : Int) + (n : Int)).toNat - ((at_ : Int) + (m : Int)).toNat)) ≤ 140737488355328 := by simp; omega
  go_region_held3 (fun w' => w'.cell? ⟨g, 0, none⟩ = some (.slice A xs.length c) ∧ w'.cell? ⟨g, 1, none⟩ = some (.int .i64 ((at_ : Int) + (m : Int) + (n : Int)))) (go_keep) ((refine bytes_step (w0 := W2) W2.heap.size (by rfl) (.tmp 56) (.tmp 66) (by rfl) _ [] _ _ _ (c - ((at_ : Int) + (m : Int)).toNat) (by rfl) (by rfl) HE.out HC.out HBE.out hS hL ?_; intro v1 w2 ho1 hb1 hg1; have k0 := (hb1.cell (p := ⟨g, 0, none⟩) (blk_lt HBl2.out)).trans hcell0'; have k1 := (hb1.cell (p := ⟨g, 1, none⟩) (blk_lt HBl2.out)).trans hcell1'))
  go_wp2_with fail
  all_goals
   go_ret2
   have hb2' : w2.heap[g]? = some (.cells #[.slice A xs.length c, .int .i64 ((at_ + m + n : Nat) : Int)] 118 (0, 0)) := by
    rw [Int.natCast_add, Int.natCast_add]
    exact (hb1.block g (blk_lt HBl2.out)).trans HBl2.out
   exact ⟨v1, rfl, Kd.R_lower (by simpa using ho1) HK2.out.1, ⟨A, c, hb2', ⟨hg, hcap⟩, HR.out⟩, HB2.out.trans (hb1.mono HB2.out.size), HK2.out.trans (KeepBut.of_below hb1 g none) (.inl rfl)⟩

set_option maxRecDepth 100000 in
set_option maxHeartbeats 800000 in
theorem fbytes_no (g : Nat) (xs : List Int) (at_ n m : Nat) (most : Int) (w0 w : World) (hI : IsS118 w0 w g xs (at_ : Int)) (hB : Below w0.heap.size w0 w) (hl : xs.length ≤ 140737488355328) (hat : at_ + m ≤ xs.length)
    (hf : windbreakref09_Reader_next.f 32 xs (at_ : Int) = some ((n : Int), (m : Int), (at_ : Int))) (h : m = 0 ∨ most < 0 ∨ (0 ≤ most ∧ IntKind.u64.wrap most = most ∧ most < (n : Int)) ∨ (0 ≤ most ∧ (n : Int) ≤ IntKind.u64.wrap most ∧ (xs.length : Int) - (at_ : Int) - (m : Int) < (n : Int))) :
    Calls Try.prog 69 #[.pointer (some ⟨g, 0, none⟩), .int .i64 most] w fun e' w' => e' = .returned (.tuple #[.slice none 0 0, .int .i64 13]) ∧ IsS118 w0 w' g xs (at_ : Int) ∧ Below w0.heap.size w0 w' ∧ KeepBut w w' g none := by
  have HF := Aside0.mk hf
  have HI := Aside0.mk hI
  have HB := Aside0.mk hB
  have HH := Aside0.mk h
  clear hf hI hB h
  go_enter Try.func69, Try.ntmps69
  go_wp2_with fail
  refine (windbreakref09_Reader_next.calls 32 g xs (at_ : Int) _ _ _ w0 _ HI.out HB.out HF.out).mono ?_
  rintro e w1 ⟨rfl, hI1, hB1, hK1⟩
  have HI1 := Aside0.mk hI1
  obtain ⟨A, c, hb, ⟨hg, hcap⟩, hr⟩ := hI1
  have hcell0 : w1.cell? ⟨g, 0, none⟩ = some (.slice A xs.length c) := (blk_cell hb 0).trans rfl
  have hcell1 : w1.cell? ⟨g, 1, none⟩ = some (.int .i64 (at_ : Int)) := (blk_cell hb 1).trans rfl
  have HB1 := Aside0.mk hB1
  have HK1 := Aside0.mk hK1
  clear hb hr hB1 hK1
  by_cases h0 : m = 0
  · have hb0 : ((m : Int) == 0) = true := by simp; omega
    go_wp2_with fail
    go_quiet (fail)
    go_wp2_with fail
    go_ret2
    exact ⟨rfl, IsS118.drewN HI1.out nq, pw_below_drewN HB1.out nq, keep_drewN HK1.out nq⟩
  · have hb0 : ((m : Int) == 0) = false := by simp; omega
    by_cases hn : most < 0
    · have hng : decide (most < 0) = true := by simp; omega
      go_wp2_with fail
      go_quiet (fail)
      go_wp2_with fail
      go_ret2
      exact ⟨rfl, IsS118.drewN HI1.out nq, pw_below_drewN HB1.out nq, keep_drewN HK1.out nq⟩
    · have hng : decide (most < 0) = false := by simp; omega
      rcases HH.out with h | h | h | h
      · exact absurd h h0
      · exact absurd h hn
      · have hlt : decide (IntKind.u64.wrap most < (n : Int)) = true := by rw [h.2.1]; simp; omega
        clear h h0 hn
        go_wp2_with fail
        go_quiet (fail)
        go_wp2_with fail
        go_ret2
        exact ⟨rfl, IsS118.drewN HI1.out nq, pw_below_drewN HB1.out nq, keep_drewN HK1.out nq⟩
      · have hlt : decide (IntKind.u64.wrap most < (n : Int)) = false := by have := h.2.1; simp; omega
        have hsub : IntKind.u64.wrap (IntKind.i64.wrap (IntKind.i64.wrap ((xs.length : Int) - (at_ : Int)) - (m : Int))) = (xs.length : Int) - (at_ : Int) - (m : Int) := by
          rw [IntKind.wrap_u64, IntKind.wrap_i64, IntKind.wrap_i64]; omega
        have hlt2 : decide ((xs.length : Int) - (at_ : Int) - (m : Int) < (n : Int)) = true := by have := h.2.2; simp; omega
        clear h h0 hn
        go_wp2_with fail
        go_quiet (fail)
        go_wp2_with fail
        go_ret2
        exact ⟨rfl, IsS118.drewN HI1.out nq, pw_below_drewN HB1.out nq, keep_drewN HK1.out nq⟩
end Go.Proofs.Ytekakngojhnleaa.Rd
/- CodecBack, CodecAgain, CodecSame: the law's Go function answers true at every input. -/
namespace Go.Proofs.Ytekakngojhnleaa.Rd
set_option linter.unusedSimpArgs false
set_option linter.unusedVariables false
open Go.RowKit Go.Proofs.Ytekakngojhnleaa.Rf Go.Proofs.Ytekakngojhnleaa.Fns Go.Proofs.Ytekakngojhnleaa.Plain Go.Proofs.YtekakngojhnleaaW.PrintWords Go.Proofs.YtekakngojhnleaaW.PrintLast Go.Proofs.YtekakngojhnleaaW.PrintMore

/-- append(v, xs...) of bytes, v the call's own. -/
theorem bytes_app {ops : Array Oper} {rest : List Oper} {o : Oper} {a : Act} {Q : Exit → Act → World → Prop} {w0 W : World} (base : Nat) (hg : o.guard = none) (s x : Operand)
    (ho : o.op = .call { callee := .builtin .append, args := #[s, x], argTypes := #[30, 30] }) (v : Value) (xs ys : List Int) (A : Option Addr) (m c : Nat) (hs : a.eval s = v) (hx : a.eval x = .slice A m c)
    (HO : (Kd.int .u8).R 5 W base (fun _ => True) v xs) (HR : (Kd.int .u8).C W A m ys) (HB : Below base w0 W) (hbase : base ≤ W.heap.size) (hl : xs.length + m ≤ 140737488355328)
    (h : ∀ A1 n1 c1 w1, Aside0 (n1 = (xs ++ ys).length) → (Kd.int .u8).R 5 w1 base (fun _ => True) (.slice A1 n1 c1) (xs ++ ys) → (Kd.int .u8).C w1 A1 n1 (xs ++ ys) → Below base w0 w1 → W.grownBy w1 v.ownBlock → wpList Try.prog ops Q rest (a.put o.dst (.slice A1 n1 c1)) w1) :
    wpList Try.prog ops Q (o :: rest) a W := by
  refine Kd.R_append_rows (Kd.int .u8) (w0 := w0) base hg s x 30 5 (.int .u8 0) 1 ho Try.underlying30 PFrameDecodes.info5 rfl (by decide) (by omega) v xs ys A m c (fun _ => True) (fun _ => False) hs hx HO HR
    (fun _ _ h => h) (fun _ h => h.elim) (fun _ _ => trivial) HB hbase (by omega) (fun v1 w1 h1 h2 h3 _ => ?_)
  obtain ⟨A1, c1, rfl, hc, hr⟩ := Kd.R_reads h1
  exact h A1 _ c1 w1 ⟨rfl⟩ h1 hr h2 h3

theorem new_calls' (A : Option Addr) (n c : Nat) (xs : List Int) (w : World) (hr : Kd.C (Kd.int .u8) w A n xs) (hl : xs.length ≤ 140737488355328) :
    Calls Try.prog 54 #[.slice A n c] w fun e w' => ∃ g w0, e = .returned (.pointer (some ⟨g, 0, none⟩)) ∧ IsRd w0 w' g xs ∧ Below w0.heap.size w0 w' ∧ Below w.heap.size w w0 ∧ Below w.heap.size w w' := by
  obtain rfl : xs.length = n := Kd.C_len hr
  exact new_calls A c xs w hr hl

theorem u8_bytes {xs : List Int} (h : ∀ x ∈ xs, (Lit.int .u8 x).wf = true) : ∀ x ∈ xs, 0 ≤ x ∧ x < 256 := by
  intro x hx
  have := h x hx
  simp only [Lit.wf, Bool.and_eq_true, IntKind.min, IntKind.max, IntKind.bits, IntKind.signed] at this
  simp at this
  omega
end Go.Proofs.Ytekakngojhnleaa.Rd
/- FrameSums: the table of frame.Sum, and its walk. -/
namespace Go.Proofs.Ytekakngojhnleaa.Tb
open Go.RowKit Go.Proofs.YtekakngojhnleaaW.PrintWords
set_option linter.unusedSimpArgs false
set_option linter.unusedVariables false

theorem zero83 : (∀ w, (zeroValue 83).run Try.prog w = .ok (.agg (Array.replicate 256 (.int .u32 0))) w) ∧ (Try.prog.info? 83).map (·.size) = some 256 :=
  zero_of_info (by kernel_rfl)
theorem under83 : Try.prog.underlying 83 = some (.array 256 31) := by kernel_rfl

/-- One bit's step. -/
def tstep (r : Int) : Int := bits .xor .u32 (r / 2) (bits .and .u32 3988292384 (-bits .and .u32 r 1 % 4294967296))
def titer : Nat → Int → Int
  | 0, r => r
  | k + 1, r => titer k (tstep r)
/-- The table's numbers when n of them are filled. -/
def tnum (n j : Nat) : Int := if j < n then titer 8 (j : Int) else 0
def tlist : Nat → Nat → Nat → List Value
  | _, _, 0 => []
  | n, j, m + 1 => .int .u32 (tnum n j) :: tlist n (j + 1) m
theorem tlist_length (n : Nat) : ∀ (m j : Nat), (tlist n j m).length = m
  | 0, _ => rfl
  | m + 1, j => by rw [tlist, List.length_cons, tlist_length n m]
theorem tlist_get (n : Nat) : ∀ (m j i : Nat), i < m → (tlist n j m)[i]? = some (.int .u32 (tnum n (j + i)))
  | 0, _, _, h => by omega
  | m + 1, j, 0, _ => by rw [tlist]; simp
  | m + 1, j, i + 1, h => by
    rw [tlist, List.getElem?_cons_succ, tlist_get n m (j + 1) i (by omega)]
    rw [show j + 1 + i = j + (i + 1) by omega]
/-- The table's cells when n of them are filled. -/
def tcells (n : Nat) : Array Value := ⟨tlist n 0 256⟩
theorem tcells_size (n : Nat) : (tcells n).size = 256 := tlist_length n 256 0
theorem tcells_get (n i : Nat) (h : i < 256) : (tcells n)[i]? = some (.int .u32 (tnum n i)) := by
  have := tlist_get n 256 0 i h
  rw [Nat.zero_add] at this
  simpa [tcells] using this
theorem tcells_zero : Array.replicate 256 (Value.int .u32 0) = tcells 0 := by
  apply Array.ext_getElem?
  intro i
  rw [Array.getElem?_replicate]
  by_cases h : i < 256
  · rw [if_pos h, tcells_get 0 i h]; simp [tnum]
  · rw [if_neg h, Array.getElem?_eq_none (by rw [tcells_size]; omega)]
theorem tcells_set (i : Nat) (hi : i < 256) : (tcells i).setIfInBounds i (.int .u32 (titer 8 (i : Int))) = tcells (i + 1) := by
  apply Array.ext_getElem?
  intro j
  rw [Array.getElem?_setIfInBounds]
  by_cases hj : j < 256
  · rw [tcells_get _ j hj, tcells_get _ j hj]
    by_cases e : i = j
    · subst e
      rw [if_pos rfl, if_pos (by rw [tcells_size]; exact hj)]
      simp [tnum]
    · rw [if_neg e]
      unfold tnum
      by_cases h1 : j < i
      · rw [if_pos h1, if_pos (by omega)]
      · rw [if_neg h1, if_neg (by omega)]
  · rw [Array.getElem?_eq_none (by rw [tcells_size]; omega), Array.getElem?_eq_none (by rw [tcells_size]; omega), if_neg (by omega)]
theorem tcells_one (n : Nat) : (tcells n).all (·.oneCell') = true := by
  rw [Array.all_eq_true]
  intro i hi
  have h1 : i < 256 := by rw [tcells_size] at hi; exact hi
  have h2 := tcells_get n i h1
  rw [Array.getElem?_eq_getElem hi] at h2
  rw [Option.some.inj h2]
  rfl

set_option maxRecDepth 100000 in
set_option maxHeartbeats 400000 in
/-- frame.table: the whole table, by value. -/
theorem table_calls (w : World) : Calls Try.prog 45 #[] w fun e w' => e = .returned (.agg (tcells 256)) ∧ Below w.heap.size w w' := by
  have hz := zero83.1
  go_enter Try.func45, Try.ntmps45
  go_wp2_with fail
  rw [tcells_zero]
  clear hz
  go_loopg [4] 256 (fun g v4 wx => ∃ i : Nat, i + g = 256 ∧ v4 = .int .i64 i ∧ wx = (w.alloc (.cells (tcells 0) 83)).alloc (.cells (tcells i) 83))
  case atStart => exact ⟨0, by omega, rfl, rfl⟩
  case round =>
    obtain ⟨i, hig, rfl, rfl⟩ := hrel
    obtain ⟨C, hC⟩ : ∃ C, C = tcells i := ⟨_, rfl⟩
    obtain ⟨C0, hC0⟩ : ∃ C, C = tcells 0 := ⟨_, rfl⟩
    have hs0 : C0.size = 256 := by rw [hC0]; exact tcells_size 0
    have hs : C.size = 256 := by rw [hC]; exact tcells_size i
    have HC := Aside0.mk hC
    have HC0 := Aside0.mk hC0
    rw [← hC, ← hC0]
    cases gk with
    | zero =>
      have hie : i = 256 := by omega
      have h1 : C.all (·.oneCell') = true := by rw [hC]; exact tcells_one i
      have hB : Below w.heap.size w (((w.alloc (.cells C0 83)).alloc (.cells C 83)).setRow w.heap.size C) :=
        below_setRow (((Below.refl _ w).alloc (Nat.le_refl _) _).alloc (Nat.le_of_lt (by simp)) _) (Nat.le_refl _) _
      have hg0 : ((w.alloc (.cells C0 83)).alloc (.cells C 83)).heap[w.heap.size]? = some (.cells C0 83 (0, 0)) := heap_alloc2_old w _ _
      have hg1 : ((w.alloc (.cells C0 83)).alloc (.cells C 83)).heap[w.heap.size + 1]? = some (.cells C 83 (0, 0)) := heap_alloc2_new w _ _
      have HA := Aside0.mk (And.intro h1 (And.intro hB (And.intro hg0 hg1)))
      have HE := Aside0.mk (show C = tcells 256 by rw [hC, hie])
      clear hC hC0 h1 hB hg0 hg1 HC HC0
      have hlt : ¬ (i : Int) < 256 := by omega
      have hs := Aside0.mk hs
      have hs0 := Aside0.mk hs0
      clear hie
      go_wp2_with (first | (refine wpList_load_row rfl 83 (.tmp 1) rfl (w.heap.size + 1) rfl 83 C (0, 0) _ HA.out.2.2.2 under83 rfl (by rw [hs.out]; exact zero83.2) ?_) | (refine wpList_store_row rfl 83 (.tmp 0) (.tmp 23) rfl w.heap.size C rfl rfl 83 C0 HA.out.2.2.1 (by rw [hs.out]; exact zero83.2) (by rw [hs.out, hs0.out]) HA.out.1 ?_))
      refine bodyPost_ret (v := .agg C) ?_ rfl ?_
      · exact results_cell_row rfl _ _ w.heap.size 83 C (0, 0) _ rfl (setRow_heap _ _ C0 C 83 (0, 0) HA.out.2.2.1) under83 rfl (by rw [hs.out]; exact zero83.2)
      · exact ⟨by rw [HE.out], HA.out.2.1⟩
    | succ g =>
      have hi : (i : Int) < 256 := by omega
      obtain ⟨t, ht⟩ : ∃ t, t = titer 8 (i : Int) := ⟨_, rfl⟩
      have HT := Aside0.mk ht
      have hcell : C[i]? = some (.int .u32 (tnum i i)) := by rw [hC]; exact tcells_get i i (by omega)
      clear ht hC hC0 hs0 hs
      go_wp2_with fail
      go_loopg [3, 9] 8 (fun h v3 v9 wx => ∃ (j : Nat) (r : Int), j + h = 8 ∧ v3 = .int .u32 r ∧ v9 = .int .i64 j ∧ Aside0 (titer h r = t) ∧ wx = (w.alloc (.cells C0 83)).alloc (.cells C 83))
      case atStart => exact ⟨0, (i : Int), by omega, rfl, rfl, ⟨HT.out.symm⟩, rfl⟩
      case round =>
        obtain ⟨j, r, hj, rfl, rfl, hr, rfl⟩ := hrel
        cases gk with
        | zero =>
          obtain rfl : j = 8 := by omega
          have hr2 : r = t := hr.out
          subst hr2
          go_wp2
          go_roundg g
          case measure => omega
          case rel => exact ⟨i + 1, by omega, by first | rfl | simp, by rw [HC0.out, HC.out, HT.out, tcells_set i (by omega)]⟩
        | succ h =>
          have hj8 : (j : Int) < 8 := by omega
          go_wp2
          go_roundg h
          case measure => omega
          case rel => exact ⟨j + 1, tstep r, by omega, rfl, by first | rfl | simp, ⟨hr.out⟩, rfl⟩
end Go.Proofs.Ytekakngojhnleaa.Tb
/- FrameSums: frame.Sum: its walk, and what it computes. -/
namespace Go.Proofs.Ytekakngojhnleaa.Fs
open Go.RowKit Go.Proofs.YtekakngojhnleaaW.PrintWords Go.Proofs.Ytekakngojhnleaa.Tb
set_option linter.unusedSimpArgs false
set_option linter.unusedVariables false

/-- One bit's step, on plain numbers. -/
def nstep (r : Nat) : Nat := r / 2 ^^^ (if r % 2 = 1 then 3988292384 else 0)
def niter : Nat → Nat → Nat
  | 0, r => r
  | k + 1, r => niter k (nstep r)
theorem nstep_lt (r : Nat) (h : r < 4294967296) : nstep r < 4294967296 := by
  unfold nstep
  refine Nat.xor_lt_two_pow (n := 32) (by omega) ?_
  split <;> omega
theorem niter_lt : ∀ (k r : Nat), r < 4294967296 → niter k r < 4294967296
  | 0, _, h => h
  | k + 1, r, h => niter_lt k _ (nstep_lt r h)
theorem tstep_eq (r : Nat) (h : r < 4294967296) : tstep (r : Int) = (nstep r : Int) := by
  unfold tstep nstep
  have h1 : bits .and .u32 (r : Int) 1 = ((r % 2 : Nat) : Int) := by
    have := u32_and_nat r 1 h (by omega)
    rw [Nat.and_one_is_mod] at this
    exact this
  rw [h1]
  have h2 : ((r : Int) / 2) = ((r / 2 : Nat) : Int) := by omega
  rw [h2]
  rcases Nat.mod_two_eq_zero_or_one r with e | e
  · rw [e, if_neg (by omega)]
    have h3 : (-(((0 : Nat)) : Int) % 4294967296) = ((0 : Nat) : Int) := by decide
    rw [h3, show (3988292384 : Int) = ((3988292384 : Nat) : Int) from rfl, u32_and_nat _ _ (by omega) (by omega), Nat.and_zero, u32_xor_nat _ _ (by omega) (by omega)]
  · rw [e, if_pos rfl]
    have h3 : (-(((1 : Nat)) : Int) % 4294967296) = ((4294967295 : Nat) : Int) := by decide
    rw [h3, show (3988292384 : Int) = ((3988292384 : Nat) : Int) from rfl, u32_and_nat _ _ (by omega) (by omega), u32_xor_nat _ _ (by omega) (by decide)]
    rfl
theorem titer_eq : ∀ (k r : Nat), r < 4294967296 → titer k (r : Int) = (niter k r : Int)
  | 0, _, _ => rfl
  | k + 1, r, h => by
    unfold titer niter
    rw [tstep_eq r h, titer_eq k _ (nstep_lt r h)]
theorem tnum_eq (q : Nat) (h : q < 256) : tnum 256 q = (niter 8 q : Int) := by
  unfold tnum
  rw [if_pos h, titer_eq 8 q (by omega)]
/-- One byte's step by the table. -/
def bstep (r : Nat) (b : Nat) : Nat := r / 256 ^^^ niter 8 ((r % 256) ^^^ b)
def crc : List Int → Nat → Nat
  | [], r => r
  | b :: l, r => crc l (bstep r b.toNat)
theorem bstep_lt (r b : Nat) (h : r < 4294967296) (hb : b < 256) : bstep r b < 4294967296 := by
  have h1 : (r % 256) ^^^ b < 2 ^ 8 := Nat.xor_lt_two_pow (by omega) hb
  exact Nat.xor_lt_two_pow (n := 32) (by omega) (niter_lt 8 _ (by omega))

theorem wrap64_small {x : Int} (h0 : 0 ≤ x) (h1 : x < 9223372036854775808) : wrap64 x = x := by
  unfold wrap64
  omega
theorem rd_drop (xs : List Int) (at_ : Nat) (h : at_ < xs.length) : xs.drop at_ = rd xs (at_ : Int) :: xs.drop (at_ + 1) := by
  rw [List.drop_eq_getElem_cons h]
  congr 1
  simp [rd, h]
theorem rd_mem (xs : List Int) (j : Nat) (h : j < xs.length) : rd xs (j : Int) ∈ xs := by
  have := List.getElem_mem h
  simp only [rd, Int.toNat_natCast]
  rw [List.getD_eq_getElem?_getD, List.getElem?_eq_getElem h]
  exact this

set_option maxRecDepth 100000 in
set_option maxHeartbeats 400000 in
/-- frame.Sum. -/
theorem sum_calls (A0 : Option Addr) (c0 : Nat) (l0 : List Int) (w : World) (hr0 : Kd.C (Kd.int .u8) w A0 l0.length l0) (hl : l0.length < 9223372036854775807) (hb : ∀ x ∈ l0, 0 ≤ x ∧ x < 256) :
    Calls Try.prog 16 #[.slice A0 l0.length c0] w fun e w' => e = .returned (.int .u32 ((4294967295 ^^^ crc l0 4294967295 : Nat) : Int)) ∧ Below w.heap.size w w' := by
  have HR := Aside0.mk hr0
  have HB := Aside0.mk hb
  have HL := Aside0.mk hl
  have hz := zero83.1
  rw [tcells_zero] at hz
  clear hr0 hb hl
  obtain ⟨C0, hC0⟩ : ∃ C, C = tcells 0 := ⟨_, rfl⟩
  obtain ⟨C, hC⟩ : ∃ C, C = tcells 256 := ⟨_, rfl⟩
  have HC := Aside0.mk hC
  have HC0 := Aside0.mk hC0
  rw [← hC0] at hz
  clear hC hC0
  go_enter Try.func16, Try.ntmps16
  go_wp2_with fail
  refine (table_calls w).mono ?_
  rintro e w1 ⟨rfl, hb1⟩
  have HB1 := Aside0.mk hb1
  clear hb1
  rw [← HC.out]
  have hg0 : (w1.alloc (.cells C0 83)).heap[w1.heap.size]? = some (.cells C0 83 (0, 0)) := heap_alloc_last w1 _
  have HG := Aside0.mk hg0
  clear hg0
  go_wp2_with (refine wpList_store_row rfl 83 (.tmp 3) (.tmp 7) rfl w1.heap.size C rfl rfl 83 C0 HG.out (by rw [HC.out, tcells_size]; exact zero83.2) (by rw [HC.out, HC0.out, tcells_size, tcells_size]) (by rw [HC.out]; exact tcells_one 256) ?_)
  rw [World.setRow_alloc_new]
  have HR1 := Aside0.mk (Kd.C_below HR.out (HB1.out.alloc HB1.out.size (.cells C 83)))
  have HW := Aside0.mk (HB1.out.alloc HB1.out.size (.cells C 83))
  clear HG hz
  go_loopg [4, 10] l0.length (fun g v4 v10 wx => ∃ (i r : Nat), i + g = l0.length ∧ v4 = .int .u32 (r : Int) ∧ v10 = .int .i64 (i : Int) ∧ Aside0 (r < 4294967296) ∧ Aside0 (crc (l0.drop i) r = crc l0 4294967295) ∧ wx = w1.alloc (.cells C 83))
  case atStart => exact ⟨0, 4294967295, by omega, rfl, rfl, ⟨by omega⟩, ⟨rfl⟩, rfl⟩
  case round =>
    obtain ⟨i, r, hig, rfl, rfl, hrl, hcr, rfl⟩ := hrel
    cases gk with
    | zero =>
      have hie : i = l0.length := by omega
      have hE : r = crc l0 4294967295 := by
        have := hcr.out
        rw [hie, List.drop_length] at this
        exact this
      have hcr2 := Aside0.mk hE
      clear hE hcr
      have hx : bits .xor .u32 IntKind.u32.max (r : Int) = ((4294967295 ^^^ r : Nat) : Int) := by
        rw [show IntKind.u32.max = ((4294967295 : Nat) : Int) from rfl, u32_xor_nat _ _ (by omega) hrl.out]
      have hsg : IntKind.u32.signed = false := rfl
      have hlt : ¬ (i : Int) < (l0.length : Int) := by omega
      clear hie
      go_wp2
      go_ret
      exact ⟨by rw [← hcr2.out]; rfl, HW.out⟩
    | succ g =>
      have hi : (i : Int) < (l0.length : Int) := by omega
      obtain ⟨ad, rfl, hcell⟩ := Kd.at_int HR1.out (i : Int) (by omega) (by omega)
      have hmem := rd_mem l0 i (by omega)
      have hb := HB.out _ hmem
      obtain ⟨b, hbe⟩ : ∃ b : Nat, rd l0 (i : Int) = (b : Int) := ⟨(rd l0 (i : Int)).toNat, by omega⟩
      have hdrop := rd_drop l0 i (by omega)
      rw [hbe] at hcell hb hdrop
      rw [Int.toNat_natCast] at hcell
      clear hbe hmem
      have hb256 : b < 256 := by omega
      obtain ⟨q, hq⟩ : ∃ q : Nat, q = (r % 256) ^^^ b := ⟨_, rfl⟩
      have hq256 : q < 256 := by rw [hq]; exact Nat.xor_lt_two_pow (n := 8) (by omega) hb256
      have hx1 : bits .xor .u8 ((r : Int) % 256) (b : Int) = (q : Int) := by
        rw [hq, ← u8_xor_nat _ _ (by omega) hb256]
        congr 1
      obtain ⟨v, hv⟩ : ∃ v : Nat, v = bstep r b := ⟨_, rfl⟩
      have hx2 : bits .xor .u32 ((r : Int) / 256) ((niter 8 q : Nat) : Int) = (v : Int) := by
        rw [hv]
        unfold bstep
        rw [← hq, ← u32_xor_nat _ _ (by have := hrl.out; omega) (niter_lt 8 q (by omega))]
        congr 1
      obtain ⟨t, ht⟩ : ∃ t : Nat, t = niter 8 q := ⟨_, rfl⟩
      rw [← ht] at hx2
      have htc : C[q]? = some (.int .u32 (t : Int)) := by rw [HC.out, tcells_get 256 q hq256, tnum_eq q hq256, ht]
      have hv2 := Aside0.mk (show v < 4294967296 by rw [hv]; exact bstep_lt r b hrl.out hb256)
      have hnx := Aside0.mk (show crc (l0.drop (i + 1)) v = crc l0 4294967295 by
        rw [← hcr.out, hdrop]
        show crc (l0.drop (i + 1)) v = crc (l0.drop (i + 1)) (bstep r ((b : Int).toNat))
        rw [hv, Int.toNat_natCast])
      have hi2 := Aside0.mk (show (i : Int) < 9223372036854775806 by have := HL.out; omega)
      have hq3 : (q : Int) < 256 := by omega
      clear hv ht hq hcr hdrop hb hb256 hq256
      go_wp2
      go_roundg g
      case measure => omega
      case rel => exact ⟨i + 1, v, by omega, rfl, by rw [wrap64_small (by omega) (by have := hi2.out; omega)]; rfl, hv2, hnx, rfl⟩
/-- The same, the length by another name. -/
theorem sum_calls' (A0 : Option Addr) (n c0 : Nat) (l0 : List Int) (w : World) (hr0 : Kd.C (Kd.int .u8) w A0 n l0) (hl : l0.length < 9223372036854775807) (hb : ∀ x ∈ l0, 0 ≤ x ∧ x < 256) :
    Calls Try.prog 16 #[.slice A0 n c0] w fun e w' => e = .returned (.int .u32 ((4294967295 ^^^ crc l0 4294967295 : Nat) : Int)) ∧ Below w.heap.size w w' := by
  obtain rfl : l0.length = n := Kd.C_len hr0
  exact sum_calls A0 c0 l0 w hr0 hl hb
end Go.Proofs.Ytekakngojhnleaa.Fs
/- FrameSums, FrameAll: the plain law: the table's step is eight bits' steps; bits' steps are linear; what the reference sums. -/
namespace Go.Proofs.Ytekakngojhnleaa.Fp
open Go.RowKit Go.Proofs.YtekakngojhnleaaW.PrintWords Go.Proofs.Ytekakngojhnleaa.Fs Go.Proofs.Ytekakngojhnleaa.Fns
set_option linter.unusedSimpArgs false
set_option linter.unusedVariables false

theorem nstep_xor (a b : Nat) : nstep (a ^^^ b) = nstep a ^^^ nstep b := by
  unfold nstep
  rw [Nat.xor_div_two]
  have h := @Nat.xor_mod_two_eq_one a b
  by_cases ha : a % 2 = 1 <;> by_cases hb : b % 2 = 1
  · rw [if_neg (by rw [h]; simp [ha, hb]), if_pos ha, if_pos hb]
    rw [Nat.xor_zero]
    apply Nat.eq_of_testBit_eq
    intro i
    simp only [Nat.testBit_xor]
    cases (a / 2).testBit i <;> cases (b / 2).testBit i <;> cases (3988292384 : Nat).testBit i <;> rfl
  · rw [if_pos (by rw [h]; simp [ha, hb]), if_pos ha, if_neg hb, Nat.xor_zero]
    apply Nat.eq_of_testBit_eq
    intro i
    simp only [Nat.testBit_xor]
    cases (a / 2).testBit i <;> cases (b / 2).testBit i <;> cases (3988292384 : Nat).testBit i <;> rfl
  · rw [if_pos (by rw [h]; simp [ha, hb]), if_neg ha, if_pos hb, Nat.xor_zero, Nat.xor_assoc]
  · rw [if_neg (by rw [h]; simp [ha, hb]), if_neg ha, if_neg hb]
    simp only [Nat.xor_zero]
theorem niter_xor : ∀ (k a b : Nat), niter k (a ^^^ b) = niter k a ^^^ niter k b
  | 0, _, _ => rfl
  | k + 1, a, b => by
    unfold niter
    rw [nstep_xor, niter_xor k]
theorem nstep_even (x : Nat) : nstep (2 * x) = x := by
  unfold nstep
  rw [if_neg (by omega), Nat.xor_zero]
  omega
theorem niter_8 (h : Nat) : niter 8 (256 * h) = h := by
  show nstep (nstep (nstep (nstep (nstep (nstep (nstep (nstep (256 * h)))))))) = h
  rw [show 256 * h = 2 * (2 * (2 * (2 * (2 * (2 * (2 * (2 * h))))))) by omega]
  simp only [nstep_even]
/-- High and low apart. -/
theorem xor_low (h l : Nat) (hl : l < 256) : (256 * h) ^^^ l = 256 * h + l := by
  have h1 : ((256 * h) ^^^ l) % 2 ^ 8 = l := by
    rw [Nat.xor_mod_two_pow, show (256 * h) % 2 ^ 8 = 0 by omega, Nat.zero_xor]
    omega
  have h2 : ((256 * h) ^^^ l) >>> 8 = h := by
    rw [Nat.shiftRight_xor_distrib, Nat.shiftRight_eq_div_pow, Nat.shiftRight_eq_div_pow, show (256 * h) / 2 ^ 8 = h by omega, show l / 2 ^ 8 = 0 by omega, Nat.xor_zero]
  rw [Nat.shiftRight_eq_div_pow] at h2
  omega
theorem bstep_eq (r b : Nat) (hb : b < 256) : bstep r b = niter 8 (r ^^^ b) := by
  have h1 : r ^^^ b = (256 * (r / 256)) ^^^ ((r % 256) ^^^ b) := by
    rw [← Nat.xor_assoc, xor_low _ _ (by omega)]
    congr 1
    omega
  rw [h1, niter_xor, niter_8]
  rfl
/-- Two bytes at once. -/
theorem niter_byte (x b : Nat) : niter 8 x ^^^ b = niter 8 (x ^^^ 256 * b) := by
  rw [niter_xor, niter_8]

/-- The reference's inner loop. -/
theorem ref_inner (l : List Int) (x4 : Int) (k : Nat) : ∀ (m r : Nat), m ≤ 8 → r < 4294967296 →
    windbreakref10_Sum.l1 (k + 1 + m) l (r : Int) x4 (8 - m : Int) = windbreakref10_Sum.l0 k l ((niter m r : Nat) : Int) (wrap64 (x4 + 1))
  | 0, r, _, _ => by
    simp only [windbreakref10_Sum.l1]
    rw [if_neg (by omega)]
    rfl
  | m + 1, r, hm, hr => by
    rw [show k + 1 + (m + 1) = (k + 1 + m) + 1 by omega]
    simp only [windbreakref10_Sum.l1]
    rw [if_pos (by omega)]
    have hw : wrap64 ((8 - ((m + 1 : Nat) : Int)) + 1) = (8 - (m : Int)) := by
      rw [wrap64_small (by omega) (by omega)]
      omega
    have hq : (Int.tdiv (r : Int) 2) % 4294967296 = ((r / 2 : Nat) : Int) := by
      rw [Int.tdiv_eq_ediv_of_nonneg (by omega)]
      omega
    have ht : Int.tmod (r : Int) 2 = ((r % 2 : Nat) : Int) := by
      rw [Int.tmod_eq_emod_of_nonneg (by omega)]
      omega
    rw [hw, hq, ht]
    unfold niter
    by_cases e : r % 2 = 1
    · rw [if_pos (by omega)]
      have hs : bits .xor .u32 ((r / 2 : Nat) : Int) 3988292384 = ((nstep r : Nat) : Int) := by
        rw [show (3988292384 : Int) = ((3988292384 : Nat) : Int) from rfl, u32_xor_nat _ _ (by omega) (by omega)]
        unfold nstep
        rw [if_pos e]
      rw [hs]
      exact ref_inner l x4 k m (nstep r) (by omega) (nstep_lt r hr)
    · rw [if_neg (by omega)]
      have hs : r / 2 = nstep r := by
        unfold nstep
        rw [if_neg e, Nat.xor_zero]
      rw [hs]
      exact ref_inner l x4 k m (nstep r) (by omega) (nstep_lt r hr)
theorem ref_outer (l : List Int) (hl : l.length < 140737488351232) (hb : ∀ x ∈ l, 0 ≤ x ∧ x < 256) : ∀ (d i r : Nat), i + d = l.length → r < 4294967296 →
    windbreakref10_Sum.l0 (1 + 10 * d) l (r : Int) (i : Int) = some (((4294967295 ^^^ crc (l.drop i) r : Nat)) : Int)
  | 0, i, r, hi, hr => by
    simp only [Nat.mul_zero, Nat.add_zero, windbreakref10_Sum.l0]
    rw [if_neg (by omega), show i = l.length by omega, List.drop_length]
    unfold crc
    rw [show (4294967295 : Int) = ((4294967295 : Nat) : Int) from rfl, u32_xor_nat _ _ hr (by omega), Nat.xor_comm]
  | d + 1, i, r, hi, hr => by
    have hil : i < l.length := by omega
    rw [show 1 + 10 * (d + 1) = ((1 + 10 * d) + 1 + 8) + 1 by omega]
    simp only [windbreakref10_Sum.l0]
    rw [if_pos (by omega), if_pos (by omega)]
    obtain ⟨h0, h1⟩ := hb _ (rd_mem l i hil)
    obtain ⟨b, hbe⟩ : ∃ b : Nat, rd l (i : Int) = (b : Int) := ⟨(rd l (i : Int)).toNat, by omega⟩
    rw [rd_drop l i hil, hbe]
    rw [hbe] at h0 h1
    have hx : bits .xor .u32 (r : Int) ((b : Int) % 4294967296) = ((r ^^^ b : Nat) : Int) := by
      rw [show (b : Int) % 4294967296 = (b : Int) by omega, u32_xor_nat _ _ hr (by omega)]
    rw [hx]
    have hlt : r ^^^ b < 4294967296 := Nat.xor_lt_two_pow (n := 32) hr (by omega)
    have := ref_inner l (i : Int) (1 + 10 * d) 8 (r ^^^ b) (by omega) hlt
    rw [show (8 - ((8 : Nat) : Int)) = 0 from rfl] at this
    rw [this, wrap64_small (by omega) (by omega), show (i : Int) + 1 = ((i + 1 : Nat) : Int) by omega]
    rw [ref_outer l hl hb d (i + 1) _ (by omega) (niter_lt 8 _ hlt)]
    show _ = some (((4294967295 ^^^ crc (l.drop (i + 1)) (bstep r ((b : Int).toNat)) : Nat)) : Int)
    rw [Int.toNat_natCast, bstep_eq r b (by omega)]
theorem ref_sum (l : List Int) (hl : l.length < 140737488351232) (hb : ∀ x ∈ l, 0 ≤ x ∧ x < 256) : windbreakref10_Sum.f (1 + 10 * l.length) l = some (((4294967295 ^^^ crc l 4294967295 : Nat)) : Int) := by
  have := ref_outer l hl hb l.length 0 4294967295 (by omega) (by omega)
  exact this

theorem crc_append : ∀ (a b : List Int) (r : Nat), crc (a ++ b) r = crc b (crc a r)
  | [], _, _ => rfl
  | x :: a, b, r => by
    show crc (a ++ b) (bstep r x.toNat) = crc b (crc a (bstep r x.toNat))
    exact crc_append a b _
theorem crc_lt (l : List Int) (hb : ∀ x ∈ l, 0 ≤ x ∧ x < 256) : ∀ (r : Nat), r < 4294967296 → crc l r < 4294967296 := by
  induction l with
  | nil => exact fun r h => h
  | cons x l ih =>
    intro r h
    have := hb x List.mem_cons_self
    exact ih (fun y hy => hb y (List.mem_cons_of_mem _ hy)) _ (bstep_lt r _ h (by omega))
theorem mul256_xor (a b : Nat) : 256 * (a ^^^ b) = 256 * a ^^^ 256 * b := by
  apply Nat.eq_of_testBit_eq
  intro i
  rw [Nat.testBit_xor, show (256 : Nat) = 2 ^ 8 from rfl, Nat.testBit_two_pow_mul, Nat.testBit_two_pow_mul, Nat.testBit_two_pow_mul, Nat.testBit_xor]
  cases decide (i ≥ 8) <;> simp
/-- The four bytes of a number behind a state. -/
theorem crc_four (r b0 b1 b2 b3 : Nat) (h0 : b0 < 256) (h1 : b1 < 256) (h2 : b2 < 256) (h3 : b3 < 256) :
    crc [(b0 : Int), b1, b2, b3] r = niter 8 (niter 8 (niter 8 (niter 8 (r ^^^ (b0 + 256 * b1 + 65536 * b2 + 16777216 * b3))))) := by
  show bstep (bstep (bstep (bstep r b0) b1) b2) b3 = _
  rw [bstep_eq _ b0 h0, bstep_eq _ b1 h1, bstep_eq _ b2 h2, bstep_eq _ b3 h3]
  rw [niter_byte _ b3, niter_byte _ b2, niter_byte _ (256 * b3), niter_byte (r ^^^ b0) b1, niter_byte (r ^^^ b0 ^^^ 256 * b1) (256 * b2), niter_byte _ (256 * (256 * b3))]
  have e : b0 + 256 * b1 + 65536 * b2 + 16777216 * b3 = b0 ^^^ 256 * b1 ^^^ 256 * (256 * b2) ^^^ 256 * (256 * (256 * b3)) := by
    have e1 : b2 + 256 * b3 = (256 * b3) ^^^ b2 := by rw [xor_low _ _ h2]; omega
    have e2 : b1 + 256 * (b2 + 256 * b3) = (256 * (b2 + 256 * b3)) ^^^ b1 := by rw [xor_low _ _ h1]; omega
    have e3 : b0 + 256 * b1 + 65536 * b2 + 16777216 * b3 = (256 * (b1 + 256 * (b2 + 256 * b3))) ^^^ b0 := by rw [xor_low _ _ h0]; omega
    rw [e3, e2, e1, mul256_xor, mul256_xor, mul256_xor, Nat.xor_comm _ b0]
    rw [Nat.xor_comm (256 * (256 * (256 * b3))) _, Nat.xor_comm _ (256 * b1)]
    simp only [Nat.xor_assoc]
  rw [e]
  simp only [Nat.xor_assoc]
/-- Four bytes of a state's own complement behind it: one and the same always. -/
theorem crc_own (r b0 b1 b2 b3 : Nat) (h0 : b0 < 256) (h1 : b1 < 256) (h2 : b2 < 256) (h3 : b3 < 256) (h : b0 + 256 * b1 + 65536 * b2 + 16777216 * b3 = 4294967295 ^^^ r) :
    4294967295 ^^^ crc [(b0 : Int), b1, b2, b3] r = 558161692 := by
  rw [crc_four r b0 b1 b2 b3 h0 h1 h2 h3, h, Nat.xor_comm 4294967295 r, ← Nat.xor_assoc, Nat.xor_self, Nat.zero_xor]
  decide +kernel
theorem crc_nine : 4294967295 ^^^ crc [49, 50, 51, 52, 53, 54, 55, 56, 57] 4294967295 = 3421780262 := by decide +kernel
end Go.Proofs.Ytekakngojhnleaa.Fp
/- Frames: frame.right: may a frame be? -/
namespace Go.Proofs.Ytekakngojhnleaa.Rt
set_option linter.unusedSimpArgs false
set_option linter.unusedVariables false
open Go.RowKit Go.Proofs.Ytekakngojhnleaa.Fns Go.Proofs.YtekakngojhnleaaW.PrintWords Go.Proofs.YtekakngojhnleaaW.PrintLast Go.Proofs.YtekakngojhnleaaW.PrintMore

def within (n : Int) : Bool := decide (0 ≤ n ∧ n ≤ 1073741824)
theorem within_calls (n : Int) (w : World) : Calls Try.prog 87 #[.int .i64 n] w fun e w' => e = .returned (.bool (within n)) ∧ w = w' := by
  by_cases h0 : 0 ≤ n
  · by_cases h1 : n ≤ 1073741824
    · have hw : within n = true := by simp [within, h0, h1]
      have H := Aside0.mk hw
      clear hw
      have h0' : decide (n ≥ 0) = true := by simp [h0]
      go_enter Try.func87, Try.ntmps87
      go_wp2
      go_ret
      exact ⟨by rw [H.out]; rfl, rfl⟩
    · have hw : within n = false := by simp [within, h1]
      have H := Aside0.mk hw
      clear hw
      go_enter Try.func87, Try.ntmps87
      go_wp2
      go_ret
      exact ⟨by rw [H.out]; rfl, rfl⟩
  · have hw : within n = false := by simp [within, h0]
    have H := Aside0.mk hw
    clear hw
    go_enter Try.func87, Try.ntmps87
    go_wp2
    go_ret
    exact ⟨by rw [H.out]; rfl, rfl⟩

def frameV (d : Bool) (s a : Int) (A : Option Addr) (n c : Nat) : Value := .agg #[.bool d, .int .i64 s, .int .i64 a, .slice A n c]
theorem within_is (n : Int) (b : Bool) (w : World) (h : within n = b) : Calls Try.prog 87 #[.int .i64 n] w fun e w' => e = .returned (.bool b) ∧ w = w' := by
  subst h
  exact within_calls n w
def rightB (d : Bool) (s a : Int) (n : Nat) : Bool := within s && (within a && (decide ((n : Int) ≤ 1048576) && (d || ((s == 0) && ((n : Int) == 0)))))
set_option maxRecDepth 100000 in
set_option maxHeartbeats 1000000 in
theorem right_is (d : Bool) (s a : Int) (A : Option Addr) (n c : Nat) (w : World) (r : Bool) (h : rightB d s a n = r) : Calls Try.prog 65 #[.agg #[.bool d, .int .i64 s, .int .i64 a, .slice A n c]] w fun e w' => e = .returned (.bool r) ∧ w' = w.alloc (.cells #[.bool d, .int .i64 s, .int .i64 a, .slice A n c] 53) := by
  obtain ⟨b1, h1⟩ : ∃ b, within s = b := ⟨_, rfl⟩
  obtain ⟨b2, h2⟩ : ∃ b, within a = b := ⟨_, rfl⟩
  obtain ⟨b3, h3⟩ : ∃ b, decide ((n : Int) ≤ 1048576) = b := ⟨_, rfl⟩
  obtain ⟨b4, h4⟩ : ∃ b, (s == 0) = b := ⟨_, rfl⟩
  obtain ⟨b5, h5⟩ : ∃ b, ((n : Int) == 0) = b := ⟨_, rfl⟩
  unfold rightB at h
  rw [h1, h2, h3, h4, h5] at h
  have H1 := Aside0.mk h1
  have H2 := Aside0.mk h2
  clear h1 h2
  cases b1
  · obtain rfl := h
    clear h3 h4 h5
    go_enter Try.func65, Try.ntmps65
    go_wp2_with (go_at_call 87; refine (within_is s false _ H1.out).mono ?_; rintro e w1 ⟨rfl, rfl⟩)
    go_ret
    exact ⟨rfl, rfl⟩
  · cases b2
    · obtain rfl := h
      clear h3 h4 h5
      go_enter Try.func65, Try.ntmps65
      go_wp2_with (go_at_call 87; first | (with_reducible refine (within_is s true _ H1.out).mono ?_; rintro e w1 ⟨rfl, rfl⟩) | (refine (within_is a false _ H2.out).mono ?_; rintro e w1 ⟨rfl, rfl⟩))
      go_ret
      exact ⟨rfl, rfl⟩
    · cases b3
      · obtain rfl := h
        clear h4 h5
        go_enter Try.func65, Try.ntmps65
        go_wp2_with (go_at_call 87; first | (with_reducible refine (within_is s true _ H1.out).mono ?_; rintro e w1 ⟨rfl, rfl⟩) | (refine (within_is a true _ H2.out).mono ?_; rintro e w1 ⟨rfl, rfl⟩))
        go_ret
        exact ⟨rfl, rfl⟩
      · cases d
        · cases b4
          · obtain rfl := h
            clear h5
            go_enter Try.func65, Try.ntmps65
            go_wp2_with (go_at_call 87; first | (with_reducible refine (within_is s true _ H1.out).mono ?_; rintro e w1 ⟨rfl, rfl⟩) | (refine (within_is a true _ H2.out).mono ?_; rintro e w1 ⟨rfl, rfl⟩))
            go_ret
            exact ⟨rfl, rfl⟩
          · cases b5
            · obtain rfl := h
              go_enter Try.func65, Try.ntmps65
              go_wp2_with (go_at_call 87; first | (with_reducible refine (within_is s true _ H1.out).mono ?_; rintro e w1 ⟨rfl, rfl⟩) | (refine (within_is a true _ H2.out).mono ?_; rintro e w1 ⟨rfl, rfl⟩))
              go_ret
              exact ⟨rfl, rfl⟩
            · obtain rfl := h
              go_enter Try.func65, Try.ntmps65
              go_wp2_with (go_at_call 87; first | (with_reducible refine (within_is s true _ H1.out).mono ?_; rintro e w1 ⟨rfl, rfl⟩) | (refine (within_is a true _ H2.out).mono ?_; rintro e w1 ⟨rfl, rfl⟩))
              go_ret
              exact ⟨rfl, rfl⟩
        · obtain rfl := h
          clear h4 h5
          go_enter Try.func65, Try.ntmps65
          go_wp2_with (go_at_call 87; first | (with_reducible refine (within_is s true _ H1.out).mono ?_; rintro e w1 ⟨rfl, rfl⟩) | (refine (within_is a true _ H2.out).mono ?_; rintro e w1 ⟨rfl, rfl⟩))
          go_ret
          exact ⟨rfl, rfl⟩
end Go.Proofs.Ytekakngojhnleaa.Rt
