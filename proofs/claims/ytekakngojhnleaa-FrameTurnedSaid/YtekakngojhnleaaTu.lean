/- FrameTurned: the plain law: bytes of which one was turned have another sum, and no frame is read of them. -/
import Derived.Test.YtekakngojhnleaaDw
namespace Go.Proofs.Ytekakngojhnleaa.Tu
set_option linter.unusedSimpArgs false
set_option linter.unusedVariables false
open Go.RowKit Go.Proofs.Ytekakngojhnleaa.Fns Go.Proofs.Ytekakngojhnleaa.Rd Go.Proofs.Ytekakngojhnleaa.Rt Go.Proofs.Ytekakngojhnleaa.Fs Go.Proofs.Ytekakngojhnleaa.Fp Go.Proofs.Ytekakngojhnleaa.En Go.Proofs.Ytekakngojhnleaa.Of Go.Proofs.Ytekakngojhnleaa.Ew Go.Proofs.Ytekakngojhnleaa.De Go.Proofs.Ytekakngojhnleaa.Dw Go.Proofs.YtekakngojhnleaaW.PrintWords Go.Proofs.YtekakngojhnleaaW.PrintLast Go.Proofs.YtekakngojhnleaaW.PrintMore

theorem xor_zero_eq {a b : Nat} (h : a ^^^ b = 0) : a = b := by
  have : (a ^^^ b) ^^^ b = b := by rw [h, Nat.zero_xor]
  rw [Nat.xor_assoc, Nat.xor_self, Nat.xor_zero] at this
  exact this
theorem nstep_zero (x : Nat) (hx : x < 4294967296) (h : nstep x = 0) : x = 0 := by
  unfold nstep at h
  have := xor_zero_eq h
  split at this <;> omega
theorem niter_zero : ∀ (k x : Nat), x < 4294967296 → niter k x = 0 → x = 0
  | 0, _, _, h => h
  | k + 1, x, hx, h => nstep_zero x hx (niter_zero k _ (nstep_lt x hx) h)
theorem niter_inj (k a b : Nat) (ha : a < 4294967296) (hb : b < 4294967296) (h : niter k a = niter k b) : a = b := by
  refine xor_zero_eq (niter_zero k _ (Nat.xor_lt_two_pow (n := 32) ha hb) ?_)
  rw [niter_xor, h, Nat.xor_self]
theorem xor_right_inj {a b c : Nat} (h : a ^^^ c = b ^^^ c) : a = b := by
  have : (a ^^^ c) ^^^ c = (b ^^^ c) ^^^ c := by rw [h]
  rw [Nat.xor_assoc, Nat.xor_assoc, Nat.xor_self, Nat.xor_zero, Nat.xor_zero] at this
  exact this
theorem xor_left_inj {a b c : Nat} (h : c ^^^ a = c ^^^ b) : a = b := by
  rw [Nat.xor_comm c a, Nat.xor_comm c b] at h
  exact xor_right_inj h
theorem crc_inj : ∀ (l : List Int), (∀ x ∈ l, 0 ≤ x ∧ x < 256) → ∀ (r s : Nat), r < 4294967296 → s < 4294967296 → crc l r = crc l s → r = s
  | [], _, _, _, _, _, h => h
  | x :: l, hb, r, s, hr, hs, h => by
    have hx := hb x List.mem_cons_self
    have h2 := crc_inj l (fun y hy => hb y (List.mem_cons_of_mem _ hy)) _ _ (bstep_lt r x.toNat hr (by omega)) (bstep_lt s x.toNat hs (by omega)) h
    rw [bstep_eq r _ (by omega), bstep_eq s _ (by omega)] at h2
    exact xor_right_inj (niter_inj 8 _ _ (Nat.xor_lt_two_pow (n := 32) hr (by omega)) (Nat.xor_lt_two_pow (n := 32) hs (by omega)) h2)
theorem crc_set : ∀ (l : List Int) (i : Nat) (v : Int), (∀ x ∈ l, 0 ≤ x ∧ x < 256) → 0 ≤ v → v < 256 → i < l.length → ∀ r, r < 4294967296 → crc (l.set i v) r = crc l r → v = rd l (i : Int)
  | [], _, _, _, _, _, h, _, _, _ => absurd h (by simp)
  | x :: l, 0, v, hb, h0, h1, _, r, hr, h => by
    have hx := hb x List.mem_cons_self
    have h2 := crc_inj l (fun y hy => hb y (List.mem_cons_of_mem _ hy)) _ _ (bstep_lt r v.toNat hr (by omega)) (bstep_lt r x.toNat hr (by omega)) h
    rw [bstep_eq r _ (by omega), bstep_eq r _ (by omega)] at h2
    have h3 := xor_left_inj (niter_inj 8 _ _ (Nat.xor_lt_two_pow (n := 32) hr (by omega)) (Nat.xor_lt_two_pow (n := 32) hr (by omega)) h2)
    show v = x
    omega
  | x :: l, i + 1, v, hb, h0, h1, hi, r, hr, h => by
    have hx := hb x List.mem_cons_self
    have := crc_set l i v (fun y hy => hb y (List.mem_cons_of_mem _ hy)) h0 h1 (by simpa using hi) _ (bstep_lt r x.toNat hr (by omega)) h
    rw [this]
    rfl
theorem sumN_set (l : List Int) (i : Nat) (v : Int) (hb : ∀ x ∈ l, 0 ≤ x ∧ x < 256) (h0 : 0 ≤ v) (h1 : v < 256) (hi : i < l.length) (hv : v ≠ rd l (i : Int)) : sumN (l.set i v) ≠ sumN l := by
  intro h
  exact hv (crc_set l i v hb h0 h1 hi _ (by omega) (xor_left_inj h))
theorem dec_turned (d : Bool) (s a : Nat) (l : List Int) (hs : s ≤ 1073741824) (ha : a ≤ 1073741824) (hl : l.length ≤ 1048576) (hb : ∀ x ∈ l, 0 ≤ x ∧ x < 256) (i : Nat) (v : Int) (hi : i < (frameL d s a l).length) (h0 : 0 ≤ v) (h1 : v < 256) (hv : v ≠ rd (frameL d s a l) (i : Int)) :
    decA ((frameL d s a l).set i v) = ((false, 0, 0, []), 14) := by
  have hb4 : (be4 (sumN (headL d s a l))).length = 4 := rfl
  have hhb := head_bytes d s a l hs ha hl hb
  have hfb := frameL_bytes d s a l hs ha hl hb
  have hsum := sumN_lt (headL d s a l) hhb
  unfold decA
  by_cases hc : ((frameL d s a l).set i v).length < 5 ∨ 1 < rd ((frameL d s a l).set i v) 0
  · rw [if_pos hc]
  · rw [if_neg hc]
    have hlen : ((frameL d s a l).set i v).length - 4 = (headL d s a l).length := by rw [List.length_set]; unfold frameL; rw [List.length_append, hb4]; omega
    rw [hlen]
    unfold decF
    rw [if_neg]
    rintro ⟨_, _, _, _, hsm, _⟩
    unfold frameL at hsm hi hv
    by_cases hlt : i < (headL d s a l).length
    · rw [List.set_append_left _ _ hlt, List.drop_left' (by simp), List.take_left' (by simp)] at hsm
      rw [(be4_of _ hb4 (fun x hx => hfb x (by unfold frameL; exact List.mem_append_right _ hx)) _ hsum).2 rfl] at hsm
      refine sumN_set _ i v hhb h0 h1 hlt ?_ hsm.symm
      intro h
      apply hv
      rw [h]
      unfold rd
      rw [Int.toNat_natCast, List.getD_eq_getElem?_getD, List.getD_eq_getElem?_getD, List.getElem?_append_left hlt]
    · have hge : (headL d s a l).length ≤ i := by omega
      rw [List.set_append_right _ _ hge, List.drop_left, List.take_left] at hsm
      rw [List.length_append, hb4] at hi
      have hq : ((be4 (sumN (headL d s a l))).set (i - (headL d s a l).length) v).length = 4 := by rw [List.length_set, hb4]
      have h2 := (be4_of _ hq (fun x hx => by
        rcases List.mem_or_eq_of_mem_set hx with h | h
        · exact hfb x (by unfold frameL; exact List.mem_append_right _ h)
        · subst h; exact ⟨h0, h1⟩) _ hsum).1 hsm
      apply hv
      have h3 : (be4 (sumN (headL d s a l))).getD (i - (headL d s a l).length) 0 = v := by
        rw [h2]
        rw [List.getD_eq_getElem?_getD, List.getElem?_set_self (by rw [hb4]; omega)]
        rfl
      rw [← h3]
      unfold rd
      rw [Int.toNat_natCast, List.getD_eq_getElem?_getD, List.getD_eq_getElem?_getD, List.getElem?_append_right hge]
end Go.Proofs.Ytekakngojhnleaa.Tu
