/- FrameDecodes: the plain law: what the program's Decode tells is what the document's does. -/
import Derived.Test.YtekakngojhnleaaRde
import Derived.Test.YtekakngojhnleaaNx2
namespace Go.Proofs.Ytekakngojhnleaa.De
set_option linter.unusedSimpArgs false
set_option linter.unusedVariables false
open Go.RowKit Go.Proofs.Ytekakngojhnleaa.Fns Go.Proofs.Ytekakngojhnleaa.Rf Go.Proofs.Ytekakngojhnleaa.Rd Go.Proofs.Ytekakngojhnleaa.Rt Go.Proofs.Ytekakngojhnleaa.Fs Go.Proofs.Ytekakngojhnleaa.Fp Go.Proofs.Ytekakngojhnleaa.En Go.Proofs.Ytekakngojhnleaa.Of Go.Proofs.Ytekakngojhnleaa.Ew Go.Proofs.YtekakngojhnleaaW.PrintWords Go.Proofs.YtekakngojhnleaaW.PrintLast Go.Proofs.YtekakngojhnleaaW.PrintMore

theorem nx_again (xs : List Int) (hb : ∀ c ∈ xs, 0 ≤ c ∧ c < 256) {v : Int} {m : Nat} (h : nx 0 0 xs = (v, m)) (hm : m ≠ 0) : ∃ s : Nat, v = (s : Int) ∧ enc 9 s = xs.take m := by
  have e : nx 0 ((0 : Nat) : Int) xs = sp 0 ((0 : Nat) : Int) xs := nx_sp xs hb 0 0 (by omega) (by simp)
  have h' : sp 0 ((0 : Nat) : Int) xs = (v, m) := by rw [← e]; exact h
  obtain ⟨x, hv, _, _, henc⟩ := sp_again xs hb 0 0 v m (by omega) h' hm
  refine ⟨x, by rw [hv]; simp, ?_⟩
  have := henc 9 (by omega)
  simpa using this
theorem rNum_again (most : Int) (xs : List Int) (hb : ∀ c ∈ xs, 0 ≤ c ∧ c < 256) {x : Int} {ys : List Int} (h : rNum most xs = (x, 0, ys)) : ∃ s : Nat, x = (s : Int) ∧ xs = enc 9 s ++ ys := by
  obtain ⟨v, m, hx⟩ : ∃ n m, nx 0 0 xs = (n, m) := ⟨_, _, rfl⟩
  unfold rNum at h
  rw [hx] at h
  simp only at h
  split at h
  · injection h with h1 h2
    injection h2 with h2 h3
    exact absurd h2 (by decide)
  · rename_i hc
    injection h with h1 h2
    injection h2 with h2 h3
    subst h1 h3
    obtain ⟨s, hs, he⟩ := nx_again xs hb hx (by omega)
    exact ⟨s, hs, by rw [he, List.take_append_drop]⟩
theorem rByt_again (most : Int) (xs : List Int) (hb : ∀ c ∈ xs, 0 ≤ c ∧ c < 256) {x : List Int} {ys : List Int} (h : rByt most xs = (x, 0, ys)) : xs = enc 9 x.length ++ (x ++ ys) := by
  obtain ⟨v, m, hx⟩ : ∃ n m, nx 0 0 xs = (n, m) := ⟨_, _, rfl⟩
  unfold rByt at h
  rw [hx] at h
  simp only at h
  split at h
  · injection h with h1 h2
    injection h2 with h2 h3
    exact absurd h2 (by decide)
  · rename_i hc
    injection h with h1 h2
    injection h2 with h2 h3
    obtain ⟨s, hs, he⟩ := nx_again xs hb hx (by omega)
    subst hs
    rw [Int.toNat_natCast] at h1 h3
    have hl : x.length = s := by rw [← h1]; simp; omega
    rw [hl, he, ← h1, ← h3, ← List.drop_drop, List.take_append_drop, List.take_append_drop]
theorem be4_of (q : List Int) (hq : q.length = 4) (hb : ∀ x ∈ q, 0 ≤ x ∧ x < 256) (S : Nat) (hS : S < 4294967296) : beN q 0 = S ↔ be4 S = q := by
  match q, hq, hb with
  | [a, b, c, d], _, hb =>
    have ha := hb a (by simp)
    have hb' := hb b (by simp)
    have hc := hb c (by simp)
    have hd := hb d (by simp)
    have e : beN [a, b, c, d] 0 = (((0 * 256 % 4294967296 + a.toNat) * 256 % 4294967296 + b.toNat) * 256 % 4294967296 + c.toNat) * 256 % 4294967296 + d.toNat := rfl
    rw [e]
    unfold be4
    simp only [List.cons.injEq, and_true]
    obtain ⟨A, rfl⟩ := Int.eq_ofNat_of_zero_le ha.1
    obtain ⟨B, rfl⟩ := Int.eq_ofNat_of_zero_le hb'.1
    obtain ⟨C, rfl⟩ := Int.eq_ofNat_of_zero_le hc.1
    obtain ⟨D, rfl⟩ := Int.eq_ofNat_of_zero_le hd.1
    simp only [Int.toNat_natCast, Int.natCast_inj]
    have e2 : (((0 * 256 % 4294967296 + A) * 256 % 4294967296 + B) * 256 % 4294967296 + C) * 256 % 4294967296 + D = 16777216 * A + 65536 * B + 256 * C + D := by omega
    rw [e2]
    constructor
    · intro h
      subst h
      refine ⟨by omega, by omega, by omega, by omega⟩
    · rintro ⟨h1, h2, h3, h4⟩
      omega

theorem dec_ref (n : Nat) (l : List Int) (hn : l.length = n + 4) (h : 1 ≤ n) (hb : ∀ x ∈ l, 0 ≤ x ∧ x < 256) (h2 : ¬ 1 < rd l 0) : decF n l = refF n l := by
  obtain ⟨sq, e1, X1, hp1⟩ : ∃ x e ys, rNum 1073741824 ((l.take n).drop 1) = (x, e, ys) := ⟨_, _, _, rfl⟩
  obtain ⟨ak, e2, X2, hp2⟩ : ∃ x e ys, rNum 1073741824 X1 = (x, e, ys) := ⟨_, _, _, rfl⟩
  obtain ⟨bd, e3, X3, hp3⟩ : ∃ x e ys, rByt 1048576 X2 = (x, e, ys) := ⟨_, _, _, rfl⟩
  unfold decF refF
  simp only [hp1, hp2, hp3]
  by_cases c1 : e1 = 0
  · subst c1
    by_cases c2 : e2 = 0
    · subst c2
      by_cases c3 : e3 = 0
      · subst c3
        by_cases c4 : X3.length = 0
        · have hbt : ∀ x ∈ l.take n, 0 ≤ x ∧ x < 256 := fun x hx => hb x (List.mem_of_mem_take hx)
          have hbt1 : ∀ x ∈ (l.take n).drop 1, 0 ≤ x ∧ x < 256 := fun x hx => hbt x (List.mem_of_mem_drop hx)
          obtain ⟨S, rfl, hs⟩ := rNum_again _ _ hbt1 hp1
          have hb1 : ∀ x ∈ X1, 0 ≤ x ∧ x < 256 := fun x hx => hbt1 x (by rw [hs]; exact List.mem_append_right _ hx)
          obtain ⟨B, rfl, ha⟩ := rNum_again _ _ hb1 hp2
          have hb2 : ∀ x ∈ X2, 0 ≤ x ∧ x < 256 := fun x hx => hb1 x (by rw [ha]; exact List.mem_append_right _ hx)
          have hy := rByt_again _ _ hb2 hp3
          have hx3 : X3 = [] := List.eq_nil_of_length_eq_zero c4
          rw [hx3, List.append_nil] at hy
          have hl0 : 0 < l.length := by omega
          have hr0 := hb _ (Fs.rd_mem l 0 hl0)
          have hhead : headL (rd l 0 == 1) S B bd = l.take n := by
            have e1 : l.take n = rd l 0 :: (l.take n).drop 1 := by
              have h3 : 0 < (l.take n).length := by simp; omega
              have h4 := Fs.rd_drop (l.take n) 0 h3
              rw [List.drop_zero] at h4
              have h5 : rd (l.take n) ((0 : Nat) : Int) = rd l 0 := by
                show (l.take n).getD 0 0 = l.getD 0 0
                rw [List.getD_eq_getElem?_getD, List.getD_eq_getElem?_getD, List.getElem?_take, if_pos (by omega)]
              rw [h5] at h4
              exact h4
            rw [e1, hs, ha, hy]
            unfold headL
            have e2 : (if (rd l 0 == 1) = true then (1 : Int) else 0) = rd l 0 := by
              by_cases h6 : rd l 0 = 1
              · rw [h6]; rfl
              · rw [if_neg (by simpa using h6)]
                have h0 : 0 ≤ rd l 0 := hr0.1
                omega
            rw [e2]
            simp only [List.append_assoc, List.cons_append, List.nil_append]
          have hsum := sumN_lt (l.take n) hbt
          have hq := be4_of (l.drop n) (by simp; omega) (fun x hx => hb x (List.mem_of_mem_drop hx)) (sumN (l.take n)) hsum
          have hcond : (beN (l.drop n) 0 = sumN (l.take n) ∧ rightB (rd l 0 == 1) (S : Int) (B : Int) bd.length = true) ↔ encF (rd l 0 == 1, (S : Int), (B : Int), bd) = (l, 0) := by
            unfold encF
            simp only [Int.toNat_natCast]
            cases hrb : rightB (rd l 0 == 1) (S : Int) (B : Int) bd.length with
            | false =>
              rw [if_neg (by decide)]
              constructor
              · rintro ⟨_, h7⟩
                exact Bool.noConfusion h7
              · intro h7
                exact absurd (Prod.mk.inj h7).2 (by decide)
            | true =>
              rw [if_pos rfl]
              unfold frameL
              rw [hhead, hq]
              constructor
              · rintro ⟨h7, _⟩
                rw [h7, List.take_append_drop]
              · intro h7
                have h8 := (Prod.mk.inj h7).1
                refine ⟨?_, rfl⟩
                have h9 : l.take n ++ be4 (sumN (l.take n)) = l.take n ++ l.drop n := by rw [h8, List.take_append_drop]
                exact List.append_cancel_left h9
          by_cases hc : beN (l.drop n) 0 = sumN (l.take n) ∧ rightB (rd l 0 == 1) (S : Int) (B : Int) bd.length = true
          · rw [if_pos ⟨rfl, rfl, rfl, c4, hc⟩, if_pos ⟨rfl, rfl, rfl, c4, hcond.1 hc⟩]
          · rw [if_neg (fun hh => hc hh.2.2.2.2), if_neg (fun hh => hc (hcond.2 hh.2.2.2.2))]
        · rw [if_neg (fun hh => c4 hh.2.2.2.1), if_neg (fun hh => c4 hh.2.2.2.1)]
      · rw [if_neg (fun hh => c3 hh.2.2.1), if_neg (fun hh => c3 hh.2.2.1)]
    · rw [if_neg (fun hh => c2 hh.2.1), if_neg (fun hh => c2 hh.2.1)]
  · rw [if_neg (fun hh => c1 hh.1), if_neg (fun hh => c1 hh.1)]
end Go.Proofs.Ytekakngojhnleaa.De
