/- Noughts behind are taken away: read alone; the two halves of a number. -/
import Derived.Test.YtdaelbihfdlgkaaNs
namespace Go.Proofs.Ytdaelbihfdlgkaa.Nt
open Go.RowKit Go.Proofs.Ytdaelbihfdlgkaa.Na Go.Proofs.Ytdaelbihfdlgkaa.Nv Go.Proofs.Ytdaelbihfdlgkaa.Ns Go.Proofs.Ytdaelbihfdlgkaa.Fns Go.Proofs.YtdaelbihfdlgkaaW.PrintWords Go.Proofs.YtdaelbihfdlgkaaW.PrintLast Go.Proofs.YtdaelbihfdlgkaaW.PrintMore
set_option linter.unusedVariables false
set_option linter.unusedSimpArgs false
theorem Rt.nil : Rt [] := fun x h => by cases h
theorem Rt.take {xs : List Int} {k : Nat} (hk : k < xs.length) (h : xs[k] ≠ 0) : Rt (xs.take (k + 1)) := by
  intro x hx
  rw [List.take_succ_eq_append_getElem hk, List.getLast?_append, List.getLast?_singleton, Option.some_or] at hx
  cases hx
  exact h
theorem rd_take {w : World} {A : Option Addr} {c : Nat} {xs : List Int} (h : Rd w A c xs) {k : Nat} (hk : k ≤ xs.length) : Rd w A c (xs.take k) :=
  ⟨Kd.C_take h.r hk, by have := h.c; rw [List.length_take]; omega, h.l.take k⟩
theorem less_wrap {n : Nat} (h : 0 < n) (h2 : n ≤ 1000000) : wrap64 ((n : Int) - 1) = ((n - 1 : Nat) : Int) := by unfold wrap64; omega
theorem tmeas {n : Nat} (h : 0 < n) : (intOf (.int .i64 ((n - 1 : Nat) : Int))).toNat < (intOf (.int .i64 (n : Int))).toNat := by
  simp only [intOf]
  omega
set_option maxRecDepth 100000 in
set_option maxHeartbeats 1000000 in
theorem trim_some {ad : Addr} {c : Nat} {xs : List Int} (w : World) (h : Rd w (some ad) c xs) (hn : xs.length ≤ 100000) :
    Calls Try.prog 27 #[.slice (some ad) xs.length c] w fun e w' => ∃ k, e = .returned (.slice (some ad) k c) ∧ w' = w ∧ k ≤ xs.length ∧ V (xs.take k) = V xs ∧ Rt (xs.take k) := by
  have H := Aside0.mk h
  obtain ⟨n, hnx⟩ : ∃ n, n = xs.length := ⟨_, rfl⟩
  have HNX := Aside0.mk hnx
  have hcn : (n : Int) ≤ (c : Int) := by have := h.c; omega
  have HC := Aside0.mk hcn
  rw [← hnx] at hn ⊢
  have HN := Aside0.mk hn
  clear h hn hnx hcn
  go_enter Try.func27, Try.ntmps27
  go_upto_block 0 with fail
  go_cut [3] from 6 to 17 (fun v3 wx => ∃ k : Nat, v3 = .int .i64 (k : Int) ∧ wx = w ∧ Aside0 (k ≤ n ∧ V (xs.take k) = V xs ∧ Rt (xs.take k)))
  case first =>
    go_wp2_with fail
    go_loopw [3] (fun v3 wr => ∃ k : Nat, v3 = .int .i64 (k : Int) ∧ wr = w ∧ k ≤ n ∧ Aside0 (V (xs.take k) = V xs)) (fun v3 _ => (intOf v3).toNat)
    case atStart => exact ⟨n, rfl, rfl, Nat.le_refl _, ⟨by rw [List.take_of_length_le (by have := HNX.out; omega)]⟩⟩
    case round =>
      obtain ⟨k, rfl, hw, hk, HV⟩ := hrel
      subst hw
      by_cases h0 : 0 < k
      · have d0 : decide ((0 : Int) < (k : Int)) = true := decide_eq_true (by omega)
        have d0' : decide (0 < k) = true := decide_eq_true h0
        have hlt : k - 1 < xs.length := by have := HNX.out; omega
        have HL := Aside0.mk hlt
        clear hlt
        obtain ⟨_, ha, hc⟩ := H.out.at (k - 1) HL.out
        cases ha
        have b1 : (0 : Int) ≤ ((k - 1 : Nat) : Int) := by omega
        have b2 : ((k - 1 : Nat) : Int) < (n : Int) := by have := HNX.out; omega
        have HK := Aside0.mk (And.intro h0 hk)
        obtain ⟨x, hx⟩ : ∃ x, x = xs[k - 1]'HL.out := ⟨_, rfl⟩
        rw [← hx] at hc
        have HX := Aside0.mk hx
        by_cases hz : x = 0
        · have e1 : (x == 0) = true := beq_iff_eq.2 hz
          have HZ := Aside0.mk hz
          have HWR := Aside0.mk (less_wrap h0 (by have := HN.out; omega))
          clear h0 hk hx hz
          have hwr := HWR.out
          go_wp2_with fail
          go_roundw
          case rel =>
            refine ⟨k - 1, congrArg _ hwr, trivial, by have := HK.out; omega, ⟨?_⟩⟩
            have e2 : V (xs.take (k - 1 + 1)) = V (xs.take (k - 1)) + B ^ (k - 1) * xs[k - 1]'HL.out := V_take_succ HL.out
            rw [show xs[k - 1]'HL.out = 0 by rw [← HX.out]; exact HZ.out, Int.mul_zero, Int.add_zero, show k - 1 + 1 = k by have := HK.out; omega] at e2
            rw [← e2]
            exact HV.out
          case measure => first | exact tmeas HK.out.1 | (rw [hwr]; exact tmeas HK.out.1)
        · have e1 : (x == 0) = false := beq_eq_false_iff_ne.2 hz
          have HZ := Aside0.mk hz
          have HWR := Aside0.mk (less_wrap h0 (by have := HN.out; omega))
          clear h0 hk hx hz
          have hwr := HWR.out
          go_wp2_with fail
          all_goals go_meet
          case rel =>
            refine ⟨k, rfl, rfl, ⟨HK.out.2, HV.out, ?_⟩⟩
            have := Rt.take HL.out (by rw [← HX.out]; exact HZ.out)
            rw [show k - 1 + 1 = k by have := HK.out; omega] at this
            exact this
      · have d0 : decide ((0 : Int) < (k : Int)) = false := decide_eq_false (by omega)
        have d0' : decide (0 < k) = false := decide_eq_false h0
        have HE := Aside0.mk (show k = 0 by omega)
        clear h0 hk
        go_wp2_with fail
        all_goals go_meet
        case rel =>
          have e := HE.out
          subst e
          exact ⟨0, rfl, rfl, ⟨Nat.zero_le _, HV.out, by rw [List.take_zero]; exact Rt.nil⟩⟩
  case rest =>
    obtain ⟨k, rfl, hw, HK⟩ := hcut
    subst hw
    have b1 : (0 : Int) ≤ (k : Int) := by omega
    have b2 : (k : Int) ≤ (c : Int) := by have := HK.out.1; have := HC.out; omega
    have b3 : (k : Int) ≤ (n : Int) := by have := HK.out.1; omega
    go_wp2_with fail
    go_ret
    exact ⟨k, rfl, rfl, HK.out⟩
set_option maxRecDepth 100000 in
theorem trim_none {A : Option Addr} {c : Nat} (w : World) : Calls Try.prog 27 #[.slice A 0 c] w fun e w' => e = .returned (.slice A 0 c) ∧ w' = w := by
  have b1 : (0 : Int) ≤ (c : Int) := by omega
  go_enter Try.func27, Try.ntmps27
  go_wp2_with fail
  go_loopw [3] (fun v3 wr => v3 = .int .i64 0 ∧ wr = w) (fun v3 _ => (intOf v3).toNat)
  case atStart => exact ⟨rfl, rfl⟩
  case round =>
    obtain ⟨rfl, hw⟩ := hrel
    subst hw
    go_wp2_with fail
    go_ret
    exact ⟨rfl, rfl⟩
/-- trim, over limbs that are read. -/
theorem trim_rd {A : Option Addr} {c : Nat} {xs : List Int} (w : World) (h : Rd w A c xs) (hn : xs.length ≤ 100000) :
    Calls Try.prog 27 #[.slice A xs.length c] w fun e w' => ∃ ys, e = .returned (.slice A ys.length c) ∧ w' = w ∧ Rd w A c ys ∧ V ys = V xs ∧ Rt ys ∧ ys.length ≤ xs.length := by
  rcases Nat.eq_zero_or_pos xs.length with h0 | h0
  · have e : xs = [] := List.eq_nil_of_length_eq_zero h0
    subst e
    refine (trim_none w).mono ?_
    rintro e w' ⟨rfl, rfl⟩
    exact ⟨[], rfl, rfl, h, rfl, Rt.nil, Nat.le_refl _⟩
  · obtain ⟨ad, rfl, _⟩ := h.r.2.2 h0
    refine (trim_some w h hn).mono ?_
    rintro e w' ⟨k, rfl, rfl, hk, hv, hr⟩
    have hl : (xs.take k).length = k := by rw [List.length_take]; omega
    exact ⟨xs.take k, by rw [hl], rfl, rd_take h hk, hv, hr, by rw [hl]; exact hk⟩
section
attribute [local go_sem] max2_int min2_int max_two min_two
set_option maxRecDepth 100000 in
theorem low_calls {A : Option Addr} {c : Nat} {xs : List Int} {g k : Nat} (w : World) (h : Rd w A c xs) (hn : xs.length ≤ 100000) (hg : w.cell? ⟨g, 0, none⟩ = some (.int .i64 (k : Int))) :
    Calls Try.prog 34 #[.slice A xs.length c, .pointer (some ⟨g, 0, none⟩)] w fun e w' => ∃ ys, e = .returned (.slice A ys.length c) ∧ w' = w ∧ Rd w A c ys ∧ V ys = V (xs.take k) ∧ Rt ys ∧ ys.length ≤ (xs.take k).length := by
  have HTR := Aside0.mk (trim_rd w (rd_take h (k := min k xs.length) (Nat.min_le_right _ _)) (by rw [List.length_take]; omega))
  rw [show xs.take (min k xs.length) = xs.take k by rw [List.take_eq_take_iff]; omega] at HTR
  obtain ⟨j, hj⟩ : ∃ j, j = (xs.take k).length := ⟨_, rfl⟩
  rw [← hj] at HTR ⊢
  rw [List.length_take] at hj
  obtain ⟨n, hnx⟩ : ∃ n, n = xs.length := ⟨_, rfl⟩
  rw [← hnx] at hj ⊢
  have b1 : (0 : Int) ≤ (j : Int) := by omega
  have b2 : (j : Int) ≤ (c : Int) := by have := h.c; omega
  have hmn1 : (if (n : Int) < (k : Int) then (n : Int) else (k : Int)) = (j : Int) := by split <;> omega
  have hmn2 : (if n < k then (n : Int) else (k : Int)) = (j : Int) := by split <;> omega
  clear h hn hj hnx
  go_enter Try.func34, Try.ntmps34
  go_wp2_with fail
  refine HTR.out.mono ?_
  rintro e w1 ⟨ys, rfl, hw, q1, q2, q3, q4⟩
  have hw2 := hw.symm
  subst hw2
  have HQ := Aside0.mk (And.intro q1 (And.intro q2 (And.intro q3 q4)))
  clear q1 q2 q3 q4 hw
  go_wp2_with fail
  go_ret
  exact ⟨ys, rfl, rfl, HQ.out⟩
theorem rd_drop {w : World} {A : Option Addr} {c : Nat} {xs : List Int} (h : Rd w A c xs) {j : Nat} (hj : j ≤ xs.length) : Rd w (if c = j then A else A.map (·.add j)) (c - j) (xs.drop j) := by
  have hc := Kd.C_drop (c := c) h.r hj h.c
  rw [show j * (Kd.int .u64).sz = j from Nat.mul_one _] at hc
  exact ⟨hc, by rw [List.length_drop]; have := h.c; omega, h.l.drop j⟩
set_option maxRecDepth 100000 in
theorem high_calls {A : Option Addr} {c : Nat} {xs : List Int} {g k : Nat} (w : World) (h : Rd w A c xs) (hn : xs.length ≤ 100000) (hg : w.cell? ⟨g, 0, none⟩ = some (.int .i64 (k : Int))) :
    Calls Try.prog 35 #[.slice A xs.length c, .pointer (some ⟨g, 0, none⟩)] w fun e w' => ∃ A' c', e = .returned (.slice A' (xs.drop k).length c') ∧ w' = w ∧ Rd w A' c' (xs.drop k) := by
  obtain ⟨j, hj⟩ : ∃ j, j = min k xs.length := ⟨_, rfl⟩
  have hd : xs.drop k = xs.drop j := by
    rcases Nat.lt_or_ge k xs.length with h1 | h1
    · rw [show j = k by omega]
    · rw [List.drop_of_length_le h1, List.drop_of_length_le (by omega)]
  rw [hd]
  have HRD := Aside0.mk (rd_drop h (j := j) (by omega))
  have hl : (xs.drop j).length = xs.length - j := List.length_drop
  rw [hl]
  obtain ⟨n, hnx⟩ : ∃ n, n = xs.length := ⟨_, rfl⟩
  rw [← hnx] at hj ⊢
  have b1 : (0 : Int) ≤ (j : Int) := by omega
  have b2 : (j : Int) ≤ (n : Int) := by omega
  have b3 : (j : Int) ≤ (c : Int) := by have := h.c; omega
  have b4 : (n : Int) ≤ (c : Int) := by have := h.c; omega
  have hmn1 : (if (n : Int) < (k : Int) then (n : Int) else (k : Int)) = (j : Int) := by split <;> omega
  have hmn2 : (if n < k then (n : Int) else (k : Int)) = (j : Int) := by split <;> omega
  clear h hn hj hnx hd hl
  go_enter Try.func35, Try.ntmps35
  go_wp2_with fail
  · have e : c = j := by assumption
    go_ret
    have hr := HRD.out
    rw [if_pos e, show c - j = 0 by omega] at hr
    exact ⟨_, _, rfl, rfl, hr⟩
  · have e : ¬ c = j := by assumption
    go_ret
    have hr := HRD.out
    rw [if_neg e] at hr
    exact ⟨_, _, rfl, rfl, hr⟩
end
end Go.Proofs.Ytdaelbihfdlgkaa.Nt
