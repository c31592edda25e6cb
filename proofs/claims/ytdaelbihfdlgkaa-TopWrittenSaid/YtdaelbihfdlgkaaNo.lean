/- The numbers' functions over limbs that are read. -/
import Derived.Test.YtdaelbihfdlgkaaFc
import Derived.Test.YtdaelbihfdlgkaaNt
import Derived.Test.YtdaelbihfdlgkaaNr
namespace Go.Proofs.Ytdaelbihfdlgkaa.No
open Go.RowKit Go.Proofs.Ytdaelbihfdlgkaa.Na Go.Proofs.Ytdaelbihfdlgkaa.Nv Go.Proofs.Ytdaelbihfdlgkaa.Ns Go.Proofs.Ytdaelbihfdlgkaa.Nt Go.Proofs.Ytdaelbihfdlgkaa.Np Go.Proofs.Ytdaelbihfdlgkaa.Nq Go.Proofs.Ytdaelbihfdlgkaa.Fns Go.Proofs.YtdaelbihfdlgkaaW.PrintWords Go.Proofs.YtdaelbihfdlgkaaW.PrintLast Go.Proofs.YtdaelbihfdlgkaaW.PrintMore
set_option linter.unusedVariables false
set_option linter.unusedSimpArgs false
/-- A number comes back; nothing that was is written. -/
def Out (w : World) (P : List Int → Prop) (e : Ending) (w' : World) : Prop := ∃ A c r, e = .returned (.slice A r.length c) ∧ Below w.heap.size w w' ∧ Rd w' A c r ∧ P r
theorem rd_of_R {w : World} {base : Nat} {ok : Nat → Prop} {v : Value} {r : List Int} (h : Kd.R (Kd.int .u64) 36 w base ok v r) (hl : Lim r) : ∃ A c, v = .slice A r.length c ∧ Rd w A c r := by
  obtain ⟨A, c, rfl⟩ := Kd.R_slice h
  have h2 := Kd.R_reads' h
  exact ⟨A, c, rfl, h2.2.2, h2.2.1, hl⟩
variable {A0 A1 : Option Addr} {c0 c1 : Nat} {a b : List Int}
theorem out_R {w : World} {P : List Int → Prop} {v : Value} {r : List Int} {w' : World} (h1 : Kd.R (Kd.int .u64) 36 w' w.heap.size (fun _ => True) v r) (h2 : Below w.heap.size w w') (hl : Lim r) (hp : P r) : Out w P (.returned v) w' := by
  obtain ⟨A, c, rfl, h3⟩ := rd_of_R h1 hl
  exact ⟨A, c, r, rfl, h2, h3, hp⟩
theorem school_rd (w : World) (ha : Rd w A0 c0 a) (hb : Rd w A1 c1 b) (hs : a.length + b.length ≤ 100000) :
    Calls Try.prog 33 #[.slice A0 a.length c0, .slice A1 b.length c1] w (Out w fun r => Rt r ∧ V r = V a * V b ∧ r.length ≤ a.length + b.length) := by
  obtain ⟨k, r, h1, h2, h3, h4, h5⟩ := school_ok ha.l hb.l hs
  refine (nat_school.calls k A0 c0 a A1 c1 b r w ha.r ha.c hb.r hb.c h1).mono ?_
  rintro e w' ⟨v, rfl, i1, i2⟩
  exact out_R i1 i2 h2 ⟨h4, h3, h5⟩
theorem less_rd (w : World) (ha : Rd w A0 c0 a) (hb : Rd w A1 c1 b) (hs : a.length ≤ 100000) (hl : b.length ≤ a.length) (hv : V b ≤ V a) :
    Calls Try.prog 37 #[.slice A0 a.length c0, .slice A1 b.length c1] w (Out w fun r => r.length = a.length ∧ V r = V a - V b) := by
  obtain ⟨k, r, h1, h2, h3, h4⟩ := less_ok ha.l hb.l hs hl hv
  refine (nat_less.calls k A0 c0 a A1 c1 b r w ha.r ha.c hb.r hb.c h1).mono ?_
  rintro e w' ⟨v, rfl, i1, i2⟩
  exact out_R i1 i2 h3 ⟨h2, h4⟩
theorem sum_rd (w : World) (ha : Rd w A0 c0 a) (hb : Rd w A1 c1 b) (hs : a.length ≤ 50000) (hs2 : b.length ≤ 50000) :
    Calls Try.prog 36 #[.slice A0 a.length c0, .slice A1 b.length c1] w (Out w fun r => V r = V a + V b ∧ r.length = max a.length b.length + 1) := by
  rcases Nat.lt_or_ge a.length b.length with h | h
  · refine (sum_lt w hb ha h (by omega)).mono ?_
    rintro e w' ⟨v, r, rfl, i1, i2, i3, i4, i5⟩
    exact out_R i1 i2 i3 ⟨by omega, by omega⟩
  · refine (sum_ge w ha hb h (by omega)).mono ?_
    rintro e w' ⟨v, r, rfl, i1, i2, i3, i4, i5⟩
    exact out_R i1 i2 i3 ⟨by omega, by omega⟩
theorem up_rd {s : Nat} (w : World) (ha : Rd w A0 c0 a) (hs2 : s < 64) (hs : a.length ≤ 100000) :
    Calls Try.prog 40 #[.slice A0 a.length c0, .int .u64 (s : Int)] w fun e w' => ∃ v r, e = .returned v ∧ Kd.R (Kd.int .u64) 36 w' w.heap.size (fun _ => True) v r ∧ Below w.heap.size w w' ∧ Lim r ∧ r.length = a.length + 1 ∧ V r = V a * 2 ^ s := by
  obtain ⟨k, r, h1, h2, h3, h4⟩ := Nr.up_ok ha.l hs2 hs
  refine (nat_up.calls k A0 c0 a (s : Int) r w ha.r ha.c h1).mono ?_
  rintro e w' ⟨v, rfl, i1, i2⟩
  exact ⟨v, r, rfl, i1, i2, h3, h2, h4⟩
theorem of_rd {x : Int} (w : World) (hx : 0 ≤ x ∧ x < B) :
    Calls Try.prog 25 #[.int .u64 x] w (Out w fun r => Rt r ∧ V r = x ∧ r.length ≤ 1) := by
  obtain ⟨k, r, h1, h2, h3, h4, h5⟩ := of_ok hx
  refine (nat_Of.calls k x r w h1).mono ?_
  rintro e w' ⟨v, rfl, i1, i2⟩
  exact out_R i1 i2 h2 ⟨h4, h3, h5⟩
theorem compare_rd (w : World) (ha : Rd w A0 c0 a) (hb : Rd w A1 c1 b) (ra : Rt a) (rb : Rt b) (hs : a.length ≤ 100000) (hs2 : b.length ≤ 100000) :
    Calls Try.prog 23 #[.slice A0 a.length c0, .slice A1 b.length c1] w fun e w' => ∃ c, e = .returned (.int .i64 c) ∧ Below w.heap.size w w' ∧ ((V a < V b ∧ c = -1) ∨ (V b ≤ V a ∧ 0 ≤ c)) := by
  obtain ⟨k, c, h1, h2⟩ := compare_ok ha.l hb.l ra rb hs hs2
  refine (nat_compare.calls k A0 c0 a A1 c1 b c w ha.r ha.c hb.r hb.c h1).mono ?_
  rintro e w' ⟨rfl, i1⟩
  exact ⟨c, rfl, i1.below, h2⟩
theorem short_rd {d : Int} (w : World) (ha : Rd w A0 c0 a) (hd : 0 < d ∧ d < B) (hs : a.length ≤ 100000) :
    Calls Try.prog 16 #[.slice A0 a.length c0, .int .u64 d] w fun e w' => ∃ A c q s, e = .returned (.tuple #[.slice A q.length c, .int .u64 s]) ∧ Below w.heap.size w w' ∧ Rd w' A c q ∧ Rt q ∧ (0 ≤ s ∧ s < d) ∧ V a = V q * d + s := by
  obtain ⟨k, q, s, h1, h2, h3, h4, h5, h6⟩ := short_ok ha.l hd hs
  refine (nat_short.calls k A0 c0 a d q s w ha.r ha.c h1).mono ?_
  rintro e w' ⟨v, rfl, i1, i2⟩
  obtain ⟨A, c, rfl, h7⟩ := rd_of_R i1 h2
  exact ⟨A, c, q, s, rfl, i2, h7, h3, h5, h6⟩
theorem rt_len {a : List Int} {m : Nat} (la : Lim a) (ra : Rt a) (h : V a < B ^ m) : a.length ≤ m := by
  rcases Nat.lt_or_ge m a.length with hg | hg
  · exfalso
    have h6 := V_ge la ra (by intro e; rw [e] at hg; simp at hg)
    have h7 := pow_mono (show m ≤ a.length - 1 by omega)
    generalize B ^ m = X at *
    generalize B ^ (a.length - 1) = Y at *
    omega
  · exact hg
set_option maxRecDepth 100000 in
/-- An answer that is not too long. -/
theorem told_rd (w : World) (ha : Rd w A0 c0 a) (hs : a.length ≤ 100000) (hv : V a < B ^ 64) :
    Calls Try.prog 14 #[.slice A0 a.length c0] w fun e w' => ∃ r, e = .returned (.tuple #[.slice A0 r.length c0, .int .i64 0]) ∧ w' = w ∧ Rd w A0 c0 r ∧ Rt r ∧ V r = V a ∧ r.length ≤ 64 := by
  have HT := Aside0.mk (trim_rd w ha hs)
  have HV := Aside0.mk hv
  clear hv
  obtain ⟨n, hn⟩ : ∃ n, n = a.length := ⟨_, rfl⟩
  rw [← hn] at HT ⊢
  clear ha hs hn
  go_enter Try.func14, Try.ntmps14
  go_wp2_with fail
  refine HT.out.mono ?_
  rintro e w1 ⟨r, rfl, hw, q1, q2, q3, q4⟩
  subst hw
  have hl : r.length ≤ 64 := rt_len q1.l q3 (by rw [q2]; exact HV.out)
  have HQ := Aside0.mk (And.intro q1 (And.intro q3 (And.intro q2 hl)))
  obtain ⟨m, hm⟩ : ∃ m, m = r.length := ⟨_, rfl⟩
  have HM := Aside0.mk hm
  rw [← hm] at hl ⊢
  have d1 : decide (64 < (m : Int)) = false := decide_eq_false (by omega)
  have d2 : decide (64 < m) = false := decide_eq_false (by omega)
  clear q1 q2 q3 q4 hm hl
  go_wp2_with fail
  go_ret2
  have e := HM.out
  exact ⟨r, by rw [← e]; rfl, rfl, HQ.out⟩
end Go.Proofs.Ytdaelbihfdlgkaa.No
