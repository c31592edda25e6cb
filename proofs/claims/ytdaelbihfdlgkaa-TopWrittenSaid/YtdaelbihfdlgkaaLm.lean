/- Division of numbers. -/
import Derived.Test.YtdaelbihfdlgkaaLl
import Derived.Test.YtdaelbihfdlgkaaNj
import Derived.OwnWalk
namespace Go.Proofs.Ytdaelbihfdlgkaa.Lm
open Go.RowKit Go.Proofs.Ytdaelbihfdlgkaa.Na Go.Proofs.Ytdaelbihfdlgkaa.Nv Go.Proofs.Ytdaelbihfdlgkaa.Ns Go.Proofs.Ytdaelbihfdlgkaa.Nt Go.Proofs.Ytdaelbihfdlgkaa.Np Go.Proofs.Ytdaelbihfdlgkaa.Nq Go.Proofs.Ytdaelbihfdlgkaa.No Go.Proofs.Ytdaelbihfdlgkaa.Nc Go.Proofs.Ytdaelbihfdlgkaa.Fns Go.Proofs.YtdaelbihfdlgkaaW.PrintWords Go.Proofs.YtdaelbihfdlgkaaW.PrintLast Go.Proofs.YtdaelbihfdlgkaaW.PrintMore
set_option linter.unusedVariables false
set_option linter.unusedSimpArgs false
variable {A0 A1 : Option Addr} {c0 c1 : Nat} {a b : List Int}
/-- What a division answers. -/
def Dv (w : World) (a b : List Int) (e : Ending) (w' : World) : Prop := ∃ Aq cq q Ar cr r, e = .returned (.tuple #[.slice Aq q.length cq, .slice Ar r.length cr, .int .i64 0]) ∧ Below w.heap.size w w' ∧ Rd w' Aq cq q ∧ Rd w' Ar cr r ∧ Rt q ∧ Rt r ∧ V a = V q * V b + V r ∧ V r < V b
set_option maxRecDepth 100000 in
set_option maxHeartbeats 1000000 in
/-- a is not below b. -/
theorem div_calls (w : World) (ha : Nm w A0 c0 a) (hb : Nm w A1 c1 b) (h0 : 0 < b.length) (hv : V b ≤ V a) :
    Calls Try.prog 10 #[.slice A0 a.length c0, .slice A1 b.length c1] w (Dv w a b) := by
  have HA := Aside0.mk ha
  have HB := Aside0.mk hb
  have HH := Aside0.mk (And.intro h0 (And.intro hv (Rt.len_le hb.l ha.l hb.t hv)))
  have HBO := Aside0.mk (Nj.both_calls w ha hb)
  obtain ⟨n, hn⟩ : ∃ n, n = a.length := ⟨_, rfl⟩
  obtain ⟨m, hm⟩ : ∃ m, m = b.length := ⟨_, rfl⟩
  have HN := Aside0.mk (And.intro hn hm)
  rw [← hn, ← hm] at HBO ⊢
  have z1 : ((m : Int) == 0) = false := by rw [beq_eq_false_iff_ne]; omega
  have z2 : (m == 0) = false := by rw [beq_eq_false_iff_ne]; omega
  clear ha hb h0 hv hn hm
  go_enter Try.func10, Try.ntmps10
  go_wp2_with fail
  refine HBO.out.mono ?_
  rintro e w1 ⟨rfl, hb1⟩
  have HA1 := Aside0.mk (HA.out.below hb1)
  have HB1 := Aside0.mk (HB.out.below hb1)
  have HW1 := Aside0.mk hb1
  have HC := Aside0.mk (compare_rd w1 HA1.out.toRd HB1.out.toRd HA.out.t HB.out.t (by have := HA.out.n; omega) (by have := HB.out.n; omega))
  rw [← HN.out.1, ← HN.out.2] at HC
  clear hb1
  go_wp2_with fail
  refine HC.out.mono ?_
  rintro e w2 ⟨cv, rfl, hb2, hcv⟩
  have hc0 : 0 ≤ cv := by
    have := HH.out.2.1
    omega
  have c1 : decide (cv < 0) = false := decide_eq_false (by omega)
  have HA2 := Aside0.mk (HA1.out.below hb2)
  have HB2 := Aside0.mk (HB1.out.below hb2)
  have HW2 := Aside0.mk (below_step HW1.out hb2)
  clear hb2 hcv hc0 HC HBO HA1 HB1 HW1
  by_cases h1 : m = 1
  · have z3 : ((m : Int) == 1) = true := by rw [beq_iff_eq, h1]; rfl
    have z4 : (m == 1) = true := beq_iff_eq.2 h1
    have hb1 : b = [b[0]'HH.out.1] := List.ext_getElem (by have e := HN.out.2; rw [h1] at e; exact e.symm) (fun i i1 i2 => by
      have : i = 0 := by rw [List.length_singleton] at i2; omega
      subst this
      rfl)
    obtain ⟨A, eA, hcell⟩ := HB2.out.toRd.at 0 HH.out.1
    subst eA
    obtain ⟨d, hd⟩ : ∃ d, d = b[0]'HH.out.1 := ⟨_, rfl⟩
    rw [← hd] at hcell hb1
    have hcell0 : w2.cell? A = some (.int .u64 d) := by simpa [Addr.add] using hcell
    have hdl := HB.out.l d (by rw [hd]; exact List.getElem_mem _)
    have hdn : d ≠ 0 := HB.out.t d (by rw [hb1]; rfl)
    have HD := Aside0.mk (show V b = d ∧ 0 < d ∧ d < B from ⟨by rw [hb1]; show d + B * 0 = d; omega, by omega, hdl.2⟩)
    have HS := Aside0.mk (short_rd (d := d) w2 HA2.out.toRd HD.out.2 (by have := HA.out.n; omega))
    rw [← HN.out.1] at HS
    have b1 : (0 : Int) < (m : Int) := by omega
    subst h1
    clear hd hb1 hdl hdn
    go_wp2_with fail
    refine HS.out.mono ?_
    rintro e w3 ⟨Aq, cq, q, r, rfl, hb3, i1, i2, i3, i4⟩
    have HQ := Aside0.mk (And.intro i1 (And.intro i2 (And.intro i3 i4)))
    have HW3 := Aside0.mk (below_step HW2.out hb3)
    have HO := Aside0.mk (of_rd w3 (x := r) (by have := HD.out.2; omega))
    clear hb3 i1 i2 i3 i4 HS hcell
    go_wp2_with fail
    refine HO.out.mono ?_
    rintro e w4 ⟨Ar, cr, ro, rfl, hb4, j1, j2, j3, j4⟩
    have HR := Aside0.mk (And.intro j1 (And.intro j2 j3))
    have HQ4 := Aside0.mk (HQ.out.1.below hb4)
    have HW4 := Aside0.mk (below_step HW3.out hb4)
    clear hb4 j1 j2 j3 j4 HO
    go_wp2_with fail
    go_ret3
    exact ⟨Aq, cq, q, Ar, cr, ro, rfl, HW4.out, HQ4.out, HR.out.1, HQ.out.2.1, HR.out.2.1, by rw [HD.out.1, HR.out.2.2]; exact HQ.out.2.2.2, by rw [HD.out.1, HR.out.2.2]; exact HQ.out.2.2.1.2⟩
  · have z3 : ((m : Int) == 1) = false := by rw [beq_eq_false_iff_ne]; omega
    have z4 : (m == 1) = false := beq_eq_false_iff_ne.2 h1
    have HL := Aside0.mk (Ll.long_calls w2 HA2.out HB2.out (by have := HH.out.1; have := HN.out; omega) HH.out.2.2)
    rw [← HN.out.1, ← HN.out.2] at HL
    clear h1
    go_wp2_with fail
    refine HL.out.mono ?_
    rintro e w3 ⟨Aq, cq, q, Ar, cr, r, rfl, hb3, i1, i2, i3, i4, i5, i6⟩
    have HQ := Aside0.mk (show Rd w3 Aq cq q ∧ Rd w3 Ar cr r ∧ Rt q ∧ Rt r ∧ V a = V q * V b + V r ∧ V r < V b from ⟨i1, i2, i3, i4, i5, i6⟩)
    have HW3 := Aside0.mk (below_step HW2.out hb3)
    clear hb3 i1 i2 i3 i4 i5 i6 HL
    go_wp2_with fail
    go_ret3
    exact ⟨Aq, cq, q, Ar, cr, r, rfl, HW3.out, HQ.out⟩
end Go.Proofs.Ytdaelbihfdlgkaa.Lm
