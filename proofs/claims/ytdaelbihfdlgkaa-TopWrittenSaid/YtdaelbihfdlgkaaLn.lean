/- A number's text, parsed, and its bytes, read, multiplied, divided by the number, are the number. -/
import Derived.Test.YtdaelbihfdlgkaaLm
import Derived.Test.YtdaelbihfdlgkaaNx
import Derived.Test.YtdaelbihfdlgkaaNb
import Derived.Test.YtdaelbihfdlgkaaWShare
namespace Go.Proofs.Ytdaelbihfdlgkaa.Ln
open Go.RowKit Go.Proofs.Ytdaelbihfdlgkaa.Na Go.Proofs.Ytdaelbihfdlgkaa.Nv Go.Proofs.Ytdaelbihfdlgkaa.Ns Go.Proofs.Ytdaelbihfdlgkaa.Nt Go.Proofs.Ytdaelbihfdlgkaa.Np Go.Proofs.Ytdaelbihfdlgkaa.Nq Go.Proofs.Ytdaelbihfdlgkaa.No Go.Proofs.Ytdaelbihfdlgkaa.Nc Go.Proofs.Ytdaelbihfdlgkaa.Fns Go.Proofs.YtdaelbihfdlgkaaW.PrintWords Go.Proofs.YtdaelbihfdlgkaaW.PrintLast Go.Proofs.YtdaelbihfdlgkaaW.PrintMore
set_option linter.unusedVariables false
set_option linter.unusedSimpArgs false
/-- What the document calls a number. -/
def okB (l : List Int) : Bool := decide (l.length ≤ 64) && (l.getLast?.getD 1 != 0)
theorem right_total (l : List Int) : windbreakref01_Right.f l = some (okB l) := by
  unfold windbreakref01_Right.f okB
  by_cases h : l.length ≤ 64
  · rw [if_pos (by omega), decide_eq_true h, Bool.true_and]
    by_cases h0 : l.length = 0
    · have e : l = [] := List.eq_nil_of_length_eq_zero h0
      subst e
      rfl
    · have hw : wrap64 ((l.length : Int) - 1) = ((l.length - 1 : Nat) : Int) := by rw [w_pred (by omega)]; omega
      rw [if_neg (by omega), hw, if_pos (by omega), if_pos (by omega), rd_nat (by omega : l.length - 1 < l.length)]
      rw [List.getLast?_eq_getElem?, List.getElem?_eq_getElem (by omega)]
      rfl
  · rw [if_neg (by omega), decide_eq_false h, Bool.false_and]
theorem okB_rt {l : List Int} (h : okB l = true) : Rt l ∧ l.length ≤ 64 := by
  unfold okB at h
  rw [Bool.and_eq_true, decide_eq_true_eq, bne_iff_ne] at h
  refine ⟨fun x hx => ?_, h.1⟩
  rw [hx] at h
  exact h.2
theorem same_l (l : List Int) (hs : l.length ≤ 100000) : ∀ (m i : Nat), i + m = l.length → ∃ k, windbreakref01_Same.l0 k l l (i : Int) = some true := by
  intro m
  induction m with
  | zero => intro i hi; exact ⟨1, by rw [windbreakref01_Same.l0, if_neg (by omega)]⟩
  | succ m ih =>
    intro i hi
    obtain ⟨k, hk⟩ := ih (i + 1) (by omega)
    refine ⟨k + 1, ?_⟩
    rw [windbreakref01_Same.l0, if_pos (by omega), if_pos (by omega), if_pos (by omega), if_pos rfl, w_one (by omega)]
    exact hk
theorem same_ok (l : List Int) (hs : l.length ≤ 100000) : ∃ k, windbreakref01_Same.f k l l = some true := by
  obtain ⟨k, hk⟩ := same_l l hs l.length 0 (by omega)
  exact ⟨k, by rw [windbreakref01_Same.f, if_pos rfl]; exact hk⟩
theorem lim_of {l : List Int} (h : ∀ x ∈ l, (Lit.int .u64 x).wf = true) : Lim l := fun x hx => by
  have h1 := h x hx
  have h2 : (decide ((0 : Int) ≤ x) && decide (x ≤ 18446744073709551615)) = true := h1
  rw [Bool.and_eq_true, decide_eq_true_eq, decide_eq_true_eq] at h2
  unfold B
  omega
theorem sq_ge {A : Int} (h : 0 < A) : A ≤ A * A := by
  have : A * 1 ≤ A * A := Int.mul_le_mul_of_nonneg_left h (Int.le_of_lt h)
  omega
theorem rt_zero {r : List Int} (l : Lim r) (h : Rt r) (h0 : V r = 0) : r = [] := by
  rcases Nat.eq_zero_or_pos r.length with h1 | h1
  · exact List.eq_nil_of_length_eq_zero h1
  · have := Nu.V_pos l h h1
    omega
theorem sq_div {A Q R : Int} (hA : 0 < A) (h : A * A = Q * A + R) (h0 : 0 ≤ R) (hR : R < A) : Q = A ∧ R = 0 := by
  have h1 : (A - Q) * A = R := by rw [Int.sub_mul]; omega
  rcases Int.lt_or_le (A - Q) 1 with h2 | h2
  · rcases Int.lt_or_le (-1) (A - Q) with h3 | h3
    · have e : A - Q = 0 := by omega
      rw [e, Int.zero_mul] at h1
      omega
    · exfalso
      have : (A - Q) * A ≤ (-1) * A := Int.mul_le_mul_of_nonneg_right h3 (Int.le_of_lt hA)
      omega
  · exfalso
    have : 1 * A ≤ (A - Q) * A := Int.mul_le_mul_of_nonneg_right h2 (Int.le_of_lt hA)
    omega
set_option maxRecDepth 100000 in
set_option maxHeartbeats 4000000 in
theorem law_calls (A : Option Addr) (c : Nat) (l : List Int) (W : World) (hr : Kd.C (Kd.int .u64) W A l.length l) (hc : l.length ≤ c) (hy : l.length * 8 ≤ 140737488351232) (hw : ∀ x ∈ l, (Lit.int .u64 x).wf = true) :
    Calls Try.prog 3 #[.slice A l.length c] W fun e W' => e = .returned (.bool true) ∧ Below W.heap.size W W' := by
  have HR := Aside0.mk hr
  have HC := Aside0.mk hc
  have HW := Aside0.mk hw
  have HRT := Aside0.mk (windbreakref01_Right.calls A c l (okB l) W hr hc (right_total l))
  obtain ⟨ob, hob⟩ : ∃ ob, ob = okB l := ⟨_, rfl⟩
  obtain ⟨n, hn⟩ : ∃ n, n = l.length := ⟨_, rfl⟩
  have HN := Aside0.mk (And.intro hn hob)
  rw [← hob] at HRT
  rw [← hn] at HRT ⊢
  clear hr hc hy hw hob hn
  go_enter Try.func3, Try.ntmps3
  go_wp2_with fail
  refine HRT.out.mono ?_
  rintro e w1 ⟨rfl, hd1⟩
  have HB1 := Aside0.mk hd1.below
  clear hd1 HRT
  cases ob with
  | false =>
    go_wp2_with fail
    go_ret
    exact ⟨rfl, HB1.out⟩
  | true =>
    by_cases h30 : 30 < n
    · have d1 : decide ((30 : Int) < (n : Int)) = true := decide_eq_true (by omega)
      have d2 : decide (30 < n) = true := decide_eq_true h30
      clear h30
      go_wp2_with fail
      go_ret
      exact ⟨rfl, HB1.out⟩
    · by_cases h0 : n = 0
      · subst h0
        clear h30
        go_wp2_with fail
        go_ret
        exact ⟨rfl, HB1.out⟩
      · have d1 : decide ((30 : Int) < (n : Int)) = false := decide_eq_false (by omega)
        have d2 : decide (30 < n) = false := decide_eq_false h30
        have d3 : ((n : Int) == 0) = false := by rw [beq_eq_false_iff_ne]; omega
        have d4 : (n == 0) = false := by rw [beq_eq_false_iff_ne]; exact h0
        have HL := Aside0.mk (show 0 < l.length ∧ l.length ≤ 30 by have := HN.out.1; omega)
        clear h30 h0
        go_wp2_with fail
        have HNM := Aside0.mk (show Nm W A c l from ⟨⟨HR.out, HC.out, lim_of HW.out⟩, (okB_rt HN.out.2.symm).1, (okB_rt HN.out.2.symm).2⟩)
        have HM1 := Aside0.mk (HNM.out.below HB1.out)
        obtain ⟨kt, ds, ht1, ht2, ht3, ht4, ht5, ht6⟩ := Nu.text_ok HNM.out.l HNM.out.t HL.out.1 HL.out.2
        have HTX := Aside0.mk (nat_Text.calls kt (fun k => k < w1.heap.size) A c l (strOfNums ds.reverse) w1 (Kd.V_mk HM1.out.c (Kd.C_F (Kd.heap_int .u64) HM1.out.r)) ht1)
        rw [← HN.out.1] at HTX
        have HDS := Aside0.mk (show Nu.Dg ds.reverse ∧ 0 < ds.reverse.length ∧ ds.reverse.length ≤ 600 ∧ (∀ x, ds.reverse.head? = some x → x ≠ 48) ∧ Nu.dec ds = V l from ⟨fun x hx => ht2 x (List.mem_reverse.1 hx), by rw [List.length_reverse]; exact List.length_pos_iff.2 ht5, by rw [List.length_reverse]; exact ht6, fun x hx => ht4 x (by rw [← List.head?_reverse]; exact hx), ht3⟩)
        clear ht1 ht2 ht3 ht4 ht5 ht6 HW HR HC
        go_wp2_with fail
        refine HTX.out.mono ?_
        rintro e w2 ⟨rfl, hb2⟩
        have HB2 := Aside0.mk (below_step HB1.out hb2)
        have HPA := Aside0.mk (Nx.parse_calls w2 HDS.out.1 HDS.out.2.1 HDS.out.2.2.1 HDS.out.2.2.2.1)
        rw [List.reverse_reverse, HDS.out.2.2.2.2] at HPA
        clear hb2 HTX HM1
        go_wp2_with fail
        refine HPA.out.mono ?_
        rintro e w3 ⟨Ax, cx, x, rfl, hb3, i1, i2⟩
        have HB3 := Aside0.mk (below_step HB2.out hb3)
        have HM3 := Aside0.mk (HNM.out.below HB3.out)
        have hxl : x = l := Rt.inj i1.l HNM.out.l i1.t HNM.out.t i2
        subst hxl
        have HX := Aside0.mk i1
        obtain ⟨kb, bs, hb1, hbt, hbe, hbl⟩ := Nw.bytes_ok HNM.out.l HNM.out.t HL.out.1 HNM.out.n
        have HBY := Aside0.mk (nat_Bytes.calls kb A c x bs w3 HM3.out.r HM3.out.c hb1)
        have HBS := Aside0.mk (And.intro hbt (And.intro hbe (show bs.length ≤ 512 by have := HL.out.2; omega)))
        rw [← HN.out.1] at HBY ⊢
        clear i1 i2 hb1 hbt hbe hbl hb3 HPA HDS
        go_wp2_with fail
        refine HBY.out.mono ?_
        rintro e w4 ⟨vb, rfl, hr4, hb4⟩
        obtain ⟨Ab, cb, rfl⟩ := Kd.R_slice hr4
        have hrr := Kd.R_reads' hr4
        have HB4 := Aside0.mk (below_step HB3.out hb4)
        have HX4 := Aside0.mk (HX.out.below hb4)
        have HRD := Aside0.mk (Nb.read_calls w4 hrr.2.2 hrr.2.1 HBS.out.1 HBS.out.2.2)
        rw [HBS.out.2.1] at HRD
        clear hr4 hrr hb4 HBY HM3
        go_wp2_with fail
        refine HRD.out.mono ?_
        rintro e w5 ⟨Ay, cy, y, rfl, hb5, i1, i2, i3, i4⟩
        have HB5 := Aside0.mk (below_step HB4.out hb5)
        have HX5 := Aside0.mk (HX4.out.below hb5)
        have hyl : y = x := Rt.inj i1.l HNM.out.l i2 HNM.out.t i3
        subst hyl
        have HML := Aside0.mk (Nj.mul_calls w5 HX5.out ⟨i1, i2, i4⟩ (by have := HL.out; omega) (by have := HL.out; omega))
        rw [← HN.out.1] at HML ⊢
        clear i1 i2 i3 i4 hb5 HRD HX HX4 HBS
        go_wp2_with fail
        refine HML.out.mono ?_
        rintro e w6 ⟨Ap, cp, p, rfl, hb6, i1, i2⟩
        have HB6 := Aside0.mk (below_step HB5.out hb6)
        have HM6 := Aside0.mk (HNM.out.below HB6.out)
        have HP := Aside0.mk i2
        have HPOS := Aside0.mk (Nu.V_pos HNM.out.l HNM.out.t HL.out.1)
        have HDV := Aside0.mk (Lm.div_calls w6 i1 HM6.out HL.out.1 (by rw [i2]; exact sq_ge HPOS.out))
        rw [← HN.out.1] at HDV
        clear i1 i2 hb6 HML HX5 HM6
        go_wp2_with fail
        refine HDV.out.mono ?_
        rintro e w7 ⟨Aq, cq, q, Ar, cr, r, rfl, hb7, i1, i2, i3, i4, i5, i6⟩
        have HB7 := Aside0.mk (below_step HB6.out hb7)
        have HM7 := Aside0.mk (HNM.out.below HB7.out)
        have hqr := sq_div HPOS.out (HP.out.symm.trans i5) (V_nonneg i2.l) i6
        have hql : q = y := Rt.inj i1.l HNM.out.l i3 HNM.out.t hqr.1
        have hrl : r = [] := rt_zero i2.l i4 hqr.2
        subst hql
        subst hrl
        obtain ⟨ks, hks⟩ := same_ok q (by have := HL.out; omega)
        have HSM := Aside0.mk (windbreakref01_Same.calls ks Aq cq q A c q true w7 i1.r i1.c HM7.out.r HM7.out.c hks)
        rw [← HN.out.1] at HSM ⊢
        clear i1 i2 i3 i4 i5 i6 hqr hks hb7 HDV HM7
        go_wp2_with fail
        refine HSM.out.mono ?_
        rintro e w8 ⟨rfl, hd8⟩
        have HB8 := Aside0.mk (below_step HB7.out hd8.below)
        clear hd8 HSM
        go_wp2_with fail
        go_ret
        exact ⟨rfl, HB8.out⟩
end Go.Proofs.Ytdaelbihfdlgkaa.Ln
