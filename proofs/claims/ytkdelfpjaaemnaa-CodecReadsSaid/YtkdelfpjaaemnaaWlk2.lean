/- CodecBack, CodecAgain, CodecSame: the law's Go function answers true at every input. -/
import Derived.Test.YtkdelfpjaaemnaaNx2
import Derived.Test.YtkdelfpjaaemnaaNew
import Derived.Test.YtkdelfpjaaemnaaRfB
namespace Go.Proofs.Ytkdelfpjaaemnaa.Rd
set_option linter.unusedSimpArgs false
set_option linter.unusedVariables false
open Go.RowKit Go.Proofs.Ytkdelfpjaaemnaa.Rf Go.Proofs.Ytkdelfpjaaemnaa.Fns Go.Proofs.Ytkdelfpjaaemnaa.Plain Go.Proofs.YtkdelfpjaaemnaaW.PrintWords Go.Proofs.YtkdelfpjaaemnaaW.PrintLast Go.Proofs.YtkdelfpjaaemnaaW.PrintMore

/-- append(v, xs...) of bytes, v the call's own. -/
theorem bytes_app {ops : Array Oper} {rest : List Oper} {o : Oper} {a : Act} {Q : Exit → Act → World → Prop} {w0 W : World} (base : Nat) (hg : o.guard = none) (s x : Operand)
    (ho : o.op = .call { callee := .builtin .append, args := #[s, x], argTypes := #[23, 23] }) (v : Value) (xs ys : List Int) (A : Option Addr) (m c : Nat) (hs : a.eval s = v) (hx : a.eval x = .slice A m c)
    (HO : (Kd.int .u8).R 5 W base (fun _ => True) v xs) (HR : (Kd.int .u8).C W A m ys) (HB : Below base w0 W) (hbase : base ≤ W.heap.size) (hl : xs.length + m ≤ 140737488355328)
    (h : ∀ A1 n1 c1 w1, Aside0 (n1 = (xs ++ ys).length) → (Kd.int .u8).R 5 w1 base (fun _ => True) (.slice A1 n1 c1) (xs ++ ys) → (Kd.int .u8).C w1 A1 n1 (xs ++ ys) → Below base w0 w1 → W.grownBy w1 v.ownBlock → wpList Try.prog ops Q rest (a.put o.dst (.slice A1 n1 c1)) w1) :
    wpList Try.prog ops Q (o :: rest) a W := by
  refine Kd.R_append_rows (Kd.int .u8) (w0 := w0) base hg s x 23 5 (.int .u8 0) 1 ho Try.underlying23 PCodecInts.info5 rfl (by decide) (by omega) v xs ys A m c (fun _ => True) (fun _ => False) hs hx HO HR
    (fun _ _ h => h) (fun _ h => h.elim) (fun _ _ => trivial) HB hbase (by omega) (fun v1 w1 h1 h2 h3 _ => ?_)
  obtain ⟨A1, c1, rfl, hc, hr⟩ := Kd.R_reads h1
  exact h A1 _ c1 w1 ⟨rfl⟩ h1 hr h2 h3

theorem new_calls' (A : Option Addr) (n c : Nat) (xs : List Int) (w : World) (hr : Kd.C (Kd.int .u8) w A n xs) (hl : xs.length ≤ 140737488355328) :
    Calls Try.prog 16 #[.slice A n c] w fun e w' => ∃ g w0, e = .returned (.pointer (some ⟨g, 0, none⟩)) ∧ IsRd w0 w' g xs ∧ Below w0.heap.size w0 w' ∧ Below w.heap.size w w0 ∧ Below w.heap.size w w' := by
  obtain rfl : xs.length = n := Kd.C_len hr
  exact new_calls A c xs w hr hl

set_option maxHeartbeats 800000 in
theorem back_calls (A : Option Addr) (c : Nat) (xs : List Int) (w : World) (hr : (Kd.int .u8).C w A xs.length xs) (hc : xs.length ≤ c) (hl : xs.length ≤ 140737488351232) (n : Nat) (hn : n < 18446744073709551616) (hb : ∀ x ∈ xs, 0 ≤ x ∧ x < 256) :
    Calls Try.prog 6 #[.int .u64 (n : Int), .slice A xs.length c] w fun e w' => e = .returned (.bool true) ∧ Below w.heap.size w w' := by
  have HR := Aside0.mk hr
  have H1 := Aside0.mk (number_is n hn)
  have hp := enc_pos 9 n
  have hle := enc_le 9 n
  have HX := Aside0.mk (nx_enc n hn xs hb)
  clear hr hb hn
  generalize enc 9 n = cs at hp hle H1 HX
  go_enter Try.func6, Try.ntmps6
  go_wp2_with fail
  refine (codec_Number.calls 10 _ cs _ H1.out).mono ?_
  rintro e w1 ⟨v1, rfl, ho1, hb1⟩
  obtain ⟨A1, c1, rfl, hc1, hr1⟩ := Kd.R_reads ho1
  have HB1 := Aside0.mk hb1
  have HR1 := Aside0.mk hr1
  clear hb1 hr1 ho1
  have HE := Aside0.mk (R_empty (Kd.int .u8) 5 w1 w1.heap.size (Nat.le_refl _))
  go_wp2_with (first
    | (at_builtin; refine bytes_app (w0 := w1) w1.heap.size rfl (.tmp 11) (.tmp 12) rfl _ [] cs _ _ _ rfl rfl HE.out (Kd.C_alloc HR1.out _) (below_alloc (Below.refl _ _) _) (by simp) (by simp; omega) ?_; intro A2 n2 c2 w2 hn2 ho2 hr2 hb2 _)
    | (at_builtin; refine bytes_app (w0 := w1) w1.heap.size rfl (.tmp 13) (.tmp 14) rfl _ _ xs _ _ _ rfl rfl ho2 (Kd.C_below HR.out (HB1.out.trans (hb2.mono HB1.out.size))) hb2 hb2.size (by simp; omega) ?_; intro A3 n3 c3 w3 hn3 ho3 hr3 hb3 _))
  have hx : rNum (n : Int) (cs ++ xs) = ((n : Int), 0, xs) := by
    unfold rNum
    rw [HX.out, if_neg (show ¬ (cs.length = 0 ∨ (n : Int) < (n : Int)) by omega)]
    simp
  have HN := Aside0.mk hx
  have HB3 := Aside0.mk (HB1.out.trans (hb3.mono HB1.out.size))
  clear hx hb2 hb3 ho2 ho3 hr2
  refine (new_calls' A3 n3 c3 _ _ hr3 (by simp; omega)).mono ?_
  rintro e w4 ⟨g, w0, rfl, hI, hB0, hBw, hB4⟩
  simp only [List.nil_append] at hI
  have HI := Aside0.mk hI
  have HB0 := Aside0.mk hB0
  have HBw := Aside0.mk hBw
  have HB4 := Aside0.mk (HB3.out.trans (hB4.mono HB3.out.size))
  have HS := Aside0.mk hB4.size
  clear hI hB0 hB4 hr3 hBw
  have hne : ((cs.length : Int) == 0) = false := beq_eq_false_iff_ne.2 (by omega)
  go_wp2_with fail
  refine (rnumber_calls g (cs ++ xs) w0 _ HI.out HB0.out _ _ _ _ HN.out).mono ?_
  rintro e w5 ⟨rfl, hI5, hB5, hK5⟩
  have HI5 := Aside0.mk hI5
  have HB5 := Aside0.mk hB5
  have HK5 := Aside0.mk hK5
  clear hI5 hB5 hK5
  go_wp2_with fail
  refine (left_calls g xs w0 _ HI5.out).mono ?_
  rintro e w6 ⟨rfl, rfl⟩
  go_wp2_with fail
  go_ret
  exact ⟨by simp, (HB3.out.trans (HBw.out.mono HB3.out.size)).trans (HB5.out.mono (Nat.le_trans HB3.out.size HBw.out.size))⟩

theorem u8_bytes {xs : List Int} (h : ∀ x ∈ xs, (Lit.int .u8 x).wf = true) : ∀ x ∈ xs, 0 ≤ x ∧ x < 256 := by
  intro x hx
  have := h x hx
  simp only [Lit.wf, Bool.and_eq_true, IntKind.min, IntKind.max, IntKind.bits, IntKind.signed] at this
  simp at this
  omega

theorem codecBack_walk (n : Int) (A : Option Addr) (c : Nat) (xs : List Int) (w : World) (hn : (Lit.int .u64 n).wf = true) (hr : (Kd.int .u8).C w A xs.length xs) (hc : xs.length ≤ c) (hl : xs.length * 1 ≤ 140737488351232) (hb : ∀ x ∈ xs, (Lit.int .u8 x).wf = true) :
    Calls Try.prog 6 #[.int .u64 n, .slice A xs.length c] w fun e w' => e = .returned (.bool true) ∧ Below w.heap.size w w' := by
  obtain ⟨h0, h1⟩ := u64_bounds hn
  obtain ⟨n, rfl⟩ := Int.eq_ofNat_of_zero_le h0
  exact back_calls A c xs w hr hc (by omega) n (by omega) (u8_bytes hb)
end Go.Proofs.Ytkdelfpjaaemnaa.Rd
