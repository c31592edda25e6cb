/- CodecSame: the law's Go function answers true at every input. -/
import Derived.Test.YtkdelfpjaaemnaaWlk3
namespace Go.Proofs.Ytkdelfpjaaemnaa.Rd
set_option linter.unusedSimpArgs false
set_option linter.unusedVariables false
open Go.RowKit Go.Proofs.Ytkdelfpjaaemnaa.Rf Go.Proofs.Ytkdelfpjaaemnaa.Fns Go.Proofs.Ytkdelfpjaaemnaa.Plain Go.Proofs.YtkdelfpjaaemnaaW.PrintWords Go.Proofs.YtkdelfpjaaemnaaW.PrintLast Go.Proofs.YtkdelfpjaaemnaaW.PrintMore

/-- A whole number's code: the number that it is the code of, and that it is told back. -/
theorem int_is (x : Int) (h0 : -9223372036854775808 ≤ x) (h1 : x < 9223372036854775808) : ∃ z : Nat, z < 18446744073709551616 ∧ codec_Int.f 10 x = some (enc 9 z) ∧ valI (z : Int) = x ∧ szI (z : Int) = if x < 0 then -x else x := by
  have hz := zig x h0 h1
  unfold windbreakref09_zigzag.f at hz
  by_cases h : x ≥ 0
  · rw [if_pos h] at hz
    have hz := Option.some.inj hz
    obtain ⟨n, rfl⟩ := Int.eq_ofNat_of_zero_le h
    have e : IntKind.u64.wrap (2 * IntKind.u64.wrap (n : Int)) = ((2 * n : Nat) : Int) := by rw [IntKind.wrap_u64, IntKind.wrap_u64]; omega
    rw [e] at hz
    refine ⟨2 * n, by omega, ?_, ?_, ?_⟩
    · unfold codec_Int.f
      rw [← hz, number_is _ (by omega)]
      rfl
    · rw [valI_eq _ (by omega), if_neg (by omega)]
      omega
    · rw [szI_eq _ (by omega), if_neg (by omega)]
      omega
  · rw [if_neg h] at hz
    have hz := Option.some.inj hz
    obtain ⟨n, hn⟩ : ∃ n : Nat, -(x + 1) = n := ⟨(-(x + 1)).toNat, by omega⟩
    have e : IntKind.u64.wrap (IntKind.u64.wrap (2 * IntKind.u64.wrap (wrap64 (-wrap64 (x + 1)))) + 1) = ((2 * n + 1 : Nat) : Int) := by rw [IntKind.wrap_u64, IntKind.wrap_u64, IntKind.wrap_u64]; unfold wrap64; omega
    rw [e] at hz
    refine ⟨2 * n + 1, by omega, ?_, ?_, ?_⟩
    · unfold codec_Int.f
      rw [← hz, number_is _ (by omega)]
      rfl
    · rw [valI_eq _ (by omega), if_pos (by omega)]
      omega
    · rw [szI_eq _ (by omega), if_pos (by omega)]
      omega

theorem bytes_is (xs : List Int) (hl : xs.length ≤ 140737488351232) : codec_Bytes.f 10 xs = some (enc 9 xs.length ++ xs) := by
  unfold codec_Bytes.f
  have e : IntKind.u64.wrap (xs.length : Int) = (xs.length : Int) := by rw [IntKind.wrap_u64]; omega
  rw [e, number_is _ (by omega), Option.bind_some, if_pos (by have := enc_le 9 xs.length; omega)]

theorem enc_all (x : Nat) (h : x < 18446744073709551616) : ∀ c ∈ enc 9 x, 0 ≤ c ∧ c < 256 := by
  have h10 : (128 : Nat) ^ (9 + 1) = 1180591620717411303424 := by decide
  exact enc_bytes 9 x (by rw [h10]; omega)

theorem rInt_enc (z : Nat) (hz : z < 18446744073709551616) (most : Int) (hm : 0 ≤ most) (hm' : most < 9223372036854775808) (hs : szI (z : Int) ≤ most) (rest : List Int) (hr : ∀ c ∈ rest, 0 ≤ c ∧ c < 256) : rInt most (enc 9 z ++ rest) = (valI (z : Int), 0, rest) := by
  unfold rInt
  rw [nx_enc z hz rest hr]
  have hp := enc_pos 9 z
  have hw : IntKind.u64.wrap most = most := by rw [IntKind.wrap_u64]; omega
  rw [if_neg (show ¬ ((enc 9 z).length = 0 ∨ most < 0 ∨ IntKind.u64.wrap most < szI (z : Int)) by rw [hw]; omega)]
  simp

theorem rByt_enc (xs : List Int) (hl : xs.length ≤ 140737488351232) (hb : ∀ c ∈ xs, 0 ≤ c ∧ c < 256) : rByt (xs.length : Int) (enc 9 xs.length ++ xs) = (xs, 0, []) := by
  unfold rByt
  rw [nx_enc xs.length (by omega) xs hb]
  have hp := enc_pos 9 xs.length
  rw [if_neg (show ¬ ((enc 9 xs.length).length = 0 ∨ (xs.length : Int) < 0 ∨ (xs.length : Int) < (xs.length : Int) ∨ ((enc 9 xs.length ++ xs).length : Int) - ((enc 9 xs.length).length : Int) < (xs.length : Int)) by rw [List.length_append]; omega)]
  simp

theorem R_form_n {α : Type} {d : Kd α} {e : Nat} {w : World} {base : Nat} {ok : Nat → Prop} {v : Value} {xs : List α} (h : d.R e w base ok v xs) : ∃ A n c, v = .slice A n c ∧ Aside0 (n = xs.length) ∧ Aside0 (n ≤ c) ∧ d.C w A n xs := by
  obtain ⟨A, c, rfl, hc, hr⟩ := Kd.R_reads h
  exact ⟨A, _, c, rfl, ⟨rfl⟩, ⟨hc⟩, hr⟩

set_option maxRecDepth 100000 in
set_option maxHeartbeats 800000 in
theorem same_calls (x : Int) (hx0 : -9223372036854775808 ≤ x) (hx1 : x < 9223372036854775808) (A : Option Addr) (c : Nat) (xs : List Int) (w : World) (hr : (Kd.int .u8).C w A xs.length xs) (hc : xs.length ≤ c) (hl : xs.length ≤ 140737488351232) (hb : ∀ x ∈ xs, 0 ≤ x ∧ x < 256) :
    Calls Try.prog 9 #[.int .i64 x, .slice A xs.length c] w fun e w' => e = .returned (.bool true) ∧ Below w.heap.size w w' := by
  have HR := Aside0.mk hr
  obtain ⟨z, hz, hi, hv, hs⟩ := int_is x hx0 hx1
  have HI1 := Aside0.mk hi
  have HB1 := Aside0.mk (bytes_is xs hl)
  have HLz := enc_le 9 z
  have HPz := enc_pos 9 z
  have HLl := enc_le 9 xs.length
  have hrest : ∀ c ∈ enc 9 xs.length ++ xs, 0 ≤ c ∧ c < 256 := by
    intro c hc
    rcases List.mem_append.1 hc with h | h
    · exact enc_all xs.length (by omega) c h
    · exact hb c h
  have HE1 := Aside0.mk (fun most hm hm' hs' => rInt_enc z hz most hm hm' hs' (enc 9 xs.length ++ xs) hrest)
  have HE2 := Aside0.mk (rByt_enc xs hl hb)
  have HV := Aside0.mk hv
  have HS := Aside0.mk hs
  have HX0 := Aside0.mk hx0
  have HX1 := Aside0.mk hx1
  clear hr hi hz hv hs hb hrest hx0 hx1
  go_enter Try.func9, Try.ntmps9
  have HE := Aside0.mk (R_empty (Kd.int .u8) 5 w w.heap.size (Nat.le_refl _))
  have HBE := Aside0.mk (below_alloc (Below.refl _ w) (.cells #[] 5))
  go_wp2_with fail
  refine (codec_Int.calls 10 _ (enc 9 z) _ HI1.out).mono ?_
  rintro e w1 ⟨v1, rfl, ho1, hb1⟩
  obtain ⟨A1, n1, c1, rfl, hn1, hc1, hr1⟩ := R_form_n ho1
  have HR1 := Aside0.mk hr1
  have HB2 := Aside0.mk (HBE.out.trans (hb1.mono HBE.out.size))
  have HO1 := Aside0.mk (Kd.R_below HE.out hb1)
  clear hr1 ho1 hb1 HE
  go_wp2_with (at_builtin; refine bytes_app (w0 := w) w.heap.size rfl (.tmp 12) (.tmp 14) rfl _ [] (enc 9 z) _ _ _ rfl rfl HO1.out HR1.out HB2.out HB2.out.size (by have := hn1.out; simp; omega) ?_; intro A2 n2 c2 w2 hn2 ho2 hr2 hb2 _)
  have HO2 := Aside0.mk ho2
  have HB3 := Aside0.mk hb2
  clear ho2 hr2 hb2 HO1 HB2
  refine (codec_Bytes.calls 10 A c xs (enc 9 xs.length ++ xs) _ (Kd.C_below HR.out HB3.out) hc HB1.out).mono ?_
  rintro e w3 ⟨v3, rfl, ho3, hb3⟩
  obtain ⟨A3, n3, c3, rfl, hn3, hc3, hr3⟩ := R_form_n ho3
  have HR3 := Aside0.mk hr3
  have HB4 := Aside0.mk (HB3.out.trans (hb3.mono HB3.out.size))
  have HO3 := Aside0.mk (Kd.R_below HO2.out hb3)
  clear hr3 ho3 hb3 HO2 HB3
  go_wp2_with (at_builtin; refine bytes_app (w0 := w) w.heap.size rfl (.tmp 15) (.tmp 17) rfl _ _ (enc 9 xs.length ++ xs) _ _ _ rfl rfl HO3.out HR3.out HB4.out HB4.out.size (by have := hn3.out; simp at this ⊢; omega) ?_; intro A4 n4 c4 w4 hn4 ho4 hr4 hb4 _)
  have HR4 := Aside0.mk hr4
  have HB5 := Aside0.mk hb4
  clear ho4 hr4 hb4 HO3 HB4
  refine (new_calls' A4 n4 c4 _ _ HR4.out (by simp; omega)).mono ?_
  rintro e w5 ⟨g, w0, rfl, hI, hB0, hBw, hB6⟩
  simp only [List.nil_append] at hI
  have HI := Aside0.mk hI
  have HB0 := Aside0.mk hB0
  have HBw := Aside0.mk (HB5.out.trans (hBw.mono HB5.out.size))
  have HB6 := Aside0.mk (HB5.out.trans (hB6.mono HB5.out.size))
  clear hI hB0 hB6 hBw
  have hn4' : ((n4 : Int) == 0) = false := by have := hn4.out; simp at this; exact beq_eq_false_iff_ne.2 (by omega)
  by_cases hmin : x = -9223372036854775808
  · have hmb : (x == -9223372036854775808) = true := by simp [hmin]
    clear hmin
    go_wp2_with fail
    go_ret
    exact ⟨rfl, HB6.out⟩
  · have hmb : (x == -9223372036854775808) = false := by simp [hmin]
    by_cases hneg : x < 0
    · have HY := Aside0.mk (HE1.out (-x) (by omega) (by have := HX0.out; omega) (by have := HS.out; rw [if_pos hneg] at this; omega))
      have hwn : wrap64 (-x) = -x := by have := HX0.out; unfold wrap64; omega
      have HW := Aside0.mk hwn
      clear hmin hwn
      go_wp2_with fail
      rw [HW.out]
      refine (rint_calls g _ w0 _ HI.out HB0.out (-x) _ _ _ HY.out).mono ?_
      rintro e w6 ⟨rfl, hI6, hB6, hK6⟩
      have HI6 := Aside0.mk hI6
      have HB7 := Aside0.mk hB6
      clear hI6 hB6 hK6
      rw [HV.out]
      go_wp2_with fail
      refine (rbytes_calls g _ w0 _ HI6.out HB7.out (xs.length : Int) (by simp; omega) (by omega) _ _ _ HE2.out).mono ?_
      rintro e w7 ⟨v7, rfl, ho7, hI7, hB7, hK7⟩
      have HI7 := Aside0.mk hI7
      have HB8 := Aside0.mk hB7
      have hcv1 := own_string (P := Try.prog) Try.underlying23 Try.underlying5 Try.underlying9 (Kd.own_of_R ho7)
      have hcv2 := C_str (c := c) (Kd.C_below HR.out (HBw.out.trans (HB8.out.mono HBw.out.size)))
      clear hI7 hB7 hK7 ho7
      go_wp2_with fail
      refine (left_calls g [] w0 _ HI7.out).mono ?_
      rintro e w8 ⟨rfl, rfl⟩
      go_wp2_with fail
      go_ret
      exact ⟨by simp, HBw.out.trans (HB8.out.mono HBw.out.size)⟩
    · have HY := Aside0.mk (HE1.out x (by omega) HX1.out (by have := HS.out; rw [if_neg hneg] at this; omega))
      clear hmin
      go_wp2_with fail
      refine (rint_calls g _ w0 _ HI.out HB0.out x _ _ _ HY.out).mono ?_
      rintro e w6 ⟨rfl, hI6, hB6, hK6⟩
      have HI6 := Aside0.mk hI6
      have HB7 := Aside0.mk hB6
      clear hI6 hB6 hK6
      rw [HV.out]
      go_wp2_with fail
      refine (rbytes_calls g _ w0 _ HI6.out HB7.out (xs.length : Int) (by simp; omega) (by omega) _ _ _ HE2.out).mono ?_
      rintro e w7 ⟨v7, rfl, ho7, hI7, hB7, hK7⟩
      have HI7 := Aside0.mk hI7
      have HB8 := Aside0.mk hB7
      have hcv1 := own_string (P := Try.prog) Try.underlying23 Try.underlying5 Try.underlying9 (Kd.own_of_R ho7)
      have hcv2 := C_str (c := c) (Kd.C_below HR.out (HBw.out.trans (HB8.out.mono HBw.out.size)))
      clear hI7 hB7 hK7 ho7
      go_wp2_with fail
      refine (left_calls g [] w0 _ HI7.out).mono ?_
      rintro e w8 ⟨rfl, rfl⟩
      go_wp2_with fail
      go_ret
      exact ⟨by simp, HBw.out.trans (HB8.out.mono HBw.out.size)⟩

theorem codecSame_walk (x : Int) (A : Option Addr) (c : Nat) (xs : List Int) (w : World) (hx : (Lit.int .i64 x).wf = true) (hr : (Kd.int .u8).C w A xs.length xs) (hc : xs.length ≤ c) (hl : xs.length * 1 ≤ 140737488351232) (hb : ∀ x ∈ xs, (Lit.int .u8 x).wf = true) :
    Calls Try.prog 9 #[.int .i64 x, .slice A xs.length c] w fun e w' => e = .returned (.bool true) ∧ Below w.heap.size w w' := by
  obtain ⟨h0, h1⟩ := i64_bounds hx
  exact same_calls x h0 h1 A c xs w hr hc (by omega) (u8_bytes hb)
end Go.Proofs.Ytkdelfpjaaemnaa.Rd
