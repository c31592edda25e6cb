/- FrameSums, FrameAll: the laws' walks. -/
import Derived.Test.YtekakngojhnleaaFp
import Derived.Test.YtekakngojhnleaaWlk2
import Derived.Deep.RegionWith
import Derived.Lib.SlBytesConst
namespace Go.Proofs.Ytekakngojhnleaa.Fw
open Go.RowKit Go.Proofs.YtekakngojhnleaaW.PrintWords Go.Proofs.YtekakngojhnleaaW.PrintLast Go.Proofs.Ytekakngojhnleaa.Fs Go.Proofs.Ytekakngojhnleaa.Fp Go.Proofs.Ytekakngojhnleaa.Fns
set_option linter.unusedSimpArgs false
set_option linter.unusedVariables false

theorem u8_bounds {x : Int} (h : (Lit.int .u8 x).wf = true) : 0 ≤ x ∧ x < 256 := by
  simp only [Lit.wf, Bool.and_eq_true, IntKind.min, IntKind.max, IntKind.bits, IntKind.signed] at h
  simp at h
  omega
/-- A row of numbers that was just laid. -/
theorem const_reads (w : World) (t : TypeId) (fr : Nat × Nat) (k : IntKind) (xs : List Int) (hl : xs.length ≤ 9223372036854775807) : Kd.C (Kd.int k) (w.alloc (.cells (xs.map (Value.int k)).toArray t fr)) (some ⟨w.heap.size, 0, none⟩) xs.length xs := by
  refine Kd.C_of_reads (d := (0 : Int)) (h1 := fun _ => rfl) ⟨rfl, hl, fun _ => ⟨_, rfl, fun j hj => ?_⟩⟩
  rw [Addr.add_mid, Nat.zero_add, World.cell?_alloc_mark]
  simp [hj]

set_option maxRecDepth 100000 in
set_option maxHeartbeats 400000 in
theorem frameSums_walk (A0 : Option Addr) (c0 : Nat) (l0 : List Int) (w : World) (hr0 : Kd.C (Kd.int .u8) w A0 l0.length l0) (hc0 : l0.length ≤ c0) (hl : l0.length * 1 ≤ 140737488351232) (hw : ∀ x ∈ l0, (Lit.int .u8 x).wf = true) :
    Calls Try.prog 4 #[.slice A0 l0.length c0] w fun e w' => e = .returned (.bool true) ∧ Below w.heap.size w w' := by
  have HR := Aside0.mk hr0
  have HB := Aside0.mk (fun x hx => u8_bounds (hw x hx) : ∀ x ∈ l0, 0 ≤ x ∧ x < 256)
  have HL := Aside0.mk hl
  clear hr0 hw hl
  by_cases hbig : (l0.length : Int) > 3000000
  · go_enter Try.func4, Try.ntmps4
    go_wp2
    go_ret
    exact ⟨rfl, Below.refl _ _⟩
  · have kc := fun (w : World) (C : Array Value) (n c : Nat) => Lib.run_convert_bytes_const (P := Try.prog) w 30 5 C n c Try.underlying30 Try.underlying5
    go_enter Try.func4, Try.ntmps4
    go_wp2_with fail
    have HQ := Aside0.mk (const_reads w 5 (9, 10) .u8 [49, 50, 51, 52, 53, 54, 55, 56, 57] (by decide))
    clear kc
    refine (sum_calls (some ⟨w.heap.size, 0, none⟩) 9 [49, 50, 51, 52, 53, 54, 55, 56, 57] _ HQ.out (by decide) (by decide)).mono ?_
    rintro e w1 ⟨rfl, hb1⟩
    rw [crc_nine]
    have HB1 := Aside0.mk (((Below.refl _ w).alloc (Nat.le_refl _) _).trans (hb1.mono (by simp)))
    clear hb1 HQ
    have hone : (((3421780262 : Nat) : Int) == 3421780262) = true := by decide
    go_wp2_with fail
    refine (sum_calls A0 c0 l0 _ (Kd.C_below HR.out HB1.out) (by have := HL.out; omega) HB.out).mono ?_
    rintro e w2 ⟨rfl, hb2⟩
    have HB2 := Aside0.mk (HB1.out.trans (hb2.mono HB1.out.size))
    obtain ⟨s, hs⟩ : ∃ s : Nat, s = 4294967295 ^^^ crc l0 4294967295 := ⟨_, rfl⟩
    have HS := Aside0.mk hs
    rw [← hs]
    clear hb2 hs
    go_wp2_with fail
    refine (windbreakref10_Sum.calls (1 + 10 * l0.length) A0 c0 l0 (s : Int) _ (Kd.C_below HR.out HB2.out) hc0 (by rw [HS.out]; exact ref_sum l0 (by have := HL.out; omega) HB.out)).mono ?_
    rintro e w3 ⟨rfl, m, hm⟩
    subst hm
    go_wp2
    go_ret
    refine ⟨rfl, ?_⟩
    exact pw_below_drewN HB2.out _
set_option maxRecDepth 100000 in
set_option maxHeartbeats 400000 in
theorem frameAll_walk (A0 : Option Addr) (c0 : Nat) (l0 : List Int) (w : World) (hr0 : Kd.C (Kd.int .u8) w A0 l0.length l0) (hc0 : l0.length ≤ c0) (hl : l0.length * 1 ≤ 140737488351232) (hw : ∀ x ∈ l0, (Lit.int .u8 x).wf = true) :
    Calls Try.prog 5 #[.slice A0 l0.length c0] w fun e w' => e = .returned (.bool true) ∧ Below w.heap.size w w' := by
  have HR := Aside0.mk hr0
  have HB := Aside0.mk (fun x hx => u8_bounds (hw x hx) : ∀ x ∈ l0, 0 ≤ x ∧ x < 256)
  have HL := Aside0.mk hl
  clear hr0 hw hl
  by_cases hbig : (l0.length : Int) > 3000000
  · go_enter Try.func5, Try.ntmps5
    go_wp2
    go_ret
    exact ⟨rfl, Below.refl _ _⟩
  · go_enter Try.func5, Try.ntmps5
    go_wp2_with fail
    refine (sum_calls A0 c0 l0 _ HR.out (by have := HL.out; omega) HB.out).mono ?_
    rintro e w1 ⟨rfl, hb1⟩
    obtain ⟨s, hs⟩ : ∃ s : Nat, s = 4294967295 ^^^ crc l0 4294967295 := ⟨_, rfl⟩
    have HS := Aside0.mk hs
    have HB1 := Aside0.mk hb1
    rw [← hs]
    clear hb1 hs
    have HE := Aside0.mk (Rd.R_empty (Kd.int .u8) 5 w1 w1.heap.size (Nat.le_refl _))
    have hs32 : s < 4294967296 := by
      rw [HS.out]
      exact Nat.xor_lt_two_pow (n := 32) (by omega) (crc_lt l0 HB.out _ (by omega))
    have e1 : (s : Int) / 256 % 256 = ((s / 256 % 256 : Nat) : Int) := by omega
    have e0 : (s : Int) % 256 = ((s % 256 : Nat) : Int) := by omega
    have e2 : (s : Int) / 65536 % 256 = ((s / 65536 % 256 : Nat) : Int) := by omega
    have e3 : (s : Int) / 16777216 % 256 = ((s / 16777216 % 256 : Nat) : Int) := by omega
    obtain ⟨b0, h0⟩ : ∃ b, b = s % 256 := ⟨_, rfl⟩
    obtain ⟨b1, h1⟩ : ∃ b, b = s / 256 % 256 := ⟨_, rfl⟩
    obtain ⟨b2, h2⟩ : ∃ b, b = s / 65536 % 256 := ⟨_, rfl⟩
    obtain ⟨b3, h3⟩ : ∃ b, b = s / 16777216 % 256 := ⟨_, rfl⟩
    rw [← h0] at e0
    rw [← h1] at e1
    rw [← h2] at e2
    rw [← h3] at e3
    have HH := Aside0.mk (And.intro h0 (And.intro h1 (And.intro h2 (And.intro h3 hs32))))
    clear h0 h1 h2 h3 hs32
    go_wp2_with (first
      | (at_builtin; refine Rd.bytes_app (w0 := w1) w1.heap.size rfl (.tmp 10) (.tmp 11) rfl _ [] l0 _ _ _ rfl rfl HE.out (Kd.C_alloc (Kd.C_below HR.out HB1.out) _) (below_alloc (Below.refl _ _) _) (by simp) (by simp; omega) ?_; intro A2 n2 c2 w2 hn2 ho2 hr2 hb2 _)
      | (at_builtin; go_loud (refine Rd.bytes_app (w0 := w1) w1.heap.size rfl (.tmp 12) (.tmp 24) rfl _ _ [(b0 : Int), b1, b2, b3] _ 4 _ rfl rfl (Kd.R_alloc ho2 _) (const_reads w2 5 (0, 0) .u8 [(b0 : Int), b1, b2, b3] (by simp)) (below_alloc hb2 _) (below_alloc hb2 _).size (by simp; omega) ?_); intro A3 n3 c3 w3 hn3 ho3 hr3 hb3 _))
    have hb4 : ∀ x ∈ ([] ++ l0) ++ [(b0 : Int), b1, b2, b3], 0 ≤ x ∧ x < 256 := by
      obtain ⟨h0, h1, h2, h3, _⟩ := HH.out
      intro x hx
      simp only [List.nil_append, List.mem_append, List.mem_cons, List.not_mem_nil, or_false] at hx
      rcases hx with hx | rfl | rfl | rfl | rfl
      · exact HB.out x hx
      all_goals omega
    have hown : 4294967295 ^^^ crc (([] ++ l0) ++ [(b0 : Int), b1, b2, b3]) 4294967295 = 558161692 := by
      obtain ⟨h0, h1, h2, h3, h4⟩ := HH.out
      rw [crc_append, List.nil_append]
      refine crc_own _ b0 b1 b2 b3 (by omega) (by omega) (by omega) (by omega) ?_
      rw [← HS.out]
      omega
    have HO := Aside0.mk hown
    have HB4 := Aside0.mk hb4
    clear hown hb4 e0 e1 e2 e3 HH HE
    refine (sum_calls' A3 n3 c3 _ _ hr3 (by simp; omega) HB4.out).mono ?_
    rintro e w4 ⟨rfl, hb4⟩
    rw [HO.out]
    have hend : (((558161692 : Nat) : Int) == 558161692) = true := by decide
    have HE := Aside0.mk (show Below w.heap.size w w4 from HB1.out.trans ((hb3.trans (hb4.mono hb3.size)).mono HB1.out.size))
    clear hb2 hb3 hb4
    go_wp2
    go_ret
    exact ⟨rfl, HE.out⟩
end Go.Proofs.Ytekakngojhnleaa.Fw
