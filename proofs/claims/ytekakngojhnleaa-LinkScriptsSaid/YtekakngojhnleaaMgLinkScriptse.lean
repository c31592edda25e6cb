/- Parts of the proof of LinkScripts, merged: each is proved for all its inputs. -/
import Derived.Test.YtekakngojhnleaaMgLinkScriptsd
import Derived.Deep.RegionWith
import Derived.Lib.SlBytesConst
import Derived.SizedLaws
import Derived.ChangeSlices
import Derived.OpenShut
import Derived.Test.YtekakngojhnleaaWWords
import Derived.Test.YtekakngojhnleaaWArr
import Derived.Test.YtekakngojhnleaaProg
import Derived.WideShapes
import Derived.Test.YtekakngojhnleaaMgLinkScriptsc
/- FrameSums, FrameAll: the laws' walks. -/
namespace Go.Proofs.Ytekakngojhnleaa.Fw
open Go.RowKit Go.Proofs.YtekakngojhnleaaW.PrintWords Go.Proofs.YtekakngojhnleaaW.PrintLast Go.Proofs.Ytekakngojhnleaa.Fs Go.Proofs.Ytekakngojhnleaa.Fp Go.Proofs.Ytekakngojhnleaa.Fns
set_option linter.unusedSimpArgs false
set_option linter.unusedVariables false

theorem u8_bounds {x : Int} (h : (Lit.int .u8 x).wf = true) : 0 ≤ x ∧ x < 256 := by
  simp only [Lit.wf, Bool.and_eq_true, IntKind.min, IntKind.max, IntKind.bits, IntKind.signed] at h
  simp at h
  omega
/-- A row of numbers that was just laid. -/
theorem const_reads (w : World) (t : TypeId) (fr : Nat × Nat) (k : IntKind) (xs : List Int) (hl : xs.length ≤ 9223372036854775807) : Kd.C (Kd.int k) (w.alloc (.cells (xs.map (Value.int k)).toArray t fr)) (some ⟨w.heap.size, 0, none⟩) xs.length xs := by
  refine Kd.C_of_reads (d := (0 : Int)) (h1 := fun _ => rfl) ⟨rfl, hl, fun _ => ⟨_, rfl, fun j hj => ?_⟩⟩
  rw [Addr.add_mid, Nat.zero_add, World.cell?_alloc_mark]
  simp [hj]

set_option maxRecDepth 100000 in
set_option maxHeartbeats 400000 in
theorem frameSums_walk (A0 : Option Addr) (c0 : Nat) (l0 : List Int) (w : World) (hr0 : Kd.C (Kd.int .u8) w A0 l0.length l0) (hc0 : l0.length ≤ c0) (hl : l0.length * 1 ≤ 140737488351232) (hw : ∀ x ∈ l0, (Lit.int .u8 x).wf = true) :
    Calls Try.prog 4 #[.slice A0 l0.length c0] w fun e w' => e = .returned (.bool true) ∧ Below w.heap.size w w' := by
  have HR := Aside0.mk hr0
  have HB := Aside0.mk (fun x hx => u8_bounds (hw x hx) : ∀ x ∈ l0, 0 ≤ x ∧ x < 256)
  have HL := Aside0.mk hl
  clear hr0 hw hl
  by_cases hbig : (l0.length : Int) > 3000000
  · go_enter Try.func4, Try.ntmps4
    go_wp2
    go_ret
    exact ⟨rfl, Below.refl _ _⟩
  · have kc := fun (w : World) (C : Array Value) (n c : Nat) => Lib.run_convert_bytes_const (P := Try.prog) w 30 5 C n c Try.underlying30 Try.underlying5
    go_enter Try.func4, Try.ntmps4
    go_wp2_with fail
    have HQ := Aside0.mk (const_reads w 5 (9, 10) .u8 [49, 50, 51, 52, 53, 54, 55, 56, 57] (by decide))
    clear kc
    refine (sum_calls (some ⟨w.heap.size, 0, none⟩) 9 [49, 50, 51, 52, 53, 54, 55, 56, 57] _ HQ.out (by decide) (by decide)).mono ?_
    rintro e w1 ⟨rfl, hb1⟩
    rw [crc_nine]
    have HB1 := Aside0.mk (((Below.refl _ w).alloc (Nat.le_refl _) _).trans (hb1.mono (by simp)))
    clear hb1 HQ
    have hone : (((3421780262 : Nat) : Int) == 3421780262) = true := by decide
    go_wp2_with fail
    refine (sum_calls A0 c0 l0 _ (Kd.C_below HR.out HB1.out) (by have := HL.out; omega) HB.out).mono ?_
    rintro e w2 ⟨rfl, hb2⟩
    have HB2 := Aside0.mk (HB1.out.trans (hb2.mono HB1.out.size))
    obtain ⟨s, hs⟩ : ∃ s : Nat, s = 4294967295 ^^^ crc l0 4294967295 := ⟨_, rfl⟩
    have HS := Aside0.mk hs
    rw [← hs]
    clear hb2 hs
    go_wp2_with fail
    refine (windbreakref10_Sum.calls (1 + 10 * l0.length) A0 c0 l0 (s : Int) _ (Kd.C_below HR.out HB2.out) hc0 (by rw [HS.out]; exact ref_sum l0 (by have := HL.out; omega) HB.out)).mono ?_
    rintro e w3 ⟨rfl, m, hm⟩
    subst hm
    go_wp2
    go_ret
    refine ⟨rfl, ?_⟩
    exact pw_below_drewN HB2.out _
set_option maxRecDepth 100000 in
set_option maxHeartbeats 400000 in
theorem frameAll_walk (A0 : Option Addr) (c0 : Nat) (l0 : List Int) (w : World) (hr0 : Kd.C (Kd.int .u8) w A0 l0.length l0) (hc0 : l0.length ≤ c0) (hl : l0.length * 1 ≤ 140737488351232) (hw : ∀ x ∈ l0, (Lit.int .u8 x).wf = true) :
    Calls Try.prog 5 #[.slice A0 l0.length c0] w fun e w' => e = .returned (.bool true) ∧ Below w.heap.size w w' := by
  have HR := Aside0.mk hr0
  have HB := Aside0.mk (fun x hx => u8_bounds (hw x hx) : ∀ x ∈ l0, 0 ≤ x ∧ x < 256)
  have HL := Aside0.mk hl
  clear hr0 hw hl
  by_cases hbig : (l0.length : Int) > 3000000
  · go_enter Try.func5, Try.ntmps5
    go_wp2
    go_ret
    exact ⟨rfl, Below.refl _ _⟩
  · go_enter Try.func5, Try.ntmps5
    go_wp2_with fail
    refine (sum_calls A0 c0 l0 _ HR.out (by have := HL.out; omega) HB.out).mono ?_
    rintro e w1 ⟨rfl, hb1⟩
    obtain ⟨s, hs⟩ : ∃ s : Nat, s = 4294967295 ^^^ crc l0 4294967295 := ⟨_, rfl⟩
    have HS := Aside0.mk hs
    have HB1 := Aside0.mk hb1
    rw [← hs]
    clear hb1 hs
    have HE := Aside0.mk (Rd.R_empty (Kd.int .u8) 5 w1 w1.heap.size (Nat.le_refl _))
    have hs32 : s < 4294967296 := by
      rw [HS.out]
      exact Nat.xor_lt_two_pow (n := 32) (by omega) (crc_lt l0 HB.out _ (by omega))
    have e1 : (s : Int) / 256 % 256 = ((s / 256 % 256 : Nat) : Int) := by omega
    have e0 : (s : Int) % 256 = ((s % 256 : Nat) : Int) := by omega
    have e2 : (s : Int) / 65536 % 256 = ((s / 65536 % 256 : Nat) : Int) := by omega
    have e3 : (s : Int) / 16777216 % 256 = ((s / 16777216 % 256 : Nat) : Int) := by omega
    obtain ⟨b0, h0⟩ : ∃ b, b = s % 256 := ⟨_, rfl⟩
    obtain ⟨b1, h1⟩ : ∃ b, b = s / 256 % 256 := ⟨_, rfl⟩
    obtain ⟨b2, h2⟩ : ∃ b, b = s / 65536 % 256 := ⟨_, rfl⟩
    obtain ⟨b3, h3⟩ : ∃ b, b = s / 16777216 % 256 := ⟨_, rfl⟩
    rw [← h0] at e0
    rw [← h1] at e1
    rw [← h2] at e2
    rw [← h3] at e3
    have HH := Aside0.mk (And.intro h0 (And.intro h1 (And.intro h2 (And.intro h3 hs32))))
    clear h0 h1 h2 h3 hs32
    go_wp2_with (first
      | (at_builtin; refine Rd.bytes_app (w0 := w1) w1.heap.size rfl (.tmp 10) (.tmp 11) rfl _ [] l0 _ _ _ rfl rfl HE.out (Kd.C_alloc (Kd.C_below HR.out HB1.out) _) (below_alloc (Below.refl _ _) _) (by simp) (by simp; omega) ?_; intro A2 n2 c2 w2 hn2 ho2 hr2 hb2 _)
      | (at_builtin; go_loud (refine Rd.bytes_app (w0 := w1) w1.heap.size rfl (.tmp 12) (.tmp 24) rfl _ _ [(b0 : Int), b1, b2, b3] _ 4 _ rfl rfl (Kd.R_alloc ho2 _) (const_reads w2 5 (0, 0) .u8 [(b0 : Int), b1, b2, b3] (by simp)) (below_alloc hb2 _) (below_alloc hb2 _).size (by simp; omega) ?_); intro A3 n3 c3 w3 hn3 ho3 hr3 hb3 _))
    have hb4 : ∀ x ∈ ([] ++ l0) ++ [(b0 : Int), b1, b2, b3], 0 ≤ x ∧ x < 256 := by
      obtain ⟨h0, h1, h2, h3, _⟩ := HH.out
      intro x hx
      simp only [List.nil_append, List.mem_append, List.mem_cons, List.not_mem_nil, or_false] at hx
      rcases hx with hx | rfl | rfl | rfl | rfl
      · exact HB.out x hx
      all_goals omega
    have hown : 4294967295 ^^^ crc (([] ++ l0) ++ [(b0 : Int), b1, b2, b3]) 4294967295 = 558161692 := by
      obtain ⟨h0, h1, h2, h3, h4⟩ := HH.out
      rw [crc_append, List.nil_append]
      refine crc_own _ b0 b1 b2 b3 (by omega) (by omega) (by omega) (by omega) ?_
      rw [← HS.out]
      omega
    have HO := Aside0.mk hown
    have HB4 := Aside0.mk hb4
    clear hown hb4 e0 e1 e2 e3 HH HE
    refine (sum_calls' A3 n3 c3 _ _ hr3 (by simp; omega) HB4.out).mono ?_
    rintro e w4 ⟨rfl, hb4⟩
    rw [HO.out]
    have hend : (((558161692 : Nat) : Int) == 558161692) = true := by decide
    have HE := Aside0.mk (show Below w.heap.size w w4 from HB1.out.trans ((hb3.trans (hb4.mono hb3.size)).mono HB1.out.size))
    clear hb2 hb3 hb4
    go_wp2
    go_ret
    exact ⟨rfl, HE.out⟩
end Go.Proofs.Ytekakngojhnleaa.Fw
/- Frames: frame.Encode. -/
namespace Go.Proofs.Ytekakngojhnleaa.En
set_option linter.unusedSimpArgs false
set_option linter.unusedVariables false
open Go.RowKit Go.Proofs.Ytekakngojhnleaa.Fns Go.Proofs.Ytekakngojhnleaa.Rd Go.Proofs.Ytekakngojhnleaa.Rt Go.Proofs.Ytekakngojhnleaa.Fs Go.Proofs.Ytekakngojhnleaa.Fp Go.Proofs.YtekakngojhnleaaW.PrintWords Go.Proofs.YtekakngojhnleaaW.PrintLast Go.Proofs.YtekakngojhnleaaW.PrintMore

/-- The four bytes of a sum, the highest first. -/
def be4 (s : Nat) : List Int := [((s / 16777216 % 256 : Nat) : Int), ((s / 65536 % 256 : Nat) : Int), ((s / 256 % 256 : Nat) : Int), ((s % 256 : Nat) : Int)]
def sumN (l : List Int) : Nat := 4294967295 ^^^ crc l 4294967295
/-- A frame's bytes ahead of the sum. -/
def headL (d : Bool) (s a : Nat) (l : List Int) : List Int := (([if d then 1 else 0] ++ enc 9 s) ++ enc 9 a) ++ (enc 9 l.length ++ l)
def frameL (d : Bool) (s a : Nat) (l : List Int) : List Int := headL d s a l ++ be4 (sumN (headL d s a l))

theorem R_row (w : World) (base : Nat) (xs : List Int) (k : IntKind) (e : Nat) (hl : xs.length ≤ 9223372036854775807) (hb : base ≤ w.heap.size) : (Kd.int k).R e (w.alloc (.cells (xs.map (Value.int k)).toArray e)) base (fun _ => True) (.slice (some ⟨w.heap.size, 0, none⟩) xs.length xs.length) xs := by
  refine ⟨fun _ _ => trivial, xs.map (Value.int k), ?_, Kd.reps_scalar xs⟩
  have h := World.ownsRow_lit (base := base) (e := e) (size := 1) w (xs.map (Value.int k)).toArray xs.length hb (by simpa [maxLen] using hl) (by simp)
  have e1 : (xs.map (Value.int k)).toArray.toList = xs.map (Value.int k) := rfl
  rw [e1] at h
  exact h

theorem head_bytes (d : Bool) (s a : Nat) (l : List Int) (hs : s ≤ 1073741824) (ha : a ≤ 1073741824) (hl : l.length ≤ 1048576) (hb : ∀ x ∈ l, 0 ≤ x ∧ x < 256) : ∀ x ∈ headL d s a l, 0 ≤ x ∧ x < 256 := by
  have hp : (128 : Nat) ^ (9 + 1) = 1180591620717411303424 := by decide
  intro x hx
  unfold headL at hx
  simp only [List.mem_append, List.mem_cons, List.not_mem_nil, or_false] at hx
  rcases hx with ((hx | hx) | hx) | hx | hx
  · subst hx
    cases d <;> decide
  · exact enc_bytes 9 s (by omega) x hx
  · exact enc_bytes 9 a (by omega) x hx
  · exact enc_bytes 9 l.length (by omega) x hx
  · exact hb x hx
theorem bytes_is (l : List Int) (h : l.length ≤ 1048576) : codec_Bytes.f 10 l = some (enc 9 l.length ++ l) := by
  have hw : IntKind.u64.wrap (l.length : Int) = (l.length : Int) := by rw [IntKind.wrap_u64]; omega
  unfold codec_Bytes.f
  rw [hw, number_is l.length (by omega), Option.bind_some, if_pos (by have := enc_le 9 l.length; omega)]

set_option maxRecDepth 100000 in
set_option maxHeartbeats 1000000 in
theorem encode_no (d : Bool) (s a : Int) (A : Option Addr) (n c : Nat) (w : World) (h : rightB d s a n = false) :
    Calls Try.prog 26 #[.agg #[.bool d, .int .i64 s, .int .i64 a, .slice A n c]] w fun e w' => e = .returned (.tuple #[.slice none 0 0, .int .i64 1]) ∧ Below w.heap.size w w' := by
  have H := Aside0.mk h
  clear h
  go_enter Try.func26, Try.ntmps26
  go_wp2_with fail
  refine (right_is d s a A n c _ false H.out).mono ?_
  rintro e w1 ⟨rfl, rfl⟩
  go_wp2_with fail
  go_ret2
  exact ⟨rfl, below_alloc (below_alloc (Below.refl _ _) _) _⟩

set_option maxRecDepth 100000 in
set_option maxHeartbeats 2000000 in
theorem encode_yes (d : Bool) (s a : Nat) (A : Option Addr) (c : Nat) (l : List Int) (w : World) (hr : Kd.C (Kd.int .u8) w A l.length l) (hc : l.length ≤ c) (h : rightB d s a l.length = true) (hs : s ≤ 1073741824) (ha : a ≤ 1073741824) (hl : l.length ≤ 1048576) (hb : ∀ x ∈ l, 0 ≤ x ∧ x < 256) :
    Calls Try.prog 26 #[.agg #[.bool d, .int .i64 (s : Int), .int .i64 (a : Int), .slice A l.length c]] w fun e w' => ∃ v, e = .returned (.tuple #[v, .int .i64 0]) ∧ (Kd.int .u8).R 5 w' w.heap.size (fun _ => True) v (frameL d s a l) ∧ Below w.heap.size w w' := by
  have H := Aside0.mk h
  have HR := Aside0.mk hr
  have HB := Aside0.mk hb
  have HS := Aside0.mk (And.intro hs (And.intro ha hl))
  clear h hr hb hs ha hl
  go_enter Try.func26, Try.ntmps26
  go_wp2_with fail
  refine (right_is d s a A l.length c _ true H.out).mono ?_
  rintro e w1 ⟨rfl, rfl⟩
  obtain ⟨W1, hW1⟩ : ∃ W, W = w.alloc (.cells #[.bool d, .int .i64 (s : Int), .int .i64 (a : Int), .slice A l.length c] 53) := ⟨_, rfl⟩
  rw [← hW1]
  have hws : IntKind.u64.wrap (s : Int) = s := by rw [IntKind.wrap_u64]; have := HS.out; omega
  have hwa : IntKind.u64.wrap (a : Int) = a := by rw [IntKind.wrap_u64]; have := HS.out; omega
  have hB1 : Below w.heap.size w W1 := by rw [hW1]; exact below_alloc (Below.refl _ _) _
  have hz1 : W1.heap.size = w.heap.size + 1 := by rw [hW1]; simp
  have hc1 : W1.cell? ⟨w.heap.size, 1, none⟩ = some (.int .i64 (s : Int)) := by rw [hW1, World.cell?_alloc_mark]; rfl
  have hc2 : W1.cell? ⟨w.heap.size, 2, none⟩ = some (.int .i64 (a : Int)) := by rw [hW1, World.cell?_alloc_mark]; rfl
  have hc3 : W1.cell? ⟨w.heap.size, 3, none⟩ = some (.slice A l.length c) := by rw [hW1, World.cell?_alloc_mark]; rfl
  have HC := Aside0.mk (And.intro hc1 (And.intro hc2 hc3))
  have HB1 := Aside0.mk hB1
  have HZ := Aside0.mk hz1
  have hc0 : W1.cell? ⟨w.heap.size, 0, none⟩ = some (.bool d) := by rw [hW1, World.cell?_alloc_mark]; rfl
  clear hc1 hc2 hc3 hB1 hz1 hW1
  obtain ⟨W2, hW2⟩ : ∃ W, W = (W1.alloc (.cells #[.bool d, .int .i64 (s : Int), .int .i64 (a : Int), .slice A l.length c] 53)) := ⟨_, rfl⟩
  rw [← hW2]
  have hB2 : Below W1.heap.size W1 W2 := by rw [hW2]; exact below_alloc (Below.refl _ _) _
  have HB2 := Aside0.mk hB2
  have hc0' := (hB2.cell (p := ⟨w.heap.size, 0, none⟩) (show w.heap.size < W1.heap.size by rw [HZ.out]; omega)).trans hc0
  have hlt2 : w.heap.size < W2.heap.size := Nat.lt_of_lt_of_le (by rw [HZ.out]; omega) hB2.size
  have hc0a : ∀ o, (W2.alloc o).cell? ⟨w.heap.size, 0, none⟩ = some (.bool d) := fun o => ((Below.refl W2.heap.size W2).alloc (Nat.le_refl _) o |>.cell (p := ⟨w.heap.size, 0, none⟩) hlt2).trans hc0'
  have hc1a : ∀ o, (W2.alloc o).cell? ⟨w.heap.size, 1, none⟩ = some (.int .i64 (s : Int)) := fun o => (((Below.refl W2.heap.size W2).alloc (Nat.le_refl _) o).cell (p := ⟨w.heap.size, 1, none⟩) hlt2).trans ((HB2.out.cell (p := ⟨w.heap.size, 1, none⟩) (show w.heap.size < W1.heap.size by rw [HZ.out]; omega)).trans HC.out.1)
  have HLT := Aside0.mk hlt2
  clear hc0 hW2 hB2 hlt2 hc0'
  obtain ⟨x, hx⟩ : ∃ x : Int, x = if d then 1 else 0 := ⟨_, rfl⟩
  have HX := Aside0.mk hx
  clear hx
  have HN1 := Aside0.mk (number_is s (by have := HS.out; omega))
  have HN2 := Aside0.mk (number_is a (by have := HS.out; omega))
  have HBY := Aside0.mk (bytes_is l (by have := HS.out; omega))
  obtain ⟨D, hD⟩ : ∃ D, D = headL d s a l := ⟨_, rfl⟩
  have HD := Aside0.mk hD
  have HH := Aside0.mk (show (([x] ++ enc 9 s) ++ enc 9 a) ++ (enc 9 l.length ++ l) = D by rw [hD, HX.out]; rfl)
  have HDL := Aside0.mk (show D.length ≤ 1048610 by have := enc_le 9 s; have := enc_le 9 a; have := enc_le 9 l.length; have := HS.out; rw [← HH.out]; simp only [List.length_append, List.length_cons, List.length_nil]; omega)
  have HDB := Aside0.mk (head_bytes d s a l (by have := HS.out; omega) (by have := HS.out; omega) (by have := HS.out; omega) HB.out)
  rw [← hD] at HDB
  clear hD
  cases d
  all_goals
    go_wp2_with fail
    obtain ⟨W3, hW3⟩ : ∃ W, W = W2.alloc (.cells (([x].map (Value.int .u8)).toArray) 5) := ⟨_, rfl⟩
    have hx := HX.out
    simp only [if_true, Bool.false_eq_true, if_false] at hx
    have hE : (Kd.int .u8).R 5 W3 W1.heap.size (fun _ => True) (.slice (some ⟨W2.heap.size, 0, none⟩) 1 1) [x] := by rw [hW3]; exact R_row W2 W1.heap.size [x] .u8 5 (by simp) HB2.out.size
    have hB3 : Below W1.heap.size W1 W3 := by rw [hW3]; exact below_alloc HB2.out _
    rw [hx] at hW3
    change W3 = W2.alloc (.cells #[.int .u8 _] 5) at hW3
    rw [← hW3]
    have HE := Aside0.mk hE
    have HB3 := Aside0.mk hB3
    clear hE hB3 hW3 hx hc1a hc0a
    refine (codec_Number.calls 10 (s : Int) _ _ HN1.out).mono ?_
    rintro e w4 ⟨v4, rfl, ho4, hb4⟩
    obtain ⟨A4, c4, rfl, hc4, hr4⟩ := Kd.R_reads ho4
    have HR4 := Aside0.mk hr4
    have HE4 := Aside0.mk (Kd.R_below HE.out hb4)
    have HB4 := Aside0.mk (HB3.out.trans (hb4.mono HB3.out.size))
    clear ho4 hr4 hb4
    go_wp2_with (at_builtin; go_loud (refine bytes_app (w0 := W1) W1.heap.size rfl (.tmp 14) (.tmp 18) rfl _ _ _ _ _ _ rfl rfl HE4.out HR4.out HB4.out HB4.out.size (by have := enc_le 9 s; simp; omega) ?_); intro A5 n5 c5 w5 hn5 ho5 hr5 hb5 _; have HO5 := Aside0.mk ho5; have HB5 := Aside0.mk hb5; have hc2 := (hb5.cell (p := ⟨w.heap.size, 2, none⟩) (show w.heap.size < W1.heap.size by rw [HZ.out]; omega)).trans HC.out.2.1; clear ho5 hr5 hb5)
    clear hws
    refine (codec_Number.calls 10 (a : Int) _ _ HN2.out).mono ?_
    rintro e w6 ⟨v6, rfl, ho6, hb6⟩
    obtain ⟨A6, c6, rfl, hc6, hr6⟩ := Kd.R_reads ho6
    have HR6 := Aside0.mk hr6
    have HE6 := Aside0.mk (Kd.R_below HO5.out hb6)
    have HB6 := Aside0.mk (HB5.out.trans (hb6.mono HB5.out.size))
    clear ho6 hr6 hb6 HO5 HB5 HE4 HR4 HB4 HE HB3
    go_wp2_with (at_builtin; go_loud (refine bytes_app (w0 := W1) W1.heap.size rfl (.tmp 20) (.tmp 24) rfl _ _ _ _ _ _ rfl rfl HE6.out HR6.out HB6.out HB6.out.size (by have := enc_le 9 s; have := enc_le 9 a; simp; omega) ?_); intro A7 n7 c7 w7 hn7 ho7 hr7 hb7 _; have HO7 := Aside0.mk ho7; have HB7 := Aside0.mk hb7; have hc3 := (hb7.cell (p := ⟨w.heap.size, 3, none⟩) (show w.heap.size < W1.heap.size by rw [HZ.out]; omega)).trans HC.out.2.2; clear ho7 hr7 hb7)
    have hw7 : Below w.heap.size w w7 := HB1.out.trans (HB7.out.mono HB1.out.size)
    refine (codec_Bytes.calls 10 A c l _ _ (Kd.C_below HR.out hw7) hc HBY.out).mono ?_
    rintro e w8 ⟨v8, rfl, ho8, hb8⟩
    obtain ⟨A8, c8, rfl, hc8, hr8⟩ := Kd.R_reads ho8
    obtain ⟨n8, hn8⟩ : ∃ n8, n8 = (enc 9 l.length ++ l).length := ⟨_, rfl⟩
    rw [← hn8] at hr8 ⊢
    have HN8 := Aside0.mk (show n8 ≤ 1048586 by have := enc_le 9 l.length; have := HS.out; rw [hn8, List.length_append]; omega)
    clear hn8 hc8
    have HR8 := Aside0.mk hr8
    have HE8 := Aside0.mk (Kd.R_below HO7.out hb8)
    have HB8 := Aside0.mk (HB7.out.trans (hb8.mono HB7.out.size))
    clear ho8 hr8 hb8 HO7 HB7 HE6 HR6 HB6 hw7
    go_wp2_with (at_builtin; go_loud (refine bytes_app (w0 := W1) W1.heap.size rfl (.tmp 26) (.tmp 29) rfl _ _ _ _ _ _ rfl rfl HE8.out HR8.out HB8.out HB8.out.size (by have := enc_le 9 s; have := enc_le 9 a; have := HN8.out; simp; omega) ?_); intro A9 n9 c9 w9 hn9 ho9 hr9 hb9 _; have HO9 := Aside0.mk ho9; have HB9 := Aside0.mk hb9; have HR9 := Aside0.mk hr9; clear ho9 hr9 hb9)
    rw [HH.out] at HO9 HR9 hn9
    have HE9 := Aside0.mk hn9.out
    clear hn9
    refine (sum_calls' A9 n9 c9 D _ HR9.out (by have := HDL.out; omega) HDB.out).mono ?_
    rintro e w10 ⟨rfl, hb10⟩
    have HE10 := Aside0.mk (Kd.R_below HO9.out hb10)
    have HB10 := Aside0.mk (HB9.out.trans (hb10.mono HB9.out.size))
    obtain ⟨S, hS⟩ : ∃ S : Nat, S = 4294967295 ^^^ crc D 4294967295 := ⟨_, rfl⟩
    have HSU := Aside0.mk hS
    rw [← hS]
    clear hS hb10
    have e0 : (S : Int) % 256 = ((S % 256 : Nat) : Int) := by omega
    have e1 : (S : Int) / 256 % 256 = ((S / 256 % 256 : Nat) : Int) := by omega
    have e2 : (S : Int) / 65536 % 256 = ((S / 65536 % 256 : Nat) : Int) := by omega
    have e3 : (S : Int) / 16777216 % 256 = ((S / 16777216 % 256 : Nat) : Int) := by omega
    obtain ⟨b0, h0⟩ : ∃ b, b = S % 256 := ⟨_, rfl⟩
    obtain ⟨b1, h1⟩ : ∃ b, b = S / 256 % 256 := ⟨_, rfl⟩
    obtain ⟨b2, h2⟩ : ∃ b, b = S / 65536 % 256 := ⟨_, rfl⟩
    obtain ⟨b3, h3⟩ : ∃ b, b = S / 16777216 % 256 := ⟨_, rfl⟩
    rw [← h0] at e0
    rw [← h1] at e1
    rw [← h2] at e2
    rw [← h3] at e3
    have HF := Aside0.mk (show D ++ [(b3 : Int), b2, b1, b0] = frameL _ s a l by unfold frameL be4 sumN; rw [← HD.out, ← HSU.out, ← h0, ← h1, ← h2, ← h3])
    clear h0 h1 h2 h3
    go_wp2_with (at_builtin; go_loud (refine bytes_app (w0 := W1) W1.heap.size rfl (.tmp 33) (.tmp 45) rfl _ _ [(b3 : Int), b2, b1, b0] _ 4 _ rfl rfl (Kd.R_alloc HE10.out _) (Fw.const_reads w10 5 (0, 0) .u8 [(b3 : Int), b2, b1, b0] (by simp)) (HB10.out.alloc HB10.out.size _) (HB10.out.alloc HB10.out.size _).size (by have := HDL.out; simp; omega) ?_); intro A11 n11 c11 w11 hn11 ho11 hr11 hb11 _)
    rw [HF.out] at ho11
    have HO := Aside0.mk (Kd.R_lower ho11 HB1.out.size)
    have HBE := Aside0.mk (HB1.out.trans (hb11.mono HB1.out.size))
    clear ho11 hr11 hb11
    go_wp2_with fail
    go_ret2
    exact ⟨_, rfl, HO.out, HBE.out⟩
end Go.Proofs.Ytekakngojhnleaa.En
/- FrameEncodes: what the document's Encode tells, as plain numbers. -/
namespace Go.Proofs.Ytekakngojhnleaa.En
set_option linter.unusedSimpArgs false
set_option linter.unusedVariables false
open Go.RowKit Go.Proofs.Ytekakngojhnleaa.Fns Go.Proofs.Ytekakngojhnleaa.Rd Go.Proofs.Ytekakngojhnleaa.Rt Go.Proofs.Ytekakngojhnleaa.Fs Go.Proofs.Ytekakngojhnleaa.Fp Go.Proofs.Ytekakngojhnleaa.Plain Go.Proofs.YtekakngojhnleaaW.PrintWords Go.Proofs.YtekakngojhnleaaW.PrintLast Go.Proofs.YtekakngojhnleaaW.PrintMore

theorem refnumber_is (x : Nat) (hx : x < 18446744073709551616) (k : Nat) (hk : 10 ≤ k) : windbreakref09_Number.f k (x : Int) = some (enc 9 x) := by
  obtain ⟨r, h1, h2, _⟩ := number_all (x : Int) (by omega) (by omega)
  rw [number_is x hx] at h1
  obtain rfl := Option.some.inj h1
  exact at_rounds (fun k => windbreakref09_Number.mono (x : Int) k) hk h2
theorem refbytes_is (l : List Int) (h : l.length ≤ 1048576) (k : Nat) (hk : 10 ≤ k) : windbreakref09_Bytes.f k l = some (enc 9 l.length ++ l) := by
  have hw : IntKind.u64.wrap (l.length : Int) = (l.length : Int) := by rw [IntKind.wrap_u64]; omega
  unfold windbreakref09_Bytes.f
  rw [hw, refnumber_is l.length (by omega) k hk, Option.bind_some, if_pos (by have := enc_le 9 l.length; omega)]

theorem rightB_ref (d : Bool) (s a : Int) (l : List Int) : windbreakref10_Right.f d s a l = some (rightB d s a l.length) := by
  unfold windbreakref10_Right.f rightB within
  by_cases h1 : s < 0
  · rw [if_pos h1]; simp; omega
  · rw [if_neg h1]
    by_cases h2 : s > 1073741824
    · rw [if_pos h2]; simp; omega
    · rw [if_neg h2]
      by_cases h3 : a < 0
      · rw [if_pos h3]; simp; omega
      · rw [if_neg h3]
        by_cases h4 : a > 1073741824
        · rw [if_pos h4]; simp; omega
        · rw [if_neg h4]
          by_cases h5 : (l.length : Int) > 1048576
          · rw [if_pos h5]; simp; omega
          · rw [if_neg h5]
            have e1 : decide (0 ≤ s ∧ s ≤ 1073741824) = true := by simp; omega
            have e2 : decide (0 ≤ a ∧ a ≤ 1073741824) = true := by simp; omega
            have e3 : decide ((l.length : Int) ≤ 1048576) = true := by simp; omega
            rw [e1, e2, e3]
            cases d
            · by_cases h6 : s = 0
              · subst h6; simp
              · simp [h6]
            · simp
theorem be4_ref (S : Nat) (h : S < 4294967296) : [((Int.tdiv (S : Int) 16777216) % 4294967296) % 256, ((Int.tdiv (S : Int) 65536) % 4294967296) % 256, ((Int.tdiv (S : Int) 256) % 4294967296) % 256, ((S : Int)) % 256] = be4 S := by
  unfold be4
  rw [Int.tdiv_eq_ediv_of_nonneg (by omega), Int.tdiv_eq_ediv_of_nonneg (by omega), Int.tdiv_eq_ediv_of_nonneg (by omega)]
  have e1 : (S : Int) / 16777216 % 4294967296 % 256 = ((S / 16777216 % 256 : Nat) : Int) := by omega
  have e2 : (S : Int) / 65536 % 4294967296 % 256 = ((S / 65536 % 256 : Nat) : Int) := by omega
  have e3 : (S : Int) / 256 % 4294967296 % 256 = ((S / 256 % 256 : Nat) : Int) := by omega
  have e4 : (S : Int) % 256 = ((S % 256 : Nat) : Int) := by omega
  rw [e1, e2, e3, e4]
theorem sumN_lt (l : List Int) (hb : ∀ x ∈ l, 0 ≤ x ∧ x < 256) : sumN l < 4294967296 := Nat.xor_lt_two_pow (n := 32) (by omega) (crc_lt l hb _ (by omega))

theorem refj0 (d : Bool) (s a : Nat) (l : List Int) (hs : s ≤ 1073741824) (ha : a ≤ 1073741824) (hl : l.length ≤ 1048576) (hb : ∀ x ∈ l, 0 ≤ x ∧ x < 256) (k : Nat) (hk : 10 ≤ k) (hk2 : 1 + 10 * (headL d s a l).length ≤ k) :
    windbreakref10_Encode.j0 (k + 1) [if d then 1 else 0] d (s : Int) (a : Int) l = some (frameL d s a l, 0) := by
  have hws : IntKind.u64.wrap (s : Int) = s := by rw [IntKind.wrap_u64]; omega
  have hwa : IntKind.u64.wrap (a : Int) = a := by rw [IntKind.wrap_u64]; omega
  have l1 := enc_le 9 s
  have l2 := enc_le 9 a
  have l3 := enc_le 9 l.length
  have hD : (([if d then 1 else 0] ++ enc 9 s) ++ enc 9 a) ++ (enc 9 l.length ++ l) = headL d s a l := rfl
  have hbD := head_bytes d s a l hs ha hl hb
  have hlD : (headL d s a l).length ≤ 1048610 := by rw [← hD]; simp only [List.length_append, List.length_cons, List.length_nil]; omega
  have hsum := at_rounds (fun k => windbreakref10_Sum.mono (headL d s a l) k) hk2 (ref_sum (headL d s a l) (by omega) hbD)
  simp only [windbreakref10_Encode.j0]
  rw [hws, hwa, refnumber_is s (by omega) k hk, Option.bind_some, if_pos (by simp only [List.length_cons, List.length_nil]; omega), Option.bind_some, refnumber_is a (by omega) k hk, Option.bind_some, if_pos (by simp only [List.length_append, List.length_cons, List.length_nil]; omega), Option.bind_some,
    refbytes_is l hl k hk, Option.bind_some, if_pos (by simp only [List.length_append, List.length_cons, List.length_nil]; omega), Option.bind_some, hD, hsum, Option.bind_some, Option.bind_some]
  have hb4 := be4_ref (sumN (headL d s a l)) (sumN_lt _ hbD)
  unfold sumN at hb4
  rw [hb4, if_pos (by unfold be4; simp only [List.length_cons, List.length_nil]; omega)]
  rfl
theorem refencode_is (d : Bool) (s a : Nat) (l : List Int) (hs : s ≤ 1073741824) (ha : a ≤ 1073741824) (hl : l.length ≤ 1048576) (hb : ∀ x ∈ l, 0 ≤ x ∧ x < 256) (hr : rightB d (s : Int) (a : Int) l.length = true) :
    windbreakref10_Encode.f ((10 + (1 + 10 * (headL d s a l).length)) + 1) d (s : Int) (a : Int) l = some (frameL d s a l, 0) := by
  unfold windbreakref10_Encode.f
  rw [rightB_ref, hr, Option.bind_some, if_pos rfl, Option.bind_some]
  have h := refj0 d s a l hs ha hl hb (10 + (1 + 10 * (headL d s a l).length)) (by omega) (by omega)
  cases d
  · rw [if_neg (by decide)]
    exact h
  · rw [if_pos rfl, if_pos (by decide)]
    exact h
theorem refencode_no (d : Bool) (s a : Int) (l : List Int) (hr : rightB d s a l.length = false) (k : Nat) : windbreakref10_Encode.f k d s a l = some ([], 1) := by
  unfold windbreakref10_Encode.f
  rw [rightB_ref, hr, Option.bind_some, if_neg (by decide)]
/-- What a right frame's numbers are. -/
theorem right_facts {d : Bool} {s a : Int} {n : Nat} (h : rightB d s a n = true) : ∃ S B : Nat, s = S ∧ a = B ∧ S ≤ 1073741824 ∧ B ≤ 1073741824 ∧ n ≤ 1048576 := by
  unfold rightB within at h
  simp only [Bool.and_eq_true, decide_eq_true_eq] at h
  obtain ⟨h1, h2, h3, _⟩ := h
  exact ⟨s.toNat, a.toNat, by omega, by omega, by omega, by omega, by omega⟩
end Go.Proofs.Ytekakngojhnleaa.En
/- How an argument's reading is opened: from the row's own reading of a value to what its cells say, kind by kind. -/
namespace Go.Proofs.Ytekakngojhnleaa.Opn
open Go.ChangeShapes Go.WideShapes Go.RowKit Go.Proofs.YtekakngojhnleaaW.PrintWords
set_option linter.unusedVariables false
set_option linter.unusedSimpArgs false

/-- What reads as data of type t says, of kind d, something good. -/
def Opens {α : Type} (P : Program) (t : TypeId) (d : Kd α) (good : α → Prop) : Prop :=
  ∀ {H : Type} {enc : TypeId × Value → H} {w : World} {base : Nat} {spare : Nat → Bool} {held : Bool} {fuel : Nat} {cs : List Value} {x : DataW H × List MemPlace},
    DataW.trod enc P w base spare held fuel t cs = some x → (∀ b ∈ DataW.weights P t x.1, b ≤ reachBytes) → ∃ a, d.K w a cs ∧ good a

theorem opens_int {P : Program} {t : TypeId} {k : IntKind} (ht : P.underlying t = some (.int k)) : Opens P t (Kd.int k) (fun n => (Lit.int k n).wf = true) := by
  intro H enc w base spare held fuel cs x h _
  obtain ⟨n, rfl, _, hw⟩ := DataW.trod_int ht h
  exact ⟨n, rfl, hw⟩
theorem opens_bool {P : Program} {t : TypeId} (ht : P.underlying t = some .bool) : Opens P t Kd.bool (fun _ => True) := by
  intro H enc w base spare held fuel cs x h _
  obtain ⟨b, rfl, _⟩ := DataW.trod_bool ht h
  exact ⟨b, rfl, trivial⟩

theorem choose_list {α : Type} (P : Nat → α → Prop) : ∀ n : Nat, (∀ i, i < n → ∃ a, P i a) → ∃ xs : List α, xs.length = n ∧ ∀ i a, xs[i]? = some a → P i a
  | 0, _ => ⟨[], rfl, fun i a h => by simp at h⟩
  | n + 1, h => by
    obtain ⟨xs, hl, hx⟩ := choose_list P n (fun i hi => h i (by omega))
    obtain ⟨a, ha⟩ := h n (by omega)
    refine ⟨xs ++ [a], by simp [hl], fun i b hb => ?_⟩
    rcases Nat.lt_or_ge i n with hi | hi
    · rw [List.getElem?_append_left (by omega)] at hb
      exact hx i b hb
    · rw [List.getElem?_append_right (by omega)] at hb
      have h0 : i - xs.length = 0 := by
        rcases Nat.eq_zero_or_pos (i - xs.length) with h | h
        · exact h
        · rw [List.getElem?_eq_none (by simp; omega)] at hb
          cases hb
      rw [h0] at hb
      simp at hb
      subst hb
      obtain rfl : i = n := by omega
      exact ha

theorem add_add (a : Addr) (m n : Nat) : (a.add m).add n = a.add (m + n) := by
  unfold Addr.add
  by_cases hm : m = 0
  · subst hm
    simp
  · by_cases hn : n = 0
    · subst hn
      simp
    · rw [if_neg hm, if_neg hn, if_neg (by omega)]
      simp [Nat.add_assoc]

theorem weights_all_mem {H : Type} {P : Program} {e : TypeId} : ∀ {ds : List (DataW H)} {d : DataW H}, d ∈ ds → ∀ b ∈ DataW.weights P e d, b ∈ DataW.weightsAll P e ds
  | [], _, h, _, _ => by simp at h
  | d0 :: r, d, h, b, hb => by
    unfold DataW.weightsAll
    rcases List.mem_cons.1 h with rfl | h
    · exact List.mem_append_left _ hb
    · exact List.mem_append_right _ (weights_all_mem h b hb)

theorem opens_slice {α : Type} {P : Program} {t e : TypeId} {d : Kd α} {good : α → Prop} (he : Opens P e d good) (ht : P.underlying t = some (.slice e)) (hc : P.cellsOf e = d.sz) (e' : Nat) {B : Nat} (hB : P.bytesOf e = B) :
    Opens P t (Kd.slice e' d) (fun xs => xs.length * B ≤ reachBytes ∧ ∀ x ∈ xs, good x) := by
  intro H enc w base spare held fuel cs x h hw
  rcases DataW.trod_slice ht h with ⟨rfl, rfl⟩ | ⟨a, len, cap, elems, rest, n, _, rfl, rfl, hb, hl, hm, hlen, hel, _, _⟩
  · exact ⟨[], ⟨none, 0, rfl, Nat.le_refl _, Kd.C_nil _ _⟩, by simp, by simp⟩
  · have hweights : ∀ b ∈ DataW.weights P t (.slice (elems.map (·.1)) (rest.map (·.1)) : DataW H), b ≤ reachBytes := hw
    unfold DataW.weights at hweights
    rw [ht] at hweights
    simp only [List.mem_cons, List.mem_append] at hweights
    obtain ⟨xs, hxl, hx⟩ := choose_list (fun i (a' : α) => good a' ∧ ∃ cs', w.cells? base (a.add (i * P.cellsOf e)) (P.cellsOf e) = some cs' ∧ d.K w a' cs') len (fun i hi => by
      have h1 := hel i hi
      have hil : i < elems.length := by omega
      rw [List.getElem?_eq_getElem hil] at h1
      obtain ⟨cs', hc1, hc2⟩ := Option.bind_eq_some_iff.1 h1
      obtain ⟨a', hk, hg⟩ := he hc2 (fun b hb' => hweights b (.inr (.inl (weights_all_mem (List.mem_map_of_mem (List.getElem_mem hil)) b hb'))))
      exact ⟨a', hg, cs', hc1, hk⟩)
    refine ⟨xs, ⟨some a, cap, by rw [hxl], by omega, rfl, by unfold maxLen at hm; omega, fun _ => ⟨a, rfl, fun j p hj => ?_⟩⟩, ?_, fun p hp => ?_⟩
    · obtain ⟨_, cs', hc1, hk⟩ := hx j p hj
      obtain ⟨_, hcl, hcell⟩ := World.cells?_some hc1
      refine ⟨cs', by rw [hcl, hc], hk, fun i u hu => ?_⟩
      have hi : i < P.cellsOf e := by
        rcases Nat.lt_or_ge i (P.cellsOf e) with h' | h'
        · exact h'
        · rw [List.getElem?_eq_none (by omega)] at hu
          cases hu
      have h2 := hcell i hi
      rw [add_add, hc] at h2
      rw [h2, hu]
    · have h1 := hweights _ (.inl rfl)
      rw [hB] at h1
      simp only [List.length_map] at h1
      rw [hxl, ← hlen]
      exact Nat.le_trans (Nat.mul_le_mul_right _ (Nat.le_add_right _ _)) h1
    · obtain ⟨i, hi, rfl⟩ := List.getElem_of_mem hp
      exact (hx i _ (List.getElem?_eq_getElem hi)).1

/-- The fields of a struct, one behind the other. -/
inductive Flds (P : Program) : List Field → Nat → (β : Type) → Kd β → (β → Prop) → Prop
  | one {β : Type} {f : Field} {o : Nat} {d : Kd β} {g : β → Prop} (h : Opens P f.type d g) (ho : f.offset = o) (hc : P.cellsOf f.type = d.sz) : Flds P [f] o β d g
  | more {β γ : Type} {f : Field} {fs : List Field} {o : Nat} {d : Kd β} {d' : Kd γ} {g : β → Prop} {g' : γ → Prop} (h : Opens P f.type d g) (ho : f.offset = o) (hc : P.cellsOf f.type = d.sz) (r : Flds P fs (o + d.sz) γ d' g') :
      Flds P (f :: fs) o (β × γ) (Kd.pair d d') (fun x => g x.1 ∧ g' x.2)

theorem flds_open {P : Program} {fs : List Field} {o : Nat} {β : Type} {d : Kd β} {g : β → Prop} (h : Flds P fs o β d g) :
    ∀ {H : Type} {enc : TypeId × Value → H} {w : World} {base : Nat} {spare : Nat → Bool} {held : Bool} {n : Nat} {cs : List Value} {xs : List (DataW H × List MemPlace)}, cs.length = o + d.sz → xs.length = fs.length →
      (∀ (i : Nat) (f : Field), fs[i]? = some f → DataW.trod enc P w base spare held n f.type ((cs.drop f.offset).take (P.cellsOf f.type)) = xs[i]?) → (∀ b ∈ DataW.weightsEach P (fs.map (·.type)) (xs.map (·.1)), b ≤ reachBytes) → ∃ a, d.K w a (cs.drop o) ∧ g a := by
  induction h with
  | @one β f o d g h ho hc =>
    intro H enc w base spare held n cs xs hl hx hf hw
    obtain ⟨y, rfl⟩ : ∃ y, xs = [y] := by
      cases xs with
      | nil => simp at hx
      | cons y r =>
        cases r with
        | nil => exact ⟨y, rfl⟩
        | cons _ _ => simp at hx
    have h1 := hf 0 f rfl
    rw [ho, hc, List.take_of_length_le (by rw [List.length_drop]; omega)] at h1
    refine h h1 (fun b hb => hw b ?_)
    simp [DataW.weightsEach, hb]
  | @more β γ f fs o d d' g g' h ho hc r ih =>
    intro H enc w base spare held n cs xs hl hx hf hw
    cases xs with
    | nil => simp at hx
    | cons y ys =>
      have hsz : (Kd.pair d d').sz = d.sz + d'.sz := rfl
      rw [hsz] at hl
      have h1 := hf 0 f rfl
      rw [ho, hc] at h1
      obtain ⟨a, hk, hg⟩ := h h1 (fun b hb => hw b (by simp [DataW.weightsEach, hb]))
      obtain ⟨a', hk', hg'⟩ := ih (cs := cs) (xs := ys) (by omega) (by simpa using hx) (fun i f' hi => hf (i + 1) f' (by simpa using hi)) (fun b hb => hw b (by
        simp only [List.map_cons, DataW.weightsEach]
        exact List.mem_append_right _ hb))
      refine ⟨(a, a'), ⟨_, _, ?_, hk, hk'⟩, hg, hg'⟩
      rw [← List.drop_drop, List.take_append_drop]

theorem opens_struct {P : Program} {t : TypeId} {fs : Array Field} {β : Type} {d : Kd β} {g : β → Prop} (ht : P.underlying t = some (.struct fs)) (hF : Flds P fs.toList 0 β d g) (hc : P.cellsOf t = d.sz) : Opens P t d g := by
  intro H enc w base spare held fuel cs x h hw
  obtain ⟨xs, n, _, rfl, hl, hxl, hf⟩ := DataW.trod_struct ht h
  have hweights : ∀ b ∈ DataW.weights P t (.agg (xs.map (·.1)) : DataW H), b ≤ reachBytes := hw
  unfold DataW.weights at hweights
  rw [ht] at hweights
  have := flds_open hF (H := H) (enc := enc) (w := w) (base := base) (spare := spare) (held := held) (n := n) (cs := cs) (xs := xs) (by omega) (by simpa using hxl) (fun i f hi => hf i f (by simpa using hi)) hweights
  simpa using this

theorem opens_iso {α β : Type} {P : Program} {t : TypeId} {d : Kd α} {g : α → Prop} (h : Opens P t d g) (f : β → α) (f' : α → β) (hff : ∀ a, f (f' a) = a) : Opens P t (Kd.iso d f) (fun b => g (f b)) := by
  intro H enc w base spare held fuel cs x hx hw
  obtain ⟨a, hk, hg⟩ := h hx hw
  exact ⟨f' a, by show d.K w (f (f' a)) cs; rw [hff]; exact hk, by show g (f (f' a)); rw [hff]; exact hg⟩

/-- An argument that is a slice. -/
theorem open_arg {H : Type} {enc : TypeId × Value → H} {α : Type} {P : Program} {W : World} {base r0 : Nat} {r : Reach} {spare : Nat → Bool} {held : Bool} {t e : TypeId} {d : Kd α} {good : α → Prop} {e' B : Nat} (ho : Opens P t (Kd.slice e' d) (fun xs => xs.length * B ≤ reachBytes ∧ ∀ x ∈ xs, good x)) (ht : P.underlying t = some (.slice e))
    {v : Value} (hv : Value.okWide P W r r0 t v) {dd : DataW H} {p : List MemPlace} (h : DataW.Trod enc P W base spare held t v dd p) {ts : List TypeId} {ds : List (DataW H)} (hsz : (DataW.weightsEach P ts ds).all (· ≤ reachBytes) = true) {j : Nat} (hj : ts[j]? = some t) (hd : ds[j]? = some dd) :
    ∃ A c xs, v = .slice A xs.length c ∧ xs.length ≤ c ∧ d.C W A xs.length xs ∧ xs.length * B ≤ reachBytes ∧ ∀ x ∈ xs, good x := by
  obtain ⟨A, len, cap, rfl⟩ := okWide_slice ht hv
  obtain ⟨fuel, hf⟩ := h
  obtain ⟨xs, ⟨A', c', he, hl, hr⟩, h1, h2⟩ := ho hf (fun b hb => by
    have := List.all_eq_true.1 hsz _ (DataW.weights_mem_each hj hd b hb)
    simpa using this)
  simp [Value.cells] at he
  obtain ⟨rfl, rfl, rfl⟩ := he
  exact ⟨A, cap, xs, rfl, hl, hr, h1, h2⟩
/-- An argument that is a struct. -/
theorem open_struct_arg {H : Type} {enc : TypeId × Value → H} {α : Type} {P : Program} {W : World} {base r0 : Nat} {r : Reach} {spare : Nat → Bool} {held : Bool} {t : TypeId} {fs : Array Field} {d : Kd α} {good : α → Prop} (ho : Opens P t d good) (ht : P.underlying t = some (.struct fs))
    {v : Value} (hv : Value.okWide P W r r0 t v) {dd : DataW H} {p : List MemPlace} (h : DataW.Trod enc P W base spare held t v dd p) {ts : List TypeId} {ds : List (DataW H)} (hsz : (DataW.weightsEach P ts ds).all (· ≤ reachBytes) = true) {j : Nat} (hj : ts[j]? = some t) (hd : ds[j]? = some dd) :
    ∃ cs x, v = .agg cs ∧ d.K W x cs.toList ∧ good x := by
  obtain ⟨cs, rfl, _⟩ := okWide_struct ht hv
  obtain ⟨fuel, hf⟩ := h
  obtain ⟨x, hk, hg⟩ := ho hf (fun b hb => by
    have := List.all_eq_true.1 hsz _ (DataW.weights_mem_each hj hd b hb)
    simpa using this)
  refine ⟨cs, x, rfl, ?_, hg⟩
  simpa [Value.cells] using hk
end Go.Proofs.Ytekakngojhnleaa.Opn
/- Frames: how an argument that is a frame is opened. -/
namespace Go.Proofs.Ytekakngojhnleaa.Of
open Go.ChangeShapes Go.WideShapes Go.RowKit Go.Proofs.YtekakngojhnleaaW.PrintWords Go.Proofs.Ytekakngojhnleaa
set_option linter.unusedVariables false

abbrev Fr := Bool × Int × Int × List Int
def kFr : Kd Fr := Kd.pair Kd.bool (Kd.pair (Kd.int .i64) (Kd.pair (Kd.int .i64) (Kd.slice 5 (Kd.int .u8))))
def goodFr (x : Fr) : Prop := True ∧ (Lit.int .i64 x.2.1).wf = true ∧ (Lit.int .i64 x.2.2.1).wf = true ∧ (x.2.2.2.length * 1 ≤ reachBytes ∧ ∀ y ∈ x.2.2.2, (Lit.int .u8 y).wf = true)
theorem opens_frame : Opn.Opens Try.prog 53 kFr goodFr :=
  Opn.opens_struct Try.underlying53 (Opn.Flds.more (Opn.opens_bool Try.underlying4) rfl (by kernel_rfl) (Opn.Flds.more (Opn.opens_int Try.underlying3) rfl (by kernel_rfl) (Opn.Flds.more (Opn.opens_int Try.underlying3) rfl (by kernel_rfl)
    (Opn.Flds.one (Opn.opens_slice (Opn.opens_int Try.underlying5) Try.underlying30 (by kernel_rfl) 5 (by kernel_rfl)) rfl (by kernel_rfl))))) (by kernel_rfl)
theorem frame_cells {w : World} {x : Fr} {cs : List Value} (h : kFr.K w x cs) : ∃ A c, cs = [.bool x.1, .int .i64 x.2.1, .int .i64 x.2.2.1, .slice A x.2.2.2.length c] ∧ x.2.2.2.length ≤ c ∧ (Kd.int .u8).C w A x.2.2.2.length x.2.2.2 := by
  obtain ⟨c0, c1, rfl, h0, c2, c3, rfl, h2, c4, c5, rfl, h4, A, c, rfl, hc, hr⟩ := h
  have h0' : c0 = [.bool x.1] := h0
  have h2' : c2 = [.int .i64 x.2.1] := h2
  have h4' : c4 = [.int .i64 x.2.2.1] := h4
  subst h0' h2' h4'
  exact ⟨A, c, rfl, hc, hr⟩
/-- An argument that is a frame. -/
structure IsFr (W : World) (A : Option Addr) (c : Nat) (x : Fr) : Prop where
  cap : x.2.2.2.length ≤ c
  reads : (Kd.int .u8).C W A x.2.2.2.length x.2.2.2
  good : goodFr x
set_option maxRecDepth 100000 in
theorem open_frame (j : Nat) {H : Type} {enc : TypeId × Value → H} {W : World} {base r0 : Nat} {r : Reach} {spare : Nat → Bool} {held : Bool} {ts : List TypeId} {ds : List (DataW H)} {dd : DataW H} {p : List MemPlace} (hj : ts[j]? = some 53) (hd : ds[j]? = some dd)
    {v : Value} (hv : Value.okWide Try.prog W r r0 53 v) (h : DataW.Trod enc Try.prog W base spare held 53 v dd p) (hsz : (DataW.weightsEach Try.prog ts ds).all (· ≤ reachBytes) = true) :
    ∃ x : Fr × Option Addr × Nat, v = .agg #[.bool x.1.1, .int .i64 x.1.2.1, .int .i64 x.1.2.2.1, .slice x.2.1 x.1.2.2.2.length x.2.2] ∧ IsFr W x.2.1 x.2.2 x.1 := by
  obtain ⟨cs, x, rfl, hk, hg⟩ := Opn.open_struct_arg opens_frame Try.underlying53 hv h hsz hj hd
  obtain ⟨A, c, hcs, hc, hr⟩ := frame_cells hk
  refine ⟨(x, A, c), ?_, hc, hr, hg⟩
  rw [← Array.toArray_toList (xs := cs), hcs]
end Go.Proofs.Ytekakngojhnleaa.Of
/- FrameEncodes: the law's walk. -/
namespace Go.Proofs.Ytekakngojhnleaa.Ew
set_option linter.unusedSimpArgs false
set_option linter.unusedVariables false
open Go.RowKit Go.Proofs.Ytekakngojhnleaa.Fns Go.Proofs.Ytekakngojhnleaa.Rd Go.Proofs.Ytekakngojhnleaa.Rt Go.Proofs.Ytekakngojhnleaa.Fs Go.Proofs.Ytekakngojhnleaa.Fp Go.Proofs.Ytekakngojhnleaa.En Go.Proofs.Ytekakngojhnleaa.Of Go.Proofs.YtekakngojhnleaaW.PrintWords Go.Proofs.YtekakngojhnleaaW.PrintLast Go.Proofs.YtekakngojhnleaaW.PrintMore

/-- What a callee has made, as a string, in every later world. -/
theorem as_string {w : World} {base : Nat} {ok : Nat → Prop} {v : Value} {r : List Int} (h : (Kd.int .u8).R 5 w base ok v r) (W : World) (hW : Below w.heap.size w W) : (convert 30 9 v).run Try.prog W = .ok (.string (strOfNums r)) W :=
  own_string (P := Try.prog) Try.underlying30 Try.underlying5 Try.underlying9 (Kd.own_of_R (Kd.R_below h hW))

/-- What Encode tells of a frame. -/
def encF (x : Fr) : List Int × Int := if rightB x.1 x.2.1 x.2.2.1 x.2.2.2.length = true then (frameL x.1 x.2.1.toNat x.2.2.1.toNat x.2.2.2, 0) else ([], 1)
theorem good_bytes {x : Fr} (h : goodFr x) : ∀ y ∈ x.2.2.2, 0 ≤ y ∧ y < 256 := u8_bytes h.2.2.2.2
theorem encode_calls (x : Fr) (A : Option Addr) (c : Nat) (w : World) (h : IsFr w A c x) (r : List Int) (E : Int) (he : encF x = (r, E)) :
    Calls Try.prog 26 #[.agg #[.bool x.1, .int .i64 x.2.1, .int .i64 x.2.2.1, .slice A x.2.2.2.length c]] w fun e w' => ∃ v, e = .returned (.tuple #[v, .int .i64 E]) ∧ (Kd.int .u8).R 5 w' w.heap.size (fun _ => True) v r ∧ Below w.heap.size w w' := by
  obtain ⟨d, s, a, l⟩ := x
  unfold encF at he
  cases hr : rightB d s a l.length with
  | false =>
    rw [hr, if_neg (by decide)] at he
    injection he with h1 h2
    subst h1 h2
    refine (encode_no d s a A l.length c w hr).mono ?_
    rintro e w' ⟨rfl, hb⟩
    exact ⟨_, rfl, Kd.R_nil _ _ _ _ _, hb⟩
  | true =>
    rw [hr, if_pos rfl] at he
    injection he with h1 h2
    subst h1 h2
    obtain ⟨S, B, rfl, rfl, hs, ha, hl⟩ := right_facts hr
    exact encode_yes d S B A c l w h.reads h.cap hr hs ha hl (good_bytes h.good)
theorem refencode_all (x : Fr) (hg : goodFr x) (r : List Int) (E : Int) (he : encF x = (r, E)) : ∃ k, windbreakref10_Encode.f k x.1 x.2.1 x.2.2.1 x.2.2.2 = some (r, E) := by
  obtain ⟨d, s, a, l⟩ := x
  unfold encF at he
  cases hr : rightB d s a l.length with
  | false =>
    rw [hr, if_neg (by decide)] at he
    rw [← he]
    exact ⟨0, refencode_no d s a l hr 0⟩
  | true =>
    rw [hr, if_pos rfl] at he
    rw [← he]
    obtain ⟨S, B, rfl, rfl, hs, ha, hl⟩ := right_facts hr
    exact ⟨_, refencode_is d S B l hs ha hl (good_bytes hg) hr⟩

theorem box_cell {w W : World} {vs : Array Value} {t : Nat} (h : Below (w.alloc (.cells vs t)).heap.size (w.alloc (.cells vs t)) W) (j : Nat) (v : Value) (hv : vs[j]? = some v) : W.cell? ⟨w.heap.size, j, none⟩ = some v := by
  rw [h.cell (p := ⟨w.heap.size, j, none⟩) (show w.heap.size < (w.alloc (.cells vs t)).heap.size by simp), World.cell?_alloc_mark, hv]
theorem _root_.Go.Proofs.Ytekakngojhnleaa.Of.IsFr.below {w W : World} {A : Option Addr} {c : Nat} {x : Fr} (h : IsFr w A c x) (hb : Below w.heap.size w W) : IsFr W A c x := ⟨h.cap, Kd.C_below h.reads hb, h.good⟩
theorem zero_frame (w : World) : IsFr w none 0 (false, 0, 0, []) := ⟨Nat.le_refl _, Kd.C_nil _ _, trivial, by decide, by decide, by simp, by simp⟩

set_option maxRecDepth 100000 in
set_option maxHeartbeats 1000000 in
theorem encodes_calls (d : Bool) (s a : Int) (l : List Int) (A : Option Addr) (c : Nat) (w : World) (h : IsFr w A c (d, s, a, l)) (r : List Int) (E : Int) (he : encF (d, s, a, l) = (r, E)) :
    Calls Try.prog 7 #[.agg #[.bool d, .int .i64 s, .int .i64 a, .slice A l.length c]] w fun e w' => e = .returned (.bool true) ∧ Below w.heap.size w w' := by
  have H := Aside0.mk h
  have HE := Aside0.mk he
  obtain ⟨k, hk⟩ := refencode_all (d, s, a, l) h.good r E he
  have HK := Aside0.mk hk
  clear h he hk
  go_enter Try.func7, Try.ntmps7
  go_wp2_with fail
  have hB0 : Below w.heap.size w (w.alloc (.cells #[.bool d, .int .i64 s, .int .i64 a, .slice A l.length c] 53)) := below_alloc (Below.refl _ _) _
  refine (encode_calls (d, s, a, l) A c _ (H.out.below hB0) r E HE.out).mono ?_
  rintro e w2 ⟨v2, rfl, ho2, hb2⟩
  have q0 := box_cell hb2 0 _ rfl
  have q1 := box_cell hb2 1 _ rfl
  have q2 := box_cell hb2 2 _ rfl
  have q3 := box_cell hb2 3 _ rfl
  have HO2 := Aside0.mk ho2
  have HB2 := Aside0.mk (hB0.trans (hb2.mono hB0.size))
  clear ho2 hb2 hB0
  go_wp2_with fail
  refine (windbreakref10_Encode.calls k d s a A c l r E _ (Kd.C_below H.out.reads HB2.out) H.out.cap HK.out).mono ?_
  rintro e w3 ⟨v3, rfl, ho3, hb3⟩
  have HO2b := Aside0.mk (Kd.R_below HO2.out hb3)
  have HO3 := Aside0.mk ho3
  have HB3 := Aside0.mk (HB2.out.trans (hb3.mono HB2.out.size))
  clear ho3 hb3 q0 q1 q2 q3
  go_wp2_with fail
  refine (encode_calls (false, 0, 0, []) none 0 _ (zero_frame w3) (frameL false 0 0 []) 0 rfl).mono ?_
  rintro e w4 ⟨v4, rfl, ho4, hb4⟩
  obtain ⟨A4, c4, rfl, _, _⟩ := Kd.R_reads ho4
  have h8 : (frameL false 0 0 []).length = 8 := rfl
  rw [h8]
  have HB4 := Aside0.mk (HB3.out.trans (hb4.mono HB3.out.size))
  have hs2 := fun W (hW : Below w4.heap.size w4 W) => as_string (Kd.R_below HO2b.out hb4) W hW
  have hs3 := fun W (hW : Below w4.heap.size w4 W) => as_string (Kd.R_below HO3.out hb4) W hW
  clear ho4 h8 hb4
  have q2 := hs2 w4.drew (below_drew (Below.refl _ _))
  have q3 := hs3 w4.drew (below_drew (Below.refl _ _))
  have q2' := hs2 w4 (Below.refl _ _)
  have q3' := hs3 w4 (Below.refl _ _)
  clear hs2 hs3
  go_wp2_with fail
  go_ret
  exact ⟨rfl, HB4.out⟩
theorem frameEncodes_walk (x : Fr × Option Addr × Nat) (w : World) (h : IsFr w x.2.1 x.2.2 x.1) :
    Calls Try.prog 7 #[.agg #[.bool x.1.1, .int .i64 x.1.2.1, .int .i64 x.1.2.2.1, .slice x.2.1 x.1.2.2.2.length x.2.2]] w fun e w' => e = .returned (.bool true) ∧ Below w.heap.size w w' := by
  obtain ⟨⟨d, s, a, l⟩, A, c⟩ := x
  exact encodes_calls d s a l A c w h _ _ rfl
end Go.Proofs.Ytekakngojhnleaa.Ew
/- Frames: frame.Decode. -/
namespace Go.Proofs.Ytekakngojhnleaa.De
set_option linter.unusedSimpArgs false
set_option linter.unusedVariables false
open Go.RowKit Go.Proofs.Ytekakngojhnleaa.Fns Go.Proofs.Ytekakngojhnleaa.Rd Go.Proofs.Ytekakngojhnleaa.Rt Go.Proofs.Ytekakngojhnleaa.Fs Go.Proofs.Ytekakngojhnleaa.Fp Go.Proofs.Ytekakngojhnleaa.En Go.Proofs.Ytekakngojhnleaa.Of Go.Proofs.YtekakngojhnleaaW.PrintWords Go.Proofs.YtekakngojhnleaaW.PrintLast Go.Proofs.YtekakngojhnleaaW.PrintMore

/-- The number that bytes are, the highest first. -/
def beN : List Int → Nat → Nat
  | [], r => r
  | c :: cs, r => beN cs (r * 256 % 4294967296 + c.toNat)
theorem or_byte (r b : Nat) (hb : b < 256) : bits .or .u32 ((r : Int) * 256 % 4294967296) ((b : Int) % 4294967296) = ((r * 256 % 4294967296 + b : Nat) : Int) := by
  rw [show (b : Int) % 4294967296 = (b : Int) by omega, show (r : Int) * 256 % 4294967296 = ((r * 256 % 4294967296 : Nat) : Int) by omega, u32_or_nat _ _ (by omega) (by omega), nat_join 8 _ _ (by omega) (by omega)]
theorem info53 : (Try.prog.info? 53).map (fun i => (i.zero, i.size)) = some (some (.agg #[.bool false, .int .i64 0, .int .i64 0, .slice none 0 0]), 4) := by kernel_rfl

theorem size53 : (Try.prog.info? 53).map (·.size) = some 4 := by kernel_rfl
abbrev zeroV : Array Value := #[.bool false, .int .i64 0, .int .i64 0, .slice none 0 0]
theorem frame_one (b : Bool) (x y : Int) (A : Option Addr) (n c : Nat) : (#[.bool b, .int .i64 x, .int .i64 y, .slice A n c] : Array Value).all (·.oneCell') = true := by simp [Value.oneCell']
theorem R_setRow {w : World} {base : Nat} {v : Value} {xs : List Int} (h : (Kd.int .u8).R 5 w base (fun _ => True) v xs) {g t : Nat} {cells : Array Value} (hb : w.heap[g]? = some (.cells cells t (0, 0))) (ht : 5 ≠ t) (cs : Array Value) : (Kd.int .u8).R 5 (w.setRow g cs) base (fun _ => True) v xs := by
  have h1 := Kd.R_types h hb (fun q hq => by simp [Kd.int, Kd.scalar] at hq; subst hq; exact ht)
  exact Kd.R_mono (Kd.R_move h1 (fun k hk => setRow_other w g k cs hk.2)) (fun _ _ => trivial)
/-- What a function hands back whose first result lies in a block of its own. -/
theorem ret_cell {fn : Func} {u : Tmp} (h : fn.results = #[.cell 2 53, .tmp u]) (tmps : Array Value) (W : World) (g : Nat) (t : TypeId) (cs : Array Value) (fr : Nat × Nat) (x : Value) (hp : tmps.getD 2 undef = .pointer (some ⟨g, 0, none⟩)) (hx : tmps.getD u undef = x) (hg : W.heap[g]? = some (.cells cs t fr)) (hs : cs.size = 4) :
    (results fn tmps).run Try.prog W = .ok (.tuple #[.agg cs, x]) W := by
  rw [results_cell_tmp h, hp, hx]
  have := run_loadVar_row (P := Try.prog) W g t 53 cs fr _ hg Try.underlying53 rfl (by rw [hs]; exact size53)
  simp [asAddr, Result.andThen, this]

set_option maxRecDepth 100000 in
set_option maxHeartbeats 1000000 in
theorem decode_short (A : Option Addr) (c : Nat) (l : List Int) (w : World) (h : l.length < 5) (hl : l.length < 4611686018427387904) :
    Calls Try.prog 28 #[.slice A l.length c] w fun e w' => e = .returned (.tuple #[.agg zeroV, .int .i64 14]) ∧ Below w.heap.size w w' := by
  have hw : wrap64 ((l.length : Int) - 4) = (l.length : Int) - 4 := by unfold wrap64; omega
  have h1 : (l.length : Int) - 4 < 1 := by omega
  clear h hl
  go_enter Try.func28, Try.ntmps28
  go_wp2_with fail
  exact bodyPost_ret (ret_cell rfl _ _ w.heap.size 53 zeroV (0, 0) _ rfl rfl (heap_alloc_new w _) rfl) rfl ⟨rfl, below_alloc (Below.refl _ _) _⟩
set_option maxRecDepth 100000 in
set_option maxHeartbeats 1000000 in
theorem decode_two (A : Option Addr) (c : Nat) (l : List Int) (w : World) (hr : Kd.C (Kd.int .u8) w A l.length l) (h : 5 ≤ l.length) (hl : l.length < 4611686018427387904) (h2 : 1 < rd l 0) :
    Calls Try.prog 28 #[.slice A l.length c] w fun e w' => e = .returned (.tuple #[.agg zeroV, .int .i64 14]) ∧ Below w.heap.size w w' := by
  have hw : wrap64 ((l.length : Int) - 4) = (l.length : Int) - 4 := by unfold wrap64; omega
  have h1 : ¬ (l.length : Int) - 4 < 1 := by omega
  have hlt : (0 : Int) < (l.length : Int) := by omega
  have hB : Below w.heap.size w (w.alloc (.cells zeroV 53)) := below_alloc (Below.refl _ _) _
  obtain ⟨ad, rfl, hc⟩ := Kd.at_int (Kd.C_below hr hB) 0 (by omega) (by omega)
  change (w.alloc (.cells zeroV 53)).cell? (ad.add 0) = _ at hc
  have h0 : ad.add 0 = ad := by simp [Addr.add]
  rw [h0] at hc
  have H := Aside0.mk hr
  clear h hl hr
  go_enter Try.func28, Try.ntmps28
  go_wp2_with fail
  exact bodyPost_ret (ret_cell rfl _ _ w.heap.size 53 zeroV (0, 0) _ rfl rfl (heap_alloc_new w _) rfl) rfl ⟨rfl, hB⟩

/-- What Decode tells of bytes that are long enough. -/
def decF (n : Nat) (l : List Int) : Fr × Int :=
  if (rNum 1073741824 ((l.take n).drop 1)).2.1 = 0 ∧ (rNum 1073741824 (rNum 1073741824 ((l.take n).drop 1)).2.2).2.1 = 0 ∧ (rByt 1048576 (rNum 1073741824 (rNum 1073741824 ((l.take n).drop 1)).2.2).2.2).2.1 = 0 ∧
      (rByt 1048576 (rNum 1073741824 (rNum 1073741824 ((l.take n).drop 1)).2.2).2.2).2.2.length = 0 ∧ beN (l.drop n) 0 = sumN (l.take n) ∧
      rightB (rd l 0 == 1) (rNum 1073741824 ((l.take n).drop 1)).1 (rNum 1073741824 (rNum 1073741824 ((l.take n).drop 1)).2.2).1 (rByt 1048576 (rNum 1073741824 (rNum 1073741824 ((l.take n).drop 1)).2.2).2.2).1.length = true then
    ((rd l 0 == 1, (rNum 1073741824 ((l.take n).drop 1)).1, (rNum 1073741824 (rNum 1073741824 ((l.take n).drop 1)).2.2).1, (rByt 1048576 (rNum 1073741824 (rNum 1073741824 ((l.take n).drop 1)).2.2).2.2).1), 0)
  else ((false, 0, 0, []), 14)
theorem blk_of_cell {w : World} {a : Addr} {v : Value} (h : w.cell? a = some v) : a.block < w.heap.size := block_lt_of_cell h
theorem rNum_len (most : Int) (xs : List Int) {x e : Int} {ys : List Int} (h : rNum most xs = (x, e, ys)) : ys.length ≤ xs.length := by
  unfold rNum at h
  split at h
  · injection h with h1 h2
    injection h2 with h2 h3
    subst h3
    exact Nat.le_refl _
  · injection h with h1 h2
    injection h2 with h2 h3
    subst h3
    simp
theorem rNum_le (most : Int) (xs : List Int) (hm : 0 ≤ most) {x e : Int} {ys : List Int} (h : rNum most xs = (x, e, ys)) : 0 ≤ x ∧ x ≤ most := by
  have hr := nx_range xs 0 0
  unfold rNum at h
  split at h
  · injection h with h1 h2
    subst h1
    omega
  · rename_i hc
    injection h with h1 h2
    subst h1
    omega
set_option maxRecDepth 100000 in
set_option maxHeartbeats 1000000 in
theorem decode_on (A : Option Addr) (c n : Nat) (l : List Int) (w : World) (hr : Kd.C (Kd.int .u8) w A l.length l) (hc : l.length ≤ c) (h : 1 ≤ n) (hn : l.length = n + 4) (hl : l.length ≤ 140737488351232) (hb : ∀ x ∈ l, 0 ≤ x ∧ x < 256) (h2 : ¬ 1 < rd l 0) (F : Fr) (E : Int) (hd : decF n l = (F, E)) :
    Calls Try.prog 28 #[.slice A l.length c] w fun e w' => ∃ V, e = .returned (.tuple #[.agg #[.bool F.1, .int .i64 F.2.1, .int .i64 F.2.2.1, V], .int .i64 E]) ∧ (Kd.int .u8).R 5 w' w.heap.size (fun _ => True) V F.2.2.2 ∧ Below w.heap.size w w' := by
  have hw : wrap64 ((l.length : Int) - 4) = (n : Int) := by unfold wrap64; omega
  have h1 : ¬ (n : Int) < 1 := by omega
  have hlt : (0 : Int) < (l.length : Int) := by omega
  have hB : Below w.heap.size w (w.alloc (.cells zeroV 53)) := below_alloc (Below.refl _ _) _
  obtain ⟨ad, rfl, hcell⟩ := Kd.at_int (Kd.C_below hr hB) 0 (by omega) (by omega)
  change (w.alloc (.cells zeroV 53)).cell? (ad.add 0) = _ at hcell
  have h0 : ad.add 0 = ad := by simp [Addr.add]
  rw [h0] at hcell
  have HR := Aside0.mk hr
  have HB := Aside0.mk hb
  have HL := Aside0.mk (And.intro hl (And.intro hn h))
  have HB0 := Aside0.mk hB
  obtain ⟨sq, e1, X1, hp1⟩ : ∃ x e ys, rNum 1073741824 ((l.take n).drop 1) = (x, e, ys) := ⟨_, _, _, rfl⟩
  obtain ⟨ak, e2, X2, hp2⟩ : ∃ x e ys, rNum 1073741824 X1 = (x, e, ys) := ⟨_, _, _, rfl⟩
  obtain ⟨bd, e3, X3, hp3⟩ : ∃ x e ys, rByt 1048576 X2 = (x, e, ys) := ⟨_, _, _, rfl⟩
  have P1 := Aside0.mk hp1
  have P2 := Aside0.mk hp2
  have P3 := Aside0.mk hp3
  have HX2 := Aside0.mk (show X2.length ≤ 140737488355328 by
    have h1 := rNum_len _ _ hp1
    have h2 := rNum_len _ _ hp2
    have h3 : ((l.take n).drop 1).length ≤ l.length := by simp; omega
    omega)
  have hq1 := rNum_le _ _ (by decide) hp1
  have hq2 := rNum_le _ _ (by decide) hp2
  have hw1 : IntKind.i64.wrap sq = sq := by rw [IntKind.wrap_i64]; omega
  have hw2 : IntKind.i64.wrap ak = ak := by rw [IntKind.wrap_i64]; omega
  clear hp1 hp2 hp3 hq1 hq2
  have hcn : ¬ c = n := by omega
  have hnc : (n : Int) ≤ (l.length : Int) := by omega
  have hc' : (l.length : Int) ≤ (c : Int) := by omega
  have hsub : l.length - n = 4 := by omega
  clear h hl hn hr hb hB
  go_enter Try.func28, Try.ntmps28
  go_wp2_with fail
  change Code.wp _ _ _ _ (w.alloc (.cells zeroV 53))
  obtain ⟨W1, hW1⟩ : ∃ W, W = w.alloc (.cells zeroV 53) := ⟨_, rfl⟩
  have HW1 := Aside0.mk hW1
  rw [← hW1] at hcell HB0 ⊢
  clear hW1
  obtain ⟨told, htold⟩ : ∃ t, t = beN (l.drop n) 0 := ⟨_, rfl⟩
  have HT := Aside0.mk htold
  clear htold
  go_loopg [5, 32] 4 (fun g v5 v32 wx => ∃ (i r : Nat), i + g = 4 ∧ v5 = .int .u32 (r : Int) ∧ v32 = .int .i64 (i : Int) ∧ Aside0 (r < 4294967296) ∧ Aside0 (beN (l.drop (n + i)) r = told) ∧ wx = W1)
  case atStart => exact ⟨0, 0, by omega, rfl, rfl, ⟨by omega⟩, ⟨HT.out.symm⟩, rfl⟩
  case round =>
    obtain ⟨i, r, hig, rfl, rfl, hrl, hbe, rfl⟩ := hrel
    cases gk with
    | zero =>
      obtain rfl : i = 4 := by omega
      have hrt : r = told := by
        have h1 := hbe.out
        rw [List.drop_of_length_le (by have := HL.out.2.1; omega)] at h1
        exact h1
      subst hrt
      go_wp2_with fail
      have HX := Aside0.mk (show (Kd.int .u8).C wr (some ⟨ad.block, ad.off + 1, none⟩) (n - 1) ((l.take n).drop 1) by
        have h1 := Rd.mid_on HR.out (lo := 1) (hi := n) HL.out.2.2 (by have := HL.out.2.1; omega) hc (by have := HL.out.2.1; omega)
        have h2 : ((l.take n).drop 1).length = n - 1 := by have := HL.out.2.1; simp; omega
        rw [h2] at h1
        exact Kd.C_below h1 HB0.out)
      refine (new_calls' _ (n - 1) (c - 1) _ _ HX.out (by simp; have := HL.out; omega)).mono ?_
      rintro e w4 ⟨g, w0, rfl, hI, hB0, hBw, hB4⟩
      have HI := Aside0.mk hI
      have HB4 := Aside0.mk hB0
      have HBW := Aside0.mk (HB0.out.trans (hBw.mono HB0.out.size))
      have HZ := Aside0.mk (show w.heap.size < w0.heap.size from Nat.lt_of_lt_of_le (by rw [HW1.out]; simp) hBw.size)
      have HC0 := Aside0.mk ((hBw.cell (p := ad) (blk_of_cell hcell)).trans hcell)
      have HRW := Aside0.mk hBw
      clear hI hB0 hBw hB4 hcell hcn hnc hc' hsub hw h1 HX
      go_wp2_with fail
      refine (rnumber_calls g _ w0 _ HI.out HB4.out _ _ _ _ P1.out).mono ?_
      rintro e w5 ⟨rfl, hI5, hB5, _⟩
      have HI5 := Aside0.mk hI5
      have HB5 := Aside0.mk hB5
      clear hI5 hB5
      go_wp2_with fail
      refine (rnumber_calls g _ w0 _ HI5.out HB5.out _ _ _ _ P2.out).mono ?_
      rintro e w6 ⟨rfl, hI6, hB6, _⟩
      have HI6 := Aside0.mk hI6
      have HB6 := Aside0.mk hB6
      clear hI6 hB6
      go_wp2_with fail
      refine (rbytes_calls g _ w0 _ HI6.out HB6.out _ HX2.out (by decide) _ _ _ P3.out).mono ?_
      rintro e w7 ⟨v7, rfl, ho7, hI7, hB7, _⟩
      obtain ⟨A7, c7, rfl, hc7, hr7⟩ := Kd.R_reads ho7
      obtain ⟨n7, hn7⟩ : ∃ n7, n7 = bd.length := ⟨_, rfl⟩
      rw [← hn7] at hr7 hc7 ho7 ⊢
      have HO7 := Aside0.mk ho7
      have HI7 := Aside0.mk hI7
      have HB7 := Aside0.mk hB7
      have HN7 := Aside0.mk hn7
      clear ho7 hI7 hB7 hr7 hc7 hn7
      have hcell := (HB7.out.cell (p := ad) (blk_of_cell HC0.out)).trans HC0.out
      go_upto_region 15 with fail
      obtain ⟨W8, hW8⟩ : ∃ W, W = w7.alloc (.cells #[.bool (rd l 0 == 1), .int .i64 sq, .int .i64 ak, .slice A7 n7 c7] 53) := ⟨_, rfl⟩
      rw [← hW8]
      have hs0 : w0.heap.size ≤ w7.heap.size := HB7.out.size
      have HB8 := Aside0.mk (show Below w.heap.size w W8 by rw [hW8]; exact (HBW.out.trans (HB7.out.mono (Nat.le_of_lt HZ.out))).alloc (Nat.le_trans (Nat.le_of_lt HZ.out) hs0) _)
      have HRES := Aside0.mk (show W8.heap[w.heap.size]? = some (.cells zeroV 53 (0, 0)) by
        rw [hW8, heap_alloc_old _ _ (Nat.lt_of_lt_of_le HZ.out hs0), HB7.out.block _ HZ.out, HRW.out.block _ (by rw [HW1.out]; simp), HW1.out]
        exact heap_alloc_new w _)
      have HBOX := Aside0.mk (show W8.heap[w7.heap.size]? = some (.cells #[.bool (rd l 0 == 1), .int .i64 sq, .int .i64 ak, .slice A7 n7 c7] 53 (0, 0)) by rw [hW8]; exact heap_alloc_new w7 _)
      have HI8 := Aside0.mk (HI7.out.same (W' := W8) (by rw [hW8]; exact heap_alloc_old _ _ HI7.out.lt))
      have HO8 := Aside0.mk (show (Kd.int .u8).R 5 W8 w.heap.size (fun _ => True) (.slice A7 n7 c7) bd by rw [hW8]; exact Kd.R_alloc (Kd.R_lower HO7.out (Nat.le_trans (Nat.le_of_lt HZ.out) HB6.out.size)) _)
      clear hW8 hcell hw1 hw2
      have H := Aside0.mk hd
      clear hd
      by_cases c1 : e1 = 0
      case neg =>
        have cb : (e1 != 0) = true := bne_iff_ne.2 c1
        obtain ⟨h1, h2⟩ : F = (false, 0, 0, []) ∧ E = 14 := by have h := H.out; unfold decF at h; rw [P1.out] at h; simp only at h; rw [P2.out] at h; simp only at h; rw [P3.out] at h; simp only at h; rw [if_neg (by exact fun hh => c1 hh.1)] at h; exact ⟨(Prod.mk.inj h).1.symm, (Prod.mk.inj h).2.symm⟩
        subst h1 h2
        go_wp2_with (refine wpList_store_row rfl 53 (.tmp 2) (.tmp 99) rfl w.heap.size zeroV rfl rfl 53 zeroV HRES.out size53 rfl (frame_one _ _ _ _ _ _) ?_)
        refine bodyPost_ret (v := .tuple #[.agg zeroV, .int .i64 14]) (ret_cell rfl _ _ w.heap.size 53 zeroV (0, 0) _ rfl rfl (setRow_heap _ _ zeroV zeroV 53 (0, 0) HRES.out) rfl) rfl ?_
        exact ⟨_, rfl, Kd.R_nil _ _ _ _ _, below_setRow HB8.out (Nat.le_refl _) _⟩
      subst c1
      by_cases c2 : e2 = 0
      case neg =>
        have cb : (e2 != 0) = true := bne_iff_ne.2 c2
        obtain ⟨h1, h2⟩ : F = (false, 0, 0, []) ∧ E = 14 := by have h := H.out; unfold decF at h; rw [P1.out] at h; simp only at h; rw [P2.out] at h; simp only at h; rw [P3.out] at h; simp only at h; rw [if_neg (by exact fun hh => c2 hh.2.1)] at h; exact ⟨(Prod.mk.inj h).1.symm, (Prod.mk.inj h).2.symm⟩
        subst h1 h2
        go_wp2_with (refine wpList_store_row rfl 53 (.tmp 2) (.tmp 99) rfl w.heap.size zeroV rfl rfl 53 zeroV HRES.out size53 rfl (frame_one _ _ _ _ _ _) ?_)
        refine bodyPost_ret (v := .tuple #[.agg zeroV, .int .i64 14]) (ret_cell rfl _ _ w.heap.size 53 zeroV (0, 0) _ rfl rfl (setRow_heap _ _ zeroV zeroV 53 (0, 0) HRES.out) rfl) rfl ?_
        exact ⟨_, rfl, Kd.R_nil _ _ _ _ _, below_setRow HB8.out (Nat.le_refl _) _⟩
      subst c2
      by_cases c3 : e3 = 0
      case neg =>
        have cb : (e3 != 0) = true := bne_iff_ne.2 c3
        obtain ⟨h1, h2⟩ : F = (false, 0, 0, []) ∧ E = 14 := by have h := H.out; unfold decF at h; rw [P1.out] at h; simp only at h; rw [P2.out] at h; simp only at h; rw [P3.out] at h; simp only at h; rw [if_neg (by exact fun hh => c3 hh.2.2.1)] at h; exact ⟨(Prod.mk.inj h).1.symm, (Prod.mk.inj h).2.symm⟩
        subst h1 h2
        go_wp2_with (refine wpList_store_row rfl 53 (.tmp 2) (.tmp 99) rfl w.heap.size zeroV rfl rfl 53 zeroV HRES.out size53 rfl (frame_one _ _ _ _ _ _) ?_)
        refine bodyPost_ret (v := .tuple #[.agg zeroV, .int .i64 14]) (ret_cell rfl _ _ w.heap.size 53 zeroV (0, 0) _ rfl rfl (setRow_heap _ _ zeroV zeroV 53 (0, 0) HRES.out) rfl) rfl ?_
        exact ⟨_, rfl, Kd.R_nil _ _ _ _ _, below_setRow HB8.out (Nat.le_refl _) _⟩
      subst c3
      by_cases c4 : X3.length = 0
      case neg =>
        have cb : ((X3.length : Int) > 0) := by omega
        obtain ⟨h1, h2⟩ : F = (false, 0, 0, []) ∧ E = 14 := by have h := H.out; unfold decF at h; rw [P1.out] at h; simp only at h; rw [P2.out] at h; simp only at h; rw [P3.out] at h; simp only at h; rw [if_neg (by exact fun hh => c4 hh.2.2.2.1)] at h; exact ⟨(Prod.mk.inj h).1.symm, (Prod.mk.inj h).2.symm⟩
        subst h1 h2
        go_wp2_with (first | (go_at_call 62; refine (left_calls g X3 w0 _ HI8.out).mono ?_; rintro e w9 ⟨rfl, rfl⟩) | (refine wpList_store_row rfl 53 (.tmp 2) (.tmp 99) rfl w.heap.size zeroV rfl rfl 53 zeroV HRES.out size53 rfl (frame_one _ _ _ _ _ _) ?_))
        refine bodyPost_ret (v := .tuple #[.agg zeroV, .int .i64 14]) (ret_cell rfl _ _ w.heap.size 53 zeroV (0, 0) _ rfl rfl (setRow_heap _ _ zeroV zeroV 53 (0, 0) HRES.out) rfl) rfl ?_
        exact ⟨_, rfl, Kd.R_nil _ _ _ _ _, below_setRow HB8.out (Nat.le_refl _) _⟩
      have cl : ¬ ((X3.length : Int) > 0) := by omega
      have HTK := Aside0.mk (show (Kd.int .u8).C W8 (some ad) n (l.take n) by
        have h1 := Kd.C_take HR.out (m := n) (by have := HL.out.2.1; omega)
        have h2 : (l.take n).length = n := by have := HL.out.2.1; simp; omega
        rw [h2] at h1
        exact Kd.C_below h1 HB8.out)
      have HTL := Aside0.mk (show (l.take n).length < 9223372036854775807 by have := HL.out; simp; omega)
      have HTB := Aside0.mk (show ∀ x ∈ l.take n, 0 ≤ x ∧ x < 256 from fun x hx => HB.out x (List.mem_of_mem_take hx))
      obtain ⟨S, hS⟩ : ∃ S : Nat, S = 4294967295 ^^^ crc (l.take n) 4294967295 := ⟨_, rfl⟩
      have HSU := Aside0.mk hS
      clear hS
      have hnc : (n : Int) ≤ (l.length : Int) := by have := HL.out.2.1; omega
      have hnc2 : (n : Int) ≤ (c : Int) := by have := HL.out.2.1; omega
      by_cases c5 : r = S
      case neg =>
        have cb : ((r : Int) != (S : Int)) = true := bne_iff_ne.2 (by omega)
        obtain ⟨h1, h2⟩ : F = (false, 0, 0, []) ∧ E = 14 := by have h := H.out; unfold decF at h; rw [P1.out] at h; simp only at h; rw [P2.out] at h; simp only at h; rw [P3.out] at h; simp only at h; rw [if_neg (by exact fun hh => c5 (HT.out.trans (hh.2.2.2.2.1.trans HSU.out.symm)))] at h; exact ⟨(Prod.mk.inj h).1.symm, (Prod.mk.inj h).2.symm⟩
        subst h1 h2
        go_wp2_with (first | (go_at_call 62; refine (left_calls g X3 w0 _ HI8.out).mono ?_; rintro e w9 ⟨rfl, rfl⟩) | (go_at_call 16; refine (sum_calls' (some ad) n c (l.take n) _ HTK.out HTL.out HTB.out).mono ?_; rintro e w9 ⟨rfl, hb9⟩; have HB9 := Aside0.mk hb9; have HRES9 := Aside0.mk ((hb9.block _ (blk_lt HRES.out)).trans HRES.out); have HBOX9 := Aside0.mk ((hb9.block _ (blk_lt HBOX.out)).trans HBOX.out); have q0 := (blk_cell HBOX9.out 0).trans rfl; have q1 := (blk_cell HBOX9.out 1).trans rfl; have q2 := (blk_cell HBOX9.out 2).trans rfl; have q3 := (blk_cell HBOX9.out 3).trans rfl; rw [← HSU.out]; clear hb9) | (refine wpList_store_row rfl 53 (.tmp 2) (.tmp 99) rfl w.heap.size zeroV rfl rfl 53 zeroV HRES9.out size53 rfl (frame_one _ _ _ _ _ _) ?_))
        refine bodyPost_ret (v := .tuple #[.agg zeroV, .int .i64 14]) (ret_cell rfl _ _ w.heap.size 53 zeroV (0, 0) _ rfl rfl (setRow_heap _ _ zeroV zeroV 53 (0, 0) HRES9.out) rfl) rfl ?_
        exact ⟨_, rfl, Kd.R_nil _ _ _ _ _, below_setRow (HB8.out.trans (HB9.out.mono HB8.out.size)) (Nat.le_refl _) _⟩
      have cq : ((r : Int) != (S : Int)) = false := by rw [c5]; simp
      have HN8 := Aside0.mk HN7.out
      cases c6 : rightB (rd l 0 == 1) sq ak n7 with
      | false =>
        have HRT := Aside0.mk c6
        obtain ⟨h1, h2⟩ : F = (false, 0, 0, []) ∧ E = 14 := by have h := H.out; unfold decF at h; rw [P1.out] at h; simp only at h; rw [P2.out] at h; simp only at h; rw [P3.out] at h; simp only at h; rw [if_neg (by exact fun hh => by have h6 := hh.2.2.2.2.2; rw [← HN7.out, HRT.out] at h6; exact Bool.noConfusion h6)] at h; exact ⟨(Prod.mk.inj h).1.symm, (Prod.mk.inj h).2.symm⟩
        subst h1 h2
        clear c6
        go_wp2_with (first | (go_at_call 62; refine (left_calls g X3 w0 _ HI8.out).mono ?_; rintro e w9 ⟨rfl, rfl⟩) | (go_at_call 16; refine (sum_calls' (some ad) n c (l.take n) _ HTK.out HTL.out HTB.out).mono ?_; rintro e w9 ⟨rfl, hb9⟩; have HB9 := Aside0.mk hb9; have HRES9 := Aside0.mk ((hb9.block _ (blk_lt HRES.out)).trans HRES.out); have HBOX9 := Aside0.mk ((hb9.block _ (blk_lt HBOX.out)).trans HBOX.out); have q0 := (blk_cell HBOX9.out 0).trans rfl; have q1 := (blk_cell HBOX9.out 1).trans rfl; have q2 := (blk_cell HBOX9.out 2).trans rfl; have q3 := (blk_cell HBOX9.out 3).trans rfl; rw [← HSU.out]; clear hb9) | (go_at_call 65; refine (right_is (rd l 0 == 1) sq ak A7 n7 c7 _ false HRT.out).mono ?_; rintro e w10 ⟨rfl, hw10⟩; have HB10 := Aside0.mk (show Below w9.heap.size w9 w10 by rw [hw10]; exact below_alloc (Below.refl _ _) _); clear hw10; have HRES10 := Aside0.mk ((HB10.out.block _ (blk_lt HRES9.out)).trans HRES9.out); have HBOX10 := Aside0.mk ((HB10.out.block _ (blk_lt HBOX9.out)).trans HBOX9.out)) | (refine wpList_store_row rfl 53 (.tmp 2) (.tmp 99) rfl w.heap.size zeroV rfl rfl 53 zeroV HRES10.out size53 rfl (frame_one _ _ _ _ _ _) ?_))
        refine bodyPost_ret (v := .tuple #[.agg zeroV, .int .i64 14]) (ret_cell rfl _ _ w.heap.size 53 zeroV (0, 0) _ rfl rfl (setRow_heap _ _ zeroV zeroV 53 (0, 0) HRES10.out) rfl) rfl ?_
        exact ⟨_, rfl, Kd.R_nil _ _ _ _ _, below_setRow ((HB8.out.trans (HB9.out.mono HB8.out.size)).trans (HB10.out.mono (Nat.le_trans HB8.out.size HB9.out.size))) (Nat.le_refl _) _⟩
      | true =>
        have HRT := Aside0.mk c6
        obtain ⟨h1, h2⟩ : F = (rd l 0 == 1, sq, ak, bd) ∧ E = 0 := by have h := H.out; unfold decF at h; rw [P1.out] at h; simp only at h; rw [P2.out] at h; simp only at h; rw [P3.out] at h; simp only at h; rw [if_pos (by exact ⟨trivial, trivial, trivial, c4, HT.out.symm.trans (c5.trans HSU.out), by rw [← HN7.out]; exact HRT.out⟩)] at h; exact ⟨(Prod.mk.inj h).1.symm, (Prod.mk.inj h).2.symm⟩
        subst h1 h2
        clear c6
        go_wp2_with (first | (go_at_call 62; refine (left_calls g X3 w0 _ HI8.out).mono ?_; rintro e w9 ⟨rfl, rfl⟩) | (go_at_call 16; refine (sum_calls' (some ad) n c (l.take n) _ HTK.out HTL.out HTB.out).mono ?_; rintro e w9 ⟨rfl, hb9⟩; have HB9 := Aside0.mk hb9; have HRES9 := Aside0.mk ((hb9.block _ (blk_lt HRES.out)).trans HRES.out); have HBOX9 := Aside0.mk ((hb9.block _ (blk_lt HBOX.out)).trans HBOX.out); have q0 := (blk_cell HBOX9.out 0).trans rfl; have q1 := (blk_cell HBOX9.out 1).trans rfl; have q2 := (blk_cell HBOX9.out 2).trans rfl; have q3 := (blk_cell HBOX9.out 3).trans rfl; rw [← HSU.out]; clear hb9) | (go_at_call 65; refine (right_is (rd l 0 == 1) sq ak A7 n7 c7 _ true HRT.out).mono ?_; rintro e w10 ⟨rfl, hw10⟩; have HB10 := Aside0.mk (show Below w9.heap.size w9 w10 by rw [hw10]; exact below_alloc (Below.refl _ _) _); clear hw10; have HRES10 := Aside0.mk ((HB10.out.block _ (blk_lt HRES9.out)).trans HRES9.out); have HBOX10 := Aside0.mk ((HB10.out.block _ (blk_lt HBOX9.out)).trans HBOX9.out)) | (refine wpList_load_row rfl 53 (.tmp 15) rfl w7.heap.size rfl 53 _ (0, 0) _ HBOX10.out Try.underlying53 rfl size53 ?_) | (refine wpList_store_row rfl 53 (.tmp 2) (.tmp 100) rfl w.heap.size #[.bool (rd l 0 == 1), .int .i64 sq, .int .i64 ak, .slice A7 n7 c7] rfl rfl 53 zeroV HRES10.out size53 rfl (frame_one _ _ _ _ _ _) ?_))
        refine bodyPost_ret (v := .tuple #[.agg #[.bool (rd l 0 == 1), .int .i64 sq, .int .i64 ak, .slice A7 n7 c7], .int .i64 0]) (ret_cell rfl _ _ w.heap.size 53 _ (0, 0) _ rfl rfl (setRow_heap _ _ zeroV _ 53 (0, 0) HRES10.out) rfl) rfl ?_
        exact ⟨_, rfl, R_setRow (Kd.R_below (Kd.R_below HO8.out HB9.out) HB10.out) HRES10.out (by decide) _, below_setRow ((HB8.out.trans (HB9.out.mono HB8.out.size)).trans (HB10.out.mono (Nat.le_trans HB8.out.size HB9.out.size))) (Nat.le_refl _) _⟩
    | succ g =>
      have hi : (i : Int) < 4 := by omega
      obtain ⟨ad', he, hx⟩ := Kd.at_int (Kd.C_below HR.out HB0.out) ((n + i : Nat) : Int) (by omega) (by have := HL.out.2.1; omega)
      injection he with he
      subst he
      rw [Int.toNat_natCast, ← Opn.add_add] at hx
      have hil : n + i < l.length := by have := HL.out.2.1; omega
      have hb := HB.out _ (Fs.rd_mem l (n + i) hil)
      have hd := Fs.rd_drop l (n + i) hil
      obtain ⟨b, hbb⟩ : ∃ b : Nat, rd l ((n + i : Nat) : Int) = (b : Int) := ⟨(rd l ((n + i : Nat) : Int)).toNat, by omega⟩
      rw [hbb] at hx hb hd
      have hor := or_byte r b (by omega)
      have hnx := Aside0.mk (show beN (l.drop (n + (i + 1))) (r * 256 % 4294967296 + b) = told by
        rw [← hbe.out, hd]
        show _ = beN (l.drop (n + i + 1)) (r * 256 % 4294967296 + ((b : Int).toNat))
        rw [Int.toNat_natCast, Nat.add_assoc])
      have hlt := Aside0.mk (show r * 256 % 4294967296 + b < 4294967296 by omega)
      clear hil hb hd hbb
      go_wp2
      go_roundg g
      case measure => omega
      case rel => exact ⟨i + 1, _, by omega, rfl, by first | rfl | simp, hlt, hnx, rfl⟩
end Go.Proofs.Ytekakngojhnleaa.De
/- The document's reader tells what the program's does: Number and Int as plain functions; and the frame of two readers side by side. -/
namespace Go.Proofs.Ytekakngojhnleaa.Rd
set_option linter.unusedSimpArgs false
set_option linter.unusedVariables false
open Go.RowKit Go.Proofs.Ytekakngojhnleaa.Rf Go.Proofs.YtekakngojhnleaaW.PrintWords Go.Proofs.YtekakngojhnleaaW.PrintLast Go.Proofs.YtekakngojhnleaaW.PrintMore

theorem drop_at {xs : List Int} {a m : Nat} : (xs.drop a).drop m = xs.drop (a + m) := by rw [List.drop_drop]

theorem wrap_sum (a m : Nat) (h : a + m ≤ 140737488355328) : wrap64 ((a : Int) + (m : Int)) = ((a + m : Nat) : Int) := by unfold wrap64; omega

/-- Number: both readers. -/
theorem ref_number (xs : List Int) (hb : ∀ c ∈ xs, 0 ≤ c ∧ c < 256) (hlen : xs.length ≤ 140737488355328) (at_ : Nat) (hat : at_ ≤ xs.length) (most : Int) :
    ∃ x e at', at' ≤ xs.length ∧ rNum most (xs.drop at_) = (x, e, xs.drop at') ∧ windbreakref09_Reader_Number.f 32 xs (at_ : Int) most = some (x, e, (at' : Int)) := by
  have hn := ref_next xs hb (by omega) at_ hat
  have hle := nx_le (xs.drop at_) 0 0
  simp only [List.length_drop] at hle
  unfold rNum windbreakref09_Reader_Number.f
  obtain ⟨n, m, hx⟩ : ∃ n m, nx 0 0 (xs.drop at_) = (n, m) := ⟨_, _, rfl⟩
  rw [hx] at hn hle ⊢
  rw [hn, Option.bind_some]
  simp only
  by_cases h0 : m = 0
  · exact ⟨0, 13, at_, hat, by rw [if_pos (.inl h0)], by rw [if_pos (by omega)]⟩
  · by_cases h1 : most < n
    · exact ⟨0, 13, at_, hat, by rw [if_pos (.inr h1)], by rw [if_neg (by omega), if_pos h1]⟩
    · refine ⟨n, 0, at_ + m, by simp only at hle; omega, by rw [if_neg (by omega), drop_at], ?_⟩
      rw [if_neg (by omega), if_neg (by omega), wrap_sum at_ m (by simp only at hle; omega)]

theorem below_of_keep {w0 W W' wx : World} {h : Nat} {B B' : Nat} (hB : Below w0.heap.size w0 W) (hK : KeepBut W W' h none) (hh : w0.heap.size ≤ h) (h1 : Below B wx W) (h2 : Below B' wx W') : Below w0.heap.size w0 W' :=
  ⟨h2.os.trans (h1.os.symm.trans hB.os), h2.tape.trans (h1.tape.symm.trans hB.tape), h2.output.trans (h1.output.symm.trans hB.output), Nat.le_trans hB.size hK.1,
    fun k hk => (hK.2 k (Nat.lt_of_lt_of_le hk hB.size) (by omega) (by simp)).trans (hB.block k hk)⟩
theorem IsS118.same {w0 W W' : World} {g : Nat} {f0 : List Int} {f1 : Int} (h : IsS118 w0 W g f0 f1) (e : W'.heap[g]? = W.heap[g]?) : IsS118 w0 W' g f0 f1 := by
  obtain ⟨A, c, hb, hg, hr⟩ := h
  exact ⟨A, c, e.trans hb, hg, hr⟩
end Go.Proofs.Ytekakngojhnleaa.Rd
