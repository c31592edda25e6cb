/- Frames: frame.Encode. -/
import Derived.Test.YtekakngojhnleaaRt
import Derived.Test.YtekakngojhnleaaFw
namespace Go.Proofs.Ytekakngojhnleaa.En
set_option linter.unusedSimpArgs false
set_option linter.unusedVariables false
open Go.RowKit Go.Proofs.Ytekakngojhnleaa.Fns Go.Proofs.Ytekakngojhnleaa.Rd Go.Proofs.Ytekakngojhnleaa.Rt Go.Proofs.Ytekakngojhnleaa.Fs Go.Proofs.Ytekakngojhnleaa.Fp Go.Proofs.YtekakngojhnleaaW.PrintWords Go.Proofs.YtekakngojhnleaaW.PrintLast Go.Proofs.YtekakngojhnleaaW.PrintMore

/-- The four bytes of a sum, the highest first. -/
def be4 (s : Nat) : List Int := [((s / 16777216 % 256 : Nat) : Int), ((s / 65536 % 256 : Nat) : Int), ((s / 256 % 256 : Nat) : Int), ((s % 256 : Nat) : Int)]
def sumN (l : List Int) : Nat := 4294967295 ^^^ crc l 4294967295
/-- A frame's bytes ahead of the sum. -/
def headL (d : Bool) (s a : Nat) (l : List Int) : List Int := (([if d then 1 else 0] ++ enc 9 s) ++ enc 9 a) ++ (enc 9 l.length ++ l)
def frameL (d : Bool) (s a : Nat) (l : List Int) : List Int := headL d s a l ++ be4 (sumN (headL d s a l))

theorem R_row (w : World) (base : Nat) (xs : List Int) (k : IntKind) (e : Nat) (hl : xs.length ≤ 9223372036854775807) (hb : base ≤ w.heap.size) : (Kd.int k).R e (w.alloc (.cells (xs.map (Value.int k)).toArray e)) base (fun _ => True) (.slice (some ⟨w.heap.size, 0, none⟩) xs.length xs.length) xs := by
  refine ⟨fun _ _ => trivial, xs.map (Value.int k), ?_, Kd.reps_scalar xs⟩
  have h := World.ownsRow_lit (base := base) (e := e) (size := 1) w (xs.map (Value.int k)).toArray xs.length hb (by simpa [maxLen] using hl) (by simp)
  have e1 : (xs.map (Value.int k)).toArray.toList = xs.map (Value.int k) := rfl
  rw [e1] at h
  exact h

theorem head_bytes (d : Bool) (s a : Nat) (l : List Int) (hs : s ≤ 1073741824) (ha : a ≤ 1073741824) (hl : l.length ≤ 1048576) (hb : ∀ x ∈ l, 0 ≤ x ∧ x < 256) : ∀ x ∈ headL d s a l, 0 ≤ x ∧ x < 256 := by
  have hp : (128 : Nat) ^ (9 + 1) = 1180591620717411303424 := by decide
  intro x hx
  unfold headL at hx
  simp only [List.mem_append, List.mem_cons, List.not_mem_nil, or_false] at hx
  rcases hx with ((hx | hx) | hx) | hx | hx
  · subst hx
    cases d <;> decide
  · exact enc_bytes 9 s (by omega) x hx
  · exact enc_bytes 9 a (by omega) x hx
  · exact enc_bytes 9 l.length (by omega) x hx
  · exact hb x hx
theorem bytes_is (l : List Int) (h : l.length ≤ 1048576) : codec_Bytes.f 10 l = some (enc 9 l.length ++ l) := by
  have hw : IntKind.u64.wrap (l.length : Int) = (l.length : Int) := by rw [IntKind.wrap_u64]; omega
  unfold codec_Bytes.f
  rw [hw, number_is l.length (by omega), Option.bind_some, if_pos (by have := enc_le 9 l.length; omega)]

set_option maxRecDepth 100000 in
set_option maxHeartbeats 1000000 in
theorem encode_no (d : Bool) (s a : Int) (A : Option Addr) (n c : Nat) (w : World) (h : rightB d s a n = false) :
    Calls Try.prog 26 #[.agg #[.bool d, .int .i64 s, .int .i64 a, .slice A n c]] w fun e w' => e = .returned (.tuple #[.slice none 0 0, .int .i64 1]) ∧ Below w.heap.size w w' := by
  have H := Aside0.mk h
  clear h
  go_enter Try.func26, Try.ntmps26
  go_wp2_with fail
  refine (right_is d s a A n c _ false H.out).mono ?_
  rintro e w1 ⟨rfl, rfl⟩
  go_wp2_with fail
  go_ret2
  exact ⟨rfl, below_alloc (below_alloc (Below.refl _ _) _) _⟩

set_option maxRecDepth 100000 in
set_option maxHeartbeats 2000000 in
theorem encode_yes (d : Bool) (s a : Nat) (A : Option Addr) (c : Nat) (l : List Int) (w : World) (hr : Kd.C (Kd.int .u8) w A l.length l) (hc : l.length ≤ c) (h : rightB d s a l.length = true) (hs : s ≤ 1073741824) (ha : a ≤ 1073741824) (hl : l.length ≤ 1048576) (hb : ∀ x ∈ l, 0 ≤ x ∧ x < 256) :
    Calls Try.prog 26 #[.agg #[.bool d, .int .i64 (s : Int), .int .i64 (a : Int), .slice A l.length c]] w fun e w' => ∃ v, e = .returned (.tuple #[v, .int .i64 0]) ∧ (Kd.int .u8).R 5 w' w.heap.size (fun _ => True) v (frameL d s a l) ∧ Below w.heap.size w w' := by
  have H := Aside0.mk h
  have HR := Aside0.mk hr
  have HB := Aside0.mk hb
  have HS := Aside0.mk (And.intro hs (And.intro ha hl))
  clear h hr hb hs ha hl
  go_enter Try.func26, Try.ntmps26
  go_wp2_with fail
  refine (right_is d s a A l.length c _ true H.out).mono ?_
  rintro e w1 ⟨rfl, rfl⟩
  obtain ⟨W1, hW1⟩ : ∃ W, W = w.alloc (.cells #[.bool d, .int .i64 (s : Int), .int .i64 (a : Int), .slice A l.length c] 53) := ⟨_, rfl⟩
  rw [← hW1]
  have hws : IntKind.u64.wrap (s : Int) = s := by rw [IntKind.wrap_u64]; have := HS.out; omega
  have hwa : IntKind.u64.wrap (a : Int) = a := by rw [IntKind.wrap_u64]; have := HS.out; omega
  have hB1 : Below w.heap.size w W1 := by rw [hW1]; exact below_alloc (Below.refl _ _) _
  have hz1 : W1.heap.size = w.heap.size + 1 := by rw [hW1]; simp
  have hc1 : W1.cell? ⟨w.heap.size, 1, none⟩ = some (.int .i64 (s : Int)) := by rw [hW1, World.cell?_alloc_mark]; rfl
  have hc2 : W1.cell? ⟨w.heap.size, 2, none⟩ = some (.int .i64 (a : Int)) := by rw [hW1, World.cell?_alloc_mark]; rfl
  have hc3 : W1.cell? ⟨w.heap.size, 3, none⟩ = some (.slice A l.length c) := by rw [hW1, World.cell?_alloc_mark]; rfl
  have HC := Aside0.mk (And.intro hc1 (And.intro hc2 hc3))
  have HB1 := Aside0.mk hB1
  have HZ := Aside0.mk hz1
  have hc0 : W1.cell? ⟨w.heap.size, 0, none⟩ = some (.bool d) := by rw [hW1, World.cell?_alloc_mark]; rfl
  clear hc1 hc2 hc3 hB1 hz1 hW1
  obtain ⟨W2, hW2⟩ : ∃ W, W = (W1.alloc (.cells #[.bool d, .int .i64 (s : Int), .int .i64 (a : Int), .slice A l.length c] 53)) := ⟨_, rfl⟩
  rw [← hW2]
  have hB2 : Below W1.heap.size W1 W2 := by rw [hW2]; exact below_alloc (Below.refl _ _) _
  have HB2 := Aside0.mk hB2
  have hc0' := (hB2.cell (p := ⟨w.heap.size, 0, none⟩) (show w.heap.size < W1.heap.size by rw [HZ.out]; omega)).trans hc0
  have hlt2 : w.heap.size < W2.heap.size := Nat.lt_of_lt_of_le (by rw [HZ.out]; omega) hB2.size
  have hc0a : ∀ o, (W2.alloc o).cell? ⟨w.heap.size, 0, none⟩ = some (.bool d) := fun o => ((Below.refl W2.heap.size W2).alloc (Nat.le_refl _) o |>.cell (p := ⟨w.heap.size, 0, none⟩) hlt2).trans hc0'
  have hc1a : ∀ o, (W2.alloc o).cell? ⟨w.heap.size, 1, none⟩ = some (.int .i64 (s : Int)) := fun o => (((Below.refl W2.heap.size W2).alloc (Nat.le_refl _) o).cell (p := ⟨w.heap.size, 1, none⟩) hlt2).trans ((HB2.out.cell (p := ⟨w.heap.size, 1, none⟩) (show w.heap.size < W1.heap.size by rw [HZ.out]; omega)).trans HC.out.1)
  have HLT := Aside0.mk hlt2
  clear hc0 hW2 hB2 hlt2 hc0'
  obtain ⟨x, hx⟩ : ∃ x : Int, x = if d then 1 else 0 := ⟨_, rfl⟩
  have HX := Aside0.mk hx
  clear hx
  have HN1 := Aside0.mk (number_is s (by have := HS.out; omega))
  have HN2 := Aside0.mk (number_is a (by have := HS.out; omega))
  have HBY := Aside0.mk (bytes_is l (by have := HS.out; omega))
  obtain ⟨D, hD⟩ : ∃ D, D = headL d s a l := ⟨_, rfl⟩
  have HD := Aside0.mk hD
  have HH := Aside0.mk (show (([x] ++ enc 9 s) ++ enc 9 a) ++ (enc 9 l.length ++ l) = D by rw [hD, HX.out]; rfl)
  have HDL := Aside0.mk (show D.length ≤ 1048610 by have := enc_le 9 s; have := enc_le 9 a; have := enc_le 9 l.length; have := HS.out; rw [← HH.out]; simp only [List.length_append, List.length_cons, List.length_nil]; omega)
  have HDB := Aside0.mk (head_bytes d s a l (by have := HS.out; omega) (by have := HS.out; omega) (by have := HS.out; omega) HB.out)
  rw [← hD] at HDB
  clear hD
  cases d
  all_goals
    go_wp2_with fail
    obtain ⟨W3, hW3⟩ : ∃ W, W = W2.alloc (.cells (([x].map (Value.int .u8)).toArray) 5) := ⟨_, rfl⟩
    have hx := HX.out
    simp only [if_true, Bool.false_eq_true, if_false] at hx
    have hE : (Kd.int .u8).R 5 W3 W1.heap.size (fun _ => True) (.slice (some ⟨W2.heap.size, 0, none⟩) 1 1) [x] := by rw [hW3]; exact R_row W2 W1.heap.size [x] .u8 5 (by simp) HB2.out.size
    have hB3 : Below W1.heap.size W1 W3 := by rw [hW3]; exact below_alloc HB2.out _
    rw [hx] at hW3
    change W3 = W2.alloc (.cells #[.int .u8 _] 5) at hW3
    rw [← hW3]
    have HE := Aside0.mk hE
    have HB3 := Aside0.mk hB3
    clear hE hB3 hW3 hx hc1a hc0a
    refine (codec_Number.calls 10 (s : Int) _ _ HN1.out).mono ?_
    rintro e w4 ⟨v4, rfl, ho4, hb4⟩
    obtain ⟨A4, c4, rfl, hc4, hr4⟩ := Kd.R_reads ho4
    have HR4 := Aside0.mk hr4
    have HE4 := Aside0.mk (Kd.R_below HE.out hb4)
    have HB4 := Aside0.mk (HB3.out.trans (hb4.mono HB3.out.size))
    clear ho4 hr4 hb4
    go_wp2_with (at_builtin; go_loud (refine bytes_app (w0 := W1) W1.heap.size rfl (.tmp 14) (.tmp 18) rfl _ _ _ _ _ _ rfl rfl HE4.out HR4.out HB4.out HB4.out.size (by have := enc_le 9 s; simp; omega) ?_); intro A5 n5 c5 w5 hn5 ho5 hr5 hb5 _; have HO5 := Aside0.mk ho5; have HB5 := Aside0.mk hb5; have hc2 := (hb5.cell (p := ⟨w.heap.size, 2, none⟩) (show w.heap.size < W1.heap.size by rw [HZ.out]; omega)).trans HC.out.2.1; clear ho5 hr5 hb5)
    clear hws
    refine (codec_Number.calls 10 (a : Int) _ _ HN2.out).mono ?_
    rintro e w6 ⟨v6, rfl, ho6, hb6⟩
    obtain ⟨A6, c6, rfl, hc6, hr6⟩ := Kd.R_reads ho6
    have HR6 := Aside0.mk hr6
    have HE6 := Aside0.mk (Kd.R_below HO5.out hb6)
    have HB6 := Aside0.mk (HB5.out.trans (hb6.mono HB5.out.size))
    clear ho6 hr6 hb6 HO5 HB5 HE4 HR4 HB4 HE HB3
    go_wp2_with (at_builtin; go_loud (refine bytes_app (w0 := W1) W1.heap.size rfl (.tmp 20) (.tmp 24) rfl _ _ _ _ _ _ rfl rfl HE6.out HR6.out HB6.out HB6.out.size (by have := enc_le 9 s; have := enc_le 9 a; simp; omega) ?_); intro A7 n7 c7 w7 hn7 ho7 hr7 hb7 _; have HO7 := Aside0.mk ho7; have HB7 := Aside0.mk hb7; have hc3 := (hb7.cell (p := ⟨w.heap.size, 3, none⟩) (show w.heap.size < W1.heap.size by rw [HZ.out]; omega)).trans HC.out.2.2; clear ho7 hr7 hb7)
    have hw7 : Below w.heap.size w w7 := HB1.out.trans (HB7.out.mono HB1.out.size)
    refine (codec_Bytes.calls 10 A c l _ _ (Kd.C_below HR.out hw7) hc HBY.out).mono ?_
    rintro e w8 ⟨v8, rfl, ho8, hb8⟩
    obtain ⟨A8, c8, rfl, hc8, hr8⟩ := Kd.R_reads ho8
    obtain ⟨n8, hn8⟩ : ∃ n8, n8 = (enc 9 l.length ++ l).length := ⟨_, rfl⟩
    rw [← hn8] at hr8 ⊢
    have HN8 := Aside0.mk (show n8 ≤ 1048586 by have := enc_le 9 l.length; have := HS.out; rw [hn8, List.length_append]; omega)
    clear hn8 hc8
    have HR8 := Aside0.mk hr8
    have HE8 := Aside0.mk (Kd.R_below HO7.out hb8)
    have HB8 := Aside0.mk (HB7.out.trans (hb8.mono HB7.out.size))
    clear ho8 hr8 hb8 HO7 HB7 HE6 HR6 HB6 hw7
    go_wp2_with (at_builtin; go_loud (refine bytes_app (w0 := W1) W1.heap.size rfl (.tmp 26) (.tmp 29) rfl _ _ _ _ _ _ rfl rfl HE8.out HR8.out HB8.out HB8.out.size (by have := enc_le 9 s; have := enc_le 9 a; have := HN8.out; simp; omega) ?_); intro A9 n9 c9 w9 hn9 ho9 hr9 hb9 _; have HO9 := Aside0.mk ho9; have HB9 := Aside0.mk hb9; have HR9 := Aside0.mk hr9; clear ho9 hr9 hb9)
    rw [HH.out] at HO9 HR9 hn9
    have HE9 := Aside0.mk hn9.out
    clear hn9
    refine (sum_calls' A9 n9 c9 D _ HR9.out (by have := HDL.out; omega) HDB.out).mono ?_
    rintro e w10 ⟨rfl, hb10⟩
    have HE10 := Aside0.mk (Kd.R_below HO9.out hb10)
    have HB10 := Aside0.mk (HB9.out.trans (hb10.mono HB9.out.size))
    obtain ⟨S, hS⟩ : ∃ S : Nat, S = 4294967295 ^^^ crc D 4294967295 := ⟨_, rfl⟩
    have HSU := Aside0.mk hS
    rw [← hS]
    clear hS hb10
    have e0 : (S : Int) % 256 = ((S % 256 : Nat) : Int) := by omega
    have e1 : (S : Int) / 256 % 256 = ((S / 256 % 256 : Nat) : Int) := by omega
    have e2 : (S : Int) / 65536 % 256 = ((S / 65536 % 256 : Nat) : Int) := by omega
    have e3 : (S : Int) / 16777216 % 256 = ((S / 16777216 % 256 : Nat) : Int) := by omega
    obtain ⟨b0, h0⟩ : ∃ b, b = S % 256 := ⟨_, rfl⟩
    obtain ⟨b1, h1⟩ : ∃ b, b = S / 256 % 256 := ⟨_, rfl⟩
    obtain ⟨b2, h2⟩ : ∃ b, b = S / 65536 % 256 := ⟨_, rfl⟩
    obtain ⟨b3, h3⟩ : ∃ b, b = S / 16777216 % 256 := ⟨_, rfl⟩
    rw [← h0] at e0
    rw [← h1] at e1
    rw [← h2] at e2
    rw [← h3] at e3
    have HF := Aside0.mk (show D ++ [(b3 : Int), b2, b1, b0] = frameL _ s a l by unfold frameL be4 sumN; rw [← HD.out, ← HSU.out, ← h0, ← h1, ← h2, ← h3])
    clear h0 h1 h2 h3
    go_wp2_with (at_builtin; go_loud (refine bytes_app (w0 := W1) W1.heap.size rfl (.tmp 33) (.tmp 45) rfl _ _ [(b3 : Int), b2, b1, b0] _ 4 _ rfl rfl (Kd.R_alloc HE10.out _) (Fw.const_reads w10 5 (0, 0) .u8 [(b3 : Int), b2, b1, b0] (by simp)) (HB10.out.alloc HB10.out.size _) (HB10.out.alloc HB10.out.size _).size (by have := HDL.out; simp; omega) ?_); intro A11 n11 c11 w11 hn11 ho11 hr11 hb11 _)
    rw [HF.out] at ho11
    have HO := Aside0.mk (Kd.R_lower ho11 HB1.out.size)
    have HBE := Aside0.mk (HB1.out.trans (hb11.mono HB1.out.size))
    clear ho11 hr11 hb11
    go_wp2_with fail
    go_ret2
    exact ⟨_, rfl, HO.out, HBE.out⟩
end Go.Proofs.Ytekakngojhnleaa.En
