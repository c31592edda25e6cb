/- Division of two limbs by one. -/
import Derived.Test.YtdaelbihfdlgkaaNe
import Derived.WalkKit
import Derived.BigQuiet
import Derived.Deep.CutBlock
import Derived.Test.YtdaelbihfdlgkaaWMore
namespace Go.Proofs.Ytdaelbihfdlgkaa.Na
open Go.RowKit Go.Proofs.Ytdaelbihfdlgkaa.Ne Go.Proofs.YtdaelbihfdlgkaaW.PrintWords Go.Proofs.YtdaelbihfdlgkaaW.PrintLast Go.Proofs.YtdaelbihfdlgkaaW.PrintMore
set_option linter.unusedVariables false
set_option linter.unusedSimpArgs false
theorem lz_calls (x : Int) (w : World) (h0 : 0 ≤ x) (h1 : x ≤ 18446744073709551615) (s : Int) (hs : s = 64 - (Lib.bitLen x.toNat : Int)) (hs0 : 0 ≤ s) :
    Calls Try.prog 39 #[.int .u64 x] w fun e w' => e = .returned (.int .i64 s) ∧ w' = w := by
  obtain ⟨L, hL⟩ : ∃ L, L = Lib.bitLen x.toNat := ⟨_, rfl⟩
  have hc := Nk.len64 x w h0 h1
  rw [← hL] at hc hs
  have HC := Aside0.mk hc
  have hw : wrap64 (64 - (L : Int)) = s := by rw [hs]; unfold wrap64; omega
  clear hc hL hs
  go_enter Try.func39, Try.ntmps39
  go_wp2_with fail
  refine HC.out.mono ?_
  rintro e w1 ⟨rfl, hw1⟩
  subst hw1
  go_wp2_with fail
  go_ret
  show Ending.returned (Value.int .i64 (wrap64 (64 - (L : Int)))) = _ ∧ _
  rw [hw]
  exact ⟨rfl, rfl⟩
set_option maxRecDepth 100000 in
set_option maxHeartbeats 1000000 in
theorem div_zero (a1 a2 : Int) (w : World) (h1 : in64 a1) (h2 : in64 a2) (h3 : 0 < a2) :
    Calls Try.prog 28 #[.int .u64 0, .int .u64 a1, .int .u64 a2] w fun e w' => e = .returned (.tuple #[.int .u64 (a1 / a2), .int .u64 (a1 % a2)]) ∧ Drawn0 w w' := by
  have hn : ¬ a2 = 0 := by omega
  have hb : (a2 == 0) = false := beq_eq_false_iff_ne.2 hn
  have hle : ¬ a2 ≤ 0 := by omega
  have hq : Int.tdiv a1 a2 = a1 / a2 := Int.tdiv_eq_ediv_of_nonneg h1.1
  have hr : Int.tmod a1 a2 = a1 % a2 := Int.tmod_eq_emod_of_nonneg h1.1
  have hw1 : IntKind.u64.wrap (a1 / a2) = a1 / a2 := by
    rw [IntKind.wrap_u64]
    have e1 : 0 ≤ a1 / a2 := Int.ediv_nonneg h1.1 (Int.le_of_lt h3)
    have e2 : a1 / a2 ≤ a1 := Int.ediv_le_self _ h1.1
    have := h1.2
    exact Int.emod_eq_of_lt e1 (by omega)
  have hw2 : IntKind.u64.wrap (a1 % a2) = a1 % a2 := by
    rw [IntKind.wrap_u64]
    have e1 := Int.emod_nonneg a1 hn
    have e2 := Int.emod_lt_of_pos a1 h3
    have := h2.2
    exact Int.emod_eq_of_lt e1 (by omega)
  have HH := Aside0.mk (And.intro h1 h2)
  clear h1 h2
  go_enter Try.func28, Try.ntmps28
  go_wp2_with fail
  go_quiet (fail)
  go_wp2_with fail
  go_ret2
  exact ⟨rfl, ⟨nq, rfl⟩⟩
theorem pow_pred {L : Nat} (h : 0 < L) : (2 : Int) ^ L = 2 ^ (L - 1) * 2 := by
  obtain ⟨K, rfl⟩ : ∃ K, L = K + 1 := ⟨L - 1, by omega⟩
  rw [Nat.add_sub_cancel]
  exact Int.pow_succ 2 K
theorem wrap_id {x : Int} (h0 : 0 ≤ x) (h1 : x < 18446744073709551616) : IntKind.u64.wrap x = x := by
  rw [IntKind.wrap_u64]
  exact Int.emod_eq_of_lt h0 h1
theorem wrap4 {U u Z r : Int} (hr : r = U * 4294967296 + u - Z) (h0 : 0 ≤ r) (h1 : r < 18446744073709551616) : IntKind.u64.wrap (IntKind.u64.wrap (IntKind.u64.wrap (U * 4294967296) + u) - IntKind.u64.wrap Z) = r := by
  simp only [IntKind.wrap_u64]
  omega
theorem q_bd {y yn1 yn0 U u qs q rh : Int} (h : KD y yn1 yn0 U u qs) (e : q * yn1 + rh = U) (hq : qs ≤ q) (hr : 0 ≤ rh) (hy : y < 18446744073709551616) : 0 ≤ q ∧ q < 18446744073709551616 := by
  have h0 : 0 ≤ q := by have := h.q0; omega
  have h1 : q * 1 ≤ q * yn1 := Int.mul_le_mul_of_nonneg_left (by have := h.n1; omega) h0
  have := h.hU
  omega
theorem start_facts {y yn1 yn0 U u qs : Int} (h : KD y yn1 yn0 U u qs) (hy : y < 18446744073709551616) : IntKind.u64.wrap (Int.tdiv U yn1) = U / yn1 ∧ IntKind.u64.wrap (U / yn1 * yn1) = U / yn1 * yn1 ∧ IntKind.u64.wrap (U - U / yn1 * yn1) = U % yn1 := by
  obtain ⟨h1, h2, h3, h4⟩ := h.start
  have hU := h.hU
  have h5 : 0 ≤ U / yn1 := Int.ediv_nonneg hU.1 (Int.le_of_lt h.n1.1)
  have h6 : U / yn1 ≤ U := Int.ediv_le_self _ hU.1
  have h7 : 0 ≤ U / yn1 * yn1 := Int.mul_nonneg h5 (Int.le_of_lt h.n1.1)
  obtain ⟨Z, hZ⟩ : ∃ Z, Z = U / yn1 * yn1 := ⟨_, rfl⟩
  obtain ⟨D, hD⟩ : ∃ D, D = U % yn1 := ⟨_, rfl⟩
  obtain ⟨E, hE⟩ : ∃ E, E = U / yn1 := ⟨_, rfl⟩
  rw [← hZ] at h2 h7 ⊢
  rw [← hD] at h2 h3 h4 ⊢
  rw [← hE] at h5 h6
  refine ⟨?_, ?_, ?_⟩
  · rw [Int.tdiv_eq_ediv_of_nonneg hU.1, ← hE]; exact wrap_id h5 (by omega)
  · exact wrap_id (by omega) (by omega)
  · rw [show U - Z = D by omega]; exact wrap_id h3 (by have := h.n1; omega)
/-- Both moved up until the divisor's highest bit is set. -/
structure Norm (a0 a1 a2 : Int) (s : Nat) (y yn1 yn0 uh ul un32 un10 un1 un0 : Int) : Prop where
  s1 : s ≤ 63
  sl : (s : Int) = 64 - (Lib.bitLen a2.toNat : Int)
  ey : IntKind.u64.wrap (a2 * 2 ^ s) = y
  e1 : y / 4294967296 = yn1
  e0 : bits .and .u64 y 4294967295 = yn0
  eh : IntKind.u64.wrap (a0 * 2 ^ s) = uh
  el : a1 / 2 ^ (64 - s) = ul
  eu : bits .or .u64 uh ul = un32
  ew : IntKind.u64.wrap (a1 * 2 ^ s) = un10
  f1 : un10 / 4294967296 = un1
  f0 : bits .and .u64 un10 4294967295 = un0
  yy : y = a2 * 2 ^ s
  iy : in64 y
  sp : y = yn1 * 4294967296 + yn0
  r0 : 0 ≤ yn0 ∧ yn0 < 4294967296
  r1 : 0 < yn1 ∧ yn1 < 4294967296
  hU : 0 ≤ un32 ∧ un32 < y
  u1 : 0 ≤ un1 ∧ un1 < 4294967296
  u0 : 0 ≤ un0 ∧ un0 < 4294967296
  all : (a0 * 18446744073709551616 + a1) * 2 ^ s = un32 * 18446744073709551616 + un1 * 4294967296 + un0
theorem norm {a0 a1 a2 : Int} (h0 : in64 a0) (h1 : in64 a1) (h2 : in64 a2) (hlt : a0 < a2) : ∃ s y yn1 yn0 uh ul un32 un10 un1 un0, Norm a0 a1 a2 s y yn1 yn0 uh ul un32 un10 un1 un0 := by
  obtain ⟨b1, b2⟩ := bitLen_bounds a2.toNat (by have := h2.2; have := h2.1; omega)
  obtain ⟨b3, b4⟩ := b2 (by have := h0.1; omega)
  have b5 := Lib.bitLen_le a2.toNat 64 (by omega) (by have := h2.2; have := h2.1; omega)
  obtain ⟨L, hL⟩ : ∃ L, L = Lib.bitLen a2.toNat := ⟨_, rfl⟩
  rw [← hL] at b1 b3 b4 b5
  obtain ⟨s, hs⟩ : ∃ s, s = 64 - L := ⟨_, rfl⟩
  obtain ⟨P, hP⟩ : ∃ P : Int, P = 2 ^ s := ⟨_, rfl⟩
  have hPp : 0 < P := by rw [hP]; exact Int.pow_pos (by omega)
  obtain ⟨K, hK⟩ : ∃ K : Int, K = 2 ^ (64 - s) := ⟨_, rfl⟩
  have hKp : 0 < K := by rw [hK]; exact Int.pow_pos (by omega)
  have hKP : K * P = 18446744073709551616 := by rw [hK, hP, ← Int.pow_add, show 64 - s + s = 64 by omega]; rfl
  have c1 : a2 < K := by
    have e : (a2.toNat : Int) < ((2 ^ L : Nat) : Int) := by exact_mod_cast b1
    rw [hK, show 64 - s = L by omega]
    push_cast at e
    have := h2.1
    omega
  have c2 : K ≤ 2 * a2 := by
    have e : ((2 ^ (L - 1) : Nat) : Int) ≤ (a2.toNat : Int) := by exact_mod_cast b3
    have e2 : (2 : Int) ^ L = 2 ^ (L - 1) * 2 := pow_pred b4
    rw [hK, show 64 - s = L by omega, e2]
    push_cast at e
    have := h2.1
    omega
  have d1 : a2 * P < 18446744073709551616 := by
    have : (a2 + 1) * P ≤ K * P := Int.mul_le_mul_of_nonneg_right (by omega) (Int.le_of_lt hPp)
    rw [Int.add_mul, Int.one_mul] at this
    omega
  have d2 : 18446744073709551616 ≤ 2 * (a2 * P) := by
    have : K * P ≤ 2 * a2 * P := Int.mul_le_mul_of_nonneg_right c2 (Int.le_of_lt hPp)
    rw [Int.mul_assoc] at this
    omega
  have d3 : a0 * P + P ≤ a2 * P := by
    have : (a0 + 1) * P ≤ a2 * P := Int.mul_le_mul_of_nonneg_right (by omega) (Int.le_of_lt hPp)
    rw [Int.add_mul, Int.one_mul] at this
    exact this
  have d4 : 0 ≤ a0 * P := Int.mul_nonneg h0.1 (Int.le_of_lt hPp)
  have g1 : a1 / K * K + a1 % K = a1 := Int.ediv_mul_add_emod a1 K
  have g2 := Int.emod_nonneg a1 (Int.ne_of_gt hKp)
  have g3 := Int.emod_lt_of_pos a1 hKp
  have g4 : 0 ≤ a1 / K := Int.ediv_nonneg h1.1 (Int.le_of_lt hKp)
  have g5 : a1 / K < P := by
    rcases Int.lt_or_le (a1 / K) P with h | h
    · exact h
    · have : P * K ≤ a1 / K * K := Int.mul_le_mul_of_nonneg_right h (Int.le_of_lt hKp)
      rw [Int.mul_comm P K] at this
      have := h1.2
      omega
  have g6 : a1 * P = a1 / K * 18446744073709551616 + a1 % K * P := by
    conv => lhs; rw [← g1]
    rw [Int.add_mul, Int.mul_assoc, hKP]
  have g7 : a1 % K * P < 18446744073709551616 := by
    have : (a1 % K + 1) * P ≤ K * P := Int.mul_le_mul_of_nonneg_right (by omega) (Int.le_of_lt hPp)
    rw [Int.add_mul, Int.one_mul] at this
    omega
  have g8 : 0 ≤ a1 % K * P := Int.mul_nonneg g2 (Int.le_of_lt hPp)
  have w1 : IntKind.u64.wrap (a2 * 2 ^ s) = a2 * P := by rw [← hP, IntKind.wrap_u64]; exact Int.emod_eq_of_lt (by omega) d1
  have w2 : IntKind.u64.wrap (a0 * 2 ^ s) = a0 * P := by rw [← hP, IntKind.wrap_u64]; exact Int.emod_eq_of_lt d4 (by omega)
  have w3 : IntKind.u64.wrap (a1 * 2 ^ s) = a1 % K * P := by rw [← hP, IntKind.wrap_u64, g6]; omega
  have w4 : bits .or .u64 (a0 * P) (a1 / K) = a0 * P + a1 / K := by
    have := or_add s h0.1 (b := a1 / K) ⟨g4, by rw [← hP]; exact g5⟩ (by rw [← hP]; omega)
    rw [← hP] at this
    exact this
  refine ⟨s, _, _, _, _, _, _, _, _, _, ⟨by omega, by rw [← hL]; omega, w1, rfl, and32 ⟨by omega, d1⟩, w2, by rw [← hK], w4, w3, rfl, and32 ⟨g8, g7⟩, by rw [hP], ⟨by omega, d1⟩, by omega, by omega, by omega, ⟨by omega, by omega⟩, by omega, by omega, ?_⟩⟩
  rw [← hP, Int.add_mul, g6]
  rw [show a0 * 18446744073709551616 * P = a0 * P * 18446744073709551616 by rw [Int.mul_assoc, Int.mul_comm 18446744073709551616 P, ← Int.mul_assoc]]
  omega
theorem qmeas {q q1 : Int} (h : q1 ≤ q - 1) (h0 : 0 ≤ q1) : (intOf (.int .u64 (q - 1))).toNat < (intOf (.int .u64 q)).toNat := by
  simp only [intOf]
  omega
set_option maxRecDepth 100000 in
set_option maxHeartbeats 2000000 in
theorem div_main {a0 a1 a2 : Int} {s : Nat} {y yn1 yn0 uh ul un32 un10 un1 un0 : Int} (w : World) (H : Norm a0 a1 a2 s y yn1 yn0 uh ul un32 un10 un1 un0) (h0 : in64 a0) (h1 : in64 a1) (h2 : in64 a2) (hlt : a0 < a2) (hz : 0 < a0) :
    Calls Try.prog 28 #[.int .u64 a0, .int .u64 a1, .int .u64 a2] w fun e w' => e = .returned (.tuple #[.int .u64 ((a0 * 18446744073709551616 + a1) / a2), .int .u64 ((a0 * 18446744073709551616 + a1) % a2)]) ∧ Drawn0 w w' := by
  have hn : ¬ a2 = 0 := by omega
  have hb : (a2 == 0) = false := beq_eq_false_iff_ne.2 hn
  have hb0 : (a0 == 0) = false := beq_eq_false_iff_ne.2 (by omega)
  have hle : ¬ a2 ≤ a0 := by omega
  have HL := Aside0.mk (lz_calls a2 w h2.1 (by have := h2.2; omega) (s : Int) H.sl (by omega))
  have hsw : IntKind.u64.wrap (s : Int) = (s : Int) := by rw [IntKind.wrap_u64]; have := H.s1; omega
  have hs63 := H.s1
  have ey := H.ey
  have e1 := H.e1
  have e0 := H.e0
  have eh := H.eh
  have el := H.el
  have eu := H.eu
  have ew := H.ew
  have f1 := H.f1
  have f0 := H.f0
  obtain ⟨q1, hq1⟩ : ∃ q1, q1 = (un32 * 4294967296 + un1) / y := ⟨_, rfl⟩
  have hk1 : KD y yn1 yn0 un32 un1 q1 := by rw [hq1]; exact KD.mk' H.sp H.r0 H.r1 H.hU H.u1
  obtain ⟨r1, hr1⟩ : ∃ r1, r1 = un32 * 4294967296 + un1 - q1 * y := ⟨_, rfl⟩
  have hrr := hk1.rest
  rw [← hr1] at hrr
  obtain ⟨q0, hq0⟩ : ∃ q0, q0 = (r1 * 4294967296 + un0) / y := ⟨_, rfl⟩
  have hk0 : KD y yn1 yn0 r1 un0 q0 := by rw [hq0]; exact KD.mk' H.sp H.r0 H.r1 hrr H.u0
  have HK1 := Aside0.mk hk1
  have HK0 := Aside0.mk hk0
  have HR1 := Aside0.mk hr1
  have HN := Aside0.mk H
  have hny : (yn1 == 0) = false := beq_eq_false_iff_ne.2 (by have := H.r1; omega)
  have hny2 : ¬ yn1 = 0 := by have := H.r1; omega
  have hyM := H.iy.2
  obtain ⟨et, em, er⟩ := start_facts hk1 hyM
  obtain ⟨et2, em2, er2⟩ := start_facts hk0 hyM
  obtain ⟨p1, hp1⟩ : ∃ p1, p1 = un32 / yn1 := ⟨_, rfl⟩
  obtain ⟨rh1, hrh1⟩ : ∃ rh1, rh1 = un32 % yn1 := ⟨_, rfl⟩
  obtain ⟨p0, hp0⟩ : ∃ p0, p0 = r1 / yn1 := ⟨_, rfl⟩
  obtain ⟨rh0, hrh0⟩ : ∃ rh0, rh0 = r1 % yn1 := ⟨_, rfl⟩
  rw [← hp1] at et em er
  rw [← hrh1] at er
  rw [← hp0] at et2 em2 er2
  rw [← hrh0] at er2
  have HS0 := Aside0.mk (show q0 ≤ p0 ∧ p0 * yn1 + rh0 = r1 ∧ 0 ≤ rh0 ∧ rh0 < yn1 by rw [hp0, hrh0]; exact hk0.start)
  have HYM := Aside0.mk hyM
  have a4 : IntKind.u64.wrap (IntKind.u64.wrap (IntKind.u64.wrap (un32 * 4294967296) + un1) - IntKind.u64.wrap (q1 * y)) = r1 := wrap4 hr1 hrr.1 (by omega)
  obtain ⟨rr, hrr2⟩ : ∃ rr, rr = r1 * 4294967296 + un0 - q0 * y := ⟨_, rfl⟩
  have hrr3 := hk0.rest
  rw [← hrr2] at hrr3
  have b4 : IntKind.u64.wrap (IntKind.u64.wrap (IntKind.u64.wrap (r1 * 4294967296) + un0) - IntKind.u64.wrap (q0 * y)) = rr := wrap4 hrr2 hrr3.1 (by omega)
  have b5 : IntKind.u64.wrap (IntKind.u64.wrap (q1 * 4294967296) + q0) = q1 * 4294967296 + q0 := by
    have := hk1.lt; have := hk1.q0; have := hk0.lt; have := hk0.q0
    rw [wrap_id (x := q1 * 4294967296) (by omega) (by omega)]
    exact wrap_id (by omega) (by omega)
  have HFIN := Aside0.mk (show (a0 * 18446744073709551616 + a1) / a2 = q1 * 4294967296 + q0 ∧ rr / 2 ^ s = (a0 * 18446744073709551616 + a1) % a2 by
    have t := two hk1 (by rw [← hr1]; exact hk0) H.all
    rw [← hr1, ← hrr2, H.yy] at t
    have hP : (0 : Int) < 2 ^ s := Int.pow_pos (by omega)
    have sc := scale (a := a0 * 18446744073709551616 + a1) (y := a2) (s := 2 ^ s) hP (by omega) t.2.symm
    exact ⟨by rw [← sc.1]; exact t.1, sc.2⟩)
  have HS := Aside0.mk (show q1 ≤ p1 ∧ p1 * yn1 + rh1 = un32 ∧ 0 ≤ rh1 ∧ rh1 < yn1 by rw [hp1, hrh1]; exact hk1.start)
  clear h0 h1 h2 H hk1 hk0 hr1 hrr hq1 hq0 hp1 hrh1 hp0 hrh0 hrr2 hrr3 hyM
  go_enter Try.func28, Try.ntmps28
  go_wp2_with fail
  refine HL.out.mono ?_
  rintro e w1 ⟨rfl, hw1⟩
  subst hw1
  go_upto_block 0 with fail
  go_cut [15, 16] from 67 to 85 (fun vq v16 wx => vq = .int .u64 q1 ∧ (∃ rx : Int, v16 = .int .u64 rx) ∧ wx = w1)
  case first =>
    go_wp2_with fail
    go_loopw [15, 16] (fun vq v16 wr => ∃ q rh : Int, vq = .int .u64 q ∧ v16 = .int .u64 rh ∧ Aside0 (q1 ≤ q ∧ q * yn1 + rh = un32 ∧ 0 ≤ rh ∧ rh < 4294967296) ∧ wr = w1) (fun vq _ _ => (intOf vq).toNat)
    case atStart => exact ⟨p1, rh1, rfl, rfl, ⟨by obtain ⟨x1, x2, x3, x4⟩ := HS.out; exact ⟨x1, x2, x3, by have := HK1.out.n1; omega⟩⟩, rfl⟩
    case round =>
      obtain ⟨q, rh, rfl, rfl, HQ, hw⟩ := hrel
      have hw2 := hw.symm
      subst hw2
      clear hw
      have hqb := q_bd HK1.out HQ.out.2.1 HQ.out.1 HQ.out.2.2.1 HYM.out
      have HQB := Aside0.mk hqb
      by_cases c1 : 4294967296 ≤ q
      · have d1 : decide ((4294967296 : Int) ≤ q) = true := decide_eq_true c1
        have HST := Aside0.mk (HK1.out.step HQ.out.2.1 HQ.out.1 (.inl c1))
        have hq' : IntKind.u64.wrap (q - 1) = q - 1 := wrap_id (by have := HST.out; have := HK1.out.q0; omega) (by omega)
        have hr' : IntKind.u64.wrap (rh + yn1) = rh + yn1 := wrap_id (by have := HQ.out; have := HK1.out.n1; omega) (by have := HQ.out; have := HK1.out.n1; omega)
        by_cases c3 : 4294967296 ≤ rh + yn1
        · have d3 : decide ((4294967296 : Int) ≤ rh + yn1) = true := decide_eq_true c3
          have HEX := Aside0.mk (HK1.out.exit2 (q := q - 1) (rh := rh + yn1) (by have := HQ.out.2.1; rw [Int.sub_mul]; omega) HST.out c3)
          clear c3 hqb
          go_wp2_with fail
          all_goals go_meet
          case rel => exact ⟨by rw [HEX.out], ⟨_, rfl⟩, rfl⟩
        · have d3 : decide ((4294967296 : Int) ≤ rh + yn1) = false := decide_eq_false c3
          have HC3 := Aside0.mk c3
          clear c3 hqb
          go_wp2_with fail
          go_roundw
          case rel => exact ⟨q - 1, rh + yn1, rfl, rfl, ⟨HST.out, by have := HQ.out.2.1; rw [Int.sub_mul]; omega, by have := HQ.out; have := HK1.out.n1; omega, by have := HC3.out; omega⟩, trivial⟩
          case measure => exact qmeas HST.out HK1.out.q0
      · have d1 : decide ((4294967296 : Int) ≤ q) = false := decide_eq_false c1
        obtain ⟨m, hm⟩ : ∃ m, m = q * yn0 := ⟨_, rfl⟩
        have hm1 : IntKind.u64.wrap (q * yn0) = m := by
          rw [hm]
          have x1 := HK1.out.n0
          have x2 : q * yn0 ≤ q * 4294967296 := Int.mul_le_mul_of_nonneg_left (by omega) hqb.1
          exact wrap_id (Int.mul_nonneg hqb.1 x1.1) (by omega)
        obtain ⟨n3, hn3⟩ : ∃ n3, n3 = 4294967296 * rh + un1 := ⟨_, rfl⟩
        have hn1 : IntKind.u64.wrap (IntKind.u64.wrap (4294967296 * rh) + un1) = n3 := by
          have x1 := HQ.out.2.2; have x2 := HK1.out.hu
          rw [hn3, wrap_id (x := 4294967296 * rh) (by omega) (by omega)]
          exact wrap_id (by omega) (by omega)
        by_cases c2 : n3 < m
        · have d2 : decide (n3 < m) = true := decide_eq_true c2
          have HST := Aside0.mk (HK1.out.step HQ.out.2.1 HQ.out.1 (.inr (by omega)))
          clear hm hn3
          have hq' : IntKind.u64.wrap (q - 1) = q - 1 := wrap_id (by have := HST.out; have := HK1.out.q0; omega) (by omega)
          have hr' : IntKind.u64.wrap (rh + yn1) = rh + yn1 := wrap_id (by have := HQ.out; have := HK1.out.n1; omega) (by have := HQ.out; have := HK1.out.n1; omega)
          by_cases c3 : 4294967296 ≤ rh + yn1
          · have d3 : decide ((4294967296 : Int) ≤ rh + yn1) = true := decide_eq_true c3
            have HEX := Aside0.mk (HK1.out.exit2 (q := q - 1) (rh := rh + yn1) (by have := HQ.out.2.1; rw [Int.sub_mul]; omega) HST.out c3)
            clear c3 hqb
            go_wp2_with fail
            all_goals go_meet
            case rel => exact ⟨by rw [HEX.out], ⟨_, rfl⟩, rfl⟩
          · have d3 : decide ((4294967296 : Int) ≤ rh + yn1) = false := decide_eq_false c3
            have HC3 := Aside0.mk c3
            clear c3 hqb
            go_wp2_with fail
            go_roundw
            case rel => exact ⟨q - 1, rh + yn1, rfl, rfl, ⟨HST.out, by have := HQ.out.2.1; rw [Int.sub_mul]; omega, by have := HQ.out; have := HK1.out.n1; omega, by have := HC3.out; omega⟩, trivial⟩
            case measure => exact qmeas HST.out HK1.out.q0
        · have d2 : decide (n3 < m) = false := decide_eq_false c2
          have HEX := Aside0.mk (HK1.out.exit1 HQ.out.2.1 HQ.out.1 (by omega))
          clear hm hn3 c1 c2 hqb
          go_wp2_with fail
          all_goals go_meet
          case rel => exact ⟨by rw [HEX.out], ⟨_, rfl⟩, rfl⟩
  case rest =>
    obtain ⟨rfl, ⟨rx, rfl⟩, hw⟩ := hcut
    have hw2 := hw.symm
    subst hw2
    clear hw
    go_upto_block 2 with fail
    go_cut [18, 16] from 102 to 120 (fun vq v16 wx => vq = .int .u64 q0 ∧ (∃ rx : Int, v16 = .int .u64 rx) ∧ wx = w1)
    case first =>
      go_wp2_with fail
      go_loopw [18, 16] (fun vq v16 wr => ∃ q rh : Int, vq = .int .u64 q ∧ v16 = .int .u64 rh ∧ Aside0 (q0 ≤ q ∧ q * yn1 + rh = r1 ∧ 0 ≤ rh ∧ rh < 4294967296) ∧ wr = w1) (fun vq _ _ => (intOf vq).toNat)
      case atStart => exact ⟨p0, rh0, rfl, rfl, ⟨by obtain ⟨x1, x2, x3, x4⟩ := HS0.out; exact ⟨x1, x2, x3, by have := HK0.out.n1; omega⟩⟩, rfl⟩
      case round =>
        obtain ⟨q, rh, rfl, rfl, HQ, hw⟩ := hrel
        have hw2 := hw.symm
        subst hw2
        clear hw
        have hqb := q_bd HK0.out HQ.out.2.1 HQ.out.1 HQ.out.2.2.1 HYM.out
        have HQB := Aside0.mk hqb
        by_cases c1 : 4294967296 ≤ q
        · have d1 : decide ((4294967296 : Int) ≤ q) = true := decide_eq_true c1
          have HST := Aside0.mk (HK0.out.step HQ.out.2.1 HQ.out.1 (.inl c1))
          have hq' : IntKind.u64.wrap (q - 1) = q - 1 := wrap_id (by have := HST.out; have := HK0.out.q0; omega) (by omega)
          have hr' : IntKind.u64.wrap (rh + yn1) = rh + yn1 := wrap_id (by have := HQ.out; have := HK0.out.n1; omega) (by have := HQ.out; have := HK0.out.n1; omega)
          by_cases c3 : 4294967296 ≤ rh + yn1
          · have d3 : decide ((4294967296 : Int) ≤ rh + yn1) = true := decide_eq_true c3
            have HEX := Aside0.mk (HK0.out.exit2 (q := q - 1) (rh := rh + yn1) (by have := HQ.out.2.1; rw [Int.sub_mul]; omega) HST.out c3)
            clear c3 hqb
            go_wp2_with fail
            all_goals go_meet
            case rel => exact ⟨by rw [HEX.out], ⟨_, rfl⟩, rfl⟩
          · have d3 : decide ((4294967296 : Int) ≤ rh + yn1) = false := decide_eq_false c3
            have HC3 := Aside0.mk c3
            clear c3 hqb
            go_wp2_with fail
            go_roundw
            case rel => exact ⟨q - 1, rh + yn1, rfl, rfl, ⟨HST.out, by have := HQ.out.2.1; rw [Int.sub_mul]; omega, by have := HQ.out; have := HK0.out.n1; omega, by have := HC3.out; omega⟩, trivial⟩
            case measure => exact qmeas HST.out HK0.out.q0
        · have d1 : decide ((4294967296 : Int) ≤ q) = false := decide_eq_false c1
          obtain ⟨m, hm⟩ : ∃ m, m = q * yn0 := ⟨_, rfl⟩
          have hm1 : IntKind.u64.wrap (q * yn0) = m := by
            rw [hm]
            have x1 := HK0.out.n0
            have x2 : q * yn0 ≤ q * 4294967296 := Int.mul_le_mul_of_nonneg_left (by omega) hqb.1
            exact wrap_id (Int.mul_nonneg hqb.1 x1.1) (by omega)
          obtain ⟨n3, hn3⟩ : ∃ n3, n3 = 4294967296 * rh + un0 := ⟨_, rfl⟩
          have hn1 : IntKind.u64.wrap (IntKind.u64.wrap (4294967296 * rh) + un0) = n3 := by
            have x1 := HQ.out.2.2; have x2 := HK0.out.hu
            rw [hn3, wrap_id (x := 4294967296 * rh) (by omega) (by omega)]
            exact wrap_id (by omega) (by omega)
          by_cases c2 : n3 < m
          · have d2 : decide (n3 < m) = true := decide_eq_true c2
            have HST := Aside0.mk (HK0.out.step HQ.out.2.1 HQ.out.1 (.inr (by omega)))
            clear hm hn3
            have hq' : IntKind.u64.wrap (q - 1) = q - 1 := wrap_id (by have := HST.out; have := HK0.out.q0; omega) (by omega)
            have hr' : IntKind.u64.wrap (rh + yn1) = rh + yn1 := wrap_id (by have := HQ.out; have := HK0.out.n1; omega) (by have := HQ.out; have := HK0.out.n1; omega)
            by_cases c3 : 4294967296 ≤ rh + yn1
            · have d3 : decide ((4294967296 : Int) ≤ rh + yn1) = true := decide_eq_true c3
              have HEX := Aside0.mk (HK0.out.exit2 (q := q - 1) (rh := rh + yn1) (by have := HQ.out.2.1; rw [Int.sub_mul]; omega) HST.out c3)
              clear c3 hqb
              go_wp2_with fail
              all_goals go_meet
              case rel => exact ⟨by rw [HEX.out], ⟨_, rfl⟩, rfl⟩
            · have d3 : decide ((4294967296 : Int) ≤ rh + yn1) = false := decide_eq_false c3
              have HC3 := Aside0.mk c3
              clear c3 hqb
              go_wp2_with fail
              go_roundw
              case rel => exact ⟨q - 1, rh + yn1, rfl, rfl, ⟨HST.out, by have := HQ.out.2.1; rw [Int.sub_mul]; omega, by have := HQ.out; have := HK0.out.n1; omega, by have := HC3.out; omega⟩, trivial⟩
              case measure => exact qmeas HST.out HK0.out.q0
          · have d2 : decide (n3 < m) = false := decide_eq_false c2
            have HEX := Aside0.mk (HK0.out.exit1 HQ.out.2.1 HQ.out.1 (by omega))
            clear hm hn3 c1 c2 hqb
            go_wp2_with fail
            all_goals go_meet
            case rel => exact ⟨by rw [HEX.out], ⟨_, rfl⟩, rfl⟩
    case rest =>
      obtain ⟨rfl, ⟨rx, rfl⟩, hw⟩ := hcut
      have hw2 := hw.symm
      subst hw2
      clear hw
      go_wp2_with fail
      go_ret2
      refine ⟨?_, Drawn0.refl _⟩
      rw [HFIN.out.1, ← HFIN.out.2]
      rfl
theorem bits_Div64.calls (a0 a1 a2 r1 r2 : Int) (w : World) (h : bits_Div64.f a0 a1 a2 = some (r1, r2)) :
    Calls Try.prog 28 #[.int .u64 a0, .int .u64 a1, .int .u64 a2] w fun e w' => e = .returned (.tuple #[.int .u64 r1, .int .u64 r2]) ∧ Drawn0 w w' := by
  unfold bits_Div64.f at h
  split at h
  · rename_i hc
    obtain ⟨h0, h1, h2, hlt⟩ := hc
    simp only [Option.some.injEq, Prod.mk.injEq] at h
    obtain ⟨rfl, rfl⟩ := h
    rcases Int.lt_or_le 0 a0 with hz | hz
    · obtain ⟨s, y, yn1, yn0, uh, ul, un32, un10, un1, un0, H⟩ := norm h0 h1 h2 hlt
      exact div_main w H h0 h1 h2 hlt hz
    · have e : a0 = 0 := by have := h0.1; omega
      subst e
      rw [Int.zero_mul, Int.zero_add]
      exact div_zero a1 a2 w h1 h2 hlt
  · cases h
end Go.Proofs.Ytdaelbihfdlgkaa.Na
