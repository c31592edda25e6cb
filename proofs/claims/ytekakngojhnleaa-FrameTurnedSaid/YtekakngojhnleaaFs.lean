/- FrameSums: frame.Sum: its walk, and what it computes. -/
import Derived.Test.YtekakngojhnleaaTb
import Derived.Laws.BitsAllLaws
namespace Go.Proofs.Ytekakngojhnleaa.Fs
open Go.RowKit Go.Proofs.YtekakngojhnleaaW.PrintWords Go.Proofs.Ytekakngojhnleaa.Tb
set_option linter.unusedSimpArgs false
set_option linter.unusedVariables false

/-- One bit's step, on plain numbers. -/
def nstep (r : Nat) : Nat := r / 2 ^^^ (if r % 2 = 1 then 3988292384 else 0)
def niter : Nat → Nat → Nat
  | 0, r => r
  | k + 1, r => niter k (nstep r)
theorem nstep_lt (r : Nat) (h : r < 4294967296) : nstep r < 4294967296 := by
  unfold nstep
  refine Nat.xor_lt_two_pow (n := 32) (by omega) ?_
  split <;> omega
theorem niter_lt : ∀ (k r : Nat), r < 4294967296 → niter k r < 4294967296
  | 0, _, h => h
  | k + 1, r, h => niter_lt k _ (nstep_lt r h)
theorem tstep_eq (r : Nat) (h : r < 4294967296) : tstep (r : Int) = (nstep r : Int) := by
  unfold tstep nstep
  have h1 : bits .and .u32 (r : Int) 1 = ((r % 2 : Nat) : Int) := by
    have := u32_and_nat r 1 h (by omega)
    rw [Nat.and_one_is_mod] at this
    exact this
  rw [h1]
  have h2 : ((r : Int) / 2) = ((r / 2 : Nat) : Int) := by omega
  rw [h2]
  rcases Nat.mod_two_eq_zero_or_one r with e | e
  · rw [e, if_neg (by omega)]
    have h3 : (-(((0 : Nat)) : Int) % 4294967296) = ((0 : Nat) : Int) := by decide
    rw [h3, show (3988292384 : Int) = ((3988292384 : Nat) : Int) from rfl, u32_and_nat _ _ (by omega) (by omega), Nat.and_zero, u32_xor_nat _ _ (by omega) (by omega)]
  · rw [e, if_pos rfl]
    have h3 : (-(((1 : Nat)) : Int) % 4294967296) = ((4294967295 : Nat) : Int) := by decide
    rw [h3, show (3988292384 : Int) = ((3988292384 : Nat) : Int) from rfl, u32_and_nat _ _ (by omega) (by omega), u32_xor_nat _ _ (by omega) (by decide)]
    rfl
theorem titer_eq : ∀ (k r : Nat), r < 4294967296 → titer k (r : Int) = (niter k r : Int)
  | 0, _, _ => rfl
  | k + 1, r, h => by
    unfold titer niter
    rw [tstep_eq r h, titer_eq k _ (nstep_lt r h)]
theorem tnum_eq (q : Nat) (h : q < 256) : tnum 256 q = (niter 8 q : Int) := by
  unfold tnum
  rw [if_pos h, titer_eq 8 q (by omega)]
/-- One byte's step by the table. -/
def bstep (r : Nat) (b : Nat) : Nat := r / 256 ^^^ niter 8 ((r % 256) ^^^ b)
def crc : List Int → Nat → Nat
  | [], r => r
  | b :: l, r => crc l (bstep r b.toNat)
theorem bstep_lt (r b : Nat) (h : r < 4294967296) (hb : b < 256) : bstep r b < 4294967296 := by
  have h1 : (r % 256) ^^^ b < 2 ^ 8 := Nat.xor_lt_two_pow (by omega) hb
  exact Nat.xor_lt_two_pow (n := 32) (by omega) (niter_lt 8 _ (by omega))

theorem wrap64_small {x : Int} (h0 : 0 ≤ x) (h1 : x < 9223372036854775808) : wrap64 x = x := by
  unfold wrap64
  omega
theorem rd_drop (xs : List Int) (at_ : Nat) (h : at_ < xs.length) : xs.drop at_ = rd xs (at_ : Int) :: xs.drop (at_ + 1) := by
  rw [List.drop_eq_getElem_cons h]
  congr 1
  simp [rd, h]
theorem rd_mem (xs : List Int) (j : Nat) (h : j < xs.length) : rd xs (j : Int) ∈ xs := by
  have := List.getElem_mem h
  simp only [rd, Int.toNat_natCast]
  rw [List.getD_eq_getElem?_getD, List.getElem?_eq_getElem h]
  exact this

set_option maxRecDepth 100000 in
set_option maxHeartbeats 400000 in
/-- frame.Sum. -/
theorem sum_calls (A0 : Option Addr) (c0 : Nat) (l0 : List Int) (w : World) (hr0 : Kd.C (Kd.int .u8) w A0 l0.length l0) (hl : l0.length < 9223372036854775807) (hb : ∀ x ∈ l0, 0 ≤ x ∧ x < 256) :
    Calls Try.prog 16 #[.slice A0 l0.length c0] w fun e w' => e = .returned (.int .u32 ((4294967295 ^^^ crc l0 4294967295 : Nat) : Int)) ∧ Below w.heap.size w w' := by
  have HR := Aside0.mk hr0
  have HB := Aside0.mk hb
  have HL := Aside0.mk hl
  have hz := zero83.1
  rw [tcells_zero] at hz
  clear hr0 hb hl
  obtain ⟨C0, hC0⟩ : ∃ C, C = tcells 0 := ⟨_, rfl⟩
  obtain ⟨C, hC⟩ : ∃ C, C = tcells 256 := ⟨_, rfl⟩
  have HC := Aside0.mk hC
  have HC0 := Aside0.mk hC0
  rw [← hC0] at hz
  clear hC hC0
  go_enter Try.func16, Try.ntmps16
  go_wp2_with fail
  refine (table_calls w).mono ?_
  rintro e w1 ⟨rfl, hb1⟩
  have HB1 := Aside0.mk hb1
  clear hb1
  rw [← HC.out]
  have hg0 : (w1.alloc (.cells C0 83)).heap[w1.heap.size]? = some (.cells C0 83 (0, 0)) := heap_alloc_last w1 _
  have HG := Aside0.mk hg0
  clear hg0
  go_wp2_with (refine wpList_store_row rfl 83 (.tmp 3) (.tmp 7) rfl w1.heap.size C rfl rfl 83 C0 HG.out (by rw [HC.out, tcells_size]; exact zero83.2) (by rw [HC.out, HC0.out, tcells_size, tcells_size]) (by rw [HC.out]; exact tcells_one 256) ?_)
  rw [World.setRow_alloc_new]
  have HR1 := Aside0.mk (Kd.C_below HR.out (HB1.out.alloc HB1.out.size (.cells C 83)))
  have HW := Aside0.mk (HB1.out.alloc HB1.out.size (.cells C 83))
  clear HG hz
  go_loopg [4, 10] l0.length (fun g v4 v10 wx => ∃ (i r : Nat), i + g = l0.length ∧ v4 = .int .u32 (r : Int) ∧ v10 = .int .i64 (i : Int) ∧ Aside0 (r < 4294967296) ∧ Aside0 (crc (l0.drop i) r = crc l0 4294967295) ∧ wx = w1.alloc (.cells C 83))
  case atStart => exact ⟨0, 4294967295, by omega, rfl, rfl, ⟨by omega⟩, ⟨rfl⟩, rfl⟩
  case round =>
    obtain ⟨i, r, hig, rfl, rfl, hrl, hcr, rfl⟩ := hrel
    cases gk with
    | zero =>
      have hie : i = l0.length := by omega
      have hE : r = crc l0 4294967295 := by
        have := hcr.out
        rw [hie, List.drop_length] at this
        exact this
      have hcr2 := Aside0.mk hE
      clear hE hcr
      have hx : bits .xor .u32 IntKind.u32.max (r : Int) = ((4294967295 ^^^ r : Nat) : Int) := by
        rw [show IntKind.u32.max = ((4294967295 : Nat) : Int) from rfl, u32_xor_nat _ _ (by omega) hrl.out]
      have hsg : IntKind.u32.signed = false := rfl
      have hlt : ¬ (i : Int) < (l0.length : Int) := by omega
      clear hie
      go_wp2
      go_ret
      exact ⟨by rw [← hcr2.out]; rfl, HW.out⟩
    | succ g =>
      have hi : (i : Int) < (l0.length : Int) := by omega
      obtain ⟨ad, rfl, hcell⟩ := Kd.at_int HR1.out (i : Int) (by omega) (by omega)
      have hmem := rd_mem l0 i (by omega)
      have hb := HB.out _ hmem
      obtain ⟨b, hbe⟩ : ∃ b : Nat, rd l0 (i : Int) = (b : Int) := ⟨(rd l0 (i : Int)).toNat, by omega⟩
      have hdrop := rd_drop l0 i (by omega)
      rw [hbe] at hcell hb hdrop
      rw [Int.toNat_natCast] at hcell
      clear hbe hmem
      have hb256 : b < 256 := by omega
      obtain ⟨q, hq⟩ : ∃ q : Nat, q = (r % 256) ^^^ b := ⟨_, rfl⟩
      have hq256 : q < 256 := by rw [hq]; exact Nat.xor_lt_two_pow (n := 8) (by omega) hb256
      have hx1 : bits .xor .u8 ((r : Int) % 256) (b : Int) = (q : Int) := by
        rw [hq, ← u8_xor_nat _ _ (by omega) hb256]
        congr 1
      obtain ⟨v, hv⟩ : ∃ v : Nat, v = bstep r b := ⟨_, rfl⟩
      have hx2 : bits .xor .u32 ((r : Int) / 256) ((niter 8 q : Nat) : Int) = (v : Int) := by
        rw [hv]
        unfold bstep
        rw [← hq, ← u32_xor_nat _ _ (by have := hrl.out; omega) (niter_lt 8 q (by omega))]
        congr 1
      obtain ⟨t, ht⟩ : ∃ t : Nat, t = niter 8 q := ⟨_, rfl⟩
      rw [← ht] at hx2
      have htc : C[q]? = some (.int .u32 (t : Int)) := by rw [HC.out, tcells_get 256 q hq256, tnum_eq q hq256, ht]
      have hv2 := Aside0.mk (show v < 4294967296 by rw [hv]; exact bstep_lt r b hrl.out hb256)
      have hnx := Aside0.mk (show crc (l0.drop (i + 1)) v = crc l0 4294967295 by
        rw [← hcr.out, hdrop]
        show crc (l0.drop (i + 1)) v = crc (l0.drop (i + 1)) (bstep r ((b : Int).toNat))
        rw [hv, Int.toNat_natCast])
      have hi2 := Aside0.mk (show (i : Int) < 9223372036854775806 by have := HL.out; omega)
      have hq3 : (q : Int) < 256 := by omega
      clear hv ht hq hcr hdrop hb hb256 hq256
      go_wp2
      go_roundg g
      case measure => omega
      case rel => exact ⟨i + 1, v, by omega, rfl, by rw [wrap64_small (by omega) (by have := hi2.out; omega)]; rfl, hv2, hnx, rfl⟩
/-- The same, the length by another name. -/
theorem sum_calls' (A0 : Option Addr) (n c0 : Nat) (l0 : List Int) (w : World) (hr0 : Kd.C (Kd.int .u8) w A0 n l0) (hl : l0.length < 9223372036854775807) (hb : ∀ x ∈ l0, 0 ≤ x ∧ x < 256) :
    Calls Try.prog 16 #[.slice A0 n c0] w fun e w' => e = .returned (.int .u32 ((4294967295 ^^^ crc l0 4294967295 : Nat) : Int)) ∧ Below w.heap.size w w' := by
  obtain rfl : l0.length = n := Kd.C_len hr0
  exact sum_calls A0 c0 l0 w hr0 hl hb
end Go.Proofs.Ytekakngojhnleaa.Fs
