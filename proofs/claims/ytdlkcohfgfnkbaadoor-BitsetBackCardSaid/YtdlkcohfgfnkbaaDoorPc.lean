/- How many bits of a word are set: the plain law of math/bits.OnesCount64. -/
import Derived.Test.YtdlkcohfgfnkbaaDoorPBitsetTellsx2
import Derived.Laws.Bits128
import Derived.Test.YtdlkcohfgfnkbaaDoorBp
namespace Go.Proofs.YtdlkcohfgfnkbaaDoor.Pc
open Go.RowKit Go.Proofs.YtdlkcohfgfnkbaaDoor.PBitsetTells Go.Proofs.YtdlkcohfgfnkbaaDoor.Bp Go.Proofs.YtdlkcohfgfnkbaaDoorW.PrintWords Go.Proofs.YtdlkcohfgfnkbaaDoorW.PrintLast Go.Proofs.YtdlkcohfgfnkbaaDoorW.PrintMore
set_option linter.unusedSimpArgs false
set_option linter.unusedVariables false

/-- How many of the lowest n bits are set. -/
def pcb (x : Nat) : Nat → Nat
  | 0 => 0
  | n + 1 => pcb x n + (if x.testBit n then 1 else 0)
theorem pcb_le (x : Nat) : ∀ n, pcb x n ≤ n
  | 0 => Nat.le_refl _
  | n + 1 => by
    have := pcb_le x n
    unfold pcb
    split <;> omega
theorem bit_byte (b t j : Nat) (hb : b < 256) : (b + 256 * t).testBit j = if j < 8 then b.testBit j else t.testBit (j - 8) := by
  rw [Nat.add_comm, show (256 : Nat) = 2 ^ 8 from rfl, Nat.testBit_two_pow_mul_add _ (show b < 2 ^ 8 from hb)]
theorem pcb_low (b t : Nat) (hb : b < 256) : ∀ n, n ≤ 8 → pcb (b + 256 * t) n = pcb b n
  | 0, _ => rfl
  | n + 1, h => by
    unfold pcb
    rw [pcb_low b t hb n (by omega), bit_byte b t n hb, if_pos (c := n < 8) (by omega)]
theorem pcb_byte (b t : Nat) (hb : b < 256) : ∀ n, pcb (b + 256 * t) (8 + n) = pcb b 8 + pcb t n
  | 0 => pcb_low b t hb 8 (Nat.le_refl _)
  | n + 1 => by
    show pcb (b + 256 * t) (8 + n) + (if (b + 256 * t).testBit (8 + n) = true then 1 else 0) = pcb b 8 + (pcb t n + (if t.testBit n = true then 1 else 0))
    rw [pcb_byte b t hb n, bit_byte b t (8 + n) hb, if_neg (c := 8 + n < 8) (by omega), show 8 + n - 8 = n by omega, Nat.add_assoc]
theorem and_byte (a b c d : Nat) (ha : a < 256) (hc : c < 256) : (a + 256 * b) &&& (c + 256 * d) = (a &&& c) + 256 * (b &&& d) := by
  apply Nat.eq_of_testBit_eq
  intro j
  have hac : a &&& c < 256 := Nat.and_lt_two_pow (n := 8) a hc
  rw [Nat.testBit_and, bit_byte a b j ha, bit_byte c d j hc, bit_byte _ _ j hac]
  split <;> rw [Nat.testBit_and]
def ofB : List Nat → Nat
  | [] => 0
  | b :: l => b + 256 * ofB l
def g1 (b : Nat) : Nat := (b / 2 &&& 85) + (b &&& 85)
def g2 (b : Nat) : Nat := (b / 4 &&& 51) + (b &&& 51)
def g3 (b : Nat) : Nat := (b / 16 + b) &&& 15
theorem t1 : ∀ b, b < 256 → ∀ e, e < 2 → (b / 2 + 128 * e) &&& 85 = b / 2 &&& 85 := by decide +kernel
theorem t2 : ∀ b, b < 256 → ∀ e, e < 4 → (b / 4 + 64 * e) &&& 51 = b / 4 &&& 51 := by decide +kernel
theorem t3 : ∀ b, b < 256 → ∀ e, e < 5 → b % 16 < 5 → b / 16 < 5 → (b / 16 + 16 * e + b) &&& 15 = g3 b := by decide +kernel
theorem tg : ∀ b, b < 256 → g1 b < 256 ∧ g2 (g1 b) < 256 ∧ g2 (g1 b) % 16 < 5 ∧ g2 (g1 b) / 16 < 5 ∧ g3 (g2 (g1 b)) = pcb b 8 := by decide +kernel
theorem step1 : ∀ l : List Nat, (∀ b ∈ l, b < 256) → (ofB l / 2 &&& ofB (List.replicate l.length 85)) + (ofB l &&& ofB (List.replicate l.length 85)) = ofB (l.map g1)
  | [], _ => rfl
  | b :: l, h => by
    have hb := h b List.mem_cons_self
    have ih := step1 l (fun x hx => h x (List.mem_cons_of_mem _ hx))
    show ((b + 256 * ofB l) / 2 &&& (85 + 256 * ofB (List.replicate l.length 85))) + ((b + 256 * ofB l) &&& (85 + 256 * ofB (List.replicate l.length 85))) = g1 b + 256 * ofB (l.map g1)
    rw [show (b + 256 * ofB l) / 2 = (b / 2 + 128 * (ofB l % 2)) + 256 * (ofB l / 2) by omega, and_byte _ _ _ _ (by omega) (by omega), and_byte _ _ _ _ hb (by omega), t1 b hb _ (Nat.mod_lt _ (by omega)), ← ih]
    unfold g1
    omega
theorem step2 : ∀ l : List Nat, (∀ b ∈ l, b < 256) → (ofB l / 4 &&& ofB (List.replicate l.length 51)) + (ofB l &&& ofB (List.replicate l.length 51)) = ofB (l.map g2)
  | [], _ => rfl
  | b :: l, h => by
    have hb := h b List.mem_cons_self
    have ih := step2 l (fun x hx => h x (List.mem_cons_of_mem _ hx))
    show ((b + 256 * ofB l) / 4 &&& (51 + 256 * ofB (List.replicate l.length 51))) + ((b + 256 * ofB l) &&& (51 + 256 * ofB (List.replicate l.length 51))) = g2 b + 256 * ofB (l.map g2)
    rw [show (b + 256 * ofB l) / 4 = (b / 4 + 64 * (ofB l % 4)) + 256 * (ofB l / 4) by omega, and_byte _ _ _ _ (by omega) (by omega), and_byte _ _ _ _ hb (by omega), t2 b hb _ (Nat.mod_lt _ (by omega)), ← ih]
    unfold g2
    omega
theorem low16 : ∀ l : List Nat, (∀ b ∈ l, b % 16 < 5) → ofB l % 16 < 5
  | [], _ => by decide
  | b :: l, h => by
    have := h b List.mem_cons_self
    show (b + 256 * ofB l) % 16 < 5
    omega
theorem step3 : ∀ l : List Nat, (∀ b ∈ l, b < 256 ∧ b % 16 < 5 ∧ b / 16 < 5) → ((ofB l / 16 + ofB l) &&& ofB (List.replicate l.length 15)) = ofB (l.map g3)
  | [], _ => rfl
  | b :: l, h => by
    obtain ⟨hb, h1, h2⟩ := h b List.mem_cons_self
    have ih := step3 l (fun x hx => h x (List.mem_cons_of_mem _ hx))
    have h3 := low16 l (fun x hx => (h x (List.mem_cons_of_mem _ hx)).2.1)
    show (((b + 256 * ofB l) / 16 + (b + 256 * ofB l)) &&& (15 + 256 * ofB (List.replicate l.length 15))) = g3 b + 256 * ofB (l.map g3)
    rw [show (b + 256 * ofB l) / 16 + (b + 256 * ofB l) = (b / 16 + 16 * (ofB l % 16) + b) + 256 * (ofB l / 16 + ofB l) by omega, and_byte _ _ _ _ (by omega) (by omega), t3 b hb _ h3 h1 h2, ih]
theorem ofB_lt : ∀ l : List Nat, (∀ b ∈ l, b < 256) → ofB l < 256 ^ l.length
  | [], _ => by decide
  | b :: l, h => by
    have hb := h b List.mem_cons_self
    have ih := ofB_lt l (fun x hx => h x (List.mem_cons_of_mem _ hx))
    show b + 256 * ofB l < 256 ^ (l.length + 1)
    rw [Nat.pow_succ]
    omega
theorem pcb_ofB : ∀ l : List Nat, (∀ b ∈ l, b < 256) → pcb (ofB l) (8 * l.length) = (l.map (fun b => pcb b 8)).sum
  | [], _ => rfl
  | b :: l, h => by
    have hb := h b List.mem_cons_self
    have ih := pcb_ofB l (fun x hx => h x (List.mem_cons_of_mem _ hx))
    show pcb (b + 256 * ofB l) (8 * (l.length + 1)) = _
    rw [show 8 * (l.length + 1) = 8 + 8 * l.length by omega, pcb_byte b _ hb, ih, List.map_cons, List.sum_cons]
theorem bytes8 (x : Nat) (hx : x < 18446744073709551616) : ∃ b0 b1 b2 b3 b4 b5 b6 b7 : Nat, x = ofB [b0, b1, b2, b3, b4, b5, b6, b7] ∧ ∀ b ∈ [b0, b1, b2, b3, b4, b5, b6, b7], b < 256 := by
  refine ⟨x % 256, x / 256 % 256, x / 65536 % 256, x / 16777216 % 256, x / 4294967296 % 256, x / 1099511627776 % 256, x / 281474976710656 % 256, x / 72057594037927936, ?_, ?_⟩
  · simp only [ofB]
    omega
  · intro b hb
    simp only [List.mem_cons, List.not_mem_nil, or_false] at hb
    omega
theorem a1 (c0 c1 c2 c3 c4 c5 c6 c7 : Nat) : (c0 + 256 * (c1 + 256 * (c2 + 256 * (c3 + 256 * (c4 + 256 * (c5 + 256 * (c6 + 256 * (c7 + 256 * (0))))))))) + (c1 + 256 * (c2 + 256 * (c3 + 256 * (c4 + 256 * (c5 + 256 * (c6 + 256 * (c7 + 256 * (0)))))))) = (c0 + c1) + 256 * ((c1 + c2) + 256 * ((c2 + c3) + 256 * ((c3 + c4) + 256 * ((c4 + c5) + 256 * ((c5 + c6) + 256 * ((c6 + c7) + 256 * ((c7)))))))) := by omega
theorem a2 (c0 c1 c2 c3 c4 c5 c6 c7 : Nat) : ((c0 + c1) + 256 * ((c1 + c2) + 256 * ((c2 + c3) + 256 * ((c3 + c4) + 256 * ((c4 + c5) + 256 * ((c5 + c6) + 256 * ((c6 + c7) + 256 * ((c7))))))))) + ((c2 + c3) + 256 * ((c3 + c4) + 256 * ((c4 + c5) + 256 * ((c5 + c6) + 256 * ((c6 + c7) + 256 * ((c7))))))) = (c0 + c1 + c2 + c3) + 256 * ((c1 + c2 + c3 + c4) + 256 * ((c2 + c3 + c4 + c5) + 256 * ((c3 + c4 + c5 + c6) + 256 * ((c4 + c5 + c6 + c7) + 256 * ((c5 + c6 + c7) + 256 * ((c6 + c7) + 256 * ((c7)))))))) := by omega
theorem a4 (c0 c1 c2 c3 c4 c5 c6 c7 : Nat) : ((c0 + c1 + c2 + c3) + 256 * ((c1 + c2 + c3 + c4) + 256 * ((c2 + c3 + c4 + c5) + 256 * ((c3 + c4 + c5 + c6) + 256 * ((c4 + c5 + c6 + c7) + 256 * ((c5 + c6 + c7) + 256 * ((c6 + c7) + 256 * ((c7))))))))) + ((c4 + c5 + c6 + c7) + 256 * ((c5 + c6 + c7) + 256 * ((c6 + c7) + 256 * ((c7))))) = (c0 + c1 + c2 + c3 + c4 + c5 + c6 + c7) + 256 * ((c1 + c2 + c3 + c4 + c5 + c6 + c7) + 256 * ((c2 + c3 + c4 + c5 + c6 + c7) + 256 * ((c3 + c4 + c5 + c6 + c7) + 256 * ((c4 + c5 + c6 + c7) + 256 * ((c5 + c6 + c7) + 256 * ((c6 + c7) + 256 * ((c7)))))))) := by omega
theorem d1 (c R : Nat) (h : c < 256) : (c + 256 * R) / 256 = R := by omega
theorem d2 (c d R : Nat) (h : c < 256) (h' : d < 256) : (c + 256 * (d + 256 * R)) / 65536 = R := by omega
theorem d4 (a b c d R : Nat) (ha : a < 256) (hb : b < 256) (hc : c < 256) (hd : d < 256) : (a + 256 * (b + 256 * (c + 256 * (d + 256 * R)))) / 4294967296 = R := by omega
theorem d8 (s R : Nat) (h : s < 128) : (s + 256 * R) % 128 = s := by omega
theorem b2 (c0 c1 c2 c3 c4 c5 c6 c7 : Nat) (h0 : c0 ≤ 8) (h1 : c1 ≤ 8) (h2 : c2 ≤ 8) (h3 : c3 ≤ 8) (h4 : c4 ≤ 8) (h5 : c5 ≤ 8) (h6 : c6 ≤ 8) (h7 : c7 ≤ 8) : (c0 + c1) + 256 * ((c1 + c2) + 256 * ((c2 + c3) + 256 * ((c3 + c4) + 256 * ((c4 + c5) + 256 * ((c5 + c6) + 256 * ((c6 + c7) + 256 * ((c7)))))))) < 18446744073709551616 := by omega
theorem b4 (c0 c1 c2 c3 c4 c5 c6 c7 : Nat) (h0 : c0 ≤ 8) (h1 : c1 ≤ 8) (h2 : c2 ≤ 8) (h3 : c3 ≤ 8) (h4 : c4 ≤ 8) (h5 : c5 ≤ 8) (h6 : c6 ≤ 8) (h7 : c7 ≤ 8) : (c0 + c1 + c2 + c3) + 256 * ((c1 + c2 + c3 + c4) + 256 * ((c2 + c3 + c4 + c5) + 256 * ((c3 + c4 + c5 + c6) + 256 * ((c4 + c5 + c6 + c7) + 256 * ((c5 + c6 + c7) + 256 * ((c6 + c7) + 256 * ((c7)))))))) < 18446744073709551616 := by omega
theorem b8 (c0 c1 c2 c3 c4 c5 c6 c7 : Nat) (h0 : c0 ≤ 8) (h1 : c1 ≤ 8) (h2 : c2 ≤ 8) (h3 : c3 ≤ 8) (h4 : c4 ≤ 8) (h5 : c5 ≤ 8) (h6 : c6 ≤ 8) (h7 : c7 ≤ 8) : (c0 + c1 + c2 + c3 + c4 + c5 + c6 + c7) + 256 * ((c1 + c2 + c3 + c4 + c5 + c6 + c7) + 256 * ((c2 + c3 + c4 + c5 + c6 + c7) + 256 * ((c3 + c4 + c5 + c6 + c7) + 256 * ((c4 + c5 + c6 + c7) + 256 * ((c5 + c6 + c7) + 256 * ((c6 + c7) + 256 * ((c7)))))))) < 9223372036854775808 := by omega
/-- Bytes of at most 8, added. -/
theorem addup (c0 c1 c2 c3 c4 c5 c6 c7 : Nat) (h0 : c0 ≤ 8) (h1 : c1 ≤ 8) (h2 : c2 ≤ 8) (h3 : c3 ≤ 8) (h4 : c4 ≤ 8) (h5 : c5 ≤ 8) (h6 : c6 ≤ 8) (h7 : c7 ≤ 8) (X Y Z : Nat) (hX : X = ofB [c0, c1, c2, c3, c4, c5, c6, c7]) (hY : Y = X + X / 256) (hZ : Z = Y + Y / 65536) :
    (Z + Z / 4294967296) % 128 = (c0 + c1 + c2 + c3 + c4 + c5 + c6 + c7) ∧ Y < 18446744073709551616 ∧ Z < 18446744073709551616 ∧ Z + Z / 4294967296 < 9223372036854775808 := by
  simp only [ofB] at hX
  have e1 : X / 256 = c1 + 256 * (c2 + 256 * (c3 + 256 * (c4 + 256 * (c5 + 256 * (c6 + 256 * (c7 + 256 * (0))))))) := by rw [hX]; exact d1 _ _ (by omega)
  have e2 : Y = (c0 + c1) + 256 * ((c1 + c2) + 256 * ((c2 + c3) + 256 * ((c3 + c4) + 256 * ((c4 + c5) + 256 * ((c5 + c6) + 256 * ((c6 + c7) + 256 * ((c7)))))))) := by rw [hY, e1, hX]; exact a1 c0 c1 c2 c3 c4 c5 c6 c7
  clear hX hY e1
  have e3 : Y / 65536 = (c2 + c3) + 256 * ((c3 + c4) + 256 * ((c4 + c5) + 256 * ((c5 + c6) + 256 * ((c6 + c7) + 256 * ((c7)))))) := by rw [e2]; exact d2 _ _ _ (by omega) (by omega)
  have e4 : Z = (c0 + c1 + c2 + c3) + 256 * ((c1 + c2 + c3 + c4) + 256 * ((c2 + c3 + c4 + c5) + 256 * ((c3 + c4 + c5 + c6) + 256 * ((c4 + c5 + c6 + c7) + 256 * ((c5 + c6 + c7) + 256 * ((c6 + c7) + 256 * ((c7)))))))) := by rw [hZ, e3, e2]; exact a2 c0 c1 c2 c3 c4 c5 c6 c7
  clear hZ e3
  have e5 : Z / 4294967296 = (c4 + c5 + c6 + c7) + 256 * ((c5 + c6 + c7) + 256 * ((c6 + c7) + 256 * ((c7)))) := by rw [e4]; exact d4 _ _ _ _ _ (by omega) (by omega) (by omega) (by omega)
  have e6 : Z + Z / 4294967296 = (c0 + c1 + c2 + c3 + c4 + c5 + c6 + c7) + 256 * ((c1 + c2 + c3 + c4 + c5 + c6 + c7) + 256 * ((c2 + c3 + c4 + c5 + c6 + c7) + 256 * ((c3 + c4 + c5 + c6 + c7) + 256 * ((c4 + c5 + c6 + c7) + 256 * ((c5 + c6 + c7) + 256 * ((c6 + c7) + 256 * ((c7)))))))) := by rw [e5, e4]; exact a4 c0 c1 c2 c3 c4 c5 c6 c7
  refine ⟨by rw [e6]; exact d8 _ _ (by omega), ?_, ?_, ?_⟩
  · rw [e2]; exact b2 _ _ _ _ _ _ _ _ h0 h1 h2 h3 h4 h5 h6 h7
  · rw [e4]; exact b4 _ _ _ _ _ _ _ _ h0 h1 h2 h3 h4 h5 h6 h7
  · rw [e6]; exact b8 _ _ _ _ _ _ _ _ h0 h1 h2 h3 h4 h5 h6 h7

theorem ofB_le : ∀ l : List Nat, (∀ b ∈ l, b ≤ 68) → 255 * ofB l + 68 ≤ 68 * 256 ^ l.length
  | [], _ => by decide
  | b :: l, h => by
    have hb := h b List.mem_cons_self
    have ih := ofB_le l (fun x hx => h x (List.mem_cons_of_mem _ hx))
    show 255 * (b + 256 * ofB l) + 68 ≤ 68 * 256 ^ (l.length + 1)
    rw [Nat.pow_succ]
    generalize 256 ^ l.length = p at ih ⊢
    omega
theorem wrap_u64_small (n : Nat) (h : n < 18446744073709551616) : IntKind.u64.wrap (n : Int) = (n : Int) := by
  rw [IntKind.wrap_u64]
  omega
/-- math/bits.OnesCount64. -/
theorem ones (x : Nat) (hx : x < 18446744073709551616) : bits_OnesCount64.f (x : Int) = some ((pcb x 64 : Nat) : Int) := by
  obtain ⟨b0, b1, b2, b3, b4, b5, b6, b7, hl, hb⟩ := bytes8 x hx
  obtain ⟨l, hll⟩ : ∃ l, l = [b0, b1, b2, b3, b4, b5, b6, b7] := ⟨_, rfl⟩
  have hlen : l.length = 8 := by rw [hll]; rfl
  rw [← hll] at hl hb
  have s1 := step1 l hb
  have hb1 : ∀ b ∈ l.map g1, b < 256 := by
    intro b h
    rw [List.mem_map] at h
    obtain ⟨c, hc, rfl⟩ := h
    exact (tg c (hb c hc)).1
  have s2 := step2 (l.map g1) hb1
  have hb2 : ∀ b ∈ (l.map g1).map g2, b < 256 ∧ b % 16 < 5 ∧ b / 16 < 5 := by
    intro b h
    rw [List.mem_map] at h
    obtain ⟨c, hc, rfl⟩ := h
    rw [List.mem_map] at hc
    obtain ⟨d, hd, rfl⟩ := hc
    have := tg d (hb d hd)
    exact ⟨this.2.1, this.2.2.1, this.2.2.2.1⟩
  have s3 := step3 ((l.map g1).map g2) hb2
  have hb3 : ((l.map g1).map g2).map g3 = l.map (fun b => pcb b 8) := by
    rw [List.map_map, List.map_map]
    apply List.map_congr_left
    intro b h
    exact (tg b (hb b h)).2.2.2.2
  have hlt1 := ofB_lt (l.map g1) hb1
  have hlt2 := ofB_le ((l.map g1).map g2) (fun b h => by have := hb2 b h; omega)
  rw [hlen, ← hl, show ofB (List.replicate 8 85) = 6148914691236517205 from rfl] at s1
  rw [List.length_map, hlen, show ofB (List.replicate 8 51) = 3689348814741910323 from rfl] at s2
  rw [List.length_map, List.length_map, hlen, show ofB (List.replicate 8 15) = 1085102592571150095 from rfl, hb3] at s3
  rw [List.length_map, hlen] at hlt1
  rw [List.length_map, List.length_map, hlen] at hlt2
  have hpc := pcb_ofB l hb
  rw [hlen, ← hl] at hpc
  generalize ofB (l.map g1) = y1 at s1 s2 hlt1
  generalize ofB ((l.map g1).map g2) = y2 at s2 s3 hlt2
  have hp8 : (256 : Nat) ^ 8 = 18446744073709551616 := by decide
  rw [hp8] at hlt1 hlt2
  obtain ⟨y3, hy3⟩ : ∃ y3, y3 = ofB (l.map (fun b => pcb b 8)) := ⟨_, rfl⟩
  rw [← hy3] at s3
  have hsum := addup (pcb b0 8) (pcb b1 8) (pcb b2 8) (pcb b3 8) (pcb b4 8) (pcb b5 8) (pcb b6 8) (pcb b7 8) (pcb_le _ _) (pcb_le _ _) (pcb_le _ _) (pcb_le _ _) (pcb_le _ _) (pcb_le _ _) (pcb_le _ _) (pcb_le _ _) y3 (y3 + y3 / 256) ((y3 + y3 / 256) + (y3 + y3 / 256) / 65536) (by rw [hy3, hll]; rfl) rfl rfl
  have hpe : pcb x 64 = pcb b0 8 + pcb b1 8 + pcb b2 8 + pcb b3 8 + pcb b4 8 + pcb b5 8 + pcb b6 8 + pcb b7 8 := by
    rw [show (64 : Nat) = 8 * 8 from rfl, hpc, hll]
    simp only [List.map_cons, List.map_nil, List.sum_cons, List.sum_nil]
    omega
  rw [hpe, ← hsum.1]
  have h3lt : y3 < 18446744073709551616 := by
    have := hsum.2.1
    omega
  obtain ⟨_, hY, hZ, hE⟩ := hsum
  generalize hYY : y3 + y3 / 256 = Y at hY hZ hE ⊢
  generalize hZZ : Y + Y / 65536 = Z at hZ hE ⊢
  have hlt3 : y2 < 18446744073709551616 := by omega
  have hlt4 : y2 / 16 + y2 < 18446744073709551616 := by omega
  clear hl hb hll hlen hb1 hb2 hb3 hpc hpe hp8 hlt2
  have m0 : 6148914691236517205 < 18446744073709551616 := by decide
  have m1 : 3689348814741910323 < 18446744073709551616 := by decide
  have m2 : 1085102592571150095 < 18446744073709551616 := by decide
  have c1 : Go.bits .and .u64 ((x : Int) / 2) 6148914691236517205 = ((x / 2 &&& 6148914691236517205 : Nat) : Int) := by
    rw [show (x : Int) / 2 = ((x / 2 : Nat) : Int) from (Int.natCast_ediv x 2).symm]
    exact u64_and_nat _ _ (Nat.lt_of_le_of_lt (Nat.div_le_self _ _) hx) m0
  have c2 : Go.bits .and .u64 (x : Int) 6148914691236517205 = ((x &&& 6148914691236517205 : Nat) : Int) := u64_and_nat _ _ hx m0
  have c3 : IntKind.u64.wrap (((x / 2 &&& 6148914691236517205 : Nat) : Int) + ((x &&& 6148914691236517205 : Nat) : Int)) = (y1 : Int) := by
    rw [← Int.natCast_add, s1]
    exact wrap_u64_small _ hlt1
  have c4 : Go.bits .and .u64 ((y1 : Int) / 4) 3689348814741910323 = ((y1 / 4 &&& 3689348814741910323 : Nat) : Int) := by
    rw [show (y1 : Int) / 4 = ((y1 / 4 : Nat) : Int) from (Int.natCast_ediv y1 4).symm]
    exact u64_and_nat _ _ (Nat.lt_of_le_of_lt (Nat.div_le_self _ _) hlt1) m1
  have c5 : Go.bits .and .u64 (y1 : Int) 3689348814741910323 = ((y1 &&& 3689348814741910323 : Nat) : Int) := u64_and_nat _ _ hlt1 m1
  have c6 : IntKind.u64.wrap (((y1 / 4 &&& 3689348814741910323 : Nat) : Int) + ((y1 &&& 3689348814741910323 : Nat) : Int)) = (y2 : Int) := by
    rw [← Int.natCast_add, s2]
    exact wrap_u64_small _ hlt3
  have c7 : Go.bits .and .u64 (IntKind.u64.wrap ((y2 : Int) / 16 + (y2 : Int))) 1085102592571150095 = (y3 : Int) := by
    rw [show (y2 : Int) / 16 = ((y2 / 16 : Nat) : Int) from (Int.natCast_ediv y2 16).symm, ← Int.natCast_add, wrap_u64_small _ hlt4, ← s3]
    exact u64_and_nat _ _ hlt4 m2
  have c8 : IntKind.u64.wrap ((y3 : Int) + (y3 : Int) / 256) = (Y : Int) := by
    rw [show (y3 : Int) / 256 = ((y3 / 256 : Nat) : Int) from (Int.natCast_ediv y3 256).symm, ← Int.natCast_add, hYY]
    exact wrap_u64_small _ hY
  have c9 : IntKind.u64.wrap ((Y : Int) + (Y : Int) / 65536) = (Z : Int) := by
    rw [show (Y : Int) / 65536 = ((Y / 65536 : Nat) : Int) from (Int.natCast_ediv Y 65536).symm, ← Int.natCast_add, hZZ]
    exact wrap_u64_small _ hZ
  generalize hEE : Z + Z / 4294967296 = E at hE ⊢
  have c10 : IntKind.u64.wrap ((Z : Int) + (Z : Int) / 4294967296) = (E : Int) := by
    rw [show (Z : Int) / 4294967296 = ((Z / 4294967296 : Nat) : Int) from (Int.natCast_ediv Z 4294967296).symm, ← Int.natCast_add, hEE]
    exact wrap_u64_small _ (Nat.lt_of_lt_of_le hE (by decide))
  unfold bits_OnesCount64.f
  rw [c1, c2, c3, c4, c5, c6, c7, c8, c9, c10, i64_and127, wrap64_small (by omega) (by omega)]
  rfl
end Go.Proofs.YtdlkcohfgfnkbaaDoor.Pc
