/- Sets of bits: the plain laws: words joined are the set of the numbers; sameness. -/
import Derived.Test.YtdlkcohfgfnkbaaBq
namespace Go.Proofs.Ytdlkcohfgfnkbaa.Bp
open Go.RowKit Go.Proofs.Ytdlkcohfgfnkbaa.PBitsetJoins Go.Proofs.YtdlkcohfgfnkbaaW.PrintWords Go.Proofs.YtdlkcohfgfnkbaaW.PrintLast Go.Proofs.YtdlkcohfgfnkbaaW.PrintMore
set_option linter.unusedSimpArgs false
set_option linter.unusedVariables false

/-- What an operation on words does to bits. -/
structure OpBit (f : Int → Int → Int) (p : Bool → Bool → Bool) : Prop where
  range : ∀ x y : Nat, x < 18446744073709551616 → y < 18446744073709551616 → 0 ≤ f x y ∧ f x y < 18446744073709551616
  bit : ∀ x y : Nat, x < 18446744073709551616 → y < 18446744073709551616 → ∀ j, j < 64 → (f x y).toNat.testBit j = p (x.testBit j) (y.testBit j)
  zero : p false false = false
theorem op_and : OpBit (Go.bits .and .u64) (pick3 true false false) where
  range x y hx hy := by
    rw [u64_and_nat x y hx hy]
    have := Nat.and_lt_two_pow (n := 64) x hy
    omega
  bit x y hx hy j _ := by
    rw [u64_and_nat x y hx hy, Int.toNat_natCast, Nat.testBit_and]
    cases x.testBit j <;> cases y.testBit j <;> rfl
  zero := rfl
theorem op_or : OpBit (Go.bits .or .u64) (pick3 true true true) where
  range x y hx hy := by
    rw [u64_or_nat x y hx hy]
    have := Nat.or_lt_two_pow (n := 64) hx hy
    omega
  bit x y hx hy j _ := by
    rw [u64_or_nat x y hx hy, Int.toNat_natCast, Nat.testBit_or]
    cases x.testBit j <;> cases y.testBit j <;> rfl
  zero := rfl
theorem op_minus : OpBit (Go.bits .andNot .u64) (pick3 false true false) where
  range x y hx hy := by
    rw [u64_andNot_nat x y hx hy]
    have := Nat.and_lt_two_pow (n := 64) x (show 18446744073709551615 - y < 2 ^ 64 by omega)
    omega
  bit x y hx hy j hj := by
    rw [u64_andNot_nat x y hx hy, Int.toNat_natCast, Nat.testBit_and, show 18446744073709551615 - y = 2 ^ 64 - (y + 1) by omega, Nat.testBit_two_pow_sub_succ (by omega), decide_eq_true hj]
    cases x.testBit j <;> cases y.testBit j <;> rfl
  zero := rfl
theorem zip_len (f : Int → Int → Int) (a b : List Int) (h : a.length = b.length) : (List.zipWith f a b).length = a.length := by
  rw [List.length_zipWith, h, Nat.min_self]
theorem zip_get (f : Int → Int → Int) (a b : List Int) (h : a.length = b.length) (i : Nat) (hi : i < a.length) : (List.zipWith f a b).getD i 0 = f (a.getD i 0) (b.getD i 0) := by
  rw [List.getD_eq_getElem?_getD, List.getElem?_zipWith, List.getD_eq_getElem?_getD, List.getD_eq_getElem?_getD, List.getElem?_eq_getElem hi, List.getElem?_eq_getElem (show i < b.length by omega)]
  rfl
theorem zip_wf {f : Int → Int → Int} {p : Bool → Bool → Bool} (hf : OpBit f p) {a b : List Int} (ha : Wf a) (hb : Wf b) : Wf (List.zipWith f a b) := by
  intro z hz
  rw [List.mem_iff_getElem] at hz
  obtain ⟨i, hi, rfl⟩ := hz
  rw [List.length_zipWith] at hi
  rw [List.getElem_zipWith]
  have h1 := ha _ (List.getElem_mem (show i < a.length by omega))
  have h2 := hb _ (List.getElem_mem (show i < b.length by omega))
  have := hf.range a[i].toNat b[i].toNat (by omega) (by omega)
  rwa [show ((a[i].toNat : Nat) : Int) = a[i] by omega, show ((b[i].toNat : Nat) : Int) = b[i] by omega] at this
theorem zip_bit {f : Int → Int → Int} {p : Bool → Bool → Bool} (hf : OpBit f p) {a b : List Int} (ha : Wf a) (hb : Wf b) (h : a.length = b.length) (i : Nat) : wbit (List.zipWith f a b) i = p (wbit a i) (wbit b i) := by
  by_cases hi : i / 64 < a.length
  · unfold wbit
    rw [zip_get f a b h _ hi]
    have h1 := ha.get (i / 64)
    have h2 := hb.get (i / 64)
    have := hf.bit (a.getD (i / 64) 0).toNat (b.getD (i / 64) 0).toNat (by omega) (by omega) (i % 64) (by omega)
    rwa [show (((a.getD (i / 64) 0).toNat : Nat) : Int) = a.getD (i / 64) 0 by omega, show (((b.getD (i / 64) 0).toNat : Nat) : Int) = b.getD (i / 64) 0 by omega] at this
  · rw [wbit_out _ _ (by rw [zip_len f a b h]; omega), wbit_out a _ (by omega), wbit_out b _ (by omega), hf.zero]
/-- Words whose bits are told by p: the set of those numbers. -/
theorem ofS_sel (N : Int) (h0 : 0 ≤ N) (h1 : N ≤ 65536) (p : Nat → Bool) (ws : List Int) (hw : Wf ws) (hl : (ws.length : Int) = (N + 63) / 64) (hb : ∀ i : Nat, i < 64 * ws.length → wbit ws i = (decide ((i : Int) < N) && p i)) :
    ofS N (sel p 0 N.toNat) = (N, ws, 0) := by
  unfold ofS
  have hgood : ∀ e ∈ sel p 0 N.toNat, 0 ≤ e ∧ e < N := by
    intro e he
    obtain ⟨j, rfl, h2, h3, _⟩ := (sel_mem p _ _ _).1 he
    omega
  rw [if_neg (by omega), ofL_good N _ _ hgood]
  have : (sel p 0 N.toNat).foldl (fun w e => setB w e.toNat) (List.replicate ((N + 63) / 64).toNat 0) = ws := by
    refine wbit_ext (fold_wf _ _ (Wf.zeros _)) hw (by rw [fold_length, List.length_replicate]; omega) (fun i hi => ?_)
    rw [fold_length, List.length_replicate] at hi
    rw [fold_bit _ _ _ (fun e he => by have := hgood e he; rw [List.length_replicate]; omega), wbit_zeros, Bool.false_or, hb i (by omega)]
    cases hp : p i with
    | true =>
      rw [Bool.and_true]
      apply decide_eq_decide.2
      rw [sel_mem]
      constructor
      · rintro ⟨j, h2, h3, h4, h5⟩; omega
      · exact fun h2 => ⟨i, rfl, by omega, by omega, hp⟩
    | false =>
      rw [Bool.and_false]
      apply decide_eq_false
      rw [sel_mem]
      rintro ⟨j, h2, h3, h4, h5⟩
      obtain rfl : i = j := by omega
      rw [hp] at h5
      cases h5
  rw [this]
theorem join_law {f : Int → Int → Int} {x y z : Bool} (hf : OpBit f (pick3 x y z)) (N : Int) (a b : List Int) (ha : Wf a) (hb : Wf b) (h1 : rightB N a = true) (h2 : rightB N b = true) :
    bothS x y z N a N b = (N, List.zipWith f a b, 0) := by
  unfold bothS
  rw [if_pos ⟨h1, h2, rfl⟩]
  have h3 := right_len h1
  have h4 := right_len h2
  have hl : a.length = b.length := by omega
  refine ofS_sel N h3.1 h3.2.1 _ _ (zip_wf hf ha hb) (by rw [zip_len f a b hl]; exact h3.2.2) (fun i hi => ?_)
  rw [zip_bit hf ha hb hl]
  by_cases hN : (i : Int) < N
  · rw [decide_eq_true hN, Bool.true_and]
  · rw [decide_eq_false hN, Bool.false_and, right_out h1 i (by omega), right_out h2 i (by omega), hf.zero]
theorem join_no (x y z : Bool) (N M : Int) (a b : List Int) (h : ¬ (rightB N a = true ∧ rightB M b = true ∧ N = M)) : bothS x y z N a M b = (0, [], 1) := by
  unfold bothS
  rw [if_neg h]
theorem same_l0 (N M : Int) (a : List Int) (hl : a.length ≤ 140737488351232) : ∀ (d i : Nat), i + d = a.length → Ev (fun k => windbreakref14_Same.l0 k (i : Int) N a M a) true
  | 0, i, hi => by
    refine Ev.step (fun k => ?_) (Ev.now _)
    simp only [windbreakref14_Same.l0]
    rw [if_neg (by omega)]
  | d + 1, i, hi => by
    refine Ev.step (fun k => ?_) (same_l0 N M a hl d (i + 1) (by omega))
    simp only [windbreakref14_Same.l0]
    rw [if_pos (by omega), if_pos (by omega), if_pos (by omega), if_pos True.intro, wrap64_small (by omega) (by omega)]
    rfl
theorem ref_same (N : Int) (a : List Int) (hl : a.length ≤ 140737488351232) : Ev (fun k => windbreakref14_Same.f k N a N a) true := by
  refine Ev.congr (f := fun k => windbreakref14_Same.j0 k false N a N a) (fun k => ?_) (Ev.step (fun k => ?_) (same_l0 N N a hl a.length 0 (by omega)))
  · unfold windbreakref14_Same.f
    rw [if_pos rfl]
    congr 1
    simp
  · simp only [windbreakref14_Same.j0]
    rw [if_neg (by decide)]
    rfl
theorem ref_and (N M : Int) (a b : List Int) (ha : Wf a) (hb : Wf b) (hla : a.length ≤ 140737488351232) (hlb : b.length ≤ 140737488351232) : Ev (fun k => windbreakref14_And.f k N a M b) (bothS true false false N a M b) :=
  Ev.bind (ref_both true false false N M a b ha hb hla hlb) (Ev.now _)
theorem ref_or (N M : Int) (a b : List Int) (ha : Wf a) (hb : Wf b) (hla : a.length ≤ 140737488351232) (hlb : b.length ≤ 140737488351232) : Ev (fun k => windbreakref14_Or.f k N a M b) (bothS true true true N a M b) :=
  Ev.bind (ref_both true true true N M a b ha hb hla hlb) (Ev.now _)
theorem ref_minus (N M : Int) (a b : List Int) (ha : Wf a) (hb : Wf b) (hla : a.length ≤ 140737488351232) (hlb : b.length ≤ 140737488351232) : Ev (fun k => windbreakref14_Minus.f k N a M b) (bothS false true false N a M b) :=
  Ev.bind (ref_both false true false N M a b ha hb hla hlb) (Ev.now _)
theorem few_l0 (l : List S24) (hl : l.length ≤ 140737488351232) : ∀ (d i : Nat), i + d = l.length → Ev (fun k => windbreaklaw14_few.l0 k l (i : Int)) ((l.drop i).all (fun s => decide (s.f1.length ≤ 2000)))
  | 0, i, hi => by
    rw [show i = l.length by omega, List.drop_length]
    refine Ev.step (fun k => ?_) (Ev.now _)
    simp only [windbreaklaw14_few.l0]
    rw [if_neg (by omega)]
    rfl
  | d + 1, i, hi => by
    have hd : l.drop i = rd_T24 l (i : Int) :: l.drop (i + 1) := by
      rw [List.drop_eq_getElem_cons (show i < l.length by omega)]
      congr 1
      simp [rd_T24, show i < l.length by omega]
    rw [hd, List.all_cons]
    by_cases h : (((rd_T24 l (i : Int)).f1).length : Int) > 2000
    · rw [decide_eq_false (by omega), Bool.false_and]
      refine Ev.step (fun k => ?_) (Ev.now _)
      simp only [windbreaklaw14_few.l0]
      rw [if_pos (by omega), if_pos (by omega), if_pos h]
    · rw [decide_eq_true (by omega), Bool.true_and]
      refine Ev.step (fun k => ?_) (few_l0 l hl d (i + 1) (by omega))
      simp only [windbreaklaw14_few.l0]
      rw [if_pos (by omega), if_pos (by omega), if_neg h, wrap64_small (by omega) (by omega)]
      rfl
theorem ref_few (l : List S24) (hl : l.length ≤ 140737488351232) : Ev (fun k => windbreaklaw14_few.f k l) (l.all (fun s => decide (s.f1.length ≤ 2000))) :=
  few_l0 l hl l.length 0 (by omega)
theorem prog_new (N : Int) : bitset_New.f N = some (if N < 0 ∨ 65536 < N then (0, [], 1) else (N, List.replicate ((N + 63) / 64).toNat 0, 0)) := by
  unfold bitset_New.f
  by_cases h1 : N < 0
  · rw [if_pos h1, if_pos (.inl h1)]
  · rw [if_neg h1]
    by_cases h2 : N > 65536
    · rw [if_pos h2, if_pos (.inr h2)]
    · rw [if_neg h2, wrap64_small (x := N + 64) (by omega) (by omega), wrap64_small (x := N + 64 - 1) (by omega) (by omega), Int.tdiv_eq_ediv_of_nonneg (by omega), wrap64_small (x := (N + 64 - 1) / 64) (by omega) (by omega), if_pos (by omega), if_pos (by omega), if_neg (by omega), show N + 64 - 1 = N + 63 by omega]
end Go.Proofs.Ytdlkcohfgfnkbaa.Bp
