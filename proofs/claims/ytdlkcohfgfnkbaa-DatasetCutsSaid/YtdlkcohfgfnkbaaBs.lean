/- Sets of bits: how many are in a set; a set's two parts: the plain laws. -/
import Derived.Test.YtdlkcohfgfnkbaaPc
namespace Go.Proofs.Ytdlkcohfgfnkbaa.Bp
open Go.RowKit Go.Proofs.Ytdlkcohfgfnkbaa.PBitsetJoins Go.Proofs.Ytdlkcohfgfnkbaa.Fns Go.Proofs.Ytdlkcohfgfnkbaa.Pc Go.Proofs.YtdlkcohfgfnkbaaW.PrintWords Go.Proofs.YtdlkcohfgfnkbaaW.PrintLast Go.Proofs.YtdlkcohfgfnkbaaW.PrintMore
set_option linter.unusedSimpArgs false
set_option linter.unusedVariables false

def cnt : List Int → Nat
  | [] => 0
  | x :: l => pcb x.toNat 64 + cnt l
theorem cnt_le : ∀ l : List Int, cnt l ≤ 64 * l.length
  | [] => Nat.le_refl _
  | x :: l => by
    have := cnt_le l
    have := pcb_le x.toNat 64
    unfold cnt
    simp only [List.length_cons]
    omega
theorem count_l0 (ws : List Int) (hw : Wf ws) (hl : ws.length ≤ 140737488351232) : ∀ (d i c : Nat), i + d = ws.length → c ≤ 64 * i →
    Ev (fun k => bitset_Count.l0 k (c : Int) ws (ws.length : Int) (i : Int)) ((c + cnt (ws.drop i) : Nat) : Int)
  | 0, i, c, hi, hc => by
    rw [show i = ws.length by omega, List.drop_length]
    refine Ev.step (fun k => ?_) (Ev.now _)
    simp only [bitset_Count.l0]
    rw [if_neg (by omega)]
    rfl
  | d + 1, i, c, hi, hc => by
    obtain ⟨h0, h1⟩ := hw _ (rd_mem ws i (by omega))
    have hp := pcb_le (rd ws (i : Int)).toNat 64
    have ih := count_l0 ws hw hl d (i + 1) (c + pcb (rd ws (i : Int)).toNat 64) (by omega) (by omega)
    rw [rd_drop ws i (by omega)]
    unfold cnt
    rw [← Nat.add_assoc]
    refine Ev.step (fun k => ?_) ih
    simp only [bitset_Count.l0]
    have ho : bits_OnesCount64.f (rd ws (i : Int)) = some ((pcb (rd ws (i : Int)).toNat 64 : Nat) : Int) := by
      have := ones (rd ws (i : Int)).toNat (by omega)
      rwa [show (((rd ws (i : Int)).toNat : Nat) : Int) = rd ws (i : Int) by omega] at this
    rw [if_pos (by omega), if_pos (by omega), if_pos (by omega), ho, Option.bind_some, wrap64_small (by omega) (by omega), wrap64_small (by omega) (by omega), Int.natCast_add]
    rfl
def countS (N : Int) (ws : List Int) : Int := if rightB N ws = true then (cnt ws : Int) else 0
theorem prog_count (N : Int) (ws : List Int) (hw : Wf ws) (hl : ws.length ≤ 140737488351232) : Ev (fun k => bitset_Count.f k N ws) (countS N ws) := by
  unfold countS bitset_Count.f
  rw [prog_right N ws hw hl]
  cases h : rightB N ws with
  | false =>
    rw [if_neg (by decide)]
    exact Ev.congr (f := fun _ => some 0) (fun k => by rw [Option.bind_some, if_neg (by decide)]) (Ev.now _)
  | true =>
    rw [if_pos rfl]
    have := count_l0 ws hw hl ws.length 0 0 (by omega) (by omega)
    rw [Nat.zero_add, List.drop_zero] at this
    exact Ev.congr (fun k => by rw [Option.bind_some, if_pos rfl]; rfl) this

theorem pcb_split (x y u v : Nat) : ∀ n, (∀ j, j < n → u.testBit j = (x.testBit j && y.testBit j)) → (∀ j, j < n → v.testBit j = (x.testBit j && !y.testBit j)) → pcb u n + pcb v n = pcb x n
  | 0, _, _ => rfl
  | n + 1, h1, h2 => by
    have ih := pcb_split x y u v n (fun j hj => h1 j (by omega)) (fun j hj => h2 j (by omega))
    unfold pcb
    rw [h1 n (by omega), h2 n (by omega)]
    cases x.testBit n <;> cases y.testBit n <;> simp <;> omega
theorem pcb_zero (x : Nat) : ∀ n, (∀ j, j < n → x.testBit j = false) → pcb x n = 0
  | 0, _ => rfl
  | n + 1, h => by
    unfold pcb
    rw [pcb_zero x n (fun j hj => h j (by omega)), h n (by omega)]
    rfl
theorem cnt_split : ∀ (a b : List Int), Wf a → Wf b → a.length = b.length → cnt (List.zipWith (Go.bits .and .u64) a b) + cnt (List.zipWith (Go.bits .andNot .u64) a b) = cnt a
  | [], _, _, _, _ => rfl
  | x :: a, [], _, _, h => by simp at h
  | x :: a, y :: b, ha, hb, h => by
    have ih := cnt_split a b (fun z hz => ha z (List.mem_cons_of_mem _ hz)) (fun z hz => hb z (List.mem_cons_of_mem _ hz)) (by simpa using h)
    have hx := ha x List.mem_cons_self
    have hy := hb y List.mem_cons_self
    rw [List.zipWith_cons_cons, List.zipWith_cons_cons]
    unfold cnt
    have e := pcb_split x.toNat y.toNat (Go.bits .and .u64 x y).toNat (Go.bits .andNot .u64 x y).toNat 64 (fun j hj => by
      have := op_and.bit x.toNat y.toNat (by omega) (by omega) j hj
      rw [show ((x.toNat : Nat) : Int) = x by omega, show ((y.toNat : Nat) : Int) = y by omega] at this
      rw [this]
      cases x.toNat.testBit j <;> cases y.toNat.testBit j <;> rfl) (fun j hj => by
      have := op_minus.bit x.toNat y.toNat (by omega) (by omega) j hj
      rw [show ((x.toNat : Nat) : Int) = x by omega, show ((y.toNat : Nat) : Int) = y by omega] at this
      rw [this]
      cases x.toNat.testBit j <;> cases y.toNat.testBit j <;> rfl)
    omega
theorem cnt_zero (ws : List Int) (hw : Wf ws) (h : ∀ i, i < 64 * ws.length → wbit ws i = false) : cnt ws = 0 := by
  have : ws = List.replicate ws.length 0 := by
    refine wbit_ext hw (Wf.zeros _) (by rw [List.length_replicate]) (fun i hi => ?_)
    rw [h i hi, wbit_zeros]
  rw [this]
  generalize ws.length = n
  induction n with
  | zero => rfl
  | succ n ih =>
    rw [List.replicate_succ]
    unfold cnt
    rw [ih]
    rfl
theorem zip_right {f : Int → Int → Int} {p : Bool → Bool → Bool} (hf : OpBit f p) {N : Int} {a b : List Int} (ha : Wf a) (hb : Wf b) (h1 : rightB N a = true) (h2 : rightB N b = true) : rightB N (List.zipWith f a b) = true := by
  have h3 := right_len h1
  have h4 := right_len h2
  have hl : a.length = b.length := by omega
  refine decide_eq_true ⟨h3.1, h3.2.1, by rw [zip_len f a b hl]; exact h3.2.2, fun i hi hN => ?_⟩
  rw [zip_bit hf ha hb hl, right_out h1 i hN, right_out h2 i hN, hf.zero]
/-- A set's two parts. -/
theorem parts_law (N : Int) (a b : List Int) (ha : Wf a) (hb : Wf b) (h1 : rightB N a = true) (h2 : rightB N b = true) :
    bothS true true true N (List.zipWith (Go.bits .and .u64) a b) N (List.zipWith (Go.bits .andNot .u64) a b) = (N, a, 0) ∧
    ∃ z, bothS true false false N (List.zipWith (Go.bits .and .u64) a b) N (List.zipWith (Go.bits .andNot .u64) a b) = (N, z, 0) ∧ Wf z ∧ z.length = a.length ∧ countS N z = 0 := by
  have h3 := right_len h1
  have h4 := right_len h2
  have hl : a.length = b.length := by omega
  have wx := zip_wf op_and ha hb
  have wy := zip_wf op_minus ha hb
  have rx := zip_right op_and ha hb h1 h2
  have ry := zip_right op_minus ha hb h1 h2
  have hlx := zip_len (Go.bits .and .u64) a b hl
  have hly := zip_len (Go.bits .andNot .u64) a b hl
  refine ⟨?_, List.zipWith (Go.bits .and .u64) (List.zipWith (Go.bits .and .u64) a b) (List.zipWith (Go.bits .andNot .u64) a b), ?_, zip_wf op_and wx wy, ?_, ?_⟩
  · rw [join_law op_or N _ _ wx wy rx ry]
    congr 2
    refine wbit_ext (zip_wf op_or wx wy) ha ?_ (fun i hi => ?_)
    · rw [zip_len _ _ _ (by omega), hlx]
    · rw [zip_bit op_or wx wy (by omega), zip_bit op_and ha hb hl, zip_bit op_minus ha hb hl]
      cases wbit a i <;> cases wbit b i <;> rfl
  · rw [join_law op_and N _ _ wx wy rx ry]
  · rw [zip_len _ _ _ (by omega), hlx]
  · unfold countS
    rw [cnt_zero _ (zip_wf op_and wx wy) (fun i _ => by
      rw [zip_bit op_and wx wy (by omega), zip_bit op_and ha hb hl, zip_bit op_minus ha hb hl]
      cases wbit a i <;> cases wbit b i <;> rfl)]
    split <;> rfl
end Go.Proofs.Ytdlkcohfgfnkbaa.Bp
