/- Sets of bits: the list of a set's numbers, Has, Count, and the set of a set's numbers: plain laws. -/
import Derived.Test.YtdlkcohfgfnkbaaDoorBn
import Derived.Test.YtdlkcohfgfnkbaaDoorBs
import Derived.Laws.Bits128
namespace Go.Proofs.YtdlkcohfgfnkbaaDoor.Bp
open Go.RowKit Go.Proofs.YtdlkcohfgfnkbaaDoor.PBitsetTells Go.Proofs.YtdlkcohfgfnkbaaDoor.Pc Go.Proofs.YtdlkcohfgfnkbaaDoor.Bn Go.Proofs.YtdlkcohfgfnkbaaDoorW.PrintWords Go.Proofs.YtdlkcohfgfnkbaaDoorW.PrintLast Go.Proofs.YtdlkcohfgfnkbaaDoorW.PrintMore
set_option linter.unusedSimpArgs false
set_option linter.unusedVariables false

theorem sel_succ (p : Nat → Bool) (i d : Nat) : sel p i (d + 1) = if p i then (i : Int) :: sel p (i + 1) d else sel p (i + 1) d := rfl
theorem sel_append (p : Nat → Bool) : ∀ (d i e : Nat), sel p i (d + e) = sel p i d ++ sel p (i + d) e
  | 0, i, e => by simp [sel]
  | d + 1, i, e => by
    have ih := sel_append p d (i + 1) e
    rw [show d + 1 + e = (d + e) + 1 by omega, sel_succ, sel_succ, ih, show i + (d + 1) = i + 1 + d by omega]
    cases p i with
    | true => rfl
    | false => rfl
theorem sel_none (p : Nat → Bool) : ∀ (d i : Nat), (∀ j, i ≤ j → j < i + d → p j = false) → sel p i d = []
  | 0, i, _ => rfl
  | d + 1, i, h => by
    unfold sel
    rw [h i (by omega) (by omega), if_neg (by decide)]
    exact sel_none p d (i + 1) (fun j h1 h2 => h j (by omega) (by omega))
theorem sel_snoc (p : Nat → Bool) (i d : Nat) : sel p i (d + 1) = sel p i d ++ (if p (i + d) then [((i + d : Nat) : Int)] else []) := by
  rw [sel_append]
  congr 1
theorem sel_range (p : Nat → Bool) (q : Nat → Bool) (i : Nat) : ∀ d, (∀ b, b < d → p (i + b) = q b) → sel p i d = ((List.range d).filter q).map (fun b => ((i + b : Nat) : Int))
  | 0, _ => rfl
  | d + 1, h => by
    rw [sel_snoc, sel_range p q i d (fun b hb => h b (by omega)), List.range_succ, List.filter_append, List.map_append, h d (by omega)]
    congr 1
    cases hq : q d with
    | true => rw [List.filter_cons_of_pos hq]; rfl
    | false => rw [List.filter_cons_of_neg (by rw [hq]; decide)]; rfl
theorem word_sel (ws : List Int) (i : Nat) : wordN ws i = sel (wbit ws) (64 * i) 64 := by
  unfold wordN bitsW
  refine (sel_range (wbit ws) _ (64 * i) 64 (fun b hb => ?_)).symm
  unfold wbit
  rw [show (64 * i + b) / 64 = i by omega, show (64 * i + b) % 64 = b by omega]
theorem nums_sel (ws : List Int) : ∀ i, numsTo ws i = sel (wbit ws) 0 (64 * i)
  | 0 => rfl
  | i + 1 => by
    rw [numsTo_succ, nums_sel ws i, word_sel, show 64 * (i + 1) = 64 * i + 64 by omega, sel_append, Nat.zero_add]
/-- A set's numbers. -/
def listS (N : Int) (ws : List Int) : List Int := if rightB N ws = true then sel (wbit ws) 0 N.toNat else []
theorem listS_nums {N : Int} {ws : List Int} (h : rightB N ws = true) : numsTo ws ws.length = listS N ws := by
  unfold listS
  rw [if_pos h, nums_sel]
  obtain ⟨h0, h1, h2⟩ := right_len h
  obtain ⟨e, he⟩ : ∃ e, 64 * ws.length = N.toNat + e := ⟨64 * ws.length - N.toNat, by omega⟩
  rw [he, sel_append, Nat.zero_add, sel_none (wbit ws) e N.toNat (fun j h3 h4 => right_out h j (by omega)), List.append_nil]
theorem listS_len (N : Int) (ws : List Int) : (listS N ws).length ≤ 65536 := by
  unfold listS
  split
  · rename_i h
    obtain ⟨h0, h1, h2⟩ := right_len h
    exact Nat.le_trans (sel_len _ _ _) (by omega)
  · exact Nat.zero_le _
theorem list_l0 (N : Int) (ws : List Int) (hw : Wf ws) (h : rightB N ws = true) : ∀ (d i : Nat), i + d = N.toNat → Ev (fun k => windbreakref14_List.l0 k true (sel (wbit ws) 0 i) (i : Int) N ws) (sel (wbit ws) 0 N.toNat)
  | 0, i, hi => by
    obtain ⟨h0, h1, h2⟩ := right_len h
    rw [show i = N.toNat by omega]
    refine Ev.step (f := fun k => windbreakref14_List.j1 k true (sel (wbit ws) 0 N.toNat) (N.toNat : Int) false N ws) (fun k => ?_) (Ev.step (fun k => ?_) (Ev.now _))
    · simp only [windbreakref14_List.l0]
      rw [if_pos trivial, decide_eq_false (by omega)]
    · simp only [windbreakref14_List.j1]
      rw [if_neg (by decide)]
  | d + 1, i, hi => by
    obtain ⟨h0, h1, h2⟩ := right_len h
    have ih := list_l0 N ws hw h d (i + 1) (by omega)
    have hl := sel_len (wbit ws) i 0
    rw [sel_snoc, Nat.zero_add] at ih
    refine Ev.step (f := fun k => windbreakref14_List.j1 k true (sel (wbit ws) 0 i) (i : Int) true N ws) (fun k => ?_) (Ev.step (f := fun k => (windbreakref14_bit.f k N ws (i : Int)).bind fun t114 => (if t114 = true then (if (sel (wbit ws) 0 i).length < 17592186044416 then (windbreakref14_List.l0 k true (sel (wbit ws) 0 i ++ [(i : Int)]) (((i + 1 : Nat) : Int)) N ws) else (none)) else (windbreakref14_List.l0 k true (sel (wbit ws) 0 i) (((i + 1 : Nat) : Int)) N ws))) (fun k => ?_) (Ev.bind (ev_bit N ws hw i (by omega) (by omega)) ?_))
    · simp only [windbreakref14_List.l0]
      rw [if_pos trivial, decide_eq_true (by omega)]
    · simp only [windbreakref14_List.j1]
      rw [if_pos trivial, wrap64_small (by omega) (by omega)]
      rfl
    · cases hb : wbit ws i with
      | true =>
        rw [hb, if_pos rfl] at ih
        refine Ev.congr (fun k => ?_) ih
        rw [if_pos rfl, if_pos (by omega)]
      | false =>
        rw [hb, if_neg (by decide), List.append_nil] at ih
        refine Ev.congr (fun k => ?_) ih
        rw [if_neg (by decide)]
theorem ref_list (N : Int) (ws : List Int) (hw : Wf ws) (hl : ws.length ≤ 140737488351232) : Ev (fun k => windbreakref14_List.f k N ws) (listS N ws) := by
  refine Ev.bind (ref_right N ws hw hl) ?_
  unfold listS
  cases h : rightB N ws with
  | true => exact list_l0 N ws hw h N.toNat 0 (by omega)
  | false =>
    rw [if_neg (by decide)]
    refine Ev.step (f := fun k => windbreakref14_List.j1 k false ([] : List Int) 0 false N ws) (fun k => ?_) (Ev.step (fun k => ?_) (Ev.now _))
    · simp only [windbreakref14_List.l0]
      rw [if_neg (by decide)]
    · simp only [windbreakref14_List.j1]
      rw [if_neg (by decide)]
theorem ref_count (N : Int) (ws : List Int) (hw : Wf ws) (hl : ws.length ≤ 140737488351232) : Ev (fun k => windbreakref14_Count.f k N ws) ((listS N ws).length : Int) := Ev.bind (ref_list N ws hw hl) (Ev.now _)
/-- Is a number in a set? -/
def hasS (N : Int) (ws : List Int) (i : Int) : Bool := rightB N ws && decide (0 ≤ i) && decide (i < N) && wbit ws i.toNat
theorem ref_has (N : Int) (ws : List Int) (i : Int) (hw : Wf ws) (hl : ws.length ≤ 140737488351232) : Ev (fun k => windbreakref14_Has.f k N ws i) (hasS N ws i) := by
  refine Ev.bind (ref_right N ws hw hl) ?_
  unfold hasS
  cases h : rightB N ws with
  | false =>
    rw [Bool.false_and, Bool.false_and, Bool.false_and]
    exact Ev.congr (fun k => by rw [if_neg (by decide)]) (Ev.now _)
  | true =>
    obtain ⟨h0, h1, h2⟩ := right_len h
    by_cases h3 : i < 0
    · rw [decide_eq_false (show ¬ 0 ≤ i by omega), Bool.and_false, Bool.false_and, Bool.false_and]
      exact Ev.congr (fun k => by rw [if_pos rfl, if_pos h3]) (Ev.now _)
    · by_cases h4 : i < N
      · obtain ⟨n, rfl⟩ : ∃ n : Nat, i = (n : Int) := ⟨i.toNat, by omega⟩
        rw [decide_eq_true (show (0 : Int) ≤ (n : Int) by omega), decide_eq_true h4, Int.toNat_natCast]
        refine Ev.congr (f := fun k => (windbreakref14_bit.f k N ws (n : Int)).bind fun t => some t) (fun k => by rw [if_pos rfl, if_neg h3, if_neg (by omega)]) (Ev.bind (ev_bit N ws hw n (by omega) (by omega)) (Ev.now _))
      · rw [decide_eq_false h4]
        refine Ev.congr (fun k => by rw [if_pos rfl, if_neg h3, if_pos (by omega)]) ?_
        rw [Bool.and_false, Bool.false_and]
        exact Ev.now _
theorem prog_has (N : Int) (ws : List Int) (i : Int) (hw : Wf ws) (hl : ws.length ≤ 140737488351232) : bitset_Has.f N ws i = some (hasS N ws i) := by
  unfold bitset_Has.f hasS
  rw [prog_right N ws hw hl, Option.bind_some]
  cases h : rightB N ws with
  | false => rw [if_neg (by decide)]; rfl
  | true =>
    rw [if_pos rfl]
    obtain ⟨h0, h1, h2⟩ := right_len h
    by_cases h3 : i < 0
    · rw [if_neg (by omega), decide_eq_false (show ¬ 0 ≤ i by omega)]; rfl
    · by_cases h4 : i < N
      · obtain ⟨n, rfl⟩ : ∃ n : Nat, i = (n : Int) := ⟨i.toNat, by omega⟩
        have hd : wrap64 (Int.tdiv (n : Int) 64) = ((n / 64 : Nat) : Int) := by rw [Int.tdiv_eq_ediv_of_nonneg (by omega), wrap64_small (by omega) (by omega)]; omega
        have hm : Int.tmod (n : Int) 64 = ((n % 64 : Nat) : Int) := by rw [Int.tmod_eq_emod_of_nonneg (by omega)]; omega
        rw [if_pos (by omega), if_pos h4, hd, hm, if_pos (by omega), if_pos (by omega), if_pos (by omega), decide_eq_true (show (0 : Int) ≤ (n : Int) by omega), decide_eq_true h4, Int.toNat_natCast]
        congr 1
        have hg := hw.get (n / 64)
        obtain ⟨x, hx⟩ : ∃ x : Nat, ws.getD (n / 64) 0 = (x : Int) := ⟨(ws.getD (n / 64) 0).toNat, by omega⟩
        have hrd : rd ws ((n / 64 : Nat) : Int) = (x : Int) := by unfold rd; rw [Int.toNat_natCast, hx]
        have hsh : shr .u64 (x : Int) ((n % 64 : Nat) : Int) = ((x / 2 ^ (n % 64) : Nat) : Int) := by
          unfold shr
          rw [Int.toNat_natCast, Nat.min_eq_left (show n % 64 ≤ IntKind.u64.bits by show n % 64 ≤ 64; omega), Int.natCast_ediv, Int.natCast_pow]
          rfl
        have hlt : x / 2 ^ (n % 64) < 18446744073709551616 := Nat.lt_of_le_of_lt (Nat.div_le_self _ _) (by omega)
        rw [hrd, hsh, show (1 : Int) = ((1 : Nat) : Int) from rfl, bits_and_u64_nat _ 1 hlt (by omega)]
        show _ = wbit ws n
        unfold wbit
        rw [hx, Int.toNat_natCast, Nat.testBit_eq_decide_div_mod_eq, Nat.and_one_is_mod]
        by_cases hb : x / 2 ^ (n % 64) % 2 = 1
        · rw [hb]; simp
        · have : x / 2 ^ (n % 64) % 2 = 0 := by omega
          rw [this]; simp
      · rw [if_pos (by omega), if_neg (by omega), decide_eq_false h4]
        rw [Bool.and_false, Bool.false_and]
theorem pcb_bits (x : Nat) : ∀ n, ((List.range n).filter (fun j => x.testBit j)).length = pcb x n
  | 0 => rfl
  | n + 1 => by
    rw [List.range_succ, List.filter_append, List.length_append, pcb_bits x n, show pcb x (n + 1) = pcb x n + (if x.testBit n then 1 else 0) from rfl]
    congr 1
    cases h : x.testBit n with
    | true => rw [List.filter_cons_of_pos (p := fun j => x.testBit j) h]; rfl
    | false => rw [List.filter_cons_of_neg (p := fun j => x.testBit j) (by rw [h]; decide)]; rfl
theorem cnt_snoc (l : List Int) (x : Int) : cnt (l ++ [x]) = cnt l + pcb x.toNat 64 := by
  induction l with
  | nil => simp [cnt]
  | cons y l ih =>
    show pcb y.toNat 64 + cnt (l ++ [x]) = pcb y.toNat 64 + cnt l + _
    rw [ih]
    omega
theorem cnt_nums (ws : List Int) : ∀ i, i ≤ ws.length → cnt (ws.take i) = (numsTo ws i).length
  | 0, _ => by rw [List.take_zero]; rfl
  | i + 1, h => by
    rw [List.take_succ_eq_append_getElem (by omega), cnt_snoc, cnt_nums ws i (by omega), numsTo_succ, List.length_append]
    congr 1
    unfold wordN bitsW
    rw [List.length_map, pcb_bits, List.getD_eq_getElem?_getD, List.getElem?_eq_getElem (show i < ws.length by omega), Option.getD_some]
theorem count_list (N : Int) (ws : List Int) : countS N ws = ((listS N ws).length : Int) := by
  unfold countS
  cases h : rightB N ws with
  | true =>
    rw [if_pos rfl, ← listS_nums h, ← cnt_nums ws ws.length (Nat.le_refl _), List.take_length]
  | false =>
    rw [if_neg (by decide)]
    unfold listS
    rw [h, if_neg (by decide)]
    rfl
/-- The set of a set's numbers is the set. -/
theorem of_list {N : Int} {ws : List Int} (hw : Wf ws) (h : rightB N ws = true) : ofS N (listS N ws) = (N, ws, 0) := by
  obtain ⟨h0, h1, h2⟩ := right_len h
  have hm : ∀ e ∈ listS N ws, 0 ≤ e ∧ e < N := by
    intro e he
    unfold listS at he
    rw [if_pos h] at he
    obtain ⟨j, rfl, _, hj, _⟩ := (sel_mem _ _ _ _).1 he
    omega
  unfold ofS
  rw [if_neg (by omega), ofL_good N _ _ hm]
  congr 2
  have hz : (List.replicate ((N + 63) / 64).toNat (0 : Int)).length = ws.length := by rw [List.length_replicate]; omega
  refine wbit_ext (fold_wf _ _ (Wf.zeros _)) hw (by rw [fold_length, hz]) (fun i hi => ?_)
  rw [fold_length, hz] at hi
  rw [fold_bit _ _ i (fun e he => ⟨(hm e he).1, by have := hm e he; rw [hz]; omega⟩), wbit_zeros, Bool.false_or]
  unfold listS
  rw [if_pos h]
  by_cases hb : wbit ws i = true
  · have hiN : (i : Int) < N := by
      rcases Int.lt_or_le (i : Int) N with h3 | h3
      · exact h3
      · rw [right_out h i h3] at hb; cases hb
    rw [hb, decide_eq_true ((sel_mem _ _ _ _).2 ⟨i, rfl, by omega, by omega, hb⟩)]
  · rw [Bool.eq_false_iff.2 hb]
    refine decide_eq_false (fun h3 => ?_)
    obtain ⟨j, hj, _, _, hbj⟩ := (sel_mem _ _ _ _).1 h3
    have : i = j := by omega
    rw [this] at hb
    exact hb hbj
end Go.Proofs.YtdlkcohfgfnkbaaDoor.Bp
