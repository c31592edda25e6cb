/- Sets of bits: the plain laws: which sets may be; two sets joined. -/
import Derived.Test.YtdlkcohfgfnkbaaDoorBp
namespace Go.Proofs.YtdlkcohfgfnkbaaDoor.Bp
open Go.RowKit Go.Proofs.YtdlkcohfgfnkbaaDoor.PBitsetTells Go.Proofs.YtdlkcohfgfnkbaaDoorW.PrintWords Go.Proofs.YtdlkcohfgfnkbaaDoorW.PrintLast Go.Proofs.YtdlkcohfgfnkbaaDoorW.PrintMore
set_option linter.unusedSimpArgs false
set_option linter.unusedVariables false

/-- May this set be? -/
def rightB (N : Int) (ws : List Int) : Bool := decide (0 ≤ N ∧ N ≤ 65536 ∧ (ws.length : Int) = (N + 63) / 64 ∧ ∀ i, i < 64 * ws.length → N ≤ (i : Int) → wbit ws i = false)
theorem right_l0 (N : Int) (ws : List Int) (hw : Wf ws) (hl : ws.length ≤ 140737488351232) : ∀ (d i : Nat), i + d = 64 * ws.length →
    Ev (fun k => windbreakref14_Right.l0 k (i : Int) N ws) (decide (∀ j, j < 64 * ws.length → i ≤ j → wbit ws j = false))
  | 0, i, hi => by
    rw [decide_eq_true (fun j h1 h2 => by omega)]
    refine Ev.step (fun k => ?_) (Ev.now _)
    simp only [windbreakref14_Right.l0]
    rw [wrap64_small (by omega) (by omega), if_neg (by omega)]
  | d + 1, i, hi => by
    refine Ev.step (f := fun k => (windbreakref14_bit.f k N ws (i : Int)).bind fun t => if t = true then some false else windbreakref14_Right.l0 k ((i + 1 : Nat) : Int) N ws) (fun k => ?_) (Ev.bind (ev_bit N ws hw i (by omega) (by omega)) ?_)
    · simp only [windbreakref14_Right.l0]
      rw [wrap64_small (by omega) (by omega), if_pos (by omega), wrap64_small (by omega) (by omega), show (i : Int) + 1 = ((i + 1 : Nat) : Int) by omega]
    · cases hb : wbit ws i with
      | true =>
        rw [decide_eq_false (fun h => by have := h i (by omega) (by omega); rw [hb] at this; cases this)]
        exact Ev.now _
      | false =>
        have ih := right_l0 N ws hw hl d (i + 1) (by omega)
        refine ev_false (c := false = true) (by decide) ?_ (fun k => rfl)
        have e : decide (∀ j, j < 64 * ws.length → i ≤ j → wbit ws j = false) = decide (∀ j, j < 64 * ws.length → i + 1 ≤ j → wbit ws j = false) := by
          apply decide_eq_decide.2
          constructor
          · exact fun h j h1 h2 => h j h1 (by omega)
          · intro h j h1 h2
            by_cases hj : j = i
            · rw [hj, hb]
            · exact h j h1 (by omega)
        rw [e]
        exact ih
theorem ref_right (N : Int) (ws : List Int) (hw : Wf ws) (hl : ws.length ≤ 140737488351232) : Ev (fun k => windbreakref14_Right.f k N ws) (rightB N ws) := by
  have step : ∀ b : Bool, b = decide (N < 0 ∨ 65536 < N ∨ (ws.length : Int) ≠ (N + 63) / 64) → ∀ k, windbreakref14_Right.f k N ws = windbreakref14_Right.j0 k b N ws := by
    intro b hb k
    unfold windbreakref14_Right.f
    rw [hb]
    by_cases h1 : N < 0
    · rw [if_pos h1, decide_eq_true (.inl h1)]
    · rw [if_neg h1]
      by_cases h2 : N > 65536
      · rw [if_pos h2, decide_eq_true (.inr (.inl h2))]
      · rw [if_neg h2, wrap64_small (x := N + 63) (by omega) (by omega), Int.tdiv_eq_ediv_of_nonneg (by omega), wrap64_small (by omega) (by omega)]
        congr 1
        by_cases h3 : (ws.length : Int) = (N + 63) / 64
        · rw [decide_eq_false (by omega), h3]
          simp
        · rw [decide_eq_true (.inr (.inr h3))]
          simp [h3]
  by_cases hbad : N < 0 ∨ 65536 < N ∨ (ws.length : Int) ≠ (N + 63) / 64
  · refine Ev.congr (step true (decide_eq_true hbad).symm) ?_
    have : rightB N ws = false := decide_eq_false (fun h => by omega)
    rw [this]
    refine Ev.step (fun k => ?_) (Ev.now _)
    simp only [windbreakref14_Right.j0]
    rfl
  · refine Ev.congr (step false (decide_eq_false hbad).symm) ?_
    have := right_l0 N ws hw hl (64 * ws.length - N.toNat) N.toNat (by omega)
    have e : rightB N ws = decide (∀ j, j < 64 * ws.length → N.toNat ≤ j → wbit ws j = false) := by
      apply decide_eq_decide.2
      constructor
      · exact fun h j h1 h2 => h.2.2.2 j h1 (by omega)
      · exact fun h => ⟨by omega, by omega, by omega, fun j h1 h2 => h j h1 (by omega)⟩
    rw [e]
    refine Ev.step (fun k => ?_) this
    simp only [windbreakref14_Right.j0]
    rw [if_neg (by decide), show ((N.toNat : Nat) : Int) = N by omega]
theorem right_len {N : Int} {ws : List Int} (h : rightB N ws = true) : 0 ≤ N ∧ N ≤ 65536 ∧ (ws.length : Int) = (N + 63) / 64 := by
  have := of_decide_eq_true h
  exact ⟨this.1, this.2.1, this.2.2.1⟩
theorem right_out {N : Int} {ws : List Int} (h : rightB N ws = true) (i : Nat) (hi : N ≤ (i : Int)) : wbit ws i = false := by
  have h1 := of_decide_eq_true h
  by_cases h2 : i < 64 * ws.length
  · exact h1.2.2.2 i h2 hi
  · exact wbit_out ws i (by omega)
/-- The program's. -/
theorem prog_right (N : Int) (ws : List Int) (hw : Wf ws) (hl : ws.length ≤ 140737488351232) : bitset_Right.f N ws = some (rightB N ws) := by
  unfold bitset_Right.f
  by_cases h1 : N < 0
  · rw [if_pos h1, show rightB N ws = false from decide_eq_false (fun h => by omega)]
  · rw [if_neg h1]
    by_cases h2 : N > 65536
    · rw [if_pos h2, show rightB N ws = false from decide_eq_false (fun h => by omega)]
    · rw [if_neg h2, wrap64_small (x := N + 64) (by omega) (by omega), wrap64_small (x := N + 64 - 1) (by omega) (by omega), Int.tdiv_eq_ediv_of_nonneg (by omega), wrap64_small (x := (N + 64 - 1) / 64) (by omega) (by omega)]
      by_cases h3 : (ws.length : Int) = (N + 64 - 1) / 64
      · rw [if_pos h3, Int.tmod_eq_emod_of_nonneg (by omega)]
        by_cases h4 : N % 64 = 0
        · rw [if_pos h4, show rightB N ws = true from decide_eq_true ⟨by omega, by omega, by omega, fun j hj1 hj2 => by omega⟩]
        · rw [if_neg h4, wrap64_small (x := (ws.length : Int) - 1) (by omega) (by omega), if_pos (by omega), if_pos (by omega), if_pos (by omega)]
          congr 1
          obtain ⟨m, hm⟩ : ∃ m : Nat, N % 64 = (m : Int) := ⟨(N % 64).toNat, by omega⟩
          have hwg := hw.get (ws.length - 1)
          obtain ⟨x, hx⟩ : ∃ x : Nat, ws.getD (ws.length - 1) 0 = (x : Int) := ⟨(ws.getD (ws.length - 1) 0).toNat, by omega⟩
          have hrd : rd ws ((ws.length : Int) - 1) = (x : Int) := by
            unfold rd
            rw [show ((ws.length : Int) - 1).toNat = ws.length - 1 by omega, hx]
          rw [hrd, hm]
          have hsh : shr .u64 (x : Int) (m : Int) = ((x / 2 ^ m : Nat) : Int) := by
            unfold shr
            rw [Int.toNat_natCast, Nat.min_eq_left (show m ≤ IntKind.u64.bits by show m ≤ 64; omega), Int.natCast_ediv, Int.natCast_pow]
            rfl
          rw [hsh]
          have key : (x / 2 ^ m = 0) ↔ (∀ i, i < 64 * ws.length → N ≤ (i : Int) → wbit ws i = false) := by
            constructor
            · intro h i hi1 hi2
              unfold wbit
              rw [show i / 64 = ws.length - 1 by omega, hx, Int.toNat_natCast]
              have : x < 2 ^ m := by
                rcases Nat.lt_or_ge x (2 ^ m) with h5 | h5
                · exact h5
                · have := Nat.div_pos h5 (Nat.two_pow_pos m)
                  omega
              exact Nat.testBit_lt_two_pow (Nat.lt_of_lt_of_le this (Nat.pow_le_pow_right (by omega) (by omega)))
            · intro h
              apply Nat.eq_of_testBit_eq
              intro j
              rw [Nat.testBit_div_two_pow, Nat.zero_testBit]
              by_cases hj : j + m < 64
              · have := h (64 * (ws.length - 1) + (j + m)) (by omega) (by omega)
                unfold wbit at this
                rwa [show (64 * (ws.length - 1) + (j + m)) / 64 = ws.length - 1 by omega, show (64 * (ws.length - 1) + (j + m)) % 64 = j + m by omega, hx, Int.toNat_natCast] at this
              · exact Nat.testBit_lt_two_pow (Nat.lt_of_lt_of_le (show x < 2 ^ 64 by omega) (Nat.pow_le_pow_right (by omega) (by omega)))
          unfold rightB
          by_cases h5 : x / 2 ^ m = 0
          · rw [h5, decide_eq_true ⟨by omega, by omega, by omega, key.1 h5⟩]
            rfl
          · rw [decide_eq_false (fun h => h5 (key.2 h.2.2.2))]
            rw [beq_eq_false_iff_ne]
            omega
      · rw [if_neg h3, show rightB N ws = false from decide_eq_false (fun h => by omega)]

/-! ### a set of numbers that may be -/
theorem ofL_good (N : Int) : ∀ (l ws : List Int), (∀ e ∈ l, 0 ≤ e ∧ e < N) → ofL N ws l = (N, l.foldl (fun w e => setB w e.toNat) ws, 0)
  | [], _, _ => rfl
  | e :: l, ws, h => by
    have := h e List.mem_cons_self
    unfold ofL
    rw [if_neg (by omega), ofL_good N l _ (fun x hx => h x (List.mem_cons_of_mem _ hx))]
    rfl
theorem fold_length : ∀ (l ws : List Int), (l.foldl (fun w e => setB w e.toNat) ws).length = ws.length
  | [], _ => rfl
  | e :: l, ws => by
    rw [List.foldl_cons, fold_length l, setB_length]
theorem fold_wf : ∀ (l ws : List Int), Wf ws → Wf (l.foldl (fun w e => setB w e.toNat) ws)
  | [], _, h => h
  | e :: l, ws, h => by
    rw [List.foldl_cons]
    exact fold_wf l _ (h.setB _)
theorem fold_bit : ∀ (l ws : List Int) (j : Nat), (∀ e ∈ l, 0 ≤ e ∧ e.toNat / 64 < ws.length) → wbit (l.foldl (fun w e => setB w e.toNat) ws) j = (wbit ws j || decide ((j : Int) ∈ l))
  | [], ws, j, _ => by simp
  | e :: l, ws, j, h => by
    have he := h e List.mem_cons_self
    rw [List.foldl_cons, fold_bit l _ j (fun x hx => by rw [setB_length]; exact h x (List.mem_cons_of_mem _ hx)), wbit_setB _ _ _ he.2, Bool.or_assoc]
    congr 1
    rw [← Bool.decide_or]
    apply decide_eq_decide.2
    rw [List.mem_cons]
    constructor
    · rintro (h1 | h1)
      · left; omega
      · exact .inr h1
    · rintro (h1 | h1)
      · left; omega
      · exact .inr h1

/-! ### two sets -/
/-- The numbers i, i+1, .. (d of them) of which p says yes. -/
def sel (p : Nat → Bool) : Nat → Nat → List Int
  | _, 0 => []
  | i, d + 1 => if p i then (i : Int) :: sel p (i + 1) d else sel p (i + 1) d
theorem sel_len (p : Nat → Bool) : ∀ (d i : Nat), (sel p i d).length ≤ d
  | 0, _ => Nat.le_refl _
  | d + 1, i => by
    have := sel_len p d (i + 1)
    unfold sel
    split
    · simp only [List.length_cons]; omega
    · omega
theorem sel_mem (p : Nat → Bool) : ∀ (d i : Nat) (x : Int), x ∈ sel p i d ↔ ∃ j : Nat, x = (j : Int) ∧ i ≤ j ∧ j < i + d ∧ p j = true
  | 0, i, x => by
    constructor
    · exact fun h => absurd h List.not_mem_nil
    · rintro ⟨j, _, h1, h2, _⟩; omega
  | d + 1, i, x => by
    unfold sel
    have ih := sel_mem p d (i + 1) x
    cases hp : p i with
    | true =>
      rw [if_pos rfl, List.mem_cons, ih]
      constructor
      · rintro (rfl | ⟨j, rfl, h1, h2, h3⟩)
        · exact ⟨i, rfl, by omega, by omega, hp⟩
        · exact ⟨j, rfl, by omega, by omega, h3⟩
      · rintro ⟨j, rfl, h1, h2, h3⟩
        by_cases e : j = i
        · subst e; exact .inl rfl
        · exact .inr ⟨j, rfl, by omega, by omega, h3⟩
    | false =>
      rw [if_neg (by decide), ih]
      constructor
      · rintro ⟨j, rfl, h1, h2, h3⟩
        exact ⟨j, rfl, by omega, by omega, h3⟩
      · rintro ⟨j, rfl, h1, h2, h3⟩
        by_cases e : j = i
        · subst e; rw [hp] at h3; cases h3
        · exact ⟨j, rfl, by omega, by omega, h3⟩
end Go.Proofs.YtdlkcohfgfnkbaaDoor.Bp
