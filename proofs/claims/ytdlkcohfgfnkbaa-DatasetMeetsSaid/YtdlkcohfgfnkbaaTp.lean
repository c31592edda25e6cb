/- Tables: the plain laws: whether ids and tables may be. -/
import Derived.Test.YtdlkcohfgfnkbaaDFa
namespace Go.Proofs.Ytdlkcohfgfnkbaa.Tp
open Go.RowKit Go.Proofs.Ytdlkcohfgfnkbaa.PDatasetJoins Go.Proofs.Ytdlkcohfgfnkbaa.DFns Go.Proofs.YtdlkcohfgfnkbaaW.PrintWords Go.Proofs.YtdlkcohfgfnkbaaW.PrintLast Go.Proofs.YtdlkcohfgfnkbaaW.PrintMore
set_option linter.unusedSimpArgs false
set_option linter.unusedVariables false

theorem wrap64_small {x : Int} (h0 : -9223372036854775808 ≤ x) (h1 : x < 9223372036854775808) : wrap64 x = x := by
  unfold wrap64
  omega
theorem rd_drop (xs : List Int) (at_ : Nat) (h : at_ < xs.length) : xs.drop at_ = rd xs (at_ : Int) :: xs.drop (at_ + 1) := by
  rw [List.drop_eq_getElem_cons h]
  congr 1
  simp [rd, h]
theorem rd_get (xs : List Int) (j : Nat) (h : j < xs.length) : rd xs (j : Int) = xs[j] := by
  simp only [rd, Int.toNat_natCast, List.getD_eq_getElem?_getD, List.getElem?_eq_getElem h, Option.getD_some]
theorem rd_mem (xs : List Int) (j : Nat) (h : j < xs.length) : rd xs (j : Int) ∈ xs := by
  rw [rd_get xs j h]
  exact List.getElem_mem h
theorem ev_false {α : Type} {g : Nat → Option α} {r : α} {c : Prop} [Decidable c] {a b : Nat → Option α} (hc : ¬ c) (h : Ev b r) (hg : ∀ k, g k = if c then a k else b k) : Ev g r := by
  refine Ev.congr (f := b) (fun k => ?_) h
  rw [hg, if_neg hc]
theorem ev_true {α : Type} {g : Nat → Option α} {r : α} {c : Prop} [Decidable c] {a b : Nat → Option α} (hc : c) (h : Ev a r) (hg : ∀ k, g k = if c then a k else b k) : Ev g r := by
  refine Ev.congr (f := a) (fun k => ?_) h
  rw [hg, if_pos hc]

/-- Where a number stands first. -/
def fstIx : List Int → Int → Option Nat
  | [], _ => none
  | y :: l, x => if y = x then some 0 else (fstIx l x).map (· + 1)
theorem fstIx_none {l : List Int} {x : Int} : fstIx l x = none ↔ x ∉ l := by
  induction l with
  | nil => simp [fstIx]
  | cons y l ih =>
    unfold fstIx
    by_cases h : y = x
    · rw [if_pos h]; simp [h]
    · rw [if_neg h]
      simp only [Option.map_eq_none_iff, ih, List.mem_cons]
      constructor
      · rintro h1 (h2 | h2)
        · exact h h2.symm
        · exact h1 h2
      · exact fun h1 h2 => h1 (.inr h2)
theorem fstIx_some {l : List Int} {x : Int} : ∀ {j : Nat}, fstIx l x = some j → j < l.length ∧ l.getD j 0 = x := by
  induction l with
  | nil => intro j h; simp [fstIx] at h
  | cons y l ih =>
    intro j h
    unfold fstIx at h
    by_cases e : y = x
    · rw [if_pos e] at h
      obtain rfl := Option.some.inj h
      exact ⟨by simp, by simpa using e⟩
    · rw [if_neg e] at h
      simp only [Option.map_eq_some_iff] at h
      obtain ⟨i, hi, rfl⟩ := h
      obtain ⟨h1, h2⟩ := ih hi
      exact ⟨by simpa using h1, by simpa using h2⟩
def plI (l : List Int) (x : Int) : Int := match fstIx l x with | some j => (j : Int) | none => -1
theorem place_l0 (l : List Int) (x : Int) (hl : l.length ≤ 140737488351232) : ∀ (d i : Nat), i + d = l.length →
    Ev (fun k => windbreakref15_place.l0 k l x (i : Int)) (match fstIx (l.drop i) x with | some j => ((i + j : Nat) : Int) | none => -1)
  | 0, i, hi => by
    rw [show i = l.length by omega, List.drop_length]
    refine Ev.step (fun k => ?_) (Ev.now _)
    simp only [windbreakref15_place.l0]
    rw [if_neg (by omega)]
    rfl
  | d + 1, i, hi => by
    have ih := place_l0 l x hl d (i + 1) (by omega)
    rw [rd_drop l i (by omega)]
    unfold fstIx
    by_cases h : rd l (i : Int) = x
    · rw [if_pos h]
      refine Ev.step (fun k => ?_) (Ev.now _)
      simp only [windbreakref15_place.l0]
      rw [if_pos (by omega), if_pos (by omega), if_pos h]
      rfl
    · rw [if_neg h]
      have e : (match (fstIx (l.drop (i + 1)) x).map (· + 1) with | some j => ((i + j : Nat) : Int) | none => -1) = (match fstIx (l.drop (i + 1)) x with | some j => ((i + 1 + j : Nat) : Int) | none => -1) := by
        cases fstIx (l.drop (i + 1)) x with
        | none => rfl
        | some j => show ((i + (j + 1) : Nat) : Int) = _; congr 1; omega
      rw [e]
      refine Ev.step (fun k => ?_) ih
      simp only [windbreakref15_place.l0]
      rw [if_pos (by omega), if_pos (by omega), if_neg h, wrap64_small (by omega) (by omega)]
      rfl
theorem ref_place (l : List Int) (x : Int) (hl : l.length ≤ 140737488351232) : Ev (fun k => windbreakref15_place.f k l x) (plI l x) := by
  have := place_l0 l x hl l.length 0 (by omega)
  rw [List.drop_zero] at this
  unfold plI
  simp only [Nat.zero_add] at this
  exact this

/-- May these ids be? -/
def idsB (l : List Int) : Bool := decide (l.length ≤ 256 ∧ (∀ x ∈ l, 0 ≤ x ∧ x ≤ 1073741824) ∧ l.Nodup)
theorem nodup_ix {l : List Int} : (∀ j : Nat, j < l.length → fstIx l (l.getD j 0) = some j) ↔ l.Nodup := by
  induction l with
  | nil => simp
  | cons y l ih =>
    rw [List.nodup_cons, ← ih]
    constructor
    · intro h
      refine ⟨fun hy => ?_, fun j hj => ?_⟩
      · obtain ⟨j, hj, e⟩ := List.getElem_of_mem hy
        have := h (j + 1) (by simpa using hj)
        rw [List.getD_cons_succ, List.getD_eq_getElem?_getD, List.getElem?_eq_getElem hj, Option.getD_some, e] at this
        unfold fstIx at this
        rw [if_pos rfl] at this
        cases this
      · have := h (j + 1) (by simpa using hj)
        rw [List.getD_cons_succ] at this
        unfold fstIx at this
        split at this
        · cases this
        · simp only [Option.map_eq_some_iff] at this
          obtain ⟨i, hi, e⟩ := this
          rw [hi]
          congr 1
          omega
    · rintro ⟨h1, h2⟩ j hj
      cases j with
      | zero => simp [fstIx]
      | succ j =>
        have hj' : j < l.length := by simpa using hj
        rw [List.getD_cons_succ]
        unfold fstIx
        rw [if_neg (fun e => h1 (by rw [e, List.getD_eq_getElem?_getD, List.getElem?_eq_getElem hj']; exact List.getElem_mem hj')), h2 j hj']
        rfl
def goodAt (l : List Int) (j : Nat) : Prop := 0 ≤ l.getD j 0 ∧ l.getD j 0 ≤ 1073741824 ∧ fstIx l (l.getD j 0) = some j
instance (l : List Int) (j : Nat) : Decidable (goodAt l j) := by unfold goodAt; infer_instance
theorem rd_getD (l : List Int) (j : Nat) : rd l (j : Int) = l.getD j 0 := by unfold rd; rw [Int.toNat_natCast]
theorem ids_l0 (l : List Int) (hl : l.length ≤ 256) : ∀ (d i : Nat), i + d = l.length → Ev (fun k => windbreakref15_RightIds.l0 k l (i : Int)) (decide (∀ j, j < l.length → i ≤ j → goodAt l j))
  | 0, i, hi => by
    rw [decide_eq_true (fun j h1 h2 => by omega)]
    refine Ev.step (fun k => ?_) (Ev.now _)
    simp only [windbreakref15_RightIds.l0]
    rw [if_neg (by omega)]
  | d + 1, i, hi => by
    have ih := ids_l0 l hl d (i + 1) (by omega)
    by_cases hg : goodAt l i
    · have e : decide (∀ j, j < l.length → i ≤ j → goodAt l j) = decide (∀ j, j < l.length → i + 1 ≤ j → goodAt l j) := by
        apply decide_eq_decide.2
        constructor
        · exact fun h j h1 h2 => h j h1 (by omega)
        · intro h j h1 h2
          by_cases hj : j = i
          · rw [hj]; exact hg
          · exact h j h1 (by omega)
      rw [e]
      obtain ⟨h1, h2, h3⟩ := hg
      refine Ev.step (f := fun k => (windbreakref15_place.f k l (rd l (i : Int))).bind fun t => if t = (i : Int) then windbreakref15_RightIds.l0 k l ((i + 1 : Nat) : Int) else some false) (fun k => ?_) (Ev.bind (ref_place l _ (by omega)) ?_)
      · simp only [windbreakref15_RightIds.l0]
        rw [if_pos (by omega), if_pos (by omega), if_neg (by rw [rd_getD]; omega), if_neg (by rw [rd_getD]; omega), wrap64_small (by omega) (by omega)]
        rfl
      · have : plI l (rd l (i : Int)) = (i : Int) := by unfold plI; rw [rd_getD, h3]
        exact ev_true (c := plI l (rd l (i : Int)) = (i : Int)) this ih (fun k => rfl)
    · rw [decide_eq_false (fun h => hg (h i (by omega) (by omega)))]
      by_cases hr : rd l (i : Int) < 0 ∨ rd l (i : Int) > 1073741824
      · refine Ev.step (fun k => ?_) (Ev.now _)
        simp only [windbreakref15_RightIds.l0]
        rw [if_pos (by omega), if_pos (by omega)]
        rcases hr with h | h
        · rw [if_pos h]
        · rw [if_neg (by omega), if_pos h]
      · refine Ev.step (f := fun k => (windbreakref15_place.f k l (rd l (i : Int))).bind fun t => if t = (i : Int) then windbreakref15_RightIds.l0 k l ((i + 1 : Nat) : Int) else some false) (fun k => ?_) (Ev.bind (ref_place l _ (by omega)) ?_)
        · simp only [windbreakref15_RightIds.l0]
          rw [if_pos (by omega), if_pos (by omega), if_neg (by omega), if_neg (by omega), wrap64_small (by omega) (by omega)]
          rfl
        · have : ¬ plI l (rd l (i : Int)) = (i : Int) := by
            intro h
            apply hg
            rw [rd_getD] at h hr
            refine ⟨by omega, by omega, ?_⟩
            unfold plI at h
            cases hq : fstIx l (l.getD i 0) with
            | none => rw [hq] at h; simp only at h; omega
            | some j => rw [hq] at h; simp only at h; congr 1; omega
          exact ev_false (c := plI l (rd l (i : Int)) = (i : Int)) this (Ev.now _) (fun k => rfl)
theorem ref_ids (l : List Int) : Ev (fun k => windbreakref15_RightIds.f k l) (idsB l) := by
  unfold windbreakref15_RightIds.f
  by_cases h : (l.length : Int) > 256
  · rw [show idsB l = false from decide_eq_false (fun hh => by omega)]
    exact Ev.congr (f := fun _ => some false) (fun k => by rw [if_pos h]) (Ev.now _)
  · have := ids_l0 l (by omega) l.length 0 (by omega)
    have e : idsB l = decide (∀ j, j < l.length → 0 ≤ j → goodAt l j) := by
      apply decide_eq_decide.2
      constructor
      · rintro ⟨h1, h2, h3⟩ j hj _
        have hm : l.getD j 0 ∈ l := by rw [List.getD_eq_getElem?_getD, List.getElem?_eq_getElem hj]; exact List.getElem_mem hj
        exact ⟨(h2 _ hm).1, (h2 _ hm).2, nodup_ix.2 h3 j hj⟩
      · intro hh
        refine ⟨by omega, fun x hx => ?_, nodup_ix.1 (fun j hj => (hh j hj (Nat.zero_le _)).2.2)⟩
        obtain ⟨j, hj, e⟩ := List.getElem_of_mem hx
        have := hh j hj (Nat.zero_le _)
        unfold goodAt at this
        rw [List.getD_eq_getElem?_getD, List.getElem?_eq_getElem hj, Option.getD_some, e] at this
        exact ⟨this.1, this.2.1⟩
    rw [e]
    exact Ev.congr (fun k => by rw [if_neg h]; rfl) this
theorem same_l0 (a : List Int) (hl : a.length ≤ 140737488351232) : ∀ (d i : Nat), i + d = a.length → Ev (fun k => windbreakref12_SameInts.l0 k a a (i : Int)) true
  | 0, i, hi => by
    refine Ev.step (fun k => ?_) (Ev.now _)
    simp only [windbreakref12_SameInts.l0]
    rw [if_neg (by omega)]
  | d + 1, i, hi => by
    refine Ev.step (fun k => ?_) (same_l0 a hl d (i + 1) (by omega))
    simp only [windbreakref12_SameInts.l0]
    rw [if_pos (by omega), if_pos (by omega), if_pos (by omega), if_pos True.intro, wrap64_small (by omega) (by omega)]
    rfl
theorem same_diff (a b : List Int) (hl : a.length ≤ 140737488351232) (he : a.length = b.length) : ∀ (d i : Nat), i + d = a.length → Ev (fun k => windbreakref12_SameInts.l0 k a b (i : Int)) (decide (a.drop i = b.drop i))
  | 0, i, hi => by
    rw [show i = a.length by omega, List.drop_length, he, List.drop_length, decide_eq_true rfl]
    refine Ev.step (fun k => ?_) (Ev.now _)
    simp only [windbreakref12_SameInts.l0]
    rw [if_neg (by omega)]
  | d + 1, i, hi => by
    have ih := same_diff a b hl he d (i + 1) (by omega)
    rw [rd_drop a i (by omega), rd_drop b i (by omega)]
    by_cases h : rd a (i : Int) = rd b (i : Int)
    · rw [show decide (rd a (i : Int) :: a.drop (i + 1) = rd b (i : Int) :: b.drop (i + 1)) = decide (a.drop (i + 1) = b.drop (i + 1)) by
        apply decide_eq_decide.2
        rw [List.cons.injEq]
        exact ⟨fun hh => hh.2, fun hh => ⟨h, hh⟩⟩]
      refine Ev.step (fun k => ?_) ih
      simp only [windbreakref12_SameInts.l0]
      rw [if_pos (by omega), if_pos (by omega), if_pos (by omega), if_pos h, wrap64_small (by omega) (by omega)]
      rfl
    · rw [decide_eq_false (fun hh => h (by injection hh))]
      refine Ev.step (fun k => ?_) (Ev.now _)
      simp only [windbreakref12_SameInts.l0]
      rw [if_pos (by omega), if_pos (by omega), if_pos (by omega), if_neg h]
theorem ref_sameInts (a b : List Int) (hl : a.length ≤ 140737488351232) : Ev (fun k => windbreakref12_SameInts.f k a b) (decide (a = b)) := by
  unfold windbreakref12_SameInts.f
  by_cases h : (a.length : Int) = (b.length : Int)
  · have := same_diff a b hl (by omega) a.length 0 (by omega)
    rw [List.drop_zero, List.drop_zero] at this
    exact Ev.congr (fun k => by rw [if_pos h]; rfl) this
  · rw [decide_eq_false (fun e => h (by rw [e]))]
    exact Ev.congr (f := fun _ => some false) (fun k => by rw [if_neg h]) (Ev.now _)

/-- May this table be? -/
def colB (n b : Int) (c : List Int) : Bool := decide (2 ≤ b ∧ b ≤ 32 ∧ (c.length : Int) = n ∧ ∀ x ∈ c, 0 ≤ x ∧ x < b)
def tabB (ids bins : List Int) (cols : List (List Int)) : Bool :=
  idsB ids && decide (cols.length ≤ 16 ∧ bins.length = cols.length ∧ ∀ i, i < cols.length → colB ids.length (bins.getD i 0) (cols.getD i []) = true)
theorem rdL_getD (l : List (List Int)) (j : Nat) : rd_L1 l (j : Int) = l.getD j [] := by unfold rd_L1; rw [Int.toNat_natCast]
theorem all_drop {c : List Int} {p : Int → Prop} (i : Nat) (hi : i < c.length) : (∀ x ∈ c.drop i, p x) ↔ p (rd c (i : Int)) ∧ ∀ x ∈ c.drop (i + 1), p x := by
  rw [rd_drop c i hi]
  simp
theorem right_l1 (ids bins : List Int) (cols : List (List Int)) (i : Nat) (hi : i < cols.length) (hb : bins.length = cols.length) (hl : ids.length ≤ 256) (hlc : cols.length ≤ 16) (hcl : (cols.getD i []).length = ids.length) (r : Bool)
    (h : Ev (fun k => windbreakref15_Right.l0 k ((i + 1 : Nat) : Int) ids bins cols) r) : ∀ (d j : Nat), j + d = ids.length →
    Ev (fun k => windbreakref15_Right.l1 k (i : Int) (j : Int) ids bins cols) (decide (∀ x ∈ (cols.getD i []).drop j, 0 ≤ x ∧ x < bins.getD i 0) && r)
  | 0, j, hj => by
    rw [List.drop_of_length_le (by omega), decide_eq_true (by simp), Bool.true_and]
    refine Ev.step (fun k => ?_) h
    simp only [windbreakref15_Right.l1]
    rw [if_neg (by omega), wrap64_small (by omega) (by omega)]
    rfl
  | d + 1, j, hj => by
    have ih := right_l1 ids bins cols i hi hb hl hlc hcl r h d (j + 1) (by omega)
    have hc : rd_L1 cols (i : Int) = cols.getD i [] := rdL_getD cols i
    have hbi : rd bins (i : Int) = bins.getD i 0 := rd_getD bins i
    have hsp := all_drop (c := cols.getD i []) (p := fun x => 0 ≤ x ∧ x < bins.getD i 0) j (by omega)
    by_cases hx : 0 ≤ rd (cols.getD i []) (j : Int) ∧ rd (cols.getD i []) (j : Int) < bins.getD i 0
    · have he : (∀ x ∈ (cols.getD i []).drop j, 0 ≤ x ∧ x < bins.getD i 0) ↔ (∀ x ∈ (cols.getD i []).drop (j + 1), 0 ≤ x ∧ x < bins.getD i 0) := hsp.trans ⟨fun q => q.2, fun q => ⟨hx, q⟩⟩
      rw [decide_eq_decide.2 he]
      refine Ev.step (fun k => ?_) ih
      simp only [windbreakref15_Right.l1]
      rw [hc, hbi, if_pos (by omega), if_pos (by omega), if_pos (by omega), if_pos (by omega), if_pos (by omega), if_neg (by omega), if_pos (by omega), if_neg (by omega), wrap64_small (by omega) (by omega)]
      rfl
    · rw [decide_eq_false (fun q => hx (hsp.1 q).1), Bool.false_and]
      refine Ev.step (fun k => ?_) (Ev.now _)
      simp only [windbreakref15_Right.l1]
      rw [hc, hbi, if_pos (by omega), if_pos (by omega), if_pos (by omega), if_pos (by omega), if_pos (by omega)]
      by_cases h0 : rd (cols.getD i []) (j : Int) < 0
      · rw [if_pos h0]
      · rw [if_neg h0, if_pos (by omega), if_pos (by omega)]
theorem right_l0 (ids bins : List Int) (cols : List (List Int)) (hb : bins.length = cols.length) (hl : ids.length ≤ 256) (hlc : cols.length ≤ 16) : ∀ (d i : Nat), i + d = cols.length →
    Ev (fun k => windbreakref15_Right.l0 k (i : Int) ids bins cols) (decide (∀ j, j < cols.length → i ≤ j → colB ids.length (bins.getD j 0) (cols.getD j []) = true))
  | 0, i, hi => by
    rw [decide_eq_true (fun j h1 h2 => by omega)]
    refine Ev.step (fun k => ?_) (Ev.now _)
    simp only [windbreakref15_Right.l0]
    rw [if_neg (by omega)]
  | d + 1, i, hi => by
    have ih := right_l0 ids bins cols hb hl hlc d (i + 1) (by omega)
    have hc : rd_L1 cols (i : Int) = cols.getD i [] := rdL_getD cols i
    have hbi : rd bins (i : Int) = bins.getD i 0 := rd_getD bins i
    have hsplit : decide (∀ j, j < cols.length → i ≤ j → colB ids.length (bins.getD j 0) (cols.getD j []) = true) = (colB ids.length (bins.getD i 0) (cols.getD i []) && decide (∀ j, j < cols.length → i + 1 ≤ j → colB ids.length (bins.getD j 0) (cols.getD j []) = true)) := by
      rw [Bool.eq_iff_iff, Bool.and_eq_true, decide_eq_true_iff, decide_eq_true_iff]
      constructor
      · exact fun h => ⟨h i (by omega) (by omega), fun j h1 h2 => h j h1 (by omega)⟩
      · rintro ⟨h0, h⟩ j h1 h2
        by_cases hj : j = i
        · rw [hj]; exact h0
        · exact h j h1 (by omega)
    rw [hsplit]
    by_cases hbad : bins.getD i 0 < 2 ∨ bins.getD i 0 > 32 ∨ ((cols.getD i []).length : Int) ≠ (ids.length : Int)
    · rw [show colB ids.length (bins.getD i 0) (cols.getD i []) = false from decide_eq_false (fun h => by omega), Bool.false_and]
      refine Ev.step (f := fun k => windbreakref15_Right.j2 k (i : Int) true ids bins cols) (fun k => ?_) (Ev.step (fun k => ?_) (Ev.now _))
      · simp only [windbreakref15_Right.l0]
        rw [hc, hbi, if_pos (by omega), if_pos (by omega), if_pos (by omega)]
        by_cases h1 : bins.getD i 0 < 2
        · rw [if_pos h1]
        · rw [if_neg h1]
          by_cases h2 : bins.getD i 0 > 32
          · rw [if_pos h2]
          · rw [if_neg h2]
            congr 1
            rw [bne_iff_ne]
            omega
      · simp only [windbreakref15_Right.j2]
        rfl
    · have hcl : (cols.getD i []).length = ids.length := by omega
      have h1 := right_l1 ids bins cols i (by omega) hb hl hlc hcl _ ih ids.length 0 (by omega)
      rw [List.drop_zero] at h1
      rw [show colB ids.length (bins.getD i 0) (cols.getD i []) = decide (∀ x ∈ cols.getD i [], 0 ≤ x ∧ x < bins.getD i 0) from decide_eq_decide.2 ⟨fun q => q.2.2.2, fun q => ⟨by omega, by omega, by omega, q⟩⟩]
      refine Ev.step (f := fun k => windbreakref15_Right.j2 k (i : Int) false ids bins cols) (fun k => ?_) (Ev.step (fun k => ?_) h1)
      · simp only [windbreakref15_Right.l0]
        rw [hc, hbi, if_pos (by omega), if_pos (by omega), if_pos (by omega), if_neg (by omega), if_neg (by omega)]
        congr 1
        simp only [bne_eq_false_iff_eq]
        omega
      · simp only [windbreakref15_Right.j2]
        rw [if_neg (by decide)]
        rfl
theorem ref_tab (ids bins : List Int) (cols : List (List Int)) : Ev (fun k => windbreakref15_Right.f k ids bins cols) (tabB ids bins cols) := by
  refine Ev.congr (f := fun k => (windbreakref15_RightIds.f k ids).bind fun t => windbreakref15_Right.j0 k (if t = true then (if (cols.length : Int) > 16 then true else (bins.length : Int) != (cols.length : Int)) else true) ids bins cols) (fun k => ?_) (Ev.bind (ref_ids ids) ?_)
  · unfold windbreakref15_Right.f
    congr 1
    funext t
    cases t
    · rfl
    · rw [if_pos rfl, if_pos rfl]
      split <;> rfl
  · unfold tabB
    cases hid : idsB ids with
    | false =>
      rw [Bool.false_and, if_neg (by decide)]
      refine Ev.step (fun k => ?_) (Ev.now _)
      simp only [windbreakref15_Right.j0]
      rfl
    | true =>
      have hl : ids.length ≤ 256 := (of_decide_eq_true hid).1
      rw [if_pos rfl, Bool.true_and]
      by_cases hbad : (cols.length : Int) > 16 ∨ (bins.length : Int) ≠ (cols.length : Int)
      · rw [decide_eq_false (fun h => by omega)]
        have : (if (cols.length : Int) > 16 then true else (bins.length : Int) != (cols.length : Int)) = true := by
          split
          · rfl
          · rw [bne_iff_ne]; omega
        rw [this]
        refine Ev.step (fun k => ?_) (Ev.now _)
        simp only [windbreakref15_Right.j0]
        rfl
      · have h1 := right_l0 ids bins cols (by omega) hl (by omega) cols.length 0 (by omega)
        have : (if (cols.length : Int) > 16 then true else (bins.length : Int) != (cols.length : Int)) = false := by
          rw [if_neg (by omega)]
          simp only [bne_eq_false_iff_eq]
          omega
        rw [this]
        rw [show decide (cols.length ≤ 16 ∧ bins.length = cols.length ∧ ∀ i, i < cols.length → colB ids.length (bins.getD i 0) (cols.getD i []) = true) = decide (∀ j, j < cols.length → 0 ≤ j → colB ids.length (bins.getD j 0) (cols.getD j []) = true) from
          decide_eq_decide.2 ⟨fun h j h1 _ => h.2.2 j h1, fun h => ⟨by omega, by omega, fun j h1 => h j h1 (Nat.zero_le _)⟩⟩]
        refine Ev.step (fun k => ?_) h1
        simp only [windbreakref15_Right.j0]
        rw [if_neg (by decide)]
        rfl
end Go.Proofs.Ytdlkcohfgfnkbaa.Tp
