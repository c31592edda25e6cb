/- dataset.Left: the plain law. -/
import Derived.Test.YtdlkcohfgfnkbaaDFl
import Derived.Test.YtdlkcohfgfnkbaaTp
import Derived.Test.YtdlkcohfgfnkbaaBp
namespace Go.Proofs.Ytdlkcohfgfnkbaa.Lp
open Go.RowKit Go.Proofs.Ytdlkcohfgfnkbaa.PDatasetJoins Go.Proofs.Ytdlkcohfgfnkbaa.DFns Go.Proofs.Ytdlkcohfgfnkbaa.Tp Go.Proofs.YtdlkcohfgfnkbaaW.PrintWords Go.Proofs.YtdlkcohfgfnkbaaW.PrintLast Go.Proofs.YtdlkcohfgfnkbaaW.PrintMore
set_option linter.unusedSimpArgs false
set_option linter.unusedVariables false

/-- The places, among the first i, of a column's bins at most a cut. -/
def leL (c : List Int) (cut : Int) : Nat → List Int
  | 0 => []
  | i + 1 => leL c cut i ++ (if rd c (i : Int) ≤ cut then [(i : Int)] else [])
theorem leL_succ (c : List Int) (cut : Int) (i : Nat) : leL c cut (i + 1) = leL c cut i ++ (if rd c (i : Int) ≤ cut then [(i : Int)] else []) := rfl
theorem leL_len (c : List Int) (cut : Int) : ∀ i, (leL c cut i).length ≤ i
  | 0 => Nat.le_refl _
  | i + 1 => by
    have := leL_len c cut i
    unfold leL
    rw [List.length_append]
    split
    · rw [List.length_singleton]; omega
    · rw [List.length_nil]; omega
def wrongB (bins : List Int) (cols : List (List Int)) (m cut : Int) : Prop := m < 0 ∨ m ≥ (cols.length : Int) ∨ cut < 0 ∨ cut ≥ rd bins m
instance (bins : List Int) (cols : List (List Int)) (m cut : Int) : Decidable (wrongB bins cols m cut) := by unfold wrongB; infer_instance
/-- What Left answers. -/
def leftP (ids bins : List Int) (cols : List (List Int)) (m cut : Int) : Int × List Int × Int :=
  if tabB ids bins cols = true then (if wrongB bins cols m cut then (0, [], 1) else Bp.ofS (ids.length : Int) (leL (rd_L1 cols m) cut ids.length)) else (0, [], 20)
theorem tabF {ids bins : List Int} {cols : List (List Int)} (h : tabB ids bins cols = true) : idsB ids = true ∧ cols.length ≤ 16 ∧ bins.length = cols.length ∧ ∀ i, i < cols.length → colB ids.length (bins.getD i 0) (cols.getD i []) = true := by
  unfold tabB at h
  rw [Bool.and_eq_true] at h
  exact ⟨h.1, of_decide_eq_true h.2⟩
theorem idsF {l : List Int} (h : idsB l = true) : l.length ≤ 256 ∧ (∀ x ∈ l, 0 ≤ x ∧ x ≤ 1073741824) ∧ l.Nodup := of_decide_eq_true h
theorem colF {ids bins : List Int} {cols : List (List Int)} (h : tabB ids bins cols = true) (m : Nat) (hm : m < cols.length) : (cols.getD m []).length = ids.length := by
  have := (of_decide_eq_true ((tabF h).2.2.2 m hm)).2.2.1
  omega
theorem left_l0 (ids bins : List Int) (cols : List (List Int)) (m : Nat) (cut : Int) (hm : m < cols.length) (ht : tabB ids bins cols = true) : ∀ (d i : Nat), i + d = ids.length →
    Ev (fun k => windbreakref15_Left.l0 k (m : Int) cut (leL (cols.getD m []) cut i) (i : Int) ids bins cols) (Bp.ofS (ids.length : Int) (leL (cols.getD m []) cut ids.length))
  | 0, i, hi => by
    have h256 := (idsF (tabF ht).1).1
    have hl := leL_len (cols.getD m []) cut i
    obtain rfl : i = ids.length := by omega
    refine Ev.step (fun k => ?_) (Bp.ref_of (ids.length : Int) (leL (cols.getD m []) cut ids.length) (by omega))
    simp only [windbreakref15_Left.l0]
    rw [if_neg (by omega)]
    cases PBitsetJoins.windbreakref14_Of.f k (ids.length : Int) (leL (cols.getD m []) cut ids.length) with
    | none => rfl
    | some p => rfl
  | d + 1, i, hi => by
    have ih := left_l0 ids bins cols m cut hm ht d (i + 1) (by omega)
    have h256 := (idsF (tabF ht).1).1
    have hl := leL_len (cols.getD m []) cut i
    have hc := colF ht m hm
    rw [leL_succ] at ih
    by_cases h : rd (cols.getD m []) (i : Int) ≤ cut
    · rw [if_pos h] at ih
      refine Ev.step (fun k => ?_) ih
      simp only [windbreakref15_Left.l0]
      rw [rdL_getD, if_pos (by omega), if_pos (by omega), if_pos (by omega), if_pos (by omega), if_pos (by omega), if_pos h, if_pos (by omega), wrap64_small (by omega) (by omega)]
      rfl
    · rw [if_neg h, List.append_nil] at ih
      refine Ev.step (fun k => ?_) ih
      simp only [windbreakref15_Left.l0]
      rw [rdL_getD, if_pos (by omega), if_pos (by omega), if_pos (by omega), if_pos (by omega), if_pos (by omega), if_neg h, wrap64_small (by omega) (by omega)]
      rfl
theorem ref_left (ids bins : List Int) (cols : List (List Int)) (m cut : Int) : Ev (fun k => windbreakref15_Left.f k ids bins cols m cut) (leftP ids bins cols m cut) := by
  unfold windbreakref15_Left.f
  refine Ev.bind (ref_tab ids bins cols) ?_
  unfold leftP
  by_cases ht : tabB ids bins cols = true
  · rw [if_pos ht]
    have hbl := (tabF ht).2.2.1
    by_cases h1 : m < 0
    · rw [if_pos (show wrongB bins cols m cut from Or.inl h1)]
      refine Ev.congr (fun k => by rw [if_pos ht, if_pos h1]) (Ev.step (fun k => ?_) (Ev.now _))
      simp only [windbreakref15_Left.j0]
      rfl
    · by_cases h2 : m ≥ (cols.length : Int)
      · rw [if_pos (show wrongB bins cols m cut from Or.inr (Or.inl h2))]
        refine Ev.congr (fun k => by rw [if_pos ht, if_neg h1, if_pos h2]) (Ev.step (fun k => ?_) (Ev.now _))
        simp only [windbreakref15_Left.j0]
        rfl
      · by_cases h3 : cut < 0
        · rw [if_pos (show wrongB bins cols m cut from Or.inr (Or.inr (Or.inl h3)))]
          refine Ev.congr (fun k => by rw [if_pos ht, if_neg h1, if_neg h2, if_pos h3]) (Ev.step (fun k => ?_) (Ev.now _))
          simp only [windbreakref15_Left.j0]
          rfl
        · by_cases h4 : cut ≥ rd bins m
          · rw [if_pos (show wrongB bins cols m cut from Or.inr (Or.inr (Or.inr h4)))]
            refine Ev.congr (fun k => by rw [if_pos ht, if_neg h1, if_neg h2, if_neg h3, if_pos (by omega), if_pos (by omega), decide_eq_true h4]) (Ev.step (fun k => ?_) (Ev.now _))
            simp only [windbreakref15_Left.j0]
            rfl
          · rw [if_neg (show ¬ wrongB bins cols m cut from fun h => by rcases h with h | h | h | h <;> contradiction)]
            obtain ⟨n, rfl⟩ := Int.eq_ofNat_of_zero_le (show 0 ≤ m by omega)
            have h0 := left_l0 ids bins cols n cut (by omega) ht ids.length 0 (by omega)
            rw [rdL_getD]
            refine Ev.congr (fun k => by rw [if_pos ht, if_neg h1, if_neg h2, if_neg h3, if_pos (by omega), if_pos (by omega), decide_eq_false h4]) (Ev.step (fun k => ?_) h0)
            simp only [windbreakref15_Left.j0]
            rw [if_neg (by decide)]
            rfl
  · rw [if_neg ht]
    exact Ev.congr (fun k => by rw [if_neg ht]) (Ev.now _)
end Go.Proofs.Ytdlkcohfgfnkbaa.Lp
