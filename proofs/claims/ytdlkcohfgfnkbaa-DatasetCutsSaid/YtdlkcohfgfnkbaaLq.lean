/- dataset.Left: what it answers, in plain words. -/
import Derived.Test.YtdlkcohfgfnkbaaTp
import Derived.Test.YtdlkcohfgfnkbaaBp
namespace Go.Proofs.Ytdlkcohfgfnkbaa.Lp
open Go.RowKit Go.Proofs.Ytdlkcohfgfnkbaa.PDatasetJoins Go.Proofs.Ytdlkcohfgfnkbaa.DFns Go.Proofs.Ytdlkcohfgfnkbaa.Tp Go.Proofs.YtdlkcohfgfnkbaaW.PrintWords Go.Proofs.YtdlkcohfgfnkbaaW.PrintLast Go.Proofs.YtdlkcohfgfnkbaaW.PrintMore
set_option linter.unusedSimpArgs false
set_option linter.unusedVariables false

/-- The places, among the first i, of a column's bins at most a cut. -/
def leL (c : List Int) (cut : Int) : Nat → List Int
  | 0 => []
  | i + 1 => leL c cut i ++ (if rd c (i : Int) ≤ cut then [(i : Int)] else [])
theorem leL_succ (c : List Int) (cut : Int) (i : Nat) : leL c cut (i + 1) = leL c cut i ++ (if rd c (i : Int) ≤ cut then [(i : Int)] else []) := rfl
theorem leL_len (c : List Int) (cut : Int) : ∀ i, (leL c cut i).length ≤ i
  | 0 => Nat.le_refl _
  | i + 1 => by
    have := leL_len c cut i
    unfold leL
    rw [List.length_append]
    split
    · rw [List.length_singleton]; omega
    · rw [List.length_nil]; omega
def wrongB (bins : List Int) (cols : List (List Int)) (m cut : Int) : Prop := m < 0 ∨ m ≥ (cols.length : Int) ∨ cut < 0 ∨ cut ≥ rd bins m
instance (bins : List Int) (cols : List (List Int)) (m cut : Int) : Decidable (wrongB bins cols m cut) := by unfold wrongB; infer_instance
/-- What Left answers. -/
def leftP (ids bins : List Int) (cols : List (List Int)) (m cut : Int) : Int × List Int × Int :=
  if tabB ids bins cols = true then (if wrongB bins cols m cut then (0, [], 1) else Bp.ofS (ids.length : Int) (leL (rd_L1 cols m) cut ids.length)) else (0, [], 20)
theorem tabF {ids bins : List Int} {cols : List (List Int)} (h : tabB ids bins cols = true) : idsB ids = true ∧ cols.length ≤ 16 ∧ bins.length = cols.length ∧ ∀ i, i < cols.length → colB ids.length (bins.getD i 0) (cols.getD i []) = true := by
  unfold tabB at h
  rw [Bool.and_eq_true] at h
  exact ⟨h.1, of_decide_eq_true h.2⟩
theorem idsF {l : List Int} (h : idsB l = true) : l.length ≤ 256 ∧ (∀ x ∈ l, 0 ≤ x ∧ x ≤ 1073741824) ∧ l.Nodup := of_decide_eq_true h
theorem colF {ids bins : List Int} {cols : List (List Int)} (h : tabB ids bins cols = true) (m : Nat) (hm : m < cols.length) : (cols.getD m []).length = ids.length := by
  have := (of_decide_eq_true ((tabF h).2.2.2 m hm)).2.2.1
  omega
end Go.Proofs.Ytdlkcohfgfnkbaa.Lp
