/- dataset.Take: what it answers. -/
import Derived.Test.YtdlkcohfgfnkbaaTp
namespace Go.Proofs.Ytdlkcohfgfnkbaa.Tq
open Go.RowKit Go.Proofs.Ytdlkcohfgfnkbaa.PDatasetJoins Go.Proofs.Ytdlkcohfgfnkbaa.DFns Go.Proofs.Ytdlkcohfgfnkbaa.Tp Go.Proofs.YtdlkcohfgfnkbaaW.PrintWords Go.Proofs.YtdlkcohfgfnkbaaW.PrintLast Go.Proofs.YtdlkcohfgfnkbaaW.PrintMore
set_option linter.unusedSimpArgs false
set_option linter.unusedVariables false

/-- A column's rows at the ids xs. -/
def colT (ids xs c : List Int) : List Int := xs.map fun x => rd c (plI ids x)
def takeOk (ids bins : List Int) (cols : List (List Int)) (xs : List Int) : Prop := tabB ids bins cols = true ∧ idsB xs = true ∧ ∀ x ∈ xs, x ∈ ids
instance (ids bins : List Int) (cols : List (List Int)) (xs : List Int) : Decidable (takeOk ids bins cols xs) := by unfold takeOk; infer_instance
/-- What Take answers. -/
def takeP (ids bins : List Int) (cols : List (List Int)) (xs : List Int) : List Int × List Int × List (List Int) × Int :=
  if takeOk ids bins cols xs then (xs, bins, cols.map (colT ids xs), 0) else ([], [], [], 20)
theorem pl_at {l : List Int} {x : Int} (h : x ∈ l) : ∃ j : Nat, j < l.length ∧ fstIx l x = some j ∧ plI l x = (j : Int) := by
  cases hf : fstIx l x with
  | none => exact absurd h (fstIx_none.1 hf)
  | some j => exact ⟨j, (fstIx_some hf).1, rfl, by unfold plI; rw [hf]⟩
theorem pl_none {l : List Int} {x : Int} (h : x ∉ l) : plI l x = -1 := by unfold plI; rw [fstIx_none.2 h]
theorem ids_facts {l : List Int} (h : idsB l = true) : l.length ≤ 256 ∧ (∀ x ∈ l, 0 ≤ x ∧ x ≤ 1073741824) ∧ l.Nodup := of_decide_eq_true h
theorem tab_facts {ids bins : List Int} {cols : List (List Int)} (h : tabB ids bins cols = true) : idsB ids = true ∧ cols.length ≤ 16 ∧ bins.length = cols.length ∧ ∀ i, i < cols.length → colB ids.length (bins.getD i 0) (cols.getD i []) = true := by
  unfold tabB at h
  rw [Bool.and_eq_true] at h
  exact ⟨h.1, of_decide_eq_true h.2⟩
theorem col_len {ids bins : List Int} {cols : List (List Int)} (h : tabB ids bins cols = true) (m : Nat) (hm : m < cols.length) : (cols.getD m []).length = ids.length := by
  have := (of_decide_eq_true ((tab_facts h).2.2.2 m hm)).2.2.1
  omega
theorem take_snoc {α : Type} (l : List α) (i : Nat) (h : i < l.length) : l.take (i + 1) = l.take i ++ [l[i]] := List.take_succ_eq_append_getElem h
theorem map_take_snoc (ids xs c : List Int) (i : Nat) (h : i < xs.length) : (colT ids xs c).take (i + 1) = (colT ids xs c).take i ++ [rd c (plI ids (rd xs (i : Int)))] := by
  rw [take_snoc _ i (by unfold colT; rw [List.length_map]; exact h)]
  congr 2
  unfold colT
  rw [List.getElem_map, rd_get xs i h]
end Go.Proofs.Ytdlkcohfgfnkbaa.Tq
