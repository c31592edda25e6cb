/- dataset.Align: plain laws. -/
import Derived.Test.YtdlkcohfgfnkbaaIl
namespace Go.Proofs.Ytdlkcohfgfnkbaa.Al
open Go.RowKit Go.Proofs.Ytdlkcohfgfnkbaa.PDatasetJoins Go.Proofs.Ytdlkcohfgfnkbaa.Tp Go.Proofs.Ytdlkcohfgfnkbaa.Tr Go.Proofs.Ytdlkcohfgfnkbaa.Il Go.Proofs.Ytdlkcohfgfnkbaa.Mp Go.Proofs.YtdlkcohfgfnkbaaW.PrintWords Go.Proofs.YtdlkcohfgfnkbaaW.PrintLast Go.Proofs.YtdlkcohfgfnkbaaW.PrintMore
set_option linter.unusedSimpArgs false
set_option linter.unusedVariables false

/-- How many of the first i lists have a number. -/
def cN (l : List (List Int)) : Nat → Int → Nat
  | 0, _ => 0
  | i + 1, x => cN l i x + (if x ∈ l.getD i [] then 1 else 0)
theorem cN_le (l : List (List Int)) (x : Int) : ∀ i, cN l i x ≤ i
  | 0 => Nat.le_refl _
  | i + 1 => by
    have := cN_le l x i
    unfold cN
    split <;> omega
theorem cN_all (l : List (List Int)) (x : Int) : ∀ i, cN l i x = i ↔ ∀ j, j < i → x ∈ l.getD j []
  | 0 => by simp [cN]
  | i + 1 => by
    have h1 := cN_le l x i
    have ih := cN_all l x i
    unfold cN
    constructor
    · intro h j hj
      split at h
      · rename_i hm
        by_cases e : j = i
        · rw [e]; exact hm
        · exact ih.1 (by omega) j (by omega)
      · omega
    · intro h
      rw [if_pos (h i (by omega)), ih.2 (fun j hj => h j (by omega))]
def inB (p : Prop) [Decidable p] : Nat := if p then 1 else 0
/-- What the count's map holds when i lists are counted, and j numbers of the next one. -/
def cF (l : List (List Int)) (i j : Nat) (x : Int) : Nat := cN l i x + (if x ∈ (l.getD i []).take j then 1 else 0)
def gF (l : List (List Int)) (i j : Nat) (x : Int) : Option Value := if cF l i j x = 0 then none else some (.int .i64 (cF l i j x : Int))
theorem gF_get (l : List (List Int)) (i j : Nat) (x : Int) : (gF l i j x).getD (.int .i64 0) = .int .i64 (cF l i j x : Int) := by
  unfold gF
  split
  · rename_i h; rw [h]; rfl
  · rfl
theorem gF_zero (l : List (List Int)) (x : Int) : gF l 0 0 x = none := by
  unfold gF cF
  rw [List.take_zero, if_neg (List.not_mem_nil)]
  rfl
theorem gF_next (l : List (List Int)) (i : Nat) (x : Int) : gF l i (l.getD i []).length x = gF l (i + 1) 0 x := by
  unfold gF
  have : cF l i (l.getD i []).length x = cF l (i + 1) 0 x := by
    unfold cF
    rw [List.take_length, List.take_zero, if_neg (List.not_mem_nil)]
    rfl
  rw [this]
theorem take_next (c : List Int) (j : Nat) (hj : j < c.length) : c.take (j + 1) = c.take j ++ [rd c (j : Int)] := by
  rw [List.take_succ_eq_append_getElem hj, rd_get c j hj]
theorem nodup_next {c : List Int} (h : c.Nodup) (j : Nat) (hj : j < c.length) : rd c (j : Int) ∉ c.take j := by
  have := (List.nodup_append.1 (show (c.take j ++ [rd c (j : Int)]).Nodup by rw [← take_next c j hj]; exact List.Nodup.sublist (List.take_sublist _ _) h)).2.2
  exact fun hm => this _ hm _ (by simp) rfl
theorem cF_at (l : List (List Int)) (i j : Nat) (hn : (l.getD i []).Nodup) (hj : j < (l.getD i []).length) : cF l i j (rd (l.getD i []) (j : Int)) = cN l i (rd (l.getD i []) (j : Int)) := by
  unfold cF
  rw [if_neg (nodup_next hn j hj)]
  rfl
theorem cF_at' (l : List (List Int)) (i j : Nat) (hj : j < (l.getD i []).length) : cF l i (j + 1) (rd (l.getD i []) (j : Int)) = cN l i (rd (l.getD i []) (j : Int)) + 1 := by
  unfold cF
  rw [take_next _ j hj, if_pos (by simp)]
theorem gF_step (l : List (List Int)) (i j : Nat) (hn : (l.getD i []).Nodup) (hj : j < (l.getD i []).length) (x : Int) (hx : x = rd (l.getD i []) (j : Int)) (y : Int) :
    upd (gF l i j) x (some (.int .i64 ((cF l i j x : Int) + 1))) y = gF l i (j + 1) y := by
  by_cases h : y = x
  · rw [h, upd_same]
    unfold gF
    rw [hx, cF_at' l i j hj, cF_at l i j hn hj, if_neg (by omega)]
    rfl
  · rw [upd_other _ _ h]
    unfold gF
    have : cF l i j y = cF l i (j + 1) y := by
      unfold cF
      rw [take_next _ j hj]
      congr 1
      have : (y ∈ (l.getD i []).take j) ↔ (y ∈ (l.getD i []).take j ++ [rd (l.getD i []) (j : Int)]) := by
        rw [List.mem_append, List.mem_singleton, ← hx]
        exact ⟨Or.inl, fun h' => h'.elim id (fun e => absurd e h)⟩
      by_cases hm : y ∈ (l.getD i []).take j
      · rw [if_pos hm, if_pos (this.1 hm)]
      · rw [if_neg hm, if_neg (fun e => hm (this.2 e))]
    rw [this]
/-- What is collected, of a list of which j numbers are looked at. -/
def oF (l : List (List Int)) (i j : Nat) : List Int := ((l.getD i []).take j).filter (fun x => decide (cN l i x + 1 = l.length))
theorem oF_zero (l : List (List Int)) (i : Nat) : oF l i 0 = [] := by unfold oF; rw [List.take_zero]; rfl
theorem oF_early (l : List (List Int)) (i j : Nat) (h : i + 1 < l.length) : oF l i j = [] := by
  unfold oF
  rw [List.filter_eq_nil_iff]
  intro x _
  have := cN_le l x i
  simp only [decide_eq_true_eq]
  omega
theorem oF_step (l : List (List Int)) (i j : Nat) (hj : j < (l.getD i []).length) : oF l i (j + 1) = if cN l i (rd (l.getD i []) (j : Int)) + 1 = l.length then oF l i j ++ [rd (l.getD i []) (j : Int)] else oF l i j := by
  unfold oF
  rw [take_next _ j hj, List.filter_append]
  by_cases h : cN l i (rd (l.getD i []) (j : Int)) + 1 = l.length
  · rw [if_pos h, List.filter_cons_of_pos (by simpa only [decide_eq_true_eq] using h)]; rfl
  · rw [if_neg h, List.filter_cons_of_neg (by simpa only [decide_eq_true_eq] using h)]; simp
theorem oF_len (l : List (List Int)) (i j : Nat) : (oF l i j).length ≤ (l.getD i []).length := by
  unfold oF
  refine Nat.le_trans (List.length_filter_le _ _) ?_
  rw [List.length_take]
  omega
def srt (l : List Int) : List Int := l.mergeSort (fun x y => decide (x ≤ y))
/-- What Align answers. -/
def alignP (l : List (List Int)) : List Int × Int := if manyL l = 0 then (srt (oF l (l.length - 1) (l.getD (l.length - 1) []).length), 0) else ([], manyL l)
theorem many_zero {l : List (List Int)} (h : manyL l = 0) : 0 < l.length ∧ l.length ≤ 16 ∧ ∀ x ∈ l, idsB x = true := by
  unfold manyL at h
  split at h
  · cases h
  · rename_i h1
    split at h
    · cases h
    · rename_i h2
      refine ⟨by omega, by omega, fun x hx => ?_⟩
      cases hi : idsB x with
      | true => rfl
      | false => exact absurd (List.any_eq_true.2 ⟨x, hx, by simp [hi]⟩) h2
theorem ids_facts {l : List Int} (h : idsB l = true) : l.length ≤ 256 ∧ (∀ x ∈ l, 0 ≤ x ∧ x ≤ 1073741824) ∧ l.Nodup := of_decide_eq_true h
end Go.Proofs.Ytdlkcohfgfnkbaa.Al
