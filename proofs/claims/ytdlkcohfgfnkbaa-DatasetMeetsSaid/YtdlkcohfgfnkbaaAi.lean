/- The document's Align: what it answers: numbers put in one by one; it is what the program answers. -/
import Derived.Test.YtdlkcohfgfnkbaaAl
namespace Go.Proofs.Ytdlkcohfgfnkbaa.Ai
open Go.RowKit Go.Proofs.Ytdlkcohfgfnkbaa.PDatasetJoins Go.Proofs.Ytdlkcohfgfnkbaa.Tp Go.Proofs.Ytdlkcohfgfnkbaa.Il Go.Proofs.Ytdlkcohfgfnkbaa.Al Go.Proofs.YtdlkcohfgfnkbaaW.PrintWords
set_option linter.unusedSimpArgs false
set_option linter.unusedVariables false

def insI (x : Int) (o : List Int) : List Int := o.takeWhile (fun y => decide (y < x)) ++ x :: o.dropWhile (fun y => decide (y < x))
theorem insI_perm (x : Int) (o : List Int) : (insI x o).Perm (x :: o) := by
  unfold insI
  refine List.perm_middle.trans ?_
  rw [List.takeWhile_append_dropWhile]
theorem drop_ge {x : Int} : ∀ {o : List Int}, o.Pairwise (· ≤ ·) → ∀ y ∈ o.dropWhile (fun y => decide (y < x)), x ≤ y
  | [], _, y, h => by cases h
  | z :: o, hp, y, h => by
    obtain ⟨h1, h2⟩ := List.pairwise_cons.1 hp
    rw [List.dropWhile_cons] at h
    split at h
    · exact drop_ge h2 y h
    · rename_i hz
      have hz' : ¬ z < x := by simpa using hz
      rcases List.mem_cons.1 h with rfl | h
      · omega
      · have := h1 y h; omega
theorem take_lt {x : Int} : ∀ {o : List Int} (y : Int), y ∈ o.takeWhile (fun y => decide (y < x)) → y < x
  | [], y, h => by cases h
  | z :: o, y, h => by
    rw [List.takeWhile_cons] at h
    split at h
    · rename_i hz
      rcases List.mem_cons.1 h with rfl | h
      · simpa using hz
      · exact take_lt y h
    · cases h
theorem insI_sorted {x : Int} {o : List Int} (h : o.Pairwise (· ≤ ·)) : (insI x o).Pairwise (· ≤ ·) := by
  unfold insI
  rw [List.pairwise_append]
  have h' : (o.takeWhile (fun y => decide (y < x)) ++ o.dropWhile (fun y => decide (y < x))).Pairwise (· ≤ ·) := by rw [List.takeWhile_append_dropWhile]; exact h
  obtain ⟨h1, h2, h3⟩ := List.pairwise_append.1 h'
  refine ⟨h1, List.pairwise_cons.2 ⟨drop_ge h, h2⟩, fun a ha b hb => ?_⟩
  rcases List.mem_cons.1 hb with rfl | hb
  · have := take_lt a ha; omega
  · exact h3 a ha b hb
/-- Is a number in all lists but the first? -/
def keep (l : List (List Int)) (x : Int) : Bool := (l.drop 1).all (fun c => decide (x ∈ c))
def outR (l : List (List Int)) : Nat → List Int
  | 0 => []
  | i + 1 => if keep l (rd (l.getD 0 []) (i : Int)) = true then insI (rd (l.getD 0 []) (i : Int)) (outR l i) else outR l i
theorem outR_sorted (l : List (List Int)) : ∀ i, (outR l i).Pairwise (· ≤ ·)
  | 0 => List.Pairwise.nil
  | i + 1 => by
    unfold outR
    split
    · exact insI_sorted (outR_sorted l i)
    · exact outR_sorted l i
theorem outR_perm (l : List (List Int)) : ∀ i, i ≤ (l.getD 0 []).length → (outR l i).Perm (((l.getD 0 []).take i).filter (keep l))
  | 0, _ => List.Perm.nil
  | i + 1, h => by
    have ih := outR_perm l i (by omega)
    unfold outR
    rw [List.take_succ_eq_append_getElem (show i < (l.getD 0 []).length by omega), ← rd_get _ i (by omega), List.filter_append]
    split
    · rename_i hk
      rw [List.filter_cons_of_pos hk, List.filter_nil]
      refine (insI_perm _ _).trans ?_
      refine (List.Perm.cons _ ih).trans ?_
      exact (List.perm_append_singleton _ _).symm
    · rename_i hk
      rw [List.filter_cons_of_neg hk, List.filter_nil, List.append_nil]
      exact ih
theorem outR_len (l : List (List Int)) (i : Nat) (h : i ≤ (l.getD 0 []).length) : (outR l i).length ≤ i := by
  rw [(outR_perm l i h).length_eq]
  refine Nat.le_trans (List.length_filter_le _ _) ?_
  rw [List.length_take]
  omega
theorem getD_mem (l : List (List Int)) (i : Nat) (h : i < l.length) : l.getD i [] ∈ l := by
  rw [List.getD_eq_getElem?_getD, List.getElem?_eq_getElem h, Option.getD_some]
  exact List.getElem_mem _
theorem mem_all (l : List (List Int)) (x : Int) : (∀ c ∈ l, x ∈ c) ↔ ∀ j, j < l.length → x ∈ l.getD j [] := by
  constructor
  · exact fun h j hj => h _ (getD_mem l j hj)
  · intro h c hc
    obtain ⟨j, hj, rfl⟩ := List.getElem_of_mem hc
    have := h j hj
    rw [List.getD_eq_getElem?_getD, List.getElem?_eq_getElem hj, Option.getD_some] at this
    exact this
/-- The numbers of all lists, once by what the program collects, once by what the document keeps. -/
theorem oF_mem (l : List (List Int)) (h : 0 < l.length) (x : Int) : x ∈ oF l (l.length - 1) (l.getD (l.length - 1) []).length ↔ ∀ c ∈ l, x ∈ c := by
  unfold oF
  rw [List.take_length, List.mem_filter, mem_all]
  have hc := cN_all l x (l.length - 1)
  constructor
  · rintro ⟨h1, h2⟩ j hj
    simp only [decide_eq_true_eq] at h2
    by_cases e : j = l.length - 1
    · rw [e]; exact h1
    · exact hc.1 (by omega) j (by omega)
  · intro hj
    refine ⟨hj _ (by omega), ?_⟩
    simp only [decide_eq_true_eq]
    have := hc.2 (fun j hj' => hj j (by omega))
    omega
theorem keep_mem (l : List (List Int)) (h : 0 < l.length) (x : Int) : x ∈ (l.getD 0 []).filter (keep l) ↔ ∀ c ∈ l, x ∈ c := by
  match l, h with
  | c0 :: r, _ =>
    rw [List.mem_filter]
    unfold keep
    simp only [List.drop_succ_cons, List.drop_zero, List.all_eq_true, decide_eq_true_eq, List.mem_cons, forall_eq_or_imp, List.getD_cons_zero]
theorem align_eq (l : List (List Int)) (h : 0 < l.length) (hi : ∀ x ∈ l, idsB x = true) : srt (oF l (l.length - 1) (l.getD (l.length - 1) []).length) = outR l (l.getD 0 []).length := by
  have hn : ∀ j, j < l.length → (l.getD j []).Nodup := fun j hj => (ids_facts (hi _ (getD_mem l j hj))).2.2
  have p1 : (srt (oF l (l.length - 1) (l.getD (l.length - 1) []).length)).Perm (oF l (l.length - 1) (l.getD (l.length - 1) []).length) := List.mergeSort_perm _ _
  have p2 := outR_perm l (l.getD 0 []).length (Nat.le_refl _)
  rw [List.take_length] at p2
  have n1 : (oF l (l.length - 1) (l.getD (l.length - 1) []).length).Nodup := by
    unfold oF
    rw [List.take_length]
    exact List.Nodup.sublist List.filter_sublist (hn _ (by omega))
  have n2 : ((l.getD 0 []).filter (keep l)).Nodup := List.Nodup.sublist List.filter_sublist (hn _ h)
  have p3 : (oF l (l.length - 1) (l.getD (l.length - 1) []).length).Perm ((l.getD 0 []).filter (keep l)) := (List.perm_ext_iff_of_nodup n1 n2).2 (fun x => by rw [oF_mem l h, keep_mem l h])
  refine List.Perm.eq_of_pairwise (le := fun a b => a ≤ b) (fun a b _ _ h1 h2 => Int.le_antisymm h1 h2) ?_ (outR_sorted l _) (p1.trans (p3.trans p2.symm))
  have := List.pairwise_mergeSort (le := fun x y : Int => decide (x ≤ y)) (fun a b c h1 h2 => by simp only [decide_eq_true_eq] at h1 h2 ⊢; omega) (fun a b => by simp only [Bool.or_eq_true, decide_eq_true_eq]; omega) (oF l (l.length - 1) (l.getD (l.length - 1) []).length)
  exact this.imp (fun h => by simpa using h)
/-- Where a number is put in. -/
def posI (x : Int) (o : List Int) : Nat := (o.takeWhile (fun y => decide (y < x))).length
theorem insI_at (x : Int) (o : List Int) : insI x o = o.take (posI x o) ++ (x :: o.drop (posI x o)) := by
  unfold insI posI
  have e := List.takeWhile_append_dropWhile (p := fun y => decide (y < x)) (l := o)
  generalize o.takeWhile (fun y => decide (y < x)) = a at e ⊢
  generalize o.dropWhile (fun y => decide (y < x)) = b at e ⊢
  subst e
  rw [List.take_left, List.drop_left]
theorem posI_le (x : Int) (o : List Int) : posI x o ≤ o.length := by
  unfold posI
  exact (List.takeWhile_sublist _).length_le
/-- The search for the place: so far all are less. -/
theorem posI_ge (x : Int) : ∀ (o : List Int) (i : Nat), i ≤ o.length → (∀ j, j < i → rd o (j : Int) < x) → i ≤ posI x o
  | [], i, h, _ => by simp at h; omega
  | y :: o, 0, _, _ => Nat.zero_le _
  | y :: o, i + 1, h, hj => by
    have h0 : y < x := hj 0 (by omega)
    have := posI_ge x o i (by simpa using h) (fun j hjj => by
      have := hj (j + 1) (by omega)
      unfold rd at this ⊢
      rw [Int.toNat_natCast] at this ⊢
      simpa using this)
    unfold posI at this ⊢
    rw [List.takeWhile_cons, if_pos (decide_eq_true h0)]
    simpa using this
theorem posI_stop (x : Int) : ∀ (o : List Int) (i : Nat), i ≤ posI x o → (i < o.length → ¬ rd o (i : Int) < x) → posI x o = i
  | [], i, h, _ => by have := posI_le x []; simp at this; omega
  | y :: o, 0, h, hs => by
    have h0 : ¬ y < x := hs (by simp)
    unfold posI
    rw [List.takeWhile_cons, if_neg (by simpa using h0)]
    rfl
  | y :: o, i + 1, h, hs => by
    unfold posI at h ⊢
    rw [List.takeWhile_cons] at h ⊢
    split at h
    · rename_i hy
      rw [if_pos hy]
      have := posI_stop x o i (by simpa [posI] using h) (fun hl => by
        have := hs (by simpa using hl)
        unfold rd at this ⊢
        rw [Int.toNat_natCast] at this ⊢
        simpa using this)
      unfold posI at this
      simpa using this
    · simp at h
end Go.Proofs.Ytdlkcohfgfnkbaa.Ai
