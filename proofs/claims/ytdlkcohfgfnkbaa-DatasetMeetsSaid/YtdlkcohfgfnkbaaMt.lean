/- DatasetMeets: the plain law: what tables have in common may be taken of each, and joined; taken by its own ids, a table is itself. -/
import Derived.Test.YtdlkcohfgfnkbaaTq
import Derived.Test.YtdlkcohfgfnkbaaJp
import Derived.Test.YtdlkcohfgfnkbaaAi
namespace Go.Proofs.Ytdlkcohfgfnkbaa.Mt
open Go.RowKit Go.Proofs.Ytdlkcohfgfnkbaa.PDatasetJoins Go.Proofs.Ytdlkcohfgfnkbaa.DFns Go.Proofs.Ytdlkcohfgfnkbaa.Tp Go.Proofs.Ytdlkcohfgfnkbaa.Tq Go.Proofs.Ytdlkcohfgfnkbaa.Jp Go.Proofs.Ytdlkcohfgfnkbaa.Al Go.Proofs.Ytdlkcohfgfnkbaa.Il Go.Proofs.YtdlkcohfgfnkbaaW.PrintWords
set_option linter.unusedSimpArgs false
set_option linter.unusedVariables false

theorem many_ids {l : List (List Int)} (h0 : 0 < l.length) (h16 : l.length ≤ 16) (h : ∀ x ∈ l, idsB x = true) : manyL l = 0 := by
  unfold manyL
  rw [if_neg (by omega), if_neg ?_]
  intro hb
  rw [List.any_eq_true] at hb
  obtain ⟨x, hx, hb⟩ := hb
  rw [h x hx] at hb
  cases hb
/-- What lists have in common. -/
def common (l : List (List Int)) : List Int := Ai.outR l (l.getD 0 []).length
theorem common_mem {l : List (List Int)} (h0 : 0 < l.length) (x : Int) : x ∈ common l ↔ ∀ c ∈ l, x ∈ c := by
  unfold common
  rw [(Ai.outR_perm l _ (Nat.le_refl _)).mem_iff, List.take_length, Ai.keep_mem l h0]
theorem common_nodup {l : List (List Int)} (h0 : 0 < l.length) (hi : ∀ x ∈ l, idsB x = true) : (common l).Nodup := by
  unfold common
  rw [(Ai.outR_perm l _ (Nat.le_refl _)).nodup_iff, List.take_length]
  exact List.Nodup.sublist List.filter_sublist (Al.ids_facts (hi _ (Ai.getD_mem l 0 h0))).2.2
theorem common_ids {l : List (List Int)} (h0 : 0 < l.length) (hi : ∀ x ∈ l, idsB x = true) : idsB (common l) = true := by
  have h1 := Al.ids_facts (hi _ (Ai.getD_mem l 0 h0))
  refine decide_eq_true ⟨Nat.le_trans (Ai.outR_len l _ (Nat.le_refl _)) h1.1, fun x hx => ?_, common_nodup h0 hi⟩
  exact h1.2.1 x ((common_mem h0 x).1 hx _ (Ai.getD_mem l 0 h0))
theorem align_common {l : List (List Int)} (h0 : 0 < l.length) (h16 : l.length ≤ 16) (hi : ∀ x ∈ l, idsB x = true) : alignP l = (common l, 0) := by
  unfold alignP
  rw [if_pos (many_ids h0 h16 hi), Ai.align_eq l h0 hi]
  rfl
theorem tab_of {l : List S43} (h : ∀ x ∈ l, tabB x.f0 x.f1 x.f2 = true) : ∀ c ∈ l.map (·.f0), idsB c = true := by
  intro c hc
  obtain ⟨x, hx, rfl⟩ := List.mem_map.1 hc
  exact (Tq.tab_facts (h x hx)).1
theorem take_of {ids bins : List Int} {cols : List (List Int)} {xs : List Int} (ht : tabB ids bins cols = true) (hx : idsB xs = true) (ha : ∀ x ∈ xs, x ∈ ids) : takeP ids bins cols xs = (xs, bins, cols.map (colT ids xs), 0) := if_pos ⟨ht, hx, ha⟩
theorem pl_own {l : List Int} (h : l.Nodup) (j : Nat) (hj : j < l.length) : plI l (rd l (j : Int)) = (j : Int) := by
  unfold plI
  rw [rd_getD, (nodup_ix.2 h) j hj]
theorem col_own {ids c : List Int} (h : ids.Nodup) (hl : c.length = ids.length) : colT ids ids c = c := by
  unfold colT
  refine List.ext_getElem (by rw [List.length_map, hl]) (fun j h1 h2 => ?_)
  rw [List.getElem_map, ← rd_get ids j (by omega), pl_own h j (by omega), rd_get c j h2]
theorem cols_at {cols : List (List Int)} {p : List Int → Prop} (h : ∀ i, i < cols.length → p (cols.getD i [])) : ∀ c ∈ cols, p c := by
  intro c hc
  obtain ⟨i, hi, rfl⟩ := List.getElem_of_mem hc
  have := h i hi
  rw [List.getD_eq_getElem?_getD, List.getElem?_eq_getElem hi, Option.getD_some] at this
  exact this
theorem take_own {ids bins : List Int} {cols : List (List Int)} (ht : tabB ids bins cols = true) : takeP ids bins cols ids = (ids, bins, cols, 0) := by
  rw [take_of ht (Tq.tab_facts ht).1 (fun _ h => h)]
  have hn := (Tq.ids_facts (Tq.tab_facts ht).1).2.2
  have : cols.map (colT ids ids) = cols := by
    refine List.ext_getElem (List.length_map _) (fun j h1 h2 => ?_)
    rw [List.getElem_map]
    refine col_own hn ?_
    have := Tq.col_len ht j h2
    rw [List.getD_eq_getElem?_getD, List.getElem?_eq_getElem h2, Option.getD_some] at this
    exact this
  rw [this]
theorem tab_taken {ids bins : List Int} {cols : List (List Int)} {xs : List Int} (ht : tabB ids bins cols = true) (hx : idsB xs = true) (ha : ∀ x ∈ xs, x ∈ ids) : tabB xs bins (cols.map (colT ids xs)) = true := by
  obtain ⟨h1, h2, h3, h4⟩ := Tq.tab_facts ht
  unfold tabB
  rw [hx, Bool.true_and]
  refine decide_eq_true ⟨by rw [List.length_map]; exact h2, by rw [List.length_map]; exact h3, fun i hi => ?_⟩
  rw [List.length_map] at hi
  have hc := of_decide_eq_true (h4 i hi)
  have hl := Tq.col_len ht i hi
  have e : (cols.map (colT ids xs)).getD i [] = colT ids xs (cols.getD i []) := by
    rw [List.getD_eq_getElem?_getD, List.getD_eq_getElem?_getD, List.getElem?_map, List.getElem?_eq_getElem hi]
    rfl
  rw [e]
  refine decide_eq_true ⟨hc.1, hc.2.1, by unfold colT; rw [List.length_map], fun y hy => ?_⟩
  unfold colT at hy
  obtain ⟨x, hxx, rfl⟩ := List.mem_map.1 hy
  obtain ⟨j, hj, _, hp⟩ := Tq.pl_at (ha x hxx)
  rw [hp]
  exact hc.2.2.2 _ (rd_mem _ j (by omega))
/-- A table's rows of what is in common. -/
def taken (xs : List Int) (x : S43) : S43 := ⟨xs, x.f1, x.f2.map (colT x.f0 xs)⟩
theorem join_taken {l : List S43} {xs : List Int} (h0 : 0 < l.length) (h16 : l.length ≤ 16) (ht : ∀ x ∈ l, tabB x.f0 x.f1 x.f2 = true) (hx : idsB xs = true) (ha : ∀ y ∈ l, ∀ x ∈ xs, x ∈ y.f0) :
    (joinP (l.map (taken xs))).1 = xs ∧ (joinP (l.map (taken xs))).2.2.2 = 0 := by
  have hf : ∀ y ∈ l.map (taken xs), goodJ (l.map (taken xs)) y = true := by
    intro y hy
    obtain ⟨x, hxx, rfl⟩ := List.mem_map.1 hy
    unfold goodJ
    rw [Bool.and_eq_true]
    refine ⟨tab_taken (ht x hxx) hx (ha x hxx), decide_eq_true ?_⟩
    have hm := rdT_mem (l.map (taken xs)) 0 (by rw [List.length_map]; exact h0)
    obtain ⟨z, hz, he⟩ := List.mem_map.1 hm
    show xs = (rd_T43 (l.map (taken xs)) ((0 : Nat) : Int)).f0
    rw [← he]
    rfl
  have hm : manyT (l.map (taken xs)) = 0 := by
    unfold manyT
    rw [List.length_map, if_neg (by omega), if_neg ?_]
    intro hb
    rw [List.any_eq_true] at hb
    obtain ⟨y, hy, hb⟩ := hb
    rw [hf y hy] at hb
    cases hb
  unfold joinP
  rw [if_pos hm]
  refine ⟨?_, rfl⟩
  have hm := rdT_mem (l.map (taken xs)) 0 (by rw [List.length_map]; exact h0)
  obtain ⟨z, hz, he⟩ := List.mem_map.1 hm
  show (rd_T43 (l.map (taken xs)) ((0 : Nat) : Int)).f0 = xs
  rw [← he]
  rfl
end Go.Proofs.Ytdlkcohfgfnkbaa.Mt
