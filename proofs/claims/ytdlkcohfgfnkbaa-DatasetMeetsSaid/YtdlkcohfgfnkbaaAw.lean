/- Tables: awake: the walk; how an argument that is a table is opened. -/
import Derived.Test.YtdlkcohfgfnkbaaAm
import Derived.Test.YtdlkcohfgfnkbaaTs
namespace Go.Proofs.Ytdlkcohfgfnkbaa.Al
open Go.RowKit Go.Proofs.Ytdlkcohfgfnkbaa.PDatasetJoins Go.Proofs.Ytdlkcohfgfnkbaa.Tp Go.Proofs.Ytdlkcohfgfnkbaa.Tr Go.Proofs.Ytdlkcohfgfnkbaa.Il Go.Proofs.Ytdlkcohfgfnkbaa.Mp Go.Proofs.YtdlkcohfgfnkbaaW.PrintWords Go.Proofs.YtdlkcohfgfnkbaaW.PrintLast Go.Proofs.YtdlkcohfgfnkbaaW.PrintMore
set_option linter.unusedSimpArgs false
set_option linter.unusedVariables false

theorem align_calls (A : Option Addr) (c : Nat) (l : List (List Int)) (w : World) (hr : Kd.C (Kd.slice 3 (Kd.int .i64)) w A l.length l) (hl : l.length ≤ 140737488351232) (hz : ∀ x ∈ l, x.length ≤ 140737488351232) (r : List Int) (E : Int) (h : alignP l = (r, E)) :
    Calls Try.prog 29 #[.slice A l.length c] w fun e w' => ∃ v, e = .returned (.tuple #[v, .int .i64 E]) ∧ (Kd.int .i64).R 3 w' w.heap.size (fun _ => True) v r ∧ Below w.heap.size w w' := by
  unfold alignP at h
  by_cases hm : manyL l = 0
  · rw [if_pos hm] at h
    injection h with h1 h2
    subst h1 h2
    exact align_yes A c l w hr hl hz hm
  · rw [if_neg hm] at h
    injection h with h1 h2
    subst h1 h2
    refine (align_no A c l w hr hl hz hm).mono ?_
    rintro e w' ⟨rfl, hb⟩
    exact ⟨_, rfl, Kd.R_nil _ _ _ _ _, hb⟩
theorem rows_two (w : World) (A B : Option Addr) (ca cb : Nat) (a b : List Int) (hca : a.length ≤ ca) (hcb : b.length ≤ cb) (hra : Kd.C (Kd.int .i64) w A a.length a) (hrb : Kd.C (Kd.int .i64) w B b.length b) (t : TypeId) (fr : Nat × Nat) :
    Kd.C (Kd.slice 3 (Kd.int .i64)) (w.alloc (.cells #[.slice A a.length ca, .slice B b.length cb] t fr)) (some ⟨w.heap.size, 0, none⟩) ([a, b] : List (List Int)).length [a, b] := by
  refine ⟨rfl, by simp, fun _ => ⟨_, rfl, fun j p hj => ?_⟩⟩
  have hW := below_alloc (Below.refl _ w) (.cells #[.slice A a.length ca, .slice B b.length cb] t fr)
  match j, hj with
  | 0, hj =>
    obtain rfl := Option.some.inj hj
    refine ⟨[.slice A a.length ca], rfl, ⟨A, ca, rfl, hca, Kd.C_below hra hW⟩, fun i u hu => ?_⟩
    rw [add_plain, World.cell?_alloc_mark]
    match i, hu with
    | 0, hu => exact hu
    | i + 1, hu => simp at hu
  | 1, hj =>
    obtain rfl := Option.some.inj hj
    refine ⟨[.slice B b.length cb], rfl, ⟨B, cb, rfl, hcb, Kd.C_below hrb hW⟩, fun i u hu => ?_⟩
    rw [add_plain, World.cell?_alloc_mark]
    match i, hu with
    | 0, hu => exact hu
    | i + 1, hu => simp at hu
  | j + 2, hj => simp at hj
theorem awake_law : alignP [[3, 1, 2], [2, 3, 5]] = ([2, 3], 0) := by
  have h1 : manyL [[3, 1, 2], [2, 3, 5]] = 0 := by decide +kernel
  unfold alignP
  rw [if_pos h1]
  have h2 : oF [[3, 1, 2], [2, 3, 5]] (([[3, 1, 2], [2, 3, 5]] : List (List Int)).length - 1) (([[3, 1, 2], [2, 3, 5]] : List (List Int)).getD ([[3, 1, 2], [2, 3, 5]].length - 1) []).length = [2, 3] := by decide +kernel
  have h3 : srt [2, 3] = [2, 3] := List.mergeSort_of_pairwise (by simp)
  exact Prod.ext ((congrArg srt h2).trans h3) rfl
set_option maxRecDepth 100000 in
set_option maxHeartbeats 400000 in
theorem awake_calls (w : World) : Calls Try.prog 28 #[] w fun e w' => e = .returned (.bool true) ∧ Below w.heap.size w w' := by
  go_enter Try.func28, Try.ntmps28
  go_wp2_with fail
  have H1 := Aside0.mk (Kd.C_alloc (const_reads w 3 (0, 0) .i64 [3, 1, 2] (by simp)) (.cells #[.int .i64 2, .int .i64 3, .int .i64 5] 3))
  have H2 := Aside0.mk (const_reads (w.alloc (.cells #[.int .i64 3, .int .i64 1, .int .i64 2] 3)) 3 (0, 0) .i64 [2, 3, 5] (by simp))
  have H3 := Aside0.mk (rows_two ((w.alloc (.cells #[.int .i64 3, .int .i64 1, .int .i64 2] 3)).alloc (.cells #[.int .i64 2, .int .i64 3, .int .i64 5] 3)) (some ⟨w.heap.size, 0, none⟩) (some ⟨w.heap.size + 1, 0, none⟩) 3 3 [3, 1, 2] [2, 3, 5] (by simp) (by simp) H1.out (by simpa using H2.out) 31 (0, 0))
  have hb3 := Aside0.mk (below_alloc (below_alloc (below_alloc (Below.refl w.heap.size w) (.cells #[.int .i64 3, .int .i64 1, .int .i64 2] 3)) (.cells #[.int .i64 2, .int .i64 3, .int .i64 5] 3)) (.cells #[.slice (some ⟨w.heap.size, 0, none⟩) 3 3, .slice (some ⟨w.heap.size + 1, 0, none⟩) 3 3] 31))
  refine (align_calls (some ⟨w.heap.size + 1 + 1, 0, none⟩) 2 [[3, 1, 2], [2, 3, 5]] _ (by simpa using H3.out) (by simp) (by simp) _ _ awake_law).mono ?_
  rintro e w1 ⟨v, rfl, hR, hB⟩
  obtain ⟨A, c, rfl, hc, hC⟩ := Kd.R_reads hR
  have HB := Aside0.mk (hb3.out.trans (hB.mono hb3.out.size))
  change Kd.C (Kd.int .i64) w1 A 2 [2, 3] at hC
  obtain ⟨ad, rfl, h0⟩ := Kd.at_int hC 0 (by decide) (by decide)
  obtain ⟨g, rfl⟩ := Kd.R_head hR
  replace h0 : w1.cell? ⟨g, 0, none⟩ = some (.int .i64 2) := h0
  have h1 : w1.cell? ⟨g, 1, none⟩ = some (.int .i64 3) := by
    obtain ⟨ad', he, h1⟩ := Kd.at_int hC 1 (by decide) (by decide)
    cases he
    exact h1
  change 2 ≤ c at hc
  clear hR hB hb3 H1 H2 H3 hC
  go_wp2_with fail
  go_ret
  exact ⟨rfl, HB.out⟩
end Go.Proofs.Ytdlkcohfgfnkbaa.Al
