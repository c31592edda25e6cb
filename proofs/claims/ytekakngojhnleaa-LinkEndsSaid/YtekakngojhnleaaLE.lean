/- LinkEnds: which windows an end may have. -/
import Derived.Test.YtekakngojhnleaaProg
import Derived.Test.YtekakngojhnleaaWWords
import Derived.Outline
namespace Go.Proofs.Ytekakngojhnleaa.Lk
open Go.RowKit Go.Proofs.YtekakngojhnleaaW.PrintWords
set_option linter.unusedSimpArgs false
set_option linter.unusedVariables false

/-- A fresh end's cells. -/
def endCells (window : Int) (m : Nat) : Array Value := #[.int .i64 window, .slice none 0 0, .int .i64 0, .int .i64 0, .slice none 0 0, .int .i64 0, .map (some m), .bool false, .bool false]
def refCells (window : Int) : Array Value := #[.int .i64 window, .slice none 0 0, .int .i64 0, .int .i64 0, .slice none 0 0, .int .i64 0, .slice none 0 0, .bool false, .bool false]

theorem linkNew_no (x : Int) (w : World) (h : x < 1 ∨ 16 < x) : Calls Try.prog 14 #[.int .i64 x] w fun e w' => e = .returned (.tuple #[.pointer none, .int .i64 1]) ∧ w = w' := by
  rcases h with h | h
  · go_enter Try.func14, Try.ntmps14
    go_wp2
    go_ret2
    exact ⟨rfl, rfl⟩
  · have h' : ¬ x < 1 := by omega
    go_enter Try.func14, Try.ntmps14
    go_wp2
    go_ret2
    exact ⟨rfl, rfl⟩
theorem linkNew_yes (x : Int) (w : World) (h1 : 1 ≤ x) (h2 : x ≤ 16) : Calls Try.prog 14 #[.int .i64 x] w fun e w' => e = .returned (.tuple #[.pointer (some ⟨w.heap.size + 1, 0, none⟩), .int .i64 0]) ∧ w' = (w.alloc (.map #[] 0)).alloc (.cells (endCells x w.heap.size) 82) := by
  have h' : ¬ x < 1 := by omega
  have h'' : ¬ 16 < x := by omega
  have hmm := @run_makeMap Try.prog
  go_enter Try.func14, Try.ntmps14
  go_wp2
  go_ret2
  exact ⟨rfl, rfl⟩
theorem refNew_no (x : Int) (w : World) (h : x < 1 ∨ 16 < x) : Calls Try.prog 15 #[.int .i64 x] w fun e w' => e = .returned (.tuple #[.pointer none, .int .i64 1]) ∧ w = w' := by
  rcases h with h | h
  · go_enter Try.func15, Try.ntmps15
    go_wp2
    go_ret2
    exact ⟨rfl, rfl⟩
  · have h' : ¬ x < 1 := by omega
    go_enter Try.func15, Try.ntmps15
    go_wp2
    go_ret2
    exact ⟨rfl, rfl⟩
theorem refNew_yes (x : Int) (w : World) (h1 : 1 ≤ x) (h2 : x ≤ 16) : Calls Try.prog 15 #[.int .i64 x] w fun e w' => e = .returned (.tuple #[.pointer (some ⟨w.heap.size, 0, none⟩), .int .i64 0]) ∧ w' = w.alloc (.cells (refCells x) 67) := by
  have h' : ¬ x < 1 := by omega
  have h'' : ¬ 16 < x := by omega
  go_enter Try.func15, Try.ntmps15
  go_wp2
  go_ret2
  exact ⟨rfl, rfl⟩

set_option maxHeartbeats 400000 in
theorem linkEnds_walk (x : Int) (w : World) (hx : (Lit.int .i64 x).wf = true) : Calls Try.prog 3 #[.int .i64 x] w fun e w' => e = .returned (.bool true) ∧ Below w.heap.size w w' := by
  clear hx
  by_cases h : x < 1 ∨ 16 < x
  · have H := Aside0.mk h
    clear h
    go_enter Try.func3, Try.ntmps3
    go_wp2_with fail
    refine (linkNew_no x _ H.out).mono ?_
    rintro e w1 ⟨rfl, rfl⟩
    go_wp2_with fail
    refine (refNew_no x _ H.out).mono ?_
    rintro e w2 ⟨rfl, rfl⟩
    go_wp2_with fail
    refine (linkNew_yes 1 _ (by omega) (by omega)).mono ?_
    rintro e w3 ⟨rfl, hw3⟩
    have HW := Aside0.mk hw3
    clear hw3
    go_wp2_with fail
    go_ret
    refine ⟨by simp, ?_⟩
    rw [HW.out]
    exact below_alloc (below_alloc (Below.refl _ _) _) _
  · have H1 : 1 ≤ x := by omega
    have H2 : x ≤ 16 := by omega
    clear h
    go_enter Try.func3, Try.ntmps3
    go_wp2_with fail
    refine (linkNew_yes x _ H1 H2).mono ?_
    rintro e w1 ⟨rfl, hw1⟩
    have HW1 := Aside0.mk hw1
    clear hw1
    go_wp2_with fail
    refine (refNew_yes x _ H1 H2).mono ?_
    rintro e w2 ⟨rfl, hw2⟩
    have HW2 := Aside0.mk hw2
    clear hw2
    go_wp2_with fail
    refine (linkNew_yes 1 _ (by omega) (by omega)).mono ?_
    rintro e w3 ⟨rfl, hw3⟩
    have HW3 := Aside0.mk hw3
    clear hw3
    go_wp2_with fail
    go_ret
    refine ⟨by simp, ?_⟩
    rw [HW3.out, HW2.out, HW1.out]
    exact below_alloc (below_alloc (below_alloc (below_alloc (below_alloc (Below.refl _ _) _) _) _) _) _
end Go.Proofs.Ytekakngojhnleaa.Lk
