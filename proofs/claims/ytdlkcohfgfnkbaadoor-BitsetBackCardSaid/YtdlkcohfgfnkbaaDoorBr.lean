/- Sets of bits: the plain laws: words joined are the set of the numbers; sameness. -/
import Derived.Test.YtdlkcohfgfnkbaaDoorBq
import Derived.Test.YtdlkcohfgfnkbaaDoorFns
namespace Go.Proofs.YtdlkcohfgfnkbaaDoor.Bp
open Go.Proofs.YtdlkcohfgfnkbaaDoor.Fns Go.RowKit Go.Proofs.YtdlkcohfgfnkbaaDoor.PBitsetTells Go.Proofs.YtdlkcohfgfnkbaaDoorW.PrintWords Go.Proofs.YtdlkcohfgfnkbaaDoorW.PrintLast Go.Proofs.YtdlkcohfgfnkbaaDoorW.PrintMore
set_option linter.unusedSimpArgs false
set_option linter.unusedVariables false
set_option linter.unusedSimpArgs false

theorem same_l0 (N M : Int) (a : List Int) (hl : a.length ≤ 140737488351232) : ∀ (d i : Nat), i + d = a.length → Ev (fun k => windbreakref14_Same.l0 k (i : Int) N a M a) true
  | 0, i, hi => by
    refine Ev.step (fun k => ?_) (Ev.now _)
    simp only [windbreakref14_Same.l0]
    rw [if_neg (by omega)]
  | d + 1, i, hi => by
    refine Ev.step (fun k => ?_) (same_l0 N M a hl d (i + 1) (by omega))
    simp only [windbreakref14_Same.l0]
    rw [if_pos (by omega), if_pos (by omega), if_pos (by omega), if_pos True.intro, wrap64_small (by omega) (by omega)]
    rfl
theorem ref_same (N : Int) (a : List Int) (hl : a.length ≤ 140737488351232) : Ev (fun k => windbreakref14_Same.f k N a N a) true := by
  refine Ev.congr (f := fun k => windbreakref14_Same.j0 k false N a N a) (fun k => ?_) (Ev.step (fun k => ?_) (same_l0 N N a hl a.length 0 (by omega)))
  · unfold windbreakref14_Same.f
    rw [if_pos rfl]
    congr 1
    simp
  · simp only [windbreakref14_Same.j0]
    rw [if_neg (by decide)]
    rfl
theorem few_l0 (l : List S24) (hl : l.length ≤ 140737488351232) : ∀ (d i : Nat), i + d = l.length → Ev (fun k => windbreaklaw14_few.l0 k l (i : Int)) ((l.drop i).all (fun s => decide (s.f1.length ≤ 2000)))
  | 0, i, hi => by
    rw [show i = l.length by omega, List.drop_length]
    refine Ev.step (fun k => ?_) (Ev.now _)
    simp only [windbreaklaw14_few.l0]
    rw [if_neg (by omega)]
    rfl
  | d + 1, i, hi => by
    have hd : l.drop i = rd_T24 l (i : Int) :: l.drop (i + 1) := by
      rw [List.drop_eq_getElem_cons (show i < l.length by omega)]
      congr 1
      simp [rd_T24, show i < l.length by omega]
    rw [hd, List.all_cons]
    by_cases h : (((rd_T24 l (i : Int)).f1).length : Int) > 2000
    · rw [decide_eq_false (by omega), Bool.false_and]
      refine Ev.step (fun k => ?_) (Ev.now _)
      simp only [windbreaklaw14_few.l0]
      rw [if_pos (by omega), if_pos (by omega), if_pos h]
    · rw [decide_eq_true (by omega), Bool.true_and]
      refine Ev.step (fun k => ?_) (few_l0 l hl d (i + 1) (by omega))
      simp only [windbreaklaw14_few.l0]
      rw [if_pos (by omega), if_pos (by omega), if_neg h, wrap64_small (by omega) (by omega)]
      rfl
theorem ref_few (l : List S24) (hl : l.length ≤ 140737488351232) : Ev (fun k => windbreaklaw14_few.f k l) (l.all (fun s => decide (s.f1.length ≤ 2000))) :=
  few_l0 l hl l.length 0 (by omega)
theorem prog_new (N : Int) : bitset_New.f N = some (if N < 0 ∨ 65536 < N then (0, [], 1) else (N, List.replicate ((N + 63) / 64).toNat 0, 0)) := by
  unfold bitset_New.f
  by_cases h1 : N < 0
  · rw [if_pos h1, if_pos (.inl h1)]
  · rw [if_neg h1]
    by_cases h2 : N > 65536
    · rw [if_pos h2, if_pos (.inr h2)]
    · rw [if_neg h2, wrap64_small (x := N + 64) (by omega) (by omega), wrap64_small (x := N + 64 - 1) (by omega) (by omega), Int.tdiv_eq_ediv_of_nonneg (by omega), wrap64_small (x := (N + 64 - 1) / 64) (by omega) (by omega), if_pos (by omega), if_pos (by omega), if_neg (by omega), show N + 64 - 1 = N + 63 by omega]
end Go.Proofs.YtdlkcohfgfnkbaaDoor.Bp
