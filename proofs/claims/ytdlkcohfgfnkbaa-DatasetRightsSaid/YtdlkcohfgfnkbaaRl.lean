/- Tables: DatasetRights: the walk. -/
import Derived.Test.YtdlkcohfgfnkbaaOt
import Derived.Test.YtdlkcohfgfnkbaaAw
namespace Go.Proofs.Ytdlkcohfgfnkbaa.Rl
open Go.RowKit Go.Proofs.Ytdlkcohfgfnkbaa.PDatasetJoins Go.Proofs.Ytdlkcohfgfnkbaa.DFns Go.Proofs.Ytdlkcohfgfnkbaa.Tp Go.Proofs.Ytdlkcohfgfnkbaa.Tr Go.Proofs.Ytdlkcohfgfnkbaa.Ot Go.Proofs.Ytdlkcohfgfnkbaa.Mp Go.Proofs.YtdlkcohfgfnkbaaW.PrintWords Go.Proofs.YtdlkcohfgfnkbaaW.PrintLast Go.Proofs.YtdlkcohfgfnkbaaW.PrintMore
set_option linter.unusedSimpArgs false
set_option linter.unusedVariables false

/-- The reference's Right, of any table. -/
theorem ref_right_calls (A0 A1 A2 : Option Addr) (c0 c1 c2 : Nat) (ids bins : List Int) (cols : List (List Int)) (w : World) (h : IsTb w A0 A1 A2 c0 c1 c2 ids bins cols) :
    Calls Try.prog 33 #[.agg (tbV A0 A1 A2 c0 c1 c2 ids bins cols)] w fun e w' => e = .returned (.bool (tabB ids bins cols)) ∧ Below w.heap.size w w' := by
  obtain ⟨k, hk⟩ := ref_tab ids bins cols
  exact windbreakref15_Right.calls k A0 c0 ids A1 c1 bins A2 c2 cols _ w h.r0 h.l0 h.r1 h.l1 h.r2 h.l2 (hk k (Nat.le_refl _))
set_option maxRecDepth 100000 in
set_option maxHeartbeats 400000 in
theorem rights_calls (A0 A1 A2 : Option Addr) (c0 c1 c2 : Nat) (ids bins : List Int) (cols : List (List Int)) (w : World) (h : IsTb w A0 A1 A2 c0 c1 c2 ids bins cols) :
    Calls Try.prog 7 #[.agg (tbV A0 A1 A2 c0 c1 c2 ids bins cols)] w fun e w' => e = .returned (.bool true) ∧ Below w.heap.size w w' := by
  obtain ⟨q, hq⟩ : ∃ q, tabB ids bins cols = q := ⟨_, rfl⟩
  obtain ⟨W1, hW1⟩ : ∃ W, W = w.alloc (.cells (tbV A0 A1 A2 c0 c1 c2 ids bins cols) 43) := ⟨_, rfl⟩
  have hB1 : Below w.heap.size w W1 := by rw [hW1]; exact below_alloc (Below.refl _ _) _
  have k1 : W1.heap[w.heap.size]? = some (.cells (tbV A0 A1 A2 c0 c1 c2 ids bins cols) 43 (0, 0)) := by rw [hW1]; exact blk_new _ _
  have H := Aside0.mk h
  have HB1 := Aside0.mk hB1
  have K1 := Aside0.mk k1
  have HQ := Aside0.mk hq
  clear h hB1 k1 hq
  go_enter Try.func7, Try.ntmps7
  go_wp2_with fail
  rw [← hW1]
  clear hW1
  refine (Al.awake_calls _).mono ?_
  rintro e w2 ⟨rfl, hb2⟩
  have HB2 := Aside0.mk (HB1.out.trans (hb2.mono HB1.out.size))
  have K2 := Aside0.mk (blk_below K1.out hb2)
  clear hb2 HB1 K1
  obtain ⟨a0, a1, a2⟩ := three_cells K2.out
  go_wp2_with fail
  refine (right_calls A0 A1 A2 c0 c1 c2 ids bins cols _ (H.out.below HB2.out)).mono ?_
  rintro e w3 ⟨rfl, hb3⟩
  have HB3 := Aside0.mk (HB2.out.trans (hb3.mono HB2.out.size))
  have K3 := Aside0.mk (blk_below K2.out hb3)
  clear hb3 HB2 K2 a0 a1 a2
  rw [HQ.out]
  obtain ⟨a0, a1, a2⟩ := three_cells K3.out
  go_wp2_with fail
  refine (ref_right_calls A0 A1 A2 c0 c1 c2 ids bins cols _ (H.out.below HB3.out)).mono ?_
  rintro e w4 ⟨rfl, hb4⟩
  rw [HQ.out]
  go_wp2_with fail
  go_ret
  exact ⟨by simp, HB3.out.trans (hb4.mono HB3.out.size)⟩
theorem rights_walk (x : Tb × At) (w : World) (h : IsT w x.2 x.1 ∧ Nums x.1) : Calls Try.prog 7 #[.agg (atV x.2 x.1)] w fun e w' => e = .returned (.bool true) ∧ Below w.heap.size w w' := rights_calls _ _ _ _ _ _ _ _ _ w h.1
end Go.Proofs.Ytdlkcohfgfnkbaa.Rl
