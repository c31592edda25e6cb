/- Tables: DatasetLefts: the walk. -/
import Derived.Test.YtdlkcohfgfnkbaaLw
import Derived.Test.YtdlkcohfgfnkbaaBf
import Derived.Test.YtdlkcohfgfnkbaaOt
import Derived.Test.YtdlkcohfgfnkbaaAw
namespace Go.Proofs.Ytdlkcohfgfnkbaa.Lw
open Go.RowKit Go.Proofs.Ytdlkcohfgfnkbaa.PDatasetJoins Go.Proofs.Ytdlkcohfgfnkbaa.DFns Go.Proofs.Ytdlkcohfgfnkbaa.Tp Go.Proofs.Ytdlkcohfgfnkbaa.Lp Go.Proofs.Ytdlkcohfgfnkbaa.Tr Go.Proofs.Ytdlkcohfgfnkbaa.Ot Go.Proofs.YtdlkcohfgfnkbaaW.PrintWords Go.Proofs.YtdlkcohfgfnkbaaW.PrintLast Go.Proofs.YtdlkcohfgfnkbaaW.PrintMore
set_option linter.unusedSimpArgs false
set_option linter.unusedVariables false

theorem left_len (ids bins : List Int) (cols : List (List Int)) (m cut : Int) : (leftP ids bins cols m cut).2.1.length ≤ 140737488351232 := by
  unfold leftP
  split
  · split
    · exact Nat.zero_le _
    · exact Bp.ofS_len _ _
  · exact Nat.zero_le _
theorem ref_left_calls (A0 A1 A2 : Option Addr) (c0 c1 c2 : Nat) (ids bins : List Int) (cols : List (List Int)) (m cut : Int) (w : World) (h : IsTb w A0 A1 A2 c0 c1 c2 ids bins cols) :
    Calls Try.prog 38 #[.agg (tbV A0 A1 A2 c0 c1 c2 ids bins cols), .int .i64 m, .int .i64 cut] w (LeftPost w (leftP ids bins cols m cut)) := by
  obtain ⟨k, hk⟩ := (ref_left ids bins cols m cut).rounds
  exact windbreakref15_Left.calls k A0 c0 ids A1 c1 bins A2 c2 cols m cut _ _ _ w h.r0 h.l0 h.r1 h.l1 h.r2 h.l2 hk
theorem same_bits (N : Int) (a : List Int) (A B : Option Addr) (c d : Nat) (w : World) (ha : (Kd.int .u64).C w A a.length a) (hb : (Kd.int .u64).C w B a.length a) (hc : a.length ≤ c) (hd : a.length ≤ d) (hl : a.length ≤ 140737488351232) :
    Calls Try.prog 16 #[.agg #[.int .i64 N, .slice A a.length c], .agg #[.int .i64 N, .slice B a.length d]] w fun e w' => e = .returned (.bool true) ∧ Below w.heap.size w w' := by
  obtain ⟨k, hk⟩ := (Bp.ref_same N a hl).rounds
  exact PBitsetJoins.windbreakref14_Same.calls k N A c a N B d a true w ha hc hb hd hk
set_option maxRecDepth 100000 in
set_option maxHeartbeats 400000 in
theorem lefts_calls (A0 A1 A2 : Option Addr) (c0 c1 c2 : Nat) (ids bins : List Int) (cols : List (List Int)) (m cut : Int) (w : World) (h : IsTb w A0 A1 A2 c0 c1 c2 ids bins cols) :
    Calls Try.prog 9 #[.agg (tbV A0 A1 A2 c0 c1 c2 ids bins cols), .int .i64 m, .int .i64 cut] w fun e w' => e = .returned (.bool true) ∧ Below w.heap.size w w' := by
  obtain ⟨W1, hW1⟩ : ∃ W, W = w.alloc (.cells (tbV A0 A1 A2 c0 c1 c2 ids bins cols) 43) := ⟨_, rfl⟩
  have hB1 : Below w.heap.size w W1 := by rw [hW1]; exact below_alloc (Below.refl _ _) _
  have k1 : W1.heap[w.heap.size]? = some (.cells (tbV A0 A1 A2 c0 c1 c2 ids bins cols) 43 (0, 0)) := by rw [hW1]; exact blk_new _ _
  obtain ⟨r, hrr⟩ : ∃ r, r = leftP ids bins cols m cut := ⟨_, rfl⟩
  have hlen := left_len ids bins cols m cut
  rw [← hrr] at hlen
  have H := Aside0.mk h
  have HRR := Aside0.mk hrr
  have HB1 := Aside0.mk hB1
  have K1 := Aside0.mk k1
  clear h hB1 k1 hrr
  go_enter Try.func9, Try.ntmps9
  go_wp2_with fail
  rw [← hW1]
  clear hW1
  refine (Al.awake_calls _).mono ?_
  rintro e w2 ⟨rfl, hb2⟩
  have HB2 := Aside0.mk (HB1.out.trans (hb2.mono HB1.out.size))
  have K2 := Aside0.mk (blk_below K1.out hb2)
  clear hb2 HB1 K1
  obtain ⟨a0, a1, a2⟩ := three_cells K2.out
  go_wp2_with fail
  refine (left_calls A0 A1 A2 c0 c1 c2 ids bins cols m cut _ (H.out.below HB2.out)).mono ?_
  rw [← HRR.out]
  obtain ⟨r1, r2, r3⟩ := r
  rintro e w3 ⟨V, rfl, ho, hb3⟩
  obtain ⟨X, cx, rfl, hx, hC⟩ := Kd.R_reads ho
  change r2.length ≤ cx at hx
  change r2.length ≤ _ at hlen
  change (Kd.int .u64).C w3 X r2.length r2 at hC
  obtain ⟨W3, hW3⟩ : ∃ W, W = w3.alloc (.cells #[.int .i64 r1, .slice X r2.length cx] 24) := ⟨_, rfl⟩
  have HB3 := Aside0.mk (show Below w.heap.size w W3 by rw [hW3]; exact below_alloc (HB2.out.trans (hb3.mono HB2.out.size)) _)
  have K3 := Aside0.mk (show W3.heap[w.heap.size]? = some (.cells #[.slice A0 ids.length c0, .slice A1 bins.length c1, .slice A2 cols.length c2] 43 (0, 0)) by rw [hW3]; exact blk_alloc (blk_below K2.out hb3) _)
  have K3' := Aside0.mk (show W3.heap[w3.heap.size]? = some (.cells #[.int .i64 r1, .slice X r2.length cx] 24 (0, 0)) by rw [hW3]; exact blk_new w3 _)
  have HP := Aside0.mk (show (Kd.int .u64).C W3 X r2.length r2 by rw [hW3]; exact Kd.C_alloc hC _)
  obtain ⟨a0, a1, a2⟩ := three_cells K3.out
  rw [hW3] at a0 a1 a2
  clear hb3 HB2 K2 ho hC
  go_wp2_with fail
  rw [← hW3]
  clear a0 a1 a2 hW3
  refine (ref_left_calls A0 A1 A2 c0 c1 c2 ids bins cols m cut _ (H.out.below HB3.out)).mono ?_
  rw [← HRR.out]
  rintro e w4 ⟨V, rfl, ho, hb4⟩
  obtain ⟨Y, cy, rfl, hy, hC⟩ := Kd.R_reads ho
  change r2.length ≤ cy at hy
  change (Kd.int .u64).C w4 Y r2.length r2 at hC
  obtain ⟨W4, hW4⟩ : ∃ W, W = w4.alloc (.cells #[.int .i64 r1, .slice Y r2.length cy] 24) := ⟨_, rfl⟩
  have hbb : Below W3.heap.size W3 W4 := by rw [hW4]; exact below_alloc hb4 _
  have HB4 := Aside0.mk (HB3.out.trans (hbb.mono HB3.out.size))
  have K4 := Aside0.mk (blk_below K3'.out hbb)
  have K4' := Aside0.mk (show W4.heap[w4.heap.size]? = some (.cells #[.int .i64 r1, .slice Y r2.length cy] 24 (0, 0)) by rw [hW4]; exact blk_new w4 _)
  have HP' := Aside0.mk (show (Kd.int .u64).C W4 Y r2.length r2 by rw [hW4]; exact Kd.C_alloc hC _)
  have HP2 := Aside0.mk (Kd.C_below HP.out hbb)
  obtain ⟨a0, a1⟩ := Bo.two_cells K4.out
  obtain ⟨b0, b1⟩ := Bo.two_cells K4'.out
  rw [hW4] at a0 a1 b0 b1
  clear hb4 hbb HB3 K3 K3' HP ho hC
  go_wp2_with fail
  rw [← hW4]
  clear a0 a1 b0 b1 hW4
  refine (same_bits r1 r2 X Y cx cy _ HP2.out HP'.out hx hy hlen).mono ?_
  rintro e w5 ⟨rfl, hb5⟩
  have HB5 := Aside0.mk (HB4.out.trans (hb5.mono HB4.out.size))
  clear hb5
  go_wp2_with fail
  go_ret
  exact ⟨rfl, HB5.out⟩
theorem lefts_walk (x : Tb × At) (m cut : Int) (w : World) (h : IsT w x.2 x.1 ∧ Nums x.1) (hm : (Lit.int .i64 m).wf = true) (hc : (Lit.int .i64 cut).wf = true) :
    Calls Try.prog 9 #[.agg (atV x.2 x.1), .int .i64 m, .int .i64 cut] w fun e w' => e = .returned (.bool true) ∧ Below w.heap.size w w' := lefts_calls _ _ _ _ _ _ _ _ _ m cut w h.1
end Go.Proofs.Ytdlkcohfgfnkbaa.Lw
