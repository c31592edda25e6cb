/- Tables: dataset.Right: the walk. -/
import Derived.Test.YtdlkcohfgfnkbaaTr
namespace Go.Proofs.Ytdlkcohfgfnkbaa.Tr
open Go.RowKit Go.Maps Go.Proofs.Ytdlkcohfgfnkbaa.PDatasetJoins Go.Proofs.Ytdlkcohfgfnkbaa.Tp Go.Proofs.Ytdlkcohfgfnkbaa.Mp Go.Proofs.Ytdlkcohfgfnkbaa.Ix Go.Proofs.YtdlkcohfgfnkbaaW.PrintWords Go.Proofs.YtdlkcohfgfnkbaaW.PrintLast Go.Proofs.YtdlkcohfgfnkbaaW.PrintMore
set_option linter.unusedSimpArgs false
set_option linter.unusedVariables false

/-- A table that is read. -/
structure IsTb (W : World) (A0 A1 A2 : Option Addr) (c0 c1 c2 : Nat) (ids bins : List Int) (cols : List (List Int)) : Prop where
  l0 : ids.length ≤ c0
  l1 : bins.length ≤ c1
  l2 : cols.length ≤ c2
  r0 : (Kd.int .i64).C W A0 ids.length ids
  r1 : (Kd.int .i64).C W A1 bins.length bins
  r2 : (Kd.slice 3 (Kd.int .i64)).C W A2 cols.length cols
  z0 : ids.length ≤ 140737488351232
  z1 : bins.length ≤ 140737488351232
  z2 : cols.length ≤ 140737488351232
  zc : ∀ c ∈ cols, c.length ≤ 140737488351232
theorem IsTb.below {W W' : World} {A0 A1 A2 : Option Addr} {c0 c1 c2 : Nat} {ids bins : List Int} {cols : List (List Int)} (h : IsTb W A0 A1 A2 c0 c1 c2 ids bins cols) (hb : Below W.heap.size W W') : IsTb W' A0 A1 A2 c0 c1 c2 ids bins cols :=
  ⟨h.l0, h.l1, h.l2, Kd.C_below h.r0 hb, Kd.C_below h.r1 hb, Kd.C_below h.r2 hb, h.z0, h.z1, h.z2, h.zc⟩
abbrev tbV (A0 A1 A2 : Option Addr) (c0 c1 c2 : Nat) (ids bins : List Int) (cols : List (List Int)) : Array Value := #[.slice A0 ids.length c0, .slice A1 bins.length c1, .slice A2 cols.length c2]

def binB (N x : Int) : Bool := decide (x < 0) || decide (N ≤ x)
theorem pred56 (g : Nat) (N : Int) (w : World) (hc : w.cell? ⟨g, 0, none⟩ = some (.int .i64 N)) : Pred 56 #[.pointer (some ⟨g, 0, none⟩)] w (binB N) where
  enter := fun args w => by go_simp
  calls := fun x => by
    show Calls Try.prog 56 #[.int .i64 x, .pointer (some ⟨g, 0, none⟩)] w _
    by_cases h : x < 0
    · go_enter Try.func56, Try.ntmps56
      go_wp2
      go_ret
      exact ⟨by unfold binB; rw [decide_eq_true h]; rfl, rfl⟩
    · go_enter Try.func56, Try.ntmps56
      go_wp2
      go_ret
      exact ⟨by unfold binB; rw [decide_eq_false (Int.not_lt.2 h)]; rfl, rfl⟩
theorem bin_none {N : Int} {l : List Int} : l.any (binB N) = false ↔ ∀ x ∈ l, 0 ≤ x ∧ x < N := by
  rw [List.any_eq_false]
  constructor
  · intro h x hx
    have := h x hx
    unfold binB at this
    simp only [Bool.or_eq_true, decide_eq_true_eq] at this
    omega
  · intro h x hx
    have := h x hx
    unfold binB
    simp only [Bool.or_eq_true, decide_eq_true_eq]
    omega
theorem three_cells {W : World} {g t : Nat} {x y z : Value} (h : W.heap[g]? = some (.cells #[x, y, z] t (0, 0))) : W.cell? ⟨g, 0, none⟩ = some x ∧ W.cell? ⟨g, 1, none⟩ = some y ∧ W.cell? ⟨g, 2, none⟩ = some z := ⟨blk_cell h 0, blk_cell h 1, blk_cell h 2⟩


set_option maxRecDepth 100000 in
set_option maxHeartbeats 4000000 in
theorem right_calls (A0 A1 A2 : Option Addr) (c0 c1 c2 : Nat) (ids bins : List Int) (cols : List (List Int)) (w : World) (h : IsTb w A0 A1 A2 c0 c1 c2 ids bins cols) :
    Calls Try.prog 32 #[.agg (tbV A0 A1 A2 c0 c1 c2 ids bins cols)] w fun e w' => e = .returned (.bool (tabB ids bins cols)) ∧ Below w.heap.size w w' := by
  have H := Aside0.mk h
  obtain ⟨q, hq⟩ : ∃ q, idsB ids = q := ⟨_, rfl⟩
  have HQ := Aside0.mk hq
  obtain ⟨W1, hW1⟩ : ∃ W, W = w.alloc (.cells (tbV A0 A1 A2 c0 c1 c2 ids bins cols) 43) := ⟨_, rfl⟩
  have hB1 : Below w.heap.size w W1 := by rw [hW1]; exact below_alloc (Below.refl _ _) _
  have k1 : W1.heap[w.heap.size]? = some (.cells (tbV A0 A1 A2 c0 c1 c2 ids bins cols) 43 (0, 0)) := by rw [hW1]; exact blk_new _ _
  have HW1 := Aside0.mk hW1
  have HB1 := Aside0.mk hB1
  have K1 := Aside0.mk k1
  clear h hq hW1 hB1 k1
  cases q with
  | false =>
    go_enter Try.func32, Try.ntmps32
    go_wp2_with fail
    rw [← HW1.out]
    refine (rightIds_calls A0 c0 ids _ (Kd.C_below H.out.r0 HB1.out) H.out.z0).mono ?_
    rintro e w2 ⟨rfl, hb2⟩
    rw [HQ.out]
    have HB2 := Aside0.mk (HB1.out.trans (hb2.mono HB1.out.size))
    clear hb2
    go_wp2_with fail
    go_ret
    refine ⟨?_, HB2.out⟩
    rw [show tabB ids bins cols = false by unfold tabB; rw [HQ.out]; rfl]
    rfl
  | true =>
    by_cases h16 : (cols.length : Int) > 16
    · go_enter Try.func32, Try.ntmps32
      go_wp2_with fail
      rw [← HW1.out]
      refine (rightIds_calls A0 c0 ids _ (Kd.C_below H.out.r0 HB1.out) H.out.z0).mono ?_
      rintro e w2 ⟨rfl, hb2⟩
      rw [HQ.out]
      have HB2 := Aside0.mk (HB1.out.trans (hb2.mono HB1.out.size))
      obtain ⟨p0, p1, p2⟩ := three_cells (blk_below K1.out hb2)
      clear hb2
      go_wp2_with fail
      go_ret
      refine ⟨?_, HB2.out⟩
      rw [show tabB ids bins cols = false by unfold tabB; rw [decide_eq_false (fun h => by omega), Bool.and_false]]
      rfl
    · by_cases hlen : bins.length = cols.length
      · have hlb : ((bins.length : Int) != (cols.length : Int)) = false := by rw [hlen]; simp
        have HL := Aside0.mk hlen
        clear hlen
        go_enter Try.func32, Try.ntmps32
        go_wp2_with fail
        rw [← HW1.out]
        refine (rightIds_calls A0 c0 ids _ (Kd.C_below H.out.r0 HB1.out) H.out.z0).mono ?_
        rintro e w2 ⟨rfl, hb2⟩
        rw [HQ.out]
        have HB2 := Aside0.mk hb2
        obtain ⟨p0, p1, p2⟩ := three_cells (blk_below K1.out hb2)
        clear hb2
        have hlb2 : (bins.length : Int) = (cols.length : Int) := by have := HL.out; omega
        go_wp2_with fail
        have HC2 := Aside0.mk (show cols.length ≤ 16 by omega)
        clear hlb hlb2 p0 p1 p2 h16
        go_loopg [3, 4, 5, 6, 29] cols.length (fun g v3 v4 v5 v6 v29 wx => ∃ i : Nat, i + g = cols.length ∧ v29 = .int .i64 (i : Int) ∧ Aside0 (∀ j, j < i → colB ids.length (bins.getD j 0) (cols.getD j []) = true) ∧ Aside0 (Below W1.heap.size W1 wx))
        case atStart => exact ⟨0, by omega, rfl, ⟨fun j hj => by omega⟩, HB2⟩
        case round =>
          obtain ⟨i, hig, rfl, HJ, HB⟩ := hrel
          have HBw := Aside0.mk (HB1.out.trans (HB.out.mono HB1.out.size))
          obtain ⟨p0, p1, p2⟩ := three_cells (blk_below K1.out HB.out)
          cases gk with
          | zero =>
            have hlt : ¬ (i : Int) < (cols.length : Int) := by omega
            have HE := Aside0.mk (show i = cols.length by omega)
            go_wp2_with fail
            go_ret
            refine ⟨?_, HBw.out⟩
            rw [show tabB ids bins cols = true by unfold tabB; rw [HQ.out, Bool.true_and]; exact decide_eq_true ⟨HC2.out, HL.out, fun j hj => HJ.out j (by rw [HE.out]; exact hj)⟩]
            rfl
          | succ g =>
            have hlt : (i : Int) < (cols.length : Int) := by omega
            have hlt2 : (i : Int) < (bins.length : Int) := by have := HL.out; omega
            obtain ⟨adc, Ac, cc, hAc, hcc, hcl, hcr⟩ := at_L1 (Kd.C_below H.out.r2 HBw.out) (i : Int) (by omega) hlt
            subst hAc
            obtain ⟨adb, hAb, hcb⟩ := Kd.at_int (Kd.C_below H.out.r1 HBw.out) (i : Int) (by omega) hlt2
            subst hAb
            rw [Int.toNat_natCast] at hcc hcb
            have hgc : rd_L1 cols (i : Int) = cols.getD i [] := rdL_getD cols i
            have hgb : rd bins (i : Int) = bins.getD i 0 := rd_getD bins i
            rw [hgc] at hcc hcl hcr
            rw [hgb] at hcb
            obtain ⟨col, hcol⟩ : ∃ col, col = cols.getD i [] := ⟨_, rfl⟩
            obtain ⟨b, hb⟩ : ∃ b, b = bins.getD i 0 := ⟨_, rfl⟩
            rw [← hcol] at hcc hcl hcr
            rw [← hb] at hcb
            have HCOL := Aside0.mk (And.intro hcol hb)
            have hcz : col.length ≤ 140737488351232 := by
              rw [hcol, List.getD_eq_getElem?_getD, List.getElem?_eq_getElem (show i < cols.length by omega)]
              exact H.out.zc _ (List.getElem_mem _)
            have HCR := Aside0.mk hcr
            have HNO := Aside0.mk (show colB ids.length b col = false → tabB ids bins cols = false from fun hf => by
              unfold tabB
              rw [decide_eq_false, Bool.and_false]
              intro hh
              have := hh.2.2 i (by omega)
              rw [← HCOL.out.1, ← HCOL.out.2, hf] at this
              cases this)
            have HB3 := Aside0.mk (HBw.out.alloc HBw.out.size (.cells #[.int .i64 b] 3))
            have HB4 := Aside0.mk (HB.out.alloc HB.out.size (.cells #[.int .i64 b] 3))
            obtain ⟨r0, r1, r2⟩ := three_cells (blk_below K1.out HB4.out)
            have r3 := one_cell (blk_new wr (.cells #[.int .i64 b] 3))
            clear hgc hgb hcol hb hcr
            by_cases g1 : b < 2
            · have HF := Aside0.mk (HNO.out (decide_eq_false (fun h => by omega)))
              go_wp2_with fail
              go_ret
              exact ⟨by rw [HF.out]; rfl, HB3.out⟩
            · by_cases g2 : b > 32
              · have HF := Aside0.mk (HNO.out (decide_eq_false (fun h => by omega)))
                go_wp2_with fail
                go_ret
                exact ⟨by rw [HF.out]; rfl, HB3.out⟩
              · by_cases g3 : (col.length : Int) = (ids.length : Int)
                · have g3b : ((col.length : Int) != (ids.length : Int)) = false := by rw [g3]; simp
                  have HG3 := Aside0.mk g3
                  cases g4 : col.any (binB b) with
                  | true =>
                    have HG4 := Aside0.mk g4
                    have HF := Aside0.mk (HNO.out (decide_eq_false (fun h => by rw [bin_none.2 h.2.2.2] at g4; cases g4)))
                    clear g4 g3
                    have g3' := HG3.out
                    go_wp2_with fail
                    refine (contains_calls 56 #[.pointer (some ⟨wr.heap.size, 0, none⟩)] (binB b) Ac cc col _ (Kd.C_alloc HCR.out _) hcz (pred56 _ b _ (one_cell (blk_new wr _)))).mono ?_
                    rintro e w5 ⟨rfl, rfl⟩
                    rw [HG4.out]
                    go_wp2_with fail
                    go_ret
                    exact ⟨by rw [HF.out]; rfl, HB3.out⟩
                  | false =>
                    have HG4 := Aside0.mk g4
                    have HOK := Aside0.mk (show colB ids.length b col = true from decide_eq_true ⟨by omega, by omega, g3, bin_none.1 g4⟩)
                    clear g4 g3
                    have g3' := HG3.out
                    go_wp2_with fail
                    refine (contains_calls 56 #[.pointer (some ⟨wr.heap.size, 0, none⟩)] (binB b) Ac cc col _ (Kd.C_alloc HCR.out _) hcz (pred56 _ b _ (one_cell (blk_new wr _)))).mono ?_
                    rintro e w5 ⟨rfl, rfl⟩
                    rw [HG4.out]
                    go_wp2_with fail
                    go_roundg g
                    case measure => omega
                    case rel =>
                      refine ⟨i + 1, by omega, rfl, ⟨fun j hj => ?_⟩, HB4⟩
                      by_cases hji : j = i
                      · rw [hji, ← HCOL.out.1, ← HCOL.out.2]; exact HOK.out
                      · exact HJ.out j (by omega)
                · have g3b : ((col.length : Int) != (ids.length : Int)) = true := by rw [bne_iff_ne]; exact g3
                  have HF := Aside0.mk (HNO.out (decide_eq_false (fun h => g3 h.2.2.1)))
                  clear g3
                  go_wp2_with fail
                  go_ret
                  exact ⟨by rw [HF.out]; rfl, HB3.out⟩
      · have hlb : ((bins.length : Int) != (cols.length : Int)) = true := by rw [bne_iff_ne]; omega
        have HL := Aside0.mk hlen
        clear hlen
        go_enter Try.func32, Try.ntmps32
        go_wp2_with fail
        rw [← HW1.out]
        refine (rightIds_calls A0 c0 ids _ (Kd.C_below H.out.r0 HB1.out) H.out.z0).mono ?_
        rintro e w2 ⟨rfl, hb2⟩
        rw [HQ.out]
        have HB2 := Aside0.mk (HB1.out.trans (hb2.mono HB1.out.size))
        obtain ⟨p0, p1, p2⟩ := three_cells (blk_below K1.out hb2)
        clear hb2
        go_wp2_with fail
        go_ret
        refine ⟨?_, HB2.out⟩
        rw [show tabB ids bins cols = false by unfold tabB; rw [decide_eq_false (fun h => HL.out h.2.1), Bool.and_false]]
        rfl
end Go.Proofs.Ytdlkcohfgfnkbaa.Tr
