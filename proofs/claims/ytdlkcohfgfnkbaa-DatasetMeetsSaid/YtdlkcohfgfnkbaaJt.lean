/- dataset.Join's check: the predicate, slices.IndexFunc and ContainsFunc over tables, dataset.many over them. -/
import Derived.Test.YtdlkcohfgfnkbaaJp
import Derived.Test.YtdlkcohfgfnkbaaEq
namespace Go.Proofs.Ytdlkcohfgfnkbaa.Jt
open Go.RowKit Go.Proofs.Ytdlkcohfgfnkbaa.PDatasetJoins Go.Proofs.Ytdlkcohfgfnkbaa.Tp Go.Proofs.Ytdlkcohfgfnkbaa.Tr Go.Proofs.Ytdlkcohfgfnkbaa.Jp Go.Proofs.YtdlkcohfgfnkbaaW.PrintWords Go.Proofs.YtdlkcohfgfnkbaaW.PrintLast Go.Proofs.YtdlkcohfgfnkbaaW.PrintMore
set_option linter.unusedSimpArgs false
set_option linter.unusedVariables false

/-- No row of a table is longer than memory lets it be. -/
def okT (x : S43) : Prop := x.f0.length ≤ 140737488351232 ∧ x.f1.length ≤ 140737488351232 ∧ x.f2.length ≤ 140737488351232 ∧ ∀ c ∈ x.f2, c.length ≤ 140737488351232
/-- A predicate on tables. -/
structure PredT (f : Nat) (caps : Array Value) (w : World) (p : S43 → Bool) : Prop where
  enter : ∀ args w, (callFunc f args).run Try.prog w = .ok (.enter f args) w
  calls : ∀ (W : World) (A0 A1 A2 : Option Addr) (c0 c1 c2 : Nat) (x : S43), Below w.heap.size w W → IsTb W A0 A1 A2 c0 c1 c2 x.f0 x.f1 x.f2 →
    Calls Try.prog f (#[.agg #[.slice A0 x.f0.length c0, .slice A1 x.f1.length c1, .slice A2 x.f2.length c2]] ++ caps) W fun e w' => e = .returned (.bool (p x)) ∧ Below W.heap.size W w'
theorem cell_low {w W : World} {a : Addr} {v : Value} (h : w.cell? a = some v) (hb : Below w.heap.size w W) : W.cell? a = some v := (hb.cell (World.block_lt_of_cell? w _ h)).trans h
set_option maxRecDepth 100000 in
set_option maxHeartbeats 1000000 in
theorem pred59 (g : Nat) (A : Option Addr) (c : Nat) (l : List S43) (w : World) (hc : w.heap[g]? = some (.cells #[.slice A l.length c] 51 (0, 0))) (hr : Kd.C k43 w A l.length l) (h0 : 0 < l.length) (hz : ∀ x ∈ l, okT x) :
    PredT 59 #[.pointer (some ⟨g, 0, none⟩)] w (goodJ l) where
  enter := fun args w => by go_simp
  calls := fun W A0 A1 A2 c0 c1 c2 x hb ht => by
    show Calls Try.prog 59 #[.agg #[.slice A0 x.f0.length c0, .slice A1 x.f1.length c1, .slice A2 x.f2.length c2], .pointer (some ⟨g, 0, none⟩)] W _
    have HT := Aside0.mk ht
    have HB1 := Aside0.mk (below_drew (below_alloc (Below.refl W.heap.size W) (.cells #[.slice A0 x.f0.length c0, .slice A1 x.f1.length c1, .slice A2 x.f2.length c2] 43)))
    have K1 := Aside0.mk (blk_drew (blk_new W (.cells #[.slice A0 x.f0.length c0, .slice A1 x.f1.length c1, .slice A2 x.f2.length c2] 43)))
    cases hg : tabB x.f0 x.f1 x.f2 with
    | false =>
      have HG := Aside0.mk hg
      have HP := Aside0.mk (show goodJ l x = false by unfold goodJ; rw [hg]; rfl)
      clear ht hg hc hr hz
      go_enter Try.func59, Try.ntmps59
      go_upto_region 1 with fail
      refine start_ (n := 12) (S := fun w' => w'.cell? ⟨W.heap.size, 0, none⟩ = some (.slice A0 x.f0.length c0) ∧ w'.cell? ⟨W.heap.size, 1, none⟩ = some (.slice A1 x.f1.length c1) ∧ w'.cell? ⟨W.heap.size, 2, none⟩ = some (.slice A2 x.f2.length c2)) (ds := []) #[false, false, false, false, false, false, false, false, false, false, false, false] (by kernel_rfl) rfl rfl (three_cells K1.out) (fun hHeld => ?_)
      refine take_ (i := 0) (N := some 4) (v := ?_) (a' := ?_) #[true, false, false, false, false, false, false, false, false, false, false, false] rfl rfl (by kernel_rfl) (fun _ _ _ h => h) (Or.inl ⟨by rfl, ?_⟩) hHeld ?_ ?_
      rotate_left
      · intro w' hSw
        go_simp
        try with_reducible rfl
      rotate_left
      · simp only [Act.put, List.setIfInBounds_toArray, List.set_cons_zero, List.set_cons_succ, i64_w, i32_w]
        rfl
      refine one_ (i := 1) (N := some 5) #[true, true, false, false, false, false, false, false, false, false, false, false] rfl rfl (by kernel_rfl) (by decide) (fun K hK => ?_)
      refine goes_ Try.func32 (by kernel_rfl) rfl #[.agg #[.slice A0 x.f0.length c0, .slice A1 x.f1.length c1, .slice A2 x.f2.length c2]] (by rfl) rfl rfl (by first | rfl | (simp [Act.eval, Operand.eval]; done) | kernel_rfl) ?_
      refine (right_calls A0 A1 A2 c0 c1 c2 x.f0 x.f1 x.f2 _ (HT.out.below HB1.out)).mono ?_
      rintro e w2 ⟨rfl, hb2⟩
      refine ⟨_, rfl, ?_⟩
      rw [HG.out]
      have HB2 := Aside0.mk (HB1.out.trans (hb2.mono HB1.out.size))
      have K2 := Aside0.mk (blk_below K1.out hb2)
      clear hb2 HB1 K1
      refine hK.out _ _ (three_cells K2.out) (fun hHeld => ?_)
      clear hK K
      refine norm_ (a' := ?_) ?_ ?_
      rotate_left
      · show Act.put _ (some 5) _ = _
        simp only [Act.put, List.setIfInBounds_toArray, List.set_cons_zero, List.set_cons_succ, i64_w, i32_w]
        rfl
      refine pure_ (i := 2) (N := some 6) (v := ?_) (a' := ?_) #[true, true, true, false, false, false, false, false, false, false, false, false] rfl rfl (by kernel_rfl) (fun _ _ _ h => h) (Or.inl ⟨by rfl, ?_⟩) ?_ ?_
      rotate_left
      · intro w'
        go_simp
        try with_reducible rfl
      rotate_left
      · simp only [Act.put, List.setIfInBounds_toArray, List.set_cons_zero, List.set_cons_succ, i64_w, i32_w]
        rfl
      refine pure_ (i := 3) (N := some 7) (v := undef) (a' := ?_) #[true, true, true, true, false, false, false, false, false, false, false, false] rfl rfl (by kernel_rfl) (fun _ _ _ h => h) (Or.inr ⟨by rfl, rfl⟩) ?_ ?_
      rotate_left
      · simp only [Act.put, List.setIfInBounds_toArray, List.set_cons_zero, List.set_cons_succ, i64_w, i32_w]
        rfl
      refine pure_ (i := 4) (N := some 8) (v := undef) (a' := ?_) #[true, true, true, true, true, false, false, false, false, false, false, false] rfl rfl (by kernel_rfl) (fun _ _ _ h => h) (Or.inr ⟨by rfl, rfl⟩) ?_ ?_
      rotate_left
      · simp only [Act.put, List.setIfInBounds_toArray, List.set_cons_zero, List.set_cons_succ, i64_w, i32_w]
        rfl
      refine pure_ (i := 5) (N := some 9) (v := undef) (a' := ?_) #[true, true, true, true, true, true, false, false, false, false, false, false] rfl rfl (by kernel_rfl) (fun _ _ _ h => h) (Or.inr ⟨by rfl, rfl⟩) ?_ ?_
      rotate_left
      · simp only [Act.put, List.setIfInBounds_toArray, List.set_cons_zero, List.set_cons_succ, i64_w, i32_w]
        rfl
      refine pure_ (i := 6) (N := some 10) (v := undef) (a' := ?_) #[true, true, true, true, true, true, true, false, false, false, false, false] rfl rfl (by kernel_rfl) (fun _ _ _ h => h) (Or.inr ⟨by rfl, rfl⟩) ?_ ?_
      rotate_left
      · simp only [Act.put, List.setIfInBounds_toArray, List.set_cons_zero, List.set_cons_succ, i64_w, i32_w]
        rfl
      refine pure_ (i := 7) (N := some 11) (v := undef) (a' := ?_) #[true, true, true, true, true, true, true, true, false, false, false, false] rfl rfl (by kernel_rfl) (fun _ _ _ h => h) (Or.inr ⟨by rfl, rfl⟩) ?_ ?_
      rotate_left
      · simp only [Act.put, List.setIfInBounds_toArray, List.set_cons_zero, List.set_cons_succ, i64_w, i32_w]
        rfl
      refine pure_ (i := 8) (N := some 12) (v := undef) (a' := ?_) #[true, true, true, true, true, true, true, true, true, false, false, false] rfl rfl (by kernel_rfl) (fun _ _ _ h => h) (Or.inr ⟨by rfl, rfl⟩) ?_ ?_
      rotate_left
      · simp only [Act.put, List.setIfInBounds_toArray, List.set_cons_zero, List.set_cons_succ, i64_w, i32_w]
        rfl
      refine pure_ (i := 9) (N := some 13) (v := undef) (a' := ?_) #[true, true, true, true, true, true, true, true, true, true, false, false] rfl rfl (by kernel_rfl) (fun _ _ _ h => h) (Or.inr ⟨by rfl, rfl⟩) ?_ ?_
      rotate_left
      · simp only [Act.put, List.setIfInBounds_toArray, List.set_cons_zero, List.set_cons_succ, i64_w, i32_w]
        rfl
      refine pure_ (i := 10) (N := some 14) (v := ?_) (a' := ?_) #[true, true, true, true, true, true, true, true, true, true, true, false] rfl rfl (by kernel_rfl) (fun _ _ _ h => h) (Or.inl ⟨by rfl, ?_⟩) ?_ ?_
      rotate_left
      · intro w'
        go_simp
        try with_reducible rfl
      rotate_left
      · simp only [Act.put, List.setIfInBounds_toArray, List.set_cons_zero, List.set_cons_succ, i64_w, i32_w]
        rfl
      refine pure_ (i := 11) (N := some 3) (v := ?_) (a' := ?_) #[true, true, true, true, true, true, true, true, true, true, true, true] rfl rfl (by kernel_rfl) (fun _ _ _ h => h) (Or.inl ⟨by rfl, ?_⟩) ?_ ?_
      rotate_left
      · intro w'
        go_simp
        try with_reducible rfl
      rotate_left
      · simp only [Act.put, List.setIfInBounds_toArray, List.set_cons_zero, List.set_cons_succ, i64_w, i32_w]
        rfl
      refine done_ (by kernel_rfl) ?_
      go_wp2_with fail
      go_ret
      exact ⟨by rw [HP.out]; rfl, HB2.out⟩
    | true =>
      have HG := Aside0.mk hg
      obtain ⟨ad, B0, d0, B1, d1, B2, d2, rfl, hx0, _, _, hl0, hi0, _, _, _, _⟩ := at_T43 hr 0 (by omega) (by omega)
      have hy0 := (hz _ (rdT_mem l 0 h0)).1
      have HP := Aside0.mk (show goodJ l x = decide (x.f0 = (rd_T43 l 0).f0) by unfold goodJ; rw [hg]; rfl)
      rw [show ((0 : Int)).toNat = 0 from rfl, show 0 * 3 = 0 from rfl, Addr.add_zero'] at hx0
      change (rd_T43 l 0).f0.length ≤ _ at hy0
      obtain ⟨y0, hyy⟩ : ∃ y0, y0 = (rd_T43 l 0).f0 := ⟨_, rfl⟩
      rw [← hyy] at hx0 hl0 hi0 hy0 HP
      have HC0 := Aside0.mk hx0
      have HY := Aside0.mk hi0
      have HB1' := Aside0.mk (hb.trans (HB1.out.mono hb.size))
      have hlp : (0 : Int) < (l.length : Int) := by omega
      clear ht hg hr hz hx0 hi0 hyy hl0
      go_enter Try.func59, Try.ntmps59
      go_upto_region 1 with fail
      refine start_ (n := 12) (S := fun w' => w'.cell? ⟨W.heap.size, 0, none⟩ = some (.slice A0 x.f0.length c0) ∧ w'.cell? ⟨W.heap.size, 1, none⟩ = some (.slice A1 x.f1.length c1) ∧ w'.cell? ⟨W.heap.size, 2, none⟩ = some (.slice A2 x.f2.length c2) ∧ w'.cell? ⟨g, 0, none⟩ = some (.slice (some ad) l.length c) ∧ w'.cell? ad = some (.slice B0 y0.length d0)) (ds := []) #[false, false, false, false, false, false, false, false, false, false, false, false] (by kernel_rfl) rfl rfl ⟨(three_cells K1.out).1, (three_cells K1.out).2.1, (three_cells K1.out).2.2, one_cell (blk_below hc HB1'.out), cell_low HC0.out HB1'.out⟩ (fun hHeld => ?_)
      refine take_ (i := 0) (N := some 4) (v := ?_) (a' := ?_) #[true, false, false, false, false, false, false, false, false, false, false, false] rfl rfl (by kernel_rfl) (fun _ _ _ h => h) (Or.inl ⟨by rfl, ?_⟩) hHeld ?_ ?_
      rotate_left
      · intro w' hSw
        go_simp
        try with_reducible rfl
      rotate_left
      · simp only [Act.put, List.setIfInBounds_toArray, List.set_cons_zero, List.set_cons_succ, i64_w, i32_w]
        rfl
      refine one_ (i := 1) (N := some 5) #[true, true, false, false, false, false, false, false, false, false, false, false] rfl rfl (by kernel_rfl) (by decide) (fun K hK => ?_)
      refine goes_ Try.func32 (by kernel_rfl) rfl #[.agg #[.slice A0 x.f0.length c0, .slice A1 x.f1.length c1, .slice A2 x.f2.length c2]] (by rfl) rfl rfl (by first | rfl | (simp [Act.eval, Operand.eval]; done) | kernel_rfl) ?_
      refine (right_calls A0 A1 A2 c0 c1 c2 x.f0 x.f1 x.f2 _ (HT.out.below HB1.out)).mono ?_
      rintro e w2 ⟨rfl, hb2⟩
      refine ⟨_, rfl, ?_⟩
      rw [HG.out]
      have HB2 := Aside0.mk (HB1.out.trans (hb2.mono HB1.out.size))
      have K2 := Aside0.mk (blk_below K1.out hb2)
      clear hb2 HB1 K1
      have HB2' := Aside0.mk (hb.trans (HB2.out.mono hb.size))
      refine hK.out _ _ (⟨(three_cells K2.out).1, (three_cells K2.out).2.1, (three_cells K2.out).2.2, one_cell (blk_below hc HB2'.out), cell_low HC0.out HB2'.out⟩) (fun hHeld => ?_)
      clear hK K
      refine norm_ (a' := ?_) ?_ ?_
      rotate_left
      · show Act.put _ (some 5) _ = _
        simp only [Act.put, List.setIfInBounds_toArray, List.set_cons_zero, List.set_cons_succ, i64_w, i32_w]
        rfl
      refine pure_ (i := 2) (N := some 6) (v := ?_) (a' := ?_) #[true, true, true, false, false, false, false, false, false, false, false, false] rfl rfl (by kernel_rfl) (fun _ _ _ h => h) (Or.inl ⟨by rfl, ?_⟩) ?_ ?_
      rotate_left
      · intro w'
        go_simp
        try with_reducible rfl
      rotate_left
      · simp only [Act.put, List.setIfInBounds_toArray, List.set_cons_zero, List.set_cons_succ, i64_w, i32_w]
        rfl
      refine pure_ (i := 3) (N := some 7) (v := ?_) (a' := ?_) #[true, true, true, true, false, false, false, false, false, false, false, false] rfl rfl (by kernel_rfl) (fun _ _ _ h => h) (Or.inl ⟨by rfl, ?_⟩) ?_ ?_
      rotate_left
      · intro w'
        go_simp
        try with_reducible rfl
      rotate_left
      · simp only [Act.put, List.setIfInBounds_toArray, List.set_cons_zero, List.set_cons_succ, i64_w, i32_w]
        rfl
      refine take_ (i := 4) (N := some 8) (v := ?_) (a' := ?_) #[true, true, true, true, true, false, false, false, false, false, false, false] rfl rfl (by kernel_rfl) (fun _ _ _ h => h) (Or.inl ⟨by rfl, ?_⟩) hHeld ?_ ?_
      rotate_left
      · intro w' hSw
        go_simp
        try with_reducible rfl
      rotate_left
      · simp only [Act.put, List.setIfInBounds_toArray, List.set_cons_zero, List.set_cons_succ, i64_w, i32_w]
        rfl
      refine take_ (i := 5) (N := some 9) (v := ?_) (a' := ?_) #[true, true, true, true, true, true, false, false, false, false, false, false] rfl rfl (by kernel_rfl) (fun _ _ _ h => h) (Or.inl ⟨by rfl, ?_⟩) hHeld ?_ ?_
      rotate_left
      · intro w' hSw
        go_simp
        try with_reducible rfl
      rotate_left
      · simp only [Act.put, List.setIfInBounds_toArray, List.set_cons_zero, List.set_cons_succ, i64_w, i32_w]
        rfl
      refine pure_ (i := 6) (N := some 10) (v := ?_) (a' := ?_) #[true, true, true, true, true, true, true, false, false, false, false, false] rfl rfl (by kernel_rfl) (fun _ _ _ h => h) (Or.inl ⟨by rfl, ?_⟩) ?_ ?_
      rotate_left
      · intro w'
        go_simp
        try with_reducible rfl
      rotate_left
      · simp only [Act.put, List.setIfInBounds_toArray, List.set_cons_zero, List.set_cons_succ, i64_w, i32_w]
        rfl
      refine pure_ (i := 7) (N := some 11) (v := ?_) (a' := ?_) #[true, true, true, true, true, true, true, true, false, false, false, false] rfl rfl (by kernel_rfl) (fun _ _ _ h => h) (Or.inl ⟨by rfl, ?_⟩) ?_ ?_
      rotate_left
      · intro w'
        go_simp
        try with_reducible rfl
      rotate_left
      · simp only [Act.put, List.setIfInBounds_toArray, List.set_cons_zero, List.set_cons_succ, i64_w, i32_w]
        rfl
      refine take_ (i := 8) (N := some 12) (v := ?_) (a' := ?_) #[true, true, true, true, true, true, true, true, true, false, false, false] rfl rfl (by kernel_rfl) (fun _ _ _ h => h) (Or.inl ⟨by rfl, ?_⟩) hHeld ?_ ?_
      rotate_left
      · intro w' hSw
        go_simp
        try with_reducible rfl
      rotate_left
      · simp only [Act.put, List.setIfInBounds_toArray, List.set_cons_zero, List.set_cons_succ, i64_w, i32_w]
        rfl
      refine one_ (i := 9) (N := some 13) #[true, true, true, true, true, true, true, true, true, true, false, false] rfl rfl (by kernel_rfl) (by decide) (fun K hK => ?_)
      refine goes_ Try.func60 (by kernel_rfl) rfl #[.slice A0 x.f0.length c0, .slice B0 y0.length d0] (by rfl) rfl rfl (by first | rfl | (simp [Act.eval, Operand.eval]; done) | kernel_rfl) ?_
      refine (Eq.equal_calls A0 B0 c0 d0 x.f0 y0 _ (Kd.C_below HT.out.r0 HB2.out) (Kd.C_below HY.out HB2'.out) HT.out.z0 hy0).mono ?_
      rintro e w3 ⟨rfl, hb3⟩
      refine ⟨_, rfl, ?_⟩
      have HB3 := Aside0.mk (HB2.out.trans (hb3.mono HB2.out.size))
      have HB3' := Aside0.mk (HB2'.out.trans (hb3.mono HB2'.out.size))
      have K3 := Aside0.mk (blk_below K2.out hb3)
      clear hb3
      refine hK.out _ _ (⟨(three_cells K3.out).1, (three_cells K3.out).2.1, (three_cells K3.out).2.2, one_cell (blk_below hc HB3'.out), cell_low HC0.out HB3'.out⟩) (fun hHeld => ?_)
      clear hK K
      refine norm_ (a' := ?_) ?_ ?_
      rotate_left
      · show Act.put _ (some 13) _ = _
        simp only [Act.put, List.setIfInBounds_toArray, List.set_cons_zero, List.set_cons_succ, i64_w, i32_w]
        rfl
      refine pure_ (i := 10) (N := some 14) (v := ?_) (a' := ?_) #[true, true, true, true, true, true, true, true, true, true, true, false] rfl rfl (by kernel_rfl) (fun _ _ _ h => h) (Or.inl ⟨by rfl, ?_⟩) ?_ ?_
      rotate_left
      · intro w'
        go_simp
        try with_reducible rfl
      rotate_left
      · simp only [Act.put, List.setIfInBounds_toArray, List.set_cons_zero, List.set_cons_succ, i64_w, i32_w]
        rfl
      refine pure_ (i := 11) (N := some 3) (v := ?_) (a' := ?_) #[true, true, true, true, true, true, true, true, true, true, true, true] rfl rfl (by kernel_rfl) (fun _ _ _ h => h) (Or.inl ⟨by rfl, ?_⟩) ?_ ?_
      rotate_left
      · intro w'
        go_simp
        try with_reducible rfl
      rotate_left
      · simp only [Act.put, List.setIfInBounds_toArray, List.set_cons_zero, List.set_cons_succ, i64_w, i32_w]
        rfl
      refine done_ (by kernel_rfl) ?_
      go_wp2_with fail
      go_ret
      exact ⟨by rw [HP.out]; rfl, HB3.out⟩
end Go.Proofs.Ytdlkcohfgfnkbaa.Jt
