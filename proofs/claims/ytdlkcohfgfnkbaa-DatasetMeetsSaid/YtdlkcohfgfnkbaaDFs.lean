/- Tables: the document's functions, each as a plain function with rounds, and that the Go function comes to it (as the kit's print.sh wrote them for this seat). -/
import Derived.Test.YtdlkcohfgfnkbaaDFa
namespace Go.Proofs.Ytdlkcohfgfnkbaa.DFns
open Go.RowKit Go.Proofs.Ytdlkcohfgfnkbaa.PDatasetJoins Go.Proofs.YtdlkcohfgfnkbaaW.PrintWords Go.Proofs.YtdlkcohfgfnkbaaW.PrintLast Go.Proofs.YtdlkcohfgfnkbaaW.PrintMore
attribute [local go_sem] max2_int min2_int max_two min_two max_three min_three max_four min_four
set_option linter.unusedVariables false
set_option linter.unusedSimpArgs false

/-! ### windbreakref15_Same: function 36 -/
mutual
def windbreakref15_Same.j0 : Nat → Bool → List Int → List Int → List (List Int) → List Int → List Int → List (List Int) → Option (Bool)
  | 0, _, _, _, _, _, _, _ => none
  | k + 1, x33, x233000, x233001, x233002, x234000, x234001, x234002 => if x33 = true then (some false) else (windbreakref15_Same.l0 k 0 x233000 x233001 x233002 x234000 x234001 x234002)
def windbreakref15_Same.l0 : Nat → Int → List Int → List Int → List (List Int) → List Int → List Int → List (List Int) → Option (Bool)
  | 0, _, _, _, _, _, _, _ => none
  | k + 1, x7, x233000, x233001, x233002, x234000, x234001, x234002 => if x7 < (x233002.length : Int) then (if 0 ≤ x7 then (if x7 < (x234002.length : Int) then ((windbreakref12_SameInts.f k (rd_L1 x233002 x7) (rd_L1 x234002 x7)).bind fun t238 => (if t238 = true then (windbreakref15_Same.l0 k (wrap64 (x7 + 1)) x233000 x233001 x233002 x234000 x234001 x234002) else (some false))) else (none)) else (none)) else (some true)
end
def windbreakref15_Same.f (k : Nat) (l0_0 : List Int) (l0_1 : List Int) (l0_2 : List (List Int)) (l1_0 : List Int) (l1_1 : List Int) (l1_2 : List (List Int)) : Option (Bool) := (windbreakref12_SameInts.f k l0_0 l1_0).bind fun t234 => ((windbreakref12_SameInts.f k l0_1 l1_1).bind fun t235 => (if t234 = true then (if t235 = true then (windbreakref15_Same.j0 k ((l0_2.length : Int) != (l1_2.length : Int)) l0_0 l0_1 l0_2 l1_0 l1_1 l1_2) else (windbreakref15_Same.j0 k true l0_0 l0_1 l0_2 l1_0 l1_1 l1_2)) else (windbreakref15_Same.j0 k true l0_0 l0_1 l0_2 l1_0 l1_1 l1_2)))
theorem windbreakref15_Same.mono_l : ∀ k, (∀ y0 y1 y2 y3 y4 y5 y6, LeO (windbreakref15_Same.j0 k y0 y1 y2 y3 y4 y5 y6) (windbreakref15_Same.j0 (k + 1) y0 y1 y2 y3 y4 y5 y6)) ∧ (∀ y0 y1 y2 y3 y4 y5 y6, LeO (windbreakref15_Same.l0 k y0 y1 y2 y3 y4 y5 y6) (windbreakref15_Same.l0 (k + 1) y0 y1 y2 y3 y4 y5 y6))
  | 0 => ⟨fun _ _ _ _ _ _ _ r h => by simp [windbreakref15_Same.j0] at h, fun _ _ _ _ _ _ _ r h => by simp [windbreakref15_Same.l0] at h⟩
  | k + 1 => by
    obtain ⟨ih0, ih1⟩ := windbreakref15_Same.mono_l k
    refine ⟨?_, ?_⟩
    · intro y0 y1 y2 y3 y4 y5 y6
      unfold windbreakref15_Same.j0
      repeat' first
      | (with_reducible exact ih0 _ _ _ _ _ _ _)
      | (with_reducible exact ih1 _ _ _ _ _ _ _)
      | (with_reducible exact windbreakref12_SameInts.mono _ _ _)
      | (with_reducible exact LeO.refl _)
      | (with_reducible exact LeO.none _)
      | (with_reducible refine LeO.ite ?_ ?_)
      | (with_reducible refine LeO.bind ?_ (fun _ => ?_))
      | exact ih0 _ _ _ _ _ _ _
      | exact ih1 _ _ _ _ _ _ _
      | exact windbreakref12_SameInts.mono _ _ _
      | exact LeO.none _
      | refine LeO.ite ?_ ?_
      | refine LeO.bind ?_ (fun _ => ?_)
    · intro y0 y1 y2 y3 y4 y5 y6
      unfold windbreakref15_Same.l0
      repeat' first
      | (with_reducible exact ih0 _ _ _ _ _ _ _)
      | (with_reducible exact ih1 _ _ _ _ _ _ _)
      | (with_reducible exact windbreakref12_SameInts.mono _ _ _)
      | (with_reducible exact LeO.refl _)
      | (with_reducible exact LeO.none _)
      | (with_reducible refine LeO.ite ?_ ?_)
      | (with_reducible refine LeO.bind ?_ (fun _ => ?_))
      | exact ih0 _ _ _ _ _ _ _
      | exact ih1 _ _ _ _ _ _ _
      | exact windbreakref12_SameInts.mono _ _ _
      | exact LeO.none _
      | refine LeO.ite ?_ ?_
      | refine LeO.bind ?_ (fun _ => ?_)
theorem windbreakref15_Same.mono : ∀ a0 a1 a2 a3 a4 a5 k, LeO (windbreakref15_Same.f k a0 a1 a2 a3 a4 a5) (windbreakref15_Same.f (k + 1) a0 a1 a2 a3 a4 a5) := by
  intro a0 a1 a2 a3 a4 a5 k
  obtain ⟨ih0, ih1⟩ := windbreakref15_Same.mono_l k
  unfold windbreakref15_Same.f
  repeat' first
      | (with_reducible exact ih0 _ _ _ _ _ _ _)
      | (with_reducible exact ih1 _ _ _ _ _ _ _)
      | (with_reducible exact windbreakref12_SameInts.mono _ _ _)
      | (with_reducible exact LeO.refl _)
      | (with_reducible exact LeO.none _)
      | (with_reducible refine LeO.ite ?_ ?_)
      | (with_reducible refine LeO.bind ?_ (fun _ => ?_))
      | exact ih0 _ _ _ _ _ _ _
      | exact ih1 _ _ _ _ _ _ _
      | exact windbreakref12_SameInts.mono _ _ _
      | exact LeO.none _
      | refine LeO.ite ?_ ?_
      | refine LeO.bind ?_ (fun _ => ?_)
set_option maxHeartbeats 8000000 in
set_option maxRecDepth 100000 in
theorem windbreakref15_Same.calls (k : Nat) (A0_0 : Option Addr) (c0_0 : Nat) (l0_0 : List Int) (A0_1 : Option Addr) (c0_1 : Nat) (l0_1 : List Int) (A0_2 : Option Addr) (c0_2 : Nat) (l0_2 : List (List Int)) (A1_0 : Option Addr) (c1_0 : Nat) (l1_0 : List Int) (A1_1 : Option Addr) (c1_1 : Nat) (l1_1 : List Int) (A1_2 : Option Addr) (c1_2 : Nat) (l1_2 : List (List Int)) (r : Bool) (w : World) (hr0_0 : Kd.C (Kd.int .i64) w A0_0 l0_0.length l0_0) (hc0_0 : l0_0.length ≤ c0_0) (hr0_1 : Kd.C (Kd.int .i64) w A0_1 l0_1.length l0_1) (hc0_1 : l0_1.length ≤ c0_1) (hr0_2 : Kd.C (Kd.slice 3 (Kd.int .i64)) w A0_2 l0_2.length l0_2) (hc0_2 : l0_2.length ≤ c0_2) (hr1_0 : Kd.C (Kd.int .i64) w A1_0 l1_0.length l1_0) (hc1_0 : l1_0.length ≤ c1_0) (hr1_1 : Kd.C (Kd.int .i64) w A1_1 l1_1.length l1_1) (hc1_1 : l1_1.length ≤ c1_1) (hr1_2 : Kd.C (Kd.slice 3 (Kd.int .i64)) w A1_2 l1_2.length l1_2) (hc1_2 : l1_2.length ≤ c1_2) (h : windbreakref15_Same.f k l0_0 l0_1 l0_2 l1_0 l1_1 l1_2 = some r) :
    Calls Try.prog 36 #[.agg #[.slice A0_0 l0_0.length c0_0, .slice A0_1 l0_1.length c0_1, .slice A0_2 l0_2.length c0_2], .agg #[.slice A1_0 l1_0.length c1_0, .slice A1_1 l1_1.length c1_1, .slice A1_2 l1_2.length c1_2]] w fun e w' => e = .returned (.bool r) ∧ Below w.heap.size w w' := by
  have hu43 := Try.underlying43
  have HR0_0 := Aside0.mk hr0_0
  have HC0_0 := Aside0.mk hc0_0
  clear hr0_0 hc0_0
  have HR0_1 := Aside0.mk hr0_1
  have HC0_1 := Aside0.mk hc0_1
  clear hr0_1 hc0_1
  have HR0_2 := Aside0.mk hr0_2
  have HC0_2 := Aside0.mk hc0_2
  clear hr0_2 hc0_2
  have HR1_0 := Aside0.mk hr1_0
  have HC1_0 := Aside0.mk hc1_0
  clear hr1_0 hc1_0
  have HR1_1 := Aside0.mk hr1_1
  have HC1_1 := Aside0.mk hc1_1
  clear hr1_1 hc1_1
  have HR1_2 := Aside0.mk hr1_2
  have HC1_2 := Aside0.mk hc1_2
  clear hr1_2 hc1_2
  have HB := Aside0.mk (Below.refl w.heap.size w)
  have H : ((windbreakref12_SameInts.f k l0_0 l1_0).bind fun t234 => ((windbreakref12_SameInts.f k l0_1 l1_1).bind fun t235 => (if t234 = true then (if t235 = true then (windbreakref15_Same.j0 k ((l0_2.length : Int) != (l1_2.length : Int)) l0_0 l0_1 l0_2 l1_0 l1_1 l1_2) else (windbreakref15_Same.j0 k true l0_0 l0_1 l0_2 l1_0 l1_1 l1_2)) else (windbreakref15_Same.j0 k true l0_0 l0_1 l0_2 l1_0 l1_1 l1_2)))) = some r := h
  clear h
  replace H := Option.bind_eq_some_iff.mp H
  obtain ⟨t234, A30, H⟩ := H
  replace H : ((windbreakref12_SameInts.f k l0_1 l1_1).bind fun t235 => (if t234 = true then (if t235 = true then (windbreakref15_Same.j0 k ((l0_2.length : Int) != (l1_2.length : Int)) l0_0 l0_1 l0_2 l1_0 l1_1 l1_2) else (windbreakref15_Same.j0 k true l0_0 l0_1 l0_2 l1_0 l1_1 l1_2)) else (windbreakref15_Same.j0 k true l0_0 l0_1 l0_2 l1_0 l1_1 l1_2))) = some r := H
  have A3 := Aside0.mk A30
  clear A30
  replace H := Option.bind_eq_some_iff.mp H
  obtain ⟨t235, A40, H⟩ := H
  replace H : (if t234 = true then (if t235 = true then (windbreakref15_Same.j0 k ((l0_2.length : Int) != (l1_2.length : Int)) l0_0 l0_1 l0_2 l1_0 l1_1 l1_2) else (windbreakref15_Same.j0 k true l0_0 l0_1 l0_2 l1_0 l1_1 l1_2)) else (windbreakref15_Same.j0 k true l0_0 l0_1 l0_2 l1_0 l1_1 l1_2)) = some r := H
  have A4 := Aside0.mk A40
  clear A40
  have HC5 := Aside0.mk H
  clear H
  go_enter Try.func36, Try.ntmps36
  go_upto_region 3 with (first | ((with_reducible refine gate_dst (N := 2) rfl ?_); (try (refine gate_guard (by rfl) ?_; dsimp only)); refine box_event ?hg (N := 2) ?hd (cs := #[.slice A0_0 l0_0.length c0_0, .slice A0_1 l0_1.length c0_1, .slice A0_2 l0_2.length c0_2]) (t := 43) ?hr ?_; (case hd => rfl); (case hg => rfl); (case hr => first | (go_simp; done) | (go_simp; rfl)); intro gb232 hg w6 hbox hb; have n0_ := Aside0.mk (below_step (by repeat (first | (with_reducible first | exact HB.out | apply below_alloc | apply pw_below_drewN | apply below_drew1) | exact HB.out)) hb); have n1_ := Aside0.mk (hbox); have n2_ := Aside0.mk ((by rw [hg]; exact (below_size (by repeat (first | (with_reducible first | exact HB.out | apply below_alloc | apply pw_below_drewN | apply below_drew1) | exact HB.out))) : w.heap.size ≤ gb232)); have n3_ := Aside0.mk ((by rw [hg]; exact (below_size (by repeat (first | (with_reducible first | exact HB.out | apply below_alloc | apply pw_below_drewN | apply below_drew1) | exact HB.out))) : w.heap.size ≤ gb232)); clear HB; have HB := n0_; have BK232 := n1_; have GW232 := n2_; have GE232 := n3_; clear n0_ n1_ n2_ n3_; clear hb hbox hg) | ((with_reducible refine gate_dst (N := 3) rfl ?_); (try (refine gate_guard (by rfl) ?_; dsimp only)); refine box_event ?hg (N := 3) ?hd (cs := #[.slice A1_0 l1_0.length c1_0, .slice A1_1 l1_1.length c1_1, .slice A1_2 l1_2.length c1_2]) (t := 43) ?hr ?_; (case hd => rfl); (case hg => rfl); (case hr => first | (go_simp; done) | (go_simp; rfl)); intro gb233 hg w7 hbox hb; have n0_ := Aside0.mk (blk_below (g := gb232) (o := .cells #[.slice A0_0 l0_0.length c0_0, .slice A0_1 l0_1.length c0_1, .slice A0_2 l0_2.length c0_2] 43 (0, 0)) (by (with_reducible repeat (first | refine blk_drewN ?_ _ | refine blk_drew ?_ | refine blk_alloc ?_ _)); exact BK232.out) hb); have n1_ := Aside0.mk (below_step (by repeat (first | (with_reducible first | exact HB.out | apply below_alloc | apply pw_below_drewN | apply below_drew1 | refine below_set ?_ GE232.out) | exact HB.out)) hb); have n2_ := Aside0.mk (hbox); have n3_ := Aside0.mk ((by rw [hg]; exact (below_size (by repeat (first | (with_reducible first | exact HB.out | apply below_alloc | apply pw_below_drewN | apply below_drew1 | refine below_set ?_ GE232.out) | exact HB.out))) : w.heap.size ≤ gb233)); have n4_ := Aside0.mk ((by rw [hg]; exact (below_size (by repeat (first | (with_reducible first | exact HB.out | apply below_alloc | apply pw_below_drewN | apply below_drew1 | refine below_set ?_ GE232.out) | exact HB.out))) : w.heap.size ≤ gb233)); have n5_ := Aside0.mk ((by rw [hg]; exact Nat.ne_of_lt (blk_lt (g := gb232) (o := .cells #[.slice A0_0 l0_0.length c0_0, .slice A0_1 l0_1.length c0_1, .slice A0_2 l0_2.length c0_2] 43 (0, 0)) (by (with_reducible repeat (first | refine blk_drewN ?_ _ | refine blk_drew ?_ | refine blk_alloc ?_ _)); exact BK232.out)) : gb232 ≠ gb233)); have n6_ := Aside0.mk ((by rw [hg]; exact Nat.ne_of_gt (blk_lt (g := gb232) (o := .cells #[.slice A0_0 l0_0.length c0_0, .slice A0_1 l0_1.length c0_1, .slice A0_2 l0_2.length c0_2] 43 (0, 0)) (by (with_reducible repeat (first | refine blk_drewN ?_ _ | refine blk_drew ?_ | refine blk_alloc ?_ _)); exact BK232.out)) : gb233 ≠ gb232)); clear BK232; clear HB; have BK232 := n0_; have HB := n1_; have BK233 := n2_; have GW233 := n3_; have GE233 := n4_; have NB232_233 := n5_; have NB233_232 := n6_; clear n0_ n1_ n2_ n3_ n4_ n5_ n6_; clear hb hbox hg; have hnb8 := NB232_233.out; have hnc8 := NB233_232.out; have hcz9_0 : w7.cell? ⟨gb232, 0, none⟩ = some (.slice A0_0 l0_0.length c0_0) := (blk_cell BK232.out 0).trans rfl; have hcz9_1 : w7.cell? ⟨gb232, 1, none⟩ = some (.slice A0_1 l0_1.length c0_1) := (blk_cell BK232.out 1).trans rfl; have hcz9_2 : w7.cell? ⟨gb232, 2, none⟩ = some (.slice A0_2 l0_2.length c0_2) := (blk_cell BK232.out 2).trans rfl; have hfz9_0 := blk_frozen BK232.out 0; have hfz9_1 := blk_frozen BK232.out 1; have hfz9_2 := blk_frozen BK232.out 2; have hcz10_0 : w7.cell? ⟨gb233, 0, none⟩ = some (.slice A1_0 l1_0.length c1_0) := (blk_cell BK233.out 0).trans rfl; have hcz10_1 : w7.cell? ⟨gb233, 1, none⟩ = some (.slice A1_1 l1_1.length c1_1) := (blk_cell BK233.out 1).trans rfl; have hcz10_2 : w7.cell? ⟨gb233, 2, none⟩ = some (.slice A1_2 l1_2.length c1_2) := (blk_cell BK233.out 2).trans rfl; have hfz10_0 := blk_frozen BK233.out 0; have hfz10_1 := blk_frozen BK233.out 1; have hfz10_2 := blk_frozen BK233.out 2) | (go_at_call 31; (with_reducible refine (windbreakref12_SameInts.calls k _ _ l0_0 _ _ l1_0 t234 _ ?side1 ?side2 ?side3 ?side4 A3.out).mono ?_); (case side1 => repeat (first | exact (Kd.C_below HR0_0.out HB.out) | (with_reducible refine Kd.C_alloc ?_ _) | (with_reducible refine Kd.C_drewN ?_ _) | (with_reducible refine Kd.C_drew ?_))); (case side2 => exact HC0_0.out); (case side3 => repeat (first | exact (Kd.C_below HR1_0.out HB.out) | (with_reducible refine Kd.C_alloc ?_ _) | (with_reducible refine Kd.C_drewN ?_ _) | (with_reducible refine Kd.C_drew ?_))); (case side4 => exact HC1_0.out); rintro e w' ⟨rfl, ⟨nd, rfl⟩⟩; (try first | exact ⟨rfl, _, World.drewN_drewN _ _ _⟩ | exact ⟨rfl, _, Eq.trans (World.drewN_drewN _ _ _) (congrArg (World.drewN _) (Nat.add_assoc _ _ _))⟩)) | (go_at_call 31; (with_reducible refine (windbreakref12_SameInts.calls k _ _ l0_1 _ _ l1_1 t235 _ ?side1 ?side2 ?side3 ?side4 A4.out).mono ?_); (case side1 => repeat (first | exact (Kd.C_below HR0_1.out (by repeat (first | (with_reducible first | exact HB.out | apply below_alloc | apply pw_below_drewN | apply below_drew1 | refine below_set ?_ GE232.out | refine below_set ?_ GE233.out) | exact HB.out))) | (with_reducible refine Kd.C_alloc ?_ _) | (with_reducible refine Kd.C_drewN ?_ _) | (with_reducible refine Kd.C_drew ?_))); (case side2 => exact HC0_1.out); (case side3 => repeat (first | exact (Kd.C_below HR1_1.out (by repeat (first | (with_reducible first | exact HB.out | apply below_alloc | apply pw_below_drewN | apply below_drew1 | refine below_set ?_ GE232.out | refine below_set ?_ GE233.out) | exact HB.out))) | (with_reducible refine Kd.C_alloc ?_ _) | (with_reducible refine Kd.C_drewN ?_ _) | (with_reducible refine Kd.C_drew ?_))); (case side4 => exact HC1_1.out); rintro e w' ⟨rfl, ⟨nd, rfl⟩⟩; (try first | exact ⟨rfl, _, World.drewN_drewN _ _ _⟩ | exact ⟨rfl, _, Eq.trans (World.drewN_drewN _ _ _) (congrArg (World.drewN _) (Nat.add_assoc _ _ _))⟩)))
  repeat (go_quiet (first | ((with_reducible refine gate_dst (N := 2) rfl ?_); (try (refine gate_guard (by rfl) ?_; dsimp only)); refine box_event ?hg (N := 2) ?hd (cs := #[.slice A0_0 l0_0.length c0_0, .slice A0_1 l0_1.length c0_1, .slice A0_2 l0_2.length c0_2]) (t := 43) ?hr ?_; (case hd => rfl); (case hg => rfl); (case hr => first | (go_simp; done) | (go_simp; rfl)); intro gb232 hg w6 hbox hb; have n0_ := Aside0.mk (below_step (by repeat (first | (with_reducible first | exact HB.out | apply below_alloc | apply pw_below_drewN | apply below_drew1) | exact HB.out)) hb); have n1_ := Aside0.mk (hbox); have n2_ := Aside0.mk ((by rw [hg]; exact (below_size (by repeat (first | (with_reducible first | exact HB.out | apply below_alloc | apply pw_below_drewN | apply below_drew1) | exact HB.out))) : w.heap.size ≤ gb232)); have n3_ := Aside0.mk ((by rw [hg]; exact (below_size (by repeat (first | (with_reducible first | exact HB.out | apply below_alloc | apply pw_below_drewN | apply below_drew1) | exact HB.out))) : w.heap.size ≤ gb232)); clear HB; have HB := n0_; have BK232 := n1_; have GW232 := n2_; have GE232 := n3_; clear n0_ n1_ n2_ n3_; clear hb hbox hg) | ((with_reducible refine gate_dst (N := 3) rfl ?_); (try (refine gate_guard (by rfl) ?_; dsimp only)); refine box_event ?hg (N := 3) ?hd (cs := #[.slice A1_0 l1_0.length c1_0, .slice A1_1 l1_1.length c1_1, .slice A1_2 l1_2.length c1_2]) (t := 43) ?hr ?_; (case hd => rfl); (case hg => rfl); (case hr => first | (go_simp; done) | (go_simp; rfl)); intro gb233 hg w7 hbox hb; have n0_ := Aside0.mk (blk_below (g := gb232) (o := .cells #[.slice A0_0 l0_0.length c0_0, .slice A0_1 l0_1.length c0_1, .slice A0_2 l0_2.length c0_2] 43 (0, 0)) (by (with_reducible repeat (first | refine blk_drewN ?_ _ | refine blk_drew ?_ | refine blk_alloc ?_ _)); exact BK232.out) hb); have n1_ := Aside0.mk (below_step (by repeat (first | (with_reducible first | exact HB.out | apply below_alloc | apply pw_below_drewN | apply below_drew1 | refine below_set ?_ GE232.out) | exact HB.out)) hb); have n2_ := Aside0.mk (hbox); have n3_ := Aside0.mk ((by rw [hg]; exact (below_size (by repeat (first | (with_reducible first | exact HB.out | apply below_alloc | apply pw_below_drewN | apply below_drew1 | refine below_set ?_ GE232.out) | exact HB.out))) : w.heap.size ≤ gb233)); have n4_ := Aside0.mk ((by rw [hg]; exact (below_size (by repeat (first | (with_reducible first | exact HB.out | apply below_alloc | apply pw_below_drewN | apply below_drew1 | refine below_set ?_ GE232.out) | exact HB.out))) : w.heap.size ≤ gb233)); have n5_ := Aside0.mk ((by rw [hg]; exact Nat.ne_of_lt (blk_lt (g := gb232) (o := .cells #[.slice A0_0 l0_0.length c0_0, .slice A0_1 l0_1.length c0_1, .slice A0_2 l0_2.length c0_2] 43 (0, 0)) (by (with_reducible repeat (first | refine blk_drewN ?_ _ | refine blk_drew ?_ | refine blk_alloc ?_ _)); exact BK232.out)) : gb232 ≠ gb233)); have n6_ := Aside0.mk ((by rw [hg]; exact Nat.ne_of_gt (blk_lt (g := gb232) (o := .cells #[.slice A0_0 l0_0.length c0_0, .slice A0_1 l0_1.length c0_1, .slice A0_2 l0_2.length c0_2] 43 (0, 0)) (by (with_reducible repeat (first | refine blk_drewN ?_ _ | refine blk_drew ?_ | refine blk_alloc ?_ _)); exact BK232.out)) : gb233 ≠ gb232)); clear BK232; clear HB; have BK232 := n0_; have HB := n1_; have BK233 := n2_; have GW233 := n3_; have GE233 := n4_; have NB232_233 := n5_; have NB233_232 := n6_; clear n0_ n1_ n2_ n3_ n4_ n5_ n6_; clear hb hbox hg; have hnb8 := NB232_233.out; have hnc8 := NB233_232.out; have hcz9_0 : w7.cell? ⟨gb232, 0, none⟩ = some (.slice A0_0 l0_0.length c0_0) := (blk_cell BK232.out 0).trans rfl; have hcz9_1 : w7.cell? ⟨gb232, 1, none⟩ = some (.slice A0_1 l0_1.length c0_1) := (blk_cell BK232.out 1).trans rfl; have hcz9_2 : w7.cell? ⟨gb232, 2, none⟩ = some (.slice A0_2 l0_2.length c0_2) := (blk_cell BK232.out 2).trans rfl; have hfz9_0 := blk_frozen BK232.out 0; have hfz9_1 := blk_frozen BK232.out 1; have hfz9_2 := blk_frozen BK232.out 2; have hcz10_0 : w7.cell? ⟨gb233, 0, none⟩ = some (.slice A1_0 l1_0.length c1_0) := (blk_cell BK233.out 0).trans rfl; have hcz10_1 : w7.cell? ⟨gb233, 1, none⟩ = some (.slice A1_1 l1_1.length c1_1) := (blk_cell BK233.out 1).trans rfl; have hcz10_2 : w7.cell? ⟨gb233, 2, none⟩ = some (.slice A1_2 l1_2.length c1_2) := (blk_cell BK233.out 2).trans rfl; have hfz10_0 := blk_frozen BK233.out 0; have hfz10_1 := blk_frozen BK233.out 1; have hfz10_2 := blk_frozen BK233.out 2) | (go_at_call 31; (with_reducible refine (windbreakref12_SameInts.calls k _ _ l0_0 _ _ l1_0 t234 _ ?side1 ?side2 ?side3 ?side4 A3.out).mono ?_); (case side1 => repeat (first | exact (Kd.C_below HR0_0.out HB.out) | (with_reducible refine Kd.C_alloc ?_ _) | (with_reducible refine Kd.C_drewN ?_ _) | (with_reducible refine Kd.C_drew ?_))); (case side2 => exact HC0_0.out); (case side3 => repeat (first | exact (Kd.C_below HR1_0.out HB.out) | (with_reducible refine Kd.C_alloc ?_ _) | (with_reducible refine Kd.C_drewN ?_ _) | (with_reducible refine Kd.C_drew ?_))); (case side4 => exact HC1_0.out); rintro e w' ⟨rfl, ⟨nd, rfl⟩⟩; (try first | exact ⟨rfl, _, World.drewN_drewN _ _ _⟩ | exact ⟨rfl, _, Eq.trans (World.drewN_drewN _ _ _) (congrArg (World.drewN _) (Nat.add_assoc _ _ _))⟩)) | (go_at_call 31; (with_reducible refine (windbreakref12_SameInts.calls k _ _ l0_1 _ _ l1_1 t235 _ ?side1 ?side2 ?side3 ?side4 A4.out).mono ?_); (case side1 => repeat (first | exact (Kd.C_below HR0_1.out (by repeat (first | (with_reducible first | exact HB.out | apply below_alloc | apply pw_below_drewN | apply below_drew1 | refine below_set ?_ GE232.out | refine below_set ?_ GE233.out) | exact HB.out))) | (with_reducible refine Kd.C_alloc ?_ _) | (with_reducible refine Kd.C_drewN ?_ _) | (with_reducible refine Kd.C_drew ?_))); (case side2 => exact HC0_1.out); (case side3 => repeat (first | exact (Kd.C_below HR1_1.out (by repeat (first | (with_reducible first | exact HB.out | apply below_alloc | apply pw_below_drewN | apply below_drew1 | refine below_set ?_ GE232.out | refine below_set ?_ GE233.out) | exact HB.out))) | (with_reducible refine Kd.C_alloc ?_ _) | (with_reducible refine Kd.C_drewN ?_ _) | (with_reducible refine Kd.C_drew ?_))); (case side4 => exact HC1_1.out); rintro e w' ⟨rfl, ⟨nd, rfl⟩⟩; (try first | exact ⟨rfl, _, World.drewN_drewN _ _ _⟩ | exact ⟨rfl, _, Eq.trans (World.drewN_drewN _ _ _) (congrArg (World.drewN _) (Nat.add_assoc _ _ _))⟩))); go_upto_region 3 with (first | ((with_reducible refine gate_dst (N := 2) rfl ?_); (try (refine gate_guard (by rfl) ?_; dsimp only)); refine box_event ?hg (N := 2) ?hd (cs := #[.slice A0_0 l0_0.length c0_0, .slice A0_1 l0_1.length c0_1, .slice A0_2 l0_2.length c0_2]) (t := 43) ?hr ?_; (case hd => rfl); (case hg => rfl); (case hr => first | (go_simp; done) | (go_simp; rfl)); intro gb232 hg w6 hbox hb; have n0_ := Aside0.mk (below_step (by repeat (first | (with_reducible first | exact HB.out | apply below_alloc | apply pw_below_drewN | apply below_drew1) | exact HB.out)) hb); have n1_ := Aside0.mk (hbox); have n2_ := Aside0.mk ((by rw [hg]; exact (below_size (by repeat (first | (with_reducible first | exact HB.out | apply below_alloc | apply pw_below_drewN | apply below_drew1) | exact HB.out))) : w.heap.size ≤ gb232)); have n3_ := Aside0.mk ((by rw [hg]; exact (below_size (by repeat (first | (with_reducible first | exact HB.out | apply below_alloc | apply pw_below_drewN | apply below_drew1) | exact HB.out))) : w.heap.size ≤ gb232)); clear HB; have HB := n0_; have BK232 := n1_; have GW232 := n2_; have GE232 := n3_; clear n0_ n1_ n2_ n3_; clear hb hbox hg) | ((with_reducible refine gate_dst (N := 3) rfl ?_); (try (refine gate_guard (by rfl) ?_; dsimp only)); refine box_event ?hg (N := 3) ?hd (cs := #[.slice A1_0 l1_0.length c1_0, .slice A1_1 l1_1.length c1_1, .slice A1_2 l1_2.length c1_2]) (t := 43) ?hr ?_; (case hd => rfl); (case hg => rfl); (case hr => first | (go_simp; done) | (go_simp; rfl)); intro gb233 hg w7 hbox hb; have n0_ := Aside0.mk (blk_below (g := gb232) (o := .cells #[.slice A0_0 l0_0.length c0_0, .slice A0_1 l0_1.length c0_1, .slice A0_2 l0_2.length c0_2] 43 (0, 0)) (by (with_reducible repeat (first | refine blk_drewN ?_ _ | refine blk_drew ?_ | refine blk_alloc ?_ _)); exact BK232.out) hb); have n1_ := Aside0.mk (below_step (by repeat (first | (with_reducible first | exact HB.out | apply below_alloc | apply pw_below_drewN | apply below_drew1 | refine below_set ?_ GE232.out) | exact HB.out)) hb); have n2_ := Aside0.mk (hbox); have n3_ := Aside0.mk ((by rw [hg]; exact (below_size (by repeat (first | (with_reducible first | exact HB.out | apply below_alloc | apply pw_below_drewN | apply below_drew1 | refine below_set ?_ GE232.out) | exact HB.out))) : w.heap.size ≤ gb233)); have n4_ := Aside0.mk ((by rw [hg]; exact (below_size (by repeat (first | (with_reducible first | exact HB.out | apply below_alloc | apply pw_below_drewN | apply below_drew1 | refine below_set ?_ GE232.out) | exact HB.out))) : w.heap.size ≤ gb233)); have n5_ := Aside0.mk ((by rw [hg]; exact Nat.ne_of_lt (blk_lt (g := gb232) (o := .cells #[.slice A0_0 l0_0.length c0_0, .slice A0_1 l0_1.length c0_1, .slice A0_2 l0_2.length c0_2] 43 (0, 0)) (by (with_reducible repeat (first | refine blk_drewN ?_ _ | refine blk_drew ?_ | refine blk_alloc ?_ _)); exact BK232.out)) : gb232 ≠ gb233)); have n6_ := Aside0.mk ((by rw [hg]; exact Nat.ne_of_gt (blk_lt (g := gb232) (o := .cells #[.slice A0_0 l0_0.length c0_0, .slice A0_1 l0_1.length c0_1, .slice A0_2 l0_2.length c0_2] 43 (0, 0)) (by (with_reducible repeat (first | refine blk_drewN ?_ _ | refine blk_drew ?_ | refine blk_alloc ?_ _)); exact BK232.out)) : gb233 ≠ gb232)); clear BK232; clear HB; have BK232 := n0_; have HB := n1_; have BK233 := n2_; have GW233 := n3_; have GE233 := n4_; have NB232_233 := n5_; have NB233_232 := n6_; clear n0_ n1_ n2_ n3_ n4_ n5_ n6_; clear hb hbox hg; have hnb8 := NB232_233.out; have hnc8 := NB233_232.out; have hcz9_0 : w7.cell? ⟨gb232, 0, none⟩ = some (.slice A0_0 l0_0.length c0_0) := (blk_cell BK232.out 0).trans rfl; have hcz9_1 : w7.cell? ⟨gb232, 1, none⟩ = some (.slice A0_1 l0_1.length c0_1) := (blk_cell BK232.out 1).trans rfl; have hcz9_2 : w7.cell? ⟨gb232, 2, none⟩ = some (.slice A0_2 l0_2.length c0_2) := (blk_cell BK232.out 2).trans rfl; have hfz9_0 := blk_frozen BK232.out 0; have hfz9_1 := blk_frozen BK232.out 1; have hfz9_2 := blk_frozen BK232.out 2; have hcz10_0 : w7.cell? ⟨gb233, 0, none⟩ = some (.slice A1_0 l1_0.length c1_0) := (blk_cell BK233.out 0).trans rfl; have hcz10_1 : w7.cell? ⟨gb233, 1, none⟩ = some (.slice A1_1 l1_1.length c1_1) := (blk_cell BK233.out 1).trans rfl; have hcz10_2 : w7.cell? ⟨gb233, 2, none⟩ = some (.slice A1_2 l1_2.length c1_2) := (blk_cell BK233.out 2).trans rfl; have hfz10_0 := blk_frozen BK233.out 0; have hfz10_1 := blk_frozen BK233.out 1; have hfz10_2 := blk_frozen BK233.out 2) | (go_at_call 31; (with_reducible refine (windbreakref12_SameInts.calls k _ _ l0_0 _ _ l1_0 t234 _ ?side1 ?side2 ?side3 ?side4 A3.out).mono ?_); (case side1 => repeat (first | exact (Kd.C_below HR0_0.out HB.out) | (with_reducible refine Kd.C_alloc ?_ _) | (with_reducible refine Kd.C_drewN ?_ _) | (with_reducible refine Kd.C_drew ?_))); (case side2 => exact HC0_0.out); (case side3 => repeat (first | exact (Kd.C_below HR1_0.out HB.out) | (with_reducible refine Kd.C_alloc ?_ _) | (with_reducible refine Kd.C_drewN ?_ _) | (with_reducible refine Kd.C_drew ?_))); (case side4 => exact HC1_0.out); rintro e w' ⟨rfl, ⟨nd, rfl⟩⟩; (try first | exact ⟨rfl, _, World.drewN_drewN _ _ _⟩ | exact ⟨rfl, _, Eq.trans (World.drewN_drewN _ _ _) (congrArg (World.drewN _) (Nat.add_assoc _ _ _))⟩)) | (go_at_call 31; (with_reducible refine (windbreakref12_SameInts.calls k _ _ l0_1 _ _ l1_1 t235 _ ?side1 ?side2 ?side3 ?side4 A4.out).mono ?_); (case side1 => repeat (first | exact (Kd.C_below HR0_1.out (by repeat (first | (with_reducible first | exact HB.out | apply below_alloc | apply pw_below_drewN | apply below_drew1 | refine below_set ?_ GE232.out | refine below_set ?_ GE233.out) | exact HB.out))) | (with_reducible refine Kd.C_alloc ?_ _) | (with_reducible refine Kd.C_drewN ?_ _) | (with_reducible refine Kd.C_drew ?_))); (case side2 => exact HC0_1.out); (case side3 => repeat (first | exact (Kd.C_below HR1_1.out (by repeat (first | (with_reducible first | exact HB.out | apply below_alloc | apply pw_below_drewN | apply below_drew1 | refine below_set ?_ GE232.out | refine below_set ?_ GE233.out) | exact HB.out))) | (with_reducible refine Kd.C_alloc ?_ _) | (with_reducible refine Kd.C_drewN ?_ _) | (with_reducible refine Kd.C_drew ?_))); (case side4 => exact HC1_1.out); rintro e w' ⟨rfl, ⟨nd, rfl⟩⟩; (try first | exact ⟨rfl, _, World.drewN_drewN _ _ _⟩ | exact ⟨rfl, _, Eq.trans (World.drewN_drewN _ _ _) (congrArg (World.drewN _) (Nat.add_assoc _ _ _))⟩))))
  (try simp only [Act.put, List.setIfInBounds_toArray, List.set_cons_zero, List.set_cons_succ])
  go_cut [33] (fun v33 wc => ∃ (kq : Nat) (x33_4 : Bool), v33 = .bool x33_4 ∧ Aside0 (windbreakref15_Same.j0 kq x33_4 l0_0 l0_1 l0_2 l1_0 l1_1 l1_2 = some r) ∧ Aside0 (kq ≤ k) ∧ Aside0 (wc.heap[gb232]? = some (.cells #[(.slice A0_0 l0_0.length c0_0), (.slice A0_1 l0_1.length c0_1), (.slice A0_2 l0_2.length c0_2)] 43 (0, 0))) ∧ Aside0 (wc.heap[gb233]? = some (.cells #[(.slice A1_0 l1_0.length c1_0), (.slice A1_1 l1_1.length c1_1), (.slice A1_2 l1_2.length c1_2)] 43 (0, 0))) ∧ Aside0 (Below w.heap.size w wc))
  case first =>
    have H := HC5.out
    clear HC5
    by_cases c11 : t234 = true
    · subst c11
      have H1 : (if t235 = true then (windbreakref15_Same.j0 k ((l0_2.length : Int) != (l1_2.length : Int)) l0_0 l0_1 l0_2 l1_0 l1_1 l1_2) else (windbreakref15_Same.j0 k true l0_0 l0_1 l0_2 l1_0 l1_1 l1_2)) = some r := by rw [if_pos rfl] at H; exact H
      clear H
      have H := H1
      clear H1
      by_cases c12 : t235 = true
      · subst c12
        have H1 : (windbreakref15_Same.j0 k ((l0_2.length : Int) != (l1_2.length : Int)) l0_0 l0_1 l0_2 l1_0 l1_1 l1_2) = some r := by rw [if_pos rfl] at H; exact H
        clear H
        have H := H1
        clear H1
        have H' := Aside0.mk H
        clear H
        have hnb13 := NB232_233.out
        have hnc13 := NB233_232.out
        have hcz14_0 : w7.cell? ⟨gb232, 0, none⟩ = some (.slice A0_0 l0_0.length c0_0) := (blk_cell BK232.out 0).trans rfl
        have hcz14_1 : w7.cell? ⟨gb232, 1, none⟩ = some (.slice A0_1 l0_1.length c0_1) := (blk_cell BK232.out 1).trans rfl
        have hcz14_2 : w7.cell? ⟨gb232, 2, none⟩ = some (.slice A0_2 l0_2.length c0_2) := (blk_cell BK232.out 2).trans rfl
        have hfz14_0 := blk_frozen BK232.out 0
        have hfz14_1 := blk_frozen BK232.out 1
        have hfz14_2 := blk_frozen BK232.out 2
        have hcz15_0 : w7.cell? ⟨gb233, 0, none⟩ = some (.slice A1_0 l1_0.length c1_0) := (blk_cell BK233.out 0).trans rfl
        have hcz15_1 : w7.cell? ⟨gb233, 1, none⟩ = some (.slice A1_1 l1_1.length c1_1) := (blk_cell BK233.out 1).trans rfl
        have hcz15_2 : w7.cell? ⟨gb233, 2, none⟩ = some (.slice A1_2 l1_2.length c1_2) := (blk_cell BK233.out 2).trans rfl
        have hfz15_0 := blk_frozen BK233.out 0
        have hfz15_1 := blk_frozen BK233.out 1
        have hfz15_2 := blk_frozen BK233.out 2
        go_wp2
        repeat (go_quiet (fail); try go_wp2)
        go_meet
        case rel => exact ⟨_, (((l0_2.length : Int) != (l1_2.length : Int))), (by first | rfl | (simp; done) | (simp [*]; done)), H', ⟨by first | omega | exact Nat.le_refl _⟩, ⟨by (with_reducible repeat (first | refine blk_drewN ?_ _ | refine blk_drew ?_ | refine blk_alloc ?_ _)); exact BK232.out⟩, ⟨by (with_reducible repeat (first | refine blk_drewN ?_ _ | refine blk_drew ?_ | refine blk_alloc ?_ _)); exact BK233.out⟩, ⟨by repeat (first | (with_reducible first | exact HB.out | apply below_alloc | apply pw_below_drewN | apply below_drew1 | refine below_set ?_ GE232.out | refine below_set ?_ GE233.out) | exact HB.out)⟩⟩
      · replace c12 := Bool.eq_false_iff.mpr c12
        subst c12
        have H1 : (windbreakref15_Same.j0 k true l0_0 l0_1 l0_2 l1_0 l1_1 l1_2) = some r := by rw [if_neg (show ¬ (false = true) by decide)] at H; exact H
        clear H
        have H := H1
        clear H1
        have H' := Aside0.mk H
        clear H
        go_wp2
        repeat (go_quiet (fail); try go_wp2)
        go_meet
        case rel => exact ⟨_, (true), (by first | rfl | (simp; done) | (simp [*]; done)), H', ⟨by first | omega | exact Nat.le_refl _⟩, ⟨by (with_reducible repeat (first | refine blk_drewN ?_ _ | refine blk_drew ?_ | refine blk_alloc ?_ _)); exact BK232.out⟩, ⟨by (with_reducible repeat (first | refine blk_drewN ?_ _ | refine blk_drew ?_ | refine blk_alloc ?_ _)); exact BK233.out⟩, ⟨by repeat (first | (with_reducible first | exact HB.out | apply below_alloc | apply pw_below_drewN | apply below_drew1 | refine below_set ?_ GE232.out | refine below_set ?_ GE233.out) | exact HB.out)⟩⟩
    · replace c11 := Bool.eq_false_iff.mpr c11
      subst c11
      have H1 : (windbreakref15_Same.j0 k true l0_0 l0_1 l0_2 l1_0 l1_1 l1_2) = some r := by rw [if_neg (show ¬ (false = true) by decide)] at H; exact H
      clear H
      have H := H1
      clear H1
      have H' := Aside0.mk H
      clear H
      go_wp2
      repeat (go_quiet (fail); try go_wp2)
      go_meet
      case rel => exact ⟨_, (true), (by first | rfl | (simp; done) | (simp [*]; done)), H', ⟨by first | omega | exact Nat.le_refl _⟩, ⟨by (with_reducible repeat (first | refine blk_drewN ?_ _ | refine blk_drew ?_ | refine blk_alloc ?_ _)); exact BK232.out⟩, ⟨by (with_reducible repeat (first | refine blk_drewN ?_ _ | refine blk_drew ?_ | refine blk_alloc ?_ _)); exact BK233.out⟩, ⟨by repeat (first | (with_reducible first | exact HB.out | apply below_alloc | apply pw_below_drewN | apply below_drew1 | refine below_set ?_ GE232.out | refine below_set ?_ GE233.out) | exact HB.out)⟩⟩
  case rest =>
    clear HC5
    try clear c1
    try clear p2
    try clear c3
    try clear c8
    try clear c11
    try clear c12
    try clear c13
    try clear hcz10_0
    try clear hcz10_1
    try clear hcz10_2
    try clear hcz14_0
    try clear hcz14_1
    try clear hcz14_2
    try clear hcz15_0
    try clear hcz15_1
    try clear hcz15_2
    try clear hcz9_0
    try clear hcz9_1
    try clear hcz9_2
    try clear hfz10_0
    try clear hfz10_1
    try clear hfz10_2
    try clear hfz14_0
    try clear hfz14_1
    try clear hfz14_2
    try clear hfz15_0
    try clear hfz15_1
    try clear hfz15_2
    try clear hfz9_0
    try clear hfz9_1
    try clear hfz9_2
    obtain ⟨kq, x33_4, rfl, HA, HJ4, BK232, BK233, HB⟩ := hcut
    cases kq with
    | zero => exact absurd HA.out (by simp [windbreakref15_Same.j0])
    | succ kj4 =>
      have H := HA.out
      clear HA
      simp only [windbreakref15_Same.j0] at H
      by_cases c16 : x33_4 = true
      · subst c16
        have H1 : (some false) = some r := by rw [if_pos rfl] at H; exact H
        clear H
        have H := H1
        clear H1
        obtain rfl := Option.some.inj H
        go_wp2
        repeat (go_quiet (fail); try go_wp2)
        go_ret
        exact ⟨by first | rfl | (simp [errW_none, errW_some] <;> rfl) | (simp [*, errW_none, errW_some] <;> rfl), by repeat (first | (with_reducible first | exact HB.out | apply below_alloc | apply pw_below_drewN | apply below_drew1 | refine below_set ?_ GE232.out | refine below_set ?_ GE233.out) | exact HB.out)⟩
      · replace c16 := Bool.eq_false_iff.mpr c16
        subst c16
        have H1 : (windbreakref15_Same.l0 kj4 0 l0_0 l0_1 l0_2 l1_0 l1_1 l1_2) = some r := by rw [if_neg (show ¬ (false = true) by decide)] at H; exact H
        clear H
        have H := H1
        clear H1
        have H' := Aside0.mk H
        clear H
        go_wp2
        repeat (go_quiet (fail); try go_wp2)
        go_loopg [7] kj4 (fun kq v7 w' => ∃ (x7_2 : Int), v7 = .int .i64 x7_2 ∧ Aside0 (windbreakref15_Same.l0 kq x7_2 l0_0 l0_1 l0_2 l1_0 l1_1 l1_2 = some r) ∧ Aside0 (kq ≤ kj4) ∧ Aside0 (w'.heap[gb232]? = some (.cells #[(.slice A0_0 l0_0.length c0_0), (.slice A0_1 l0_1.length c0_1), (.slice A0_2 l0_2.length c0_2)] 43 (0, 0))) ∧ Aside0 (w'.heap[gb233]? = some (.cells #[(.slice A1_0 l1_0.length c1_0), (.slice A1_1 l1_1.length c1_1), (.slice A1_2 l1_2.length c1_2)] 43 (0, 0))) ∧ Aside0 (Below w.heap.size w w'))
        case atStart => exact ⟨(0), (by first | rfl | (simp; done) | (simp [*]; done)), H', ⟨Nat.le_refl _⟩, ⟨by (with_reducible repeat (first | refine blk_drewN ?_ _ | refine blk_drew ?_ | refine blk_alloc ?_ _)); exact BK232.out⟩, ⟨by (with_reducible repeat (first | refine blk_drewN ?_ _ | refine blk_drew ?_ | refine blk_alloc ?_ _)); exact BK233.out⟩, ⟨by repeat (first | (with_reducible first | exact HB.out | apply below_alloc | apply pw_below_drewN | apply below_drew1 | refine below_set ?_ GE232.out | refine below_set ?_ GE233.out) | exact HB.out)⟩⟩
        case round =>
          clear H'
          try clear c1
          try clear p2
          try clear c3
          try clear c8
          try clear c11
          try clear c12
          try clear c13
          try clear c16
          try clear hcz10_0
          try clear hcz10_1
          try clear hcz10_2
          try clear hcz14_0
          try clear hcz14_1
          try clear hcz14_2
          try clear hcz15_0
          try clear hcz15_1
          try clear hcz15_2
          try clear hcz9_0
          try clear hcz9_1
          try clear hcz9_2
          try clear hfz10_0
          try clear hfz10_1
          try clear hfz10_2
          try clear hfz14_0
          try clear hfz14_1
          try clear hfz14_2
          try clear hfz15_0
          try clear hfz15_1
          try clear hfz15_2
          try clear hfz9_0
          try clear hfz9_1
          try clear hfz9_2
          try clear p2
          obtain ⟨x7_2, rfl, HA, HK2, BK232, BK233, HB⟩ := hrel
          cases gk with
          | zero => exact absurd HA.out (by simp [windbreakref15_Same.l0])
          | succ k2 =>
            have H := HA.out
            clear HA
            simp only [windbreakref15_Same.l0] at H
            by_cases c17 : x7_2 < (l0_2.length : Int)
            · rw [if_pos c17] at H
              have c17b0 : decide (x7_2 < (l0_2.length : Int)) = true := decide_eq_true c17
              clear c17
              by_cases c18 : 0 ≤ x7_2
              · rw [if_pos c18] at H
                have c18b0 : decide (0 ≤ x7_2) = true := decide_eq_true c18
                clear c18
                by_cases c19 : x7_2 < (l1_2.length : Int)
                · rw [if_pos c19] at H
                  have c19b0 : decide (x7_2 < (l1_2.length : Int)) = true := decide_eq_true c19
                  clear c19
                  replace H := Option.bind_eq_some_iff.mp H
                  obtain ⟨t238, A200, H⟩ := H
                  replace H : (if t238 = true then (windbreakref15_Same.l0 k2 (wrap64 (x7_2 + 1)) l0_0 l0_1 l0_2 l1_0 l1_1 l1_2) else (some false)) = some r := H
                  have A20 := Aside0.mk A200
                  clear A200
                  by_cases c21 : t238 = true
                  · subst c21
                    have H1 : (windbreakref15_Same.l0 k2 (wrap64 (x7_2 + 1)) l0_0 l0_1 l0_2 l1_0 l1_1 l1_2) = some r := by rw [if_pos rfl] at H; exact H
                    clear H
                    have H := H1
                    clear H1
                    have H' := Aside0.mk H
                    clear H
                    have hnb22 := NB232_233.out
                    have hnc22 := NB233_232.out
                    have hcz23_0 : wr.cell? ⟨gb232, 0, none⟩ = some (.slice A0_0 l0_0.length c0_0) := (blk_cell BK232.out 0).trans rfl
                    have hcz23_1 : wr.cell? ⟨gb232, 1, none⟩ = some (.slice A0_1 l0_1.length c0_1) := (blk_cell BK232.out 1).trans rfl
                    have hcz23_2 : wr.cell? ⟨gb232, 2, none⟩ = some (.slice A0_2 l0_2.length c0_2) := (blk_cell BK232.out 2).trans rfl
                    have hfz23_0 := blk_frozen BK232.out 0
                    have hfz23_1 := blk_frozen BK232.out 1
                    have hfz23_2 := blk_frozen BK232.out 2
                    have p236 : 0 ≤ (x7_2 : Int) := of_decide_eq_true (by first | (with_reducible assumption) | assumption)
                    have q236 : x7_2 < (l0_2.length : Int) := of_decide_eq_true (by first | (with_reducible assumption) | assumption)
                    obtain ⟨ad236, A236_0, c236_0, e236, hx236_0, hl236_0, hi236_0⟩ := at_L1 HR0_2.out x7_2 p236 q236
                    cases e236
                    replace hx236_0 := (HB.out.cell (World.block_lt_of_cell? w _ hx236_0)).trans hx236_0
                    have HR236_0 := Aside0.mk hi236_0
                    have HC236_0 := Aside0.mk hl236_0
                    clear hi236_0 hl236_0
                    replace p236 := eq_true p236
                    replace q236 := eq_true q236
                    have hcz24_0 : wr.cell? ⟨gb233, 0, none⟩ = some (.slice A1_0 l1_0.length c1_0) := (blk_cell BK233.out 0).trans rfl
                    have hcz24_1 : wr.cell? ⟨gb233, 1, none⟩ = some (.slice A1_1 l1_1.length c1_1) := (blk_cell BK233.out 1).trans rfl
                    have hcz24_2 : wr.cell? ⟨gb233, 2, none⟩ = some (.slice A1_2 l1_2.length c1_2) := (blk_cell BK233.out 2).trans rfl
                    have hfz24_0 := blk_frozen BK233.out 0
                    have hfz24_1 := blk_frozen BK233.out 1
                    have hfz24_2 := blk_frozen BK233.out 2
                    have p237 : 0 ≤ (x7_2 : Int) := of_decide_eq_true (by first | (with_reducible assumption) | assumption)
                    have q237 : x7_2 < (l1_2.length : Int) := of_decide_eq_true (by first | (with_reducible assumption) | assumption)
                    obtain ⟨ad237, A237_0, c237_0, e237, hx237_0, hl237_0, hi237_0⟩ := at_L1 HR1_2.out x7_2 p237 q237
                    cases e237
                    replace hx237_0 := (HB.out.cell (World.block_lt_of_cell? w _ hx237_0)).trans hx237_0
                    have HR237_0 := Aside0.mk hi237_0
                    have HC237_0 := Aside0.mk hl237_0
                    clear hi237_0 hl237_0
                    replace p237 := eq_true p237
                    replace q237 := eq_true q237
                    go_wp2_with (first | (go_at_call 31; (with_reducible refine (windbreakref12_SameInts.calls k2 _ _ (rd_L1 l0_2 x7_2) _ _ (rd_L1 l1_2 x7_2) true _ ?side1 ?side2 ?side3 ?side4 A20.out).mono ?_); (case side1 => repeat (first | exact (Kd.C_below HR236_0.out HB.out) | (with_reducible refine Kd.C_alloc ?_ _) | (with_reducible refine Kd.C_drewN ?_ _) | (with_reducible refine Kd.C_drew ?_))); (case side2 => exact HC236_0.out); (case side3 => repeat (first | exact (Kd.C_below HR237_0.out HB.out) | (with_reducible refine Kd.C_alloc ?_ _) | (with_reducible refine Kd.C_drewN ?_ _) | (with_reducible refine Kd.C_drew ?_))); (case side4 => exact HC237_0.out); rintro e w' ⟨rfl, ⟨nd, rfl⟩⟩; (try first | exact ⟨rfl, _, World.drewN_drewN _ _ _⟩ | exact ⟨rfl, _, Eq.trans (World.drewN_drewN _ _ _) (congrArg (World.drewN _) (Nat.add_assoc _ _ _))⟩)))
                    repeat (go_quiet (first | (go_at_call 31; (with_reducible refine (windbreakref12_SameInts.calls k2 _ _ (rd_L1 l0_2 x7_2) _ _ (rd_L1 l1_2 x7_2) true _ ?side1 ?side2 ?side3 ?side4 A20.out).mono ?_); (case side1 => repeat (first | exact (Kd.C_below HR236_0.out HB.out) | (with_reducible refine Kd.C_alloc ?_ _) | (with_reducible refine Kd.C_drewN ?_ _) | (with_reducible refine Kd.C_drew ?_))); (case side2 => exact HC236_0.out); (case side3 => repeat (first | exact (Kd.C_below HR237_0.out HB.out) | (with_reducible refine Kd.C_alloc ?_ _) | (with_reducible refine Kd.C_drewN ?_ _) | (with_reducible refine Kd.C_drew ?_))); (case side4 => exact HC237_0.out); rintro e w' ⟨rfl, ⟨nd, rfl⟩⟩; (try first | exact ⟨rfl, _, World.drewN_drewN _ _ _⟩ | exact ⟨rfl, _, Eq.trans (World.drewN_drewN _ _ _) (congrArg (World.drewN _) (Nat.add_assoc _ _ _))⟩))); try go_wp2_with (first | (go_at_call 31; (with_reducible refine (windbreakref12_SameInts.calls k2 _ _ (rd_L1 l0_2 x7_2) _ _ (rd_L1 l1_2 x7_2) true _ ?side1 ?side2 ?side3 ?side4 A20.out).mono ?_); (case side1 => repeat (first | exact (Kd.C_below HR236_0.out HB.out) | (with_reducible refine Kd.C_alloc ?_ _) | (with_reducible refine Kd.C_drewN ?_ _) | (with_reducible refine Kd.C_drew ?_))); (case side2 => exact HC236_0.out); (case side3 => repeat (first | exact (Kd.C_below HR237_0.out HB.out) | (with_reducible refine Kd.C_alloc ?_ _) | (with_reducible refine Kd.C_drewN ?_ _) | (with_reducible refine Kd.C_drew ?_))); (case side4 => exact HC237_0.out); rintro e w' ⟨rfl, ⟨nd, rfl⟩⟩; (try first | exact ⟨rfl, _, World.drewN_drewN _ _ _⟩ | exact ⟨rfl, _, Eq.trans (World.drewN_drewN _ _ _) (congrArg (World.drewN _) (Nat.add_assoc _ _ _))⟩))))
                    go_roundg k2
                    case measure => have := HJ4.out; have := HK2.out; omega
                    case rel => exact ⟨(wrap64 (x7_2 + 1)), (by first | rfl | (simp; done) | (simp [*]; done)), H', ⟨by have := HJ4.out; have := HK2.out; omega⟩, ⟨by (with_reducible repeat (first | refine blk_drewN ?_ _ | refine blk_drew ?_ | refine blk_alloc ?_ _)); exact BK232.out⟩, ⟨by (with_reducible repeat (first | refine blk_drewN ?_ _ | refine blk_drew ?_ | refine blk_alloc ?_ _)); exact BK233.out⟩, ⟨by repeat (first | (with_reducible first | exact HB.out | apply below_alloc | apply pw_below_drewN | apply below_drew1 | refine below_set ?_ GE232.out | refine below_set ?_ GE233.out) | exact HB.out)⟩⟩
                  · replace c21 := Bool.eq_false_iff.mpr c21
                    subst c21
                    have H1 : (some false) = some r := by rw [if_neg (show ¬ (false = true) by decide)] at H; exact H
                    clear H
                    have H := H1
                    clear H1
                    obtain rfl := Option.some.inj H
                    have hnb25 := NB232_233.out
                    have hnc25 := NB233_232.out
                    have hcz26_0 : wr.cell? ⟨gb232, 0, none⟩ = some (.slice A0_0 l0_0.length c0_0) := (blk_cell BK232.out 0).trans rfl
                    have hcz26_1 : wr.cell? ⟨gb232, 1, none⟩ = some (.slice A0_1 l0_1.length c0_1) := (blk_cell BK232.out 1).trans rfl
                    have hcz26_2 : wr.cell? ⟨gb232, 2, none⟩ = some (.slice A0_2 l0_2.length c0_2) := (blk_cell BK232.out 2).trans rfl
                    have hfz26_0 := blk_frozen BK232.out 0
                    have hfz26_1 := blk_frozen BK232.out 1
                    have hfz26_2 := blk_frozen BK232.out 2
                    have p236 : 0 ≤ (x7_2 : Int) := of_decide_eq_true (by first | (with_reducible assumption) | assumption)
                    have q236 : x7_2 < (l0_2.length : Int) := of_decide_eq_true (by first | (with_reducible assumption) | assumption)
                    obtain ⟨ad236, A236_0, c236_0, e236, hx236_0, hl236_0, hi236_0⟩ := at_L1 HR0_2.out x7_2 p236 q236
                    cases e236
                    replace hx236_0 := (HB.out.cell (World.block_lt_of_cell? w _ hx236_0)).trans hx236_0
                    have HR236_0 := Aside0.mk hi236_0
                    have HC236_0 := Aside0.mk hl236_0
                    clear hi236_0 hl236_0
                    replace p236 := eq_true p236
                    replace q236 := eq_true q236
                    have hcz27_0 : wr.cell? ⟨gb233, 0, none⟩ = some (.slice A1_0 l1_0.length c1_0) := (blk_cell BK233.out 0).trans rfl
                    have hcz27_1 : wr.cell? ⟨gb233, 1, none⟩ = some (.slice A1_1 l1_1.length c1_1) := (blk_cell BK233.out 1).trans rfl
                    have hcz27_2 : wr.cell? ⟨gb233, 2, none⟩ = some (.slice A1_2 l1_2.length c1_2) := (blk_cell BK233.out 2).trans rfl
                    have hfz27_0 := blk_frozen BK233.out 0
                    have hfz27_1 := blk_frozen BK233.out 1
                    have hfz27_2 := blk_frozen BK233.out 2
                    have p237 : 0 ≤ (x7_2 : Int) := of_decide_eq_true (by first | (with_reducible assumption) | assumption)
                    have q237 : x7_2 < (l1_2.length : Int) := of_decide_eq_true (by first | (with_reducible assumption) | assumption)
                    obtain ⟨ad237, A237_0, c237_0, e237, hx237_0, hl237_0, hi237_0⟩ := at_L1 HR1_2.out x7_2 p237 q237
                    cases e237
                    replace hx237_0 := (HB.out.cell (World.block_lt_of_cell? w _ hx237_0)).trans hx237_0
                    have HR237_0 := Aside0.mk hi237_0
                    have HC237_0 := Aside0.mk hl237_0
                    clear hi237_0 hl237_0
                    replace p237 := eq_true p237
                    replace q237 := eq_true q237
                    go_wp2_with (first | (go_at_call 31; (with_reducible refine (windbreakref12_SameInts.calls k2 _ _ (rd_L1 l0_2 x7_2) _ _ (rd_L1 l1_2 x7_2) false _ ?side1 ?side2 ?side3 ?side4 A20.out).mono ?_); (case side1 => repeat (first | exact (Kd.C_below HR236_0.out HB.out) | (with_reducible refine Kd.C_alloc ?_ _) | (with_reducible refine Kd.C_drewN ?_ _) | (with_reducible refine Kd.C_drew ?_))); (case side2 => exact HC236_0.out); (case side3 => repeat (first | exact (Kd.C_below HR237_0.out HB.out) | (with_reducible refine Kd.C_alloc ?_ _) | (with_reducible refine Kd.C_drewN ?_ _) | (with_reducible refine Kd.C_drew ?_))); (case side4 => exact HC237_0.out); rintro e w' ⟨rfl, ⟨nd, rfl⟩⟩; (try first | exact ⟨rfl, _, World.drewN_drewN _ _ _⟩ | exact ⟨rfl, _, Eq.trans (World.drewN_drewN _ _ _) (congrArg (World.drewN _) (Nat.add_assoc _ _ _))⟩)))
                    repeat (go_quiet (first | (go_at_call 31; (with_reducible refine (windbreakref12_SameInts.calls k2 _ _ (rd_L1 l0_2 x7_2) _ _ (rd_L1 l1_2 x7_2) false _ ?side1 ?side2 ?side3 ?side4 A20.out).mono ?_); (case side1 => repeat (first | exact (Kd.C_below HR236_0.out HB.out) | (with_reducible refine Kd.C_alloc ?_ _) | (with_reducible refine Kd.C_drewN ?_ _) | (with_reducible refine Kd.C_drew ?_))); (case side2 => exact HC236_0.out); (case side3 => repeat (first | exact (Kd.C_below HR237_0.out HB.out) | (with_reducible refine Kd.C_alloc ?_ _) | (with_reducible refine Kd.C_drewN ?_ _) | (with_reducible refine Kd.C_drew ?_))); (case side4 => exact HC237_0.out); rintro e w' ⟨rfl, ⟨nd, rfl⟩⟩; (try first | exact ⟨rfl, _, World.drewN_drewN _ _ _⟩ | exact ⟨rfl, _, Eq.trans (World.drewN_drewN _ _ _) (congrArg (World.drewN _) (Nat.add_assoc _ _ _))⟩))); try go_wp2_with (first | (go_at_call 31; (with_reducible refine (windbreakref12_SameInts.calls k2 _ _ (rd_L1 l0_2 x7_2) _ _ (rd_L1 l1_2 x7_2) false _ ?side1 ?side2 ?side3 ?side4 A20.out).mono ?_); (case side1 => repeat (first | exact (Kd.C_below HR236_0.out HB.out) | (with_reducible refine Kd.C_alloc ?_ _) | (with_reducible refine Kd.C_drewN ?_ _) | (with_reducible refine Kd.C_drew ?_))); (case side2 => exact HC236_0.out); (case side3 => repeat (first | exact (Kd.C_below HR237_0.out HB.out) | (with_reducible refine Kd.C_alloc ?_ _) | (with_reducible refine Kd.C_drewN ?_ _) | (with_reducible refine Kd.C_drew ?_))); (case side4 => exact HC237_0.out); rintro e w' ⟨rfl, ⟨nd, rfl⟩⟩; (try first | exact ⟨rfl, _, World.drewN_drewN _ _ _⟩ | exact ⟨rfl, _, Eq.trans (World.drewN_drewN _ _ _) (congrArg (World.drewN _) (Nat.add_assoc _ _ _))⟩))))
                    go_ret
                    exact ⟨by first | rfl | (simp [errW_none, errW_some] <;> rfl) | (simp [*, errW_none, errW_some] <;> rfl), by repeat (first | (with_reducible first | exact HB.out | apply below_alloc | apply pw_below_drewN | apply below_drew1 | refine below_set ?_ GE232.out | refine below_set ?_ GE233.out) | exact HB.out)⟩
                · rw [if_neg c19] at H
                  exact absurd H (by simp)
              · rw [if_neg c18] at H
                exact absurd H (by simp)
            · rw [if_neg c17] at H
              have c17b0 : decide (x7_2 < (l0_2.length : Int)) = false := decide_eq_false c17
              clear c17
              obtain rfl := Option.some.inj H
              have hnb28 := NB232_233.out
              have hnc28 := NB233_232.out
              have hcz29_0 : wr.cell? ⟨gb232, 0, none⟩ = some (.slice A0_0 l0_0.length c0_0) := (blk_cell BK232.out 0).trans rfl
              have hcz29_1 : wr.cell? ⟨gb232, 1, none⟩ = some (.slice A0_1 l0_1.length c0_1) := (blk_cell BK232.out 1).trans rfl
              have hcz29_2 : wr.cell? ⟨gb232, 2, none⟩ = some (.slice A0_2 l0_2.length c0_2) := (blk_cell BK232.out 2).trans rfl
              have hfz29_0 := blk_frozen BK232.out 0
              have hfz29_1 := blk_frozen BK232.out 1
              have hfz29_2 := blk_frozen BK232.out 2
              go_wp2
              repeat (go_quiet (fail); try go_wp2)
              go_ret
              exact ⟨by first | rfl | (simp [errW_none, errW_some] <;> rfl) | (simp [*, errW_none, errW_some] <;> rfl), by repeat (first | (with_reducible first | exact HB.out | apply below_alloc | apply pw_below_drewN | apply below_drew1 | refine below_set ?_ GE232.out | refine below_set ?_ GE233.out) | exact HB.out)⟩







end Go.Proofs.Ytdlkcohfgfnkbaa.DFns
