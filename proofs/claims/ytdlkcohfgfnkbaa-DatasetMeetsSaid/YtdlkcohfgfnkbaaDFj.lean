/- Tables: the document's functions, each as a plain function with rounds, and that the Go function comes to it (as the kit's print.sh wrote them for this seat). -/
import Derived.Test.YtdlkcohfgfnkbaaDFa
namespace Go.Proofs.Ytdlkcohfgfnkbaa.DFns
open Go.RowKit Go.Proofs.Ytdlkcohfgfnkbaa.PDatasetJoins Go.Proofs.YtdlkcohfgfnkbaaW.PrintWords Go.Proofs.YtdlkcohfgfnkbaaW.PrintLast Go.Proofs.YtdlkcohfgfnkbaaW.PrintMore
attribute [local go_sem] max2_int min2_int max_two min_two max_three min_three max_four min_four
set_option linter.unusedVariables false
set_option linter.unusedSimpArgs false

/-! ### windbreakref15_Join: function 40 -/
mutual
def windbreakref15_Join.j0 : Nat → List (S43) → Bool → Option (List Int × List Int × (List (List Int)) × Int)
  | 0, _, _ => none
  | k + 1, x0, x17 => if x17 = true then (some (([] : List Int), ([] : List Int), ([] : List (List Int)), 1)) else (windbreakref15_Join.l0 k x0 0)
def windbreakref15_Join.l0 : Nat → List (S43) → Int → Option (List Int × List Int × (List (List Int)) × Int)
  | 0, _, _ => none
  | k + 1, x0, x4 => if x4 < (x0.length : Int) then (if 0 ≤ x4 then ((windbreakref15_Right.f k ((rd_T43 x0 x4).f0) ((rd_T43 x0 x4).f1) ((rd_T43 x0 x4).f2)).bind fun t256 => (if 0 < (x0.length : Int) then ((windbreakref12_SameInts.f k ((rd_T43 x0 x4).f0) ((rd_T43 x0 0).f0)).bind fun t259 => (if t256 = true then (if t259 = true then (windbreakref15_Join.l0 k x0 (wrap64 (x4 + 1))) else (some (([] : List Int), ([] : List Int), ([] : List (List Int)), 20))) else (some (([] : List Int), ([] : List Int), ([] : List (List Int)), 20)))) else (none))) else (none)) else ((some (([] : List Int) : List Int)).bind fun y260 => (if 0 < (x0.length : Int) then (if y260.length + ((rd_T43 x0 0).f0).length < 17592186044416 then (windbreakref15_Join.l1 k x0 0 (y260 ++ ((rd_T43 x0 0).f0)) ([] : List Int) ([] : List (List Int))) else (none)) else (none)))
def windbreakref15_Join.l1 : Nat → List (S43) → Int → List Int → List Int → List (List Int) → Option (List Int × List Int × (List (List Int)) × Int)
  | 0, _, _, _, _, _ => none
  | k + 1, x0, x8, x268000, x268001, x268002 => if x8 < (x0.length : Int) then (if 0 ≤ x8 then (if x268001.length + ((rd_T43 x0 x8).f1).length < 17592186044416 then (windbreakref15_Join.l2 k x0 x8 0 x268000 (x268001 ++ ((rd_T43 x0 x8).f1)) x268002) else (none)) else (none)) else (some (x268000, x268001, x268002, 0))
def windbreakref15_Join.l2 : Nat → List (S43) → Int → Int → List Int → List Int → List (List Int) → Option (List Int × List Int × (List (List Int)) × Int)
  | 0, _, _, _, _, _, _ => none
  | k + 1, x0, x8, x9, x268000, x268001, x268002 => if 0 ≤ x8 then (if x8 < (x0.length : Int) then (if x9 < (((rd_T43 x0 x8).f2).length : Int) then ((some (([] : List Int) : List Int)).bind fun y273 => (if 0 ≤ x9 then (if y273.length + (rd_L1 ((rd_T43 x0 x8).f2) x9).length < 17592186044416 then (if x268002.length < 5864062014805 then (windbreakref15_Join.l2 k x0 x8 (wrap64 (x9 + 1)) x268000 x268001 (x268002 ++ [(y273 ++ (rd_L1 ((rd_T43 x0 x8).f2) x9))])) else (none)) else (none)) else (none))) else (windbreakref15_Join.l1 k x0 (wrap64 (x8 + 1)) x268000 x268001 x268002)) else (none)) else (none)
end
def windbreakref15_Join.f (k : Nat) (l0 : List (S43)) : Option (List Int × List Int × (List (List Int)) × Int) := if (l0.length : Int) = 0 then (windbreakref15_Join.j0 k l0 true) else (windbreakref15_Join.j0 k l0 (decide ((l0.length : Int) > 16)))
theorem windbreakref15_Join.mono_l : ∀ k, (∀ y0 y1, LeO (windbreakref15_Join.j0 k y0 y1) (windbreakref15_Join.j0 (k + 1) y0 y1)) ∧ (∀ y0 y1, LeO (windbreakref15_Join.l0 k y0 y1) (windbreakref15_Join.l0 (k + 1) y0 y1)) ∧ (∀ y0 y1 y2 y3 y4, LeO (windbreakref15_Join.l1 k y0 y1 y2 y3 y4) (windbreakref15_Join.l1 (k + 1) y0 y1 y2 y3 y4)) ∧ (∀ y0 y1 y2 y3 y4 y5, LeO (windbreakref15_Join.l2 k y0 y1 y2 y3 y4 y5) (windbreakref15_Join.l2 (k + 1) y0 y1 y2 y3 y4 y5))
  | 0 => ⟨fun _ _ r h => by simp [windbreakref15_Join.j0] at h, fun _ _ r h => by simp [windbreakref15_Join.l0] at h, fun _ _ _ _ _ r h => by simp [windbreakref15_Join.l1] at h, fun _ _ _ _ _ _ r h => by simp [windbreakref15_Join.l2] at h⟩
  | k + 1 => by
    obtain ⟨ih0, ih1, ih2, ih3⟩ := windbreakref15_Join.mono_l k
    refine ⟨?_, ?_, ?_, ?_⟩
    · intro y0 y1
      unfold windbreakref15_Join.j0
      repeat' first
      | (with_reducible exact ih0 _ _)
      | (with_reducible exact ih1 _ _)
      | (with_reducible exact ih2 _ _ _ _ _)
      | (with_reducible exact ih3 _ _ _ _ _ _)
      | (with_reducible exact windbreakref12_SameInts.mono _ _ _)
      | (with_reducible exact windbreakref15_Right.mono _ _ _ _)
      | (with_reducible exact LeO.refl _)
      | (with_reducible exact LeO.none _)
      | (with_reducible refine LeO.ite ?_ ?_)
      | (with_reducible refine LeO.bind ?_ (fun _ => ?_))
      | exact ih0 _ _
      | exact ih1 _ _
      | exact ih2 _ _ _ _ _
      | exact ih3 _ _ _ _ _ _
      | exact windbreakref12_SameInts.mono _ _ _
      | exact windbreakref15_Right.mono _ _ _ _
      | exact LeO.none _
      | refine LeO.ite ?_ ?_
      | refine LeO.bind ?_ (fun _ => ?_)
    · intro y0 y1
      unfold windbreakref15_Join.l0
      repeat' first
      | (with_reducible exact ih0 _ _)
      | (with_reducible exact ih1 _ _)
      | (with_reducible exact ih2 _ _ _ _ _)
      | (with_reducible exact ih3 _ _ _ _ _ _)
      | (with_reducible exact windbreakref12_SameInts.mono _ _ _)
      | (with_reducible exact windbreakref15_Right.mono _ _ _ _)
      | (with_reducible exact LeO.refl _)
      | (with_reducible exact LeO.none _)
      | (with_reducible refine LeO.ite ?_ ?_)
      | (with_reducible refine LeO.bind ?_ (fun _ => ?_))
      | exact ih0 _ _
      | exact ih1 _ _
      | exact ih2 _ _ _ _ _
      | exact ih3 _ _ _ _ _ _
      | exact windbreakref12_SameInts.mono _ _ _
      | exact windbreakref15_Right.mono _ _ _ _
      | exact LeO.none _
      | refine LeO.ite ?_ ?_
      | refine LeO.bind ?_ (fun _ => ?_)
    · intro y0 y1 y2 y3 y4
      unfold windbreakref15_Join.l1
      repeat' first
      | (with_reducible exact ih0 _ _)
      | (with_reducible exact ih1 _ _)
      | (with_reducible exact ih2 _ _ _ _ _)
      | (with_reducible exact ih3 _ _ _ _ _ _)
      | (with_reducible exact windbreakref12_SameInts.mono _ _ _)
      | (with_reducible exact windbreakref15_Right.mono _ _ _ _)
      | (with_reducible exact LeO.refl _)
      | (with_reducible exact LeO.none _)
      | (with_reducible refine LeO.ite ?_ ?_)
      | (with_reducible refine LeO.bind ?_ (fun _ => ?_))
      | exact ih0 _ _
      | exact ih1 _ _
      | exact ih2 _ _ _ _ _
      | exact ih3 _ _ _ _ _ _
      | exact windbreakref12_SameInts.mono _ _ _
      | exact windbreakref15_Right.mono _ _ _ _
      | exact LeO.none _
      | refine LeO.ite ?_ ?_
      | refine LeO.bind ?_ (fun _ => ?_)
    · intro y0 y1 y2 y3 y4 y5
      unfold windbreakref15_Join.l2
      repeat' first
      | (with_reducible exact ih0 _ _)
      | (with_reducible exact ih1 _ _)
      | (with_reducible exact ih2 _ _ _ _ _)
      | (with_reducible exact ih3 _ _ _ _ _ _)
      | (with_reducible exact windbreakref12_SameInts.mono _ _ _)
      | (with_reducible exact windbreakref15_Right.mono _ _ _ _)
      | (with_reducible exact LeO.refl _)
      | (with_reducible exact LeO.none _)
      | (with_reducible refine LeO.ite ?_ ?_)
      | (with_reducible refine LeO.bind ?_ (fun _ => ?_))
      | exact ih0 _ _
      | exact ih1 _ _
      | exact ih2 _ _ _ _ _
      | exact ih3 _ _ _ _ _ _
      | exact windbreakref12_SameInts.mono _ _ _
      | exact windbreakref15_Right.mono _ _ _ _
      | exact LeO.none _
      | refine LeO.ite ?_ ?_
      | refine LeO.bind ?_ (fun _ => ?_)
theorem windbreakref15_Join.mono : ∀ a0 k, LeO (windbreakref15_Join.f k a0) (windbreakref15_Join.f (k + 1) a0) := by
  intro a0 k
  obtain ⟨ih0, ih1, ih2, ih3⟩ := windbreakref15_Join.mono_l k
  unfold windbreakref15_Join.f
  repeat' first
      | (with_reducible exact ih0 _ _)
      | (with_reducible exact ih1 _ _)
      | (with_reducible exact ih2 _ _ _ _ _)
      | (with_reducible exact ih3 _ _ _ _ _ _)
      | (with_reducible exact windbreakref12_SameInts.mono _ _ _)
      | (with_reducible exact windbreakref15_Right.mono _ _ _ _)
      | (with_reducible exact LeO.refl _)
      | (with_reducible exact LeO.none _)
      | (with_reducible refine LeO.ite ?_ ?_)
      | (with_reducible refine LeO.bind ?_ (fun _ => ?_))
      | exact ih0 _ _
      | exact ih1 _ _
      | exact ih2 _ _ _ _ _
      | exact ih3 _ _ _ _ _ _
      | exact windbreakref12_SameInts.mono _ _ _
      | exact windbreakref15_Right.mono _ _ _ _
      | exact LeO.none _
      | refine LeO.ite ?_ ?_
      | refine LeO.bind ?_ (fun _ => ?_)
def windbreakref15_Join.T7 : Bool × List (List Nat × List Nat) := (true, [([], []), ([], []), ([0, 1], [0, 1]), ([2], [2]), ([3], [3]), ([], []), ([5], [5]), ([6], [6]), ([7], [7]), ([4, 8], [4, 8]), ([9, 9, 0, 1, 2, 3, 4, 5, 6, 7, 8, 9], [9])])
def windbreakref15_Join.B7 : List Nat := [0, 0, 3, 7, 15, 0, 32, 96, 224, 511, 1023]
theorem windbreakref15_Join.tab7 : rtab .any (opsOf Try.f40 7) = windbreakref15_Join.T7 := by kernel_rfl
theorem windbreakref15_Join.bits7 : waitsOk windbreakref15_Join.T7.2 windbreakref15_Join.B7 = true := by kernel_rfl
def windbreakref15_Join.T14 : Bool × List (List Nat × List Nat) := (true, [([], []), ([0], [0]), ([], []), ([], []), ([2, 3], [2, 3]), ([4], [4]), ([5], [5]), ([1, 6], [1, 6]), ([0, 1, 2, 3, 4, 5, 6, 7], []), ([8, 7, 7, 0, 1, 2, 3, 4, 5, 6, 7], [7, 8])])
def windbreakref15_Join.B14 : List Nat := [0, 1, 0, 0, 12, 28, 60, 127, 255, 511]
theorem windbreakref15_Join.tab14 : rtab .any (opsOf Try.f40 14) = windbreakref15_Join.T14 := by kernel_rfl
theorem windbreakref15_Join.bits14 : waitsOk windbreakref15_Join.T14.2 windbreakref15_Join.B14 = true := by kernel_rfl
def windbreakref15_Join.T18 : Bool × List (List Nat × List Nat) := (true, [([], []), ([0], [0]), ([], []), ([], []), ([], []), ([3, 4], [3, 4]), ([5], [5]), ([6], [6]), ([], []), ([7, 8], [7, 8]), ([9], [9]), ([2, 10], [2, 10]), ([11], [11]), ([1, 12, 11], [1, 12]), ([0, 1, 2, 3, 4, 5, 6, 7, 8, 9, 10, 11, 12, 13], []), ([14, 13, 13, 0, 1, 2, 3, 4, 5, 6, 7, 8, 9, 10, 11, 12, 13], [13, 14])])
def windbreakref15_Join.B18 : List Nat := [0, 1, 0, 0, 0, 24, 56, 120, 0, 504, 1016, 2044, 4092, 8191, 16383, 32767]
theorem windbreakref15_Join.tab18 : rtab .any (opsOf Try.f40 18) = windbreakref15_Join.T18 := by kernel_rfl
theorem windbreakref15_Join.bits18 : waitsOk windbreakref15_Join.T18.2 windbreakref15_Join.B18 = true := by kernel_rfl
set_option maxHeartbeats 8000000 in
set_option maxRecDepth 100000 in
theorem windbreakref15_Join.calls (k : Nat) (A0 : Option Addr) (c0 : Nat) (l0 : List (S43)) (r1 : List Int) (r2 : List Int) (r3 : List (List Int)) (r4 : Int) (w : World) (hr0 : Kd.C k43 w A0 l0.length l0) (hc0 : l0.length ≤ c0) (h : windbreakref15_Join.f k l0 = some (r1, r2, r3, r4)) :
    Calls Try.prog 40 #[.slice A0 l0.length c0] w fun e w' => ∃ v0_ v1_ v2_ : Value, e = .returned (.tuple #[.agg #[v0_, v1_, v2_], .int .i64 r4]) ∧ Kd.R (Kd.int .i64) 3 w' w.heap.size (fun k_ => some k_ ≠ (v1_ : Value).ownBlock) v0_ r1 ∧ Kd.R (Kd.int .i64) 3 w' w.heap.size (fun k_ => some k_ ≠ (v0_ : Value).ownBlock) v1_ r2 ∧ Kd.S (Kd.slice 3 (Kd.int .i64)) 31 w' w.heap.size (fun k_ => some k_ ≠ (v0_ : Value).ownBlock ∧ some k_ ≠ (v1_ : Value).ownBlock) v2_ r3 ∧ Below w.heap.size w w' := by
  have hu43 := Try.underlying43
  have HR0 := Aside0.mk hr0
  have HC0 := Aside0.mk hc0
  clear hr0 hc0
  have HB := Aside0.mk (Below.refl w.heap.size w)
  have H : (if (l0.length : Int) = 0 then (windbreakref15_Join.j0 k l0 true) else (windbreakref15_Join.j0 k l0 (decide ((l0.length : Int) > 16)))) = some (r1, r2, r3, r4) := h
  clear h
  have HC2 := Aside0.mk H
  clear H
  go_enter Try.func40, Try.ntmps40
  go_upto_region 1 with (first | ((with_reducible refine gate_dst (N := 2) rfl ?_); (try (refine gate_guard (by rfl) ?_; dsimp only)); refine box_event ?hg (N := 2) ?hd (cs := #[.slice none 0 0, .slice none 0 0, .slice none 0 0]) (t := 43) ?hr ?_; (case hd => rfl); (case hg => rfl); (case hr => first | (go_simp; done) | (go_simp; rfl)); intro gb254 hg w3 hbox hb; have n0_ := Aside0.mk (below_step (by repeat (first | (with_reducible first | exact HB.out | apply below_alloc | apply pw_below_drewN | apply below_drew1) | exact HB.out)) hb); have n1_ := Aside0.mk (hbox); have n2_ := Aside0.mk ((by rw [hg]; exact (below_size (by repeat (first | (with_reducible first | exact HB.out | apply below_alloc | apply pw_below_drewN | apply below_drew1) | exact HB.out))) : w.heap.size ≤ gb254)); have n3_ := Aside0.mk ((by rw [hg]; exact (below_size (by repeat (first | (with_reducible first | exact HB.out | apply below_alloc | apply pw_below_drewN | apply below_drew1) | exact HB.out))) : w.heap.size ≤ gb254)); clear HB; have HB := n0_; have BK254 := n1_; have GW254 := n2_; have GE254 := n3_; clear n0_ n1_ n2_ n3_; clear hb hbox hg))
  (try simp only [Act.put, List.setIfInBounds_toArray, List.set_cons_zero, List.set_cons_succ])
  go_cut [17] (fun v17 wc => ∃ (kq : Nat) (x17_1 : Bool), v17 = .bool x17_1 ∧ Aside0 (windbreakref15_Join.j0 kq l0 x17_1 = some (r1, r2, r3, r4)) ∧ Aside0 (kq ≤ k) ∧ Aside0 (wc.heap[gb254]? = some (.cells #[(.slice none 0 0), (.slice none 0 0), (.slice none 0 0)] 43 (0, 0))) ∧ Aside0 (Below w.heap.size w wc))
  case first =>
    have H := HC2.out
    clear HC2
    by_cases c4 : (l0.length : Int) = 0
    · rw [if_pos c4] at H
      have c4b0 : ((l0.length : Int) == 0) = true := beq_iff_eq.mpr c4
      have c4b1 : ((l0.length : Int) != 0) = false := bne_eq_false_iff_eq.mpr c4
      clear c4
      (first | rw [c4b0] | (simp only [i64_w, i32_w]; rw [c4b0]) | skip)
      have H' := Aside0.mk H
      clear H
      go_wp2
      go_meet
      case rel => exact ⟨_, (true), (by first | rfl | (simp; done) | (simp [*]; done)), H', ⟨by first | omega | exact Nat.le_refl _⟩, ⟨by (with_reducible repeat (first | refine blk_drewN ?_ _ | refine blk_drew ?_ | refine blk_alloc ?_ _)); exact BK254.out⟩, ⟨by repeat (first | (with_reducible first | exact HB.out | apply below_alloc | apply pw_below_drewN | apply below_drew1 | refine below_set ?_ GE254.out) | exact HB.out)⟩⟩
    · rw [if_neg c4] at H
      have c4b0 : ((l0.length : Int) == 0) = false := beq_eq_false_iff_ne.mpr c4
      have c4b1 : ((l0.length : Int) != 0) = true := bne_iff_ne.mpr c4
      have c4b2 : ¬ (l0 = []) := fun h_ => c4 (by rw [h_]; rfl)
      (first | rw [c4b0] | (simp only [i64_w, i32_w]; rw [c4b0]) | skip)
      have H' := Aside0.mk H
      clear H
      go_wp2
      go_meet
      case rel => exact ⟨_, (decide ((l0.length : Int) > 16)), (by first | rfl | (simp; done) | (simp [*]; done)), H', ⟨by first | omega | exact Nat.le_refl _⟩, ⟨by (with_reducible repeat (first | refine blk_drewN ?_ _ | refine blk_drew ?_ | refine blk_alloc ?_ _)); exact BK254.out⟩, ⟨by repeat (first | (with_reducible first | exact HB.out | apply below_alloc | apply pw_below_drewN | apply below_drew1 | refine below_set ?_ GE254.out) | exact HB.out)⟩⟩
  case rest =>
    clear HC2
    try clear p2
    try clear c4
    try clear c4b0
    try clear c4b1
    try clear c4b2
    obtain ⟨kq, x17_1, rfl, HA, HJ1, BK254, HB⟩ := hcut
    cases kq with
    | zero => exact absurd HA.out (by simp [windbreakref15_Join.j0])
    | succ kj1 =>
      have H := HA.out
      clear HA
      simp only [windbreakref15_Join.j0] at H
      by_cases c5 : x17_1 = true
      · subst c5
        have H1 : (some (([] : List Int), ([] : List Int), ([] : List (List Int)), 1)) = some (r1, r2, r3, r4) := by rw [if_pos rfl] at H; exact H
        clear H
        have H := H1
        clear H1
        simp only [Option.some.injEq, Prod.mk.injEq] at H
        obtain ⟨rfl, rfl, rfl, rfl⟩ := H
        have hcz6_0 : wc.cell? ⟨gb254, 0, none⟩ = some (.slice none 0 0) := (blk_cell BK254.out 0).trans rfl
        have hcz6_1 : wc.cell? ⟨gb254, 1, none⟩ = some (.slice none 0 0) := (blk_cell BK254.out 1).trans rfl
        have hcz6_2 : wc.cell? ⟨gb254, 2, none⟩ = some (.slice none 0 0) := (blk_cell BK254.out 2).trans rfl
        have hfz6_0 := blk_frozen BK254.out 0
        have hfz6_1 := blk_frozen BK254.out 1
        have hfz6_2 := blk_frozen BK254.out 2
        go_wp2
        refine bodyPost_ret (results_ct rfl _ _ gb254 43 #[.slice none 0 0, .slice none 0 0, .slice none 0 0] (0, 0) _ rfl (by (with_reducible repeat (first | refine blk_drewN ?_ _ | refine blk_drew ?_ | refine blk_alloc ?_ _)); refine blk_put (cs := #[.slice none 0 0, .slice none 0 0, .slice none 0 0]) ?_ 2 _ rfl; (with_reducible repeat (first | refine blk_drewN ?_ _ | refine blk_drew ?_ | refine blk_alloc ?_ _)); refine blk_put (cs := #[.slice none 0 0, .slice none 0 0, .slice none 0 0]) ?_ 1 _ rfl; (with_reducible repeat (first | refine blk_drewN ?_ _ | refine blk_drew ?_ | refine blk_alloc ?_ _)); refine blk_put (cs := #[.slice none 0 0, .slice none 0 0, .slice none 0 0]) ?_ 0 _ rfl; (with_reducible repeat (first | refine blk_drewN ?_ _ | refine blk_drew ?_ | refine blk_alloc ?_ _)); exact BK254.out) Try.underlying43 rfl (by kernel_rfl)) rfl ?_
        exact ⟨_, _, _, by first | rfl | (simp [errW_none, errW_some] <;> rfl) | (simp [*, errW_none, errW_some] <;> rfl), by first | exact Kd.R_nil _ _ _ _ _ | exact Kd.N_nil _ _ _ _ _ | exact Kd.V_nil _ _ _ _ _ | exact Kd.Q_nil _ _ _ _ _ | exact Kd.S_nil _ _ _ _ _, by first | exact Kd.R_nil _ _ _ _ _ | exact Kd.N_nil _ _ _ _ _ | exact Kd.V_nil _ _ _ _ _ | exact Kd.Q_nil _ _ _ _ _ | exact Kd.S_nil _ _ _ _ _, by first | exact Kd.S_nil _ _ _ _ _ | exact Kd.N_nil _ _ _ _ _ | exact Kd.V_nil _ _ _ _ _ | exact Kd.Q_nil _ _ _ _ _ | exact Kd.R_nil _ _ _ _ _, by repeat (first | (with_reducible first | exact HB.out | apply below_alloc | apply pw_below_drewN | apply below_drew1 | refine below_set ?_ GE254.out) | exact HB.out)⟩
      · replace c5 := Bool.eq_false_iff.mpr c5
        subst c5
        have H1 : (windbreakref15_Join.l0 kj1 l0 0) = some (r1, r2, r3, r4) := by rw [if_neg (show ¬ (false = true) by decide)] at H; exact H
        clear H
        have H := H1
        clear H1
        have H' := Aside0.mk H
        clear H
        go_wp2
        go_loopg [4] kj1 (fun kq v4 w' => ∃ (x4_2 : Int), v4 = .int .i64 x4_2 ∧ Aside0 (windbreakref15_Join.l0 kq l0 x4_2 = some (r1, r2, r3, r4)) ∧ Aside0 (kq ≤ kj1) ∧ Aside0 (w'.heap[gb254]? = some (.cells #[(.slice none 0 0), (.slice none 0 0), (.slice none 0 0)] 43 (0, 0))) ∧ Aside0 (Below w.heap.size w w'))
        case atStart => exact ⟨(0), (by first | rfl | (simp; done) | (simp [*]; done)), H', ⟨Nat.le_refl _⟩, ⟨by (with_reducible repeat (first | refine blk_drewN ?_ _ | refine blk_drew ?_ | refine blk_alloc ?_ _)); exact BK254.out⟩, ⟨by repeat (first | (with_reducible first | exact HB.out | apply below_alloc | apply pw_below_drewN | apply below_drew1 | refine below_set ?_ GE254.out) | exact HB.out)⟩⟩
        case round =>
          clear H'
          try clear p2
          try clear c4
          try clear c4b0
          try clear c4b1
          try clear c4b2
          try clear c5
          try clear hcz6_0
          try clear hcz6_1
          try clear hcz6_2
          try clear hfz6_0
          try clear hfz6_1
          try clear hfz6_2
          try clear p2
          obtain ⟨x4_2, rfl, HA, HK2, BK254, HB⟩ := hrel
          cases gk with
          | zero => exact absurd HA.out (by simp [windbreakref15_Join.l0])
          | succ k2 =>
            have H := HA.out
            clear HA
            simp only [windbreakref15_Join.l0] at H
            by_cases c7 : x4_2 < (l0.length : Int)
            · rw [if_pos c7] at H
              have c7b0 : decide (x4_2 < (l0.length : Int)) = true := decide_eq_true c7
              clear c7
              by_cases c8 : 0 ≤ x4_2
              · rw [if_pos c8] at H
                have c8b0 : decide (0 ≤ x4_2) = true := decide_eq_true c8
                clear c8
                replace H := Option.bind_eq_some_iff.mp H
                obtain ⟨t256, A90, H⟩ := H
                replace H : (if 0 < (l0.length : Int) then ((windbreakref12_SameInts.f k2 ((rd_T43 l0 x4_2).f0) ((rd_T43 l0 0).f0)).bind fun t259 => (if t256 = true then (if t259 = true then (windbreakref15_Join.l0 k2 l0 (wrap64 (x4_2 + 1))) else (some (([] : List Int), ([] : List Int), ([] : List (List Int)), 20))) else (some (([] : List Int), ([] : List Int), ([] : List (List Int)), 20)))) else (none)) = some (r1, r2, r3, r4) := H
                have A9 := Aside0.mk A90
                clear A90
                by_cases c10 : 0 < (l0.length : Int)
                · rw [if_pos c10] at H
                  have c10b0 : decide (0 < (l0.length : Int)) = true := decide_eq_true c10
                  have c10b1 : decide (0 < l0.length) = true := decide_eq_true (by omega)
                  clear c10
                  replace H := Option.bind_eq_some_iff.mp H
                  obtain ⟨t259, A110, H⟩ := H
                  replace H : (if t256 = true then (if t259 = true then (windbreakref15_Join.l0 k2 l0 (wrap64 (x4_2 + 1))) else (some (([] : List Int), ([] : List Int), ([] : List (List Int)), 20))) else (some (([] : List Int), ([] : List Int), ([] : List (List Int)), 20))) = some (r1, r2, r3, r4) := H
                  have A11 := Aside0.mk A110
                  clear A110
                  by_cases c12 : t256 = true
                  · subst c12
                    have H1 : (if t259 = true then (windbreakref15_Join.l0 k2 l0 (wrap64 (x4_2 + 1))) else (some (([] : List Int), ([] : List Int), ([] : List (List Int)), 20))) = some (r1, r2, r3, r4) := by rw [if_pos rfl] at H; exact H
                    clear H
                    have H := H1
                    clear H1
                    by_cases c13 : t259 = true
                    · subst c13
                      have H1 : (windbreakref15_Join.l0 k2 l0 (wrap64 (x4_2 + 1))) = some (r1, r2, r3, r4) := by rw [if_pos rfl] at H; exact H
                      clear H
                      have H := H1
                      clear H1
                      have H' := Aside0.mk H
                      clear H
                      have p255 : 0 ≤ (x4_2 : Int) := of_decide_eq_true (by first | (with_reducible assumption) | assumption)
                      have q255 : x4_2 < (l0.length : Int) := of_decide_eq_true (by first | (with_reducible assumption) | assumption)
                      obtain ⟨ad255, A255_0, c255_0, A255_1, c255_1, A255_2, c255_2, e255, hx255_0, hx255_1, hx255_2, hl255_0, hi255_0, hl255_1, hi255_1, hl255_2, hi255_2⟩ := at_T43 HR0.out x4_2 p255 q255
                      cases e255
                      replace hx255_0 := (HB.out.cell (World.block_lt_of_cell? w _ hx255_0)).trans hx255_0
                      replace hx255_1 := (HB.out.cell (World.block_lt_of_cell? w _ hx255_1)).trans hx255_1
                      replace hx255_2 := (HB.out.cell (World.block_lt_of_cell? w _ hx255_2)).trans hx255_2
                      have HR255_0 := Aside0.mk hi255_0
                      have HC255_0 := Aside0.mk hl255_0
                      clear hi255_0 hl255_0
                      have HR255_1 := Aside0.mk hi255_1
                      have HC255_1 := Aside0.mk hl255_1
                      clear hi255_1 hl255_1
                      have HR255_2 := Aside0.mk hi255_2
                      have HC255_2 := Aside0.mk hl255_2
                      clear hi255_2 hl255_2
                      replace p255 := eq_true p255
                      replace q255 := eq_true q255
                      try go_wp2_with (first | ((with_reducible refine gate_callee (f := 33) rfl ?_); refine goesL_ (some 29) rfl rfl Try.func33 (by kernel_rfl) rfl #[.agg #[.slice A255_0 ((rd_T43 l0 x4_2).f0).length c255_0, .slice A255_1 ((rd_T43 l0 x4_2).f1).length c255_1, .slice A255_2 ((rd_T43 l0 x4_2).f2).length c255_2]] rfl (by (try simp only [List.map_toArray, List.map_cons, List.map_nil]); first | done | rfl | (simp only [List.length_drop, List.length_take]; rfl)) ?_; (with_reducible refine (windbreakref15_Right.calls k2 _ _ ((rd_T43 l0 x4_2).f0) _ _ ((rd_T43 l0 x4_2).f1) _ _ ((rd_T43 l0 x4_2).f2) true _ ?side1 ?side2 ?side3 ?side4 ?side5 ?side6 A9.out).mono ?_); (case side1 => repeat (first | exact (Kd.C_below HR255_0.out HB.out) | (with_reducible refine Kd.C_alloc ?_ _) | (with_reducible refine Kd.C_drewN ?_ _) | (with_reducible refine Kd.C_drew ?_))); (case side2 => exact HC255_0.out); (case side3 => repeat (first | exact (Kd.C_below HR255_1.out HB.out) | (with_reducible refine Kd.C_alloc ?_ _) | (with_reducible refine Kd.C_drewN ?_ _) | (with_reducible refine Kd.C_drew ?_))); (case side4 => exact HC255_1.out); (case side5 => repeat (first | exact (Kd.C_below HR255_2.out HB.out) | (with_reducible refine Kd.C_alloc ?_ _) | (with_reducible refine Kd.C_drewN ?_ _) | (with_reducible refine Kd.C_drew ?_))); (case side6 => exact HC255_2.out); rintro e w14 ⟨rfl, hb⟩; refine ⟨_, rfl, ?_⟩; have n0_ := Aside0.mk (blk_below (g := gb254) (o := .cells #[.slice none 0 0, .slice none 0 0, .slice none 0 0] 43 (0, 0)) (by (with_reducible repeat (first | refine blk_drewN ?_ _ | refine blk_drew ?_ | refine blk_alloc ?_ _)); exact BK254.out) hb); have n1_ := Aside0.mk (below_step (by repeat (first | (with_reducible first | exact HB.out | apply below_alloc | apply pw_below_drewN | apply below_drew1 | refine below_set ?_ GE254.out) | exact HB.out)) hb); clear BK254; clear HB; have BK254 := n0_; have HB := n1_; clear n0_ n1_; (try clear hb); (try clear hb2); (try clear hk); (try clear hi)))
                      have n0_ := Aside0.mk (blk_drew BK254.out)
                      have n1_ := Aside0.mk (below_drew1 HB.out)
                      clear BK254
                      clear HB
                      have BK254 := n0_
                      have HB := n1_
                      clear n0_ n1_
                      have p257 : 0 ≤ (x4_2 : Int) := of_decide_eq_true (by first | (with_reducible assumption) | assumption)
                      have q257 : x4_2 < (l0.length : Int) := of_decide_eq_true (by first | (with_reducible assumption) | assumption)
                      obtain ⟨ad257, A257_0, c257_0, A257_1, c257_1, A257_2, c257_2, e257, hx257_0, hx257_1, hx257_2, hl257_0, hi257_0, hl257_1, hi257_1, hl257_2, hi257_2⟩ := at_T43 HR0.out x4_2 p257 q257
                      have hw257_2 := hx257_2
                      have hw257_1 := hx257_1
                      have hw257_0 := hx257_0
                      obtain rfl : ad255 = ad257 := (by injection e257)
                      replace hx257_0 := (HB.out.cell (World.block_lt_of_cell? w _ hx257_0)).trans hx257_0
                      replace hx257_1 := (HB.out.cell (World.block_lt_of_cell? w _ hx257_1)).trans hx257_1
                      replace hx257_2 := (HB.out.cell (World.block_lt_of_cell? w _ hx257_2)).trans hx257_2
                      have HR257_0 := Aside0.mk hi257_0
                      have HC257_0 := Aside0.mk hl257_0
                      clear hi257_0 hl257_0
                      have HR257_1 := Aside0.mk hi257_1
                      have HC257_1 := Aside0.mk hl257_1
                      clear hi257_1 hl257_1
                      have HR257_2 := Aside0.mk hi257_2
                      have HC257_2 := Aside0.mk hl257_2
                      clear hi257_2 hl257_2
                      replace p257 := eq_true p257
                      replace q257 := eq_true q257
                      have p258 : 0 ≤ (0 : Int) := (by omega)
                      have q258 : 0 < (l0.length : Int) := of_decide_eq_true (by first | (with_reducible assumption) | assumption)
                      obtain ⟨ad258, A258_0, c258_0, A258_1, c258_1, A258_2, c258_2, e258, hx258_0, hx258_1, hx258_2, hl258_0, hi258_0, hl258_1, hi258_1, hl258_2, hi258_2⟩ := at_T43 HR0.out 0 p258 q258
                      have hw258_2 := hx258_2
                      (try rw [show ((0 : Int)).toNat = 0 from rfl] at hw258_2)
                      (try rw [show 0 * 3 = 0 from rfl] at hw258_2)
                      (try rw [Addr.add_zero'] at hw258_2)
                      have hw258_1 := hx258_1
                      (try rw [show ((0 : Int)).toNat = 0 from rfl] at hw258_1)
                      (try rw [show 0 * 3 = 0 from rfl] at hw258_1)
                      (try rw [Addr.add_zero'] at hw258_1)
                      have hw258_0 := hx258_0
                      (try rw [show ((0 : Int)).toNat = 0 from rfl] at hw258_0)
                      (try rw [show 0 * 3 = 0 from rfl] at hw258_0)
                      (try rw [Addr.add_zero'] at hw258_0)
                      obtain rfl : ad255 = ad258 := (by injection e258)
                      have qi258 : (0 < l0.length) = True := eq_true (by omega)
                      (try rw [show ((0 : Int)).toNat = 0 from rfl] at hx258_0)
                      (try rw [show 0 * 3 = 0 from rfl] at hx258_0)
                      (try rw [Addr.add_zero'] at hx258_0)
                      (try rw [show ((0 : Int)).toNat = 0 from rfl] at hx258_1)
                      (try rw [show 0 * 3 = 0 from rfl] at hx258_1)
                      (try rw [Addr.add_zero'] at hx258_1)
                      (try rw [show ((0 : Int)).toNat = 0 from rfl] at hx258_2)
                      (try rw [show 0 * 3 = 0 from rfl] at hx258_2)
                      (try rw [Addr.add_zero'] at hx258_2)
                      replace hx258_0 := (HB.out.cell (World.block_lt_of_cell? w _ hx258_0)).trans hx258_0
                      replace hx258_1 := (HB.out.cell (World.block_lt_of_cell? w _ hx258_1)).trans hx258_1
                      replace hx258_2 := (HB.out.cell (World.block_lt_of_cell? w _ hx258_2)).trans hx258_2
                      have HR258_0 := Aside0.mk hi258_0
                      have HC258_0 := Aside0.mk hl258_0
                      clear hi258_0 hl258_0
                      have HR258_1 := Aside0.mk hi258_1
                      have HC258_1 := Aside0.mk hl258_1
                      clear hi258_1 hl258_1
                      have HR258_2 := Aside0.mk hi258_2
                      have HC258_2 := Aside0.mk hl258_2
                      clear hi258_2 hl258_2
                      replace p258 := eq_true p258
                      replace q258 := eq_true q258
                      refine start_ (n := 11) (S := fun w' => w'.cell? (ad255.add ((x4_2).toNat * 3)) = some (.slice A257_0 ((rd_T43 l0 x4_2).f0).length c257_0) ∧ w'.cell? ⟨(ad255.add ((x4_2).toNat * 3)).block, (ad255.add ((x4_2).toNat * 3)).off + 1, none⟩ = some (.slice A257_1 ((rd_T43 l0 x4_2).f1).length c257_1) ∧ w'.cell? ⟨(ad255.add ((x4_2).toNat * 3)).block, (ad255.add ((x4_2).toNat * 3)).off + 2, none⟩ = some (.slice A257_2 ((rd_T43 l0 x4_2).f2).length c257_2) ∧ w'.cell? ad255 = some (.slice A258_0 ((rd_T43 l0 0).f0).length c258_0) ∧ w'.cell? ⟨ad255.block, ad255.off + 1, none⟩ = some (.slice A258_1 ((rd_T43 l0 0).f1).length c258_1) ∧ w'.cell? ⟨ad255.block, ad255.off + 2, none⟩ = some (.slice A258_2 ((rd_T43 l0 0).f2).length c258_2)) (ds := []) #[false, false, false, false, false, false, false, false, false, false, false] (by kernel_rfl) rfl rfl ⟨((HB.out.cell (World.block_lt_of_cell? w _ hw257_0)).trans hw257_0), ((HB.out.cell (World.block_lt_of_cell? w _ hw257_1)).trans hw257_1), ((HB.out.cell (World.block_lt_of_cell? w _ hw257_2)).trans hw257_2), ((HB.out.cell (World.block_lt_of_cell? w _ hw258_0)).trans hw258_0), ((HB.out.cell (World.block_lt_of_cell? w _ hw258_1)).trans hw258_1), ((HB.out.cell (World.block_lt_of_cell? w _ hw258_2)).trans hw258_2)⟩ (fun hHeld => ?_); refine with_tabW windbreakref15_Join.tab7 windbreakref15_Join.bits7 (fun HT_ HW_ => ?_)
                      generalize w14.drew = w15 at BK254 HB HR257_0 HR257_1 HR257_2 HR258_0 HR258_1 HR258_2 hx257_0 hx257_1 hx257_2 hx258_0 hx258_1 hx258_2 hHeld ⊢
                      refine pure_ (i := 0) (N := some 30) (v := ?_) (a' := ?_) #[true, false, false, false, false, false, false, false, false, false, false] rfl rfl (any_of HT_.out (by kernel_rfl)) (fun _ _ _ h => h) (Or.inl ⟨by rfl, ?_⟩) ?_ ?_
                      rotate_left
                      · intro w'
                        go_simp
                        with_reducible rfl
                      rotate_left
                      · simp only [Act.put, List.setIfInBounds_toArray, List.set_cons_zero, List.set_cons_succ, i64_w, i32_w]
                        rfl
                      refine pure_ (i := 1) (N := some 31) (v := ?_) (a' := ?_) #[true, true, false, false, false, false, false, false, false, false, false] rfl rfl (any_of HT_.out (by kernel_rfl)) (fun _ _ _ h => h) (Or.inl ⟨by rfl, ?_⟩) ?_ ?_
                      rotate_left
                      · intro w'
                        go_simp
                        with_reducible rfl
                      rotate_left
                      · simp only [Act.put, List.setIfInBounds_toArray, List.set_cons_zero, List.set_cons_succ, i64_w, i32_w]
                        rfl
                      refine pure_ (i := 2) (N := some 32) (v := ?_) (a' := ?_) #[true, true, true, false, false, false, false, false, false, false, false] rfl rfl (any_of HT_.out (by kernel_rfl)) (fun _ _ _ h => h) (Or.inl ⟨by rfl, ?_⟩) ?_ ?_
                      rotate_left
                      · intro w'
                        go_simp
                        with_reducible rfl
                      rotate_left
                      · simp only [Act.put, List.setIfInBounds_toArray, List.set_cons_zero, List.set_cons_succ, i64_w, i32_w]
                        rfl
                      refine pure_ (i := 3) (N := some 33) (v := ?_) (a' := ?_) #[true, true, true, true, false, false, false, false, false, false, false] rfl rfl (any_of HT_.out (by kernel_rfl)) (fun _ _ _ h => h) (Or.inl ⟨by rfl, ?_⟩) ?_ ?_
                      rotate_left
                      · intro w'
                        go_simp
                        with_reducible rfl
                      rotate_left
                      · simp only [Act.put, List.setIfInBounds_toArray, List.set_cons_zero, List.set_cons_succ, i64_w, i32_w]
                        rfl
                      refine pure_ (i := 5) (N := some 35) (v := ?_) (a' := ?_) #[true, true, true, true, false, true, false, false, false, false, false] rfl rfl (any_of HT_.out (by kernel_rfl)) (fun _ _ _ h => h) (Or.inl ⟨by rfl, ?_⟩) ?_ ?_
                      rotate_left
                      · intro w'
                        go_simp
                        with_reducible rfl
                      rotate_left
                      · simp only [Act.put, List.setIfInBounds_toArray, List.set_cons_zero, List.set_cons_succ, i64_w, i32_w]
                        rfl
                      refine pure_ (i := 6) (N := some 36) (v := ?_) (a' := ?_) #[true, true, true, true, false, true, true, false, false, false, false] rfl rfl (any_of HT_.out (by kernel_rfl)) (fun _ _ _ h => h) (Or.inl ⟨by rfl, ?_⟩) ?_ ?_
                      rotate_left
                      · intro w'
                        go_simp
                        with_reducible rfl
                      rotate_left
                      · simp only [Act.put, List.setIfInBounds_toArray, List.set_cons_zero, List.set_cons_succ, i64_w, i32_w]
                        rfl
                      refine pure_ (i := 7) (N := some 37) (v := ?_) (a' := ?_) #[true, true, true, true, false, true, true, true, false, false, false] rfl rfl (any_of HT_.out (by kernel_rfl)) (fun _ _ _ h => h) (Or.inl ⟨by rfl, ?_⟩) ?_ ?_
                      rotate_left
                      · intro w'
                        go_simp
                        with_reducible rfl
                      rotate_left
                      · simp only [Act.put, List.setIfInBounds_toArray, List.set_cons_zero, List.set_cons_succ, i64_w, i32_w]
                        rfl
                      refine take_ (i := 4) (N := some 34) (v := ?_) (a' := ?_) #[true, true, true, true, true, true, true, true, false, false, false] rfl rfl (take_ofW HT_.out HW_.out (by kernel_rfl)) (fun _ _ _ h => h) (Or.inl ⟨by rfl, ?_⟩) hHeld ?_ ?_
                      rotate_left
                      · rintro w' ⟨s0, s1, s2, s3, s4, s5⟩
                        go_simp
                        with_reducible rfl
                      rotate_left
                      · simp only [Act.put, List.setIfInBounds_toArray, List.set_cons_zero, List.set_cons_succ, i64_w, i32_w]
                        rfl
                      refine take_ (i := 8) (N := some 38) (v := ?_) (a' := ?_) #[true, true, true, true, true, true, true, true, true, false, false] rfl rfl (take_ofW HT_.out HW_.out (by kernel_rfl)) (fun _ _ _ h => h) (Or.inl ⟨by rfl, ?_⟩) hHeld ?_ ?_
                      rotate_left
                      · rintro w' ⟨s0, s1, s2, s3, s4, s5⟩
                        go_simp
                        with_reducible rfl
                      rotate_left
                      · simp only [Act.put, List.setIfInBounds_toArray, List.set_cons_zero, List.set_cons_succ, i64_w, i32_w]
                        rfl
                      refine one_ (i := 9) (N := some 39) #[true, true, true, true, true, true, true, true, true, true, false] rfl rfl (one_of HT_.out (by kernel_rfl)) (by decide) (fun K hK => ?_)
                      refine goes_ Try.func31 (by kernel_rfl) rfl #[.slice A257_0 ((rd_T43 l0 x4_2).f0).length c257_0, .slice A258_0 ((rd_T43 l0 0).f0).length c258_0] (by rfl) rfl rfl (by (try simp only [List.map_toArray, List.map_cons, List.map_nil]); first | done | rfl | (simp only [List.length_drop, List.length_take]; rfl)) ?_
                      with_reducible refine (windbreakref12_SameInts.calls k2 _ _ ((rd_T43 l0 x4_2).f0) _ _ ((rd_T43 l0 0).f0) true _ ?side1 ?side2 ?side3 ?side4 A11.out).mono ?_
                      (case side1 => repeat (first | exact (Kd.C_below HR257_0.out HB.out) | (with_reducible refine Kd.C_alloc ?_ _) | (with_reducible refine Kd.C_drewN ?_ _) | (with_reducible refine Kd.C_drew ?_)))
                      (case side2 => exact HC257_0.out)
                      (case side3 => repeat (first | exact (Kd.C_below HR258_0.out HB.out) | (with_reducible refine Kd.C_alloc ?_ _) | (with_reducible refine Kd.C_drewN ?_ _) | (with_reducible refine Kd.C_drew ?_)))
                      (case side4 => exact HC258_0.out)
                      rintro e w' ⟨rfl, ⟨nd, rfl⟩⟩
                      refine ⟨_, rfl, ?_⟩
                      refine hK.out _ _ ⟨((HB.out.cell (World.block_lt_of_cell? w _ hw257_0)).trans hw257_0), ((HB.out.cell (World.block_lt_of_cell? w _ hw257_1)).trans hw257_1), ((HB.out.cell (World.block_lt_of_cell? w _ hw257_2)).trans hw257_2), ((HB.out.cell (World.block_lt_of_cell? w _ hw258_0)).trans hw258_0), ((HB.out.cell (World.block_lt_of_cell? w _ hw258_1)).trans hw258_1), ((HB.out.cell (World.block_lt_of_cell? w _ hw258_2)).trans hw258_2)⟩ (fun hHeld => ?_)
                      clear hK K
                      refine norm_ (a' := ?_) ?_ ?_
                      rotate_left
                      · show Act.put _ (some 39) _ = _
                        simp only [Act.put, List.setIfInBounds_toArray, List.set_cons_zero, List.set_cons_succ, i64_w, i32_w]
                        rfl
                      refine pure_ (i := 10) (N := some 6) (v := ?_) (a' := ?_) #[true, true, true, true, true, true, true, true, true, true, true] rfl rfl (any_of HT_.out (by kernel_rfl)) (fun _ _ _ h => h) (Or.inl ⟨by rfl, ?_⟩) ?_ ?_
                      rotate_left
                      · intro w'
                        go_simp
                        with_reducible rfl
                      rotate_left
                      · simp only [Act.put, List.setIfInBounds_toArray, List.set_cons_zero, List.set_cons_succ, i64_w, i32_w]
                        rfl
                      refine done_ (done_of HT_.out (by kernel_rfl)) ?_
                      try go_wp2
                      go_roundg k2
                      case measure => have := HJ1.out; have := HK2.out; omega
                      case rel => exact ⟨(wrap64 (x4_2 + 1)), (by first | rfl | (simp; done) | (simp [*]; done)), H', ⟨by have := HJ1.out; have := HK2.out; omega⟩, ⟨by (with_reducible repeat (first | refine blk_drewN ?_ _ | refine blk_drew ?_ | refine blk_alloc ?_ _)); exact BK254.out⟩, ⟨by repeat (first | (with_reducible first | exact HB.out | apply below_alloc | apply pw_below_drewN | apply below_drew1 | refine below_set ?_ GE254.out) | exact HB.out)⟩⟩
                    · replace c13 := Bool.eq_false_iff.mpr c13
                      subst c13
                      have H1 : (some (([] : List Int), ([] : List Int), ([] : List (List Int)), 20)) = some (r1, r2, r3, r4) := by rw [if_neg (show ¬ (false = true) by decide)] at H; exact H
                      clear H
                      have H := H1
                      clear H1
                      simp only [Option.some.injEq, Prod.mk.injEq] at H
                      obtain ⟨rfl, rfl, rfl, rfl⟩ := H
                      have p255 : 0 ≤ (x4_2 : Int) := of_decide_eq_true (by first | (with_reducible assumption) | assumption)
                      have q255 : x4_2 < (l0.length : Int) := of_decide_eq_true (by first | (with_reducible assumption) | assumption)
                      obtain ⟨ad255, A255_0, c255_0, A255_1, c255_1, A255_2, c255_2, e255, hx255_0, hx255_1, hx255_2, hl255_0, hi255_0, hl255_1, hi255_1, hl255_2, hi255_2⟩ := at_T43 HR0.out x4_2 p255 q255
                      cases e255
                      replace hx255_0 := (HB.out.cell (World.block_lt_of_cell? w _ hx255_0)).trans hx255_0
                      replace hx255_1 := (HB.out.cell (World.block_lt_of_cell? w _ hx255_1)).trans hx255_1
                      replace hx255_2 := (HB.out.cell (World.block_lt_of_cell? w _ hx255_2)).trans hx255_2
                      have HR255_0 := Aside0.mk hi255_0
                      have HC255_0 := Aside0.mk hl255_0
                      clear hi255_0 hl255_0
                      have HR255_1 := Aside0.mk hi255_1
                      have HC255_1 := Aside0.mk hl255_1
                      clear hi255_1 hl255_1
                      have HR255_2 := Aside0.mk hi255_2
                      have HC255_2 := Aside0.mk hl255_2
                      clear hi255_2 hl255_2
                      replace p255 := eq_true p255
                      replace q255 := eq_true q255
                      try go_wp2_with (first | ((with_reducible refine gate_callee (f := 33) rfl ?_); refine goesL_ (some 29) rfl rfl Try.func33 (by kernel_rfl) rfl #[.agg #[.slice A255_0 ((rd_T43 l0 x4_2).f0).length c255_0, .slice A255_1 ((rd_T43 l0 x4_2).f1).length c255_1, .slice A255_2 ((rd_T43 l0 x4_2).f2).length c255_2]] rfl (by (try simp only [List.map_toArray, List.map_cons, List.map_nil]); first | done | rfl | (simp only [List.length_drop, List.length_take]; rfl)) ?_; (with_reducible refine (windbreakref15_Right.calls k2 _ _ ((rd_T43 l0 x4_2).f0) _ _ ((rd_T43 l0 x4_2).f1) _ _ ((rd_T43 l0 x4_2).f2) true _ ?side1 ?side2 ?side3 ?side4 ?side5 ?side6 A9.out).mono ?_); (case side1 => repeat (first | exact (Kd.C_below HR255_0.out HB.out) | (with_reducible refine Kd.C_alloc ?_ _) | (with_reducible refine Kd.C_drewN ?_ _) | (with_reducible refine Kd.C_drew ?_))); (case side2 => exact HC255_0.out); (case side3 => repeat (first | exact (Kd.C_below HR255_1.out HB.out) | (with_reducible refine Kd.C_alloc ?_ _) | (with_reducible refine Kd.C_drewN ?_ _) | (with_reducible refine Kd.C_drew ?_))); (case side4 => exact HC255_1.out); (case side5 => repeat (first | exact (Kd.C_below HR255_2.out HB.out) | (with_reducible refine Kd.C_alloc ?_ _) | (with_reducible refine Kd.C_drewN ?_ _) | (with_reducible refine Kd.C_drew ?_))); (case side6 => exact HC255_2.out); rintro e w16 ⟨rfl, hb⟩; refine ⟨_, rfl, ?_⟩; have n0_ := Aside0.mk (blk_below (g := gb254) (o := .cells #[.slice none 0 0, .slice none 0 0, .slice none 0 0] 43 (0, 0)) (by (with_reducible repeat (first | refine blk_drewN ?_ _ | refine blk_drew ?_ | refine blk_alloc ?_ _)); exact BK254.out) hb); have n1_ := Aside0.mk (below_step (by repeat (first | (with_reducible first | exact HB.out | apply below_alloc | apply pw_below_drewN | apply below_drew1 | refine below_set ?_ GE254.out) | exact HB.out)) hb); clear BK254; clear HB; have BK254 := n0_; have HB := n1_; clear n0_ n1_; (try clear hb); (try clear hb2); (try clear hk); (try clear hi)))
                      have n0_ := Aside0.mk (blk_drew BK254.out)
                      have n1_ := Aside0.mk (below_drew1 HB.out)
                      clear BK254
                      clear HB
                      have BK254 := n0_
                      have HB := n1_
                      clear n0_ n1_
                      have p257 : 0 ≤ (x4_2 : Int) := of_decide_eq_true (by first | (with_reducible assumption) | assumption)
                      have q257 : x4_2 < (l0.length : Int) := of_decide_eq_true (by first | (with_reducible assumption) | assumption)
                      obtain ⟨ad257, A257_0, c257_0, A257_1, c257_1, A257_2, c257_2, e257, hx257_0, hx257_1, hx257_2, hl257_0, hi257_0, hl257_1, hi257_1, hl257_2, hi257_2⟩ := at_T43 HR0.out x4_2 p257 q257
                      have hw257_2 := hx257_2
                      have hw257_1 := hx257_1
                      have hw257_0 := hx257_0
                      obtain rfl : ad255 = ad257 := (by injection e257)
                      replace hx257_0 := (HB.out.cell (World.block_lt_of_cell? w _ hx257_0)).trans hx257_0
                      replace hx257_1 := (HB.out.cell (World.block_lt_of_cell? w _ hx257_1)).trans hx257_1
                      replace hx257_2 := (HB.out.cell (World.block_lt_of_cell? w _ hx257_2)).trans hx257_2
                      have HR257_0 := Aside0.mk hi257_0
                      have HC257_0 := Aside0.mk hl257_0
                      clear hi257_0 hl257_0
                      have HR257_1 := Aside0.mk hi257_1
                      have HC257_1 := Aside0.mk hl257_1
                      clear hi257_1 hl257_1
                      have HR257_2 := Aside0.mk hi257_2
                      have HC257_2 := Aside0.mk hl257_2
                      clear hi257_2 hl257_2
                      replace p257 := eq_true p257
                      replace q257 := eq_true q257
                      have p258 : 0 ≤ (0 : Int) := (by omega)
                      have q258 : 0 < (l0.length : Int) := of_decide_eq_true (by first | (with_reducible assumption) | assumption)
                      obtain ⟨ad258, A258_0, c258_0, A258_1, c258_1, A258_2, c258_2, e258, hx258_0, hx258_1, hx258_2, hl258_0, hi258_0, hl258_1, hi258_1, hl258_2, hi258_2⟩ := at_T43 HR0.out 0 p258 q258
                      have hw258_2 := hx258_2
                      (try rw [show ((0 : Int)).toNat = 0 from rfl] at hw258_2)
                      (try rw [show 0 * 3 = 0 from rfl] at hw258_2)
                      (try rw [Addr.add_zero'] at hw258_2)
                      have hw258_1 := hx258_1
                      (try rw [show ((0 : Int)).toNat = 0 from rfl] at hw258_1)
                      (try rw [show 0 * 3 = 0 from rfl] at hw258_1)
                      (try rw [Addr.add_zero'] at hw258_1)
                      have hw258_0 := hx258_0
                      (try rw [show ((0 : Int)).toNat = 0 from rfl] at hw258_0)
                      (try rw [show 0 * 3 = 0 from rfl] at hw258_0)
                      (try rw [Addr.add_zero'] at hw258_0)
                      obtain rfl : ad255 = ad258 := (by injection e258)
                      have qi258 : (0 < l0.length) = True := eq_true (by omega)
                      (try rw [show ((0 : Int)).toNat = 0 from rfl] at hx258_0)
                      (try rw [show 0 * 3 = 0 from rfl] at hx258_0)
                      (try rw [Addr.add_zero'] at hx258_0)
                      (try rw [show ((0 : Int)).toNat = 0 from rfl] at hx258_1)
                      (try rw [show 0 * 3 = 0 from rfl] at hx258_1)
                      (try rw [Addr.add_zero'] at hx258_1)
                      (try rw [show ((0 : Int)).toNat = 0 from rfl] at hx258_2)
                      (try rw [show 0 * 3 = 0 from rfl] at hx258_2)
                      (try rw [Addr.add_zero'] at hx258_2)
                      replace hx258_0 := (HB.out.cell (World.block_lt_of_cell? w _ hx258_0)).trans hx258_0
                      replace hx258_1 := (HB.out.cell (World.block_lt_of_cell? w _ hx258_1)).trans hx258_1
                      replace hx258_2 := (HB.out.cell (World.block_lt_of_cell? w _ hx258_2)).trans hx258_2
                      have HR258_0 := Aside0.mk hi258_0
                      have HC258_0 := Aside0.mk hl258_0
                      clear hi258_0 hl258_0
                      have HR258_1 := Aside0.mk hi258_1
                      have HC258_1 := Aside0.mk hl258_1
                      clear hi258_1 hl258_1
                      have HR258_2 := Aside0.mk hi258_2
                      have HC258_2 := Aside0.mk hl258_2
                      clear hi258_2 hl258_2
                      replace p258 := eq_true p258
                      replace q258 := eq_true q258
                      refine start_ (n := 11) (S := fun w' => w'.cell? (ad255.add ((x4_2).toNat * 3)) = some (.slice A257_0 ((rd_T43 l0 x4_2).f0).length c257_0) ∧ w'.cell? ⟨(ad255.add ((x4_2).toNat * 3)).block, (ad255.add ((x4_2).toNat * 3)).off + 1, none⟩ = some (.slice A257_1 ((rd_T43 l0 x4_2).f1).length c257_1) ∧ w'.cell? ⟨(ad255.add ((x4_2).toNat * 3)).block, (ad255.add ((x4_2).toNat * 3)).off + 2, none⟩ = some (.slice A257_2 ((rd_T43 l0 x4_2).f2).length c257_2) ∧ w'.cell? ad255 = some (.slice A258_0 ((rd_T43 l0 0).f0).length c258_0) ∧ w'.cell? ⟨ad255.block, ad255.off + 1, none⟩ = some (.slice A258_1 ((rd_T43 l0 0).f1).length c258_1) ∧ w'.cell? ⟨ad255.block, ad255.off + 2, none⟩ = some (.slice A258_2 ((rd_T43 l0 0).f2).length c258_2)) (ds := []) #[false, false, false, false, false, false, false, false, false, false, false] (by kernel_rfl) rfl rfl ⟨((HB.out.cell (World.block_lt_of_cell? w _ hw257_0)).trans hw257_0), ((HB.out.cell (World.block_lt_of_cell? w _ hw257_1)).trans hw257_1), ((HB.out.cell (World.block_lt_of_cell? w _ hw257_2)).trans hw257_2), ((HB.out.cell (World.block_lt_of_cell? w _ hw258_0)).trans hw258_0), ((HB.out.cell (World.block_lt_of_cell? w _ hw258_1)).trans hw258_1), ((HB.out.cell (World.block_lt_of_cell? w _ hw258_2)).trans hw258_2)⟩ (fun hHeld => ?_); refine with_tabW windbreakref15_Join.tab7 windbreakref15_Join.bits7 (fun HT_ HW_ => ?_)
                      generalize w16.drew = w17 at BK254 HB HR257_0 HR257_1 HR257_2 HR258_0 HR258_1 HR258_2 hx257_0 hx257_1 hx257_2 hx258_0 hx258_1 hx258_2 hHeld ⊢
                      refine pure_ (i := 0) (N := some 30) (v := ?_) (a' := ?_) #[true, false, false, false, false, false, false, false, false, false, false] rfl rfl (any_of HT_.out (by kernel_rfl)) (fun _ _ _ h => h) (Or.inl ⟨by rfl, ?_⟩) ?_ ?_
                      rotate_left
                      · intro w'
                        go_simp
                        with_reducible rfl
                      rotate_left
                      · simp only [Act.put, List.setIfInBounds_toArray, List.set_cons_zero, List.set_cons_succ, i64_w, i32_w]
                        rfl
                      refine pure_ (i := 1) (N := some 31) (v := ?_) (a' := ?_) #[true, true, false, false, false, false, false, false, false, false, false] rfl rfl (any_of HT_.out (by kernel_rfl)) (fun _ _ _ h => h) (Or.inl ⟨by rfl, ?_⟩) ?_ ?_
                      rotate_left
                      · intro w'
                        go_simp
                        with_reducible rfl
                      rotate_left
                      · simp only [Act.put, List.setIfInBounds_toArray, List.set_cons_zero, List.set_cons_succ, i64_w, i32_w]
                        rfl
                      refine pure_ (i := 2) (N := some 32) (v := ?_) (a' := ?_) #[true, true, true, false, false, false, false, false, false, false, false] rfl rfl (any_of HT_.out (by kernel_rfl)) (fun _ _ _ h => h) (Or.inl ⟨by rfl, ?_⟩) ?_ ?_
                      rotate_left
                      · intro w'
                        go_simp
                        with_reducible rfl
                      rotate_left
                      · simp only [Act.put, List.setIfInBounds_toArray, List.set_cons_zero, List.set_cons_succ, i64_w, i32_w]
                        rfl
                      refine pure_ (i := 3) (N := some 33) (v := ?_) (a' := ?_) #[true, true, true, true, false, false, false, false, false, false, false] rfl rfl (any_of HT_.out (by kernel_rfl)) (fun _ _ _ h => h) (Or.inl ⟨by rfl, ?_⟩) ?_ ?_
                      rotate_left
                      · intro w'
                        go_simp
                        with_reducible rfl
                      rotate_left
                      · simp only [Act.put, List.setIfInBounds_toArray, List.set_cons_zero, List.set_cons_succ, i64_w, i32_w]
                        rfl
                      refine pure_ (i := 5) (N := some 35) (v := ?_) (a' := ?_) #[true, true, true, true, false, true, false, false, false, false, false] rfl rfl (any_of HT_.out (by kernel_rfl)) (fun _ _ _ h => h) (Or.inl ⟨by rfl, ?_⟩) ?_ ?_
                      rotate_left
                      · intro w'
                        go_simp
                        with_reducible rfl
                      rotate_left
                      · simp only [Act.put, List.setIfInBounds_toArray, List.set_cons_zero, List.set_cons_succ, i64_w, i32_w]
                        rfl
                      refine pure_ (i := 6) (N := some 36) (v := ?_) (a' := ?_) #[true, true, true, true, false, true, true, false, false, false, false] rfl rfl (any_of HT_.out (by kernel_rfl)) (fun _ _ _ h => h) (Or.inl ⟨by rfl, ?_⟩) ?_ ?_
                      rotate_left
                      · intro w'
                        go_simp
                        with_reducible rfl
                      rotate_left
                      · simp only [Act.put, List.setIfInBounds_toArray, List.set_cons_zero, List.set_cons_succ, i64_w, i32_w]
                        rfl
                      refine pure_ (i := 7) (N := some 37) (v := ?_) (a' := ?_) #[true, true, true, true, false, true, true, true, false, false, false] rfl rfl (any_of HT_.out (by kernel_rfl)) (fun _ _ _ h => h) (Or.inl ⟨by rfl, ?_⟩) ?_ ?_
                      rotate_left
                      · intro w'
                        go_simp
                        with_reducible rfl
                      rotate_left
                      · simp only [Act.put, List.setIfInBounds_toArray, List.set_cons_zero, List.set_cons_succ, i64_w, i32_w]
                        rfl
                      refine take_ (i := 4) (N := some 34) (v := ?_) (a' := ?_) #[true, true, true, true, true, true, true, true, false, false, false] rfl rfl (take_ofW HT_.out HW_.out (by kernel_rfl)) (fun _ _ _ h => h) (Or.inl ⟨by rfl, ?_⟩) hHeld ?_ ?_
                      rotate_left
                      · rintro w' ⟨s0, s1, s2, s3, s4, s5⟩
                        go_simp
                        with_reducible rfl
                      rotate_left
                      · simp only [Act.put, List.setIfInBounds_toArray, List.set_cons_zero, List.set_cons_succ, i64_w, i32_w]
                        rfl
                      refine take_ (i := 8) (N := some 38) (v := ?_) (a' := ?_) #[true, true, true, true, true, true, true, true, true, false, false] rfl rfl (take_ofW HT_.out HW_.out (by kernel_rfl)) (fun _ _ _ h => h) (Or.inl ⟨by rfl, ?_⟩) hHeld ?_ ?_
                      rotate_left
                      · rintro w' ⟨s0, s1, s2, s3, s4, s5⟩
                        go_simp
                        with_reducible rfl
                      rotate_left
                      · simp only [Act.put, List.setIfInBounds_toArray, List.set_cons_zero, List.set_cons_succ, i64_w, i32_w]
                        rfl
                      refine one_ (i := 9) (N := some 39) #[true, true, true, true, true, true, true, true, true, true, false] rfl rfl (one_of HT_.out (by kernel_rfl)) (by decide) (fun K hK => ?_)
                      refine goes_ Try.func31 (by kernel_rfl) rfl #[.slice A257_0 ((rd_T43 l0 x4_2).f0).length c257_0, .slice A258_0 ((rd_T43 l0 0).f0).length c258_0] (by rfl) rfl rfl (by (try simp only [List.map_toArray, List.map_cons, List.map_nil]); first | done | rfl | (simp only [List.length_drop, List.length_take]; rfl)) ?_
                      with_reducible refine (windbreakref12_SameInts.calls k2 _ _ ((rd_T43 l0 x4_2).f0) _ _ ((rd_T43 l0 0).f0) false _ ?side1 ?side2 ?side3 ?side4 A11.out).mono ?_
                      (case side1 => repeat (first | exact (Kd.C_below HR257_0.out HB.out) | (with_reducible refine Kd.C_alloc ?_ _) | (with_reducible refine Kd.C_drewN ?_ _) | (with_reducible refine Kd.C_drew ?_)))
                      (case side2 => exact HC257_0.out)
                      (case side3 => repeat (first | exact (Kd.C_below HR258_0.out HB.out) | (with_reducible refine Kd.C_alloc ?_ _) | (with_reducible refine Kd.C_drewN ?_ _) | (with_reducible refine Kd.C_drew ?_)))
                      (case side4 => exact HC258_0.out)
                      rintro e w' ⟨rfl, ⟨nd, rfl⟩⟩
                      refine ⟨_, rfl, ?_⟩
                      refine hK.out _ _ ⟨((HB.out.cell (World.block_lt_of_cell? w _ hw257_0)).trans hw257_0), ((HB.out.cell (World.block_lt_of_cell? w _ hw257_1)).trans hw257_1), ((HB.out.cell (World.block_lt_of_cell? w _ hw257_2)).trans hw257_2), ((HB.out.cell (World.block_lt_of_cell? w _ hw258_0)).trans hw258_0), ((HB.out.cell (World.block_lt_of_cell? w _ hw258_1)).trans hw258_1), ((HB.out.cell (World.block_lt_of_cell? w _ hw258_2)).trans hw258_2)⟩ (fun hHeld => ?_)
                      clear hK K
                      refine norm_ (a' := ?_) ?_ ?_
                      rotate_left
                      · show Act.put _ (some 39) _ = _
                        simp only [Act.put, List.setIfInBounds_toArray, List.set_cons_zero, List.set_cons_succ, i64_w, i32_w]
                        rfl
                      refine pure_ (i := 10) (N := some 6) (v := ?_) (a' := ?_) #[true, true, true, true, true, true, true, true, true, true, true] rfl rfl (any_of HT_.out (by kernel_rfl)) (fun _ _ _ h => h) (Or.inl ⟨by rfl, ?_⟩) ?_ ?_
                      rotate_left
                      · intro w'
                        go_simp
                        with_reducible rfl
                      rotate_left
                      · simp only [Act.put, List.setIfInBounds_toArray, List.set_cons_zero, List.set_cons_succ, i64_w, i32_w]
                        rfl
                      refine done_ (done_of HT_.out (by kernel_rfl)) ?_
                      have hcz18_0 : w17.cell? ⟨gb254, 0, none⟩ = some (.slice none 0 0) := (blk_cell BK254.out 0).trans rfl
                      have hcz18_1 : w17.cell? ⟨gb254, 1, none⟩ = some (.slice none 0 0) := (blk_cell BK254.out 1).trans rfl
                      have hcz18_2 : w17.cell? ⟨gb254, 2, none⟩ = some (.slice none 0 0) := (blk_cell BK254.out 2).trans rfl
                      have hfz18_0 := blk_frozen BK254.out 0
                      have hfz18_1 := blk_frozen BK254.out 1
                      have hfz18_2 := blk_frozen BK254.out 2
                      try go_wp2
                      refine bodyPost_ret (results_ct rfl _ _ gb254 43 #[.slice none 0 0, .slice none 0 0, .slice none 0 0] (0, 0) _ rfl (by (with_reducible repeat (first | refine blk_drewN ?_ _ | refine blk_drew ?_ | refine blk_alloc ?_ _)); refine blk_put (cs := #[.slice none 0 0, .slice none 0 0, .slice none 0 0]) ?_ 2 _ rfl; (with_reducible repeat (first | refine blk_drewN ?_ _ | refine blk_drew ?_ | refine blk_alloc ?_ _)); refine blk_put (cs := #[.slice none 0 0, .slice none 0 0, .slice none 0 0]) ?_ 1 _ rfl; (with_reducible repeat (first | refine blk_drewN ?_ _ | refine blk_drew ?_ | refine blk_alloc ?_ _)); refine blk_put (cs := #[.slice none 0 0, .slice none 0 0, .slice none 0 0]) ?_ 0 _ rfl; (with_reducible repeat (first | refine blk_drewN ?_ _ | refine blk_drew ?_ | refine blk_alloc ?_ _)); exact BK254.out) Try.underlying43 rfl (by kernel_rfl)) rfl ?_
                      exact ⟨_, _, _, by first | rfl | (simp [errW_none, errW_some] <;> rfl) | (simp [*, errW_none, errW_some] <;> rfl), by first | exact Kd.R_nil _ _ _ _ _ | exact Kd.N_nil _ _ _ _ _ | exact Kd.V_nil _ _ _ _ _ | exact Kd.Q_nil _ _ _ _ _ | exact Kd.S_nil _ _ _ _ _, by first | exact Kd.R_nil _ _ _ _ _ | exact Kd.N_nil _ _ _ _ _ | exact Kd.V_nil _ _ _ _ _ | exact Kd.Q_nil _ _ _ _ _ | exact Kd.S_nil _ _ _ _ _, by first | exact Kd.S_nil _ _ _ _ _ | exact Kd.N_nil _ _ _ _ _ | exact Kd.V_nil _ _ _ _ _ | exact Kd.Q_nil _ _ _ _ _ | exact Kd.R_nil _ _ _ _ _, by repeat (first | (with_reducible first | exact HB.out | apply below_alloc | apply pw_below_drewN | apply below_drew1 | refine below_set ?_ GE254.out) | exact HB.out)⟩
                  · replace c12 := Bool.eq_false_iff.mpr c12
                    subst c12
                    have H1 : (some (([] : List Int), ([] : List Int), ([] : List (List Int)), 20)) = some (r1, r2, r3, r4) := by rw [if_neg (show ¬ (false = true) by decide)] at H; exact H
                    clear H
                    have H := H1
                    clear H1
                    simp only [Option.some.injEq, Prod.mk.injEq] at H
                    obtain ⟨rfl, rfl, rfl, rfl⟩ := H
                    have p255 : 0 ≤ (x4_2 : Int) := of_decide_eq_true (by first | (with_reducible assumption) | assumption)
                    have q255 : x4_2 < (l0.length : Int) := of_decide_eq_true (by first | (with_reducible assumption) | assumption)
                    obtain ⟨ad255, A255_0, c255_0, A255_1, c255_1, A255_2, c255_2, e255, hx255_0, hx255_1, hx255_2, hl255_0, hi255_0, hl255_1, hi255_1, hl255_2, hi255_2⟩ := at_T43 HR0.out x4_2 p255 q255
                    cases e255
                    replace hx255_0 := (HB.out.cell (World.block_lt_of_cell? w _ hx255_0)).trans hx255_0
                    replace hx255_1 := (HB.out.cell (World.block_lt_of_cell? w _ hx255_1)).trans hx255_1
                    replace hx255_2 := (HB.out.cell (World.block_lt_of_cell? w _ hx255_2)).trans hx255_2
                    have HR255_0 := Aside0.mk hi255_0
                    have HC255_0 := Aside0.mk hl255_0
                    clear hi255_0 hl255_0
                    have HR255_1 := Aside0.mk hi255_1
                    have HC255_1 := Aside0.mk hl255_1
                    clear hi255_1 hl255_1
                    have HR255_2 := Aside0.mk hi255_2
                    have HC255_2 := Aside0.mk hl255_2
                    clear hi255_2 hl255_2
                    replace p255 := eq_true p255
                    replace q255 := eq_true q255
                    try go_wp2_with (first | ((with_reducible refine gate_callee (f := 33) rfl ?_); refine goesL_ (some 29) rfl rfl Try.func33 (by kernel_rfl) rfl #[.agg #[.slice A255_0 ((rd_T43 l0 x4_2).f0).length c255_0, .slice A255_1 ((rd_T43 l0 x4_2).f1).length c255_1, .slice A255_2 ((rd_T43 l0 x4_2).f2).length c255_2]] rfl (by (try simp only [List.map_toArray, List.map_cons, List.map_nil]); first | done | rfl | (simp only [List.length_drop, List.length_take]; rfl)) ?_; (with_reducible refine (windbreakref15_Right.calls k2 _ _ ((rd_T43 l0 x4_2).f0) _ _ ((rd_T43 l0 x4_2).f1) _ _ ((rd_T43 l0 x4_2).f2) false _ ?side1 ?side2 ?side3 ?side4 ?side5 ?side6 A9.out).mono ?_); (case side1 => repeat (first | exact (Kd.C_below HR255_0.out HB.out) | (with_reducible refine Kd.C_alloc ?_ _) | (with_reducible refine Kd.C_drewN ?_ _) | (with_reducible refine Kd.C_drew ?_))); (case side2 => exact HC255_0.out); (case side3 => repeat (first | exact (Kd.C_below HR255_1.out HB.out) | (with_reducible refine Kd.C_alloc ?_ _) | (with_reducible refine Kd.C_drewN ?_ _) | (with_reducible refine Kd.C_drew ?_))); (case side4 => exact HC255_1.out); (case side5 => repeat (first | exact (Kd.C_below HR255_2.out HB.out) | (with_reducible refine Kd.C_alloc ?_ _) | (with_reducible refine Kd.C_drewN ?_ _) | (with_reducible refine Kd.C_drew ?_))); (case side6 => exact HC255_2.out); rintro e w19 ⟨rfl, hb⟩; refine ⟨_, rfl, ?_⟩; have n0_ := Aside0.mk (blk_below (g := gb254) (o := .cells #[.slice none 0 0, .slice none 0 0, .slice none 0 0] 43 (0, 0)) (by (with_reducible repeat (first | refine blk_drewN ?_ _ | refine blk_drew ?_ | refine blk_alloc ?_ _)); exact BK254.out) hb); have n1_ := Aside0.mk (below_step (by repeat (first | (with_reducible first | exact HB.out | apply below_alloc | apply pw_below_drewN | apply below_drew1 | refine below_set ?_ GE254.out) | exact HB.out)) hb); clear BK254; clear HB; have BK254 := n0_; have HB := n1_; clear n0_ n1_; (try clear hb); (try clear hb2); (try clear hk); (try clear hi)))
                    have n0_ := Aside0.mk (blk_drew BK254.out)
                    have n1_ := Aside0.mk (below_drew1 HB.out)
                    clear BK254
                    clear HB
                    have BK254 := n0_
                    have HB := n1_
                    clear n0_ n1_
                    have p257 : 0 ≤ (x4_2 : Int) := of_decide_eq_true (by first | (with_reducible assumption) | assumption)
                    have q257 : x4_2 < (l0.length : Int) := of_decide_eq_true (by first | (with_reducible assumption) | assumption)
                    obtain ⟨ad257, A257_0, c257_0, A257_1, c257_1, A257_2, c257_2, e257, hx257_0, hx257_1, hx257_2, hl257_0, hi257_0, hl257_1, hi257_1, hl257_2, hi257_2⟩ := at_T43 HR0.out x4_2 p257 q257
                    have hw257_2 := hx257_2
                    have hw257_1 := hx257_1
                    have hw257_0 := hx257_0
                    obtain rfl : ad255 = ad257 := (by injection e257)
                    replace hx257_0 := (HB.out.cell (World.block_lt_of_cell? w _ hx257_0)).trans hx257_0
                    replace hx257_1 := (HB.out.cell (World.block_lt_of_cell? w _ hx257_1)).trans hx257_1
                    replace hx257_2 := (HB.out.cell (World.block_lt_of_cell? w _ hx257_2)).trans hx257_2
                    have HR257_0 := Aside0.mk hi257_0
                    have HC257_0 := Aside0.mk hl257_0
                    clear hi257_0 hl257_0
                    have HR257_1 := Aside0.mk hi257_1
                    have HC257_1 := Aside0.mk hl257_1
                    clear hi257_1 hl257_1
                    have HR257_2 := Aside0.mk hi257_2
                    have HC257_2 := Aside0.mk hl257_2
                    clear hi257_2 hl257_2
                    replace p257 := eq_true p257
                    replace q257 := eq_true q257
                    have p258 : 0 ≤ (0 : Int) := (by omega)
                    have q258 : 0 < (l0.length : Int) := of_decide_eq_true (by first | (with_reducible assumption) | assumption)
                    obtain ⟨ad258, A258_0, c258_0, A258_1, c258_1, A258_2, c258_2, e258, hx258_0, hx258_1, hx258_2, hl258_0, hi258_0, hl258_1, hi258_1, hl258_2, hi258_2⟩ := at_T43 HR0.out 0 p258 q258
                    have hw258_2 := hx258_2
                    (try rw [show ((0 : Int)).toNat = 0 from rfl] at hw258_2)
                    (try rw [show 0 * 3 = 0 from rfl] at hw258_2)
                    (try rw [Addr.add_zero'] at hw258_2)
                    have hw258_1 := hx258_1
                    (try rw [show ((0 : Int)).toNat = 0 from rfl] at hw258_1)
                    (try rw [show 0 * 3 = 0 from rfl] at hw258_1)
                    (try rw [Addr.add_zero'] at hw258_1)
                    have hw258_0 := hx258_0
                    (try rw [show ((0 : Int)).toNat = 0 from rfl] at hw258_0)
                    (try rw [show 0 * 3 = 0 from rfl] at hw258_0)
                    (try rw [Addr.add_zero'] at hw258_0)
                    obtain rfl : ad255 = ad258 := (by injection e258)
                    have qi258 : (0 < l0.length) = True := eq_true (by omega)
                    (try rw [show ((0 : Int)).toNat = 0 from rfl] at hx258_0)
                    (try rw [show 0 * 3 = 0 from rfl] at hx258_0)
                    (try rw [Addr.add_zero'] at hx258_0)
                    (try rw [show ((0 : Int)).toNat = 0 from rfl] at hx258_1)
                    (try rw [show 0 * 3 = 0 from rfl] at hx258_1)
                    (try rw [Addr.add_zero'] at hx258_1)
                    (try rw [show ((0 : Int)).toNat = 0 from rfl] at hx258_2)
                    (try rw [show 0 * 3 = 0 from rfl] at hx258_2)
                    (try rw [Addr.add_zero'] at hx258_2)
                    replace hx258_0 := (HB.out.cell (World.block_lt_of_cell? w _ hx258_0)).trans hx258_0
                    replace hx258_1 := (HB.out.cell (World.block_lt_of_cell? w _ hx258_1)).trans hx258_1
                    replace hx258_2 := (HB.out.cell (World.block_lt_of_cell? w _ hx258_2)).trans hx258_2
                    have HR258_0 := Aside0.mk hi258_0
                    have HC258_0 := Aside0.mk hl258_0
                    clear hi258_0 hl258_0
                    have HR258_1 := Aside0.mk hi258_1
                    have HC258_1 := Aside0.mk hl258_1
                    clear hi258_1 hl258_1
                    have HR258_2 := Aside0.mk hi258_2
                    have HC258_2 := Aside0.mk hl258_2
                    clear hi258_2 hl258_2
                    replace p258 := eq_true p258
                    replace q258 := eq_true q258
                    refine start_ (n := 11) (S := fun w' => w'.cell? (ad255.add ((x4_2).toNat * 3)) = some (.slice A257_0 ((rd_T43 l0 x4_2).f0).length c257_0) ∧ w'.cell? ⟨(ad255.add ((x4_2).toNat * 3)).block, (ad255.add ((x4_2).toNat * 3)).off + 1, none⟩ = some (.slice A257_1 ((rd_T43 l0 x4_2).f1).length c257_1) ∧ w'.cell? ⟨(ad255.add ((x4_2).toNat * 3)).block, (ad255.add ((x4_2).toNat * 3)).off + 2, none⟩ = some (.slice A257_2 ((rd_T43 l0 x4_2).f2).length c257_2) ∧ w'.cell? ad255 = some (.slice A258_0 ((rd_T43 l0 0).f0).length c258_0) ∧ w'.cell? ⟨ad255.block, ad255.off + 1, none⟩ = some (.slice A258_1 ((rd_T43 l0 0).f1).length c258_1) ∧ w'.cell? ⟨ad255.block, ad255.off + 2, none⟩ = some (.slice A258_2 ((rd_T43 l0 0).f2).length c258_2)) (ds := []) #[false, false, false, false, false, false, false, false, false, false, false] (by kernel_rfl) rfl rfl ⟨((HB.out.cell (World.block_lt_of_cell? w _ hw257_0)).trans hw257_0), ((HB.out.cell (World.block_lt_of_cell? w _ hw257_1)).trans hw257_1), ((HB.out.cell (World.block_lt_of_cell? w _ hw257_2)).trans hw257_2), ((HB.out.cell (World.block_lt_of_cell? w _ hw258_0)).trans hw258_0), ((HB.out.cell (World.block_lt_of_cell? w _ hw258_1)).trans hw258_1), ((HB.out.cell (World.block_lt_of_cell? w _ hw258_2)).trans hw258_2)⟩ (fun hHeld => ?_); refine with_tabW windbreakref15_Join.tab7 windbreakref15_Join.bits7 (fun HT_ HW_ => ?_)
                    generalize w19.drew = w20 at BK254 HB HR257_0 HR257_1 HR257_2 HR258_0 HR258_1 HR258_2 hx257_0 hx257_1 hx257_2 hx258_0 hx258_1 hx258_2 hHeld ⊢
                    refine pure_ (i := 0) (N := some 30) (v := ?_) (a' := ?_) #[true, false, false, false, false, false, false, false, false, false, false] rfl rfl (any_of HT_.out (by kernel_rfl)) (fun _ _ _ h => h) (Or.inl ⟨by rfl, ?_⟩) ?_ ?_
                    rotate_left
                    · intro w'
                      go_simp
                      with_reducible rfl
                    rotate_left
                    · simp only [Act.put, List.setIfInBounds_toArray, List.set_cons_zero, List.set_cons_succ, i64_w, i32_w]
                      rfl
                    refine pure_ (i := 1) (N := some 31) (v := ?_) (a' := ?_) #[true, true, false, false, false, false, false, false, false, false, false] rfl rfl (any_of HT_.out (by kernel_rfl)) (fun _ _ _ h => h) (Or.inl ⟨by rfl, ?_⟩) ?_ ?_
                    rotate_left
                    · intro w'
                      go_simp
                      with_reducible rfl
                    rotate_left
                    · simp only [Act.put, List.setIfInBounds_toArray, List.set_cons_zero, List.set_cons_succ, i64_w, i32_w]
                      rfl
                    refine pure_ (i := 2) (N := some 32) (v := ?_) (a' := ?_) #[true, true, true, false, false, false, false, false, false, false, false] rfl rfl (any_of HT_.out (by kernel_rfl)) (fun _ _ _ h => h) (Or.inl ⟨by rfl, ?_⟩) ?_ ?_
                    rotate_left
                    · intro w'
                      go_simp
                      with_reducible rfl
                    rotate_left
                    · simp only [Act.put, List.setIfInBounds_toArray, List.set_cons_zero, List.set_cons_succ, i64_w, i32_w]
                      rfl
                    refine pure_ (i := 3) (N := some 33) (v := ?_) (a' := ?_) #[true, true, true, true, false, false, false, false, false, false, false] rfl rfl (any_of HT_.out (by kernel_rfl)) (fun _ _ _ h => h) (Or.inl ⟨by rfl, ?_⟩) ?_ ?_
                    rotate_left
                    · intro w'
                      go_simp
                      with_reducible rfl
                    rotate_left
                    · simp only [Act.put, List.setIfInBounds_toArray, List.set_cons_zero, List.set_cons_succ, i64_w, i32_w]
                      rfl
                    refine pure_ (i := 5) (N := some 35) (v := ?_) (a' := ?_) #[true, true, true, true, false, true, false, false, false, false, false] rfl rfl (any_of HT_.out (by kernel_rfl)) (fun _ _ _ h => h) (Or.inl ⟨by rfl, ?_⟩) ?_ ?_
                    rotate_left
                    · intro w'
                      go_simp
                      with_reducible rfl
                    rotate_left
                    · simp only [Act.put, List.setIfInBounds_toArray, List.set_cons_zero, List.set_cons_succ, i64_w, i32_w]
                      rfl
                    refine pure_ (i := 6) (N := some 36) (v := ?_) (a' := ?_) #[true, true, true, true, false, true, true, false, false, false, false] rfl rfl (any_of HT_.out (by kernel_rfl)) (fun _ _ _ h => h) (Or.inl ⟨by rfl, ?_⟩) ?_ ?_
                    rotate_left
                    · intro w'
                      go_simp
                      with_reducible rfl
                    rotate_left
                    · simp only [Act.put, List.setIfInBounds_toArray, List.set_cons_zero, List.set_cons_succ, i64_w, i32_w]
                      rfl
                    refine pure_ (i := 7) (N := some 37) (v := ?_) (a' := ?_) #[true, true, true, true, false, true, true, true, false, false, false] rfl rfl (any_of HT_.out (by kernel_rfl)) (fun _ _ _ h => h) (Or.inl ⟨by rfl, ?_⟩) ?_ ?_
                    rotate_left
                    · intro w'
                      go_simp
                      with_reducible rfl
                    rotate_left
                    · simp only [Act.put, List.setIfInBounds_toArray, List.set_cons_zero, List.set_cons_succ, i64_w, i32_w]
                      rfl
                    refine take_ (i := 4) (N := some 34) (v := ?_) (a' := ?_) #[true, true, true, true, true, true, true, true, false, false, false] rfl rfl (take_ofW HT_.out HW_.out (by kernel_rfl)) (fun _ _ _ h => h) (Or.inl ⟨by rfl, ?_⟩) hHeld ?_ ?_
                    rotate_left
                    · rintro w' ⟨s0, s1, s2, s3, s4, s5⟩
                      go_simp
                      with_reducible rfl
                    rotate_left
                    · simp only [Act.put, List.setIfInBounds_toArray, List.set_cons_zero, List.set_cons_succ, i64_w, i32_w]
                      rfl
                    refine take_ (i := 8) (N := some 38) (v := ?_) (a' := ?_) #[true, true, true, true, true, true, true, true, true, false, false] rfl rfl (take_ofW HT_.out HW_.out (by kernel_rfl)) (fun _ _ _ h => h) (Or.inl ⟨by rfl, ?_⟩) hHeld ?_ ?_
                    rotate_left
                    · rintro w' ⟨s0, s1, s2, s3, s4, s5⟩
                      go_simp
                      with_reducible rfl
                    rotate_left
                    · simp only [Act.put, List.setIfInBounds_toArray, List.set_cons_zero, List.set_cons_succ, i64_w, i32_w]
                      rfl
                    refine one_ (i := 9) (N := some 39) #[true, true, true, true, true, true, true, true, true, true, false] rfl rfl (one_of HT_.out (by kernel_rfl)) (by decide) (fun K hK => ?_)
                    refine goes_ Try.func31 (by kernel_rfl) rfl #[.slice A257_0 ((rd_T43 l0 x4_2).f0).length c257_0, .slice A258_0 ((rd_T43 l0 0).f0).length c258_0] (by rfl) rfl rfl (by (try simp only [List.map_toArray, List.map_cons, List.map_nil]); first | done | rfl | (simp only [List.length_drop, List.length_take]; rfl)) ?_
                    with_reducible refine (windbreakref12_SameInts.calls k2 _ _ ((rd_T43 l0 x4_2).f0) _ _ ((rd_T43 l0 0).f0) t259 _ ?side1 ?side2 ?side3 ?side4 A11.out).mono ?_
                    (case side1 => repeat (first | exact (Kd.C_below HR257_0.out HB.out) | (with_reducible refine Kd.C_alloc ?_ _) | (with_reducible refine Kd.C_drewN ?_ _) | (with_reducible refine Kd.C_drew ?_)))
                    (case side2 => exact HC257_0.out)
                    (case side3 => repeat (first | exact (Kd.C_below HR258_0.out HB.out) | (with_reducible refine Kd.C_alloc ?_ _) | (with_reducible refine Kd.C_drewN ?_ _) | (with_reducible refine Kd.C_drew ?_)))
                    (case side4 => exact HC258_0.out)
                    rintro e w' ⟨rfl, ⟨nd, rfl⟩⟩
                    refine ⟨_, rfl, ?_⟩
                    refine hK.out _ _ ⟨((HB.out.cell (World.block_lt_of_cell? w _ hw257_0)).trans hw257_0), ((HB.out.cell (World.block_lt_of_cell? w _ hw257_1)).trans hw257_1), ((HB.out.cell (World.block_lt_of_cell? w _ hw257_2)).trans hw257_2), ((HB.out.cell (World.block_lt_of_cell? w _ hw258_0)).trans hw258_0), ((HB.out.cell (World.block_lt_of_cell? w _ hw258_1)).trans hw258_1), ((HB.out.cell (World.block_lt_of_cell? w _ hw258_2)).trans hw258_2)⟩ (fun hHeld => ?_)
                    clear hK K
                    refine norm_ (a' := ?_) ?_ ?_
                    rotate_left
                    · show Act.put _ (some 39) _ = _
                      simp only [Act.put, List.setIfInBounds_toArray, List.set_cons_zero, List.set_cons_succ, i64_w, i32_w]
                      rfl
                    refine pure_ (i := 10) (N := some 6) (v := ?_) (a' := ?_) #[true, true, true, true, true, true, true, true, true, true, true] rfl rfl (any_of HT_.out (by kernel_rfl)) (fun _ _ _ h => h) (Or.inl ⟨by rfl, ?_⟩) ?_ ?_
                    rotate_left
                    · intro w'
                      go_simp
                      with_reducible rfl
                    rotate_left
                    · simp only [Act.put, List.setIfInBounds_toArray, List.set_cons_zero, List.set_cons_succ, i64_w, i32_w]
                      rfl
                    refine done_ (done_of HT_.out (by kernel_rfl)) ?_
                    have hcz21_0 : w20.cell? ⟨gb254, 0, none⟩ = some (.slice none 0 0) := (blk_cell BK254.out 0).trans rfl
                    have hcz21_1 : w20.cell? ⟨gb254, 1, none⟩ = some (.slice none 0 0) := (blk_cell BK254.out 1).trans rfl
                    have hcz21_2 : w20.cell? ⟨gb254, 2, none⟩ = some (.slice none 0 0) := (blk_cell BK254.out 2).trans rfl
                    have hfz21_0 := blk_frozen BK254.out 0
                    have hfz21_1 := blk_frozen BK254.out 1
                    have hfz21_2 := blk_frozen BK254.out 2
                    try go_wp2
                    refine bodyPost_ret (results_ct rfl _ _ gb254 43 #[.slice none 0 0, .slice none 0 0, .slice none 0 0] (0, 0) _ rfl (by (with_reducible repeat (first | refine blk_drewN ?_ _ | refine blk_drew ?_ | refine blk_alloc ?_ _)); refine blk_put (cs := #[.slice none 0 0, .slice none 0 0, .slice none 0 0]) ?_ 2 _ rfl; (with_reducible repeat (first | refine blk_drewN ?_ _ | refine blk_drew ?_ | refine blk_alloc ?_ _)); refine blk_put (cs := #[.slice none 0 0, .slice none 0 0, .slice none 0 0]) ?_ 1 _ rfl; (with_reducible repeat (first | refine blk_drewN ?_ _ | refine blk_drew ?_ | refine blk_alloc ?_ _)); refine blk_put (cs := #[.slice none 0 0, .slice none 0 0, .slice none 0 0]) ?_ 0 _ rfl; (with_reducible repeat (first | refine blk_drewN ?_ _ | refine blk_drew ?_ | refine blk_alloc ?_ _)); exact BK254.out) Try.underlying43 rfl (by kernel_rfl)) rfl ?_
                    exact ⟨_, _, _, by first | rfl | (simp [errW_none, errW_some] <;> rfl) | (simp [*, errW_none, errW_some] <;> rfl), by first | exact Kd.R_nil _ _ _ _ _ | exact Kd.N_nil _ _ _ _ _ | exact Kd.V_nil _ _ _ _ _ | exact Kd.Q_nil _ _ _ _ _ | exact Kd.S_nil _ _ _ _ _, by first | exact Kd.R_nil _ _ _ _ _ | exact Kd.N_nil _ _ _ _ _ | exact Kd.V_nil _ _ _ _ _ | exact Kd.Q_nil _ _ _ _ _ | exact Kd.S_nil _ _ _ _ _, by first | exact Kd.S_nil _ _ _ _ _ | exact Kd.N_nil _ _ _ _ _ | exact Kd.V_nil _ _ _ _ _ | exact Kd.Q_nil _ _ _ _ _ | exact Kd.R_nil _ _ _ _ _, by repeat (first | (with_reducible first | exact HB.out | apply below_alloc | apply pw_below_drewN | apply below_drew1 | refine below_set ?_ GE254.out) | exact HB.out)⟩
                · rw [if_neg c10] at H
                  exact absurd H (by simp)
              · rw [if_neg c8] at H
                exact absurd H (by simp)
            · rw [if_neg c7] at H
              have c7b0 : decide (x4_2 < (l0.length : Int)) = false := decide_eq_false c7
              clear c7
              obtain ⟨y260, hy260⟩ : ∃ y_ : List Int, y_ = (([] : List Int)) := ⟨_, rfl⟩
              replace H : (if 0 < (l0.length : Int) then (if y260.length + ((rd_T43 l0 0).f0).length < 17592186044416 then (windbreakref15_Join.l1 k2 l0 0 (y260 ++ ((rd_T43 l0 0).f0)) ([] : List Int) ([] : List (List Int))) else (none)) else (none)) = some (r1, r2, r3, r4) := by first | (rw [hy260]; with_reducible exact H) | (have H2_ := (Option.bind_some _ _).symm.trans H; rw [hy260]; with_reducible exact H2_) | (have H2_ := (Option.bind_some _ _).symm.trans H; with_reducible exact H2_) | with_reducible exact H | (rw [hy260]; exact H) | exact H
              have Ny260 := Aside0.mk hy260
              clear hy260
              by_cases c22 : 0 < (l0.length : Int)
              · rw [if_pos c22] at H
                have c22b0 : decide (0 < (l0.length : Int)) = true := decide_eq_true c22
                have c22b1 : decide (0 < l0.length) = true := decide_eq_true (by omega)
                clear c22
                by_cases c23 : y260.length + ((rd_T43 l0 0).f0).length < 17592186044416
                · rw [if_pos c23] at H
                  have LMc23 := Aside0.mk c23
                  clear c23
                  obtain ⟨y264, hy264⟩ : ∃ y_ : List Int, y_ = (y260 ++ ((rd_T43 l0 0).f0)) := ⟨_, rfl⟩
                  replace H : (windbreakref15_Join.l1 k2 l0 0 y264 ([] : List Int) ([] : List (List Int))) = some (r1, r2, r3, r4) := by first | (rw [hy264]; with_reducible exact H) | (have H2_ := (Option.bind_some _ _).symm.trans H; rw [hy264]; with_reducible exact H2_) | (have H2_ := (Option.bind_some _ _).symm.trans H; with_reducible exact H2_) | with_reducible exact H | (rw [hy264]; exact H) | exact H
                  have Ny264 := Aside0.mk hy264
                  clear hy264
                  have H' := Aside0.mk H
                  clear H
                  go_wp2_with (first | ((with_reducible refine gate_dst (N := 47) rfl ?_); (try (refine gate_guard (by rfl) ?_; dsimp only)); refine Kd.R_lit (Kd.int .i64) _ 3 ?hg (N := 47) ?hd (xs := ([] : List Int)) (inner := []) (ok := fun _ => True) (okp := fun _ => True) ?hr ?hp (fun _ hk => hk) trivial (Below.refl _ _) (Nat.le_refl _) (by simp) ?_; (case hd => rfl); (case hg => rfl); (case hr => first | (go_simp; done) | (go_simp; rfl)); (case hp => exact (Reps.none _ _)); intro v261 w24 ho25 hb hg_ hnew_; clear hg_ hnew_; (first | rw [← Ny260.out] at ho25 | (simp only [Int.reduceToNat] at ho25; rw [← Ny260.out] at ho25)); have n0_ := Aside0.mk (Kd.R_lower ho25 (below_size (by repeat (first | (with_reducible first | exact HB.out | apply below_alloc | apply pw_below_drewN | apply below_drew1 | refine below_set ?_ GE254.out) | exact HB.out)))); have n1_ := Aside0.mk (blk_below (g := gb254) (o := .cells #[.slice none 0 0, .slice none 0 0, .slice none 0 0] 43 (0, 0)) (by (with_reducible repeat (first | refine blk_drewN ?_ _ | refine blk_drew ?_ | refine blk_alloc ?_ _)); exact BK254.out) hb); have n2_ := Aside0.mk (below_step (by repeat (first | (with_reducible first | exact HB.out | apply below_alloc | apply pw_below_drewN | apply below_drew1 | refine below_set ?_ GE254.out) | exact HB.out)) hb); clear BK254; clear HB; have HO262 := n0_; have BK254 := n1_; have HB := n2_; clear n0_ n1_ n2_; clear hb ho25; have p263 : 0 ≤ (0 : Int) := (by omega); have q263 : 0 < (l0.length : Int) := of_decide_eq_true (by first | (with_reducible assumption) | assumption); obtain ⟨ad263, A263_0, c263_0, A263_1, c263_1, A263_2, c263_2, e263, hx263_0, hx263_1, hx263_2, hl263_0, hi263_0, hl263_1, hi263_1, hl263_2, hi263_2⟩ := at_T43 HR0.out 0 p263 q263; cases e263; have qi263 : (0 < l0.length) = True := eq_true (by omega); (try rw [show ((0 : Int)).toNat = 0 from rfl] at hx263_0); (try rw [show 0 * 3 = 0 from rfl] at hx263_0); (try rw [Addr.add_zero'] at hx263_0); (try rw [show ((0 : Int)).toNat = 0 from rfl] at hx263_1); (try rw [show 0 * 3 = 0 from rfl] at hx263_1); (try rw [Addr.add_zero'] at hx263_1); (try rw [show ((0 : Int)).toNat = 0 from rfl] at hx263_2); (try rw [show 0 * 3 = 0 from rfl] at hx263_2); (try rw [Addr.add_zero'] at hx263_2); replace hx263_0 := (HB.out.cell (World.block_lt_of_cell? w _ hx263_0)).trans hx263_0; replace hx263_1 := (HB.out.cell (World.block_lt_of_cell? w _ hx263_1)).trans hx263_1; replace hx263_2 := (HB.out.cell (World.block_lt_of_cell? w _ hx263_2)).trans hx263_2; have HR263_0 := Aside0.mk hi263_0; have HC263_0 := Aside0.mk hl263_0; clear hi263_0 hl263_0; have HR263_1 := Aside0.mk hi263_1; have HC263_1 := Aside0.mk hl263_1; clear hi263_1 hl263_1; have HR263_2 := Aside0.mk hi263_2; have HC263_2 := Aside0.mk hl263_2; clear hi263_2 hl263_2; replace p263 := eq_true p263; replace q263 := eq_true q263) | ((with_reducible refine gate_builtin (b := .append) (xs := #[.tmp 47, .tmp 51]) rfl ?_); (try (refine gate_guard (by rfl) ?_; dsimp only)); at_builtin; refine Kd.R_append_rows (Kd.int .i64) (w0 := w) w.heap.size rfl (.tmp 47) (.tmp 51) 31 3 (.int .i64 0) 8 rfl Try.underlying31 info3 rfl (by decide) (by omega) v261 y260 ((rd_T43 l0 0).f0) _ _ _ (fun _ => True) (fun _ => False) rfl rfl ?aO ?aR (fun _ _ h => h) (fun _ h => h.elim) ?aF ?aB ?aS ?aL ?_; (case aR => repeat (first | exact (Kd.C_below HR263_0.out HB.out) | (with_reducible refine Kd.C_alloc ?_ _) | (with_reducible refine Kd.C_drewN ?_ _) | (with_reducible refine Kd.C_drew ?_))); (case aB => exact (by repeat (first | (with_reducible first | exact HB.out | apply below_alloc | apply pw_below_drewN | apply below_drew1 | refine below_set ?_ GE254.out) | exact HB.out))); (case aF => exact (fun _ _ => trivial)); (case aO => exact (by (with_reducible repeat (first | apply Kd.R_alloc | apply Kd.R_drewN | apply Kd.R_drew)); exact HO262.out)); (case aS => exact (below_size (by repeat (first | (with_reducible first | exact HB.out | apply below_alloc | apply pw_below_drewN | apply below_drew1 | refine below_set ?_ GE254.out) | exact HB.out)))); (case aL => have := LMc23.out; omega); intro v265 w26 ho hb hg hat; rw [← Ny264.out] at ho; have n0_ := Aside0.mk (blk_grown (g := gb254) (o := .cells #[.slice none 0 0, .slice none 0 0, .slice none 0 0] 43 (0, 0)) (by (with_reducible repeat (first | refine blk_drewN ?_ _ | refine blk_drew ?_ | refine blk_alloc ?_ _)); exact BK254.out) hg (Kd.R_ne HO262.out BK254.out (by decide))); have n1_ := Aside0.mk (hb); have n2_ := Aside0.mk (ho); clear BK254; clear HB; clear HO262; have BK254 := n0_; have HB := n1_; have HO266 := n2_; clear n0_ n1_ n2_; clear ho hb hg hat; obtain ⟨Ao27, co27, eo27⟩ := Kd.R_slice HO266.out; subst eo27) | ((with_reducible refine gate_dst (N := 7) rfl ?_); (try (refine gate_guard (by rfl) ?_; dsimp only)); refine box_event ?hg (N := 7) ?hd (cs := #[.slice none 0 0, .slice none 0 0, .slice none 0 0]) (t := 43) ?hr ?_; (case hd => rfl); (case hg => rfl); (case hr => first | (go_simp; done) | (go_simp; rfl)); intro gb267 hg w28 hbox hb; have n0_ := Aside0.mk (Kd.R_below (by (with_reducible repeat (first | apply Kd.R_alloc | apply Kd.R_drewN | apply Kd.R_drew)); exact HO266.out) hb); have n1_ := Aside0.mk (blk_below (g := gb254) (o := .cells #[.slice none 0 0, .slice none 0 0, .slice none 0 0] 43 (0, 0)) (by (with_reducible repeat (first | refine blk_drewN ?_ _ | refine blk_drew ?_ | refine blk_alloc ?_ _)); exact BK254.out) hb); have n2_ := Aside0.mk (below_step (by repeat (first | (with_reducible first | exact HB.out | apply below_alloc | apply pw_below_drewN | apply below_drew1 | refine below_set ?_ GE254.out) | exact HB.out)) hb); have n3_ := Aside0.mk (hbox); have n4_ := Aside0.mk ((by rw [hg]; exact (below_size (by repeat (first | (with_reducible first | exact HB.out | apply below_alloc | apply pw_below_drewN | apply below_drew1 | refine below_set ?_ GE254.out) | exact HB.out))) : w.heap.size ≤ gb267)); have n5_ := Aside0.mk ((by rw [hg]; exact (below_size (by repeat (first | (with_reducible first | exact HB.out | apply below_alloc | apply pw_below_drewN | apply below_drew1 | refine below_set ?_ GE254.out) | exact HB.out))) : w.heap.size ≤ gb267)); have n6_ := Aside0.mk ((by rw [hg]; exact Nat.ne_of_lt (blk_lt (g := gb254) (o := .cells #[.slice none 0 0, .slice none 0 0, .slice none 0 0] 43 (0, 0)) (by (with_reducible repeat (first | refine blk_drewN ?_ _ | refine blk_drew ?_ | refine blk_alloc ?_ _)); exact BK254.out)) : gb254 ≠ gb267)); have n7_ := Aside0.mk ((by rw [hg]; exact Nat.ne_of_gt (blk_lt (g := gb254) (o := .cells #[.slice none 0 0, .slice none 0 0, .slice none 0 0] 43 (0, 0)) (by (with_reducible repeat (first | refine blk_drewN ?_ _ | refine blk_drew ?_ | refine blk_alloc ?_ _)); exact BK254.out)) : gb267 ≠ gb254)); clear HO266; clear BK254; clear HB; have HO266 := n0_; have BK254 := n1_; have HB := n2_; have BK267 := n3_; have GW267 := n4_; have GE267 := n5_; have NB254_267 := n6_; have NB267_254 := n7_; clear n0_ n1_ n2_ n3_ n4_ n5_ n6_ n7_; clear hb hbox hg; have hnb29 := NB267_254.out; have hnc29 := NB254_267.out; have hcz30_0 : w28.cell? ⟨gb267, 0, none⟩ = some (.slice none 0 0) := (blk_cell BK267.out 0).trans rfl; have hcz30_1 : w28.cell? ⟨gb267, 1, none⟩ = some (.slice none 0 0) := (blk_cell BK267.out 1).trans rfl; have hcz30_2 : w28.cell? ⟨gb267, 2, none⟩ = some (.slice none 0 0) := (blk_cell BK267.out 2).trans rfl; have hfz30_0 := blk_frozen BK267.out 0; have hfz30_1 := blk_frozen BK267.out 1; have hfz30_2 := blk_frozen BK267.out 2))
                  go_loopg [8] k2 (fun kq v8 w' => ∃ (x8_3 : Int) (x268001_3 : List Int) (x268002_3 : List (List Int)) (u268001 : Value) (u268002 : Value), v8 = .int .i64 x8_3 ∧ Aside0 (windbreakref15_Join.l1 kq l0 x8_3 y264 x268001_3 x268002_3 = some (r1, r2, r3, r4)) ∧ Aside0 (kq ≤ k2) ∧ Aside0 (Kd.R (Kd.int .i64) 3 w' w.heap.size (fun k_ => some k_ ≠ (u268001 : Value).ownBlock) (.slice Ao27 y264.length co27) y264) ∧ Aside0 (Kd.R (Kd.int .i64) 3 w' w.heap.size (fun k_ => some k_ ≠ ((.slice Ao27 y264.length co27) : Value).ownBlock) u268001 x268001_3) ∧ Aside0 (Kd.S (Kd.slice 3 (Kd.int .i64)) 31 w' w.heap.size (fun k_ => some k_ ≠ ((.slice Ao27 y264.length co27) : Value).ownBlock ∧ some k_ ≠ (u268001 : Value).ownBlock) u268002 x268002_3) ∧ Aside0 (w'.heap[gb254]? = some (.cells #[(.slice none 0 0), (.slice none 0 0), (.slice none 0 0)] 43 (0, 0))) ∧ Aside0 (w'.heap[gb267]? = some (.cells #[(.slice Ao27 y264.length co27), u268001, u268002] 43 (0, 0))) ∧ Aside0 (Below w.heap.size w w'))
                  case atStart => exact ⟨(0), (([] : List Int)), (([] : List (List Int))), (.slice none 0 0), (.slice none 0 0), (by first | rfl | (simp; done) | (simp [*]; done)), H', ⟨Nat.le_refl _⟩, ⟨by (with_reducible repeat (first | apply Kd.R_alloc | apply Kd.R_drewN | apply Kd.R_drew)); exact Kd.R_mono (Kd.R_far (p := ⟨gb267, 2, none⟩) (Kd.R_far (p := ⟨gb267, 1, none⟩) (Kd.R_far (p := ⟨gb267, 0, none⟩) (Kd.R_types HO266.out BK267.out (by decide)) (fun _ hk => hk.2) (.slice Ao27 y264.length co27)) (fun _ hk => hk.2) (.slice none 0 0)) (fun _ hk => hk.2) (.slice none 0 0)) (fun _ hk => (by simp [Value.ownBlock]))⟩, ⟨by first | exact Kd.R_nil _ _ _ _ _ | exact Kd.N_nil _ _ _ _ _ | exact Kd.V_nil _ _ _ _ _ | exact Kd.Q_nil _ _ _ _ _ | exact Kd.S_nil _ _ _ _ _⟩, ⟨by first | exact Kd.S_nil _ _ _ _ _ | exact Kd.N_nil _ _ _ _ _ | exact Kd.V_nil _ _ _ _ _ | exact Kd.Q_nil _ _ _ _ _ | exact Kd.R_nil _ _ _ _ _⟩, ⟨by (with_reducible repeat (first | refine blk_drewN ?_ _ | refine blk_drew ?_ | refine blk_alloc ?_ _)); refine blk_far ?_ NB254_267.out _; (with_reducible repeat (first | refine blk_drewN ?_ _ | refine blk_drew ?_ | refine blk_alloc ?_ _)); refine blk_far ?_ NB254_267.out _; (with_reducible repeat (first | refine blk_drewN ?_ _ | refine blk_drew ?_ | refine blk_alloc ?_ _)); refine blk_far ?_ NB254_267.out _; (with_reducible repeat (first | refine blk_drewN ?_ _ | refine blk_drew ?_ | refine blk_alloc ?_ _)); exact BK254.out⟩, ⟨by (with_reducible repeat (first | refine blk_drewN ?_ _ | refine blk_drew ?_ | refine blk_alloc ?_ _)); refine blk_put (cs := #[.slice Ao27 y264.length co27, .slice none 0 0, .slice none 0 0]) ?_ 2 _ rfl; (with_reducible repeat (first | refine blk_drewN ?_ _ | refine blk_drew ?_ | refine blk_alloc ?_ _)); refine blk_put (cs := #[.slice Ao27 y264.length co27, .slice none 0 0, .slice none 0 0]) ?_ 1 _ rfl; (with_reducible repeat (first | refine blk_drewN ?_ _ | refine blk_drew ?_ | refine blk_alloc ?_ _)); refine blk_put (cs := #[.slice none 0 0, .slice none 0 0, .slice none 0 0]) ?_ 0 _ rfl; (with_reducible repeat (first | refine blk_drewN ?_ _ | refine blk_drew ?_ | refine blk_alloc ?_ _)); exact BK267.out⟩, ⟨by repeat (first | (with_reducible first | exact HB.out | apply below_alloc | apply pw_below_drewN | apply below_drew1 | refine below_set ?_ GE254.out | refine below_set ?_ GE267.out) | exact HB.out)⟩⟩
                  case round =>
                    clear H'
                    try clear c1
                    try clear c2
                    try clear p2
                    try clear q2
                    try clear hx2
                    try clear qi2
                    try clear c3
                    try clear p6
                    try clear c7
                    try clear c7b0
                    try clear c8
                    try clear c10
                    try clear c12
                    try clear c13
                    try clear c22
                    try clear c22b0
                    try clear c22b1
                    try clear c23
                    try clear c25
                    try clear p25
                    try clear q25
                    try clear hx25
                    try clear qi25
                    try clear c26
                    try clear p26
                    try clear q26
                    try clear hx26
                    try clear qi26
                    try clear c29
                    try clear hcz18_0
                    try clear hcz18_1
                    try clear hcz18_2
                    try clear hcz21_0
                    try clear hcz21_1
                    try clear hcz21_2
                    try clear hcz30_0
                    try clear hcz30_1
                    try clear hcz30_2
                    try clear hfz18_0
                    try clear hfz18_1
                    try clear hfz18_2
                    try clear hfz21_0
                    try clear hfz21_1
                    try clear hfz21_2
                    try clear hfz30_0
                    try clear hfz30_1
                    try clear hfz30_2
                    try clear hx255_0
                    try clear hx255_1
                    try clear hx255_2
                    try clear hx257_0
                    try clear hx257_1
                    try clear hx257_2
                    try clear hx258_0
                    try clear hx258_1
                    try clear hx258_2
                    try clear hx263_0
                    try clear hx263_1
                    try clear hx263_2
                    try clear p255
                    try clear p257
                    try clear p258
                    try clear p263
                    try clear q255
                    try clear q257
                    try clear q258
                    try clear q263
                    obtain ⟨x8_3, x268001_3, x268002_3, u268001, u268002, rfl, HA, HK3, HO_268000, HO_268001, HO_268002, BK254, BK267, HB⟩ := hrel
                    cases gk with
                    | zero => exact absurd HA.out (by simp [windbreakref15_Join.l1])
                    | succ k3 =>
                      have H := HA.out
                      clear HA
                      simp only [windbreakref15_Join.l1] at H
                      by_cases c31 : x8_3 < (l0.length : Int)
                      · rw [if_pos c31] at H
                        have c31b0 : decide (x8_3 < (l0.length : Int)) = true := decide_eq_true c31
                        clear c31
                        by_cases c32 : 0 ≤ x8_3
                        · rw [if_pos c32] at H
                          have c32b0 : decide (0 ≤ x8_3) = true := decide_eq_true c32
                          clear c32
                          by_cases c33 : x268001_3.length + ((rd_T43 l0 x8_3).f1).length < 17592186044416
                          · rw [if_pos c33] at H
                            have LMc33 := Aside0.mk c33
                            clear c33
                            obtain ⟨y269, hy269⟩ : ∃ y_ : List Int, y_ = (x268001_3 ++ ((rd_T43 l0 x8_3).f1)) := ⟨_, rfl⟩
                            replace H : (windbreakref15_Join.l2 k3 l0 x8_3 0 y264 y269 x268002_3) = some (r1, r2, r3, r4) := by first | (rw [hy269]; with_reducible exact H) | (have H2_ := (Option.bind_some _ _).symm.trans H; rw [hy269]; with_reducible exact H2_) | (have H2_ := (Option.bind_some _ _).symm.trans H; with_reducible exact H2_) | with_reducible exact H | (rw [hy269]; exact H) | exact H
                            have Ny269 := Aside0.mk hy269
                            clear hy269
                            have H' := Aside0.mk H
                            clear H
                            try go_wp2
                            have n0_ := Aside0.mk (Kd.R_drew HO_268000.out)
                            have n1_ := Aside0.mk (Kd.R_drew HO_268001.out)
                            have n2_ := Aside0.mk (Kd.S_drew HO_268002.out)
                            have n3_ := Aside0.mk (blk_drew BK254.out)
                            have n4_ := Aside0.mk (blk_drew BK267.out)
                            have n5_ := Aside0.mk (below_drew1 HB.out)
                            clear HO_268000
                            clear HO_268001
                            clear HO_268002
                            clear BK254
                            clear BK267
                            clear HB
                            have HO_268000 := n0_
                            have HO_268001 := n1_
                            have HO_268002 := n2_
                            have BK254 := n3_
                            have BK267 := n4_
                            have HB := n5_
                            clear n0_ n1_ n2_ n3_ n4_ n5_
                            have p268 : 0 ≤ (x8_3 : Int) := of_decide_eq_true (by first | (with_reducible assumption) | assumption)
                            have q268 : x8_3 < (l0.length : Int) := of_decide_eq_true (by first | (with_reducible assumption) | assumption)
                            obtain ⟨ad268, A268_0, c268_0, A268_1, c268_1, A268_2, c268_2, e268, hx268_0, hx268_1, hx268_2, hl268_0, hi268_0, hl268_1, hi268_1, hl268_2, hi268_2⟩ := at_T43 HR0.out x8_3 p268 q268
                            have hw268_2 := hx268_2
                            have hw268_1 := hx268_1
                            have hw268_0 := hx268_0
                            obtain rfl : ad263 = ad268 := (by injection e268)
                            replace hx268_0 := (HB.out.cell (World.block_lt_of_cell? w _ hx268_0)).trans hx268_0
                            replace hx268_1 := (HB.out.cell (World.block_lt_of_cell? w _ hx268_1)).trans hx268_1
                            replace hx268_2 := (HB.out.cell (World.block_lt_of_cell? w _ hx268_2)).trans hx268_2
                            have HR268_0 := Aside0.mk hi268_0
                            have HC268_0 := Aside0.mk hl268_0
                            clear hi268_0 hl268_0
                            have HR268_1 := Aside0.mk hi268_1
                            have HC268_1 := Aside0.mk hl268_1
                            clear hi268_1 hl268_1
                            have HR268_2 := Aside0.mk hi268_2
                            have HC268_2 := Aside0.mk hl268_2
                            clear hi268_2 hl268_2
                            replace p268 := eq_true p268
                            replace q268 := eq_true q268
                            refine start_ (n := 10) (S := fun w' => w'.cell? ⟨gb267, 0, none⟩ = some (.slice Ao27 y264.length co27) ∧ w'.cell? ⟨gb267, 1, none⟩ = some (u268001) ∧ w'.cell? ⟨gb267, 2, none⟩ = some (u268002) ∧ w'.cell? (ad263.add ((x8_3).toNat * 3)) = some (.slice A268_0 ((rd_T43 l0 x8_3).f0).length c268_0) ∧ w'.cell? ⟨(ad263.add ((x8_3).toNat * 3)).block, (ad263.add ((x8_3).toNat * 3)).off + 1, none⟩ = some (.slice A268_1 ((rd_T43 l0 x8_3).f1).length c268_1) ∧ w'.cell? ⟨(ad263.add ((x8_3).toNat * 3)).block, (ad263.add ((x8_3).toNat * 3)).off + 2, none⟩ = some (.slice A268_2 ((rd_T43 l0 x8_3).f2).length c268_2)) (ds := [9]) #[false, false, false, false, false, false, false, false, false, false] (by kernel_rfl) rfl rfl ⟨(blk_cell BK267.out 0).trans rfl, (blk_cell BK267.out 1).trans rfl, (blk_cell BK267.out 2).trans rfl, ((HB.out.cell (World.block_lt_of_cell? w _ hw268_0)).trans hw268_0), ((HB.out.cell (World.block_lt_of_cell? w _ hw268_1)).trans hw268_1), ((HB.out.cell (World.block_lt_of_cell? w _ hw268_2)).trans hw268_2)⟩ (fun hHeld => ?_); refine with_tabW windbreakref15_Join.tab14 windbreakref15_Join.bits14 (fun HT_ HW_ => ?_)
                            generalize wr.drew = w34 at HO_268000 HO_268001 HO_268002 BK254 BK267 HB HR268_0 HR268_1 HR268_2 hx268_0 hx268_1 hx268_2 hHeld ⊢
                            refine pure_ (i := 0) (N := some 60) (v := ?_) (a' := ?_) #[true, false, false, false, false, false, false, false, false, false] rfl rfl (any_of HT_.out (by kernel_rfl)) (fun _ _ _ h => h) (Or.inl ⟨by rfl, ?_⟩) ?_ ?_
                            rotate_left
                            · intro w'
                              go_simp
                              with_reducible rfl
                            rotate_left
                            · simp only [Act.put, List.setIfInBounds_toArray, List.set_cons_zero, List.set_cons_succ, i64_w, i32_w]
                              rfl
                            refine pure_ (i := 2) (N := some 62) (v := ?_) (a' := ?_) #[true, false, true, false, false, false, false, false, false, false] rfl rfl (any_of HT_.out (by kernel_rfl)) (fun _ _ _ h => h) (Or.inl ⟨by rfl, ?_⟩) ?_ ?_
                            rotate_left
                            · intro w'
                              go_simp
                              with_reducible rfl
                            rotate_left
                            · simp only [Act.put, List.setIfInBounds_toArray, List.set_cons_zero, List.set_cons_succ, i64_w, i32_w]
                              rfl
                            refine pure_ (i := 3) (N := some 63) (v := ?_) (a' := ?_) #[true, false, true, true, false, false, false, false, false, false] rfl rfl (any_of HT_.out (by kernel_rfl)) (fun _ _ _ h => h) (Or.inl ⟨by rfl, ?_⟩) ?_ ?_
                            rotate_left
                            · intro w'
                              go_simp
                              with_reducible rfl
                            rotate_left
                            · simp only [Act.put, List.setIfInBounds_toArray, List.set_cons_zero, List.set_cons_succ, i64_w, i32_w]
                              rfl
                            refine pure_ (i := 4) (N := some 64) (v := ?_) (a' := ?_) #[true, false, true, true, true, false, false, false, false, false] rfl rfl (any_of HT_.out (by kernel_rfl)) (fun _ _ _ h => h) (Or.inl ⟨by rfl, ?_⟩) ?_ ?_
                            rotate_left
                            · intro w'
                              go_simp
                              with_reducible rfl
                            rotate_left
                            · simp only [Act.put, List.setIfInBounds_toArray, List.set_cons_zero, List.set_cons_succ, i64_w, i32_w]
                              rfl
                            refine pure_ (i := 5) (N := some 65) (v := ?_) (a' := ?_) #[true, false, true, true, true, true, false, false, false, false] rfl rfl (any_of HT_.out (by kernel_rfl)) (fun _ _ _ h => h) (Or.inl ⟨by rfl, ?_⟩) ?_ ?_
                            rotate_left
                            · intro w'
                              go_simp
                              with_reducible rfl
                            rotate_left
                            · simp only [Act.put, List.setIfInBounds_toArray, List.set_cons_zero, List.set_cons_succ, i64_w, i32_w]
                              rfl
                            refine take_ (i := 1) (N := some 61) (v := ?_) (a' := ?_) #[true, true, true, true, true, true, false, false, false, false] rfl rfl (take_ofW HT_.out HW_.out (by kernel_rfl)) (fun _ _ _ h => h) (Or.inl ⟨by rfl, ?_⟩) hHeld ?_ ?_
                            rotate_left
                            · rintro w' ⟨s0, s1, s2, s3, s4, s5⟩
                              go_simp
                              with_reducible rfl
                            rotate_left
                            · simp only [Act.put, List.setIfInBounds_toArray, List.set_cons_zero, List.set_cons_succ, i64_w, i32_w]
                              rfl
                            refine take_ (i := 6) (N := some 66) (v := ?_) (a' := ?_) #[true, true, true, true, true, true, true, false, false, false] rfl rfl (take_ofW HT_.out HW_.out (by kernel_rfl)) (fun _ _ _ h => h) (Or.inl ⟨by rfl, ?_⟩) hHeld ?_ ?_
                            rotate_left
                            · rintro w' ⟨s0, s1, s2, s3, s4, s5⟩
                              go_simp
                              with_reducible rfl
                            rotate_left
                            · simp only [Act.put, List.setIfInBounds_toArray, List.set_cons_zero, List.set_cons_succ, i64_w, i32_w]
                              rfl
                            refine one_ (i := 7) (N := some 67) #[true, true, true, true, true, true, true, true, false, false] rfl rfl (one_of HT_.out (by kernel_rfl)) (by decide) (fun K hK => ?_)
                            refine Kd.R_append_rows_step (Kd.int .i64) (w0 := w) w.heap.size (by rfl) (.tmp 61) (.tmp 66) 31 3 (.int .i64 0) 8 rfl Try.underlying31 info3 rfl (by decide) (by omega) u268001 x268001_3 ((rd_T43 l0 x8_3).f1) _ _ _ (fun k_ => some k_ ≠ (.slice Ao27 y264.length co27 : Value).ownBlock) (fun _ => False) rfl rfl ?aO ?aR (fun _ _ h => h) (fun _ h => h.elim) ?aF ?aB ?aS ?aL ?_
                            (case aR => repeat (first | exact (Kd.C_below HR268_1.out HB.out) | (with_reducible refine Kd.C_alloc ?_ _) | (with_reducible refine Kd.C_drewN ?_ _) | (with_reducible refine Kd.C_drew ?_)))
                            (case aB => exact (by repeat (first | (with_reducible first | exact HB.out | apply below_alloc | apply pw_below_drewN | apply below_drew1 | refine below_set ?_ GE254.out | refine below_set ?_ GE267.out) | exact HB.out)))
                            (case aF => exact (fun k_ hk => Kd.fresh' (Kd.R_lt (by (with_reducible repeat (first | apply Kd.R_alloc | apply Kd.R_drewN | apply Kd.R_drew)); exact HO_268000.out)) k_ hk))
                            (case aO => exact (by (with_reducible repeat (first | apply Kd.R_alloc | apply Kd.R_drewN | apply Kd.R_drew)); exact HO_268001.out))
                            (case aS => exact (below_size (by repeat (first | (with_reducible first | exact HB.out | apply below_alloc | apply pw_below_drewN | apply below_drew1 | refine below_set ?_ GE254.out | refine below_set ?_ GE267.out) | exact HB.out))))
                            (case aL => have := LMc33.out; omega)
                            intro v270 w35 ho hb hg hat
                            rw [← Ny269.out] at ho
                            have n0_ := Aside0.mk (Kd.R_after (ok := (fun _ => True)) (by (with_reducible repeat (first | apply Kd.R_alloc | apply Kd.R_drewN | apply Kd.R_drew)); exact Kd.R_mono HO_268000.out (fun _ hk => ⟨trivial, hk⟩)) hg hat)
                            have n1_ := Aside0.mk (Kd.S_after (ok := (fun k_ => some k_ ≠ (.slice Ao27 y264.length co27 : Value).ownBlock)) (by (with_reducible repeat (first | apply Kd.S_alloc | apply Kd.S_drewN | apply Kd.S_drew)); exact HO_268002.out) hg hat)
                            have n2_ := Aside0.mk (blk_grown (g := gb254) (o := .cells #[.slice none 0 0, .slice none 0 0, .slice none 0 0] 43 (0, 0)) (by (with_reducible repeat (first | refine blk_drewN ?_ _ | refine blk_drew ?_ | refine blk_alloc ?_ _)); exact BK254.out) hg (Kd.R_ne HO_268001.out BK254.out (by decide)))
                            have n3_ := Aside0.mk (blk_grown (g := gb267) (o := .cells #[.slice Ao27 y264.length co27, u268001, u268002] 43 (0, 0)) (by (with_reducible repeat (first | refine blk_drewN ?_ _ | refine blk_drew ?_ | refine blk_alloc ?_ _)); exact BK267.out) hg (Kd.R_ne HO_268001.out BK267.out (by decide)))
                            have n4_ := Aside0.mk (hb)
                            have n5_ := Aside0.mk (ho)
                            clear HO_268000
                            clear HO_268002
                            clear BK254
                            clear BK267
                            clear HB
                            clear HO_268001
                            have HO_268000 := n0_
                            have HO_268002 := n1_
                            have BK254 := n2_
                            have BK267 := n3_
                            have HB := n4_
                            have HO271 := n5_
                            clear n0_ n1_ n2_ n3_ n4_ n5_
                            clear ho hb hg hat
                            obtain ⟨Ao36, co36, eo36⟩ := Kd.R_slice HO271.out
                            (first | subst eo36 | (injection eo36 with f1_ f2_ f3_; have f4_ := f1_.symm; have f5_ := f3_.symm; clear f1_ f2_ f3_; subst f4_; subst f5_))
                            refine hK.out _ _ ⟨(blk_cell BK267.out 0).trans rfl, (blk_cell BK267.out 1).trans rfl, (blk_cell BK267.out 2).trans rfl, ((HB.out.cell (World.block_lt_of_cell? w _ hw268_0)).trans hw268_0), ((HB.out.cell (World.block_lt_of_cell? w _ hw268_1)).trans hw268_1), ((HB.out.cell (World.block_lt_of_cell? w _ hw268_2)).trans hw268_2)⟩ (fun hHeld => ?_)
                            clear hK K
                            refine norm_ (a' := ?_) ?_ ?_
                            rotate_left
                            · show Act.put _ (some 67) _ = _
                              simp only [Act.put, List.setIfInBounds_toArray, List.set_cons_zero, List.set_cons_succ, i64_w, i32_w]
                              rfl
                            refine pure_ (i := 8) (N := some 68) (v := ?_) (a' := ?_) #[true, true, true, true, true, true, true, true, true, false] rfl rfl (any_of HT_.out (by kernel_rfl)) (fun _ _ _ h => h) (Or.inl ⟨by rfl, ?_⟩) ?_ ?_
                            rotate_left
                            · intro w'
                              go_simp
                              with_reducible rfl
                            rotate_left
                            · simp only [Act.put, List.setIfInBounds_toArray, List.set_cons_zero, List.set_cons_succ, i64_w, i32_w]
                              rfl
                            refine last_ (i := 9) (N := none) #[true, true, true, true, true, true, true, true, true, true] rfl rfl (one_of HT_.out (by kernel_rfl)) (by decide) (fun K hK => ?_)
                            have hs37 : w35.cell? ⟨gb267, 1, none⟩ = some (u268001) := (blk_cell BK267.out 1).trans rfl
                            have hfs37 := blk_frozen BK267.out 1
                            have hns37_0 := NB254_267.out
                            have hms37_0 := NB267_254.out
                            refine skip_ (w1 := ?_) (by rfl) rfl ?_ ?_
                            rotate_left
                            · go_simp
                              rfl
                            refine hK.out _ _ ?_
                            clear hK K
                            refine done_ (done_of HT_.out (by kernel_rfl)) ?_
                            try go_wp2
                            go_loopg [9] k3 (fun kq v9 w' => ∃ (x9_4 : Int) (x268002_4 : List (List Int)) (u268002 : Value), v9 = .int .i64 x9_4 ∧ Aside0 (windbreakref15_Join.l2 kq l0 x8_3 x9_4 y264 y269 x268002_4 = some (r1, r2, r3, r4)) ∧ Aside0 (kq ≤ k3) ∧ Aside0 (Kd.R (Kd.int .i64) 3 w' w.heap.size (fun k_ => some k_ ≠ ((.slice Ao36 y269.length co36) : Value).ownBlock) (.slice Ao27 y264.length co27) y264) ∧ Aside0 (Kd.R (Kd.int .i64) 3 w' w.heap.size (fun k_ => some k_ ≠ ((.slice Ao27 y264.length co27) : Value).ownBlock) (.slice Ao36 y269.length co36) y269) ∧ Aside0 (Kd.S (Kd.slice 3 (Kd.int .i64)) 31 w' w.heap.size (fun k_ => some k_ ≠ ((.slice Ao27 y264.length co27) : Value).ownBlock ∧ some k_ ≠ ((.slice Ao36 y269.length co36) : Value).ownBlock) u268002 x268002_4) ∧ Aside0 (w'.heap[gb254]? = some (.cells #[(.slice none 0 0), (.slice none 0 0), (.slice none 0 0)] 43 (0, 0))) ∧ Aside0 (w'.heap[gb267]? = some (.cells #[(.slice Ao27 y264.length co27), (.slice Ao36 y269.length co36), u268002] 43 (0, 0))) ∧ Aside0 (Below w.heap.size w w'))
                            case atStart => exact ⟨(0), (x268002_3), (u268002), (by first | rfl | (simp; done) | (simp [*]; done)), H', ⟨Nat.le_refl _⟩, ⟨by (with_reducible repeat (first | apply Kd.R_alloc | apply Kd.R_drewN | apply Kd.R_drew)); exact Kd.R_mono (Kd.R_far (p := ⟨gb267, 1, none⟩) (Kd.R_types HO_268000.out BK267.out (by decide)) (fun _ hk => hk.2) (.slice Ao36 y269.length co36)) (fun _ hk => hk.1.2)⟩, ⟨by (with_reducible repeat (first | apply Kd.R_alloc | apply Kd.R_drewN | apply Kd.R_drew)); exact Kd.R_mono (Kd.R_far (p := ⟨gb267, 1, none⟩) (Kd.R_types HO271.out BK267.out (by decide)) (fun _ hk => hk.2) (.slice Ao36 y269.length co36)) (fun _ hk => hk.1)⟩, ⟨by (with_reducible repeat (first | apply Kd.S_alloc | apply Kd.S_drewN | apply Kd.S_drew)); exact Kd.S_mono (Kd.S_far (p := ⟨gb267, 1, none⟩) (Kd.S_types HO_268002.out BK267.out (by decide)) (fun _ hk => hk.2) (.slice Ao36 y269.length co36)) (fun _ hk => ⟨hk.1.1, hk.1.2⟩)⟩, ⟨by (with_reducible repeat (first | refine blk_drewN ?_ _ | refine blk_drew ?_ | refine blk_alloc ?_ _)); refine blk_far ?_ NB254_267.out _; (with_reducible repeat (first | refine blk_drewN ?_ _ | refine blk_drew ?_ | refine blk_alloc ?_ _)); exact BK254.out⟩, ⟨by (with_reducible repeat (first | refine blk_drewN ?_ _ | refine blk_drew ?_ | refine blk_alloc ?_ _)); refine blk_put (cs := #[.slice Ao27 y264.length co27, u268001, u268002]) ?_ 1 _ rfl; (with_reducible repeat (first | refine blk_drewN ?_ _ | refine blk_drew ?_ | refine blk_alloc ?_ _)); exact BK267.out⟩, ⟨by repeat (first | (with_reducible first | exact HB.out | apply below_alloc | apply pw_below_drewN | apply below_drew1 | refine below_set ?_ GE254.out | refine below_set ?_ GE267.out) | exact HB.out)⟩⟩
                            case round =>
                              clear H'
                              try clear c1
                              try clear c2
                              try clear p2
                              try clear q2
                              try clear hx2
                              try clear qi2
                              try clear c3
                              try clear p6
                              try clear c7
                              try clear c7b0
                              try clear c8
                              try clear c10
                              try clear c12
                              try clear c13
                              try clear c22
                              try clear c22b0
                              try clear c22b1
                              try clear c23
                              try clear c25
                              try clear p25
                              try clear q25
                              try clear hx25
                              try clear qi25
                              try clear c26
                              try clear p26
                              try clear q26
                              try clear hx26
                              try clear qi26
                              try clear c29
                              try clear c31
                              try clear c31b0
                              try clear c32
                              try clear c32b0
                              try clear c33
                              try clear hcz18_0
                              try clear hcz18_1
                              try clear hcz18_2
                              try clear hcz21_0
                              try clear hcz21_1
                              try clear hcz21_2
                              try clear hcz30_0
                              try clear hcz30_1
                              try clear hcz30_2
                              try clear hfz18_0
                              try clear hfz18_1
                              try clear hfz18_2
                              try clear hfz21_0
                              try clear hfz21_1
                              try clear hfz21_2
                              try clear hfz30_0
                              try clear hfz30_1
                              try clear hfz30_2
                              try clear hx255_0
                              try clear hx255_1
                              try clear hx255_2
                              try clear hx257_0
                              try clear hx257_1
                              try clear hx257_2
                              try clear hx258_0
                              try clear hx258_1
                              try clear hx258_2
                              try clear hx263_0
                              try clear hx263_1
                              try clear hx263_2
                              try clear hx268_0
                              try clear hx268_1
                              try clear hx268_2
                              try clear p2
                              try clear p25
                              try clear p255
                              try clear p257
                              try clear p258
                              try clear p26
                              try clear p263
                              try clear p268
                              try clear p6
                              try clear q2
                              try clear q25
                              try clear q255
                              try clear q257
                              try clear q258
                              try clear q26
                              try clear q263
                              try clear q268
                              obtain ⟨x9_4, x268002_4, u268002, rfl, HA, HK4, HO_268000, HO_268001, HO_268002, BK254, BK267, HB⟩ := hrel
                              cases gk with
                              | zero => exact absurd HA.out (by simp [windbreakref15_Join.l2])
                              | succ k4 =>
                                have H := HA.out
                                clear HA
                                simp only [windbreakref15_Join.l2] at H
                                by_cases c38 : 0 ≤ x8_3
                                · rw [if_pos c38] at H
                                  have c38b0 : decide (0 ≤ x8_3) = true := decide_eq_true c38
                                  clear c38
                                  by_cases c39 : x8_3 < (l0.length : Int)
                                  · rw [if_pos c39] at H
                                    have c39b0 : decide (x8_3 < (l0.length : Int)) = true := decide_eq_true c39
                                    clear c39
                                    by_cases c40 : x9_4 < (((rd_T43 l0 x8_3).f2).length : Int)
                                    · rw [if_pos c40] at H
                                      have c40b0 : decide (x9_4 < (((rd_T43 l0 x8_3).f2).length : Int)) = true := decide_eq_true c40
                                      clear c40
                                      obtain ⟨y273, hy273⟩ : ∃ y_ : List Int, y_ = (([] : List Int)) := ⟨_, rfl⟩
                                      replace H : (if 0 ≤ x9_4 then (if y273.length + (rd_L1 ((rd_T43 l0 x8_3).f2) x9_4).length < 17592186044416 then (if x268002_4.length < 5864062014805 then (windbreakref15_Join.l2 k4 l0 x8_3 (wrap64 (x9_4 + 1)) y264 y269 (x268002_4 ++ [(y273 ++ (rd_L1 ((rd_T43 l0 x8_3).f2) x9_4))])) else (none)) else (none)) else (none)) = some (r1, r2, r3, r4) := by first | (rw [hy273]; with_reducible exact H) | (have H2_ := (Option.bind_some _ _).symm.trans H; rw [hy273]; with_reducible exact H2_) | (have H2_ := (Option.bind_some _ _).symm.trans H; with_reducible exact H2_) | with_reducible exact H | (rw [hy273]; exact H) | exact H
                                      have Ny273 := Aside0.mk hy273
                                      clear hy273
                                      by_cases c41 : 0 ≤ x9_4
                                      · rw [if_pos c41] at H
                                        have c41b0 : decide (0 ≤ x9_4) = true := decide_eq_true c41
                                        clear c41
                                        by_cases c42 : y273.length + (rd_L1 ((rd_T43 l0 x8_3).f2) x9_4).length < 17592186044416
                                        · rw [if_pos c42] at H
                                          have LMc42 := Aside0.mk c42
                                          clear c42
                                          obtain ⟨y278, hy278⟩ : ∃ y_ : List Int, y_ = (y273 ++ (rd_L1 ((rd_T43 l0 x8_3).f2) x9_4)) := ⟨_, rfl⟩
                                          replace H : (if x268002_4.length < 5864062014805 then (windbreakref15_Join.l2 k4 l0 x8_3 (wrap64 (x9_4 + 1)) y264 y269 (x268002_4 ++ [y278])) else (none)) = some (r1, r2, r3, r4) := by first | (rw [hy278]; with_reducible exact H) | (have H2_ := (Option.bind_some _ _).symm.trans H; rw [hy278]; with_reducible exact H2_) | (have H2_ := (Option.bind_some _ _).symm.trans H; with_reducible exact H2_) | with_reducible exact H | (rw [hy278]; exact H) | exact H
                                          have Ny278 := Aside0.mk hy278
                                          clear hy278
                                          by_cases c43 : x268002_4.length < 5864062014805
                                          · rw [if_pos c43] at H
                                            have LMc43 := Aside0.mk c43
                                            clear c43
                                            obtain ⟨y281, hy281⟩ : ∃ y_ : List (List Int), y_ = (x268002_4 ++ [y278]) := ⟨_, rfl⟩
                                            replace H : (windbreakref15_Join.l2 k4 l0 x8_3 (wrap64 (x9_4 + 1)) y264 y269 y281) = some (r1, r2, r3, r4) := by first | (rw [hy281]; with_reducible exact H) | (have H2_ := (Option.bind_some _ _).symm.trans H; rw [hy281]; with_reducible exact H2_) | (have H2_ := (Option.bind_some _ _).symm.trans H; with_reducible exact H2_) | with_reducible exact H | (rw [hy281]; exact H) | exact H
                                            have Ny281 := Aside0.mk hy281
                                            clear hy281
                                            have H' := Aside0.mk H
                                            clear H
                                            have p272 : 0 ≤ (x8_3 : Int) := of_decide_eq_true (by first | (with_reducible assumption) | assumption)
                                            have q272 : x8_3 < (l0.length : Int) := of_decide_eq_true (by first | (with_reducible assumption) | assumption)
                                            obtain ⟨ad272, A272_0, c272_0, A272_1, c272_1, A272_2, c272_2, e272, hx272_0, hx272_1, hx272_2, hl272_0, hi272_0, hl272_1, hi272_1, hl272_2, hi272_2⟩ := at_T43 HR0.out x8_3 p272 q272
                                            obtain rfl : ad263 = ad272 := (by injection e272)
                                            replace hx272_0 := (HB.out.cell (World.block_lt_of_cell? w _ hx272_0)).trans hx272_0
                                            replace hx272_1 := (HB.out.cell (World.block_lt_of_cell? w _ hx272_1)).trans hx272_1
                                            replace hx272_2 := (HB.out.cell (World.block_lt_of_cell? w _ hx272_2)).trans hx272_2
                                            have HR272_0 := Aside0.mk hi272_0
                                            have HC272_0 := Aside0.mk hl272_0
                                            clear hi272_0 hl272_0
                                            have HR272_1 := Aside0.mk hi272_1
                                            have HC272_1 := Aside0.mk hl272_1
                                            clear hi272_1 hl272_1
                                            have HR272_2 := Aside0.mk hi272_2
                                            have HC272_2 := Aside0.mk hl272_2
                                            clear hi272_2 hl272_2
                                            replace p272 := eq_true p272
                                            replace q272 := eq_true q272
                                            try go_wp2
                                            have n0_ := Aside0.mk (Kd.R_drew HO_268000.out)
                                            have n1_ := Aside0.mk (Kd.R_drew HO_268001.out)
                                            have n2_ := Aside0.mk (Kd.S_drew HO_268002.out)
                                            have n3_ := Aside0.mk (blk_drew BK254.out)
                                            have n4_ := Aside0.mk (blk_drew BK267.out)
                                            have n5_ := Aside0.mk (below_drew1 HB.out)
                                            clear HO_268000
                                            clear HO_268001
                                            clear HO_268002
                                            clear BK254
                                            clear BK267
                                            clear HB
                                            have HO_268000 := n0_
                                            have HO_268001 := n1_
                                            have HO_268002 := n2_
                                            have BK254 := n3_
                                            have BK267 := n4_
                                            have HB := n5_
                                            clear n0_ n1_ n2_ n3_ n4_ n5_
                                            have p276 : 0 ≤ (x8_3 : Int) := of_decide_eq_true (by first | (with_reducible assumption) | assumption)
                                            have q276 : x8_3 < (l0.length : Int) := of_decide_eq_true (by first | (with_reducible assumption) | assumption)
                                            obtain ⟨ad276, A276_0, c276_0, A276_1, c276_1, A276_2, c276_2, e276, hx276_0, hx276_1, hx276_2, hl276_0, hi276_0, hl276_1, hi276_1, hl276_2, hi276_2⟩ := at_T43 HR0.out x8_3 p276 q276
                                            have hw276_2 := hx276_2
                                            have hw276_1 := hx276_1
                                            have hw276_0 := hx276_0
                                            obtain rfl : ad263 = ad276 := (by injection e276)
                                            replace hx276_0 := (HB.out.cell (World.block_lt_of_cell? w _ hx276_0)).trans hx276_0
                                            replace hx276_1 := (HB.out.cell (World.block_lt_of_cell? w _ hx276_1)).trans hx276_1
                                            replace hx276_2 := (HB.out.cell (World.block_lt_of_cell? w _ hx276_2)).trans hx276_2
                                            have HR276_0 := Aside0.mk hi276_0
                                            have HC276_0 := Aside0.mk hl276_0
                                            clear hi276_0 hl276_0
                                            have HR276_1 := Aside0.mk hi276_1
                                            have HC276_1 := Aside0.mk hl276_1
                                            clear hi276_1 hl276_1
                                            have HR276_2 := Aside0.mk hi276_2
                                            have HC276_2 := Aside0.mk hl276_2
                                            clear hi276_2 hl276_2
                                            replace p276 := eq_true p276
                                            replace q276 := eq_true q276
                                            have p277 : 0 ≤ (x9_4 : Int) := of_decide_eq_true (by first | (with_reducible assumption) | assumption)
                                            have q277 : x9_4 < (((rd_T43 l0 x8_3).f2).length : Int) := of_decide_eq_true (by first | (with_reducible assumption) | assumption)
                                            obtain ⟨ad277, A277_0, c277_0, e277, hx277_0, hl277_0, hi277_0⟩ := at_L1 HR276_2.out x9_4 p277 q277
                                            have hw277_0 := hx277_0
                                            cases e277
                                            replace hx277_0 := (HB.out.cell (World.block_lt_of_cell? w _ hx277_0)).trans hx277_0
                                            have HR277_0 := Aside0.mk hi277_0
                                            have HC277_0 := Aside0.mk hl277_0
                                            clear hi277_0 hl277_0
                                            replace p277 := eq_true p277
                                            replace q277 := eq_true q277
                                            refine start_ (n := 16) (S := fun w' => w'.cell? ⟨gb267, 0, none⟩ = some (.slice Ao27 y264.length co27) ∧ w'.cell? ⟨gb267, 1, none⟩ = some (.slice Ao36 y269.length co36) ∧ w'.cell? ⟨gb267, 2, none⟩ = some (u268002) ∧ w'.cell? (ad263.add ((x8_3).toNat * 3)) = some (.slice A276_0 ((rd_T43 l0 x8_3).f0).length c276_0) ∧ w'.cell? ⟨(ad263.add ((x8_3).toNat * 3)).block, (ad263.add ((x8_3).toNat * 3)).off + 1, none⟩ = some (.slice A276_1 ((rd_T43 l0 x8_3).f1).length c276_1) ∧ w'.cell? ⟨(ad263.add ((x8_3).toNat * 3)).block, (ad263.add ((x8_3).toNat * 3)).off + 2, none⟩ = some (.slice (some ad277) ((rd_T43 l0 x8_3).f2).length c276_2) ∧ w'.cell? (ad277.add (x9_4).toNat) = some (.slice A277_0 (rd_L1 ((rd_T43 l0 x8_3).f2) x9_4).length c277_0)) (ds := [15]) #[false, false, false, false, false, false, false, false, false, false, false, false, false, false, false, false] (by kernel_rfl) rfl rfl ⟨(blk_cell BK267.out 0).trans rfl, (blk_cell BK267.out 1).trans rfl, (blk_cell BK267.out 2).trans rfl, ((HB.out.cell (World.block_lt_of_cell? w _ hw276_0)).trans hw276_0), ((HB.out.cell (World.block_lt_of_cell? w _ hw276_1)).trans hw276_1), ((HB.out.cell (World.block_lt_of_cell? w _ hw276_2)).trans hw276_2), ((HB.out.cell (World.block_lt_of_cell? w _ hw277_0)).trans hw277_0)⟩ (fun hHeld => ?_); refine with_tabW windbreakref15_Join.tab18 windbreakref15_Join.bits18 (fun HT_ HW_ => ?_)
                                            generalize wr.drew = w44 at HO_268000 HO_268001 HO_268002 BK254 BK267 HB HR276_0 HR276_1 HR276_2 HR277_0 hx276_0 hx276_1 hx276_2 hx277_0 hHeld ⊢
                                            refine pure_ (i := 0) (N := some 79) (v := ?_) (a' := ?_) #[true, false, false, false, false, false, false, false, false, false, false, false, false, false, false, false] rfl rfl (any_of HT_.out (by kernel_rfl)) (fun _ _ _ h => h) (Or.inl ⟨by rfl, ?_⟩) ?_ ?_
                                            rotate_left
                                            · intro w'
                                              go_simp
                                              with_reducible rfl
                                            rotate_left
                                            · simp only [Act.put, List.setIfInBounds_toArray, List.set_cons_zero, List.set_cons_succ, i64_w, i32_w]
                                              rfl
                                            refine pure_ (i := 3) (N := some 82) (v := ?_) (a' := ?_) #[true, false, false, true, false, false, false, false, false, false, false, false, false, false, false, false] rfl rfl (any_of HT_.out (by kernel_rfl)) (fun _ _ _ h => h) (Or.inl ⟨by rfl, ?_⟩) ?_ ?_
                                            rotate_left
                                            · intro w'
                                              go_simp
                                              with_reducible rfl
                                            rotate_left
                                            · simp only [Act.put, List.setIfInBounds_toArray, List.set_cons_zero, List.set_cons_succ, i64_w, i32_w]
                                              rfl
                                            refine pure_ (i := 4) (N := some 83) (v := ?_) (a' := ?_) #[true, false, false, true, true, false, false, false, false, false, false, false, false, false, false, false] rfl rfl (any_of HT_.out (by kernel_rfl)) (fun _ _ _ h => h) (Or.inl ⟨by rfl, ?_⟩) ?_ ?_
                                            rotate_left
                                            · intro w'
                                              go_simp
                                              with_reducible rfl
                                            rotate_left
                                            · simp only [Act.put, List.setIfInBounds_toArray, List.set_cons_zero, List.set_cons_succ, i64_w, i32_w]
                                              rfl
                                            refine pure_ (i := 5) (N := some 84) (v := ?_) (a' := ?_) #[true, false, false, true, true, true, false, false, false, false, false, false, false, false, false, false] rfl rfl (any_of HT_.out (by kernel_rfl)) (fun _ _ _ h => h) (Or.inl ⟨by rfl, ?_⟩) ?_ ?_
                                            rotate_left
                                            · intro w'
                                              go_simp
                                              with_reducible rfl
                                            rotate_left
                                            · simp only [Act.put, List.setIfInBounds_toArray, List.set_cons_zero, List.set_cons_succ, i64_w, i32_w]
                                              rfl
                                            refine pure_ (i := 6) (N := some 85) (v := ?_) (a' := ?_) #[true, false, false, true, true, true, true, false, false, false, false, false, false, false, false, false] rfl rfl (any_of HT_.out (by kernel_rfl)) (fun _ _ _ h => h) (Or.inl ⟨by rfl, ?_⟩) ?_ ?_
                                            rotate_left
                                            · intro w'
                                              go_simp
                                              with_reducible rfl
                                            rotate_left
                                            · simp only [Act.put, List.setIfInBounds_toArray, List.set_cons_zero, List.set_cons_succ, i64_w, i32_w]
                                              rfl
                                            refine pure_ (i := 8) (N := some 87) (v := ?_) (a' := ?_) #[true, false, false, true, true, true, true, false, true, false, false, false, false, false, false, false] rfl rfl (any_of HT_.out (by kernel_rfl)) (fun _ _ _ h => h) (Or.inl ⟨by rfl, ?_⟩) ?_ ?_
                                            rotate_left
                                            · intro w'
                                              go_simp
                                              with_reducible rfl
                                            rotate_left
                                            · simp only [Act.put, List.setIfInBounds_toArray, List.set_cons_zero, List.set_cons_succ, i64_w, i32_w]
                                              rfl
                                            refine take_ (i := 1) (N := some 80) (v := ?_) (a' := ?_) #[true, true, false, true, true, true, true, false, true, false, false, false, false, false, false, false] rfl rfl (take_ofW HT_.out HW_.out (by kernel_rfl)) (fun _ _ _ h => h) (Or.inl ⟨by rfl, ?_⟩) hHeld ?_ ?_
                                            rotate_left
                                            · rintro w' ⟨s0, s1, s2, s3, s4, s5, s6⟩
                                              go_simp
                                              with_reducible rfl
                                            rotate_left
                                            · simp only [Act.put, List.setIfInBounds_toArray, List.set_cons_zero, List.set_cons_succ, i64_w, i32_w]
                                              rfl
                                            refine take_ (i := 7) (N := some 86) (v := ?_) (a' := ?_) #[true, true, false, true, true, true, true, true, true, false, false, false, false, false, false, false] rfl rfl (take_ofW HT_.out HW_.out (by kernel_rfl)) (fun _ _ _ h => h) (Or.inl ⟨by rfl, ?_⟩) hHeld ?_ ?_
                                            rotate_left
                                            · rintro w' ⟨s0, s1, s2, s3, s4, s5, s6⟩
                                              go_simp
                                              with_reducible rfl
                                            rotate_left
                                            · simp only [Act.put, List.setIfInBounds_toArray, List.set_cons_zero, List.set_cons_succ, i64_w, i32_w]
                                              rfl
                                            refine pure_ (i := 9) (N := some 88) (v := ?_) (a' := ?_) #[true, true, false, true, true, true, true, true, true, true, false, false, false, false, false, false] rfl rfl (any_of HT_.out (by kernel_rfl)) (fun _ _ _ h => h) (Or.inl ⟨by rfl, ?_⟩) ?_ ?_
                                            rotate_left
                                            · intro w'
                                              go_simp
                                              with_reducible rfl
                                            rotate_left
                                            · simp only [Act.put, List.setIfInBounds_toArray, List.set_cons_zero, List.set_cons_succ, i64_w, i32_w]
                                              rfl
                                            refine take_ (i := 10) (N := some 89) (v := ?_) (a' := ?_) #[true, true, false, true, true, true, true, true, true, true, true, false, false, false, false, false] rfl rfl (take_ofW HT_.out HW_.out (by kernel_rfl)) (fun _ _ _ h => h) (Or.inl ⟨by rfl, ?_⟩) hHeld ?_ ?_
                                            rotate_left
                                            · rintro w' ⟨s0, s1, s2, s3, s4, s5, s6⟩
                                              go_simp
                                              with_reducible rfl
                                            rotate_left
                                            · simp only [Act.put, List.setIfInBounds_toArray, List.set_cons_zero, List.set_cons_succ, i64_w, i32_w]
                                              rfl
                                            refine one_ (i := 2) (N := some 81) #[true, true, true, true, true, true, true, true, true, true, true, false, false, false, false, false] rfl rfl (one_of HT_.out (by kernel_rfl)) (by decide) (fun K hK => ?_)
                                            refine Kd.R_lit_step (Kd.int .i64) _ 3 ?hg (N := 81) ?hd (xs := ([] : List Int)) (inner := []) (ok := fun _ => True) (okp := fun _ => True) ?hr ?hp (fun _ hk => hk) trivial (Below.refl _ _) (Nat.le_refl _) (by simp) ?_; (case hd => rfl); (case hg => rfl); (case hr => first | (go_simp; done) | (go_simp; rfl)); (case hp => exact (Reps.none _ _))
                                            intro v274 w45 ho46 hb hg_ hnew_
                                            clear hg_ hnew_
                                            (first | rw [← Ny273.out] at ho46 | (simp only [Int.reduceToNat] at ho46; rw [← Ny273.out] at ho46))
                                            have n0_ := Aside0.mk (Kd.R_elder' (by (with_reducible repeat (first | apply Kd.R_alloc | apply Kd.R_drewN | apply Kd.R_drew)); exact HO_268000.out) (Kd.R_base ho46) hb)
                                            have n1_ := Aside0.mk (Kd.R_elder' (by (with_reducible repeat (first | apply Kd.R_alloc | apply Kd.R_drewN | apply Kd.R_drew)); exact HO_268001.out) (Kd.R_base ho46) hb)
                                            have n2_ := Aside0.mk (Kd.S_elder' (by (with_reducible repeat (first | apply Kd.S_alloc | apply Kd.S_drewN | apply Kd.S_drew)); exact HO_268002.out) (Kd.R_base ho46) hb)
                                            have n3_ := Aside0.mk (Kd.R_lower (Kd.R_new' (Kd.R_new' ho46 (Kd.R_lt (by (with_reducible repeat (first | apply Kd.R_alloc | apply Kd.R_drewN | apply Kd.R_drew)); exact HO_268000.out))) (Kd.R_lt (by (with_reducible repeat (first | apply Kd.R_alloc | apply Kd.R_drewN | apply Kd.R_drew)); exact HO_268001.out))) (below_size (by repeat (first | (with_reducible first | exact HB.out | apply below_alloc | apply pw_below_drewN | apply below_drew1 | refine below_set ?_ GE254.out | refine below_set ?_ GE267.out) | exact HB.out))))
                                            have n4_ := Aside0.mk (blk_below (g := gb254) (o := .cells #[.slice none 0 0, .slice none 0 0, .slice none 0 0] 43 (0, 0)) (by (with_reducible repeat (first | refine blk_drewN ?_ _ | refine blk_drew ?_ | refine blk_alloc ?_ _)); exact BK254.out) hb)
                                            have n5_ := Aside0.mk (blk_below (g := gb267) (o := .cells #[.slice Ao27 y264.length co27, .slice Ao36 y269.length co36, u268002] 43 (0, 0)) (by (with_reducible repeat (first | refine blk_drewN ?_ _ | refine blk_drew ?_ | refine blk_alloc ?_ _)); exact BK267.out) hb)
                                            have n6_ := Aside0.mk (below_step (by repeat (first | (with_reducible first | exact HB.out | apply below_alloc | apply pw_below_drewN | apply below_drew1 | refine below_set ?_ GE254.out | refine below_set ?_ GE267.out) | exact HB.out)) hb)
                                            clear HO_268000
                                            clear HO_268001
                                            clear HO_268002
                                            clear BK254
                                            clear BK267
                                            clear HB
                                            have HO_268000 := n0_
                                            have HO_268001 := n1_
                                            have HO_268002 := n2_
                                            have HO275 := n3_
                                            have BK254 := n4_
                                            have BK267 := n5_
                                            have HB := n6_
                                            clear n0_ n1_ n2_ n3_ n4_ n5_ n6_
                                            clear hb ho46
                                            refine hK.out _ _ ⟨(blk_cell BK267.out 0).trans rfl, (blk_cell BK267.out 1).trans rfl, (blk_cell BK267.out 2).trans rfl, ((HB.out.cell (World.block_lt_of_cell? w _ hw276_0)).trans hw276_0), ((HB.out.cell (World.block_lt_of_cell? w _ hw276_1)).trans hw276_1), ((HB.out.cell (World.block_lt_of_cell? w _ hw276_2)).trans hw276_2), ((HB.out.cell (World.block_lt_of_cell? w _ hw277_0)).trans hw277_0)⟩ (fun hHeld => ?_)
                                            clear hK K
                                            refine norm_ (a' := ?_) ?_ ?_
                                            rotate_left
                                            · show Act.put _ (some 81) _ = _
                                              simp only [Act.put, List.setIfInBounds_toArray, List.set_cons_zero, List.set_cons_succ, i64_w, i32_w]
                                              rfl
                                            refine one_ (i := 11) (N := some 90) #[true, true, true, true, true, true, true, true, true, true, true, true, false, false, false, false] rfl rfl (one_of HT_.out (by kernel_rfl)) (by decide) (fun K hK => ?_)
                                            refine Kd.R_append_rows_step (Kd.int .i64) (w0 := w) w.heap.size (by rfl) (.tmp 81) (.tmp 89) 31 3 (.int .i64 0) 8 rfl Try.underlying31 info3 rfl (by decide) (by omega) v274 y273 (rd_L1 ((rd_T43 l0 x8_3).f2) x9_4) _ _ _ (fun k_ => some k_ ≠ (.slice Ao27 y264.length co27 : Value).ownBlock ∧ some k_ ≠ (.slice Ao36 y269.length co36 : Value).ownBlock) (fun _ => False) rfl rfl ?aO ?aR (fun _ _ h => h) (fun _ h => h.elim) ?aF ?aB ?aS ?aL ?_
                                            (case aR => repeat (first | exact (Kd.C_below HR277_0.out HB.out) | (with_reducible refine Kd.C_alloc ?_ _) | (with_reducible refine Kd.C_drewN ?_ _) | (with_reducible refine Kd.C_drew ?_)))
                                            (case aB => exact (by repeat (first | (with_reducible first | exact HB.out | apply below_alloc | apply pw_below_drewN | apply below_drew1 | refine below_set ?_ GE254.out | refine below_set ?_ GE267.out) | exact HB.out)))
                                            (case aF => exact (fun k_ hk => ⟨Kd.fresh' (Kd.R_lt (by (with_reducible repeat (first | apply Kd.R_alloc | apply Kd.R_drewN | apply Kd.R_drew)); exact HO_268000.out)) k_ hk, Kd.fresh' (Kd.R_lt (by (with_reducible repeat (first | apply Kd.R_alloc | apply Kd.R_drewN | apply Kd.R_drew)); exact HO_268001.out)) k_ hk⟩))
                                            (case aO => exact (by (with_reducible repeat (first | apply Kd.R_alloc | apply Kd.R_drewN | apply Kd.R_drew)); exact Kd.R_mono HO275.out (fun _ hk => ⟨hk.1.2, hk.2⟩)))
                                            (case aS => exact (below_size (by repeat (first | (with_reducible first | exact HB.out | apply below_alloc | apply pw_below_drewN | apply below_drew1 | refine below_set ?_ GE254.out | refine below_set ?_ GE267.out) | exact HB.out))))
                                            (case aL => have := LMc42.out; omega)
                                            intro v279 w47 ho hb hg hat
                                            rw [← Ny278.out] at ho
                                            have n0_ := Aside0.mk (Kd.R_after (ok := (fun k_ => some k_ ≠ (.slice Ao36 y269.length co36 : Value).ownBlock)) (by (with_reducible repeat (first | apply Kd.R_alloc | apply Kd.R_drewN | apply Kd.R_drew)); exact HO_268000.out) hg hat)
                                            have n1_ := Aside0.mk (Kd.R_after (ok := (fun k_ => some k_ ≠ (.slice Ao27 y264.length co27 : Value).ownBlock)) (by (with_reducible repeat (first | apply Kd.R_alloc | apply Kd.R_drewN | apply Kd.R_drew)); exact HO_268001.out) hg hat)
                                            have n2_ := Aside0.mk (Kd.S_after (ok := (fun k_ => some k_ ≠ (.slice Ao27 y264.length co27 : Value).ownBlock ∧ some k_ ≠ (.slice Ao36 y269.length co36 : Value).ownBlock)) (by (with_reducible repeat (first | apply Kd.S_alloc | apply Kd.S_drewN | apply Kd.S_drew)); exact HO_268002.out) hg hat)
                                            have n3_ := Aside0.mk (blk_grown (g := gb254) (o := .cells #[.slice none 0 0, .slice none 0 0, .slice none 0 0] 43 (0, 0)) (by (with_reducible repeat (first | refine blk_drewN ?_ _ | refine blk_drew ?_ | refine blk_alloc ?_ _)); exact BK254.out) hg (Kd.R_ne HO275.out BK254.out (by decide)))
                                            have n4_ := Aside0.mk (blk_grown (g := gb267) (o := .cells #[.slice Ao27 y264.length co27, .slice Ao36 y269.length co36, u268002] 43 (0, 0)) (by (with_reducible repeat (first | refine blk_drewN ?_ _ | refine blk_drew ?_ | refine blk_alloc ?_ _)); exact BK267.out) hg (Kd.R_ne HO275.out BK267.out (by decide)))
                                            have n5_ := Aside0.mk (hb)
                                            have n6_ := Aside0.mk (ho)
                                            clear HO_268000
                                            clear HO_268001
                                            clear HO_268002
                                            clear BK254
                                            clear BK267
                                            clear HB
                                            clear HO275
                                            have HO_268000 := n0_
                                            have HO_268001 := n1_
                                            have HO_268002 := n2_
                                            have BK254 := n3_
                                            have BK267 := n4_
                                            have HB := n5_
                                            have HO280 := n6_
                                            clear n0_ n1_ n2_ n3_ n4_ n5_ n6_
                                            clear ho hb hg hat
                                            obtain ⟨Ao49, co49, eo49⟩ := Kd.R_slice HO280.out
                                            (first | subst eo49 | (injection eo49 with f1_ f2_ f3_; have f4_ := f1_.symm; have f5_ := f3_.symm; clear f1_ f2_ f3_; subst f4_; subst f5_))
                                            refine hK.out _ _ ⟨(blk_cell BK267.out 0).trans rfl, (blk_cell BK267.out 1).trans rfl, (blk_cell BK267.out 2).trans rfl, ((HB.out.cell (World.block_lt_of_cell? w _ hw276_0)).trans hw276_0), ((HB.out.cell (World.block_lt_of_cell? w _ hw276_1)).trans hw276_1), ((HB.out.cell (World.block_lt_of_cell? w _ hw276_2)).trans hw276_2), ((HB.out.cell (World.block_lt_of_cell? w _ hw277_0)).trans hw277_0)⟩ (fun hHeld => ?_)
                                            clear hK K
                                            refine norm_ (a' := ?_) ?_ ?_
                                            rotate_left
                                            · show Act.put _ (some 90) _ = _
                                              simp only [Act.put, List.setIfInBounds_toArray, List.set_cons_zero, List.set_cons_succ, i64_w, i32_w]
                                              rfl
                                            refine one_ (i := 12) (N := some 91) #[true, true, true, true, true, true, true, true, true, true, true, true, true, false, false, false] rfl rfl (one_of HT_.out (by kernel_rfl)) (by decide) (fun K hK => ?_)
                                            refine value_ (w1 := ?_) (v := ?_) (by rfl) rfl ?_ ?_
                                            rotate_left 2
                                            · go_simp
                                              constructor
                                              · rfl
                                              · rfl
                                            refine hK.out _ _ ⟨(blk_cell (blk_alloc BK267.out _) 0).trans rfl, (blk_cell (blk_alloc BK267.out _) 1).trans rfl, (blk_cell (blk_alloc BK267.out _) 2).trans rfl, (World.cell?_alloc_lt _ _ _ (World.block_lt_of_cell? _ _ (((HB.out.cell (World.block_lt_of_cell? w _ hw276_0)).trans hw276_0)))).trans (((HB.out.cell (World.block_lt_of_cell? w _ hw276_0)).trans hw276_0)), (World.cell?_alloc_lt _ _ _ (World.block_lt_of_cell? _ _ (((HB.out.cell (World.block_lt_of_cell? w _ hw276_1)).trans hw276_1)))).trans (((HB.out.cell (World.block_lt_of_cell? w _ hw276_1)).trans hw276_1)), (World.cell?_alloc_lt _ _ _ (World.block_lt_of_cell? _ _ (((HB.out.cell (World.block_lt_of_cell? w _ hw276_2)).trans hw276_2)))).trans (((HB.out.cell (World.block_lt_of_cell? w _ hw276_2)).trans hw276_2)), (World.cell?_alloc_lt _ _ _ (World.block_lt_of_cell? _ _ (((HB.out.cell (World.block_lt_of_cell? w _ hw277_0)).trans hw277_0)))).trans (((HB.out.cell (World.block_lt_of_cell? w _ hw277_0)).trans hw277_0))⟩ (fun hHeld => ?_)
                                            clear hK K
                                            refine norm_ (a' := ?_) ?_ ?_
                                            rotate_left
                                            · show Act.put _ (some 91) _ = _
                                              simp only [Act.put, List.setIfInBounds_toArray, List.set_cons_zero, List.set_cons_succ, i64_w, i32_w]
                                              rfl
                                            refine one_ (i := 13) (N := some 92) #[true, true, true, true, true, true, true, true, true, true, true, true, true, true, false, false] rfl rfl (one_of HT_.out (by kernel_rfl)) (by decide) (fun K hK => ?_)
                                            refine Kd.S_append_step (Kd.slice 3 (Kd.int .i64)) (w0 := w) w.heap.size (by rfl) (.tmp 80) (.tmp 91) 36 31 (.slice none 0 0) 24 rfl Try.underlying36 info31 rfl (by decide) (by omega) u268002 x268002_4 y278 [.slice Ao49 y278.length co49] (fun k_ => some k_ ≠ (.slice Ao27 y264.length co27 : Value).ownBlock ∧ some k_ ≠ (.slice Ao36 y269.length co36 : Value).ownBlock) (fun k_ => some k_ = (.slice Ao49 y278.length co49 : Value).ownBlock) rfl rfl ?aP (fun k_ hk_ => ((Kd.R_mono (ok' := fun k_ => ((fun k_ => some k_ ≠ (.slice Ao27 y264.length co27 : Value).ownBlock ∧ some k_ ≠ (.slice Ao36 y269.length co36 : Value).ownBlock)) k_ ∧ some k_ ≠ (u268002 : Value).ownBlock) (Kd.R_apart' (HO280.out) (Kd.S_typed HO_268002.out) (by decide)) (fun k_ hk => ⟨⟨hk.1.1, hk.1.2⟩, hk.2⟩))).1 k_ hk_.symm) ?aF ?aO ?aB ?aS ?aL ?_
                                            (case aP => exact Kd.M_row (Kd.R_mono (Kd.R_tight rfl (Kd.R_mono (ok' := fun k_ => ((fun k_ => some k_ ≠ (.slice Ao27 y264.length co27 : Value).ownBlock ∧ some k_ ≠ (.slice Ao36 y269.length co36 : Value).ownBlock)) k_ ∧ some k_ ≠ (u268002 : Value).ownBlock) (Kd.R_apart' (HO280.out) (Kd.S_typed HO_268002.out) (by decide)) (fun k_ hk => ⟨⟨hk.1.1, hk.1.2⟩, hk.2⟩))) (fun _ h_ => h_)))
                                            (case aB => exact (by repeat (first | (with_reducible first | exact HB.out | apply below_alloc | apply pw_below_drewN | apply below_drew1 | refine below_set ?_ GE254.out | refine below_set ?_ GE267.out) | exact HB.out)))
                                            (case aF => exact (fun k_ hk => ⟨Kd.fresh' (Kd.R_lt (by (with_reducible repeat (first | apply Kd.R_alloc | apply Kd.R_drewN | apply Kd.R_drew)); exact HO_268000.out)) k_ hk, Kd.fresh' (Kd.R_lt (by (with_reducible repeat (first | apply Kd.R_alloc | apply Kd.R_drewN | apply Kd.R_drew)); exact HO_268001.out)) k_ hk⟩))
                                            (case aO => exact (by (with_reducible repeat (first | apply Kd.S_alloc | apply Kd.S_drewN | apply Kd.S_drew)); exact Kd.S_mono HO_268002.out (fun k_ hk => ⟨⟨hk.1.1, hk.1.2⟩, fun e_ => hk.2 e_⟩)))
                                            (case aS => exact (below_size (by repeat (first | (with_reducible first | exact HB.out | apply below_alloc | apply pw_below_drewN | apply below_drew1 | refine below_set ?_ GE254.out | refine below_set ?_ GE267.out) | exact HB.out))))
                                            (case aL => have := LMc43.out; omega)
                                            intro v282 w48 ho hb hg hat
                                            rw [← Ny281.out] at ho
                                            have n0_ := Aside0.mk (Kd.R_over' (by (with_reducible repeat (first | apply Kd.R_alloc | apply Kd.R_drewN | apply Kd.R_drew)); exact HO_268000.out) (Kd.S_typed (by (with_reducible repeat (first | apply Kd.S_alloc | apply Kd.S_drewN | apply Kd.S_drew)); exact HO_268002.out)) (by decide) hg)
                                            have n1_ := Aside0.mk (Kd.R_over' (by (with_reducible repeat (first | apply Kd.R_alloc | apply Kd.R_drewN | apply Kd.R_drew)); exact HO_268001.out) (Kd.S_typed (by (with_reducible repeat (first | apply Kd.S_alloc | apply Kd.S_drewN | apply Kd.S_drew)); exact HO_268002.out)) (by decide) hg)
                                            have n2_ := Aside0.mk (blk_grown (g := gb254) (o := .cells #[.slice none 0 0, .slice none 0 0, .slice none 0 0] 43 (0, 0)) (by (with_reducible repeat (first | refine blk_drewN ?_ _ | refine blk_drew ?_ | refine blk_alloc ?_ _)); exact BK254.out) hg (Kd.S_ne HO_268002.out BK254.out (by decide)))
                                            have n3_ := Aside0.mk (blk_grown (g := gb267) (o := .cells #[.slice Ao27 y264.length co27, .slice Ao36 y269.length co36, u268002] 43 (0, 0)) (by (with_reducible repeat (first | refine blk_drewN ?_ _ | refine blk_drew ?_ | refine blk_alloc ?_ _)); exact BK267.out) hg (Kd.S_ne HO_268002.out BK267.out (by decide)))
                                            have n4_ := Aside0.mk (hb)
                                            have n5_ := Aside0.mk (ho)
                                            clear HO_268000
                                            clear HO_268001
                                            clear BK254
                                            clear BK267
                                            clear HB
                                            clear HO_268002
                                            clear HO280
                                            have HO_268000 := n0_
                                            have HO_268001 := n1_
                                            have BK254 := n2_
                                            have BK267 := n3_
                                            have HB := n4_
                                            have HO283 := n5_
                                            clear n0_ n1_ n2_ n3_ n4_ n5_
                                            clear ho hb hg hat
                                            obtain ⟨Ao50, co50, eo50⟩ := Kd.S_slice HO283.out
                                            (first | subst eo50 | (injection eo50 with f1_ f2_ f3_; have f4_ := f1_.symm; have f5_ := f3_.symm; clear f1_ f2_ f3_; subst f4_; subst f5_))
                                            refine hK.out _ _ ⟨(blk_cell BK267.out 0).trans rfl, (blk_cell BK267.out 1).trans rfl, (blk_cell BK267.out 2).trans rfl, ((HB.out.cell (World.block_lt_of_cell? w _ hw276_0)).trans hw276_0), ((HB.out.cell (World.block_lt_of_cell? w _ hw276_1)).trans hw276_1), ((HB.out.cell (World.block_lt_of_cell? w _ hw276_2)).trans hw276_2), ((HB.out.cell (World.block_lt_of_cell? w _ hw277_0)).trans hw277_0)⟩ (fun hHeld => ?_)
                                            clear hK K
                                            refine norm_ (a' := ?_) ?_ ?_
                                            rotate_left
                                            · show Act.put _ (some 92) _ = _
                                              simp only [Act.put, List.setIfInBounds_toArray, List.set_cons_zero, List.set_cons_succ, i64_w, i32_w]
                                              rfl
                                            refine pure_ (i := 14) (N := some 93) (v := ?_) (a' := ?_) #[true, true, true, true, true, true, true, true, true, true, true, true, true, true, true, false] rfl rfl (any_of HT_.out (by kernel_rfl)) (fun _ _ _ h => h) (Or.inl ⟨by rfl, ?_⟩) ?_ ?_
                                            rotate_left
                                            · intro w'
                                              go_simp
                                              with_reducible rfl
                                            rotate_left
                                            · simp only [Act.put, List.setIfInBounds_toArray, List.set_cons_zero, List.set_cons_succ, i64_w, i32_w]
                                              rfl
                                            refine last_ (i := 15) (N := none) #[true, true, true, true, true, true, true, true, true, true, true, true, true, true, true, true] rfl rfl (one_of HT_.out (by kernel_rfl)) (by decide) (fun K hK => ?_)
                                            have hs51 : w48.cell? ⟨gb267, 2, none⟩ = some (u268002) := (blk_cell BK267.out 2).trans rfl
                                            have hfs51 := blk_frozen BK267.out 2
                                            have hns51_0 := NB254_267.out
                                            have hms51_0 := NB267_254.out
                                            refine skip_ (w1 := ?_) (by rfl) rfl ?_ ?_
                                            rotate_left
                                            · go_simp
                                              rfl
                                            refine hK.out _ _ ?_
                                            clear hK K
                                            refine done_ (done_of HT_.out (by kernel_rfl)) ?_
                                            try go_wp2
                                            go_roundg k4
                                            case measure => have := HJ1.out; have := HK2.out; have := HK3.out; have := HK4.out; omega
                                            case rel => exact ⟨(wrap64 (x9_4 + 1)), (y281), (.slice Ao50 y281.length co50), (by first | rfl | (simp; done) | (simp [*]; done)), H', ⟨by have := HJ1.out; have := HK2.out; have := HK3.out; have := HK4.out; omega⟩, ⟨by (with_reducible repeat (first | apply Kd.R_alloc | apply Kd.R_drewN | apply Kd.R_drew)); exact Kd.R_mono (Kd.R_far (p := ⟨gb267, 2, none⟩) (Kd.R_types HO_268000.out BK267.out (by decide)) (fun _ hk => hk.2) (.slice Ao50 y281.length co50)) (fun _ hk => hk.1.1)⟩, ⟨by (with_reducible repeat (first | apply Kd.R_alloc | apply Kd.R_drewN | apply Kd.R_drew)); exact Kd.R_mono (Kd.R_far (p := ⟨gb267, 2, none⟩) (Kd.R_types HO_268001.out BK267.out (by decide)) (fun _ hk => hk.2) (.slice Ao50 y281.length co50)) (fun _ hk => hk.1.1)⟩, ⟨by (with_reducible repeat (first | apply Kd.S_alloc | apply Kd.S_drewN | apply Kd.S_drew)); exact Kd.S_mono (Kd.S_far (p := ⟨gb267, 2, none⟩) (Kd.S_types HO283.out BK267.out (by decide)) (fun _ hk => hk.2) (.slice Ao50 y281.length co50)) (fun _ hk => ⟨hk.1.1, hk.1.2⟩)⟩, ⟨by (with_reducible repeat (first | refine blk_drewN ?_ _ | refine blk_drew ?_ | refine blk_alloc ?_ _)); refine blk_far ?_ NB254_267.out _; (with_reducible repeat (first | refine blk_drewN ?_ _ | refine blk_drew ?_ | refine blk_alloc ?_ _)); exact BK254.out⟩, ⟨by (with_reducible repeat (first | refine blk_drewN ?_ _ | refine blk_drew ?_ | refine blk_alloc ?_ _)); refine blk_put (cs := #[.slice Ao27 y264.length co27, .slice Ao36 y269.length co36, u268002]) ?_ 2 _ rfl; (with_reducible repeat (first | refine blk_drewN ?_ _ | refine blk_drew ?_ | refine blk_alloc ?_ _)); exact BK267.out⟩, ⟨by repeat (first | (with_reducible first | exact HB.out | apply below_alloc | apply pw_below_drewN | apply below_drew1 | refine below_set ?_ GE254.out | refine below_set ?_ GE267.out) | exact HB.out)⟩⟩
                                          · rw [if_neg c43] at H
                                            exact absurd H (by simp)
                                        · rw [if_neg c42] at H
                                          exact absurd H (by simp)
                                      · rw [if_neg c41] at H
                                        exact absurd H (by simp)
                                    · rw [if_neg c40] at H
                                      have c40b0 : decide (x9_4 < (((rd_T43 l0 x8_3).f2).length : Int)) = false := decide_eq_false c40
                                      clear c40
                                      have H' := Aside0.mk H
                                      clear H
                                      have p272 : 0 ≤ (x8_3 : Int) := of_decide_eq_true (by first | (with_reducible assumption) | assumption)
                                      have q272 : x8_3 < (l0.length : Int) := of_decide_eq_true (by first | (with_reducible assumption) | assumption)
                                      obtain ⟨ad272, A272_0, c272_0, A272_1, c272_1, A272_2, c272_2, e272, hx272_0, hx272_1, hx272_2, hl272_0, hi272_0, hl272_1, hi272_1, hl272_2, hi272_2⟩ := at_T43 HR0.out x8_3 p272 q272
                                      obtain rfl : ad263 = ad272 := (by injection e272)
                                      replace hx272_0 := (HB.out.cell (World.block_lt_of_cell? w _ hx272_0)).trans hx272_0
                                      replace hx272_1 := (HB.out.cell (World.block_lt_of_cell? w _ hx272_1)).trans hx272_1
                                      replace hx272_2 := (HB.out.cell (World.block_lt_of_cell? w _ hx272_2)).trans hx272_2
                                      have HR272_0 := Aside0.mk hi272_0
                                      have HC272_0 := Aside0.mk hl272_0
                                      clear hi272_0 hl272_0
                                      have HR272_1 := Aside0.mk hi272_1
                                      have HC272_1 := Aside0.mk hl272_1
                                      clear hi272_1 hl272_1
                                      have HR272_2 := Aside0.mk hi272_2
                                      have HC272_2 := Aside0.mk hl272_2
                                      clear hi272_2 hl272_2
                                      replace p272 := eq_true p272
                                      replace q272 := eq_true q272
                                      go_wp2
                                      go_roundg k4
                                      case measure => have := HJ1.out; have := HK2.out; have := HK3.out; have := HK4.out; omega
                                      case rel => exact ⟨(wrap64 (x8_3 + 1)), (y269), (x268002_4), (.slice Ao36 y269.length co36), (u268002), (by first | rfl | (simp; done) | (simp [*]; done)), H', ⟨by have := HJ1.out; have := HK2.out; have := HK3.out; have := HK4.out; omega⟩, ⟨by (with_reducible repeat (first | apply Kd.R_alloc | apply Kd.R_drewN | apply Kd.R_drew)); exact HO_268000.out⟩, ⟨by (with_reducible repeat (first | apply Kd.R_alloc | apply Kd.R_drewN | apply Kd.R_drew)); exact HO_268001.out⟩, ⟨by (with_reducible repeat (first | apply Kd.S_alloc | apply Kd.S_drewN | apply Kd.S_drew)); exact HO_268002.out⟩, ⟨by (with_reducible repeat (first | refine blk_drewN ?_ _ | refine blk_drew ?_ | refine blk_alloc ?_ _)); exact BK254.out⟩, ⟨by (with_reducible repeat (first | refine blk_drewN ?_ _ | refine blk_drew ?_ | refine blk_alloc ?_ _)); exact BK267.out⟩, ⟨by repeat (first | (with_reducible first | exact HB.out | apply below_alloc | apply pw_below_drewN | apply below_drew1 | refine below_set ?_ GE254.out | refine below_set ?_ GE267.out) | exact HB.out)⟩⟩
                                  · rw [if_neg c39] at H
                                    exact absurd H (by simp)
                                · rw [if_neg c38] at H
                                  exact absurd H (by simp)
                          · rw [if_neg c33] at H
                            exact absurd H (by simp)
                        · rw [if_neg c32] at H
                          exact absurd H (by simp)
                      · rw [if_neg c31] at H
                        have c31b0 : decide (x8_3 < (l0.length : Int)) = false := decide_eq_false c31
                        clear c31
                        simp only [Option.some.injEq, Prod.mk.injEq] at H
                        obtain ⟨rfl, rfl, rfl, rfl⟩ := H
                        have hnb52 := NB267_254.out
                        have hnc52 := NB254_267.out
                        have hcz53_0 : wr.cell? ⟨gb267, 0, none⟩ = some (.slice Ao27 y264.length co27) := (blk_cell BK267.out 0).trans rfl
                        have hcz53_1 : wr.cell? ⟨gb267, 1, none⟩ = some (u268001) := (blk_cell BK267.out 1).trans rfl
                        have hcz53_2 : wr.cell? ⟨gb267, 2, none⟩ = some (u268002) := (blk_cell BK267.out 2).trans rfl
                        have hfz53_0 := blk_frozen BK267.out 0
                        have hfz53_1 := blk_frozen BK267.out 1
                        have hfz53_2 := blk_frozen BK267.out 2
                        have hcz54_0 : wr.cell? ⟨gb254, 0, none⟩ = some (.slice none 0 0) := (blk_cell BK254.out 0).trans rfl
                        have hcz54_1 : wr.cell? ⟨gb254, 1, none⟩ = some (.slice none 0 0) := (blk_cell BK254.out 1).trans rfl
                        have hcz54_2 : wr.cell? ⟨gb254, 2, none⟩ = some (.slice none 0 0) := (blk_cell BK254.out 2).trans rfl
                        have hfz54_0 := blk_frozen BK254.out 0
                        have hfz54_1 := blk_frozen BK254.out 1
                        have hfz54_2 := blk_frozen BK254.out 2
                        obtain ⟨Ao55, co55, eo55⟩ := Kd.R_slice HO_268001.out
                        subst eo55
                        obtain ⟨Ao56, co56, eo56⟩ := Kd.S_slice HO_268002.out
                        subst eo56
                        go_wp2
                        refine bodyPost_ret (results_ct rfl _ _ gb254 43 #[.slice Ao27 y264.length co27, .slice Ao55 x268001_3.length co55, .slice Ao56 x268002_3.length co56] (0, 0) _ rfl (by (with_reducible repeat (first | refine blk_drewN ?_ _ | refine blk_drew ?_ | refine blk_alloc ?_ _)); refine blk_put (cs := #[.slice Ao27 y264.length co27, .slice Ao55 x268001_3.length co55, .slice none 0 0]) ?_ 2 _ rfl; (with_reducible repeat (first | refine blk_drewN ?_ _ | refine blk_drew ?_ | refine blk_alloc ?_ _)); refine blk_put (cs := #[.slice Ao27 y264.length co27, .slice none 0 0, .slice none 0 0]) ?_ 1 _ rfl; (with_reducible repeat (first | refine blk_drewN ?_ _ | refine blk_drew ?_ | refine blk_alloc ?_ _)); refine blk_put (cs := #[.slice none 0 0, .slice none 0 0, .slice none 0 0]) ?_ 0 _ rfl; (with_reducible repeat (first | refine blk_drewN ?_ _ | refine blk_drew ?_ | refine blk_alloc ?_ _)); exact BK254.out) Try.underlying43 rfl (by kernel_rfl)) rfl ?_
                        exact ⟨_, _, _, by first | rfl | (simp [errW_none, errW_some] <;> rfl) | (simp [*, errW_none, errW_some] <;> rfl), by (with_reducible repeat (first | apply Kd.R_alloc | apply Kd.R_drewN | apply Kd.R_drew)); exact Kd.R_mono (Kd.R_far (p := ⟨gb254, 2, none⟩) (Kd.R_far (p := ⟨gb254, 1, none⟩) (Kd.R_far (p := ⟨gb254, 0, none⟩) (Kd.R_types HO_268000.out BK254.out (by decide)) (fun _ hk => hk.2) (.slice Ao27 y264.length co27)) (fun _ hk => hk.2) (.slice Ao55 x268001_3.length co55)) (fun _ hk => hk.2) (.slice Ao56 x268002_3.length co56)) (fun _ hk => hk.1), by (with_reducible repeat (first | apply Kd.R_alloc | apply Kd.R_drewN | apply Kd.R_drew)); exact Kd.R_mono (Kd.R_far (p := ⟨gb254, 2, none⟩) (Kd.R_far (p := ⟨gb254, 1, none⟩) (Kd.R_far (p := ⟨gb254, 0, none⟩) (Kd.R_types HO_268001.out BK254.out (by decide)) (fun _ hk => hk.2) (.slice Ao27 y264.length co27)) (fun _ hk => hk.2) (.slice Ao55 x268001_3.length co55)) (fun _ hk => hk.2) (.slice Ao56 x268002_3.length co56)) (fun _ hk => hk.1), by (with_reducible repeat (first | apply Kd.S_alloc | apply Kd.S_drewN | apply Kd.S_drew)); exact Kd.S_mono (Kd.S_far (p := ⟨gb254, 2, none⟩) (Kd.S_far (p := ⟨gb254, 1, none⟩) (Kd.S_far (p := ⟨gb254, 0, none⟩) (Kd.S_types HO_268002.out BK254.out (by decide)) (fun _ hk => hk.2) (.slice Ao27 y264.length co27)) (fun _ hk => hk.2) (.slice Ao55 x268001_3.length co55)) (fun _ hk => hk.2) (.slice Ao56 x268002_3.length co56)) (fun _ hk => ⟨hk.1.1, hk.1.2⟩), by repeat (first | (with_reducible first | exact HB.out | apply below_alloc | apply pw_below_drewN | apply below_drew1 | refine below_set ?_ GE254.out | refine below_set ?_ GE267.out) | exact HB.out)⟩
                · rw [if_neg c23] at H
                  exact absurd H (by simp)
              · rw [if_neg c22] at H
                exact absurd H (by simp)



end Go.Proofs.Ytdlkcohfgfnkbaa.DFns
