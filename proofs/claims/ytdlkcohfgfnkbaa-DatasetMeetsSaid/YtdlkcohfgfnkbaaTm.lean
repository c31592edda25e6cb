/- dataset.Take: the walk. -/
import Derived.Test.YtdlkcohfgfnkbaaTq
import Derived.Test.YtdlkcohfgfnkbaaCl
import Derived.Test.YtdlkcohfgfnkbaaOt
import Derived.Deep.RegionHeld3
namespace Go.Proofs.Ytdlkcohfgfnkbaa.Tm
open Go.RowKit Go.Maps Go.Proofs.Ytdlkcohfgfnkbaa.PDatasetJoins Go.Proofs.Ytdlkcohfgfnkbaa.DFns Go.Proofs.Ytdlkcohfgfnkbaa.Tp Go.Proofs.Ytdlkcohfgfnkbaa.Tq Go.Proofs.Ytdlkcohfgfnkbaa.Tr Go.Proofs.Ytdlkcohfgfnkbaa.Al Go.Proofs.Ytdlkcohfgfnkbaa.Cl Go.Proofs.Ytdlkcohfgfnkbaa.Ot Go.Proofs.Ytdlkcohfgfnkbaa.Mp Go.Proofs.YtdlkcohfgfnkbaaW.PrintWords Go.Proofs.YtdlkcohfgfnkbaaW.PrintLast Go.Proofs.YtdlkcohfgfnkbaaW.PrintMore
set_option linter.unusedSimpArgs false
set_option linter.unusedVariables false

theorem last_fst {l : List Int} (h : l.Nodup) (x : Int) : lastIx l x = fstIx l x := by
  induction l with
  | nil => rfl
  | cons y l ih =>
    obtain ⟨h1, h2⟩ := List.nodup_cons.1 h
    unfold lastIx fstIx
    by_cases e : y = x
    · have : lastIx l x = none := by
        have := lastIx_mem l x
        cases hx : lastIx l x with
        | none => rfl
        | some j => rw [hx] at this; exact absurd (this.1 rfl) (by rw [← e]; exact h1)
      rw [this, if_pos e, if_pos e]
    · rw [ih h2, if_neg e, if_neg e]
      cases fstIx l x with
      | none => rfl
      | some j => rfl
theorem plF_at {l : List Int} (h : l.Nodup) {x : Int} (hx : x ∈ l) : (plF l x).getD (.int .i64 0) = .int .i64 (plI l x) ∧ (plF l x).isSome = true := by
  obtain ⟨j, hj, hf, hp⟩ := pl_at hx
  unfold plF
  rw [last_fst h, hf, hp]
  exact ⟨rfl, rfl⟩
theorem plF_no {l : List Int} {x : Int} (hx : x ∉ l) : (plF l x).isSome = false := by
  have := lastIx_mem l x
  rw [plF_some]
  cases hs : (lastIx l x).isSome with
  | false => rfl
  | true => exact absurd (this.1 hs) hx
abbrev zTb : Array Value := #[.slice none 0 0, .slice none 0 0, .slice none 0 0]
theorem three_frozen {W : World} {g t : Nat} {x y z : Value} (h : W.heap[g]? = some (.cells #[x, y, z] t (0, 0))) : W.frozen? ⟨g, 0, none⟩ = false ∧ W.frozen? ⟨g, 1, none⟩ = false ∧ W.frozen? ⟨g, 2, none⟩ = false := ⟨blk_frozen h 0, blk_frozen h 1, blk_frozen h 2⟩
def TakePost (w : World) (r : List Int × List Int × List (List Int) × Int) (e : Ending) (w' : World) : Prop :=
  ∃ p : At, e = .returned (.tuple #[.agg (tbV p.A0 p.A1 p.A2 p.c0 p.c1 p.c2 r.1 r.2.1 r.2.2.1), .int .i64 r.2.2.2]) ∧ (IsTb w' p.A0 p.A1 p.A2 p.c0 p.c1 p.c2 r.1 r.2.1 r.2.2.1 ∧ (Kd.int .i64).R 3 w' w.heap.size (fun _ => True) (.slice p.A0 r.1.length p.c0) r.1 ∧ (Kd.int .i64).R 3 w' w.heap.size (fun _ => True) (.slice p.A1 r.2.1.length p.c1) r.2.1 ∧ (Kd.slice 3 (Kd.int .i64)).R 31 w' w.heap.size (fun _ => True) (.slice p.A2 r.2.2.1.length p.c2) r.2.2.1) ∧ Below w.heap.size w w'
theorem take_none (w w' : World) (hb : Below w.heap.size w w') : TakePost w ([], [], [], 20) (.returned (.tuple #[.agg zTb, .int .i64 20])) w' :=
  ⟨⟨none, 0, none, 0, none, 0⟩, rfl, ⟨⟨Nat.le_refl _, Nat.le_refl _, Nat.le_refl _, Kd.C_nil _ _, Kd.C_nil _ _, Kd.C_nil _ _, Nat.zero_le _, Nat.zero_le _, Nat.zero_le _, fun c hc => by cases hc⟩, Kd.R_nil _ _ _ _ _, Kd.R_nil _ _ _ _ _, Kd.R_nil _ _ _ _ _⟩, hb⟩
theorem two_boxes (w : World) (cs : Array Value) : ∃ W1, W1 = (w.alloc (.cells cs 43)).alloc (.cells zTb 43) ∧ Below w.heap.size w W1 ∧ W1.heap.size = w.heap.size + 1 + 1 ∧ W1.heap[w.heap.size]? = some (.cells cs 43 (0, 0)) ∧ W1.heap[w.heap.size + 1]? = some (.cells zTb 43 (0, 0)) := by
  refine ⟨_, rfl, below_alloc (below_alloc (Below.refl _ _) _) _, by rw [World.size_alloc, World.size_alloc], blk_alloc (blk_new w _) _, ?_⟩
  rw [← World.size_alloc w (.cells cs 43)]
  exact blk_new _ _
theorem plF_none {l : List Int} {x : Int} (hx : x ∉ l) : plF l x = none := by
  have := plF_no hx
  cases h : plF l x with
  | none => rfl
  | some v => rw [h] at this; cases this
/-- How far a column is taken. -/
def upT (l : List Int) (j : Nat) : List Int := l.take j ++ List.replicate (l.length - j) 0
theorem upT_zero (l : List Int) : upT l 0 = List.replicate l.length 0 := by unfold upT; simp
theorem upT_end (l : List Int) : upT l l.length = l := by unfold upT; simp
theorem upT_step (l : List Int) (j : Nat) (h : j < l.length) : (upT l j).set j l[j] = upT l (j + 1) := by
  unfold upT
  rw [List.set_append_right _ _ (by rw [List.length_take]; omega), take_snoc l j h, List.length_take, Nat.min_eq_left (by omega), Nat.sub_self]
  obtain ⟨m, hm⟩ : ∃ m, l.length - j = m + 1 := ⟨l.length - j - 1, by omega⟩
  rw [hm, show l.length - (j + 1) = m by omega, List.replicate_succ, List.set_cons_zero, List.append_assoc]
  rfl
theorem colT_len (ids xs c : List Int) : (colT ids xs c).length = xs.length := List.length_map _
theorem colT_at (ids xs c : List Int) (j : Nat) (h : j < (colT ids xs c).length) : (colT ids xs c)[j] = rd c (plI ids (rd xs (j : Int))) := by
  have h' : j < xs.length := by rw [colT_len] at h; exact h
  rw [rd_get xs j h']
  exact List.getElem_map _
/-- What stands while the columns are taken. -/
structure J (w4 W : World) (N g7 : Nat) (A30 : Option Addr) (c30 : Nat) (A33 : Option Addr) (c33 : Nat) (xs bins : List Int) (vc : Value) (rows : List (List Int)) : Prop where
  b : Below w4.heap.size w4 W
  n : N ≤ W.heap.size
  k7 : W.heap[g7]? = some (.cells #[.slice A30 xs.length c30, .slice A33 bins.length c33, vc] 43 (0, 0))
  r0 : (Kd.int .i64).R 3 W w4.heap.size (fun k => k < N) (.slice A30 xs.length c30) xs
  r1 : (Kd.int .i64).R 3 W w4.heap.size (fun k => k < N) (.slice A33 bins.length c33) bins
  s : (Kd.slice 3 (Kd.int .i64)).S 31 W w4.heap.size (fun k => N ≤ k) vc rows
theorem J.below {w4 W W' : World} {N g7 : Nat} {A30 : Option Addr} {c30 : Nat} {A33 : Option Addr} {c33 : Nat} {xs bins : List Int} {vc : Value} {rows : List (List Int)} (h : J w4 W N g7 A30 c30 A33 c33 xs bins vc rows) (hb : Below W.heap.size W W') : J w4 W' N g7 A30 c30 A33 c33 xs bins vc rows :=
  ⟨h.b.trans (hb.mono h.b.size), Nat.le_trans h.n hb.size, blk_below h.k7 hb, Kd.R_below h.r0 hb, Kd.R_below h.r1 hb, Kd.S_below h.s hb⟩
theorem S_put {α : Type} {d : Kd α} {e base : Nat} {ok : Nat → Prop} {v : Value} {l : List α} {W : World} {g : Nat} {cs : Array Value} (h : d.S e W base ok v l) (hb : W.heap[g]? = some (.cells cs 43 (0, 0))) (ht : ∀ q, q ∈ e :: d.E → q ≠ 43) (j : Nat) (u : Value) : d.S e (W.setCell ⟨g, j, none⟩ u) base ok v l :=
  Kd.S_mono (Kd.S_far (p := ⟨g, j, none⟩) (Kd.S_types h hb ht) (fun _ hk => hk.2) u) (fun _ hk => hk.1)
/-- A column is put behind the others. -/
theorem J.more {w4 W W1 : World} {N g7 : Nat} {A30 : Option Addr} {c30 : Nat} {A33 : Option Addr} {c33 : Nat} {xs bins : List Int} {vc v1 : Value} {rows rows1 : List (List Int)} (h : J w4 W N g7 A30 c30 A33 c33 xs bins vc rows) (hg7 : g7 < N)
    (hs : (Kd.slice 3 (Kd.int .i64)).S 31 W1 w4.heap.size (fun k => N ≤ k) v1 rows1) (hb : Below w4.heap.size w4 W1) (hg : W.grownBy W1 vc.ownBlock) (h4 : w4.heap.size ≤ g7) : J w4 (W1.setCell ⟨g7, 2, none⟩ v1) N g7 A30 c30 A33 c33 xs bins v1 rows1 := by
  have hne : ∀ k, k < N → some k ≠ vc.ownBlock := fun k hk e => by
    have := (Kd.S_R h.s).1 k e.symm
    omega
  have k7 := blk_grown h.k7 hg (hne g7 hg7)
  exact ⟨below_set hb h4, by rw [World.size_setCell]; exact Nat.le_trans h.n hg.size, blk_put k7 2 v1 rfl, Kd.R_set (Kd.R_grown h.r0 hg hne) k7 (by decide) 2 v1, Kd.R_set (Kd.R_grown h.r1 hg hne) k7 (by decide) 2 v1, S_put hs k7 (by decide) 2 v1⟩
theorem put3 {W : World} {g : Nat} {x0 y0 z0 : Value} (x y z : Value) (h : W.heap[g]? = some (.cells #[x0, y0, z0] 43 (0, 0))) :
    (((W.setCell ⟨g, 0, none⟩ x).setCell ⟨g, 1, none⟩ y).setCell ⟨g, 2, none⟩ z).heap[g]? = some (.cells #[x, y, z] 43 (0, 0)) ∧ (∀ k, k ≠ g → (((W.setCell ⟨g, 0, none⟩ x).setCell ⟨g, 1, none⟩ y).setCell ⟨g, 2, none⟩ z).heap[k]? = W.heap[k]?) ∧
      ∀ (w0 : World), Below w0.heap.size w0 W → w0.heap.size ≤ g → Below w0.heap.size w0 (((W.setCell ⟨g, 0, none⟩ x).setCell ⟨g, 1, none⟩ y).setCell ⟨g, 2, none⟩ z) :=
  ⟨blk_put (cs' := #[x, y, z]) (blk_put (cs' := #[x, y, z0]) (blk_put (cs' := #[x, y0, z0]) h 0 x rfl) 1 y rfl) 2 z rfl,
    fun k hk => by rw [Below.heap_setCell _ _ _ k (by exact hk), Below.heap_setCell _ _ _ k (by exact hk), Below.heap_setCell _ _ _ k (by exact hk)],
    fun w0 hb hg => below_set (below_set (below_set hb hg) hg) hg⟩
theorem R_put3 {α : Type} {d : Kd α} {e base : Nat} {ok : Nat → Prop} {v : Value} {l : List α} {W W' : World} {g : Nat} {cs : Array Value} (h : d.R e W base ok v l) (hb : W.heap[g]? = some (.cells cs 43 (0, 0))) (ht : ∀ q, q ∈ e :: d.E → q ≠ 43) (hk : ∀ k, k ≠ g → W'.heap[k]? = W.heap[k]?) : d.R e W' base ok v l :=
  Kd.R_mono (Kd.R_move (Kd.R_types h hb ht) (fun k hk' => hk k hk'.2)) (fun k hk' => hk'.1)
set_option maxRecDepth 100000 in
set_option maxHeartbeats 1000000 in
theorem take_no1 (A0 A1 A2 : Option Addr) (c0 c1 c2 : Nat) (ids bins : List Int) (cols : List (List Int)) (A3 : Option Addr) (c3 : Nat) (xs : List Int) (w : World) (h : IsTb w A0 A1 A2 c0 c1 c2 ids bins cols) (hr : Kd.C (Kd.int .i64) w A3 xs.length xs) (hl : xs.length ≤ 140737488351232) (ht : tabB ids bins cols = false) :
    Calls Try.prog 34 #[.agg (tbV A0 A1 A2 c0 c1 c2 ids bins cols), .slice A3 xs.length c3] w (TakePost w ([], [], [], 20)) := by
  have H := Aside0.mk h
  have HT := Aside0.mk ht
  obtain ⟨W1, hW1, hB1, hs1, k1, k2⟩ := two_boxes w (tbV A0 A1 A2 c0 c1 c2 ids bins cols)
  have HB1 := Aside0.mk hB1
  have K1 := Aside0.mk k1
  have K2 := Aside0.mk k2
  obtain ⟨a0, a1, a2⟩ := three_cells k1
  clear h hr ht hB1 k1 k2 hs1
  go_enter Try.func34, Try.ntmps34
  go_wp2_with fail
  rw [← hW1]
  clear hW1
  refine (right_calls A0 A1 A2 c0 c1 c2 ids bins cols _ (H.out.below HB1.out)).mono ?_
  rintro e w2 ⟨rfl, hb2⟩
  have HB2 := Aside0.mk (HB1.out.trans (hb2.mono HB1.out.size))
  have K2' := Aside0.mk (blk_below K2.out hb2)
  clear hb2 HB1 K1 K2 a0 a1 a2
  rw [HT.out]
  obtain ⟨a0, a1, a2⟩ := three_cells K2'.out
  obtain ⟨f0, f1, f2⟩ := three_frozen K2'.out
  go_wp2_with fail
  refine bodyPost_ret (results_ct rfl _ _ (w.heap.size + 1) 43 zTb (0, 0) _ rfl (blk_put (cs := zTb) (blk_put (cs := zTb) (blk_put K2'.out 0 _ rfl) 1 _ rfl) 2 _ rfl) Try.underlying43 rfl (by kernel_rfl)) rfl ?_
  exact take_none _ _ (below_set (below_set (below_set HB2.out (by show w.heap.size ≤ w.heap.size + 1; omega)) (by show w.heap.size ≤ w.heap.size + 1; omega)) (by show w.heap.size ≤ w.heap.size + 1; omega))
set_option maxRecDepth 100000 in
set_option maxHeartbeats 1000000 in
theorem take_no2 (A0 A1 A2 : Option Addr) (c0 c1 c2 : Nat) (ids bins : List Int) (cols : List (List Int)) (A3 : Option Addr) (c3 : Nat) (xs : List Int) (w : World) (h : IsTb w A0 A1 A2 c0 c1 c2 ids bins cols) (hr : Kd.C (Kd.int .i64) w A3 xs.length xs) (hl : xs.length ≤ 140737488351232) (ht : tabB ids bins cols = true) (hi : idsB xs = false) :
    Calls Try.prog 34 #[.agg (tbV A0 A1 A2 c0 c1 c2 ids bins cols), .slice A3 xs.length c3] w (TakePost w ([], [], [], 20)) := by
  have H := Aside0.mk h
  have HR := Aside0.mk hr
  have HT := Aside0.mk ht
  have HI := Aside0.mk hi
  obtain ⟨W1, hW1, hB1, hs1, k1, k2⟩ := two_boxes w (tbV A0 A1 A2 c0 c1 c2 ids bins cols)
  have HB1 := Aside0.mk hB1
  have K1 := Aside0.mk k1
  have K2 := Aside0.mk k2
  obtain ⟨a0, a1, a2⟩ := three_cells k1
  clear h hr ht hi hB1 k1 k2 hs1
  go_enter Try.func34, Try.ntmps34
  go_wp2_with fail
  rw [← hW1]
  clear hW1
  refine (right_calls A0 A1 A2 c0 c1 c2 ids bins cols _ (H.out.below HB1.out)).mono ?_
  rintro e w2 ⟨rfl, hb2⟩
  have HB2 := Aside0.mk (HB1.out.trans (hb2.mono HB1.out.size))
  have K2' := Aside0.mk (blk_below K2.out hb2)
  clear hb2 HB1 K1 K2 a0 a1 a2
  rw [HT.out]
  go_wp2_with fail
  refine (rightIds_calls A3 c3 xs _ (Kd.C_below HR.out HB2.out) hl).mono ?_
  rintro e w3 ⟨rfl, hb3⟩
  have HB3 := Aside0.mk (HB2.out.trans (hb3.mono HB2.out.size))
  have K3 := Aside0.mk (blk_below K2'.out hb3)
  clear hb3 HB2 K2'
  rw [HI.out]
  obtain ⟨a0, a1, a2⟩ := three_cells K3.out
  obtain ⟨f0, f1, f2⟩ := three_frozen K3.out
  go_wp2_with fail
  refine bodyPost_ret (results_ct rfl _ _ (w.heap.size + 1) 43 zTb (0, 0) _ rfl (blk_put (cs := zTb) (blk_put (cs := zTb) (blk_put K3.out 0 _ rfl) 1 _ rfl) 2 _ rfl) Try.underlying43 rfl (by kernel_rfl)) rfl ?_
  exact take_none _ _ (below_set (below_set (below_set HB3.out (by show w.heap.size ≤ w.heap.size + 1; omega)) (by show w.heap.size ≤ w.heap.size + 1; omega)) (by show w.heap.size ≤ w.heap.size + 1; omega))
set_option maxRecDepth 100000 in
set_option maxHeartbeats 4000000 in
theorem take_more (A0 A1 A2 : Option Addr) (c0 c1 c2 : Nat) (ids bins : List Int) (cols : List (List Int)) (A3 : Option Addr) (c3 : Nat) (xs : List Int) (w : World) (h : IsTb w A0 A1 A2 c0 c1 c2 ids bins cols) (hr : Kd.C (Kd.int .i64) w A3 xs.length xs) (hl : xs.length ≤ 140737488351232) (ht : tabB ids bins cols = true) (hi : idsB xs = true) :
    Calls Try.prog 34 #[.agg (tbV A0 A1 A2 c0 c1 c2 ids bins cols), .slice A3 xs.length c3] w (TakePost w (takeP ids bins cols xs)) := by
  have H := Aside0.mk h
  have HR := Aside0.mk hr
  have HT := Aside0.mk ht
  have HI := Aside0.mk hi
  obtain ⟨W1, hW1, hB1, hs1, k1, k2⟩ := two_boxes w (tbV A0 A1 A2 c0 c1 c2 ids bins cols)
  have HB1 := Aside0.mk hB1
  have K1 := Aside0.mk k1
  have K2 := Aside0.mk k2
  obtain ⟨a0, a1, a2⟩ := three_cells k1
  clear h hr ht hi hB1 k1 k2 hs1
  go_enter Try.func34, Try.ntmps34
  go_wp2_with fail
  rw [← hW1]
  clear hW1
  refine (right_calls A0 A1 A2 c0 c1 c2 ids bins cols _ (H.out.below HB1.out)).mono ?_
  rintro e w2 ⟨rfl, hb2⟩
  have HB2 := Aside0.mk (HB1.out.trans (hb2.mono HB1.out.size))
  have K12 := Aside0.mk (blk_below K1.out hb2)
  have K22 := Aside0.mk (blk_below K2.out hb2)
  clear hb2 HB1 K1 K2 a0 a1 a2
  rw [HT.out]
  go_wp2_with fail
  refine (rightIds_calls A3 c3 xs _ (Kd.C_below HR.out HB2.out) hl).mono ?_
  rintro e w3 ⟨rfl, hb3⟩
  have HB3 := Aside0.mk (HB2.out.trans (hb3.mono HB2.out.size))
  have K13 := Aside0.mk (blk_below K12.out hb3)
  have K23 := Aside0.mk (blk_below K22.out hb3)
  clear hb3 HB2 K12 K22
  rw [HI.out]
  obtain ⟨a0, a1, a2⟩ := three_cells K13.out
  go_wp2_with fail
  have hif := Tq.ids_facts (tab_facts HT.out).1
  refine (places_calls A0 c0 ids _ (Kd.C_below H.out.r0 HB3.out) H.out.z0 (fun x hx => I64.mk (by have := hif.2.1 x hx; omega) (by have := hif.2.1 x hx; omega))).mono ?_
  rintro e w4 ⟨mb, s, rfl, hm, hcnt, hmb, hb4⟩
  have HB4 := Aside0.mk (HB3.out.trans (hb4.mono HB3.out.size))
  have K14 := Aside0.mk (blk_below K13.out hb4)
  have K24 := Aside0.mk (blk_below K23.out hb4)
  have HM := Aside0.mk hm
  have HMB := Aside0.mk (Nat.le_trans HB3.out.size hmb)
  clear hb4 HB3 K13 K23 hm hcnt hmb hif a0 a1 a2
  have hlx : xs.length ≤ 17592186044416 := by have := (Tq.ids_facts HI.out).1; omega
  have hlb : bins.length ≤ 17592186044416 := by have := tab_facts HT.out; omega
  go_upto_region 4 with fail
  go_cut [7] from 29 to 34 (fun v7 wx => ∃ (g7 : Nat) (A30 : Option Addr) (c30 : Nat) (A33 : Option Addr) (c33 : Nat), v7 = .pointer (some ⟨g7, 0, none⟩) ∧ Aside0 (wx.heap[g7]? = some (.cells #[.slice A30 xs.length c30, .slice A33 bins.length c33, .slice none 0 0] 43 (0, 0))) ∧ Aside0 ((Kd.int .i64).R 3 wx w4.heap.size (fun _ => True) (.slice A30 xs.length c30) xs) ∧ Aside0 ((Kd.int .i64).R 3 wx w4.heap.size (fun _ => True) (.slice A33 bins.length c33) bins) ∧ Aside0 (w4.heap.size ≤ g7) ∧ Aside0 (Below w4.heap.size w4 wx))
  case first =>
    refine start_ (n := 8) (S := fun w' => w'.cell? ⟨w.heap.size, 1, none⟩ = some (.slice A1 bins.length c1)) (ds := []) #[false, false, false, false, false, false, false, false] (by kernel_rfl) rfl rfl (three_cells (blk_drew K14.out)).2.1 (fun hHeld => ?_)
    have HBc := Aside0.mk (below_drew (Below.refl w4.heap.size w4))
    have K1c := Aside0.mk (blk_drew K14.out)
    generalize w4.drew = u at HBc K1c hHeld ⊢
    refine pure_ (i := 0) (N := some 29) (v := ?_) (a' := ?_) #[true, false, false, false, false, false, false, false] rfl rfl (by kernel_rfl) (fun _ _ _ h => h) (Or.inl ⟨by rfl, ?_⟩) ?_ ?_
    rotate_left
    · intro w'
      go_simp
      try with_reducible rfl
    rotate_left
    · simp only [Act.put, List.setIfInBounds_toArray, List.set_cons_zero, List.set_cons_succ, i64_w, i32_w]
      rfl
    refine pure_ (i := 2) (N := some 31) (v := ?_) (a' := ?_) #[true, false, true, false, false, false, false, false] rfl rfl (by kernel_rfl) (fun _ _ _ h => h) (Or.inl ⟨by rfl, ?_⟩) ?_ ?_
    rotate_left
    · intro w'
      go_simp
      try with_reducible rfl
    rotate_left
    · simp only [Act.put, List.setIfInBounds_toArray, List.set_cons_zero, List.set_cons_succ, i64_w, i32_w]
      rfl
    refine take_ (i := 3) (N := some 32) (v := ?_) (a' := ?_) #[true, false, true, true, false, false, false, false] rfl rfl (by kernel_rfl) (fun _ _ _ h => h) (Or.inl ⟨by rfl, ?_⟩) hHeld ?_ ?_
    rotate_left
    · intro w' hSw
      go_simp
      try with_reducible rfl
    rotate_left
    · simp only [Act.put, List.setIfInBounds_toArray, List.set_cons_zero, List.set_cons_succ, i64_w, i32_w]
      rfl
    refine two_ (i := 1) (j := 6) (Ni := some 30) (Nj := some 7) #[true, true, true, true, false, false, false, false] #[true, false, true, true, false, false, true, false] rfl rfl rfl rfl (by kernel_rfl) (by decide) (by decide) (fun K hK => ?_) (fun K hK => ?_)
    · skip
      refine goes_ Try.func58 (by kernel_rfl) rfl #[.slice A3 xs.length c3] (by rfl) rfl rfl (by first | rfl | (simp [Act.eval, Operand.eval]; done) | kernel_rfl) ?_
      refine (clone_calls A3 c3 xs _ (Kd.C_below HR.out (HB4.out.trans (HBc.out.mono HB4.out.size))) hlx).mono ?_
      rintro e u0 ⟨V30, rfl, hr, hb⟩
      obtain ⟨A30, c30, rfl⟩ := Kd.R_slice hr
      refine ⟨_, rfl, ?_⟩
      replace hr := Kd.R_lower hr HBc.out.size
      have HBn := Aside0.mk (HBc.out.trans (hb.mono HBc.out.size))
      have K1n := Aside0.mk (blk_below K1c.out hb)
      have R30n := Aside0.mk hr
      clear hb hr HBc K1c
      have HBc := HBn
      have K1c := K1n
      have R30 := R30n
      clear HBn K1n R30n
      refine hK.out _ _ (three_cells K1c.out).2.1 (fun hHeld => ?_)
      clear hK K
      refine norm_ (a' := ?_) ?_ ?_
      rotate_left
      · show Act.put _ (some 30) _ = _
        simp only [Act.put, List.setIfInBounds_toArray, List.set_cons_zero, List.set_cons_succ, i64_w, i32_w]
        rfl
      refine two_ (i := 4) (j := 6) (Ni := some 33) (Nj := some 7) #[true, true, true, true, true, false, false, false] #[true, true, true, true, false, false, true, false] rfl rfl rfl rfl (by kernel_rfl) (by decide) (by decide) (fun K hK => ?_) (fun K hK => ?_)
      · skip
        refine goes_ Try.func58 (by kernel_rfl) rfl #[.slice A1 bins.length c1] (by rfl) rfl rfl (by first | rfl | (simp [Act.eval, Operand.eval]; done) | kernel_rfl) ?_
        refine (clone_calls A1 c1 bins _ (Kd.C_below H.out.r1 (HB4.out.trans (HBc.out.mono HB4.out.size))) hlb).mono ?_
        rintro e u1 ⟨V33, rfl, hr, hb⟩
        obtain ⟨A33, c33, rfl⟩ := Kd.R_slice hr
        refine ⟨_, rfl, ?_⟩
        replace hr := Kd.R_lower hr HBc.out.size
        have R30n := Aside0.mk (Kd.R_below R30.out hb)
        have HBn := Aside0.mk (HBc.out.trans (hb.mono HBc.out.size))
        have K1n := Aside0.mk (blk_below K1c.out hb)
        have R33n := Aside0.mk hr
        clear hb hr HBc K1c R30
        have HBc := HBn
        have K1c := K1n
        have R30 := R30n
        have R33 := R33n
        clear HBn K1n R30n R33n
        refine hK.out _ _ (three_cells K1c.out).2.1 (fun hHeld => ?_)
        clear hK K
        refine norm_ (a' := ?_) ?_ ?_
        rotate_left
        · show Act.put _ (some 33) _ = _
          simp only [Act.put, List.setIfInBounds_toArray, List.set_cons_zero, List.set_cons_succ, i64_w, i32_w]
          rfl
        refine pure_ (i := 5) (N := some 34) (v := ?_) (a' := ?_) #[true, true, true, true, true, true, false, false] rfl rfl (by kernel_rfl) (fun _ _ _ h => h) (Or.inl ⟨by rfl, ?_⟩) ?_ ?_
        rotate_left
        · intro w'
          go_simp
          try with_reducible rfl
        rotate_left
        · simp only [Act.put, List.setIfInBounds_toArray, List.set_cons_zero, List.set_cons_succ, i64_w, i32_w]
          rfl
        refine one_ (i := 6) (N := some 7) #[true, true, true, true, true, true, true, false] rfl rfl (by kernel_rfl) (by decide) (fun K hK => ?_)
        refine box_step (by rfl) (N := 7) rfl (cs := zTb) (t := 43) (by go_simp) ?_
        intro g7 hg7 u2 hk7 hb
        have G7 := Aside0.mk (show w4.heap.size ≤ g7 by rw [hg7]; exact HBc.out.size)
        clear hg7
        have R30n := Aside0.mk (Kd.R_below R30.out hb)
        have R33n := Aside0.mk (Kd.R_below R33.out hb)
        have HBn := Aside0.mk (HBc.out.trans (hb.mono HBc.out.size))
        have K1n := Aside0.mk (blk_below K1c.out hb)
        have K7n := Aside0.mk hk7
        clear hb hk7 HBc K1c R30 R33
        have HBc := HBn
        have K1c := K1n
        have R30 := R30n
        have R33 := R33n
        have K7 := K7n
        clear HBn K1n R30n R33n K7n
        refine hK.out _ _ (three_cells K1c.out).2.1 (fun hHeld => ?_)
        clear hK K
        refine norm_ (a' := ?_) ?_ ?_
        rotate_left
        · show Act.put _ (some 7) _ = _
          simp only [Act.put, List.setIfInBounds_toArray, List.set_cons_zero, List.set_cons_succ, i64_w, i32_w]
          rfl
        obtain ⟨b0, b1, b2⟩ := three_cells K7.out
        obtain ⟨f0, f1, f2⟩ := three_frozen K7.out
        refine one_ (i := 7) (N := none) #[true, true, true, true, true, true, true, true] rfl rfl (by kernel_rfl) (by decide) (fun K hK => ?_)
        refine skip_ (w1 := ((u2.setCell ⟨g7, 0, none⟩ (.slice A30 xs.length c30)).setCell ⟨g7, 1, none⟩ (.slice A33 bins.length c33)).setCell ⟨g7, 2, none⟩ (.slice none 0 0)) (by rfl) rfl (by go_simp; try rfl) ?_
        obtain ⟨p1, p2, p3⟩ := put3 (.slice A30 xs.length c30) (.slice A33 bins.length c33) (.slice none 0 0) K7.out
        have hne : w.heap.size ≠ g7 := by have := blk_lt K14.out; have := G7.out; omega
        refine hK.out _ _ (three_cells ((p2 _ hne).trans K1c.out)).2.1 (fun hHeld => ?_)
        clear hK K
        refine done_ (by kernel_rfl) ?_
        go_wp2_with fail
        go_meet
        case rel => exact ⟨g7, A30, c30, A33, c33, rfl, ⟨p1⟩, ⟨R_put3 R30.out K7.out (by decide) p2⟩, ⟨R_put3 R33.out K7.out (by decide) p2⟩, G7, ⟨p3 _ HBc.out G7.out⟩⟩
      · skip
        refine box_step (by rfl) (N := 7) rfl (cs := zTb) (t := 43) (by go_simp) ?_
        intro g7 hg7 u1 hk7 hb
        have G7 := Aside0.mk (show w4.heap.size ≤ g7 by rw [hg7]; exact HBc.out.size)
        clear hg7
        have R30n := Aside0.mk (Kd.R_below R30.out hb)
        have HBn := Aside0.mk (HBc.out.trans (hb.mono HBc.out.size))
        have K1n := Aside0.mk (blk_below K1c.out hb)
        have K7n := Aside0.mk hk7
        clear hb hk7 HBc K1c R30
        have HBc := HBn
        have K1c := K1n
        have R30 := R30n
        have K7 := K7n
        clear HBn K1n R30n K7n
        refine hK.out _ _ (three_cells K1c.out).2.1 (fun hHeld => ?_)
        clear hK K
        refine norm_ (a' := ?_) ?_ ?_
        rotate_left
        · show Act.put _ (some 7) _ = _
          simp only [Act.put, List.setIfInBounds_toArray, List.set_cons_zero, List.set_cons_succ, i64_w, i32_w]
          rfl
        refine one_ (i := 4) (N := some 33) #[true, true, true, true, true, false, true, false] rfl rfl (by kernel_rfl) (by decide) (fun K hK => ?_)
        refine goes_ Try.func58 (by kernel_rfl) rfl #[.slice A1 bins.length c1] (by rfl) rfl rfl (by first | rfl | (simp [Act.eval, Operand.eval]; done) | kernel_rfl) ?_
        refine (clone_calls A1 c1 bins _ (Kd.C_below H.out.r1 (HB4.out.trans (HBc.out.mono HB4.out.size))) hlb).mono ?_
        rintro e u2 ⟨V33, rfl, hr, hb⟩
        obtain ⟨A33, c33, rfl⟩ := Kd.R_slice hr
        refine ⟨_, rfl, ?_⟩
        replace hr := Kd.R_lower hr HBc.out.size
        have R30n := Aside0.mk (Kd.R_below R30.out hb)
        have K7n := Aside0.mk (blk_below K7.out hb)
        have HBn := Aside0.mk (HBc.out.trans (hb.mono HBc.out.size))
        have K1n := Aside0.mk (blk_below K1c.out hb)
        have R33n := Aside0.mk hr
        clear hb hr HBc K1c R30 K7
        have HBc := HBn
        have K1c := K1n
        have R30 := R30n
        have R33 := R33n
        have K7 := K7n
        clear HBn K1n R30n R33n K7n
        refine hK.out _ _ (three_cells K1c.out).2.1 (fun hHeld => ?_)
        clear hK K
        refine norm_ (a' := ?_) ?_ ?_
        rotate_left
        · show Act.put _ (some 33) _ = _
          simp only [Act.put, List.setIfInBounds_toArray, List.set_cons_zero, List.set_cons_succ, i64_w, i32_w]
          rfl
        refine pure_ (i := 5) (N := some 34) (v := ?_) (a' := ?_) #[true, true, true, true, true, true, true, false] rfl rfl (by kernel_rfl) (fun _ _ _ h => h) (Or.inl ⟨by rfl, ?_⟩) ?_ ?_
        rotate_left
        · intro w'
          go_simp
          try with_reducible rfl
        rotate_left
        · simp only [Act.put, List.setIfInBounds_toArray, List.set_cons_zero, List.set_cons_succ, i64_w, i32_w]
          rfl
        obtain ⟨b0, b1, b2⟩ := three_cells K7.out
        obtain ⟨f0, f1, f2⟩ := three_frozen K7.out
        refine one_ (i := 7) (N := none) #[true, true, true, true, true, true, true, true] rfl rfl (by kernel_rfl) (by decide) (fun K hK => ?_)
        refine skip_ (w1 := ((u2.setCell ⟨g7, 0, none⟩ (.slice A30 xs.length c30)).setCell ⟨g7, 1, none⟩ (.slice A33 bins.length c33)).setCell ⟨g7, 2, none⟩ (.slice none 0 0)) (by rfl) rfl (by go_simp; try rfl) ?_
        obtain ⟨p1, p2, p3⟩ := put3 (.slice A30 xs.length c30) (.slice A33 bins.length c33) (.slice none 0 0) K7.out
        have hne : w.heap.size ≠ g7 := by have := blk_lt K14.out; have := G7.out; omega
        refine hK.out _ _ (three_cells ((p2 _ hne).trans K1c.out)).2.1 (fun hHeld => ?_)
        clear hK K
        refine done_ (by kernel_rfl) ?_
        go_wp2_with fail
        go_meet
        case rel => exact ⟨g7, A30, c30, A33, c33, rfl, ⟨p1⟩, ⟨R_put3 R30.out K7.out (by decide) p2⟩, ⟨R_put3 R33.out K7.out (by decide) p2⟩, G7, ⟨p3 _ HBc.out G7.out⟩⟩
    · skip
      refine box_step (by rfl) (N := 7) rfl (cs := zTb) (t := 43) (by go_simp) ?_
      intro g7 hg7 u0 hk7 hb
      have G7 := Aside0.mk (show w4.heap.size ≤ g7 by rw [hg7]; exact HBc.out.size)
      clear hg7
      have HBn := Aside0.mk (HBc.out.trans (hb.mono HBc.out.size))
      have K1n := Aside0.mk (blk_below K1c.out hb)
      have K7n := Aside0.mk hk7
      clear hb hk7 HBc K1c
      have HBc := HBn
      have K1c := K1n
      have K7 := K7n
      clear HBn K1n K7n
      refine hK.out _ _ (three_cells K1c.out).2.1 (fun hHeld => ?_)
      clear hK K
      refine norm_ (a' := ?_) ?_ ?_
      rotate_left
      · show Act.put _ (some 7) _ = _
        simp only [Act.put, List.setIfInBounds_toArray, List.set_cons_zero, List.set_cons_succ, i64_w, i32_w]
        rfl
      refine one_ (i := 1) (N := some 30) #[true, true, true, true, false, false, true, false] rfl rfl (by kernel_rfl) (by decide) (fun K hK => ?_)
      refine goes_ Try.func58 (by kernel_rfl) rfl #[.slice A3 xs.length c3] (by rfl) rfl rfl (by first | rfl | (simp [Act.eval, Operand.eval]; done) | kernel_rfl) ?_
      refine (clone_calls A3 c3 xs _ (Kd.C_below HR.out (HB4.out.trans (HBc.out.mono HB4.out.size))) hlx).mono ?_
      rintro e u1 ⟨V30, rfl, hr, hb⟩
      obtain ⟨A30, c30, rfl⟩ := Kd.R_slice hr
      refine ⟨_, rfl, ?_⟩
      replace hr := Kd.R_lower hr HBc.out.size
      have K7n := Aside0.mk (blk_below K7.out hb)
      have HBn := Aside0.mk (HBc.out.trans (hb.mono HBc.out.size))
      have K1n := Aside0.mk (blk_below K1c.out hb)
      have R30n := Aside0.mk hr
      clear hb hr HBc K1c K7
      have HBc := HBn
      have K1c := K1n
      have R30 := R30n
      have K7 := K7n
      clear HBn K1n R30n K7n
      refine hK.out _ _ (three_cells K1c.out).2.1 (fun hHeld => ?_)
      clear hK K
      refine norm_ (a' := ?_) ?_ ?_
      rotate_left
      · show Act.put _ (some 30) _ = _
        simp only [Act.put, List.setIfInBounds_toArray, List.set_cons_zero, List.set_cons_succ, i64_w, i32_w]
        rfl
      refine one_ (i := 4) (N := some 33) #[true, true, true, true, true, false, true, false] rfl rfl (by kernel_rfl) (by decide) (fun K hK => ?_)
      refine goes_ Try.func58 (by kernel_rfl) rfl #[.slice A1 bins.length c1] (by rfl) rfl rfl (by first | rfl | (simp [Act.eval, Operand.eval]; done) | kernel_rfl) ?_
      refine (clone_calls A1 c1 bins _ (Kd.C_below H.out.r1 (HB4.out.trans (HBc.out.mono HB4.out.size))) hlb).mono ?_
      rintro e u2 ⟨V33, rfl, hr, hb⟩
      obtain ⟨A33, c33, rfl⟩ := Kd.R_slice hr
      refine ⟨_, rfl, ?_⟩
      replace hr := Kd.R_lower hr HBc.out.size
      have R30n := Aside0.mk (Kd.R_below R30.out hb)
      have K7n := Aside0.mk (blk_below K7.out hb)
      have HBn := Aside0.mk (HBc.out.trans (hb.mono HBc.out.size))
      have K1n := Aside0.mk (blk_below K1c.out hb)
      have R33n := Aside0.mk hr
      clear hb hr HBc K1c R30 K7
      have HBc := HBn
      have K1c := K1n
      have R30 := R30n
      have R33 := R33n
      have K7 := K7n
      clear HBn K1n R30n R33n K7n
      refine hK.out _ _ (three_cells K1c.out).2.1 (fun hHeld => ?_)
      clear hK K
      refine norm_ (a' := ?_) ?_ ?_
      rotate_left
      · show Act.put _ (some 33) _ = _
        simp only [Act.put, List.setIfInBounds_toArray, List.set_cons_zero, List.set_cons_succ, i64_w, i32_w]
        rfl
      refine pure_ (i := 5) (N := some 34) (v := ?_) (a' := ?_) #[true, true, true, true, true, true, true, false] rfl rfl (by kernel_rfl) (fun _ _ _ h => h) (Or.inl ⟨by rfl, ?_⟩) ?_ ?_
      rotate_left
      · intro w'
        go_simp
        try with_reducible rfl
      rotate_left
      · simp only [Act.put, List.setIfInBounds_toArray, List.set_cons_zero, List.set_cons_succ, i64_w, i32_w]
        rfl
      obtain ⟨b0, b1, b2⟩ := three_cells K7.out
      obtain ⟨f0, f1, f2⟩ := three_frozen K7.out
      refine one_ (i := 7) (N := none) #[true, true, true, true, true, true, true, true] rfl rfl (by kernel_rfl) (by decide) (fun K hK => ?_)
      refine skip_ (w1 := ((u2.setCell ⟨g7, 0, none⟩ (.slice A30 xs.length c30)).setCell ⟨g7, 1, none⟩ (.slice A33 bins.length c33)).setCell ⟨g7, 2, none⟩ (.slice none 0 0)) (by rfl) rfl (by go_simp; try rfl) ?_
      obtain ⟨p1, p2, p3⟩ := put3 (.slice A30 xs.length c30) (.slice A33 bins.length c33) (.slice none 0 0) K7.out
      have hne : w.heap.size ≠ g7 := by have := blk_lt K14.out; have := G7.out; omega
      refine hK.out _ _ (three_cells ((p2 _ hne).trans K1c.out)).2.1 (fun hHeld => ?_)
      clear hK K
      refine done_ (by kernel_rfl) ?_
      go_wp2_with fail
      go_meet
      case rel => exact ⟨g7, A30, c30, A33, c33, rfl, ⟨p1⟩, ⟨R_put3 R30.out K7.out (by decide) p2⟩, ⟨R_put3 R33.out K7.out (by decide) p2⟩, G7, ⟨p3 _ HBc.out G7.out⟩⟩
  case rest =>
    obtain ⟨g7, A30, c30, A33, c33, rfl, K7, R30, R33, G7, HBc⟩ := hcut
    have HBW := Aside0.mk (HB4.out.trans (HBc.out.mono HB4.out.size))
    have HMc := Aside0.mk (HM.out.below HBc.out)
    have HML := Aside0.mk HM.out.lt
    have K1c := Aside0.mk (blk_below K14.out HBc.out)
    have K4c := Aside0.mk (blk_below K24.out HBc.out)
    have HL4 := Aside0.mk (blk_lt K24.out)
    obtain ⟨N, hN⟩ : ∃ N, N = wc.heap.size := ⟨_, rfl⟩
    have HJ := Aside0.mk (show J w4 wc N g7 A30 c30 A33 c33 xs bins (.slice none 0 0) [] from
      ⟨HBc.out, Nat.le_of_eq hN, K7.out, Kd.R_mono (Kd.R_bound R30.out) (fun k hk => by rw [hN]; exact hk.2.2.1), Kd.R_mono (Kd.R_bound R33.out) (fun k hk => by rw [hN]; exact hk.2.2.1), Kd.S_nil _ _ _ _ _⟩)
    have G7l := Aside0.mk (show g7 < N by rw [hN]; exact blk_lt K7.out)
    have HXI := Aside0.mk (Tq.ids_facts HI.out)
    have HND := Aside0.mk (Tq.ids_facts (tab_facts HT.out).1).2.2
    have h16 := (tab_facts HT.out).2.1
    have h256 := HXI.out.1
    obtain ⟨rows, hrows⟩ : ∃ r, r = cols.map (colT ids xs) := ⟨_, rfl⟩
    have HROWS := Aside0.mk hrows
    clear R30 R33 K7 hN K14 HBc hrows
    go_wp2_with fail
    go_loopg [37] xs.length (fun g v37 wx => ∃ i : Nat, i + g = xs.length ∧ v37 = .int .i64 (i : Int) ∧ Aside0 (∀ x ∈ xs.take i, x ∈ ids) ∧ wx = wc)
    case atStart => exact ⟨0, by omega, rfl, ⟨by simp⟩, rfl⟩
    case round =>
      obtain ⟨i, hig, rfl, HA, rfl⟩ := hrel
      cases gk with
      | succ g =>
        have hlt : (i : Int) < (xs.length : Int) := by omega
        obtain ⟨ad, rfl, hcx⟩ := Kd.at_int (Kd.C_below HR.out HBW.out) (i : Int) (by omega) hlt
        rw [Int.toNat_natCast] at hcx
        have hxi := HXI.out.2.1 _ (rd_mem xs i (by omega))
        have htk := take_snoc xs i (by omega)
        rw [← rd_get xs i (by omega)] at htk
        have hmx := rd_mem xs i (by omega)
        obtain ⟨x, hxe⟩ : ∃ x, x = rd xs (i : Int) := ⟨_, rfl⟩
        rw [← hxe] at hcx hxi htk hmx
        have HX := Aside0.mk (I64.mk (x := x) (by omega) (by omega))
        have HTK := Aside0.mk htk
        have HMX := Aside0.mk hmx
        clear hxe hxi htk hmx
        by_cases hm : x ∈ ids
        · have HG := Aside0.mk (plF_at HND.out hm)
          have HMI := Aside0.mk hm
          clear hm
          go_wp2_with (at_lookup; refine wp_look_ok law Try.underlying3 Try.underlying67 (zero3 _) HMc.out rfl (.tmp 42) (.tmp 43) rfl rfl x rfl HX.out ?_; rw [HG.out.1, HG.out.2])
          go_roundg g
          case measure => omega
          case rel =>
            refine ⟨i + 1, by omega, rfl, ⟨fun y hy => ?_⟩, rfl⟩
            rw [HTK.out, List.mem_append, List.mem_singleton] at hy
            rcases hy with h | rfl
            · exact HA.out y h
            · exact HMI.out
        · have HG := Aside0.mk (plF_none hm)
          have HMI := Aside0.mk hm
          obtain ⟨b0, b1, b2⟩ := three_cells K4c.out
          obtain ⟨f0, f1, f2⟩ := three_frozen K4c.out
          clear hm
          go_wp2_with (at_lookup; refine wp_look_ok law Try.underlying3 Try.underlying67 (zero3 _) HMc.out rfl (.tmp 42) (.tmp 43) rfl rfl x rfl HX.out ?_; rw [HG.out])
          refine bodyPost_ret (results_ct rfl _ _ (w.heap.size + 1) 43 zTb (0, 0) _ rfl (blk_put (cs := zTb) (blk_put (cs := zTb) (blk_put K4c.out 0 _ rfl) 1 _ rfl) 2 _ rfl) Try.underlying43 rfl (by kernel_rfl)) rfl ?_
          rw [show takeP ids bins cols xs = ([], [], [], 20) from if_neg (fun q => HMI.out (q.2.2 x HMX.out))]
          exact take_none _ _ (below_set (below_set (below_set HBW.out (by show w.heap.size ≤ w.heap.size + 1; omega)) (by show w.heap.size ≤ w.heap.size + 1; omega)) (by show w.heap.size ≤ w.heap.size + 1; omega))
      | zero =>
        have hlt : ¬ (i : Int) < (xs.length : Int) := by omega
        have HAll := Aside0.mk (show ∀ x ∈ xs, x ∈ ids by
          have := HA.out
          rw [List.take_of_length_le (by omega)] at this
          exact this)
        obtain ⟨a0, a1, a2⟩ := three_cells K1c.out
        go_wp2_with fail
        clear hlt HA hig a0 a1 a2
        go_loopg [54] cols.length (fun g v54 wx => ∃ (i : Nat) (vc : Value), i + g = cols.length ∧ v54 = .int .i64 (i : Int) ∧ Aside0 (J w4 wx N g7 A30 c30 A33 c33 xs bins vc (rows.take i)))
        case atStart => exact ⟨0, _, by omega, rfl, ⟨by rw [List.take_zero]; exact HJ.out⟩⟩
        case round =>
          clear HJ
          obtain ⟨i, vc, hig, rfl, HJ⟩ := hrel
          cases gk with
          | zero =>
            have hi : i = cols.length := by omega
            have HJ2 := Aside0.mk (show J w4 wr N g7 A30 c30 A33 c33 xs bins vc rows by
              have := HJ.out
              rw [List.take_of_length_le (by rw [HROWS.out, List.length_map]; omega)] at this
              exact this)
            have hlt : ¬ (i : Int) < (cols.length : Int) := by omega
            obtain ⟨Av, cv, rfl⟩ := Kd.S_slice HJ2.out.s
            have K4w := Aside0.mk (blk_below K24.out HJ2.out.b)
            obtain ⟨a0, a1, a2⟩ := three_cells HJ2.out.k7
            obtain ⟨b0, b1, b2⟩ := three_cells K4w.out
            obtain ⟨f0, f1, f2⟩ := three_frozen K4w.out
            clear HJ hi
            go_wp2_with fail
            obtain ⟨p1, p2, p3⟩ := put3 (.slice A30 xs.length c30) (.slice A33 bins.length c33) (.slice Av rows.length cv) K4w.out
            refine bodyPost_ret (results_ct rfl _ _ (w.heap.size + 1) 43 #[.slice A30 xs.length c30, .slice A33 bins.length c33, .slice Av rows.length cv] (0, 0) _ rfl p1 Try.underlying43 rfl (by kernel_rfl)) rfl ?_
            rw [show takeP ids bins cols xs = (xs, bins, rows, 0) by rw [HROWS.out]; exact if_pos ⟨HT.out, HI.out, HAll.out⟩]
            have q0 := Kd.R_reads' (R_put3 HJ2.out.r0 K4w.out (by decide) p2)
            have q1 := Kd.R_reads' (R_put3 HJ2.out.r1 K4w.out (by decide) p2)
            have q2 := Kd.R_reads' (R_put3 (Kd.S_R HJ2.out.s) K4w.out (by decide) p2)
            refine ⟨⟨A30, c30, A33, c33, Av, cv⟩, rfl, ⟨⟨q0.2.1, q1.2.1, q2.2.1, q0.2.2, q1.2.2, q2.2.2, hl, by show bins.length ≤ _; omega, ?_, fun c hc => ?_⟩, Kd.R_mono (Kd.R_lower (R_put3 HJ2.out.r0 K4w.out (by decide) p2) HB4.out.size) (fun _ _ => trivial), Kd.R_mono (Kd.R_lower (R_put3 HJ2.out.r1 K4w.out (by decide) p2) HB4.out.size) (fun _ _ => trivial), Kd.R_mono (Kd.R_lower (R_put3 (Kd.S_R HJ2.out.s) K4w.out (by decide) p2) HB4.out.size) (fun _ _ => trivial)⟩, p3 _ (HB4.out.trans (HJ2.out.b.mono HB4.out.size)) (by omega)⟩
            · show rows.length ≤ _
              rw [HROWS.out, List.length_map]
              omega
            · have hc' : c ∈ rows := hc
              rw [HROWS.out] at hc'
              obtain ⟨c', _, rfl⟩ := List.mem_map.1 hc'
              rw [colT_len]
              exact hl
          | succ g =>
            have hlt : (i : Int) < (cols.length : Int) := by omega
            obtain ⟨wz, hwz⟩ : ∃ W, W = wr := ⟨_, rfl⟩
            rw [← hwz] at HJ
            rw [← hwz]
            clear hwz wr
            have HBx := Aside0.mk (HB4.out.trans (HJ.out.b.mono HB4.out.size))
            obtain ⟨ac, Ac, cc, rfl, hcc, hcl, hcr⟩ := at_L1 (Kd.C_below H.out.r2 HBx.out) (i : Int) (by omega) hlt
            rw [Int.toNat_natCast] at hcc
            rw [rdL_getD] at hcc hcl hcr
            have hcn := col_len HT.out i (by omega)
            obtain ⟨col, hcol⟩ : ∃ col, col = cols.getD i [] := ⟨_, rfl⟩
            rw [← hcol] at hcc hcl hcr hcn
            have HCR := Aside0.mk hcr
            have HSN := Aside0.mk (show rows.take (i + 1) = rows.take i ++ [colT ids xs col] by
              have hlr : i < rows.length := by rw [HROWS.out, List.length_map]; omega
              rw [take_snoc rows i hlr]
              congr 2
              have := HROWS.out
              subst this
              rw [List.getElem_map, hcol, List.getD_eq_getElem?_getD, List.getElem?_eq_getElem (show i < cols.length by omega), Option.getD_some])
            clear hcr hcol
            go_wp2_with ((with_reducible refine gate_dst (N := 60) rfl ?_); refine Kd.R_make (Kd.int .i64) (w0 := wz) wz.heap.size 3 rfl (N := 60) rfl 31 _ _ rfl (xs.length : Int) rfl rfl Try.underlying31 (.int .i64 0) 8 info3 rfl (by decide) (by decide) 0 (ok := fun k => k = wz.heap.size) (okp := fun _ => False) rfl (fun _ h => h.elim) rfl (by omega) (by omega) (Below.refl _ _) (Nat.le_refl _) ?_; intro vt w6 hot hb6 hg6 hnew; have HOT := Aside0.mk hot; have HB6 := Aside0.mk hb6; have HNEW := Aside0.mk hnew; clear hot hb6 hg6 hnew)
            obtain ⟨gt, ct, hvt, HO6⟩ : ∃ gt ct, vt = .slice (some ⟨wz.heap.size, 0, none⟩) gt ct ∧ Aside0 ((Kd.int .i64).R 3 w6 wz.heap.size (fun k => k = wz.heap.size) (.slice (some ⟨wz.heap.size, 0, none⟩) gt ct) (upT (colT ids xs col) 0)) := by
              obtain ⟨At, ct, hv⟩ := Kd.R_slice HOT.out
              obtain ⟨bb, hbb, _⟩ := HNEW.out
              subst hv
              cases At with
              | none => simp [Value.ownBlock] at hbb
              | some at_ =>
                obtain ⟨gg, rfl⟩ := Kd.R_head HOT.out
                have hgg : gg = wz.heap.size := HOT.out.1 gg rfl
                subst hgg
                refine ⟨_, _, rfl, ⟨?_⟩⟩
                rw [upT_zero, colT_len]
                exact HOT.out
            subst hvt
            have HGT := Aside0.mk (show gt = xs.length by have := (Kd.R_reads' HO6.out).1; rw [upT_zero, List.length_replicate, colT_len] at this; exact this)
            obtain ⟨cl, hcl'⟩ : ∃ cl, cl = colT ids xs col := ⟨_, rfl⟩
            have HCL := Aside0.mk hcl'
            rw [← hcl'] at HO6 HSN
            clear hcl' HOT HNEW
            go_loopg [63] xs.length (fun g v63 wx => ∃ j : Nat, j + g = xs.length ∧ v63 = .int .i64 (j : Int) ∧ Aside0 (Below wz.heap.size wz wx) ∧ Aside0 ((Kd.int .i64).R 3 wx wz.heap.size (fun k => k = wz.heap.size) (.slice (some ⟨wz.heap.size, 0, none⟩) gt ct) (upT cl j)))
            case atStart => exact ⟨0, by omega, rfl, HB6, HO6⟩
            case round =>
              clear HB6 HO6
              obtain ⟨j, hjg, rfl, HBy, HO⟩ := hrel
              have HJy := Aside0.mk (HJ.out.below HBy.out)
              cases gk with
              | zero =>
                have hltj : ¬ (j : Int) < (xs.length : Int) := by omega
                have HE := Aside0.mk (show upT cl j = cl by
                  have h1 : j = cl.length := by rw [HCL.out, colT_len]; omega
                  rw [h1, upT_end])
                have HP := Aside0.mk (show (Kd.slice 3 (Kd.int .i64)).M wr w4.heap.size (fun k => k = wz.heap.size) cl [.slice (some ⟨wz.heap.size, 0, none⟩) gt ct] from
                  ⟨_, rfl, by have := HO.out; rw [HE.out] at this; exact Kd.R_lower this HJ.out.b.size⟩)
                have hown : ∀ k, vc.ownBlock = some k → N ≤ k ∧ k < wz.heap.size := fun k hk => ⟨(Kd.S_R HJ.out.s).1 k hk, ((Kd.S_R (Kd.S_bound HJ.out.s)).1 k hk).2.2.1⟩
                have HOKP := Aside0.mk (show ∀ k, k = wz.heap.size → N ≤ k ∧ some k ≠ vc.ownBlock from fun k hk => ⟨by rw [hk]; exact HJ.out.n, fun e => by have := (hown k e.symm).2; omega⟩)
                have HSO := Aside0.mk (Kd.S_mono (ok' := fun k => N ≤ k ∧ ¬ k = wz.heap.size) (Kd.S_below (Kd.S_bound HJ.out.s) HBy.out) (fun k hk => ⟨hk.1, fun e => by have := hk.2.2.1; omega⟩))
                have HN7 := Aside0.mk (show some g7 ≠ vc.ownBlock from fun e => by have := (hown g7 e.symm).1; have := G7l.out; omega)
                have hri : (rows.take i).length ≤ 16 := by rw [List.length_take, HROWS.out, List.length_map]; omega
                have HRI := Aside0.mk hri
                obtain ⟨a0, a1, a2⟩ := three_cells HJy.out.k7
                clear hown hri
                go_wp2_with (at_builtin; refine Kd.S_append (Kd.slice 3 (Kd.int .i64)) (w0 := w4) w4.heap.size rfl (.tmp 79) (.tmp 81) 36 31 (.slice none 0 0) 24 rfl Try.underlying36 info31 rfl (by decide) (by omega) vc (rows.take i) cl [.slice (some ⟨wz.heap.size, 0, none⟩) gt ct] (fun k => N ≤ k) (fun k => k = wz.heap.size) rfl rfl HP.out HOKP.out (fun k hk => Nat.le_trans HJy.out.n hk) HSO.out HJy.out.b HJy.out.b.size (by have := HRI.out; omega) ?_; intro v1 w8 hs8 hb8 hg8 _hn8; obtain ⟨A8, n8, c8, hv8⟩ : ∃ A n c, v1 = .slice A n c := (let ⟨A, c, h⟩ := Kd.S_slice hs8; ⟨A, _, c, h⟩); subst hv8; have HS8 := Aside0.mk hs8; have HB8 := Aside0.mk hb8; have HG8 := Aside0.mk hg8; have HK8 := Aside0.mk (blk_grown HJy.out.k7 hg8 HN7.out); clear hs8 hb8 hg8 _hn8; obtain ⟨d0, d1, d2⟩ := three_cells HK8.out; obtain ⟨e0, e1, e2⟩ := three_frozen HK8.out)
                go_roundg g
                case measure => omega
                case rel =>
                  refine ⟨i + 1, .slice A8 n8 c8, by omega, rfl, ⟨?_⟩⟩
                  rw [HSN.out]
                  exact J.more HJy.out G7l.out HS8.out HB8.out HG8.out G7.out
              | succ gi =>
                have hltj : (j : Int) < (xs.length : Int) := by omega
                have hBw := HBx.out.trans (HBy.out.mono HBx.out.size)
                obtain ⟨ad, rfl, hcx⟩ := Kd.at_int (Kd.C_below HR.out hBw) (j : Int) (by omega) hltj
                rw [Int.toNat_natCast] at hcx
                have hxi := HXI.out.2.1 _ (rd_mem xs j (by omega))
                have hmx := HAll.out _ (rd_mem xs j (by omega))
                have hjc : j < cl.length := by rw [HCL.out, colT_len]; omega
                have hst := upT_step cl j hjc
                have hat : cl[j] = rd col (plI ids (rd xs (j : Int))) := by
                  have := HCL.out
                  subst this
                  exact colT_at ids xs col j hjc
                rw [hat] at hst
                obtain ⟨x, hxe⟩ : ∃ x, x = rd xs (j : Int) := ⟨_, rfl⟩
                rw [← hxe] at hcx hxi hmx hst
                have HX := Aside0.mk (I64.mk (x := x) (by omega) (by omega))
                obtain ⟨q, hq, _, hpq⟩ := pl_at hmx
                have HG := Aside0.mk (plF_at HND.out hmx).1
                rw [hpq] at HG hst
                have hqc : (q : Int) < (col.length : Int) := by omega
                obtain ⟨aq, rfl, hcq⟩ := Kd.at_int (Kd.C_below HCR.out HBy.out) (q : Int) (by omega) hqc
                rw [Int.toNat_natCast] at hcq
                obtain ⟨y, hy⟩ : ∃ y, y = rd col (q : Int) := ⟨_, rfl⟩
                rw [← hy] at hcq hst
                have HST := Aside0.mk hst
                have hjgt : (j : Int) < (gt : Int) := by have := HGT.out; omega
                obtain ⟨ht1, ht2⟩ := Kd.R_celln 0 HO.out (j : Int) (by omega) hjgt
                rw [Int.toNat_natCast] at ht1 ht2
                have HMy := Aside0.mk (HM.out.low HJy.out.b HML.out)
                have HP := Aside0.mk (Kd.R_putn HO.out (j : Int) y)
                clear hxe hxi hmx hst hat hpq hBw hy hjc
                go_wp2_with (at_lookup; refine wp_look law Try.underlying3 Try.underlying67 (zero3 _) HMy.out rfl (.tmp 71) (.tmp 72) rfl rfl x rfl HX.out ?_; rw [HG.out])
                go_roundg gi
                case measure => omega
                case rel =>
                  refine ⟨j + 1, by omega, rfl, ⟨below_set HBy.out (Nat.le_refl _)⟩, ⟨?_⟩⟩
                  have := HP.out
                  rw [Int.toNat_natCast, HST.out] at this
                  exact this
theorem take_calls (A0 A1 A2 : Option Addr) (c0 c1 c2 : Nat) (ids bins : List Int) (cols : List (List Int)) (A3 : Option Addr) (c3 : Nat) (xs : List Int) (w : World) (h : IsTb w A0 A1 A2 c0 c1 c2 ids bins cols) (hr : Kd.C (Kd.int .i64) w A3 xs.length xs) (hl : xs.length ≤ 140737488351232) :
    Calls Try.prog 34 #[.agg (tbV A0 A1 A2 c0 c1 c2 ids bins cols), .slice A3 xs.length c3] w (TakePost w (takeP ids bins cols xs)) := by
  by_cases ht : tabB ids bins cols = true
  · by_cases hi : idsB xs = true
    · exact take_more A0 A1 A2 c0 c1 c2 ids bins cols A3 c3 xs w h hr hl ht hi
    · rw [show takeP ids bins cols xs = ([], [], [], 20) from if_neg (fun q => hi q.2.1)]
      exact take_no2 A0 A1 A2 c0 c1 c2 ids bins cols A3 c3 xs w h hr hl ht (Bool.eq_false_iff.2 hi)
  · rw [show takeP ids bins cols xs = ([], [], [], 20) from if_neg (fun q => ht q.1)]
    exact take_no1 A0 A1 A2 c0 c1 c2 ids bins cols A3 c3 xs w h hr hl (Bool.eq_false_iff.2 ht)
end Go.Proofs.Ytdlkcohfgfnkbaa.Tm
