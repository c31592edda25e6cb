/- dataset.Join: the walk. -/
import Derived.Test.YtdlkcohfgfnkbaaJm
import Derived.Test.YtdlkcohfgfnkbaaCl
import Derived.Test.YtdlkcohfgfnkbaaOt
namespace Go.Proofs.Ytdlkcohfgfnkbaa.Jw
open Go.RowKit Go.Proofs.Ytdlkcohfgfnkbaa.PDatasetJoins Go.Proofs.Ytdlkcohfgfnkbaa.Tp Go.Proofs.Ytdlkcohfgfnkbaa.Tr Go.Proofs.Ytdlkcohfgfnkbaa.Jp Go.Proofs.Ytdlkcohfgfnkbaa.Jt Go.Proofs.Ytdlkcohfgfnkbaa.Ot Go.Proofs.YtdlkcohfgfnkbaaW.PrintWords Go.Proofs.YtdlkcohfgfnkbaaW.PrintLast Go.Proofs.YtdlkcohfgfnkbaaW.PrintMore
set_option linter.unusedSimpArgs false
set_option linter.unusedVariables false

abbrev zTb : Array Value := #[.slice none 0 0, .slice none 0 0, .slice none 0 0]
theorem three_frozen {W : World} {g t : Nat} {x y z : Value} (h : W.heap[g]? = some (.cells #[x, y, z] t (0, 0))) : W.frozen? ⟨g, 0, none⟩ = false ∧ W.frozen? ⟨g, 1, none⟩ = false ∧ W.frozen? ⟨g, 2, none⟩ = false := ⟨blk_frozen h 0, blk_frozen h 1, blk_frozen h 2⟩
def JoinPost (w : World) (r : List Int × List Int × List (List Int) × Int) (e : Ending) (w' : World) : Prop :=
  ∃ p : At, e = .returned (.tuple #[.agg (tbV p.A0 p.A1 p.A2 p.c0 p.c1 p.c2 r.1 r.2.1 r.2.2.1), .int .i64 r.2.2.2]) ∧ IsTb w' p.A0 p.A1 p.A2 p.c0 p.c1 p.c2 r.1 r.2.1 r.2.2.1 ∧ Below w.heap.size w w'
theorem join_none (w w' : World) (E : Int) (hb : Below w.heap.size w w') : JoinPost w ([], [], [], E) (.returned (.tuple #[.agg zTb, .int .i64 E])) w' :=
  ⟨⟨none, 0, none, 0, none, 0⟩, rfl, ⟨Nat.le_refl _, Nat.le_refl _, Nat.le_refl _, Kd.C_nil _ _, Kd.C_nil _ _, Kd.C_nil _ _, Nat.zero_le _, Nat.zero_le _, Nat.zero_le _, fun c hc => by cases hc⟩, hb⟩
theorem two_boxes (w : World) (v : Value) : ∃ W1, W1 = (w.alloc (.cells #[v] 51)).alloc (.cells zTb 43) ∧ Below w.heap.size w W1 ∧ W1.heap[w.heap.size]? = some (.cells #[v] 51 (0, 0)) ∧ W1.heap[w.heap.size + 1]? = some (.cells zTb 43 (0, 0)) := by
  refine ⟨_, rfl, below_alloc (below_alloc (Below.refl _ _) _) _, blk_alloc (blk_new w _) _, ?_⟩
  rw [← World.size_alloc w (.cells #[v] 51)]
  exact blk_new _ _
theorem put3 {W : World} {g : Nat} {x0 y0 z0 : Value} (x y z : Value) (h : W.heap[g]? = some (.cells #[x0, y0, z0] 43 (0, 0))) :
    (((W.setCell ⟨g, 0, none⟩ x).setCell ⟨g, 1, none⟩ y).setCell ⟨g, 2, none⟩ z).heap[g]? = some (.cells #[x, y, z] 43 (0, 0)) ∧ (∀ k, k ≠ g → (((W.setCell ⟨g, 0, none⟩ x).setCell ⟨g, 1, none⟩ y).setCell ⟨g, 2, none⟩ z).heap[k]? = W.heap[k]?) ∧
      ∀ (w0 : World), Below w0.heap.size w0 W → w0.heap.size ≤ g → Below w0.heap.size w0 (((W.setCell ⟨g, 0, none⟩ x).setCell ⟨g, 1, none⟩ y).setCell ⟨g, 2, none⟩ z) :=
  ⟨blk_put (cs' := #[x, y, z]) (blk_put (cs' := #[x, y, z0]) (blk_put (cs' := #[x, y0, z0]) h 0 x rfl) 1 y rfl) 2 z rfl,
    fun k hk => by rw [Below.heap_setCell _ _ _ k (by exact hk), Below.heap_setCell _ _ _ k (by exact hk), Below.heap_setCell _ _ _ k (by exact hk)],
    fun w0 hb hg => below_set (below_set (below_set hb hg) hg) hg⟩
theorem R_put3 {α : Type} {d : Kd α} {e base : Nat} {ok : Nat → Prop} {v : Value} {l : List α} {W W' : World} {g : Nat} {cs : Array Value} (h : d.R e W base ok v l) (hb : W.heap[g]? = some (.cells cs 43 (0, 0))) (ht : ∀ q, q ∈ e :: d.E → q ≠ 43) (hk : ∀ k, k ≠ g → W'.heap[k]? = W.heap[k]?) : d.R e W' base ok v l :=
  Kd.R_mono (Kd.R_move (Kd.R_types h hb ht) (fun k hk' => hk k hk'.2)) (fun k hk' => hk'.1)
/-- What stands while the tables are joined. -/
structure JJ (w2 W : World) (N g6 : Nat) (B0 : Option Addr) (d0 : Nat) (ids : List Int) (v1 v2 : Value) (bins : List Int) (cols : List (List Int)) : Prop where
  b : Below w2.heap.size w2 W
  n : N ≤ W.heap.size
  k6 : W.heap[g6]? = some (.cells #[.slice B0 ids.length d0, v1, v2] 43 (0, 0))
  r0 : (Kd.int .i64).R 3 W w2.heap.size (fun k => k < N) (.slice B0 ids.length d0) ids
  r1 : (Kd.int .i64).R 3 W w2.heap.size (fun k => N ≤ k) v1 bins
  s : (Kd.slice 3 (Kd.int .i64)).S 31 W w2.heap.size (fun k => N ≤ k ∧ some k ≠ v1.ownBlock) v2 cols
section
variable {w2 W W1 u u3 : World} {N g6 : Nat} {B0 : Option Addr} {d0 : Nat} {ids : List Int} {v1 v2 v' : Value} {bins bins' : List Int} {cols cols' : List (List Int)}
theorem JJ.below (h : JJ w2 W N g6 B0 d0 ids v1 v2 bins cols) (hb : Below W.heap.size W W1) : JJ w2 W1 N g6 B0 d0 ids v1 v2 bins cols :=
  ⟨h.b.trans (hb.mono h.b.size), Nat.le_trans h.n hb.size, blk_below h.k6 hb, Kd.R_below h.r0 hb, Kd.R_below h.r1 hb, Kd.S_below h.s hb⟩
theorem S_put {α : Type} {d : Kd α} {e base : Nat} {ok : Nat → Prop} {v : Value} {l : List α} {W : World} {g : Nat} {cs : Array Value} (h : d.S e W base ok v l) (hb : W.heap[g]? = some (.cells cs 43 (0, 0))) (ht : ∀ q, q ∈ e :: d.E → q ≠ 43) (j : Nat) (u : Value) : d.S e (W.setCell ⟨g, j, none⟩ u) base ok v l :=
  Kd.S_mono (Kd.S_far (p := ⟨g, j, none⟩) (Kd.S_types h hb ht) (fun _ hk => hk.2) u) (fun _ hk => hk.1)
theorem JJ.own1 (h : JJ w2 W N g6 B0 d0 ids v1 v2 bins cols) (k : Nat) (hk : v1.ownBlock = some k) : N ≤ k ∧ k < W.heap.size := ⟨h.r1.1 k hk, ((Kd.R_bound h.r1).1 k hk).2.2.1⟩
theorem JJ.own2 (h : JJ w2 W N g6 B0 d0 ids v1 v2 bins cols) (k : Nat) (hk : v2.ownBlock = some k) : N ≤ k ∧ some k ≠ v1.ownBlock ∧ k < W.heap.size :=
  ⟨((Kd.S_R h.s).1 k hk).1, ((Kd.S_R h.s).1 k hk).2, ((Kd.S_R (Kd.S_bound h.s)).1 k hk).2.2.1⟩
theorem JJ.ne1 (h : JJ w2 W N g6 B0 d0 ids v1 v2 bins cols) (hg : g6 < N) : some g6 ≠ v1.ownBlock := fun e => by have := (h.own1 g6 e.symm).1; omega
theorem JJ.ne2 (h : JJ w2 W N g6 B0 d0 ids v1 v2 bins cols) (hg : g6 < N) : some g6 ≠ v2.ownBlock := fun e => by have := (h.own2 g6 e.symm).1; omega
theorem JJ.addBins (h : JJ w2 W N g6 B0 d0 ids v1 v2 bins cols) (hg6 : g6 < N) (hr : (Kd.int .i64).R 3 W1 w2.heap.size (fun k => N ≤ k) v' bins') (hb : Below w2.heap.size w2 W1) (hg : W.grownBy W1 v1.ownBlock)
    (hat : v'.ownBlock = v1.ownBlock ∨ ∃ b, v'.ownBlock = some b ∧ W.heap.size ≤ b) (h4 : w2.heap.size ≤ g6) : JJ w2 (W1.setCell ⟨g6, 1, none⟩ v') N g6 B0 d0 ids v' v2 bins' cols := by
  have k6 := blk_grown h.k6 hg (h.ne1 hg6)
  refine ⟨below_set hb h4, by rw [World.size_setCell]; exact Nat.le_trans h.n hg.size, blk_put k6 1 v' rfl, Kd.R_set (Kd.R_grown h.r0 hg (fun k hk e => by have := (h.own1 k e.symm).1; omega)) k6 (by decide) 1 v', Kd.R_set hr k6 (by decide) 1 v', ?_⟩
  refine S_put (Kd.S_mono (Kd.S_grown (Kd.S_bound h.s) hg (fun k hk => hk.1.2)) (fun k hk => ⟨hk.1.1, ?_⟩)) k6 (by decide) 1 v'
  rcases hat with e | ⟨b, e, hle⟩
  · rw [e]; exact hk.1.2
  · rw [e]
    intro q
    have := hk.2.2.1
    cases q
    omega
theorem JJ.addCols (h : JJ w2 W N g6 B0 d0 ids v1 v2 bins cols) (hg6 : g6 < N) (hs : (Kd.slice 3 (Kd.int .i64)).S 31 W1 w2.heap.size (fun k => N ≤ k ∧ some k ≠ v1.ownBlock) v' cols') (hb : Below w2.heap.size w2 W1) (hg : W.grownBy W1 v2.ownBlock)
    (h4 : w2.heap.size ≤ g6) : JJ w2 (W1.setCell ⟨g6, 2, none⟩ v') N g6 B0 d0 ids v1 v' bins cols' := by
  have k6 := blk_grown h.k6 hg (h.ne2 hg6)
  refine ⟨below_set hb h4, by rw [World.size_setCell]; exact Nat.le_trans h.n hg.size, blk_put k6 2 v' rfl, Kd.R_set (Kd.R_grown h.r0 hg (fun k hk e => by have := (h.own2 k e.symm).1; omega)) k6 (by decide) 2 v', Kd.R_set ?_ k6 (by decide) 2 v', S_put hs k6 (by decide) 2 v'⟩
  exact Kd.R_reok rfl (Kd.R_grown (Kd.R_tight rfl h.r1) hg (fun k hk e => (h.own2 k e.symm).2.1 hk)) (fun k hk => (h.own1 k hk).1)
theorem JJ.push {A : Option Addr} {n c : Nat} {row : List Int} (h : JJ w2 u N g6 B0 d0 ids v1 v2 bins cols) (hb : Below u.heap.size u u3) (hr : (Kd.int .i64).R 3 u3 u.heap.size (fun _ => True) (.slice A n c) row) (hg6 : g6 < N) :
    (Kd.slice 3 (Kd.int .i64)).M u3 w2.heap.size (fun k => u.heap.size ≤ k) row [.slice A n c] ∧ (∀ k, u.heap.size ≤ k → (N ≤ k ∧ some k ≠ v1.ownBlock) ∧ some k ≠ v2.ownBlock) ∧ (∀ k, u3.heap.size ≤ k → N ≤ k ∧ some k ≠ v1.ownBlock) ∧
      (Kd.slice 3 (Kd.int .i64)).S 31 u3 w2.heap.size (fun k => (N ≤ k ∧ some k ≠ v1.ownBlock) ∧ ¬ u.heap.size ≤ k) v2 cols ∧ some g6 ≠ v2.ownBlock := by
  have h1 : ∀ k, u.heap.size ≤ k → some k ≠ v1.ownBlock := fun k hk e => by have := (h.own1 k e.symm).2; omega
  refine ⟨⟨_, rfl, Kd.R_lower (Kd.R_mono (Kd.R_bound hr) (fun k hk => hk.2.1)) h.b.size⟩, fun k hk => ⟨⟨Nat.le_trans h.n hk, h1 k hk⟩, fun e => by have := (h.own2 k e.symm).2.2; omega⟩, fun k hk => ⟨Nat.le_trans h.n (Nat.le_trans hb.size hk), h1 k (Nat.le_trans hb.size hk)⟩,
    Kd.S_mono (Kd.S_below (Kd.S_bound h.s) hb) (fun k hk => ⟨hk.1, fun q => by have := hk.2.2.1; omega⟩), h.ne2 hg6⟩
end
theorem many_ok {l : List S43} (h : manyT l = 0) : 0 < l.length ∧ l.length ≤ 16 ∧ ∀ x ∈ l, goodJ l x = true := by
  unfold manyT at h
  split at h
  · cases h
  · rename_i h1
    split at h
    · cases h
    · rename_i h2
      refine ⟨by omega, by omega, fun x hx => ?_⟩
      cases hgx : goodJ l x with
      | true => rfl
      | false => exact absurd (List.any_eq_true.2 ⟨x, hx, by rw [hgx]; rfl⟩) h2
theorem many_eq (l : List S43) : manyQ l (goodJ l) = manyT l := rfl
set_option maxRecDepth 100000 in
set_option maxHeartbeats 1000000 in
theorem join_no (A : Option Addr) (c : Nat) (l : List S43) (w : World) (hr : Kd.C k43 w A l.length l) (hl : l.length ≤ 140737488351232) (hz : ∀ x ∈ l, okT x) (h : manyT l ≠ 0) :
    Calls Try.prog 39 #[.slice A l.length c] w (JoinPost w ([], [], [], manyT l)) := by
  have HR := Aside0.mk hr
  have HZ := Aside0.mk hz
  obtain ⟨E, hE⟩ : ∃ E, E = manyT l := ⟨_, rfl⟩
  have hne : (E != 0) = true := by rw [bne_iff_ne, hE]; exact h
  have HE := Aside0.mk hE
  obtain ⟨W1, hW1, hB1, k1, k2⟩ := two_boxes w (.slice A l.length c)
  have HB1 := Aside0.mk hB1
  have K1 := Aside0.mk k1
  have K2 := Aside0.mk k2
  have hc1 := Tr.one_cell k1
  rw [hW1] at hc1
  clear hr hz h hE hB1 k1 k2
  go_enter Try.func39, Try.ntmps39
  go_wp2_with fail
  rw [← hW1]
  clear hc1 hW1
  refine (many_calls #[.pointer (some ⟨w.heap.size, 0, none⟩)] (goodJ l) A c l _ (Kd.C_below HR.out HB1.out) hl HZ.out (fun h0 => pred59 _ A c l _ (blk_alloc K1.out _) (Kd.C_alloc (Kd.C_below HR.out HB1.out) _) h0 HZ.out)).mono ?_
  rintro e w2 ⟨rfl, hb2⟩
  rw [many_eq, ← HE.out]
  have HB2 := Aside0.mk (HB1.out.trans (hb2.mono HB1.out.size))
  have K22 := Aside0.mk (blk_below K2.out hb2)
  clear hb2 HB1 K1 K2
  obtain ⟨a0, a1, a2⟩ := three_cells K22.out
  obtain ⟨f0, f1, f2⟩ := three_frozen K22.out
  go_wp2_with fail
  refine bodyPost_ret (results_ct rfl _ _ (w.heap.size + 1) 43 zTb (0, 0) _ rfl (blk_put (cs := zTb) (blk_put (cs := zTb) (blk_put K22.out 0 _ rfl) 1 _ rfl) 2 _ rfl) Try.underlying43 rfl (by kernel_rfl)) rfl ?_
  rw [← HE.out]
  exact join_none _ _ _ (below_set (below_set (below_set HB2.out (by show w.heap.size ≤ w.heap.size + 1; omega)) (by show w.heap.size ≤ w.heap.size + 1; omega)) (by show w.heap.size ≤ w.heap.size + 1; omega))
set_option maxRecDepth 100000 in
set_option maxHeartbeats 1000000 in
theorem join_yes (A : Option Addr) (c : Nat) (l : List S43) (w : World) (hr : Kd.C k43 w A l.length l) (hl : l.length ≤ 140737488351232) (hz : ∀ x ∈ l, okT x) (h : manyT l = 0) :
    Calls Try.prog 39 #[.slice A l.length c] w (JoinPost w ((rd_T43 l 0).f0, l.flatMap (·.f1), l.flatMap (·.f2), 0)) := by
  obtain ⟨h0, h16, hg⟩ := many_ok h
  have HR := Aside0.mk hr
  have HZ := Aside0.mk hz
  have HM := Aside0.mk h
  have HG := Aside0.mk hg
  obtain ⟨W1, hW1, hB1, k1, k2⟩ := two_boxes w (.slice A l.length c)
  have HB1 := Aside0.mk hB1
  have K1 := Aside0.mk k1
  have K2 := Aside0.mk k2
  have hc1 := Tr.one_cell k1
  rw [hW1] at hc1
  clear hr hz h hg hB1 k1 k2
  go_enter Try.func39, Try.ntmps39
  go_wp2_with fail
  rw [← hW1]
  clear hc1 hW1
  refine (many_calls #[.pointer (some ⟨w.heap.size, 0, none⟩)] (goodJ l) A c l _ (Kd.C_below HR.out HB1.out) hl HZ.out (fun h0 => pred59 _ A c l _ (blk_alloc K1.out _) (Kd.C_alloc (Kd.C_below HR.out HB1.out) _) h0 HZ.out)).mono ?_
  rintro e w2 ⟨rfl, hb2⟩
  rw [many_eq, HM.out]
  have HB2 := Aside0.mk (HB1.out.trans (hb2.mono HB1.out.size))
  have K12 := Aside0.mk (blk_below K1.out hb2)
  have K22 := Aside0.mk (blk_below K2.out hb2)
  clear hb2 HB1 K1 K2
  have hcl := Tr.one_cell K12.out
  obtain ⟨ad, A0, c0, A1, c1, A2, c2, rfl, hx0, hx1, hx2, l0, g0, l1, g1, l2, g2⟩ := at_T43 (Kd.C_below HR.out HB2.out) 0 (by omega) (by omega)
  rw [show ((0 : Int)).toNat = 0 from rfl, show 0 * 3 = 0 from rfl, Addr.add_zero'] at hx0
  have hlp : (0 : Int) < (l.length : Int) := by omega
  have hid := (idsF (tabF (good_all HG.out _ (rdT_mem l 0 h0)).1).1).1
  change (rd_T43 l 0).f0.length ≤ 256 at hid
  obtain ⟨ids, hids⟩ : ∃ ids, ids = (rd_T43 l 0).f0 := ⟨_, rfl⟩
  rw [← hids] at hx0 hid g0 l0
  have HIDS := Aside0.mk hids
  have HC0 := Aside0.mk g0
  clear hx1 hx2 l0 g0 l1 g1 l2 g2 hids
  go_wp2_with fail
  refine (Cl.clone_calls A0 c0 ids _ HC0.out (by omega)).mono ?_
  rintro e w3 ⟨V3, rfl, ho3, hb3⟩
  obtain ⟨B0, d0, rfl⟩ := Kd.R_slice ho3
  obtain ⟨W4, hW4⟩ : ∃ W, W = w3.alloc (.cells #[.slice B0 ids.length d0, .slice none 0 0, .slice none 0 0] 43) := ⟨_, rfl⟩
  obtain ⟨N, hN⟩ : ∃ N, N = W4.heap.size := ⟨_, rfl⟩
  have hb4 : Below w2.heap.size w2 W4 := by rw [hW4]; exact below_alloc hb3 _
  have k6 : W4.heap[w3.heap.size]? = some (.cells #[.slice B0 ids.length d0, .slice none 0 0, .slice none 0 0] 43 (0, 0)) := by rw [hW4]; exact blk_new _ _
  have G6 := Aside0.mk (show w3.heap.size < N by rw [hN]; exact blk_lt k6)
  have G6' := Aside0.mk hb3.size
  have HJ := Aside0.mk (show JJ w2 W4 N w3.heap.size B0 d0 ids (.slice none 0 0) (.slice none 0 0) [] [] from
    ⟨hb4, Nat.le_of_eq hN, k6, Kd.R_mono (Kd.R_bound (show (Kd.int .i64).R 3 W4 w2.heap.size (fun _ => True) (.slice B0 ids.length d0) ids by rw [hW4]; exact Kd.R_alloc ho3 _)) (fun k hk => by rw [hN]; exact hk.2.2.1), Kd.R_nil _ _ _ _ _, Kd.S_nil _ _ _ _ _⟩)
  have hcl4 := cell_low hcl hb4
  rw [hW4] at hcl4
  clear hcl hx0 ho3 hb3 hb4 k6 hN HC0
  go_wp2_with fail
  rw [← hW4]
  clear hcl4 hW4
  obtain ⟨g6, hg6⟩ : ∃ g, g = w3.heap.size := ⟨_, rfl⟩
  rw [← hg6] at G6 G6' HJ ⊢
  clear hg6
  have HF1 := Aside0.mk (few l (·.f1) (fun x hx => by have := tabF (good_all HG.out x hx).1; omega))
  have HF2 := Aside0.mk (few l (·.f2) (fun x hx => (tabF (good_all HG.out x hx).1).2.1))
  have HL1 := Aside0.mk (blk_lt K22.out)
  go_loopg [27] l.length (fun g v27 wx => ∃ (i : Nat) (v1 v2 : Value), i + g = l.length ∧ v27 = .int .i64 (i : Int) ∧ Aside0 (JJ w2 wx N g6 B0 d0 ids v1 v2 ((l.take i).flatMap (·.f1)) ((l.take i).flatMap (·.f2))))
  case atStart => exact ⟨0, _, _, by omega, rfl, HJ⟩
  case round =>
    clear HJ
    obtain ⟨i, v1, v2, hig, rfl, HJ⟩ := hrel
    cases gk with
    | zero =>
      have hi : i = l.length := by omega
      have hlt : ¬ (i : Int) < (l.length : Int) := by omega
      obtain ⟨bb, hbb⟩ : ∃ bb, bb = l.flatMap (·.f1) := ⟨_, rfl⟩
      obtain ⟨cc, hcc⟩ : ∃ cc, cc = l.flatMap (·.f2) := ⟨_, rfl⟩
      have HJ2 := Aside0.mk (show JJ w2 wr N g6 B0 d0 ids v1 v2 bb cc by
        have := HJ.out
        rw [hi, List.take_length] at this
        rw [hbb, hcc]
        exact this)
      have hq1 := HF1.out l.length (Nat.le_refl _)
      have hq2 := HF2.out l.length (Nat.le_refl _)
      rw [List.take_length] at hq1 hq2
      rw [← hbb] at hq1
      rw [← hcc] at hq2
      have HBB := Aside0.mk hbb
      have HCC := Aside0.mk hcc
      obtain ⟨Ab, cb, rfl⟩ := Kd.R_slice HJ2.out.r1
      obtain ⟨Av, cv, rfl⟩ := Kd.S_slice HJ2.out.s
      have K4w := Aside0.mk (blk_below K22.out HJ2.out.b)
      obtain ⟨a0, a1, a2⟩ := three_cells HJ2.out.k6
      obtain ⟨b0, b1, b2⟩ := three_cells K4w.out
      obtain ⟨f0, f1, f2⟩ := three_frozen K4w.out
      clear HJ hi hbb hcc
      go_wp2_with fail
      obtain ⟨p1, p2, p3⟩ := put3 (.slice B0 ids.length d0) (.slice Ab bb.length cb) (.slice Av cc.length cv) K4w.out
      refine bodyPost_ret (results_ct rfl _ _ (w.heap.size + 1) 43 #[.slice B0 ids.length d0, .slice Ab bb.length cb, .slice Av cc.length cv] (0, 0) _ rfl p1 Try.underlying43 rfl (by kernel_rfl)) rfl ?_
      rw [← HIDS.out, ← HBB.out, ← HCC.out]
      have q0 := Kd.R_reads' (R_put3 HJ2.out.r0 K4w.out (by decide) p2)
      have q1 := Kd.R_reads' (R_put3 HJ2.out.r1 K4w.out (by decide) p2)
      have q2 := Kd.R_reads' (R_put3 (Kd.S_R HJ2.out.s) K4w.out (by decide) p2)
      refine ⟨⟨B0, d0, Ab, cb, Av, cv⟩, rfl, ⟨q0.2.1, q1.2.1, q2.2.1, q0.2.2, q1.2.2, q2.2.2, by show ids.length ≤ _; omega, by show bb.length ≤ _; omega, by show cc.length ≤ _; omega, fun c hc => ?_⟩, p3 _ (HB2.out.trans (HJ2.out.b.mono HB2.out.size)) (by omega)⟩
      have hc' : c ∈ cc := hc
      rw [HCC.out] at hc'
      obtain ⟨x, hx, hcx⟩ := List.mem_flatMap.1 hc'
      exact (HZ.out x hx).2.2.2 c hcx
    | succ g =>
      have hlt : (i : Int) < (l.length : Int) := by omega
      obtain ⟨wz, hwz⟩ : ∃ W, W = wr := ⟨_, rfl⟩
      rw [← hwz] at HJ
      rw [← hwz]
      clear hwz wr
      have HBx := Aside0.mk (HB2.out.trans (HJ.out.b.mono HB2.out.size))
      obtain ⟨ad', X0, e0, X1, e1, X2, e2, hA, hx0, hx1, hx2, l0, g0, l1, g1, l2, g2⟩ := at_T43 HR.out (i : Int) (by omega) hlt
      obtain rfl : ad = ad' := Option.some.inj hA
      clear hA
      rw [Int.toNat_natCast] at hx0 hx1 hx2
      have hx0 := cell_low hx0 HBx.out
      have hx1 := cell_low hx1 HBx.out
      have hx2 := cell_low hx2 HBx.out
      have hmx := rdT_mem l i (by omega)
      have hT := (good_all HG.out _ hmx).1
      have hi256 := (idsF (tabF hT).1).1
      have hb16 := (tabF hT).2.1
      have hbl := (tabF hT).2.2.1
      have HSB := Aside0.mk (snocT l (·.f1) i (by omega))
      have HSC := Aside0.mk (snocT l (·.f2) i (by omega))
      obtain ⟨x, hxe⟩ : ∃ x, x = rd_T43 l (i : Int) := ⟨_, rfl⟩
      rw [← hxe] at hx0 hx1 hx2 l0 g0 l1 g1 l2 g2 hT hi256 hb16 hbl HSB HSC
      have HT := Aside0.mk hT
      have HC1 := Aside0.mk (Kd.C_below g1 HBx.out)
      have HC2 := Aside0.mk g2
      have hf1 := HF1.out i (by omega)
      have hf2 := HF2.out i (by omega)
      obtain ⟨bb, hbb⟩ : ∃ bb, bb = (l.take i).flatMap (·.f1) := ⟨_, rfl⟩
      obtain ⟨cc, hcc⟩ : ∃ cc, cc = (l.take i).flatMap (·.f2) := ⟨_, rfl⟩
      rw [← hbb] at HJ HSB hf1
      rw [← hcc] at HJ HSC hf2
      clear hxe hmx hT g0 g1 g2 hbb hcc
      have HJa := Aside0.mk (HJ.out.below (below_alloc (Below.refl _ _) (.cells #[.slice X0 x.f0.length e0, .slice X1 x.f1.length e1, .slice X2 x.f2.length e2] 43)))
      obtain ⟨a0, a1, a2⟩ := three_cells HJa.out.k6
      have HFR := Aside0.mk (show ∀ k, (wz.alloc (.cells #[.slice X0 x.f0.length e0, .slice X1 x.f1.length e1, .slice X2 x.f2.length e2] 43)).heap.size ≤ k → N ≤ k from fun k hk => Nat.le_trans HJa.out.n hk)
      have HRR := Aside0.mk (Kd.C_alloc HC1.out (.cells #[.slice X0 x.f0.length e0, .slice X1 x.f1.length e1, .slice X2 x.f2.length e2] 43))
      have HK8 := Aside0.mk (blk_new wz (.cells #[.slice X0 x.f0.length e0, .slice X1 x.f1.length e1, .slice X2 x.f2.length e2] 43))
      have HLB := Aside0.mk (show bb.length + x.f1.length ≤ 5864062014805 by omega)
      have HBL := Aside0.mk (And.intro hbl (And.intro hf1 hf2))
      clear hbl hf1 hf2
      have HN1 := Aside0.mk (show some wz.heap.size ≠ v1.ownBlock from fun e => by have := (HJ.out.own1 _ e.symm).2; omega)
      have HNG := Aside0.mk (show wz.heap.size ≠ g6 by have := HJ.out.n; have := G6.out; omega)
      go_wp2_with (at_builtin; refine Kd.R_append_rows (Kd.int .i64) (w0 := w2) w2.heap.size rfl (.tmp 32) (.tmp 34) 31 3 (.int .i64 0) 8 rfl Try.underlying31 info3 rfl (by decide) (by omega) v1 bb x.f1 _ _ _ (fun k => N ≤ k) (fun _ => False) rfl rfl HJa.out.r1 HRR.out (fun _ _ h => h) (fun _ h => h.elim) HFR.out HJa.out.b HJa.out.b.size (by have := HLB.out; omega) ?_; intro v5 w5 ho5 hb5 hg5 hat5; obtain ⟨A5, n5, c5, hv5⟩ : ∃ A n c, v5 = .slice A n c := (let ⟨A, c, h⟩ := Kd.R_slice ho5; ⟨A, _, c, h⟩); subst hv5; have HJ5 := Aside0.mk (HJa.out.addBins G6.out ho5 hb5 hg5 hat5 G6'.out); have HK5 := Aside0.mk (blk_grown HJa.out.k6 hg5 (HJa.out.ne1 G6.out)); have HK8' := Aside0.mk (blk_far (blk_grown HK8.out hg5 HN1.out) (p := ⟨g6, 1, none⟩) HNG.out (.slice A5 n5 c5)); clear ho5 hb5 hg5 hat5; obtain ⟨b0, b1, b2⟩ := three_cells HK5.out; obtain ⟨f0, f1, f2⟩ := three_frozen HK5.out; obtain ⟨d0_, d1_, d2_⟩ := three_cells HK8'.out)
      clear hx0 hx1 hx2 a0 a1 a2 HJa HRR HK8 HFR HC1
      clear b0 b1 b2 f0 f1 f2 d0_ d1_ d2_
      go_loopg [40] x.f2.length (fun g v40 wx => ∃ (j : Nat) (v2 : Value), j + g = x.f2.length ∧ v40 = .int .i64 (j : Int) ∧ Aside0 (JJ w2 wx N g6 B0 d0 ids (.slice A5 n5 c5) v2 (bb ++ x.f1) (cc ++ x.f2.take j)))
      case atStart => exact ⟨0, v2, by omega, rfl, ⟨by rw [List.take_zero, List.append_nil]; exact HJ5.out⟩⟩
      case round =>
        clear HJ5 HK5 HK8' HN1 HNG HJ
        obtain ⟨j, v2, hjg, rfl, HJ⟩ := hrel
        cases gk with
        | zero =>
          have hltj : ¬ (j : Int) < (x.f2.length : Int) := by omega
          have HE := Aside0.mk (show x.f2.take j = x.f2 from List.take_of_length_le (by omega))
          go_wp2_with fail
          go_roundg g
          case measure => omega
          case rel =>
            refine ⟨i + 1, .slice A5 n5 c5, v2, by omega, rfl, ⟨?_⟩⟩
            rw [HSB.out, HSC.out]
            have := HJ.out
            rw [HE.out] at this
            exact this
        | succ gi =>
          have hltj : (j : Int) < (x.f2.length : Int) := by omega
          have HBy := Aside0.mk (HB2.out.trans (HJ.out.b.mono HB2.out.size))
          obtain ⟨ac, Ac, ec, rfl, hcc, hcl, hcr⟩ := at_L1 HC2.out (j : Int) (by omega) hltj
          rw [Int.toNat_natCast] at hcc
          have hcc := cell_low hcc HBy.out
          rw [rdL_getD] at hcc hcl hcr
          have hrn := colF HT.out j (by omega)
          have HTK := Aside0.mk (show cc ++ x.f2.take (j + 1) = (cc ++ x.f2.take j) ++ [x.f2.getD j []] by
            rw [List.take_succ_eq_append_getElem (show j < x.f2.length by omega), List.append_assoc]
            congr 3
            rw [List.getD_eq_getElem?_getD, List.getElem?_eq_getElem (show j < x.f2.length by omega), Option.getD_some])
          obtain ⟨row, hrow⟩ : ∃ r, r = x.f2.getD j [] := ⟨_, rfl⟩
          rw [← hrow] at hcc hcl hcr hrn HTK
          have hrl : row.length ≤ 17592186044416 := by omega
          have HRI := Aside0.mk (show (cc ++ x.f2.take j).length ≤ 300 by
            have := HBL.out
            rw [List.length_append, List.length_take]
            omega)
          have HCR := Aside0.mk hcr
          obtain ⟨rows, hrows⟩ : ∃ r, r = cc ++ x.f2.take j := ⟨_, rfl⟩
          rw [← hrows] at HJ HRI HTK
          obtain ⟨v1, hv1⟩ : ∃ v, v = Value.slice A5 n5 c5 := ⟨_, rfl⟩
          rw [← hv1] at HJ
          have HV1 := Aside0.mk hv1
          clear hrow hcr hrows hrn hv1
          go_upto_region 13 with fail
          refine start_ (n := 8) (S := fun w' => w'.cell? ⟨g6, 2, none⟩ = some v2) (ds := [7]) #[false, false, false, false, false, false, false, false] (by kernel_rfl) rfl rfl (three_cells (blk_drew HJ.out.k6)).2.2 (fun hHeld => ?_)
          refine pure_ (i := 0) (N := some 44) (v := ?_) (a' := ?_) #[true, false, false, false, false, false, false, false] rfl rfl (by kernel_rfl) (fun _ _ _ h => h) (Or.inl ⟨by rfl, ?_⟩) ?_ ?_
          rotate_left
          · intro w'
            go_simp
            try with_reducible rfl
          rotate_left
          · simp only [Act.put, List.setIfInBounds_toArray, List.set_cons_zero, List.set_cons_succ, i64_w, i32_w]
            rfl
          refine take_ (i := 1) (N := some 45) (v := ?_) (a' := ?_) #[true, true, false, false, false, false, false, false] rfl rfl (by kernel_rfl) (fun _ _ _ h => h) (Or.inl ⟨by rfl, ?_⟩) hHeld ?_ ?_
          rotate_left
          · intro w' hSw
            go_simp
            try with_reducible rfl
          rotate_left
          · simp only [Act.put, List.setIfInBounds_toArray, List.set_cons_zero, List.set_cons_succ, i64_w, i32_w]
            rfl
          refine pure_ (i := 2) (N := some 46) (v := ?_) (a' := ?_) #[true, true, true, false, false, false, false, false] rfl rfl (by kernel_rfl) (fun _ _ _ h => h) (Or.inl ⟨by rfl, ?_⟩) ?_ ?_
          rotate_left
          · intro w'
            go_simp
            try with_reducible rfl
          rotate_left
          · simp only [Act.put, List.setIfInBounds_toArray, List.set_cons_zero, List.set_cons_succ, i64_w, i32_w]
            rfl
          refine one_ (i := 3) (N := some 47) #[true, true, true, true, false, false, false, false] rfl rfl (by kernel_rfl) (by decide) (fun K hK => ?_)
          have HJ0 := Aside0.mk (HJ.out.below (below_drew (Below.refl _ _)))
          generalize wr.drew = u at HJ0 hHeld ⊢
          refine goes_ Try.func58 (by kernel_rfl) rfl #[.slice Ac row.length ec] (by rfl) rfl rfl (by first | rfl | (simp [Act.eval, Operand.eval]; done) | kernel_rfl) ?_
          refine (Cl.clone_calls Ac ec row _ (Kd.C_below HCR.out (HB2.out.trans (HJ0.out.b.mono HB2.out.size))) hrl).mono ?_
          rintro e u3 ⟨V3, rfl, ho3, hb3⟩
          obtain ⟨Ar, cr, rfl⟩ := Kd.R_slice ho3
          refine ⟨_, rfl, ?_⟩
          have HJ3 := Aside0.mk (HJ0.out.below hb3)
          obtain ⟨hp, hokp, hfr, hso, hn6⟩ := HJ0.out.push hb3 ho3 G6.out
          have HP := Aside0.mk hp
          have HOKP := Aside0.mk hokp
          have HFR := Aside0.mk hfr
          have HSO := Aside0.mk hso
          have HN6 := Aside0.mk hn6
          clear hp hokp hfr hso hn6 ho3
          clear hb3
          refine hK.out _ _ ((three_cells HJ3.out.k6).2.2) (fun hHeld => ?_)
          clear hK K
          refine norm_ (a' := ?_) ?_ ?_
          rotate_left
          · show Act.put _ (some 47) _ = _
            simp only [Act.put, List.setIfInBounds_toArray, List.set_cons_zero, List.set_cons_succ, i64_w, i32_w]
            rfl
          refine one_ (i := 4) (N := some 48) #[true, true, true, true, true, false, false, false] rfl rfl (by kernel_rfl) (by decide) (fun K hK => ?_)
          refine value_ (w1 := u3.alloc (.cells #[.slice Ar row.length cr] 31)) (v := .slice (some ⟨u3.heap.size, 0, none⟩) 1 1) (by rfl) rfl (by go_simp) ?_
          refine hK.out _ _ ((three_cells (blk_alloc HJ3.out.k6 _)).2.2) (fun hHeld => ?_)
          clear hK K
          refine norm_ (a' := ?_) ?_ ?_
          rotate_left
          · show Act.put _ (some 48) _ = _
            simp only [Act.put, List.setIfInBounds_toArray, List.set_cons_zero, List.set_cons_succ, i64_w, i32_w]
            rfl
          refine one_ (i := 5) (N := some 49) #[true, true, true, true, true, true, false, false] rfl rfl (by kernel_rfl) (by decide) (fun K hK => ?_)
          refine Kd.S_append_step (Kd.slice 3 (Kd.int .i64)) (w0 := w2) w2.heap.size (by rfl) (.tmp 45) (.tmp 48) 36 31 (.slice none 0 0) 24 rfl Try.underlying36 info31 rfl (by decide) (by omega) v2 rows row [.slice Ar row.length cr] (fun k => N ≤ k ∧ some k ≠ v1.ownBlock) (fun k => u.heap.size ≤ k) rfl rfl HP.out HOKP.out HFR.out HSO.out HJ3.out.b HJ3.out.b.size (by have := HRI.out; omega) ?_
          intro v3 w8 hs8 hb8 hg8 _hn8
          obtain ⟨A8, n8, c8, hv8⟩ : ∃ A n c, v3 = .slice A n c := (let ⟨A, c, h⟩ := Kd.S_slice hs8; ⟨A, _, c, h⟩)
          subst hv8
          have HS8 := Aside0.mk hs8
          have HB8 := Aside0.mk hb8
          have HG8 := Aside0.mk hg8
          have HK8 := Aside0.mk (blk_grown HJ3.out.k6 hg8 HN6.out)
          clear hs8 hb8 hg8 _hn8
          refine hK.out _ _ ((three_cells HK8.out).2.2) (fun hHeld => ?_)
          clear hK K
          refine norm_ (a' := ?_) ?_ ?_
          rotate_left
          · show Act.put _ (some 49) _ = _
            simp only [Act.put, List.setIfInBounds_toArray, List.set_cons_zero, List.set_cons_succ, i64_w, i32_w]
            rfl
          refine pure_ (i := 6) (N := some 50) (v := ?_) (a' := ?_) #[true, true, true, true, true, true, true, false] rfl rfl (by kernel_rfl) (fun _ _ _ h => h) (Or.inl ⟨by rfl, ?_⟩) ?_ ?_
          rotate_left
          · intro w'
            go_simp
            try with_reducible rfl
          rotate_left
          · simp only [Act.put, List.setIfInBounds_toArray, List.set_cons_zero, List.set_cons_succ, i64_w, i32_w]
            rfl
          refine last_ (i := 7) (N := none) #[true, true, true, true, true, true, true, true] rfl rfl (by kernel_rfl) (by decide) (fun K hK => ?_)
          obtain ⟨d0_, d1_, d2_⟩ := three_cells HK8.out
          obtain ⟨e0_, e1_, e2_⟩ := three_frozen HK8.out
          refine skip_ (w1 := w8.setCell ⟨g6, 2, none⟩ (.slice A8 n8 c8)) (by rfl) rfl (by go_simp) ?_
          refine hK.out _ _ ?_
          clear hK K
          refine done_ (by kernel_rfl) ?_
          have HJ9 := Aside0.mk (HJ3.out.addCols G6.out HS8.out HB8.out HG8.out G6'.out)
          go_wp2_with fail
          go_roundg gi
          case measure => omega
          case rel =>
            refine ⟨j + 1, .slice A8 n8 c8, by omega, rfl, ⟨?_⟩⟩
            rw [HTK.out, ← HV1.out]
            exact HJ9.out
theorem join_calls (A : Option Addr) (c : Nat) (l : List S43) (w : World) (hr : Kd.C k43 w A l.length l) (hl : l.length ≤ 140737488351232) (hz : ∀ x ∈ l, okT x) :
    Calls Try.prog 39 #[.slice A l.length c] w (JoinPost w (joinP l)) := by
  unfold joinP
  by_cases h : manyT l = 0
  · rw [if_pos h]; exact join_yes A c l w hr hl hz h
  · rw [if_neg h]; exact join_no A c l w hr hl hz h
end Go.Proofs.Ytdlkcohfgfnkbaa.Jw
