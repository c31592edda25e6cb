/- dataset.Left: the walk. -/
import Derived.Test.YtdlkcohfgfnkbaaLq
import Derived.Test.YtdlkcohfgfnkbaaBo
import Derived.Test.YtdlkcohfgfnkbaaTs
import Derived.Test.YtdlkcohfgfnkbaaAm
namespace Go.Proofs.Ytdlkcohfgfnkbaa.Lw
open Go.RowKit Go.Proofs.Ytdlkcohfgfnkbaa.PDatasetJoins Go.Proofs.Ytdlkcohfgfnkbaa.DFns Go.Proofs.Ytdlkcohfgfnkbaa.Tp Go.Proofs.Ytdlkcohfgfnkbaa.Lp Go.Proofs.Ytdlkcohfgfnkbaa.Tr Go.Proofs.YtdlkcohfgfnkbaaW.PrintWords Go.Proofs.YtdlkcohfgfnkbaaW.PrintLast Go.Proofs.YtdlkcohfgfnkbaaW.PrintMore
set_option linter.unusedSimpArgs false
set_option linter.unusedVariables false

abbrev zBt : Array Value := #[.int .i64 0, .slice none 0 0]
theorem two_boxes (w : World) (cs : Array Value) : ∃ W1, W1 = (w.alloc (.cells cs 43)).alloc (.cells zBt 24) ∧ Below w.heap.size w W1 ∧ W1.heap[w.heap.size]? = some (.cells cs 43 (0, 0)) ∧ W1.heap[w.heap.size + 1]? = some (.cells zBt 24 (0, 0)) := by
  refine ⟨_, rfl, below_alloc (below_alloc (Below.refl _ _) _) _, blk_alloc (blk_new w _) _, ?_⟩
  rw [← World.size_alloc w (.cells cs 43)]
  exact blk_new _ _
def LeftPost (w : World) (r : Int × List Int × Int) (e : Ending) (w' : World) : Prop :=
  ∃ v, e = .returned (.tuple #[.agg #[.int .i64 r.1, v], .int .i64 r.2.2]) ∧ (Kd.int .u64).R 30 w' w.heap.size (fun _ => True) v r.2.1 ∧ Below w.heap.size w w'
theorem left_none (w w' : World) (E : Int) (hb : Below w.heap.size w w') : LeftPost w (0, [], E) (.returned (.tuple #[.agg zBt, .int .i64 E])) w' := ⟨_, rfl, Kd.R_nil _ _ _ _ _, hb⟩
set_option maxRecDepth 100000 in
set_option maxHeartbeats 1000000 in
theorem left_no (A0 A1 A2 : Option Addr) (c0 c1 c2 : Nat) (ids bins : List Int) (cols : List (List Int)) (m cut : Int) (w : World) (h : IsTb w A0 A1 A2 c0 c1 c2 ids bins cols) (ht : tabB ids bins cols = false) :
    Calls Try.prog 37 #[.agg (tbV A0 A1 A2 c0 c1 c2 ids bins cols), .int .i64 m, .int .i64 cut] w (LeftPost w (0, [], 20)) := by
  have H := Aside0.mk h
  have HT := Aside0.mk ht
  obtain ⟨W1, hW1, hB1, k1, k2⟩ := two_boxes w (tbV A0 A1 A2 c0 c1 c2 ids bins cols)
  have HB1 := Aside0.mk hB1
  have K2 := Aside0.mk k2
  obtain ⟨a0, a1, a2⟩ := three_cells k1
  clear h ht hB1 k1 k2
  go_enter Try.func37, Try.ntmps37
  go_wp2_with fail
  rw [← hW1]
  clear hW1
  refine (right_calls A0 A1 A2 c0 c1 c2 ids bins cols _ (H.out.below HB1.out)).mono ?_
  rintro e w2 ⟨rfl, hb2⟩
  have HB2 := Aside0.mk (HB1.out.trans (hb2.mono HB1.out.size))
  have K2' := Aside0.mk (blk_below K2.out hb2)
  clear hb2 HB1 K2 a0 a1 a2
  rw [HT.out]
  obtain ⟨b0, b1⟩ := Bo.two_cells K2'.out
  obtain ⟨f0, f1⟩ := Bo.two_frozen K2'.out
  go_wp2_with fail
  refine bodyPost_ret (results_ct rfl _ _ (w.heap.size + 1) 24 zBt (0, 0) _ rfl (blk_put (cs := zBt) (blk_put K2'.out 0 _ rfl) 1 _ rfl) Try.underlying24 rfl (by kernel_rfl)) rfl ?_
  exact left_none _ _ _ (below_set (below_set HB2.out (by show w.heap.size ≤ w.heap.size + 1; omega)) (by show w.heap.size ≤ w.heap.size + 1; omega))
set_option maxRecDepth 100000 in
set_option maxHeartbeats 2000000 in
theorem left_wrong (A0 A1 A2 : Option Addr) (c0 c1 c2 : Nat) (ids bins : List Int) (cols : List (List Int)) (m cut : Int) (w : World) (h : IsTb w A0 A1 A2 c0 c1 c2 ids bins cols) (ht : tabB ids bins cols = true) (hw : wrongB bins cols m cut) :
    Calls Try.prog 37 #[.agg (tbV A0 A1 A2 c0 c1 c2 ids bins cols), .int .i64 m, .int .i64 cut] w (LeftPost w (0, [], 1)) := by
  have H := Aside0.mk h
  have HT := Aside0.mk ht
  have HWR := Aside0.mk hw
  obtain ⟨W1, hW1, hB1, k1, k2⟩ := two_boxes w (tbV A0 A1 A2 c0 c1 c2 ids bins cols)
  have HB1 := Aside0.mk hB1
  have K1 := Aside0.mk k1
  have K2 := Aside0.mk k2
  obtain ⟨a0, a1, a2⟩ := three_cells k1
  clear h ht hw hB1 k1 k2
  go_enter Try.func37, Try.ntmps37
  go_wp2_with fail
  rw [← hW1]
  clear hW1
  refine (right_calls A0 A1 A2 c0 c1 c2 ids bins cols _ (H.out.below HB1.out)).mono ?_
  rintro e w2 ⟨rfl, hb2⟩
  have HB2 := Aside0.mk (HB1.out.trans (hb2.mono HB1.out.size))
  have K1' := Aside0.mk (blk_below K1.out hb2)
  have K2' := Aside0.mk (blk_below K2.out hb2)
  clear hb2 HB1 K1 K2 a0 a1 a2
  rw [HT.out]
  obtain ⟨a0, a1, a2⟩ := three_cells K1'.out
  obtain ⟨b0, b1⟩ := Bo.two_cells K2'.out
  obtain ⟨f0, f1⟩ := Bo.two_frozen K2'.out
  have fin : LeftPost w (0, [], 1) (.returned (.tuple #[.agg zBt, .int .i64 1])) ((w2.setCell ⟨w.heap.size + 1, 0, none⟩ (.int .i64 0)).setCell ⟨w.heap.size + 1, 1, none⟩ (.slice none 0 0)) :=
    left_none _ _ _ (below_set (below_set HB2.out (by show w.heap.size ≤ w.heap.size + 1; omega)) (by show w.heap.size ≤ w.heap.size + 1; omega))
  have FIN := Aside0.mk fin
  clear fin
  by_cases h1 : m < 0
  · go_wp2_with fail
    refine bodyPost_ret (results_ct rfl _ _ (w.heap.size + 1) 24 zBt (0, 0) _ rfl (blk_put (cs := zBt) (blk_put K2'.out 0 _ rfl) 1 _ rfl) Try.underlying24 rfl (by kernel_rfl)) rfl ?_
    exact FIN.out
  · by_cases h2 : m ≥ (cols.length : Int)
    · go_wp2_with fail
      refine bodyPost_ret (results_ct rfl _ _ (w.heap.size + 1) 24 zBt (0, 0) _ rfl (blk_put (cs := zBt) (blk_put K2'.out 0 _ rfl) 1 _ rfl) Try.underlying24 rfl (by kernel_rfl)) rfl ?_
      exact FIN.out
    · by_cases h3 : cut < 0
      · go_wp2_with fail
        refine bodyPost_ret (results_ct rfl _ _ (w.heap.size + 1) 24 zBt (0, 0) _ rfl (blk_put (cs := zBt) (blk_put K2'.out 0 _ rfl) 1 _ rfl) Try.underlying24 rfl (by kernel_rfl)) rfl ?_
        exact FIN.out
      · have h4 : rd bins m ≤ cut := by
          rcases HWR.out with h | h | h | h
          · exact absurd h h1
          · exact absurd h h2
          · exact absurd h h3
          · exact h
        obtain ⟨n, rfl⟩ := Int.eq_ofNat_of_zero_le (show 0 ≤ m by omega)
        have hbl := (tabF HT.out).2.2.1
        have hnb : (n : Int) < (bins.length : Int) := by omega
        obtain ⟨ad, rfl, hcb⟩ := Kd.at_int (Kd.C_below H.out.r1 HB2.out) (n : Int) (by omega) hnb
        rw [Int.toNat_natCast] at hcb
        obtain ⟨y, hy⟩ : ∃ y, y = rd bins (n : Int) := ⟨_, rfl⟩
        rw [← hy] at hcb h4
        clear hy
        go_wp2_with fail
        refine bodyPost_ret (results_ct rfl _ _ (w.heap.size + 1) 24 zBt (0, 0) _ rfl (blk_put (cs := zBt) (blk_put K2'.out 0 _ rfl) 1 _ rfl) Try.underlying24 rfl (by kernel_rfl)) rfl ?_
        exact FIN.out
theorem R_put2 {w : World} {base g : Nat} {v : Value} {xs : List Int} {p q : Value} (h : (Kd.int .u64).R 30 w base (fun _ => True) v xs) (hb : w.heap[g]? = some (.cells #[p, q] 24 (0, 0))) (x y : Value) : (Kd.int .u64).R 30 ((w.setCell ⟨g, 0, none⟩ x).setCell ⟨g, 1, none⟩ y) base (fun _ => True) v xs :=
  Kd.R_set (Kd.R_set h hb (fun q hq => by simp [Kd.int, Kd.scalar] at hq; subst hq; decide) 0 x) (blk_set hb 0 x) (fun q hq => by simp [Kd.int, Kd.scalar] at hq; subst hq; decide) 1 y
set_option maxRecDepth 100000 in
set_option maxHeartbeats 2000000 in
theorem left_yes (A0 A1 A2 : Option Addr) (c0 c1 c2 : Nat) (ids bins : List Int) (cols : List (List Int)) (m cut : Int) (w : World) (h : IsTb w A0 A1 A2 c0 c1 c2 ids bins cols) (ht : tabB ids bins cols = true) (hw : ¬ wrongB bins cols m cut) :
    Calls Try.prog 37 #[.agg (tbV A0 A1 A2 c0 c1 c2 ids bins cols), .int .i64 m, .int .i64 cut] w (LeftPost w (Bp.ofS (ids.length : Int) (leL (rd_L1 cols m) cut ids.length))) := by
  have H := Aside0.mk h
  have HT := Aside0.mk ht
  obtain ⟨hm0, hm1, hc0, hc1⟩ : 0 ≤ m ∧ m < (cols.length : Int) ∧ 0 ≤ cut ∧ cut < rd bins m := ⟨Int.not_lt.1 (fun q => hw (Or.inl q)), Int.not_le.1 (fun q => hw (Or.inr (Or.inl q))), Int.not_lt.1 (fun q => hw (Or.inr (Or.inr (Or.inl q)))), Int.not_le.1 (fun q => hw (Or.inr (Or.inr (Or.inr q))))⟩
  obtain ⟨n, rfl⟩ := Int.eq_ofNat_of_zero_le hm0
  obtain ⟨W1, hW1, hB1, k1, k2⟩ := two_boxes w (tbV A0 A1 A2 c0 c1 c2 ids bins cols)
  have HB1 := Aside0.mk hB1
  have K1 := Aside0.mk k1
  have K2 := Aside0.mk k2
  obtain ⟨a0, a1, a2⟩ := three_cells k1
  clear h ht hw hB1 k1 k2 hm0
  go_enter Try.func37, Try.ntmps37
  go_wp2_with fail
  rw [← hW1]
  clear hW1
  refine (right_calls A0 A1 A2 c0 c1 c2 ids bins cols _ (H.out.below HB1.out)).mono ?_
  rintro e w2 ⟨rfl, hb2⟩
  have HB2 := Aside0.mk (HB1.out.trans (hb2.mono HB1.out.size))
  have K12 := Aside0.mk (blk_below K1.out hb2)
  have K22 := Aside0.mk (blk_below K2.out hb2)
  clear hb2 HB1 K1 K2 a0 a1 a2
  rw [HT.out]
  obtain ⟨a0, a1, a2⟩ := three_cells K12.out
  have hbl := (tabF HT.out).2.2.1
  have hnb : (n : Int) < (bins.length : Int) := by omega
  have hln := colF HT.out n (by omega)
  have h256 := (idsF (tabF HT.out).1).1
  obtain ⟨ad, rfl, hcb⟩ := Kd.at_int (Kd.C_below H.out.r1 HB2.out) (n : Int) (by omega) hnb
  rw [Int.toNat_natCast] at hcb
  obtain ⟨y, hy⟩ : ∃ y, y = rd bins (n : Int) := ⟨_, rfl⟩
  rw [← hy] at hcb hc1
  obtain ⟨ac, Ac, cc, rfl, hcc, hcl, hcr⟩ := at_L1 (Kd.C_below H.out.r2 HB2.out) (n : Int) (by omega) hm1
  rw [Int.toNat_natCast] at hcc
  rw [rdL_getD] at hcc hcl hcr
  obtain ⟨col, hcol⟩ : ∃ col, col = cols.getD n [] := ⟨_, rfl⟩
  rw [← hcol] at hcc hcl hcr hln
  have HCR := Aside0.mk hcr
  have HCOL := Aside0.mk (show rd_L1 cols (n : Int) = col by rw [hcol]; exact rdL_getD cols n)
  clear hy hcr hcol
  have hd1 : decide ((n : Int) < 0) = false := decide_eq_false (by omega)
  have hd2 : decide (cols.length ≤ n) = false := decide_eq_false (by omega)
  have hd3 : decide (cut < 0) = false := decide_eq_false (by omega)
  have hd4 : decide (y ≤ cut) = false := decide_eq_false (by omega)
  go_wp2_with fail
  clear hd1 hd2 hd3 hd4
  clear a0 a1 a2 hcc hcb
  have HS2 := Aside0.mk (Nat.lt_of_lt_of_le (blk_lt K22.out) (Nat.le_refl _))
  go_loopg [8, 46] col.length (fun g v8 v46 wx => ∃ i : Nat, i + g = col.length ∧ v46 = .int .i64 (i : Int) ∧ Aside0 ((Kd.int .i64).R 3 wx w2.heap.size (fun _ => True) v8 (leL col cut i)) ∧ Aside0 (Below w2.heap.size w2 wx))
  case atStart => exact ⟨0, by omega, rfl, ⟨Kd.R_nil _ _ _ _ _⟩, ⟨Below.refl _ _⟩⟩
  case round =>
    obtain ⟨i, hig, rfl, HO, HBy⟩ := hrel
    have HLL := Aside0.mk (leL_len col cut i)
    cases gk with
    | zero =>
      have hlt : ¬ (i : Int) < (col.length : Int) := by omega
      obtain ⟨A8, c8, rfl, hc8, hC8⟩ := Kd.R_reads HO.out
      have HE := Aside0.mk (show leL (rd_L1 cols (n : Int)) cut ids.length = leL col cut i by rw [HCOL.out, show ids.length = i by omega])
      obtain ⟨a0, a1, a2⟩ := three_cells (blk_below K12.out HBy.out)
      have HC8 := Aside0.mk hC8
      have HBw := Aside0.mk (HB2.out.trans (HBy.out.mono HB2.out.size))
      clear hC8
      obtain ⟨r, hr⟩ : ∃ r, r = Bp.ofS (ids.length : Int) (leL col cut i) := ⟨_, rfl⟩
      obtain ⟨r1, r2, r3⟩ := r
      have HR := Aside0.mk hr
      clear hr
      go_wp2_with fail
      refine (Bo.of_calls (ids.length : Int) A8 c8 (leL col cut i) _ HC8.out (by have := HLL.out; omega) r1 r2 r3 HR.out.symm).mono ?_
      rintro e w5 ⟨V, rfl, ho, hb⟩
      obtain ⟨X, cx, rfl, hx, _⟩ := Kd.R_reads ho
      have K25 := Aside0.mk (blk_below (blk_below K22.out HBy.out) hb)
      have HB5 := Aside0.mk (HBw.out.trans (hb.mono HBw.out.size))
      have HO5 := Aside0.mk (Kd.R_lower ho HBw.out.size)
      obtain ⟨b0, b1⟩ := Bo.two_cells K25.out
      obtain ⟨f0, f1⟩ := Bo.two_frozen K25.out
      clear ho hb a0 a1 a2
      go_wp2_with fail
      refine bodyPost_ret (results_ct rfl _ _ (w.heap.size + 1) 24 #[.int .i64 r1, .slice X r2.length cx] (0, 0) _ rfl (blk_put (cs := #[.int .i64 r1, .slice none 0 0]) (blk_put K25.out 0 _ rfl) 1 _ rfl) Try.underlying24 rfl (by kernel_rfl)) rfl ?_
      rw [HE.out, ← HR.out]
      exact ⟨_, rfl, R_put2 HO5.out K25.out _ _, below_set (below_set HB5.out (by show w.heap.size ≤ w.heap.size + 1; omega)) (by show w.heap.size ≤ w.heap.size + 1; omega)⟩
    | succ g =>
      have hlt : (i : Int) < (col.length : Int) := by omega
      obtain ⟨ae, rfl, hce⟩ := Kd.at_int (Kd.C_below HCR.out HBy.out) (i : Int) (by omega) hlt
      rw [Int.toNat_natCast] at hce
      have hs := leL_succ col cut i
      obtain ⟨x, hx⟩ : ∃ x, x = rd col (i : Int) := ⟨_, rfl⟩
      rw [← hx] at hce hs
      clear hx
      by_cases hxc : x ≤ cut
      · rw [if_pos hxc] at hs
        have HS := Aside0.mk hs
        clear hs
        go_wp2_with (at_builtin; refine Al.ints_app (w0 := w2) w2.heap.size rfl (.tmp 54) (.tmp 56) rfl _ (leL col cut i) [(i : Int)] _ 1 1 rfl rfl (Kd.R_alloc HO.out _) (Al.const_reads wr 3 (0, 0) .i64 [(i : Int)] (by simp)) (below_alloc HBy.out _) (below_alloc HBy.out _).size (by have := HLL.out; omega) ?_; intro A3 n3 c3 w3 hn3 ho3 hb3 hg3; have HO3 := Aside0.mk ho3; have HB3 := Aside0.mk hb3; clear ho3 hb3 hg3 hn3)
        go_roundg g
        case measure => omega
        case rel => exact ⟨i + 1, by omega, rfl, ⟨by rw [HS.out]; exact HO3.out⟩, HB3⟩
      · rw [if_neg hxc, List.append_nil] at hs
        have HS := Aside0.mk hs
        clear hs
        go_wp2_with fail
        go_roundg g
        case measure => omega
        case rel => exact ⟨i + 1, by omega, rfl, ⟨by rw [HS.out]; exact HO.out⟩, HBy⟩
theorem left_calls (A0 A1 A2 : Option Addr) (c0 c1 c2 : Nat) (ids bins : List Int) (cols : List (List Int)) (m cut : Int) (w : World) (h : IsTb w A0 A1 A2 c0 c1 c2 ids bins cols) :
    Calls Try.prog 37 #[.agg (tbV A0 A1 A2 c0 c1 c2 ids bins cols), .int .i64 m, .int .i64 cut] w (LeftPost w (leftP ids bins cols m cut)) := by
  unfold leftP
  by_cases ht : tabB ids bins cols = true
  · rw [if_pos ht]
    by_cases hw : wrongB bins cols m cut
    · rw [if_pos hw]; exact left_wrong A0 A1 A2 c0 c1 c2 ids bins cols m cut w h ht hw
    · rw [if_neg hw]; exact left_yes A0 A1 A2 c0 c1 c2 ids bins cols m cut w h ht hw
  · rw [if_neg ht]; exact left_no A0 A1 A2 c0 c1 c2 ids bins cols m cut w h (Bool.eq_false_iff.2 ht)
end Go.Proofs.Ytdlkcohfgfnkbaa.Lw
