/- BitsetParts: the law's walk. -/
import Derived.Test.YtdlkcohfgfnkbaaBo
import Derived.Test.YtdlkcohfgfnkbaaBs
import Derived.Test.YtdlkcohfgfnkbaaBlJ
import Derived.Deep.RegionHeld3
namespace Go.Proofs.Ytdlkcohfgfnkbaa.Bt
open Go.RowKit Go.Proofs.Ytdlkcohfgfnkbaa.PBitsetJoins Go.Proofs.Ytdlkcohfgfnkbaa.Fns Go.Proofs.Ytdlkcohfgfnkbaa.Bp Go.Proofs.Ytdlkcohfgfnkbaa.Bj Go.Proofs.Ytdlkcohfgfnkbaa.Bo Go.Proofs.Ytdlkcohfgfnkbaa.Ob Go.Proofs.YtdlkcohfgfnkbaaW.PrintWords Go.Proofs.YtdlkcohfgfnkbaaW.PrintLast Go.Proofs.YtdlkcohfgfnkbaaW.PrintMore
set_option linter.unusedSimpArgs false
set_option linter.unusedVariables false

/-- What lay in W lies as it lay. -/
structure Held (W w : World) : Prop where
  out : Below W.heap.size W w
theorem held_cells {W w : World} {g t : Nat} {x y : Value} (h : Held W w) (hb : W.heap[g]? = some (.cells #[x, y] t (0, 0))) : w.cell? ⟨g, 0, none⟩ = some x ∧ w.cell? ⟨g, 1, none⟩ = some y := two_cells (blk_below hb h.out)
theorem count_held {W w : World} {k : Nat} {N : Int} {A : Option Addr} {c : Nat} {l : List Int} {r : Int} (h : Held W w) (hr : Kd.C (Kd.int .u64) W A l.length l) (hc : l.length ≤ c) (hk : bitset_Count.f k N l = some r) :
    Calls Try.prog 27 #[.agg #[.int .i64 N, .slice A l.length c]] w fun e w' => e = .returned (.int .i64 r) ∧ Held W w' :=
  (bitset_Count.calls k N A c l r w (Kd.C_below hr h.out) hc hk).mono fun e w' hh => ⟨hh.1, ⟨h.out.trans (hh.2.mono h.out.size)⟩⟩
theorem of_one : ofS 1 [0] = (1, [1], 0) := by
  rw [ofS_good 1 [0] (by omega) (by decide)]
  rfl

set_option maxRecDepth 100000 in
set_option maxHeartbeats 4000000 in
theorem parts_calls (N M : Int) (a b : List Int) (A B : Option Addr) (ca cb : Nat) (w : World) (ha : IsBt w A ca (N, a)) (hb : IsBt w B cb (M, b)) :
    Calls Try.prog 5 #[.agg #[.int .i64 N, .slice A a.length ca], .agg #[.int .i64 M, .slice B b.length cb]] w fun e w' => e = .returned (.bool true) ∧ Below w.heap.size w w' := by
  have HA := Aside0.mk ha
  have HB := Aside0.mk hb
  obtain ⟨q, hq⟩ : ∃ q, ([⟨N, a⟩, ⟨M, b⟩] : List S24).all (fun s => decide (s.f1.length ≤ 2000)) = q := ⟨_, rfl⟩
  obtain ⟨kf, hkf⟩ := (ref_few [⟨N, a⟩, ⟨M, b⟩] (by simp)).rounds
  rw [hq] at hkf
  have HF := Aside0.mk hkf
  clear ha hb hq hkf
  go_enter Try.func5, Try.ntmps5
  go_wp2_with fail
  obtain ⟨W0, hW0⟩ : ∃ W, W = (w.alloc (.cells #[.int .i64 N, .slice A a.length ca] 24)).alloc (.cells #[.int .i64 M, .slice B b.length cb] 24) := ⟨_, rfl⟩
  have hz0 : W0.heap.size = w.heap.size + 1 + 1 := by rw [hW0, World.size_alloc, World.size_alloc]
  have hB0 : Below w.heap.size w W0 := by rw [hW0]; exact below_alloc (below_alloc (Below.refl _ _) _) _
  have kA : W0.heap[w.heap.size]? = some (.cells #[.int .i64 N, .slice A a.length ca] 24 (0, 0)) := by rw [hW0]; exact blk_alloc (blk_new w _) _
  have kB : W0.heap[w.heap.size + 1]? = some (.cells #[.int .i64 M, .slice B b.length cb] 24 (0, 0)) := by rw [hW0, ← World.size_alloc w (.cells #[.int .i64 N, .slice A a.length ca] 24)]; exact blk_new _ _
  have hfew := Bl.few_two W0 N M A B ca cb a b HA.out.cap HB.out.cap (Kd.C_below HA.out.reads hB0) (Kd.C_below HB.out.reads hB0) (0, 0)
  rw [← hz0, ← hW0]
  have HB0 := Aside0.mk hB0
  have HK0 := Aside0.mk (And.intro kA (And.intro kB hz0))
  refine (windbreaklaw14_few.calls kf (some ⟨W0.heap.size, 0, none⟩) 2 _ q _ hfew (by simp) HF.out).mono ?_
  rintro e w1 ⟨rfl, hd⟩
  have HB1 := Aside0.mk (below_alloc (Below.refl _ W0) _ |>.trans (hd.below.mono (below_alloc (Below.refl _ W0) _).size))
  clear hW0 hz0 kA kB hfew hB0 hd
  cases q with
  | false =>
    go_wp2_with fail
    go_ret
    exact ⟨rfl, HB0.out.trans (HB1.out.mono HB0.out.size)⟩
  | true =>
    have HA1 := Aside0.mk (blk_below HK0.out.1 HB1.out)
    have HA2 := Aside0.mk (blk_below HK0.out.2.1 HB1.out)
    have HW1 := Aside0.mk (HB0.out.trans (HB1.out.mono HB0.out.size))
    clear HB0 HB1 HK0
    go_wp2_with fail
    have HD1 := Aside0.mk (Bl.const_reads w1 31 (0, 0) .i64 [0] (by simp))
    -- GEN
    have HWa := Aside0.mk (below_alloc HW1.out (.cells #[.int .i64 0] 3))
    have HAa := Aside0.mk (And.intro (blk_alloc HA1.out (.cells #[.int .i64 0] 3)) (blk_alloc HA2.out (.cells #[.int .i64 0] 3)))
    have HD1 := Aside0.mk (Bl.const_reads w1 3 (0, 0) .i64 [0] (by simp))
    refine (of_calls 1 (some ⟨w1.heap.size, 0, none⟩) 1 [0] _ HD1.out (by simp) 1 [1] 0 of_one).mono ?_
    rintro e w3 ⟨V, rfl, ho, hb⟩
    obtain ⟨X3, x3, rfl, hx3, _⟩ := Kd.R_reads ho
    rw [show ([1] : List Int).length = 1 from rfl] at hx3 ⊢
    have HW3 := Aside0.mk (below_alloc (HWa.out.trans (hb.mono HWa.out.size)) (.cells #[.int .i64 1, .slice X3 1 x3] 24))
    have HK3 := Aside0.mk (And.intro (blk_alloc (blk_below HAa.out.1 hb) (.cells #[.int .i64 1, .slice X3 1 x3] 24)) (And.intro (blk_alloc (blk_below HAa.out.2 hb) (.cells #[.int .i64 1, .slice X3 1 x3] 24)) (blk_new w3 (.cells #[.int .i64 1, .slice X3 1 x3] 24))))
    obtain ⟨c1, c2⟩ := two_cells HK3.out.1
    obtain ⟨c3, c4⟩ := two_cells HK3.out.2.1
    clear ho hb HWa HAa HD1 HA1 HA2 HW1
    go_wp2_with fail
    generalize w3.alloc (.cells #[.int .i64 1, .slice X3 1 x3] 24) = W3 at HW3 HK3 c1 c2 c3 c4 ⊢
    clear c1 c2 c3 c4
    by_cases hg : rightB N a = true ∧ rightB M b = true ∧ N = M
    case neg =>
      refine (calls14 N M A B ca cb a b _ (Kd.C_below HA.out.reads HW3.out) HA.out.cap (Kd.C_below HB.out.reads HW3.out) HB.out.cap HA.out.wf HB.out.wf HA.out.len HB.out.len 0 [] 1 (join_no _ _ _ N M a b hg)).mono ?_
      rintro e w4 ⟨V, rfl, ho, hb⟩
      obtain ⟨X4, x4, rfl, hx4, _⟩ := Kd.R_reads ho
      rw [List.length_nil] at hx4 ⊢
      have HW4 := Aside0.mk (below_alloc (HW3.out.trans (hb.mono HW3.out.size)) (.cells #[.int .i64 0, .slice X4 0 x4] 24))
      have HK4 := Aside0.mk (And.intro (blk_alloc (blk_below HK3.out.1 hb) (.cells #[.int .i64 0, .slice X4 0 x4] 24)) (And.intro (blk_alloc (blk_below HK3.out.2.1 hb) (.cells #[.int .i64 0, .slice X4 0 x4] 24)) (blk_alloc (blk_below HK3.out.2.2 hb) (.cells #[.int .i64 0, .slice X4 0 x4] 24))))
      obtain ⟨c1, c2⟩ := two_cells HK4.out.1
      obtain ⟨c3, c4⟩ := two_cells HK4.out.2.1
      clear ho hb
      go_wp2_with fail
      generalize w4.alloc (.cells #[.int .i64 0, .slice X4 0 x4] 24) = W4 at HW4 HK4 c1 c2 c3 c4 ⊢
      clear c1 c2 c3 c4
      refine (calls19 N M A B ca cb a b _ (Kd.C_below HA.out.reads HW4.out) HA.out.cap (Kd.C_below HB.out.reads HW4.out) HB.out.cap HA.out.wf HB.out.wf HA.out.len HB.out.len 0 [] 1 (join_no _ _ _ N M a b hg)).mono ?_
      rintro e w5 ⟨V, rfl, ho, hb⟩
      obtain ⟨X5, x5, rfl, hx5, _⟩ := Kd.R_reads ho
      rw [List.length_nil] at hx5 ⊢
      have HW5 := Aside0.mk (below_alloc (HW4.out.trans (hb.mono HW4.out.size)) (.cells #[.int .i64 0, .slice X5 0 x5] 24))
      obtain ⟨c1, c2⟩ := two_cells (blk_alloc (blk_below HK4.out.2.2 hb) (.cells #[.int .i64 0, .slice X5 0 x5] 24))
      clear ho hb
      go_wp2_with fail
      go_ret
      exact ⟨rfl, HW5.out⟩
    case pos =>
      obtain ⟨h1, h2, rfl⟩ := hg
      have hlab : a.length = b.length := by have := right_len h1; have := right_len h2; omega
      have HJ1 := Aside0.mk (join_law op_and N a b HA.out.wf HB.out.wf h1 h2)
      have HJ2 := Aside0.mk (join_law op_minus N a b HA.out.wf HB.out.wf h1 h2)
      obtain ⟨hu, z, hz, hwz, hlz, hcz⟩ := parts_law N a b HA.out.wf HB.out.wf h1 h2
      have HU := Aside0.mk hu
      have HZ := Aside0.mk (And.intro hz (And.intro hwz (And.intro hlz hcz)))
      have hcs := cnt_split a b HA.out.wf HB.out.wf hlab
      have rx := zip_right op_and HA.out.wf HB.out.wf h1 h2
      have ry := zip_right op_minus HA.out.wf HB.out.wf h1 h2
      have hlx := zip_len (Go.bits .and .u64) a b hlab
      have hly := zip_len (Go.bits .andNot .u64) a b hlab
      have wx := zip_wf op_and HA.out.wf HB.out.wf
      have wy := zip_wf op_minus HA.out.wf HB.out.wf
      have hL : a.length ≤ 140737488351232 := HA.out.len
      change a.length ≤ 140737488351232 at hL
      generalize List.zipWith (Go.bits .and .u64) a b = X at HJ1 HU HZ hcs rx hlx wx hz hu
      generalize List.zipWith (Go.bits .andNot .u64) a b = Y at HJ2 HU HZ hcs ry hly wy hz hu
      obtain ⟨kx, hkx⟩ := (prog_count N X wx (by omega)).rounds
      obtain ⟨ky, hky⟩ := (prog_count N Y wy (by omega)).rounds
      obtain ⟨ka, hka⟩ := (prog_count N a HA.out.wf HA.out.len).rounds
      obtain ⟨kz, hkz⟩ := (prog_count N z hwz (by omega)).rounds
      rw [countS, if_pos rx] at hkx
      rw [countS, if_pos ry] at hky
      rw [countS, if_pos h1] at hka
      rw [hcz] at hkz
      obtain ⟨ms, hms⟩ := (ref_same N a hL).rounds
      have HC := Aside0.mk (And.intro hkx (And.intro hky (And.intro hka (And.intro hkz hms))))
      have HWF := Aside0.mk (And.intro wx wy)
      have hcl := cnt_le a
      have HLX := Aside0.mk (And.intro hlx (And.intro hly hL))
      have hr1 := right_len h1
      have HS := Aside0.mk (And.intro hcs (show cnt a ≤ 70000 by omega))
      clear hu hz hwz hlz hcz hcs rx ry hlx hly wx wy hkx hky hka hkz hms hcl hL hlab h1 h2 hr1
      refine (calls14 N N A B ca cb a b _ (Kd.C_below HA.out.reads HW3.out) HA.out.cap (Kd.C_below HB.out.reads HW3.out) HB.out.cap HA.out.wf HB.out.wf HA.out.len HB.out.len N X 0 HJ1.out).mono ?_
      rintro e w4 ⟨V, rfl, ho, hb⟩
      obtain ⟨X4, x4, rfl, hx4, hq4⟩ := Kd.R_reads ho
      have HW4 := Aside0.mk (below_alloc (HW3.out.trans (hb.mono HW3.out.size)) (.cells #[.int .i64 N, .slice X4 X.length x4] 24))
      have HK4 := Aside0.mk (And.intro (blk_alloc (blk_below HK3.out.1 hb) (.cells #[.int .i64 N, .slice X4 X.length x4] 24)) (And.intro (blk_alloc (blk_below HK3.out.2.1 hb) (.cells #[.int .i64 N, .slice X4 X.length x4] 24)) (And.intro (blk_alloc (blk_below HK3.out.2.2 hb) (.cells #[.int .i64 N, .slice X4 X.length x4] 24)) (blk_new w4 (.cells #[.int .i64 N, .slice X4 X.length x4] 24)))))
      have HR4 := Aside0.mk (Kd.C_alloc hq4 (.cells #[.int .i64 N, .slice X4 X.length x4] 24))
      obtain ⟨c1, c2⟩ := two_cells HK4.out.1
      obtain ⟨c3, c4⟩ := two_cells HK4.out.2.1
      clear ho hb hq4 HW3 HK3
      go_wp2_with fail
      generalize w4.alloc (.cells #[.int .i64 N, .slice X4 X.length x4] 24) = W4 at HW4 HK4 HR4 c1 c2 c3 c4 ⊢
      clear c1 c2 c3 c4
      refine (calls19 N N A B ca cb a b _ (Kd.C_below HA.out.reads HW4.out) HA.out.cap (Kd.C_below HB.out.reads HW4.out) HB.out.cap HA.out.wf HB.out.wf HA.out.len HB.out.len N Y 0 HJ2.out).mono ?_
      rintro e w5 ⟨V, rfl, ho, hb⟩
      obtain ⟨X5, x5, rfl, hx5, hq5⟩ := Kd.R_reads ho
      have HW5 := Aside0.mk (below_alloc (HW4.out.trans (hb.mono HW4.out.size)) (.cells #[.int .i64 N, .slice X5 Y.length x5] 24))
      have HK5 := Aside0.mk (And.intro (blk_alloc (blk_below HK4.out.1 hb) (.cells #[.int .i64 N, .slice X5 Y.length x5] 24)) (And.intro (blk_alloc (blk_below HK4.out.2.2.1 hb) (.cells #[.int .i64 N, .slice X5 Y.length x5] 24)) (And.intro (blk_alloc (blk_below HK4.out.2.2.2 hb) (.cells #[.int .i64 N, .slice X5 Y.length x5] 24)) (blk_new w5 (.cells #[.int .i64 N, .slice X5 Y.length x5] 24)))))
      have HR5 := Aside0.mk (And.intro (Kd.C_alloc (Kd.C_below HR4.out hb) (.cells #[.int .i64 N, .slice X5 Y.length x5] 24)) (Kd.C_alloc hq5 (.cells #[.int .i64 N, .slice X5 Y.length x5] 24)))
      obtain ⟨c1, c2⟩ := two_cells HK5.out.2.1
      obtain ⟨c3, c4⟩ := two_cells HK5.out.2.2.1
      obtain ⟨c5, c6⟩ := two_cells HK5.out.2.2.2
      clear ho hb hq5 HW4 HK4 HR4
      go_wp2_with fail
      generalize w5.alloc (.cells #[.int .i64 N, .slice X5 Y.length x5] 24) = W5 at HW5 HK5 HR5 c1 c2 c3 c4 c5 c6 ⊢
      clear c1 c2 c3 c4 c5 c6
      have hbl : Y.length = X.length := by have := HLX.out; omega
      refine (calls14 N N X4 X5 x4 x5 X Y _ HR5.out.1 hx4 HR5.out.2 hx5 HWF.out.1 HWF.out.2 (by have := HLX.out; omega) (by have := HLX.out; omega) N z 0 HZ.out.1).mono ?_
      rintro e w6 ⟨V, rfl, ho, hb⟩
      obtain ⟨X6, x6, rfl, hx6, hq6⟩ := Kd.R_reads ho
      have HW6 := Aside0.mk (below_alloc (HW5.out.trans (hb.mono HW5.out.size)) (.cells #[.int .i64 N, .slice X6 z.length x6] 24))
      have HK6 := Aside0.mk (And.intro (blk_alloc (blk_below HK5.out.1 hb) (.cells #[.int .i64 N, .slice X6 z.length x6] 24)) (And.intro (blk_alloc (blk_below HK5.out.2.2.1 hb) (.cells #[.int .i64 N, .slice X6 z.length x6] 24)) (And.intro (blk_alloc (blk_below HK5.out.2.2.2 hb) (.cells #[.int .i64 N, .slice X6 z.length x6] 24)) (blk_new w6 (.cells #[.int .i64 N, .slice X6 z.length x6] 24)))))
      have HR6 := Aside0.mk (And.intro (Kd.C_alloc (Kd.C_below HR5.out.1 hb) (.cells #[.int .i64 N, .slice X6 z.length x6] 24)) (And.intro (Kd.C_alloc (Kd.C_below HR5.out.2 hb) (.cells #[.int .i64 N, .slice X6 z.length x6] 24)) (Kd.C_alloc hq6 (.cells #[.int .i64 N, .slice X6 z.length x6] 24))))
      obtain ⟨c3, c4⟩ := two_cells HK6.out.2.1
      obtain ⟨c5, c6⟩ := two_cells HK6.out.2.2.1
      clear ho hb hq6 HW5 HK5 HR5 hbl
      go_wp2_with fail
      generalize w6.alloc (.cells #[.int .i64 N, .slice X6 z.length x6] 24) = W6 at HW6 HK6 HR6 c3 c4 c5 c6 ⊢
      clear c3 c4 c5 c6
      refine (calls17 N N X4 X5 x4 x5 X Y _ HR6.out.1 hx4 HR6.out.2.1 hx5 HWF.out.1 HWF.out.2 (by have := HLX.out; omega) (by have := HLX.out; omega) N a 0 HU.out).mono ?_
      rintro e w7 ⟨V, rfl, ho, hb⟩
      obtain ⟨X7, x7, rfl, hx7, hq7⟩ := Kd.R_reads ho
      have HW7 := Aside0.mk (below_alloc (HW6.out.trans (hb.mono HW6.out.size)) (.cells #[.int .i64 N, .slice X7 a.length x7] 24))
      have HK7 := Aside0.mk (And.intro (blk_alloc (blk_below HK6.out.1 hb) (.cells #[.int .i64 N, .slice X7 a.length x7] 24)) (And.intro (blk_alloc (blk_below HK6.out.2.1 hb) (.cells #[.int .i64 N, .slice X7 a.length x7] 24)) (And.intro (blk_alloc (blk_below HK6.out.2.2.1 hb) (.cells #[.int .i64 N, .slice X7 a.length x7] 24)) (And.intro (blk_alloc (blk_below HK6.out.2.2.2 hb) (.cells #[.int .i64 N, .slice X7 a.length x7] 24)) (blk_new w7 (.cells #[.int .i64 N, .slice X7 a.length x7] 24))))))
      have HR7 := Aside0.mk (And.intro (Kd.C_alloc (Kd.C_below HR6.out.1 hb) (.cells #[.int .i64 N, .slice X7 a.length x7] 24)) (And.intro (Kd.C_alloc (Kd.C_below HR6.out.2.1 hb) (.cells #[.int .i64 N, .slice X7 a.length x7] 24)) (And.intro (Kd.C_alloc (Kd.C_below HR6.out.2.2 hb) (.cells #[.int .i64 N, .slice X7 a.length x7] 24)) (Kd.C_alloc hq7 (.cells #[.int .i64 N, .slice X7 a.length x7] 24)))))
      obtain ⟨c1, c2⟩ := two_cells HK7.out.1
      obtain ⟨c5, c6⟩ := two_cells HK7.out.2.2.2.2
      clear ho hb hq7 HW6 HK6 HR6
      go_wp2_with fail
      generalize w7.alloc (.cells #[.int .i64 N, .slice X7 a.length x7] 24) = W7 at HW7 HK7 HR7 c1 c2 c5 c6 ⊢
      clear c1 c2 c5 c6
      refine (windbreakref14_Same.calls ms N X7 x7 a N A ca a true _ HR7.out.2.2.2 hx7 (Kd.C_below HA.out.reads HW7.out) HA.out.cap HC.out.2.2.2.2).mono ?_
      rintro e W ⟨rfl, hb⟩
      have HW := Aside0.mk (HW7.out.trans (hb.mono HW7.out.size))
      have HK := Aside0.mk (And.intro (blk_below HK7.out.1 hb) (And.intro (blk_below HK7.out.2.1 hb) (And.intro (blk_below HK7.out.2.2.1 hb) (blk_below HK7.out.2.2.2.1 hb))))
      have HR := Aside0.mk (And.intro (Kd.C_below HR7.out.1 hb) (And.intro (Kd.C_below HR7.out.2.1 hb) (And.intro (Kd.C_below HR7.out.2.2.1 hb) (Kd.C_below HA.out.reads HW.out))))
      clear hb HW7 HK7 HR7
      have hh : Held W W := ⟨Below.refl _ _⟩
      obtain ⟨p1, p2⟩ := held_cells hh HK.out.1
      obtain ⟨p3, p4⟩ := held_cells hh HK.out.2.1
      obtain ⟨p5, p6⟩ := held_cells hh HK.out.2.2.1
      obtain ⟨p7, p8⟩ := held_cells hh HK.out.2.2.2
      go_wp2_with fail
      obtain ⟨n1, e1⟩ : ∃ n : Int, n = (cnt X : Int) := ⟨_, rfl⟩
      obtain ⟨n2, e2⟩ : ∃ n : Int, n = (cnt Y : Int) := ⟨_, rfl⟩
      obtain ⟨n3, e3⟩ : ∃ n : Int, n = (cnt a : Int) := ⟨_, rfl⟩
      have hn : IntKind.i64.wrap (n1 + n2) = n3 := by
        have h1 := HS.out
        rw [IntWalk.i64_in (n1 + n2) (by omega)]
        omega
      rw [← e1, ← e2, ← e3] at HC
      clear e1 e2 e3 HS
      have hhd : Held W W.drew := ⟨below_drew (Below.refl _ _)⟩
      go_region_held3 (fun w' => w'.cell? ⟨w.heap.size, 0, none⟩ = some (.int .i64 N) ∧ w'.cell? ⟨w.heap.size, 1, none⟩ = some (.slice A a.length ca) ∧ w'.cell? ⟨w4.heap.size, 0, none⟩ = some (.int .i64 N) ∧ w'.cell? ⟨w4.heap.size, 1, none⟩ = some (.slice X4 X.length x4) ∧ w'.cell? ⟨w5.heap.size, 0, none⟩ = some (.int .i64 N) ∧ w'.cell? ⟨w5.heap.size, 1, none⟩ = some (.slice X5 Y.length x5) ∧ w'.cell? ⟨w6.heap.size, 0, none⟩ = some (.int .i64 N) ∧ w'.cell? ⟨w6.heap.size, 1, none⟩ = some (.slice X6 z.length x6) ∧ Held W w') (refine ⟨?_, ?_, ?_, ?_, ?_, ?_, ?_, ?_, ?_⟩ <;> assumption)
        (first
          | (go_at_call_of 27 (Value.agg #[.int .i64 N, .slice X6 z.length x6]); refine (count_held (by assumption : Held W _) HR.out.2.2.1 hx6 HC.out.2.2.2.1).mono ?_; rintro e w' ⟨rfl, hH⟩; obtain ⟨p1, p2⟩ := held_cells hH HK.out.1; obtain ⟨p3, p4⟩ := held_cells hH HK.out.2.1; obtain ⟨p5, p6⟩ := held_cells hH HK.out.2.2.1; obtain ⟨p7, p8⟩ := held_cells hH HK.out.2.2.2)
          | (go_at_call_of 27 (Value.agg #[.int .i64 N, .slice X4 X.length x4]); refine (count_held (by assumption : Held W _) HR.out.1 hx4 HC.out.1).mono ?_; rintro e w' ⟨rfl, hH⟩; obtain ⟨p1, p2⟩ := held_cells hH HK.out.1; obtain ⟨p3, p4⟩ := held_cells hH HK.out.2.1; obtain ⟨p5, p6⟩ := held_cells hH HK.out.2.2.1; obtain ⟨p7, p8⟩ := held_cells hH HK.out.2.2.2)
          | (go_at_call_of 27 (Value.agg #[.int .i64 N, .slice X5 Y.length x5]); refine (count_held (by assumption : Held W _) HR.out.2.1 hx5 HC.out.2.1).mono ?_; rintro e w' ⟨rfl, hH⟩; obtain ⟨p1, p2⟩ := held_cells hH HK.out.1; obtain ⟨p3, p4⟩ := held_cells hH HK.out.2.1; obtain ⟨p5, p6⟩ := held_cells hH HK.out.2.2.1; obtain ⟨p7, p8⟩ := held_cells hH HK.out.2.2.2)
          | (go_at_call_of 27 (Value.agg #[.int .i64 N, .slice A a.length ca]); refine (count_held (by assumption : Held W _) HR.out.2.2.2 HA.out.cap HC.out.2.2.1).mono ?_; rintro e w' ⟨rfl, hH⟩; obtain ⟨p1, p2⟩ := held_cells hH HK.out.1; obtain ⟨p3, p4⟩ := held_cells hH HK.out.2.1; obtain ⟨p5, p6⟩ := held_cells hH HK.out.2.2.1; obtain ⟨p7, p8⟩ := held_cells hH HK.out.2.2.2))
      all_goals go_wp2_with fail
      all_goals go_ret
      all_goals exact ⟨rfl, HW.out.trans ((Held.out (by assumption : Held W _)).mono HW.out.size)⟩
theorem parts_walk (x y : Bt × Option Addr × Nat) (w : World) (hx : IsBt w x.2.1 x.2.2 x.1) (hy : IsBt w y.2.1 y.2.2 y.1) :
    Calls Try.prog 5 #[.agg #[.int .i64 x.1.1, .slice x.2.1 x.1.2.length x.2.2], .agg #[.int .i64 y.1.1, .slice y.2.1 y.1.2.length y.2.2]] w fun e w' => e = .returned (.bool true) ∧ Below w.heap.size w w' :=
  parts_calls x.1.1 y.1.1 x.1.2 y.1.2 x.2.1 y.2.1 x.2.2 y.2.2 w hx hy
end Go.Proofs.Ytdlkcohfgfnkbaa.Bt
