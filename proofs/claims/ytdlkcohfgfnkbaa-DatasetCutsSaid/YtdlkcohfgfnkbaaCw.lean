/- Tables: DatasetCuts: the walk. -/
import Derived.Test.YtdlkcohfgfnkbaaLw
import Derived.Test.YtdlkcohfgfnkbaaCp
import Derived.Test.YtdlkcohfgfnkbaaOt
import Derived.Test.YtdlkcohfgfnkbaaAw
import Derived.Deep.RegionHeld3
namespace Go.Proofs.Ytdlkcohfgfnkbaa.Cw
open Go.RowKit Go.Proofs.Ytdlkcohfgfnkbaa.PDatasetJoins Go.Proofs.Ytdlkcohfgfnkbaa.DFns Go.Proofs.Ytdlkcohfgfnkbaa.Tp Go.Proofs.Ytdlkcohfgfnkbaa.Lp Go.Proofs.Ytdlkcohfgfnkbaa.Tr Go.Proofs.Ytdlkcohfgfnkbaa.Ot Go.Proofs.Ytdlkcohfgfnkbaa.Lw Go.Proofs.Ytdlkcohfgfnkbaa.Cp Go.Proofs.YtdlkcohfgfnkbaaW.PrintWords Go.Proofs.YtdlkcohfgfnkbaaW.PrintLast Go.Proofs.YtdlkcohfgfnkbaaW.PrintMore
open Go.Proofs.Ytdlkcohfgfnkbaa.Bp (Wf wbit ofS cnt countS rightB op_minus OpBit pick3)
attribute [local go_sem] max2_int min2_int max_two min_two max_three min_three max_four min_four
set_option linter.unusedSimpArgs false
set_option linter.unusedVariables false

theorem cell_low {w W : World} {a : Addr} {v : Value} (h : w.cell? a = some v) (hb : Below w.heap.size w W) : W.cell? a = some v := (hb.cell (World.block_lt_of_cell? w _ h)).trans h
/-- What lay in W lies as it lay. -/
structure Held (W w : World) : Prop where
  out : Below W.heap.size W w
theorem held_two {W w : World} {g t : Nat} {x y : Value} (h : Held W w) (hb : W.heap[g]? = some (.cells #[x, y] t (0, 0))) : w.cell? ⟨g, 0, none⟩ = some x ∧ w.cell? ⟨g, 1, none⟩ = some y := Bo.two_cells (blk_below hb h.out)
theorem held_three {W w : World} {g t : Nat} {x y z : Value} (h : Held W w) (hb : W.heap[g]? = some (.cells #[x, y, z] t (0, 0))) : w.cell? ⟨g, 0, none⟩ = some x := (three_cells (blk_below hb h.out)).1
theorem count_held {W w : World} {k : Nat} {N : Int} {A : Option Addr} {c : Nat} {l : List Int} {r : Int} (h : Held W w) (hr : Kd.C (Kd.int .u64) W A l.length l) (hc : l.length ≤ c) (hk : Fns.bitset_Count.f k N l = some r) :
    Calls Try.prog 27 #[.agg #[.int .i64 N, .slice A l.length c]] w fun e w' => e = .returned (.int .i64 r) ∧ Held W w' :=
  (Fns.bitset_Count.calls k N A c l r w (Kd.C_below hr h.out) hc hk).mono fun e w' hh => ⟨hh.1, ⟨h.out.trans (hh.2.mono h.out.size)⟩⟩
theorem left_ok {ids bins : List Int} {cols : List (List Int)} {m cut : Int} (h : (leftP ids bins cols m cut).2.2 = 0) : tabB ids bins cols = true ∧ ¬ wrongB bins cols m cut := by
  unfold leftP at h
  split at h
  · rename_i ht
    split at h
    · cases h
    · rename_i hw
      exact ⟨ht, hw⟩
  · cases h
theorem cut_boxes (w : World) (cs : Array Value) (a b : Int) : ∃ W1, W1 = (w.alloc (.cells cs 43)).alloc (.cells #[.int .i64 a, .int .i64 b] 54) ∧ Below w.heap.size w W1 ∧ W1.heap[w.heap.size]? = some (.cells cs 43 (0, 0)) ∧ W1.heap[w.heap.size + 1]? = some (.cells #[.int .i64 a, .int .i64 b] 54 (0, 0)) := by
  refine ⟨_, rfl, below_alloc (below_alloc (Below.refl _ _) _) _, blk_alloc (blk_new w _) _, ?_⟩
  rw [← World.size_alloc w (.cells cs 43)]
  exact blk_new _ _
set_option maxRecDepth 100000 in
set_option maxHeartbeats 1000000 in
theorem cuts_calls (A0 A1 A2 : Option Addr) (c0 c1 c2 : Nat) (ids bins : List Int) (cols : List (List Int)) (m a b : Int) (w : World) (h : IsTb w A0 A1 A2 c0 c1 c2 ids bins cols) :
    Calls Try.prog 12 #[.agg (tbV A0 A1 A2 c0 c1 c2 ids bins cols), .int .i64 m, .agg #[.int .i64 a, .int .i64 b]] w fun e w' => e = .returned (.bool true) ∧ Below w.heap.size w w' := by
  obtain ⟨W1, hW1, hB1, k1, k2⟩ := cut_boxes w (tbV A0 A1 A2 c0 c1 c2 ids bins cols) a b
  have H := Aside0.mk h
  have HB1 := Aside0.mk hB1
  have K1 := Aside0.mk k1
  have K5 := Aside0.mk k2
  clear h hB1 k1 k2
  go_enter Try.func12, Try.ntmps12
  go_wp2_with fail
  rw [← hW1]
  clear hW1
  refine (Al.awake_calls _).mono ?_
  rintro e w2 ⟨rfl, hb2⟩
  have HB2 := Aside0.mk (HB1.out.trans (hb2.mono HB1.out.size))
  have K2 := Aside0.mk (blk_below K1.out hb2)
  have K52 := Aside0.mk (blk_below K5.out hb2)
  clear hb2 HB1 K1 K5
  obtain ⟨a0, a1, a2⟩ := three_cells K2.out
  obtain ⟨b0, b1⟩ := Bo.two_cells K52.out
  go_upto_region 2 with fail
  go_cut [8] from 19 to 23 (fun v8 wx => v8 = .int .i64 (min a b) ∧ wx = w2)
  case first =>
    by_cases hab : a ≤ b
    · have hm : min a b = a := by omega
      rcases Int.lt_or_eq_of_le hab with hlt | heq
      · go_wp2_with fail
        all_goals (go_meet; case rel => exact ⟨by first | rw [hm] | (rw [hm]; congr 1; omega), rfl⟩)
      · subst heq
        go_wp2_with fail
        all_goals (go_meet; case rel => exact ⟨by rw [hm], rfl⟩)
    · have hm : min a b = b := by omega
      have hlt : b < a := by omega
      go_wp2_with fail
      all_goals (go_meet; case rel => exact ⟨by rw [hm], rfl⟩)
  case rest =>
    obtain ⟨rfl, rfl⟩ := hcut
    go_upto_region 3 with fail
    go_cut [9] from 24 to 28 (fun v9 wx => v9 = .int .i64 (max a b) ∧ wx = wc)
    case first =>
      by_cases hab : a ≤ b
      · have hm : max a b = b := by omega
        rcases Int.lt_or_eq_of_le hab with hlt | heq
        · go_wp2_with fail
          all_goals (go_meet; case rel => exact ⟨by rw [hm], rfl⟩)
        · subst heq
          go_wp2_with fail
          all_goals (go_meet; case rel => exact ⟨by rw [hm], rfl⟩)
      · have hm : max a b = a := by omega
        have hlt : b < a := by omega
        go_wp2_with fail
        all_goals (go_meet; case rel => exact ⟨by rw [hm], rfl⟩)
    case rest =>
      obtain ⟨rfl, rfl⟩ := hcut
      obtain ⟨lo, hlo⟩ : ∃ x, x = min a b := ⟨_, rfl⟩
      obtain ⟨hi, hhi⟩ : ∃ x, x = max a b := ⟨_, rfl⟩
      have HLH := Aside0.mk (show lo ≤ hi by omega)
      rw [← hlo, ← hhi]
      clear hlo hhi b0 b1 K52
      obtain ⟨r, hrr⟩ : ∃ r, r = leftP ids bins cols m lo := ⟨_, rfl⟩
      obtain ⟨s, hss⟩ : ∃ r, r = leftP ids bins cols m hi := ⟨_, rfl⟩
      have HRR := Aside0.mk hrr
      have HSS := Aside0.mk hss
      clear hrr hss
      go_wp2_with fail
      refine (left_calls A0 A1 A2 c0 c1 c2 ids bins cols m lo _ (H.out.below HB2.out)).mono ?_
      rw [← HRR.out]
      obtain ⟨r1, r2, r3⟩ := r
      rintro e w3 ⟨V, rfl, ho, hb3⟩
      obtain ⟨X, cx, rfl, hx, hC⟩ := Kd.R_reads ho
      change r2.length ≤ cx at hx
      change (Kd.int .u64).C w3 X r2.length r2 at hC
      obtain ⟨W3, hW3⟩ : ∃ W, W = w3.alloc (.cells #[.int .i64 r1, .slice X r2.length cx] 24) := ⟨_, rfl⟩
      have HB3 := Aside0.mk (show Below w.heap.size w W3 by rw [hW3]; exact below_alloc (HB2.out.trans (hb3.mono HB2.out.size)) _)
      have K3 := Aside0.mk (show W3.heap[w.heap.size]? = some (.cells #[.slice A0 ids.length c0, .slice A1 bins.length c1, .slice A2 cols.length c2] 43 (0, 0)) by rw [hW3]; exact blk_alloc (blk_below K2.out hb3) _)
      have K3' := Aside0.mk (show W3.heap[w3.heap.size]? = some (.cells #[.int .i64 r1, .slice X r2.length cx] 24 (0, 0)) by rw [hW3]; exact blk_new w3 _)
      have HP := Aside0.mk (show (Kd.int .u64).C W3 X r2.length r2 by rw [hW3]; exact Kd.C_alloc hC _)
      clear a0 a1 a2
      obtain ⟨a0, a1, a2⟩ := three_cells K3.out
      rw [hW3] at a0 a1 a2
      clear hb3 HB2 K2 ho hC
      go_wp2_with fail
      rw [← hW3]
      clear a0 a1 a2 hW3
      refine (left_calls A0 A1 A2 c0 c1 c2 ids bins cols m hi _ (H.out.below HB3.out)).mono ?_
      rw [← HSS.out]
      obtain ⟨s1, s2, s3⟩ := s
      rintro e w4 ⟨V, rfl, ho, hb4⟩
      obtain ⟨Y, cy, rfl, hy, hC⟩ := Kd.R_reads ho
      change s2.length ≤ cy at hy
      change (Kd.int .u64).C w4 Y s2.length s2 at hC
      obtain ⟨W4, hW4⟩ : ∃ W, W = w4.alloc (.cells #[.int .i64 s1, .slice Y s2.length cy] 24) := ⟨_, rfl⟩
      have hbb : Below W3.heap.size W3 W4 := by rw [hW4]; exact below_alloc hb4 _
      have HB4 := Aside0.mk (HB3.out.trans (hbb.mono HB3.out.size))
      have K43 := Aside0.mk (blk_below K3.out hbb)
      have K4 := Aside0.mk (blk_below K3'.out hbb)
      have K4' := Aside0.mk (show W4.heap[w4.heap.size]? = some (.cells #[.int .i64 s1, .slice Y s2.length cy] 24 (0, 0)) by rw [hW4]; exact blk_new w4 _)
      have HP' := Aside0.mk (show (Kd.int .u64).C W4 Y s2.length s2 by rw [hW4]; exact Kd.C_alloc hC _)
      have HP2 := Aside0.mk (Kd.C_below HP.out hbb)
      obtain ⟨a0, a1⟩ := Bo.two_cells K4.out
      obtain ⟨b0, b1⟩ := Bo.two_cells K4'.out
      rw [hW4] at a0 a1 b0 b1
      clear hb4 hbb HB3 K3 K3' HP ho hC
      by_cases hr3 : r3 = 0
      case neg =>
        have hrb : (r3 != 0) = true := bne_iff_ne.2 hr3
        go_wp2_with fail
        go_ret
        exact ⟨rfl, by rw [← hW4]; exact HB4.out⟩
      case pos =>
        subst hr3
        by_cases hs3 : s3 = 0
        case neg =>
          have hsb : (s3 != 0) = true := bne_iff_ne.2 hs3
          go_wp2_with fail
          go_ret
          exact ⟨rfl, by rw [← hW4]; exact HB4.out⟩
        case pos =>
          subst hs3
          have hol := left_ok (show (leftP ids bins cols m lo).2.2 = 0 by rw [← HRR.out])
          have hoh := left_ok (show (leftP ids bins cols m hi).2.2 = 0 by rw [← HSS.out])
          obtain ⟨ht, hwl⟩ := hol
          obtain ⟨_, hwh⟩ := hoh
          obtain ⟨hm0, hm1, hc0, hc1⟩ : 0 ≤ m ∧ m < (cols.length : Int) ∧ 0 ≤ lo ∧ lo < rd bins m := ⟨Int.not_lt.1 (fun q => hwl (Or.inl q)), Int.not_le.1 (fun q => hwl (Or.inr (Or.inl q))), Int.not_lt.1 (fun q => hwl (Or.inr (Or.inr (Or.inl q)))), Int.not_le.1 (fun q => hwl (Or.inr (Or.inr (Or.inr q))))⟩
          obtain ⟨n, rfl⟩ := Int.eq_ofNat_of_zero_le hm0
          have h256 := (idsF (tabF ht).1).1
          have hrd : rd_L1 cols (n : Int) = cols.getD n [] := rdL_getD cols n
          have hcb := of_decide_eq_true ((tabF ht).2.2.2 n (by omega))
          have hbd : rd bins (n : Int) = bins.getD n 0 := rd_getD bins n
          rw [← hbd] at hcb
          have hll : ¬ wrongB bins cols (n : Int) (rd bins (n : Int) - 1) := fun q => by rcases q with q | q | q | q <;> omega
          obtain ⟨wa, ea, wfa, rba, la, ba⟩ := bits_law ids.length h256 (cols.getD n []) lo
          obtain ⟨wb, eb, wfb, rbb, lb, bb⟩ := bits_law ids.length h256 (cols.getD n []) hi
          obtain ⟨wl, el, wfl, rbl, ll, bl⟩ := bits_law ids.length h256 (cols.getD n []) (rd bins (n : Int) - 1)
          have HE1 : (r1, r2, (0 : Int)) = ((ids.length : Int), wa, 0) := by
            have := HRR.out
            unfold leftP at this
            rw [if_pos ht, if_neg hwl, hrd, ea] at this
            exact this
          have HE2 : (s1, s2, (0 : Int)) = ((ids.length : Int), wb, 0) := by
            have := HSS.out
            unfold leftP at this
            rw [if_pos ht, if_neg hwh, hrd, eb] at this
            exact this
          injection HE1 with q1 q2
          injection q2 with q3 q4
          injection HE2 with q5 q6
          injection q6 with q7 q8
          subst q1 q3 q5 q7
          have HLL := Aside0.mk (show leftP ids bins cols (n : Int) (rd bins (n : Int) - 1) = ((ids.length : Int), wl, 0) by
            unfold leftP
            rw [if_pos ht, if_neg hll, hrd, el])
          have hcz := minus_none r2 s2 wfa wfb (by omega) (fun j hj => by
            rw [ba j, Bool.and_eq_true, decide_eq_true_iff, decide_eq_true_iff] at hj
            rw [bb j, decide_eq_true hj.1, decide_eq_true (Int.le_trans hj.2 HLH.out)]
            rfl)
          have hcl := cnt_full wl ids.length (by omega) (fun j hj => by
            rw [bl j]
            by_cases hjn : j < ids.length
            · have hv : rd (cols.getD n []) (j : Int) < rd bins (n : Int) := (hcb.2.2.2 _ (rd_mem _ j (by have := colF ht n (by omega); omega))).2
              rw [decide_eq_true hjn, decide_eq_true (by omega)]
              rfl
            · rw [decide_eq_false hjn]; rfl)
          have hzw := Bp.zip_wf op_minus wfa wfb
          have hzr := Bp.zip_right op_minus wfa wfb rba rbb
          have hzl := Bp.zip_len (Go.bits .andNot .u64) r2 s2 (by omega)
          have hjl := Bp.join_law op_minus (ids.length : Int) r2 s2 wfa wfb rba rbb
          generalize List.zipWith (Go.bits .andNot .u64) r2 s2 = wz at hcz hzw hzr hzl hjl
          obtain ⟨kz, hkz⟩ := (Bp.prog_count (ids.length : Int) wz hzw (by omega)).rounds
          obtain ⟨kl, hkl⟩ := (Bp.prog_count (ids.length : Int) wl wfl (by omega)).rounds
          rw [countS, if_pos hzr, hcz] at hkz
          rw [countS, if_pos rbl, hcl] at hkl
          have HC := Aside0.mk (And.intro hkz hkl)
          have HJL := Aside0.mk hjl
          have HWF := Aside0.mk (And.intro wfa wfb)
          have HBN := Aside0.mk (And.intro hcb.1 hcb.2.1)
          have hlen := Aside0.mk (show r2.length ≤ 5 ∧ s2.length ≤ 5 ∧ wz.length ≤ 5 ∧ wl.length ≤ 5 by omega)
          have HT := Aside0.mk ht
          have hbl := Aside0.mk (tabF ht).2.2.1
          clear ht hwl hwh hc0 hc1 hcb hbd hll ea eb el wfa wfb wfl rba rbb rbl la lb ll ba bb bl hcz hcl hzw hzr hzl hjl hkz hkl hrd h256
          go_wp2_with fail
          rw [← hW4]
          clear a0 a1 b0 b1 hW4
          refine (Bj.calls19 (ids.length : Int) (ids.length : Int) X Y cx cy r2 s2 _ HP2.out hx HP'.out hy HWF.out.1 HWF.out.2 (by have := hlen.out; omega) (by have := hlen.out; omega) (ids.length : Int) wz 0 HJL.out).mono ?_
          rintro e w5 ⟨V, rfl, ho, hb5⟩
          obtain ⟨Z, cz, rfl, hz, hC⟩ := Kd.R_reads ho
          change wz.length ≤ cz at hz
          change (Kd.int .u64).C w5 Z wz.length wz at hC
          obtain ⟨W5, hW5⟩ : ∃ W, W = w5.alloc (.cells #[.int .i64 (ids.length : Int), .slice Z wz.length cz] 24) := ⟨_, rfl⟩
          have hbb : Below W4.heap.size W4 W5 := by rw [hW5]; exact below_alloc hb5 _
          have HB5 := Aside0.mk (HB4.out.trans (hbb.mono HB4.out.size))
          have K45 := Aside0.mk (blk_below K43.out hbb)
          have K5' := Aside0.mk (show W5.heap[w5.heap.size]? = some (.cells #[.int .i64 (ids.length : Int), .slice Z wz.length cz] 24 (0, 0)) by rw [hW5]; exact blk_new w5 _)
          have HZ := Aside0.mk (show (Kd.int .u64).C W5 Z wz.length wz by rw [hW5]; exact Kd.C_alloc hC _)
          obtain ⟨y, hy2⟩ : ∃ y, y = rd bins (n : Int) := ⟨_, rfl⟩
          rw [← hy2] at HLL HBN
          have hnb : (n : Int) < (bins.length : Int) := by have := hbl.out; omega
          obtain ⟨ab, rfl, hcb⟩ := Kd.at_int H.out.r1 (n : Int) (by omega) hnb
          rw [Int.toNat_natCast, ← hy2] at hcb
          have HCB := Aside0.mk hcb
          clear hb5 hbb HB4 K43 ho hC HP' HP2 HRR HSS HJL HWF K4 K4' q4 q8 hy2 hcb hbl
          go_upto_region 9 with fail
          rw [← hW5]
          clear hW5
          have hwy : IntKind.i64.wrap (y - 1) = y - 1 := by
            have := HBN.out
            rw [IntKind.wrap_i64]
            omega
          go_cut [16, 17] from 60 to 71 (fun v16 v17 wx => ∃ (gq : Nat) (Q : Option Addr) (cq : Nat), v16 = .pointer (some ⟨gq, 0, none⟩) ∧ v17 = .int .i64 0 ∧ Aside0 (wx.heap[gq]? = some (.cells #[.int .i64 (ids.length : Int), .slice Q wl.length cq] 24 (0, 0))) ∧ Aside0 (wl.length ≤ cq ∧ (Kd.int .u64).C wx Q wl.length wl) ∧ Aside0 (Below W5.heap.size W5 wx) ∧ wl.length ≤ cq)
          case first =>
            refine start_ (n := 15) (S := fun w' => w'.cell? ⟨w.heap.size, 0, none⟩ = some (.slice A0 ids.length c0) ∧ w'.cell? ⟨w.heap.size, 1, none⟩ = some (.slice (some ab) bins.length c1) ∧ w'.cell? ⟨w.heap.size, 2, none⟩ = some (.slice A2 cols.length c2) ∧ w'.cell? (ab.add n) = some (.int .i64 y)) (ds := []) #[false, false, false, false, false, false, false, false, false, false, false, false, false, false, false] (by kernel_rfl) rfl rfl ⟨(three_cells (blk_drew K45.out)).1, (three_cells (blk_drew K45.out)).2.1, (three_cells (blk_drew K45.out)).2.2, cell_low HCB.out (below_drew HB5.out)⟩ (fun hHeld => ?_)
            have HBu := Aside0.mk (below_drew (Below.refl W5.heap.size W5))
            have HBw := Aside0.mk (below_drew HB5.out)
            have K4u := Aside0.mk (blk_drew K45.out)
            generalize W5.drew = u at HBu HBw K4u hHeld ⊢
            refine take_ (i := 0) (N := some 61) (v := ?_) (a' := ?_) #[true, false, false, false, false, false, false, false, false, false, false, false, false, false, false] rfl rfl (by kernel_rfl) (fun _ _ _ h => h) (Or.inl ⟨by rfl, ?_⟩) hHeld ?_ ?_
            rotate_left
            · intro w' hSw
              go_simp
              try with_reducible rfl
            rotate_left
            · simp only [Act.put, List.setIfInBounds_toArray, List.set_cons_zero, List.set_cons_succ, i64_w, i32_w]
              rfl
            refine pure_ (i := 1) (N := some 62) (v := ?_) (a' := ?_) #[true, true, false, false, false, false, false, false, false, false, false, false, false, false, false] rfl rfl (by kernel_rfl) (fun _ _ _ h => h) (Or.inl ⟨by rfl, ?_⟩) ?_ ?_
            rotate_left
            · intro w'
              go_simp
              try with_reducible rfl
            rotate_left
            · simp only [Act.put, List.setIfInBounds_toArray, List.set_cons_zero, List.set_cons_succ, i64_w, i32_w]
              rfl
            refine pure_ (i := 2) (N := some 63) (v := ?_) (a' := ?_) #[true, true, true, false, false, false, false, false, false, false, false, false, false, false, false] rfl rfl (by kernel_rfl) (fun _ _ _ h => h) (Or.inl ⟨by rfl, ?_⟩) ?_ ?_
            rotate_left
            · intro w'
              go_simp
              try with_reducible rfl
            rotate_left
            · simp only [Act.put, List.setIfInBounds_toArray, List.set_cons_zero, List.set_cons_succ, i64_w, i32_w]
              rfl
            refine take_ (i := 3) (N := some 64) (v := ?_) (a' := ?_) #[true, true, true, true, false, false, false, false, false, false, false, false, false, false, false] rfl rfl (by kernel_rfl) (fun _ _ _ h => h) (Or.inl ⟨by rfl, ?_⟩) hHeld ?_ ?_
            rotate_left
            · intro w' hSw
              go_simp
              try with_reducible rfl
            rotate_left
            · simp only [Act.put, List.setIfInBounds_toArray, List.set_cons_zero, List.set_cons_succ, i64_w, i32_w]
              rfl
            refine pure_ (i := 4) (N := some 65) (v := ?_) (a' := ?_) #[true, true, true, true, true, false, false, false, false, false, false, false, false, false, false] rfl rfl (by kernel_rfl) (fun _ _ _ h => h) (Or.inl ⟨by rfl, ?_⟩) ?_ ?_
            rotate_left
            · intro w'
              go_simp
              try with_reducible rfl
            rotate_left
            · simp only [Act.put, List.setIfInBounds_toArray, List.set_cons_zero, List.set_cons_succ, i64_w, i32_w]
              rfl
            refine pure_ (i := 5) (N := some 66) (v := ?_) (a' := ?_) #[true, true, true, true, true, true, false, false, false, false, false, false, false, false, false] rfl rfl (by kernel_rfl) (fun _ _ _ h => h) (Or.inl ⟨by rfl, ?_⟩) ?_ ?_
            rotate_left
            · intro w'
              go_simp
              try with_reducible rfl
            rotate_left
            · simp only [Act.put, List.setIfInBounds_toArray, List.set_cons_zero, List.set_cons_succ, i64_w, i32_w]
              rfl
            refine take_ (i := 6) (N := some 67) (v := ?_) (a' := ?_) #[true, true, true, true, true, true, true, false, false, false, false, false, false, false, false] rfl rfl (by kernel_rfl) (fun _ _ _ h => h) (Or.inl ⟨by rfl, ?_⟩) hHeld ?_ ?_
            rotate_left
            · intro w' hSw
              go_simp
              try with_reducible rfl
            rotate_left
            · simp only [Act.put, List.setIfInBounds_toArray, List.set_cons_zero, List.set_cons_succ, i64_w, i32_w]
              rfl
            refine pure_ (i := 7) (N := some 68) (v := ?_) (a' := ?_) #[true, true, true, true, true, true, true, true, false, false, false, false, false, false, false] rfl rfl (by kernel_rfl) (fun _ _ _ h => h) (Or.inl ⟨by rfl, ?_⟩) ?_ ?_
            rotate_left
            · intro w'
              go_simp
              try with_reducible rfl
            rotate_left
            · simp only [Act.put, List.setIfInBounds_toArray, List.set_cons_zero, List.set_cons_succ, i64_w, i32_w]
              rfl
            refine two_ (i := 8) (j := 12) (Ni := some 69) (Nj := some 16) #[true, true, true, true, true, true, true, true, true, false, false, false, false, false, false] #[true, true, true, true, true, true, true, true, false, false, false, false, true, false, false] rfl rfl rfl rfl (by kernel_rfl) (by decide) (by decide) (fun K hK => ?_) (fun K hK => ?_)
            · skip
              refine goes_ Try.func37 (by kernel_rfl) rfl #[.agg #[.slice A0 ids.length c0, .slice (some ab) bins.length c1, .slice A2 cols.length c2], .int .i64 (n : Int), .int .i64 (y - 1)] (by rfl) rfl rfl (by first | rfl | (simp [Act.eval, Operand.eval]; done) | kernel_rfl) ?_
              refine (left_calls A0 (some ab) A2 c0 c1 c2 ids bins cols (n : Int) (y - 1) _ (H.out.below HBw.out)).mono ?_
              rw [HLL.out]
              rintro e ul ⟨V, rfl, ho, hb⟩
              obtain ⟨Q, cq, rfl, hq, _⟩ := Kd.R_reads ho
              change wl.length ≤ cq at hq
              refine ⟨_, rfl, ?_⟩
              replace ho := Kd.R_lower ho HBu.out.size
              have RQn := Aside0.mk ho
              have HBun := Aside0.mk (HBu.out.trans (hb.mono HBu.out.size))
              have HBwn := Aside0.mk (HBw.out.trans (hb.mono HBw.out.size))
              have K4un := Aside0.mk (blk_below K4u.out hb)
              clear hb HBu HBw K4u ho
              have HBu := HBun
              have HBw := HBwn
              have K4u := K4un
              have RQ := RQn
              clear HBun HBwn K4un RQn
              refine hK.out _ _ ⟨(three_cells K4u.out).1, (three_cells K4u.out).2.1, (three_cells K4u.out).2.2, cell_low HCB.out HBw.out⟩ (fun hHeld => ?_)
              clear hK K
              refine norm_ (a' := ?_) ?_ ?_
              rotate_left
              · show Act.put _ (some 69) _ = _
                simp only [Act.put, List.setIfInBounds_toArray, List.set_cons_zero, List.set_cons_succ, i64_w, i32_w]
                rfl
              refine pure_ (i := 9) (N := some 60) (v := ?_) (a' := ?_) #[true, true, true, true, true, true, true, true, true, true, false, false, false, false, false] rfl rfl (by kernel_rfl) (fun _ _ _ h => h) (Or.inl ⟨by rfl, ?_⟩) ?_ ?_
              rotate_left
              · intro w'
                go_simp
                try with_reducible rfl
              rotate_left
              · simp only [Act.put, List.setIfInBounds_toArray, List.set_cons_zero, List.set_cons_succ, i64_w, i32_w]
                rfl
              refine pure_ (i := 10) (N := some 70) (v := ?_) (a' := ?_) #[true, true, true, true, true, true, true, true, true, true, true, false, false, false, false] rfl rfl (by kernel_rfl) (fun _ _ _ h => h) (Or.inl ⟨by rfl, ?_⟩) ?_ ?_
              rotate_left
              · intro w'
                go_simp
                try with_reducible rfl
              rotate_left
              · simp only [Act.put, List.setIfInBounds_toArray, List.set_cons_zero, List.set_cons_succ, i64_w, i32_w]
                rfl
              refine pure_ (i := 11) (N := some 71) (v := ?_) (a' := ?_) #[true, true, true, true, true, true, true, true, true, true, true, true, false, false, false] rfl rfl (by kernel_rfl) (fun _ _ _ h => h) (Or.inl ⟨by rfl, ?_⟩) ?_ ?_
              rotate_left
              · intro w'
                go_simp
                try with_reducible rfl
              rotate_left
              · simp only [Act.put, List.setIfInBounds_toArray, List.set_cons_zero, List.set_cons_succ, i64_w, i32_w]
                rfl
              refine one_ (i := 12) (N := some 16) #[true, true, true, true, true, true, true, true, true, true, true, true, true, false, false] rfl rfl (by kernel_rfl) (by decide) (fun K hK => ?_)
              refine box_step (by rfl) (N := 16) rfl (cs := zBt) (t := 24) (by go_simp) ?_
              intro gq hgq ua hkq hb
              have GQ := Aside0.mk (show W5.heap.size ≤ gq by rw [hgq]; exact HBu.out.size)
              clear hgq
              have KQn := Aside0.mk hkq
              have RQn := Aside0.mk (Kd.R_below RQ.out hb)
              have HBun := Aside0.mk (HBu.out.trans (hb.mono HBu.out.size))
              have HBwn := Aside0.mk (HBw.out.trans (hb.mono HBw.out.size))
              have K4un := Aside0.mk (blk_below K4u.out hb)
              clear hb HBu HBw K4u hkq RQ
              have HBu := HBun
              have HBw := HBwn
              have K4u := K4un
              have KQ := KQn
              have RQ := RQn
              clear HBun HBwn K4un KQn RQn
              refine hK.out _ _ ⟨(three_cells K4u.out).1, (three_cells K4u.out).2.1, (three_cells K4u.out).2.2, cell_low HCB.out HBw.out⟩ (fun hHeld => ?_)
              clear hK K
              refine norm_ (a' := ?_) ?_ ?_
              rotate_left
              · show Act.put _ (some 16) _ = _
                simp only [Act.put, List.setIfInBounds_toArray, List.set_cons_zero, List.set_cons_succ, i64_w, i32_w]
                rfl
              obtain ⟨b0_, b1_⟩ := Bo.two_cells KQ.out
              obtain ⟨f0_, f1_⟩ := Bo.two_frozen KQ.out
              have hne : w.heap.size ≠ gq := by have := blk_lt K45.out; have := GQ.out; omega
              have hq1 := blk_put (cs' := #[.int .i64 (ids.length : Int), .slice Q wl.length cq]) (blk_put (cs' := #[.int .i64 (ids.length : Int), .slice none 0 0]) KQ.out 0 (.int .i64 (ids.length : Int)) rfl) 1 (.slice Q wl.length cq) rfl
              have hbu := below_set (j := 1) (v := .slice Q wl.length cq) (below_set (j := 0) (v := .int .i64 (ids.length : Int)) HBu.out GQ.out) GQ.out
              have hbw := HB5.out.trans (hbu.mono HB5.out.size)
              have hk4 := blk_below K45.out hbu
              have hrq := Lw.R_put2 RQ.out KQ.out (.int .i64 (ids.length : Int)) (.slice Q wl.length cq)
              refine one_ (i := 13) (N := none) #[true, true, true, true, true, true, true, true, true, true, true, true, true, true, false] rfl rfl (by kernel_rfl) (by decide) (fun K hK => ?_)
              refine skip_ (w1 := (ua.setCell ⟨gq, 0, none⟩ (.int .i64 (ids.length : Int))).setCell ⟨gq, 1, none⟩ (.slice Q wl.length cq)) (by rfl) rfl (by go_simp) ?_
              refine hK.out _ _ ⟨(three_cells hk4).1, (three_cells hk4).2.1, (three_cells hk4).2.2, cell_low HCB.out hbw⟩ (fun hHeld => ?_)
              clear hK K
              refine pure_ (i := 14) (N := some 17) (v := ?_) (a' := ?_) #[true, true, true, true, true, true, true, true, true, true, true, true, true, true, true] rfl rfl (by kernel_rfl) (fun _ _ _ h => h) (Or.inl ⟨by rfl, ?_⟩) ?_ ?_
              rotate_left
              · intro w'
                go_simp
                try with_reducible rfl
              rotate_left
              · simp only [Act.put, List.setIfInBounds_toArray, List.set_cons_zero, List.set_cons_succ, i64_w, i32_w]
                rfl
              refine done_ (by kernel_rfl) ?_
              go_wp2_with fail
              go_meet
              case rel => exact ⟨gq, Q, cq, rfl, rfl, ⟨hq1⟩, ⟨(Kd.R_reads' hrq).2⟩, ⟨hbu⟩, hq⟩
            · skip
              refine box_step (by rfl) (N := 16) rfl (cs := zBt) (t := 24) (by go_simp) ?_
              intro gq hgq ua hkq hb
              have GQ := Aside0.mk (show W5.heap.size ≤ gq by rw [hgq]; exact HBu.out.size)
              clear hgq
              have KQn := Aside0.mk hkq
              have HBun := Aside0.mk (HBu.out.trans (hb.mono HBu.out.size))
              have HBwn := Aside0.mk (HBw.out.trans (hb.mono HBw.out.size))
              have K4un := Aside0.mk (blk_below K4u.out hb)
              clear hb HBu HBw K4u hkq
              have HBu := HBun
              have HBw := HBwn
              have K4u := K4un
              have KQ := KQn
              clear HBun HBwn K4un KQn
              refine hK.out _ _ ⟨(three_cells K4u.out).1, (three_cells K4u.out).2.1, (three_cells K4u.out).2.2, cell_low HCB.out HBw.out⟩ (fun hHeld => ?_)
              clear hK K
              refine norm_ (a' := ?_) ?_ ?_
              rotate_left
              · show Act.put _ (some 16) _ = _
                simp only [Act.put, List.setIfInBounds_toArray, List.set_cons_zero, List.set_cons_succ, i64_w, i32_w]
                rfl
              refine one_ (i := 8) (N := some 69) #[true, true, true, true, true, true, true, true, true, false, false, false, true, false, false] rfl rfl (by kernel_rfl) (by decide) (fun K hK => ?_)
              refine goes_ Try.func37 (by kernel_rfl) rfl #[.agg #[.slice A0 ids.length c0, .slice (some ab) bins.length c1, .slice A2 cols.length c2], .int .i64 (n : Int), .int .i64 (y - 1)] (by rfl) rfl rfl (by first | rfl | (simp [Act.eval, Operand.eval]; done) | kernel_rfl) ?_
              refine (left_calls A0 (some ab) A2 c0 c1 c2 ids bins cols (n : Int) (y - 1) _ (H.out.below HBw.out)).mono ?_
              rw [HLL.out]
              rintro e ul ⟨V, rfl, ho, hb⟩
              obtain ⟨Q, cq, rfl, hq, _⟩ := Kd.R_reads ho
              change wl.length ≤ cq at hq
              refine ⟨_, rfl, ?_⟩
              replace ho := Kd.R_lower ho HBu.out.size
              have RQn := Aside0.mk ho
              have KQn := Aside0.mk (blk_below KQ.out hb)
              have HBun := Aside0.mk (HBu.out.trans (hb.mono HBu.out.size))
              have HBwn := Aside0.mk (HBw.out.trans (hb.mono HBw.out.size))
              have K4un := Aside0.mk (blk_below K4u.out hb)
              clear hb HBu HBw K4u ho KQ
              have HBu := HBun
              have HBw := HBwn
              have K4u := K4un
              have RQ := RQn
              have KQ := KQn
              clear HBun HBwn K4un RQn KQn
              refine hK.out _ _ ⟨(three_cells K4u.out).1, (three_cells K4u.out).2.1, (three_cells K4u.out).2.2, cell_low HCB.out HBw.out⟩ (fun hHeld => ?_)
              clear hK K
              refine norm_ (a' := ?_) ?_ ?_
              rotate_left
              · show Act.put _ (some 69) _ = _
                simp only [Act.put, List.setIfInBounds_toArray, List.set_cons_zero, List.set_cons_succ, i64_w, i32_w]
                rfl
              refine pure_ (i := 9) (N := some 60) (v := ?_) (a' := ?_) #[true, true, true, true, true, true, true, true, true, true, false, false, true, false, false] rfl rfl (by kernel_rfl) (fun _ _ _ h => h) (Or.inl ⟨by rfl, ?_⟩) ?_ ?_
              rotate_left
              · intro w'
                go_simp
                try with_reducible rfl
              rotate_left
              · simp only [Act.put, List.setIfInBounds_toArray, List.set_cons_zero, List.set_cons_succ, i64_w, i32_w]
                rfl
              refine pure_ (i := 10) (N := some 70) (v := ?_) (a' := ?_) #[true, true, true, true, true, true, true, true, true, true, true, false, true, false, false] rfl rfl (by kernel_rfl) (fun _ _ _ h => h) (Or.inl ⟨by rfl, ?_⟩) ?_ ?_
              rotate_left
              · intro w'
                go_simp
                try with_reducible rfl
              rotate_left
              · simp only [Act.put, List.setIfInBounds_toArray, List.set_cons_zero, List.set_cons_succ, i64_w, i32_w]
                rfl
              refine pure_ (i := 11) (N := some 71) (v := ?_) (a' := ?_) #[true, true, true, true, true, true, true, true, true, true, true, true, true, false, false] rfl rfl (by kernel_rfl) (fun _ _ _ h => h) (Or.inl ⟨by rfl, ?_⟩) ?_ ?_
              rotate_left
              · intro w'
                go_simp
                try with_reducible rfl
              rotate_left
              · simp only [Act.put, List.setIfInBounds_toArray, List.set_cons_zero, List.set_cons_succ, i64_w, i32_w]
                rfl
              obtain ⟨b0_, b1_⟩ := Bo.two_cells KQ.out
              obtain ⟨f0_, f1_⟩ := Bo.two_frozen KQ.out
              have hne : w.heap.size ≠ gq := by have := blk_lt K45.out; have := GQ.out; omega
              have hq1 := blk_put (cs' := #[.int .i64 (ids.length : Int), .slice Q wl.length cq]) (blk_put (cs' := #[.int .i64 (ids.length : Int), .slice none 0 0]) KQ.out 0 (.int .i64 (ids.length : Int)) rfl) 1 (.slice Q wl.length cq) rfl
              have hbu := below_set (j := 1) (v := .slice Q wl.length cq) (below_set (j := 0) (v := .int .i64 (ids.length : Int)) HBu.out GQ.out) GQ.out
              have hbw := HB5.out.trans (hbu.mono HB5.out.size)
              have hk4 := blk_below K45.out hbu
              have hrq := Lw.R_put2 RQ.out KQ.out (.int .i64 (ids.length : Int)) (.slice Q wl.length cq)
              refine one_ (i := 13) (N := none) #[true, true, true, true, true, true, true, true, true, true, true, true, true, true, false] rfl rfl (by kernel_rfl) (by decide) (fun K hK => ?_)
              refine skip_ (w1 := (ul.setCell ⟨gq, 0, none⟩ (.int .i64 (ids.length : Int))).setCell ⟨gq, 1, none⟩ (.slice Q wl.length cq)) (by rfl) rfl (by go_simp) ?_
              refine hK.out _ _ ⟨(three_cells hk4).1, (three_cells hk4).2.1, (three_cells hk4).2.2, cell_low HCB.out hbw⟩ (fun hHeld => ?_)
              clear hK K
              refine pure_ (i := 14) (N := some 17) (v := ?_) (a' := ?_) #[true, true, true, true, true, true, true, true, true, true, true, true, true, true, true] rfl rfl (by kernel_rfl) (fun _ _ _ h => h) (Or.inl ⟨by rfl, ?_⟩) ?_ ?_
              rotate_left
              · intro w'
                go_simp
                try with_reducible rfl
              rotate_left
              · simp only [Act.put, List.setIfInBounds_toArray, List.set_cons_zero, List.set_cons_succ, i64_w, i32_w]
                rfl
              refine done_ (by kernel_rfl) ?_
              go_wp2_with fail
              go_meet
              case rel => exact ⟨gq, Q, cq, rfl, rfl, ⟨hq1⟩, ⟨(Kd.R_reads' hrq).2⟩, ⟨hbu⟩, hq⟩
          case rest =>
            obtain ⟨gq, Q, cq, rfl, rfl, KQ, HQ, HBu, hq⟩ := hcut
            have HBW := Aside0.mk (HB5.out.trans (HBu.out.mono HB5.out.size))
            have KC := Aside0.mk (blk_below K5'.out HBu.out)
            have KT := Aside0.mk (blk_below K45.out HBu.out)
            have HZc := Aside0.mk (Kd.C_below HZ.out HBu.out)
            clear HBu HB5 K5' K45 HZ
            have HD := Aside0.mk (show Held wc wc.drew from ⟨below_drew (Below.refl _ _)⟩)
            have hn0 : ((ids.length : Int) == (ids.length : Int)) = true := by simp
            have hhd : Held wc wc.drew := HD.out
            obtain ⟨p1, p2⟩ := held_two hhd KC.out
            obtain ⟨p3, p4⟩ := held_two hhd KQ.out
            have p5 := held_three hhd KT.out
            clear HD HLL HCB HBN hnb hwy HT HLH
            go_upto_region 10 with fail
            go_region_held3 (fun w' => w'.cell? ⟨w5.heap.size, 0, none⟩ = some (.int .i64 (ids.length : Int)) ∧ w'.cell? ⟨w5.heap.size, 1, none⟩ = some (.slice Z wz.length cz) ∧ w'.cell? ⟨gq, 0, none⟩ = some (.int .i64 (ids.length : Int)) ∧ w'.cell? ⟨gq, 1, none⟩ = some (.slice Q wl.length cq) ∧ w'.cell? ⟨w.heap.size, 0, none⟩ = some (.slice A0 ids.length c0) ∧ Held wc w') (refine ⟨?_, ?_, ?_, ?_, ?_, ?_⟩ <;> assumption)
            (first
              | (go_at_call_of 27 (Value.agg #[.int .i64 (ids.length : Int), .slice Z wz.length cz]); refine (count_held (by assumption : Held wc _) HZc.out hz HC.out.1).mono ?_; rintro e w' ⟨rfl, hH⟩; obtain ⟨p1, p2⟩ := held_two hH KC.out; obtain ⟨p3, p4⟩ := held_two hH KQ.out; have p5 := held_three hH KT.out)
              | (go_at_call_of 27 (Value.agg #[.int .i64 (ids.length : Int), .slice Q wl.length cq]); refine (count_held (by assumption : Held wc _) HQ.out.2 hq HC.out.2).mono ?_; rintro e w' ⟨rfl, hH⟩; obtain ⟨p1, p2⟩ := held_two hH KC.out; obtain ⟨p3, p4⟩ := held_two hH KQ.out; have p5 := held_three hH KT.out))
            all_goals go_wp2_with fail
            all_goals go_ret
            all_goals exact ⟨rfl, HBW.out.trans ((Held.out (by assumption : Held wc _)).mono HBW.out.size)⟩
theorem cuts_walk (x : Tb × At) (m : Int) (y : Int × Int) (w : World) (h : IsT w x.2 x.1 ∧ Nums x.1) (hm : (Lit.int .i64 m).wf = true) (hy : True) :
    Calls Try.prog 12 #[.agg (atV x.2 x.1), .int .i64 m, .agg #[.int .i64 y.1, .int .i64 y.2]] w fun e w' => e = .returned (.bool true) ∧ Below w.heap.size w w' := cuts_calls _ _ _ _ _ _ _ _ _ m y.1 y.2 w h.1
end Go.Proofs.Ytdlkcohfgfnkbaa.Cw
