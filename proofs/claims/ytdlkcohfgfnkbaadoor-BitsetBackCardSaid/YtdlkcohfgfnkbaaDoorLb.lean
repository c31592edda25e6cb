/- BitsetBack: the walk. -/
import Derived.Test.YtdlkcohfgfnkbaaDoorLt
import Derived.Test.YtdlkcohfgfnkbaaDoorBo
namespace Go.Proofs.YtdlkcohfgfnkbaaDoor.Lt
open Go.RowKit Go.Proofs.YtdlkcohfgfnkbaaDoor.PBitsetTells Go.Proofs.YtdlkcohfgfnkbaaDoor.Fns Go.Proofs.YtdlkcohfgfnkbaaDoor.Bp Go.Proofs.YtdlkcohfgfnkbaaDoor.Bo Go.Proofs.YtdlkcohfgfnkbaaDoor.Ls Go.Proofs.YtdlkcohfgfnkbaaDoor.Ob Go.Proofs.YtdlkcohfgfnkbaaDoor.Tz Go.Proofs.YtdlkcohfgfnkbaaDoorW.PrintWords Go.Proofs.YtdlkcohfgfnkbaaDoorW.PrintLast Go.Proofs.YtdlkcohfgfnkbaaDoorW.PrintMore
set_option linter.unusedSimpArgs false
set_option linter.unusedVariables false

theorem of_one : ofS 1 [0] = (1, [1], 0) := by
  rw [ofS_good 1 [0] (by omega) (by decide)]
  rfl
set_option maxRecDepth 100000 in
set_option maxHeartbeats 2000000 in
theorem back_calls (N : Int) (ws : List Int) (A : Option Addr) (c : Nat) (w : World) (ha : IsBt w A c (N, ws)) (hT : Tab w) :
    Calls Tryd.prog 4 #[.agg #[.int .i64 N, .slice A ws.length c]] w fun e w' => e = .returned (.bool true) ∧ Below w.heap.size w w' := by
  have HA := Aside0.mk ha
  have HT := Aside0.mk hT
  obtain ⟨q, hq⟩ : ∃ q, ([⟨N, ws⟩] : List S24).all (fun s => decide (s.f1.length ≤ 2000)) = q := ⟨_, rfl⟩
  obtain ⟨kf, hkf⟩ := (ref_few [⟨N, ws⟩] (by simp)).rounds
  rw [hq] at hkf
  have HF := Aside0.mk hkf
  have HQ := Aside0.mk hq
  have hcap : ws.length ≤ c := ha.cap
  clear ha hq hkf hT
  go_enter Tryd.func4, Tryd.ntmps4
  go_wp2_with fail
  obtain ⟨W0, hW0⟩ : ∃ W, W = w.alloc (.cells #[.int .i64 N, .slice A ws.length c] 24) := ⟨_, rfl⟩
  have hz0 : W0.heap.size = w.heap.size + 1 := by rw [hW0, World.size_alloc]
  have hB0 : Below w.heap.size w W0 := by rw [hW0]; exact below_alloc (Below.refl _ _) _
  have kA : W0.heap[w.heap.size]? = some (.cells #[.int .i64 N, .slice A ws.length c] 24 (0, 0)) := by rw [hW0]; exact blk_new w _
  have hfew := few_one W0 N A c ws hcap (Kd.C_below HA.out.reads hB0) (0, 0)
  rw [← hz0, ← hW0]
  have HB0 := Aside0.mk hB0
  have HK0 := Aside0.mk kA
  refine (windbreaklaw14_few.calls kf (some ⟨W0.heap.size, 0, none⟩) 1 _ q _ hfew (by simp) HF.out).mono ?_
  rintro e w1 ⟨rfl, hd⟩
  have HB01 := below_alloc (Below.refl _ W0) (.cells #[.int .i64 N, .slice A ws.length c] 24) |>.trans (hd.below.mono (below_alloc (Below.refl _ W0) _).size)
  have HB1 := Aside0.mk (HB0.out.trans (HB01.mono HB0.out.size))
  have HK1 := Aside0.mk (blk_below HK0.out HB01)
  clear hW0 hz0 kA hfew hB0 hd HB01 HB0 HK0
  cases q with
  | false =>
    go_wp2_with fail
    go_ret
    exact ⟨rfl, HB1.out⟩
  | true =>
    have hl2 : ws.length ≤ 2000 := by have := HQ.out; simpa using this
    obtain ⟨kr, hkr⟩ := (ref_right N ws HA.out.wf (by omega)).rounds
    obtain ⟨r, hr⟩ : ∃ r, rightB N ws = r := ⟨_, rfl⟩
    rw [hr] at hkr
    have HKR := Aside0.mk hkr
    have HRB := Aside0.mk hr
    clear hkr hr
    obtain ⟨a0, a1⟩ := Ls.two_cells HK1.out
    go_wp2_with fail
    clear a0 a1
    refine (windbreakref14_Right.calls kr N A c ws r _ (Kd.C_below HA.out.reads HB1.out) hcap HKR.out).mono ?_
    rintro e w2 ⟨rfl, hb2⟩
    have HB2 := Aside0.mk (HB1.out.trans (hb2.mono HB1.out.size))
    have HK2 := Aside0.mk (blk_below HK1.out hb2)
    clear hb2 HB1 HK1
    go_wp2_with fail
    have hc0 := const_reads w2 3 (0, 0) .i64 [0] (by simp)
    refine (of_calls 1 (some ⟨w2.heap.size, 0, none⟩) 1 [0] _ hc0 (by simp) 1 [1] 0 of_one).mono ?_
    rintro e w3 ⟨v3, rfl, h3, hb3⟩
    have HB23 := below_alloc (Below.refl _ w2) (.cells #[.int .i64 0] 3) |>.trans (hb3.mono (below_alloc (Below.refl _ w2) _).size)
    obtain ⟨A3, c3, rfl, l3, r3⟩ := Kd.R_reads h3
    obtain ⟨W4, hW4⟩ : ∃ W, W = w3.alloc (.cells #[.int .i64 1, .slice A3 1 c3] 24) := ⟨_, rfl⟩
    have HB4 := Aside0.mk (show Below w.heap.size w W4 by rw [hW4]; exact below_alloc (HB2.out.trans (HB23.mono HB2.out.size)) _)
    have HK4 := Aside0.mk (show W4.heap[w.heap.size]? = some (.cells #[.int .i64 N, .slice A ws.length c] 24 (0, 0)) by rw [hW4]; exact blk_alloc (blk_below HK2.out HB23) _)
    have HK4' := Aside0.mk (show W4.heap[w3.heap.size]? = some (.cells #[.int .i64 1, .slice A3 1 c3] 24 (0, 0)) by rw [hW4]; exact blk_new w3 _)
    obtain ⟨a0, a1⟩ := Ls.two_cells HK4'.out
    rw [hW4] at a0 a1
    clear h3 hb3 r3 hc0 HB23 HB2 HK2
    cases r with
    | false =>
      go_wp2_with fail
      go_ret
      rw [← hW4]
      exact ⟨rfl, HB4.out⟩
    | true =>
      obtain ⟨e0, e1⟩ := Ls.two_cells HK4.out
      rw [hW4] at e0 e1
      go_wp2_with fail
      rw [← hW4]
      clear a0 a1 e0 e1 hW4
      refine (list_calls N A c ws _ (Kd.C_below HA.out.reads HB4.out) hcap HA.out.wf hl2 (tab_below HT.out HB4.out)).mono ?_
      rintro e w5 ⟨v5, rfl, h5, hb5⟩
      have HL := Aside0.mk (listS_len N ws)
      have HOF := Aside0.mk (of_list HA.out.wf HRB.out)
      have HCN := Aside0.mk (count_list N ws)
      obtain ⟨kc, hkc⟩ := (prog_count N ws HA.out.wf (by omega)).rounds
      have HKC := Aside0.mk hkc
      obtain ⟨L, hL⟩ : ∃ L, L = listS N ws := ⟨_, rfl⟩
      rw [← hL] at h5 HL HOF HCN
      rw [HCN.out] at HKC
      obtain ⟨A5, c5, rfl, l5, r5⟩ := Kd.R_reads h5
      have HR5 := Aside0.mk r5
      have HB5 := Aside0.mk (HB4.out.trans (hb5.mono HB4.out.size))
      have HK5 := Aside0.mk (blk_below HK4.out hb5)
      clear h5 hb5 r5 hkc hL HB4 HK4 HK4'
      obtain ⟨a0, a1⟩ := Ls.two_cells HK5.out
      go_wp2_with fail
      clear a0 a1
      refine (of_calls N A5 c5 L _ HR5.out (by have := HL.out; omega) N ws 0 HOF.out).mono ?_
      rintro e w6 ⟨v6, rfl, h6, hb6⟩
      obtain ⟨A6, c6, rfl, l6, r6⟩ := Kd.R_reads h6
      obtain ⟨W6, hW6⟩ : ∃ W, W = w6.alloc (.cells #[.int .i64 N, .slice A6 ws.length c6] 24) := ⟨_, rfl⟩
      have HB6 := Aside0.mk (show Below w.heap.size w W6 by rw [hW6]; exact below_alloc (HB5.out.trans (hb6.mono HB5.out.size)) _)
      have HK6 := Aside0.mk (show W6.heap[w.heap.size]? = some (.cells #[.int .i64 N, .slice A ws.length c] 24 (0, 0)) by rw [hW6]; exact blk_alloc (blk_below HK5.out hb6) _)
      have HK6' := Aside0.mk (show W6.heap[w6.heap.size]? = some (.cells #[.int .i64 N, .slice A6 ws.length c6] 24 (0, 0)) by rw [hW6]; exact blk_new w6 _)
      have HR6 := Aside0.mk (show Kd.C (Kd.int .u64) W6 A6 ws.length ws by rw [hW6]; exact Kd.C_alloc r6 _)
      obtain ⟨a0, a1⟩ := Ls.two_cells HK6.out
      obtain ⟨b0, b1⟩ := Ls.two_cells HK6'.out
      rw [hW6] at a0 a1 b0 b1
      clear h6 hb6 r6 HB5 HK5
      go_wp2_with fail
      rw [← hW6]
      clear a0 a1 b0 b1 hW6
      obtain ⟨ks, hks⟩ := (ref_same N ws (by omega)).rounds
      refine (windbreakref14_Same.calls ks N A6 c6 ws N A c ws true _ HR6.out l6 (Kd.C_below HA.out.reads HB6.out) hcap hks).mono ?_
      rintro e w7 ⟨rfl, hb7⟩
      have HB7 := Aside0.mk (HB6.out.trans (hb7.mono HB6.out.size))
      have HK7 := Aside0.mk (blk_below HK6.out hb7)
      clear hb7 hks HB6 HK6 HK6' HR6
      obtain ⟨a0, a1⟩ := Ls.two_cells HK7.out
      go_wp2_with fail
      clear a0 a1
      refine (bitset_Count.calls kc N A c ws _ _ (Kd.C_below HA.out.reads HB7.out) hcap HKC.out).mono ?_
      rintro e w8 ⟨rfl, hb8⟩
      have HB8 := Aside0.mk (HB7.out.trans (hb8.mono HB7.out.size))
      clear hb8
      go_wp2_with fail
      go_ret
      exact ⟨by simp, HB8.out⟩
end Go.Proofs.YtdlkcohfgfnkbaaDoor.Lt
