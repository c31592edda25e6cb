/- DatasetAligns: the walk. -/
import Derived.Test.YtdlkcohfgfnkbaaAr
import Derived.Test.YtdlkcohfgfnkbaaAw
import Derived.Test.YtdlkcohfgfnkbaaOt
namespace Go.Proofs.Ytdlkcohfgfnkbaa.Ag
open Go.RowKit Go.Proofs.Ytdlkcohfgfnkbaa.PDatasetJoins Go.Proofs.Ytdlkcohfgfnkbaa.DFns Go.Proofs.Ytdlkcohfgfnkbaa.Tp Go.Proofs.Ytdlkcohfgfnkbaa.Tr Go.Proofs.Ytdlkcohfgfnkbaa.Il Go.Proofs.Ytdlkcohfgfnkbaa.Al Go.Proofs.Ytdlkcohfgfnkbaa.Mp Go.Proofs.YtdlkcohfgfnkbaaW.PrintWords Go.Proofs.YtdlkcohfgfnkbaaW.PrintLast Go.Proofs.YtdlkcohfgfnkbaaW.PrintMore
set_option linter.unusedSimpArgs false
set_option linter.unusedVariables false

theorem srt_len (l : List Int) : (srt l).length = l.length := by unfold srt; exact (List.mergeSort_perm _ _).length_eq
theorem align_len (l : List (List Int)) : (alignP l).1.length ≤ 256 := by
  unfold alignP
  by_cases h : manyL l = 0
  · rw [if_pos h]
    obtain ⟨h0, _, hi⟩ := many_zero h
    show (srt _).length ≤ 256
    rw [srt_len]
    exact Nat.le_trans (oF_len _ _ _) (ids_facts (hi _ (Ai.getD_mem l _ (by omega)))).1
  · rw [if_neg h]
    exact Nat.zero_le _
set_option maxRecDepth 100000 in
set_option maxHeartbeats 400000 in
theorem aligns_calls (A : Option Addr) (c : Nat) (l : List (List Int)) (w : World) (hr : Kd.C (Kd.slice 3 (Kd.int .i64)) w A l.length l) (hl : l.length ≤ 140737488351232) (hz : ∀ x ∈ l, x.length ≤ 140737488351232) :
    Calls Try.prog 6 #[.slice A l.length c] w fun e w' => e = .returned (.bool true) ∧ Below w.heap.size w w' := by
  have HN := Aside0.mk (align_len l)
  obtain ⟨r, hrr⟩ : ∃ r, r = alignP l := ⟨_, rfl⟩
  have HR := Aside0.mk hr
  have HZ := Aside0.mk hz
  rw [← hrr] at HN
  have HRR := Aside0.mk hrr
  clear hr hrr hz
  obtain ⟨rl, E⟩ := r
  go_enter Try.func6, Try.ntmps6
  go_wp2_with fail
  refine (Al.awake_calls _).mono ?_
  rintro e w2 ⟨rfl, hb2⟩
  have HB2 := Aside0.mk hb2
  clear hb2
  go_wp2_with fail
  refine (align_calls A c l _ (Kd.C_below HR.out HB2.out) hl HZ.out rl E HRR.out.symm).mono ?_
  rintro e w3 ⟨v3, rfl, h3, hb3⟩
  obtain ⟨A3, c3, rfl, l3, r3⟩ := Kd.R_reads h3
  have HB3 := Aside0.mk (HB2.out.trans (hb3.mono HB2.out.size))
  have H3 := Aside0.mk r3
  clear hb3 HB2 h3 r3
  go_wp2_with fail
  refine (Ai.ref_align_calls A c l _ (Kd.C_below HR.out HB3.out)).mono ?_
  rw [← HRR.out]
  rintro e w4 ⟨v4, rfl, h4, hb4⟩
  obtain ⟨A4, c4, rfl, l4, r4⟩ := Kd.R_reads h4
  have HB4 := Aside0.mk (HB3.out.trans (hb4.mono HB3.out.size))
  have H4 := Aside0.mk r4
  have H3' := Aside0.mk (Kd.C_below H3.out hb4)
  clear hb4 HB3 h4 r4 H3
  go_wp2_with fail
  obtain ⟨k, hk⟩ := (ref_sameInts rl rl (by have h2 : rl.length ≤ 256 := HN.out; omega)).rounds
  refine (windbreakref12_SameInts.calls k A3 c3 rl A4 c4 rl _ _ H3'.out l3 H4.out l4 hk).mono ?_
  rintro e w5 ⟨rfl, hd⟩
  have HB5 := Aside0.mk (HB4.out.trans (hd.below.mono HB4.out.size))
  clear hd
  rw [decide_eq_true rfl]
  go_wp2_with fail
  go_ret
  exact ⟨by simp, HB5.out⟩
theorem aligns_walk (x : List (List Int) × Option Addr × Nat) (w : World) (h : x.1.length ≤ x.2.2 ∧ (Kd.slice 3 (Kd.int .i64)).C w x.2.1 x.1.length x.1 ∧ x.1.length ≤ 140737488351232 ∧ ∀ y ∈ x.1, y.length ≤ 140737488351232 ∧ ∀ z ∈ y, I64 z) :
    Calls Try.prog 6 #[.slice x.2.1 x.1.length x.2.2] w fun e w' => e = .returned (.bool true) ∧ Below w.heap.size w w' := aligns_calls _ _ _ w h.2.1 h.2.2.1 (fun y hy => (h.2.2.2 y hy).1)
end Go.Proofs.Ytdlkcohfgfnkbaa.Ag
