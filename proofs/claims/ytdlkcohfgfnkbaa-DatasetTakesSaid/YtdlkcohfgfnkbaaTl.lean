/- Tables: DatasetTakes: the walk. -/
import Derived.Test.YtdlkcohfgfnkbaaTa
import Derived.Test.YtdlkcohfgfnkbaaAw
namespace Go.Proofs.Ytdlkcohfgfnkbaa.Ta
open Go.RowKit Go.Maps Go.Proofs.Ytdlkcohfgfnkbaa.PDatasetJoins Go.Proofs.Ytdlkcohfgfnkbaa.DFns Go.Proofs.Ytdlkcohfgfnkbaa.Tp Go.Proofs.Ytdlkcohfgfnkbaa.Tk Go.Proofs.Ytdlkcohfgfnkbaa.Tr Go.Proofs.Ytdlkcohfgfnkbaa.Ot Go.Proofs.Ytdlkcohfgfnkbaa.Mp Go.Proofs.YtdlkcohfgfnkbaaW.PrintWords Go.Proofs.YtdlkcohfgfnkbaaW.PrintLast Go.Proofs.YtdlkcohfgfnkbaaW.PrintMore
set_option linter.unusedSimpArgs false
set_option linter.unusedVariables false

theorem take_lens (ids bins : List Int) (cols : List (List Int)) (xs : List Int) : (takeP ids bins cols xs).1.length ≤ 256 ∧ (takeP ids bins cols xs).2.1.length ≤ 16 ∧ (takeP ids bins cols xs).2.2.1.length ≤ 16 ∧ ∀ c ∈ (takeP ids bins cols xs).2.2.1, c.length ≤ 256 := by
  unfold takeP
  split
  · rename_i h
    have h1 := (Tk.ids_facts h.2.1).1
    have h2 := tab_facts h.1
    refine ⟨h1, by show bins.length ≤ 16; omega, by show (cols.map (colT ids xs)).length ≤ 16; rw [List.length_map]; omega, fun c hc => ?_⟩
    obtain ⟨c', _, rfl⟩ := List.mem_map.1 hc
    rw [colT_len]
    exact h1
  · exact ⟨Nat.zero_le _, Nat.zero_le _, Nat.zero_le _, fun c hc => by cases hc⟩
theorem ref_take_calls (A0 A1 A2 : Option Addr) (c0 c1 c2 : Nat) (ids bins : List Int) (cols : List (List Int)) (A3 : Option Addr) (c3 : Nat) (xs : List Int) (w : World) (h : IsTb w A0 A1 A2 c0 c1 c2 ids bins cols) (hr : Kd.C (Kd.int .i64) w A3 xs.length xs) (hc : xs.length ≤ c3) :
    Calls Try.prog 35 #[.agg (tbV A0 A1 A2 c0 c1 c2 ids bins cols), .slice A3 xs.length c3] w (TakePost w (takeP ids bins cols xs)) := by
  obtain ⟨k, hk⟩ := (ref_take ids bins cols xs).rounds
  obtain ⟨z0, z1, z2, z3⟩ := take_lens ids bins cols xs
  refine (windbreakref15_Take.calls k A0 c0 ids A1 c1 bins A2 c2 cols A3 c3 xs _ _ _ _ w h.r0 h.l0 h.r1 h.l1 h.r2 h.l2 hr hc hk).mono ?_
  rintro e w' ⟨v0, v1, v2, rfl, h0, h1, h2, hb⟩
  obtain ⟨B0, d0, rfl, g0, q0⟩ := Kd.R_reads h0
  obtain ⟨B1, d1, rfl, g1, q1⟩ := Kd.R_reads h1
  obtain ⟨B2, d2, rfl, g2, q2⟩ := Kd.S_reads h2
  exact ⟨⟨B0, d0, B1, d1, B2, d2⟩, rfl, ⟨g0, g1, g2, q0, q1, q2, by omega, by omega, by omega, fun c hc => by have := z3 c hc; omega⟩, hb⟩
theorem ref_same_calls (A0 A1 A2 B0 B1 B2 : Option Addr) (c0 c1 c2 d0 d1 d2 : Nat) (a b d e : List Int) (f g : List (List Int)) (w : World) (h : IsTb w A0 A1 A2 c0 c1 c2 a b f) (h' : IsTb w B0 B1 B2 d0 d1 d2 d e g) :
    Calls Try.prog 36 #[.agg (tbV A0 A1 A2 c0 c1 c2 a b f), .agg (tbV B0 B1 B2 d0 d1 d2 d e g)] w fun x w' => x = .returned (.bool (decide (a = d ∧ b = e ∧ f = g))) ∧ Below w.heap.size w w' := by
  obtain ⟨k, hk⟩ := (ref_same a b d e f g h.z0 h.z1 h.z2 h.zc).rounds
  exact windbreakref15_Same.calls k A0 c0 a A1 c1 b A2 c2 f B0 d0 d B1 d1 e B2 d2 g _ w h.r0 h.l0 h.r1 h.l1 h.r2 h.l2 h'.r0 h'.l0 h'.r1 h'.l1 h'.r2 h'.l2 hk
set_option maxRecDepth 100000 in
set_option maxHeartbeats 400000 in
theorem takes_calls (A0 A1 A2 : Option Addr) (c0 c1 c2 : Nat) (ids bins : List Int) (cols : List (List Int)) (A3 : Option Addr) (c3 : Nat) (xs : List Int) (w : World) (h : IsTb w A0 A1 A2 c0 c1 c2 ids bins cols) (hr : Kd.C (Kd.int .i64) w A3 xs.length xs) (hc : xs.length ≤ c3) (hl : xs.length ≤ 140737488351232) :
    Calls Try.prog 8 #[.agg (tbV A0 A1 A2 c0 c1 c2 ids bins cols), .slice A3 xs.length c3] w fun e w' => e = .returned (.bool true) ∧ Below w.heap.size w w' := by
  obtain ⟨W1, hW1⟩ : ∃ W, W = w.alloc (.cells (tbV A0 A1 A2 c0 c1 c2 ids bins cols) 43) := ⟨_, rfl⟩
  have hB1 : Below w.heap.size w W1 := by rw [hW1]; exact below_alloc (Below.refl _ _) _
  have k1 : W1.heap[w.heap.size]? = some (.cells (tbV A0 A1 A2 c0 c1 c2 ids bins cols) 43 (0, 0)) := by rw [hW1]; exact blk_new _ _
  obtain ⟨r, hrr⟩ : ∃ r, r = takeP ids bins cols xs := ⟨_, rfl⟩
  have H := Aside0.mk h
  have HR := Aside0.mk hr
  have HRR := Aside0.mk hrr
  have HB1 := Aside0.mk hB1
  have K1 := Aside0.mk k1
  clear h hB1 k1 hr hrr
  go_enter Try.func8, Try.ntmps8
  go_wp2_with fail
  rw [← hW1]
  clear hW1
  refine (Al.awake_calls _).mono ?_
  rintro e w2 ⟨rfl, hb2⟩
  have HB2 := Aside0.mk (HB1.out.trans (hb2.mono HB1.out.size))
  have K2 := Aside0.mk (blk_below K1.out hb2)
  clear hb2 HB1 K1
  obtain ⟨a0, a1, a2⟩ := three_cells K2.out
  go_wp2_with fail
  refine (take_calls A0 A1 A2 c0 c1 c2 ids bins cols A3 c3 xs _ (H.out.below HB2.out) (Kd.C_below HR.out HB2.out) hl).mono ?_
  rw [← HRR.out]
  obtain ⟨r1, r2, r3, r4⟩ := r
  rintro e w3 ⟨p, rfl, hp, hb3⟩
  obtain ⟨W3, hW3⟩ : ∃ W, W = w3.alloc (.cells #[.slice p.A0 r1.length p.c0, .slice p.A1 r2.length p.c1, .slice p.A2 r3.length p.c2] 43) := ⟨_, rfl⟩
  have HB3 := Aside0.mk (show Below w.heap.size w W3 by rw [hW3]; exact below_alloc (HB2.out.trans (hb3.mono HB2.out.size)) _)
  have K3 := Aside0.mk (show W3.heap[w.heap.size]? = some (.cells #[.slice A0 ids.length c0, .slice A1 bins.length c1, .slice A2 cols.length c2] 43 (0, 0)) by rw [hW3]; exact blk_alloc (blk_below K2.out hb3) _)
  have K3' := Aside0.mk (show W3.heap[w3.heap.size]? = some (.cells #[.slice p.A0 r1.length p.c0, .slice p.A1 r2.length p.c1, .slice p.A2 r3.length p.c2] 43 (0, 0)) by rw [hW3]; exact blk_new w3 _)
  have HP := Aside0.mk (show IsTb W3 p.A0 p.A1 p.A2 p.c0 p.c1 p.c2 r1 r2 r3 by rw [hW3]; exact hp.below (below_alloc (Below.refl _ _) _))
  obtain ⟨a0, a1, a2⟩ := three_cells K3.out
  rw [hW3] at a0 a1 a2
  clear hb3 HB2 K2 hp
  go_wp2_with fail
  rw [← hW3]
  clear a0 a1 a2 hW3
  refine (ref_take_calls A0 A1 A2 c0 c1 c2 ids bins cols A3 c3 xs _ (H.out.below HB3.out) (Kd.C_below HR.out HB3.out) hc).mono ?_
  rw [← HRR.out]
  rintro e w4 ⟨p', rfl, hp', hb4⟩
  obtain ⟨W4, hW4⟩ : ∃ W, W = w4.alloc (.cells #[.slice p'.A0 r1.length p'.c0, .slice p'.A1 r2.length p'.c1, .slice p'.A2 r3.length p'.c2] 43) := ⟨_, rfl⟩
  have hbb : Below W3.heap.size W3 W4 := by rw [hW4]; exact below_alloc hb4 _
  have HB4 := Aside0.mk (HB3.out.trans (hbb.mono HB3.out.size))
  have K4 := Aside0.mk (blk_below K3'.out hbb)
  have K4' := Aside0.mk (show W4.heap[w4.heap.size]? = some (.cells #[.slice p'.A0 r1.length p'.c0, .slice p'.A1 r2.length p'.c1, .slice p'.A2 r3.length p'.c2] 43 (0, 0)) by rw [hW4]; exact blk_new w4 _)
  have HP' := Aside0.mk (show IsTb W4 p'.A0 p'.A1 p'.A2 p'.c0 p'.c1 p'.c2 r1 r2 r3 by rw [hW4]; exact hp'.below (below_alloc (Below.refl _ _) _))
  have HP2 := Aside0.mk (HP.out.below hbb)
  obtain ⟨a0, a1, a2⟩ := three_cells K4.out
  obtain ⟨b0, b1, b2⟩ := three_cells K4'.out
  rw [hW4] at a0 a1 a2 b0 b1 b2
  clear hb4 hbb HB3 K3 K3' hp' HP
  go_wp2_with fail
  rw [← hW4]
  clear a0 a1 a2 b0 b1 b2 hW4
  refine (ref_same_calls _ _ _ _ _ _ _ _ _ _ _ _ r1 r2 r1 r2 r3 r3 _ HP2.out HP'.out).mono ?_
  rintro e w5 ⟨rfl, hb5⟩
  have HB5 := Aside0.mk (HB4.out.trans (hb5.mono HB4.out.size))
  clear hb5
  rw [decide_eq_true ⟨rfl, rfl, rfl⟩]
  go_wp2_with fail
  go_ret
  exact ⟨rfl, HB5.out⟩
theorem takes_walk (x : Tb × At) (A3 : Option Addr) (c3 : Nat) (xs : List Int) (w : World) (h : IsT w x.2 x.1 ∧ Nums x.1) (hr : Kd.C (Kd.int .i64) w A3 xs.length xs) (hc : xs.length ≤ c3) (hl : xs.length * 8 ≤ 140737488351232) (hw : ∀ y ∈ xs, (Lit.int .i64 y).wf = true) :
    Calls Try.prog 8 #[.agg (atV x.2 x.1), .slice A3 xs.length c3] w fun e w' => e = .returned (.bool true) ∧ Below w.heap.size w w' := takes_calls _ _ _ _ _ _ _ _ _ A3 c3 xs w h.1 hr hc (by omega)
end Go.Proofs.Ytdlkcohfgfnkbaa.Ta
