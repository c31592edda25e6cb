/- Tables: DatasetJoins: the walk; how an argument that is tables is opened. -/
import Derived.Test.YtdlkcohfgfnkbaaJw
import Derived.Test.YtdlkcohfgfnkbaaSm
import Derived.Test.YtdlkcohfgfnkbaaAw
namespace Go.Proofs.Ytdlkcohfgfnkbaa.Jw
open Go.ChangeShapes Go.WideShapes Go.RowKit Go.Proofs.Ytdlkcohfgfnkbaa.PDatasetJoins Go.Proofs.Ytdlkcohfgfnkbaa.DFns Go.Proofs.Ytdlkcohfgfnkbaa.Tp Go.Proofs.Ytdlkcohfgfnkbaa.Tr Go.Proofs.Ytdlkcohfgfnkbaa.Jp Go.Proofs.Ytdlkcohfgfnkbaa.Jt Go.Proofs.Ytdlkcohfgfnkbaa.Ot Go.Proofs.YtdlkcohfgfnkbaaW.PrintWords Go.Proofs.YtdlkcohfgfnkbaaW.PrintLast Go.Proofs.YtdlkcohfgfnkbaaW.PrintMore
set_option linter.unusedSimpArgs false
set_option linter.unusedVariables false

def good43 (x : S43) : Prop := goodTb (x.f0, x.f1, x.f2)
theorem opens_43 : Opn.Opens Try.prog 43 k43 good43 := Opn.opens_iso opens_tab (fun x : S43 => (x.f0, x.f1, x.f2)) (fun a => ⟨a.1, a.2.1, a.2.2⟩) (fun a => rfl)
theorem opens_tabs : Opn.Opens Try.prog 51 (Kd.slice 43 k43) (fun xs => xs.length * 72 ≤ reachBytes ∧ ∀ x ∈ xs, good43 x) := Opn.opens_slice opens_43 Try.underlying51 (by kernel_rfl) 43 (by kernel_rfl)
theorem good_okT {x : S43} (h : good43 x) : okT x := ⟨(good_ints h.1).1, (good_ints h.2.1).1, (good_lists h.2.2).1, fun c hc => ((good_lists h.2.2).2 c hc).1⟩
set_option maxRecDepth 100000 in
theorem open_tabs (j : Nat) {H : Type} {enc : TypeId × Value → H} {W : World} {base r0 : Nat} {r : Reach} {spare : Nat → Bool} {held : Bool} {ts : List TypeId} {ds : List (DataW H)} {dd : DataW H} {p : List MemPlace} (hj : ts[j]? = some 51) (hd : ds[j]? = some dd)
    {v : Value} (hv : Value.okWide Try.prog W r r0 51 v) (h : DataW.Trod enc Try.prog W base spare held 51 v dd p) (hsz : (DataW.weightsEach Try.prog ts ds).all (· ≤ reachBytes) = true) :
    ∃ x : List S43 × Option Addr × Nat, v = .slice x.2.1 x.1.length x.2.2 ∧ x.1.length ≤ x.2.2 ∧ Kd.C k43 W x.2.1 x.1.length x.1 ∧ x.1.length ≤ 140737488351232 ∧ ∀ y ∈ x.1, okT y ∧ good43 y := by
  obtain ⟨A, c, xs, rfl, hl, hr, hb, hg⟩ := Opn.open_arg opens_tabs Try.underlying51 hv h hsz hj hd
  have h2 : xs.length * 72 ≤ 140737488351232 := hb
  exact ⟨(xs, A, c), rfl, hl, hr, by show xs.length ≤ _; omega, fun y hy => ⟨good_okT (hg y hy), hg y hy⟩⟩
theorem join_lens (l : List S43) (hz : ∀ x ∈ l, okT x) : (joinP l).1.length ≤ 140737488351232 ∧ (joinP l).2.1.length ≤ 140737488351232 ∧ (joinP l).2.2.1.length ≤ 140737488351232 ∧ ∀ c ∈ (joinP l).2.2.1, c.length ≤ 140737488351232 := by
  unfold joinP
  split
  · rename_i h
    obtain ⟨h0, h16, hg⟩ := many_ok h
    have q0 := (hz _ (rdT_mem l 0 h0)).1
    have q1 := few l (·.f1) (fun x hx => by have := tabF (good_all hg x hx).1; omega) l.length (Nat.le_refl _)
    have q2 := few l (·.f2) (fun x hx => (tabF (good_all hg x hx).1).2.1) l.length (Nat.le_refl _)
    rw [List.take_length] at q1 q2
    refine ⟨q0, by show (l.flatMap (·.f1)).length ≤ _; omega, by show (l.flatMap (·.f2)).length ≤ _; omega, fun c hc => ?_⟩
    obtain ⟨x, hx, hcx⟩ := List.mem_flatMap.1 hc
    exact (hz x hx).2.2.2 c hcx
  · exact ⟨Nat.zero_le _, Nat.zero_le _, Nat.zero_le _, fun c hc => by cases hc⟩
theorem ref_join_calls (A : Option Addr) (c : Nat) (l : List S43) (w : World) (hr : Kd.C k43 w A l.length l) (hc : l.length ≤ c) (hz : ∀ x ∈ l, okT x) :
    Calls Try.prog 40 #[.slice A l.length c] w (JoinPost w (joinP l)) := by
  obtain ⟨k, hk⟩ := (ref_join l (fun x hx => (hz x hx).1)).rounds
  obtain ⟨z0, z1, z2, z3⟩ := join_lens l hz
  refine (windbreakref15_Join.calls k A c l _ _ _ _ w hr hc hk).mono ?_
  rintro e w' ⟨v0, v1, v2, rfl, h0, h1, h2, hb⟩
  obtain ⟨B0, d0, rfl, g0, q0⟩ := Kd.R_reads h0
  obtain ⟨B1, d1, rfl, g1, q1⟩ := Kd.R_reads h1
  obtain ⟨B2, d2, rfl, g2, q2⟩ := Kd.S_reads h2
  exact ⟨⟨B0, d0, B1, d1, B2, d2⟩, rfl, ⟨g0, g1, g2, q0, q1, q2, z0, z1, z2, z3⟩, hb⟩
set_option maxRecDepth 100000 in
set_option maxHeartbeats 400000 in
theorem joins_calls (A : Option Addr) (c : Nat) (l : List S43) (w : World) (hr : Kd.C k43 w A l.length l) (hc : l.length ≤ c) (hl : l.length ≤ 140737488351232) (hz : ∀ x ∈ l, okT x) :
    Calls Try.prog 10 #[.slice A l.length c] w fun e w' => e = .returned (.bool true) ∧ Below w.heap.size w w' := by
  obtain ⟨r, hrr⟩ : ∃ r, r = joinP l := ⟨_, rfl⟩
  have HR := Aside0.mk hr
  have HZ := Aside0.mk hz
  have HRR := Aside0.mk hrr
  clear hr hrr hz
  go_enter Try.func10, Try.ntmps10
  go_wp2_with fail
  refine (Al.awake_calls _).mono ?_
  rintro e w2 ⟨rfl, hb2⟩
  have HB2 := Aside0.mk hb2
  clear hb2
  go_wp2_with fail
  refine (join_calls A c l _ (Kd.C_below HR.out HB2.out) hl HZ.out).mono ?_
  rw [← HRR.out]
  obtain ⟨r1, r2, r3, r4⟩ := r
  rintro e w3 ⟨p, rfl, hp, hb3⟩
  obtain ⟨W3, hW3⟩ : ∃ W, W = w3.alloc (.cells #[.slice p.A0 r1.length p.c0, .slice p.A1 r2.length p.c1, .slice p.A2 r3.length p.c2] 43) := ⟨_, rfl⟩
  have HB3 := Aside0.mk (show Below w.heap.size w W3 by rw [hW3]; exact below_alloc (HB2.out.trans (hb3.mono HB2.out.size)) _)
  have K3' := Aside0.mk (show W3.heap[w3.heap.size]? = some (.cells #[.slice p.A0 r1.length p.c0, .slice p.A1 r2.length p.c1, .slice p.A2 r3.length p.c2] 43 (0, 0)) by rw [hW3]; exact blk_new w3 _)
  have HP := Aside0.mk (show IsTb W3 p.A0 p.A1 p.A2 p.c0 p.c1 p.c2 r1 r2 r3 by rw [hW3]; exact hp.below (below_alloc (Below.refl _ _) _))
  clear hb3 HB2 hp
  go_wp2_with fail
  rw [← hW3]
  clear hW3
  refine (ref_join_calls A c l _ (Kd.C_below HR.out HB3.out) hc HZ.out).mono ?_
  rw [← HRR.out]
  rintro e w4 ⟨p', rfl, hp', hb4⟩
  obtain ⟨W4, hW4⟩ : ∃ W, W = w4.alloc (.cells #[.slice p'.A0 r1.length p'.c0, .slice p'.A1 r2.length p'.c1, .slice p'.A2 r3.length p'.c2] 43) := ⟨_, rfl⟩
  have hbb : Below W3.heap.size W3 W4 := by rw [hW4]; exact below_alloc hb4 _
  have HB4 := Aside0.mk (HB3.out.trans (hbb.mono HB3.out.size))
  have K4 := Aside0.mk (blk_below K3'.out hbb)
  have K4' := Aside0.mk (show W4.heap[w4.heap.size]? = some (.cells #[.slice p'.A0 r1.length p'.c0, .slice p'.A1 r2.length p'.c1, .slice p'.A2 r3.length p'.c2] 43 (0, 0)) by rw [hW4]; exact blk_new w4 _)
  have HP' := Aside0.mk (show IsTb W4 p'.A0 p'.A1 p'.A2 p'.c0 p'.c1 p'.c2 r1 r2 r3 by rw [hW4]; exact hp'.below (below_alloc (Below.refl _ _) _))
  have HP2 := Aside0.mk (HP.out.below hbb)
  obtain ⟨a0, a1, a2⟩ := three_cells K4.out
  obtain ⟨b0, b1, b2⟩ := three_cells K4'.out
  rw [hW4] at a0 a1 a2 b0 b1 b2
  clear hb4 hbb HB3 K3' hp' HP
  go_wp2_with fail
  rw [← hW4]
  clear a0 a1 a2 b0 b1 b2 hW4
  refine (Sm.ref_same_calls _ _ _ _ _ _ _ _ _ _ _ _ r1 r2 r1 r2 r3 r3 _ HP2.out HP'.out).mono ?_
  rintro e w5 ⟨rfl, hb5⟩
  have HB5 := Aside0.mk (HB4.out.trans (hb5.mono HB4.out.size))
  clear hb5
  rw [decide_eq_true ⟨rfl, rfl, rfl⟩]
  go_wp2_with fail
  go_ret
  exact ⟨rfl, HB5.out⟩
theorem joins_walk (x : List S43 × Option Addr × Nat) (w : World) (h : x.1.length ≤ x.2.2 ∧ Kd.C k43 w x.2.1 x.1.length x.1 ∧ x.1.length ≤ 140737488351232 ∧ ∀ y ∈ x.1, okT y ∧ good43 y) :
    Calls Try.prog 10 #[.slice x.2.1 x.1.length x.2.2] w fun e w' => e = .returned (.bool true) ∧ Below w.heap.size w w' := joins_calls _ _ _ w h.2.1 h.1 h.2.2.1 (fun y hy => (h.2.2.2 y hy).1)
end Go.Proofs.Ytdlkcohfgfnkbaa.Jw
