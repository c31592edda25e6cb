/- SessionStays: what is over stays so (plain), and the walk. -/
import Derived.Test.YtfimakplmkbbjaaSl
namespace Go.Proofs.Ytfimakplmkbbjaa.Ss
open Go.RowKit Go.Maps Go.Proofs.Ytfimakplmkbbjaa.Mp Go.Proofs.Ytfimakplmkbbjaa.Sp Go.Proofs.Ytfimakplmkbbjaa.Sx Go.Proofs.Ytfimakplmkbbjaa.Sr Go.Proofs.Ytfimakplmkbbjaa.Sn Go.Proofs.Ytfimakplmkbbjaa.Sd Go.Proofs.Ytfimakplmkbbjaa.Sl Go.Proofs.YtfimakplmkbbjaaW.PrintWords Go.Proofs.YtfimakplmkbbjaaW.PrintLast Go.Proofs.YtfimakplmkbbjaaW.PrintMore
set_option linter.unusedVariables false
set_option linter.unusedSimpArgs false

theorem act_over {σ : St} (h : σ.phase ≠ 0) (x : Ac) : (actS σ x).2 = σ := by
  unfold actS
  split
  · unfold awaitS; rw [if_pos h]
  split
  · unfold takeS; rw [if_pos h]
  split
  · unfold tickS; rw [if_pos h]
  split
  · unfold finishS; rw [if_pos h]
  split
  · unfold abortS; rw [if_pos h]
  · rfl
def Ph (σ : St) : Prop := σ.phase = 0 ∨ σ.phase = 1 ∨ σ.phase = 2
theorem Ph.act {σ : St} (h : Ph σ) (x : Ac) : Ph (actS σ x).2 := by
  unfold actS
  split
  · unfold awaitS; repeat' split
    all_goals exact h
  split
  · unfold takeS; repeat' split
    all_goals first | exact h | exact .inr (.inr rfl)
  split
  · unfold tickS; repeat' split
    all_goals first | exact h | exact .inr (.inr rfl)
  split
  · unfold finishS; repeat' split
    all_goals first | exact h | exact .inr (.inl rfl)
  split
  · unfold abortS; repeat' split
    all_goals first | exact h | exact .inr (.inr rfl)
  · exact h
theorem abort_over {σ : St} (h : Ph σ) : (abortS σ 77).2.phase = 1 ∨ (abortS σ 77).2.phase = 2 := by
  unfold abortS
  split
  · rename_i h0
    rcases h with h | h | h
    · exact absurd h h0
    · exact .inl h
    · exact .inr h
  split
  · rename_i h1; omega
  · exact .inr rfl

set_option maxRecDepth 100000 in
set_option maxHeartbeats 2000000 in
theorem stays_calls (a0 a1 a2 : Int) (A : Option Addr) (c : Nat) (xs : List Ac) (A' : Option Addr) (c' : Nat) (ys : List Ac) (w : World) (hr : Kd.C kAc w A xs.length xs) (hl : xs.length ≤ 140737488351232) (hg : ∀ x ∈ xs, GoodA x) (hr' : Kd.C kAc w A' ys.length ys) (hl' : ys.length ≤ 140737488351232) (hg' : ∀ x ∈ ys, GoodA x) :
    Calls Try.prog 5 #[.agg #[.int .i64 a0, .int .i64 a1, .int .i64 a2], .slice A xs.length c, .slice A' ys.length c'] w fun e w' => e = .returned (.bool true) ∧ Below w.heap.size w w' := by
  obtain ⟨w1, hw1⟩ : ∃ w1, w1 = w.alloc (.cells #[.int .i64 a0, .int .i64 a1, .int .i64 a2] 22) := ⟨_, rfl⟩
  have hb1 : Below w.heap.size w w1 := by rw [hw1]; exact below_alloc (Below.refl _ _) _
  have k1 : w1.heap[w.heap.size]? = some (.cells #[.int .i64 a0, .int .i64 a1, .int .i64 a2] 22 (0, 0)) := by rw [hw1]; exact blk_new w _
  have K1 := Aside0.mk k1
  have HR := Aside0.mk hr
  have HG := Aside0.mk hg
  have HR' := Aside0.mk hr'
  have HG' := Aside0.mk hg'
  have HB1 := Aside0.mk hb1
  have l0 := blk_cell k1 0
  have l1 := blk_cell k1 1
  have l2 := blk_cell k1 2
  rw [hw1] at l0 l1 l2
  have HW1 := Aside0.mk hw1
  clear hr hg hr' hg' hb1 k1 hw1
  have h012 : okNew 0 2 1 := by unfold okNew; omega
  have H012 := Aside0.mk h012
  clear h012
  by_cases hok : okNew a0 a1 a2
  · have HOK := Aside0.mk hok
    clear hok
    go_enter Try.func5, Try.ntmps5
    go_wp2_with fail
    rw [← HW1.out]
    refine (new_calls a0 a1 a2 w1).mono ?_
    intro e w2 hh
    simp only [if_pos HOK.out] at hh
    obtain ⟨rfl, hps, hb2, hs2⟩ := hh
    have HPS := Aside0.mk hps
    have HB2 := Aside0.mk hb2
    have HS2 := Aside0.mk hs2
    have k2 := blk_below K1.out hb2
    have m0 : w2.cell? ⟨w.heap.size, 0, none⟩ = some (.int .i64 a0) := blk_cell k2 0
    have m1 : w2.cell? ⟨w.heap.size, 1, none⟩ = some (.int .i64 a1) := blk_cell k2 1
    have m2 : w2.cell? ⟨w.heap.size, 2, none⟩ = some (.int .i64 a2) := blk_cell k2 2
    clear hps hb2 hs2 k2 l0 l1 l2
    go_wp2_with fail
    refine (ref_new_calls a0 a1 a2 w2).mono ?_
    intro e w3 hh
    simp only [if_pos HOK.out] at hh
    obtain ⟨rfl, hrs, hb3, hs3⟩ := hh
    have HRS := Aside0.mk hrs
    have HB3 := Aside0.mk hb3
    clear hrs hb3 hs3 m0 m1 m2
    go_wp2_with fail
    refine (new_calls 0 2 1 w3).mono ?_
    intro e w4 hh
    simp only [if_pos H012.out] at hh
    obtain ⟨rfl, _, hb4, _⟩ := hh
    have HB4 := Aside0.mk hb4
    clear hb4
    obtain ⟨p, hp⟩ : ∃ p, p = w1.heap.size + 1 := ⟨_, rfl⟩
    obtain ⟨b, hb⟩ : ∃ b, b = w1.heap.size := ⟨_, rfl⟩
    obtain ⟨r, hr⟩ : ∃ r, r = w2.heap.size := ⟨_, rfl⟩
    obtain ⟨q, hq⟩ : ∃ q, q = w3.heap.size + 1 := ⟨_, rfl⟩
    rw [← hp, ← hr, ← hq]
    have HT := Aside0.mk (show Two w4 w.heap.size 0 p b r (newS a0 a1 a2) (newS a0 a1 a2) from
      ⟨by rw [hp, hb]; exact ((HPS.out _ _).below HB3.out).below HB4.out, by rw [hr]; exact (HRS.out _ _).below HB4.out, newInv HOK.out, newInv HOK.out, by have := HB1.out.size; omega, by have := HB1.out.size; omega, by have := HB1.out.size; have := HB2.out.size; omega, by have := HS2.out; omega, by have := HS2.out; omega⟩)
    have HBW := Aside0.mk (show Below w.heap.size w w4 from ((HB1.out.trans (HB2.out.mono HB1.out.size)).trans (HB3.out.mono (Nat.le_trans HB1.out.size HB2.out.size))).trans (HB4.out.mono (Nat.le_trans (Nat.le_trans HB1.out.size HB2.out.size) HB3.out.size)))
    have HPH := Aside0.mk (show Ph (newS a0 a1 a2) from .inl rfl)
    clear hp hb hr hq
    go_wp2_with fail
    go_loopg [13] (xs.length + 1) (fun g v13 wx => ∃ i : Nat, i + g = xs.length + 1 ∧ i ≤ xs.length ∧ v13 = .int .i64 (i : Int) ∧ i ≤ 200 ∧ Aside0 (∃ σ τ, Two wx w.heap.size i p b r σ τ ∧ Ph σ) ∧ Aside0 (Below w.heap.size w wx))
    case atStart => exact ⟨0, by omega, by omega, rfl, by omega, ⟨_, _, HT.out, HPH.out⟩, HBW⟩
    case round =>
      clear HT HBW HPH
      obtain ⟨i, hig, hil, rfl, hi200, HTS, HB⟩ := hrel
      obtain ⟨σ, τ, hT, hP⟩ := HTS.out
      have HT := Aside0.mk hT
      have HPH := Aside0.mk hP
      clear HTS hT hP
      cases gk with
      | zero => exfalso; omega
      | succ g =>
        have out : ¬ ((i : Int) < (xs.length : Int) ∧ (i : Int) < 200) → True := fun _ => trivial
        by_cases hlt : (i : Int) < (xs.length : Int) ∧ (i : Int) < 200
        · obtain ⟨hlt, hlt2⟩ := hlt
          obtain ⟨ad, A1, c1, rfl, x0, x1, x2, x3, x4, hx4⟩ := at_Ac HR.out (i : Int) (by omega) hlt
          rw [Int.toNat_natCast] at x0 x1 x2 x3 x4
          have hgx := HG.out _ (rdA_mem xs i (by omega))
          obtain ⟨x, hx⟩ : ∃ x, x = rdA xs (i : Int) := ⟨_, rfl⟩
          rw [← hx] at x0 x1 x2 x3 x4 hx4 hgx
          replace x0 := pw_cell_below HB.out x0
          replace x1 := pw_cell_below HB.out x1
          replace x2 := pw_cell_below HB.out x2
          replace x3 := pw_cell_below HB.out x3
          replace x4 := pw_cell_below HB.out x4
          have HGX := Aside0.mk hgx
          have HX4 := Aside0.mk hx4
          clear hx hgx hx4 out
          go_wp2_with fail
          refine (do_calls (w0 := w) rfl HB.out HT.out (by omega) x HGX.out.1 A1 c1 HX4.out HGX.out.2).mono ?_
          rintro e w5 ⟨⟨v5, rfl, _⟩, hT5, hF5⟩
          have HT5 := Aside0.mk hT5
          have HB5 := Aside0.mk (HB.out.trans hF5.1)
          clear hT5 hF5 x0 x1 x2 x3 x4
          go_wp2_with fail
          go_roundg g
          case measure => omega
          case rel => exact ⟨i + 1, by omega, by omega, rfl, by omega, ⟨_, _, HT5.out, HPH.out.act x⟩, HB5⟩
        · clear out
          obtain ⟨U, hU⟩ : ∃ U, U = (abortS σ 77).2 := ⟨_, rfl⟩
          have hUp := abort_over HPH.out
          rw [← hU] at hUp
          have HU := Aside0.mk hU
          have HI2 := Aside0.mk (show Inv U by rw [hU]; exact HT.out.iv.abort 77)
          have HUN := Aside0.mk (show U.phase ≠ 0 by omega)
          have HPB := Aside0.mk (show (U.phase != 1) = false ∨ ((U.phase != 1) = true ∧ (U.phase != 2) = false) by rcases hUp with h | h <;> simp [h])
          have HWN := Aside0.mk (Sq.who_none HI2.out HUN.out)
          have HC := Aside0.mk (show ¬ (i : Int) < (xs.length : Int) ∨ ((i : Int) < (xs.length : Int) ∧ ¬ (i : Int) < 200) by omega)
          clear hU hUp hlt
          rcases HC.out with hlt | ⟨hlt, hlt2⟩
          all_goals (
            go_wp2_with fail
            refine (Sw.abort_calls HT.out.ps HT.out.bp HT.out.bb 77).mono ?_
            rintro e w5 ⟨rfl, hp5, hf5⟩
            rw [← HU.out] at hp5
            have HT5 := Aside0.mk (show Two w5 w.heap.size 201 p b r U τ from ⟨hp5.mono (by omega), RS.fr HT.out hf5, HI2.out, HT.out.iw, HT.out.bp, HT.out.bb, HT.out.br, HT.out.pr, HT.out.bn⟩)
            have HB5 := Aside0.mk (HB.out.trans hf5.1)
            clear hp5 hf5
            go_wp2_with fail
            refine (Sw.state_calls HT5.out.ps).mono ?_
            rintro e w6 ⟨rfl, hd⟩
            have HT6 := Aside0.mk (HT5.out.below hd.below)
            have HB6 := Aside0.mk (below_then HB5.out HB5.out.size hd.below)
            clear hd hlt
            try clear hlt2
            rcases HPB.out with hpb | ⟨hpb, hpb2⟩
            all_goals (
              go_wp2_with fail
              go_loopg [16] (ys.length + 1) (fun g v16 wx => ∃ j : Nat, j + g = ys.length + 1 ∧ j ≤ ys.length ∧ v16 = .int .i64 (j : Int) ∧ j ≤ 200 ∧ Aside0 (∃ τ, Two wx w.heap.size (201 + j) p b r U τ) ∧ Aside0 (Below w.heap.size w wx))
              case atStart => exact ⟨0, by omega, by omega, rfl, by omega, ⟨_, HT6.out⟩, HB6⟩
              case round =>
                clear HT6 HB6 HT5 HB5 HT HB hig hil
                obtain ⟨j, hjg, hjl, rfl, hj200, HTS, HB⟩ := hrel
                obtain ⟨τ', hT⟩ := HTS.out
                have HT := Aside0.mk hT
                clear HTS hT
                cases gk with
                | zero => exfalso; omega
                | succ g' =>
                  by_cases hlt : (j : Int) < (ys.length : Int)
                  · by_cases hlt2 : (j : Int) < 200
                    · obtain ⟨ad, A1, c1, rfl, x0, x1, x2, x3, x4, hx4⟩ := at_Ac HR'.out (j : Int) (by omega) hlt
                      rw [Int.toNat_natCast] at x0 x1 x2 x3 x4
                      have hgx := HG'.out _ (rdA_mem ys j (by omega))
                      obtain ⟨x, hx⟩ : ∃ x, x = rdA ys (j : Int) := ⟨_, rfl⟩
                      rw [← hx] at x0 x1 x2 x3 x4 hx4 hgx
                      replace x0 := pw_cell_below HB.out x0
                      replace x1 := pw_cell_below HB.out x1
                      replace x2 := pw_cell_below HB.out x2
                      replace x3 := pw_cell_below HB.out x3
                      replace x4 := pw_cell_below HB.out x4
                      have HGX := Aside0.mk hgx
                      have HX4 := Aside0.mk hx4
                      clear hx hgx hx4
                      go_wp2_with fail
                      refine (do_calls (w0 := w) rfl HB.out HT.out (by omega) x HGX.out.1 A1 c1 HX4.out HGX.out.2).mono ?_
                      rintro e w7 ⟨⟨v7, rfl, _⟩, hT7, hF7⟩
                      rw [act_over HUN.out] at hT7
                      have HT7 := Aside0.mk hT7
                      have HB7 := Aside0.mk (HB.out.trans hF7.1)
                      clear hT7 hF7 x0 x1 x2 x3 x4
                      go_wp2_with fail
                      refine (Sw.state_calls HT7.out.ps).mono ?_
                      rintro e w8 ⟨rfl, hd⟩
                      have HT8 := Aside0.mk (HT7.out.below hd.below)
                      have HB8 := Aside0.mk (below_then HB7.out HB7.out.size hd.below)
                      clear hd
                      go_wp2_with fail
                      refine (Sh.who_calls HT8.out.ps HT8.out.iv (by omega)).mono ?_
                      rintro e w9 ⟨v9, rfl, ho9, hb9⟩
                      rw [HWN.out] at ho9
                      obtain ⟨A9, c9, rfl⟩ := Kd.R_slice ho9
                      have HT9 := Aside0.mk (HT8.out.below hb9)
                      have HB9 := Aside0.mk (below_then HB8.out HB8.out.size hb9)
                      clear ho9 hb9
                      go_wp2_with fail
                      go_roundg g'
                      case measure => omega
                      case rel => exact ⟨j + 1, by omega, by omega, rfl, by omega, ⟨_, HT9.out⟩, HB9⟩
                    · go_wp2_with fail
                      go_ret
                      exact ⟨rfl, HB.out⟩
                  · go_wp2_with fail
                    go_ret
                    exact ⟨rfl, HB.out⟩))
  · have HOK := Aside0.mk hok
    clear hok
    go_enter Try.func5, Try.ntmps5
    go_wp2_with fail
    rw [← HW1.out]
    refine (new_calls a0 a1 a2 w1).mono ?_
    intro e w2 hh
    simp only [if_neg HOK.out] at hh
    obtain ⟨rfl, hb2⟩ := hh
    have HB2 := Aside0.mk hb2
    have k2 := blk_below K1.out hb2
    have m0 : w2.cell? ⟨w.heap.size, 0, none⟩ = some (.int .i64 a0) := blk_cell k2 0
    have m1 : w2.cell? ⟨w.heap.size, 1, none⟩ = some (.int .i64 a1) := blk_cell k2 1
    have m2 : w2.cell? ⟨w.heap.size, 2, none⟩ = some (.int .i64 a2) := blk_cell k2 2
    clear hb2 k2 l0 l1 l2
    go_wp2_with fail
    refine (ref_new_calls a0 a1 a2 w2).mono ?_
    intro e w3 hh
    simp only [if_neg HOK.out] at hh
    obtain ⟨rfl, hb3⟩ := hh
    have HB3 := Aside0.mk hb3
    clear hb3 m0 m1 m2
    go_wp2_with fail
    refine (new_calls 0 2 1 w3).mono ?_
    intro e w4 hh
    simp only [if_pos H012.out] at hh
    obtain ⟨rfl, _, hb4, _⟩ := hh
    have HB4 := Aside0.mk hb4
    have HBW := Aside0.mk (show Below w.heap.size w w4 from ((HB1.out.trans (HB2.out.mono HB1.out.size)).trans (HB3.out.mono (Nat.le_trans HB1.out.size HB2.out.size))).trans (HB4.out.mono (Nat.le_trans (Nat.le_trans HB1.out.size HB2.out.size) HB3.out.size)))
    clear hb4
    obtain ⟨q, hq⟩ : ∃ q, q = w3.heap.size + 1 := ⟨_, rfl⟩
    rw [← hq]
    clear hq
    go_wp2_with fail
    go_ret
    exact ⟨rfl, HBW.out⟩
end Go.Proofs.Ytfimakplmkbbjaa.Ss
