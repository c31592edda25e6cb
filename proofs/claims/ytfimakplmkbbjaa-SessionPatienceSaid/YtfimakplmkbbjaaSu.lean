/- SessionPatience: the plain law, and the walk. -/
import Derived.Test.YtfimakplmkbbjaaSl
namespace Go.Proofs.Ytfimakplmkbbjaa.Su
open Go.RowKit Go.Maps Go.Proofs.Ytfimakplmkbbjaa.Mp Go.Proofs.Ytfimakplmkbbjaa.Sp Go.Proofs.Ytfimakplmkbbjaa.Sx Go.Proofs.Ytfimakplmkbbjaa.Sr Go.Proofs.Ytfimakplmkbbjaa.Sn Go.Proofs.Ytfimakplmkbbjaa.Sd Go.Proofs.Ytfimakplmkbbjaa.Sl Go.Proofs.YtfimakplmkbbjaaW.PrintWords Go.Proofs.YtfimakplmkbbjaaW.PrintLast Go.Proofs.YtfimakplmkbbjaaW.PrintMore
set_option linter.unusedVariables false
set_option linter.unusedSimpArgs false

theorem const_reads (w : World) (t : TypeId) (fr : Nat × Nat) (k : IntKind) (xs : List Int) (hl : xs.length ≤ 9223372036854775807) : Kd.C (Kd.int k) (w.alloc (.cells (xs.map (Value.int k)).toArray t fr)) (some ⟨w.heap.size, 0, none⟩) xs.length xs := by
  refine Kd.C_of_reads (d := (0 : Int)) (h1 := fun _ => rfl) ⟨rfl, hl, fun _ => ⟨_, rfl, fun j hj => ?_⟩⟩
  rw [Addr.add_mid, Nat.zero_add, World.cell?_alloc_mark]
  simp [hj]

/-- While it works it waits for the peer since time 0, and no longer than its patience. -/
def J (σ : St) (peer : Int) : Prop := σ.phase = 0 → (∃ l, σ.wt peer = some (0, l)) ∧ σ.now ≤ σ.patience
theorem act_pat (σ : St) (x : Ac) : (actS σ x).2.patience = σ.patience := by
  unfold actS
  split
  · unfold awaitS; repeat' split
    all_goals rfl
  split
  · unfold takeS; repeat' split
    all_goals rfl
  split
  · unfold tickS; repeat' split
    all_goals rfl
  split
  · unfold finishS; repeat' split
    all_goals rfl
  split
  · unfold abortS; repeat' split
    all_goals rfl
  · rfl
theorem J.over {σ : St} {peer a b : Int} (ha : a ≠ 0) : J (overS σ a b) peer := fun h => absurd h ha
theorem J.act {σ : St} {peer : Int} (h : J σ peer) (hI : Inv σ) (x : Ac) (hx : ¬ (x.f0 = 1 ∧ x.f1 = peer)) : J (actS σ x).2 peer := by
  unfold actS
  split
  · unfold awaitS
    split
    · exact h
    split
    · exact h
    split
    · exact h
    · rename_i h0 _ hb
      intro hp
      obtain ⟨⟨l, hl⟩, hn⟩ := h (by omega)
      have hne : ¬ peer = x.f1 := fun e => hb (by unfold isB; rw [← e, hl]; rfl)
      exact ⟨⟨l, by show setW σ.wt x.f1 _ peer = _; unfold setW; rw [if_neg hne]; exact hl⟩, hn⟩
  split
  · rename_i h1
    unfold takeS
    split
    · exact h
    split
    · exact h
    split
    · exact J.over (by decide)
    split
    · rename_i h0 _ _ _
      intro hp
      obtain ⟨⟨l, hl⟩, hn⟩ := h (by omega)
      have hne : ¬ peer = x.f1 := fun e => hx ⟨h1, e.symm⟩
      exact ⟨⟨l, by show setW σ.wt x.f1 _ peer = _; unfold setW; rw [if_neg hne]; exact hl⟩, hn⟩
    · exact J.over (by decide)
  split
  · unfold tickS
    split
    · exact h
    split
    · exact h
    split
    · exact J.over (by decide)
    · rename_i h0 _ hla
      intro hp
      obtain ⟨⟨l, hl⟩, hn⟩ := h (by omega)
      refine ⟨⟨l, hl⟩, ?_⟩
      have hm : peer ∈ ids16 := hI.ids (by unfold isB; rw [hl]; rfl)
      have h3 : lateB σ (σ.now + x.f2) peer = false := by
        cases h4 : lateB σ (σ.now + x.f2) peer with
        | false => rfl
        | true => exact absurd (List.any_eq_true.2 ⟨peer, hm, h4⟩) hla
      unfold lateB at h3
      rw [hl] at h3
      have h5 := of_decide_eq_false h3
      show σ.now + x.f2 ≤ σ.patience
      simp only [] at h5
      omega
  split
  · unfold finishS
    split
    · exact h
    split
    · exact h
    · exact J.over (by decide)
  split
  · unfold abortS
    split
    · exact h
    split
    · exact h
    · exact J.over (by decide)
  · exact h
theorem await_new {a0 a1 a2 peer : Int} (hok : okNew a0 a1 a2) : ((awaitS (newS a0 a1 a2) peer [1]).1 = 1) ∨ ((awaitS (newS a0 a1 a2) peer [1]).1 = 0 ∧ J (awaitS (newS a0 a1 a2) peer [1]).2 peer ∧ (awaitS (newS a0 a1 a2) peer [1]).2.now = 0 ∧ (awaitS (newS a0 a1 a2) peer [1]).2.patience = a2) := by
  unfold awaitS
  split
  · rename_i h; exact absurd rfl h
  split
  · exact .inl rfl
  split
  · rename_i h; cases h
  · refine .inr ⟨rfl, fun _ => ⟨⟨[1], ?_⟩, ?_⟩, rfl, rfl⟩
    · show setW _ peer _ peer = _
      unfold setW
      rw [if_pos rfl]
      rfl
    · show (0 : Int) ≤ a2
      have := hok.2.2.2.2.1
      omega

set_option maxRecDepth 100000 in
set_option maxHeartbeats 2000000 in
theorem patience_calls (a0 a1 a2 : Int) (A : Option Addr) (c : Nat) (xs : List Ac) (peer : Int) (w : World) (hr : Kd.C kAc w A xs.length xs) (hl : xs.length ≤ 140737488351232) (hg : ∀ x ∈ xs, GoodA x) (hx : I64 peer) :
    Calls Try.prog 3 #[.agg #[.int .i64 a0, .int .i64 a1, .int .i64 a2], .slice A xs.length c, .int .i64 peer] w fun e w' => e = .returned (.bool true) ∧ Below w.heap.size w w' := by
  obtain ⟨w1, hw1⟩ : ∃ w1, w1 = w.alloc (.cells #[.int .i64 a0, .int .i64 a1, .int .i64 a2] 22) := ⟨_, rfl⟩
  have hb1 : Below w.heap.size w w1 := by rw [hw1]; exact below_alloc (Below.refl _ _) _
  have k1 : w1.heap[w.heap.size]? = some (.cells #[.int .i64 a0, .int .i64 a1, .int .i64 a2] 22 (0, 0)) := by rw [hw1]; exact blk_new w _
  have K1 := Aside0.mk k1
  have HR := Aside0.mk hr
  have HG := Aside0.mk hg
  have HX := Aside0.mk hx
  have HB1 := Aside0.mk hb1
  have l0 := blk_cell k1 0
  have l1 := blk_cell k1 1
  have l2 := blk_cell k1 2
  rw [hw1] at l0 l1 l2
  have HW1 := Aside0.mk hw1
  clear hr hg hx hb1 k1 hw1
  have h012 : okNew 0 2 1 := by unfold okNew; omega
  have H012 := Aside0.mk h012
  clear h012
  by_cases hok : okNew a0 a1 a2
  · have HOK := Aside0.mk hok
    clear hok
    go_enter Try.func3, Try.ntmps3
    go_wp2_with fail
    rw [← HW1.out]
    refine (new_calls a0 a1 a2 w1).mono ?_
    intro e w2 hh
    simp only [if_pos HOK.out] at hh
    obtain ⟨rfl, hps, hb2, hs2⟩ := hh
    have HPS := Aside0.mk hps
    have HB2 := Aside0.mk hb2
    have HS2 := Aside0.mk hs2
    have k2 := blk_below K1.out hb2
    have m0 : w2.cell? ⟨w.heap.size, 0, none⟩ = some (.int .i64 a0) := blk_cell k2 0
    have m1 : w2.cell? ⟨w.heap.size, 1, none⟩ = some (.int .i64 a1) := blk_cell k2 1
    have m2 : w2.cell? ⟨w.heap.size, 2, none⟩ = some (.int .i64 a2) := blk_cell k2 2
    clear hps hb2 hs2 k2 l0 l1 l2
    go_wp2_with fail
    refine (ref_new_calls a0 a1 a2 w2).mono ?_
    intro e w3 hh
    simp only [if_pos HOK.out] at hh
    obtain ⟨rfl, hrs, hb3, hs3⟩ := hh
    have HRS := Aside0.mk hrs
    have HB3 := Aside0.mk hb3
    clear hrs hb3 hs3 m0 m1 m2
    go_wp2_with fail
    refine (new_calls 0 2 1 w3).mono ?_
    intro e w4 hh
    simp only [if_pos H012.out] at hh
    obtain ⟨rfl, _, hb4, hs4⟩ := hh
    have HB4 := Aside0.mk hb4
    clear hb4 hs4
    obtain ⟨p, hp⟩ : ∃ p, p = w1.heap.size + 1 := ⟨_, rfl⟩
    obtain ⟨b, hb⟩ : ∃ b, b = w1.heap.size := ⟨_, rfl⟩
    obtain ⟨r, hr⟩ : ∃ r, r = w2.heap.size := ⟨_, rfl⟩
    obtain ⟨q, hq⟩ : ∃ q, q = w3.heap.size + 1 := ⟨_, rfl⟩
    rw [← hp, ← hr, ← hq]
    have HT := Aside0.mk (show Two w4 w.heap.size 0 p b r (newS a0 a1 a2) (newS a0 a1 a2) from
      ⟨by rw [hp, hb]; exact ((HPS.out _ _).below HB3.out).below HB4.out, by rw [hr]; exact (HRS.out _ _).below HB4.out, newInv HOK.out, newInv HOK.out, by have := HB1.out.size; omega, by have := HB1.out.size; omega, by have := HB1.out.size; have := HB2.out.size; omega, by have := HS2.out; omega, by have := HS2.out; omega⟩)
    have HKW := Aside0.mk (show w4.heap[w.heap.size]? = some (.cells #[.int .i64 a0, .int .i64 a1, .int .i64 a2] 22 (0, 0)) from blk_below (blk_below (blk_below K1.out HB2.out) HB3.out) HB4.out)
    have HOKB := Aside0.mk (show okO p b r w.heap.size from ⟨by have := HB1.out.size; omega, by have := blk_lt K1.out; omega, by have := HS2.out; have := HB1.out.size; omega⟩)
    have HBW := Aside0.mk (show Below w.heap.size w w4 from ((HB1.out.trans (HB2.out.mono HB1.out.size)).trans (HB3.out.mono (Nat.le_trans HB1.out.size HB2.out.size))).trans (HB4.out.mono (Nat.le_trans (Nat.le_trans HB1.out.size HB2.out.size) HB3.out.size)))
    have HSIG := Aside0.mk (newInv HOK.out)
    clear hp hb hr hq
    go_wp2_with fail
    obtain ⟨w5, hw5⟩ : ∃ w5, w5 = w4.alloc (.cells #[.int .i64 1] 3) := ⟨_, rfl⟩
    rw [← hw5]
    have hb5 : Below w4.heap.size w4 w5 := by rw [hw5]; exact below_alloc (Below.refl _ _) _
    have hc5 : Kd.C (Kd.int .i64) w5 (some ⟨w4.heap.size, 0, none⟩) ([1] : List Int).length [1] := by rw [hw5]; exact const_reads w4 3 (0, 0) .i64 [1] (by simp)
    have HC5 := Aside0.mk hc5
    have HT5 := Aside0.mk (HT.out.below hb5)
    have HF5 := Aside0.mk ((FrT.refl w.heap.size p b r w4).below HT.out.size hb5)
    obtain ⟨R, hR⟩ : ∃ R, R = awaitS (newS a0 a1 a2) peer [1] := ⟨_, rfl⟩
    have HRR := Aside0.mk hR
    have hcase := await_new (peer := peer) HOK.out
    rw [← hR] at hcase
    have hIR : Inv R.2 := by rw [hR]; exact HSIG.out.await peer [1] (by simp)
    have HIR := Aside0.mk hIR
    have HCASE := Aside0.mk hcase
    have HOKP := Aside0.mk (show (¬ okO p b r p) ∧ (¬ okO p b r b) ∧ ¬ okO p b r r from ⟨fun e => e.1 rfl, fun e => e.2.1 rfl, fun e => e.2.2 rfl⟩)
    clear hw5 hb5 hc5 hR hcase hIR
    refine (Sa.await_calls HT5.out.ps HT5.out.iv HT5.out.bp HT5.out.bb HOKP.out.2.1 HT5.out.old (by omega) peer HX.out (some ⟨w4.heap.size, 0, none⟩) 1 [1] HC5.out (by simp)).mono ?_
    rw [← HRR.out]
    rintro e w6 ⟨rfl, hp6, hf6⟩
    have HP6 := Aside0.mk hp6
    have HRS6 := Aside0.mk (RS.fr HT5.out hf6)
    have HF6 := Aside0.mk (HF5.out.p hf6)
    have HSZ6 := Aside0.mk (show ∀ k, w6.heap.size ≤ k → okO p b r k from fun k hk => HT5.out.old k (Nat.le_trans hf6.1.size hk))
    clear hp6 hf6
    go_wp2_with fail
    obtain ⟨w7, hw7⟩ : ∃ w7, w7 = w6.alloc (.cells #[.int .i64 1] 3) := ⟨_, rfl⟩
    rw [← hw7]
    have hb7 : Below w6.heap.size w6 w7 := by rw [hw7]; exact below_alloc (Below.refl _ _) _
    have hc7 : Kd.C (Kd.int .i64) w7 (some ⟨w6.heap.size, 0, none⟩) ([1] : List Int).length [1] := by rw [hw7]; exact const_reads w6 3 (0, 0) .i64 [1] (by simp)
    have HC7 := Aside0.mk hc7
    have HP7 := Aside0.mk (HP6.out.below hb7)
    have HRS7 := Aside0.mk (HRS6.out.below hb7)
    have HB67 := Aside0.mk hb7
    have HF7 := Aside0.mk (HF6.out.below (by have := HRS6.out.lt; have := HT5.out.br; omega) hb7)
    clear hw7 hb7 hc7
    refine (Sy.await_calls HRS7.out HT5.out.iw HT5.out.br HOKP.out.2.2 (fun k hk => HSZ6.out k (Nat.le_trans HB67.out.size hk)) peer (some ⟨w6.heap.size, 0, none⟩) 1 [1] HC7.out (by simp)).mono ?_
    rw [← HRR.out]
    rintro e w8 ⟨rfl, hp8, hf8⟩
    have HT8 := Aside0.mk (show Two w8 w.heap.size 1 p b r R.2 R.2 from ⟨PS.fr HP7.out HT5.out.pr HT5.out.bn hf8, hp8, HIR.out, HIR.out, HT5.out.bp, HT5.out.bb, HT5.out.br, HT5.out.pr, HT5.out.bn⟩)
    have HF8 := Aside0.mk (HF7.out.r hf8)
    clear hp8 hf8
    rcases HCASE.out with h1 | ⟨h1, hJ, hnow, hpat⟩
    · have h1b : (R.1 != 0) = true := by rw [h1]; rfl
      go_wp2_with fail
      go_ret
      exact ⟨by simp [h1], HBW.out.trans HF8.out.1⟩
    · have HJ := Aside0.mk hJ
      have HNOW := Aside0.mk hnow
      have HPAT := Aside0.mk hpat
      have HK8 := Aside0.mk (keep_blk HF8.out HKW.out HOKB.out)
      clear hJ hnow hpat
      go_wp2_with fail
      go_loopg [14, 15] (xs.length + 1) (fun g v14 v15 wx => ∃ (i : Nat) (σ : St), i + g = xs.length + 1 ∧ i ≤ xs.length ∧ v15 = .int .i64 (i : Int) ∧ v14 = .int .i64 σ.now ∧ i ≤ 200 ∧ Aside0 (Two wx w.heap.size (1 + i) p b r σ σ) ∧ Aside0 (J σ peer) ∧ Aside0 (σ.patience = a2) ∧ Aside0 (Below w.heap.size w wx) ∧ Aside0 (wx.heap[w.heap.size]? = some (.cells #[.int .i64 a0, .int .i64 a1, .int .i64 a2] 22 (0, 0))))
      case atStart => exact ⟨0, R.2, by omega, by omega, rfl, by rw [HNOW.out], by omega, HT8, HJ, HPAT, ⟨HBW.out.trans HF8.out.1⟩, HK8⟩
      case round =>
        obtain ⟨i, σ, hig, hil, rfl, rfl, hi200, HTr, HJr, HPr, HB, HK⟩ := hrel
        cases gk with
        | zero => exfalso; omega
        | succ g =>
          by_cases hlt : (i : Int) < (xs.length : Int)
          · by_cases hlt2 : (i : Int) < 200
            · obtain ⟨ad, A1, c1, rfl, x0, x1, x2, x3, x4, hx4⟩ := at_Ac HR.out (i : Int) (by omega) hlt
              rw [Int.toNat_natCast] at x0 x1 x2 x3 x4
              have hgx := HG.out _ (rdA_mem xs i (by omega))
              obtain ⟨x, hx⟩ : ∃ x, x = rdA xs (i : Int) := ⟨_, rfl⟩
              rw [← hx] at x0 x1 x2 x3 x4 hx4 hgx
              replace x0 := pw_cell_below HB.out x0
              replace x1 := pw_cell_below HB.out x1
              replace x2 := pw_cell_below HB.out x2
              replace x3 := pw_cell_below HB.out x3
              replace x4 := pw_cell_below HB.out x4
              have HGX := Aside0.mk hgx
              have HX4 := Aside0.mk hx4
              obtain ⟨v, hv⟩ : ∃ v, v = wr.alloc (.cells (actC x A1 c1) 34) := ⟨_, rfl⟩
              have hbv : Below wr.heap.size wr v := by rw [hv]; exact below_alloc (Below.refl _ _) _
              have kv : v.heap[wr.heap.size]? = some (.cells (actC x A1 c1) 34 (0, 0)) := by rw [hv]; exact blk_new wr _
              have HTv := Aside0.mk (HTr.out.below hbv)
              have HBv := Aside0.mk (below_then HB.out HTr.out.size hbv)
              have HKv := Aside0.mk (blk_below HK.out hbv)
              have HAC := Aside0.mk (act_cells kv)
              obtain ⟨y0, y1, y2, y3, y4⟩ := act_cells kv
              unfold actC at hv
              have HV := Aside0.mk hv
              rw [hv] at y0 y1 y2 y3 y4
              clear hx hgx hx4 hv hbv kv
              by_cases hskip : x.f0 = 1 ∧ x.f1 = peer
              · have hs0 : (x.f0 == 1) = true := by rw [beq_iff_eq]; exact hskip.1
                have hs1 : (x.f1 == peer) = true := by rw [beq_iff_eq]; exact hskip.2
                clear hskip
                go_wp2_with fail
                rw [← HV.out]
                go_roundg g
                case measure => omega
                case rel => exact ⟨i + 1, σ, by omega, by omega, rfl, rfl, by omega, ⟨HTv.out.mono (by omega)⟩, HJr, HPr, HBv, HKv⟩
              · have HSK := Aside0.mk hskip
                have HTA := Aside0.mk (act_inv HTr.out.iv x HGX.out.2)
                have hn0 := HTr.out.iv.n0
                have hn1 := HTr.out.iv.n1
                obtain ⟨σ', hσ'⟩ : ∃ σ', σ' = (actS σ x).2 := ⟨_, rfl⟩
                have HSG := Aside0.mk hσ'
                have hm0 : 0 ≤ σ'.now := by rw [hσ']; exact HTA.out.n0
                have hm1 : σ'.now ≤ 1073741824 := by rw [hσ']; exact HTA.out.n1
                have HJ' := Aside0.mk (show J σ' peer by rw [hσ']; exact HJr.out.act HTr.out.iv x hskip)
                have HP' := Aside0.mk (show σ'.patience = a2 by rw [hσ', act_pat]; exact HPr.out)
                have HCC := Aside0.mk (show (x.f0 == 1) = false ∨ ((x.f0 == 1) = true ∧ (x.f1 == peer) = false) by
                  by_cases e : x.f0 = 1
                  · right
                    refine ⟨by rw [beq_iff_eq]; exact e, ?_⟩
                    rw [beq_eq_false_iff_ne]
                    exact fun e2 => hskip ⟨e, e2⟩
                  · left
                    rw [beq_eq_false_iff_ne]
                    exact e)
                obtain ⟨_, _, _, d3, _⟩ := HTv.out.rs.cells
                have D3 := Aside0.mk d3
                rw [HV.out] at d3
                clear hσ' hskip
                rcases HCC.out with hs0 | ⟨hs0, hs1⟩
                all_goals (
                  go_wp2_with fail
                  rw [← HV.out]
                  refine (do_calls (w0 := w) rfl HBv.out HTv.out (by omega) x HGX.out.1 A1 c1 HX4.out HGX.out.2).mono ?_
                  rw [← HSG.out]
                  rintro e w9 ⟨⟨v9, rfl, _⟩, hT9, hF9⟩
                  have HT9 := Aside0.mk hT9
                  have HB9 := Aside0.mk (HBv.out.trans hF9.1)
                  have HK9 := Aside0.mk (keep_blk hF9 HKv.out HOKB.out)
                  obtain ⟨_, _, _, e3, _⟩ := HT9.out.rs.cells
                  clear hT9 hF9 x0 x1 x2 x3 x4 y0 y1 y2 y3 y4 d3
                  go_wp2_with fail
                  refine (Sw.state_calls HT9.out.ps).mono ?_
                  rintro e w10 ⟨rfl, hd⟩
                  have HT10 := Aside0.mk (HT9.out.below hd.below)
                  have HB10 := Aside0.mk (below_then HB9.out HB9.out.size hd.below)
                  have HK10 := Aside0.mk (blk_below HK9.out hd.below)
                  clear hd e3
                  by_cases hph : σ'.phase = 0
                  · have hphb : (σ'.phase == 0) = true := by rw [beq_iff_eq]; exact hph
                    have hpt : σ'.now ≤ a2 := by rw [← HP'.out]; exact (HJ'.out hph).2
                    have z2 : w10.cell? ⟨w.heap.size, 2, none⟩ = some (.int .i64 a2) := blk_cell HK10.out 2
                    clear hph
                    go_wp2_with fail
                    go_roundg g
                    case measure => omega
                    case rel => exact ⟨i + 1, σ', by omega, by omega, rfl, by congr 1; omega, by omega, ⟨HT10.out.mono (by omega)⟩, HJ', HP', HB10, HK10⟩
                  · have hphb : (σ'.phase == 0) = false := by rw [beq_eq_false_iff_ne]; exact hph
                    clear hph
                    go_wp2_with fail
                    go_roundg g
                    case measure => omega
                    case rel => exact ⟨i + 1, σ', by omega, by omega, rfl, by congr 1; omega, by omega, ⟨HT10.out.mono (by omega)⟩, HJ', HP', HB10, HK10⟩)
            · go_wp2_with fail
              go_ret
              exact ⟨rfl, HB.out⟩
          · go_wp2_with fail
            go_ret
            exact ⟨rfl, HB.out⟩
  · have HOK := Aside0.mk hok
    clear hok
    go_enter Try.func3, Try.ntmps3
    go_wp2_with fail
    rw [← HW1.out]
    refine (new_calls a0 a1 a2 w1).mono ?_
    intro e w2 hh
    simp only [if_neg HOK.out] at hh
    obtain ⟨rfl, hb2⟩ := hh
    have HB2 := Aside0.mk hb2
    have k2 := blk_below K1.out hb2
    have m0 : w2.cell? ⟨w.heap.size, 0, none⟩ = some (.int .i64 a0) := blk_cell k2 0
    have m1 : w2.cell? ⟨w.heap.size, 1, none⟩ = some (.int .i64 a1) := blk_cell k2 1
    have m2 : w2.cell? ⟨w.heap.size, 2, none⟩ = some (.int .i64 a2) := blk_cell k2 2
    clear hb2 k2 l0 l1 l2
    go_wp2_with fail
    refine (ref_new_calls a0 a1 a2 w2).mono ?_
    intro e w3 hh
    simp only [if_neg HOK.out] at hh
    obtain ⟨rfl, hb3⟩ := hh
    have HB3 := Aside0.mk hb3
    clear hb3 m0 m1 m2
    go_wp2_with fail
    refine (new_calls 0 2 1 w3).mono ?_
    intro e w4 hh
    simp only [if_pos H012.out] at hh
    obtain ⟨rfl, _, hb4, hs4⟩ := hh
    have HB4 := Aside0.mk hb4
    have HBW := Aside0.mk (show Below w.heap.size w w4 from ((HB1.out.trans (HB2.out.mono HB1.out.size)).trans (HB3.out.mono (Nat.le_trans HB1.out.size HB2.out.size))).trans (HB4.out.mono (Nat.le_trans (Nat.le_trans HB1.out.size HB2.out.size) HB3.out.size)))
    clear hb4 hs4
    obtain ⟨q, hq⟩ : ∃ q, q = w3.heap.size + 1 := ⟨_, rfl⟩
    rw [← hq]
    clear hq
    go_wp2_with fail
    go_ret
    exact ⟨rfl, HBW.out⟩
end Go.Proofs.Ytfimakplmkbbjaa.Su
