/- Sessions of the document: Who, Finish, Tick walked. -/
import Derived.Test.YtfimakplmkbbjaaSr
namespace Go.Proofs.Ytfimakplmkbbjaa.Sq
open Go.RowKit Go.Maps Go.Proofs.Ytfimakplmkbbjaa.Mp Go.Proofs.Ytfimakplmkbbjaa.Mq Go.Proofs.Ytfimakplmkbbjaa.Sp Go.Proofs.Ytfimakplmkbbjaa.Sr Go.Proofs.YtfimakplmkbbjaaW.PrintWords Go.Proofs.YtfimakplmkbbjaaW.PrintLast Go.Proofs.YtfimakplmkbbjaaW.PrintMore
set_option linter.unusedVariables false
set_option linter.unusedSimpArgs false
variable {w w' : World} {B r : Nat} {ok : Nat → Prop} {σ : St}

def whoN (σ : St) (i : Nat) : List Int := ((List.range i).map Int.ofNat).filter (isB σ)
theorem whoN_succ (σ : St) (i : Nat) : whoN σ (i + 1) = whoN σ i ++ (if isB σ (i : Int) = true then [(i : Int)] else []) := by
  unfold whoN
  rw [List.range_succ, List.map_append, List.filter_append]
  congr 1
  show List.filter (isB σ) [(i : Int)] = _
  rw [List.filter_cons, List.filter_nil]
theorem whoN_len (σ : St) (i : Nat) : (whoN σ i).length ≤ i := by
  unfold whoN
  refine Nat.le_trans (List.length_filter_le _ _) ?_
  simp
theorem is_small (hI : Inv σ) (x : Int) (h : σ.parties ≤ x) : isB σ x = false := by
  unfold isB
  cases hy : σ.wt x with
  | none => rfl
  | some y => have := hI.w x y hy; omega
theorem whoN_end (hI : Inv σ) : ∀ k, whoN σ (σ.parties.toNat + k) = whoN σ σ.parties.toNat := by
  intro k
  induction k with
  | zero => rfl
  | succ k ih =>
    rw [← Nat.add_assoc, whoN_succ, ih, if_neg (by rw [is_small hI _ (by have := hI.p0; omega)]; simp), List.append_nil]
theorem who_eq (hI : Inv σ) : whoS σ = whoN σ σ.parties.toNat := by
  have h := whoN_end hI (16 - σ.parties.toNat)
  rw [← h, show σ.parties.toNat + (16 - σ.parties.toNat) = 16 by have := hI.p0; have := hI.p1; omega]
  rfl
theorem who_none (hI : Inv σ) (hp : σ.phase ≠ 0) : whoS σ = [] := by
  unfold whoS
  rw [List.filter_eq_nil_iff]
  intro x _
  unfold isB
  rw [hI.over hp x]
  simp
theorem who_any (σ : St) : ids16.any (isB σ) = decide (0 < (whoS σ).length) := by
  unfold whoS
  rw [Bool.eq_iff_iff, List.any_eq_true, decide_eq_true_eq, List.length_pos_iff_exists_mem]
  constructor
  · rintro ⟨x, h1, h2⟩; exact ⟨x, List.mem_filter.2 ⟨h1, h2⟩⟩
  · rintro ⟨x, h⟩; exact ⟨x, List.mem_filter.1 h⟩

set_option maxRecDepth 100000 in
set_option maxHeartbeats 1000000 in
theorem who_calls (h : RS w B r ok σ) (hI : Inv σ) :
    Calls Try.prog 15 #[.pointer (some ⟨r, 0, none⟩)] w fun e w' => ∃ v, e = .returned v ∧ (Kd.int .i64).R 3 w' w.heap.size (fun _ => True) v (whoS σ) ∧ Below w.heap.size w w' := by
  have H := Aside0.mk h
  have HI := Aside0.mk hI
  have hp0 := hI.p0
  have hp1 := hI.p1
  by_cases h0 : σ.phase = 0
  · have hb0 : (σ.phase == 0) = true := by rw [beq_iff_eq]; exact h0
    have H0 := Aside0.mk h0
    clear h hI h0
    obtain ⟨P, hP⟩ : ∃ P : Nat, σ.parties = (P : Int) := ⟨σ.parties.toNat, by omega⟩
    have HPP := Aside0.mk hP
    have HP16 := Aside0.mk (show P ≤ 16 by omega)
    clear hp0 hp1 hP
    go_enter Try.func15, Try.ntmps15
    go_wp2_with fail
    go_loopg [3, 4] (P + 1) (fun g v3 v4 wx => ∃ i : Nat, i + g = P + 1 ∧ i ≤ P ∧ v4 = .int .i64 (i : Int) ∧ Aside0 ((Kd.int .i64).R 3 wx w.heap.size (fun _ => True) v3 (whoN σ i)) ∧ Aside0 (Below w.heap.size w wx))
    case atStart => exact ⟨0, by omega, by omega, rfl, ⟨Kd.R_nil _ _ _ _ _⟩, ⟨Below.refl _ _⟩⟩
    case round =>
      obtain ⟨i, hig, hiP, rfl, HO, HB⟩ := hrel
      obtain ⟨c0, c1, c2, c3, c4, c5⟩ := (H.out.below HB.out).cells
      rw [HPP.out] at c1
      clear c0 c2 c3 c5
      cases gk with
      | zero =>
        exfalso
        omega
      | succ g =>
        by_cases hlt : (i : Int) < (P : Int)
        · obtain ⟨d0, d1, dv, d2, d3⟩ := (H.out.below HB.out).at_ H0.out i (by have := HP16.out; omega)
          obtain ⟨is, his⟩ : ∃ is, isB σ (i : Int) = is := ⟨_, rfl⟩
          have HIS := Aside0.mk his
          rw [his] at d0
          have HL := Aside0.mk (whoN_len σ i)
          have hi16 := HP16.out
          clear his d1 d2 d3
          cases is with
          | true =>
            obtain ⟨A, c, rfl⟩ := Kd.R_slice HO.out
            go_wp2_with (at_builtin; (refine Kd.R_append (Kd.int .i64) (w0 := w) w.heap.size rfl (.tmp 27) (.tmp 29) 32 3 (.int .i64 0) 8 rfl Try.underlying32 Cl.info3 rfl (by decide) (by omega) (.slice A (whoN σ i).length c) (whoN σ i) (i : Int) [.int .i64 (i : Int)] (fun _ => True) (fun _ => False) rfl rfl ?aP (fun _ hk => hk.elim) (fun _ _ => trivial) ?aO ?aB ?aS ?aL ?_; (case aP => exact rfl); (case aO => exact HO.out); (case aB => exact HB.out); (case aS => exact HB.out.size); (case aL => have := HL.out; omega); intro v4 w4 ho4 hb4 hg4 _; have HO4 := Aside0.mk ho4; have HB4 := Aside0.mk hb4; clear ho4 hb4 hg4))
            go_roundg g
            case measure => omega
            case rel => exact ⟨i + 1, by omega, by omega, rfl, ⟨by rw [whoN_succ, if_pos HIS.out]; exact HO4.out⟩, HB4⟩
          | false =>
            go_wp2_with fail
            go_roundg g
            case measure => omega
            case rel => exact ⟨i + 1, by omega, by omega, rfl, ⟨by rw [whoN_succ, if_neg (by rw [HIS.out]; simp), List.append_nil]; exact HO.out⟩, HB⟩
        · have hie : i = P := by omega
          have HO2 := Aside0.mk (show (Kd.int .i64).R 3 wr w.heap.size (fun _ => True) u3 (whoS σ) by rw [who_eq HI.out, HPP.out, Int.toNat_natCast, ← hie]; exact HO.out)
          clear hie
          go_wp2_with fail
          go_ret
          exact ⟨_, rfl, HO2.out, HB.out⟩
  · have hb0 : (σ.phase == 0) = false := by rw [beq_eq_false_iff_ne]; exact h0
    have H0 := Aside0.mk h0
    obtain ⟨c0, c1, c2, c3, c4, c5⟩ := h.cells
    have hps : (0 : Int) < σ.parties := by omega
    clear h hI h0 c0 c2 c3 c5 hp0 hp1
    go_enter Try.func15, Try.ntmps15
    go_wp2_with fail
    go_loopg [3, 4] 1 (fun g v3 v4 wx => v3 = .slice none 0 0 ∧ v4 = .int .i64 0 ∧ wx = w)
    case atStart => exact ⟨rfl, rfl, rfl⟩
    case round =>
      obtain ⟨rfl, rfl, rfl⟩ := hrel
      go_wp2_with fail
      go_ret
      exact ⟨_, rfl, by rw [who_none HI.out H0.out]; exact Kd.R_nil _ _ _ _ _, Below.refl _ _⟩

set_option maxRecDepth 100000 in
set_option maxHeartbeats 400000 in
theorem finish_calls (h : RS w B r ok σ) (hI : Inv σ) (hB : B ≤ r) (hok : ¬ ok r) :
    Calls Try.prog 27 #[.pointer (some ⟨r, 0, none⟩)] w fun e w' => DidR B r ok w (finishS σ) e w' := by
  obtain ⟨_, _, _, _, c4, c5⟩ := h.cells
  have H := Aside0.mk h
  have HI := Aside0.mk hI
  have HBr := Aside0.mk (show B ≤ w.heap.size by have := h.lt; omega)
  clear h hI
  unfold finishS
  by_cases h0 : σ.phase = 0
  · have hb0 : (σ.phase != 0) = false := by rw [bne_eq_false_iff_eq]; exact h0
    rw [if_neg (by omega), who_any]
    obtain ⟨xs, hxs⟩ : ∃ xs, xs = whoS σ := ⟨_, rfl⟩
    rw [← hxs]
    have HXS := Aside0.mk hxs
    clear h0 hxs
    cases hd : decide (0 < xs.length) with
    | true =>
      rw [if_pos rfl]
      have h1 : (0 : Int) < (xs.length : Int) := by have := of_decide_eq_true hd; omega
      clear hd
      go_enter Try.func27, Try.ntmps27
      go_wp2_with fail
      refine (who_calls H.out HI.out).mono ?_
      rintro e w1 ⟨v, rfl, ho, hb⟩
      rw [← HXS.out] at ho
      obtain ⟨A, c, rfl⟩ := Kd.R_slice ho
      have HB1 := Aside0.mk hb
      clear ho hb
      go_wp2_with fail
      go_ret
      exact ⟨rfl, H.out.below HB1.out, (Fr.refl B r r w).below HBr.out HB1.out⟩
    | false =>
      rw [if_neg (by simp)]
      have h1 : ¬ (0 : Int) < (xs.length : Int) := by have := of_decide_eq_false hd; omega
      clear hd
      go_enter Try.func27, Try.ntmps27
      go_wp2_with fail
      refine (who_calls H.out HI.out).mono ?_
      rintro e w1 ⟨v, rfl, ho, hb⟩
      rw [← HXS.out] at ho
      obtain ⟨A, c, rfl⟩ := Kd.R_slice ho
      have HB1 := Aside0.mk hb
      clear ho hb
      go_wp2_with fail
      refine (end_calls (H.out.below HB1.out) hB hok 1 0 (by decide)).mono ?_
      rintro e w2 ⟨rfl, hp, hf⟩
      have HP := Aside0.mk hp
      have HF := Aside0.mk hf
      clear hp hf
      go_wp2_with fail
      go_ret
      exact ⟨rfl, HP.out, ((Fr.refl B r r w).below HBr.out HB1.out).trans HF.out⟩
  · have hb0 : (σ.phase != 0) = true := by rw [bne_iff_ne]; exact h0
    rw [if_pos h0]
    clear h0
    go_enter Try.func27, Try.ntmps27
    go_wp2_with fail
    go_ret
    exact ⟨rfl, H.out, Fr.refl _ _ _ _⟩

theorem since_some {x : Int} (h : isB σ x = true) : ∃ y, σ.wt x = some y ∧ sinceOf σ x = y.1 := by
  unfold isB at h
  cases hy : σ.wt x with
  | none => rw [hy] at h; cases h
  | some y => exact ⟨y, rfl, by unfold sinceOf; rw [hy]⟩
set_option maxRecDepth 100000 in
set_option maxHeartbeats 1000000 in
theorem tick_calls (h : RS w B r ok σ) (hI : Inv σ) (hB : B ≤ r) (hok : ¬ ok r) (y : Int) :
    Calls Try.prog 25 #[.pointer (some ⟨r, 0, none⟩), .int .i64 y] w fun e w' => DidR B r ok w (tickS σ y) e w' := by
  obtain ⟨_, _, _, c3, c4, _⟩ := h.cells
  have f3 := h.frozen 3
  have H := Aside0.mk h
  have HI := Aside0.mk hI
  have hn0 := hI.n0
  have hn1 := hI.n1
  clear hI
  unfold tickS
  by_cases h0 : σ.phase = 0
  · have hb0 : (σ.phase != 0) = false := by rw [bne_eq_false_iff_eq]; exact h0
    rw [if_neg (by omega)]
    by_cases h1 : y < 1
    · rw [if_pos (.inl h1)]
      clear h0 h
      go_enter Try.func25, Try.ntmps25
      go_wp2_with fail
      go_ret
      exact ⟨rfl, H.out, Fr.refl _ _ _ _⟩
    · by_cases h2 : 1073741824 - σ.now < y
      · rw [if_pos (.inr h2)]
        clear h0 h
        go_enter Try.func25, Try.ntmps25
        go_wp2_with fail
        go_ret
        exact ⟨rfl, H.out, Fr.refl _ _ _ _⟩
      · rw [if_neg (by omega)]
        obtain ⟨σ1, hσ1⟩ : ∃ σ1 : St, σ1 = { σ with now := σ.now + y } := ⟨_, rfl⟩
        have HI1 := Aside0.mk (hσ1 ▸ HI.out.tick y (by omega) (by omega) : Inv σ1)
        have hw1n : σ.now + y = σ1.now := by rw [hσ1]
        have hlate : ids16.any (lateB σ (σ.now + y)) = ids16.any (lateB σ1 σ1.now) := by rw [hσ1]; rfl
        rw [← hσ1, hlate]
        obtain ⟨R, hR⟩ : ∃ R, R = (if ids16.any (lateB σ1 σ1.now) = true then ((19 : Int), overS σ1 2 19) else (0, σ1)) := ⟨_, rfl⟩
        rw [← hR]
        have HRR := Aside0.mk hR
        obtain ⟨w1, hw1⟩ : ∃ w1, w1 = w.setCell ⟨r, 3, none⟩ (.int .i64 σ1.now) := ⟨_, rfl⟩
        have h1' := h.set hok 3 (.int .i64 σ1.now) σ1 (by omega) (fun _ => ⟨h0, by rw [hσ1]⟩) (by rw [hσ1]; rfl) (by rw [hσ1]; rfl) (by rw [hσ1]; rfl) (by rw [hσ1]; rfl) (by rw [hσ1]; rfl) (by rw [hσ1]; rfl)
        rw [← hw1] at h1'
        have H1 := Aside0.mk h1'
        have H01 := Aside0.mk (show σ1.phase = 0 by rw [hσ1]; exact h0)
        have F1 := Aside0.mk (show Fr B r r w w1 by rw [hw1]; exact (Fr.refl B r r w).set hB 3 _)
        have HW1 := Aside0.mk hw1
        have hs0 := HI1.out.n0
        have hs1 := HI1.out.n1
        have hp0 := HI1.out.p0
        have hp1 := HI1.out.p1
        obtain ⟨P, hP⟩ : ∃ P : Nat, σ1.parties = (P : Int) := ⟨σ1.parties.toNat, by omega⟩
        have HPP := Aside0.mk hP
        have hP16 : P ≤ 16 := by omega
        clear h h0 hlate hR hw1 hσ1 h1' hp0 hp1 hP
        go_enter Try.func25, Try.ntmps25
        go_wp2_with fail
        rw [← HW1.out]
        clear c3 c4 f3
        go_loopg [5] (P + 1) (fun g v5 wx => ∃ i : Nat, i + g = P + 1 ∧ i ≤ P ∧ v5 = .int .i64 (i : Int) ∧ Aside0 (∀ j : Nat, j < i → lateB σ1 σ1.now (j : Int) = false) ∧ Aside0 (Below w1.heap.size w1 wx))
        case atStart => exact ⟨0, by omega, by omega, rfl, ⟨fun j hj => by omega⟩, ⟨Below.refl _ _⟩⟩
        case round =>
          obtain ⟨i, hig, hiP, rfl, HJ, HB⟩ := hrel
          have HR1 := Aside0.mk (H1.out.below HB.out)
          obtain ⟨c0, c1, c2, c3, c4, c5⟩ := HR1.out.cells
          rw [HPP.out] at c1
          clear c0 c4 c5
          have F2 := Aside0.mk (F1.out.below (by have := H1.out.lt; omega) HB.out)
          cases gk with
          | zero => exfalso; omega
          | succ g =>
            by_cases hlt : (i : Int) < (P : Int)
            · obtain ⟨d0, d1, dv, d2, d3⟩ := HR1.out.at_ H01.out i (by omega)
              have hl16 : (i : Int) < 16 := by omega
              clear d2 d3
              obtain ⟨t, ht⟩ : ∃ t, sinceOf σ1 (i : Int) = t := ⟨_, rfl⟩
              obtain ⟨is, his⟩ : ∃ is, isB σ1 (i : Int) = is := ⟨_, rfl⟩
              rw [his] at d0
              rw [ht] at d1
              cases is with
              | true =>
                obtain ⟨y0, hy0, hs⟩ := since_some his
                have hb := HI1.out.w _ _ hy0
                have ht1 : 0 ≤ t := by rw [← ht, hs]; exact hb.2.2.1
                have ht2 : t ≤ σ1.now := by rw [← ht, hs]; exact hb.2.2.2.1
                have hla : lateB σ1 σ1.now (i : Int) = decide (σ1.now - t > σ1.patience) := by unfold lateB; rw [hy0, ← ht, hs]
                obtain ⟨la, hla2⟩ : ∃ la, decide (σ1.patience < σ1.now - t) = la := ⟨_, rfl⟩
                have HLA := Aside0.mk (show lateB σ1 σ1.now (i : Int) = la by rw [hla, ← hla2])
                clear hy0 hs hb hla ht his
                cases la with
                | true =>
                  go_wp2_with fail
                  go_quiet (fail)
                  go_wp2_with fail
                  have hbd := pw_below_drewN (Below.refl wr.heap.size wr) nq
                  refine (end_calls (HR1.out.below hbd) hB hok 2 19 (by decide)).mono ?_
                  rintro e w2 ⟨rfl, hp, hf⟩
                  have HP := Aside0.mk hp
                  have HF := Aside0.mk ((F2.out.below (by have := HR1.out.lt; omega) hbd).trans hf)
                  clear hp hf hbd
                  go_wp2_with fail
                  go_ret
                  rw [HRR.out, if_pos (List.any_eq_true.2 ⟨(i : Int), mem_ids.2 ⟨by omega, hl16⟩, HLA.out⟩)]
                  exact ⟨rfl, HP.out, HF.out⟩
                | false =>
                  have HJ2 := Aside0.mk (show ∀ j : Nat, j < i + 1 → lateB σ1 σ1.now (j : Int) = false from fun j hj => by
                    by_cases e : j = i
                    · rw [e]; exact HLA.out
                    · exact HJ.out j (by omega))
                  go_wp2_with fail
                  go_quiet (fail)
                  go_wp2_with fail
                  go_roundg g
                  case measure => omega
                  case rel => exact ⟨i + 1, by omega, by omega, rfl, HJ2, ⟨pw_below_drewN HB.out _⟩⟩
              | false =>
                have HJ2 := Aside0.mk (show ∀ j : Nat, j < i + 1 → lateB σ1 σ1.now (j : Int) = false from fun j hj => by
                  by_cases e : j = i
                  · rw [e]
                    unfold lateB
                    unfold isB at his
                    cases hy : σ1.wt (i : Int) with
                    | none => rfl
                    | some y => rw [hy] at his; cases his
                  · exact HJ.out j (by omega))
                clear his ht
                go_wp2_with fail
                go_quiet (fail)
                go_wp2_with fail
                go_roundg g
                case measure => omega
                case rel => exact ⟨i + 1, by omega, by omega, rfl, HJ2, ⟨pw_below_drewN HB.out _⟩⟩
            · have hie : i = P := by omega
              have hno : ids16.any (lateB σ1 σ1.now) = false := by
                rw [List.any_eq_false]
                intro x hx
                have hx' := mem_ids.1 hx
                by_cases hxp : x < (P : Int)
                · have := HJ.out x.toNat (by omega)
                  rw [show ((x.toNat : Nat) : Int) = x by omega] at this
                  rw [this]; simp
                · have h5 := is_small HI1.out x (by rw [HPP.out]; omega)
                  unfold lateB
                  unfold isB at h5
                  cases hy : σ1.wt x with
                  | none => simp
                  | some y => rw [hy] at h5; cases h5
              have HNO := Aside0.mk hno
              clear hno hie
              go_wp2_with fail
              go_ret
              rw [HRR.out, HNO.out, if_neg (by simp)]
              exact ⟨rfl, HR1.out, F2.out⟩
  · have hb0 : (σ.phase != 0) = true := by rw [bne_iff_ne]; exact h0
    rw [if_pos h0]
    clear h0 h
    go_enter Try.func25, Try.ntmps25
    go_wp2_with fail
    go_ret
    exact ⟨rfl, H.out, Fr.refl _ _ _ _⟩
end Go.Proofs.Ytfimakplmkbbjaa.Sq
