/- Sessions of the program: Await walked. -/
import Derived.Test.YtfimakplmkbbjaaSx
namespace Go.Proofs.Ytfimakplmkbbjaa.Sa
open Go.RowKit Go.Maps Go.Proofs.Ytfimakplmkbbjaa.PSessionScripts Go.Proofs.Ytfimakplmkbbjaa.Mp Go.Proofs.Ytfimakplmkbbjaa.Mq Go.Proofs.Ytfimakplmkbbjaa.Sp Go.Proofs.Ytfimakplmkbbjaa.Sw Go.Proofs.Ytfimakplmkbbjaa.St Go.Proofs.Ytfimakplmkbbjaa.Sx Go.Proofs.YtfimakplmkbbjaaW.PrintWords Go.Proofs.YtfimakplmkbbjaaW.PrintLast Go.Proofs.YtfimakplmkbbjaaW.PrintMore
set_option linter.unusedVariables false
set_option linter.unusedSimpArgs false
variable {w : World} {B N p b : Nat} {ok : Nat → Prop} {σ : St}

theorem pred17 (w : World) : Ix.Pred 17 #[] w oddK where
  enter := fun args w => by go_simp
  calls := fun x => by
    show Calls Try.prog 17 #[.int .i64 x] w _
    by_cases h : x < 1
    · go_enter Try.func17, Try.ntmps17
      go_wp2
      go_ret
      exact ⟨by unfold oddK; rw [decide_eq_true h]; rfl, rfl⟩
    · go_enter Try.func17, Try.ntmps17
      go_wp2
      go_ret
      exact ⟨by unfold oddK; rw [decide_eq_false (by omega : ¬ x < 1)]; rfl, rfl⟩
theorem await_cells {W w : World} {p b : Nat} {σ : St} (h : Held W w) (hp : W.heap[p]? = some (.cells (cellsP σ b) 51 (0, 0))) :
    w.cell? ⟨p, 6, none⟩ = some (.map (some b)) ∧ w.cell? ⟨p, 3, none⟩ = some (.int .i64 σ.now) :=
  ⟨blk_cell (blk_below hp h.out) 6, blk_cell (blk_below hp h.out) 3⟩
set_option maxRecDepth 100000 in
set_option maxHeartbeats 1000000 in
theorem await_calls (h : PS w B N p b ok σ) (hI : Inv σ) (hB : B ≤ p) (hBb : B ≤ b) (hokb : ¬ ok b) (hok : ∀ k, w.heap.size ≤ k → ok k) (hN : N ≤ 1000000) (x : Int) (hx : I64 x) (A : Option Addr) (c : Nat) (l : List Int) (hr : Kd.C (Kd.int .i64) w A l.length l) (hl : l.length ≤ 17592186044416) :
    Calls Try.prog 8 #[.pointer (some ⟨p, 0, none⟩), .int .i64 x, .slice A l.length c] w fun e w' => Did B (N + 1) p b ok w (awaitS σ x l) e w' := by
  obtain ⟨R, hR⟩ : ∃ R, R = awaitS σ x l := ⟨_, rfl⟩
  rw [← hR]
  unfold awaitS at hR
  have hBw : B ≤ w.heap.size := by have := blk_lt h.1; omega
  have c4 : w.cell? ⟨p, 4, none⟩ = some (.int .i64 σ.phase) := blk_cell h.1 4
  have c6 : w.cell? ⟨p, 6, none⟩ = some (.map (some b)) := blk_cell h.1 6
  obtain ⟨n, f, s, hn, hm, hlie⟩ := h.2
  obtain ⟨t, A1, m1, c1, hV⟩ : ∃ t A1 m1 c1, (f x).getD (.agg #[.int .i64 0, .slice none 0 0]) = .agg #[.int .i64 t, .slice A1 m1 c1] := by
    have hlx := hlie x hx
    cases hy : σ.wt x with
    | none => rw [hy] at hlx; rw [hlx]; exact ⟨0, none, 0, 0, rfl⟩
    | some y =>
      rw [hy] at hlx
      obtain ⟨v, hv, hr⟩ := hlx
      obtain ⟨A, c, rfl⟩ := Kd.R_slice hr
      rw [hv]
      exact ⟨_, A, _, c, rfl⟩
  have hS : (f x).isSome = isB σ x := by
    have hlx := hlie x hx
    unfold isB
    cases hy : σ.wt x with
    | none => rw [hy] at hlx; rw [hlx]; rfl
    | some y => rw [hy] at hlx; obtain ⟨v, hv, hr⟩ := hlx; rw [hv]; rfl
  obtain ⟨w1, hw1⟩ : ∃ w1, w1 = w.alloc (.cells #[.int .i64 t, .slice A1 m1 c1] 56) := ⟨_, rfl⟩
  have hb1 : Below w.heap.size w w1 := by rw [hw1]; exact below_alloc (Below.refl _ _) _
  have H := Aside0.mk (h.below hb1)
  have F1 := Aside0.mk ((Fr.refl B p b w).below hBw hb1)
  have HB1 := Aside0.mk hb1
  have HI := Aside0.mk hI
  have HM := Aside0.mk hm
  have HV := Aside0.mk hV
  have HS := Aside0.mk hS
  have HX := Aside0.mk hx
  have HLI := Aside0.mk hlie
  have HNN := Aside0.mk (And.intro hn hN)
  have HRD := Aside0.mk (Kd.C_below hr hb1)
  have HW1 := Aside0.mk hw1
  have HOK := Aside0.mk hok
  have C4 := Aside0.mk (show w1.cell? ⟨p, 4, none⟩ = some (.int .i64 σ.phase) from blk_cell (h.below hb1).1 4)
  have c4a := C4.out
  rw [hw1] at c4a
  obtain ⟨is, his⟩ : ∃ is, isB σ x = is := ⟨_, rfl⟩
  have HIS := Aside0.mk his
  have HR0 := Aside0.mk hR
  clear h hm hV hS hlie hn hN hr hb1 hI hw1 hok his
  by_cases h0 : σ.phase = 0
  · have hb0 : (σ.phase != 0) = false := by rw [bne_eq_false_iff_eq]; exact h0
    rw [if_neg (by omega)] at hR
    have H0 := Aside0.mk h0
    clear h0
    cases hp : peerB σ x with
    | false =>
      rw [if_pos (.inl hp)] at hR
      have HP := Aside0.mk hp
      have HR := Aside0.mk hR
      clear hp hR
      go_enter Try.func8, Try.ntmps8
      go_wp2_with ((with_reducible refine gate_dst (N := 16) rfl ?_); refine wp_look_ok law Try.underlying3 Try.underlying49 (Try.zeroValue56 _) HM.out rfl (.tmp 14) (.tmp 15) rfl rfl x rfl HX.out ?_; rw [HV.out, HS.out, HIS.out])
      rw [← HW1.out]
      refine (peer_calls H.out x).mono ?_
      rintro e w2 ⟨rfl, rfl⟩
      rw [HP.out]
      go_wp2_with fail
      go_ret
      rw [HR.out]
      exact ⟨rfl, H.out.mono (Nat.le_succ _), F1.out⟩
    | true =>
      have HP := Aside0.mk hp
      by_cases hl0 : l.length = 0
      · rw [if_pos (.inr (.inl hl0))] at hR
        have hl0b : ((l.length : Int) == 0) = true := by rw [beq_iff_eq]; omega
        have HR := Aside0.mk hR
        clear hp hR hl0
        go_enter Try.func8, Try.ntmps8
        go_wp2_with ((with_reducible refine gate_dst (N := 16) rfl ?_); refine wp_look_ok law Try.underlying3 Try.underlying49 (Try.zeroValue56 _) HM.out rfl (.tmp 14) (.tmp 15) rfl rfl x rfl HX.out ?_; rw [HV.out, HS.out, HIS.out])
        rw [← HW1.out]
        refine (peer_calls H.out x).mono ?_
        rintro e w2 ⟨rfl, rfl⟩
        rw [HP.out]
        go_wp2_with fail
        go_ret
        rw [HR.out]
        exact ⟨rfl, H.out.mono (Nat.le_succ _), F1.out⟩
      · have hl0b : ((l.length : Int) == 0) = false := by rw [beq_eq_false_iff_ne]; omega
        cases ho : l.any oddK with
        | true =>
          rw [if_pos (.inr (.inr ho))] at hR
          have HO := Aside0.mk ho
          have HR := Aside0.mk hR
          clear hp hR ho
          go_enter Try.func8, Try.ntmps8
          go_wp2_with ((with_reducible refine gate_dst (N := 16) rfl ?_); refine wp_look_ok law Try.underlying3 Try.underlying49 (Try.zeroValue56 _) HM.out rfl (.tmp 14) (.tmp 15) rfl rfl x rfl HX.out ?_; rw [HV.out, HS.out, HIS.out])
          rw [← HW1.out]
          refine (peer_calls H.out x).mono ?_
          rintro e w2 ⟨rfl, rfl⟩
          rw [HP.out]
          go_wp2_with fail
          refine (Ix.contains_calls 17 #[] oddK A c l _ HRD.out (by omega) (pred17 _)).mono ?_
          rintro e w3 ⟨rfl, hw3⟩; subst hw3
          rw [HO.out]
          go_wp2_with fail
          go_ret
          rw [HR.out]
          exact ⟨rfl, H.out.mono (Nat.le_succ _), F1.out⟩
        | false =>
          have hneg : ¬ (peerB σ x = false ∨ l.length = 0 ∨ l.any oddK = true) := by rw [hp, ho]; simp; exact fun e => hl0 (by simp [e])
          rw [if_neg hneg, HIS.out] at hR
          have HO := Aside0.mk ho
          clear hp ho hl0 hneg
          cases is with
          | true =>
            rw [if_pos rfl] at hR
            have HR := Aside0.mk hR
            clear hR
            go_enter Try.func8, Try.ntmps8
            go_wp2_with ((with_reducible refine gate_dst (N := 16) rfl ?_); refine wp_look_ok law Try.underlying3 Try.underlying49 (Try.zeroValue56 _) HM.out rfl (.tmp 14) (.tmp 15) rfl rfl x rfl HX.out ?_; rw [HV.out, HS.out, HIS.out])
            rw [← HW1.out]
            refine (peer_calls H.out x).mono ?_
            rintro e w2 ⟨rfl, rfl⟩
            rw [HP.out]
            go_wp2_with fail
            refine (Ix.contains_calls 17 #[] oddK A c l _ HRD.out (by omega) (pred17 _)).mono ?_
            rintro e w3 ⟨rfl, hw3⟩; subst hw3
            rw [HO.out]
            go_wp2_with fail
            go_ret
            rw [HR.out]
            exact ⟨rfl, H.out.mono (Nat.le_succ _), F1.out⟩
          | false =>
            rw [if_neg (by simp)] at hR
            have HR := Aside0.mk hR
            clear hR
            go_enter Try.func8, Try.ntmps8
            go_wp2_with ((with_reducible refine gate_dst (N := 16) rfl ?_); refine wp_look_ok law Try.underlying3 Try.underlying49 (Try.zeroValue56 _) HM.out rfl (.tmp 14) (.tmp 15) rfl rfl x rfl HX.out ?_; rw [HV.out, HS.out, HIS.out])
            rw [← HW1.out]
            refine (peer_calls H.out x).mono ?_
            rintro e w2 ⟨rfl, rfl⟩
            rw [HP.out]
            go_wp2_with fail
            refine (Ix.contains_calls 17 #[] oddK A c l _ HRD.out (by omega) (pred17 _)).mono ?_
            rintro e w3 ⟨rfl, hw3⟩; subst hw3
            rw [HO.out]
            go_wp2_with fail
            have hhd : Held w2 w2.drew := ⟨below_drew (Below.refl _ _)⟩
            have HS0 := await_cells hhd H.out.1
            clear c4 c6 c4a hhd
            refine start_ (n := 14) (S := fun w' => w'.cell? ⟨p, 6, none⟩ = some (.map (some b)) ∧ w'.cell? ⟨p, 3, none⟩ = some (.int .i64 σ.now)) (ds := []) #[false, false, false, false, false, false, false, false, false, false, false, false, false, false] (by kernel_rfl) rfl rfl HS0 (fun hHeld => ?_)
            refine pure_ (i := 0) (N := some 42) (v := ?_) (a' := ?_) #[true, false, false, false, false, false, false, false, false, false, false, false, false, false] rfl rfl (by kernel_rfl) (fun _ _ _ h => h) (Or.inl ⟨by rfl, ?_⟩) ?_ ?_
            rotate_left
            · intro w'
              go_simp
              try with_reducible rfl
            rotate_left
            · simp only [Act.put, List.setIfInBounds_toArray, List.set_cons_zero, List.set_cons_succ, i64_w, i32_w]
              rfl
            refine pure_ (i := 1) (N := some 43) (v := ?_) (a' := ?_) #[true, true, false, false, false, false, false, false, false, false, false, false, false, false] rfl rfl (by kernel_rfl) (fun _ _ _ h => h) (Or.inl ⟨by rfl, ?_⟩) ?_ ?_
            rotate_left
            · intro w'
              go_simp
              try with_reducible rfl
            rotate_left
            · simp only [Act.put, List.setIfInBounds_toArray, List.set_cons_zero, List.set_cons_succ, i64_w, i32_w]
              rfl
            refine pure_ (i := 2) (N := some 44) (v := ?_) (a' := ?_) #[true, true, true, false, false, false, false, false, false, false, false, false, false, false] rfl rfl (by kernel_rfl) (fun _ _ _ h => h) (Or.inl ⟨by rfl, ?_⟩) ?_ ?_
            rotate_left
            · intro w'
              go_simp
              try with_reducible rfl
            rotate_left
            · simp only [Act.put, List.setIfInBounds_toArray, List.set_cons_zero, List.set_cons_succ, i64_w, i32_w]
              rfl
            refine pure_ (i := 4) (N := some 46) (v := ?_) (a' := ?_) #[true, true, true, false, true, false, false, false, false, false, false, false, false, false] rfl rfl (by kernel_rfl) (fun _ _ _ h => h) (Or.inl ⟨by rfl, ?_⟩) ?_ ?_
            rotate_left
            · intro w'
              go_simp
              try with_reducible rfl
            rotate_left
            · simp only [Act.put, List.setIfInBounds_toArray, List.set_cons_zero, List.set_cons_succ, i64_w, i32_w]
              rfl
            refine pure_ (i := 5) (N := some 47) (v := ?_) (a' := ?_) #[true, true, true, false, true, true, false, false, false, false, false, false, false, false] rfl rfl (by kernel_rfl) (fun _ _ _ h => h) (Or.inl ⟨by rfl, ?_⟩) ?_ ?_
            rotate_left
            · intro w'
              go_simp
              try with_reducible rfl
            rotate_left
            · simp only [Act.put, List.setIfInBounds_toArray, List.set_cons_zero, List.set_cons_succ, i64_w, i32_w]
              rfl
            refine pure_ (i := 6) (N := some 48) (v := ?_) (a' := ?_) #[true, true, true, false, true, true, true, false, false, false, false, false, false, false] rfl rfl (by kernel_rfl) (fun _ _ _ h => h) (Or.inl ⟨by rfl, ?_⟩) ?_ ?_
            rotate_left
            · intro w'
              go_simp
              try with_reducible rfl
            rotate_left
            · simp only [Act.put, List.setIfInBounds_toArray, List.set_cons_zero, List.set_cons_succ, i64_w, i32_w]
              rfl
            refine pure_ (i := 7) (N := some 49) (v := ?_) (a' := ?_) #[true, true, true, false, true, true, true, true, false, false, false, false, false, false] rfl rfl (by kernel_rfl) (fun _ _ _ h => h) (Or.inl ⟨by rfl, ?_⟩) ?_ ?_
            rotate_left
            · intro w'
              go_simp
              try with_reducible rfl
            rotate_left
            · simp only [Act.put, List.setIfInBounds_toArray, List.set_cons_zero, List.set_cons_succ, i64_w, i32_w]
              rfl
            refine pure_ (i := 10) (N := some 52) (v := ?_) (a' := ?_) #[true, true, true, false, true, true, true, true, false, false, true, false, false, false] rfl rfl (by kernel_rfl) (fun _ _ _ h => h) (Or.inl ⟨by rfl, ?_⟩) ?_ ?_
            rotate_left
            · intro w'
              go_simp
              try with_reducible rfl
            rotate_left
            · simp only [Act.put, List.setIfInBounds_toArray, List.set_cons_zero, List.set_cons_succ, i64_w, i32_w]
              rfl
            refine take_ (i := 3) (N := some 45) (v := ?_) (a' := ?_) #[true, true, true, true, true, true, true, true, false, false, true, false, false, false] rfl rfl (by kernel_rfl) (fun _ _ _ h => h) (Or.inl ⟨by rfl, ?_⟩) hHeld ?_ ?_
            rotate_left
            · rintro w' ⟨q6, q3⟩
              go_simp
              try with_reducible rfl
            rotate_left
            · simp only [Act.put, List.setIfInBounds_toArray, List.set_cons_zero, List.set_cons_succ, i64_w, i32_w]
              rfl
            refine take_ (i := 8) (N := some 50) (v := ?_) (a' := ?_) #[true, true, true, true, true, true, true, true, true, false, true, false, false, false] rfl rfl (by kernel_rfl) (fun _ _ _ h => h) (Or.inl ⟨by rfl, ?_⟩) hHeld ?_ ?_
            rotate_left
            · rintro w' ⟨q6, q3⟩
              go_simp
              try with_reducible rfl
            rotate_left
            · simp only [Act.put, List.setIfInBounds_toArray, List.set_cons_zero, List.set_cons_succ, i64_w, i32_w]
              rfl
            refine pure_ (i := 9) (N := some 51) (v := ?_) (a' := ?_) #[true, true, true, true, true, true, true, true, true, true, true, false, false, false] rfl rfl (by kernel_rfl) (fun _ _ _ h => h) (Or.inl ⟨by rfl, ?_⟩) ?_ ?_
            rotate_left
            · intro w'
              go_simp
              try with_reducible rfl
            rotate_left
            · simp only [Act.put, List.setIfInBounds_toArray, List.set_cons_zero, List.set_cons_succ, i64_w, i32_w]
              rfl
            refine one_ (i := 11) (N := some 53) #[true, true, true, true, true, true, true, true, true, true, true, true, false, false] rfl rfl (by kernel_rfl) (by decide) (fun K hK => ?_)
            refine goes_ Try.func20 (by kernel_rfl) rfl #[.slice A l.length c] (by rfl) rfl rfl (by first | rfl | (simp [Act.eval, Operand.eval]; done) | kernel_rfl) ?_
            refine (Cl.clone_calls A c l _ (show Kd.C (Kd.int .i64) w2.drew A l.length l from HRD.out) hl).mono ?_
            rintro e w4 ⟨v, rfl, ho4, hb4⟩
            replace hb4 : Below w2.heap.size w2 w4 := (below_drew (Below.refl _ w2)).trans hb4
            replace ho4 : (Kd.int .i64).R 3 w4 w2.heap.size (fun _ => True) v l := ho4
            refine ⟨_, rfl, ?_⟩
            have HS4 := await_cells ⟨hb4⟩ H.out.1
            obtain ⟨A4, c4, rfl⟩ := Kd.R_slice ho4
            have HO4 := Aside0.mk ho4
            have HB4 := Aside0.mk hb4
            clear ho4 hb4
            refine hK.out _ _ HS4 (fun hHeld => ?_)
            clear hK K
            refine norm_ (a' := ?_) ?_ ?_
            rotate_left
            · show Act.put _ (some 53) _ = _
              simp only [Act.put, List.setIfInBounds_toArray, List.set_cons_zero, List.set_cons_succ, i64_w, i32_w]
              rfl
            refine pure_ (i := 12) (N := some 54) (v := ?_) (a' := ?_) #[true, true, true, true, true, true, true, true, true, true, true, true, true, false] rfl rfl (by kernel_rfl) (fun _ _ _ h => h) (Or.inl ⟨by rfl, ?_⟩) ?_ ?_
            rotate_left
            · intro w'
              go_simp
              try with_reducible rfl
            rotate_left
            · simp only [Act.put, List.setIfInBounds_toArray, List.set_cons_zero, List.set_cons_succ, i64_w, i32_w]
              rfl
            have hm4 := (HM.out.below HB1.out).below HB4.out
            obtain ⟨w9, hrun, hm9, hg9⟩ := Mq.run_store law Try.underlying3 Try.underlying49 hm4 (by unfold maxLen; have := HNN.out; omega) x (.agg #[.int .i64 σ.now, .slice A4 l.length c4]) HX.out
            have HM9 := Aside0.mk hm9
            have HG9 := Aside0.mk hg9
            clear hm4 hm9 hg9
            have HS9 : w9.cell? ⟨p, 6, none⟩ = some (.map (some b)) ∧ w9.cell? ⟨p, 3, none⟩ = some (.int .i64 σ.now) := by
              have h9 : w9.heap[p]? = some (.cells (cellsP σ b) 51 (0, 0)) := by
                rw [HG9.out.block p (by have := blk_lt H.out.1; have := HB4.out.size; omega) (by intro e; exact H.out.ne (Option.some.inj e).symm), HB4.out.block p (blk_lt H.out.1), H.out.1]
              exact ⟨blk_cell h9 6, blk_cell h9 3⟩
            refine one_ (i := 13) (N := none) #[true, true, true, true, true, true, true, true, true, true, true, true, true, true] rfl rfl (by kernel_rfl) (by decide) (fun K hK => ?_)
            refine skip_ (w1 := w9) (by rfl) rfl (by first | (simp [execOp, Act.eval, hrun, Result.andThen]; done) | (go_simp; done) | (simp [execOp, Act.eval, Go.eval, hrun, Result.andThen])) ?_
            refine hK.out _ _ HS9 (fun hHeld => ?_)
            clear hK K
            refine done_ (by kernel_rfl) ?_
            clear hrun HS0 HS9 HS4 hHeld
            go_wp2_with fail
            go_ret
            rw [HR.out]
            have hB2 : B ≤ w2.heap.size := by have := blk_lt H.out.1; omega
            refine ⟨rfl, ⟨?_, n + 1, _, _, Nat.succ_le_succ HNN.out.1, HM9.out, ?_⟩, ?_⟩
            · rw [HG9.out.block p (by have := blk_lt H.out.1; have := HB4.out.size; omega) (by intro e; exact H.out.ne (Option.some.inj e).symm), HB4.out.block p (blk_lt H.out.1), H.out.1]
              rfl
            · refine Lies.put_ (HLI.out.step (fun k _ hlt => ?_)) HG9.out hokb x _ _ ⟨_, rfl, ?_⟩
              · rw [HB4.out.block k (by have := HB1.out.size; omega), HB1.out.block k hlt]
              · exact Kd.R_lower (Kd.R_mono (Kd.R_bound HO4.out) (fun k hk => HOK.out k (Nat.le_trans HB1.out.size hk.2.1))) hB2
            · exact (F1.out.below hB2 HB4.out).grown (by have := HB4.out.size; omega) HG9.out (fun k hk => by cases hk; exact ⟨.inr rfl, hBb⟩)
  · have hb0 : (σ.phase != 0) = true := by rw [bne_iff_ne]; exact h0
    rw [if_pos h0] at hR
    have HR := Aside0.mk hR
    clear h0 hR
    go_enter Try.func8, Try.ntmps8
    go_wp2_with ((with_reducible refine gate_dst (N := 16) rfl ?_); refine wp_look_ok law Try.underlying3 Try.underlying49 (Try.zeroValue56 _) HM.out rfl (.tmp 14) (.tmp 15) rfl rfl x rfl HX.out ?_; rw [HV.out, HS.out, HIS.out])
    rw [← HW1.out]
    go_ret
    rw [HR.out]
    exact ⟨rfl, H.out.mono (Nat.le_succ _), F1.out⟩
end Go.Proofs.Ytfimakplmkbbjaa.Sa
