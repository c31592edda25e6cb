/- Sessions of the document: Await walked. -/
import Derived.Test.YtfimakplmkbbjaaSz
namespace Go.Proofs.Ytfimakplmkbbjaa.Sy
open Go.RowKit Go.Maps Go.Proofs.Ytfimakplmkbbjaa.Mp Go.Proofs.Ytfimakplmkbbjaa.Mq Go.Proofs.Ytfimakplmkbbjaa.Sp Go.Proofs.Ytfimakplmkbbjaa.Sx Go.Proofs.Ytfimakplmkbbjaa.Sr Go.Proofs.Ytfimakplmkbbjaa.Sq Go.Proofs.Ytfimakplmkbbjaa.Sz Go.Proofs.YtfimakplmkbbjaaW.PrintWords Go.Proofs.YtfimakplmkbbjaaW.PrintLast Go.Proofs.YtfimakplmkbbjaaW.PrintMore
set_option linter.unusedVariables false
set_option linter.unusedSimpArgs false
variable {w w' : World} {B r : Nat} {ok : Nat → Prop} {σ : St}

set_option maxRecDepth 100000 in
set_option maxHeartbeats 1000000 in
theorem await_calls (h : RS w B r ok σ) (hI : Inv σ) (hB : B ≤ r) (hok : ¬ ok r) (hoks : ∀ k, w.heap.size ≤ k → ok k) (x : Int) (A : Option Addr) (c : Nat) (l : List Int) (hr : Kd.C (Kd.int .i64) w A l.length l) (hl : l.length ≤ 17592186044416) :
    Calls Try.prog 9 #[.pointer (some ⟨r, 0, none⟩), .int .i64 x, .slice A l.length c] w fun e w' => DidR B r ok w (awaitS σ x l) e w' := by
  obtain ⟨R, hR⟩ : ∃ R, R = awaitS σ x l := ⟨_, rfl⟩
  rw [← hR]
  unfold awaitS at hR
  obtain ⟨_, _, _, _, c4, _⟩ := h.cells
  have H := Aside0.mk h
  have HI := Aside0.mk hI
  have HRD := Aside0.mk hr
  have HOK := Aside0.mk hoks
  clear h hI hr hoks
  by_cases h0 : σ.phase = 0
  · have hb0 : (σ.phase != 0) = false := by rw [bne_eq_false_iff_eq]; exact h0
    have H0 := Aside0.mk h0
    rw [if_neg (by omega)] at hR
    clear h0
    cases hp : peerB σ x with
    | false =>
      rw [if_pos (.inl hp)] at hR
      have HP := Aside0.mk hp
      have HR := Aside0.mk hR
      clear hp hR
      go_enter Try.func9, Try.ntmps9
      go_wp2_with fail
      refine (peer_calls H.out x).mono ?_
      rintro e w2 ⟨rfl, hw2⟩
      subst hw2
      rw [HP.out]
      go_wp2_with fail
      go_ret
      rw [HR.out]
      exact ⟨rfl, H.out, Fr.refl _ _ _ _⟩
    | true =>
      have HP := Aside0.mk hp
      by_cases hl0 : l.length = 0
      · rw [if_pos (.inr (.inl hl0))] at hR
        have hl0b : ((l.length : Int) == 0) = true := by rw [beq_iff_eq]; omega
        have HR := Aside0.mk hR
        clear hp hR hl0
        go_enter Try.func9, Try.ntmps9
        go_wp2_with fail
        refine (peer_calls H.out x).mono ?_
        rintro e w2 ⟨rfl, hw2⟩
        subst hw2
        rw [HP.out]
        go_wp2_with fail
        go_ret
        rw [HR.out]
        exact ⟨rfl, H.out, Fr.refl _ _ _ _⟩
      · have hl0b : ((l.length : Int) == 0) = false := by rw [beq_eq_false_iff_ne]; omega
        have hiff : (peerB σ x = false ∨ l.length = 0 ∨ l.any oddK = true) ↔ l.any oddK = true := by rw [hp]; simp; intro e; exact absurd (by simp [e]) hl0
        have hR2 : R = (if l.any oddK = true then (1, σ) else if isB σ x = true then (18, σ) else (0, { σ with wt := setW σ.wt x (some (σ.now, l)) })) := by
          rw [hR]
          by_cases h3 : l.any oddK = true
          · rw [if_pos (hiff.2 h3), if_pos h3]
          · rw [if_neg (fun e => h3 (hiff.1 e)), if_neg h3]
        have HR := Aside0.mk hR2
        have hxx := peerB_iff.1 HP.out
        have hp1 := HI.out.p1
        obtain ⟨i, rfl⟩ : ∃ i : Nat, x = (i : Int) := ⟨x.toNat, by omega⟩
        have hi16 : i < 16 := by omega
        have hl16 : (i : Int) < 16 := by omega
        clear hp hR hR2 hiff hl0 hxx hp1
        go_enter Try.func9, Try.ntmps9
        go_wp2_with fail
        refine (peer_calls H.out (i : Int)).mono ?_
        rintro e w2 ⟨rfl, hw2⟩
        subst hw2
        rw [HP.out]
        go_wp2_with fail
        clear c4
        go_loopg [8] (l.length + 1) (fun g v8 wx => ∃ j : Nat, j + g = l.length + 1 ∧ j ≤ l.length ∧ v8 = .int .i64 (j : Int) ∧ Aside0 ((l.take j).any oddK = false) ∧ Aside0 (Below w2.heap.size w2 wx))
        case atStart => exact ⟨0, by omega, by omega, rfl, ⟨rfl⟩, ⟨Below.refl _ _⟩⟩
        case round =>
          obtain ⟨j, hjg, hjl, rfl, HJ, HB⟩ := hrel
          have HRr := Aside0.mk (H.out.below HB.out)
          have F2 := Aside0.mk ((Fr.refl B r r w2).below (by have := H.out.lt; omega) HB.out)
          cases gk with
          | zero => exfalso; omega
          | succ g =>
            by_cases hlt : (j : Int) < (l.length : Int)
            · obtain ⟨ad, rfl, hc⟩ := Kd.at_int (Kd.C_below HRD.out HB.out) (j : Int) (by omega) hlt
              rw [Int.toNat_natCast] at hc
              have hd : l.take (j + 1) = l.take j ++ [rd l (j : Int)] := by
                rw [List.take_succ_eq_append_getElem (by omega), rd_get l j (by omega)]
              have hmem : rd l (j : Int) ∈ l := by rw [rd_get l j (by omega)]; exact List.getElem_mem _
              obtain ⟨z, hz⟩ : ∃ z, z = rd l (j : Int) := ⟨_, rfl⟩
              rw [← hz] at hc hd hmem
              have HD := Aside0.mk hd
              have HMM := Aside0.mk hmem
              clear hz hd hmem
              by_cases hz1 : z < 1
              · go_wp2_with fail
                go_ret
                rw [HR.out, if_pos (List.any_eq_true.2 ⟨z, HMM.out, by unfold oddK; rw [decide_eq_true hz1]; rfl⟩)]
                exact ⟨rfl, HRr.out, F2.out⟩
              · by_cases hz2 : 11 < z
                · go_wp2_with fail
                  go_ret
                  rw [HR.out, if_pos (List.any_eq_true.2 ⟨z, HMM.out, by unfold oddK; rw [decide_eq_true (by omega : z > 11)]; simp⟩)]
                  exact ⟨rfl, HRr.out, F2.out⟩
                · have HZ := Aside0.mk (show oddK z = false by unfold oddK; rw [decide_eq_false (by omega), decide_eq_false (by omega)]; rfl)
                  go_wp2_with fail
                  go_roundg g
                  case measure => omega
                  case rel => exact ⟨j + 1, by omega, by omega, rfl, ⟨by rw [HD.out, List.any_append, HJ.out]; simp [HZ.out]⟩, HB⟩
            · have hje : j = l.length := by omega
              have HN := Aside0.mk (show l.any oddK = false by have := HJ.out; rw [hje, List.take_length] at this; exact this)
              obtain ⟨d0, _⟩ := HRr.out.at_ H0.out i hi16
              obtain ⟨is, his⟩ : ∃ is, isB σ (i : Int) = is := ⟨_, rfl⟩
              rw [his] at d0
              have HIS := Aside0.mk his
              clear hje his
              cases is with
              | true =>
                go_wp2_with fail
                go_ret
                rw [HR.out, HN.out, if_neg (by simp), HIS.out, if_pos rfl]
                exact ⟨rfl, HRr.out, F2.out⟩
              | false =>
                replace HR := Aside0.mk (show R = (0, { σ with wt := setW σ.wt (i : Int) (some (σ.now, l)) }) by rw [HR.out, HN.out, if_neg (by simp), HIS.out, if_neg (by simp)])
                go_wp2_with fail
                have HS0 : wr.drew.cell? ⟨r, 3, none⟩ = some (.int .i64 σ.now) := HRr.out.cells.2.2.2.1
                clear d0
                refine start_ (n := 14) (S := fun w' => w'.cell? ⟨r, 3, none⟩ = some (.int .i64 σ.now)) (ds := []) #[false, false, false, false, false, false, false, false, false, false, false, false, false, false] (by kernel_rfl) rfl rfl HS0 (fun hHeld => ?_)
                refine pure_ (i := 0) (N := some 49) (v := ?_) (a' := ?_) #[true, false, false, false, false, false, false, false, false, false, false, false, false, false] rfl rfl (by kernel_rfl) (fun _ _ _ h => h) (Or.inl ⟨by rfl, ?_⟩) ?_ ?_
                rotate_left
                · intro w'
                  go_simp
                  try with_reducible rfl
                rotate_left
                · simp only [Act.put, List.setIfInBounds_toArray, List.set_cons_zero, List.set_cons_succ, i64_w, i32_w]
                  rfl
                refine pure_ (i := 1) (N := some 50) (v := ?_) (a' := ?_) #[true, true, false, false, false, false, false, false, false, false, false, false, false, false] rfl rfl (by kernel_rfl) (fun _ _ _ h => h) (Or.inl ⟨by rfl, ?_⟩) ?_ ?_
                rotate_left
                · intro w'
                  go_simp
                  try with_reducible rfl
                rotate_left
                · simp only [Act.put, List.setIfInBounds_toArray, List.set_cons_zero, List.set_cons_succ, i64_w, i32_w]
                  rfl
                refine pure_ (i := 2) (N := some 51) (v := ?_) (a' := ?_) #[true, true, true, false, false, false, false, false, false, false, false, false, false, false] rfl rfl (by kernel_rfl) (fun _ _ _ h => h) (Or.inl ⟨by rfl, ?_⟩) ?_ ?_
                rotate_left
                · intro w'
                  go_simp
                  try with_reducible rfl
                rotate_left
                · simp only [Act.put, List.setIfInBounds_toArray, List.set_cons_zero, List.set_cons_succ, i64_w, i32_w]
                  rfl
                refine pure_ (i := 3) (N := some 52) (v := ?_) (a' := ?_) #[true, true, true, true, false, false, false, false, false, false, false, false, false, false] rfl rfl (by kernel_rfl) (fun _ _ _ h => h) (Or.inl ⟨by rfl, ?_⟩) ?_ ?_
                rotate_left
                · intro w'
                  go_simp
                  try with_reducible rfl
                rotate_left
                · simp only [Act.put, List.setIfInBounds_toArray, List.set_cons_zero, List.set_cons_succ, i64_w, i32_w]
                  rfl
                refine pure_ (i := 4) (N := some 53) (v := ?_) (a' := ?_) #[true, true, true, true, true, false, false, false, false, false, false, false, false, false] rfl rfl (by kernel_rfl) (fun _ _ _ h => h) (Or.inl ⟨by rfl, ?_⟩) ?_ ?_
                rotate_left
                · intro w'
                  go_simp
                  try with_reducible rfl
                rotate_left
                · simp only [Act.put, List.setIfInBounds_toArray, List.set_cons_zero, List.set_cons_succ, i64_w, i32_w]
                  rfl
                refine pure_ (i := 7) (N := some 56) (v := ?_) (a' := ?_) #[true, true, true, true, true, false, false, true, false, false, false, false, false, false] rfl rfl (by kernel_rfl) (fun _ _ _ h => h) (Or.inl ⟨by rfl, ?_⟩) ?_ ?_
                rotate_left
                · intro w'
                  go_simp
                  try with_reducible rfl
                rotate_left
                · simp only [Act.put, List.setIfInBounds_toArray, List.set_cons_zero, List.set_cons_succ, i64_w, i32_w]
                  rfl
                refine pure_ (i := 10) (N := some 59) (v := ?_) (a' := ?_) #[true, true, true, true, true, false, false, true, false, false, true, false, false, false] rfl rfl (by kernel_rfl) (fun _ _ _ h => h) (Or.inl ⟨by rfl, ?_⟩) ?_ ?_
                rotate_left
                · intro w'
                  go_simp
                  try with_reducible rfl
                rotate_left
                · simp only [Act.put, List.setIfInBounds_toArray, List.set_cons_zero, List.set_cons_succ, i64_w, i32_w]
                  rfl
                refine pure_ (i := 11) (N := some 60) (v := ?_) (a' := ?_) #[true, true, true, true, true, false, false, true, false, false, true, true, false, false] rfl rfl (by kernel_rfl) (fun _ _ _ h => h) (Or.inl ⟨by rfl, ?_⟩) ?_ ?_
                rotate_left
                · intro w'
                  go_simp
                  try with_reducible rfl
                rotate_left
                · simp only [Act.put, List.setIfInBounds_toArray, List.set_cons_zero, List.set_cons_succ, i64_w, i32_w]
                  rfl
                refine take_ (i := 5) (N := some 54) (v := ?_) (a' := ?_) #[true, true, true, true, true, true, false, true, false, false, true, true, false, false] rfl rfl (by kernel_rfl) (fun _ _ _ h => h) (Or.inl ⟨by rfl, ?_⟩) hHeld ?_ ?_
                rotate_left
                · intro w' q3
                  go_simp
                  try with_reducible rfl
                rotate_left
                · simp only [Act.put, List.setIfInBounds_toArray, List.set_cons_zero, List.set_cons_succ, i64_w, i32_w]
                  rfl
                refine one_ (i := 6) (N := some 55) #[true, true, true, true, true, true, true, true, false, false, true, true, false, false] rfl rfl (by kernel_rfl) (by decide) (fun K hK => ?_)
                refine Kd.R_lit_step (Kd.int .i64) _ 3 (by rfl) (N := 55) rfl (xs := ([] : List Int)) (inner := []) (ok := fun _ => True) (okp := fun _ => True) (by first | (go_simp; done) | (go_simp; rfl)) (Reps.none _ _) (fun _ hk => hk) trivial (Below.refl _ _) (Nat.le_refl _) (by simp) ?_
                intro v1 w3 ho3 hb3 _ _
                have HB3 := Aside0.mk (show Below wr.heap.size wr w3 from (below_drew (Below.refl _ wr)).trans hb3)
                have HO3 := Aside0.mk (show (Kd.int .i64).R 3 w3 wr.heap.size (fun _ => True) v1 ([] : List Int) from ho3)
                clear ho3 hb3
                refine hK.out _ _ (HRr.out.below HB3.out).cells.2.2.2.1 (fun hHeld => ?_)
                clear hK K
                refine norm_ (a' := ?_) ?_ ?_
                rotate_left
                · show Act.put _ (some 55) _ = _
                  simp only [Act.put, List.setIfInBounds_toArray, List.set_cons_zero, List.set_cons_succ, i64_w, i32_w]
                  rfl
                refine one_ (i := 8) (N := some 57) #[true, true, true, true, true, true, true, true, true, false, true, true, false, false] rfl rfl (by kernel_rfl) (by decide) (fun K hK => ?_)
                refine Kd.R_append_rows_step (Kd.int .i64) (w0 := wr) wr.heap.size (by rfl) (.tmp 55) (.tmp 56) 32 3 (.int .i64 0) 8 rfl Try.underlying32 Cl.info3 rfl (by decide) (by omega) v1 ([] : List Int) l A l.length c (fun _ => True) (fun _ => False) rfl rfl HO3.out (Kd.C_below HRD.out (HB.out.trans (HB3.out.mono HB.out.size))) (fun _ _ h => h) (fun _ h => h.elim) (fun _ _ => trivial) HB3.out HB3.out.size (by simp; omega) ?_
                intro v2 w4 ho4 hb4 _ _
                obtain ⟨A4, c4, rfl⟩ := Kd.R_slice ho4
                have HB4 := Aside0.mk hb4
                have HO4 := Aside0.mk (show (Kd.int .i64).R 3 w4 wr.heap.size (fun _ => True) (.slice A4 l.length c4) l from ho4)
                clear ho4 hb4
                refine hK.out _ _ (HRr.out.below HB4.out).cells.2.2.2.1 (fun hHeld => ?_)
                clear hK K
                refine norm_ (a' := ?_) ?_ ?_
                rotate_left
                · show Act.put _ (some 57) _ = _
                  simp only [Act.put, List.setIfInBounds_toArray, List.set_cons_zero, List.set_cons_succ, i64_w, i32_w]
                  rfl
                refine pure_ (i := 9) (N := some 58) (v := ?_) (a' := ?_) #[true, true, true, true, true, true, true, true, true, true, true, true, false, false] rfl rfl (by kernel_rfl) (fun _ _ _ h => h) (Or.inl ⟨by rfl, ?_⟩) ?_ ?_
                rotate_left
                · intro w'
                  go_simp
                  try with_reducible rfl
                rotate_left
                · simp only [Act.put, List.setIfInBounds_toArray, List.set_cons_zero, List.set_cons_succ, i64_w, i32_w]
                  rfl
                refine pure_ (i := 12) (N := some 61) (v := ?_) (a' := ?_) #[true, true, true, true, true, true, true, true, true, true, true, true, true, false] rfl rfl (by kernel_rfl) (fun _ _ _ h => h) (Or.inl ⟨by rfl, ?_⟩) ?_ ?_
                rotate_left
                · intro w'
                  go_simp
                  try with_reducible rfl
                rotate_left
                · simp only [Act.put, List.setIfInBounds_toArray, List.set_cons_zero, List.set_cons_succ, i64_w, i32_w]
                  rfl
                have hBw2 : B ≤ wr.heap.size := by have := HRr.out.lt; omega
                obtain ⟨w9, hrun, hp9, hf9⟩ := Sz.RS.put (HRr.out.below HB4.out) hB hok H0.out i hi16 (some (σ.now, l)) A4 l.length c4 (Kd.R_lower (Kd.R_mono (Kd.R_bound HO4.out) (fun k hk => HOK.out k (Nat.le_trans HB.out.size hk.2.1))) hBw2)
                have HP9 := Aside0.mk hp9
                have HF9 := Aside0.mk ((F2.out.below hBw2 HB4.out).trans hf9)
                change (Instr.storeAt 36 (.pointer (some ⟨r, 6 + i * 3, none⟩)) (.agg #[.bool true, .int .i64 σ.now, .slice A4 l.length c4])).run Try.prog _ = _ at hrun
                clear hf9 hp9
                refine one_ (i := 13) (N := none) #[true, true, true, true, true, true, true, true, true, true, true, true, true, true] rfl rfl (by kernel_rfl) (by decide) (fun K hK => ?_)
                refine skip_ (w1 := w9) (by rfl) rfl (by first | (simp [execOp, Act.eval, hrun, Result.andThen]; done) | (go_simp; done)) ?_
                refine hK.out _ _ HP9.out.cells.2.2.2.1 (fun hHeld => ?_)
                clear hK K
                refine done_ (by kernel_rfl) ?_
                clear hrun hHeld
                go_wp2_with fail
                go_ret
                rw [HR.out]
                exact ⟨rfl, HP9.out, HF9.out⟩
  · have hb0 : (σ.phase != 0) = true := by rw [bne_iff_ne]; exact h0
    rw [if_pos h0] at hR
    have HR := Aside0.mk hR
    clear h0 hR
    go_enter Try.func9, Try.ntmps9
    go_wp2_with fail
    go_ret
    rw [HR.out]
    exact ⟨rfl, H.out, Fr.refl _ _ _ _⟩
end Go.Proofs.Ytfimakplmkbbjaa.Sy
