/- CodecAgain: the law's Go function answers true at every input. -/
import Derived.Test.YtkdelfpjaaemnaaWlk2
namespace Go.Proofs.Ytkdelfpjaaemnaa.Rd
set_option linter.unusedSimpArgs false
set_option linter.unusedVariables false
open Go.RowKit Go.Proofs.Ytkdelfpjaaemnaa.Rf Go.Proofs.Ytkdelfpjaaemnaa.Fns Go.Proofs.Ytkdelfpjaaemnaa.Plain Go.Proofs.YtkdelfpjaaemnaaW.PrintWords Go.Proofs.YtkdelfpjaaemnaaW.PrintLast Go.Proofs.YtkdelfpjaaemnaaW.PrintMore

theorem C_str {w : World} {A : Option Addr} {n c : Nat} {xs : List Int} (h : (Kd.int .u8).C w A n xs) : (convert 23 9 (.slice A n c)).run Try.prog w = .ok (.string (strOfNums xs)) w :=
  Kd.C_string (P := Try.prog) Try.underlying23 Try.underlying5 Try.underlying9 h

set_option maxRecDepth 100000 in
set_option maxHeartbeats 800000 in
theorem again_calls (A : Option Addr) (c : Nat) (xs : List Int) (w : World) (hr : (Kd.int .u8).C w A xs.length xs) (hc : xs.length ≤ c) (hl : xs.length ≤ 140737488351232) (hb : ∀ x ∈ xs, 0 ≤ x ∧ x < 256) :
    Calls Try.prog 7 #[.slice A xs.length c] w fun e w' => e = .returned (.bool true) ∧ Below w.heap.size w w' := by
  have HR := Aside0.mk hr
  obtain ⟨v, m, hx⟩ : ∃ v m, nx 0 0 xs = (v, m) := ⟨_, _, rfl⟩
  have hm : m ≤ xs.length := by have := nx_le xs 0 0; rw [hx] at this; simpa using this
  have hv := nx_range xs 0 0
  rw [hx] at hv
  obtain ⟨n, rfl⟩ := Int.eq_ofNat_of_zero_le hv.1
  have hn : n < 18446744073709551616 := by have := hv.2; simp at this; omega
  have HB := Aside0.mk hb
  have HX := Aside0.mk hx
  clear hr hv
  have hsp : sp 0 0 xs = ((n : Int), m) := by rw [← hx]; exact (nx_sp xs hb 0 0 (by omega) (by simp)).symm
  have HS := Aside0.mk hsp
  have H1 := Aside0.mk (number_is n hn)
  have HN := Aside0.mk hn
  clear hb hx hsp hn
  go_enter Try.func7, Try.ntmps7
  go_wp2_with fail
  refine (new_calls A c xs _ HR.out (by omega)).mono ?_
  rintro e w1 ⟨g, w0, rfl, hI, hB0, hBw, hB1⟩
  have HI := Aside0.mk hI
  have HB0 := Aside0.mk hB0
  have HBw := Aside0.mk hBw
  have HB1 := Aside0.mk hB1
  clear hI hB0 hB1 hBw
  go_wp2_with fail
  by_cases h0 : m = 0
  · have HY := Aside0.mk (show rNum 18446744073709551615 xs = (0, 13, xs) by unfold rNum; rw [HX.out, if_pos (.inl h0)])
    refine (rnumber_calls g xs w0 _ HI.out HB0.out _ _ _ _ HY.out).mono ?_
    rintro e w2 ⟨rfl, hI2, hB2, hK2⟩
    have HI2 := Aside0.mk hI2
    have HB2 := Aside0.mk hB2
    clear hI2 hB2 hK2
    go_wp2_with fail
    refine (left_calls g xs w0 _ HI2.out).mono ?_
    rintro e w3 ⟨rfl, rfl⟩
    go_wp2_with fail
    go_ret
    exact ⟨by simp, HBw.out.trans (HB2.out.mono HBw.out.size)⟩
  · have HY := Aside0.mk (show rNum 18446744073709551615 xs = ((n : Int), 0, xs.drop m) by unfold rNum; rw [HX.out, if_neg (show ¬ (m = 0 ∨ (18446744073709551615 : Int) < (n : Int)) by have := HN.out; omega)])
    refine (rnumber_calls g xs w0 _ HI.out HB0.out _ _ _ _ HY.out).mono ?_
    rintro e w2 ⟨rfl, hI2, hB2, hK2⟩
    have HI2 := Aside0.mk hI2
    have HB2 := Aside0.mk hB2
    clear hI2 hB2 hK2
    go_wp2_with fail
    refine (left_calls g (xs.drop m) w0 _ HI2.out).mono ?_
    rintro e w3 ⟨rfl, rfl⟩
    go_wp2_with fail
    have e6 : (xs.length : Int) - ((xs.length - m : Nat) : Int) = (m : Int) := by omega
    rw [e6]
    have HE6 := Aside0.mk e6
    clear e6
    have henc : enc 9 n = xs.take m := by
      obtain ⟨x, hv, _, _, he⟩ := sp_again xs HB.out 0 0 (n : Int) m (by omega) HS.out h0
      have hxn : x = n := by simp at hv; omega
      subst hxn
      simpa using he 9 (by omega)
    rw [henc] at H1
    have HEN := Aside0.mk henc
    clear henc
    have k1 : (1 : Int) ≤ (m : Int) := by omega
    have k2 : (m : Int) ≤ (xs.length : Int) := by omega
    have k3 : (m : Int) ≤ (c : Int) := by omega
    have HBl := Aside0.mk (HBw.out.trans (HB2.out.mono HBw.out.size))
    have hcv := C_str (c := c) (Kd.C_take (Kd.C_drew (Kd.C_below HR.out HBl.out)) hm)
    have hlt : (xs.take m).length = m := by simp; omega
    rw [hlt] at hcv
    have k4 : decide ((1 : Int) ≤ (m : Int)) = true := by simp; omega
    have k5 : decide (m ≤ xs.length) = true := by simp; omega
    have k6 : decide ((m : Int) ≤ (xs.length : Int)) = true := by simp; omega
    refine start_ (n := 19) (S := fun w' => (convert 23 9 (.slice A m c)).run Try.prog w' = .ok (.string (strOfNums (xs.take m))) w') (ds := []) #[false, false, false, false, false, false, false, false, false, false, false, false, false, false, false, false, false, false, false] (by kernel_rfl) rfl rfl hcv (fun hHeld => ?_)
    refine pure_ (i := 0) (N := some 28) (v := ?_) (a' := ?_) #[true, false, false, false, false, false, false, false, false, false, false, false, false, false, false, false, false, false, false] rfl rfl (by kernel_rfl) (fun _ _ _ h => h) (Or.inl ⟨by rfl, ?_⟩) ?_ ?_
    rotate_left
    · intro w'
      go_simp
      try with_reducible rfl
    rotate_left
    · simp only [Act.put, List.setIfInBounds_toArray, List.set_cons_zero, List.set_cons_succ, i64_w, i32_w]
      rfl
    refine pure_ (i := 1) (N := some 29) (v := ?_) (a' := ?_) #[true, true, false, false, false, false, false, false, false, false, false, false, false, false, false, false, false, false, false] rfl rfl (by kernel_rfl) (fun _ _ _ h => h) (Or.inl ⟨by rfl, ?_⟩) ?_ ?_
    rotate_left
    · intro w'
      go_simp
      try with_reducible rfl
    rotate_left
    · simp only [Act.put, List.setIfInBounds_toArray, List.set_cons_zero, List.set_cons_succ, i64_w, i32_w]
      rfl
    refine pure_ (i := 2) (N := some 30) (v := ?_) (a' := ?_) #[true, true, true, false, false, false, false, false, false, false, false, false, false, false, false, false, false, false, false] rfl rfl (by kernel_rfl) (fun _ _ _ h => h) (Or.inl ⟨by rfl, ?_⟩) ?_ ?_
    rotate_left
    · intro w'
      go_simp
      try with_reducible rfl
    rotate_left
    · simp only [Act.put, List.setIfInBounds_toArray, List.set_cons_zero, List.set_cons_succ, i64_w, i32_w]
      rfl
    refine pure_ (i := 3) (N := some 31) (v := ?_) (a' := ?_) #[true, true, true, true, false, false, false, false, false, false, false, false, false, false, false, false, false, false, false] rfl rfl (by kernel_rfl) (fun _ _ _ h => h) (Or.inl ⟨by rfl, ?_⟩) ?_ ?_
    rotate_left
    · intro w'
      go_simp
      try with_reducible rfl
    rotate_left
    · simp only [Act.put, List.setIfInBounds_toArray, List.set_cons_zero, List.set_cons_succ, i64_w, i32_w]
      rfl
    refine pure_ (i := 4) (N := some 32) (v := ?_) (a' := ?_) #[true, true, true, true, true, false, false, false, false, false, false, false, false, false, false, false, false, false, false] rfl rfl (by kernel_rfl) (fun _ _ _ h => h) (Or.inl ⟨by rfl, ?_⟩) ?_ ?_
    rotate_left
    · intro w'
      go_simp
      try with_reducible rfl
    rotate_left
    · simp only [Act.put, List.setIfInBounds_toArray, List.set_cons_zero, List.set_cons_succ, i64_w, i32_w]
      rfl
    refine pure_ (i := 5) (N := some 33) (v := ?_) (a' := ?_) #[true, true, true, true, true, true, false, false, false, false, false, false, false, false, false, false, false, false, false] rfl rfl (by kernel_rfl) (fun _ _ _ h => h) (Or.inl ⟨by rfl, ?_⟩) ?_ ?_
    rotate_left
    · intro w'
      go_simp
      try with_reducible rfl
    rotate_left
    · simp only [Act.put, List.setIfInBounds_toArray, List.set_cons_zero, List.set_cons_succ, i64_w, i32_w]
      rfl
    refine pure_ (i := 6) (N := some 34) (v := ?_) (a' := ?_) #[true, true, true, true, true, true, true, false, false, false, false, false, false, false, false, false, false, false, false] rfl rfl (by kernel_rfl) (fun _ _ _ h => h) (Or.inl ⟨by rfl, ?_⟩) ?_ ?_
    rotate_left
    · intro w'
      go_simp
      try with_reducible rfl
    rotate_left
    · simp only [Act.put, List.setIfInBounds_toArray, List.set_cons_zero, List.set_cons_succ, i64_w, i32_w]
      rfl
    refine pure_ (i := 7) (N := some 35) (v := ?_) (a' := ?_) #[true, true, true, true, true, true, true, true, false, false, false, false, false, false, false, false, false, false, false] rfl rfl (by kernel_rfl) (fun _ _ _ h => h) (Or.inl ⟨by rfl, ?_⟩) ?_ ?_
    rotate_left
    · intro w'
      go_simp
      try with_reducible rfl
    rotate_left
    · simp only [Act.put, List.setIfInBounds_toArray, List.set_cons_zero, List.set_cons_succ, i64_w, i32_w]
      rfl
    refine pure_ (i := 8) (N := some 36) (v := ?_) (a' := ?_) #[true, true, true, true, true, true, true, true, true, false, false, false, false, false, false, false, false, false, false] rfl rfl (by kernel_rfl) (fun _ _ _ h => h) (Or.inl ⟨by rfl, ?_⟩) ?_ ?_
    rotate_left
    · intro w'
      go_simp
      try with_reducible rfl
    rotate_left
    · simp only [Act.put, List.setIfInBounds_toArray, List.set_cons_zero, List.set_cons_succ, i64_w, i32_w]
      rfl
    refine pure_ (i := 9) (N := some 37) (v := ?_) (a' := ?_) #[true, true, true, true, true, true, true, true, true, true, false, false, false, false, false, false, false, false, false] rfl rfl (by kernel_rfl) (fun _ _ _ h => h) (Or.inl ⟨by rfl, ?_⟩) ?_ ?_
    rotate_left
    · intro w'
      go_simp
      try with_reducible rfl
    rotate_left
    · simp only [Act.put, List.setIfInBounds_toArray, List.set_cons_zero, List.set_cons_succ, i64_w, i32_w]
      rfl
    refine pure_ (i := 12) (N := some 40) (v := ?_) (a' := ?_) #[true, true, true, true, true, true, true, true, true, true, false, false, true, false, false, false, false, false, false] rfl rfl (by kernel_rfl) (fun _ _ _ h => h) (Or.inl ⟨by rfl, ?_⟩) ?_ ?_
    rotate_left
    · intro w'
      go_simp
      try with_reducible rfl
    rotate_left
    · simp only [Act.put, List.setIfInBounds_toArray, List.set_cons_zero, List.set_cons_succ, i64_w, i32_w]
      rfl
    refine pure_ (i := 13) (N := some 41) (v := ?_) (a' := ?_) #[true, true, true, true, true, true, true, true, true, true, false, false, true, true, false, false, false, false, false] rfl rfl (by kernel_rfl) (fun _ _ _ h => h) (Or.inl ⟨by rfl, ?_⟩) ?_ ?_
    rotate_left
    · intro w'
      go_simp
      try with_reducible rfl
    rotate_left
    · simp only [Act.put, List.setIfInBounds_toArray, List.set_cons_zero, List.set_cons_succ, i64_w, i32_w]
      rfl
    refine pure_ (i := 14) (N := some 42) (v := ?_) (a' := ?_) #[true, true, true, true, true, true, true, true, true, true, false, false, true, true, true, false, false, false, false] rfl rfl (by kernel_rfl) (fun _ _ _ h => h) (Or.inl ⟨by rfl, ?_⟩) ?_ ?_
    rotate_left
    · intro w'
      go_simp
      try with_reducible rfl
    rotate_left
    · simp only [Act.put, List.setIfInBounds_toArray, List.set_cons_zero, List.set_cons_succ, i64_w, i32_w]
      rfl
    refine take_ (i := 15) (N := some 43) (v := ?_) (a' := ?_) #[true, true, true, true, true, true, true, true, true, true, false, false, true, true, true, true, false, false, false] rfl rfl (by kernel_rfl) (fun _ _ _ h => h) (Or.inl ⟨by rfl, ?_⟩) hHeld ?_ ?_
    rotate_left
    · intro w' hSw
      go_simp
      try with_reducible rfl
    rotate_left
    · simp only [Act.put, List.setIfInBounds_toArray, List.set_cons_zero, List.set_cons_succ, i64_w, i32_w]
      rfl
    refine one_ (i := 10) (N := some 38) #[true, true, true, true, true, true, true, true, true, true, true, false, true, true, true, true, false, false, false] rfl rfl (by kernel_rfl) (by decide) (fun K hK => ?_)
    refine goes_ Try.func10 (by kernel_rfl) rfl #[.int .u64 (n : Int)] (by rfl) rfl rfl (by simp only [List.map_toArray, List.map_cons, List.map_nil]; rfl) ?_
    refine (codec_Number.calls 10 _ (xs.take m) _ H1.out).mono ?_
    rintro e w3 ⟨v, rfl, ho3, hb3⟩
    have hb4 := (below_drew (Below.refl _ _)).trans hb3
    have hc1 := own_string (P := Try.prog) Try.underlying23 Try.underlying5 Try.underlying9 (Kd.own_of_R ho3)
    have hc2 := C_str (c := c) (Kd.C_take (Kd.C_below HR.out (HBl.out.trans (hb4.mono HBl.out.size))) hm)
    rw [hlt] at hc2
    refine ⟨_, rfl, ?_⟩
    refine hK.out _ _ hc2 (fun hHeld => ?_)
    clear hK K
    refine norm_ (a' := ?_) ?_ ?_
    rotate_left
    · show Act.put _ (some 38) _ = _
      simp only [Act.put, List.setIfInBounds_toArray, List.set_cons_zero, List.set_cons_succ, i64_w, i32_w]
      rfl
    refine one_ (i := 11) (N := some 39) #[true, true, true, true, true, true, true, true, true, true, true, true, true, true, true, true, false, false, false] rfl rfl (by kernel_rfl) (by decide) (fun K hK => ?_)
    refine value_ (w1 := w3) (v := .string (strOfNums (xs.take m))) (by rfl) rfl (by go_simp) ?_
    refine hK.out _ _ hHeld (fun hHeld => ?_)
    clear hK K
    refine norm_ (a' := ?_) ?_ ?_
    rotate_left
    · show Act.put _ (some 39) _ = _
      simp only [Act.put, List.setIfInBounds_toArray, List.set_cons_zero, List.set_cons_succ, i64_w, i32_w]
      rfl
    refine pure_ (i := 16) (N := some 44) (v := ?_) (a' := ?_) #[true, true, true, true, true, true, true, true, true, true, true, true, true, true, true, true, true, false, false] rfl rfl (by kernel_rfl) (fun _ _ _ h => h) (Or.inl ⟨by rfl, ?_⟩) ?_ ?_
    rotate_left
    · intro w'
      go_simp
      try with_reducible rfl
    rotate_left
    · simp only [Act.put, List.setIfInBounds_toArray, List.set_cons_zero, List.set_cons_succ, i64_w, i32_w]
      rfl
    refine pure_ (i := 17) (N := some 45) (v := ?_) (a' := ?_) #[true, true, true, true, true, true, true, true, true, true, true, true, true, true, true, true, true, true, false] rfl rfl (by kernel_rfl) (fun _ _ _ h => h) (Or.inl ⟨by rfl, ?_⟩) ?_ ?_
    rotate_left
    · intro w'
      go_simp
      try with_reducible rfl
    rotate_left
    · simp only [Act.put, List.setIfInBounds_toArray, List.set_cons_zero, List.set_cons_succ, i64_w, i32_w]
      rfl
    refine pure_ (i := 18) (N := some 2) (v := ?_) (a' := ?_) #[true, true, true, true, true, true, true, true, true, true, true, true, true, true, true, true, true, true, true] rfl rfl (by kernel_rfl) (fun _ _ _ h => h) (Or.inl ⟨by rfl, ?_⟩) ?_ ?_
    rotate_left
    · intro w'
      go_simp
      try with_reducible rfl
    rotate_left
    · simp only [Act.put, List.setIfInBounds_toArray, List.set_cons_zero, List.set_cons_succ, i64_w, i32_w]
      rfl
    refine done_ (by kernel_rfl) ?_
  
    go_wp2_with fail
    go_ret
    exact ⟨by simp, HBl.out.trans (hb4.mono HBl.out.size)⟩

theorem codecAgain_walk (A : Option Addr) (c : Nat) (xs : List Int) (w : World) (hr : (Kd.int .u8).C w A xs.length xs) (hc : xs.length ≤ c) (hl : xs.length * 1 ≤ 140737488351232) (hb : ∀ x ∈ xs, (Lit.int .u8 x).wf = true) :
    Calls Try.prog 7 #[.slice A xs.length c] w fun e w' => e = .returned (.bool true) ∧ Below w.heap.size w w' :=
  again_calls A c xs w hr hc (by omega) (u8_bytes hb)
end Go.Proofs.Ytkdelfpjaaemnaa.Rd
