/- Parts of the proof of LinkArrives, merged: each is proved for all its inputs. -/
import Derived.Test.YtekakngojhnleaaMgLinkArrivesj
/- Links: the laws' World: a message is sent. -/
namespace Go.Proofs.Ytekakngojhnleaa.Wf
open Go.RowKit Go.Maps Go.Proofs.Ytekakngojhnleaa.Mp Go.Proofs.Ytekakngojhnleaa.Mq Go.Proofs.Ytekakngojhnleaa.Lp Go.Proofs.Ytekakngojhnleaa.Lm Go.Proofs.Ytekakngojhnleaa.La Go.Proofs.Ytekakngojhnleaa.Lb Go.Proofs.Ytekakngojhnleaa.Lc Go.Proofs.Ytekakngojhnleaa.Ld Go.Proofs.Ytekakngojhnleaa.Le Go.Proofs.Ytekakngojhnleaa.Ow Go.Proofs.Ytekakngojhnleaa.Wd Go.Proofs.Ytekakngojhnleaa.We Go.Proofs.Ytekakngojhnleaa.Rd Go.Proofs.YtekakngojhnleaaW.PrintWords Go.Proofs.YtekakngojhnleaaW.PrintLast Go.Proofs.YtekakngojhnleaaW.PrintMore
set_option linter.unusedVariables false
set_option linter.unusedSimpArgs false
variable {w w' : World} {B N g : Nat}

def WQ (w : World) (B N g : Nat) (σ : Nat → Lk) (l : Nat → List (List Int)) : Prop := ∃ p S v h, WP w B N g p S σ v h l
section
variable {p : Nat → Nat} {S : Nat → Nat → Prop} {σ : Nat → Lk} {v : Nat → Value} {h : Nat → List Hd} {l : Nat → List (List Int)}
/-- A message more in a row. -/
theorem took_end (W : WP w B N g p S σ v h l) {j : Nat} (h1 : 2 ≤ j) (h2 : j < 8) {x : Hd} {m : List Int} (hx : Bd w B (encH x) m) {w9 : World} {v9 : Value} (hq : kH.R 30 w9 B (fun k => some k = (v j).ownBlock ∨ w.heap.size ≤ k) v9 (h j ++ [x])) (hg : w.grownBy w9 (v j).ownBlock) (hat : v9.ownBlock = (v j).ownBlock ∨ ∃ k, v9.ownBlock = some k ∧ w.heap.size ≤ k) :
  WQ (w9.setCell ⟨g, j, none⟩ v9) B N g σ (upd l j (l j ++ [m])) ∧ w9.heap[g]? = some (.cells (cellsW p v) 78 (0, 0)) ∧ Below B w (w9.setCell ⟨g, j, none⟩ v9) := by
 have k09 : Keep5 w w9 := Keep5.grown hg (fun k hk cs hc => by
  obtain ⟨cs', hc'⟩ := Kd.R_typed (W.q j h1 h2) k hk
  rw [hc] at hc'
  cases hc')
 obtain ⟨e1, e2, e3⟩ := W.row h1 h2 hq (((W.b j h1 h2).keep k09).snoc (hx.keep k09)) hg hat
 exact ⟨⟨p, S, _, _, e1⟩, e2, e3⟩
end
set_option maxRecDepth 100000 in
set_option maxHeartbeats 2000000 in
theorem sendP0 {p : Nat → Nat} {S : Nat → Nat → Prop} {v : Nat → Value} {h : Nat → List Hd} {σ : Nat → Lk} {ls : Nat → List (List Int)} (hw : WP w B N g p S σ v h ls) {M : Nat} (hI : Inv M (σ 0)) (hM : M ≤ 1000000) (hls : (ls 2).length ≤ 1000000) (A : Option Addr) (c : Nat) (l : List Int) (hr : ∀ w' S', FrL B (S 0) S' w w' → Kd.C (Kd.int .u8) w' A l.length l) (hl : l.length ≤ 140737488351232) :
  Calls Try.prog 43 #[.pointer (some ⟨g, 0, none⟩), .int .i64 0, .slice A l.length c] w fun e w' => e = .returned (.tuple #[]) ∧ WQ w' B N g (Wd.upd σ 0 (sendL (σ 0) l).2) (if (sendL (σ 0) l).1 = 0 then Wd.upd ls 2 (ls 2 ++ [l]) else ls) ∧ Below B w w' := by
 have p0 : w.cell? ⟨g, 0, none⟩ = some (.pointer (some ⟨p 0, 0, none⟩)) := blk_cell hw.blk 0
 have HSD := Aside0.mk (send_calls (hw.e 0 (by decide)) hI hM A c l (hr w _ (FrL.refl B (S 0) w)) hl)
 have HW := Aside0.mk hw
 have HR := Aside0.mk hr
 obtain ⟨R, hR⟩ : ∃ R, R = sendL (σ 0) l := ⟨_, rfl⟩
 rw [← hR] at HSD ⊢
 obtain ⟨L9, hL9⟩ : ∃ L9, L9 = (if R.1 = 0 then Wd.upd ls 2 (ls 2 ++ [l]) else ls) := ⟨_, rfl⟩
 rw [← hL9]
 have HL9 := Aside0.mk hL9
 clear hw hr hI hR hL9
 go_enter Try.func43, Try.ntmps43
 go_wp2_with fail
 refine HSD.out.mono ?_
 rintro e w1 ⟨S', rfl, hl1, hf1⟩
 have HW1 := Aside0.mk (WP.atEnd HW.out (k := 0) (by decide) hl1 (Nat.le_refl _) hf1)
 have HF1 := Aside0.mk hf1
 have HB1 := Aside0.mk hf1.b
 have HRK := Aside0.mk (HR.out w1 _ hf1)
 clear hl1 hf1 p0
 by_cases hz : R.1 = 0
 ·
  have HZ := Aside0.mk hz
  rw [hz]
  clear hz
  go_wp2_with fail
  have hvs := Kd.R_slice (HW1.out.q 2 (by decide) (by decide))
  obtain ⟨A0, c0, hv⟩ := hvs
  obtain ⟨n0, hn0⟩ : ∃ n0, n0 = (h 2).length := ⟨_, rfl⟩
  rw [← hn0] at hv
  have HV := Aside0.mk (show some (v 2) = some (Value.slice A0 n0 c0) by rw [hv])
  have HVV := Aside0.mk (show Value.slice A0 n0 c0 = v 2 from hv.symm)
  have HLN := Aside0.mk (show ((h 2).length + 1) * 24 ≤ 140737488355328 by have e := (HW1.out.b 2 (by decide) (by decide)).1; omega)
  clear hv hn0 hls
  obtain ⟨u, hu⟩ : ∃ u, u = w1 := ⟨_, rfl⟩
  rw [← hu] at HW1 HF1 HB1 HRK ⊢
  clear hu w1
  have HWP := Aside0.mk (WP.below HW1.out (below_drew (Below.refl _ u)))
  have HWP := HW1
  have HRd := Aside0.mk (Kd.C_drew HRK.out)
  have HBd := Aside0.mk (below_drew (Below.refl u.heap.size u))
  have HE := Aside0.mk (R_empty (Kd.int .u8) 5 u.drew u.heap.size (Nat.le_refl _))
  have HS0 : u.drew.cell? ⟨g, 2, none⟩ = some (.slice A0 n0 c0) := by have e : u.drew.cell? ⟨g, 2, none⟩ = some (v 2) := blk_cell HWP.out.blk 2; rw [e]; exact HV.out
  refine start_ (n := 17) (S := fun w' => w'.cell? ⟨g, 2, none⟩ = some (.slice A0 n0 c0)) (ds := [16]) #[false, false, false, false, false, false, false, false, false, false, false, false, false, false, false, false, false] (by kernel_rfl) rfl rfl HS0 (fun hHeld => ?_)
  refine pure_ (i := 0) (N := some 17) (v := ?_) (a' := ?_) #[true, false, false, false, false, false, false, false, false, false, false, false, false, false, false, false, false] rfl rfl (by kernel_rfl) (fun _ _ _ h => h) (Or.inl ⟨by rfl, ?_⟩) ?_ ?_
  rotate_left
  ·
   intro w'
   go_simp
   try with_reducible rfl
  rotate_left
  ·
   simp only [Act.put, List.setIfInBounds_toArray, List.set_cons_zero, List.set_cons_succ, i64_w, i32_w]
   rfl
  refine pure_ (i := 1) (N := some 18) (v := ?_) (a' := ?_) #[true, true, false, false, false, false, false, false, false, false, false, false, false, false, false, false, false] rfl rfl (by kernel_rfl) (fun _ _ _ h => h) (Or.inl ⟨by rfl, ?_⟩) ?_ ?_
  rotate_left
  ·
   intro w'
   go_simp
   try with_reducible rfl
  rotate_left
  ·
   simp only [Act.put, List.setIfInBounds_toArray, List.set_cons_zero, List.set_cons_succ, i64_w, i32_w]
   rfl
  refine pure_ (i := 2) (N := some 19) (v := ?_) (a' := ?_) #[true, true, true, false, false, false, false, false, false, false, false, false, false, false, false, false, false] rfl rfl (by kernel_rfl) (fun _ _ _ h => h) (Or.inl ⟨by rfl, ?_⟩) ?_ ?_
  rotate_left
  ·
   intro w'
   go_simp
   try with_reducible rfl
  rotate_left
  ·
   simp only [Act.put, List.setIfInBounds_toArray, List.set_cons_zero, List.set_cons_succ, i64_w, i32_w]
   rfl
  refine pure_ (i := 3) (N := some 20) (v := ?_) (a' := ?_) #[true, true, true, true, false, false, false, false, false, false, false, false, false, false, false, false, false] rfl rfl (by kernel_rfl) (fun _ _ _ h => h) (Or.inl ⟨by rfl, ?_⟩) ?_ ?_
  rotate_left
  ·
   intro w'
   go_simp
   try with_reducible rfl
  rotate_left
  ·
   simp only [Act.put, List.setIfInBounds_toArray, List.set_cons_zero, List.set_cons_succ, i64_w, i32_w]
   rfl
  refine pure_ (i := 9) (N := some 26) (v := ?_) (a' := ?_) #[true, true, true, true, false, false, false, false, false, true, false, false, false, false, false, false, false] rfl rfl (by kernel_rfl) (fun _ _ _ h => h) (Or.inl ⟨by rfl, ?_⟩) ?_ ?_
  rotate_left
  ·
   intro w'
   go_simp
   try with_reducible rfl
  rotate_left
  ·
   simp only [Act.put, List.setIfInBounds_toArray, List.set_cons_zero, List.set_cons_succ, i64_w, i32_w]
   rfl
  refine pure_ (i := 13) (N := some 30) (v := ?_) (a' := ?_) #[true, true, true, true, false, false, false, false, false, true, false, false, false, true, false, false, false] rfl rfl (by kernel_rfl) (fun _ _ _ h => h) (Or.inl ⟨by rfl, ?_⟩) ?_ ?_
  rotate_left
  ·
   intro w'
   go_simp
   try with_reducible rfl
  rotate_left
  ·
   simp only [Act.put, List.setIfInBounds_toArray, List.set_cons_zero, List.set_cons_succ, i64_w, i32_w]
   rfl
  refine pure_ (i := 14) (N := some 31) (v := ?_) (a' := ?_) #[true, true, true, true, false, false, false, false, false, true, false, false, false, true, true, false, false] rfl rfl (by kernel_rfl) (fun _ _ _ h => h) (Or.inl ⟨by rfl, ?_⟩) ?_ ?_
  rotate_left
  ·
   intro w'
   go_simp
   try with_reducible rfl
  rotate_left
  ·
   simp only [Act.put, List.setIfInBounds_toArray, List.set_cons_zero, List.set_cons_succ, i64_w, i32_w]
   rfl
  refine pure_ (i := 4) (N := some 21) (v := ?_) (a' := ?_) #[true, true, true, true, true, false, false, false, false, true, false, false, false, true, true, false, false] rfl rfl (by kernel_rfl) (fun _ _ _ h => h) (Or.inl ⟨by rfl, ?_⟩) ?_ ?_
  rotate_left
  ·
   intro w'
   go_simp
   try with_reducible rfl
  rotate_left
  ·
   simp only [Act.put, List.setIfInBounds_toArray, List.set_cons_zero, List.set_cons_succ, i64_w, i32_w]
   rfl
  refine pure_ (i := 5) (N := some 22) (v := ?_) (a' := ?_) #[true, true, true, true, true, true, false, false, false, true, false, false, false, true, true, false, false] rfl rfl (by kernel_rfl) (fun _ _ _ h => h) (Or.inl ⟨by rfl, ?_⟩) ?_ ?_
  rotate_left
  ·
   intro w'
   go_simp
   try with_reducible rfl
  rotate_left
  ·
   simp only [Act.put, List.setIfInBounds_toArray, List.set_cons_zero, List.set_cons_succ, i64_w, i32_w]
   rfl
  refine pure_ (i := 6) (N := some 23) (v := ?_) (a' := ?_) #[true, true, true, true, true, true, true, false, false, true, false, false, false, true, true, false, false] rfl rfl (by kernel_rfl) (fun _ _ _ h => h) (Or.inl ⟨by rfl, ?_⟩) ?_ ?_
  rotate_left
  ·
   intro w'
   go_simp
   try with_reducible rfl
  rotate_left
  ·
   simp only [Act.put, List.setIfInBounds_toArray, List.set_cons_zero, List.set_cons_succ, i64_w, i32_w]
   rfl
  refine take_ (i := 7) (N := some 24) (v := ?_) (a' := ?_) #[true, true, true, true, true, true, true, true, false, true, false, false, false, true, true, false, false] rfl rfl (by kernel_rfl) (fun _ _ _ h => h) (Or.inl ⟨by rfl, ?_⟩) hHeld ?_ ?_
  rotate_left
  ·
   intro w' q1
   go_simp
   try with_reducible rfl
  rotate_left
  ·
   simp only [Act.put, List.setIfInBounds_toArray, List.set_cons_zero, List.set_cons_succ, i64_w, i32_w]
   rfl
  refine one_ (i := 8) (N := some 25) #[true, true, true, true, true, true, true, true, true, true, false, false, false, true, true, false, false] rfl rfl (by kernel_rfl) (by decide) (fun K hK => ?_)
  refine value_ (w1 := u.drew.alloc (.cells #[] 5)) (v := .slice (some ⟨u.heap.size, 0, none⟩) 0 0) (by rfl) rfl (by first | (go_simp; done) | (go_simp; rfl)) ?_
  refine hK.out _ _ (pw_cell_below (below_alloc (Below.refl _ u.drew) _) HS0) (fun hHeld => ?_)
  clear hK K
  refine norm_ (a' := ?_) ?_ ?_
  rotate_left
  ·
   show Act.put _ (some 25) _ = _
   simp only [Act.put, List.setIfInBounds_toArray, List.set_cons_zero, List.set_cons_succ, i64_w, i32_w]
   rfl
  refine one_ (i := 10) (N := some 27) #[true, true, true, true, true, true, true, true, true, true, true, false, false, true, true, false, false] rfl rfl (by kernel_rfl) (by decide) (fun K hK => ?_)
  refine Kd.R_append_rows_step (Kd.int .u8) (w0 := u) u.heap.size (by rfl) (.tmp 25) (.tmp 26) 30 5 (.int .u8 0) 1 rfl Try.underlying30 PFrameDecodes.info5 rfl (by decide) (by omega) _ [] l _ _ _ (fun _ => True) (fun _ => False) rfl rfl HE.out (Kd.C_alloc HRd.out _) (fun _ _ h => h) (fun _ h => h.elim) (fun _ _ => trivial) (below_alloc HBd.out _) (by rw [size_al]; exact Nat.le_succ _) (by simp; omega) ?_
  intro v4 w4 ho4 hb4 _ _
  rw [List.nil_append] at ho4
  obtain ⟨A4, c4, rfl⟩ := Kd.R_slice ho4
  have HBD := Aside0.mk (show Bd w4 B (encH ⟨A4, l.length, c4⟩) l from Bd.of ho4 HWP.out.bsz)
  have HB4 := Aside0.mk hb4
  have HW4 := Aside0.mk (WP.below HWP.out hb4)
  have HS4 : w4.cell? ⟨g, 2, none⟩ = some (.slice A0 n0 c0) := by have := blk_cell HW4.out.blk 2; rw [this]; exact HV.out
  clear ho4 hb4
  refine hK.out _ _ HS4 (fun hHeld => ?_)
  clear hK K
  refine norm_ (a' := ?_) ?_ ?_
  rotate_left
  ·
   show Act.put _ (some 27) _ = _
   simp only [Act.put, List.setIfInBounds_toArray, List.set_cons_zero, List.set_cons_succ, i64_w, i32_w]
   rfl
  refine one_ (i := 11) (N := some 28) #[true, true, true, true, true, true, true, true, true, true, true, true, false, true, true, false, false] rfl rfl (by kernel_rfl) (by decide) (fun K hK => ?_)
  refine value_ (w1 := w4.alloc (.cells #[encH ⟨A4, l.length, c4⟩] 30)) (v := .slice (some ⟨w4.heap.size, 0, none⟩) 1 1) (by rfl) rfl (by first | (go_simp; done) | (go_simp; rfl)) ?_
  refine hK.out _ _ (pw_cell_below (below_alloc (Below.refl _ w4) _) HS4) (fun hHeld => ?_)
  clear hK K
  refine norm_ (a' := ?_) ?_ ?_
  rotate_left
  ·
   show Act.put _ (some 28) _ = _
   simp only [Act.put, List.setIfInBounds_toArray, List.set_cons_zero, List.set_cons_succ, i64_w, i32_w]
   rfl
  refine one_ (i := 12) (N := some 29) #[true, true, true, true, true, true, true, true, true, true, true, true, true, true, true, false, false] rfl rfl (by kernel_rfl) (by decide) (fun K hK => ?_)
  refine Kd.R_append_step kH (w0 := w4) B (by rfl) (.tmp 24) (.tmp 28) 44 30 (.slice none 0 0) 24 rfl Try.underlying44 info30 rfl (by decide) (by omega) (v 2) (h 2) ⟨A4, l.length, c4⟩ [encH ⟨A4, l.length, c4⟩] (fun k => some k = (v 2).ownBlock ∨ w4.heap.size ≤ k) (fun _ => False) (by exact HVV.out) rfl rfl (fun _ hk => hk.elim) (fun k hk => .inr hk) (Kd.R_mono (HW4.out.q 2 (by decide) (by decide)) (fun k hk => .inl hk)) (Below.refl _ _) HW4.out.bsz HLN.out ?_
  intro v9 w9 hq9 _ hg9 hat9
  obtain ⟨A9, c9, rfl⟩ := Kd.R_slice hq9
  have HEND := Aside0.mk (took_end HW4.out (by decide) (by decide) HBD.out hq9 hg9 hat9)
  have hblk9 := HEND.out.2.1
  clear hq9 hg9 hat9 HS4
  refine hK.out _ _ (by have := blk_cell hblk9 2; rw [this]; exact HV.out) (fun hHeld => ?_)
  clear hK K
  refine norm_ (a' := ?_) ?_ ?_
  rotate_left
  ·
   show Act.put _ (some 29) _ = _
   simp only [Act.put, List.setIfInBounds_toArray, List.set_cons_zero, List.set_cons_succ, i64_w, i32_w]
   rfl
  refine pure_ (i := 15) (N := some 32) (v := ?_) (a' := ?_) #[true, true, true, true, true, true, true, true, true, true, true, true, true, true, true, true, false] rfl rfl (by kernel_rfl) (fun _ _ _ h => h) (Or.inl ⟨by rfl, ?_⟩) ?_ ?_
  rotate_left
  ·
   intro w'
   go_simp
   try with_reducible rfl
  rotate_left
  ·
   simp only [Act.put, List.setIfInBounds_toArray, List.set_cons_zero, List.set_cons_succ, i64_w, i32_w]
   rfl
  have d1 : w9.cell? ⟨g, 2, none⟩ = some (.slice A0 n0 c0) := by have := blk_cell hblk9 2; rw [this]; exact HV.out
  have g1 : w9.frozen? ⟨g, 2, none⟩ = false := blk_frozen hblk9 2
  refine last_ (i := 16) (N := none) #[true, true, true, true, true, true, true, true, true, true, true, true, true, true, true, true, true] rfl rfl (by kernel_rfl) (by decide) (fun K hK => ?_)
  refine skip_ (w1 := w9.setCell ⟨g, 2, none⟩ (.slice A9 (h 2 ++ [(⟨A4, l.length, c4⟩ : Hd)]).length c9)) (by rfl) rfl (by go_simp) ?_
  refine hK.out _ _ ?_
  clear hK K
  refine done_ (by kernel_rfl) ?_
  go_end0
  obtain ⟨e1, _, e3⟩ := HEND.out
  rw [HL9.out, if_pos HZ.out]
  exact ⟨rfl, e1, HB1.out.trans ((HB4.out.mono HWP.out.bsz).trans e3)⟩
 ·
  have hzb : (R.1 == 0) = false := by rw [beq_eq_false_iff_ne]; exact hz
  have HZ := Aside0.mk hz
  clear hz
  go_wp2_with fail
  go_end0
  rw [HL9.out, if_neg HZ.out]
  exact ⟨rfl, ⟨_, _, _, _, HW1.out⟩, HB1.out⟩
theorem send0 {σ : Nat → Lk} {ls : Nat → List (List Int)} (W : WQ w B N g σ ls) {M : Nat} (hI : Inv M (σ 0)) (hM : M ≤ 1000000) (hls : (ls 2).length ≤ 1000000) (A : Option Addr) (c : Nat) (l : List Int) (hr : ∀ w', Below B w w' → Keep5 w w' → Kd.C (Kd.int .u8) w' A l.length l) (hl : l.length ≤ 140737488351232) :
  Calls Try.prog 43 #[.pointer (some ⟨g, 0, none⟩), .int .i64 0, .slice A l.length c] w fun e w' => e = .returned (.tuple #[]) ∧ WQ w' B N g (Wd.upd σ 0 (sendL (σ 0) l).2) (if (sendL (σ 0) l).1 = 0 then Wd.upd ls 2 (ls 2 ++ [l]) else ls) ∧ Below B w w' := by
 obtain ⟨p, S, v, h, hw⟩ := W
 exact sendP0 hw hI hM hls A c l (fun w' S' hf => hr w' hf.b hf.k5) hl
set_option maxRecDepth 100000 in
set_option maxHeartbeats 2000000 in
theorem sendP1 {p : Nat → Nat} {S : Nat → Nat → Prop} {v : Nat → Value} {h : Nat → List Hd} {σ : Nat → Lk} {ls : Nat → List (List Int)} (hw : WP w B N g p S σ v h ls) {M : Nat} (hI : Inv M (σ 1)) (hM : M ≤ 1000000) (hls : (ls 3).length ≤ 1000000) (A : Option Addr) (c : Nat) (l : List Int) (hr : ∀ w' S', FrL B (S 1) S' w w' → Kd.C (Kd.int .u8) w' A l.length l) (hl : l.length ≤ 140737488351232) :
  Calls Try.prog 43 #[.pointer (some ⟨g, 0, none⟩), .int .i64 1, .slice A l.length c] w fun e w' => e = .returned (.tuple #[]) ∧ WQ w' B N g (Wd.upd σ 1 (sendL (σ 1) l).2) (if (sendL (σ 1) l).1 = 0 then Wd.upd ls 3 (ls 3 ++ [l]) else ls) ∧ Below B w w' := by
 have p0 : w.cell? ⟨g, 1, none⟩ = some (.pointer (some ⟨p 1, 0, none⟩)) := blk_cell hw.blk 1
 have HSD := Aside0.mk (send_calls (hw.e 1 (by decide)) hI hM A c l (hr w _ (FrL.refl B (S 1) w)) hl)
 have HW := Aside0.mk hw
 have HR := Aside0.mk hr
 obtain ⟨R, hR⟩ : ∃ R, R = sendL (σ 1) l := ⟨_, rfl⟩
 rw [← hR] at HSD ⊢
 obtain ⟨L9, hL9⟩ : ∃ L9, L9 = (if R.1 = 0 then Wd.upd ls 3 (ls 3 ++ [l]) else ls) := ⟨_, rfl⟩
 rw [← hL9]
 have HL9 := Aside0.mk hL9
 clear hw hr hI hR hL9
 go_enter Try.func43, Try.ntmps43
 go_wp2_with fail
 refine HSD.out.mono ?_
 rintro e w1 ⟨S', rfl, hl1, hf1⟩
 have HW1 := Aside0.mk (WP.atEnd HW.out (k := 1) (by decide) hl1 (Nat.le_refl _) hf1)
 have HF1 := Aside0.mk hf1
 have HB1 := Aside0.mk hf1.b
 have HRK := Aside0.mk (HR.out w1 _ hf1)
 clear hl1 hf1 p0
 by_cases hz : R.1 = 0
 ·
  have HZ := Aside0.mk hz
  rw [hz]
  clear hz
  go_wp2_with fail
  have hvs := Kd.R_slice (HW1.out.q 3 (by decide) (by decide))
  obtain ⟨A0, c0, hv⟩ := hvs
  obtain ⟨n0, hn0⟩ : ∃ n0, n0 = (h 3).length := ⟨_, rfl⟩
  rw [← hn0] at hv
  have HV := Aside0.mk (show some (v 3) = some (Value.slice A0 n0 c0) by rw [hv])
  have HVV := Aside0.mk (show Value.slice A0 n0 c0 = v 3 from hv.symm)
  have HLN := Aside0.mk (show ((h 3).length + 1) * 24 ≤ 140737488355328 by have e := (HW1.out.b 3 (by decide) (by decide)).1; omega)
  clear hv hn0 hls
  obtain ⟨u, hu⟩ : ∃ u, u = w1 := ⟨_, rfl⟩
  rw [← hu] at HW1 HF1 HB1 HRK ⊢
  clear hu w1
  have HWP := Aside0.mk (WP.below HW1.out (below_drew (Below.refl _ u)))
  have HWP := HW1
  have HRd := Aside0.mk (Kd.C_drew HRK.out)
  have HBd := Aside0.mk (below_drew (Below.refl u.heap.size u))
  have HE := Aside0.mk (R_empty (Kd.int .u8) 5 u.drew u.heap.size (Nat.le_refl _))
  have HS0 : u.drew.cell? ⟨g, 3, none⟩ = some (.slice A0 n0 c0) := by have e : u.drew.cell? ⟨g, 3, none⟩ = some (v 3) := blk_cell HWP.out.blk 3; rw [e]; exact HV.out
  refine start_ (n := 17) (S := fun w' => w'.cell? ⟨g, 3, none⟩ = some (.slice A0 n0 c0)) (ds := [16]) #[false, false, false, false, false, false, false, false, false, false, false, false, false, false, false, false, false] (by kernel_rfl) rfl rfl HS0 (fun hHeld => ?_)
  refine pure_ (i := 0) (N := some 17) (v := ?_) (a' := ?_) #[true, false, false, false, false, false, false, false, false, false, false, false, false, false, false, false, false] rfl rfl (by kernel_rfl) (fun _ _ _ h => h) (Or.inl ⟨by rfl, ?_⟩) ?_ ?_
  rotate_left
  ·
   intro w'
   go_simp
   try with_reducible rfl
  rotate_left
  ·
   simp only [Act.put, List.setIfInBounds_toArray, List.set_cons_zero, List.set_cons_succ, i64_w, i32_w]
   rfl
  refine pure_ (i := 1) (N := some 18) (v := ?_) (a' := ?_) #[true, true, false, false, false, false, false, false, false, false, false, false, false, false, false, false, false] rfl rfl (by kernel_rfl) (fun _ _ _ h => h) (Or.inl ⟨by rfl, ?_⟩) ?_ ?_
  rotate_left
  ·
   intro w'
   go_simp
   try with_reducible rfl
  rotate_left
  ·
   simp only [Act.put, List.setIfInBounds_toArray, List.set_cons_zero, List.set_cons_succ, i64_w, i32_w]
   rfl
  refine pure_ (i := 2) (N := some 19) (v := ?_) (a' := ?_) #[true, true, true, false, false, false, false, false, false, false, false, false, false, false, false, false, false] rfl rfl (by kernel_rfl) (fun _ _ _ h => h) (Or.inl ⟨by rfl, ?_⟩) ?_ ?_
  rotate_left
  ·
   intro w'
   go_simp
   try with_reducible rfl
  rotate_left
  ·
   simp only [Act.put, List.setIfInBounds_toArray, List.set_cons_zero, List.set_cons_succ, i64_w, i32_w]
   rfl
  refine pure_ (i := 3) (N := some 20) (v := ?_) (a' := ?_) #[true, true, true, true, false, false, false, false, false, false, false, false, false, false, false, false, false] rfl rfl (by kernel_rfl) (fun _ _ _ h => h) (Or.inl ⟨by rfl, ?_⟩) ?_ ?_
  rotate_left
  ·
   intro w'
   go_simp
   try with_reducible rfl
  rotate_left
  ·
   simp only [Act.put, List.setIfInBounds_toArray, List.set_cons_zero, List.set_cons_succ, i64_w, i32_w]
   rfl
  refine pure_ (i := 9) (N := some 26) (v := ?_) (a' := ?_) #[true, true, true, true, false, false, false, false, false, true, false, false, false, false, false, false, false] rfl rfl (by kernel_rfl) (fun _ _ _ h => h) (Or.inl ⟨by rfl, ?_⟩) ?_ ?_
  rotate_left
  ·
   intro w'
   go_simp
   try with_reducible rfl
  rotate_left
  ·
   simp only [Act.put, List.setIfInBounds_toArray, List.set_cons_zero, List.set_cons_succ, i64_w, i32_w]
   rfl
  refine pure_ (i := 13) (N := some 30) (v := ?_) (a' := ?_) #[true, true, true, true, false, false, false, false, false, true, false, false, false, true, false, false, false] rfl rfl (by kernel_rfl) (fun _ _ _ h => h) (Or.inl ⟨by rfl, ?_⟩) ?_ ?_
  rotate_left
  ·
   intro w'
   go_simp
   try with_reducible rfl
  rotate_left
  ·
   simp only [Act.put, List.setIfInBounds_toArray, List.set_cons_zero, List.set_cons_succ, i64_w, i32_w]
   rfl
  refine pure_ (i := 14) (N := some 31) (v := ?_) (a' := ?_) #[true, true, true, true, false, false, false, false, false, true, false, false, false, true, true, false, false] rfl rfl (by kernel_rfl) (fun _ _ _ h => h) (Or.inl ⟨by rfl, ?_⟩) ?_ ?_
  rotate_left
  ·
   intro w'
   go_simp
   try with_reducible rfl
  rotate_left
  ·
   simp only [Act.put, List.setIfInBounds_toArray, List.set_cons_zero, List.set_cons_succ, i64_w, i32_w]
   rfl
  refine pure_ (i := 4) (N := some 21) (v := ?_) (a' := ?_) #[true, true, true, true, true, false, false, false, false, true, false, false, false, true, true, false, false] rfl rfl (by kernel_rfl) (fun _ _ _ h => h) (Or.inl ⟨by rfl, ?_⟩) ?_ ?_
  rotate_left
  ·
   intro w'
   go_simp
   try with_reducible rfl
  rotate_left
  ·
   simp only [Act.put, List.setIfInBounds_toArray, List.set_cons_zero, List.set_cons_succ, i64_w, i32_w]
   rfl
  refine pure_ (i := 5) (N := some 22) (v := ?_) (a' := ?_) #[true, true, true, true, true, true, false, false, false, true, false, false, false, true, true, false, false] rfl rfl (by kernel_rfl) (fun _ _ _ h => h) (Or.inl ⟨by rfl, ?_⟩) ?_ ?_
  rotate_left
  ·
   intro w'
   go_simp
   try with_reducible rfl
  rotate_left
  ·
   simp only [Act.put, List.setIfInBounds_toArray, List.set_cons_zero, List.set_cons_succ, i64_w, i32_w]
   rfl
  refine pure_ (i := 6) (N := some 23) (v := ?_) (a' := ?_) #[true, true, true, true, true, true, true, false, false, true, false, false, false, true, true, false, false] rfl rfl (by kernel_rfl) (fun _ _ _ h => h) (Or.inl ⟨by rfl, ?_⟩) ?_ ?_
  rotate_left
  ·
   intro w'
   go_simp
   try with_reducible rfl
  rotate_left
  ·
   simp only [Act.put, List.setIfInBounds_toArray, List.set_cons_zero, List.set_cons_succ, i64_w, i32_w]
   rfl
  refine take_ (i := 7) (N := some 24) (v := ?_) (a' := ?_) #[true, true, true, true, true, true, true, true, false, true, false, false, false, true, true, false, false] rfl rfl (by kernel_rfl) (fun _ _ _ h => h) (Or.inl ⟨by rfl, ?_⟩) hHeld ?_ ?_
  rotate_left
  ·
   intro w' q1
   go_simp
   try with_reducible rfl
  rotate_left
  ·
   simp only [Act.put, List.setIfInBounds_toArray, List.set_cons_zero, List.set_cons_succ, i64_w, i32_w]
   rfl
  refine one_ (i := 8) (N := some 25) #[true, true, true, true, true, true, true, true, true, true, false, false, false, true, true, false, false] rfl rfl (by kernel_rfl) (by decide) (fun K hK => ?_)
  refine value_ (w1 := u.drew.alloc (.cells #[] 5)) (v := .slice (some ⟨u.heap.size, 0, none⟩) 0 0) (by rfl) rfl (by first | (go_simp; done) | (go_simp; rfl)) ?_
  refine hK.out _ _ (pw_cell_below (below_alloc (Below.refl _ u.drew) _) HS0) (fun hHeld => ?_)
  clear hK K
  refine norm_ (a' := ?_) ?_ ?_
  rotate_left
  ·
   show Act.put _ (some 25) _ = _
   simp only [Act.put, List.setIfInBounds_toArray, List.set_cons_zero, List.set_cons_succ, i64_w, i32_w]
   rfl
  refine one_ (i := 10) (N := some 27) #[true, true, true, true, true, true, true, true, true, true, true, false, false, true, true, false, false] rfl rfl (by kernel_rfl) (by decide) (fun K hK => ?_)
  refine Kd.R_append_rows_step (Kd.int .u8) (w0 := u) u.heap.size (by rfl) (.tmp 25) (.tmp 26) 30 5 (.int .u8 0) 1 rfl Try.underlying30 PFrameDecodes.info5 rfl (by decide) (by omega) _ [] l _ _ _ (fun _ => True) (fun _ => False) rfl rfl HE.out (Kd.C_alloc HRd.out _) (fun _ _ h => h) (fun _ h => h.elim) (fun _ _ => trivial) (below_alloc HBd.out _) (by rw [size_al]; exact Nat.le_succ _) (by simp; omega) ?_
  intro v4 w4 ho4 hb4 _ _
  rw [List.nil_append] at ho4
  obtain ⟨A4, c4, rfl⟩ := Kd.R_slice ho4
  have HBD := Aside0.mk (show Bd w4 B (encH ⟨A4, l.length, c4⟩) l from Bd.of ho4 HWP.out.bsz)
  have HB4 := Aside0.mk hb4
  have HW4 := Aside0.mk (WP.below HWP.out hb4)
  have HS4 : w4.cell? ⟨g, 3, none⟩ = some (.slice A0 n0 c0) := by have := blk_cell HW4.out.blk 3; rw [this]; exact HV.out
  clear ho4 hb4
  refine hK.out _ _ HS4 (fun hHeld => ?_)
  clear hK K
  refine norm_ (a' := ?_) ?_ ?_
  rotate_left
  ·
   show Act.put _ (some 27) _ = _
   simp only [Act.put, List.setIfInBounds_toArray, List.set_cons_zero, List.set_cons_succ, i64_w, i32_w]
   rfl
  refine one_ (i := 11) (N := some 28) #[true, true, true, true, true, true, true, true, true, true, true, true, false, true, true, false, false] rfl rfl (by kernel_rfl) (by decide) (fun K hK => ?_)
  refine value_ (w1 := w4.alloc (.cells #[encH ⟨A4, l.length, c4⟩] 30)) (v := .slice (some ⟨w4.heap.size, 0, none⟩) 1 1) (by rfl) rfl (by first | (go_simp; done) | (go_simp; rfl)) ?_
  refine hK.out _ _ (pw_cell_below (below_alloc (Below.refl _ w4) _) HS4) (fun hHeld => ?_)
  clear hK K
  refine norm_ (a' := ?_) ?_ ?_
  rotate_left
  ·
   show Act.put _ (some 28) _ = _
   simp only [Act.put, List.setIfInBounds_toArray, List.set_cons_zero, List.set_cons_succ, i64_w, i32_w]
   rfl
  refine one_ (i := 12) (N := some 29) #[true, true, true, true, true, true, true, true, true, true, true, true, true, true, true, false, false] rfl rfl (by kernel_rfl) (by decide) (fun K hK => ?_)
  refine Kd.R_append_step kH (w0 := w4) B (by rfl) (.tmp 24) (.tmp 28) 44 30 (.slice none 0 0) 24 rfl Try.underlying44 info30 rfl (by decide) (by omega) (v 3) (h 3) ⟨A4, l.length, c4⟩ [encH ⟨A4, l.length, c4⟩] (fun k => some k = (v 3).ownBlock ∨ w4.heap.size ≤ k) (fun _ => False) (by exact HVV.out) rfl rfl (fun _ hk => hk.elim) (fun k hk => .inr hk) (Kd.R_mono (HW4.out.q 3 (by decide) (by decide)) (fun k hk => .inl hk)) (Below.refl _ _) HW4.out.bsz HLN.out ?_
  intro v9 w9 hq9 _ hg9 hat9
  obtain ⟨A9, c9, rfl⟩ := Kd.R_slice hq9
  have HEND := Aside0.mk (took_end HW4.out (by decide) (by decide) HBD.out hq9 hg9 hat9)
  have hblk9 := HEND.out.2.1
  clear hq9 hg9 hat9 HS4
  refine hK.out _ _ (by have := blk_cell hblk9 3; rw [this]; exact HV.out) (fun hHeld => ?_)
  clear hK K
  refine norm_ (a' := ?_) ?_ ?_
  rotate_left
  ·
   show Act.put _ (some 29) _ = _
   simp only [Act.put, List.setIfInBounds_toArray, List.set_cons_zero, List.set_cons_succ, i64_w, i32_w]
   rfl
  refine pure_ (i := 15) (N := some 32) (v := ?_) (a' := ?_) #[true, true, true, true, true, true, true, true, true, true, true, true, true, true, true, true, false] rfl rfl (by kernel_rfl) (fun _ _ _ h => h) (Or.inl ⟨by rfl, ?_⟩) ?_ ?_
  rotate_left
  ·
   intro w'
   go_simp
   try with_reducible rfl
  rotate_left
  ·
   simp only [Act.put, List.setIfInBounds_toArray, List.set_cons_zero, List.set_cons_succ, i64_w, i32_w]
   rfl
  have d1 : w9.cell? ⟨g, 3, none⟩ = some (.slice A0 n0 c0) := by have := blk_cell hblk9 3; rw [this]; exact HV.out
  have g1 : w9.frozen? ⟨g, 3, none⟩ = false := blk_frozen hblk9 3
  refine last_ (i := 16) (N := none) #[true, true, true, true, true, true, true, true, true, true, true, true, true, true, true, true, true] rfl rfl (by kernel_rfl) (by decide) (fun K hK => ?_)
  refine skip_ (w1 := w9.setCell ⟨g, 3, none⟩ (.slice A9 (h 3 ++ [(⟨A4, l.length, c4⟩ : Hd)]).length c9)) (by rfl) rfl (by go_simp) ?_
  refine hK.out _ _ ?_
  clear hK K
  refine done_ (by kernel_rfl) ?_
  go_end0
  obtain ⟨e1, _, e3⟩ := HEND.out
  rw [HL9.out, if_pos HZ.out]
  exact ⟨rfl, e1, HB1.out.trans ((HB4.out.mono HWP.out.bsz).trans e3)⟩
 ·
  have hzb : (R.1 == 0) = false := by rw [beq_eq_false_iff_ne]; exact hz
  have HZ := Aside0.mk hz
  clear hz
  go_wp2_with fail
  go_end0
  rw [HL9.out, if_neg HZ.out]
  exact ⟨rfl, ⟨_, _, _, _, HW1.out⟩, HB1.out⟩
theorem send1 {σ : Nat → Lk} {ls : Nat → List (List Int)} (W : WQ w B N g σ ls) {M : Nat} (hI : Inv M (σ 1)) (hM : M ≤ 1000000) (hls : (ls 3).length ≤ 1000000) (A : Option Addr) (c : Nat) (l : List Int) (hr : ∀ w', Below B w w' → Keep5 w w' → Kd.C (Kd.int .u8) w' A l.length l) (hl : l.length ≤ 140737488351232) :
  Calls Try.prog 43 #[.pointer (some ⟨g, 0, none⟩), .int .i64 1, .slice A l.length c] w fun e w' => e = .returned (.tuple #[]) ∧ WQ w' B N g (Wd.upd σ 1 (sendL (σ 1) l).2) (if (sendL (σ 1) l).1 = 0 then Wd.upd ls 3 (ls 3 ++ [l]) else ls) ∧ Below B w w' := by
 obtain ⟨p, S, v, h, hw⟩ := W
 exact sendP1 hw hI hM hls A c l (fun w' S' hf => hr w' hf.b hf.k5) hl
end Go.Proofs.Ytekakngojhnleaa.Wf
