/- Parts of the proof of LinkScripts, merged: each is proved for all its inputs. -/
import Derived.Test.YtekakngojhnleaaMgLinkScriptsh
import Derived.Test.YtekakngojhnleaaMgLinkScriptsc
import Derived.Test.YtekakngojhnleaaMgLinkScriptsf
/- Links: Send and Next of the document walked. -/
namespace Go.Proofs.Ytekakngojhnleaa.Xc
open Go.RowKit Go.Maps Go.Proofs.Ytekakngojhnleaa.Lp Go.Proofs.Ytekakngojhnleaa.Lm Go.Proofs.Ytekakngojhnleaa.La Go.Proofs.Ytekakngojhnleaa.Lb Go.Proofs.Ytekakngojhnleaa.Lc Go.Proofs.Ytekakngojhnleaa.Ld Go.Proofs.Ytekakngojhnleaa.Le Go.Proofs.Ytekakngojhnleaa.Xa Go.Proofs.Ytekakngojhnleaa.Xb Go.Proofs.YtekakngojhnleaaW.PrintWords Go.Proofs.YtekakngojhnleaaW.PrintLast Go.Proofs.YtekakngojhnleaaW.PrintMore
set_option linter.unusedVariables false
set_option linter.unusedSimpArgs false
variable {w w' : World} {B N p : Nat} {S : Nat → Prop} {σ : Lk}

theorem add_blk (ad : Addr) (t : Nat) : (ad.add t).block = ad.block := by unfold Addr.add; split <;> rfl
set_option maxRecDepth 100000 in
set_option maxHeartbeats 1000000 in
theorem rsend_calls (h : DP w B N S p σ) {M : Nat} (hI : Inv M σ) (hM : M ≤ 1000000) (A : Option Addr) (c : Nat) (l : List Int) (hr : Kd.C (Kd.int .u8) w A l.length l) (hl : l.length ≤ 140737488351232) :
    Calls Try.prog 32 #[.pointer (some ⟨p, 0, none⟩), .slice A l.length c] w fun e w' => ∃ S', e = .returned (.int .i64 (sendL σ l).1) ∧ DP w' B N S' p (sendL σ l).2 ∧ FrL B S S' w w' := by
  obtain ⟨R, hR⟩ : ∃ R, R = sendL σ l := ⟨_, rfl⟩
  rw [← hR]
  unfold sendL at hR
  obtain ⟨vt, va, vh, hx⟩ := h
  obtain ⟨ht, hrt, hbt⟩ := hx.t
  obtain ⟨A0, c0, rfl⟩ := Kd.R_slice hrt
  obtain ⟨n0, hn0⟩ : ∃ n0, n0 = ht.length := ⟨_, rfl⟩
  rw [← hn0] at hx hrt
  have hql : n0 = σ.took.length := by rw [hn0]; exact hbt.1
  have e1 := hI.s3
  have e2 := hI.tk
  have e3 : σ.sure ≤ σ.took.length := Nat.le_trans hI.s0 hI.s1
  have c1 : w.cell? ⟨p, 1, none⟩ = some (.slice A0 n0 c0) := blk_cell hx.blk 1
  have c2 : w.cell? ⟨p, 2, none⟩ = some (.int .i64 (σ.sure : Int)) := blk_cell hx.blk 2
  have H := Aside0.mk hx
  have HTR0 := Aside0.mk hrt
  have HTB0 := Aside0.mk hbt
  have HR := Aside0.mk hr
  have HLN := Aside0.mk (show (ht.length + 1) * 24 ≤ 140737488355328 by omega)
  have HBW := Aside0.mk hx.bsz
  clear hx hr hrt hbt
  by_cases h1 : 1048576 < (l.length : Int)
  · rw [if_pos (.inl (by omega))] at hR
    have HRR := Aside0.mk hR
    clear hR hql hn0 e1 e2 e3
    go_enter Try.func32, Try.ntmps32
    go_wp2_with fail
    go_ret
    exact ⟨S, by rw [HRR.out]; rfl, by rw [HRR.out]; exact ⟨_, _, _, H.out⟩, FrL.refl _ _ _⟩
  · rw [if_neg (by omega)] at hR
    have hsum : ¬ (1073741824 : Int) ≤ (n0 : Int) := by omega
    have hw : wrap64 ((n0 : Int) - (σ.sure : Int)) = (n0 : Int) - (σ.sure : Int) := by unfold wrap64; omega
    by_cases h2 : 64 ≤ (n0 : Int) - (σ.sure : Int)
    · rw [if_pos (by omega)] at hR
      have hg3 : decide ((64 : Int) ≤ (n0 : Int) - (σ.sure : Int)) = true := decide_eq_true h2
      have HRR := Aside0.mk hR
      clear hR hql hn0 e1 e2 e3
      go_enter Try.func32, Try.ntmps32
      go_wp2_with fail
      go_region
      all_goals try rw [hw]
      all_goals go_wp2_with fail
      all_goals go_ret
      all_goals exact ⟨S, by rw [HRR.out]; rfl, by rw [HRR.out]; exact ⟨_, _, _, H.out.below (below_drew (Below.refl _ _))⟩, H.out.fr (below_drew (Below.refl _ _))⟩
    · rw [if_neg (by omega)] at hR
      have hg3 : decide ((64 : Int) ≤ (n0 : Int) - (σ.sure : Int)) = false := decide_eq_false h2
      have HRR := Aside0.mk hR
      clear hR hql hn0 e1 e2 e3
      go_enter Try.func32, Try.ntmps32
      go_wp2_with fail
      go_region
      try rw [hw]
      clear hsum h1 hw
      go_wp2_with fail
      clear h2 hg3
      have hbu : Below w.heap.size w w.drew := below_drew (Below.refl _ w)
      have HU := Aside0.mk (DPx.below H.out hbu)
      have HUR := Aside0.mk (Kd.C_below HR.out hbu)
      have HTR := Aside0.mk (Kd.R_below HTR0.out hbu)
      have HTB := Aside0.mk (HTB0.out.keep (Keep5.below hbu))
      have HFU := Aside0.mk (H.out.fr hbu)
      clear hbu c1 c2
      generalize w.drew = u at HU HUR HTR HTB HFU ⊢
      have HRd := Aside0.mk (Kd.C_drew HUR.out)
      have HBd := Aside0.mk (below_drew (Below.refl u.heap.size u))
      have HE := Aside0.mk (Rd.R_empty (Kd.int .u8) 5 u.drew u.heap.size (Nat.le_refl _))
      have HS0 : u.drew.cell? ⟨p, 1, none⟩ = some (.slice A0 n0 c0) := blk_cell HU.out.blk 1
      refine start_ (n := 13) (S := fun w' => w'.cell? ⟨p, 1, none⟩ = some (.slice A0 n0 c0)) (ds := [12]) #[false, false, false, false, false, false, false, false, false, false, false, false, false] (by kernel_rfl) rfl rfl HS0 (fun hHeld => ?_)
      refine pure_ (i := 0) (N := some 27) (v := ?_) (a' := ?_) #[true, false, false, false, false, false, false, false, false, false, false, false, false] rfl rfl (by kernel_rfl) (fun _ _ _ h => h) (Or.inl ⟨by rfl, ?_⟩) ?_ ?_
      rotate_left
      · intro w'
        go_simp
        try with_reducible rfl
      rotate_left
      · simp only [Act.put, List.setIfInBounds_toArray, List.set_cons_zero, List.set_cons_succ, i64_w, i32_w]
        rfl
      refine pure_ (i := 1) (N := some 28) (v := ?_) (a' := ?_) #[true, true, false, false, false, false, false, false, false, false, false, false, false] rfl rfl (by kernel_rfl) (fun _ _ _ h => h) (Or.inl ⟨by rfl, ?_⟩) ?_ ?_
      rotate_left
      · intro w'
        go_simp
        try with_reducible rfl
      rotate_left
      · simp only [Act.put, List.setIfInBounds_toArray, List.set_cons_zero, List.set_cons_succ, i64_w, i32_w]
        rfl
      refine pure_ (i := 2) (N := some 29) (v := ?_) (a' := ?_) #[true, true, true, false, false, false, false, false, false, false, false, false, false] rfl rfl (by kernel_rfl) (fun _ _ _ h => h) (Or.inl ⟨by rfl, ?_⟩) ?_ ?_
      rotate_left
      · intro w'
        go_simp
        try with_reducible rfl
      rotate_left
      · simp only [Act.put, List.setIfInBounds_toArray, List.set_cons_zero, List.set_cons_succ, i64_w, i32_w]
        rfl
      refine pure_ (i := 3) (N := some 30) (v := ?_) (a' := ?_) #[true, true, true, true, false, false, false, false, false, false, false, false, false] rfl rfl (by kernel_rfl) (fun _ _ _ h => h) (Or.inl ⟨by rfl, ?_⟩) ?_ ?_
      rotate_left
      · intro w'
        go_simp
        try with_reducible rfl
      rotate_left
      · simp only [Act.put, List.setIfInBounds_toArray, List.set_cons_zero, List.set_cons_succ, i64_w, i32_w]
        rfl
      refine pure_ (i := 6) (N := some 33) (v := ?_) (a' := ?_) #[true, true, true, true, false, false, true, false, false, false, false, false, false] rfl rfl (by kernel_rfl) (fun _ _ _ h => h) (Or.inl ⟨by rfl, ?_⟩) ?_ ?_
      rotate_left
      · intro w'
        go_simp
        try with_reducible rfl
      rotate_left
      · simp only [Act.put, List.setIfInBounds_toArray, List.set_cons_zero, List.set_cons_succ, i64_w, i32_w]
        rfl
      refine take_ (i := 4) (N := some 31) (v := ?_) (a' := ?_) #[true, true, true, true, true, false, true, false, false, false, false, false, false] rfl rfl (by kernel_rfl) (fun _ _ _ h => h) (Or.inl ⟨by rfl, ?_⟩) hHeld ?_ ?_
      rotate_left
      · intro w' q1
        go_simp
        try with_reducible rfl
      rotate_left
      · simp only [Act.put, List.setIfInBounds_toArray, List.set_cons_zero, List.set_cons_succ, i64_w, i32_w]
        rfl
      refine one_ (i := 5) (N := some 32) #[true, true, true, true, true, true, true, false, false, false, false, false, false] rfl rfl (by kernel_rfl) (by decide) (fun K hK => ?_)
      refine value_ (w1 := u.drew.alloc (.cells #[] 5)) (v := .slice (some ⟨u.heap.size, 0, none⟩) 0 0) (by rfl) rfl (by first | (go_simp; done) | (go_simp; rfl)) ?_
      refine hK.out _ _ (pw_cell_below (below_alloc (Below.refl _ u.drew) _) HS0) (fun hHeld => ?_)
      clear hK K
      refine norm_ (a' := ?_) ?_ ?_
      rotate_left
      · show Act.put _ (some 32) _ = _
        simp only [Act.put, List.setIfInBounds_toArray, List.set_cons_zero, List.set_cons_succ, i64_w, i32_w]
        rfl
      refine one_ (i := 7) (N := some 34) #[true, true, true, true, true, true, true, true, false, false, false, false, false] rfl rfl (by kernel_rfl) (by decide) (fun K hK => ?_)
      refine Kd.R_append_rows_step (Kd.int .u8) (w0 := u) u.heap.size (by rfl) (.tmp 32) (.tmp 33) 30 5 (.int .u8 0) 1 rfl Try.underlying30 PFrameDecodes.info5 rfl (by decide) (by omega) _ [] l _ _ _ (fun _ => True) (fun _ => False) rfl rfl HE.out (Kd.C_alloc HRd.out _) (fun _ _ h => h) (fun _ h => h.elim) (fun _ _ => trivial) (below_alloc HBd.out _) (by rw [size_al]; exact Nat.le_succ _) (by simp; omega) ?_
      intro v4 w4 ho4 hb4 _ _
      rw [List.nil_append] at ho4
      obtain ⟨A4, c4, rfl⟩ := Kd.R_slice ho4
      have HBD := Aside0.mk (show Bd w4 B (encH ⟨A4, l.length, c4⟩) l from Bd.of ho4 HU.out.bsz)
      have HB4 := Aside0.mk hb4
      have HX4 := Aside0.mk (HU.out.below hb4)
      have HT4 := Aside0.mk (show kH.R 30 w4 B (fun k => some k = (Value.slice A0 n0 c0).ownBlock ∨ w4.heap.size ≤ k) (.slice A0 n0 c0) ht from Kd.R_mono (Kd.R_below HTR.out hb4) (fun k hk => .inl hk))
      have HTB4 := Aside0.mk (HTB.out.keep (Keep5.below hb4))
      have HS4 : w4.cell? ⟨p, 1, none⟩ = some (.slice A0 n0 c0) := blk_cell HX4.out.blk 1
      clear ho4 hb4
      refine hK.out _ _ HS4 (fun hHeld => ?_)
      clear hK K
      refine norm_ (a' := ?_) ?_ ?_
      rotate_left
      · show Act.put _ (some 34) _ = _
        simp only [Act.put, List.setIfInBounds_toArray, List.set_cons_zero, List.set_cons_succ, i64_w, i32_w]
        rfl
      refine one_ (i := 8) (N := some 35) #[true, true, true, true, true, true, true, true, true, false, false, false, false] rfl rfl (by kernel_rfl) (by decide) (fun K hK => ?_)
      refine value_ (w1 := w4.alloc (.cells #[encH ⟨A4, l.length, c4⟩] 30)) (v := .slice (some ⟨w4.heap.size, 0, none⟩) 1 1) (by rfl) rfl (by first | (go_simp; done) | (go_simp; rfl)) ?_
      refine hK.out _ _ (pw_cell_below (below_alloc (Below.refl _ w4) _) HS4) (fun hHeld => ?_)
      clear hK K
      refine norm_ (a' := ?_) ?_ ?_
      rotate_left
      · show Act.put _ (some 35) _ = _
        simp only [Act.put, List.setIfInBounds_toArray, List.set_cons_zero, List.set_cons_succ, i64_w, i32_w]
        rfl
      refine one_ (i := 9) (N := some 36) #[true, true, true, true, true, true, true, true, true, true, false, false, false] rfl rfl (by kernel_rfl) (by decide) (fun K hK => ?_)
      refine Kd.R_append_step kH (w0 := w4) B (by rfl) (.tmp 31) (.tmp 35) 44 30 (.slice none 0 0) 24 rfl Try.underlying44 info30 rfl (by decide) (by omega) (.slice A0 n0 c0) ht ⟨A4, l.length, c4⟩ [encH ⟨A4, l.length, c4⟩] (fun k => some k = (Value.slice A0 n0 c0).ownBlock ∨ w4.heap.size ≤ k) (fun _ => False) rfl rfl rfl (fun _ hk => hk.elim) (fun k hk => .inr hk) HT4.out (Below.refl _ _) HX4.out.bsz HLN.out ?_
      intro v9 w9 hq9 _ hg9 hat9
      obtain ⟨A9, c9, rfl⟩ := Kd.R_slice hq9
      have HEND := Aside0.mk (DPx.taken HX4.out HTB4.out HBD.out hq9 hg9 hat9)
      have hblk9 := HEND.out.1
      clear hq9 hg9 hat9 HS4
      refine hK.out _ _ (blk_cell hblk9 1) (fun hHeld => ?_)
      clear hK K
      refine norm_ (a' := ?_) ?_ ?_
      rotate_left
      · show Act.put _ (some 36) _ = _
        simp only [Act.put, List.setIfInBounds_toArray, List.set_cons_zero, List.set_cons_succ, i64_w, i32_w]
        rfl
      refine pure_ (i := 10) (N := some 37) (v := ?_) (a' := ?_) #[true, true, true, true, true, true, true, true, true, true, true, false, false] rfl rfl (by kernel_rfl) (fun _ _ _ h => h) (Or.inl ⟨by rfl, ?_⟩) ?_ ?_
      rotate_left
      · intro w'
        go_simp
        try with_reducible rfl
      rotate_left
      · simp only [Act.put, List.setIfInBounds_toArray, List.set_cons_zero, List.set_cons_succ, i64_w, i32_w]
        rfl
      refine pure_ (i := 11) (N := some 38) (v := ?_) (a' := ?_) #[true, true, true, true, true, true, true, true, true, true, true, true, false] rfl rfl (by kernel_rfl) (fun _ _ _ h => h) (Or.inl ⟨by rfl, ?_⟩) ?_ ?_
      rotate_left
      · intro w'
        go_simp
        try with_reducible rfl
      rotate_left
      · simp only [Act.put, List.setIfInBounds_toArray, List.set_cons_zero, List.set_cons_succ, i64_w, i32_w]
        rfl
      have d1 : w9.cell? ⟨p, 1, none⟩ = some (.slice A0 n0 c0) := blk_cell hblk9 1
      have g1 : w9.frozen? ⟨p, 1, none⟩ = false := blk_frozen hblk9 1
      refine last_ (i := 12) (N := none) #[true, true, true, true, true, true, true, true, true, true, true, true, true] rfl rfl (by kernel_rfl) (by decide) (fun K hK => ?_)
      refine skip_ (w1 := w9.setCell ⟨p, 1, none⟩ (.slice A9 (ht ++ [(⟨A4, l.length, c4⟩ : Hd)]).length c9)) (by rfl) rfl (by go_simp) ?_
      refine hK.out _ _ ?_
      clear hK K
      refine done_ (by kernel_rfl) ?_
      go_wp2_with fail
      go_ret
      rw [HRR.out]
      exact ⟨_, rfl, ⟨_, _, _, HEND.out.2.1⟩, FrL.trans HFU.out (FrL.trans (HU.out.fr HB4.out) HEND.out.2.2)⟩
set_option maxRecDepth 100000 in
theorem rnext_no (h : DP w B N S p σ) (ht : ¬ σ.told < σ.all.length) : Calls Try.prog 37 #[.pointer (some ⟨p, 0, none⟩)] w fun e w' => e = .returned (.tuple #[.slice none 0 0, .bool false]) ∧ DP w' B N S p σ ∧ FrL B S S w w' := by
  obtain ⟨vt, va, vh, hx⟩ := h
  obtain ⟨ha, hra, hba⟩ := hx.a
  obtain ⟨A0, c0, rfl⟩ := Kd.R_slice hra
  have c4 : w.cell? ⟨p, 4, none⟩ = some (.slice A0 ha.length c0) := blk_cell hx.blk 4
  have c5 : w.cell? ⟨p, 5, none⟩ = some (.int .i64 (σ.told : Int)) := blk_cell hx.blk 5
  have hle : (ha.length : Int) ≤ (σ.told : Int) := by have := hba.1; omega
  have hd : decide ((ha.length : Int) ≤ (σ.told : Int)) = true := decide_eq_true hle
  have H := Aside0.mk hx
  clear hx hra hba ht
  go_enter Try.func37, Try.ntmps37
  go_wp2_with fail
  go_region
  all_goals go_wp2_with fail
  all_goals go_ret2
  all_goals exact ⟨rfl, ⟨_, _, _, H.out.below (below_drew (Below.refl _ _))⟩, H.out.fr (below_drew (Below.refl _ _))⟩
set_option maxRecDepth 100000 in
set_option maxHeartbeats 1000000 in
theorem rnext_yes (h : DP w B N S p σ) (ht : σ.told < σ.all.length) (hn : σ.all.length ≤ 100000000) (hok : okB σ.all[σ.told]) :
    Calls Try.prog 37 #[.pointer (some ⟨p, 0, none⟩)] w fun e w' => ∃ v, e = .returned (.tuple #[v, .bool true]) ∧ Bd w' B v σ.all[σ.told] ∧ DP w' B N S p (nextL σ).2 ∧ FrL B S S w w' := by
  obtain ⟨vt, va, vh, hx⟩ := h
  obtain ⟨ha, hra, hba⟩ := hx.a
  have hnx : (nextL σ).2 = { σ with told := σ.told + 1 } := by unfold nextL; rw [dif_pos ht]
  rw [hnx]
  obtain ⟨l, hl⟩ : ∃ l, l = σ.all[σ.told] := ⟨_, rfl⟩
  rw [← hl] at hok ⊢
  obtain ⟨A0, c0, rfl, hcap, hcr⟩ := Kd.R_reads hra
  obtain ⟨ad, rfl, hc0⟩ := at_H hcr (σ.told : Int) (by omega) (by have := hba.1; omega)
  rw [Int.toNat_natCast] at hc0
  have hbd : Bd w B (encH (rdH ha (σ.told : Int))) l := hba.2 σ.told _ _ (by unfold rdH; rw [Int.toNat_natCast, List.getD_eq_getElem?_getD, List.getElem?_eq_getElem (by have := hba.1; omega), Option.getD_some]) (by rw [List.getElem?_eq_getElem ht, hl])
  obtain ⟨y, hy⟩ : ∃ y, y = rdH ha (σ.told : Int) := ⟨_, rfl⟩
  rw [← hy] at hc0 hbd
  obtain ⟨a0, m0, k0⟩ := y
  have hml := (Kd.R_reads' hbd).1
  change m0 = l.length at hml
  subst hml
  unfold encH at hc0
  obtain ⟨n0, hn0⟩ : ∃ n0, n0 = ha.length := ⟨_, rfl⟩
  rw [← hn0] at hx
  have hlen : n0 = σ.all.length := by rw [hn0]; exact hba.1
  obtain ⟨t, htt⟩ : ∃ t, t = σ.told := ⟨_, rfl⟩
  have c4 : w.cell? ⟨p, 4, none⟩ = some (.slice (some ad) n0 c0) := blk_cell hx.blk 4
  have c5 : w.cell? ⟨p, 5, none⟩ = some (.int .i64 (t : Int)) := by rw [htt]; exact blk_cell hx.blk 5
  have f5 : w.frozen? ⟨p, 5, none⟩ = false := blk_frozen hx.blk 5
  rw [← htt] at hc0
  have hlt : (t : Int) < (n0 : Int) := by omega
  have hnle : ¬ (n0 : Int) ≤ (t : Int) := by omega
  have hd : decide ((n0 : Int) ≤ (t : Int)) = false := decide_eq_false (by omega)
  have hw1 : wrap64 ((t : Int) + 1) = (t : Int) + 1 := by unfold wrap64; omega
  have hw2 : wrap64 (t : Int) = (t : Int) := by unfold wrap64; omega
  have h0t : (0 : Int) ≤ (t : Int) := by omega
  have HPUT := Aside0.mk (DPx.put hx 5 (.int .i64 ((t : Int) + 1)) { σ with told := σ.told + 1 } (by unfold cellsD; rw [htt]; simp) rfl rfl rfl)
  have HBD0 := Aside0.mk hbd
  have hadp : (ad.add t).block ≠ p := fun e => by
    obtain ⟨cs, hcs⟩ := hx.a.typed ad.block rfl
    have hb := hx.blk
    have e2 : ad.block = p := (add_blk ad t).symm.trans e
    rw [← e2, hcs] at hb
    cases hb
  have HC0 := Aside0.mk hc0
  have HTT := Aside0.mk htt
  have HAD := Aside0.mk hadp
  have HLL := Aside0.mk (show (0 + l.length) * 1 ≤ 140737488355328 by have := hok.1; omega)
  clear hx hra hba hbd hy hcr hc0 hadp hn hnx hl htt hlen hn0 hok hcap
  go_enter Try.func37, Try.ntmps37
  go_wp2_with fail
  go_region
  go_wp2_with fail
  clear c4 c5 f5 hd
  have HCD := Aside0.mk (show (w.setCell ⟨p, 5, none⟩ (.int .i64 ((t : Int) + 1))).drew.cell? (ad.add t) = some (.slice a0 l.length k0) by
    have e : (w.setCell ⟨p, 5, none⟩ (.int .i64 ((t : Int) + 1))).cell? (ad.add t) = w.cell? (ad.add t) := by
      unfold World.cell?
      rw [Below.heap_setCell _ _ _ _ (fun e => HAD.out e)]
    exact e.trans HC0.out)
  have hbu := below_drew (Below.refl (w.setCell ⟨p, 5, none⟩ (.int .i64 ((t : Int) + 1))).heap.size (w.setCell ⟨p, 5, none⟩ (.int .i64 ((t : Int) + 1))))
  have HBD := Aside0.mk ((HBD0.out.keep HPUT.out.2.k5).keep (Keep5.below hbu))
  have HFU := Aside0.mk (FrL.trans HPUT.out.2 (HPUT.out.1.fr hbu))
  have HU := Aside0.mk (HPUT.out.1.below hbu)
  clear HPUT HBD0 HC0 HAD hbu
  generalize (w.setCell ⟨p, 5, none⟩ (.int .i64 ((t : Int) + 1))).drew = u at HCD HBD HFU HU ⊢
  have HRd := Aside0.mk (Kd.C_drew (Kd.R_reads' HBD.out).2.2)
  have HBd := Aside0.mk (below_drew (Below.refl u.heap.size u))
  have HE := Aside0.mk (Rd.R_empty (Kd.int .u8) 5 u.drew u.heap.size (Nat.le_refl _))
  have HSU := Aside0.mk (show u.drew.cell? ⟨p, 4, none⟩ = some (.slice (some ad) n0 c0) ∧ u.drew.cell? ⟨p, 5, none⟩ = some (.int .i64 ((t : Int) + 1)) ∧ u.drew.cell? (ad.add t) = some (.slice a0 l.length k0) from ⟨blk_cell HU.out.blk 4, by have e : u.cell? ⟨p, 5, none⟩ = some (.int .i64 (((σ.told + 1 : Nat) : Int))) := blk_cell HU.out.blk 5; rw [← HTT.out] at e; exact e, HCD.out⟩)
  have HS0 := HSU.out
  refine start_ (n := 15) (S := fun w' => w'.cell? ⟨p, 4, none⟩ = some (.slice (some ad) n0 c0) ∧ w'.cell? ⟨p, 5, none⟩ = some (.int .i64 ((t : Int) + 1)) ∧ w'.cell? (ad.add t) = some (.slice a0 l.length k0)) (ds := []) #[false, false, false, false, false, false, false, false, false, false, false, false, false, false, false] (by kernel_rfl) rfl rfl HS0 (fun hHeld => ?_)
  refine pure_ (i := 1) (N := some 22) (v := ?_) (a' := ?_) #[false, true, false, false, false, false, false, false, false, false, false, false, false, false, false] rfl rfl (by kernel_rfl) (fun _ _ _ h => h) (Or.inl ⟨by rfl, ?_⟩) ?_ ?_
  rotate_left
  · intro w'
    go_simp
    try with_reducible rfl
  rotate_left
  · simp only [Act.put, List.setIfInBounds_toArray, List.set_cons_zero, List.set_cons_succ, i64_w, i32_w]
    rfl
  refine pure_ (i := 2) (N := some 23) (v := ?_) (a' := ?_) #[false, true, true, false, false, false, false, false, false, false, false, false, false, false, false] rfl rfl (by kernel_rfl) (fun _ _ _ h => h) (Or.inl ⟨by rfl, ?_⟩) ?_ ?_
  rotate_left
  · intro w'
    go_simp
    try with_reducible rfl
  rotate_left
  · simp only [Act.put, List.setIfInBounds_toArray, List.set_cons_zero, List.set_cons_succ, i64_w, i32_w]
    rfl
  refine pure_ (i := 3) (N := some 24) (v := ?_) (a' := ?_) #[false, true, true, true, false, false, false, false, false, false, false, false, false, false, false] rfl rfl (by kernel_rfl) (fun _ _ _ h => h) (Or.inl ⟨by rfl, ?_⟩) ?_ ?_
  rotate_left
  · intro w'
    go_simp
    try with_reducible rfl
  rotate_left
  · simp only [Act.put, List.setIfInBounds_toArray, List.set_cons_zero, List.set_cons_succ, i64_w, i32_w]
    rfl
  refine pure_ (i := 5) (N := some 26) (v := ?_) (a' := ?_) #[false, true, true, true, false, true, false, false, false, false, false, false, false, false, false] rfl rfl (by kernel_rfl) (fun _ _ _ h => h) (Or.inl ⟨by rfl, ?_⟩) ?_ ?_
  rotate_left
  · intro w'
    go_simp
    try with_reducible rfl
  rotate_left
  · simp only [Act.put, List.setIfInBounds_toArray, List.set_cons_zero, List.set_cons_succ, i64_w, i32_w]
    rfl
  refine pure_ (i := 6) (N := some 27) (v := ?_) (a' := ?_) #[false, true, true, true, false, true, true, false, false, false, false, false, false, false, false] rfl rfl (by kernel_rfl) (fun _ _ _ h => h) (Or.inl ⟨by rfl, ?_⟩) ?_ ?_
  rotate_left
  · intro w'
    go_simp
    try with_reducible rfl
  rotate_left
  · simp only [Act.put, List.setIfInBounds_toArray, List.set_cons_zero, List.set_cons_succ, i64_w, i32_w]
    rfl
  refine pure_ (i := 7) (N := some 28) (v := ?_) (a' := ?_) #[false, true, true, true, false, true, true, true, false, false, false, false, false, false, false] rfl rfl (by kernel_rfl) (fun _ _ _ h => h) (Or.inl ⟨by rfl, ?_⟩) ?_ ?_
  rotate_left
  · intro w'
    go_simp
    try with_reducible rfl
  rotate_left
  · simp only [Act.put, List.setIfInBounds_toArray, List.set_cons_zero, List.set_cons_succ, i64_w, i32_w]
    rfl
  refine take_ (i := 4) (N := some 25) (v := ?_) (a' := ?_) #[false, true, true, true, true, true, true, true, false, false, false, false, false, false, false] rfl rfl (by kernel_rfl) (fun _ _ _ h => h) (Or.inl ⟨by rfl, ?_⟩) hHeld ?_ ?_
  rotate_left
  · rintro w' ⟨q1, q2, q3⟩
    go_simp
    try with_reducible rfl
  rotate_left
  · simp only [Act.put, List.setIfInBounds_toArray, List.set_cons_zero, List.set_cons_succ, i64_w, i32_w]
    rfl
  refine take_ (i := 8) (N := some 29) (v := ?_) (a' := ?_) #[false, true, true, true, true, true, true, true, true, false, false, false, false, false, false] rfl rfl (by kernel_rfl) (fun _ _ _ h => h) (Or.inl ⟨by rfl, ?_⟩) hHeld ?_ ?_
  rotate_left
  · rintro w' ⟨q1, q2, q3⟩
    go_simp
    try with_reducible rfl
  rotate_left
  · simp only [Act.put, List.setIfInBounds_toArray, List.set_cons_zero, List.set_cons_succ, i64_w, i32_w]
    rfl
  refine pure_ (i := 9) (N := some 30) (v := ?_) (a' := ?_) #[false, true, true, true, true, true, true, true, true, true, false, false, false, false, false] rfl rfl (by kernel_rfl) (fun _ _ _ h => h) (Or.inl ⟨by rfl, ?_⟩) ?_ ?_
  rotate_left
  · intro w'
    go_simp
    try with_reducible rfl
  rotate_left
  · simp only [Act.put, List.setIfInBounds_toArray, List.set_cons_zero, List.set_cons_succ, i64_w, i32_w]
    rfl
  refine pure_ (i := 10) (N := some 31) (v := ?_) (a' := ?_) #[false, true, true, true, true, true, true, true, true, true, true, false, false, false, false] rfl rfl (by kernel_rfl) (fun _ _ _ h => h) (Or.inl ⟨by rfl, ?_⟩) ?_ ?_
  rotate_left
  · intro w'
    go_simp
    try with_reducible rfl
  rotate_left
  · simp only [Act.put, List.setIfInBounds_toArray, List.set_cons_zero, List.set_cons_succ, i64_w, i32_w]
    rfl
  refine take_ (i := 11) (N := some 32) (v := ?_) (a' := ?_) #[false, true, true, true, true, true, true, true, true, true, true, true, false, false, false] rfl rfl (by kernel_rfl) (fun _ _ _ h => h) (Or.inl ⟨by rfl, ?_⟩) hHeld ?_ ?_
  rotate_left
  · rintro w' ⟨q1, q2, q3⟩
    go_simp
    try with_reducible rfl
  rotate_left
  · simp only [Act.put, List.setIfInBounds_toArray, List.set_cons_zero, List.set_cons_succ, i64_w, i32_w]
    rfl
  refine one_ (i := 0) (N := some 21) #[true, true, true, true, true, true, true, true, true, true, true, true, false, false, false] rfl rfl (by kernel_rfl) (by decide) (fun K hK => ?_)
  refine value_ (w1 := u.drew.alloc (.cells #[] 5)) (v := .slice (some ⟨u.heap.size, 0, none⟩) 0 0) (by rfl) rfl (by first | (go_simp; done) | (go_simp; rfl)) ?_
  refine hK.out _ _ ⟨pw_cell_below (below_alloc (Below.refl _ u.drew) _) HS0.1, pw_cell_below (below_alloc (Below.refl _ u.drew) _) HS0.2.1, pw_cell_below (below_alloc (Below.refl _ u.drew) _) HS0.2.2⟩ (fun hHeld => ?_)
  clear hK K
  refine norm_ (a' := ?_) ?_ ?_
  rotate_left
  · show Act.put _ (some 21) _ = _
    simp only [Act.put, List.setIfInBounds_toArray, List.set_cons_zero, List.set_cons_succ, i64_w, i32_w]
    rfl
  refine one_ (i := 12) (N := some 33) #[true, true, true, true, true, true, true, true, true, true, true, true, true, false, false] rfl rfl (by kernel_rfl) (by decide) (fun K hK => ?_)
  refine Kd.R_append_rows_step (Kd.int .u8) (w0 := u) u.heap.size (by rfl) (.tmp 21) (.tmp 32) 30 5 (.int .u8 0) 1 rfl Try.underlying30 PFrameDecodes.info5 rfl (by decide) (by omega) _ [] l _ _ _ (fun _ => True) (fun _ => False) rfl rfl HE.out (Kd.C_alloc HRd.out _) (fun _ _ h => h) (fun _ h => h.elim) (fun _ _ => trivial) (below_alloc HBd.out _) (by rw [size_al]; exact Nat.le_succ _) (by have := HLL.out; simp; omega) ?_
  intro v4 w4 ho4 hb4 _ _
  rw [List.nil_append] at ho4
  obtain ⟨A4, c4, rfl⟩ := Kd.R_slice ho4
  have HBD := Aside0.mk (show Bd w4 B (.slice A4 l.length c4) l from Bd.of ho4 HU.out.bsz)
  have HB4 := Aside0.mk hb4
  have HS4 := And.intro (pw_cell_below hb4 HSU.out.1) (And.intro (pw_cell_below hb4 HSU.out.2.1) (pw_cell_below hb4 HSU.out.2.2))
  clear ho4 hb4
  refine hK.out _ _ HS4 (fun hHeld => ?_)
  clear hK K
  refine norm_ (a' := ?_) ?_ ?_
  rotate_left
  · show Act.put _ (some 33) _ = _
    simp only [Act.put, List.setIfInBounds_toArray, List.set_cons_zero, List.set_cons_succ, i64_w, i32_w]
    rfl
  refine pure_ (i := 13) (N := some 2) (v := ?_) (a' := ?_) #[true, true, true, true, true, true, true, true, true, true, true, true, true, true, false] rfl rfl (by kernel_rfl) (fun _ _ _ h => h) (Or.inl ⟨by rfl, ?_⟩) ?_ ?_
  rotate_left
  · intro w'
    go_simp
    try with_reducible rfl
  rotate_left
  · simp only [Act.put, List.setIfInBounds_toArray, List.set_cons_zero, List.set_cons_succ, i64_w, i32_w]
    rfl
  refine pure_ (i := 14) (N := some 3) (v := ?_) (a' := ?_) #[true, true, true, true, true, true, true, true, true, true, true, true, true, true, true] rfl rfl (by kernel_rfl) (fun _ _ _ h => h) (Or.inl ⟨by rfl, ?_⟩) ?_ ?_
  rotate_left
  · intro w'
    go_simp
    try with_reducible rfl
  rotate_left
  · simp only [Act.put, List.setIfInBounds_toArray, List.set_cons_zero, List.set_cons_succ, i64_w, i32_w]
    rfl
  refine done_ (by kernel_rfl) ?_
  go_wp2_with fail
  go_ret2
  exact ⟨_, rfl, HBD.out, ⟨_, _, _, HU.out.below HB4.out⟩, FrL.trans HFU.out (HU.out.fr HB4.out)⟩
end Go.Proofs.Ytekakngojhnleaa.Xc
/- Links: two ends and all frames that came out of them: what holds whatever is lost, doubled, late; what comes when all frames come. -/
namespace Go.Proofs.Ytekakngojhnleaa.Pr
open Go.RowKit Go.Proofs.Ytekakngojhnleaa.Lp Go.Proofs.Ytekakngojhnleaa.En Go.Proofs.Ytekakngojhnleaa.Dw Go.Proofs.YtekakngojhnleaaW.PrintWords Go.Proofs.YtekakngojhnleaaW.PrintLast Go.Proofs.YtekakngojhnleaaW.PrintMore
set_option linter.unusedVariables false
set_option linter.unusedSimpArgs false

/-- A frame that came out of a. -/
def Good (a : Lk) (f : List Int) : Prop := ∃ (d : Bool) (s k : Nat) (l : List Int), f = frameL d s k l ∧ k ≤ a.all.length ∧ (d = true → s < a.sent ∧ a.took[s]? = some l) ∧ (d = false → s = 0 ∧ l = [])
/-- What b has of a. -/
structure Dir (a b : Lk) : Prop where
  all : b.all = a.took.take b.all.length
  le : b.all.length ≤ a.sent
  hold : ∀ x l, b.hold x = some l → ∃ n : Nat, x = (n : Int) ∧ n < a.sent ∧ a.took[n]? = some l
  sure : a.sure ≤ b.all.length
structure Two (N : Nat) (a b : Lk) (fa fb : List (List Int)) : Prop where
  ia : Inv N a
  ib : Inv N b
  ab : Dir a b
  ba : Dir b a
  ga : ∀ f ∈ fa, Good a f
  gb : ∀ f ∈ fb, Good b f
variable {N : Nat} {a b : Lk} {fa fb : List (List Int)}
theorem Two.swap (h : Two N a b fa fb) : Two N b a fb fa := ⟨h.ib, h.ia, h.ba, h.ab, h.gb, h.ga⟩
theorem Two.mono (h : Two N a b fa fb) {M : Nat} (hm : N ≤ M) : Two M a b fa fb := ⟨h.ia.mono hm, h.ib.mono hm, h.ab, h.ba, h.ga, h.gb⟩
theorem fresh_two {n : Nat} (h0 : 1 ≤ n) (h1 : n ≤ 16) : Two 0 (newL n) (newL n) [] [] := by
  have d : Dir (newL n) (newL n) := ⟨rfl, Nat.le_refl _, fun x l h => by simp [newL] at h, Nat.le_refl _⟩
  exact ⟨newInv h0 h1, newInv h0 h1, d, d, fun f h => by simp at h, fun f h => by simp at h⟩
theorem get_grow {l : List (List Int)} {x y : List Int} {s : Nat} (h : l[s]? = some x) : (l ++ [y])[s]? = some x := by
  have hs : s < l.length := by
    rcases Nat.lt_or_ge s l.length with h1 | h1
    · exact h1
    · rw [List.getElem?_eq_none h1] at h; cases h
  rw [List.getElem?_append_left hs]; exact h
theorem Two.send (h : Two N a b fa fb) (body : List Int) (hb : ∀ x ∈ body, 0 ≤ x ∧ x < 256) : Two (N + 1) (sendL a body).2 b fa fb := by
  have hI := h.ia.send body hb
  unfold sendL at hI ⊢
  split
  · exact h.mono (Nat.le_succ _)
  split
  · exact h.mono (Nat.le_succ _)
  · rename_i h1 h2
    rw [if_neg h1, if_neg h2] at hI
    have hle : b.all.length ≤ a.took.length := Nat.le_trans h.ab.le h.ia.s1
    refine ⟨hI, h.ib.mono (Nat.le_succ _), ⟨?_, h.ab.le, fun x l hx => ?_, h.ab.sure⟩, ⟨h.ba.all, h.ba.le, h.ba.hold, h.ba.sure⟩, fun f hf => ?_, h.gb⟩
    · show b.all = (a.took ++ [body]).take b.all.length
      rw [List.take_append_of_le_length hle]
      exact h.ab.all
    · obtain ⟨n, e, hn, ht⟩ := h.ab.hold x l hx
      exact ⟨n, e, hn, get_grow ht⟩
    · obtain ⟨d, s, k, l, e, hk, hd, hd'⟩ := h.ga f hf
      exact ⟨d, s, k, l, e, hk, fun e => ⟨(hd e).1, get_grow (hd e).2⟩, hd'⟩
theorem Two.ticks (h : Two N a b fa fb) : Two N (tickL a) b fa fb :=
  ⟨h.ia.ticks, h.ib, ⟨h.ab.all, h.ab.le, h.ab.hold, h.ab.sure⟩, ⟨h.ba.all, h.ba.le, h.ba.hold, h.ba.sure⟩, fun f hf => h.ga f hf, h.gb⟩
theorem mem_due {x : Nat} (h : Inv N a) (hx : x ∈ dueL a) : x < newSent a := by
  have hn := newSent_le h
  unfold dueL at hx
  rcases List.mem_append.1 hx with h1 | h1
  · split at h1
    · have := (List.mem_range'_1.1 h1); omega
    · cases h1
  · have := (List.mem_range'_1.1 h1); omega
theorem out_good (h : Inv N a) : ∀ f ∈ (outL a).1, Good (outL a).2 f := by
  intro f hf
  have hn := newSent_le h
  unfold outL at hf ⊢
  dsimp only at hf ⊢
  split at hf
  · rw [List.mem_singleton] at hf
    exact ⟨false, 0, a.all.length, [], hf, Nat.le_refl _, (fun e => nomatch e), fun _ => ⟨rfl, rfl⟩⟩
  · obtain ⟨s, hs, e⟩ := List.mem_map.1 hf
    have hlt := mem_due h hs
    refine ⟨true, s, a.all.length, a.took.getD s [], e.symm, Nat.le_refl _, fun _ => ⟨hlt, ?_⟩, (fun e => nomatch e)⟩
    show a.took[s]? = some _
    have hl : s < a.took.length := by omega
    rw [List.getD_eq_getElem?_getD, List.getElem?_eq_getElem hl, Option.getD_some]
theorem Good.out (h : Inv N a) {f : List Int} (hf : Good a f) : Good (outL a).2 f := by
  obtain ⟨d, s, k, l, e, hk, hd, hd'⟩ := hf
  have hn := newSent_le h
  exact ⟨d, s, k, l, e, hk, fun e => ⟨Nat.lt_of_lt_of_le (hd e).1 hn.1, (hd e).2⟩, hd'⟩
theorem Two.out (h : Two N a b fa fb) : Two N (outL a).2 b (fa ++ (outL a).1) fb := by
  have hn := newSent_le h.ia
  refine ⟨h.ia.out, h.ib, ⟨h.ab.all, Nat.le_trans h.ab.le hn.1, fun x l hx => ?_, h.ab.sure⟩, ⟨h.ba.all, h.ba.le, h.ba.hold, h.ba.sure⟩, fun f hf => ?_, h.gb⟩
  · obtain ⟨n, e, hlt, ht⟩ := h.ab.hold x l hx
    exact ⟨n, e, Nat.lt_of_lt_of_le hlt hn.1, ht⟩
  · rcases List.mem_append.1 hf with h1 | h1
    · exact (h.ga f h1).out h.ia
    · exact out_good h.ia f h1
theorem Two.next (h : Two N a b fa fb) : Two N (nextL a).2 b fa fb := by
  have hI := h.ia.next
  unfold nextL at hI ⊢
  split
  · rename_i hc
    rw [dif_pos hc] at hI
    exact ⟨hI, h.ib, ⟨h.ab.all, h.ab.le, h.ab.hold, h.ab.sure⟩, ⟨h.ba.all, h.ba.le, h.ba.hold, h.ba.sure⟩, fun f hf => h.ga f hf, h.gb⟩
  · exact h
/-- What a frame that came out of b says. -/
theorem Two.reads (h : Two N a b fa fb) (hN : N ≤ 1000000) {f : List Int} (hf : Good b f) : ∃ (d : Bool) (s k : Nat) (l : List Int), f = frameL d s k l ∧ decA f = ((d, (s : Int), (k : Int), l), 0) ∧ k ≤ b.all.length ∧ (d = true → s < b.sent ∧ b.took[s]? = some l) ∧ (d = false → s = 0 ∧ l = []) := by
  obtain ⟨d, s, k, l, rfl, hk, hd, hd'⟩ := hf
  have hk' : k ≤ 1000000 := by have := h.ab.le; have := h.ia.s1; have := h.ia.tk; omega
  have hs' : s ≤ 1000000 := by
    cases d with
    | true => have := (hd rfl).1; have := h.ib.s1; have := h.ib.tk; omega
    | false => have := (hd' rfl).1; omega
  have hl : okB l := by
    cases d with
    | true => exact h.ib.ht l (List.mem_of_getElem? (hd rfl).2)
    | false => rw [(hd' rfl).2]; exact ⟨by simp, fun x hx => by cases hx⟩
  refine ⟨d, s, k, l, rfl, Bk.dec_back d s k l ?_ (by omega) (by omega) hl.1 hl.2, hk, hd, hd'⟩
  have h1 : (Rt.within (s : Int)) = true := by unfold Rt.within; simp; omega
  have h2 : (Rt.within (k : Int)) = true := by unfold Rt.within; simp; omega
  have h3 : decide ((l.length : Int) ≤ 1048576) = true := by have := hl.1; simp; omega
  unfold Rt.rightB
  rw [h1, h2, h3]
  cases d with
  | true => rfl
  | false => rw [(hd' rfl).1, (hd' rfl).2]; rfl
theorem in_data {f l : List Int} {s k : Nat} (hd : decA f = ((true, (s : Int), (k : Int), l), 0)) (hk : k ≤ a.sent) :
    inL a f = (0, { a with sure := max a.sure k, owes := true, hold := (pull 17 (takeH a (s : Int) l) a.all).1, all := (pull 17 (takeH a (s : Int) l) a.all).2 }) := by
  unfold inL
  rw [hd]
  rw [if_neg (by dsimp only; omega), if_neg (by simp)]
  simp only [Int.toNat_natCast]
theorem in_ack {f l : List Int} {s k : Nat} (hd : decA f = ((false, (s : Int), (k : Int), l), 0)) (hk : k ≤ a.sent) :
    inL a f = (0, { a with sure := max a.sure k }) := by
  unfold inL
  rw [hd]
  rw [if_neg (by dsimp only; omega), if_pos rfl]
  simp only [Int.toNat_natCast]
/-- What is held and got of a list. -/
theorem pull_of (T : List (List Int)) (S : Nat) (hS : S ≤ T.length) : ∀ (k : Nat) (h : Int → Option (List Int)) (x : List (List Int)), x = T.take x.length → x.length ≤ S → (∀ z l, h z = some l → ∃ n : Nat, z = (n : Int) ∧ n < S ∧ T[n]? = some l) →
    (pull k h x).2 = T.take (pull k h x).2.length ∧ (pull k h x).2.length ≤ S ∧ x.length ≤ (pull k h x).2.length ∧ (∀ z l, (pull k h x).1 z = some l → ∃ n : Nat, z = (n : Int) ∧ n < S ∧ T[n]? = some l) ∧ (1 ≤ k → (h (x.length : Int)).isSome = true → x.length + 1 ≤ (pull k h x).2.length) := by
  intro k
  induction k with
  | zero => exact fun h x hx hl hh => ⟨hx, hl, Nat.le_refl _, hh, fun h => by omega⟩
  | succ k ih =>
    intro h x hx hl hh
    unfold pull
    split
    · rename_i he
      exact ⟨hx, hl, Nat.le_refl _, hh, fun _ e => by rw [he] at e; cases e⟩
    · rename_i l he
      obtain ⟨n, e, hn, ht⟩ := hh _ _ he
      have e' : n = x.length := by omega
      subst e'
      have hlen : (x ++ [l]).length = x.length + 1 := by simp
      have hx' : x ++ [l] = T.take (x ++ [l]).length := by
        rw [hlen, List.take_add_one, ← hx, ht]; rfl
      obtain ⟨r1, r2, r3, r4, r5⟩ := ih (setH h (x.length : Int) none) (x ++ [l]) hx' (by rw [hlen]; omega) (fun z l' hz => by
        unfold setH at hz
        split at hz
        · cases hz
        · exact hh z l' hz)
      rw [hlen] at r3
      exact ⟨r1, r2, by omega, r4, fun _ _ => r3⟩
theorem Two.in_ (h : Two N a b fa fb) (hN : N ≤ 1000000) {f : List Int} (hf : f ∈ fb) : Two (N + 1) (inL a f).2 b fa fb ∧ (inL a f).1 = 0 ∧ (inL a f).2.sent = a.sent ∧ (inL a f).2.took = a.took ∧ (inL a f).2.window = a.window ∧ (inL a f).2.tick = a.tick ∧ (inL a f).2.told = a.told ∧ a.sure ≤ (inL a f).2.sure ∧ a.all.length ≤ (inL a f).2.all.length ∧ (a.owes = true → (inL a f).2.owes = true) ∧
    ∀ (d : Bool) (s k : Nat) (l : List Int), decA f = ((d, (s : Int), (k : Int), l), 0) → (inL a f).2.sure = max a.sure k ∧ (d = true → (inL a f).2.owes = true ∧ (s ≤ a.all.length → s + 1 ≤ (inL a f).2.all.length)) := by
  obtain ⟨d, s, k, l, hfe, hdec, hk, hd, hd'⟩ := h.reads hN (h.gb f hf)
  have hks : k ≤ a.sent := Nat.le_trans hk h.ab.le
  have hfb : ∀ x ∈ f, 0 ≤ x ∧ x < 256 := by
    rw [hfe]
    have hk' : k ≤ 1000000 := by have := h.ia.s1; have := h.ia.tk; omega
    have hs' : s ≤ 1000000 := by
      cases d with
      | true => have := (hd rfl).1; have := h.ib.s1; have := h.ib.tk; omega
      | false => have := (hd' rfl).1; omega
    have hl : okB l := by
      cases d with
      | true => exact h.ib.ht l (List.mem_of_getElem? (hd rfl).2)
      | false => rw [(hd' rfl).2]; exact ⟨by simp, fun x hx => by cases hx⟩
    intro x hx
    unfold frameL at hx
    rcases List.mem_append.1 hx with h1 | h1
    · exact head_bytes d s k l (by omega) (by omega) hl.1 hl.2 x h1
    · unfold be4 at h1
      simp only [List.mem_cons, List.not_mem_nil, or_false] at h1
      rcases h1 with h1 | h1 | h1 | h1 <;> rw [h1] <;> constructor <;> omega
  have hI := h.ia.in_ f hfb
  have hone : ∀ (d' : Bool) (s' k' : Nat) (l' : List Int), decA f = ((d', (s' : Int), (k' : Int), l'), 0) → d' = d ∧ s' = s ∧ k' = k ∧ l' = l := by
    intro d' s' k' l' e
    rw [hdec] at e
    simp only [Prod.mk.injEq, Int.natCast_inj] at e
    exact ⟨e.1.1.symm, e.1.2.1.symm, e.1.2.2.1.symm, e.1.2.2.2.symm⟩
  cases d with
  | false =>
    rw [in_ack hdec hks] at hI ⊢
    refine ⟨⟨hI, h.ib.mono (Nat.le_succ _), ⟨h.ab.all, h.ab.le, h.ab.hold, ?_⟩, ⟨h.ba.all, h.ba.le, h.ba.hold, h.ba.sure⟩, h.ga, h.gb⟩, rfl, rfl, rfl, rfl, rfl, rfl, Nat.le_max_left _ _, Nat.le_refl _, fun e => e, fun d' s' k' l' e => ?_⟩
    · exact Nat.max_le.2 ⟨h.ab.sure, hk⟩
    · obtain ⟨rfl, rfl, rfl, rfl⟩ := hone d' s' k' l' e
      exact ⟨rfl, (fun e => nomatch e)⟩
  | true =>
    rw [in_data hdec hks] at hI ⊢
    have hh : ∀ z m, takeH a (s : Int) l z = some m → ∃ n : Nat, z = (n : Int) ∧ n < b.sent ∧ b.took[n]? = some m := by
      intro z m hz
      unfold takeH at hz
      split at hz
      · unfold setH at hz
        split at hz
        · rename_i e; cases hz; exact ⟨s, e, hd rfl⟩
        · exact h.ba.hold z m hz
      · exact h.ba.hold z m hz
    obtain ⟨r1, r2, r3, r4, r5⟩ := pull_of b.took b.sent h.ib.s1 17 _ a.all h.ba.all h.ba.le hh
    refine ⟨⟨hI, h.ib.mono (Nat.le_succ _), ⟨h.ab.all, h.ab.le, h.ab.hold, Nat.max_le.2 ⟨h.ab.sure, hk⟩⟩, ⟨r1, r2, r4, Nat.le_trans h.ba.sure r3⟩, ?_, h.gb⟩, rfl, rfl, rfl, rfl, rfl, rfl, Nat.le_max_left _ _, r3, fun _ => rfl, fun d' s' k' l' e => ?_⟩
    · intro g hg
      obtain ⟨d1, s1, k1, l1, e1, hk1, hd1, hd1'⟩ := h.ga g hg
      exact ⟨d1, s1, k1, l1, e1, Nat.le_trans hk1 r3, hd1, hd1'⟩
    · obtain ⟨rfl, rfl, rfl, rfl⟩ := hone d' s' k' l' e
      refine ⟨rfl, fun _ => ⟨rfl, fun hs => ?_⟩⟩
      show s' + 1 ≤ (pull 17 _ _).2.length
      rcases Nat.lt_or_ge s' a.all.length with h1 | h1
      · omega
      · have e1 : s' = a.all.length := by omega
        subst e1
        refine r5 (by decide) ?_
        unfold takeH
        by_cases hc : (a.hold ((a.all.length : Nat) : Int)).isSome = false
        · rw [if_pos ⟨hc, Int.le_refl _, by omega⟩]
          unfold setH
          rw [if_pos rfl]; rfl
        · rw [if_neg (fun e => hc e.1)]
          cases he : (a.hold ((a.all.length : Nat) : Int)).isSome with
          | true => rfl
          | false => exact absurd he hc
end Go.Proofs.Ytekakngojhnleaa.Pr
/- Links: what comes when all frames come: a round of both ends, and as many as it takes. -/
namespace Go.Proofs.Ytekakngojhnleaa.Pq
open Go.RowKit Go.Proofs.Ytekakngojhnleaa.Lp Go.Proofs.Ytekakngojhnleaa.Pr Go.Proofs.Ytekakngojhnleaa.En Go.Proofs.Ytekakngojhnleaa.Dw Go.Proofs.YtekakngojhnleaaW.PrintWords Go.Proofs.YtekakngojhnleaaW.PrintLast Go.Proofs.YtekakngojhnleaaW.PrintMore
set_option linter.unusedVariables false
set_option linter.unusedSimpArgs false
variable {N : Nat} {a b : Lk} {fa fb : List (List Int)}

/-- What an end is behind frames that came. -/
def dels (b : Lk) (fs : List (List Int)) : Lk := fs.foldl (fun σ f => (inL σ f).2) b
theorem dels_cons (b : Lk) (f : List Int) (fs : List (List Int)) : dels b (f :: fs) = dels (inL b f).2 fs := rfl
/-- What frames that came do not turn, and what only grows. -/
structure Kp (b c : Lk) : Prop where
  sent : c.sent = b.sent
  took : c.took = b.took
  window : c.window = b.window
  tick : c.tick = b.tick
  told : c.told = b.told
  sure : b.sure ≤ c.sure
  all : b.all.length ≤ c.all.length
  owes : b.owes = true → c.owes = true
theorem Kp.refl (b : Lk) : Kp b b := ⟨rfl, rfl, rfl, rfl, rfl, Nat.le_refl _, Nat.le_refl _, fun h => h⟩
theorem Kp.trans {b c d : Lk} (h : Kp b c) (k : Kp c d) : Kp b d := ⟨k.sent.trans h.sent, k.took.trans h.took, k.window.trans h.window, k.tick.trans h.tick, k.told.trans h.told, Nat.le_trans h.sure k.sure, Nat.le_trans h.all k.all, fun e => k.owes (h.owes e)⟩
theorem right_of (d : Bool) (s k : Nat) (l : List Int) (hs : s ≤ 1000000) (hk : k ≤ 1000000) (hl : l.length ≤ 1048576) (hd : d = false → s = 0 ∧ l = []) : Rt.rightB d (s : Int) (k : Int) l.length = true := by
  have h1 : (Rt.within (s : Int)) = true := by unfold Rt.within; simp; omega
  have h2 : (Rt.within (k : Int)) = true := by unfold Rt.within; simp; omega
  have h3 : decide ((l.length : Int) ≤ 1048576) = true := by simp; omega
  unfold Rt.rightB
  rw [h1, h2, h3]
  cases d with
  | true => rfl
  | false => rw [(hd rfl).1, (hd rfl).2]; rfl
theorem dec_data (h : Inv N a) (hN : N ≤ 1000000) (hk : a.all.length ≤ 1000000) {s : Nat} (hs : s < a.took.length) : decA (fData a s) = ((true, (s : Int), (a.all.length : Int), a.took.getD s []), 0) := by
  have h1 := h.tk
  have hm : a.took.getD s [] ∈ a.took := by rw [List.getD_eq_getElem?_getD, List.getElem?_eq_getElem hs, Option.getD_some]; exact List.getElem_mem _
  have hl := h.ht _ hm
  exact Bk.dec_back true s a.all.length _ (right_of _ _ _ _ (by omega) hk hl.1 (fun e => by cases e)) (by omega) (by omega) hl.1 hl.2
theorem dec_ack (hk : a.all.length ≤ 1000000) : decA (fAck a) = ((false, ((0 : Nat) : Int), (a.all.length : Int), []), 0) :=
  Bk.dec_back false 0 a.all.length [] (right_of _ _ _ _ (by omega) hk (by simp) (fun _ => ⟨rfl, rfl⟩)) (by omega) (by omega) (by simp) (fun x hx => by cases hx)
theorem Two.all_le (h : Two N a b fa fb) : a.all.length ≤ N ∧ b.all.length ≤ N := by
  have := h.ab.le; have := h.ba.le; have := h.ia.s1; have := h.ib.s1; have := h.ia.tk; have := h.ib.tk
  omega
theorem in_kp (h : Two N a b fa fb) (hN : N ≤ 1000000) {f : List Int} (hf : f ∈ fa) : Two (N + 1) a (inL b f).2 fa fb ∧ Kp b (inL b f).2 ∧
    ∀ (d : Bool) (s k : Nat) (l : List Int), decA f = ((d, (s : Int), (k : Int), l), 0) → (inL b f).2.sure = max b.sure k ∧ (d = true → (inL b f).2.owes = true ∧ (s ≤ b.all.length → s + 1 ≤ (inL b f).2.all.length)) := by
  obtain ⟨r0, _, r1, r2, r3, r4, r5, r6, r7, r8, r9⟩ := h.swap.in_ hN hf
  exact ⟨r0.swap, ⟨r1, r2, r3, r4, r5, r6, r7, r8⟩, r9⟩
/-- Any frames that came out. -/
theorem dels_two : ∀ (fs : List (List Int)) (b : Lk) (N : Nat), Two N a b fa fb → N + fs.length ≤ 1000000 → (∀ f ∈ fs, f ∈ fa) → Two (N + fs.length) a (dels b fs) fa fb ∧ Kp b (dels b fs) := by
  intro fs
  induction fs with
  | nil => exact fun b N h _ _ => ⟨h, Kp.refl b⟩
  | cons f fs ih =>
    intro b N h hN hf
    rw [List.length_cons] at hN
    obtain ⟨h1, k1, _⟩ := in_kp h (by omega) (hf f (by simp))
    obtain ⟨h2, k2⟩ := ih _ _ h1 (by omega) (fun g hg => hf g (by simp [hg]))
    rw [dels_cons, List.length_cons]
    exact ⟨h2.mono (by omega), k1.trans k2⟩
/-- Messages that come in a row. -/
theorem dels_range : ∀ (n s : Nat) (b : Lk) (N : Nat), Two N a b fa fb → N + n ≤ 1000000 → s ≤ b.all.length → s + n ≤ a.took.length → (∀ i, s ≤ i → i < s + n → fData a i ∈ fa) →
    s + n ≤ (dels b ((List.range' s n).map (fData a))).all.length ∧ (0 < n → (dels b ((List.range' s n).map (fData a))).sure = a.all.length ∧ (dels b ((List.range' s n).map (fData a))).owes = true) := by
  intro n
  induction n with
  | zero => exact fun s b N h _ hs _ _ => ⟨hs, fun e => by omega⟩
  | succ n ih =>
    intro s b N h hN hs hle hf
    obtain ⟨h1, k1, hd⟩ := in_kp h (by omega) (hf s (Nat.le_refl _) (by omega))
    have ha := Two.all_le h
    obtain ⟨e1, e2⟩ := hd _ _ _ _ (dec_data h.ia (by omega) (by omega) (by omega))
    obtain ⟨e3, e4⟩ := e2 rfl
    have e5 := e4 hs
    have hsu : (inL b (fData a s)).2.sure = a.all.length := by rw [e1]; exact Nat.max_eq_right h.ba.sure
    rw [List.range'_succ, List.map_cons, dels_cons]
    obtain ⟨r1, r2⟩ := ih (s + 1) _ _ h1 (by omega) e5 (by omega) (fun i hi hj => hf i (by omega) (by omega))
    refine ⟨by omega, fun _ => ?_⟩
    rcases Nat.eq_zero_or_pos n with rfl | hn
    · exact ⟨hsu, e3⟩
    · exact r2 hn
theorem due_tick (h : Inv N a) (ht : a.tick = true) : dueL a = List.range' a.sure (newSent a - a.sure) := by
  have h0 := h.s0
  have hn := newSent_le h
  unfold dueL
  rw [if_pos ht]
  have e1 : List.range' a.sent (newSent a - a.sent) = List.range' (a.sure + 1 * (a.sent - a.sure)) (newSent a - a.sent) := by congr 1; omega
  rw [e1, List.range'_append]
  congr 1
  omega
theorem fData_out (s : Nat) : fData (outL a).2 s = fData a s := rfl
/-- What comes out of an end that ticked, and all of it comes. -/
theorem flush_to (h : Two N a b fa fb) (hN : N + 17 ≤ 1000000) (ht : a.tick = true) :
    Two (N + 17) (outL a).2 (dels b (outL a).1) (fa ++ (outL a).1) fb ∧ Kp b (dels b (outL a).1) ∧ (dels b (outL a).1).all.length = newSent a ∧
      (a.sure < newSent a → (dels b (outL a).1).owes = true) ∧ ((a.sure < newSent a ∨ a.owes = true) → (dels b (outL a).1).sure = a.all.length) := by
  have hn := newSent_le h.ia
  have h0 := h.ia.s0
  have hw := h.ia.w1
  have ht2 := Two.out h
  have hdue := due_tick h.ia ht
  have hsub : ∀ f ∈ (outL a).1, f ∈ fa ++ (outL a).1 := fun f hf => List.mem_append.2 (.inr hf)
  have hle : (dels b (outL a).1).all.length ≤ newSent a → newSent a ≤ (dels b (outL a).1).all.length → (dels b (outL a).1).all.length = newSent a := fun a b => Nat.le_antisymm a b
  have hup : ∀ M, Two M (outL a).2 (dels b (outL a).1) (fa ++ (outL a).1) fb → (dels b (outL a).1).all.length ≤ newSent a := fun M h => h.ab.le
  by_cases hd : a.sure < newSent a
  · have hfs : (outL a).1 = (List.range' a.sure (newSent a - a.sure)).map (fData (outL a).2) := by
      unfold outL
      dsimp only
      rw [if_neg (by rw [hdue, List.length_range']; omega), hdue]
      rfl
    have hlen : (outL a).1.length = newSent a - a.sure := by rw [hfs, List.length_map, List.length_range']
    obtain ⟨r1, r2⟩ := dels_two (outL a).1 b N ht2 (by omega) hsub
    obtain ⟨r3, r4⟩ := dels_range (a := (outL a).2) (newSent a - a.sure) a.sure b N ht2 (by omega) h.ab.sure (by show _ ≤ a.took.length; omega) (fun i hi hj => by
      refine hsub _ ?_
      rw [hfs]
      exact List.mem_map.2 ⟨i, List.mem_range'_1.2 ⟨hi, hj⟩, rfl⟩)
    rw [← hfs] at r3 r4
    obtain ⟨r5, r6⟩ := r4 (by omega)
    exact ⟨r1.mono (by omega), r2, hle (hup _ r1) (by omega), fun _ => r6, fun _ => r5⟩
  · have hnil : dueL a = [] := by rw [hdue, show newSent a - a.sure = 0 by omega]; rfl
    have hb := h.ab.sure
    by_cases ho : a.owes = true
    · have hfs : (outL a).1 = [fAck a] := by
        unfold outL
        dsimp only
        rw [if_pos ⟨by rw [hnil]; rfl, ho⟩]
      obtain ⟨r1, r2⟩ := dels_two (outL a).1 b N ht2 (by rw [hfs]; simp; omega) hsub
      have ha := Two.all_le h
      obtain ⟨_, _, hdd⟩ := in_kp ht2 (by omega) (hsub (fAck a) (by rw [hfs]; simp))
      obtain ⟨e1, _⟩ := hdd _ _ _ _ (dec_ack (by omega))
      have e2 : (dels b (outL a).1) = (inL b (fAck a)).2 := by rw [hfs]; rfl
      have hal := r2.all
      have hu := hup _ r1
      refine ⟨r1.mono (by rw [hfs]; simp), r2, hle hu (by omega), fun e => absurd e hd, fun _ => ?_⟩
      rw [e2, e1]
      exact Nat.max_eq_right h.ba.sure
    · have hfs : (outL a).1 = [] := by
        unfold outL
        dsimp only
        rw [if_neg (fun e => ho e.2), hnil]
        rfl
      obtain ⟨r1, r2⟩ := dels_two (outL a).1 b N ht2 (by rw [hfs]; simp; omega) hsub
      have hal := r2.all
      have hu := hup _ r1
      exact ⟨r1.mono (by rw [hfs]; simp), r2, hle hu (by omega), fun e => absurd e hd, fun e => (e.elim (fun e => absurd e hd) (fun e => absurd e ho))⟩
/-- A round: both tick; what comes out of one comes to the other, and back. -/
def rnd (a b : Lk) : Lk × Lk :=
  (dels (outL (tickL a)).2 (outL (dels (tickL b) (outL (tickL a)).1)).1, (outL (dels (tickL b) (outL (tickL a)).1)).2)
theorem newSent_ge (h : Inv N a) : min (a.sure + 1) a.took.length ≤ newSent a := by
  have := h.w0
  unfold newSent
  omega
theorem rnd_two (h : Two N a b fa fb) (hN : N + 40 ≤ 1000000) : Two (N + 34) (rnd a b).1 (rnd a b).2 (fa ++ (outL (tickL a)).1) (fb ++ (outL (dels (tickL b) (outL (tickL a)).1)).1) ∧ (rnd a b).1.took = a.took ∧ (rnd a b).2.took = b.took ∧
    newSent a ≤ (rnd a b).1.sure ∧ (rnd a b).1.all.length = (rnd a b).2.sent ∧ b.sure ≤ (rnd a b).2.sure ∧ min ((rnd a b).2.sure + 1) b.took.length ≤ (rnd a b).2.sent ∧ (a.owes = true → (rnd a b).2.sure = a.all.length) ∧ ((rnd a b).2.sure < (rnd a b).2.sent → (rnd a b).1.owes = true) := by
  have h1 : Two N (tickL a) (tickL b) fa fb := ((h.ticks).swap.ticks).swap
  obtain ⟨t1, k1, l1, o1, s1⟩ := flush_to h1 (by omega) rfl
  obtain ⟨t2, k2, l2, o2, s2⟩ := flush_to t1.swap (by omega) (by rw [k1.tick]; rfl)
  have hge := newSent_ge t1.ib
  refine ⟨t2.swap, k2.took, k1.took, ?_, l2, k1.sure, ?_, fun e => s1 (.inr e), fun e => o2 e⟩
  · show newSent a ≤ (dels _ _).sure
    have hc : newSent (tickL a) = newSent a := rfl
    rw [hc] at l1 o1 s1
    rcases Nat.lt_or_ge a.sure (newSent a) with hd | hd
    · rw [s2 (.inr (o1 hd)), l1]
      exact Nat.le_refl _
    · exact Nat.le_trans hd k2.sure
  · have e : (dels (tickL b) (outL (tickL a)).1).took = b.took := k1.took
    rw [e] at hge
    exact hge
/-- Behind r rounds. -/
structure After (r A0 B0 : Nat) (TA TB : List (List Int)) (a b : Lk) : Prop where
  ta : a.took = TA
  tb : b.took = TB
  sa : min (A0 + r) TA.length ≤ a.sure
  sb : 1 ≤ r → min (B0 + (r - 1)) TB.length ≤ b.sure
  nb : 1 ≤ r → min (B0 + r) TB.length ≤ b.sent
  al : 1 ≤ r → a.all.length = b.sent ∧ (b.sure < b.sent → a.owes = true)
  b0 : B0 ≤ b.sure
theorem After.start (a b : Lk) : After 0 a.sure b.sure a.took b.took a b := ⟨rfl, rfl, by omega, fun h => by omega, fun h => by omega, fun h => by omega, Nat.le_refl _⟩
theorem After.next {r A0 B0 : Nat} {TA TB : List (List Int)} (k : After r A0 B0 TA TB a b) (h : Two N a b fa fb) (hN : N + 40 ≤ 1000000) : After (r + 1) A0 B0 TA TB (rnd a b).1 (rnd a b).2 := by
  obtain ⟨_, t1, t2, hs, hal, hbs, hbn, how, hno⟩ := rnd_two h hN
  have hge := newSent_ge h.ia
  rw [k.ta] at hge
  rw [k.tb] at hbn
  have k1 := k.sa
  have k2 := k.b0
  have hsb : 1 ≤ r → b.sent ≤ (rnd a b).2.sure := fun hr => by
    obtain ⟨e1, e2⟩ := k.al hr
    rcases Nat.lt_or_ge b.sure b.sent with hd | hd
    · rw [how (e2 hd), e1]; exact Nat.le_refl _
    · omega
  refine ⟨t1.trans k.ta, t2.trans k.tb, by omega, fun _ => ?_, fun _ => ?_, fun _ => ⟨hal, hno⟩, by omega⟩
  · rcases Nat.eq_zero_or_pos r with rfl | hr
    · omega
    · have := hsb hr; have := k.nb hr; omega
  · rcases Nat.eq_zero_or_pos r with rfl | hr
    · omega
    · have := hsb hr; have := k.nb hr; omega
theorem After.done {r A0 B0 : Nat} {TA TB : List (List Int)} (k : After r A0 B0 TA TB a b) (h : Two N a b fa fb) (ha : TA.length + 1 ≤ A0 + r) (hb : TB.length + 1 ≤ B0 + r) (hr : 1 ≤ r) :
    a.sure = a.took.length ∧ b.sure = b.took.length ∧ a.all.length = b.took.length ∧ b.all.length = a.took.length := by
  have e1 := k.sa; have e2 := k.sb hr; have e3 := (k.al hr).1
  have e4 := h.ia.s0; have e5 := h.ia.s1; have e6 := h.ib.s0; have e7 := h.ib.s1; have e8 := h.ab.sure; have e9 := h.ab.le
  rw [k.ta] at e5 ⊢
  rw [k.tb] at e7 ⊢
  omega
end Go.Proofs.Ytekakngojhnleaa.Pq
