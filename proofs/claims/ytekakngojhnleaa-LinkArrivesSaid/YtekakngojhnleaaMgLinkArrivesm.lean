/- Parts of the proof of LinkArrives, merged: each is proved for all its inputs. -/
import Derived.Test.YtekakngojhnleaaMgLinkArrivesl
/- Links: the laws' World: begins is true. -/
namespace Go.Proofs.Ytekakngojhnleaa.Wi
open Go.RowKit Go.Maps Go.Proofs.Ytekakngojhnleaa.Mp Go.Proofs.Ytekakngojhnleaa.Mq Go.Proofs.Ytekakngojhnleaa.Lp Go.Proofs.Ytekakngojhnleaa.Lm Go.Proofs.Ytekakngojhnleaa.La Go.Proofs.Ytekakngojhnleaa.Lb Go.Proofs.Ytekakngojhnleaa.Lc Go.Proofs.Ytekakngojhnleaa.Ld Go.Proofs.Ytekakngojhnleaa.Le Go.Proofs.Ytekakngojhnleaa.Ow Go.Proofs.Ytekakngojhnleaa.Wd Go.Proofs.Ytekakngojhnleaa.We Go.Proofs.Ytekakngojhnleaa.Wf Go.Proofs.Ytekakngojhnleaa.Wg Go.Proofs.Ytekakngojhnleaa.Wh Go.Proofs.Ytekakngojhnleaa.Pr Go.Proofs.YtekakngojhnleaaW.PrintWords Go.Proofs.YtekakngojhnleaaW.PrintLast Go.Proofs.YtekakngojhnleaaW.PrintMore
set_option linter.unusedVariables false
set_option linter.unusedSimpArgs false
variable {w w' : World} {B N g : Nat}

/-- What the laws' World holds of the two ends. -/
structure Rel (M : Nat) (σ : Nat → Lk) (ls : Nat → List (List Int)) : Prop where
 two : Two M (σ 0) (σ 1) (ls 6) (ls 7)
 t0 : ls 2 = (σ 0).took
 t1 : ls 3 = (σ 1).took
 d0 : ls 4 = (σ 0).all.take (σ 0).told
 d1 : ls 5 = (σ 1).all.take (σ 1).told
section
variable {M : Nat} {σ : Nat → Lk} {ls : Nat → List (List Int)}
theorem Two.tell {a b : Lk} {fa fb : List (List Int)} (h : Two M a b fa fb) {t : Nat} (ht : t ≤ a.all.length) : Two M { a with told := t } b fa fb :=
 ⟨⟨h.ia.w0, h.ia.w1, h.ia.s0, h.ia.s1, h.ia.s2, h.ia.s3, h.ia.tk, ht, h.ia.al, h.ia.ht, h.ia.ha, h.ia.hh⟩, h.ib, ⟨h.ab.all, h.ab.le, h.ab.hold, h.ab.sure⟩, ⟨h.ba.all, h.ba.le, h.ba.hold, h.ba.sure⟩, fun f hf => h.ga f hf, h.gb⟩
def told (σ : Nat → Lk) (k : Nat) : Nat → Lk := Wd.upd σ k { σ k with told := max (σ k).told (σ k).all.length }
def toldL (σ : Nat → Lk) (ls : Nat → List (List Int)) (k j : Nat) : Nat → List (List Int) := Wd.upd ls j (ls j ++ (σ k).all.drop (σ k).told)
theorem Rel.tell0 (h : Rel M σ ls) : Rel M (told σ 0) (toldL σ ls 0 4) ∧ toldL σ ls 0 4 4 = (σ 0).all := by
 have hm : max (σ 0).told (σ 0).all.length = (σ 0).all.length := Nat.max_eq_right h.two.ia.tl
 have hl : toldL σ ls 0 4 4 = (σ 0).all := by unfold toldL; rw [Wd.upd_same, h.d0, List.take_append_drop]
 refine ⟨⟨?_, h.t0, h.t1, ?_, h.d1⟩, hl⟩
 ·
  exact Two.tell h.two (by rw [hm]; exact Nat.le_refl _)
 ·
  rw [hl]
  show _ = (σ 0).all.take (max (σ 0).told (σ 0).all.length)
  rw [hm, List.take_length]
theorem Rel.tell1 (h : Rel M σ ls) : Rel M (told σ 1) (toldL σ ls 1 5) ∧ toldL σ ls 1 5 5 = (σ 1).all := by
 have hm : max (σ 1).told (σ 1).all.length = (σ 1).all.length := Nat.max_eq_right h.two.ib.tl
 have hl : toldL σ ls 1 5 5 = (σ 1).all := by unfold toldL; rw [Wd.upd_same, h.d1, List.take_append_drop]
 refine ⟨⟨?_, h.t0, h.t1, h.d0, ?_⟩, hl⟩
 ·
  exact (Two.tell h.two.swap (by rw [hm]; exact Nat.le_refl _)).swap
 ·
  rw [hl]
  show _ = (σ 1).all.take (max (σ 1).told (σ 1).all.length)
  rw [hm, List.take_length]
/-- The World while begins goes through the ends. -/
def atB (σ : Nat → Lk) (ls : Nat → List (List Int)) : Nat → (Nat → Lk) × (Nat → List (List Int))
 | 0 => (σ, ls)
 | 1 => (told σ 0, toldL σ ls 0 4)
 | _ => (told (told σ 0) 1, toldL (told σ 0) (toldL σ ls 0 4) 1 5)
/-- What is asked of one end. -/
structure Fine (M : Nat) (a : Lk) (la lb : List (List Int)) (sb : Nat) (ab : List (List Int)) : Prop where
 isAll : la = a.all
 le : la.length ≤ lb.length
 eq : la = lb.take la.length
 su : sb ≤ la.length
 bo : la.length ≤ M
 bl : bytesL la
 bb : bytesL lb
theorem Rel.fine0 (h : Rel M σ ls) : Fine M (σ 0) (toldL σ ls 0 4 4) (ls 3) (σ 1).sure (σ 1).took := by
 have hl := h.tell0.2
 have t := h.two
 refine ⟨hl, ?_, ?_, ?_, ?_, ?_, ?_⟩
 ·
  rw [hl, h.t1]; exact Nat.le_trans t.ba.le t.ib.s1
 ·
  rw [hl, h.t1]; exact t.ba.all
 ·
  rw [hl]; exact t.ba.sure
 ·
  rw [hl]; exact Nat.le_trans t.ba.le (Nat.le_trans t.ib.s1 t.ib.tk)
 ·
  rw [hl]; exact fun l h => (t.ia.ha l h).2
 ·
  rw [h.t1]; exact fun l h => (t.ib.ht l h).2
theorem Rel.fine1 (h : Rel M σ ls) : Fine M (σ 1) (toldL σ ls 1 5 5) (ls 2) (σ 0).sure (σ 0).took := by
 have hl := h.tell1.2
 have t := h.two
 refine ⟨hl, ?_, ?_, ?_, ?_, ?_, ?_⟩
 ·
  rw [hl, h.t0]; exact Nat.le_trans t.ab.le t.ia.s1
 ·
  rw [hl, h.t0]; exact t.ab.all
 ·
  rw [hl]; exact t.ab.sure
 ·
  rw [hl]; exact Nat.le_trans t.ab.le (Nat.le_trans t.ia.s1 t.ia.tk)
 ·
  rw [hl]; exact fun l h => (t.ib.ha l h).2
 ·
  rw [h.t0]; exact fun l h => (t.ia.ht l h).2
theorem Rel.alls (h : Rel M σ ls) : (σ 0).all.length ≤ M ∧ (σ 1).all.length ≤ M := by
 have t := h.two
 have := t.ab.le; have := t.ba.le; have := t.ia.s1; have := t.ib.s1; have := t.ia.tk; have := t.ib.tk
 omega
theorem Rel.len0 (h : Rel M σ ls) (hM : M ≤ 1900) : (σ 0).all.length ≤ (σ 0).told + 1900 := by have := h.alls; omega
theorem Rel.len1 (h : Rel M σ ls) (hM : M ≤ 1900) : (σ 1).all.length ≤ (σ 1).told + 1900 := by have := h.alls; omega
theorem Rel.llen0 (h : Rel M σ ls) (hM : M ≤ 1900) : (ls 4).length ≤ 100000 := by rw [h.d0, List.length_take]; have := h.alls; omega
theorem Rel.llen1 (h : Rel M σ ls) (hM : M ≤ 1900) : (ls 5).length ≤ 100000 := by rw [h.d1, List.length_take]; have := h.alls; omega
theorem bods_take {hs : List Hd} {l : List (List Int)} (h : Bods w B hs l) (n : Nat) : Bods w B (hs.take n) (l.take n) := by
 refine ⟨by rw [List.length_take, List.length_take, h.1], fun i x m h1 h2 => ?_⟩
 rw [List.getElem?_take] at h1 h2
 split at h1
 ·
  rename_i hc
  rw [if_pos hc] at h2
  exact h.2 i x m h1 h2
 ·
  cases h1
theorem bytes_take {l : List (List Int)} (h : bytesL l) (n : Nat) : bytesL (l.take n) := fun x hx => h x (List.mem_of_mem_take hx)
end
set_option maxRecDepth 100000 in
set_option maxHeartbeats 4000000 in
theorem begins_true {M : Nat} {σ : Nat → Lk} {ls : Nat → List (List Int)} (W : WQ w B N g σ ls) (hR : Rel M σ ls) (hM : M ≤ 1900) :
  Calls Try.prog 42 #[.pointer (some ⟨g, 0, none⟩)] w fun e w' => e = .returned (.bool true) ∧ WQ w' B N g (told (told σ 0) 1) (toldL (told σ 0) (toldL σ ls 0 4) 1 5) ∧ Below B w w' := by
 have HW0 := Aside0.mk W
 have HR := Aside0.mk hR
 have HM := Aside0.mk hM
 clear W hR hM
 go_enter Try.func42, Try.ntmps42
 go_wp2_with fail
 go_loopw [3, 4, 5, 6] (fun v3 v4 v5 v6 wr => ∃ (i : Nat) (a b c : Value), v3 = .int .i64 (i : Int) ∧ v4 = a ∧ v5 = b ∧ v6 = c ∧ i ≤ 2 ∧ Aside0 (WQ wr B N g (atB σ ls i).1 (atB σ ls i).2) ∧ Aside0 (Below B w wr)) (fun v3 _ _ _ _ => 2 - (intOf v3).toNat)
 case atStart => exact ⟨0, _, _, _, rfl, rfl, rfl, rfl, by omega, HW0, ⟨Below.refl _ _⟩⟩
 case round =>
  obtain ⟨i, a, b, c, rfl, rfl, rfl, rfl, hi, HW, HB⟩ := hrel
  clear HW0
  match i, hi with
  | 0, _ =>
   go_wp2_with fail
   refine (tell0 (σ := (atB σ ls 0).1) (ls := (atB σ ls 0).2) HW.out ?hn ?hls).mono ?_
   case hn => exact (HR.out).len0 HM.out
   case hls => exact (HR.out).llen0 HM.out
   rintro e w1 ⟨rfl, hw1, hb1⟩
   have hf : Fine M ((atB σ ls 0).1 0) ((atB σ ls (0 + 1)).2 4) ((atB σ ls (0 + 1)).2 3) ((atB σ ls (0 + 1)).1 1).sure _ := (HR.out).fine0
   have HB1 := Aside0.mk (HB.out.trans hb1)
   have HW1 := Aside0.mk (show WQ w1 B N g (atB σ ls (0 + 1)).1 (atB σ ls (0 + 1)).2 from hw1)
   have hga : ((atB σ ls (0 + 1)).1 0).all = ((atB σ ls 0).1 0).all := rfl
   obtain ⟨X, hX⟩ : ∃ X, X = atB σ ls (0 + 1) := ⟨_, rfl⟩
   rw [← hX] at HW1 hf hga
   have HX := Aside0.mk hX
   clear hw1 hX
   obtain ⟨p, S, v, h, hw⟩ := HW1.out
   obtain ⟨A4, c4, hv4⟩ := Kd.R_slice (hw.q 4 (by decide) (by decide))
   obtain ⟨A3, c3, hv3⟩ := Kd.R_slice (hw.q 3 (by decide) (by decide))
   have hl4 := (hw.b 4 (by decide) (by decide)).1
   have hl3 := (hw.b 3 (by decide) (by decide)).1
   have q4 : kH.R 30 w1 B (fun k => some k = (v 4).ownBlock) (.slice A4 (h 4).length c4) (h 4) := by have e := hw.q 4 (by decide) (by decide); rw [hv4] at e ⊢; exact e
   --  4 (by decide) (by decide)
   have q3 : kH.R 30 w1 B (fun k => some k = (v 3).ownBlock) (.slice A3 (h 3).length c3) (h 3) := by have e := hw.q 3 (by decide) (by decide); rw [hv3] at e ⊢; exact e
   --  3 (by decide) (by decide)
   obtain ⟨_, e4, r4⟩ := Kd.R_reads' q4
   obtain ⟨_, e3, r3⟩ := Kd.R_reads' q3
   have b4 := hw.b 4 (by decide) (by decide)
   have b3 := hw.b 3 (by decide) (by decide)
   have hsm := same_calls (c0 := c4) (c1 := c3) r4 (Kd.C_take r3 (m := (h 4).length) (by rw [hl4, hl3]; exact hf.le)) b4 (bods_take b3 (h 4).length) hf.bl (bytes_take hf.bb _) (by rw [hl4]; have := hf.bo; have := HM.out; omega)
   obtain ⟨n4, hn4⟩ : ∃ n, n = (h 4).length := ⟨_, rfl⟩
   obtain ⟨n3, hn3⟩ : ∃ n, n = (h 3).length := ⟨_, rfl⟩
   have hle : n4 ≤ n3 := by rw [hn4, hn3, hl4, hl3]; exact hf.le
   have htl : ((h 3).take (h 4).length).length = (h 4).length := by rw [List.length_take, ← hn4, ← hn3]; exact Nat.min_eq_left hle
   rw [htl, ← hn4] at hsm
   rw [show decide (X.2 4 = (X.2 3).take n4) = true from decide_eq_true (by rw [hn4, hl4]; exact hf.eq)] at hsm
   have p0 : w1.cell? ⟨g, 0, none⟩ = some (.pointer (some ⟨p 0, 0, none⟩)) := blk_cell hw.blk 0
   have p1 : w1.cell? ⟨g, 1, none⟩ = some (.pointer (some ⟨p 1, 0, none⟩)) := blk_cell hw.blk 1
   have p4 : w1.cell? ⟨g, 4, none⟩ = some (.slice A4 n4 c4) := by have e := blk_cell hw.blk 4; rw [e, hn4]; exact congrArg some hv4
   have p3 : w1.cell? ⟨g, 3, none⟩ = some (.slice A3 n3 c3) := by have e := blk_cell hw.blk 3; rw [e, hn3]; exact congrArg some hv3
   have HG := Aside0.mk (got_calls (hw.e 0 (by decide)))
   have HS := Aside0.mk (sure_calls (hw.e 1 (by decide)))
   have HSM := Aside0.mk hsm
   have HC3 := Aside0.mk (show n3 ≤ c3 by omega)
   have g1 : decide ((n3 : Int) < (n4 : Int)) = false := decide_eq_false (by omega)
   have HGN := Aside0.mk (show ((X.1 0).all.length : Int) = (n4 : Int) by rw [hga, hn4, hl4, ← hf.isAll])
   obtain ⟨ns, hns⟩ : ∃ n, n = (X.1 1).sure := ⟨_, rfl⟩
   have hsu : ns ≤ n4 := by rw [hns, hn4, hl4]; exact hf.su
   have g2 : decide ((n4 : Int) < (ns : Int)) = false := decide_eq_false (by omega)
   have HNS := Aside0.mk hns
   clear hga hf hw hv4 hv3 hl4 hl3 q4 q3 r4 r3 b4 b3 hsm hn4 hn3 htl e4 e3 hb1 hns
   go_wp2_with fail
   refine HG.out.mono ?_
   rintro e w2 ⟨rfl, rfl⟩
   rw [HGN.out]
   go_wp2_with fail
   refine HS.out.mono ?_
   rintro e w3 ⟨rfl, rfl⟩
   rw [← HNS.out]
   have hc3 := HC3.out
   have hln : (n4 : Int) ≤ (c3 : Int) := by omega
   go_wp2_with fail
   refine HSM.out.mono ?_
   rintro e w4 ⟨rfl, hb4⟩
   have HB4 := Aside0.mk hb4
   clear hb4
   go_wp2_with fail
   go_roundw
   case rel =>
    obtain ⟨p', S', v', h', hw'⟩ := HW1.out
    refine ⟨0 + 1, _, _, _, by go_num, rfl, rfl, rfl, by omega, ⟨?_⟩, ⟨HB1.out.trans (HB4.out.mono hw'.bsz)⟩⟩
    rw [← HX.out]
    exact ⟨p', S', v', h', WP.below hw' HB4.out⟩
   case measure => simp [intOf]
  | 1, _ =>
   go_wp2_with fail
   refine (tell1 (σ := (atB σ ls 1).1) (ls := (atB σ ls 1).2) HW.out ?hn ?hls).mono ?_
   case hn => exact (HR.out.tell0.1).len1 HM.out
   case hls => exact (HR.out.tell0.1).llen1 HM.out
   rintro e w1 ⟨rfl, hw1, hb1⟩
   have hf : Fine M ((atB σ ls 1).1 1) ((atB σ ls (1 + 1)).2 5) ((atB σ ls (1 + 1)).2 2) ((atB σ ls (1 + 1)).1 0).sure _ := (HR.out.tell0.1).fine1
   have HB1 := Aside0.mk (HB.out.trans hb1)
   have HW1 := Aside0.mk (show WQ w1 B N g (atB σ ls (1 + 1)).1 (atB σ ls (1 + 1)).2 from hw1)
   have hga : ((atB σ ls (1 + 1)).1 1).all = ((atB σ ls 1).1 1).all := rfl
   obtain ⟨X, hX⟩ : ∃ X, X = atB σ ls (1 + 1) := ⟨_, rfl⟩
   rw [← hX] at HW1 hf hga
   have HX := Aside0.mk hX
   clear hw1 hX
   obtain ⟨p, S, v, h, hw⟩ := HW1.out
   obtain ⟨A4, c4, hv4⟩ := Kd.R_slice (hw.q 5 (by decide) (by decide))
   obtain ⟨A3, c3, hv3⟩ := Kd.R_slice (hw.q 2 (by decide) (by decide))
   have hl4 := (hw.b 5 (by decide) (by decide)).1
   have hl3 := (hw.b 2 (by decide) (by decide)).1
   have q4 : kH.R 30 w1 B (fun k => some k = (v 5).ownBlock) (.slice A4 (h 5).length c4) (h 5) := by have e := hw.q 5 (by decide) (by decide); rw [hv4] at e ⊢; exact e
   --  5 (by decide) (by decide)
   have q3 : kH.R 30 w1 B (fun k => some k = (v 2).ownBlock) (.slice A3 (h 2).length c3) (h 2) := by have e := hw.q 2 (by decide) (by decide); rw [hv3] at e ⊢; exact e
   --  2 (by decide) (by decide)
   obtain ⟨_, e4, r4⟩ := Kd.R_reads' q4
   obtain ⟨_, e3, r3⟩ := Kd.R_reads' q3
   have b4 := hw.b 5 (by decide) (by decide)
   have b3 := hw.b 2 (by decide) (by decide)
   have hsm := same_calls (c0 := c4) (c1 := c3) r4 (Kd.C_take r3 (m := (h 5).length) (by rw [hl4, hl3]; exact hf.le)) b4 (bods_take b3 (h 5).length) hf.bl (bytes_take hf.bb _) (by rw [hl4]; have := hf.bo; have := HM.out; omega)
   obtain ⟨n4, hn4⟩ : ∃ n, n = (h 5).length := ⟨_, rfl⟩
   obtain ⟨n3, hn3⟩ : ∃ n, n = (h 2).length := ⟨_, rfl⟩
   have hle : n4 ≤ n3 := by rw [hn4, hn3, hl4, hl3]; exact hf.le
   have htl : ((h 2).take (h 5).length).length = (h 5).length := by rw [List.length_take, ← hn4, ← hn3]; exact Nat.min_eq_left hle
   rw [htl, ← hn4] at hsm
   rw [show decide (X.2 5 = (X.2 2).take n4) = true from decide_eq_true (by rw [hn4, hl4]; exact hf.eq)] at hsm
   have p0 : w1.cell? ⟨g, 1, none⟩ = some (.pointer (some ⟨p 1, 0, none⟩)) := blk_cell hw.blk 1
   have p1 : w1.cell? ⟨g, 0, none⟩ = some (.pointer (some ⟨p 0, 0, none⟩)) := blk_cell hw.blk 0
   have p4 : w1.cell? ⟨g, 5, none⟩ = some (.slice A4 n4 c4) := by have e := blk_cell hw.blk 5; rw [e, hn4]; exact congrArg some hv4
   have p3 : w1.cell? ⟨g, 2, none⟩ = some (.slice A3 n3 c3) := by have e := blk_cell hw.blk 2; rw [e, hn3]; exact congrArg some hv3
   have HG := Aside0.mk (got_calls (hw.e 1 (by decide)))
   have HS := Aside0.mk (sure_calls (hw.e 0 (by decide)))
   have HSM := Aside0.mk hsm
   have HC3 := Aside0.mk (show n3 ≤ c3 by omega)
   have g1 : decide ((n3 : Int) < (n4 : Int)) = false := decide_eq_false (by omega)
   have HGN := Aside0.mk (show ((X.1 1).all.length : Int) = (n4 : Int) by rw [hga, hn4, hl4, ← hf.isAll])
   obtain ⟨ns, hns⟩ : ∃ n, n = (X.1 0).sure := ⟨_, rfl⟩
   have hsu : ns ≤ n4 := by rw [hns, hn4, hl4]; exact hf.su
   have g2 : decide ((n4 : Int) < (ns : Int)) = false := decide_eq_false (by omega)
   have HNS := Aside0.mk hns
   clear hga hf hw hv4 hv3 hl4 hl3 q4 q3 r4 r3 b4 b3 hsm hn4 hn3 htl e4 e3 hb1 hns
   go_wp2_with fail
   refine HG.out.mono ?_
   rintro e w2 ⟨rfl, rfl⟩
   rw [HGN.out]
   go_wp2_with fail
   refine HS.out.mono ?_
   rintro e w3 ⟨rfl, rfl⟩
   rw [← HNS.out]
   have hc3 := HC3.out
   have hln : (n4 : Int) ≤ (c3 : Int) := by omega
   go_wp2_with fail
   refine HSM.out.mono ?_
   rintro e w4 ⟨rfl, hb4⟩
   have HB4 := Aside0.mk hb4
   clear hb4
   go_wp2_with fail
   go_roundw
   case rel =>
    obtain ⟨p', S', v', h', hw'⟩ := HW1.out
    refine ⟨1 + 1, _, _, _, by go_num, rfl, rfl, rfl, by omega, ⟨?_⟩, ⟨HB1.out.trans (HB4.out.mono hw'.bsz)⟩⟩
    rw [← HX.out]
    exact ⟨p', S', v', h', WP.below hw' HB4.out⟩
   case measure => simp [intOf]
  | 2, _ =>
   go_wp2_with fail
   go_ret
   exact ⟨rfl, HW.out, HB.out⟩
end Go.Proofs.Ytekakngojhnleaa.Wi
/- Links: the laws' World: one step played. -/
namespace Go.Proofs.Ytekakngojhnleaa.Wj
open Go.RowKit Go.Maps Go.Proofs.Ytekakngojhnleaa.Mp Go.Proofs.Ytekakngojhnleaa.Mq Go.Proofs.Ytekakngojhnleaa.Lp Go.Proofs.Ytekakngojhnleaa.Lm Go.Proofs.Ytekakngojhnleaa.La Go.Proofs.Ytekakngojhnleaa.Lb Go.Proofs.Ytekakngojhnleaa.Lc Go.Proofs.Ytekakngojhnleaa.Ld Go.Proofs.Ytekakngojhnleaa.Le Go.Proofs.Ytekakngojhnleaa.Ow Go.Proofs.Ytekakngojhnleaa.Wd Go.Proofs.Ytekakngojhnleaa.We Go.Proofs.Ytekakngojhnleaa.Wf Go.Proofs.Ytekakngojhnleaa.Wg Go.Proofs.Ytekakngojhnleaa.Wh Go.Proofs.Ytekakngojhnleaa.Wi Go.Proofs.Ytekakngojhnleaa.Pr Go.Proofs.Ytekakngojhnleaa.Dw Go.Proofs.Ytekakngojhnleaa.En Go.Proofs.YtekakngojhnleaaW.PrintWords Go.Proofs.YtekakngojhnleaaW.PrintLast Go.Proofs.YtekakngojhnleaaW.PrintMore
set_option linter.unusedVariables false
set_option linter.unusedSimpArgs false
variable {w w' : World} {B N g : Nat}

section
variable {M : Nat} {σ : Nat → Lk} {ls : Nat → List (List Int)}
theorem _root_.Go.Proofs.Ytekakngojhnleaa.Wi.Rel.mono (h : Rel M σ ls) {K : Nat} (hk : M ≤ K) : Rel K σ ls := ⟨h.two.mono hk, h.t0, h.t1, h.d0, h.d1⟩
theorem sendL_keep (a : Lk) (b : List Int) : (sendL a b).2.all = a.all ∧ (sendL a b).2.told = a.told ∧ (sendL a b).2.took = (if (sendL a b).1 = 0 then a.took ++ [b] else a.took) := by
 unfold sendL
 split
 ·
  exact ⟨rfl, rfl, rfl⟩
 ·
  split
  ·
   exact ⟨rfl, rfl, rfl⟩
  ·
   exact ⟨rfl, rfl, rfl⟩
theorem _root_.Go.Proofs.Ytekakngojhnleaa.Wi.Rel.send0 (h : Rel M σ ls) (b : List Int) (hb : ∀ x ∈ b, 0 ≤ x ∧ x < 256) : Rel (M + 1) (Wd.upd σ 0 (sendL (σ 0) b).2) (if (sendL (σ 0) b).1 = 0 then Wd.upd ls 2 (ls 2 ++ [b]) else ls) := by
 obtain ⟨e1, e2, e3⟩ := sendL_keep (σ 0) b
 have t := h.two.send b hb
 split
 ·
  rename_i hz
  rw [if_pos hz] at e3
  exact ⟨t, by show Wd.upd ls 2 _ 2 = (sendL (σ 0) b).2.took; rw [Wd.upd_same, e3, h.t0], h.t1, by show ls 4 = (sendL (σ 0) b).2.all.take (sendL (σ 0) b).2.told; rw [e1, e2]; exact h.d0, h.d1⟩
 ·
  rename_i hz
  rw [if_neg hz] at e3
  exact ⟨t, by show ls 2 = (sendL (σ 0) b).2.took; rw [e3, h.t0], h.t1, by show ls 4 = (sendL (σ 0) b).2.all.take (sendL (σ 0) b).2.told; rw [e1, e2]; exact h.d0, h.d1⟩
theorem _root_.Go.Proofs.Ytekakngojhnleaa.Wi.Rel.send1 (h : Rel M σ ls) (b : List Int) (hb : ∀ x ∈ b, 0 ≤ x ∧ x < 256) : Rel (M + 1) (Wd.upd σ 1 (sendL (σ 1) b).2) (if (sendL (σ 1) b).1 = 0 then Wd.upd ls 3 (ls 3 ++ [b]) else ls) := by
 obtain ⟨e1, e2, e3⟩ := sendL_keep (σ 1) b
 have t := (h.two.swap.send b hb).swap
 split
 ·
  rename_i hz
  rw [if_pos hz] at e3
  exact ⟨t, h.t0, by show Wd.upd ls 3 _ 3 = (sendL (σ 1) b).2.took; rw [Wd.upd_same, e3, h.t1], h.d0, by show ls 5 = (sendL (σ 1) b).2.all.take (sendL (σ 1) b).2.told; rw [e1, e2]; exact h.d1⟩
 ·
  rename_i hz
  rw [if_neg hz] at e3
  exact ⟨t, h.t0, by show ls 3 = (sendL (σ 1) b).2.took; rw [e3, h.t1], h.d0, by show ls 5 = (sendL (σ 1) b).2.all.take (sendL (σ 1) b).2.told; rw [e1, e2]; exact h.d1⟩
theorem _root_.Go.Proofs.Ytekakngojhnleaa.Wi.Rel.tick0 (h : Rel M σ ls) : Rel M (Wd.upd σ 0 (tickL (σ 0))) ls := ⟨h.two.ticks, h.t0, h.t1, h.d0, h.d1⟩
theorem _root_.Go.Proofs.Ytekakngojhnleaa.Wi.Rel.tick1 (h : Rel M σ ls) : Rel M (Wd.upd σ 1 (tickL (σ 1))) ls := ⟨h.two.swap.ticks.swap, h.t0, h.t1, h.d0, h.d1⟩
theorem _root_.Go.Proofs.Ytekakngojhnleaa.Wi.Rel.out0 (h : Rel M σ ls) : Rel M (Wd.upd σ 0 (outL (σ 0)).2) (Wd.upd ls 6 (ls 6 ++ (outL (σ 0)).1)) := ⟨h.two.out, h.t0, h.t1, h.d0, h.d1⟩
theorem _root_.Go.Proofs.Ytekakngojhnleaa.Wi.Rel.out1 (h : Rel M σ ls) : Rel M (Wd.upd σ 1 (outL (σ 1)).2) (Wd.upd ls 7 (ls 7 ++ (outL (σ 1)).1)) := ⟨h.two.swap.out.swap, h.t0, h.t1, h.d0, h.d1⟩
theorem pull_pre : ∀ (k : Nat) (h : Int → Option (List Int)) (a : List (List Int)), (pull k h a).2.take a.length = a
 | 0, h, a => List.take_length
 | k + 1, h, a => by
  unfold pull
  split
  ·
   exact List.take_length
  ·
   rename_i l e
   have := pull_pre k (setH h (a.length : Int) none) (a ++ [l])
   have e2 : ((pull k (setH h (a.length : Int) none) (a ++ [l])).2.take (a ++ [l]).length).take a.length = (pull k (setH h (a.length : Int) none) (a ++ [l])).2.take a.length := by
    rw [List.take_take, List.length_append]
    congr 1
    simp
   rw [← e2, this, List.take_append_of_le_length (Nat.le_refl _), List.take_length]
theorem in_told (a : Lk) (f : List Int) (ht : a.told ≤ a.all.length) : (inL a f).2.all.take (inL a f).2.told = a.all.take a.told := by
 unfold inL
 split
 ·
  rfl
 ·
  split
  ·
   rfl
  ·
   have h1 := pull_pre 17 (takeH a (decA f).1.2.1 (decA f).1.2.2.2) a.all
   show (pull 17 (takeH a (decA f).1.2.1 (decA f).1.2.2.2) a.all).2.take a.told = a.all.take a.told
   have h2 : ((pull 17 (takeH a (decA f).1.2.1 (decA f).1.2.2.2) a.all).2.take a.all.length).take a.told = (pull 17 (takeH a (decA f).1.2.1 (decA f).1.2.2.2) a.all).2.take a.told := by
    rw [List.take_take]
    congr 1
    omega
   rw [← h2, h1]
theorem _root_.Go.Proofs.Ytekakngojhnleaa.Pr.Two.tight {a b : Lk} {fa fb : List (List Int)} {K : Nat} (t : Two K a b fa fb) (ha : a.took.length ≤ M) (hb : b.took.length ≤ M) : Two M a b fa fb := by
 have e1 := t.ab.le; have e2 := t.ba.le; have e3 := t.ia.s1; have e4 := t.ib.s1
 exact ⟨⟨t.ia.w0, t.ia.w1, t.ia.s0, t.ia.s1, t.ia.s2, t.ia.s3, ha, t.ia.tl, by omega, t.ia.ht, t.ia.ha, t.ia.hh⟩, ⟨t.ib.w0, t.ib.w1, t.ib.s0, t.ib.s1, t.ib.s2, t.ib.s3, hb, t.ib.tl, by omega, t.ib.ht, t.ib.ha, t.ib.hh⟩, t.ab, t.ba, t.ga, t.gb⟩
theorem _root_.Go.Proofs.Ytekakngojhnleaa.Wi.Rel.in0 (h : Rel M σ ls) (hM : M ≤ 1000000) {f : List Int} (hf : f ∈ ls 7) : Rel M (Wd.upd σ 0 (inL (σ 0) f).2) ls := by
 obtain ⟨t, _, _, e1, _, _, _, _, _, _, _⟩ := h.two.in_ hM hf
 exact ⟨t.tight (by rw [e1]; exact h.two.ia.tk) h.two.ib.tk, h.t0.trans e1.symm, h.t1, h.d0.trans (in_told (σ 0) f h.two.ia.tl).symm, h.d1⟩
theorem _root_.Go.Proofs.Ytekakngojhnleaa.Wi.Rel.in1 (h : Rel M σ ls) (hM : M ≤ 1000000) {f : List Int} (hf : f ∈ ls 6) : Rel M (Wd.upd σ 1 (inL (σ 1) f).2) ls := by
 obtain ⟨t, _, _, e1, _, _, _, _, _, _, _⟩ := h.two.swap.in_ hM hf
 exact ⟨t.swap.tight h.two.ia.tk (by rw [e1]; exact h.two.ib.tk), h.t0, h.t1.trans e1.symm, h.d0, h.d1.trans (in_told (σ 1) f h.two.ib.tl).symm⟩
end
theorem _root_.Go.Proofs.Ytekakngojhnleaa.Wi.Rel.lens {M : Nat} {σ : Nat → Lk} {ls : Nat → List (List Int)} (h : Rel M σ ls) (j : Nat) (h1 : 2 ≤ j) (h2 : j < 4) (hM : M ≤ 1500) : (ls j).length ≤ 1000000 := by
 have := h.two.ia.tk; have := h.two.ib.tk
 rcases (show j = 2 ∨ j = 3 by omega) with rfl | rfl
 ·
  rw [h.t0]; omega
 ·
  rw [h.t1]; omega
theorem _root_.Go.Proofs.Ytekakngojhnleaa.Wf.WQ.below {σ : Nat → Lk} {ls : Nat → List (List Int)} (W : WQ w B N g σ ls) (hb : Below w.heap.size w w') : WQ w' B N g σ ls := by
 obtain ⟨p, S, v, h, hw⟩ := W; exact ⟨p, S, v, h, hw.below hb⟩
theorem _root_.Go.Proofs.Ytekakngojhnleaa.Wf.WQ.mono {σ : Nat → Lk} {ls : Nat → List (List Int)} (W : WQ w B N g σ ls) {K : Nat} (hk : N ≤ K) : WQ w B K g σ ls := by
 obtain ⟨p, S, v, h, hw⟩ := W; exact ⟨p, S, v, h, hw.mono hk⟩
theorem _root_.Go.Proofs.Ytekakngojhnleaa.Wf.WQ.bsz {σ : Nat → Lk} {ls : Nat → List (List Int)} (W : WQ w B N g σ ls) : B ≤ w.heap.size := by
 obtain ⟨p, S, v, h, hw⟩ := W; exact hw.bsz
/-- What a step leaves. -/
def Grew (l l' : Nat → List (List Int)) : Prop := (l' 6).length ≤ (l 6).length + 1000 ∧ (l' 7).length ≤ (l 7).length + 1000
theorem Grew.refl (l : Nat → List (List Int)) : Grew l l := ⟨Nat.le_add_right _ _, Nat.le_add_right _ _⟩
theorem grew_send (l : Nat → List (List Int)) {j : Nat} (hj : j < 6) (x : List (List Int)) (P : Prop) [Decidable P] : Grew l (if P then Wd.upd l j x else l) := by
 split
 ·
  exact ⟨by rw [Wd.upd_ne _ _ (by omega)]; omega, by rw [Wd.upd_ne _ _ (by omega)]; omega⟩
 ·
  exact Grew.refl l
theorem grew_out0 (l : Nat → List (List Int)) {M : Nat} {σ : Lk} (hI : Inv M σ) : Grew l (Wd.upd l 6 (l 6 ++ (outL σ).1)) := by
 have := out_len hI
 exact ⟨by rw [Wd.upd_same, List.length_append]; omega, by rw [Wd.upd_ne _ _ (by omega)]; omega⟩
theorem grew_out1 (l : Nat → List (List Int)) {M : Nat} {σ : Lk} (hI : Inv M σ) : Grew l (Wd.upd l 7 (l 7 ++ (outL σ).1)) := by
 have := out_len hI
 exact ⟨by rw [Wd.upd_ne _ _ (by omega)]; omega, by rw [Wd.upd_same, List.length_append]; omega⟩
def Played (w : World) (B N g M : Nat) (l0 : Nat → List (List Int)) (e : Ending) (w' : World) : Prop := e = .returned (.tuple #[]) ∧ (∃ σ ls, WQ w' B (N + 1) g σ ls ∧ Rel (M + 1) σ ls ∧ Grew l0 ls) ∧ Below B w w'
theorem Played.still {M : Nat} {σ : Nat → Lk} {ls : Nat → List (List Int)} (W : WQ w B N g σ ls) (h : Rel M σ ls) (hb : Below w.heap.size w w') : Played w B N g M ls (.returned (.tuple #[])) w' :=
 ⟨rfl, ⟨σ, ls, (W.below hb).mono (Nat.le_succ _), h.mono (Nat.le_succ _), Grew.refl ls⟩, hb.mono W.bsz⟩
/-- The argument's body, whatever is done at the ends. -/
def Body (w : World) (B : Nat) (A : Option Addr) (l : List Int) : Prop := ∀ w', Below B w w' → Keep5 w w' → Kd.C (Kd.int .u8) w' A l.length l
theorem Body.next {A : Option Addr} {l : List Int} (h : Body w B A l) (hb : Below B w w') (h5 : Keep5 w w') : Body w' B A l := fun w2 h1 h2 => h w2 (hb.trans h1) (h5.trans h2)
def stepA (d a n : Int) (A : Option Addr) (m c : Nat) : Array Value := #[.int .i64 d, .int .i64 a, .int .i64 n, .slice A m c]
theorem frame_bytes {M : Nat} {a b : Lk} {fa fb : List (List Int)} (t : Two M a b fa fb) (hM : M ≤ 1500) {f : List Int} (hf : Pr.Good b f) : f.length ≤ 140737488351232 ∧ ∀ x ∈ f, 0 ≤ x ∧ x < 256 := by
 obtain ⟨d, s, k, l, rfl, hk, hd, hd'⟩ := hf
 have hk' : k ≤ 1000000 := by have := t.ab.le; have := t.ia.s1; have := t.ia.tk; omega
 have hs' : s ≤ 1000000 := by
  cases d with
  | true => have := (hd rfl).1; have := t.ib.s1; have := t.ib.tk; omega
  | false => have := (hd' rfl).1; omega
 have hl : okB l := by
  cases d with
  | true => exact t.ib.ht l (List.mem_of_getElem? (hd rfl).2)
  | false => rw [(hd' rfl).2]; exact ⟨by simp, fun x hx => by cases hx⟩
 constructor
 ·
  have h2 := hl.1
  have h3 : (be4 (sumN (headL d s k l))).length = 4 := rfl
  have e1 := _root_.Go.Proofs.Ytekakngojhnleaa.Rd.enc_le 9 s
  have e2 := _root_.Go.Proofs.Ytekakngojhnleaa.Rd.enc_le 9 k
  have e3 := _root_.Go.Proofs.Ytekakngojhnleaa.Rd.enc_le 9 l.length
  have h1 : (headL d s k l).length ≤ 31 + l.length := by
   unfold headL
   simp only [List.length_append, List.length_cons, List.length_nil]
   omega
  unfold frameL
  rw [List.length_append]
  omega
 ·
  intro x hx
  unfold frameL at hx
  rcases List.mem_append.1 hx with h1 | h1
  ·
   exact head_bytes d s k l (by omega) (by omega) hl.1 hl.2 x h1
  ·
   unfold be4 at h1
   simp only [List.mem_cons, List.not_mem_nil, or_false] at h1
   rcases h1 with h1 | h1 | h1 | h1 <;> rw [h1] <;> constructor <;> omega
theorem _root_.Go.Proofs.Ytekakngojhnleaa.Wi.Rel.frameB7 {M : Nat} {σ : Nat → Lk} {ls : Nat → List (List Int)} (h : Rel M σ ls) (hM : M ≤ 1500) {n : Nat} (hn : n < (ls 7).length) : ((ls 7).getD n []).length ≤ 140737488351232 ∧ ∀ x ∈ (ls 7).getD n [], 0 ≤ x ∧ x < 256 :=
 frame_bytes h.two hM (h.two.gb _ (mem_getD hn))
theorem _root_.Go.Proofs.Ytekakngojhnleaa.Wi.Rel.frameB6 {M : Nat} {σ : Nat → Lk} {ls : Nat → List (List Int)} (h : Rel M σ ls) (hM : M ≤ 1500) {n : Nat} (hn : n < (ls 6).length) : ((ls 6).getD n []).length ≤ 140737488351232 ∧ ∀ x ∈ (ls 6).getD n [], 0 ≤ x ∧ x < 256 :=
 frame_bytes h.two.swap hM (h.two.ga _ (mem_getD hn))
/-- A row's body at a place. -/
theorem row_at {v : Value} {hs : List Hd} {l : List (List Int)} {A0 : Option Addr} {c0 r : Nat} (h : kH.R 30 w B (fun k => some k = v.ownBlock) v hs) (hv : v = .slice A0 hs.length c0) (hr : r = hs.length) (hb : Bods w B hs l) {n : Int} (h0 : 0 ≤ n) (h1 : n < (r : Int)) (hl : hs.length = l.length) :
  ∃ (ad : Addr) (hd : Hd), A0 = some ad ∧ w.cell? (ad.add n.toNat) = some (.slice hd.a hd.n hd.c) ∧ Bd w B (.slice hd.a hd.n hd.c) (l.getD n.toNat []) ∧ n.toNat < l.length := by
 subst hv
 obtain ⟨_, _, hcr⟩ := Kd.R_reads' h
 obtain ⟨ad, rfl, hc⟩ := at_H hcr n h0 (by omega)
 have hi : n.toNat < hs.length := by omega
 have hil : n.toNat < l.length := by omega
 refine ⟨ad, rdH hs n, rfl, hc, ?_, hil⟩
 exact hb.2 n.toNat _ _ (by unfold rdH; rw [List.getD_eq_getElem?_getD, List.getElem?_eq_getElem hi, Option.getD_some]) (by rw [List.getD_eq_getElem?_getD, List.getElem?_eq_getElem hil, Option.getD_some])
/-- A step at end 0. -/
theorem wk0 : wrap64 (1 - 0) = 1 := by unfold wrap64; omega
set_option maxRecDepth 100000 in
set_option maxHeartbeats 2000000 in
theorem play0_send {M : Nat} {σ : Nat → Lk} {ls : Nat → List (List Int)} (W : WQ w B N g σ ls) (h : Rel M σ ls) (hM : M ≤ 1500) (a n : Int) (ha : Go.bits .and .i64 a 1 = 0) (A : Option Addr) (c : Nat) (l : List Int) (hr : Body w B A l) (hl : l.length ≤ 140737488351232) (hb : ∀ x ∈ l, 0 ≤ x ∧ x < 256) :
  Calls Try.prog 41 #[.pointer (some ⟨g, 0, none⟩), .agg (stepA 0 a n A l.length c)] w fun e w' => Played w B N g M ls e w' := by
 have hal : Below w.heap.size w (w.alloc (.cells (stepA 0 a n A l.length c) 62)) := below_alloc (Below.refl _ _) _
 have k1 : (w.alloc (.cells (stepA 0 a n A l.length c) 62)).heap[w.heap.size]? = some (.cells (stepA 0 a n A l.length c) 62 (0, 0)) := blk_new w _
 have HSD := Aside0.mk (send0 (WQ.below W hal) h.two.ia (by omega) (h.lens 2 (by decide) (by decide) hM) A c l (fun w' h1 h2 => hr w' ((hal.mono W.bsz).trans h1) ((Keep5.below hal).trans h2)) hl)
 have HW := Aside0.mk W
 have HR := Aside0.mk h
 have HS := Aside0.mk (h.send0 l hb)
 have HAL := Aside0.mk hal
 unfold stepA at HSD HAL ⊢
 clear W h hal k1 hr hb
 by_cases hle : (l.length : Int) ≤ 1000
 ·
  have hd : decide ((l.length : Int) ≤ 1000) = true := decide_eq_true hle
  clear hle
  go_enter Try.func41, Try.ntmps41
  go_wp2_with fail
  refine HSD.out.mono ?_
  rintro e w1 ⟨rfl, hw1, hb1⟩
  have HW1 := Aside0.mk hw1
  have HB1 := Aside0.mk hb1
  clear hw1 hb1
  go_wp2_with fail
  go_end0
  exact ⟨rfl, ⟨_, _, HW1.out.mono (Nat.le_succ _), HS.out, grew_send ls (by omega) _ _⟩, (HAL.out.mono HW.out.bsz).trans HB1.out⟩
 ·
  have hd : decide ((l.length : Int) ≤ 1000) = false := decide_eq_false hle
  clear hle
  go_enter Try.func41, Try.ntmps41
  go_wp2_with fail
  go_end0
  exact Played.still HW.out HR.out HAL.out
set_option maxRecDepth 100000 in
set_option maxHeartbeats 2000000 in
theorem play0_tick {M : Nat} {σ : Nat → Lk} {ls : Nat → List (List Int)} (W : WQ w B N g σ ls) (h : Rel M σ ls) (a n : Int) (ha : Go.bits .and .i64 a 1 = 0) (A : Option Addr) (c m : Nat) :
  Calls Try.prog 41 #[.pointer (some ⟨g, 0, none⟩), .agg (stepA 1 a n A m c)] w fun e w' => Played w B N g M ls e w' := by
 have hal : Below w.heap.size w (w.alloc (.cells (stepA 1 a n A m c) 62)) := below_alloc (Below.refl _ _) _
 obtain ⟨p, S, v, hh, hw⟩ := WQ.below W hal
 have HSD := Aside0.mk (tick_calls (hw.e 0 (by decide)))
 have p0 : (w.alloc (.cells (stepA 1 a n A m c) 62)).cell? ⟨g, 0, none⟩ = some (.pointer (some ⟨p 0, 0, none⟩)) := blk_cell hw.blk 0
 have HW := Aside0.mk W
 have HWP := Aside0.mk hw
 have HS := Aside0.mk h.tick0
 have HAL := Aside0.mk hal
 unfold stepA at HSD HAL HWP p0 ⊢
 clear W h hal hw
 go_enter Try.func41, Try.ntmps41
 go_wp2_with fail
 refine HSD.out.mono ?_
 rintro e w1 ⟨rfl, hl1, hf1⟩
 have HW1 := Aside0.mk (WP.atEnd HWP.out (k := 0) (by decide) hl1 (Nat.le_refl _) hf1)
 have HB1 := Aside0.mk hf1.b
 clear hl1 hf1 p0
 go_wp2_with fail
 go_end0
 exact ⟨rfl, ⟨_, _, WQ.mono ⟨_, _, _, _, HW1.out⟩ (Nat.le_succ _), HS.out.mono (Nat.le_succ _), Grew.refl ls⟩, (HAL.out.mono HW.out.bsz).trans HB1.out⟩
set_option maxRecDepth 100000 in
set_option maxHeartbeats 2000000 in
theorem play0_out {M : Nat} {σ : Nat → Lk} {ls : Nat → List (List Int)} (W : WQ w B N g σ ls) (h : Rel M σ ls) (hM : M ≤ 1500) (hls : (ls 6).length ≤ 1000000) (a n : Int) (ha : Go.bits .and .i64 a 1 = 0) (A : Option Addr) (c m : Nat) :
  Calls Try.prog 41 #[.pointer (some ⟨g, 0, none⟩), .agg (stepA 2 a n A m c)] w fun e w' => Played w B N g M ls e w' := by
 have hal : Below w.heap.size w (w.alloc (.cells (stepA 2 a n A m c) 62)) := below_alloc (Below.refl _ _) _
 have HSD := Aside0.mk (flush0 (WQ.below W hal) h.two.ia (by omega) hls)
 have HW := Aside0.mk W
 have HS := Aside0.mk h.out0
 have HGR := Aside0.mk (grew_out0 ls h.two.ia)
 have HAL := Aside0.mk hal
 unfold stepA at HSD HAL ⊢
 clear W h hal
 go_enter Try.func41, Try.ntmps41
 go_wp2_with fail
 refine HSD.out.mono ?_
 rintro e w1 ⟨v5, hs5, rfl, _, _, hw1, hb1⟩
 have HW1 := Aside0.mk hw1
 have HB1 := Aside0.mk hb1
 clear hw1 hb1
 go_wp2_with fail
 go_end0
 exact ⟨rfl, ⟨_, _, WQ.mono HW1.out (Nat.le_succ _), HS.out.mono (Nat.le_succ _), HGR.out⟩, (HAL.out.mono HW.out.bsz).trans HB1.out⟩
set_option maxRecDepth 100000 in
set_option maxHeartbeats 2000000 in
theorem play0_in {M : Nat} {σ : Nat → Lk} {ls : Nat → List (List Int)} (W : WQ w B N g σ ls) (h : Rel M σ ls) (hM : M ≤ 1500) (hN : N < maxLen) (a n : Int) (ha : Go.bits .and .i64 a 1 = 0) (A : Option Addr) (c m : Nat) :
  Calls Try.prog 41 #[.pointer (some ⟨g, 0, none⟩), .agg (stepA 3 a n A m c)] w fun e w' => Played w B N g M ls e w' := by
 obtain ⟨w1, hw1⟩ : ∃ w1, w1 = w.alloc (.cells (stepA 3 a n A m c) 62) := ⟨_, rfl⟩
 have hal : Below w.heap.size w w1 := by rw [hw1]; exact below_alloc (Below.refl _ _) _
 have k1 : w1.heap[w.heap.size]? = some (.cells (stepA 3 a n A m c) 62 (0, 0)) := by rw [hw1]; exact blk_new w _
 obtain ⟨p, S, v, hh, hw⟩ := WQ.below W hal
 obtain ⟨A0, c0, hv⟩ := Kd.R_slice (hw.q 7 (by decide) (by decide))
 have hlen := (hw.b 7 (by decide) (by decide)).1
 obtain ⟨r, hr⟩ : ∃ r, r = (hh 7).length := ⟨_, rfl⟩
 have x0 : w1.cell? ⟨g, 0, none⟩ = some (.pointer (some ⟨p 0, 0, none⟩)) := blk_cell hw.blk 0
 have o0 : w1.cell? ⟨g, 7, none⟩ = some (.slice A0 r c0) := by have e := blk_cell hw.blk 7; rw [e, hr]; exact congrArg some hv
 have n0 : w1.cell? ⟨w.heap.size, 2, none⟩ = some (.int .i64 n) := blk_cell k1 2
 have HW := Aside0.mk W
 have HWP := Aside0.mk hw
 have HR := Aside0.mk h
 have HAL := Aside0.mk hal
 have HRL := Aside0.mk (show r = (hh 7).length ∧ r = (ls 7).length by rw [hr]; exact ⟨rfl, hlen⟩)
 have HV := Aside0.mk hv
 have HMN := Aside0.mk (And.intro hM hN)
 unfold stepA at hw1 ⊢
 have HW1 := Aside0.mk hw1
 rw [hw1] at x0 o0 n0
 have hwk := wk0
 clear W h hal k1 hw hlen hr hv hM hN
 by_cases h0 : 0 ≤ n
 ·
  have hd0 : decide (0 ≤ n) = true := decide_eq_true h0
  by_cases h1 : n < (r : Int)
  ·
   have hd1 : decide (n < (r : Int)) = true := decide_eq_true h1
   have HN := Aside0.mk (And.intro h0 h1)
   obtain ⟨ad, hd, hA0, hce, hbd⟩ := row_at (HWP.out.q 7 (by decide) (by decide)) HV.out HRL.out.1 (HWP.out.b 7 (by decide) (by decide)) h0 h1 (HRL.out.1.symm.trans HRL.out.2)
   have HA0 := Aside0.mk hA0
   have HCE := Aside0.mk hce
   have HBD := Aside0.mk hbd
   clear h0 h1 hw1 hA0 hce hbd
   go_enter Try.func41, Try.ntmps41
   go_wp2_with fail
   go_quiet (fail)
   go_wp2_with fail
   clear x0 o0 n0 hd0 hd1
   rw [← HW1.out]
   have HU := Aside0.mk (show Below w1.heap.size w1 (w1.drewN nq).drew from below_drew (pw_below_drewN (Below.refl _ _) _))
   have k1 : w1.heap[w.heap.size]? = some (.cells (stepA 3 a n A m c) 62 (0, 0)) := by rw [HW1.out]; exact blk_new w _
   have HK1 := Aside0.mk (blk_below k1 HU.out)
   generalize w1.drewN nq = u at HU HK1 ⊢
   have HWu := Aside0.mk (WP.below HWP.out HU.out)
   have HBu := Aside0.mk (HBD.out.1.keep (Keep5.below HU.out))
   have HIN := Aside0.mk (in_calls (HWu.out.e 0 (by decide)) HR.out.two.ia (by have := HMN.out.1; omega) HMN.out.2 hd.a hd.c ((ls 7).getD n.toNat []) (by have e := Kd.R_reads' HBu.out; exact e.2.2) (by have e := Kd.R_reads' HBu.out; rw [← e.1]; exact e.2.1) (HR.out.frameB7 HMN.out.1 HBD.out.2).1 (HR.out.frameB7 HMN.out.1 HBD.out.2).2)
   have HHN := Aside0.mk (Kd.R_reads' HBu.out).1
   have HS := Aside0.mk (HR.out.in0 (by have := HMN.out.1; omega) (mem_getD HBD.out.2))
   have HS0 : u.drew.cell? ⟨g, 0, none⟩ = some (.pointer (some ⟨p 0, 0, none⟩)) ∧ u.drew.cell? ⟨g, 7, none⟩ = some (.slice (some ad) r c0) ∧ u.drew.cell? ⟨w.heap.size, 2, none⟩ = some (.int .i64 n) ∧ u.drew.cell? (ad.add n.toNat) = some (.slice hd.a hd.n hd.c) :=
    ⟨blk_cell HWu.out.blk 0, by have e := blk_cell HWu.out.blk 7; rw [e, ← HA0.out, HRL.out.1]; exact congrArg some HV.out, blk_cell HK1.out 2, pw_cell_below HU.out HCE.out⟩
   obtain ⟨hn0, hn1⟩ := HN.out
   clear k1
   have hw0 : wrap64 0 = 0 := by unfold wrap64; omega
   have hw11 : wrap64 1 = 1 := by unfold wrap64; omega
   refine start_ (n := 18) (S := fun w' => w'.cell? ⟨g, 0, none⟩ = some (.pointer (some ⟨p 0, 0, none⟩)) ∧ w'.cell? ⟨g, 7, none⟩ = some (.slice (some ad) r c0) ∧ w'.cell? ⟨w.heap.size, 2, none⟩ = some (.int .i64 n) ∧ w'.cell? (ad.add n.toNat) = some (.slice hd.a hd.n hd.c)) (ds := [17]) #[false, false, false, false, false, false, false, false, false, false, false, false, false, false, false, false, false, false] (by kernel_rfl) rfl rfl HS0 (fun hHeld => ?_)
   refine pure_ (i := 0) (N := some 53) (v := ?_) (a' := ?_) #[true, false, false, false, false, false, false, false, false, false, false, false, false, false, false, false, false, false] rfl rfl (by kernel_rfl) (fun _ _ _ h => h) (Or.inl ⟨by rfl, ?_⟩) ?_ ?_
   rotate_left
   ·
    intro w'
    go_simp
    try with_reducible rfl
   rotate_left
   ·
    simp only [Act.put, List.setIfInBounds_toArray, List.set_cons_zero, List.set_cons_succ, i64_w, i32_w]
    rfl
   refine pure_ (i := 1) (N := some 54) (v := ?_) (a' := ?_) #[true, true, false, false, false, false, false, false, false, false, false, false, false, false, false, false, false, false] rfl rfl (by kernel_rfl) (fun _ _ _ h => h) (Or.inl ⟨by rfl, ?_⟩) ?_ ?_
   rotate_left
   ·
    intro w'
    go_simp
    try with_reducible rfl
   rotate_left
   ·
    simp only [Act.put, List.setIfInBounds_toArray, List.set_cons_zero, List.set_cons_succ, i64_w, i32_w]
    rfl
   refine pure_ (i := 2) (N := some 55) (v := ?_) (a' := ?_) #[true, true, true, false, false, false, false, false, false, false, false, false, false, false, false, false, false, false] rfl rfl (by kernel_rfl) (fun _ _ _ h => h) (Or.inl ⟨by rfl, ?_⟩) ?_ ?_
   rotate_left
   ·
    intro w'
    go_simp
    try with_reducible rfl
   rotate_left
   ·
    simp only [Act.put, List.setIfInBounds_toArray, List.set_cons_zero, List.set_cons_succ, i64_w, i32_w]
    rfl
   refine pure_ (i := 3) (N := some 56) (v := ?_) (a' := ?_) #[true, true, true, true, false, false, false, false, false, false, false, false, false, false, false, false, false, false] rfl rfl (by kernel_rfl) (fun _ _ _ h => h) (Or.inl ⟨by rfl, ?_⟩) ?_ ?_
   rotate_left
   ·
    intro w'
    go_simp
    try with_reducible rfl
   rotate_left
   ·
    simp only [Act.put, List.setIfInBounds_toArray, List.set_cons_zero, List.set_cons_succ, i64_w, i32_w]
    rfl
   refine pure_ (i := 4) (N := some 57) (v := ?_) (a' := ?_) #[true, true, true, true, true, false, false, false, false, false, false, false, false, false, false, false, false, false] rfl rfl (by kernel_rfl) (fun _ _ _ h => h) (Or.inl ⟨by rfl, ?_⟩) ?_ ?_
   rotate_left
   ·
    intro w'
    go_simp
    try with_reducible rfl
   rotate_left
   ·
    simp only [Act.put, List.setIfInBounds_toArray, List.set_cons_zero, List.set_cons_succ, i64_w, i32_w]
    rfl
   refine take_ (i := 5) (N := some 58) (v := ?_) (a' := ?_) #[true, true, true, true, true, true, false, false, false, false, false, false, false, false, false, false, false, false] rfl rfl (by kernel_rfl) (fun _ _ _ h => h) (Or.inl ⟨by rfl, ?_⟩) hHeld ?_ ?_
   rotate_left
   ·
    rintro w' ⟨q1, q2, q3, q4⟩
    go_simp
    try with_reducible rfl
   rotate_left
   ·
    simp only [Act.put, List.setIfInBounds_toArray, List.set_cons_zero, List.set_cons_succ, i64_w, i32_w]
    rfl
   refine pure_ (i := 6) (N := some 59) (v := ?_) (a' := ?_) #[true, true, true, true, true, true, true, false, false, false, false, false, false, false, false, false, false, false] rfl rfl (by kernel_rfl) (fun _ _ _ h => h) (Or.inl ⟨by rfl, ?_⟩) ?_ ?_
   rotate_left
   ·
    intro w'
    go_simp
    try with_reducible rfl
   rotate_left
   ·
    simp only [Act.put, List.setIfInBounds_toArray, List.set_cons_zero, List.set_cons_succ, i64_w, i32_w]
    rfl
   refine pure_ (i := 7) (N := some 60) (v := ?_) (a' := ?_) #[true, true, true, true, true, true, true, true, false, false, false, false, false, false, false, false, false, false] rfl rfl (by kernel_rfl) (fun _ _ _ h => h) (Or.inl ⟨by rfl, ?_⟩) ?_ ?_
   rotate_left
   ·
    intro w'
    go_simp
    try with_reducible rfl
   rotate_left
   ·
    simp only [Act.put, List.setIfInBounds_toArray, List.set_cons_zero, List.set_cons_succ, i64_w, i32_w]
    rfl
   refine pure_ (i := 8) (N := some 61) (v := ?_) (a' := ?_) #[true, true, true, true, true, true, true, true, true, false, false, false, false, false, false, false, false, false] rfl rfl (by kernel_rfl) (fun _ _ _ h => h) (Or.inl ⟨by rfl, ?_⟩) ?_ ?_
   rotate_left
   ·
    intro w'
    go_simp
    try with_reducible rfl
   rotate_left
   ·
    simp only [Act.put, List.setIfInBounds_toArray, List.set_cons_zero, List.set_cons_succ, i64_w, i32_w]
    rfl
   refine pure_ (i := 9) (N := some 62) (v := ?_) (a' := ?_) #[true, true, true, true, true, true, true, true, true, true, false, false, false, false, false, false, false, false] rfl rfl (by kernel_rfl) (fun _ _ _ h => h) (Or.inl ⟨by rfl, ?_⟩) ?_ ?_
   rotate_left
   ·
    intro w'
    go_simp
    try with_reducible rfl
   rotate_left
   ·
    simp only [Act.put, List.setIfInBounds_toArray, List.set_cons_zero, List.set_cons_succ, i64_w, i32_w]
    rfl
   refine pure_ (i := 10) (N := some 63) (v := ?_) (a' := ?_) #[true, true, true, true, true, true, true, true, true, true, true, false, false, false, false, false, false, false] rfl rfl (by kernel_rfl) (fun _ _ _ h => h) (Or.inl ⟨by rfl, ?_⟩) ?_ ?_
   rotate_left
   ·
    intro w'
    go_simp
    try with_reducible rfl
   rotate_left
   ·
    simp only [Act.put, List.setIfInBounds_toArray, List.set_cons_zero, List.set_cons_succ, i64_w, i32_w]
    rfl
   refine pure_ (i := 11) (N := some 64) (v := ?_) (a' := ?_) #[true, true, true, true, true, true, true, true, true, true, true, true, false, false, false, false, false, false] rfl rfl (by kernel_rfl) (fun _ _ _ h => h) (Or.inl ⟨by rfl, ?_⟩) ?_ ?_
   rotate_left
   ·
    intro w'
    go_simp
    try with_reducible rfl
   rotate_left
   ·
    simp only [Act.put, List.setIfInBounds_toArray, List.set_cons_zero, List.set_cons_succ, i64_w, i32_w]
    rfl
   refine take_ (i := 12) (N := some 65) (v := ?_) (a' := ?_) #[true, true, true, true, true, true, true, true, true, true, true, true, true, false, false, false, false, false] rfl rfl (by kernel_rfl) (fun _ _ _ h => h) (Or.inl ⟨by rfl, ?_⟩) hHeld ?_ ?_
   rotate_left
   ·
    rintro w' ⟨q1, q2, q3, q4⟩
    go_simp
    try with_reducible rfl
   rotate_left
   ·
    simp only [Act.put, List.setIfInBounds_toArray, List.set_cons_zero, List.set_cons_succ, i64_w, i32_w]
    rfl
   refine pure_ (i := 13) (N := some 66) (v := ?_) (a' := ?_) #[true, true, true, true, true, true, true, true, true, true, true, true, true, true, false, false, false, false] rfl rfl (by kernel_rfl) (fun _ _ _ h => h) (Or.inl ⟨by rfl, ?_⟩) ?_ ?_
   rotate_left
   ·
    intro w'
    go_simp
    try with_reducible rfl
   rotate_left
   ·
    simp only [Act.put, List.setIfInBounds_toArray, List.set_cons_zero, List.set_cons_succ, i64_w, i32_w]
    rfl
   refine take_ (i := 14) (N := some 67) (v := ?_) (a' := ?_) #[true, true, true, true, true, true, true, true, true, true, true, true, true, true, true, false, false, false] rfl rfl (by kernel_rfl) (fun _ _ _ h => h) (Or.inl ⟨by rfl, ?_⟩) hHeld ?_ ?_
   rotate_left
   ·
    rintro w' ⟨q1, q2, q3, q4⟩
    go_simp
    try with_reducible rfl
   rotate_left
   ·
    simp only [Act.put, List.setIfInBounds_toArray, List.set_cons_zero, List.set_cons_succ, i64_w, i32_w]
    rfl
   refine pure_ (i := 15) (N := some 68) (v := ?_) (a' := ?_) #[true, true, true, true, true, true, true, true, true, true, true, true, true, true, true, true, false, false] rfl rfl (by kernel_rfl) (fun _ _ _ h => h) (Or.inl ⟨by rfl, ?_⟩) ?_ ?_
   rotate_left
   ·
    intro w'
    go_simp
    try with_reducible rfl
   rotate_left
   ·
    simp only [Act.put, List.setIfInBounds_toArray, List.set_cons_zero, List.set_cons_succ, i64_w, i32_w]
    rfl
   refine take_ (i := 16) (N := some 69) (v := ?_) (a' := ?_) #[true, true, true, true, true, true, true, true, true, true, true, true, true, true, true, true, true, false] rfl rfl (by kernel_rfl) (fun _ _ _ h => h) (Or.inl ⟨by rfl, ?_⟩) hHeld ?_ ?_
   rotate_left
   ·
    rintro w' ⟨q1, q2, q3, q4⟩
    go_simp
    try with_reducible rfl
   rotate_left
   ·
    simp only [Act.put, List.setIfInBounds_toArray, List.set_cons_zero, List.set_cons_succ, i64_w, i32_w]
    rfl
   refine last_ (i := 17) (N := some 70) #[true, true, true, true, true, true, true, true, true, true, true, true, true, true, true, true, true, true] rfl rfl (by kernel_rfl) (by decide) (fun K hK => ?_)
   refine goes_ Try.func22 (by kernel_rfl) rfl #[.pointer (some ⟨p 0, 0, none⟩), .slice hd.a hd.n hd.c] (by rfl) rfl rfl (by first | rfl | (simp [Act.eval]; done) | kernel_rfl) ?_
   rw [HHN.out]
   refine HIN.out.mono ?_
   rintro e w5 ⟨rfl, S', hl5, hf5⟩
   have HW5 := Aside0.mk (WP.atEnd HWu.out (k := 0) (by decide) hl5 (Nat.le_succ _) hf5)
   have HB5 := Aside0.mk hf5.b
   clear hl5 hf5
   refine ⟨_, rfl, ?_⟩
   refine hK.out _ _ ?_
   clear hK K
   refine done_ (by kernel_rfl) ?_
   go_wp2_with fail
   go_end0
   exact ⟨rfl, ⟨_, _, ⟨_, _, _, _, HW5.out⟩, HS.out.mono (Nat.le_succ _), Grew.refl ls⟩, ((HAL.out.trans (HU.out.mono HAL.out.size)).mono HW.out.bsz).trans HB5.out⟩
  ·
   have hd1 : decide (n < (r : Int)) = false := decide_eq_false h1
   clear h0 h1 hw1
   go_enter Try.func41, Try.ntmps41
   go_wp2_with fail
   go_quiet (fail)
   go_wp2_with fail
   go_end0
   rw [← HW1.out]
   exact Played.still HW.out HR.out (HAL.out.trans ((pw_below_drewN (Below.refl _ _) _).mono HAL.out.size))
 ·
  have hd0 : decide (0 ≤ n) = false := decide_eq_false h0
  clear h0 hw1
  go_enter Try.func41, Try.ntmps41
  go_wp2_with fail
  go_quiet (fail)
  go_wp2_with fail
  go_end0
  rw [← HW1.out]
  exact Played.still HW.out HR.out (HAL.out.trans ((pw_below_drewN (Below.refl _ _) _).mono HAL.out.size))
set_option maxRecDepth 100000 in
set_option maxHeartbeats 2000000 in
theorem play0_none {M : Nat} {σ : Nat → Lk} {ls : Nat → List (List Int)} (W : WQ w B N g σ ls) (h : Rel M σ ls) (d a n : Int) (hd0 : d ≠ 0) (hd1 : d ≠ 1) (hd2 : d ≠ 2) (hd3 : d ≠ 3) (ha : Go.bits .and .i64 a 1 = 0) (A : Option Addr) (c m : Nat) :
  Calls Try.prog 41 #[.pointer (some ⟨g, 0, none⟩), .agg (stepA d a n A m c)] w fun e w' => Played w B N g M ls e w' := by
 have HW := Aside0.mk W
 have HR := Aside0.mk h
 have HAL := Aside0.mk (below_alloc (Below.refl w.heap.size w) (.cells (stepA d a n A m c) 62))
 have e0 : (d == 0) = false := by rw [beq_eq_false_iff_ne]; exact hd0
 have e1 : (d == 1) = false := by rw [beq_eq_false_iff_ne]; exact hd1
 have e2 : (d == 2) = false := by rw [beq_eq_false_iff_ne]; exact hd2
 have e3 : (d == 3) = false := by rw [beq_eq_false_iff_ne]; exact hd3
 unfold stepA at HAL ⊢
 clear W h hd0 hd1 hd2 hd3
 go_enter Try.func41, Try.ntmps41
 go_wp2_with fail
 go_end0
 exact Played.still HW.out HR.out HAL.out
/-- A step at end 1. -/
theorem wk1 : wrap64 (1 - 1) = 0 := by unfold wrap64; omega
set_option maxRecDepth 100000 in
set_option maxHeartbeats 2000000 in
theorem play1_send {M : Nat} {σ : Nat → Lk} {ls : Nat → List (List Int)} (W : WQ w B N g σ ls) (h : Rel M σ ls) (hM : M ≤ 1500) (a n : Int) (ha : Go.bits .and .i64 a 1 = 1) (A : Option Addr) (c : Nat) (l : List Int) (hr : Body w B A l) (hl : l.length ≤ 140737488351232) (hb : ∀ x ∈ l, 0 ≤ x ∧ x < 256) :
  Calls Try.prog 41 #[.pointer (some ⟨g, 0, none⟩), .agg (stepA 0 a n A l.length c)] w fun e w' => Played w B N g M ls e w' := by
 have hal : Below w.heap.size w (w.alloc (.cells (stepA 0 a n A l.length c) 62)) := below_alloc (Below.refl _ _) _
 have k1 : (w.alloc (.cells (stepA 0 a n A l.length c) 62)).heap[w.heap.size]? = some (.cells (stepA 0 a n A l.length c) 62 (0, 0)) := blk_new w _
 have HSD := Aside0.mk (send1 (WQ.below W hal) h.two.ib (by omega) (h.lens 3 (by decide) (by decide) hM) A c l (fun w' h1 h2 => hr w' ((hal.mono W.bsz).trans h1) ((Keep5.below hal).trans h2)) hl)
 have HW := Aside0.mk W
 have HR := Aside0.mk h
 have HS := Aside0.mk (h.send1 l hb)
 have HAL := Aside0.mk hal
 unfold stepA at HSD HAL ⊢
 clear W h hal k1 hr hb
 by_cases hle : (l.length : Int) ≤ 1000
 ·
  have hd : decide ((l.length : Int) ≤ 1000) = true := decide_eq_true hle
  clear hle
  go_enter Try.func41, Try.ntmps41
  go_wp2_with fail
  refine HSD.out.mono ?_
  rintro e w1 ⟨rfl, hw1, hb1⟩
  have HW1 := Aside0.mk hw1
  have HB1 := Aside0.mk hb1
  clear hw1 hb1
  go_wp2_with fail
  go_end0
  exact ⟨rfl, ⟨_, _, HW1.out.mono (Nat.le_succ _), HS.out, grew_send ls (by omega) _ _⟩, (HAL.out.mono HW.out.bsz).trans HB1.out⟩
 ·
  have hd : decide ((l.length : Int) ≤ 1000) = false := decide_eq_false hle
  clear hle
  go_enter Try.func41, Try.ntmps41
  go_wp2_with fail
  go_end0
  exact Played.still HW.out HR.out HAL.out
set_option maxRecDepth 100000 in
set_option maxHeartbeats 2000000 in
theorem play1_tick {M : Nat} {σ : Nat → Lk} {ls : Nat → List (List Int)} (W : WQ w B N g σ ls) (h : Rel M σ ls) (a n : Int) (ha : Go.bits .and .i64 a 1 = 1) (A : Option Addr) (c m : Nat) :
  Calls Try.prog 41 #[.pointer (some ⟨g, 0, none⟩), .agg (stepA 1 a n A m c)] w fun e w' => Played w B N g M ls e w' := by
 have hal : Below w.heap.size w (w.alloc (.cells (stepA 1 a n A m c) 62)) := below_alloc (Below.refl _ _) _
 obtain ⟨p, S, v, hh, hw⟩ := WQ.below W hal
 have HSD := Aside0.mk (tick_calls (hw.e 1 (by decide)))
 have p0 : (w.alloc (.cells (stepA 1 a n A m c) 62)).cell? ⟨g, 1, none⟩ = some (.pointer (some ⟨p 1, 0, none⟩)) := blk_cell hw.blk 1
 have HW := Aside0.mk W
 have HWP := Aside0.mk hw
 have HS := Aside0.mk h.tick1
 have HAL := Aside0.mk hal
 unfold stepA at HSD HAL HWP p0 ⊢
 clear W h hal hw
 go_enter Try.func41, Try.ntmps41
 go_wp2_with fail
 refine HSD.out.mono ?_
 rintro e w1 ⟨rfl, hl1, hf1⟩
 have HW1 := Aside0.mk (WP.atEnd HWP.out (k := 1) (by decide) hl1 (Nat.le_refl _) hf1)
 have HB1 := Aside0.mk hf1.b
 clear hl1 hf1 p0
 go_wp2_with fail
 go_end0
 exact ⟨rfl, ⟨_, _, WQ.mono ⟨_, _, _, _, HW1.out⟩ (Nat.le_succ _), HS.out.mono (Nat.le_succ _), Grew.refl ls⟩, (HAL.out.mono HW.out.bsz).trans HB1.out⟩
set_option maxRecDepth 100000 in
set_option maxHeartbeats 2000000 in
theorem play1_out {M : Nat} {σ : Nat → Lk} {ls : Nat → List (List Int)} (W : WQ w B N g σ ls) (h : Rel M σ ls) (hM : M ≤ 1500) (hls : (ls 7).length ≤ 1000000) (a n : Int) (ha : Go.bits .and .i64 a 1 = 1) (A : Option Addr) (c m : Nat) :
  Calls Try.prog 41 #[.pointer (some ⟨g, 0, none⟩), .agg (stepA 2 a n A m c)] w fun e w' => Played w B N g M ls e w' := by
 have hal : Below w.heap.size w (w.alloc (.cells (stepA 2 a n A m c) 62)) := below_alloc (Below.refl _ _) _
 have HSD := Aside0.mk (flush1 (WQ.below W hal) h.two.ib (by omega) hls)
 have HW := Aside0.mk W
 have HS := Aside0.mk h.out1
 have HGR := Aside0.mk (grew_out1 ls h.two.ib)
 have HAL := Aside0.mk hal
 unfold stepA at HSD HAL ⊢
 clear W h hal
 go_enter Try.func41, Try.ntmps41
 go_wp2_with fail
 refine HSD.out.mono ?_
 rintro e w1 ⟨v5, hs5, rfl, _, _, hw1, hb1⟩
 have HW1 := Aside0.mk hw1
 have HB1 := Aside0.mk hb1
 clear hw1 hb1
 go_wp2_with fail
 go_end0
 exact ⟨rfl, ⟨_, _, WQ.mono HW1.out (Nat.le_succ _), HS.out.mono (Nat.le_succ _), HGR.out⟩, (HAL.out.mono HW.out.bsz).trans HB1.out⟩
set_option maxRecDepth 100000 in
set_option maxHeartbeats 2000000 in
theorem play1_in {M : Nat} {σ : Nat → Lk} {ls : Nat → List (List Int)} (W : WQ w B N g σ ls) (h : Rel M σ ls) (hM : M ≤ 1500) (hN : N < maxLen) (a n : Int) (ha : Go.bits .and .i64 a 1 = 1) (A : Option Addr) (c m : Nat) :
  Calls Try.prog 41 #[.pointer (some ⟨g, 0, none⟩), .agg (stepA 3 a n A m c)] w fun e w' => Played w B N g M ls e w' := by
 obtain ⟨w1, hw1⟩ : ∃ w1, w1 = w.alloc (.cells (stepA 3 a n A m c) 62) := ⟨_, rfl⟩
 have hal : Below w.heap.size w w1 := by rw [hw1]; exact below_alloc (Below.refl _ _) _
 have k1 : w1.heap[w.heap.size]? = some (.cells (stepA 3 a n A m c) 62 (0, 0)) := by rw [hw1]; exact blk_new w _
 obtain ⟨p, S, v, hh, hw⟩ := WQ.below W hal
 obtain ⟨A0, c0, hv⟩ := Kd.R_slice (hw.q 6 (by decide) (by decide))
 have hlen := (hw.b 6 (by decide) (by decide)).1
 obtain ⟨r, hr⟩ : ∃ r, r = (hh 6).length := ⟨_, rfl⟩
 have x0 : w1.cell? ⟨g, 1, none⟩ = some (.pointer (some ⟨p 1, 0, none⟩)) := blk_cell hw.blk 1
 have o0 : w1.cell? ⟨g, 6, none⟩ = some (.slice A0 r c0) := by have e := blk_cell hw.blk 6; rw [e, hr]; exact congrArg some hv
 have n0 : w1.cell? ⟨w.heap.size, 2, none⟩ = some (.int .i64 n) := blk_cell k1 2
 have HW := Aside0.mk W
 have HWP := Aside0.mk hw
 have HR := Aside0.mk h
 have HAL := Aside0.mk hal
 have HRL := Aside0.mk (show r = (hh 6).length ∧ r = (ls 6).length by rw [hr]; exact ⟨rfl, hlen⟩)
 have HV := Aside0.mk hv
 have HMN := Aside0.mk (And.intro hM hN)
 unfold stepA at hw1 ⊢
 have HW1 := Aside0.mk hw1
 rw [hw1] at x0 o0 n0
 have hwk := wk1
 clear W h hal k1 hw hlen hr hv hM hN
 by_cases h0 : 0 ≤ n
 ·
  have hd0 : decide (0 ≤ n) = true := decide_eq_true h0
  by_cases h1 : n < (r : Int)
  ·
   have hd1 : decide (n < (r : Int)) = true := decide_eq_true h1
   have HN := Aside0.mk (And.intro h0 h1)
   obtain ⟨ad, hd, hA0, hce, hbd⟩ := row_at (HWP.out.q 6 (by decide) (by decide)) HV.out HRL.out.1 (HWP.out.b 6 (by decide) (by decide)) h0 h1 (HRL.out.1.symm.trans HRL.out.2)
   have HA0 := Aside0.mk hA0
   have HCE := Aside0.mk hce
   have HBD := Aside0.mk hbd
   clear h0 h1 hw1 hA0 hce hbd
   go_enter Try.func41, Try.ntmps41
   go_wp2_with fail
   go_quiet (fail)
   go_wp2_with fail
   clear x0 o0 n0 hd0 hd1
   rw [← HW1.out]
   have HU := Aside0.mk (show Below w1.heap.size w1 (w1.drewN nq).drew from below_drew (pw_below_drewN (Below.refl _ _) _))
   have k1 : w1.heap[w.heap.size]? = some (.cells (stepA 3 a n A m c) 62 (0, 0)) := by rw [HW1.out]; exact blk_new w _
   have HK1 := Aside0.mk (blk_below k1 HU.out)
   generalize w1.drewN nq = u at HU HK1 ⊢
   have HWu := Aside0.mk (WP.below HWP.out HU.out)
   have HBu := Aside0.mk (HBD.out.1.keep (Keep5.below HU.out))
   have HIN := Aside0.mk (in_calls (HWu.out.e 1 (by decide)) HR.out.two.ib (by have := HMN.out.1; omega) HMN.out.2 hd.a hd.c ((ls 6).getD n.toNat []) (by have e := Kd.R_reads' HBu.out; exact e.2.2) (by have e := Kd.R_reads' HBu.out; rw [← e.1]; exact e.2.1) (HR.out.frameB6 HMN.out.1 HBD.out.2).1 (HR.out.frameB6 HMN.out.1 HBD.out.2).2)
   have HHN := Aside0.mk (Kd.R_reads' HBu.out).1
   have HS := Aside0.mk (HR.out.in1 (by have := HMN.out.1; omega) (mem_getD HBD.out.2))
   have HS0 : u.drew.cell? ⟨g, 1, none⟩ = some (.pointer (some ⟨p 1, 0, none⟩)) ∧ u.drew.cell? ⟨g, 6, none⟩ = some (.slice (some ad) r c0) ∧ u.drew.cell? ⟨w.heap.size, 2, none⟩ = some (.int .i64 n) ∧ u.drew.cell? (ad.add n.toNat) = some (.slice hd.a hd.n hd.c) :=
    ⟨blk_cell HWu.out.blk 1, by have e := blk_cell HWu.out.blk 6; rw [e, ← HA0.out, HRL.out.1]; exact congrArg some HV.out, blk_cell HK1.out 2, pw_cell_below HU.out HCE.out⟩
   obtain ⟨hn0, hn1⟩ := HN.out
   clear k1
   have hw0 : wrap64 0 = 0 := by unfold wrap64; omega
   have hw11 : wrap64 1 = 1 := by unfold wrap64; omega
   refine start_ (n := 18) (S := fun w' => w'.cell? ⟨g, 1, none⟩ = some (.pointer (some ⟨p 1, 0, none⟩)) ∧ w'.cell? ⟨g, 6, none⟩ = some (.slice (some ad) r c0) ∧ w'.cell? ⟨w.heap.size, 2, none⟩ = some (.int .i64 n) ∧ w'.cell? (ad.add n.toNat) = some (.slice hd.a hd.n hd.c)) (ds := [17]) #[false, false, false, false, false, false, false, false, false, false, false, false, false, false, false, false, false, false] (by kernel_rfl) rfl rfl HS0 (fun hHeld => ?_)
   refine pure_ (i := 0) (N := some 53) (v := ?_) (a' := ?_) #[true, false, false, false, false, false, false, false, false, false, false, false, false, false, false, false, false, false] rfl rfl (by kernel_rfl) (fun _ _ _ h => h) (Or.inl ⟨by rfl, ?_⟩) ?_ ?_
   rotate_left
   ·
    intro w'
    go_simp
    try with_reducible rfl
   rotate_left
   ·
    simp only [Act.put, List.setIfInBounds_toArray, List.set_cons_zero, List.set_cons_succ, i64_w, i32_w]
    rfl
   refine pure_ (i := 1) (N := some 54) (v := ?_) (a' := ?_) #[true, true, false, false, false, false, false, false, false, false, false, false, false, false, false, false, false, false] rfl rfl (by kernel_rfl) (fun _ _ _ h => h) (Or.inl ⟨by rfl, ?_⟩) ?_ ?_
   rotate_left
   ·
    intro w'
    go_simp
    try with_reducible rfl
   rotate_left
   ·
    simp only [Act.put, List.setIfInBounds_toArray, List.set_cons_zero, List.set_cons_succ, i64_w, i32_w]
    rfl
   refine pure_ (i := 2) (N := some 55) (v := ?_) (a' := ?_) #[true, true, true, false, false, false, false, false, false, false, false, false, false, false, false, false, false, false] rfl rfl (by kernel_rfl) (fun _ _ _ h => h) (Or.inl ⟨by rfl, ?_⟩) ?_ ?_
   rotate_left
   ·
    intro w'
    go_simp
    try with_reducible rfl
   rotate_left
   ·
    simp only [Act.put, List.setIfInBounds_toArray, List.set_cons_zero, List.set_cons_succ, i64_w, i32_w]
    rfl
   refine pure_ (i := 3) (N := some 56) (v := ?_) (a' := ?_) #[true, true, true, true, false, false, false, false, false, false, false, false, false, false, false, false, false, false] rfl rfl (by kernel_rfl) (fun _ _ _ h => h) (Or.inl ⟨by rfl, ?_⟩) ?_ ?_
   rotate_left
   ·
    intro w'
    go_simp
    try with_reducible rfl
   rotate_left
   ·
    simp only [Act.put, List.setIfInBounds_toArray, List.set_cons_zero, List.set_cons_succ, i64_w, i32_w]
    rfl
   refine pure_ (i := 4) (N := some 57) (v := ?_) (a' := ?_) #[true, true, true, true, true, false, false, false, false, false, false, false, false, false, false, false, false, false] rfl rfl (by kernel_rfl) (fun _ _ _ h => h) (Or.inl ⟨by rfl, ?_⟩) ?_ ?_
   rotate_left
   ·
    intro w'
    go_simp
    try with_reducible rfl
   rotate_left
   ·
    simp only [Act.put, List.setIfInBounds_toArray, List.set_cons_zero, List.set_cons_succ, i64_w, i32_w]
    rfl
   refine take_ (i := 5) (N := some 58) (v := ?_) (a' := ?_) #[true, true, true, true, true, true, false, false, false, false, false, false, false, false, false, false, false, false] rfl rfl (by kernel_rfl) (fun _ _ _ h => h) (Or.inl ⟨by rfl, ?_⟩) hHeld ?_ ?_
   rotate_left
   ·
    rintro w' ⟨q1, q2, q3, q4⟩
    go_simp
    try with_reducible rfl
   rotate_left
   ·
    simp only [Act.put, List.setIfInBounds_toArray, List.set_cons_zero, List.set_cons_succ, i64_w, i32_w]
    rfl
   refine pure_ (i := 6) (N := some 59) (v := ?_) (a' := ?_) #[true, true, true, true, true, true, true, false, false, false, false, false, false, false, false, false, false, false] rfl rfl (by kernel_rfl) (fun _ _ _ h => h) (Or.inl ⟨by rfl, ?_⟩) ?_ ?_
   rotate_left
   ·
    intro w'
    go_simp
    try with_reducible rfl
   rotate_left
   ·
    simp only [Act.put, List.setIfInBounds_toArray, List.set_cons_zero, List.set_cons_succ, i64_w, i32_w]
    rfl
   refine pure_ (i := 7) (N := some 60) (v := ?_) (a' := ?_) #[true, true, true, true, true, true, true, true, false, false, false, false, false, false, false, false, false, false] rfl rfl (by kernel_rfl) (fun _ _ _ h => h) (Or.inl ⟨by rfl, ?_⟩) ?_ ?_
   rotate_left
   ·
    intro w'
    go_simp
    try with_reducible rfl
   rotate_left
   ·
    simp only [Act.put, List.setIfInBounds_toArray, List.set_cons_zero, List.set_cons_succ, i64_w, i32_w]
    rfl
   refine pure_ (i := 8) (N := some 61) (v := ?_) (a' := ?_) #[true, true, true, true, true, true, true, true, true, false, false, false, false, false, false, false, false, false] rfl rfl (by kernel_rfl) (fun _ _ _ h => h) (Or.inl ⟨by rfl, ?_⟩) ?_ ?_
   rotate_left
   ·
    intro w'
    go_simp
    try with_reducible rfl
   rotate_left
   ·
    simp only [Act.put, List.setIfInBounds_toArray, List.set_cons_zero, List.set_cons_succ, i64_w, i32_w]
    rfl
   refine pure_ (i := 9) (N := some 62) (v := ?_) (a' := ?_) #[true, true, true, true, true, true, true, true, true, true, false, false, false, false, false, false, false, false] rfl rfl (by kernel_rfl) (fun _ _ _ h => h) (Or.inl ⟨by rfl, ?_⟩) ?_ ?_
   rotate_left
   ·
    intro w'
    go_simp
    try with_reducible rfl
   rotate_left
   ·
    simp only [Act.put, List.setIfInBounds_toArray, List.set_cons_zero, List.set_cons_succ, i64_w, i32_w]
    rfl
   refine pure_ (i := 10) (N := some 63) (v := ?_) (a' := ?_) #[true, true, true, true, true, true, true, true, true, true, true, false, false, false, false, false, false, false] rfl rfl (by kernel_rfl) (fun _ _ _ h => h) (Or.inl ⟨by rfl, ?_⟩) ?_ ?_
   rotate_left
   ·
    intro w'
    go_simp
    try with_reducible rfl
   rotate_left
   ·
    simp only [Act.put, List.setIfInBounds_toArray, List.set_cons_zero, List.set_cons_succ, i64_w, i32_w]
    rfl
   refine pure_ (i := 11) (N := some 64) (v := ?_) (a' := ?_) #[true, true, true, true, true, true, true, true, true, true, true, true, false, false, false, false, false, false] rfl rfl (by kernel_rfl) (fun _ _ _ h => h) (Or.inl ⟨by rfl, ?_⟩) ?_ ?_
   rotate_left
   ·
    intro w'
    go_simp
    try with_reducible rfl
   rotate_left
   ·
    simp only [Act.put, List.setIfInBounds_toArray, List.set_cons_zero, List.set_cons_succ, i64_w, i32_w]
    rfl
   refine take_ (i := 12) (N := some 65) (v := ?_) (a' := ?_) #[true, true, true, true, true, true, true, true, true, true, true, true, true, false, false, false, false, false] rfl rfl (by kernel_rfl) (fun _ _ _ h => h) (Or.inl ⟨by rfl, ?_⟩) hHeld ?_ ?_
   rotate_left
   ·
    rintro w' ⟨q1, q2, q3, q4⟩
    go_simp
    try with_reducible rfl
   rotate_left
   ·
    simp only [Act.put, List.setIfInBounds_toArray, List.set_cons_zero, List.set_cons_succ, i64_w, i32_w]
    rfl
   refine pure_ (i := 13) (N := some 66) (v := ?_) (a' := ?_) #[true, true, true, true, true, true, true, true, true, true, true, true, true, true, false, false, false, false] rfl rfl (by kernel_rfl) (fun _ _ _ h => h) (Or.inl ⟨by rfl, ?_⟩) ?_ ?_
   rotate_left
   ·
    intro w'
    go_simp
    try with_reducible rfl
   rotate_left
   ·
    simp only [Act.put, List.setIfInBounds_toArray, List.set_cons_zero, List.set_cons_succ, i64_w, i32_w]
    rfl
   refine take_ (i := 14) (N := some 67) (v := ?_) (a' := ?_) #[true, true, true, true, true, true, true, true, true, true, true, true, true, true, true, false, false, false] rfl rfl (by kernel_rfl) (fun _ _ _ h => h) (Or.inl ⟨by rfl, ?_⟩) hHeld ?_ ?_
   rotate_left
   ·
    rintro w' ⟨q1, q2, q3, q4⟩
    go_simp
    try with_reducible rfl
   rotate_left
   ·
    simp only [Act.put, List.setIfInBounds_toArray, List.set_cons_zero, List.set_cons_succ, i64_w, i32_w]
    rfl
   refine pure_ (i := 15) (N := some 68) (v := ?_) (a' := ?_) #[true, true, true, true, true, true, true, true, true, true, true, true, true, true, true, true, false, false] rfl rfl (by kernel_rfl) (fun _ _ _ h => h) (Or.inl ⟨by rfl, ?_⟩) ?_ ?_
   rotate_left
   ·
    intro w'
    go_simp
    try with_reducible rfl
   rotate_left
   ·
    simp only [Act.put, List.setIfInBounds_toArray, List.set_cons_zero, List.set_cons_succ, i64_w, i32_w]
    rfl
   refine take_ (i := 16) (N := some 69) (v := ?_) (a' := ?_) #[true, true, true, true, true, true, true, true, true, true, true, true, true, true, true, true, true, false] rfl rfl (by kernel_rfl) (fun _ _ _ h => h) (Or.inl ⟨by rfl, ?_⟩) hHeld ?_ ?_
   rotate_left
   ·
    rintro w' ⟨q1, q2, q3, q4⟩
    go_simp
    try with_reducible rfl
   rotate_left
   ·
    simp only [Act.put, List.setIfInBounds_toArray, List.set_cons_zero, List.set_cons_succ, i64_w, i32_w]
    rfl
   refine last_ (i := 17) (N := some 70) #[true, true, true, true, true, true, true, true, true, true, true, true, true, true, true, true, true, true] rfl rfl (by kernel_rfl) (by decide) (fun K hK => ?_)
   refine goes_ Try.func22 (by kernel_rfl) rfl #[.pointer (some ⟨p 1, 0, none⟩), .slice hd.a hd.n hd.c] (by rfl) rfl rfl (by first | rfl | (simp [Act.eval]; done) | kernel_rfl) ?_
   rw [HHN.out]
   refine HIN.out.mono ?_
   rintro e w5 ⟨rfl, S', hl5, hf5⟩
   have HW5 := Aside0.mk (WP.atEnd HWu.out (k := 1) (by decide) hl5 (Nat.le_succ _) hf5)
   have HB5 := Aside0.mk hf5.b
   clear hl5 hf5
   refine ⟨_, rfl, ?_⟩
   refine hK.out _ _ ?_
   clear hK K
   refine done_ (by kernel_rfl) ?_
   go_wp2_with fail
   go_end0
   exact ⟨rfl, ⟨_, _, ⟨_, _, _, _, HW5.out⟩, HS.out.mono (Nat.le_succ _), Grew.refl ls⟩, ((HAL.out.trans (HU.out.mono HAL.out.size)).mono HW.out.bsz).trans HB5.out⟩
  ·
   have hd1 : decide (n < (r : Int)) = false := decide_eq_false h1
   clear h0 h1 hw1
   go_enter Try.func41, Try.ntmps41
   go_wp2_with fail
   go_quiet (fail)
   go_wp2_with fail
   go_end0
   rw [← HW1.out]
   exact Played.still HW.out HR.out (HAL.out.trans ((pw_below_drewN (Below.refl _ _) _).mono HAL.out.size))
 ·
  have hd0 : decide (0 ≤ n) = false := decide_eq_false h0
  clear h0 hw1
  go_enter Try.func41, Try.ntmps41
  go_wp2_with fail
  go_quiet (fail)
  go_wp2_with fail
  go_end0
  rw [← HW1.out]
  exact Played.still HW.out HR.out (HAL.out.trans ((pw_below_drewN (Below.refl _ _) _).mono HAL.out.size))
set_option maxRecDepth 100000 in
set_option maxHeartbeats 2000000 in
theorem play1_none {M : Nat} {σ : Nat → Lk} {ls : Nat → List (List Int)} (W : WQ w B N g σ ls) (h : Rel M σ ls) (d a n : Int) (hd0 : d ≠ 0) (hd1 : d ≠ 1) (hd2 : d ≠ 2) (hd3 : d ≠ 3) (ha : Go.bits .and .i64 a 1 = 1) (A : Option Addr) (c m : Nat) :
  Calls Try.prog 41 #[.pointer (some ⟨g, 0, none⟩), .agg (stepA d a n A m c)] w fun e w' => Played w B N g M ls e w' := by
 have HW := Aside0.mk W
 have HR := Aside0.mk h
 have HAL := Aside0.mk (below_alloc (Below.refl w.heap.size w) (.cells (stepA d a n A m c) 62))
 have e0 : (d == 0) = false := by rw [beq_eq_false_iff_ne]; exact hd0
 have e1 : (d == 1) = false := by rw [beq_eq_false_iff_ne]; exact hd1
 have e2 : (d == 2) = false := by rw [beq_eq_false_iff_ne]; exact hd2
 have e3 : (d == 3) = false := by rw [beq_eq_false_iff_ne]; exact hd3
 unfold stepA at HAL ⊢
 clear W h hd0 hd1 hd2 hd3
 go_enter Try.func41, Try.ntmps41
 go_wp2_with fail
 go_end0
 exact Played.still HW.out HR.out HAL.out
end Go.Proofs.Ytekakngojhnleaa.Wj
