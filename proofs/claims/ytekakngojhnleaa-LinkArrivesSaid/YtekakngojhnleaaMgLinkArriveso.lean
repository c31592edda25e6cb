/- Parts of the proof of LinkArrives, merged: each is proved for all its inputs. -/
import Derived.Test.YtekakngojhnleaaMgLinkArrivesn
/- Links: LinkArrives: at most 300 steps. -/
namespace Go.Proofs.Ytekakngojhnleaa.Wm
open Go.Proofs.Ytekakngojhnleaa.Wl Go.RowKit Go.Maps Go.Proofs.Ytekakngojhnleaa.Mp Go.Proofs.Ytekakngojhnleaa.Mq Go.Proofs.Ytekakngojhnleaa.Lp Go.Proofs.Ytekakngojhnleaa.Lm Go.Proofs.Ytekakngojhnleaa.La Go.Proofs.Ytekakngojhnleaa.Lb Go.Proofs.Ytekakngojhnleaa.Le Go.Proofs.Ytekakngojhnleaa.Ow Go.Proofs.Ytekakngojhnleaa.Wd Go.Proofs.Ytekakngojhnleaa.We Go.Proofs.Ytekakngojhnleaa.Wf Go.Proofs.Ytekakngojhnleaa.Wg Go.Proofs.Ytekakngojhnleaa.Wh Go.Proofs.Ytekakngojhnleaa.Wi Go.Proofs.Ytekakngojhnleaa.Wj Go.Proofs.Ytekakngojhnleaa.Wk Go.Proofs.Ytekakngojhnleaa.Pr Go.Proofs.Ytekakngojhnleaa.Pq Go.Proofs.YtekakngojhnleaaW.PrintWords Go.Proofs.YtekakngojhnleaaW.PrintLast Go.Proofs.YtekakngojhnleaaW.PrintMore
set_option linter.unusedVariables false
set_option linter.unusedSimpArgs false
variable {w w' : World} {B N g : Nat}
set_option maxRecDepth 100000 in
set_option maxHeartbeats 8000000 in
theorem arrives_le (m : Nat) (h0 : 1 ≤ m) (h1 : m ≤ 16) (ad : Addr) (c : Nat) (xs : List St) (w : World) (hr : Kd.C kSt w (some ad) xs.length xs) (hl : xs.length ≤ 140737488351232) (h3 : xs.length ≤ 300) (hg : ∀ x ∈ xs, GoodS x) :
  Calls Try.prog 13 #[.int .i64 (m : Int), .slice (some ad) xs.length c] w fun e w' => e = .returned (.bool true) ∧ Below w.heap.size w w' := by
 have HR := Aside0.mk hr
 have HG := Aside0.mk hg
 have HF := Aside0.mk (fresh_yes m h0 h1 w)
 have HM := Aside0.mk (And.intro h0 h1)
 have H3 := Aside0.mk h3
 clear hr hg h0 h1 h3
 go_enter Try.func13, Try.ntmps13
 go_wp2_with fail
 refine HF.out.mono ?_
 rintro e w1 ⟨rfl, ⟨p, S, hwp⟩, hb⟩
 have HWP := Aside0.mk hwp
 have HR1 := Aside0.mk (show Rel 0 (fun _ => newL m) (fun _ => []) from ⟨fresh_two HM.out.1 HM.out.2, rfl, rfl, rfl, rfl⟩)
 have HB1 := Aside0.mk hb
 clear hwp hb
 have hax : Below w1.heap.size w1 (wX w1) := by unfold wX; exact below_alloc (Below.refl _ w1) _
 have HSD := Aside0.mk (sendP0 (WP.below HWP.out hax) HR1.out.two.ia (by omega) (Nat.zero_le _) (some ⟨w1.heap.size, 0, none⟩) 1 [120] (fun w' S' hf => x_C ((hf.k.2 w1.heap.size (by unfold wX; rw [size_al]; exact Nat.lt_succ_self _) (fun hs => by have := LP.lt (HWP.out.e 0 (by decide)) _ hs; omega)).trans (wX_blk w1))) (by decide))
 have HRS := Aside0.mk (HR1.out.send0 [120] (fun x hx => by rw [List.mem_singleton] at hx; omega))
 have HAX := Aside0.mk hax
 clear hax
 have kc := fun (w : World) (C : Array Value) (n c : Nat) => Lib.run_convert_bytes_const (P := Try.prog) w 30 5 C n c Try.underlying30 Try.underlying5
 go_wp2_with fail
 refine Calls.mono (show Calls Try.prog 43 _ (wX w1) _ from HSD.out) ?_
 rintro e w2 ⟨rfl, hw2, hb2⟩
 have H0 := Aside0.mk (show ∃ σ ls, Pl w w2 w.heap.size 0 σ ls from ⟨_, _, hw2, HRS.out, by rw [first_len _ _ (by decide)]; exact Nat.zero_le _, by rw [first_len _ _ (by decide)]; exact Nat.zero_le _, HB1.out.trans ((HAX.out.mono HWP.out.bsz).trans hb2)⟩)
 clear hw2 hb2 kc
 go_wp2_with fail
 clear HWP HR1 HB1 HSD HRS HF HAX
 go_loopw [7] (fun v7 wr => ∃ (i : Nat) (σ : Nat → Lk) (ls : Nat → List (List Int)), v7 = .int .i64 (i : Int) ∧ i ≤ 300 ∧ Aside0 (Pl w wr w.heap.size i σ ls)) (fun v7 _ => 300 - (intOf v7).toNat)
 case atStart => obtain ⟨σ, ls, h⟩ := H0.out; exact ⟨0, σ, ls, rfl, by omega, ⟨h⟩⟩
 case round =>
  obtain ⟨i, σ, ls, rfl, hi, HO⟩ := hrel
  clear H0
  by_cases hcc : i < xs.length ∧ i < 300
  ·
   obtain ⟨hc1, hc2⟩ := hcc
   have hd1 : decide ((i : Int) < (xs.length : Int)) = true := decide_eq_true (by omega)
   have hd4 : decide (i < xs.length) = true := decide_eq_true hc1
   have hd2 : decide ((i : Int) < 300) = true := decide_eq_true (by omega)
   have hd3 : decide (i < 300) = true := decide_eq_true hc2
   have hx := HG.out _ (rdS_mem xs i hc1)
   obtain ⟨_, A1, c1, hA, q0, q1, q2, q3, hbd⟩ := at_St HR.out (i : Int) (by omega) (by omega)
   cases hA
   rw [Int.toNat_natCast] at q0 q1 q2 q3
   have HBO := Aside0.mk (body_of HO.out.bl hbd)
   have r0 := pw_cell_below HO.out.bl q0
   have r1 := pw_cell_below HO.out.bl q1
   have r2 := pw_cell_below HO.out.bl q2
   have r3 := pw_cell_below HO.out.bl q3
   obtain ⟨x, hxx⟩ : ∃ x, x = rdS xs (i : Int) := ⟨_, rfl⟩
   rw [← hxx] at r0 r1 r2 r3 hx HBO
   have HPL := Aside0.mk (play_calls HO.out.wq HO.out.rel (by omega) (by unfold maxLen; omega) (by have := HO.out.o6; omega) (by have := HO.out.o7; omega) x.1 x.2.1 x.2.2.1 A1 c1 x.2.2.2 HBO.out hx.1 hx.2)
   unfold stepA at HPL
   have hil : (i : Int) < (xs.length : Int) := by omega
   have HC2 := Aside0.mk hc2
   have hwi : wrap64 ((i : Int) + 1) = (i : Int) + 1 := by unfold wrap64; omega
   clear q0 q1 q2 q3 hbd hx hxx hc1 hc2
   go_wp2_with fail
   refine HPL.out.mono ?_
   rintro e w2 ⟨rfl, ⟨σ', ls', hw2, hr2, hg2⟩, hb2⟩
   have HO2 := Aside0.mk (HO.out.play hw2 hr2 hg2 hb2)
   clear hw2 hr2 hg2 hb2 r0 r1 r2 r3
   go_wp2_with fail
   go_roundw
   case rel => exact ⟨i + 1, _, _, by go_num, HC2.out, HO2⟩
   case measure => exact meas5 HC2.out
  ·
   skip
   have hd1 : decide ((i : Int) < (xs.length : Int)) = false := decide_eq_false (by have := H3.out; omega)
   have hd4 : decide (i < xs.length) = false := decide_eq_false (by have := H3.out; omega)
   clear hcc HG HR
   obtain ⟨p', S', v', h', hwp⟩ := HO.out.wq
   obtain ⟨A2, c2, hv2⟩ := Kd.R_slice (hwp.q 2 (by decide) (by decide))
   obtain ⟨A3, c3, hv3⟩ := Kd.R_slice (hwp.q 3 (by decide) (by decide))
   have hl2 := (hwp.b 2 (by decide) (by decide)).1
   have hl3 := (hwp.b 3 (by decide) (by decide)).1
   rw [HO.out.rel.t0] at hl2
   rw [HO.out.rel.t1] at hl3
   obtain ⟨t0, ht0⟩ : ∃ t, t = (h' 2).length := ⟨_, rfl⟩
   obtain ⟨t1, ht1⟩ : ∃ t, t = (h' 3).length := ⟨_, rfl⟩
   obtain ⟨s0, hs0⟩ : ∃ t, t = (σ 0).sure := ⟨_, rfl⟩
   obtain ⟨s1, hs1⟩ : ∃ t, t = (σ 1).sure := ⟨_, rfl⟩
   have p0 : wr.cell? ⟨w.heap.size, 0, none⟩ = some (.pointer (some ⟨p' 0, 0, none⟩)) := blk_cell hwp.blk 0
   have p1 : wr.cell? ⟨w.heap.size, 1, none⟩ = some (.pointer (some ⟨p' 1, 0, none⟩)) := blk_cell hwp.blk 1
   have p2 : wr.cell? ⟨w.heap.size, 2, none⟩ = some (.slice A2 t0 c2) := by have e := blk_cell hwp.blk 2; rw [e, ht0]; exact congrArg some hv2
   have p3 : wr.cell? ⟨w.heap.size, 3, none⟩ = some (.slice A3 t1 c3) := by have e := blk_cell hwp.blk 3; rw [e, ht1]; exact congrArg some hv3
   have HL0 := Aside0.mk (hwp.e 0 (by decide))
   have HL1 := Aside0.mk (hwp.e 1 (by decide))
   have HT := Aside0.mk (show t0 = (σ 0).took.length ∧ t1 = (σ 1).took.length ∧ s0 = (σ 0).sure ∧ s1 = (σ 1).sure by rw [ht0, ht1, hl2, hl3]; exact ⟨rfl, rfl, hs0, hs1⟩)
   have HU := Aside0.mk (show t0 ≤ s0 + 64 ∧ t1 ≤ s1 + 64 ∧ s0 ≤ t0 ∧ s1 ≤ t1 ∧ t0 ≤ 301 ∧ t1 ≤ 301 by
    have e := HT.out; have r := HO.out.rel.two
    have := r.ia.s3; have := r.ib.s3; have := r.ia.s0; have := r.ia.s1; have := r.ib.s0; have := r.ib.s1; have := r.ia.tk; have := r.ib.tk
    omega)
   have HS0 := Aside0.mk (sure_at HL0.out HT.out.2.2.1)
   have HS1 := Aside0.mk (sure_at HL1.out HT.out.2.2.2)
   have HAR := Aside0.mk (show Arr w wr w.heap.size (i + 1) 0 s0 s1 (σ 0).took (σ 1).took σ ls from ⟨⟨i, HO.out.wq, by omega⟩, HO.out.rel, by have := HO.out.o6; omega, by have := HO.out.o7; omega, by rw [hs0, hs1]; exact After.start _ _, HO.out.bl⟩)
   have HMM := Aside0.mk (show i + 1 ≤ 1500 by omega)
   have hw1 : wrap64 ((t0 : Int) - (s0 : Int)) = (t0 : Int) - (s0 : Int) := by have := HU.out; unfold wrap64; omega
   have hw2 : wrap64 ((t1 : Int) - (s1 : Int)) = (t1 : Int) - (s1 : Int) := by have := HU.out; unfold wrap64; omega
   obtain ⟨R, hRR⟩ : ∃ R, R = max (t0 - s0) (t1 - s1) + 2 := ⟨_, rfl⟩
   have HRR := Aside0.mk (show t0 + 1 ≤ s0 + R ∧ t1 + 1 ≤ s1 + R ∧ 1 ≤ R ∧ R ≤ 66 by have := HU.out; omega)
   have hmax := max_if HU.out.2.2.1 HU.out.2.2.2.1 hRR
   have hw3 : wrap64 (R : Int) = (R : Int) := by have := HRR.out; unfold wrap64; omega
   obtain ⟨TA, hTA⟩ : ∃ T, T = (σ 0).took := ⟨_, rfl⟩
   obtain ⟨TB, hTB⟩ : ∃ T, T = (σ 1).took := ⟨_, rfl⟩
   have HTT := Aside0.mk (show TA.length = t0 ∧ TB.length = t1 by rw [hTA, hTB]; exact ⟨HT.out.1.symm, HT.out.2.1.symm⟩)
   rw [← hTA, ← hTB] at HAR
   clear hwp hv2 hv3 hl2 hl3 ht0 ht1 hs0 hs1 hi hRR hTA hTB HU HT
   go_wp2_with fail
   go_quiet ((first | exact Calls.quiet_of_same (HS0.out _) | exact Calls.quiet_of_same (HS1.out _)))
   go_wp2_with fail
   have HAX := Aside0.mk (HAR.out.below (pw_below_drewN (Below.refl _ _) nq))
   rw [hw3]
   clear hmax hw1 hw2 hw3 p0 p1 p2 p3 HS0 HS1 HL0 HL1 HAR
   go_loopw [9, 10, 11, 12] (fun v9 v10 v11 v12 wr => ∃ (n : Nat) (a b c : Value) (σ : Nat → Lk) (ls : Nat → List (List Int)), v9 = .int .i64 (n : Int) ∧ v10 = a ∧ v11 = b ∧ v12 = c ∧ n ≤ R ∧ Aside0 (Arr w wr w.heap.size (i + 1) n s0 s1 TA TB σ ls)) (fun v9 _ _ _ _ => R - (intOf v9).toNat)
   case atStart => exact ⟨0, _, _, _, σ, ls, rfl, rfl, rfl, rfl, Nat.zero_le _, HAX⟩
   case round =>
    obtain ⟨n, a, b, c, σ, ls, rfl, rfl, rfl, rfl, hn, HA⟩ := hrel
    clear HAX
    by_cases hlt : n < R
    ·
     have hR6 := HRR.out.2.2.2
     have hf1 : decide ((n : Int) < (R : Int)) = true := decide_eq_true (by omega)
     have hf2 : decide (n < R) = true := decide_eq_true hlt
     have hf3 : decide ((n : Int) < 100) = true := decide_eq_true (by omega)
     have hf4 : decide (n < 100) = true := decide_eq_true (by omega)
     have hwn : wrap64 ((n : Int) + 1) = (n : Int) + 1 := by unfold wrap64; omega
     have HIR := Aside0.mk (show n ≤ 66 by omega)
     have HLR := Aside0.mk hlt
     have hw0 : wrap64 0 = 0 := by unfold wrap64; omega
     have hw11 : wrap64 1 = 1 := by unfold wrap64; omega
     have hw12 : wrap64 2 = 2 := by unfold wrap64; omega
     obtain ⟨N, ⟨p4, S4, v4, h4, hwp⟩, hN⟩ := HA.out.wq
     have p0 : wr.cell? ⟨w.heap.size, 0, none⟩ = some (.pointer (some ⟨p4 0, 0, none⟩)) := blk_cell hwp.blk 0
     have HWP := Aside0.mk hwp
     have HN := Aside0.mk hN
     have HT0 := Aside0.mk (tick_calls (hwp.e 0 (by decide)))
     clear hwp hN hR6 hlt hn
     go_wp2_with fail
     refine HT0.out.mono ?_
     rintro e w2 ⟨rfl, hl2, hf2⟩
     have HW2 := Aside0.mk (WP.atEnd HWP.out (by decide) hl2 (Nat.le_refl _) hf2)
     have HB2 := Aside0.mk hf2.b
     have p1 : w2.cell? ⟨w.heap.size, 1, none⟩ = some (.pointer (some ⟨p4 1, 0, none⟩)) := blk_cell HW2.out.blk 1
     have HT1 := Aside0.mk (show Calls Try.prog 20 #[.pointer (some ⟨p4 1, 0, none⟩)] w2 fun e w' => e = .returned (.tuple #[]) ∧ LP w' w.heap.size N (Wd.upd S4 0 (S4 0) 1) (p4 1) (tickL (σ 1)) ∧ FrL w.heap.size (Wd.upd S4 0 (S4 0) 1) (Wd.upd S4 0 (S4 0) 1) w2 w' from tick_calls (HW2.out.e 1 (by decide)))
     clear hl2 hf2 p0
     go_wp2_with fail
     refine HT1.out.mono ?_
     rintro e w3 ⟨rfl, hl3, hf3⟩
     have HK0 := Aside0.mk (kr_0 HA.out (WP.atEnd HW2.out (by decide) hl3 (Nat.le_refl _) hf3) HN.out (HA.out.bl.trans (HB2.out.trans hf3.b)))
     clear hl3 hf3 p1
     go_wp2_with fail
     clear HT0 HT1 HWP HW2 HB2
     go_loopw [10, 11, 12] (fun v10 v11 v12 wr => ∃ (k : Nat) (a b : Value), v10 = .int .i64 (k : Int) ∧ v11 = a ∧ v12 = b ∧ k ≤ 2 ∧ Aside0 (KR w wr w.heap.size (i + 1) n σ ls k)) (fun v10 _ _ _ => 2 - (intOf v10).toNat)
     case atStart => exact ⟨0, _, _, rfl, rfl, rfl, by omega, HK0⟩
     case round =>
      obtain ⟨k, a, b, rfl, rfl, rfl, hk, HK⟩ := hrel
      clear HK0
      match k, hk with
      | 0, _ =>
       obtain ⟨N, hwq, hN⟩ := HK.out.wq
       have HFL := Aside0.mk (flushR0 hwq HK.out.rel.two.ia (by have := HMM.out; omega) (by have := HK.out.o6; have := HIR.out; omega))
       have HWQ := Aside0.mk hwq
       have HNN := Aside0.mk hN
       clear hwq hN
       obtain ⟨X, hX⟩ : ∃ X, X = stK σ ls 0 := ⟨_, rfl⟩
       have HX := Aside0.mk hX
       rw [← hX] at HFL HWQ
       clear hX
       go_wp2_with fail
       refine HFL.out.mono ?_
       rintro e w1 ⟨v5, hs5, rfl, hq5, hb5, ⟨p, S, v, h, hwp, hsl⟩, hbl⟩
       obtain ⟨A5, c5, rfl, _⟩ := Kd.Q_slice hq5
       obtain ⟨n5, hn5⟩ : ∃ n5, n5 = hs5.length := ⟨_, rfl⟩
       have HN5 := Aside0.mk (show n5 = hs5.length ∧ n5 = (outL (X.1 0)).1.length ∧ n5 ≤ 1000 by have e1 := hb5.1; have e2 := out_len HK.out.rel.two.ia; rw [← HX.out] at e2; exact ⟨hn5, hn5.trans e1, by omega⟩)
       have HCAR := Aside0.mk (car_start (o := 1) (by decide) HWQ.out (show Rel (i + 1) (Wd.upd X.1 0 (outL (X.1 0)).2) (Wd.upd X.2 6 (X.2 6 ++ (outL (X.1 0)).1)) by have e := HK.out.rel.out0; rw [← HX.out] at e; exact e) hwp hsl hq5 hb5 (fun f hf => by show f ∈ Wd.upd X.2 6 _ 6; rw [Wd.upd_same]; exact List.mem_append.2 (.inr hf)))
       have HB1 := Aside0.mk (HK.out.bl.trans hbl)
       rw [← hn5]
       have hlen5 := hn5
       clear hn5 hwp hsl hbl hb5
       rcases A5 with _ | ad5
       ·
        have HZ := Aside0.mk (show n5 = 0 by
         rcases Nat.eq_zero_or_pos hs5.length with e | e
         ·
          rw [hlen5]; exact e
         ·
          obtain ⟨_, e2, _⟩ := (Kd.Q_reads' hq5).2.2.2.2 e; cases e2)
        clear hq5 hlen5
        go_wp2_with fail
        go_loopw [12] (fun v12 wr => v12 = .int .i64 0 ∧ Aside0 (Car wr w.heap.size N w.heap.size (i + 1) (Wd.upd X.1 0 (outL (X.1 0)).2) (Wd.upd X.2 6 (X.2 6 ++ (outL (X.1 0)).1)) 1 (.slice none hs5.length c5) hs5 (outL (X.1 0)).1 0) ∧ Aside0 (Below w.heap.size w wr)) (fun v12 _ => 1 - (intOf v12).toNat)
        case atStart => exact ⟨rfl, HCAR, HB1⟩
        case round =>
         obtain ⟨rfl, HC, HBw⟩ := hrel
         clear HCAR HB1
         have hz := HZ.out
         subst hz
         go_wp2_with fail
         go_roundw
         case rel => exact ⟨0 + 1, _, _, by go_num, rfl, rfl, by omega, ⟨kr_next0 HK.out HX.out HNN.out HN5.out.2.2 HC.out HN5.out.2.1 HBw.out⟩⟩
         case measure => simp [intOf]
       ·
        clear hq5 hlen5
        go_wp2_with fail
        go_loopw [12] (fun v12 wr => ∃ j : Nat, v12 = .int .i64 (j : Int) ∧ j ≤ n5 ∧ Aside0 (Car wr w.heap.size N w.heap.size (i + 1) (Wd.upd X.1 0 (outL (X.1 0)).2) (Wd.upd X.2 6 (X.2 6 ++ (outL (X.1 0)).1)) 1 (.slice (some ad5) hs5.length c5) hs5 (outL (X.1 0)).1 j) ∧ Aside0 (Below w.heap.size w wr)) (fun v12 _ => n5 - (intOf v12).toNat)
        case atStart => exact ⟨0, rfl, Nat.zero_le _, HCAR, HB1⟩
        case round =>
         obtain ⟨j, rfl, hj, HC, HBw⟩ := hrel
         clear HCAR HB1
         by_cases hlt : j < n5
         ·
          obtain ⟨p, S, v, h, hwp, hdj⟩ := HC.out.wp
          have hjl : j < (outL (X.1 0)).1.length := by rw [← HN5.out.2.1]; exact hlt
          have HJL := Aside0.mk hjl
          have HLT := Aside0.mk hlt
          have HWP := Aside0.mk hwp
          have HDJ := Aside0.mk hdj
          obtain ⟨hd, hce, hbd⟩ := q_row HC.out.q HC.out.b HJL.out
          have hxp : wr.cell? ⟨w.heap.size, 1, none⟩ = some (.pointer (some ⟨p 1, 0, none⟩)) := blk_cell hwp.blk 1
          have HXP := Aside0.mk hxp
          have HCE := Aside0.mk hce
          have HBD := Aside0.mk hbd
          have HRI := Aside0.mk (rel_in1 HC.out.rel (by have := HMM.out; omega) (HC.out.sub _ (List.getElem_mem HJL.out)))
          have hjn : (j : Int) < (n5 : Int) := by omega
          have hd0 : decide ((j : Int) < (n5 : Int)) = true := decide_eq_true hjn
          have hd1 : decide (j < n5) = true := decide_eq_true hlt
          have hwj : wrap64 ((j : Int) + 1) = (j : Int) + 1 := by have := HN5.out.2.2; unfold wrap64; omega
          have hw0 : wrap64 0 = 0 := by unfold wrap64; omega
          have hw11 : wrap64 1 = 1 := by unfold wrap64; omega
          have HU := Aside0.mk (below_drew (Below.refl wr.heap.size wr))
          have HWd := Aside0.mk (hwp.below HU.out)
          have HCd := Aside0.mk (car_below HC.out HU.out)
          have HIN := Aside0.mk (in_at1 HWd.out HC.out.rel HMM.out (n_max HNN.out HIR.out (by decide) hj HN5.out.2.2) (HC.out.sub _ (List.getElem_mem HJL.out)) (hbd.keep (Keep5.below HU.out)))
          have HHN := Aside0.mk (Kd.R_reads' hbd).1
          have HS0 : wr.drew.cell? ⟨w.heap.size, 1, none⟩ = some (.pointer (some ⟨p 1, 0, none⟩)) ∧ wr.drew.cell? (ad5.add j) = some (.slice hd.a hd.n hd.c) := ⟨hxp, hce⟩
          clear hwp hdj hxp hce hbd hjl hlt
          go_wp2_with fail
          refine start_ (n := 12) (S := fun w' => w'.cell? ⟨w.heap.size, 1, none⟩ = some (.pointer (some ⟨p 1, 0, none⟩)) ∧ w'.cell? (ad5.add j) = some (.slice hd.a hd.n hd.c)) (ds := [11]) #[false, false, false, false, false, false, false, false, false, false, false, false] (by kernel_rfl) rfl rfl HS0 (fun hHeld => ?_)
          refine pure_ (i := 0) (N := some 110) (v := ?_) (a' := ?_) #[true, false, false, false, false, false, false, false, false, false, false, false] rfl rfl (by kernel_rfl) (fun _ _ _ h => h) (Or.inl ⟨by rfl, ?_⟩) ?_ ?_
          rotate_left
          ·
           intro w'
           go_simp
           try with_reducible rfl
          rotate_left
          ·
           simp only [Act.put, List.setIfInBounds_toArray, List.set_cons_zero, List.set_cons_succ, i64_w, i32_w]
           rfl
          refine pure_ (i := 1) (N := some 111) (v := ?_) (a' := ?_) #[true, true, false, false, false, false, false, false, false, false, false, false] rfl rfl (by kernel_rfl) (fun _ _ _ h => h) (Or.inl ⟨by rfl, ?_⟩) ?_ ?_
          rotate_left
          ·
           intro w'
           go_simp
           try with_reducible rfl
          rotate_left
          ·
           simp only [Act.put, List.setIfInBounds_toArray, List.set_cons_zero, List.set_cons_succ, i64_w, i32_w]
           rfl
          refine pure_ (i := 2) (N := some 112) (v := ?_) (a' := ?_) #[true, true, true, false, false, false, false, false, false, false, false, false] rfl rfl (by kernel_rfl) (fun _ _ _ h => h) (Or.inl ⟨by rfl, ?_⟩) ?_ ?_
          rotate_left
          ·
           intro w'
           go_simp
           try with_reducible rfl
          rotate_left
          ·
           simp only [Act.put, List.setIfInBounds_toArray, List.set_cons_zero, List.set_cons_succ, i64_w, i32_w]
           rfl
          refine pure_ (i := 3) (N := some 113) (v := ?_) (a' := ?_) #[true, true, true, true, false, false, false, false, false, false, false, false] rfl rfl (by kernel_rfl) (fun _ _ _ h => h) (Or.inl ⟨by rfl, ?_⟩) ?_ ?_
          rotate_left
          ·
           intro w'
           go_simp
           try with_reducible rfl
          rotate_left
          ·
           simp only [Act.put, List.setIfInBounds_toArray, List.set_cons_zero, List.set_cons_succ, i64_w, i32_w]
           rfl
          refine pure_ (i := 4) (N := some 114) (v := ?_) (a' := ?_) #[true, true, true, true, true, false, false, false, false, false, false, false] rfl rfl (by kernel_rfl) (fun _ _ _ h => h) (Or.inl ⟨by rfl, ?_⟩) ?_ ?_
          rotate_left
          ·
           intro w'
           go_simp
           try with_reducible rfl
          rotate_left
          ·
           simp only [Act.put, List.setIfInBounds_toArray, List.set_cons_zero, List.set_cons_succ, i64_w, i32_w]
           rfl
          refine pure_ (i := 5) (N := some 115) (v := ?_) (a' := ?_) #[true, true, true, true, true, true, false, false, false, false, false, false] rfl rfl (by kernel_rfl) (fun _ _ _ h => h) (Or.inl ⟨by rfl, ?_⟩) ?_ ?_
          rotate_left
          ·
           intro w'
           go_simp
           try with_reducible rfl
          rotate_left
          ·
           simp only [Act.put, List.setIfInBounds_toArray, List.set_cons_zero, List.set_cons_succ, i64_w, i32_w]
           rfl
          refine take_ (i := 6) (N := some 116) (v := ?_) (a' := ?_) #[true, true, true, true, true, true, true, false, false, false, false, false] rfl rfl (by kernel_rfl) (fun _ _ _ h => h) (Or.inl ⟨by rfl, ?_⟩) hHeld ?_ ?_
          rotate_left
          ·
           rintro w' ⟨q1, q2⟩
           go_simp
           try with_reducible rfl
          rotate_left
          ·
           simp only [Act.put, List.setIfInBounds_toArray, List.set_cons_zero, List.set_cons_succ, i64_w, i32_w]
           rfl
          refine pure_ (i := 7) (N := some 117) (v := ?_) (a' := ?_) #[true, true, true, true, true, true, true, true, false, false, false, false] rfl rfl (by kernel_rfl) (fun _ _ _ h => h) (Or.inl ⟨by rfl, ?_⟩) ?_ ?_
          rotate_left
          ·
           intro w'
           go_simp
           try with_reducible rfl
          rotate_left
          ·
           simp only [Act.put, List.setIfInBounds_toArray, List.set_cons_zero, List.set_cons_succ, i64_w, i32_w]
           rfl
          refine pure_ (i := 8) (N := some 118) (v := ?_) (a' := ?_) #[true, true, true, true, true, true, true, true, true, false, false, false] rfl rfl (by kernel_rfl) (fun _ _ _ h => h) (Or.inl ⟨by rfl, ?_⟩) ?_ ?_
          rotate_left
          ·
           intro w'
           go_simp
           try with_reducible rfl
          rotate_left
          ·
           simp only [Act.put, List.setIfInBounds_toArray, List.set_cons_zero, List.set_cons_succ, i64_w, i32_w]
           rfl
          refine pure_ (i := 9) (N := some 119) (v := ?_) (a' := ?_) #[true, true, true, true, true, true, true, true, true, true, false, false] rfl rfl (by kernel_rfl) (fun _ _ _ h => h) (Or.inl ⟨by rfl, ?_⟩) ?_ ?_
          rotate_left
          ·
           intro w'
           go_simp
           try with_reducible rfl
          rotate_left
          ·
           simp only [Act.put, List.setIfInBounds_toArray, List.set_cons_zero, List.set_cons_succ, i64_w, i32_w]
           rfl
          refine take_ (i := 10) (N := some 120) (v := ?_) (a' := ?_) #[true, true, true, true, true, true, true, true, true, true, true, false] rfl rfl (by kernel_rfl) (fun _ _ _ h => h) (Or.inl ⟨by rfl, ?_⟩) hHeld ?_ ?_
          rotate_left
          ·
           rintro w' ⟨q1, q2⟩
           go_simp
           try with_reducible rfl
          rotate_left
          ·
           simp only [Act.put, List.setIfInBounds_toArray, List.set_cons_zero, List.set_cons_succ, i64_w, i32_w]
           rfl
          refine last_ (i := 11) (N := some 121) #[true, true, true, true, true, true, true, true, true, true, true, true] rfl rfl (by kernel_rfl) (by decide) (fun K hK => ?_)
          refine goes_ Try.func22 (by kernel_rfl) rfl #[.pointer (some ⟨p 1, 0, none⟩), .slice hd.a hd.n hd.c] (by rfl) rfl rfl (by first | rfl | (simp [Act.eval]; done) | kernel_rfl) ?_
          rw [HHN.out]
          refine HIN.out.mono ?_
          rintro e w5 ⟨rfl, S', hl5, hf5⟩
          have HC5 := Aside0.mk (Car.next (by decide) HCd.out HWd.out HDJ.out HJL.out hl5 hf5 HRI.out)
          have HB5 := Aside0.mk hf5.b
          clear hl5 hf5
          refine ⟨_, rfl, ?_⟩
          refine hK.out _ _ ?_
          clear hK K
          refine done_ (by kernel_rfl) ?_
          go_wp2_with fail
          go_roundw
          case rel => exact ⟨j + 1, by go_num, HLT.out, HC5, ⟨HBw.out.trans (((below_drew (Below.refl wr.heap.size wr)).mono HBw.out.size).trans HB5.out)⟩⟩
          case measure => first | exact meas4 HLT.out | (rw [hwj]; exact meas4 HLT.out)
         ·
          have hjn : j = n5 := by omega
          have hd0 : decide ((j : Int) < (n5 : Int)) = false := decide_eq_false (by omega)
          have hd1 : decide (j < n5) = false := decide_eq_false hlt
          have HJN := Aside0.mk hjn
          clear hjn hlt
          go_wp2_with fail
          go_roundw
          case rel => exact ⟨0 + 1, _, _, by go_num, rfl, rfl, by omega, ⟨kr_next0 HK.out HX.out HNN.out HN5.out.2.2 (by have e := HC.out; rw [HJN.out] at e; exact e) HN5.out.2.1 HBw.out⟩⟩
          case measure => simp [intOf]
      | 1, _ =>
       obtain ⟨N, hwq, hN⟩ := HK.out.wq
       have HFL := Aside0.mk (flushR1 hwq HK.out.rel.two.ib (by have := HMM.out; omega) (by have := HK.out.o7; have := HIR.out; omega))
       have HWQ := Aside0.mk hwq
       have HNN := Aside0.mk hN
       clear hwq hN
       obtain ⟨X, hX⟩ : ∃ X, X = stK σ ls 1 := ⟨_, rfl⟩
       have HX := Aside0.mk hX
       rw [← hX] at HFL HWQ
       clear hX
       go_wp2_with fail
       refine HFL.out.mono ?_
       rintro e w1 ⟨v5, hs5, rfl, hq5, hb5, ⟨p, S, v, h, hwp, hsl⟩, hbl⟩
       obtain ⟨A5, c5, rfl, _⟩ := Kd.Q_slice hq5
       obtain ⟨n5, hn5⟩ : ∃ n5, n5 = hs5.length := ⟨_, rfl⟩
       have HN5 := Aside0.mk (show n5 = hs5.length ∧ n5 = (outL (X.1 1)).1.length ∧ n5 ≤ 1000 by have e1 := hb5.1; have e2 := out_len HK.out.rel.two.ib; rw [← HX.out] at e2; exact ⟨hn5, hn5.trans e1, by omega⟩)
       have HCAR := Aside0.mk (car_start (o := 0) (by decide) HWQ.out (show Rel (i + 1) (Wd.upd X.1 1 (outL (X.1 1)).2) (Wd.upd X.2 7 (X.2 7 ++ (outL (X.1 1)).1)) by have e := HK.out.rel.out1; rw [← HX.out] at e; exact e) hwp hsl hq5 hb5 (fun f hf => by show f ∈ Wd.upd X.2 7 _ 7; rw [Wd.upd_same]; exact List.mem_append.2 (.inr hf)))
       have HB1 := Aside0.mk (HK.out.bl.trans hbl)
       rw [← hn5]
       have hlen5 := hn5
       clear hn5 hwp hsl hbl hb5
       rcases A5 with _ | ad5
       ·
        have HZ := Aside0.mk (show n5 = 0 by
         rcases Nat.eq_zero_or_pos hs5.length with e | e
         ·
          rw [hlen5]; exact e
         ·
          obtain ⟨_, e2, _⟩ := (Kd.Q_reads' hq5).2.2.2.2 e; cases e2)
        clear hq5 hlen5
        go_wp2_with fail
        go_loopw [12] (fun v12 wr => v12 = .int .i64 0 ∧ Aside0 (Car wr w.heap.size N w.heap.size (i + 1) (Wd.upd X.1 1 (outL (X.1 1)).2) (Wd.upd X.2 7 (X.2 7 ++ (outL (X.1 1)).1)) 0 (.slice none hs5.length c5) hs5 (outL (X.1 1)).1 0) ∧ Aside0 (Below w.heap.size w wr)) (fun v12 _ => 1 - (intOf v12).toNat)
        case atStart => exact ⟨rfl, HCAR, HB1⟩
        case round =>
         obtain ⟨rfl, HC, HBw⟩ := hrel
         clear HCAR HB1
         have hz := HZ.out
         subst hz
         go_wp2_with fail
         go_roundw
         case rel => exact ⟨1 + 1, _, _, by go_num, rfl, rfl, by omega, ⟨kr_next1 HK.out HX.out HNN.out HN5.out.2.2 HC.out HN5.out.2.1 HBw.out⟩⟩
         case measure => simp [intOf]
       ·
        clear hq5 hlen5
        go_wp2_with fail
        go_loopw [12] (fun v12 wr => ∃ j : Nat, v12 = .int .i64 (j : Int) ∧ j ≤ n5 ∧ Aside0 (Car wr w.heap.size N w.heap.size (i + 1) (Wd.upd X.1 1 (outL (X.1 1)).2) (Wd.upd X.2 7 (X.2 7 ++ (outL (X.1 1)).1)) 0 (.slice (some ad5) hs5.length c5) hs5 (outL (X.1 1)).1 j) ∧ Aside0 (Below w.heap.size w wr)) (fun v12 _ => n5 - (intOf v12).toNat)
        case atStart => exact ⟨0, rfl, Nat.zero_le _, HCAR, HB1⟩
        case round =>
         obtain ⟨j, rfl, hj, HC, HBw⟩ := hrel
         clear HCAR HB1
         by_cases hlt : j < n5
         ·
          obtain ⟨p, S, v, h, hwp, hdj⟩ := HC.out.wp
          have hjl : j < (outL (X.1 1)).1.length := by rw [← HN5.out.2.1]; exact hlt
          have HJL := Aside0.mk hjl
          have HLT := Aside0.mk hlt
          have HWP := Aside0.mk hwp
          have HDJ := Aside0.mk hdj
          obtain ⟨hd, hce, hbd⟩ := q_row HC.out.q HC.out.b HJL.out
          have hxp : wr.cell? ⟨w.heap.size, 0, none⟩ = some (.pointer (some ⟨p 0, 0, none⟩)) := blk_cell hwp.blk 0
          have HXP := Aside0.mk hxp
          have HCE := Aside0.mk hce
          have HBD := Aside0.mk hbd
          have HRI := Aside0.mk (rel_in0 HC.out.rel (by have := HMM.out; omega) (HC.out.sub _ (List.getElem_mem HJL.out)))
          have hjn : (j : Int) < (n5 : Int) := by omega
          have hd0 : decide ((j : Int) < (n5 : Int)) = true := decide_eq_true hjn
          have hd1 : decide (j < n5) = true := decide_eq_true hlt
          have hwj : wrap64 ((j : Int) + 1) = (j : Int) + 1 := by have := HN5.out.2.2; unfold wrap64; omega
          have hw0 : wrap64 0 = 0 := by unfold wrap64; omega
          have hw11 : wrap64 1 = 1 := by unfold wrap64; omega
          have HU := Aside0.mk (below_drew (Below.refl wr.heap.size wr))
          have HWd := Aside0.mk (hwp.below HU.out)
          have HCd := Aside0.mk (car_below HC.out HU.out)
          have HIN := Aside0.mk (in_at0 HWd.out HC.out.rel HMM.out (n_max HNN.out HIR.out (by decide) hj HN5.out.2.2) (HC.out.sub _ (List.getElem_mem HJL.out)) (hbd.keep (Keep5.below HU.out)))
          have HHN := Aside0.mk (Kd.R_reads' hbd).1
          have HS0 : wr.drew.cell? ⟨w.heap.size, 0, none⟩ = some (.pointer (some ⟨p 0, 0, none⟩)) ∧ wr.drew.cell? (ad5.add j) = some (.slice hd.a hd.n hd.c) := ⟨hxp, hce⟩
          clear hwp hdj hxp hce hbd hjl hlt
          go_wp2_with fail
          refine start_ (n := 12) (S := fun w' => w'.cell? ⟨w.heap.size, 0, none⟩ = some (.pointer (some ⟨p 0, 0, none⟩)) ∧ w'.cell? (ad5.add j) = some (.slice hd.a hd.n hd.c)) (ds := [11]) #[false, false, false, false, false, false, false, false, false, false, false, false] (by kernel_rfl) rfl rfl HS0 (fun hHeld => ?_)
          refine pure_ (i := 0) (N := some 110) (v := ?_) (a' := ?_) #[true, false, false, false, false, false, false, false, false, false, false, false] rfl rfl (by kernel_rfl) (fun _ _ _ h => h) (Or.inl ⟨by rfl, ?_⟩) ?_ ?_
          rotate_left
          ·
           intro w'
           go_simp
           try with_reducible rfl
          rotate_left
          ·
           simp only [Act.put, List.setIfInBounds_toArray, List.set_cons_zero, List.set_cons_succ, i64_w, i32_w]
           rfl
          refine pure_ (i := 1) (N := some 111) (v := ?_) (a' := ?_) #[true, true, false, false, false, false, false, false, false, false, false, false] rfl rfl (by kernel_rfl) (fun _ _ _ h => h) (Or.inl ⟨by rfl, ?_⟩) ?_ ?_
          rotate_left
          ·
           intro w'
           go_simp
           try with_reducible rfl
          rotate_left
          ·
           simp only [Act.put, List.setIfInBounds_toArray, List.set_cons_zero, List.set_cons_succ, i64_w, i32_w]
           rfl
          refine pure_ (i := 2) (N := some 112) (v := ?_) (a' := ?_) #[true, true, true, false, false, false, false, false, false, false, false, false] rfl rfl (by kernel_rfl) (fun _ _ _ h => h) (Or.inl ⟨by rfl, ?_⟩) ?_ ?_
          rotate_left
          ·
           intro w'
           go_simp
           try with_reducible rfl
          rotate_left
          ·
           simp only [Act.put, List.setIfInBounds_toArray, List.set_cons_zero, List.set_cons_succ, i64_w, i32_w]
           rfl
          refine pure_ (i := 3) (N := some 113) (v := ?_) (a' := ?_) #[true, true, true, true, false, false, false, false, false, false, false, false] rfl rfl (by kernel_rfl) (fun _ _ _ h => h) (Or.inl ⟨by rfl, ?_⟩) ?_ ?_
          rotate_left
          ·
           intro w'
           go_simp
           try with_reducible rfl
          rotate_left
          ·
           simp only [Act.put, List.setIfInBounds_toArray, List.set_cons_zero, List.set_cons_succ, i64_w, i32_w]
           rfl
          refine pure_ (i := 4) (N := some 114) (v := ?_) (a' := ?_) #[true, true, true, true, true, false, false, false, false, false, false, false] rfl rfl (by kernel_rfl) (fun _ _ _ h => h) (Or.inl ⟨by rfl, ?_⟩) ?_ ?_
          rotate_left
          ·
           intro w'
           go_simp
           try with_reducible rfl
          rotate_left
          ·
           simp only [Act.put, List.setIfInBounds_toArray, List.set_cons_zero, List.set_cons_succ, i64_w, i32_w]
           rfl
          refine pure_ (i := 5) (N := some 115) (v := ?_) (a' := ?_) #[true, true, true, true, true, true, false, false, false, false, false, false] rfl rfl (by kernel_rfl) (fun _ _ _ h => h) (Or.inl ⟨by rfl, ?_⟩) ?_ ?_
          rotate_left
          ·
           intro w'
           go_simp
           try with_reducible rfl
          rotate_left
          ·
           simp only [Act.put, List.setIfInBounds_toArray, List.set_cons_zero, List.set_cons_succ, i64_w, i32_w]
           rfl
          refine take_ (i := 6) (N := some 116) (v := ?_) (a' := ?_) #[true, true, true, true, true, true, true, false, false, false, false, false] rfl rfl (by kernel_rfl) (fun _ _ _ h => h) (Or.inl ⟨by rfl, ?_⟩) hHeld ?_ ?_
          rotate_left
          ·
           rintro w' ⟨q1, q2⟩
           go_simp
           try with_reducible rfl
          rotate_left
          ·
           simp only [Act.put, List.setIfInBounds_toArray, List.set_cons_zero, List.set_cons_succ, i64_w, i32_w]
           rfl
          refine pure_ (i := 7) (N := some 117) (v := ?_) (a' := ?_) #[true, true, true, true, true, true, true, true, false, false, false, false] rfl rfl (by kernel_rfl) (fun _ _ _ h => h) (Or.inl ⟨by rfl, ?_⟩) ?_ ?_
          rotate_left
          ·
           intro w'
           go_simp
           try with_reducible rfl
          rotate_left
          ·
           simp only [Act.put, List.setIfInBounds_toArray, List.set_cons_zero, List.set_cons_succ, i64_w, i32_w]
           rfl
          refine pure_ (i := 8) (N := some 118) (v := ?_) (a' := ?_) #[true, true, true, true, true, true, true, true, true, false, false, false] rfl rfl (by kernel_rfl) (fun _ _ _ h => h) (Or.inl ⟨by rfl, ?_⟩) ?_ ?_
          rotate_left
          ·
           intro w'
           go_simp
           try with_reducible rfl
          rotate_left
          ·
           simp only [Act.put, List.setIfInBounds_toArray, List.set_cons_zero, List.set_cons_succ, i64_w, i32_w]
           rfl
          refine pure_ (i := 9) (N := some 119) (v := ?_) (a' := ?_) #[true, true, true, true, true, true, true, true, true, true, false, false] rfl rfl (by kernel_rfl) (fun _ _ _ h => h) (Or.inl ⟨by rfl, ?_⟩) ?_ ?_
          rotate_left
          ·
           intro w'
           go_simp
           try with_reducible rfl
          rotate_left
          ·
           simp only [Act.put, List.setIfInBounds_toArray, List.set_cons_zero, List.set_cons_succ, i64_w, i32_w]
           rfl
          refine take_ (i := 10) (N := some 120) (v := ?_) (a' := ?_) #[true, true, true, true, true, true, true, true, true, true, true, false] rfl rfl (by kernel_rfl) (fun _ _ _ h => h) (Or.inl ⟨by rfl, ?_⟩) hHeld ?_ ?_
          rotate_left
          ·
           rintro w' ⟨q1, q2⟩
           go_simp
           try with_reducible rfl
          rotate_left
          ·
           simp only [Act.put, List.setIfInBounds_toArray, List.set_cons_zero, List.set_cons_succ, i64_w, i32_w]
           rfl
          refine last_ (i := 11) (N := some 121) #[true, true, true, true, true, true, true, true, true, true, true, true] rfl rfl (by kernel_rfl) (by decide) (fun K hK => ?_)
          refine goes_ Try.func22 (by kernel_rfl) rfl #[.pointer (some ⟨p 0, 0, none⟩), .slice hd.a hd.n hd.c] (by rfl) rfl rfl (by first | rfl | (simp [Act.eval]; done) | kernel_rfl) ?_
          rw [HHN.out]
          refine HIN.out.mono ?_
          rintro e w5 ⟨rfl, S', hl5, hf5⟩
          have HC5 := Aside0.mk (Car.next (by decide) HCd.out HWd.out HDJ.out HJL.out hl5 hf5 HRI.out)
          have HB5 := Aside0.mk hf5.b
          clear hl5 hf5
          refine ⟨_, rfl, ?_⟩
          refine hK.out _ _ ?_
          clear hK K
          refine done_ (by kernel_rfl) ?_
          go_wp2_with fail
          go_roundw
          case rel => exact ⟨j + 1, by go_num, HLT.out, HC5, ⟨HBw.out.trans (((below_drew (Below.refl wr.heap.size wr)).mono HBw.out.size).trans HB5.out)⟩⟩
          case measure => first | exact meas4 HLT.out | (rw [hwj]; exact meas4 HLT.out)
         ·
          have hjn : j = n5 := by omega
          have hd0 : decide ((j : Int) < (n5 : Int)) = false := decide_eq_false (by omega)
          have hd1 : decide (j < n5) = false := decide_eq_false hlt
          have HJN := Aside0.mk hjn
          clear hjn hlt
          go_wp2_with fail
          go_roundw
          case rel => exact ⟨1 + 1, _, _, by go_num, rfl, rfl, by omega, ⟨kr_next1 HK.out HX.out HNN.out HN5.out.2.2 (by have e := HC.out; rw [HJN.out] at e; exact e) HN5.out.2.1 HBw.out⟩⟩
          case measure => simp [intOf]
      | 2, _ =>
       go_wp2_with fail
       have HA2 := Aside0.mk (KR.round HA.out.rel HA.out.af HMM.out HK.out)
       go_roundw
       case rel => exact ⟨n + 1, _, _, _, _, _, by go_num, rfl, rfl, rfl, HLR.out, HA2⟩
       case measure => first | exact meas6 HLR.out | (rw [hwn]; exact meas6 HLR.out)
    ·
     have hnR : n = R := by omega
     have hf1 : decide ((n : Int) < (R : Int)) = false := decide_eq_false (by omega)
     have hf2 : decide (n < R) = false := decide_eq_false hlt
     have HFI := Aside0.mk (fin_of HA.out.rel HA.out.af (by have e := HRR.out; have e2 := HTT.out; omega) (by have e := HRR.out; have e2 := HTT.out; omega) (by have e := HRR.out; omega))
     obtain ⟨NQ, hnq, _⟩ := HA.out.wq
     have HBG := Aside0.mk (begins_true hnq HA.out.rel (by have := HMM.out; omega))
     clear hnq
     clear hnR hlt hn
     obtain ⟨Y, hY⟩ : ∃ Y, Y = (told (told σ 0) 1, toldL (told σ 0) (toldL σ ls 0 4) 1 5) := ⟨_, rfl⟩
     rw [← hY] at HFI
     have HY := Aside0.mk hY
     clear hY
     go_wp2_with fail
     refine HBG.out.mono ?_
     rintro e w2 ⟨rfl, hq2, hb2⟩
     have HW0 := Aside0.mk (show ∃ N, WQ w2 w.heap.size N w.heap.size Y.1 Y.2 from by rw [HY.out]; exact ⟨_, hq2⟩)
     have HBb := Aside0.mk (HA.out.bl.trans hb2)
     clear hq2 hb2
     go_wp2_with fail
     clear HBG HA
     go_loopw [14] (fun v14 wr => ∃ (k : Nat), v14 = .int .i64 (k : Int) ∧ k ≤ 2 ∧ Aside0 (∃ N, WQ wr w.heap.size N w.heap.size Y.1 Y.2) ∧ Aside0 (Below w.heap.size w wr)) (fun v14 _ => 2 - (intOf v14).toNat)
     case atStart => exact ⟨0, rfl, by omega, HW0, HBb⟩
     case round =>
      obtain ⟨k, rfl, hk, HW, HBw⟩ := hrel
      clear HW0 HBb
      match k, hk with
      | 0, _ =>
       obtain ⟨N, p, S, v, h, hwp⟩ := HW.out
       obtain ⟨A4, c4, hv4⟩ := Kd.R_slice (hwp.q 5 (by decide) (by decide))
       obtain ⟨A2, c2, hv2⟩ := Kd.R_slice (hwp.q 2 (by decide) (by decide))
       have hl4 := (hwp.b 5 (by decide) (by decide)).1
       have hl2 := (hwp.b 2 (by decide) (by decide)).1
       obtain ⟨t, ht⟩ : ∃ t, t = (h 2).length := ⟨_, rfl⟩
       have ht4 : (h 5).length = t := by rw [ht, hl4, hl2]; exact HFI.out.d0
       have p0 : wr.cell? ⟨w.heap.size, 0, none⟩ = some (.pointer (some ⟨p 0, 0, none⟩)) := blk_cell hwp.blk 0
       have p4 : wr.cell? ⟨w.heap.size, 5, none⟩ = some (.slice A4 t c4) := by have e := blk_cell hwp.blk 5; rw [e, ← ht4]; exact congrArg some hv4
       have p2 : wr.cell? ⟨w.heap.size, 2, none⟩ = some (.slice A2 t c2) := by have e := blk_cell hwp.blk 2; rw [e, ht]; exact congrArg some hv2
       have HSU := Aside0.mk (sure_at (hwp.e 0 (by decide)) (s := t) (by rw [ht, hl2]; exact HFI.out.s0.symm))
       have hw0 : wrap64 0 = 0 := by unfold wrap64; omega
       have hw11 : wrap64 1 = 1 := by unfold wrap64; omega
       clear hwp hv4 hv2 hl4 hl2 ht ht4
       go_wp2_with fail
       go_quiet ((exact Calls.quiet_of_same (HSU.out _)))
       go_wp2_with fail
       go_roundw
       case rel => exact ⟨0 + 1, by go_num, by omega, ⟨let ⟨N, h1⟩ := HW.out; ⟨N, WQ.below h1 (pw_below_drewN (Below.refl _ _) _)⟩⟩, ⟨HBw.out.trans ((pw_below_drewN (Below.refl _ _) _).mono HBw.out.size)⟩⟩
       case measure => simp [intOf]
      | 1, _ =>
       obtain ⟨N, p, S, v, h, hwp⟩ := HW.out
       obtain ⟨A4, c4, hv4⟩ := Kd.R_slice (hwp.q 4 (by decide) (by decide))
       obtain ⟨A2, c2, hv2⟩ := Kd.R_slice (hwp.q 3 (by decide) (by decide))
       have hl4 := (hwp.b 4 (by decide) (by decide)).1
       have hl2 := (hwp.b 3 (by decide) (by decide)).1
       obtain ⟨t, ht⟩ : ∃ t, t = (h 3).length := ⟨_, rfl⟩
       have ht4 : (h 4).length = t := by rw [ht, hl4, hl2]; exact HFI.out.d1
       have p0 : wr.cell? ⟨w.heap.size, 1, none⟩ = some (.pointer (some ⟨p 1, 0, none⟩)) := blk_cell hwp.blk 1
       have p4 : wr.cell? ⟨w.heap.size, 4, none⟩ = some (.slice A4 t c4) := by have e := blk_cell hwp.blk 4; rw [e, ← ht4]; exact congrArg some hv4
       have p2 : wr.cell? ⟨w.heap.size, 3, none⟩ = some (.slice A2 t c2) := by have e := blk_cell hwp.blk 3; rw [e, ht]; exact congrArg some hv2
       have HSU := Aside0.mk (sure_at (hwp.e 1 (by decide)) (s := t) (by rw [ht, hl2]; exact HFI.out.s1.symm))
       have hw0 : wrap64 0 = 0 := by unfold wrap64; omega
       have hw11 : wrap64 1 = 1 := by unfold wrap64; omega
       clear hwp hv4 hv2 hl4 hl2 ht ht4
       go_wp2_with fail
       go_quiet ((exact Calls.quiet_of_same (HSU.out _)))
       go_wp2_with fail
       go_roundw
       case rel => exact ⟨1 + 1, by go_num, by omega, ⟨let ⟨N, h1⟩ := HW.out; ⟨N, WQ.below h1 (pw_below_drewN (Below.refl _ _) _)⟩⟩, ⟨HBw.out.trans ((pw_below_drewN (Below.refl _ _) _).mono HBw.out.size)⟩⟩
       case measure => simp [intOf]
      | 2, _ =>
       go_wp2_with fail
       go_ret
       exact ⟨rfl, HBw.out⟩
end Go.Proofs.Ytekakngojhnleaa.Wm
