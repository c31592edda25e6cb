/- Parts of the proof of LinkArrives, merged: each is proved for all its inputs. -/
import Derived.Test.YtekakngojhnleaaMgLinkArrivesh
import Derived.BigRegionIn
import Derived.Test.YtekakngojhnleaaMgLinkArrivesf
/- Links: Out of the program walked: the messages that are due, one by one. -/
namespace Go.Proofs.Ytekakngojhnleaa.Ov
open Go.RowKit Go.Maps Go.Shelf Go.Proofs.Ytekakngojhnleaa.Mp Go.Proofs.Ytekakngojhnleaa.Mq Go.Proofs.Ytekakngojhnleaa.Lp Go.Proofs.Ytekakngojhnleaa.Lm Go.Proofs.Ytekakngojhnleaa.La Go.Proofs.Ytekakngojhnleaa.Lb Go.Proofs.Ytekakngojhnleaa.Lc Go.Proofs.Ytekakngojhnleaa.Ld Go.Proofs.Ytekakngojhnleaa.Le Go.Proofs.Ytekakngojhnleaa.Rg Go.Proofs.Ytekakngojhnleaa.Ou Go.Proofs.Ytekakngojhnleaa.En Go.Proofs.Ytekakngojhnleaa.Dw Go.Proofs.YtekakngojhnleaaW.PrintWords Go.Proofs.YtekakngojhnleaaW.PrintLast Go.Proofs.YtekakngojhnleaaW.PrintMore
set_option linter.unusedVariables false
set_option linter.unusedSimpArgs false
attribute [local go_sem] Oper.semAt_some
variable {w : World} {B N p : Nat} {S : Nat → Prop} {σ : Lk}

/-- What stands while Out goes: x: the variables' blocks are those behind x. -/
structure IO (w : World) (B N : Nat) (S : Nat → Prop) (p : Nat) (σ : Lk) (b : Nat) (vq vi : Value) (hq hi : List Hd) (n s : Nat) (f : Int → Option Value) (st : List Nat × Nat) (W : World) : Prop where
 lp : LPx W B N S p { σ with sent := st.2 } b vq vi hq hi n s f
 fr : FrL B S S w W
 ov : OV W w.heap.size (w.heap.size + 1) (st.1.map (fData σ))
 bx : W.heap[w.heap.size]? = some (.cells #[.pointer (some ⟨p, 0, none⟩)] 22 (0, 0))
 pb : W.heap[w.heap.size + 2]? = some (.cells #[.func (.func 52) #[] #[.pointer (some ⟨w.heap.size + 1, 0, none⟩)]] 94 (0, 0))
 bd : W.heap[w.heap.size + 3]? = some (.cells #[.pointer (some ⟨p, 0, none⟩)] 22 (0, 0))
section
variable {b n s : Nat} {vq vi : Value} {hq hi : List Hd} {f : Int → Option Value} {st : List Nat × Nat} {W : World}
theorem LPx.sent {sv sv' : Nat} (h : LPx W B N S p { σ with sent := sv } b vq vi hq hi n s f) : LPx (W.setCell ⟨p, 3, none⟩ (.int .i64 (sv' : Int))) B N S p { σ with sent := sv' } b vq vi hq hi n s f := by
 obtain ⟨g0, g1, g2, g3, g4, g5, g6, g7⟩ := LPx.put h 3 (.int .i64 (sv' : Int))
 refine ⟨g0, g1, g2, g3, g4, g5, h.mn, g6, h.sp, h.sb, h.sq, h.si, h.ap, ?_, h.ge⟩
 intro k hk
 rw [World.size_setCell]
 exact h.lt k hk
theorem IO.step {W' : World} (h : IO w B N S p σ b vq vi hq hi n s f st W) (hb : Below W.heap.size W W') : IO w B N S p σ b vq vi hq hi n s f st W' := by
 have hB : B ≤ W.heap.size := by have := h.lp.ge p h.lp.sp; have := blk_lt h.lp.blk; omega
 exact ⟨LPx.below h.lp hb, FrL.below h.fr hb hB, h.ov.below hb, blk_below h.bx hb, blk_below h.pb hb, blk_below h.bd hb⟩
theorem IO.drew (h : IO w B N S p σ b vq vi hq hi n s f st W) : IO w B N S p σ b vq vi hq hi n s f st W.drew := h.step (below_drew (Below.refl _ W))
theorem OV.far {Bo o : Nat} {fs : List (List Int)} (h : OV W Bo o fs) {g j t : Nat} {cs : Array Value} {v : Value} (hg : W.heap[g]? = some (.cells cs t (0, 0))) (ht : t ≠ 30) (ht5 : t ≠ 5) (hgo : g ≠ o) : OV (W.setCell ⟨g, j, none⟩ v) Bo o fs := by
 obtain ⟨v0, hs, h⟩ := h
 refine ⟨v0, hs, by rw [Below.heap_setCell _ _ _ _ (fun e => hgo e.symm)]; exact h.box, Kd.Q_far h.q (fun k hk e => ?_) v, h.b.keep (Keep5.set hg ht5)⟩
 obtain ⟨cs', hc⟩ := Kd.Q_typed h.q k hk.symm
 rw [e, hg] at hc
 cases hc
 exact ht rfl
theorem IO.count (h : IO w B N S p σ b vq vi hq hi n s f st W) (hp : p < w.heap.size) (sv : Nat) : IO w B N S p σ b vq vi hq hi n s f (st.1, sv) (W.setCell ⟨p, 3, none⟩ (.int .i64 (sv : Int))) := by
 have hblk := h.lp.blk
 refine ⟨LPx.sent h.lp, FrL.trans h.fr (FrL.set (h.lp.ge p h.lp.sp) h.lp.sp ⟨_, hblk⟩ 3 _), OV.far h.ov hblk (by decide) (by decide) (by omega), ?_, ?_, ?_⟩ <;> rw [Below.heap_setCell _ _ _ _ (by show _ ≠ p; omega)]
 ·
  exact h.bx
 ·
  exact h.pb
 ·
  exact h.bd
end
theorem due_calls (w : World) : Calls Try.prog 53 #[.pointer (some ⟨p, 0, none⟩)] w fun e w' => e = .returned (.func (.func 81) #[] #[.pointer (some ⟨w.heap.size, 0, none⟩)]) ∧ w' = w.alloc (.cells #[.pointer (some ⟨p, 0, none⟩)] 22) := by
 go_enter Try.func53, Try.ntmps53
 go_wp2_with fail
 go_ret
 exact ⟨rfl, rfl⟩
def nxO (st : List Nat × Nat) (x : Int) : List Nat × Nat := (st.1 ++ [x.toNat], st.2)
def mayO (σ : Lk) (st : List Nat × Nat) (x : Int) : Prop := ∃ k : Nat, x = (k : Int) ∧ σ.sure ≤ k ∧ k < σ.took.length ∧ st.1.length ≤ 100
theorem meas {w1 w2 : World} {q : Addr} {sv ns : Nat} (h4 : w1.cell? q = some (.int .i64 ((sv + 1 : Nat) : Int))) (h5 : w2.cell? q = some (.int .i64 (sv : Int))) (h6 : sv < ns) : ns - (intOf ((w1.cell? q).getD undef)).toNat < ns - (intOf ((w2.cell? q).getD undef)).toNat := by
 rw [h4, h5]
 simp only [Option.getD_some, intOf]
 omega
theorem meas2 {k ns : Nat} (h6 : k < ns) : ns - (intOf (.int .i64 ((k : Int) + 1))).toNat < ns - (intOf (.int .i64 (k : Int))).toNat := by
 simp only [intOf]
 omega
theorem nx_due1 {k : Nat} (h1 : σ.sure ≤ k) : nxO (List.range' σ.sure (k - σ.sure), σ.sent) (k : Int) = (List.range' σ.sure (k + 1 - σ.sure), σ.sent) := by
 unfold nxO
 rw [Int.toNat_natCast, show k + 1 - σ.sure = (k - σ.sure) + 1 by omega, List.range'_concat]
 simp only [Nat.one_mul]
 rw [show σ.sure + (k - σ.sure) = k by omega]
def topN (σ : Lk) : Nat := min (σ.sure + σ.window) σ.took.length
theorem ns_lt {sv : Nat} (h1 : σ.sent ≤ sv) (hlt : sv < newSent σ) : decide (sv < topN σ) = true := by
 refine decide_eq_true ?_
 unfold newSent at hlt
 unfold topN
 omega
theorem ns_ge {sv : Nat} (hlt : ¬ sv < newSent σ) : decide (sv < topN σ) = false := by
 refine decide_eq_false ?_
 unfold newSent at hlt
 unfold topN
 omega
theorem ns_min {M : Nat} (h : Inv M σ) {k : Nat} (hk : k = σ.took.length - σ.sure) : (if k < σ.window then (σ.sure : Int) + (k : Int) else (σ.sure : Int) + (σ.window : Int)) = (topN σ : Int) := by
 have := h.s0; have := h.s1
 unfold topN
 split <;> omega
theorem ns_wrap {M : Nat} (h : Inv M σ) (hM : M ≤ 1000000) {k : Nat} (hk : k = σ.took.length - σ.sure) : wrap64 ((σ.sure : Int) + (σ.window : Int)) = (σ.sure : Int) + (σ.window : Int) ∧ wrap64 ((σ.sure : Int) + (k : Int)) = (σ.sure : Int) + (k : Int) := by
 have := h.s0; have := h.s1; have := h.w1; have := h.tk
 unfold wrap64
 omega
theorem nx_due (D0 : List Nat) {sv : Nat} (h1 : σ.sent ≤ sv) : nxO (D0 ++ List.range' σ.sent (sv - σ.sent), sv) (sv : Int) = (D0 ++ List.range' σ.sent (sv + 1 - σ.sent), sv) := by
 unfold nxO
 rw [Int.toNat_natCast, show sv + 1 - σ.sent = (sv - σ.sent) + 1 by omega, List.range'_concat, List.append_assoc]
 simp only [Nat.one_mul]
 rw [show σ.sent + (sv - σ.sent) = sv by omega]
set_option maxRecDepth 100000 in
set_option maxHeartbeats 4000000 in
theorem due1 {b n s : Nat} {vq vi : Value} {hq hi : List Hd} {f : Int → Option Value} {M : Nat} (hI : Inv M σ) (hM : M ≤ 1000000) (hp : p < w.heap.size) (m : Nat) (hm : 1 ≤ m) (wl : World) (hwl : w.heap.size ≤ wl.heap.size) :
  Iterates m wl.heap.size Try.prog 81 #[.pointer (some ⟨w.heap.size + 3, 0, none⟩)] (fun x => #[.int .i64 x]) (mayO σ) nxO (IO w B N S p σ b vq vi hq hi n s f) ([], σ.sent) (dueL σ, newSent σ) wl := by
 intro l J W hBW hJI hJs hY h0
 have HY := Aside0.mk hY
 have HJI := Aside0.mk hJI
 have HJS := Aside0.mk hJs
 have HI := Aside0.mk (And.intro hI hM)
 have HP := Aside0.mk hp
 have H0 := Aside0.mk h0
 have hio := HJI.out _ _ h0
 obtain ⟨A0, c0, rfl, hcap0⟩ := Kd.Q_slice hio.lp.q
 have q0 : W.cell? ⟨w.heap.size + 3, 0, none⟩ = some (.pointer (some ⟨p, 0, none⟩)) := blk_cell hio.bd 0
 have p8 : W.cell? ⟨p, 8, none⟩ = some (.bool σ.tick) := blk_cell hio.lp.blk 8
 have p2 : W.cell? ⟨p, 2, none⟩ = some (.int .i64 (σ.sure : Int)) := blk_cell hio.lp.blk 2
 clear hY hJI hJs hp h0 hio
 refine callsIn_of_wp Try.func81 rfl trivial ?_ rfl
 simp only [Try.ntmps81, List.size_toArray, List.length_cons, List.length_nil, Nat.reduceAdd, Nat.reduceSub, Array.replicate_succ, Array.replicate_zero, List.push_toArray, List.append_toArray, List.nil_append, List.cons_append]
 have HNS := Aside0.mk (newSent_le hI)
 cases htk : σ.tick with
 | false =>
  rw [htk] at p8
  obtain ⟨D0, hD0⟩ : ∃ D0 : List Nat, D0 = [] := ⟨_, rfl⟩
  have HDU := Aside0.mk (show dueL σ = D0 ++ List.range' σ.sent (newSent σ - σ.sent) by unfold dueL; rw [if_neg (by rw [htk]; simp), hD0])
  have HST := Aside0.mk (show J (D0 ++ List.range' σ.sent 0, σ.sent) W by rw [hD0]; exact H0.out)
  have HDL := Aside0.mk (show D0.length ≤ 16 by rw [hD0]; simp)
  clear hI htk hD0
  gi_wp2
  clear q0 p8 p2
  gi_loopw [62] (fun v62 wr => ∃ (v : Value) (sv : Nat), v62 = v ∧ σ.sent ≤ sv ∧ sv ≤ newSent σ ∧ Aside0 (J (D0 ++ List.range' σ.sent (sv - σ.sent), sv) wr)) (fun _ wr => newSent σ - (intOf ((wr.cell? ⟨p, 3, none⟩).getD undef)).toNat)
  case atStart => exact ⟨_, σ.sent, rfl, Nat.le_refl _, HNS.out.1, ⟨by rw [Nat.sub_self]; exact HST.out⟩⟩
  case round =>
   obtain ⟨v, sv, rfl, h1, h2, HJ⟩ := hrel
   have hio := HJI.out _ _ HJ.out
   have hql : hq.length = σ.took.length - σ.sure := by rw [hio.lp.qb.1, List.length_drop]
   have q0 : wr.cell? ⟨w.heap.size + 3, 0, none⟩ = some (.pointer (some ⟨p, 0, none⟩)) := blk_cell hio.bd 0
   have p0 : wr.cell? ⟨p, 0, none⟩ = some (.int .i64 (σ.window : Int)) := blk_cell hio.lp.blk 0
   have p1 : wr.cell? ⟨p, 1, none⟩ = some (.slice A0 hq.length c0) := blk_cell hio.lp.blk 1
   have p2 : wr.cell? ⟨p, 2, none⟩ = some (.int .i64 (σ.sure : Int)) := blk_cell hio.lp.blk 2
   have p3 : wr.cell? ⟨p, 3, none⟩ = some (.int .i64 (sv : Int)) := blk_cell hio.lp.blk 3
   have HIO := Aside0.mk hio
   have HP3 := Aside0.mk p3
   obtain ⟨hw1, hw2⟩ := ns_wrap HI.out.1 HI.out.2 hql
   have hmin := ns_min HI.out.1 hql
   by_cases hlt : sv < newSent σ
   ·
    have hmn := ns_lt h1 hlt
    have HL := Aside0.mk hlt
    clear hio hql hlt
    gi_wp2
    refine wpIn_wide.2 ?_
    go_quiet (fail)
    have HMN := Aside0.mk hmn
    clear p0 p1 p2 p3 q0 hw1 hw2 hmn hmin
    have HIOd := Aside0.mk (HIO.out.step (pw_below_drewN (Below.refl _ wr) nq))
    have HJd := Aside0.mk (HJS.out _ _ _ _ HJ.out HIOd.out ((others_below (pw_below_drewN (Below.refl _ wr) nq)).from _))
    have hy0 := HY.out _ (sv : Int) _ HJd.out ⟨sv, rfl, by have := HI.out.1.s0; omega, by have := HNS.out; have := HL.out; omega, by
     have e1 := HDL.out; have e2 := HNS.out; have e3 := HL.out; have e4 := HI.out.1.s0; have e5 := HI.out.1.w1
     show (D0 ++ List.range' σ.sent (sv - σ.sent)).length ≤ 100
     rw [List.length_append, List.length_range']; omega⟩
    rw [nx_due D0 h1] at hy0
    generalize hwd : wr.drewN nq = wd at HIOd HJd hy0 ⊢
    clear hwd
    obtain ⟨fn, tmps, assign, body, hy, hR⟩ := hy0
    have q0 : wd.cell? ⟨w.heap.size + 3, 0, none⟩ = some (.pointer (some ⟨p, 0, none⟩)) := blk_cell HIOd.out.bd 0
    have p3 : wd.cell? ⟨p, 3, none⟩ = some (.int .i64 (sv : Int)) := blk_cell HIOd.out.lp.blk 3
    have hmn := HMN.out
    gi_wp2
    clear hmn
    refine hR.mono ?_
    rintro e W3 ⟨rfl, hJ3⟩
    clear hy hR q0 p3
    have hio3 := HJI.out _ _ hJ3
    have HJ3 := Aside0.mk hJ3
    have HIO3 := Aside0.mk hio3
    have q0 : W3.cell? ⟨w.heap.size + 3, 0, none⟩ = some (.pointer (some ⟨p, 0, none⟩)) := blk_cell hio3.bd 0
    have p3 : W3.cell? ⟨p, 3, none⟩ = some (.int .i64 (sv : Int)) := blk_cell hio3.lp.blk 3
    have z3 : W3.frozen? ⟨p, 3, none⟩ = false := blk_frozen hio3.lp.blk 3
    have hw3 : wrap64 ((sv : Int) + 1) = (sv : Int) + 1 := by have e1 := HL.out; have e2 := HNS.out; have e3 := HI.out.1.tk; have e4 := HI.out.2; unfold wrap64; omega
    clear hJ3 hio3
    gi_wp2
    go_roundw
    case rel =>
     have hio4 := HIO3.out.count HP.out (sv + 1)
     exact ⟨_, sv + 1, rfl, Nat.le_succ_of_le h1, HL.out, ⟨HJS.out _ _ _ _ HJ3.out hio4 ((KeepsOthers.setCell _ _ _).from _)⟩⟩
    case measure =>
     have hio4 := HIO3.out.count HP.out (sv + 1)
     exact meas (blk_cell hio4.lp.blk 3) HP3.out HL.out
   ·
    have hmn := ns_ge hlt
    have HSV := Aside0.mk (Nat.le_antisymm h2 (Nat.le_of_not_lt hlt))
    clear hio hql hlt h1 h2
    gi_wp2
    refine wpIn_wide.2 ?_
    go_quiet (fail)
    gi_wp2
    go_end0
    refine ⟨⟨_, rfl⟩, ?_⟩
    have h7 := HJS.out _ _ _ _ HJ.out (HIO.out.step (pw_below_drewN (Below.refl _ wr) nq)) ((others_below (pw_below_drewN (Below.refl _ wr) nq)).from wl.heap.size)
    rw [HSV.out] at h7
    rw [HDU.out]
    exact h7
 | true =>
  rw [htk] at p8
  obtain ⟨D0, hD0⟩ : ∃ D0 : List Nat, D0 = List.range' σ.sure (σ.sent - σ.sure) := ⟨_, rfl⟩
  have HDU := Aside0.mk (show dueL σ = D0 ++ List.range' σ.sent (newSent σ - σ.sent) by unfold dueL; rw [if_pos htk, hD0])
  have HDL := Aside0.mk (show D0.length ≤ 16 by rw [hD0, List.length_range']; have e1 := hI.s2; have e2 := hI.w1; omega)
  have HD0 := Aside0.mk hD0
  clear hI htk hD0
  gi_wp2
  clear q0 p8 p2
  gi_loopw [3] (fun v3 wr => ∃ k : Nat, σ.sure ≤ k ∧ k ≤ σ.sent ∧ v3 = .int .i64 (k : Int) ∧ Aside0 (J (List.range' σ.sure (k - σ.sure), σ.sent) wr)) (fun v3 _ => σ.sent - (intOf v3).toNat)
  case atStart => exact ⟨σ.sure, Nat.le_refl _, HI.out.1.s0, rfl, ⟨by rw [Nat.sub_self]; exact H0.out⟩⟩
  case round =>
   obtain ⟨k, h1, h2, rfl, HJ⟩ := hrel
   have hio := HJI.out _ _ HJ.out
   have HIO := Aside0.mk hio
   have q0 : wr.cell? ⟨w.heap.size + 3, 0, none⟩ = some (.pointer (some ⟨p, 0, none⟩)) := blk_cell hio.bd 0
   have p3 : wr.cell? ⟨p, 3, none⟩ = some (.int .i64 (σ.sent : Int)) := blk_cell hio.lp.blk 3
   by_cases hlt : k < σ.sent
   ·
    have hmn : decide (k < σ.sent) = true := decide_eq_true hlt
    have hy0 := HY.out _ (k : Int) _ HJ.out ⟨k, rfl, h1, by have := HI.out.1.s1; omega, by
     have e1 := HI.out.1.s2; have e2 := HI.out.1.w1
     show (List.range' σ.sure (k - σ.sure)).length ≤ 100
     rw [List.length_range']; omega⟩
    obtain ⟨fn, tmps, assign, body, hy, hR⟩ := hy0
    have HL := Aside0.mk hlt
    have HLO := Aside0.mk h1
    have hw3 : wrap64 ((k : Int) + 1) = (k : Int) + 1 := by have e2 := HI.out.1.s1; have e3 := HI.out.1.tk; have e4 := HI.out.2; unfold wrap64; omega
    clear hio hlt h1 h2
    gi_wp2
    refine hR.mono ?_
    rintro e W3 ⟨rfl, hJ3⟩
    clear hy hR q0 p3 hmn
    have HJ3 := Aside0.mk hJ3
    clear hJ3
    gi_wp2
    go_roundw
    case rel =>
     exact ⟨k + 1, Nat.le_succ_of_le HLO.out, HL.out, by go_num, ⟨by rw [← nx_due1 HLO.out]; exact HJ3.out⟩⟩
    case measure => rw [hw3]; exact meas2 HL.out
   ·
    have hmn : decide (k < σ.sent) = false := decide_eq_false hlt
    have HKS := Aside0.mk (Nat.le_antisymm h2 (Nat.le_of_not_lt hlt))
    clear hio hlt h1 h2
    gi_wp2
    clear hmn q0 p3
    have HST := Aside0.mk (show J (D0 ++ List.range' σ.sent 0, σ.sent) wr by have e := HJ.out; rw [HKS.out] at e; rw [HD0.out, List.range'_zero, List.append_nil]; exact e)
    clear HJ HIO
    gi_loopw [62] (fun v62 wr => ∃ (v : Value) (sv : Nat), v62 = v ∧ σ.sent ≤ sv ∧ sv ≤ newSent σ ∧ Aside0 (J (D0 ++ List.range' σ.sent (sv - σ.sent), sv) wr)) (fun _ wr => newSent σ - (intOf ((wr.cell? ⟨p, 3, none⟩).getD undef)).toNat)
    case atStart => exact ⟨_, σ.sent, rfl, Nat.le_refl _, HNS.out.1, ⟨by rw [Nat.sub_self]; exact HST.out⟩⟩
    case round =>
     obtain ⟨v, sv, rfl, h1, h2, HJ⟩ := hrel
     have hio := HJI.out _ _ HJ.out
     have hql : hq.length = σ.took.length - σ.sure := by rw [hio.lp.qb.1, List.length_drop]
     have q0 : wr.cell? ⟨w.heap.size + 3, 0, none⟩ = some (.pointer (some ⟨p, 0, none⟩)) := blk_cell hio.bd 0
     have p0 : wr.cell? ⟨p, 0, none⟩ = some (.int .i64 (σ.window : Int)) := blk_cell hio.lp.blk 0
     have p1 : wr.cell? ⟨p, 1, none⟩ = some (.slice A0 hq.length c0) := blk_cell hio.lp.blk 1
     have p2 : wr.cell? ⟨p, 2, none⟩ = some (.int .i64 (σ.sure : Int)) := blk_cell hio.lp.blk 2
     have p3 : wr.cell? ⟨p, 3, none⟩ = some (.int .i64 (sv : Int)) := blk_cell hio.lp.blk 3
     have HIO := Aside0.mk hio
     have HP3 := Aside0.mk p3
     obtain ⟨hw1, hw2⟩ := ns_wrap HI.out.1 HI.out.2 hql
     have hmin := ns_min HI.out.1 hql
     by_cases hlt : sv < newSent σ
     ·
      have hmn := ns_lt h1 hlt
      have HL := Aside0.mk hlt
      clear hio hql hlt
      gi_wp2
      refine wpIn_wide.2 ?_
      go_quiet (fail)
      have HMN := Aside0.mk hmn
      clear p0 p1 p2 p3 q0 hw1 hw2 hmn hmin
      have HIOd := Aside0.mk (HIO.out.step (pw_below_drewN (Below.refl _ wr) nq))
      have HJd := Aside0.mk (HJS.out _ _ _ _ HJ.out HIOd.out ((others_below (pw_below_drewN (Below.refl _ wr) nq)).from _))
      have hy0 := HY.out _ (sv : Int) _ HJd.out ⟨sv, rfl, by have := HI.out.1.s0; omega, by have := HNS.out; have := HL.out; omega, by
       have e1 := HDL.out; have e2 := HNS.out; have e3 := HL.out; have e4 := HI.out.1.s0; have e5 := HI.out.1.w1
       show (D0 ++ List.range' σ.sent (sv - σ.sent)).length ≤ 100
       rw [List.length_append, List.length_range']; omega⟩
      rw [nx_due D0 h1] at hy0
      generalize hwd : wr.drewN nq = wd at HIOd HJd hy0 ⊢
      clear hwd
      obtain ⟨fn, tmps, assign, body, hy, hR⟩ := hy0
      have q0 : wd.cell? ⟨w.heap.size + 3, 0, none⟩ = some (.pointer (some ⟨p, 0, none⟩)) := blk_cell HIOd.out.bd 0
      have p3 : wd.cell? ⟨p, 3, none⟩ = some (.int .i64 (sv : Int)) := blk_cell HIOd.out.lp.blk 3
      have hmn := HMN.out
      gi_wp2
      clear hmn
      refine hR.mono ?_
      rintro e W3 ⟨rfl, hJ3⟩
      clear hy hR q0 p3
      have hio3 := HJI.out _ _ hJ3
      have HJ3 := Aside0.mk hJ3
      have HIO3 := Aside0.mk hio3
      have q0 : W3.cell? ⟨w.heap.size + 3, 0, none⟩ = some (.pointer (some ⟨p, 0, none⟩)) := blk_cell hio3.bd 0
      have p3 : W3.cell? ⟨p, 3, none⟩ = some (.int .i64 (sv : Int)) := blk_cell hio3.lp.blk 3
      have z3 : W3.frozen? ⟨p, 3, none⟩ = false := blk_frozen hio3.lp.blk 3
      have hw3 : wrap64 ((sv : Int) + 1) = (sv : Int) + 1 := by have e1 := HL.out; have e2 := HNS.out; have e3 := HI.out.1.tk; have e4 := HI.out.2; unfold wrap64; omega
      clear hJ3 hio3
      gi_wp2
      go_roundw
      case rel =>
       have hio4 := HIO3.out.count HP.out (sv + 1)
       exact ⟨_, sv + 1, rfl, Nat.le_succ_of_le h1, HL.out, ⟨HJS.out _ _ _ _ HJ3.out hio4 ((KeepsOthers.setCell _ _ _).from _)⟩⟩
      case measure =>
       have hio4 := HIO3.out.count HP.out (sv + 1)
       exact meas (blk_cell hio4.lp.blk 3) HP3.out HL.out
     ·
      have hmn := ns_ge hlt
      have HSV := Aside0.mk (Nat.le_antisymm h2 (Nat.le_of_not_lt hlt))
      clear hio hql hlt h1 h2
      gi_wp2
      refine wpIn_wide.2 ?_
      go_quiet (fail)
      gi_wp2
      go_end0
      refine ⟨⟨_, rfl⟩, ?_⟩
      have h7 := HJS.out _ _ _ _ HJ.out (HIO.out.step (pw_below_drewN (Below.refl _ wr) nq)) ((others_below (pw_below_drewN (Below.refl _ wr) nq)).from wl.heap.size)
      rw [HSV.out] at h7
      rw [HDU.out]
      exact h7
end Go.Proofs.Ytekakngojhnleaa.Ov
/- Links: two ends and all frames that came out of them: what holds whatever is lost, doubled, late; what comes when all frames come. -/
namespace Go.Proofs.Ytekakngojhnleaa.Pr
open Go.RowKit Go.Proofs.Ytekakngojhnleaa.Lp Go.Proofs.Ytekakngojhnleaa.En Go.Proofs.Ytekakngojhnleaa.Dw Go.Proofs.YtekakngojhnleaaW.PrintWords Go.Proofs.YtekakngojhnleaaW.PrintLast Go.Proofs.YtekakngojhnleaaW.PrintMore
set_option linter.unusedVariables false
set_option linter.unusedSimpArgs false

/-- A frame that came out of a. -/
def Good (a : Lk) (f : List Int) : Prop := ∃ (d : Bool) (s k : Nat) (l : List Int), f = frameL d s k l ∧ k ≤ a.all.length ∧ (d = true → s < a.sent ∧ a.took[s]? = some l) ∧ (d = false → s = 0 ∧ l = [])
/-- What b has of a. -/
structure Dir (a b : Lk) : Prop where
 all : b.all = a.took.take b.all.length
 le : b.all.length ≤ a.sent
 hold : ∀ x l, b.hold x = some l → ∃ n : Nat, x = (n : Int) ∧ n < a.sent ∧ a.took[n]? = some l
 sure : a.sure ≤ b.all.length
structure Two (N : Nat) (a b : Lk) (fa fb : List (List Int)) : Prop where
 ia : Inv N a
 ib : Inv N b
 ab : Dir a b
 ba : Dir b a
 ga : ∀ f ∈ fa, Good a f
 gb : ∀ f ∈ fb, Good b f
variable {N : Nat} {a b : Lk} {fa fb : List (List Int)}
theorem Two.swap (h : Two N a b fa fb) : Two N b a fb fa := ⟨h.ib, h.ia, h.ba, h.ab, h.gb, h.ga⟩
theorem Two.mono (h : Two N a b fa fb) {M : Nat} (hm : N ≤ M) : Two M a b fa fb := ⟨h.ia.mono hm, h.ib.mono hm, h.ab, h.ba, h.ga, h.gb⟩
theorem fresh_two {n : Nat} (h0 : 1 ≤ n) (h1 : n ≤ 16) : Two 0 (newL n) (newL n) [] [] := by
 have d : Dir (newL n) (newL n) := ⟨rfl, Nat.le_refl _, fun x l h => by simp [newL] at h, Nat.le_refl _⟩
 exact ⟨newInv h0 h1, newInv h0 h1, d, d, fun f h => by simp at h, fun f h => by simp at h⟩
theorem get_grow {l : List (List Int)} {x y : List Int} {s : Nat} (h : l[s]? = some x) : (l ++ [y])[s]? = some x := by
 have hs : s < l.length := by
  rcases Nat.lt_or_ge s l.length with h1 | h1
  ·
   exact h1
  ·
   rw [List.getElem?_eq_none h1] at h; cases h
 rw [List.getElem?_append_left hs]; exact h
theorem Two.send (h : Two N a b fa fb) (body : List Int) (hb : ∀ x ∈ body, 0 ≤ x ∧ x < 256) : Two (N + 1) (sendL a body).2 b fa fb := by
 have hI := h.ia.send body hb
 unfold sendL at hI ⊢
 split
 ·
  exact h.mono (Nat.le_succ _)
 split
 ·
  exact h.mono (Nat.le_succ _)
 ·
  rename_i h1 h2
  rw [if_neg h1, if_neg h2] at hI
  have hle : b.all.length ≤ a.took.length := Nat.le_trans h.ab.le h.ia.s1
  refine ⟨hI, h.ib.mono (Nat.le_succ _), ⟨?_, h.ab.le, fun x l hx => ?_, h.ab.sure⟩, ⟨h.ba.all, h.ba.le, h.ba.hold, h.ba.sure⟩, fun f hf => ?_, h.gb⟩
  ·
   show b.all = (a.took ++ [body]).take b.all.length
   rw [List.take_append_of_le_length hle]
   exact h.ab.all
  ·
   obtain ⟨n, e, hn, ht⟩ := h.ab.hold x l hx
   exact ⟨n, e, hn, get_grow ht⟩
  ·
   obtain ⟨d, s, k, l, e, hk, hd, hd'⟩ := h.ga f hf
   exact ⟨d, s, k, l, e, hk, fun e => ⟨(hd e).1, get_grow (hd e).2⟩, hd'⟩
theorem Two.ticks (h : Two N a b fa fb) : Two N (tickL a) b fa fb :=
 ⟨h.ia.ticks, h.ib, ⟨h.ab.all, h.ab.le, h.ab.hold, h.ab.sure⟩, ⟨h.ba.all, h.ba.le, h.ba.hold, h.ba.sure⟩, fun f hf => h.ga f hf, h.gb⟩
theorem mem_due {x : Nat} (h : Inv N a) (hx : x ∈ dueL a) : x < newSent a := by
 have hn := newSent_le h
 unfold dueL at hx
 rcases List.mem_append.1 hx with h1 | h1
 ·
  split at h1
  ·
   have := (List.mem_range'_1.1 h1); omega
  ·
   cases h1
 ·
  have := (List.mem_range'_1.1 h1); omega
theorem out_good (h : Inv N a) : ∀ f ∈ (outL a).1, Good (outL a).2 f := by
 intro f hf
 have hn := newSent_le h
 unfold outL at hf ⊢
 dsimp only at hf ⊢
 split at hf
 ·
  rw [List.mem_singleton] at hf
  exact ⟨false, 0, a.all.length, [], hf, Nat.le_refl _, (fun e => nomatch e), fun _ => ⟨rfl, rfl⟩⟩
 ·
  obtain ⟨s, hs, e⟩ := List.mem_map.1 hf
  have hlt := mem_due h hs
  refine ⟨true, s, a.all.length, a.took.getD s [], e.symm, Nat.le_refl _, fun _ => ⟨hlt, ?_⟩, (fun e => nomatch e)⟩
  show a.took[s]? = some _
  have hl : s < a.took.length := by omega
  rw [List.getD_eq_getElem?_getD, List.getElem?_eq_getElem hl, Option.getD_some]
theorem Good.out (h : Inv N a) {f : List Int} (hf : Good a f) : Good (outL a).2 f := by
 obtain ⟨d, s, k, l, e, hk, hd, hd'⟩ := hf
 have hn := newSent_le h
 exact ⟨d, s, k, l, e, hk, fun e => ⟨Nat.lt_of_lt_of_le (hd e).1 hn.1, (hd e).2⟩, hd'⟩
theorem Two.out (h : Two N a b fa fb) : Two N (outL a).2 b (fa ++ (outL a).1) fb := by
 have hn := newSent_le h.ia
 refine ⟨h.ia.out, h.ib, ⟨h.ab.all, Nat.le_trans h.ab.le hn.1, fun x l hx => ?_, h.ab.sure⟩, ⟨h.ba.all, h.ba.le, h.ba.hold, h.ba.sure⟩, fun f hf => ?_, h.gb⟩
 ·
  obtain ⟨n, e, hlt, ht⟩ := h.ab.hold x l hx
  exact ⟨n, e, Nat.lt_of_lt_of_le hlt hn.1, ht⟩
 ·
  rcases List.mem_append.1 hf with h1 | h1
  ·
   exact (h.ga f h1).out h.ia
  ·
   exact out_good h.ia f h1
theorem Two.next (h : Two N a b fa fb) : Two N (nextL a).2 b fa fb := by
 have hI := h.ia.next
 unfold nextL at hI ⊢
 split
 ·
  rename_i hc
  rw [dif_pos hc] at hI
  exact ⟨hI, h.ib, ⟨h.ab.all, h.ab.le, h.ab.hold, h.ab.sure⟩, ⟨h.ba.all, h.ba.le, h.ba.hold, h.ba.sure⟩, fun f hf => h.ga f hf, h.gb⟩
 ·
  exact h
/-- What a frame that came out of b says. -/
theorem Two.reads (h : Two N a b fa fb) (hN : N ≤ 1000000) {f : List Int} (hf : Good b f) : ∃ (d : Bool) (s k : Nat) (l : List Int), f = frameL d s k l ∧ decA f = ((d, (s : Int), (k : Int), l), 0) ∧ k ≤ b.all.length ∧ (d = true → s < b.sent ∧ b.took[s]? = some l) ∧ (d = false → s = 0 ∧ l = []) := by
 obtain ⟨d, s, k, l, rfl, hk, hd, hd'⟩ := hf
 have hk' : k ≤ 1000000 := by have := h.ab.le; have := h.ia.s1; have := h.ia.tk; omega
 have hs' : s ≤ 1000000 := by
  cases d with
  | true => have := (hd rfl).1; have := h.ib.s1; have := h.ib.tk; omega
  | false => have := (hd' rfl).1; omega
 have hl : okB l := by
  cases d with
  | true => exact h.ib.ht l (List.mem_of_getElem? (hd rfl).2)
  | false => rw [(hd' rfl).2]; exact ⟨by simp, fun x hx => by cases hx⟩
 refine ⟨d, s, k, l, rfl, Bk.dec_back d s k l ?_ (by omega) (by omega) hl.1 hl.2, hk, hd, hd'⟩
 have h1 : (Rt.within (s : Int)) = true := by unfold Rt.within; simp; omega
 have h2 : (Rt.within (k : Int)) = true := by unfold Rt.within; simp; omega
 have h3 : decide ((l.length : Int) ≤ 1048576) = true := by have := hl.1; simp; omega
 unfold Rt.rightB
 rw [h1, h2, h3]
 cases d with
 | true => rfl
 | false => rw [(hd' rfl).1, (hd' rfl).2]; rfl
theorem in_data {f l : List Int} {s k : Nat} (hd : decA f = ((true, (s : Int), (k : Int), l), 0)) (hk : k ≤ a.sent) :
  inL a f = (0, { a with sure := max a.sure k, owes := true, hold := (pull 17 (takeH a (s : Int) l) a.all).1, all := (pull 17 (takeH a (s : Int) l) a.all).2 }) := by
 unfold inL
 rw [hd]
 rw [if_neg (by dsimp only; omega), if_neg (by simp)]
 simp only [Int.toNat_natCast]
theorem in_ack {f l : List Int} {s k : Nat} (hd : decA f = ((false, (s : Int), (k : Int), l), 0)) (hk : k ≤ a.sent) :
  inL a f = (0, { a with sure := max a.sure k }) := by
 unfold inL
 rw [hd]
 rw [if_neg (by dsimp only; omega), if_pos rfl]
 simp only [Int.toNat_natCast]
/-- What is held and got of a list. -/
theorem pull_of (T : List (List Int)) (S : Nat) (hS : S ≤ T.length) : ∀ (k : Nat) (h : Int → Option (List Int)) (x : List (List Int)), x = T.take x.length → x.length ≤ S → (∀ z l, h z = some l → ∃ n : Nat, z = (n : Int) ∧ n < S ∧ T[n]? = some l) →
  (pull k h x).2 = T.take (pull k h x).2.length ∧ (pull k h x).2.length ≤ S ∧ x.length ≤ (pull k h x).2.length ∧ (∀ z l, (pull k h x).1 z = some l → ∃ n : Nat, z = (n : Int) ∧ n < S ∧ T[n]? = some l) ∧ (1 ≤ k → (h (x.length : Int)).isSome = true → x.length + 1 ≤ (pull k h x).2.length) := by
 intro k
 induction k with
 | zero => exact fun h x hx hl hh => ⟨hx, hl, Nat.le_refl _, hh, fun h => by omega⟩
 | succ k ih =>
  intro h x hx hl hh
  unfold pull
  split
  ·
   rename_i he
   exact ⟨hx, hl, Nat.le_refl _, hh, fun _ e => by rw [he] at e; cases e⟩
  ·
   rename_i l he
   obtain ⟨n, e, hn, ht⟩ := hh _ _ he
   have e' : n = x.length := by omega
   subst e'
   have hlen : (x ++ [l]).length = x.length + 1 := by simp
   have hx' : x ++ [l] = T.take (x ++ [l]).length := by
    rw [hlen, List.take_add_one, ← hx, ht]; rfl
   obtain ⟨r1, r2, r3, r4, r5⟩ := ih (setH h (x.length : Int) none) (x ++ [l]) hx' (by rw [hlen]; omega) (fun z l' hz => by
    unfold setH at hz
    split at hz
    ·
     cases hz
    ·
     exact hh z l' hz)
   rw [hlen] at r3
   exact ⟨r1, r2, by omega, r4, fun _ _ => r3⟩
theorem Two.in_ (h : Two N a b fa fb) (hN : N ≤ 1000000) {f : List Int} (hf : f ∈ fb) : Two (N + 1) (inL a f).2 b fa fb ∧ (inL a f).1 = 0 ∧ (inL a f).2.sent = a.sent ∧ (inL a f).2.took = a.took ∧ (inL a f).2.window = a.window ∧ (inL a f).2.tick = a.tick ∧ (inL a f).2.told = a.told ∧ a.sure ≤ (inL a f).2.sure ∧ a.all.length ≤ (inL a f).2.all.length ∧ (a.owes = true → (inL a f).2.owes = true) ∧
  ∀ (d : Bool) (s k : Nat) (l : List Int), decA f = ((d, (s : Int), (k : Int), l), 0) → (inL a f).2.sure = max a.sure k ∧ (d = true → (inL a f).2.owes = true ∧ (s ≤ a.all.length → s + 1 ≤ (inL a f).2.all.length)) := by
 obtain ⟨d, s, k, l, hfe, hdec, hk, hd, hd'⟩ := h.reads hN (h.gb f hf)
 have hks : k ≤ a.sent := Nat.le_trans hk h.ab.le
 have hfb : ∀ x ∈ f, 0 ≤ x ∧ x < 256 := by
  rw [hfe]
  have hk' : k ≤ 1000000 := by have := h.ia.s1; have := h.ia.tk; omega
  have hs' : s ≤ 1000000 := by
   cases d with
   | true => have := (hd rfl).1; have := h.ib.s1; have := h.ib.tk; omega
   | false => have := (hd' rfl).1; omega
  have hl : okB l := by
   cases d with
   | true => exact h.ib.ht l (List.mem_of_getElem? (hd rfl).2)
   | false => rw [(hd' rfl).2]; exact ⟨by simp, fun x hx => by cases hx⟩
  intro x hx
  unfold frameL at hx
  rcases List.mem_append.1 hx with h1 | h1
  ·
   exact head_bytes d s k l (by omega) (by omega) hl.1 hl.2 x h1
  ·
   unfold be4 at h1
   simp only [List.mem_cons, List.not_mem_nil, or_false] at h1
   rcases h1 with h1 | h1 | h1 | h1 <;> rw [h1] <;> constructor <;> omega
 have hI := h.ia.in_ f hfb
 have hone : ∀ (d' : Bool) (s' k' : Nat) (l' : List Int), decA f = ((d', (s' : Int), (k' : Int), l'), 0) → d' = d ∧ s' = s ∧ k' = k ∧ l' = l := by
  intro d' s' k' l' e
  rw [hdec] at e
  simp only [Prod.mk.injEq, Int.natCast_inj] at e
  exact ⟨e.1.1.symm, e.1.2.1.symm, e.1.2.2.1.symm, e.1.2.2.2.symm⟩
 cases d with
 | false =>
  rw [in_ack hdec hks] at hI ⊢
  refine ⟨⟨hI, h.ib.mono (Nat.le_succ _), ⟨h.ab.all, h.ab.le, h.ab.hold, ?_⟩, ⟨h.ba.all, h.ba.le, h.ba.hold, h.ba.sure⟩, h.ga, h.gb⟩, rfl, rfl, rfl, rfl, rfl, rfl, Nat.le_max_left _ _, Nat.le_refl _, fun e => e, fun d' s' k' l' e => ?_⟩
  ·
   exact Nat.max_le.2 ⟨h.ab.sure, hk⟩
  ·
   obtain ⟨rfl, rfl, rfl, rfl⟩ := hone d' s' k' l' e
   exact ⟨rfl, (fun e => nomatch e)⟩
 | true =>
  rw [in_data hdec hks] at hI ⊢
  have hh : ∀ z m, takeH a (s : Int) l z = some m → ∃ n : Nat, z = (n : Int) ∧ n < b.sent ∧ b.took[n]? = some m := by
   intro z m hz
   unfold takeH at hz
   split at hz
   ·
    unfold setH at hz
    split at hz
    ·
     rename_i e; cases hz; exact ⟨s, e, hd rfl⟩
    ·
     exact h.ba.hold z m hz
   ·
    exact h.ba.hold z m hz
  obtain ⟨r1, r2, r3, r4, r5⟩ := pull_of b.took b.sent h.ib.s1 17 _ a.all h.ba.all h.ba.le hh
  refine ⟨⟨hI, h.ib.mono (Nat.le_succ _), ⟨h.ab.all, h.ab.le, h.ab.hold, Nat.max_le.2 ⟨h.ab.sure, hk⟩⟩, ⟨r1, r2, r4, Nat.le_trans h.ba.sure r3⟩, ?_, h.gb⟩, rfl, rfl, rfl, rfl, rfl, rfl, Nat.le_max_left _ _, r3, fun _ => rfl, fun d' s' k' l' e => ?_⟩
  ·
   intro g hg
   obtain ⟨d1, s1, k1, l1, e1, hk1, hd1, hd1'⟩ := h.ga g hg
   exact ⟨d1, s1, k1, l1, e1, Nat.le_trans hk1 r3, hd1, hd1'⟩
  ·
   obtain ⟨rfl, rfl, rfl, rfl⟩ := hone d' s' k' l' e
   refine ⟨rfl, fun _ => ⟨rfl, fun hs => ?_⟩⟩
   show s' + 1 ≤ (pull 17 _ _).2.length
   rcases Nat.lt_or_ge s' a.all.length with h1 | h1
   ·
    omega
   ·
    have e1 : s' = a.all.length := by omega
    subst e1
    refine r5 (by decide) ?_
    unfold takeH
    by_cases hc : (a.hold ((a.all.length : Nat) : Int)).isSome = false
    ·
     rw [if_pos ⟨hc, Int.le_refl _, by omega⟩]
     unfold setH
     rw [if_pos rfl]; rfl
    ·
     rw [if_neg (fun e => hc e.1)]
     cases he : (a.hold ((a.all.length : Nat) : Int)).isSome with
     | true => rfl
     | false => exact absurd he hc
end Go.Proofs.Ytekakngojhnleaa.Pr
/- Links: what comes when all frames come: a round of both ends, and as many as it takes. -/
namespace Go.Proofs.Ytekakngojhnleaa.Pq
open Go.RowKit Go.Proofs.Ytekakngojhnleaa.Lp Go.Proofs.Ytekakngojhnleaa.Pr Go.Proofs.Ytekakngojhnleaa.En Go.Proofs.Ytekakngojhnleaa.Dw Go.Proofs.YtekakngojhnleaaW.PrintWords Go.Proofs.YtekakngojhnleaaW.PrintLast Go.Proofs.YtekakngojhnleaaW.PrintMore
set_option linter.unusedVariables false
set_option linter.unusedSimpArgs false
variable {N : Nat} {a b : Lk} {fa fb : List (List Int)}

/-- What an end is behind frames that came. -/
def dels (b : Lk) (fs : List (List Int)) : Lk := fs.foldl (fun σ f => (inL σ f).2) b
theorem dels_cons (b : Lk) (f : List Int) (fs : List (List Int)) : dels b (f :: fs) = dels (inL b f).2 fs := rfl
/-- What frames that came do not turn, and what only grows. -/
structure Kp (b c : Lk) : Prop where
 sent : c.sent = b.sent
 took : c.took = b.took
 window : c.window = b.window
 tick : c.tick = b.tick
 told : c.told = b.told
 sure : b.sure ≤ c.sure
 all : b.all.length ≤ c.all.length
 owes : b.owes = true → c.owes = true
theorem Kp.refl (b : Lk) : Kp b b := ⟨rfl, rfl, rfl, rfl, rfl, Nat.le_refl _, Nat.le_refl _, fun h => h⟩
theorem Kp.trans {b c d : Lk} (h : Kp b c) (k : Kp c d) : Kp b d := ⟨k.sent.trans h.sent, k.took.trans h.took, k.window.trans h.window, k.tick.trans h.tick, k.told.trans h.told, Nat.le_trans h.sure k.sure, Nat.le_trans h.all k.all, fun e => k.owes (h.owes e)⟩
theorem right_of (d : Bool) (s k : Nat) (l : List Int) (hs : s ≤ 1000000) (hk : k ≤ 1000000) (hl : l.length ≤ 1048576) (hd : d = false → s = 0 ∧ l = []) : Rt.rightB d (s : Int) (k : Int) l.length = true := by
 have h1 : (Rt.within (s : Int)) = true := by unfold Rt.within; simp; omega
 have h2 : (Rt.within (k : Int)) = true := by unfold Rt.within; simp; omega
 have h3 : decide ((l.length : Int) ≤ 1048576) = true := by simp; omega
 unfold Rt.rightB
 rw [h1, h2, h3]
 cases d with
 | true => rfl
 | false => rw [(hd rfl).1, (hd rfl).2]; rfl
theorem dec_data (h : Inv N a) (hN : N ≤ 1000000) (hk : a.all.length ≤ 1000000) {s : Nat} (hs : s < a.took.length) : decA (fData a s) = ((true, (s : Int), (a.all.length : Int), a.took.getD s []), 0) := by
 have h1 := h.tk
 have hm : a.took.getD s [] ∈ a.took := by rw [List.getD_eq_getElem?_getD, List.getElem?_eq_getElem hs, Option.getD_some]; exact List.getElem_mem _
 have hl := h.ht _ hm
 exact Bk.dec_back true s a.all.length _ (right_of _ _ _ _ (by omega) hk hl.1 (fun e => by cases e)) (by omega) (by omega) hl.1 hl.2
theorem dec_ack (hk : a.all.length ≤ 1000000) : decA (fAck a) = ((false, ((0 : Nat) : Int), (a.all.length : Int), []), 0) :=
 Bk.dec_back false 0 a.all.length [] (right_of _ _ _ _ (by omega) hk (by simp) (fun _ => ⟨rfl, rfl⟩)) (by omega) (by omega) (by simp) (fun x hx => by cases hx)
theorem Two.all_le (h : Two N a b fa fb) : a.all.length ≤ N ∧ b.all.length ≤ N := by
 have := h.ab.le; have := h.ba.le; have := h.ia.s1; have := h.ib.s1; have := h.ia.tk; have := h.ib.tk
 omega
theorem in_kp (h : Two N a b fa fb) (hN : N ≤ 1000000) {f : List Int} (hf : f ∈ fa) : Two (N + 1) a (inL b f).2 fa fb ∧ Kp b (inL b f).2 ∧
  ∀ (d : Bool) (s k : Nat) (l : List Int), decA f = ((d, (s : Int), (k : Int), l), 0) → (inL b f).2.sure = max b.sure k ∧ (d = true → (inL b f).2.owes = true ∧ (s ≤ b.all.length → s + 1 ≤ (inL b f).2.all.length)) := by
 obtain ⟨r0, _, r1, r2, r3, r4, r5, r6, r7, r8, r9⟩ := h.swap.in_ hN hf
 exact ⟨r0.swap, ⟨r1, r2, r3, r4, r5, r6, r7, r8⟩, r9⟩
/-- Any frames that came out. -/
theorem dels_two : ∀ (fs : List (List Int)) (b : Lk) (N : Nat), Two N a b fa fb → N + fs.length ≤ 1000000 → (∀ f ∈ fs, f ∈ fa) → Two (N + fs.length) a (dels b fs) fa fb ∧ Kp b (dels b fs) := by
 intro fs
 induction fs with
 | nil => exact fun b N h _ _ => ⟨h, Kp.refl b⟩
 | cons f fs ih =>
  intro b N h hN hf
  rw [List.length_cons] at hN
  obtain ⟨h1, k1, _⟩ := in_kp h (by omega) (hf f (by simp))
  obtain ⟨h2, k2⟩ := ih _ _ h1 (by omega) (fun g hg => hf g (by simp [hg]))
  rw [dels_cons, List.length_cons]
  exact ⟨h2.mono (by omega), k1.trans k2⟩
/-- Messages that come in a row. -/
theorem dels_range : ∀ (n s : Nat) (b : Lk) (N : Nat), Two N a b fa fb → N + n ≤ 1000000 → s ≤ b.all.length → s + n ≤ a.took.length → (∀ i, s ≤ i → i < s + n → fData a i ∈ fa) →
  s + n ≤ (dels b ((List.range' s n).map (fData a))).all.length ∧ (0 < n → (dels b ((List.range' s n).map (fData a))).sure = a.all.length ∧ (dels b ((List.range' s n).map (fData a))).owes = true) := by
 intro n
 induction n with
 | zero => exact fun s b N h _ hs _ _ => ⟨hs, fun e => by omega⟩
 | succ n ih =>
  intro s b N h hN hs hle hf
  obtain ⟨h1, k1, hd⟩ := in_kp h (by omega) (hf s (Nat.le_refl _) (by omega))
  have ha := Two.all_le h
  obtain ⟨e1, e2⟩ := hd _ _ _ _ (dec_data h.ia (by omega) (by omega) (by omega))
  obtain ⟨e3, e4⟩ := e2 rfl
  have e5 := e4 hs
  have hsu : (inL b (fData a s)).2.sure = a.all.length := by rw [e1]; exact Nat.max_eq_right h.ba.sure
  rw [List.range'_succ, List.map_cons, dels_cons]
  obtain ⟨r1, r2⟩ := ih (s + 1) _ _ h1 (by omega) e5 (by omega) (fun i hi hj => hf i (by omega) (by omega))
  refine ⟨by omega, fun _ => ?_⟩
  rcases Nat.eq_zero_or_pos n with rfl | hn
  ·
   exact ⟨hsu, e3⟩
  ·
   exact r2 hn
theorem due_tick (h : Inv N a) (ht : a.tick = true) : dueL a = List.range' a.sure (newSent a - a.sure) := by
 have h0 := h.s0
 have hn := newSent_le h
 unfold dueL
 rw [if_pos ht]
 have e1 : List.range' a.sent (newSent a - a.sent) = List.range' (a.sure + 1 * (a.sent - a.sure)) (newSent a - a.sent) := by congr 1; omega
 rw [e1, List.range'_append]
 congr 1
 omega
theorem fData_out (s : Nat) : fData (outL a).2 s = fData a s := rfl
/-- What comes out of an end that ticked, and all of it comes. -/
theorem flush_to (h : Two N a b fa fb) (hN : N + 17 ≤ 1000000) (ht : a.tick = true) :
  Two (N + 17) (outL a).2 (dels b (outL a).1) (fa ++ (outL a).1) fb ∧ Kp b (dels b (outL a).1) ∧ (dels b (outL a).1).all.length = newSent a ∧
   (a.sure < newSent a → (dels b (outL a).1).owes = true) ∧ ((a.sure < newSent a ∨ a.owes = true) → (dels b (outL a).1).sure = a.all.length) := by
 have hn := newSent_le h.ia
 have h0 := h.ia.s0
 have hw := h.ia.w1
 have ht2 := Two.out h
 have hdue := due_tick h.ia ht
 have hsub : ∀ f ∈ (outL a).1, f ∈ fa ++ (outL a).1 := fun f hf => List.mem_append.2 (.inr hf)
 have hle : (dels b (outL a).1).all.length ≤ newSent a → newSent a ≤ (dels b (outL a).1).all.length → (dels b (outL a).1).all.length = newSent a := fun a b => Nat.le_antisymm a b
 have hup : ∀ M, Two M (outL a).2 (dels b (outL a).1) (fa ++ (outL a).1) fb → (dels b (outL a).1).all.length ≤ newSent a := fun M h => h.ab.le
 by_cases hd : a.sure < newSent a
 ·
  have hfs : (outL a).1 = (List.range' a.sure (newSent a - a.sure)).map (fData (outL a).2) := by
   unfold outL
   dsimp only
   rw [if_neg (by rw [hdue, List.length_range']; omega), hdue]
   rfl
  have hlen : (outL a).1.length = newSent a - a.sure := by rw [hfs, List.length_map, List.length_range']
  obtain ⟨r1, r2⟩ := dels_two (outL a).1 b N ht2 (by omega) hsub
  obtain ⟨r3, r4⟩ := dels_range (a := (outL a).2) (newSent a - a.sure) a.sure b N ht2 (by omega) h.ab.sure (by show _ ≤ a.took.length; omega) (fun i hi hj => by
   refine hsub _ ?_
   rw [hfs]
   exact List.mem_map.2 ⟨i, List.mem_range'_1.2 ⟨hi, hj⟩, rfl⟩)
  rw [← hfs] at r3 r4
  obtain ⟨r5, r6⟩ := r4 (by omega)
  exact ⟨r1.mono (by omega), r2, hle (hup _ r1) (by omega), fun _ => r6, fun _ => r5⟩
 ·
  have hnil : dueL a = [] := by rw [hdue, show newSent a - a.sure = 0 by omega]; rfl
  have hb := h.ab.sure
  by_cases ho : a.owes = true
  ·
   have hfs : (outL a).1 = [fAck a] := by
    unfold outL
    dsimp only
    rw [if_pos ⟨by rw [hnil]; rfl, ho⟩]
   obtain ⟨r1, r2⟩ := dels_two (outL a).1 b N ht2 (by rw [hfs]; simp; omega) hsub
   have ha := Two.all_le h
   obtain ⟨_, _, hdd⟩ := in_kp ht2 (by omega) (hsub (fAck a) (by rw [hfs]; simp))
   obtain ⟨e1, _⟩ := hdd _ _ _ _ (dec_ack (by omega))
   have e2 : (dels b (outL a).1) = (inL b (fAck a)).2 := by rw [hfs]; rfl
   have hal := r2.all
   have hu := hup _ r1
   refine ⟨r1.mono (by rw [hfs]; simp), r2, hle hu (by omega), fun e => absurd e hd, fun _ => ?_⟩
   rw [e2, e1]
   exact Nat.max_eq_right h.ba.sure
  ·
   have hfs : (outL a).1 = [] := by
    unfold outL
    dsimp only
    rw [if_neg (fun e => ho e.2), hnil]
    rfl
   obtain ⟨r1, r2⟩ := dels_two (outL a).1 b N ht2 (by rw [hfs]; simp; omega) hsub
   have hal := r2.all
   have hu := hup _ r1
   exact ⟨r1.mono (by rw [hfs]; simp), r2, hle hu (by omega), fun e => absurd e hd, fun e => (e.elim (fun e => absurd e hd) (fun e => absurd e ho))⟩
/-- A round: both tick; what comes out of one comes to the other, and back. -/
def rnd (a b : Lk) : Lk × Lk :=
 (dels (outL (tickL a)).2 (outL (dels (tickL b) (outL (tickL a)).1)).1, (outL (dels (tickL b) (outL (tickL a)).1)).2)
theorem newSent_ge (h : Inv N a) : min (a.sure + 1) a.took.length ≤ newSent a := by
 have := h.w0
 unfold newSent
 omega
theorem rnd_two (h : Two N a b fa fb) (hN : N + 40 ≤ 1000000) : Two (N + 34) (rnd a b).1 (rnd a b).2 (fa ++ (outL (tickL a)).1) (fb ++ (outL (dels (tickL b) (outL (tickL a)).1)).1) ∧ (rnd a b).1.took = a.took ∧ (rnd a b).2.took = b.took ∧
  newSent a ≤ (rnd a b).1.sure ∧ (rnd a b).1.all.length = (rnd a b).2.sent ∧ b.sure ≤ (rnd a b).2.sure ∧ min ((rnd a b).2.sure + 1) b.took.length ≤ (rnd a b).2.sent ∧ (a.owes = true → (rnd a b).2.sure = a.all.length) ∧ ((rnd a b).2.sure < (rnd a b).2.sent → (rnd a b).1.owes = true) := by
 have h1 : Two N (tickL a) (tickL b) fa fb := ((h.ticks).swap.ticks).swap
 obtain ⟨t1, k1, l1, o1, s1⟩ := flush_to h1 (by omega) rfl
 obtain ⟨t2, k2, l2, o2, s2⟩ := flush_to t1.swap (by omega) (by rw [k1.tick]; rfl)
 have hge := newSent_ge t1.ib
 refine ⟨t2.swap, k2.took, k1.took, ?_, l2, k1.sure, ?_, fun e => s1 (.inr e), fun e => o2 e⟩
 ·
  show newSent a ≤ (dels _ _).sure
  have hc : newSent (tickL a) = newSent a := rfl
  rw [hc] at l1 o1 s1
  rcases Nat.lt_or_ge a.sure (newSent a) with hd | hd
  ·
   rw [s2 (.inr (o1 hd)), l1]
   exact Nat.le_refl _
  ·
   exact Nat.le_trans hd k2.sure
 ·
  have e : (dels (tickL b) (outL (tickL a)).1).took = b.took := k1.took
  rw [e] at hge
  exact hge
/-- Behind r rounds. -/
structure After (r A0 B0 : Nat) (TA TB : List (List Int)) (a b : Lk) : Prop where
 ta : a.took = TA
 tb : b.took = TB
 sa : min (A0 + r) TA.length ≤ a.sure
 sb : 1 ≤ r → min (B0 + (r - 1)) TB.length ≤ b.sure
 nb : 1 ≤ r → min (B0 + r) TB.length ≤ b.sent
 al : 1 ≤ r → a.all.length = b.sent ∧ (b.sure < b.sent → a.owes = true)
 b0 : B0 ≤ b.sure
theorem After.start (a b : Lk) : After 0 a.sure b.sure a.took b.took a b := ⟨rfl, rfl, by omega, fun h => by omega, fun h => by omega, fun h => by omega, Nat.le_refl _⟩
theorem After.next {r A0 B0 : Nat} {TA TB : List (List Int)} (k : After r A0 B0 TA TB a b) (h : Two N a b fa fb) (hN : N + 40 ≤ 1000000) : After (r + 1) A0 B0 TA TB (rnd a b).1 (rnd a b).2 := by
 obtain ⟨_, t1, t2, hs, hal, hbs, hbn, how, hno⟩ := rnd_two h hN
 have hge := newSent_ge h.ia
 rw [k.ta] at hge
 rw [k.tb] at hbn
 have k1 := k.sa
 have k2 := k.b0
 have hsb : 1 ≤ r → b.sent ≤ (rnd a b).2.sure := fun hr => by
  obtain ⟨e1, e2⟩ := k.al hr
  rcases Nat.lt_or_ge b.sure b.sent with hd | hd
  ·
   rw [how (e2 hd), e1]; exact Nat.le_refl _
  ·
   omega
 refine ⟨t1.trans k.ta, t2.trans k.tb, by omega, fun _ => ?_, fun _ => ?_, fun _ => ⟨hal, hno⟩, by omega⟩
 ·
  rcases Nat.eq_zero_or_pos r with rfl | hr
  ·
   omega
  ·
   have := hsb hr; have := k.nb hr; omega
 ·
  rcases Nat.eq_zero_or_pos r with rfl | hr
  ·
   omega
  ·
   have := hsb hr; have := k.nb hr; omega
theorem After.done {r A0 B0 : Nat} {TA TB : List (List Int)} (k : After r A0 B0 TA TB a b) (h : Two N a b fa fb) (ha : TA.length + 1 ≤ A0 + r) (hb : TB.length + 1 ≤ B0 + r) (hr : 1 ≤ r) :
  a.sure = a.took.length ∧ b.sure = b.took.length ∧ a.all.length = b.took.length ∧ b.all.length = a.took.length := by
 have e1 := k.sa; have e2 := k.sb hr; have e3 := (k.al hr).1
 have e4 := h.ia.s0; have e5 := h.ia.s1; have e6 := h.ib.s0; have e7 := h.ib.s1; have e8 := h.ab.sure; have e9 := h.ab.le
 rw [k.ta] at e5 ⊢
 rw [k.tb] at e7 ⊢
 omega
end Go.Proofs.Ytekakngojhnleaa.Pq
