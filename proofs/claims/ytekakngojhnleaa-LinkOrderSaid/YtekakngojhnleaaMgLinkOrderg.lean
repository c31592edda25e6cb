/- Parts of the proof of LinkOrder, merged: each is proved for all its inputs. -/
import Derived.Test.YtekakngojhnleaaMgLinkOrderf
import Derived.Test.YtekakngojhnleaaMgLinkOrderc
import Derived.BigRegion
import Derived.Deep.CutRange
/- Links: Next of the program walked. -/
namespace Go.Proofs.Ytekakngojhnleaa.Lb
open Go.RowKit Go.Maps Go.Proofs.Ytekakngojhnleaa.Mp Go.Proofs.Ytekakngojhnleaa.Mq Go.Proofs.Ytekakngojhnleaa.Lp Go.Proofs.Ytekakngojhnleaa.Lm Go.Proofs.Ytekakngojhnleaa.La Go.Proofs.YtekakngojhnleaaW.PrintWords Go.Proofs.YtekakngojhnleaaW.PrintLast Go.Proofs.YtekakngojhnleaaW.PrintMore
set_option linter.unusedVariables false
set_option linter.unusedSimpArgs false
variable {w : World} {B N p : Nat} {S : Nat → Prop} {σ : Lk}

def zH : Hd := ⟨none, 0, 0⟩
def rdH (xs : List Hd) (i : Int) : Hd := xs.getD i.toNat zH
theorem at_H {A : Option Addr} {n : Nat} {xs : List Hd} (h : kH.C w A n xs) (i : Int) (h0 : 0 ≤ i) (h1 : i < n) : ∃ ad, A = some ad ∧ w.cell? (ad.add i.toNat) = some (encH (rdH xs i)) := by
  obtain ⟨ad, c, e, _, hK, hc⟩ := Kd.C_get h zH i h0 h1
  have hK' : c = [encH (rdH xs i)] := hK
  subst hK'
  have := hc 0 _ rfl
  exact ⟨ad, e, by simpa [kH, Kd.scalar] using this⟩
theorem next_no (h : LP w B N S p σ) (ht : ¬ σ.told < σ.all.length) : Calls Try.prog 23 #[.pointer (some ⟨p, 0, none⟩)] w fun e w' => e = .returned (.tuple #[.slice none 0 0, .bool false]) ∧ w' = w := by
  obtain ⟨b, vq, vi, hq, hi, n, s, f, hx⟩ := h
  have hl : hi.length = 0 := by rw [hx.ib.1, List.length_drop]; omega
  obtain ⟨A, c, hv, _⟩ := Kd.Q_slice hx.i
  rw [hl] at hv
  subst hv
  have c4 : w.cell? ⟨p, 4, none⟩ = some (.slice A 0 c) := blk_cell hx.blk 4
  clear hx hl ht
  go_enter Try.func23, Try.ntmps23
  go_wp2_with fail
  try go_ret2
  exact ⟨rfl, rfl⟩
theorem next_end {b n s : Nat} {vq vi : Value} {hq hi : List Hd} {f : Int → Option Value} (h : LPx w B N S p σ b vq vi hq hi n s f) (v' : Value) (hq' : kH.Q 30 w B (fun k => some k = vi.ownBlock) v' (hi.drop 1)) :
    LP (w.setCell ⟨p, 4, none⟩ v') B N S p { σ with told := σ.told + 1 } ∧ FrL B S S w (w.setCell ⟨p, 4, none⟩ v') := by
  obtain ⟨g0, g1, g2, g3, g4, g5, g6, g7⟩ := LPx.put h 4 v'
  have hown : ∀ k, v'.ownBlock = some k → vi.ownBlock = some k := fun k hk => (Kd.Q_ok hq' k hk).symm
  have hib := h.ib.drop 1
  rw [List.drop_drop] at hib
  refine ⟨⟨b, vq, v', hq, hi.drop 1, n, s, f, g0, g1, g2, Kd.Q_far (Kd.Q_tight rfl hq') (fun k hk e => LPx.ni h (hown p (by rw [← hk, e]))) v', hib.keep g7, g5, h.mn, g6, h.sp, h.sb, h.sq, fun k hk => h.si k (hown k hk), fun k hk e => h.ap k hk (hown k e), ?_, h.ge⟩, FrL.set (h.ge p h.sp) h.sp ⟨_, h.blk⟩ 4 _⟩
  intro k hk
  rw [World.size_setCell]
  exact h.lt k hk
set_option maxRecDepth 100000 in
set_option maxHeartbeats 1000000 in
theorem next_yes (h : LP w B N S p σ) (ht : σ.told < σ.all.length) : Calls Try.prog 23 #[.pointer (some ⟨p, 0, none⟩)] w fun e w' => ∃ v, e = .returned (.tuple #[v, .bool true]) ∧ Bd w' B v σ.all[σ.told] ∧ LP w' B N S p (nextL σ).2 ∧ FrL B S S w w' := by
  obtain ⟨b, vq, vi, hq, hi, n, s, f, hx⟩ := h
  have hl : hi.length = σ.all.length - σ.told := by rw [hx.ib.1, List.length_drop]
  have hnx : (nextL σ).2 = { σ with told := σ.told + 1 } := by unfold nextL; rw [dif_pos ht]
  rw [hnx]
  obtain ⟨m, hm⟩ : ∃ m, hi.length = m + 1 := ⟨hi.length - 1, by omega⟩
  obtain ⟨A, c, hv, hcap, hcr⟩ := Kd.Q_reads hx.i
  have hm0 : (0 : Int) < (hi.length : Int) := by omega
  obtain ⟨ad, rfl, hc0⟩ := at_H hcr 0 (by omega) hm0
  subst hv
  have hbd : Bd w B (encH (rdH hi 0)) σ.all[σ.told] := hx.ib.2 0 _ _ (by unfold rdH; cases hi with | nil => simp at hm | cons a r => rfl) (by rw [List.getElem?_drop, Nat.add_zero, List.getElem?_eq_getElem ht])
  have HBD := Aside0.mk hbd
  have hdr := Kd.Q_drop (k := 1) hx.i (by omega)
  have HDR := Aside0.mk hdr
  have c4 : w.cell? ⟨p, 4, none⟩ = some (.slice (some ad) hi.length c) := blk_cell hx.blk 4
  have f4 : w.frozen? ⟨p, 4, none⟩ = false := blk_frozen hx.blk 4
  obtain ⟨y, hy⟩ : ∃ y, y = rdH hi 0 := ⟨_, rfl⟩
  rw [← hy] at hc0
  have HY := Aside0.mk hy
  unfold encH at hc0
  rw [show ad.add (0 : Int).toNat = ad by simp [Addr.add]] at hc0
  have hlb : ((hi.length : Int) == 0) = false := by rw [beq_eq_false_iff_ne]; omega
  have H := Aside0.mk hx
  have hmax := Kd.C_max hcr
  have hcm : (1 : Int) ≤ (c : Int) := by omega
  have HL := Aside0.mk (And.intro hl hm)
  clear hx hbd hdr hnx hy hl hm hcr
  go_enter Try.func23, Try.ntmps23
  go_wp2_with fail
  · have hc1 : c = 1 := by assumption
    go_ret2
    rw [if_pos hc1] at HDR
    subst hc1
    refine ⟨_, rfl, ?_, (next_end H.out _ HDR.out).1, (next_end H.out _ HDR.out).2⟩
    show Bd _ B (encH y) _
    rw [HY.out]
    exact HBD.out.keep (Keep5.set H.out.blk (by decide))
  · have hc1 : ¬ c = 1 := by assumption
    go_ret2
    rw [if_neg hc1] at HDR
    refine ⟨_, rfl, ?_, (next_end H.out _ HDR.out).1, (next_end H.out _ HDR.out).2⟩
    show Bd _ B (encH y) _
    rw [HY.out]
    exact HBD.out.keep (Keep5.set H.out.blk (by decide))
end Go.Proofs.Ytekakngojhnleaa.Lb
/- Links: Send of the program walked. -/
namespace Go.Proofs.Ytekakngojhnleaa.Lc
open Go.RowKit Go.Maps Go.Proofs.Ytekakngojhnleaa.Mp Go.Proofs.Ytekakngojhnleaa.Mq Go.Proofs.Ytekakngojhnleaa.Lp Go.Proofs.Ytekakngojhnleaa.Lm Go.Proofs.Ytekakngojhnleaa.La Go.Proofs.Ytekakngojhnleaa.Lb Go.Proofs.YtekakngojhnleaaW.PrintWords Go.Proofs.YtekakngojhnleaaW.PrintLast Go.Proofs.YtekakngojhnleaaW.PrintMore
set_option linter.unusedVariables false
set_option linter.unusedSimpArgs false
variable {w : World} {B N p : Nat} {S : Nat → Prop} {σ : Lk}

theorem info30 : (Try.prog.info? 30).map (fun i => (i.zero, i.size, i.bytes)) = some (some (.slice none 0 0), 1, 24) := by kernel_rfl
theorem LPx.below {w' : World} {b n s : Nat} {vq vi : Value} {hq hi : List Hd} {f : Int → Option Value} (h : LPx w B N S p σ b vq vi hq hi n s f) (hb : Below w.heap.size w w') : LPx w' B N S p σ b vq vi hq hi n s f := by
  have k5 := Keep5.below hb
  exact ⟨blk_below h.blk hb, Kd.Q_below h.q hb, h.qb.keep k5, Kd.Q_below h.i hb, h.ib.keep k5, h.m.below hb, h.mn, h.mf.keep k5, h.sp, h.sb, h.sq, h.si, h.ap, fun k hk => Nat.lt_of_lt_of_le (h.lt k hk) hb.size, h.ge⟩
theorem LP.below {w' : World} (h : LP w B N S p σ) (hb : Below w.heap.size w w') : LP w' B N S p σ := by
  obtain ⟨b, vq, vi, hq, hi, n, s, f, h⟩ := h
  have k5 := Keep5.below hb
  exact ⟨b, vq, vi, hq, hi, n, s, f, blk_below h.blk hb, Kd.Q_below h.q hb, h.qb.keep k5, Kd.Q_below h.i hb, h.ib.keep k5, h.m.below hb, h.mn, h.mf.keep k5, h.sp, h.sb, h.sq, h.si, h.ap, fun k hk => Nat.lt_of_lt_of_le (h.lt k hk) hb.size, h.ge⟩
/-- The queue has grown by one. -/
theorem send_end {b n s : Nat} {vq vi : Value} {hq hi : List Hd} {f : Int → Option Value} (h : LPx w B N S p σ b vq vi hq hi n s f) {w4 w9 : World} (hb4 : Below w.heap.size w w4) {v9 : Value} {x : Hd} {l : List Int} (hx : Bd w4 B (encH x) l) (hs : σ.sure ≤ σ.took.length)
    (hq9 : kH.Q 30 w9 B (fun k => some k = vq.ownBlock ∨ w4.heap.size ≤ k) v9 (hq ++ [x])) (hg : w4.grownBy w9 vq.ownBlock) (hat : v9.ownBlock = vq.ownBlock ∨ ∃ k, v9.ownBlock = some k ∧ w4.heap.size ≤ k) :
    LP (w9.setCell ⟨p, 1, none⟩ v9) B N (fun k => S k ∨ v9.ownBlock = some k) p { σ with took := σ.took ++ [l] } ∧ FrL B S (fun k => S k ∨ v9.ownBlock = some k) w (w9.setCell ⟨p, 1, none⟩ v9) := by
  have hb5 : Below w.heap.size w w4 := hb4
  have hq5 : kH.Q 30 w4 B (fun k => some k = vq.ownBlock) vq hq := Kd.Q_below h.q hb5
  have k59 : Keep5 w4 w9 := Keep5.grown hg (fun k hk cs hc => by
    obtain ⟨cs', hc'⟩ := Kd.Q_typed hq5 k hk
    rw [hc] at hc'
    cases hc')
  have k09 : Keep5 w w9 := (Keep5.below hb5).trans k59
  have k49 : Keep5 w4 w9 := k59
  have hblk : w9.heap[p]? = some (.cells (cellsE σ vq vi b) 82 (0, 0)) := by
    rw [hg.block p (by have := blk_lt h.blk; have := hb5.size; omega) (fun e => LPx.nq h e.symm), hb5.block p (blk_lt h.blk), h.blk]
  have kset : Keep5 w9 (w9.setCell ⟨p, 1, none⟩ v9) := Keep5.set hblk (by decide)
  have hn9 : v9.ownBlock ≠ some p := fun e => by
    rcases hat with h1 | ⟨k, h1, h2⟩
    · exact LPx.nq h (by rw [← h1, e])
    · rw [h1] at e; cases e; have := blk_lt h.blk; have := hb4.size; omega
  have hi9 : kH.Q 30 w9 B (fun k => some k = vi.ownBlock) vi hi := Kd.Q_grown (Kd.Q_below h.i hb5) hg (fun k hk e => h.ap k e.symm hk.symm)
  have hm9 : IntMap Try.prog 3 w9 b n f s := (h.m.below hb5).kept hg (fun e => by
    obtain ⟨cs, hc⟩ := Kd.Q_typed h.q b e.symm
    exact h.m.ne_cells hc rfl)
  have hlt9 : ∀ k, v9.ownBlock = some k → k < w9.heap.size := fun k hk => by obtain ⟨cs, hc⟩ := Kd.Q_typed hq9 k hk; exact blk_lt hc
  have hsz : w.heap.size ≤ w9.heap.size := by have := hb5.size; have := hg.size; omega
  refine ⟨⟨b, v9, vi, hq ++ [x], hi, n, s, f, ?_, Kd.Q_far (Kd.Q_tight rfl hq9) (fun k hk e => hn9 (by rw [← hk, e])) v9, ?_, Kd.Q_far hi9 (fun k hk e => LPx.ni h (by rw [← hk, e])) v9, (h.ib.keep k09).keep kset, hm9.far (by exact LPx.nb h) v9, h.mn, (h.mf.keep k09).keep kset, .inl h.sp, .inl h.sb, fun k hk => .inr hk, fun k hk => .inl (h.si k hk), ?_, ?_, ?_⟩, ?_, ?_, ?_, ?_⟩
  · rw [blk_put hblk 1 v9 rfl]; rfl
  · have e1 : (σ.took ++ [l]).drop σ.sure = σ.took.drop σ.sure ++ [l] := by rw [List.drop_append_of_le_length hs]
    show Bods _ B (hq ++ [x]) ((σ.took ++ [l]).drop σ.sure)
    rw [e1]
    exact (((h.qb.keep k09).snoc (hx.keep k49))).keep kset
  · intro k hk e
    rcases hat with h1 | ⟨k', h1, h2⟩
    · exact h.ap k (by rw [← h1]; exact hk) e
    · rw [h1] at hk; cases hk
      have := h.lt k (h.si k e)
      have := hb4.size
      omega
  · intro k hk
    rw [World.size_setCell]
    rcases hk with hk | hk
    · exact Nat.lt_of_lt_of_le (h.lt k hk) hsz
    · exact hlt9 k hk
  · intro k hk
    rcases hk with hk | hk
    · exact h.ge k hk
    · exact Kd.Q_base hq9 k hk
  · have hB : B ≤ w.heap.size := by have := h.ge p h.sp; have := blk_lt h.blk; omega
    exact (pw_below_grown (hb5.mono hB) _ (Nat.le_trans hB hb5.size) hg (fun k hk => h.ge k (h.sq k hk))).setCell (h.ge p h.sp) v9
  · exact (Kept.of_grown hg (Kept.of_below hb5 S) (fun k hk => .inl (h.sq k hk))).setCell (.inl h.sp) v9
  · exact k09.trans kset
  · intro k hk
    rcases hk with hk | hk
    · exact .inl hk
    · rcases hat with h1 | ⟨k', h1, h2⟩
      · exact .inl (h.sq k (by rw [← h1]; exact hk))
      · rw [h1] at hk; cases hk; exact .inr (Nat.le_trans hb4.size h2)
set_option maxRecDepth 100000 in
set_option maxHeartbeats 1000000 in
theorem send_calls (h : LP w B N S p σ) {M : Nat} (hI : Inv M σ) (hM : M ≤ 1000000) (A : Option Addr) (c : Nat) (l : List Int) (hr : Kd.C (Kd.int .u8) w A l.length l) (hl : l.length ≤ 140737488351232) :
    Calls Try.prog 19 #[.pointer (some ⟨p, 0, none⟩), .slice A l.length c] w fun e w' => ∃ S', e = .returned (.int .i64 (sendL σ l).1) ∧ LP w' B N S' p (sendL σ l).2 ∧ FrL B S S' w w' := by
  obtain ⟨R, hR⟩ : ∃ R, R = sendL σ l := ⟨_, rfl⟩
  rw [← hR]
  unfold sendL at hR
  obtain ⟨b, vq, vi, hq, hi, n, s, f, hx⟩ := h
  obtain ⟨A0, c0, rfl, hcap0⟩ := Kd.Q_slice hx.q
  have hql : hq.length = σ.took.length - σ.sure := by rw [hx.qb.1, List.length_drop]
  have e1 := hI.s3
  have e2 := hI.tk
  have e3 : σ.sure ≤ σ.took.length := Nat.le_trans hI.s0 hI.s1
  have c1 : w.cell? ⟨p, 1, none⟩ = some (.slice A0 hq.length c0) := blk_cell hx.blk 1
  have c2 : w.cell? ⟨p, 2, none⟩ = some (.int .i64 (σ.sure : Int)) := blk_cell hx.blk 2
  have HLP := Aside0.mk (show LP w B N S p σ from ⟨b, _, vi, hq, hi, n, s, f, hx⟩)
  have H := Aside0.mk hx
  have HR := Aside0.mk hr
  have HSU := Aside0.mk e3
  have HLN := Aside0.mk (show hq.length ≤ 64 by omega)
  have HBW := Aside0.mk (show B ≤ w.heap.size by have := hx.ge p hx.sp; have := blk_lt hx.blk; omega)
  clear hx hr
  by_cases h1 : 1048576 < (l.length : Int)
  · rw [if_pos (.inl (by omega))] at hR
    have HRR := Aside0.mk hR
    clear hR
    go_enter Try.func19, Try.ntmps19
    go_wp2_with fail
    go_quiet (fail)
    go_wp2_with fail
    go_ret
    refine ⟨S, by rw [HRR.out]; rfl, by rw [HRR.out]; exact LP.below HLP.out (pw_below_drewN (Below.refl _ _) _), ?_⟩
    exact ⟨pw_below_drewN (Below.refl _ _) _, Kept.refl _ _, Keep5.refl _, fun _ h => .inl h⟩
  · rw [if_neg (by omega)] at hR
    have hg1 : decide ((1048576 : Int) < (l.length : Int)) = false := decide_eq_false h1
    have hsum : (σ.sure : Int) + (hq.length : Int) < 1073741824 := by omega
    have hg2 : decide ((1073741824 : Int) ≤ (σ.sure : Int) + (hq.length : Int)) = false := decide_eq_false (by omega)
    by_cases h2 : 64 ≤ (hq.length : Int)
    · rw [if_pos (by omega)] at hR
      have HRR := Aside0.mk hR
      clear hR hql e1 e2 e3
      go_enter Try.func19, Try.ntmps19
      go_wp2_with fail
      go_region
      all_goals go_wp2_with fail
      all_goals go_ret
      all_goals (
        refine ⟨S, by rw [HRR.out]; rfl, by rw [HRR.out]; exact LP.below HLP.out (below_drew (Below.refl _ _)), ?_⟩
        exact ⟨below_drew (Below.refl _ _), Kept.refl _ _, Keep5.refl _, fun _ h => .inl h⟩)
    · rw [if_neg (by omega)] at hR
      have hg3 : decide ((64 : Int) ≤ (hq.length : Int)) = false := decide_eq_false h2
      have HRR := Aside0.mk hR
      clear h2
      clear hR hql e1 e2 e3
      go_enter Try.func19, Try.ntmps19
      go_wp2_with fail
      go_region
      clear hsum hg2 hg1 h1
      go_wp2_with fail
      have hbu : Below w.heap.size w w.drew := below_drew (Below.refl _ w)
      have hfu : FrL B S S w w.drew := ⟨hbu.mono HBW.out, Kept.of_below hbu S, Keep5.below hbu, fun _ h => .inl h⟩
      have HU := Aside0.mk (LPx.below H.out hbu)
      have HUR := Aside0.mk (Kd.C_below HR.out hbu)
      have HBU := Aside0.mk (show B ≤ w.drew.heap.size from HBW.out)
      have HFU := Aside0.mk hfu
      clear hbu hfu c1 c2 hg3
      generalize w.drew = u at HU HUR HBU HFU ⊢
      have HS0 : u.drew.cell? ⟨p, 1, none⟩ = some (.slice A0 hq.length c0) := blk_cell HU.out.blk 1
      refine start_ (n := 12) (S := fun w' => w'.cell? ⟨p, 1, none⟩ = some (.slice A0 hq.length c0)) (ds := [11]) #[false, false, false, false, false, false, false, false, false, false, false, false] (by kernel_rfl) rfl rfl HS0 (fun hHeld => ?_)
      refine pure_ (i := 0) (N := some 29) (v := ?_) (a' := ?_) #[true, false, false, false, false, false, false, false, false, false, false, false] rfl rfl (by kernel_rfl) (fun _ _ _ h => h) (Or.inl ⟨by rfl, ?_⟩) ?_ ?_
      rotate_left
      · intro w'
        go_simp
        try with_reducible rfl
      rotate_left
      · simp only [Act.put, List.setIfInBounds_toArray, List.set_cons_zero, List.set_cons_succ, i64_w, i32_w]
        rfl
      refine pure_ (i := 1) (N := some 30) (v := ?_) (a' := ?_) #[true, true, false, false, false, false, false, false, false, false, false, false] rfl rfl (by kernel_rfl) (fun _ _ _ h => h) (Or.inl ⟨by rfl, ?_⟩) ?_ ?_
      rotate_left
      · intro w'
        go_simp
        try with_reducible rfl
      rotate_left
      · simp only [Act.put, List.setIfInBounds_toArray, List.set_cons_zero, List.set_cons_succ, i64_w, i32_w]
        rfl
      refine pure_ (i := 2) (N := some 31) (v := ?_) (a' := ?_) #[true, true, true, false, false, false, false, false, false, false, false, false] rfl rfl (by kernel_rfl) (fun _ _ _ h => h) (Or.inl ⟨by rfl, ?_⟩) ?_ ?_
      rotate_left
      · intro w'
        go_simp
        try with_reducible rfl
      rotate_left
      · simp only [Act.put, List.setIfInBounds_toArray, List.set_cons_zero, List.set_cons_succ, i64_w, i32_w]
        rfl
      refine pure_ (i := 3) (N := some 32) (v := ?_) (a' := ?_) #[true, true, true, true, false, false, false, false, false, false, false, false] rfl rfl (by kernel_rfl) (fun _ _ _ h => h) (Or.inl ⟨by rfl, ?_⟩) ?_ ?_
      rotate_left
      · intro w'
        go_simp
        try with_reducible rfl
      rotate_left
      · simp only [Act.put, List.setIfInBounds_toArray, List.set_cons_zero, List.set_cons_succ, i64_w, i32_w]
        rfl
      refine pure_ (i := 5) (N := some 34) (v := ?_) (a' := ?_) #[true, true, true, true, false, true, false, false, false, false, false, false] rfl rfl (by kernel_rfl) (fun _ _ _ h => h) (Or.inl ⟨by rfl, ?_⟩) ?_ ?_
      rotate_left
      · intro w'
        go_simp
        try with_reducible rfl
      rotate_left
      · simp only [Act.put, List.setIfInBounds_toArray, List.set_cons_zero, List.set_cons_succ, i64_w, i32_w]
        rfl
      refine take_ (i := 4) (N := some 33) (v := ?_) (a' := ?_) #[true, true, true, true, true, true, false, false, false, false, false, false] rfl rfl (by kernel_rfl) (fun _ _ _ h => h) (Or.inl ⟨by rfl, ?_⟩) hHeld ?_ ?_
      rotate_left
      · intro w' q1
        go_simp
        try with_reducible rfl
      rotate_left
      · simp only [Act.put, List.setIfInBounds_toArray, List.set_cons_zero, List.set_cons_succ, i64_w, i32_w]
        rfl
      refine one_ (i := 6) (N := some 35) #[true, true, true, true, true, true, true, false, false, false, false, false] rfl rfl (by kernel_rfl) (by decide) (fun K hK => ?_)
      refine goes_ Try.func51 (by kernel_rfl) rfl #[.slice A l.length c] (by rfl) rfl rfl (by first | rfl | (simp [Act.eval]; done) | kernel_rfl) ?_
      refine (Go.Proofs.Ytekakngojhnleaa.Rd.clone_calls A c l _ (show Kd.C (Kd.int .u8) u.drew A l.length l from HUR.out) (by omega)).mono ?_
      rintro e w4 ⟨v, rfl, ho4, hb4⟩
      replace hb4 : Below u.heap.size u w4 := (below_drew (Below.refl _ u)).trans hb4
      replace ho4 : (Kd.int .u8).R 5 w4 u.heap.size (fun _ => True) v l := ho4
      refine ⟨_, rfl, ?_⟩
      obtain ⟨A4, c4, rfl⟩ := Kd.R_slice ho4
      have HBD := Aside0.mk (show Bd w4 B (encH ⟨A4, l.length, c4⟩) l from Bd.of ho4 HBU.out)
      have HB4 := Aside0.mk hb4
      have HS4 : w4.cell? ⟨p, 1, none⟩ = some (.slice A0 hq.length c0) := blk_cell (blk_below HU.out.blk hb4) 1
      clear ho4 hb4
      refine hK.out _ _ HS4 (fun hHeld => ?_)
      clear hK K
      refine norm_ (a' := ?_) ?_ ?_
      rotate_left
      · show Act.put _ (some 35) _ = _
        simp only [Act.put, List.setIfInBounds_toArray, List.set_cons_zero, List.set_cons_succ, i64_w, i32_w]
        rfl
      refine one_ (i := 7) (N := some 36) #[true, true, true, true, true, true, true, true, false, false, false, false] rfl rfl (by kernel_rfl) (by decide) (fun K hK => ?_)
      refine value_ (w1 := w4.alloc (.cells #[encH ⟨A4, l.length, c4⟩] 30)) (v := .slice (some ⟨w4.heap.size, 0, none⟩) 1 1) (by rfl) rfl (by first | (go_simp; done) | (go_simp; rfl)) ?_
      refine hK.out _ _ (pw_cell_below (below_alloc (Below.refl _ w4) _) HS4) (fun hHeld => ?_)
      clear hK K
      refine norm_ (a' := ?_) ?_ ?_
      rotate_left
      · show Act.put _ (some 36) _ = _
        simp only [Act.put, List.setIfInBounds_toArray, List.set_cons_zero, List.set_cons_succ, i64_w, i32_w]
        rfl
      refine one_ (i := 8) (N := some 37) #[true, true, true, true, true, true, true, true, true, false, false, false] rfl rfl (by kernel_rfl) (by decide) (fun K hK => ?_)
      refine Kd.Q_append_step kH (w0 := w4) B (by rfl) (.tmp 33) (.tmp 36) 44 30 (.slice none 0 0) 24 rfl Try.underlying44 info30 rfl (by decide) (by omega) (.slice A0 hq.length c0) hq ⟨A4, l.length, c4⟩ [encH ⟨A4, l.length, c4⟩] (fun k => some k = (Value.slice A0 hq.length c0).ownBlock ∨ w4.heap.size ≤ k) (fun _ => False) rfl rfl rfl (fun _ hk => hk.elim) (fun k hk => .inr hk) (Kd.Q_mono (Kd.Q_below HU.out.q HB4.out) (fun k hk => .inl hk)) (Below.refl _ _) (Nat.le_trans HBU.out HB4.out.size) (by have := HLN.out; omega) ?_
      intro v9 w9 hq9 _ hg9 hat9
      obtain ⟨A9, c9, rfl, _⟩ := Kd.Q_slice hq9
      have HEND := Aside0.mk (send_end HU.out HB4.out HBD.out HSU.out hq9 hg9 hat9)
      have hblk9 : w9.heap[p]? = some (.cells (cellsE σ (.slice A0 hq.length c0) vi b) 82 (0, 0)) := by
        rw [hg9.block p (by have := blk_lt HU.out.blk; have := HB4.out.size; omega) (fun e => LPx.nq HU.out e.symm), HB4.out.block p (blk_lt HU.out.blk), HU.out.blk]
      have HBLK := Aside0.mk hblk9
      clear hq9 hg9 hat9 HS4
      refine hK.out _ _ (blk_cell hblk9 1) (fun hHeld => ?_)
      clear hK K
      refine norm_ (a' := ?_) ?_ ?_
      rotate_left
      · show Act.put _ (some 37) _ = _
        simp only [Act.put, List.setIfInBounds_toArray, List.set_cons_zero, List.set_cons_succ, i64_w, i32_w]
        rfl
      refine pure_ (i := 9) (N := some 38) (v := ?_) (a' := ?_) #[true, true, true, true, true, true, true, true, true, true, false, false] rfl rfl (by kernel_rfl) (fun _ _ _ h => h) (Or.inl ⟨by rfl, ?_⟩) ?_ ?_
      rotate_left
      · intro w'
        go_simp
        try with_reducible rfl
      rotate_left
      · simp only [Act.put, List.setIfInBounds_toArray, List.set_cons_zero, List.set_cons_succ, i64_w, i32_w]
        rfl
      refine pure_ (i := 10) (N := some 39) (v := ?_) (a' := ?_) #[true, true, true, true, true, true, true, true, true, true, true, false] rfl rfl (by kernel_rfl) (fun _ _ _ h => h) (Or.inl ⟨by rfl, ?_⟩) ?_ ?_
      rotate_left
      · intro w'
        go_simp
        try with_reducible rfl
      rotate_left
      · simp only [Act.put, List.setIfInBounds_toArray, List.set_cons_zero, List.set_cons_succ, i64_w, i32_w]
        rfl
      have d1 : w9.cell? ⟨p, 1, none⟩ = some (.slice A0 hq.length c0) := blk_cell HBLK.out 1
      have g1 : w9.frozen? ⟨p, 1, none⟩ = false := blk_frozen HBLK.out 1
      refine last_ (i := 11) (N := none) #[true, true, true, true, true, true, true, true, true, true, true, true] rfl rfl (by kernel_rfl) (by decide) (fun K hK => ?_)
      refine skip_ (w1 := w9.setCell ⟨p, 1, none⟩ (.slice A9 (hq ++ [(⟨A4, l.length, c4⟩ : Hd)]).length c9)) (by rfl) rfl (by go_simp) ?_
      refine hK.out _ _ ?_
      clear hK K
      refine done_ (by kernel_rfl) ?_
      go_wp2_with fail
      go_ret
      rw [HRR.out]
      exact ⟨_, rfl, HEND.out.1, FrL.trans HFU.out HEND.out.2⟩
end Go.Proofs.Ytekakngojhnleaa.Lc
/- Links: In of the program walked. -/
namespace Go.Proofs.Ytekakngojhnleaa.Ld
open Go.RowKit Go.Maps Go.Proofs.Ytekakngojhnleaa.Mp Go.Proofs.Ytekakngojhnleaa.Mq Go.Proofs.Ytekakngojhnleaa.Lp Go.Proofs.Ytekakngojhnleaa.Lm Go.Proofs.Ytekakngojhnleaa.La Go.Proofs.Ytekakngojhnleaa.Lb Go.Proofs.Ytekakngojhnleaa.Lc Go.Proofs.Ytekakngojhnleaa.Dw Go.Proofs.YtekakngojhnleaaW.PrintWords Go.Proofs.YtekakngojhnleaaW.PrintLast Go.Proofs.YtekakngojhnleaaW.PrintMore
set_option linter.unusedVariables false
set_option linter.unusedSimpArgs false
variable {w : World} {B N p : Nat} {S : Nat → Prop} {σ : Lk}

/-- The numbers of a frame that is right. -/
theorem dec_nums (b : List Int) (h : (decA b).2 = 0) : 0 ≤ (decA b).1.2.1 ∧ (decA b).1.2.1 ≤ 1073741824 ∧ 0 ≤ (decA b).1.2.2.1 ∧ (decA b).1.2.2.1 ≤ 1073741824 := by
  unfold decA at h ⊢
  by_cases h1 : b.length < 5 ∨ 1 < rd b 0
  · rw [if_pos h1] at h; cases h
  · rw [if_neg h1] at h ⊢
    unfold De.decF at h ⊢
    split at h
    · rename_i h2
      rw [if_pos h2]
      obtain ⟨S, B, e1, e2, l1, l2, _⟩ := En.right_facts h2.2.2.2.2.2
      simp only [e1, e2]
      omega
    · cases h

/-- More is sure: the queue is cut. -/
theorem ack_end {b n s : Nat} {vq vi : Value} {hq hi : List Hd} {f : Int → Option Value} (h : LPx w B N S p σ b vq vi hq hi n s f) (a : Nat) (v' : Value) (hq' : kH.Q 30 w B (fun k => some k = vq.ownBlock) v' (hq.drop (a - σ.sure))) (ha : σ.sure ≤ a) :
    LPx ((w.setCell ⟨p, 1, none⟩ v').setCell ⟨p, 2, none⟩ (.int .i64 (a : Int))) B N S p { σ with sure := a } b v' vi (hq.drop (a - σ.sure)) hi n s f ∧ FrL B S S w ((w.setCell ⟨p, 1, none⟩ v').setCell ⟨p, 2, none⟩ (.int .i64 (a : Int))) := by
  have hown : ∀ k, v'.ownBlock = some k → vq.ownBlock = some k := fun k hk => (Kd.Q_ok hq' k hk).symm
  have hnp : v'.ownBlock ≠ some p := fun e => LPx.nq h (hown p e)
  have g0 := blk_put (blk_put h.blk 1 v' rfl) 2 (.int .i64 (a : Int)) rfl
  have k1 : Keep5 w (w.setCell ⟨p, 1, none⟩ v') := Keep5.set h.blk (by decide)
  have k2 : Keep5 (w.setCell ⟨p, 1, none⟩ v') ((w.setCell ⟨p, 1, none⟩ v').setCell ⟨p, 2, none⟩ (.int .i64 (a : Int))) := Keep5.set (blk_put h.blk 1 v' rfl) (by decide)
  have k5 := k1.trans k2
  have hqb := h.qb.drop (a - σ.sure)
  rw [List.drop_drop, show σ.sure + (a - σ.sure) = a by omega] at hqb
  have hfar : ∀ {v : Value} {xs : List Hd} {ok : Nat → Prop}, kH.Q 30 w B ok v xs → (∀ k, ok k → k ≠ p) → kH.Q 30 ((w.setCell ⟨p, 1, none⟩ v').setCell ⟨p, 2, none⟩ (.int .i64 (a : Int))) B ok v xs := fun hh hne => Kd.Q_far (Kd.Q_far hh (fun k hk => hne k hk) _) (fun k hk => hne k hk) _
  refine ⟨⟨g0, hfar (Kd.Q_tight rfl hq') (fun k hk e => hnp (by rw [← hk, e])), hqb.keep k5, hfar h.i (fun k hk e => LPx.ni h (by rw [← hk, e])), h.ib.keep k5, (h.m.far (by exact LPx.nb h) _).far (by exact LPx.nb h) _, h.mn, h.mf.keep k5, h.sp, h.sb, fun k hk => h.sq k (hown k hk), h.si, fun k hk => h.ap k (hown k hk), ?_, h.ge⟩, ?_⟩
  · intro k hk
    rw [World.size_setCell, World.size_setCell]
    exact h.lt k hk
  · exact FrL.trans (FrL.set (h.ge p h.sp) h.sp ⟨_, h.blk⟩ 1 v') (FrL.set (h.ge p h.sp) h.sp ⟨_, blk_put h.blk 1 v' rfl⟩ 2 _)

/-- A message ahead of its turn is held, or one is taken out: the map alone is turned. -/
theorem map_end {b n s : Nat} {vq vi : Value} {hq hi : List Hd} {f : Int → Option Value} (h : LPx w B N S p σ b vq vi hq hi n s f) {w' : World} {n' s' : Nat} (x : Int) (u : Option Value) (y : Option (List Int)) (hm : IntMap Try.prog 3 w' b n' (upd f x u) s') (hg : w.grownBy w' (some b)) {N' : Nat} (hn : n' ≤ N')
    (hu : match y with | none => u = none | some l => ∃ v, u = some v ∧ Bd w B v l) : LPx w' B N' S p { σ with hold := setH σ.hold x y } b vq vi hq hi n' s' (upd f x u) ∧ FrL B S S w w' := by
  have hbc : ∀ k cs t, w.heap[k]? = some (Obj.cells cs t (0, 0)) → k ≠ b := fun k cs t hk e => h.m.ne_cells hk e.symm
  have k5 : Keep5 w w' := Keep5.grown hg (fun k hk cs hc => by cases hk; exact hbc _ cs 5 hc rfl)
  have hq' : kH.Q 30 w' B (fun k => some k = vq.ownBlock) vq hq := Kd.Q_grown h.q hg (fun k hk e => by obtain ⟨cs, hc⟩ := Kd.Q_typed h.q k hk.symm; cases e; exact hbc _ cs 30 hc rfl)
  have hi' : kH.Q 30 w' B (fun k => some k = vi.ownBlock) vi hi := Kd.Q_grown h.i hg (fun k hk e => by obtain ⟨cs, hc⟩ := Kd.Q_typed h.i k hk.symm; cases e; exact hbc _ cs 30 hc rfl)
  refine ⟨⟨(hg.block p (blk_lt h.blk) (fun e => hbc p _ 82 h.blk (Option.some.inj e))).trans h.blk, hq', h.qb.keep k5, hi', h.ib.keep k5, hm, hn, ?_, h.sp, h.sb, h.sq, h.si, h.ap, fun k hk => Nat.lt_of_lt_of_le (h.lt k hk) hg.size, h.ge⟩, ?_⟩
  · have h1 : Held w B (upd f x u) (setH σ.hold x y) := by
      intro z hz
      unfold Mp.upd setH
      by_cases e : z = x
      · simp only [e, if_pos]; exact hu
      · simp only [e, if_neg, if_false]; exact h.mf z hz
    exact h1.keep k5
  · have hB : B ≤ w.heap.size := by have := h.ge p h.sp; have := blk_lt h.blk; omega
    exact ⟨pw_below_grown (Below.refl B w) _ hB hg (fun k hk => by cases hk; exact h.ge b h.sb), Kept.of_grown hg (Kept.refl w S) (fun k hk => by cases hk; exact .inl h.sb), k5, fun _ hk => .inl hk⟩

/-- One more has come in its turn. -/
theorem got_end {b n s : Nat} {vq vi : Value} {hq hi : List Hd} {f : Int → Option Value} (h : LPx w B N S p σ b vq vi hq hi n s f) {w9 : World} {v9 : Value} {x : Hd} {l : List Int} (hx : Bd w B (encH x) l) (ht : σ.told ≤ σ.all.length)
    (hi9 : kH.Q 30 w9 B (fun k => some k = vi.ownBlock ∨ w.heap.size ≤ k) v9 (hi ++ [x])) (hg : w.grownBy w9 vi.ownBlock) (hat : v9.ownBlock = vi.ownBlock ∨ ∃ k, v9.ownBlock = some k ∧ w.heap.size ≤ k) :
    LPx ((w9.setCell ⟨p, 4, none⟩ v9).setCell ⟨p, 5, none⟩ (.int .i64 ((σ.all.length + 1 : Nat) : Int))) B N (fun k => S k ∨ v9.ownBlock = some k) p { σ with all := σ.all ++ [l] } b vq v9 hq (hi ++ [x]) n s f ∧
      FrL B S (fun k => S k ∨ v9.ownBlock = some k) w ((w9.setCell ⟨p, 4, none⟩ v9).setCell ⟨p, 5, none⟩ (.int .i64 ((σ.all.length + 1 : Nat) : Int))) := by
  have k09 : Keep5 w w9 := Keep5.grown hg (fun k hk cs hc => by
    obtain ⟨cs', hc'⟩ := Kd.Q_typed h.i k hk
    rw [hc] at hc'
    cases hc')
  have hblk : w9.heap[p]? = some (.cells (cellsE σ vq vi b) 82 (0, 0)) := (hg.block p (blk_lt h.blk) (fun e => LPx.ni h e.symm)).trans h.blk
  have hblk2 := blk_put hblk 4 v9 rfl
  have k1 : Keep5 w9 (w9.setCell ⟨p, 4, none⟩ v9) := Keep5.set hblk (by decide)
  have k2 : Keep5 (w9.setCell ⟨p, 4, none⟩ v9) ((w9.setCell ⟨p, 4, none⟩ v9).setCell ⟨p, 5, none⟩ (.int .i64 ((σ.all.length + 1 : Nat) : Int))) := Keep5.set hblk2 (by decide)
  have kset := k1.trans k2
  have hn9 : v9.ownBlock ≠ some p := fun e => by
    rcases hat with h1 | ⟨k, h1, h2⟩
    · exact LPx.ni h (by rw [← h1, e])
    · rw [h1] at e; cases e; have := blk_lt h.blk; omega
  have hq9 : kH.Q 30 w9 B (fun k => some k = vq.ownBlock) vq hq := Kd.Q_grown h.q hg (fun k hk e => h.ap k hk.symm e.symm)
  have hm9 : IntMap Try.prog 3 w9 b n f s := h.m.kept hg (fun e => by
    obtain ⟨cs, hc⟩ := Kd.Q_typed h.i b e.symm
    exact h.m.ne_cells hc rfl)
  have hlt9 : ∀ k, v9.ownBlock = some k → k < w9.heap.size := fun k hk => by obtain ⟨cs, hc⟩ := Kd.Q_typed hi9 k hk; exact blk_lt hc
  have hfar : ∀ {v : Value} {xs : List Hd} {ok : Nat → Prop}, kH.Q 30 w9 B ok v xs → (∀ k, ok k → k ≠ p) → kH.Q 30 ((w9.setCell ⟨p, 4, none⟩ v9).setCell ⟨p, 5, none⟩ (.int .i64 ((σ.all.length + 1 : Nat) : Int))) B ok v xs := fun hh hne => Kd.Q_far (Kd.Q_far hh (fun k hk => hne k hk) _) (fun k hk => hne k hk) _
  refine ⟨⟨?_, hfar hq9 (fun k hk e => LPx.nq h (by rw [← hk, e])), (h.qb.keep k09).keep kset, hfar (Kd.Q_tight rfl hi9) (fun k hk e => hn9 (by rw [← hk, e])), ?_, (hm9.far (by exact LPx.nb h) _).far (by exact LPx.nb h) _, h.mn, (h.mf.keep k09).keep kset, .inl h.sp, .inl h.sb, fun k hk => .inl (h.sq k hk), fun k hk => .inr hk, ?_, ?_, ?_⟩, ?_, ?_, ?_, ?_⟩
  · rw [blk_put hblk2 5 _ rfl]
    show some (Obj.cells _ 82) = some (Obj.cells (cellsE { σ with all := σ.all ++ [l] } vq v9 b) 82)
    unfold cellsE
    simp
  · have e1 : (σ.all ++ [l]).drop σ.told = σ.all.drop σ.told ++ [l] := by rw [List.drop_append_of_le_length ht]
    show Bods _ B (hi ++ [x]) ((σ.all ++ [l]).drop σ.told)
    rw [e1]
    exact (((h.ib.keep k09).snoc (hx.keep k09))).keep kset
  · intro k hk e
    rcases hat with h1 | ⟨k', h1, h2⟩
    · exact h.ap k hk (by rw [← h1]; exact e)
    · rw [h1] at e; cases e
      have := h.lt k (h.sq k hk)
      omega
  · intro k hk
    rw [World.size_setCell, World.size_setCell]
    rcases hk with hk | hk
    · exact Nat.lt_of_lt_of_le (h.lt k hk) hg.size
    · exact hlt9 k hk
  · intro k hk
    rcases hk with hk | hk
    · exact h.ge k hk
    · exact Kd.Q_base hi9 k hk
  · have hB : B ≤ w.heap.size := by have := h.ge p h.sp; have := blk_lt h.blk; omega
    exact ((pw_below_grown (Below.refl B w) _ hB hg (fun k hk => h.ge k (h.si k hk))).setCell (h.ge p h.sp) _).setCell (h.ge p h.sp) _
  · exact ((Kept.of_grown hg (Kept.refl w S) (fun k hk => .inl (h.si k hk))).setCell (.inl h.sp) _).setCell (.inl h.sp) _
  · exact k09.trans kset
  · intro k hk
    rcases hk with hk | hk
    · exact .inl hk
    · rcases hat with h1 | ⟨k', h1, h2⟩
      · exact .inl (h.si k (by rw [← h1]; exact hk))
      · rw [h1] at hk; cases hk; exact .inr h2

set_option maxRecDepth 100000 in
set_option maxHeartbeats 1000000 in
theorem in_no (h : LP w B N S p σ) (A : Option Addr) (c : Nat) (l : List Int) (hr : Kd.C (Kd.int .u8) w A l.length l) (hc : l.length ≤ c) (hl : l.length ≤ 140737488351232) (hb : ∀ x ∈ l, 0 ≤ x ∧ x < 256) (hE : (decA l).2 ≠ 0 ∨ (decA l).1.2.2.1 > (σ.sent : Int)) :
    Calls Try.prog 22 #[.pointer (some ⟨p, 0, none⟩), .slice A l.length c] w fun e w' => e = .returned (.int .i64 14) ∧ Below w.heap.size w w' := by
  obtain ⟨F, E, hd⟩ : ∃ F E, decA l = (F, E) := ⟨_, _, rfl⟩
  rw [hd] at hE
  obtain ⟨b, vq, vi, hq, hi, n, s, f, hx⟩ := h
  have H := Aside0.mk hx
  have HR := Aside0.mk hr
  have HB := Aside0.mk hb
  have HD := Aside0.mk hd
  clear hx hr hb hd
  go_enter Try.func22, Try.ntmps22
  go_wp2_with fail
  refine (decode_calls A c l _ HR.out hc hl HB.out F E HD.out).mono ?_
  rintro e w1 ⟨V, rfl, ho, hb1⟩
  obtain ⟨A1, c1, rfl⟩ := Kd.R_slice ho
  have HB1 := Aside0.mk hb1
  have hbl1 := blk_below H.out.blk hb1
  have d3 : (w1.alloc (.cells #[.bool F.1, .int .i64 F.2.1, .int .i64 F.2.2.1, .slice A1 F.2.2.2.length c1] 53)).cell? ⟨p, 3, none⟩ = some (.int .i64 (σ.sent : Int)) := blk_cell (blk_below hbl1 (below_alloc (Below.refl _ w1) _)) 3
  have x2 : (w1.alloc (.cells #[.bool F.1, .int .i64 F.2.1, .int .i64 F.2.2.1, .slice A1 F.2.2.2.length c1] 53)).cell? ⟨w1.heap.size, 2, none⟩ = some (.int .i64 F.2.2.1) := blk_cell (blk_new w1 _) 2
  clear ho hb1 hbl1
  by_cases hE0 : E = 0
  · subst hE0
    have hgt : (σ.sent : Int) < F.2.2.1 := by rcases hE with h | h; exact absurd rfl h; exact h
    clear hE
    go_wp2_with fail
    go_region
    all_goals go_wp2_with fail
    all_goals go_ret
    all_goals exact ⟨rfl, HB1.out.trans ((below_drew (below_alloc (Below.refl _ w1) _)).mono HB1.out.size)⟩
  · have hE1 : (E != 0) = true := by rw [bne_iff_ne]; exact hE0
    clear hE hE0
    go_wp2_with fail
    go_region
    all_goals go_wp2_with fail
    all_goals go_ret
    all_goals exact ⟨rfl, HB1.out.trans ((below_drew (below_alloc (Below.refl _ w1) _)).mono HB1.out.size)⟩
end Go.Proofs.Ytekakngojhnleaa.Ld
/- Links: In of the program walked: a frame that is taken. -/
namespace Go.Proofs.Ytekakngojhnleaa.Le
open Go.RowKit Go.Maps Go.Proofs.Ytekakngojhnleaa.Mp Go.Proofs.Ytekakngojhnleaa.Mq Go.Proofs.Ytekakngojhnleaa.Lp Go.Proofs.Ytekakngojhnleaa.Lm Go.Proofs.Ytekakngojhnleaa.La Go.Proofs.Ytekakngojhnleaa.Lb Go.Proofs.Ytekakngojhnleaa.Lc Go.Proofs.Ytekakngojhnleaa.Ld Go.Proofs.Ytekakngojhnleaa.Dw Go.Proofs.YtekakngojhnleaaW.PrintWords Go.Proofs.YtekakngojhnleaaW.PrintLast Go.Proofs.YtekakngojhnleaaW.PrintMore
set_option linter.unusedVariables false
set_option linter.unusedSimpArgs false
variable {w : World} {B N p : Nat} {S : Nat → Prop} {σ : Lk}

/-- What stands while a frame is taken: the end, the frame's own block, its body. -/
structure Mid (w u : World) (B N : Nat) (S : Nat → Prop) (p g : Nat) (σ : Lk) (d : Bool) (s a : Int) (A1 : Option Addr) (c1 : Nat) (l : List Int) : Prop where
  lp : ∃ S', LP u B N S' p σ ∧ FrL B S S' w u
  fr : u.heap[g]? = some (.cells #[.bool d, .int .i64 s, .int .i64 a, .slice A1 l.length c1] 53 (0, 0))
  bd : Bd u B (encH ⟨A1, l.length, c1⟩) l
  ge : w.heap.size ≤ g
theorem mid0 {w1 : World} {b n s : Nat} {vq vi : Value} {hq hi : List Hd} {f : Int → Option Value} (h : LPx w B N S p σ b vq vi hq hi n s f) (hB : B ≤ w.heap.size) (hb : Below w.heap.size w w1) {A1 : Option Addr} {c1 : Nat} {m : List Int} (hbd : Bd w1 B (encH ⟨A1, m.length, c1⟩) m) (d : Bool) (s' a : Int) :
    Mid w (w1.alloc (.cells #[.bool d, .int .i64 s', .int .i64 a, .slice A1 m.length c1] 53)).drew B N S p w1.heap.size σ d s' a A1 c1 m := by
  have hb1 : Below w1.heap.size w1 (w1.alloc (.cells #[.bool d, .int .i64 s', .int .i64 a, .slice A1 m.length c1] 53)).drew := below_drew (below_alloc (Below.refl _ w1) _)
  have hb2 := hb.trans (hb1.mono hb.size)
  exact ⟨⟨S, ⟨b, vq, vi, hq, hi, n, s, f, LPx.below h hb2⟩, ⟨hb2.mono hB, Kept.of_below hb2 S, Keep5.below hb2, fun k hk => .inl hk⟩⟩, blk_new w1 _, hbd.keep (Keep5.below hb1), hb.size⟩
theorem FrL.below {S' : Nat → Prop} {u u' : World} (h : FrL B S S' w u) (hb : Below u.heap.size u u') (hB : B ≤ u.heap.size) : FrL B S S' w u' :=
  FrL.trans h ⟨hb.mono hB, Kept.of_below hb S', Keep5.below hb, fun _ h => .inl h⟩
theorem Mid.below {u u' : World} {g : Nat} {d : Bool} {s a : Int} {A1 : Option Addr} {c1 : Nat} {m : List Int} (h : Mid w u B N S p g σ d s a A1 c1 m) (hb : Below u.heap.size u u') : Mid w u' B N S p g σ d s a A1 c1 m := by
  obtain ⟨⟨S1, hl, hf⟩, hfr, hbd, hge⟩ := h
  have hB : B ≤ u.heap.size := by obtain ⟨b, vq, vi, hq, hi, n, sz, f, hx⟩ := hl; have := hx.ge p hx.sp; have := blk_lt hx.blk; omega
  exact ⟨⟨S1, LP.below hl hb, FrL.below hf hb hB⟩, blk_below hfr hb, hbd.keep (Keep5.below hb), hge⟩
theorem ne_frame {u : World} {g : Nat} {cs : Array Value} {b n s : Nat} {vq vi : Value} {hq hi : List Hd} {f : Int → Option Value} (h : LPx u B N S p σ b vq vi hq hi n s f) (hg : u.heap[g]? = some (.cells cs 53 (0, 0))) : ∀ k, S k → k = p ∨ k = b ∨ some k = vq.ownBlock ∨ some k = vi.ownBlock → k ≠ g := by
  intro k hk hh e
  subst e
  rcases hh with rfl | rfl | h1 | h1
  · rw [h.blk] at hg; cases hg
  · exact h.m.ne_cells hg rfl
  · obtain ⟨cs', hc⟩ := Kd.Q_typed h.q k h1.symm; rw [hc] at hg; cases hg
  · obtain ⟨cs', hc⟩ := Kd.Q_typed h.i k h1.symm; rw [hc] at hg; cases hg
theorem mid_ack {u : World} {g : Nat} {b n sz : Nat} {vq vi : Value} {hq hi : List Hd} {f : Int → Option Value} {S1 : Nat → Prop} {d : Bool} {s : Int} {A1 : Option Addr} {c1 : Nat} {m : List Int} {a : Nat} {x : Int} (h : LPx u B N S1 p σ b vq vi hq hi n sz f) (hf : FrL B S S1 w u)
    (hblk : u.heap[g]? = some (.cells #[.bool d, .int .i64 s, .int .i64 x, .slice A1 m.length c1] 53 (0, 0))) (hbd : Bd u B (encH ⟨A1, m.length, c1⟩) m) (hge : w.heap.size ≤ g) (hsa : σ.sure ≤ a) (v' : Value) (hq' : kH.Q 30 u B (fun k => some k = vq.ownBlock) v' (hq.drop (a - σ.sure))) :
    Mid w ((u.setCell ⟨p, 1, none⟩ v').setCell ⟨p, 2, none⟩ (.int .i64 (a : Int))).drew B N S p g { σ with sure := a } d s x A1 c1 m := by
  have hpg : p ≠ g := ne_frame h hblk p h.sp (.inl rfl)
  obtain ⟨h1, h2⟩ := ack_end h a v' hq' hsa
  have hm : Mid w ((u.setCell ⟨p, 1, none⟩ v').setCell ⟨p, 2, none⟩ (.int .i64 (a : Int))) B N S p g { σ with sure := a } d s x A1 c1 m :=
    ⟨⟨S1, ⟨_, _, _, _, _, _, _, _, h1⟩, FrL.trans hf h2⟩, by rw [Below.heap_setCell _ _ _ _ (fun e => hpg e.symm), Below.heap_setCell _ _ _ _ (fun e => hpg e.symm)]; exact hblk, hbd.keep h2.k5, hge⟩
  exact hm.below (below_drew (Below.refl _ _))
theorem law : Keyed Try.prog 3 := int_keyed Try.underlying3
section
variable {P : Program} {k t e : TypeId} {b n s : Nat} {f : Int → Option Value}
/-- The run of 'v, ok := m[k]', for regions. -/
theorem run_look_ok (K : Keyed P k) (hk : P.underlying k = some (.int .i64)) (ht : P.underlying t = some (.map k e)) {z : Value} (hz : (zeroValue e).run P w = .ok z w) (hown : IntMap P k w b n f s) (y : Int) (hy : I64 y) :
    (Instr.lookup t (.map (some b)) (.int .i64 y) true).run P w = .ok (.tuple #[(f y).getD z, .bool (f y).isSome]) w := by
  obtain ⟨D, hD, hs, hf⟩ := hown
  obtain ⟨v, ps, hrun, hv⟩ := hD.look_ok K ht hz (R := RV) (zd := .held z) (zp := []) rfl (keyOf_int_mk hk hy)
  obtain ⟨h1, h2⟩ := hf y hy
  have : v = (f y).getD z := by
    have hv' : DataW.held v = D.atKey (kl y) (.held z) := congrArg Prod.fst (Option.some.inj hv)
    cases h : f y with
    | none =>
      rw [h] at h1
      rw [atKey_of_not_has h1] at hv'
      injection hv'
    | some u =>
      rw [h2 u h] at hv'
      injection hv'
  rw [← this, ← h1]
  exact hrun
/-- The run of 'delete(m, k)', for regions. -/
theorem run_delete (K : Keyed P k) (hk : P.underlying k = some (.int .i64)) (ht : P.underlying t = some (.map k e)) (hown : IntMap P k w b n f s) (y : Int) (hy : I64 y) :
    ∃ w', (∀ ty, (Builtin.delete_ #[t, k] ty #[.map (some b), .int .i64 y]).run P w = .ok (.tuple #[]) w') ∧ IntMap P k w' b n (upd f y none) (s - (if (f y).isSome then 1 else 0)) ∧ w.grownBy w' (some b) := by
  obtain ⟨D, hD, hs, hf⟩ := hown
  obtain ⟨w', hrun, h1, h2⟩ := hD.drop K ht (kl := kl y) (keyOf_int_mk hk hy) 0
  obtain ⟨g1, g2⟩ := IntMap.del D (hD.tidy K) hf y hy
  refine ⟨w', fun ty => ?_, ⟨_, h1, by rw [g1, hs], g2⟩, h2.grown⟩
  exact hrun
end
theorem zero30 (w : World) : (zeroValue 30).run Try.prog w = .ok (.slice none 0 0) w := by kernel_rfl
theorem LP.monoN {u : World} {M : Nat} (h : LP u B N S p σ) (hm : N ≤ M) : LP u B M S p σ := by
  obtain ⟨b, vq, vi, hq, hi, n, s, f, h⟩ := h
  exact ⟨b, vq, vi, hq, hi, n, s, f, h.blk, h.q, h.qb, h.i, h.ib, h.m, Nat.le_trans h.mn hm, h.mf, h.sp, h.sb, h.sq, h.si, h.ap, h.lt, h.ge⟩
theorem mid_owes {u : World} {g : Nat} {d : Bool} {s a : Int} {A1 : Option Addr} {c1 : Nat} {m : List Int} (h : Mid w u B N S p g σ d s a A1 c1 m) : Mid w (u.setCell ⟨p, 7, none⟩ (.bool true)) B N S p g { σ with owes := true } d s a A1 c1 m := by
  obtain ⟨⟨S1, ⟨b, vq, vi, hq, hi, n, sz, f, hx⟩, hf⟩, hfr, hbd, hge⟩ := h
  have hpg : p ≠ g := ne_frame hx hfr p hx.sp (.inl rfl)
  obtain ⟨g0, g1, g2, g3, g4, g5, g6, g7⟩ := LPx.put hx 7 (.bool true)
  refine ⟨⟨S1, ⟨b, vq, vi, hq, hi, n, sz, f, g0, g1, g2, g3, g4, g5, hx.mn, g6, hx.sp, hx.sb, hx.sq, hx.si, hx.ap, ?_, hx.ge⟩, FrL.trans hf (FrL.set (hx.ge p hx.sp) hx.sp ⟨_, hx.blk⟩ 7 _)⟩, by rw [Below.heap_setCell _ _ _ _ (fun e => hpg e.symm)]; exact hfr, hbd.keep g7, hge⟩
  intro k hk
  rw [World.size_setCell]
  exact hx.lt k hk
theorem takeH_ok {M : Nat} (h : Lp.Inv M σ) {s : Int} {m : List Int} (hok : okB m) : HW (takeH σ s m) σ.all ((σ.all.length : Int) + 16) := by
  refine ⟨fun x l hx => ?_, h.ha⟩
  unfold takeH at hx
  split at hx
  · rename_i hc
    unfold setH at hx
    by_cases e : x = s
    · rw [if_pos e] at hx
      cases hx
      rw [e]
      exact ⟨hc.2.1, hc.2.2, hok⟩
    · rw [if_neg e] at hx
      have := h.hh x l hx
      exact ⟨by omega, this.2⟩
  · have := h.hh x l hx
    exact ⟨by omega, this.2⟩
theorem mid_store {u w6 : World} {g : Nat} {b n sz s' : Nat} {vq vi : Value} {hq hi : List Hd} {f : Int → Option Value} {S1 : Nat → Prop} {d : Bool} {s a : Int} {A1 : Option Addr} {c1 : Nat} {m : List Int} (h : LPx u B N S1 p σ b vq vi hq hi n sz f) (hf : FrL B S S1 w u)
    (hblk : u.heap[g]? = some (.cells #[.bool d, .int .i64 s, .int .i64 a, .slice A1 m.length c1] 53 (0, 0))) (hbd : Bd u B (encH ⟨A1, m.length, c1⟩) m) (hge : w.heap.size ≤ g)
    (hm : IntMap Try.prog 3 w6 b (n + 1) (upd f s (some (.slice A1 m.length c1))) s') (hg : u.grownBy w6 (some b)) : Mid w w6 B (N + 1) S p g { σ with hold := setH σ.hold s (some m) } d s a A1 c1 m := by
  obtain ⟨h1, h2⟩ := map_end h s (some (.slice A1 m.length c1)) (some m) hm hg (Nat.succ_le_succ h.mn) ⟨_, rfl, hbd⟩
  exact ⟨⟨S1, ⟨_, _, _, _, _, _, _, _, h1⟩, FrL.trans hf h2⟩, (hg.block g (blk_lt hblk) (fun e => h.m.ne_cells hblk (Option.some.inj e).symm)).trans hblk, hbd.keep h2.k5, hge⟩
/-- The loop that takes what comes in its turn. -/
structure LpR (w wr : World) (B N : Nat) (S : Nat → Prop) (p : Nat) (σ : Lk) (v : Value) (is : Bool) (k : Nat) (h : Int → Option (List Int)) (al : List (List Int)) : Prop where
  lp : ∃ S', LP wr B N S' p { σ with hold := h, all := al } ∧ FrL B S S' w wr
  pl : pull k h al = pull 17 σ.hold σ.all
  hw : HW h al ((σ.all.length : Int) + 16)
  top : σ.all.length + 16 ≤ al.length + k
  ln : σ.all.length ≤ al.length
  tl : σ.told ≤ al.length
  is' : is = (h (al.length : Int)).isSome
  v' : ∀ l, h (al.length : Int) = some l → ∃ A c, v = .slice A l.length c ∧ Bd wr B v l
theorem look_of {u : World} {b n sz : Nat} {vq vi : Value} {hq hi : List Hd} {f : Int → Option Value} {S1 : Nat → Prop} (h : LPx u B N S1 p σ b vq vi hq hi n sz f) {x : Int} (h64 : I64 x) {w' : World} (hk : Keep5 u w') :
    (f x).isSome = (σ.hold x).isSome ∧ ∀ l, σ.hold x = some l → ∃ A c, (f x).getD (.slice none 0 0) = .slice A l.length c ∧ Bd w' B ((f x).getD (.slice none 0 0)) l := by
  have hm := h.mf _ h64
  refine ⟨?_, fun l hl => ?_⟩
  · cases hy : σ.hold x with
    | none => rw [hy] at hm; rw [hm]; rfl
    | some l => rw [hy] at hm; obtain ⟨v, hv, _⟩ := hm; rw [hv]; rfl
  · rw [hl] at hm
    obtain ⟨v, hv, hbd⟩ := hm
    rw [hv]
    obtain ⟨A, c, e⟩ := Kd.R_slice hbd
    exact ⟨A, c, e, hbd.keep hk⟩
theorem lp_start {u : World} {b n sz : Nat} {vq vi : Value} {hq hi : List Hd} {f : Int → Option Value} {S1 : Nat → Prop} (h : LPx u B N S1 p σ b vq vi hq hi n sz f) (hf : FrL B S S1 w u) (h64 : I64 (σ.all.length : Int)) (hw : HW σ.hold σ.all ((σ.all.length : Int) + 16)) (ht : σ.told ≤ σ.all.length) :
    LpR w u.drew B N S p σ ((f (σ.all.length : Int)).getD (.slice none 0 0)) (f (σ.all.length : Int)).isSome 17 σ.hold σ.all := by
  have hb : Below u.heap.size u u.drew := below_drew (Below.refl _ u)
  have hB : B ≤ u.heap.size := by have := h.ge p h.sp; have := blk_lt h.blk; omega
  obtain ⟨h1, h2⟩ := look_of h h64 (Keep5.below hb)
  exact ⟨⟨S1, LP.below ⟨b, vq, vi, hq, hi, n, sz, f, h⟩ hb, FrL.below hf hb hB⟩, rfl, hw, by omega, Nat.le_refl _, ht, h1, h2⟩
theorem pull_none : ∀ (k : Nat) {h : Int → Option (List Int)} {al : List (List Int)}, h (al.length : Int) = none → pull k h al = (h, al)
  | 0, h, al, _ => rfl
  | k + 1, h, al, he => by unfold pull; rw [he]
theorem lpr_next {wr u : World} {v : Value} {is : Bool} {k : Nat} {h : Int → Option (List Int)} {al : List (List Int)} {l : List Int} (hL : LpR w wr B N S p σ v is k h al) (he : h (al.length : Int) = some l) {S1 : Nat → Prop} {b n sz : Nat} {vq vi : Value} {hq hi : List Hd} {f : Int → Option Value}
    (hx : LPx u B N S1 p { σ with hold := setH h (al.length : Int) none, all := al ++ [l] } b vq vi hq hi n sz f) (hf : FrL B S S1 w u) (h64 : I64 (((al.length + 1 : Nat) : Nat) : Int)) :
    ∃ k', LpR w u.drew B N S p σ ((f ((al.length + 1 : Nat) : Int)).getD (.slice none 0 0)) (f ((al.length + 1 : Nat) : Int)).isSome k' (setH h (al.length : Int) none) (al ++ [l]) := by
  have hb : Below u.heap.size u u.drew := below_drew (Below.refl _ u)
  have hB : B ≤ u.heap.size := by have := hx.ge p hx.sp; have := blk_lt hx.blk; omega
  obtain ⟨h1, h2⟩ := look_of hx h64 (Keep5.below hb)
  have hlt := (hL.hw.1 _ _ he).2.1
  have htop := hL.top
  have hlen : (al ++ [l]).length = al.length + 1 := by simp
  obtain ⟨k', rfl⟩ : ∃ k', k = k' + 1 := ⟨k - 1, by omega⟩
  refine ⟨k', ⟨S1, LP.below ⟨b, vq, vi, hq, hi, n, sz, f, hx⟩ hb, FrL.below hf hb hB⟩, ?_, ⟨fun x l' hx' => ?_, fun l' hl' => ?_⟩, by rw [hlen]; omega, by rw [hlen]; have := hL.ln; omega, by rw [hlen]; have := hL.tl; omega, by rw [hlen]; exact h1, fun l' hl' => by rw [hlen] at hl'; exact h2 l' hl'⟩
  · rw [← hL.pl]
    conv => rhs; unfold pull
    rw [he]
  · unfold setH at hx'
    by_cases e : x = (al.length : Int)
    · rw [if_pos e] at hx'; cases hx'
    · rw [if_neg e] at hx'
      have := hL.hw.1 x l' hx'
      rw [hlen]
      exact ⟨by omega, this.2⟩
  · rcases List.mem_append.1 hl' with h1 | h1
    · exact hL.hw.2 l' h1
    · rw [List.mem_singleton] at h1; subst h1; exact (hL.hw.1 _ _ he).2.2
set_option maxRecDepth 100000 in
set_option maxHeartbeats 1000000 in
theorem in_yes (h : LP w B N S p σ) {M : Nat} (hI : Inv M σ) (hM : M ≤ 1000000) (hNm : N < maxLen) (A : Option Addr) (c : Nat) (l : List Int) (hr : Kd.C (Kd.int .u8) w A l.length l) (hc : l.length ≤ c) (hl : l.length ≤ 140737488351232) (hb : ∀ x ∈ l, 0 ≤ x ∧ x < 256) (hE : (decA l).2 = 0) (hA : (decA l).1.2.2.1 ≤ (σ.sent : Int)) :
    Calls Try.prog 22 #[.pointer (some ⟨p, 0, none⟩), .slice A l.length c] w fun e w' => e = .returned (.int .i64 (inL σ l).1) ∧ ∃ S', LP w' B (N + 1) S' p (inL σ l).2 ∧ FrL B S S' w w' := by
  obtain ⟨R, hR⟩ : ∃ R, R = inL σ l := ⟨_, rfl⟩
  rw [← hR]
  unfold inL at hR
  rw [if_neg (by omega)] at hR
  have hnn := dec_nums l hE
  have hok := dec_ok l hb hE
  obtain ⟨F, E, hd⟩ : ∃ F E, decA l = (F, E) := ⟨_, _, rfl⟩
  rw [hd] at hE hA hR hnn hok
  obtain ⟨d, s, a', m⟩ := F
  obtain rfl : E = 0 := hE
  change a' ≤ (σ.sent : Int) at hA
  obtain ⟨n0, n1, n2, n3⟩ := hnn
  change 0 ≤ s at n0; change s ≤ 1073741824 at n1; change 0 ≤ a' at n2; change a' ≤ 1073741824 at n3; change okB m at hok
  obtain ⟨a, rfl⟩ : ∃ k : Nat, a' = (k : Int) := ⟨a'.toNat, by omega⟩
  simp only [Int.toNat_natCast] at hR
  obtain ⟨b, vq, vi, hq, hi, n, sz, f, hx⟩ := h
  have HN := Aside0.mk (And.intro n0 n1)
  have HI := Aside0.mk (And.intro hI hM)
  have HOK := Aside0.mk hok
  have HBW := Aside0.mk (show B ≤ w.heap.size by have := hx.ge p hx.sp; have := blk_lt hx.blk; omega)
  have H := Aside0.mk hx
  have HR := Aside0.mk hr
  have HB := Aside0.mk hb
  have HD := Aside0.mk hd
  have HRR := Aside0.mk hR
  clear hx hr hb hd hI hM n0 n1 hok hR
  go_enter Try.func22, Try.ntmps22
  go_wp2_with fail
  refine (decode_calls A c l _ HR.out hc hl HB.out _ _ HD.out).mono ?_
  rintro e w1 ⟨V, rfl, ho, hb1⟩
  obtain ⟨A1, c1, rfl⟩ := Kd.R_slice ho
  have HB1 := Aside0.mk hb1
  have HBD := Aside0.mk (show Bd w1 B (encH ⟨A1, m.length, c1⟩) m from Bd.of ho HBW.out)
  have hbl1 := blk_below H.out.blk hb1
  have d3 : (w1.alloc (.cells #[.bool d, .int .i64 s, .int .i64 (a : Int), .slice A1 m.length c1] 53)).cell? ⟨p, 3, none⟩ = some (.int .i64 (σ.sent : Int)) := blk_cell (blk_below hbl1 (below_alloc (Below.refl _ w1) _)) 3
  have x2 : (w1.alloc (.cells #[.bool d, .int .i64 s, .int .i64 (a : Int), .slice A1 m.length c1] 53)).cell? ⟨w1.heap.size, 2, none⟩ = some (.int .i64 (a : Int)) := blk_cell (blk_new w1 _) 2
  clear ho hb1 hbl1
  have hA2 : decide (σ.sent < a) = false := decide_eq_false (by omega)
  have HA := Aside0.mk hA
  clear hA n2 n3
  go_wp2_with fail
  go_region
  clear d3 x2
  go_wp2_with fail
  have HMID := Aside0.mk (mid0 H.out HBW.out HB1.out HBD.out d s (a : Int))
  have HG := Aside0.mk HB1.out.size
  clear HBD HB1
  generalize hu : (w1.alloc (.cells #[.bool d, .int .i64 s, .int .i64 (a : Int), .slice A1 m.length c1] 53)).drew = u at HMID ⊢
  clear hu
  obtain ⟨g, hg⟩ : ∃ g, g = w1.heap.size := ⟨_, rfl⟩
  rw [← hg] at HMID HG ⊢
  clear hg w1
  go_cut [7] from 28 to 34 (fun v7 wx => v7 = .int .i64 ((a : Int) - (σ.sure : Int)) ∧ Aside0 (Mid w wx B N S p g σ d s (a : Int) A1 c1 m))
  case first =>
    clear H
    obtain ⟨⟨S1, ⟨b, vq, vi, hq, hi, n, sz, f, hx⟩, hfr⟩, hblk, hbd, hge⟩ := HMID.out
    have f2 : u.cell? ⟨g, 2, none⟩ = some (.int .i64 a) := blk_cell hblk 2
    have p2 : u.cell? ⟨p, 2, none⟩ = some (.int .i64 (σ.sure : Int)) := blk_cell hx.blk 2
    have hwr : wrap64 ((a : Int) - (σ.sure : Int)) = (a : Int) - (σ.sure : Int) := by
      have := HI.out.1.tk; have := HI.out.1.s0; have := HI.out.1.s1; have := HI.out.2; have := HA.out
      unfold wrap64; omega
    clear hx hfr hblk hbd
    go_region
    all_goals go_wp2_with fail
    all_goals go_meet
    case rel => exact ⟨congrArg _ hwr, ⟨HMID.out.below (below_drew (Below.refl _ _))⟩⟩
  case rest =>
    obtain ⟨rfl, HM1⟩ := hcut
    clear HMID
    go_upto_if 36 with fail
    go_cut [] from 35 to 50 (fun wx => Aside0 (Mid w wx B N S p g { σ with sure := max σ.sure a } d s (a : Int) A1 c1 m))
    case first =>
      have hI2 := HI.out.1
      have hq3 := hI2.s3
      have hq1 := hI2.s1
      have htk := hI2.tk
      have hM2 := HI.out.2
      have hA := HA.out
      clear H
      obtain ⟨⟨S1, ⟨b, vq, vi, hq, hi, n, sz, f, hx⟩, hfr⟩, hblk, hbd, hge⟩ := HM1.out
      have hpg : p ≠ g := ne_frame hx hblk p hx.sp (.inl rfl)
      have f2 : wc.cell? ⟨g, 2, none⟩ = some (.int .i64 a) := blk_cell hblk 2
      have p2 : wc.cell? ⟨p, 2, none⟩ = some (.int .i64 (σ.sure : Int)) := blk_cell hx.blk 2
      by_cases has : (σ.sure : Int) < (a : Int)
      · have hqn : hq.length = σ.took.length - σ.sure := by rw [hx.qb.1, List.length_drop]
        obtain ⟨A0, c0, rfl, hcap0⟩ := Kd.Q_slice hx.q
        have hdr := Kd.Q_drop (k := a - σ.sure) hx.q (by omega)
        rw [show (a - σ.sure) * kH.sz = a - σ.sure from Nat.mul_one _] at hdr
        have p1 : wc.cell? ⟨p, 1, none⟩ = some (.slice A0 hq.length c0) := blk_cell hx.blk 1
        have z1 : wc.frozen? ⟨p, 1, none⟩ = false := blk_frozen hx.blk 1
        have z2 : wc.frozen? ⟨p, 2, none⟩ = false := blk_frozen hx.blk 2
        have HX := Aside0.mk hx
        have HDR := Aside0.mk hdr
        have HFR := Aside0.mk hfr
        have HBK := Aside0.mk hblk
        have HBD := Aside0.mk hbd
        clear hx hdr hfr hblk hbd
        have hgt : (0 : Int) < (a : Int) - (σ.sure : Int) := by omega
        have hle : (a : Int) - (σ.sure : Int) ≤ (c0 : Int) := by omega
        have hle2 : (a : Int) - (σ.sure : Int) ≤ (hq.length : Int) := by omega
        have hsa : σ.sure ≤ a := by omega
        have HM9 := Aside0.mk (show max σ.sure a = a from Nat.max_eq_right hsa)
        clear hqn
        go_wp2_with fail
        go_region
        all_goals go_wp2_with fail
        all_goals go_meet
        all_goals (case rel =>
          rw [HM9.out]
          refine ⟨mid_ack HX.out HFR.out HBK.out HBD.out hge hsa _ ?_⟩
          have h9 := HDR.out
          first | (have e : c0 = a - σ.sure := (by omega); rw [if_pos e, show c0 - (a - σ.sure) = 0 by omega] at h9; exact h9) | (rw [if_neg (by omega)] at h9; exact h9))
      · have hgt : ¬ (0 : Int) < (a : Int) - (σ.sure : Int) := by omega
        have HM9 := Aside0.mk (show max σ.sure a = σ.sure from Nat.max_eq_left (by omega))
        clear hx hfr hblk hbd f2 p2
        go_wp2_with fail
        all_goals go_meet
        case rel =>
          rw [HM9.out]
          exact HM1
    case rest =>
      have HM2 := hcut
      clear hcut HM1 HR HB HD H
      obtain ⟨σ1, hσ1⟩ : ∃ σ1, σ1 = { σ with sure := max σ.sure a } := ⟨_, rfl⟩
      have hI1 : Lp.Inv M σ1 := by
        rw [hσ1]
        have hI := HI.out.1
        have := HA.out
        have e0 := hI.s0
        have e1 := hI.s2
        have e2 := hI.s3
        have e3 : σ.sure ≤ max σ.sure a := Nat.le_max_left _ _
        refine ⟨hI.w0, hI.w1, Nat.max_le.2 ⟨e0, by show a ≤ σ.sent; omega⟩, hI.s1, ?_, ?_, hI.tk, hI.tl, hI.al, hI.ht, hI.ha, hI.hh⟩
        · show σ.sent ≤ max _ _ + σ.window; omega
        · show σ.took.length ≤ max _ _ + 64; omega
      have hR1 : R = if d = false then (0, σ1) else (0, { σ1 with owes := true, hold := (pull 17 (takeH σ1 s m) σ1.all).1, all := (pull 17 (takeH σ1 s m) σ1.all).2 }) := by rw [HRR.out, hσ1]; rfl
      have HR1 := Aside0.mk hR1
      have HI1 := Aside0.mk hI1
      rw [← hσ1] at HM2
      have HM9 := Aside0.mk HI.out.2
      clear hσ1 HRR HA hR1 hI1 HI hA2
      have d0 : wc.cell? ⟨g, 0, none⟩ = some (.bool d) := blk_cell HM2.out.fr 0
      cases d with
      | false =>
        go_wp2_with fail
        go_ret
        rw [HR1.out]
        obtain ⟨S1, h1, h2⟩ := HM2.out.lp
        exact ⟨rfl, S1, LP.monoN h1 (Nat.le_succ _), h2⟩
      | true =>
        have p7 : wc.cell? ⟨p, 7, none⟩ = some (.bool σ1.owes) := by obtain ⟨S1, ⟨b, vq, vi, hq, hi, n, sz, f, hx⟩, _⟩ := HM2.out.lp; exact blk_cell hx.blk 7
        have z7 : wc.frozen? ⟨p, 7, none⟩ = false := by obtain ⟨S1, ⟨b, vq, vi, hq, hi, n, sz, f, hx⟩, _⟩ := HM2.out.lp; exact blk_frozen hx.blk 7
        go_wp2_with fail
        obtain ⟨σ2, hσ2⟩ : ∃ σ2, σ2 = { σ1 with owes := true } := ⟨_, rfl⟩
        have HM3 := Aside0.mk (mid_owes HM2.out)
        rw [← hσ2] at HM3
        have hI2 : Lp.Inv M σ2 := by rw [hσ2]; have hI := HI1.out; exact ⟨hI.w0, hI.w1, hI.s0, hI.s1, hI.s2, hI.s3, hI.tk, hI.tl, hI.al, hI.ht, hI.ha, hI.hh⟩
        have hR2 : R = (0, { σ2 with hold := (pull 17 (takeH σ2 s m) σ2.all).1, all := (pull 17 (takeH σ2 s m) σ2.all).2 }) := by rw [HR1.out, if_neg (by simp), hσ2]; rfl
        have HR2 := Aside0.mk hR2
        have HI2 := Aside0.mk hI2
        clear HM2 d0 p7 z7 hσ2 HR1 HI1 hR2 hI2
        generalize hu2 : wc.setCell ⟨p, 7, none⟩ (.bool true) = u2 at HM3 ⊢
        clear hu2
        obtain ⟨⟨S1, ⟨b, vq, vi, hq, hi, n, sz, f, hx⟩, hfr⟩, hblk, hbd, hge⟩ := HM3.out
        have HX := Aside0.mk hx
        have HFR := Aside0.mk hfr
        have HBK := Aside0.mk hblk
        have HBD := Aside0.mk hbd
        have hs64 : I64 s := I64.mk (by have := HN.out.1; omega) (by have := HN.out.2; omega)
        have hlk := run_look_ok law Try.underlying3 Try.underlying80 (zero30 u2.drew) (hx.m.below (below_drew (Below.refl _ u2))) s hs64
        have p6 : u2.cell? ⟨p, 6, none⟩ = some (.map (some b)) := blk_cell hx.blk 6
        have g1 : u2.cell? ⟨g, 1, none⟩ = some (.int .i64 s) := blk_cell hblk 1
        clear hx hfr hblk hbd
        obtain ⟨vv, hvv⟩ : ∃ vv, vv = (f s).getD (.slice none 0 0) := ⟨_, rfl⟩
        obtain ⟨iss, hiss⟩ : ∃ iss, iss = (f s).isSome := ⟨_, rfl⟩
        rw [← hvv, ← hiss] at hlk
        have HIS := Aside0.mk hiss
        clear hvv hiss
        go_region
        all_goals go_wp2_with fail
        have HX3 := Aside0.mk (LPx.below HX.out (below_drew (Below.refl _ u2)))
        have HM4 := Aside0.mk (HM3.out.below (below_drew (Below.refl _ u2)))
        have HBU := Aside0.mk (show B ≤ u2.heap.size by have := HX.out.ge p HX.out.sp; have := blk_lt HX.out.blk; omega)
        have HFR3 := Aside0.mk (FrL.below HFR.out (below_drew (Below.refl _ u2)) HBU.out)
        have HBK3 := Aside0.mk (blk_below HBK.out (below_drew (Below.refl _ u2)))
        have HBD3 := Aside0.mk (HBD.out.keep (Keep5.below (below_drew (Below.refl _ u2))))
        clear hlk p6 g1 HM3 HX HFR HBK HBD HBU
        generalize hu3 : u2.drew = u3 at HX3 HM4 HFR3 HBK3 HBD3 ⊢
        clear hu3 u2 hs64
        obtain ⟨tk, htk⟩ : ∃ tk : Bool, tk = decide ((σ2.hold s).isSome = false ∧ (σ2.all.length : Int) ≤ s ∧ s < (σ2.all.length : Int) + 16) := ⟨_, rfl⟩
        have HTK := Aside0.mk htk
        clear htk
        go_cut [87] from 67 to 86 (fun v87 wx => v87 = .bool tk ∧ Aside0 (Below u3.heap.size u3 wx))
        case first =>
          have hs64 : I64 s := I64.mk (by have := HN.out.1; omega) (by have := HN.out.2; omega)
          have hmf := HX3.out.mf s hs64
          have hal := HI2.out.al
          have hblk := HM4.out.fr
          have p5 : u3.cell? ⟨p, 5, none⟩ = some (.int .i64 (σ2.all.length : Int)) := blk_cell HX3.out.blk 5
          have g1 : u3.cell? ⟨g, 1, none⟩ = some (.int .i64 s) := blk_cell hblk 1
          have hw16 : wrap64 ((σ2.all.length : Int) + 16) = (σ2.all.length : Int) + 16 := by have := HM9.out; unfold wrap64; omega
          have htk := HTK.out
          clear hblk
          cases hh : σ2.hold s with
          | some l' =>
            rw [hh] at hmf htk
            obtain ⟨v', hv', _⟩ := hmf
            have hi0 : iss = true := by rw [HIS.out, hv']; rfl
            have ht0 : tk = false := by rw [htk]; exact decide_eq_false (fun e => by cases e.1)
            subst hi0 ht0
            clear hh hal htk hs64 HTK HIS
            go_quiet (fail)
            go_wp2_with fail
            all_goals go_meet
            case rel => exact ⟨rfl, ⟨pw_below_drewN (Below.refl _ _) _⟩⟩
          | none =>
            rw [hh] at hmf htk
            have hi0 : iss = false := by rw [HIS.out, hmf]; rfl
            subst hi0
            by_cases hgs : (σ2.all.length : Int) ≤ s
            · have hgd1 : decide ((σ2.all.length : Int) ≤ s) = true := decide_eq_true hgs
              by_cases hlt : s < (σ2.all.length : Int) + 16
              · have hgd2 : decide (s < (σ2.all.length : Int) + 16) = true := decide_eq_true hlt
                have ht0 : tk = true := by rw [htk]; exact decide_eq_true ⟨rfl, hgs, hlt⟩
                subst ht0
                clear hgs hlt hh hmf hal htk HTK HIS hs64
                go_quiet (fail)
                go_wp2_with fail
                all_goals go_meet
                case rel => exact ⟨rfl, ⟨pw_below_drewN (Below.refl _ _) _⟩⟩
              · have hgd2 : decide (s < (σ2.all.length : Int) + 16) = false := decide_eq_false hlt
                have ht0 : tk = false := by rw [htk]; exact decide_eq_false (fun e => hlt e.2.2)
                subst ht0
                clear hgs hlt hh hmf hal htk HTK HIS hs64
                go_quiet (fail)
                go_wp2_with fail
                all_goals go_meet
                case rel => exact ⟨rfl, ⟨pw_below_drewN (Below.refl _ _) _⟩⟩
            · have hgd1 : decide ((σ2.all.length : Int) ≤ s) = false := decide_eq_false hgs
              have ht0 : tk = false := by rw [htk]; exact decide_eq_false (fun e => hgs e.2.1)
              subst ht0
              clear hgs hh hmf hal htk HTK HIS hs64
              go_quiet (fail)
              go_wp2_with fail
              all_goals go_meet
              case rel => exact ⟨rfl, ⟨pw_below_drewN (Below.refl _ _) _⟩⟩
        case rest =>
          obtain ⟨rfl, HB4⟩ := hcut
          have HX4 := Aside0.mk (LPx.below HX3.out HB4.out)
          have HBU := Aside0.mk (show B ≤ u3.heap.size by have := HX3.out.ge p HX3.out.sp; have := blk_lt HX3.out.blk; omega)
          have HFR4 := Aside0.mk (FrL.below HFR3.out HB4.out HBU.out)
          have HBK4 := Aside0.mk (blk_below HBK3.out HB4.out)
          have HBD4 := Aside0.mk (HBD3.out.keep (Keep5.below HB4.out))
          clear HB4 HX3 HFR3 HBK3 HBD3 HM4 HBU HIS
          go_upto_if 87 with fail
          go_cut [] from 88 to 95 (fun wx => Aside0 (Mid w wx B (N + 1) S p g { σ2 with hold := takeH σ2 s m } true s (a : Int) A1 c1 m))
          case first =>
            cases tk with
            | false =>
              have hc : takeH σ2 s m = σ2.hold := if_neg (of_decide_eq_false HTK.out.symm)
              go_wp2_with fail
              all_goals go_meet
              case rel =>
                rw [hc]
                exact ⟨⟨⟨_, LP.monoN ⟨b, vq, vi, hq, hi, n, sz, f, HX4.out⟩ (Nat.le_succ _), HFR4.out⟩, HBK4.out, HBD4.out, hge⟩⟩
            | true =>
              have hc : takeH σ2 s m = setH σ2.hold s (some m) := if_pos (of_decide_eq_true HTK.out.symm)
              have HC := Aside0.mk hc
              have hs64 : I64 s := I64.mk (by have := HN.out.1; omega) (by have := HN.out.2; omega)
              have hb4 : Below wc.heap.size wc wc.drew := below_drew (Below.refl _ wc)
              have hx5 := LPx.below HX4.out hb4
              have HX5 := Aside0.mk hx5
              obtain ⟨w6, hrun6, hm6, hg6⟩ := Mq.run_store law Try.underlying3 Try.underlying80 hx5.m (Nat.lt_of_le_of_lt hx5.mn hNm) s (.slice A1 m.length c1) hs64
              have HM6 := Aside0.mk hm6
              have HG6 := Aside0.mk hg6
              have hblk := HBK4.out
              have p6 : wc.cell? ⟨p, 6, none⟩ = some (.map (some b)) := blk_cell HX4.out.blk 6
              have g1 : wc.cell? ⟨g, 1, none⟩ = some (.int .i64 s) := blk_cell hblk 1
              have g3 : wc.cell? ⟨g, 3, none⟩ = some (.slice A1 m.length c1) := blk_cell hblk 3
              clear hblk hx5 hm6 hg6 hc
              go_wp2_with fail
              go_region
              all_goals go_wp2_with fail
              all_goals go_meet
              case rel =>
                rw [HC.out]
                exact ⟨mid_store HX5.out (FrL.below HFR4.out hb4 (by have := HX4.out.ge p HX4.out.sp; have := blk_lt HX4.out.blk; omega)) (blk_below HBK4.out hb4) (HBD4.out.keep (Keep5.below hb4)) hge HM6.out HG6.out⟩
          case rest =>
            obtain ⟨σ3, hσ3⟩ : ∃ σ3, σ3 = { σ2 with hold := takeH σ2 s m } := ⟨_, rfl⟩
            have hhw : HW σ3.hold σ3.all ((σ3.all.length : Int) + 16) := by rw [hσ3]; exact takeH_ok HI2.out HOK.out
            have hal := HI2.out.al
            have htl := HI2.out.tl
            have e1 : σ3.all = σ2.all := by rw [hσ3]
            have e2 : σ3.told = σ2.told := by rw [hσ3]
            have hR3 : R = (0, { σ3 with hold := (pull 17 σ3.hold σ3.all).1, all := (pull 17 σ3.hold σ3.all).2 }) := by rw [HR2.out, hσ3]
            rw [← e1] at hal htl
            rw [← e2] at htl
            rw [← hσ3] at hcut
            have HHW := Aside0.mk hhw
            have HR3 := Aside0.mk hR3
            have HAL := Aside0.mk (show σ3.all.length + 16 ≤ 17000016 by have := HM9.out; omega)
            have HTL := Aside0.mk htl
            clear hσ3 hhw hal htl e1 e2 hR3 HR2 HI2 HTK HX4 HFR4 HBK4 HBD4 HN HOK
            obtain ⟨⟨S3, ⟨b3, vq3, vi3, hq3, hi3, n3, sz3, f3, hx⟩, hfr⟩, _, _, _⟩ := hcut.out
            have hb64 : I64 (σ3.all.length : Int) := I64.mk (by omega) (by have := HAL.out; omega)
            have p6 : wc.cell? ⟨p, 6, none⟩ = some (.map (some b3)) := blk_cell hx.blk 6
            have p5 : wc.cell? ⟨p, 5, none⟩ = some (.int .i64 (σ3.all.length : Int)) := blk_cell hx.blk 5
            have hlk := run_look_ok law Try.underlying3 Try.underlying80 (zero30 wc.drew) (hx.m.below (below_drew (Below.refl _ wc))) (σ3.all.length : Int) hb64
            have HL0 := Aside0.mk (lp_start hx hfr hb64 HHW.out HTL.out)
            obtain ⟨v10, hv10⟩ : ∃ v10, v10 = (f3 (σ3.all.length : Int)).getD (.slice none 0 0) := ⟨_, rfl⟩
            obtain ⟨v11, hv11⟩ : ∃ v11, v11 = (f3 (σ3.all.length : Int)).isSome := ⟨_, rfl⟩
            rw [← hv10, ← hv11] at hlk HL0
            clear hv10 hv11 hx hfr hcut
            go_wp2_with fail
            go_region
            clear p5 p6 hlk
            go_wp2_with fail
            go_loopw [10, 11] (fun u10 u11 wr => ∃ (v : Value) (is : Bool) (k : Nat) (h : Int → Option (List Int)) (al : List (List Int)), u10 = v ∧ u11 = .bool is ∧ Aside0 (LpR w wr B (N + 1) S p σ3 v is k h al)) (fun _ _ wr => (σ3.all.length + 16) - (intOf ((wr.cell? ⟨p, 5, none⟩).getD undef)).toNat)
            case atStart => exact ⟨_, _, _, _, _, rfl, rfl, HL0⟩
            case round =>
              obtain ⟨v, is, k, h, al, rfl, rfl, HL⟩ := hrel
              cases he : h (al.length : Int) with
              | none =>
                have his : is = false := by rw [HL.out.is', he]; rfl
                subst his
                have HE := Aside0.mk he
                clear he
                go_wp2_with fail
                go_ret
                obtain ⟨S4, h1, h2⟩ := HL.out.lp
                rw [HR3.out]
                refine ⟨rfl, S4, ?_, h2⟩
                rw [← HL.out.pl, pull_none k HE.out]
                exact h1
              | some l' =>
                have his : is = true := by rw [HL.out.is', he]; rfl
                subst his
                obtain ⟨A4, c4, rfl, hbd4⟩ := HL.out.v' l' he
                obtain ⟨S4, ⟨b4, vq4, vi4, hq4, hi4, n4, sz4, f4, hx⟩, hfr⟩ := HL.out.lp
                have hle : al.length < σ3.all.length + 16 := by have := (HL.out.hw.1 _ _ he).2.1; omega
                have hb64 : I64 (al.length : Int) := I64.mk (by omega) (by have := HAL.out; omega)
                have hb65 : I64 (((al.length + 1 : Nat) : Nat) : Int) := I64.mk (by omega) (by have := HAL.out; omega)
                have hxd := LPx.below hx (below_drew (Below.refl _ wr))
                obtain ⟨w6, hrun, hm6, hg6⟩ := run_delete law Try.underlying3 Try.underlying80 hxd.m (al.length : Int) hb64
                obtain ⟨hx6, hf6⟩ := map_end hxd (al.length : Int) none none hm6 hg6 hxd.mn rfl
                have p6 : wr.cell? ⟨p, 6, none⟩ = some (.map (some b4)) := blk_cell hx.blk 6
                have p5 : wr.cell? ⟨p, 5, none⟩ = some (.int .i64 (al.length : Int)) := blk_cell hx.blk 5
                have HBW4 := Aside0.mk (show B ≤ wr.heap.size by have := hx.ge p hx.sp; have := blk_lt hx.blk; omega)
                have HF6 := Aside0.mk (FrL.trans (FrL.below hfr (below_drew (Below.refl _ wr)) HBW4.out) hf6)
                have HX6 := Aside0.mk hx6
                have HBD6 := Aside0.mk ((hbd4.keep (Keep5.below (below_drew (Below.refl _ wr)))).keep hf6.k5)
                have HE := Aside0.mk he
                have HP5 := Aside0.mk p5
                have HB65 := Aside0.mk hb65
                have HLE := Aside0.mk hle
                clear he hbd4 hx hfr hxd hm6 hg6 hx6 hf6 hb64 hb65 hle
                go_wp2_with fail
                go_region
                clear p5 p6 hrun
                have p4 : w6.cell? ⟨p, 4, none⟩ = some vi4 := blk_cell HX6.out.blk 4
                have HTL4 := Aside0.mk HL.out.tl
                have HLN4 := Aside0.mk (show (hi4.length + 1) * 24 ≤ 140737488355328 by
                  have e1 := HX6.out.ib.1
                  rw [List.length_drop] at e1
                  have e2 : ({ σ3 with hold := setH h (al.length : Int) none, all := al } : Lk).all.length = al.length := rfl
                  have e3 := HLE.out
                  have e4 := HAL.out
                  change hi4.length = al.length - _ at e1
                  omega)
                have hw1 : wrap64 ((al.length : Int) + 1) = (al.length : Int) + 1 := by have := HLE.out; have := HAL.out; unfold wrap64; omega
                go_wp2_with ((with_reducible refine gate_builtin (b := .append) (xs := #[.tmp 133, .tmp 135]) rfl ?_); at_builtin; refine Kd.Q_append kH (w0 := w6) B rfl (.tmp 133) (.tmp 135) 44 30 (.slice none 0 0) 24 rfl Try.underlying44 info30 rfl (by decide) (by omega) vi4 hi4 ⟨A4, l'.length, c4⟩ [encH ⟨A4, l'.length, c4⟩] (fun k => some k = vi4.ownBlock ∨ w6.heap.size ≤ k) (fun _ => False) rfl rfl rfl (fun _ hk => hk.elim) (fun k hk => .inr hk) (Kd.Q_mono HX6.out.i (fun k hk => .inl hk)) (Below.refl _ _) ?aZ HLN4.out ?_; (case aZ => exact (by have := HX6.out.ge p HX6.out.sp; have := blk_lt HX6.out.blk; omega)); intro v9 w9 hq9 _ hg9 hat9; obtain ⟨A9, c9, rfl, _⟩ := Kd.Q_slice hq9; have HGE := Aside0.mk (got_end HX6.out (x := ⟨A4, l'.length, c4⟩) (l := l') HBD6.out HTL4.out hq9 hg9 hat9); have hblk9 := (hg9.block p (blk_lt HX6.out.blk) (fun e => LPx.ni HX6.out e.symm)).trans HX6.out.blk; have d4 : w9.cell? ⟨p, 4, none⟩ = some vi4 := blk_cell hblk9 4; have z4 : w9.frozen? ⟨p, 4, none⟩ = false := blk_frozen hblk9 4; have p5 : w9.cell? ⟨p, 5, none⟩ = some (.int .i64 (al.length : Int)) := blk_cell hblk9 5; have z5 : w9.frozen? ⟨p, 5, none⟩ = false := blk_frozen hblk9 5; clear hq9 hg9 hat9 hblk9 p4)
                clear d4 z4 p5 z5
                have HGF := Aside0.mk (show _ ∧ _ from HGE.out)
                rw [show (hi4 ++ [(⟨A4, l'.length, c4⟩ : Hd)]).length = hi4.length + 1 by simp] at HGF
                rw [show ((({ σ3 with hold := setH h (al.length : Int) none, all := al } : Lk).all.length + 1 : Nat) : Int) = (al.length : Int) + 1 from rfl] at HGF
                clear HGE
                generalize hu5 : (w9.setCell ⟨p, 4, none⟩ (.slice A9 (hi4.length + 1) c9)).setCell ⟨p, 5, none⟩ (.int .i64 ((al.length : Int) + 1)) = u5 at HGF ⊢
                clear hu5
                obtain ⟨hx7, hf7⟩ := HGF.out
                have HL7 := Aside0.mk (lpr_next HL.out HE.out hx7 (FrL.trans HF6.out hf7) HB65.out)
                have hb65 := HB65.out
                have hlk := run_look_ok law Try.underlying3 Try.underlying80 (zero30 u5.drew) (hx7.m.below (below_drew (Below.refl _ u5))) ((al.length + 1 : Nat) : Int) hb65
                rw [show (((al.length + 1 : Nat) : Nat) : Int) = (al.length : Int) + 1 from rfl] at hlk HL7
                have p6 : u5.cell? ⟨p, 6, none⟩ = some (.map (some b4)) := blk_cell hx7.blk 6
                have p5 : u5.cell? ⟨p, 5, none⟩ = some (.int .i64 ((al.length : Int) + 1)) := by
                  have e : u5.cell? ⟨p, 5, none⟩ = some (.int .i64 ((al ++ [l']).length : Int)) := blk_cell hx7.blk 5
                  rw [e]; simp
                obtain ⟨f5, hf5⟩ : ∃ f5, f5 = Mp.upd f4 (al.length : Int) none := ⟨_, rfl⟩
                rw [← hf5] at hlk HL7
                obtain ⟨v5, hv5⟩ : ∃ v, v = (f5 ((al.length : Int) + 1)).getD (.slice none 0 0) := ⟨_, rfl⟩
                obtain ⟨b5, hb5⟩ : ∃ v, v = (f5 ((al.length : Int) + 1)).isSome := ⟨_, rfl⟩
                rw [← hv5, ← hb5] at hlk HL7
                have HP7 := Aside0.mk p5
                clear hf5 hv5 hb5 hx7 hf7 hb65
                go_region
                clear p5 p6 hlk
                go_wp2_with fail
                go_roundw
                case rel =>
                  obtain ⟨k', hk'⟩ := HL7.out
                  exact ⟨_, _, _, _, _, rfl, rfl, ⟨hk'⟩⟩
                case measure =>
                  have h5 := HP5.out
                  have h7 : u5.drew.cell? ⟨p, 5, none⟩ = some (.int .i64 ((al.length : Int) + 1)) := HP7.out
                  have hl := HLE.out
                  rw [h5, h7]
                  simp only [Option.getD_some, intOf]
                  omega
/-- In, whatever comes. -/
theorem in_calls (h : LP w B N S p σ) {M : Nat} (hI : Inv M σ) (hM : M ≤ 1000000) (hNm : N < maxLen) (A : Option Addr) (c : Nat) (l : List Int) (hr : Kd.C (Kd.int .u8) w A l.length l) (hc : l.length ≤ c) (hl : l.length ≤ 140737488351232) (hb : ∀ x ∈ l, 0 ≤ x ∧ x < 256) :
    Calls Try.prog 22 #[.pointer (some ⟨p, 0, none⟩), .slice A l.length c] w fun e w' => e = .returned (.int .i64 (inL σ l).1) ∧ ∃ S', LP w' B (N + 1) S' p (inL σ l).2 ∧ FrL B S S' w w' := by
  by_cases hE : (decA l).2 ≠ 0 ∨ (decA l).1.2.2.1 > (σ.sent : Int)
  · refine (in_no h A c l hr hc hl hb hE).mono ?_
    rintro e w' ⟨rfl, hbel⟩
    have e1 : inL σ l = (14, σ) := by unfold inL; rw [if_pos hE]
    rw [e1]
    have hB : B ≤ w.heap.size := by obtain ⟨b, vq, vi, hq, hi, n, sz, f, hx⟩ := h; have := hx.ge p hx.sp; have := blk_lt hx.blk; omega
    exact ⟨rfl, S, LP.monoN (LP.below h hbel) (Nat.le_succ _), FrL.below (FrL.refl B S w) hbel hB⟩
  · have h1 : (decA l).2 = 0 := by
      rcases Classical.em ((decA l).2 = 0) with h | h
      · exact h
      · exact absurd (.inl h) hE
    exact in_yes h hI hM hNm A c l hr hc hl hb h1 (by omega)
end Go.Proofs.Ytekakngojhnleaa.Le
