/- Parts of the proof of LinkScripts, merged: each is proved for all its inputs. -/
import Derived.Test.YtekakngojhnleaaMgLinkScriptsf
import Derived.BigQuiet
import Derived.Test.YtekakngojhnleaaMgLinkScriptsc
/- Links: New, Tick, Sure, Got, Next of the program walked. -/
namespace Go.Proofs.Ytekakngojhnleaa.La
open Go.RowKit Go.Maps Go.Proofs.Ytekakngojhnleaa.Mp Go.Proofs.Ytekakngojhnleaa.Mq Go.Proofs.Ytekakngojhnleaa.Lp Go.Proofs.Ytekakngojhnleaa.Lm Go.Proofs.YtekakngojhnleaaW.PrintWords Go.Proofs.YtekakngojhnleaaW.PrintLast Go.Proofs.YtekakngojhnleaaW.PrintMore
set_option linter.unusedVariables false
set_option linter.unusedSimpArgs false
variable {w : World} {B N p : Nat} {S : Nat → Prop} {σ : Lk}

theorem size_al (w : World) (o : Obj) : (w.alloc o).heap.size = w.heap.size + 1 := Array.size_push _
section
variable {b n s : Nat} {vq vi : Value} {hq hi : List Hd} {f : Int → Option Value}
theorem LPx.nq (h : LPx w B N S p σ b vq vi hq hi n s f) : vq.ownBlock ≠ some p := fun e => by
  obtain ⟨cs, hc⟩ := Kd.Q_typed h.q p e
  have := h.blk
  rw [hc] at this
  cases this
theorem LPx.ni (h : LPx w B N S p σ b vq vi hq hi n s f) : vi.ownBlock ≠ some p := fun e => by
  obtain ⟨cs, hc⟩ := Kd.Q_typed h.i p e
  have := h.blk
  rw [hc] at this
  cases this
theorem LPx.nb (h : LPx w B N S p σ b vq vi hq hi n s f) : b ≠ p := h.m.ne_cells h.blk
/-- A cell of the end is written. -/
theorem LPx.put (h : LPx w B N S p σ b vq vi hq hi n s f) (j : Nat) (v : Value) :
    (w.setCell ⟨p, j, none⟩ v).heap[p]? = some (.cells ((cellsE σ vq vi b).setIfInBounds j v) 82 (0, 0)) ∧ kH.Q 30 (w.setCell ⟨p, j, none⟩ v) B (fun k => some k = vq.ownBlock) vq hq ∧ Bods (w.setCell ⟨p, j, none⟩ v) B hq (σ.took.drop σ.sure) ∧
      kH.Q 30 (w.setCell ⟨p, j, none⟩ v) B (fun k => some k = vi.ownBlock) vi hi ∧ Bods (w.setCell ⟨p, j, none⟩ v) B hi (σ.all.drop σ.told) ∧ IntMap Try.prog 3 (w.setCell ⟨p, j, none⟩ v) b n f s ∧ Held (w.setCell ⟨p, j, none⟩ v) B f σ.hold ∧ Keep5 w (w.setCell ⟨p, j, none⟩ v) := by
  have k5 : Keep5 w (w.setCell ⟨p, j, none⟩ v) := Keep5.set h.blk (by decide)
  exact ⟨blk_put h.blk j v rfl, Kd.Q_far h.q (fun k hk e => LPx.nq h (by rw [← hk, e])) v, h.qb.keep k5, Kd.Q_far h.i (fun k hk e => LPx.ni h (by rw [← hk, e])) v, h.ib.keep k5, h.m.far (by exact LPx.nb h) v, h.mf.keep k5, k5⟩
end
theorem FrL.set (hB : B ≤ p) (hp : S p) (hblk : ∃ cs, w.heap[p]? = some (.cells cs 82 (0, 0))) (j : Nat) (v : Value) : FrL B S S w (w.setCell ⟨p, j, none⟩ v) := by
  obtain ⟨cs, hc⟩ := hblk
  exact ⟨(Below.refl B w).setCell hB v, (Kept.refl w S).setCell (.inl hp) v, Keep5.set hc (by decide), fun k hk => .inl hk⟩
theorem FrL.trans {S1 S2 S3 : Nat → Prop} {w1 w2 w3 : World} (h : FrL B S1 S2 w1 w2) (k : FrL B S2 S3 w2 w3) : FrL B S1 S3 w1 w3 :=
  ⟨h.b.trans k.b, h.k.then_ k.k h.s, h.k5.trans k.k5, fun i hi => (k.s i hi).elim (fun a => h.s i a) (fun a => .inr (Nat.le_trans h.b.size a))⟩
theorem FrL.refl (B : Nat) (S : Nat → Prop) (w : World) : FrL B S S w w := ⟨Below.refl _ _, Kept.refl _ _, Keep5.refl _, fun _ h => .inl h⟩
theorem tick_calls (h : LP w B N S p σ) : Calls Try.prog 20 #[.pointer (some ⟨p, 0, none⟩)] w fun e w' => e = .returned (.tuple #[]) ∧ LP w' B N S p (tickL σ) ∧ FrL B S S w w' := by
  obtain ⟨b, vq, vi, hq, hi, n, s, f, hx⟩ := h
  have c8 : w.cell? ⟨p, 8, none⟩ = some (.bool σ.tick) := blk_cell hx.blk 8
  have f8 : w.frozen? ⟨p, 8, none⟩ = false := blk_frozen hx.blk 8
  have H := Aside0.mk hx
  clear hx
  go_enter Try.func20, Try.ntmps20
  go_wp2_with fail
  go_end0
  obtain ⟨g0, g1, g2, g3, g4, g5, g6, g7⟩ := LPx.put H.out 8 (.bool true)
  refine ⟨rfl, ⟨b, vq, vi, hq, hi, n, s, f, g0, g1, g2, g3, g4, g5, H.out.mn, g6, H.out.sp, H.out.sb, H.out.sq, H.out.si, H.out.ap, ?_, H.out.ge⟩, FrL.set (H.out.ge p H.out.sp) H.out.sp ⟨_, H.out.blk⟩ 8 _⟩
  intro k hk
  rw [World.size_setCell]
  exact H.out.lt k hk
set_option maxRecDepth 100000 in
set_option maxHeartbeats 1000000 in
theorem new_yes (n : Nat) (h0 : 1 ≤ n) (h1 : n ≤ 16) (w : World) : Calls Try.prog 14 #[.int .i64 (n : Int)] w fun e w' =>
    e = .returned (.tuple #[.pointer (some ⟨w.heap.size + 1, 0, none⟩), .int .i64 0]) ∧ (∀ B, B ≤ w.heap.size → LP w' B 0 (fun k => k = w.heap.size ∨ k = w.heap.size + 1) (w.heap.size + 1) (newL n)) ∧ Below w.heap.size w w' := by
  have hmm := @run_makeMap Try.prog
  have hn0 : ¬ (n : Int) < 1 := by omega
  have hn1 : ¬ (16 : Int) < (n : Int) := by omega
  go_enter Try.func14, Try.ntmps14
  go_wp2_with fail
  try go_ret2
  have hsz : (w.alloc (.map #[] 0)).heap.size = w.heap.size + 1 := size_al _ _
  refine ⟨?_, fun B hB => ⟨w.heap.size, .slice none 0 0, .slice none 0 0, [], [], 0, 0, fun _ => none, ?_, Kd.Q_nil _ _ _ _ _, Bods.nil _ _, Kd.Q_nil _ _ _ _ _, Bods.nil _ _, (IntMap.made Try.prog 3 w).alloc _, Nat.le_refl _, fun x _ => rfl, .inr rfl, .inl rfl, fun k hk => (nomatch hk), fun k hk => (nomatch hk), fun k hk => (nomatch hk), fun k hk => ?_, fun k hk => ?_⟩, below_alloc (below_alloc (Below.refl _ _) _) _⟩
  · first | rfl | simp
  · have := blk_new (w.alloc (.map #[] 0)) (.cells (cellsE (newL n) (.slice none 0 0) (.slice none 0 0) w.heap.size) 82)
    rw [hsz] at this
    exact this
  · rw [size_al, hsz]; rcases hk with h | h <;> omega
  · rcases hk with h | h <;> omega
set_option maxRecDepth 100000 in
theorem new_no (n : Int) (h : n < 1 ∨ 16 < n) (w : World) : Calls Try.prog 14 #[.int .i64 n] w fun e w' => e = .returned (.tuple #[.pointer none, .int .i64 1]) ∧ w' = w := by
  by_cases h0 : n < 1
  · clear h
    go_enter Try.func14, Try.ntmps14
    go_wp2_with fail
    try go_ret2
    exact ⟨rfl, rfl⟩
  · have h1 : 16 < n := by omega
    clear h
    go_enter Try.func14, Try.ntmps14
    go_wp2_with fail
    try go_ret2
    exact ⟨rfl, rfl⟩
theorem sure_calls (h : LP w B N S p σ) : Calls Try.prog 38 #[.pointer (some ⟨p, 0, none⟩)] w fun e w' => e = .returned (.int .i64 (σ.sure : Int)) ∧ w' = w := by
  obtain ⟨b, vq, vi, hq, hi, n, s, f, hx⟩ := h
  have c2 : w.cell? ⟨p, 2, none⟩ = some (.int .i64 (σ.sure : Int)) := blk_cell hx.blk 2
  clear hx
  go_enter Try.func38, Try.ntmps38
  go_wp2_with fail
  go_ret
  exact ⟨rfl, rfl⟩
theorem got_calls (h : LP w B N S p σ) : Calls Try.prog 39 #[.pointer (some ⟨p, 0, none⟩)] w fun e w' => e = .returned (.int .i64 (σ.all.length : Int)) ∧ w' = w := by
  obtain ⟨b, vq, vi, hq, hi, n, s, f, hx⟩ := h
  have c2 : w.cell? ⟨p, 5, none⟩ = some (.int .i64 (σ.all.length : Int)) := blk_cell hx.blk 5
  clear hx
  go_enter Try.func39, Try.ntmps39
  go_wp2_with fail
  go_ret
  exact ⟨rfl, rfl⟩
end Go.Proofs.Ytekakngojhnleaa.La
/- Links: Next of the program walked. -/
namespace Go.Proofs.Ytekakngojhnleaa.Lb
open Go.RowKit Go.Maps Go.Proofs.Ytekakngojhnleaa.Mp Go.Proofs.Ytekakngojhnleaa.Mq Go.Proofs.Ytekakngojhnleaa.Lp Go.Proofs.Ytekakngojhnleaa.Lm Go.Proofs.Ytekakngojhnleaa.La Go.Proofs.YtekakngojhnleaaW.PrintWords Go.Proofs.YtekakngojhnleaaW.PrintLast Go.Proofs.YtekakngojhnleaaW.PrintMore
set_option linter.unusedVariables false
set_option linter.unusedSimpArgs false
variable {w : World} {B N p : Nat} {S : Nat → Prop} {σ : Lk}

def zH : Hd := ⟨none, 0, 0⟩
def rdH (xs : List Hd) (i : Int) : Hd := xs.getD i.toNat zH
theorem at_H {A : Option Addr} {n : Nat} {xs : List Hd} (h : kH.C w A n xs) (i : Int) (h0 : 0 ≤ i) (h1 : i < n) : ∃ ad, A = some ad ∧ w.cell? (ad.add i.toNat) = some (encH (rdH xs i)) := by
  obtain ⟨ad, c, e, _, hK, hc⟩ := Kd.C_get h zH i h0 h1
  have hK' : c = [encH (rdH xs i)] := hK
  subst hK'
  have := hc 0 _ rfl
  exact ⟨ad, e, by simpa [kH, Kd.scalar] using this⟩
theorem next_no (h : LP w B N S p σ) (ht : ¬ σ.told < σ.all.length) : Calls Try.prog 23 #[.pointer (some ⟨p, 0, none⟩)] w fun e w' => e = .returned (.tuple #[.slice none 0 0, .bool false]) ∧ w' = w := by
  obtain ⟨b, vq, vi, hq, hi, n, s, f, hx⟩ := h
  have hl : hi.length = 0 := by rw [hx.ib.1, List.length_drop]; omega
  obtain ⟨A, c, hv, _⟩ := Kd.Q_slice hx.i
  rw [hl] at hv
  subst hv
  have c4 : w.cell? ⟨p, 4, none⟩ = some (.slice A 0 c) := blk_cell hx.blk 4
  clear hx hl ht
  go_enter Try.func23, Try.ntmps23
  go_wp2_with fail
  try go_ret2
  exact ⟨rfl, rfl⟩
theorem next_end {b n s : Nat} {vq vi : Value} {hq hi : List Hd} {f : Int → Option Value} (h : LPx w B N S p σ b vq vi hq hi n s f) (v' : Value) (hq' : kH.Q 30 w B (fun k => some k = vi.ownBlock) v' (hi.drop 1)) :
    LP (w.setCell ⟨p, 4, none⟩ v') B N S p { σ with told := σ.told + 1 } ∧ FrL B S S w (w.setCell ⟨p, 4, none⟩ v') := by
  obtain ⟨g0, g1, g2, g3, g4, g5, g6, g7⟩ := LPx.put h 4 v'
  have hown : ∀ k, v'.ownBlock = some k → vi.ownBlock = some k := fun k hk => (Kd.Q_ok hq' k hk).symm
  have hib := h.ib.drop 1
  rw [List.drop_drop] at hib
  refine ⟨⟨b, vq, v', hq, hi.drop 1, n, s, f, g0, g1, g2, Kd.Q_far (Kd.Q_tight rfl hq') (fun k hk e => LPx.ni h (hown p (by rw [← hk, e]))) v', hib.keep g7, g5, h.mn, g6, h.sp, h.sb, h.sq, fun k hk => h.si k (hown k hk), fun k hk e => h.ap k hk (hown k e), ?_, h.ge⟩, FrL.set (h.ge p h.sp) h.sp ⟨_, h.blk⟩ 4 _⟩
  intro k hk
  rw [World.size_setCell]
  exact h.lt k hk
set_option maxRecDepth 100000 in
set_option maxHeartbeats 1000000 in
theorem next_yes (h : LP w B N S p σ) (ht : σ.told < σ.all.length) : Calls Try.prog 23 #[.pointer (some ⟨p, 0, none⟩)] w fun e w' => ∃ v, e = .returned (.tuple #[v, .bool true]) ∧ Bd w' B v σ.all[σ.told] ∧ LP w' B N S p (nextL σ).2 ∧ FrL B S S w w' := by
  obtain ⟨b, vq, vi, hq, hi, n, s, f, hx⟩ := h
  have hl : hi.length = σ.all.length - σ.told := by rw [hx.ib.1, List.length_drop]
  have hnx : (nextL σ).2 = { σ with told := σ.told + 1 } := by unfold nextL; rw [dif_pos ht]
  rw [hnx]
  obtain ⟨m, hm⟩ : ∃ m, hi.length = m + 1 := ⟨hi.length - 1, by omega⟩
  obtain ⟨A, c, hv, hcap, hcr⟩ := Kd.Q_reads hx.i
  have hm0 : (0 : Int) < (hi.length : Int) := by omega
  obtain ⟨ad, rfl, hc0⟩ := at_H hcr 0 (by omega) hm0
  subst hv
  have hbd : Bd w B (encH (rdH hi 0)) σ.all[σ.told] := hx.ib.2 0 _ _ (by unfold rdH; cases hi with | nil => simp at hm | cons a r => rfl) (by rw [List.getElem?_drop, Nat.add_zero, List.getElem?_eq_getElem ht])
  have HBD := Aside0.mk hbd
  have hdr := Kd.Q_drop (k := 1) hx.i (by omega)
  have HDR := Aside0.mk hdr
  have c4 : w.cell? ⟨p, 4, none⟩ = some (.slice (some ad) hi.length c) := blk_cell hx.blk 4
  have f4 : w.frozen? ⟨p, 4, none⟩ = false := blk_frozen hx.blk 4
  obtain ⟨y, hy⟩ : ∃ y, y = rdH hi 0 := ⟨_, rfl⟩
  rw [← hy] at hc0
  have HY := Aside0.mk hy
  unfold encH at hc0
  rw [show ad.add (0 : Int).toNat = ad by simp [Addr.add]] at hc0
  have hlb : ((hi.length : Int) == 0) = false := by rw [beq_eq_false_iff_ne]; omega
  have H := Aside0.mk hx
  have hmax := Kd.C_max hcr
  have hcm : (1 : Int) ≤ (c : Int) := by omega
  have HL := Aside0.mk (And.intro hl hm)
  clear hx hbd hdr hnx hy hl hm hcr
  go_enter Try.func23, Try.ntmps23
  go_wp2_with fail
  · have hc1 : c = 1 := by assumption
    go_ret2
    rw [if_pos hc1] at HDR
    subst hc1
    refine ⟨_, rfl, ?_, (next_end H.out _ HDR.out).1, (next_end H.out _ HDR.out).2⟩
    show Bd _ B (encH y) _
    rw [HY.out]
    exact HBD.out.keep (Keep5.set H.out.blk (by decide))
  · have hc1 : ¬ c = 1 := by assumption
    go_ret2
    rw [if_neg hc1] at HDR
    refine ⟨_, rfl, ?_, (next_end H.out _ HDR.out).1, (next_end H.out _ HDR.out).2⟩
    show Bd _ B (encH y) _
    rw [HY.out]
    exact HBD.out.keep (Keep5.set H.out.blk (by decide))
end Go.Proofs.Ytekakngojhnleaa.Lb
/- Links: Send of the program walked. -/
namespace Go.Proofs.Ytekakngojhnleaa.Lc
open Go.RowKit Go.Maps Go.Proofs.Ytekakngojhnleaa.Mp Go.Proofs.Ytekakngojhnleaa.Mq Go.Proofs.Ytekakngojhnleaa.Lp Go.Proofs.Ytekakngojhnleaa.Lm Go.Proofs.Ytekakngojhnleaa.La Go.Proofs.Ytekakngojhnleaa.Lb Go.Proofs.YtekakngojhnleaaW.PrintWords Go.Proofs.YtekakngojhnleaaW.PrintLast Go.Proofs.YtekakngojhnleaaW.PrintMore
set_option linter.unusedVariables false
set_option linter.unusedSimpArgs false
variable {w : World} {B N p : Nat} {S : Nat → Prop} {σ : Lk}

theorem info30 : (Try.prog.info? 30).map (fun i => (i.zero, i.size, i.bytes)) = some (some (.slice none 0 0), 1, 24) := by kernel_rfl
theorem LPx.below {w' : World} {b n s : Nat} {vq vi : Value} {hq hi : List Hd} {f : Int → Option Value} (h : LPx w B N S p σ b vq vi hq hi n s f) (hb : Below w.heap.size w w') : LPx w' B N S p σ b vq vi hq hi n s f := by
  have k5 := Keep5.below hb
  exact ⟨blk_below h.blk hb, Kd.Q_below h.q hb, h.qb.keep k5, Kd.Q_below h.i hb, h.ib.keep k5, h.m.below hb, h.mn, h.mf.keep k5, h.sp, h.sb, h.sq, h.si, h.ap, fun k hk => Nat.lt_of_lt_of_le (h.lt k hk) hb.size, h.ge⟩
theorem LP.below {w' : World} (h : LP w B N S p σ) (hb : Below w.heap.size w w') : LP w' B N S p σ := by
  obtain ⟨b, vq, vi, hq, hi, n, s, f, h⟩ := h
  have k5 := Keep5.below hb
  exact ⟨b, vq, vi, hq, hi, n, s, f, blk_below h.blk hb, Kd.Q_below h.q hb, h.qb.keep k5, Kd.Q_below h.i hb, h.ib.keep k5, h.m.below hb, h.mn, h.mf.keep k5, h.sp, h.sb, h.sq, h.si, h.ap, fun k hk => Nat.lt_of_lt_of_le (h.lt k hk) hb.size, h.ge⟩
/-- The queue has grown by one. -/
theorem send_end {b n s : Nat} {vq vi : Value} {hq hi : List Hd} {f : Int → Option Value} (h : LPx w B N S p σ b vq vi hq hi n s f) {w4 w9 : World} (hb4 : Below w.heap.size w w4) {v9 : Value} {x : Hd} {l : List Int} (hx : Bd w4 B (encH x) l) (hs : σ.sure ≤ σ.took.length)
    (hq9 : kH.Q 30 w9 B (fun k => some k = vq.ownBlock ∨ w4.heap.size ≤ k) v9 (hq ++ [x])) (hg : w4.grownBy w9 vq.ownBlock) (hat : v9.ownBlock = vq.ownBlock ∨ ∃ k, v9.ownBlock = some k ∧ w4.heap.size ≤ k) :
    LP (w9.setCell ⟨p, 1, none⟩ v9) B N (fun k => S k ∨ v9.ownBlock = some k) p { σ with took := σ.took ++ [l] } ∧ FrL B S (fun k => S k ∨ v9.ownBlock = some k) w (w9.setCell ⟨p, 1, none⟩ v9) := by
  have hb5 : Below w.heap.size w w4 := hb4
  have hq5 : kH.Q 30 w4 B (fun k => some k = vq.ownBlock) vq hq := Kd.Q_below h.q hb5
  have k59 : Keep5 w4 w9 := Keep5.grown hg (fun k hk cs hc => by
    obtain ⟨cs', hc'⟩ := Kd.Q_typed hq5 k hk
    rw [hc] at hc'
    cases hc')
  have k09 : Keep5 w w9 := (Keep5.below hb5).trans k59
  have k49 : Keep5 w4 w9 := k59
  have hblk : w9.heap[p]? = some (.cells (cellsE σ vq vi b) 82 (0, 0)) := by
    rw [hg.block p (by have := blk_lt h.blk; have := hb5.size; omega) (fun e => LPx.nq h e.symm), hb5.block p (blk_lt h.blk), h.blk]
  have kset : Keep5 w9 (w9.setCell ⟨p, 1, none⟩ v9) := Keep5.set hblk (by decide)
  have hn9 : v9.ownBlock ≠ some p := fun e => by
    rcases hat with h1 | ⟨k, h1, h2⟩
    · exact LPx.nq h (by rw [← h1, e])
    · rw [h1] at e; cases e; have := blk_lt h.blk; have := hb4.size; omega
  have hi9 : kH.Q 30 w9 B (fun k => some k = vi.ownBlock) vi hi := Kd.Q_grown (Kd.Q_below h.i hb5) hg (fun k hk e => h.ap k e.symm hk.symm)
  have hm9 : IntMap Try.prog 3 w9 b n f s := (h.m.below hb5).kept hg (fun e => by
    obtain ⟨cs, hc⟩ := Kd.Q_typed h.q b e.symm
    exact h.m.ne_cells hc rfl)
  have hlt9 : ∀ k, v9.ownBlock = some k → k < w9.heap.size := fun k hk => by obtain ⟨cs, hc⟩ := Kd.Q_typed hq9 k hk; exact blk_lt hc
  have hsz : w.heap.size ≤ w9.heap.size := by have := hb5.size; have := hg.size; omega
  refine ⟨⟨b, v9, vi, hq ++ [x], hi, n, s, f, ?_, Kd.Q_far (Kd.Q_tight rfl hq9) (fun k hk e => hn9 (by rw [← hk, e])) v9, ?_, Kd.Q_far hi9 (fun k hk e => LPx.ni h (by rw [← hk, e])) v9, (h.ib.keep k09).keep kset, hm9.far (by exact LPx.nb h) v9, h.mn, (h.mf.keep k09).keep kset, .inl h.sp, .inl h.sb, fun k hk => .inr hk, fun k hk => .inl (h.si k hk), ?_, ?_, ?_⟩, ?_, ?_, ?_, ?_⟩
  · rw [blk_put hblk 1 v9 rfl]; rfl
  · have e1 : (σ.took ++ [l]).drop σ.sure = σ.took.drop σ.sure ++ [l] := by rw [List.drop_append_of_le_length hs]
    show Bods _ B (hq ++ [x]) ((σ.took ++ [l]).drop σ.sure)
    rw [e1]
    exact (((h.qb.keep k09).snoc (hx.keep k49))).keep kset
  · intro k hk e
    rcases hat with h1 | ⟨k', h1, h2⟩
    · exact h.ap k (by rw [← h1]; exact hk) e
    · rw [h1] at hk; cases hk
      have := h.lt k (h.si k e)
      have := hb4.size
      omega
  · intro k hk
    rw [World.size_setCell]
    rcases hk with hk | hk
    · exact Nat.lt_of_lt_of_le (h.lt k hk) hsz
    · exact hlt9 k hk
  · intro k hk
    rcases hk with hk | hk
    · exact h.ge k hk
    · exact Kd.Q_base hq9 k hk
  · have hB : B ≤ w.heap.size := by have := h.ge p h.sp; have := blk_lt h.blk; omega
    exact (pw_below_grown (hb5.mono hB) _ (Nat.le_trans hB hb5.size) hg (fun k hk => h.ge k (h.sq k hk))).setCell (h.ge p h.sp) v9
  · exact (Kept.of_grown hg (Kept.of_below hb5 S) (fun k hk => .inl (h.sq k hk))).setCell (.inl h.sp) v9
  · exact k09.trans kset
  · intro k hk
    rcases hk with hk | hk
    · exact .inl hk
    · rcases hat with h1 | ⟨k', h1, h2⟩
      · exact .inl (h.sq k (by rw [← h1]; exact hk))
      · rw [h1] at hk; cases hk; exact .inr (Nat.le_trans hb4.size h2)
set_option maxRecDepth 100000 in
set_option maxHeartbeats 1000000 in
theorem send_calls (h : LP w B N S p σ) {M : Nat} (hI : Inv M σ) (hM : M ≤ 1000000) (A : Option Addr) (c : Nat) (l : List Int) (hr : Kd.C (Kd.int .u8) w A l.length l) (hl : l.length ≤ 140737488351232) :
    Calls Try.prog 19 #[.pointer (some ⟨p, 0, none⟩), .slice A l.length c] w fun e w' => ∃ S', e = .returned (.int .i64 (sendL σ l).1) ∧ LP w' B N S' p (sendL σ l).2 ∧ FrL B S S' w w' := by
  obtain ⟨R, hR⟩ : ∃ R, R = sendL σ l := ⟨_, rfl⟩
  rw [← hR]
  unfold sendL at hR
  obtain ⟨b, vq, vi, hq, hi, n, s, f, hx⟩ := h
  obtain ⟨A0, c0, rfl, hcap0⟩ := Kd.Q_slice hx.q
  have hql : hq.length = σ.took.length - σ.sure := by rw [hx.qb.1, List.length_drop]
  have e1 := hI.s3
  have e2 := hI.tk
  have e3 : σ.sure ≤ σ.took.length := Nat.le_trans hI.s0 hI.s1
  have c1 : w.cell? ⟨p, 1, none⟩ = some (.slice A0 hq.length c0) := blk_cell hx.blk 1
  have c2 : w.cell? ⟨p, 2, none⟩ = some (.int .i64 (σ.sure : Int)) := blk_cell hx.blk 2
  have HLP := Aside0.mk (show LP w B N S p σ from ⟨b, _, vi, hq, hi, n, s, f, hx⟩)
  have H := Aside0.mk hx
  have HR := Aside0.mk hr
  have HSU := Aside0.mk e3
  have HLN := Aside0.mk (show hq.length ≤ 64 by omega)
  have HBW := Aside0.mk (show B ≤ w.heap.size by have := hx.ge p hx.sp; have := blk_lt hx.blk; omega)
  clear hx hr
  by_cases h1 : 1048576 < (l.length : Int)
  · rw [if_pos (.inl (by omega))] at hR
    have HRR := Aside0.mk hR
    clear hR
    go_enter Try.func19, Try.ntmps19
    go_wp2_with fail
    go_quiet (fail)
    go_wp2_with fail
    go_ret
    refine ⟨S, by rw [HRR.out]; rfl, by rw [HRR.out]; exact LP.below HLP.out (pw_below_drewN (Below.refl _ _) _), ?_⟩
    exact ⟨pw_below_drewN (Below.refl _ _) _, Kept.refl _ _, Keep5.refl _, fun _ h => .inl h⟩
  · rw [if_neg (by omega)] at hR
    have hg1 : decide ((1048576 : Int) < (l.length : Int)) = false := decide_eq_false h1
    have hsum : (σ.sure : Int) + (hq.length : Int) < 1073741824 := by omega
    have hg2 : decide ((1073741824 : Int) ≤ (σ.sure : Int) + (hq.length : Int)) = false := decide_eq_false (by omega)
    by_cases h2 : 64 ≤ (hq.length : Int)
    · rw [if_pos (by omega)] at hR
      have HRR := Aside0.mk hR
      clear hR hql e1 e2 e3
      go_enter Try.func19, Try.ntmps19
      go_wp2_with fail
      go_region
      all_goals go_wp2_with fail
      all_goals go_ret
      all_goals (
        refine ⟨S, by rw [HRR.out]; rfl, by rw [HRR.out]; exact LP.below HLP.out (below_drew (Below.refl _ _)), ?_⟩
        exact ⟨below_drew (Below.refl _ _), Kept.refl _ _, Keep5.refl _, fun _ h => .inl h⟩)
    · rw [if_neg (by omega)] at hR
      have hg3 : decide ((64 : Int) ≤ (hq.length : Int)) = false := decide_eq_false h2
      have HRR := Aside0.mk hR
      clear h2
      clear hR hql e1 e2 e3
      go_enter Try.func19, Try.ntmps19
      go_wp2_with fail
      go_region
      clear hsum hg2 hg1 h1
      go_wp2_with fail
      have hbu : Below w.heap.size w w.drew := below_drew (Below.refl _ w)
      have hfu : FrL B S S w w.drew := ⟨hbu.mono HBW.out, Kept.of_below hbu S, Keep5.below hbu, fun _ h => .inl h⟩
      have HU := Aside0.mk (LPx.below H.out hbu)
      have HUR := Aside0.mk (Kd.C_below HR.out hbu)
      have HBU := Aside0.mk (show B ≤ w.drew.heap.size from HBW.out)
      have HFU := Aside0.mk hfu
      clear hbu hfu c1 c2 hg3
      generalize w.drew = u at HU HUR HBU HFU ⊢
      have HS0 : u.drew.cell? ⟨p, 1, none⟩ = some (.slice A0 hq.length c0) := blk_cell HU.out.blk 1
      refine start_ (n := 12) (S := fun w' => w'.cell? ⟨p, 1, none⟩ = some (.slice A0 hq.length c0)) (ds := [11]) #[false, false, false, false, false, false, false, false, false, false, false, false] (by kernel_rfl) rfl rfl HS0 (fun hHeld => ?_)
      refine pure_ (i := 0) (N := some 29) (v := ?_) (a' := ?_) #[true, false, false, false, false, false, false, false, false, false, false, false] rfl rfl (by kernel_rfl) (fun _ _ _ h => h) (Or.inl ⟨by rfl, ?_⟩) ?_ ?_
      rotate_left
      · intro w'
        go_simp
        try with_reducible rfl
      rotate_left
      · simp only [Act.put, List.setIfInBounds_toArray, List.set_cons_zero, List.set_cons_succ, i64_w, i32_w]
        rfl
      refine pure_ (i := 1) (N := some 30) (v := ?_) (a' := ?_) #[true, true, false, false, false, false, false, false, false, false, false, false] rfl rfl (by kernel_rfl) (fun _ _ _ h => h) (Or.inl ⟨by rfl, ?_⟩) ?_ ?_
      rotate_left
      · intro w'
        go_simp
        try with_reducible rfl
      rotate_left
      · simp only [Act.put, List.setIfInBounds_toArray, List.set_cons_zero, List.set_cons_succ, i64_w, i32_w]
        rfl
      refine pure_ (i := 2) (N := some 31) (v := ?_) (a' := ?_) #[true, true, true, false, false, false, false, false, false, false, false, false] rfl rfl (by kernel_rfl) (fun _ _ _ h => h) (Or.inl ⟨by rfl, ?_⟩) ?_ ?_
      rotate_left
      · intro w'
        go_simp
        try with_reducible rfl
      rotate_left
      · simp only [Act.put, List.setIfInBounds_toArray, List.set_cons_zero, List.set_cons_succ, i64_w, i32_w]
        rfl
      refine pure_ (i := 3) (N := some 32) (v := ?_) (a' := ?_) #[true, true, true, true, false, false, false, false, false, false, false, false] rfl rfl (by kernel_rfl) (fun _ _ _ h => h) (Or.inl ⟨by rfl, ?_⟩) ?_ ?_
      rotate_left
      · intro w'
        go_simp
        try with_reducible rfl
      rotate_left
      · simp only [Act.put, List.setIfInBounds_toArray, List.set_cons_zero, List.set_cons_succ, i64_w, i32_w]
        rfl
      refine pure_ (i := 5) (N := some 34) (v := ?_) (a' := ?_) #[true, true, true, true, false, true, false, false, false, false, false, false] rfl rfl (by kernel_rfl) (fun _ _ _ h => h) (Or.inl ⟨by rfl, ?_⟩) ?_ ?_
      rotate_left
      · intro w'
        go_simp
        try with_reducible rfl
      rotate_left
      · simp only [Act.put, List.setIfInBounds_toArray, List.set_cons_zero, List.set_cons_succ, i64_w, i32_w]
        rfl
      refine take_ (i := 4) (N := some 33) (v := ?_) (a' := ?_) #[true, true, true, true, true, true, false, false, false, false, false, false] rfl rfl (by kernel_rfl) (fun _ _ _ h => h) (Or.inl ⟨by rfl, ?_⟩) hHeld ?_ ?_
      rotate_left
      · intro w' q1
        go_simp
        try with_reducible rfl
      rotate_left
      · simp only [Act.put, List.setIfInBounds_toArray, List.set_cons_zero, List.set_cons_succ, i64_w, i32_w]
        rfl
      refine one_ (i := 6) (N := some 35) #[true, true, true, true, true, true, true, false, false, false, false, false] rfl rfl (by kernel_rfl) (by decide) (fun K hK => ?_)
      refine goes_ Try.func51 (by kernel_rfl) rfl #[.slice A l.length c] (by rfl) rfl rfl (by first | rfl | (simp [Act.eval]; done) | kernel_rfl) ?_
      refine (Go.Proofs.Ytekakngojhnleaa.Rd.clone_calls A c l _ (show Kd.C (Kd.int .u8) u.drew A l.length l from HUR.out) (by omega)).mono ?_
      rintro e w4 ⟨v, rfl, ho4, hb4⟩
      replace hb4 : Below u.heap.size u w4 := (below_drew (Below.refl _ u)).trans hb4
      replace ho4 : (Kd.int .u8).R 5 w4 u.heap.size (fun _ => True) v l := ho4
      refine ⟨_, rfl, ?_⟩
      obtain ⟨A4, c4, rfl⟩ := Kd.R_slice ho4
      have HBD := Aside0.mk (show Bd w4 B (encH ⟨A4, l.length, c4⟩) l from Bd.of ho4 HBU.out)
      have HB4 := Aside0.mk hb4
      have HS4 : w4.cell? ⟨p, 1, none⟩ = some (.slice A0 hq.length c0) := blk_cell (blk_below HU.out.blk hb4) 1
      clear ho4 hb4
      refine hK.out _ _ HS4 (fun hHeld => ?_)
      clear hK K
      refine norm_ (a' := ?_) ?_ ?_
      rotate_left
      · show Act.put _ (some 35) _ = _
        simp only [Act.put, List.setIfInBounds_toArray, List.set_cons_zero, List.set_cons_succ, i64_w, i32_w]
        rfl
      refine one_ (i := 7) (N := some 36) #[true, true, true, true, true, true, true, true, false, false, false, false] rfl rfl (by kernel_rfl) (by decide) (fun K hK => ?_)
      refine value_ (w1 := w4.alloc (.cells #[encH ⟨A4, l.length, c4⟩] 30)) (v := .slice (some ⟨w4.heap.size, 0, none⟩) 1 1) (by rfl) rfl (by first | (go_simp; done) | (go_simp; rfl)) ?_
      refine hK.out _ _ (pw_cell_below (below_alloc (Below.refl _ w4) _) HS4) (fun hHeld => ?_)
      clear hK K
      refine norm_ (a' := ?_) ?_ ?_
      rotate_left
      · show Act.put _ (some 36) _ = _
        simp only [Act.put, List.setIfInBounds_toArray, List.set_cons_zero, List.set_cons_succ, i64_w, i32_w]
        rfl
      refine one_ (i := 8) (N := some 37) #[true, true, true, true, true, true, true, true, true, false, false, false] rfl rfl (by kernel_rfl) (by decide) (fun K hK => ?_)
      refine Kd.Q_append_step kH (w0 := w4) B (by rfl) (.tmp 33) (.tmp 36) 44 30 (.slice none 0 0) 24 rfl Try.underlying44 info30 rfl (by decide) (by omega) (.slice A0 hq.length c0) hq ⟨A4, l.length, c4⟩ [encH ⟨A4, l.length, c4⟩] (fun k => some k = (Value.slice A0 hq.length c0).ownBlock ∨ w4.heap.size ≤ k) (fun _ => False) rfl rfl rfl (fun _ hk => hk.elim) (fun k hk => .inr hk) (Kd.Q_mono (Kd.Q_below HU.out.q HB4.out) (fun k hk => .inl hk)) (Below.refl _ _) (Nat.le_trans HBU.out HB4.out.size) (by have := HLN.out; omega) ?_
      intro v9 w9 hq9 _ hg9 hat9
      obtain ⟨A9, c9, rfl, _⟩ := Kd.Q_slice hq9
      have HEND := Aside0.mk (send_end HU.out HB4.out HBD.out HSU.out hq9 hg9 hat9)
      have hblk9 : w9.heap[p]? = some (.cells (cellsE σ (.slice A0 hq.length c0) vi b) 82 (0, 0)) := by
        rw [hg9.block p (by have := blk_lt HU.out.blk; have := HB4.out.size; omega) (fun e => LPx.nq HU.out e.symm), HB4.out.block p (blk_lt HU.out.blk), HU.out.blk]
      have HBLK := Aside0.mk hblk9
      clear hq9 hg9 hat9 HS4
      refine hK.out _ _ (blk_cell hblk9 1) (fun hHeld => ?_)
      clear hK K
      refine norm_ (a' := ?_) ?_ ?_
      rotate_left
      · show Act.put _ (some 37) _ = _
        simp only [Act.put, List.setIfInBounds_toArray, List.set_cons_zero, List.set_cons_succ, i64_w, i32_w]
        rfl
      refine pure_ (i := 9) (N := some 38) (v := ?_) (a' := ?_) #[true, true, true, true, true, true, true, true, true, true, false, false] rfl rfl (by kernel_rfl) (fun _ _ _ h => h) (Or.inl ⟨by rfl, ?_⟩) ?_ ?_
      rotate_left
      · intro w'
        go_simp
        try with_reducible rfl
      rotate_left
      · simp only [Act.put, List.setIfInBounds_toArray, List.set_cons_zero, List.set_cons_succ, i64_w, i32_w]
        rfl
      refine pure_ (i := 10) (N := some 39) (v := ?_) (a' := ?_) #[true, true, true, true, true, true, true, true, true, true, true, false] rfl rfl (by kernel_rfl) (fun _ _ _ h => h) (Or.inl ⟨by rfl, ?_⟩) ?_ ?_
      rotate_left
      · intro w'
        go_simp
        try with_reducible rfl
      rotate_left
      · simp only [Act.put, List.setIfInBounds_toArray, List.set_cons_zero, List.set_cons_succ, i64_w, i32_w]
        rfl
      have d1 : w9.cell? ⟨p, 1, none⟩ = some (.slice A0 hq.length c0) := blk_cell HBLK.out 1
      have g1 : w9.frozen? ⟨p, 1, none⟩ = false := blk_frozen HBLK.out 1
      refine last_ (i := 11) (N := none) #[true, true, true, true, true, true, true, true, true, true, true, true] rfl rfl (by kernel_rfl) (by decide) (fun K hK => ?_)
      refine skip_ (w1 := w9.setCell ⟨p, 1, none⟩ (.slice A9 (hq ++ [(⟨A4, l.length, c4⟩ : Hd)]).length c9)) (by rfl) rfl (by go_simp) ?_
      refine hK.out _ _ ?_
      clear hK K
      refine done_ (by kernel_rfl) ?_
      go_wp2_with fail
      go_ret
      rw [HRR.out]
      exact ⟨_, rfl, HEND.out.1, FrL.trans HFU.out HEND.out.2⟩
end Go.Proofs.Ytekakngojhnleaa.Lc
/- Links: In of the program walked. -/
namespace Go.Proofs.Ytekakngojhnleaa.Ld
open Go.RowKit Go.Maps Go.Proofs.Ytekakngojhnleaa.Mp Go.Proofs.Ytekakngojhnleaa.Mq Go.Proofs.Ytekakngojhnleaa.Lp Go.Proofs.Ytekakngojhnleaa.Lm Go.Proofs.Ytekakngojhnleaa.La Go.Proofs.Ytekakngojhnleaa.Lb Go.Proofs.Ytekakngojhnleaa.Lc Go.Proofs.Ytekakngojhnleaa.Dw Go.Proofs.YtekakngojhnleaaW.PrintWords Go.Proofs.YtekakngojhnleaaW.PrintLast Go.Proofs.YtekakngojhnleaaW.PrintMore
set_option linter.unusedVariables false
set_option linter.unusedSimpArgs false
variable {w : World} {B N p : Nat} {S : Nat → Prop} {σ : Lk}

/-- The numbers of a frame that is right. -/
theorem dec_nums (b : List Int) (h : (decA b).2 = 0) : 0 ≤ (decA b).1.2.1 ∧ (decA b).1.2.1 ≤ 1073741824 ∧ 0 ≤ (decA b).1.2.2.1 ∧ (decA b).1.2.2.1 ≤ 1073741824 := by
  unfold decA at h ⊢
  by_cases h1 : b.length < 5 ∨ 1 < rd b 0
  · rw [if_pos h1] at h; cases h
  · rw [if_neg h1] at h ⊢
    unfold De.decF at h ⊢
    split at h
    · rename_i h2
      rw [if_pos h2]
      obtain ⟨S, B, e1, e2, l1, l2, _⟩ := En.right_facts h2.2.2.2.2.2
      simp only [e1, e2]
      omega
    · cases h

/-- More is sure: the queue is cut. -/
theorem ack_end {b n s : Nat} {vq vi : Value} {hq hi : List Hd} {f : Int → Option Value} (h : LPx w B N S p σ b vq vi hq hi n s f) (a : Nat) (v' : Value) (hq' : kH.Q 30 w B (fun k => some k = vq.ownBlock) v' (hq.drop (a - σ.sure))) (ha : σ.sure ≤ a) :
    LPx ((w.setCell ⟨p, 1, none⟩ v').setCell ⟨p, 2, none⟩ (.int .i64 (a : Int))) B N S p { σ with sure := a } b v' vi (hq.drop (a - σ.sure)) hi n s f ∧ FrL B S S w ((w.setCell ⟨p, 1, none⟩ v').setCell ⟨p, 2, none⟩ (.int .i64 (a : Int))) := by
  have hown : ∀ k, v'.ownBlock = some k → vq.ownBlock = some k := fun k hk => (Kd.Q_ok hq' k hk).symm
  have hnp : v'.ownBlock ≠ some p := fun e => LPx.nq h (hown p e)
  have g0 := blk_put (blk_put h.blk 1 v' rfl) 2 (.int .i64 (a : Int)) rfl
  have k1 : Keep5 w (w.setCell ⟨p, 1, none⟩ v') := Keep5.set h.blk (by decide)
  have k2 : Keep5 (w.setCell ⟨p, 1, none⟩ v') ((w.setCell ⟨p, 1, none⟩ v').setCell ⟨p, 2, none⟩ (.int .i64 (a : Int))) := Keep5.set (blk_put h.blk 1 v' rfl) (by decide)
  have k5 := k1.trans k2
  have hqb := h.qb.drop (a - σ.sure)
  rw [List.drop_drop, show σ.sure + (a - σ.sure) = a by omega] at hqb
  have hfar : ∀ {v : Value} {xs : List Hd} {ok : Nat → Prop}, kH.Q 30 w B ok v xs → (∀ k, ok k → k ≠ p) → kH.Q 30 ((w.setCell ⟨p, 1, none⟩ v').setCell ⟨p, 2, none⟩ (.int .i64 (a : Int))) B ok v xs := fun hh hne => Kd.Q_far (Kd.Q_far hh (fun k hk => hne k hk) _) (fun k hk => hne k hk) _
  refine ⟨⟨g0, hfar (Kd.Q_tight rfl hq') (fun k hk e => hnp (by rw [← hk, e])), hqb.keep k5, hfar h.i (fun k hk e => LPx.ni h (by rw [← hk, e])), h.ib.keep k5, (h.m.far (by exact LPx.nb h) _).far (by exact LPx.nb h) _, h.mn, h.mf.keep k5, h.sp, h.sb, fun k hk => h.sq k (hown k hk), h.si, fun k hk => h.ap k (hown k hk), ?_, h.ge⟩, ?_⟩
  · intro k hk
    rw [World.size_setCell, World.size_setCell]
    exact h.lt k hk
  · exact FrL.trans (FrL.set (h.ge p h.sp) h.sp ⟨_, h.blk⟩ 1 v') (FrL.set (h.ge p h.sp) h.sp ⟨_, blk_put h.blk 1 v' rfl⟩ 2 _)

/-- A message ahead of its turn is held, or one is taken out: the map alone is turned. -/
theorem map_end {b n s : Nat} {vq vi : Value} {hq hi : List Hd} {f : Int → Option Value} (h : LPx w B N S p σ b vq vi hq hi n s f) {w' : World} {n' s' : Nat} (x : Int) (u : Option Value) (y : Option (List Int)) (hm : IntMap Try.prog 3 w' b n' (upd f x u) s') (hg : w.grownBy w' (some b)) {N' : Nat} (hn : n' ≤ N')
    (hu : match y with | none => u = none | some l => ∃ v, u = some v ∧ Bd w B v l) : LPx w' B N' S p { σ with hold := setH σ.hold x y } b vq vi hq hi n' s' (upd f x u) ∧ FrL B S S w w' := by
  have hbc : ∀ k cs t, w.heap[k]? = some (Obj.cells cs t (0, 0)) → k ≠ b := fun k cs t hk e => h.m.ne_cells hk e.symm
  have k5 : Keep5 w w' := Keep5.grown hg (fun k hk cs hc => by cases hk; exact hbc _ cs 5 hc rfl)
  have hq' : kH.Q 30 w' B (fun k => some k = vq.ownBlock) vq hq := Kd.Q_grown h.q hg (fun k hk e => by obtain ⟨cs, hc⟩ := Kd.Q_typed h.q k hk.symm; cases e; exact hbc _ cs 30 hc rfl)
  have hi' : kH.Q 30 w' B (fun k => some k = vi.ownBlock) vi hi := Kd.Q_grown h.i hg (fun k hk e => by obtain ⟨cs, hc⟩ := Kd.Q_typed h.i k hk.symm; cases e; exact hbc _ cs 30 hc rfl)
  refine ⟨⟨(hg.block p (blk_lt h.blk) (fun e => hbc p _ 82 h.blk (Option.some.inj e))).trans h.blk, hq', h.qb.keep k5, hi', h.ib.keep k5, hm, hn, ?_, h.sp, h.sb, h.sq, h.si, h.ap, fun k hk => Nat.lt_of_lt_of_le (h.lt k hk) hg.size, h.ge⟩, ?_⟩
  · have h1 : Held w B (upd f x u) (setH σ.hold x y) := by
      intro z hz
      unfold Mp.upd setH
      by_cases e : z = x
      · simp only [e, if_pos]; exact hu
      · simp only [e, if_neg, if_false]; exact h.mf z hz
    exact h1.keep k5
  · have hB : B ≤ w.heap.size := by have := h.ge p h.sp; have := blk_lt h.blk; omega
    exact ⟨pw_below_grown (Below.refl B w) _ hB hg (fun k hk => by cases hk; exact h.ge b h.sb), Kept.of_grown hg (Kept.refl w S) (fun k hk => by cases hk; exact .inl h.sb), k5, fun _ hk => .inl hk⟩

/-- One more has come in its turn. -/
theorem got_end {b n s : Nat} {vq vi : Value} {hq hi : List Hd} {f : Int → Option Value} (h : LPx w B N S p σ b vq vi hq hi n s f) {w9 : World} {v9 : Value} {x : Hd} {l : List Int} (hx : Bd w B (encH x) l) (ht : σ.told ≤ σ.all.length)
    (hi9 : kH.Q 30 w9 B (fun k => some k = vi.ownBlock ∨ w.heap.size ≤ k) v9 (hi ++ [x])) (hg : w.grownBy w9 vi.ownBlock) (hat : v9.ownBlock = vi.ownBlock ∨ ∃ k, v9.ownBlock = some k ∧ w.heap.size ≤ k) :
    LPx ((w9.setCell ⟨p, 4, none⟩ v9).setCell ⟨p, 5, none⟩ (.int .i64 ((σ.all.length + 1 : Nat) : Int))) B N (fun k => S k ∨ v9.ownBlock = some k) p { σ with all := σ.all ++ [l] } b vq v9 hq (hi ++ [x]) n s f ∧
      FrL B S (fun k => S k ∨ v9.ownBlock = some k) w ((w9.setCell ⟨p, 4, none⟩ v9).setCell ⟨p, 5, none⟩ (.int .i64 ((σ.all.length + 1 : Nat) : Int))) := by
  have k09 : Keep5 w w9 := Keep5.grown hg (fun k hk cs hc => by
    obtain ⟨cs', hc'⟩ := Kd.Q_typed h.i k hk
    rw [hc] at hc'
    cases hc')
  have hblk : w9.heap[p]? = some (.cells (cellsE σ vq vi b) 82 (0, 0)) := (hg.block p (blk_lt h.blk) (fun e => LPx.ni h e.symm)).trans h.blk
  have hblk2 := blk_put hblk 4 v9 rfl
  have k1 : Keep5 w9 (w9.setCell ⟨p, 4, none⟩ v9) := Keep5.set hblk (by decide)
  have k2 : Keep5 (w9.setCell ⟨p, 4, none⟩ v9) ((w9.setCell ⟨p, 4, none⟩ v9).setCell ⟨p, 5, none⟩ (.int .i64 ((σ.all.length + 1 : Nat) : Int))) := Keep5.set hblk2 (by decide)
  have kset := k1.trans k2
  have hn9 : v9.ownBlock ≠ some p := fun e => by
    rcases hat with h1 | ⟨k, h1, h2⟩
    · exact LPx.ni h (by rw [← h1, e])
    · rw [h1] at e; cases e; have := blk_lt h.blk; omega
  have hq9 : kH.Q 30 w9 B (fun k => some k = vq.ownBlock) vq hq := Kd.Q_grown h.q hg (fun k hk e => h.ap k hk.symm e.symm)
  have hm9 : IntMap Try.prog 3 w9 b n f s := h.m.kept hg (fun e => by
    obtain ⟨cs, hc⟩ := Kd.Q_typed h.i b e.symm
    exact h.m.ne_cells hc rfl)
  have hlt9 : ∀ k, v9.ownBlock = some k → k < w9.heap.size := fun k hk => by obtain ⟨cs, hc⟩ := Kd.Q_typed hi9 k hk; exact blk_lt hc
  have hfar : ∀ {v : Value} {xs : List Hd} {ok : Nat → Prop}, kH.Q 30 w9 B ok v xs → (∀ k, ok k → k ≠ p) → kH.Q 30 ((w9.setCell ⟨p, 4, none⟩ v9).setCell ⟨p, 5, none⟩ (.int .i64 ((σ.all.length + 1 : Nat) : Int))) B ok v xs := fun hh hne => Kd.Q_far (Kd.Q_far hh (fun k hk => hne k hk) _) (fun k hk => hne k hk) _
  refine ⟨⟨?_, hfar hq9 (fun k hk e => LPx.nq h (by rw [← hk, e])), (h.qb.keep k09).keep kset, hfar (Kd.Q_tight rfl hi9) (fun k hk e => hn9 (by rw [← hk, e])), ?_, (hm9.far (by exact LPx.nb h) _).far (by exact LPx.nb h) _, h.mn, (h.mf.keep k09).keep kset, .inl h.sp, .inl h.sb, fun k hk => .inl (h.sq k hk), fun k hk => .inr hk, ?_, ?_, ?_⟩, ?_, ?_, ?_, ?_⟩
  · rw [blk_put hblk2 5 _ rfl]
    show some (Obj.cells _ 82) = some (Obj.cells (cellsE { σ with all := σ.all ++ [l] } vq v9 b) 82)
    unfold cellsE
    simp
  · have e1 : (σ.all ++ [l]).drop σ.told = σ.all.drop σ.told ++ [l] := by rw [List.drop_append_of_le_length ht]
    show Bods _ B (hi ++ [x]) ((σ.all ++ [l]).drop σ.told)
    rw [e1]
    exact (((h.ib.keep k09).snoc (hx.keep k09))).keep kset
  · intro k hk e
    rcases hat with h1 | ⟨k', h1, h2⟩
    · exact h.ap k hk (by rw [← h1]; exact e)
    · rw [h1] at e; cases e
      have := h.lt k (h.sq k hk)
      omega
  · intro k hk
    rw [World.size_setCell, World.size_setCell]
    rcases hk with hk | hk
    · exact Nat.lt_of_lt_of_le (h.lt k hk) hg.size
    · exact hlt9 k hk
  · intro k hk
    rcases hk with hk | hk
    · exact h.ge k hk
    · exact Kd.Q_base hi9 k hk
  · have hB : B ≤ w.heap.size := by have := h.ge p h.sp; have := blk_lt h.blk; omega
    exact ((pw_below_grown (Below.refl B w) _ hB hg (fun k hk => h.ge k (h.si k hk))).setCell (h.ge p h.sp) _).setCell (h.ge p h.sp) _
  · exact ((Kept.of_grown hg (Kept.refl w S) (fun k hk => .inl (h.si k hk))).setCell (.inl h.sp) _).setCell (.inl h.sp) _
  · exact k09.trans kset
  · intro k hk
    rcases hk with hk | hk
    · exact .inl hk
    · rcases hat with h1 | ⟨k', h1, h2⟩
      · exact .inl (h.si k (by rw [← h1]; exact hk))
      · rw [h1] at hk; cases hk; exact .inr h2

set_option maxRecDepth 100000 in
set_option maxHeartbeats 1000000 in
theorem in_no (h : LP w B N S p σ) (A : Option Addr) (c : Nat) (l : List Int) (hr : Kd.C (Kd.int .u8) w A l.length l) (hc : l.length ≤ c) (hl : l.length ≤ 140737488351232) (hb : ∀ x ∈ l, 0 ≤ x ∧ x < 256) (hE : (decA l).2 ≠ 0 ∨ (decA l).1.2.2.1 > (σ.sent : Int)) :
    Calls Try.prog 22 #[.pointer (some ⟨p, 0, none⟩), .slice A l.length c] w fun e w' => e = .returned (.int .i64 14) ∧ Below w.heap.size w w' := by
  obtain ⟨F, E, hd⟩ : ∃ F E, decA l = (F, E) := ⟨_, _, rfl⟩
  rw [hd] at hE
  obtain ⟨b, vq, vi, hq, hi, n, s, f, hx⟩ := h
  have H := Aside0.mk hx
  have HR := Aside0.mk hr
  have HB := Aside0.mk hb
  have HD := Aside0.mk hd
  clear hx hr hb hd
  go_enter Try.func22, Try.ntmps22
  go_wp2_with fail
  refine (decode_calls A c l _ HR.out hc hl HB.out F E HD.out).mono ?_
  rintro e w1 ⟨V, rfl, ho, hb1⟩
  obtain ⟨A1, c1, rfl⟩ := Kd.R_slice ho
  have HB1 := Aside0.mk hb1
  have hbl1 := blk_below H.out.blk hb1
  have d3 : (w1.alloc (.cells #[.bool F.1, .int .i64 F.2.1, .int .i64 F.2.2.1, .slice A1 F.2.2.2.length c1] 53)).cell? ⟨p, 3, none⟩ = some (.int .i64 (σ.sent : Int)) := blk_cell (blk_below hbl1 (below_alloc (Below.refl _ w1) _)) 3
  have x2 : (w1.alloc (.cells #[.bool F.1, .int .i64 F.2.1, .int .i64 F.2.2.1, .slice A1 F.2.2.2.length c1] 53)).cell? ⟨w1.heap.size, 2, none⟩ = some (.int .i64 F.2.2.1) := blk_cell (blk_new w1 _) 2
  clear ho hb1 hbl1
  by_cases hE0 : E = 0
  · subst hE0
    have hgt : (σ.sent : Int) < F.2.2.1 := by rcases hE with h | h; exact absurd rfl h; exact h
    clear hE
    go_wp2_with fail
    go_region
    all_goals go_wp2_with fail
    all_goals go_ret
    all_goals exact ⟨rfl, HB1.out.trans ((below_drew (below_alloc (Below.refl _ w1) _)).mono HB1.out.size)⟩
  · have hE1 : (E != 0) = true := by rw [bne_iff_ne]; exact hE0
    clear hE hE0
    go_wp2_with fail
    go_region
    all_goals go_wp2_with fail
    all_goals go_ret
    all_goals exact ⟨rfl, HB1.out.trans ((below_drew (below_alloc (Below.refl _ w1) _)).mono HB1.out.size)⟩
end Go.Proofs.Ytekakngojhnleaa.Ld
