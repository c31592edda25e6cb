/- Parts of the proof of LinkScripts, merged: each is proved for all its inputs. -/
import Derived.Test.YtekakngojhnleaaMgLinkScriptsi
import Derived.Test.YtekakngojhnleaaMgLinkScriptse
import Derived.Deep.CutBlock
/- Links: data and Out of the document walked. -/
namespace Go.Proofs.Ytekakngojhnleaa.Xd
open Go.RowKit Go.Maps Go.Proofs.Ytekakngojhnleaa.Fns Go.Proofs.Ytekakngojhnleaa.En Go.Proofs.Ytekakngojhnleaa.Lp Go.Proofs.Ytekakngojhnleaa.Lm Go.Proofs.Ytekakngojhnleaa.La Go.Proofs.Ytekakngojhnleaa.Lb Go.Proofs.Ytekakngojhnleaa.Lc Go.Proofs.Ytekakngojhnleaa.Ld Go.Proofs.Ytekakngojhnleaa.Le Go.Proofs.Ytekakngojhnleaa.Xa Go.Proofs.Ytekakngojhnleaa.Xb Go.Proofs.Ytekakngojhnleaa.Xc Go.Proofs.YtekakngojhnleaaW.PrintWords Go.Proofs.YtekakngojhnleaaW.PrintLast Go.Proofs.YtekakngojhnleaaW.PrintMore
set_option linter.unusedVariables false
set_option linter.unusedSimpArgs false
variable {w w' : World} {B N p : Nat} {S : Nat → Prop} {σ : Lk}

set_option maxRecDepth 100000 in
set_option maxHeartbeats 1000000 in
theorem data_calls {vt va vh : Value} (hx : DPx w B N S p σ vt va vh) (hM : σ.took.length ≤ 1000000) (hA : σ.all.length ≤ 1000000) (hok : ∀ l ∈ σ.took, okB l) (k : Nat) (hk : k < σ.took.length) :
    Calls Try.prog 71 #[.pointer (some ⟨p, 0, none⟩), .int .i64 (k : Int)] w fun e w' => ∃ v, e = .returned v ∧ (Kd.int .u8).R 5 w' w.heap.size (fun _ => True) v (fData σ k) ∧ Below w.heap.size w w' := by
  obtain ⟨ht, hrt, hbt⟩ := hx.t
  obtain ⟨ha, hra, hba⟩ := hx.a
  obtain ⟨A2, c2, rfl⟩ := Kd.R_slice hra
  obtain ⟨A0, c0, rfl, hcap, hcr⟩ := Kd.R_reads hrt
  have hkt : k < ht.length := by have := hbt.1; omega
  obtain ⟨ad, rfl, hc0⟩ := at_H hcr (k : Int) (by omega) (by omega)
  rw [Int.toNat_natCast] at hc0
  obtain ⟨l, hl⟩ : ∃ l, l = σ.took[k] := ⟨_, rfl⟩
  have hbd : Bd w B (encH (rdH ht (k : Int))) l := hbt.2 k _ _ (by unfold rdH; rw [Int.toNat_natCast, List.getD_eq_getElem?_getD, List.getElem?_eq_getElem hkt, Option.getD_some]) (by rw [List.getElem?_eq_getElem hk, hl])
  obtain ⟨y, hy⟩ : ∃ y, y = rdH ht (k : Int) := ⟨_, rfl⟩
  rw [← hy] at hc0 hbd
  obtain ⟨a0, m0, k0⟩ := y
  obtain ⟨hml, hmc, hCC⟩ := Kd.R_reads' hbd
  change m0 = l.length at hml
  subst hml
  unfold encH at hc0
  obtain ⟨hl1, hl2⟩ := hok l (by rw [hl]; exact List.getElem_mem hk)
  have hen : windbreakref10_Encode.f _ true (k : Int) (σ.all.length : Int) l = some (frameL true k σ.all.length l, 0) := refencode_is true k σ.all.length l (by omega) (by omega) hl1 hl2 (Pq.right_of true k σ.all.length l (by omega) hA hl1 (fun h => by cases h))
  obtain ⟨F, hF⟩ : ∃ F, F = fData σ k := ⟨_, rfl⟩
  have hFe : frameL true k σ.all.length l = F := by rw [hF]; unfold fData; rw [hl, List.getD_eq_getElem?_getD, List.getElem?_eq_getElem hk, Option.getD_some]
  rw [hFe] at hen
  rw [← hF]
  obtain ⟨n2, hn2⟩ : ∃ n2, n2 = ha.length := ⟨_, rfl⟩
  rw [show σ.all.length = n2 by rw [hn2]; exact hba.1.symm] at hen
  obtain ⟨n0, hn0⟩ : ∃ n0, n0 = ht.length := ⟨_, rfl⟩
  rw [← hn0, ← hn2] at hx
  have hlt : (k : Int) < (n0 : Int) := by omega
  have h0k : (0 : Int) ≤ (k : Int) := by omega
  have c4 : w.cell? ⟨p, 4, none⟩ = some (.slice A2 n2 c2) := blk_cell hx.blk 4
  have c1 : w.cell? ⟨p, 1, none⟩ = some (.slice (some ad) n0 c0) := blk_cell hx.blk 1
  have HSU := Aside0.mk (show w.drew.cell? ⟨p, 4, none⟩ = some (.slice A2 n2 c2) ∧ w.drew.cell? ⟨p, 1, none⟩ = some (.slice (some ad) n0 c0) ∧ w.drew.cell? (ad.add k) = some (.slice a0 l.length k0) from ⟨c4, c1, hc0⟩)
  have HEN := Aside0.mk hen
  have HC := Aside0.mk hCC
  have HK0 := Aside0.mk (show l.length ≤ k0 from hmc)
  clear hx hrt hbt hra hba hcr hcap hkt hbd hy hmc hl1 hl2 hen hF hFe hl hn2 hn0 hk hM hA hok c4 c1 hCC hc0
  go_enter Try.func71, Try.ntmps71
  go_wp2_with fail
  have HS0 := HSU.out
  refine start_ (n := 20) (S := fun w' => w'.cell? ⟨p, 4, none⟩ = some (.slice A2 n2 c2) ∧ w'.cell? ⟨p, 1, none⟩ = some (.slice (some ad) n0 c0) ∧ w'.cell? (ad.add k) = some (.slice a0 l.length k0)) (ds := []) #[false, false, false, false, false, false, false, false, false, false, false, false, false, false, false, false, false, false, false, false] (by kernel_rfl) rfl rfl HS0 (fun hHeld => ?_)
  refine pure_ (i := 0) (N := some 8) (v := ?_) (a' := ?_) #[true, false, false, false, false, false, false, false, false, false, false, false, false, false, false, false, false, false, false, false] rfl rfl (by kernel_rfl) (fun _ _ _ h => h) (Or.inl ⟨by rfl, ?_⟩) ?_ ?_
  rotate_left
  · intro w'
    go_simp
    try with_reducible rfl
  rotate_left
  · simp only [Act.put, List.setIfInBounds_toArray, List.set_cons_zero, List.set_cons_succ, i64_w, i32_w]
    rfl
  refine pure_ (i := 1) (N := some 9) (v := ?_) (a' := ?_) #[true, true, false, false, false, false, false, false, false, false, false, false, false, false, false, false, false, false, false, false] rfl rfl (by kernel_rfl) (fun _ _ _ h => h) (Or.inl ⟨by rfl, ?_⟩) ?_ ?_
  rotate_left
  · intro w'
    go_simp
    try with_reducible rfl
  rotate_left
  · simp only [Act.put, List.setIfInBounds_toArray, List.set_cons_zero, List.set_cons_succ, i64_w, i32_w]
    rfl
  refine pure_ (i := 2) (N := some 10) (v := ?_) (a' := ?_) #[true, true, true, false, false, false, false, false, false, false, false, false, false, false, false, false, false, false, false, false] rfl rfl (by kernel_rfl) (fun _ _ _ h => h) (Or.inl ⟨by rfl, ?_⟩) ?_ ?_
  rotate_left
  · intro w'
    go_simp
    try with_reducible rfl
  rotate_left
  · simp only [Act.put, List.setIfInBounds_toArray, List.set_cons_zero, List.set_cons_succ, i64_w, i32_w]
    rfl
  refine pure_ (i := 3) (N := some 11) (v := ?_) (a' := ?_) #[true, true, true, true, false, false, false, false, false, false, false, false, false, false, false, false, false, false, false, false] rfl rfl (by kernel_rfl) (fun _ _ _ h => h) (Or.inl ⟨by rfl, ?_⟩) ?_ ?_
  rotate_left
  · intro w'
    go_simp
    try with_reducible rfl
  rotate_left
  · simp only [Act.put, List.setIfInBounds_toArray, List.set_cons_zero, List.set_cons_succ, i64_w, i32_w]
    rfl
  refine pure_ (i := 6) (N := some 14) (v := ?_) (a' := ?_) #[true, true, true, true, false, false, true, false, false, false, false, false, false, false, false, false, false, false, false, false] rfl rfl (by kernel_rfl) (fun _ _ _ h => h) (Or.inl ⟨by rfl, ?_⟩) ?_ ?_
  rotate_left
  · intro w'
    go_simp
    try with_reducible rfl
  rotate_left
  · simp only [Act.put, List.setIfInBounds_toArray, List.set_cons_zero, List.set_cons_succ, i64_w, i32_w]
    rfl
  refine pure_ (i := 7) (N := some 15) (v := ?_) (a' := ?_) #[true, true, true, true, false, false, true, true, false, false, false, false, false, false, false, false, false, false, false, false] rfl rfl (by kernel_rfl) (fun _ _ _ h => h) (Or.inl ⟨by rfl, ?_⟩) ?_ ?_
  rotate_left
  · intro w'
    go_simp
    try with_reducible rfl
  rotate_left
  · simp only [Act.put, List.setIfInBounds_toArray, List.set_cons_zero, List.set_cons_succ, i64_w, i32_w]
    rfl
  refine pure_ (i := 8) (N := some 16) (v := ?_) (a' := ?_) #[true, true, true, true, false, false, true, true, true, false, false, false, false, false, false, false, false, false, false, false] rfl rfl (by kernel_rfl) (fun _ _ _ h => h) (Or.inl ⟨by rfl, ?_⟩) ?_ ?_
  rotate_left
  · intro w'
    go_simp
    try with_reducible rfl
  rotate_left
  · simp only [Act.put, List.setIfInBounds_toArray, List.set_cons_zero, List.set_cons_succ, i64_w, i32_w]
    rfl
  refine pure_ (i := 10) (N := some 18) (v := ?_) (a' := ?_) #[true, true, true, true, false, false, true, true, true, false, true, false, false, false, false, false, false, false, false, false] rfl rfl (by kernel_rfl) (fun _ _ _ h => h) (Or.inl ⟨by rfl, ?_⟩) ?_ ?_
  rotate_left
  · intro w'
    go_simp
    try with_reducible rfl
  rotate_left
  · simp only [Act.put, List.setIfInBounds_toArray, List.set_cons_zero, List.set_cons_succ, i64_w, i32_w]
    rfl
  refine take_ (i := 4) (N := some 12) (v := ?_) (a' := ?_) #[true, true, true, true, true, false, true, true, true, false, true, false, false, false, false, false, false, false, false, false] rfl rfl (by kernel_rfl) (fun _ _ _ h => h) (Or.inl ⟨by rfl, ?_⟩) hHeld ?_ ?_
  rotate_left
  · rintro w' ⟨q1, q2, q3⟩
    go_simp
    try with_reducible rfl
  rotate_left
  · simp only [Act.put, List.setIfInBounds_toArray, List.set_cons_zero, List.set_cons_succ, i64_w, i32_w]
    rfl
  refine take_ (i := 9) (N := some 17) (v := ?_) (a' := ?_) #[true, true, true, true, true, false, true, true, true, true, true, false, false, false, false, false, false, false, false, false] rfl rfl (by kernel_rfl) (fun _ _ _ h => h) (Or.inl ⟨by rfl, ?_⟩) hHeld ?_ ?_
  rotate_left
  · rintro w' ⟨q1, q2, q3⟩
    go_simp
    try with_reducible rfl
  rotate_left
  · simp only [Act.put, List.setIfInBounds_toArray, List.set_cons_zero, List.set_cons_succ, i64_w, i32_w]
    rfl
  refine pure_ (i := 5) (N := some 13) (v := ?_) (a' := ?_) #[true, true, true, true, true, true, true, true, true, true, true, false, false, false, false, false, false, false, false, false] rfl rfl (by kernel_rfl) (fun _ _ _ h => h) (Or.inl ⟨by rfl, ?_⟩) ?_ ?_
  rotate_left
  · intro w'
    go_simp
    try with_reducible rfl
  rotate_left
  · simp only [Act.put, List.setIfInBounds_toArray, List.set_cons_zero, List.set_cons_succ, i64_w, i32_w]
    rfl
  refine pure_ (i := 11) (N := some 19) (v := ?_) (a' := ?_) #[true, true, true, true, true, true, true, true, true, true, true, true, false, false, false, false, false, false, false, false] rfl rfl (by kernel_rfl) (fun _ _ _ h => h) (Or.inl ⟨by rfl, ?_⟩) ?_ ?_
  rotate_left
  · intro w'
    go_simp
    try with_reducible rfl
  rotate_left
  · simp only [Act.put, List.setIfInBounds_toArray, List.set_cons_zero, List.set_cons_succ, i64_w, i32_w]
    rfl
  refine take_ (i := 12) (N := some 20) (v := ?_) (a' := ?_) #[true, true, true, true, true, true, true, true, true, true, true, true, true, false, false, false, false, false, false, false] rfl rfl (by kernel_rfl) (fun _ _ _ h => h) (Or.inl ⟨by rfl, ?_⟩) hHeld ?_ ?_
  rotate_left
  · rintro w' ⟨q1, q2, q3⟩
    go_simp
    try with_reducible rfl
  rotate_left
  · simp only [Act.put, List.setIfInBounds_toArray, List.set_cons_zero, List.set_cons_succ, i64_w, i32_w]
    rfl
  refine pure_ (i := 13) (N := some 21) (v := ?_) (a' := ?_) #[true, true, true, true, true, true, true, true, true, true, true, true, true, true, false, false, false, false, false, false] rfl rfl (by kernel_rfl) (fun _ _ _ h => h) (Or.inl ⟨by rfl, ?_⟩) ?_ ?_
  rotate_left
  · intro w'
    go_simp
    try with_reducible rfl
  rotate_left
  · simp only [Act.put, List.setIfInBounds_toArray, List.set_cons_zero, List.set_cons_succ, i64_w, i32_w]
    rfl
  refine one_ (i := 14) (N := some 22) #[true, true, true, true, true, true, true, true, true, true, true, true, true, true, true, false, false, false, false, false] rfl rfl (by kernel_rfl) (by decide) (fun K hK => ?_)
  refine goes_ Try.func27 (by kernel_rfl) rfl #[.agg #[.bool true, .int .i64 (k : Int), .int .i64 (n2 : Int), .slice a0 l.length k0]] (by rfl) rfl rfl (by first | rfl | (simp [Act.eval]; done) | kernel_rfl) ?_
  refine (windbreakref10_Encode.calls _ true (k : Int) (n2 : Int) a0 k0 l F 0 _ (Kd.C_drew HC.out) HK0.out HEN.out).mono ?_
  rintro e w4 ⟨v, rfl, ho4, hb4⟩
  have HO4 := Aside0.mk ho4
  have HB4 := Aside0.mk ((below_drew (Below.refl w.heap.size w)).trans hb4)
  have HS4 := And.intro (pw_cell_below hb4 HSU.out.1) (And.intro (pw_cell_below hb4 HSU.out.2.1) (pw_cell_below hb4 HSU.out.2.2))
  clear ho4 hb4
  refine ⟨_, rfl, ?_⟩
  refine hK.out _ _ HS4 (fun hHeld => ?_)
  clear hK K
  refine norm_ (a' := ?_) ?_ ?_
  rotate_left
  · show Act.put _ (some 22) _ = _
    simp only [Act.put, List.setIfInBounds_toArray, List.set_cons_zero, List.set_cons_succ, i64_w, i32_w]
    rfl
  refine pure_ (i := 15) (N := some 7) (v := ?_) (a' := ?_) #[true, true, true, true, true, true, true, true, true, true, true, true, true, true, true, true, false, false, false, false] rfl rfl (by kernel_rfl) (fun _ _ _ h => h) (Or.inl ⟨by rfl, ?_⟩) ?_ ?_
  rotate_left
  · intro w'
    go_simp
    try with_reducible rfl
  rotate_left
  · simp only [Act.put, List.setIfInBounds_toArray, List.set_cons_zero, List.set_cons_succ, i64_w, i32_w]
    rfl
  refine pure_ (i := 16) (N := some 23) (v := ?_) (a' := ?_) #[true, true, true, true, true, true, true, true, true, true, true, true, true, true, true, true, true, false, false, false] rfl rfl (by kernel_rfl) (fun _ _ _ h => h) (Or.inl ⟨by rfl, ?_⟩) ?_ ?_
  rotate_left
  · intro w'
    go_simp
    try with_reducible rfl
  rotate_left
  · simp only [Act.put, List.setIfInBounds_toArray, List.set_cons_zero, List.set_cons_succ, i64_w, i32_w]
    rfl
  refine pure_ (i := 17) (N := some 24) (v := ?_) (a' := ?_) #[true, true, true, true, true, true, true, true, true, true, true, true, true, true, true, true, true, true, false, false] rfl rfl (by kernel_rfl) (fun _ _ _ h => h) (Or.inl ⟨by rfl, ?_⟩) ?_ ?_
  rotate_left
  · intro w'
    go_simp
    try with_reducible rfl
  rotate_left
  · simp only [Act.put, List.setIfInBounds_toArray, List.set_cons_zero, List.set_cons_succ, i64_w, i32_w]
    rfl
  refine pure_ (i := 18) (N := some 5) (v := ?_) (a' := ?_) #[true, true, true, true, true, true, true, true, true, true, true, true, true, true, true, true, true, true, true, false] rfl rfl (by kernel_rfl) (fun _ _ _ h => h) (Or.inl ⟨by rfl, ?_⟩) ?_ ?_
  rotate_left
  · intro w'
    go_simp
    try with_reducible rfl
  rotate_left
  · simp only [Act.put, List.setIfInBounds_toArray, List.set_cons_zero, List.set_cons_succ, i64_w, i32_w]
    rfl
  refine pure_ (i := 19) (N := some 6) (v := ?_) (a' := ?_) #[true, true, true, true, true, true, true, true, true, true, true, true, true, true, true, true, true, true, true, true] rfl rfl (by kernel_rfl) (fun _ _ _ h => h) (Or.inl ⟨by rfl, ?_⟩) ?_ ?_
  rotate_left
  · intro w'
    go_simp
    try with_reducible rfl
  rotate_left
  · simp only [Act.put, List.setIfInBounds_toArray, List.set_cons_zero, List.set_cons_succ, i64_w, i32_w]
    rfl
  refine done_ (by kernel_rfl) ?_
  go_wp2_with fail
  go_ret
  exact ⟨_, rfl, HO4.out, HB4.out⟩
/-- What stands while frames go out: the end, the row of frames. -/
structure OR (w wr : World) (B N : Nat) (S : Nat → Prop) (p : Nat) (σ : Lk) (vt va vh : Value) (D : List Nat) (sv : Nat) (v : Value) (hs : List Hd) : Prop where
  dp : DPx wr B N S p { σ with sent := sv } vt va vh
  fr : FrL B S S w wr
  q : kH.R 30 wr w.heap.size (fun k => some k = v.ownBlock) v hs
  b : Bods wr w.heap.size hs (D.map (fData σ))
  lt : ∀ k, S k → k < w.heap.size
section
variable {wr w1 w9 : World} {vt va vh v v9 : Value} {D : List Nat} {sv : Nat} {hs : List Hd}
theorem OR.below (h : OR w wr B N S p σ vt va vh D sv v hs) (hb : Below wr.heap.size wr w1) : OR w w1 B N S p σ vt va vh D sv v hs :=
  ⟨h.dp.below hb, FrL.trans h.fr (h.dp.fr hb), Kd.R_below h.q hb, h.b.keep (Keep5.below hb), h.lt⟩
/-- The frames have grown by one. -/
theorem OR.frame (h : OR w wr B N S p σ vt va vh D sv v hs) {x : Hd} {l : List Int} {ls : List (List Int)} (hb : Bods wr w.heap.size hs ls) (hx : Bd wr w.heap.size (encH x) l) (hq9 : kH.R 30 w9 w.heap.size (fun k => some k = v.ownBlock ∨ wr.heap.size ≤ k) v9 (hs ++ [x])) (hg : wr.grownBy w9 v.ownBlock) :
    DPx w9 B N S p { σ with sent := sv } vt va vh ∧ FrL B S S w w9 ∧ kH.R 30 w9 w.heap.size (fun k => some k = v9.ownBlock) v9 (hs ++ [x]) ∧ Bods w9 w.heap.size (hs ++ [x]) (ls ++ [l]) := by
  have hbase : ∀ k, v.ownBlock = some k → w.heap.size ≤ k := fun k hk => Kd.R_base h.q k hk
  have hsw : w.heap.size ≤ wr.heap.size := h.fr.b.size
  have k5 : Keep5 wr w9 := Keep5.grown hg (fun k hk cs hc => by obtain ⟨cs', hc'⟩ := Kd.R_typed h.q k hk; rw [hc] at hc'; cases hc')
  have hBw : B ≤ w.heap.size := by have := h.dp.ge p h.dp.sp; have := h.lt p h.dp.sp; omega
  have hd : DPx w9 B N S p { σ with sent := sv } vt va vh := h.dp.step (fun k hk => hg.block k (h.dp.lt k hk) (fun e => by have := hbase k e.symm; have := h.lt k hk; omega)) hg.size k5
  exact ⟨hd, ⟨h.fr.b.trans (pw_below_grown (Below.refl B wr) _ h.dp.bsz hg (fun k hk => Nat.le_trans hBw (hbase k hk))), Kept.of_grown hg h.fr.k (fun k hk => .inr (hbase k hk)), h.fr.k5.trans k5, fun k hk => .inl hk⟩, Kd.R_tight rfl hq9, (hb.keep k5).snoc (hx.keep k5)⟩
theorem OR.more (h : OR w wr B N S p σ vt va vh D sv v hs) {k : Nat} {x : Hd} (hx : Bd wr w.heap.size (encH x) (fData σ k)) (hq9 : kH.R 30 w9 w.heap.size (fun k => some k = v.ownBlock ∨ wr.heap.size ≤ k) v9 (hs ++ [x])) (hg : wr.grownBy w9 v.ownBlock) :
    OR w w9 B N S p σ vt va vh (D ++ [k]) sv v9 (hs ++ [x]) := by
  obtain ⟨e1, e2, e3, e4⟩ := h.frame h.b hx hq9 hg
  exact ⟨e1, e2, e3, by rw [List.map_append]; exact e4, h.lt⟩
theorem OR.count (h : OR w wr B N S p σ vt va vh D sv v hs) (sw : Nat) : OR w (wr.setCell ⟨p, 3, none⟩ (.int .i64 (sw : Int))) B N S p σ vt va vh D sw v hs := by
  obtain ⟨e1, e2⟩ := DPx.put h.dp 3 (.int .i64 (sw : Int)) { σ with sent := sw } (by unfold cellsD; simp) rfl rfl rfl
  have hne : ∀ k, v.ownBlock = some k → k ≠ p := fun k hk e => by have := Kd.R_base h.q k hk; have := h.lt p h.dp.sp; omega
  exact ⟨e1, FrL.trans h.fr e2, Kd.R_far h.q (fun k hk e => hne k hk.symm e) _, h.b.keep e2.k5, h.lt⟩
theorem OR.start (h : DPx w B N S p σ vt va vh) : OR w w B N S p σ vt va vh [] σ.sent (.slice none 0 0) [] :=
  ⟨h, FrL.refl _ _ _, Kd.R_nil _ _ _ _ _, Bods.nil _ _, h.lt⟩
theorem OR.len (h : OR w wr B N S p σ vt va vh D sv v hs) : hs.length = D.length := by rw [h.b.1, List.length_map]
/-- What is left of an end when its frames are out. -/
structure OutE (w w' : World) (B N : Nat) (S : Nat → Prop) (p : Nat) (σ : Lk) (v : Value) (fs : List (List Int)) (τ : Lk) : Prop where
  o : ∃ hs, kH.R 30 w' w.heap.size (fun k => some k = v.ownBlock) v hs ∧ Bods w' w.heap.size hs fs
  dp : DP w' B N S p τ
  fr : FrL B S S w w'
theorem out_done {fs : List (List Int)} (hd : DPx wr B N S p { σ with sent := sv } vt va vh) (hf : FrL B S S w wr) (hq : kH.R 30 wr w.heap.size (fun k => some k = v.ownBlock) v hs) (hb : Bods wr w.heap.size hs fs) (hl : ∀ k, S k → k < w.heap.size) :
    OutE w ((wr.setCell ⟨p, 7, none⟩ (.bool false)).setCell ⟨p, 8, none⟩ (.bool false)) B N S p σ v fs { σ with sent := sv, owes := false, tick := false } := by
  obtain ⟨e1, e2⟩ := DPx.put hd 7 (.bool false) { σ with sent := sv, owes := false } (by unfold cellsD; simp) rfl rfl rfl
  obtain ⟨e3, e4⟩ := DPx.put e1 8 (.bool false) { σ with sent := sv, owes := false, tick := false } (by unfold cellsD; simp) rfl rfl rfl
  have hne : ∀ k, v.ownBlock = some k → k ≠ p := fun k hk e => by have := Kd.R_base hq k hk; have := hl p hd.sp; omega
  exact ⟨⟨hs, Kd.R_far (Kd.R_far hq (fun k hk e => hne k hk.symm e) _) (fun k hk e => hne k hk.symm e) _, (hb.keep e2.k5).keep e4.k5⟩, ⟨_, _, _, e3⟩, FrL.trans hf (FrL.trans e2 e4)⟩
end
theorem ns_test {M : Nat} (hI : Inv M σ) {sv : Nat} (h1 : σ.sent ≤ sv) (h2 : sv ≤ newSent σ) : sv < newSent σ ↔ sv < σ.took.length ∧ sv < σ.sure + σ.window := by
  unfold newSent at *
  have := hI.s1; have := hI.s2
  omega
theorem rmeas2 {w1 w2 : World} {q : Addr} {sv ns : Nat} (h4 : w1.cell? q = some (.int .i64 ((sv + 1 : Nat) : Int))) (h5 : w2.cell? q = some (.int .i64 (sv : Int))) (h6 : sv < ns) : ns - (intOf ((w1.cell? q).getD undef)).toNat < ns - (intOf ((w2.cell? q).getD undef)).toNat := by
  rw [h4, h5]
  simp only [Option.getD_some, intOf]
  omega
theorem due_more (D0 : List Nat) {sv : Nat} (h1 : σ.sent ≤ sv) : D0 ++ List.range' σ.sent (sv - σ.sent) ++ [sv] = D0 ++ List.range' σ.sent (sv + 1 - σ.sent) := by
  rw [List.append_assoc, show sv + 1 - σ.sent = (sv - σ.sent) + 1 by omega, List.range'_concat, Nat.one_mul, show σ.sent + (sv - σ.sent) = sv by omega]
theorem due_first {k : Nat} (h1 : σ.sure ≤ k) : List.range' σ.sure (k - σ.sure) ++ [k] = List.range' σ.sure (k + 1 - σ.sure) := by
  rw [show k + 1 - σ.sure = (k - σ.sure) + 1 by omega, List.range'_concat, Nat.one_mul, show σ.sure + (k - σ.sure) = k by omega]
def D0 (σ : Lk) : List Nat := if σ.tick then List.range' σ.sure (σ.sent - σ.sure) else []
theorem dueL_eq : dueL σ = D0 σ ++ List.range' σ.sent (newSent σ - σ.sent) := rfl
theorem due_len {M : Nat} (hI : Inv M σ) {sv : Nat} (h : sv ≤ newSent σ) : (D0 σ ++ List.range' σ.sent (sv - σ.sent)).length ≤ 100 := by
  have := newSent_le hI; have := hI.w1; have := hI.s2; have := hI.s3; have := hI.s1; have := hI.s0
  unfold D0
  split
  · rw [List.length_append, List.length_range', List.length_range']; omega
  · rw [List.length_append, List.length_nil, List.length_range']; omega
set_option maxRecDepth 100000 in
set_option maxHeartbeats 2000000 in
theorem rout_calls (h : DP w B N S p σ) {M : Nat} (hI : Inv M σ) (hM : M ≤ 50000) :
    Calls Try.prog 34 #[.pointer (some ⟨p, 0, none⟩)] w fun e w' => ∃ v, e = .returned v ∧ OutE w w' B N S p σ v (outL σ).1 (outL σ).2 := by
  obtain ⟨vt, va, vh, hx⟩ := h
  obtain ⟨ht, hrt, hbt⟩ := hx.t
  obtain ⟨ha, hra, hba⟩ := hx.a
  obtain ⟨A0, c0, rfl⟩ := Kd.R_slice hrt
  obtain ⟨A2, c2, rfl⟩ := Kd.R_slice hra
  obtain ⟨n0, hn0⟩ : ∃ n0, n0 = ht.length := ⟨_, rfl⟩
  obtain ⟨n2, hn2⟩ : ∃ n2, n2 = ha.length := ⟨_, rfl⟩
  rw [← hn0, ← hn2] at hx
  have HN := Aside0.mk (show n0 = σ.took.length ∧ n2 = σ.all.length from ⟨hn0.trans hbt.1, hn2.trans hba.1⟩)
  obtain ⟨vt, hvt⟩ : ∃ vt, vt = Value.slice A0 n0 c0 := ⟨_, rfl⟩
  obtain ⟨va, hva⟩ : ∃ va, va = Value.slice A2 n2 c2 := ⟨_, rfl⟩
  rw [← hvt, ← hva] at hx
  have HV := Aside0.mk (And.intro hvt hva)
  clear hrt hra hbt hba hn0 hn2 hvt hva
  obtain ⟨R, hR⟩ : ∃ R, R = outL σ := ⟨_, rfl⟩
  rw [← hR]
  have HR := Aside0.mk hR
  have HI := Aside0.mk (And.intro hI hM)
  have HX := Aside0.mk hx
  obtain ⟨tk, htk⟩ : ∃ tk, tk = σ.tick := ⟨_, rfl⟩
  have HTK := Aside0.mk htk
  have c8 : w.cell? ⟨p, 8, none⟩ = some (.bool tk) := by rw [htk]; exact blk_cell hx.blk 8
  have c2 : w.cell? ⟨p, 2, none⟩ = some (.int .i64 (σ.sure : Int)) := blk_cell hx.blk 2
  clear hR hI hM hx htk
  go_enter Try.func34, Try.ntmps34
  go_upto_if 10 with fail
  go_cut [3, 4] from 11 to 28 (fun v3 v4 wx => ∃ v hs, v = v3 ∧ Aside0 (OR w wx B N S p σ vt va vh (D0 σ) σ.sent v hs))
  case first =>
    cases tk with
    | false =>
      have HT := Aside0.mk (show D0 σ = [] by unfold D0; rw [← HTK.out]; rfl)
      go_wp2_with fail
      all_goals go_meet
      case rel => exact ⟨_, _, rfl, by rw [HT.out]; exact ⟨OR.start HX.out⟩⟩
    | true =>
      have HT := Aside0.mk (show D0 σ = List.range' σ.sure (σ.sent - σ.sure) by unfold D0; rw [← HTK.out]; rfl)
      go_wp2_with fail
      clear c8 c2
      go_loopw [3, 4] (fun v3 v4 wr => ∃ (i : Nat) (v : Value) (hs : List Hd), v = v3 ∧ v4 = .int .i64 (i : Int) ∧ σ.sure ≤ i ∧ i ≤ σ.sent ∧ Aside0 (OR w wr B N S p σ vt va vh (List.range' σ.sure (i - σ.sure)) σ.sent v hs)) (fun _ v4 _ => σ.sent - (intOf v4).toNat)
      case atStart => exact ⟨σ.sure, _, _, rfl, rfl, Nat.le_refl _, HI.out.1.s0, by rw [Nat.sub_self]; exact ⟨OR.start HX.out⟩⟩
      case round =>
        obtain ⟨i, v, hs, rfl, rfl, h1, h2, HO⟩ := hrel
        have p3 : wr.cell? ⟨p, 3, none⟩ = some (.int .i64 (σ.sent : Int)) := blk_cell HO.out.dp.blk 3
        by_cases hlt : i < σ.sent
        · have hil : (i : Int) < (σ.sent : Int) := by omega
          have hil2 : decide ((i : Int) < (σ.sent : Int)) = true := decide_eq_true hil
          have hil3 : decide (i < σ.sent) = true := decide_eq_true hlt
          have HDA := Aside0.mk (data_calls HO.out.dp (by have := HI.out.1.tk; have := HI.out.2; show σ.took.length ≤ _; omega) (by have := HI.out.1.al; have := HI.out.2; show σ.all.length ≤ _; omega) HI.out.1.ht i (by have := HI.out.1.s1; show i < σ.took.length; omega))
          have HLN := Aside0.mk (show (hs.length + 1) * 24 ≤ 140737488355328 by have e := HO.out.len; rw [List.length_range'] at e; have := HI.out.1.tk; have := HI.out.2; have := HI.out.1.s1; omega)
          have HWI := Aside0.mk (show wrap64 ((i : Int) + 1) = (i : Int) + 1 by have := HI.out.1.tk; have := HI.out.2; have := HI.out.1.s1; unfold wrap64; omega)
          have hwi := HWI.out
          have HLT := Aside0.mk (And.intro hlt h1)
          clear hlt h1 h2
          go_wp2_with fail
          refine HDA.out.mono ?_
          rintro e w1 ⟨V, rfl, hr1, hb1⟩
          obtain ⟨F, hF⟩ : ∃ F, F = fData σ i := ⟨_, rfl⟩
          replace hr1 : (Kd.int .u8).R 5 w1 wr.heap.size (fun _ => True) V F := by rw [hF]; exact hr1
          obtain ⟨A1, c1, rfl⟩ := Kd.R_slice hr1
          have HX1 := Aside0.mk (HO.out.below hb1)
          have HBD := Aside0.mk (show Bd w1 w.heap.size (encH ⟨A1, F.length, c1⟩) (fData σ i) by rw [← hF]; exact Bd.of hr1 HO.out.fr.b.size)
          clear hr1 hF hb1 p3
          go_wp2_with ((with_reducible refine gate_builtin (b := .append) (xs := #[.tmp 23, .tmp 27]) rfl ?_); at_builtin; refine Kd.R_append kH (w0 := w1) w.heap.size rfl (.tmp 23) (.tmp 27) 44 30 (.slice none 0 0) 24 rfl Try.underlying44 info30 rfl (by decide) (by omega) v hs ⟨A1, F.length, c1⟩ [encH ⟨A1, F.length, c1⟩] (fun k => some k = v.ownBlock ∨ w1.heap.size ≤ k) (fun _ => False) rfl rfl rfl (fun _ hk => hk.elim) (fun k hk => .inr hk) (Kd.R_mono HX1.out.q (fun k hk => .inl hk)) (Below.refl _ _) HX1.out.fr.b.size HLN.out ?_; intro v9 w9 hq9 _ hg9 hat9; have HPE := Aside0.mk (OR.more HX1.out HBD.out hq9 hg9); clear hq9 hg9 hat9)
          go_roundw
          case rel => exact ⟨i + 1, v9, hs ++ [⟨A1, F.length, c1⟩], rfl, by go_num, by have := HLT.out; omega, HLT.out.1, ⟨by rw [← due_first HLT.out.2]; exact HPE.out⟩⟩
          case measure =>
            have e := HWI.out
            rw [e]
            exact rmeas HLT.out.1
        · have hil : ¬ (i : Int) < (σ.sent : Int) := by omega
          have hil2 : decide ((i : Int) < (σ.sent : Int)) = false := decide_eq_false hil
          have hil3 : decide (i < σ.sent) = false := decide_eq_false hlt
          have HE := Aside0.mk (show i = σ.sent by omega)
          clear hlt h1 h2 hil
          go_wp2_with fail
          all_goals go_meet
          case rel =>
            have e := HE.out
            subst e
            exact ⟨v, hs, rfl, by rw [HT.out]; exact HO⟩
  case rest =>
    obtain ⟨v, hs, rfl, HO⟩ := hcut
    clear c8 c2
    go_upto_block 2 with fail
    go_cut [3] from 29 to 70 (fun v3 wx => ∃ v hs, v = v3 ∧ Aside0 (OR w wx B N S p σ vt va vh (dueL σ) (newSent σ) v hs))
    case first =>
      go_wp2_with fail
      go_loopw [3] (fun v3 wr => ∃ (sv : Nat) (v : Value) (hs : List Hd), v = v3 ∧ σ.sent ≤ sv ∧ sv ≤ newSent σ ∧ Aside0 (OR w wr B N S p σ vt va vh (D0 σ ++ List.range' σ.sent (sv - σ.sent)) sv v hs)) (fun _ wr => newSent σ - (intOf ((wr.cell? ⟨p, 3, none⟩).getD undef)).toNat)
      case atStart => exact ⟨σ.sent, v, hs, rfl, Nat.le_refl _, (newSent_le HI.out.1).1, by rw [Nat.sub_self, List.range'_zero, List.append_nil]; exact HO⟩
      case round =>
        clear HO
        obtain ⟨sv, v, hs, rfl, h1, h2, HO⟩ := hrel
        have p0 : wr.cell? ⟨p, 0, none⟩ = some (.int .i64 (σ.window : Int)) := blk_cell HO.out.dp.blk 0
        have p1 : wr.cell? ⟨p, 1, none⟩ = some (.slice A0 n0 c0) := by rw [← HV.out.1]; exact blk_cell HO.out.dp.blk 1
        have p2 : wr.cell? ⟨p, 2, none⟩ = some (.int .i64 (σ.sure : Int)) := blk_cell HO.out.dp.blk 2
        have p3 : wr.cell? ⟨p, 3, none⟩ = some (.int .i64 (sv : Int)) := blk_cell HO.out.dp.blk 3
        have HP3 := Aside0.mk p3
        have hns := (ns_test HI.out.1 h1 h2)
        rw [← HN.out.1] at hns
        have hwr : wrap64 ((σ.sure : Int) + (σ.window : Int)) = (σ.sure : Int) + (σ.window : Int) := by have := HI.out.1.s0; have := HI.out.1.s1; have := HI.out.1.tk; have := HI.out.2; have := HI.out.1.w1; unfold wrap64; omega
        have HSV := Aside0.mk (show sv ≤ 60000 by have := newSent_le HI.out.1; have := HI.out.1.tk; have := HI.out.2; omega)
        have H12 := Aside0.mk (And.intro h1 h2)
        by_cases ha1 : sv < n0
        · have g1 : decide ((sv : Int) < (n0 : Int)) = true := decide_eq_true (by omega)
          have g3 : decide (sv < n0) = true := decide_eq_true ha1
          by_cases ha2 : sv < σ.sure + σ.window
          · have g2 : decide ((sv : Int) < (σ.sure : Int) + (σ.window : Int)) = true := decide_eq_true (by omega)
            have HLT := Aside0.mk (And.intro (hns.2 ⟨ha1, ha2⟩) ha1)
            clear ha1 ha2 hns h1 h2
            go_wp2_with fail
            go_quiet (fail)
            clear g1 g2 p0 p1 p2 hwr
            go_wp2_with fail
            have hwi : wrap64 ((sv : Int) + 1) = (sv : Int) + 1 := by have := HSV.out; unfold wrap64; omega
            have HO2 := Aside0.mk (HO.out.below (pw_below_drewN (Below.refl wr.heap.size wr) nq))
            refine (data_calls HO2.out.dp (by have := HI.out.1.tk; have := HI.out.2; show σ.took.length ≤ _; omega) (by have := HI.out.1.al; have := HI.out.2; show σ.all.length ≤ _; omega) HI.out.1.ht sv (by show sv < σ.took.length; rw [← HN.out.1]; exact HLT.out.2)).mono ?_
            rintro e w1 ⟨V, rfl, hr1, hb1⟩
            obtain ⟨F, hF⟩ : ∃ F, F = fData σ sv := ⟨_, rfl⟩
            have hr2 : (Kd.int .u8).R 5 w1 w.heap.size (fun _ => True) V F := by rw [hF]; exact Kd.R_lower hr1 HO2.out.fr.b.size
            obtain ⟨A1, c1, rfl⟩ := Kd.R_slice hr2
            have HX1 := Aside0.mk (HO2.out.below hb1)
            have HBD := Aside0.mk (show Bd w1 w.heap.size (encH ⟨A1, F.length, c1⟩) (fData σ sv) by rw [← hF]; exact Bd.of hr2 (Nat.le_refl _))
            have HLN := Aside0.mk (show (hs.length + 1) * 24 ≤ 140737488355328 by have e := HO.out.len; have := due_len HI.out.1 H12.out.2; omega)
            clear hr1 hr2 hF hb1 p3 HO2
            go_wp2_with ((with_reducible refine gate_builtin (b := .append) (xs := #[.tmp 55, .tmp 62]) rfl ?_); at_builtin; refine Kd.R_append kH (w0 := w1) w.heap.size rfl (.tmp 55) (.tmp 62) 44 30 (.slice none 0 0) 24 rfl Try.underlying44 info30 rfl (by decide) (by omega) v hs ⟨A1, F.length, c1⟩ [encH ⟨A1, F.length, c1⟩] (fun k => some k = v.ownBlock ∨ w1.heap.size ≤ k) (fun _ => False) rfl rfl rfl (fun _ hk => hk.elim) (fun k hk => .inr hk) (Kd.R_mono HX1.out.q (fun k hk => .inl hk)) (Below.refl _ _) HX1.out.fr.b.size HLN.out ?_; intro v9 w9 hq9 _ hg9 hat9; have HPE := Aside0.mk (OR.more HX1.out HBD.out hq9 hg9); have d3 : w9.cell? ⟨p, 3, none⟩ = some (.int .i64 (sv : Int)) := blk_cell HPE.out.dp.blk 3; have z3 : w9.frozen? ⟨p, 3, none⟩ = false := blk_frozen HPE.out.dp.blk 3; clear hq9 hg9 hat9)
            have HC := Aside0.mk (OR.count HPE.out (sv + 1))
            rw [show (((sv + 1 : Nat)) : Int) = (sv : Int) + 1 from rfl] at HC
            go_roundw
            case rel => exact ⟨sv + 1, v9, hs ++ [⟨A1, F.length, c1⟩], rfl, by have := H12.out; omega, HLT.out.1, ⟨by rw [← due_more (D0 σ) H12.out.1]; exact HC.out⟩⟩
            case measure => exact rmeas2 (blk_cell HC.out.dp.blk 3) HP3.out HLT.out.1
          · have g2 : decide ((sv : Int) < (σ.sure : Int) + (σ.window : Int)) = false := decide_eq_false (by omega)
            have HE := Aside0.mk (show sv = newSent σ by omega)
            clear ha1 ha2 hns h1 h2
            go_wp2_with fail
            go_quiet (fail)
            clear g1 g2 p0 p1 p2 hwr
            go_wp2_with fail
            all_goals go_meet
            case rel =>
              have e := HE.out
              subst e
              exact ⟨v, hs, rfl, by rw [dueL_eq]; exact ⟨HO.out.below (pw_below_drewN (Below.refl _ wr) _)⟩⟩
        · have g1 : decide ((sv : Int) < (n0 : Int)) = false := decide_eq_false (by omega)
          have g3 : decide (sv < n0) = false := decide_eq_false ha1
          have HE := Aside0.mk (show sv = newSent σ by omega)
          clear ha1 hns h1 h2
          go_wp2_with fail
          go_quiet (fail)
          clear g1 p0 p1 p2 hwr
          go_wp2_with fail
          all_goals go_meet
          case rel =>
            have e := HE.out
            subst e
            exact ⟨v, hs, rfl, by rw [dueL_eq]; exact ⟨HO.out.below (pw_below_drewN (Below.refl _ wr) _)⟩⟩
    case rest =>
      clear HO
      obtain ⟨v, hs, rfl, HO⟩ := hcut
      obtain ⟨Av, cv, rfl⟩ := Kd.R_slice HO.out.q
      obtain ⟨n9, hn9⟩ : ∃ n9, n9 = hs.length := ⟨_, rfl⟩
      have HN9 := Aside0.mk (show n9 = (dueL σ).length from hn9.trans HO.out.len)
      obtain ⟨ow, how⟩ : ∃ ow, ow = σ.owes := ⟨_, rfl⟩
      have HOW := Aside0.mk how
      have p7 : wc.cell? ⟨p, 7, none⟩ = some (.bool ow) := by rw [how]; exact blk_cell HO.out.dp.blk 7
      have z7 : wc.frozen? ⟨p, 7, none⟩ = false := blk_frozen HO.out.dp.blk 7
      have z8 : wc.frozen? ⟨p, 8, none⟩ = false := blk_frozen HO.out.dp.blk 8
      have p8 : wc.cell? ⟨p, 8, none⟩ = some (.bool σ.tick) := blk_cell HO.out.dp.blk 8
      have p4 : wc.cell? ⟨p, 4, none⟩ = some (.slice A2 n2 c2) := by rw [← HV.out.2]; exact blk_cell HO.out.dp.blk 4
      have HH := Aside0.mk hn9
      rw [← hn9]
      clear hn9 how
      by_cases hz : n9 = 0
      · cases ow with
        | true =>
          have HRR := Aside0.mk (show R = ([fAck σ], { σ with sent := newSent σ, owes := false, tick := false }) by rw [HR.out]; unfold outL; rw [if_pos ⟨HN9.out.symm.trans hz, HOW.out.symm⟩])
          subst hz
          have hen : windbreakref10_Encode.f _ false (0 : Nat) (n2 : Int) [] = some (frameL false 0 n2 [], 0) := refencode_is false 0 n2 [] (by omega) (by have := HN.out.2; have := HI.out.1.al; have := HI.out.2; omega) (by simp) (fun x h => by cases h) (Pq.right_of false 0 n2 [] (by omega) (by have := HN.out.2; have := HI.out.1.al; have := HI.out.2; omega) (by simp) (fun _ => ⟨rfl, rfl⟩))
          obtain ⟨F, hF⟩ : ∃ F, F = frameL false 0 n2 [] := ⟨_, rfl⟩
          rw [← hF] at hen
          have HF := Aside0.mk (show fAck σ = F by rw [hF, HN.out.2]; rfl)
          have HEN := Aside0.mk hen
          clear hen hF
          go_wp2_with fail
          refine (windbreakref10_Encode.calls _ false 0 (n2 : Int) none 0 [] F 0 _ (Kd.C_nil _ _) (Nat.le_refl _) HEN.out).mono ?_
          rintro e w1 ⟨V, rfl, hr1, hb1⟩
          have hx1 := HO.out.below hb1
          rw [show hs.length = 0 from HH.out.symm] at hx1
          have HX1 := Aside0.mk hx1
          have HBD := Aside0.mk (show Bd w1 w.heap.size V F from Bd.of hr1 HO.out.fr.b.size)
          obtain ⟨A1, c1, rfl⟩ := Kd.R_slice hr1
          have HLN := Aside0.mk (show (hs.length + 1) * 24 ≤ 140737488355328 by have := HH.out; omega)
          clear hr1 hb1 hx1 p4 p7 p8 z7 z8
          go_wp2_with ((with_reducible refine gate_builtin (b := .append) (xs := #[.tmp 90, .tmp 92]) rfl ?_); at_builtin; refine Kd.R_append kH (w0 := w1) w.heap.size rfl (.tmp 90) (.tmp 92) 44 30 (.slice none 0 0) 24 rfl Try.underlying44 info30 rfl (by decide) (by omega) (.slice Av 0 cv) hs ⟨A1, F.length, c1⟩ [encH ⟨A1, F.length, c1⟩] (fun k => some k = (Value.slice Av 0 cv).ownBlock ∨ w1.heap.size ≤ k) (fun _ => False) rfl rfl rfl (fun _ hk => hk.elim) (fun k hk => .inr hk) (Kd.R_mono HX1.out.q (fun k hk => .inl hk)) (Below.refl _ _) HX1.out.fr.b.size HLN.out ?_; intro v9 w9 hq9 _ hg9 hat9; have HFR := Aside0.mk (OR.frame HX1.out HX1.out.b (x := ⟨A1, F.length, c1⟩) (l := F) HBD.out hq9 hg9); have p7 : w9.cell? ⟨p, 7, none⟩ = some (.bool σ.owes) := blk_cell HFR.out.1.blk 7; have p8 : w9.cell? ⟨p, 8, none⟩ = some (.bool σ.tick) := blk_cell HFR.out.1.blk 8; have z7 : w9.frozen? ⟨p, 7, none⟩ = false := blk_frozen HFR.out.1.blk 7; have z8 : w9.frozen? ⟨p, 8, none⟩ = false := blk_frozen HFR.out.1.blk 8; clear hq9 hg9 hat9)
          go_ret
          refine ⟨_, rfl, ?_⟩
          rw [HRR.out, HF.out]
          obtain ⟨e1, e2, e3, e4⟩ := HFR.out
          have e0 : (dueL σ).map (fData σ) = [] := by rw [List.eq_nil_of_length_eq_zero HN9.out.symm]; rfl
          rw [e0] at e4
          exact out_done e1 e2 e3 e4 HX.out.lt
        | false =>
          have HRR := Aside0.mk (show R = ((dueL σ).map (fData σ), { σ with sent := newSent σ, owes := false, tick := false }) by rw [HR.out]; unfold outL; rw [if_neg (fun h => by have := HOW.out; rw [h.2] at this; cases this)])
          have HO' := HO.out
          rw [show hs.length = n9 from HH.out.symm] at HO'
          have HO2 := Aside0.mk HO'
          clear HO HO' p4
          subst hz
          go_wp2_with fail
          go_ret
          refine ⟨_, rfl, ?_⟩
          rw [HRR.out]
          exact out_done HO2.out.dp HO2.out.fr HO2.out.q HO2.out.b HX.out.lt
      · have HRR := Aside0.mk (show R = ((dueL σ).map (fData σ), { σ with sent := newSent σ, owes := false, tick := false }) by rw [HR.out]; unfold outL; rw [if_neg (fun h => hz (HN9.out.trans h.1))])
        have hzb : ((n9 : Int) == 0) = false := by rw [beq_eq_false_iff_ne]; omega
        have hzn : (n9 == 0) = false := by rw [beq_eq_false_iff_ne]; exact hz
        have HO' := HO.out
        rw [show hs.length = n9 from HH.out.symm] at HO'
        have HO2 := Aside0.mk HO'
        clear HO HO' p4
        go_wp2_with fail
        go_ret
        refine ⟨_, rfl, ?_⟩
        rw [HRR.out]
        exact out_done HO2.out.dp HO2.out.fr HO2.out.q HO2.out.b HX.out.lt
end Go.Proofs.Ytekakngojhnleaa.Xd
