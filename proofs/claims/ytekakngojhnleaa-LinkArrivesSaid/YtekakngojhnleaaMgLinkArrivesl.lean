/- Parts of the proof of LinkArrives, merged: each is proved for all its inputs. -/
import Derived.Test.YtekakngojhnleaaMgLinkArrivesk
import Derived.Test.YtekakngojhnleaaMgLinkArrivesi
import Derived.Test.YtekakngojhnleaaMgLinkArrivesf
/- Links: the laws' World: what comes out of an end; what it is told. -/
namespace Go.Proofs.Ytekakngojhnleaa.Wg
open Go.RowKit Go.Maps Go.Proofs.Ytekakngojhnleaa.Mp Go.Proofs.Ytekakngojhnleaa.Mq Go.Proofs.Ytekakngojhnleaa.Lp Go.Proofs.Ytekakngojhnleaa.Lm Go.Proofs.Ytekakngojhnleaa.La Go.Proofs.Ytekakngojhnleaa.Lb Go.Proofs.Ytekakngojhnleaa.Lc Go.Proofs.Ytekakngojhnleaa.Ld Go.Proofs.Ytekakngojhnleaa.Le Go.Proofs.Ytekakngojhnleaa.Ow Go.Proofs.Ytekakngojhnleaa.Wd Go.Proofs.Ytekakngojhnleaa.We Go.Proofs.Ytekakngojhnleaa.Wf Go.Proofs.YtekakngojhnleaaW.PrintWords Go.Proofs.YtekakngojhnleaaW.PrintLast Go.Proofs.YtekakngojhnleaaW.PrintMore
set_option linter.unusedVariables false
set_option linter.unusedSimpArgs false
variable {w w' : World} {B N g : Nat}

section
variable {p : Nat → Nat} {S : Nat → Nat → Prop} {σ : Nat → Lk} {v : Nat → Value} {h : Nat → List Hd} {l : Nat → List (List Int)}
theorem Bods.append {w : World} {B : Nat} {hs hs' : List Hd} {ls ls' : List (List Int)} (a : Bods w B hs ls) (b : Bods w B hs' ls') : Bods w B (hs ++ hs') (ls ++ ls') := by
 refine ⟨by simp [a.1, b.1], fun i x m h1 h2 => ?_⟩
 rcases Nat.lt_or_ge i hs.length with hi | hi
 ·
  rw [List.getElem?_append_left hi] at h1
  rw [List.getElem?_append_left (by rw [← a.1]; exact hi)] at h2
  exact a.2 i x m h1 h2
 ·
  rw [List.getElem?_append_right hi] at h1
  rw [List.getElem?_append_right (by rw [← a.1]; exact hi), ← a.1] at h2
  exact b.2 _ x m h1 h2
theorem bods_low {B' : Nat} {hs : List Hd} {ls : List (List Int)} (a : Bods w B hs ls) (hb : B' ≤ B) : Bods w B' hs ls := ⟨a.1, fun i x m h1 h2 => Kd.R_lower (a.2 i x m h1 h2) hb⟩
theorem out_len {M : Nat} {σ : Lk} (hI : Inv M σ) : (outL σ).1.length ≤ 1000 := by
 have e1 := hI.s2; have e2 := hI.w1; have e3 := newSent_le hI; have e4 := hI.s0
 unfold outL
 dsimp only
 split
 ·
  simp
 ·
  rw [List.length_map]
  unfold dueL
  rw [List.length_append, List.length_range']
  have : (if σ.tick = true then List.range' σ.sure (σ.sent - σ.sure) else []).length ≤ 16 := by
   split
   ·
    rw [List.length_range']; omega
   ·
    simp
  omega
/-- Frames more in a row. -/
theorem out_end (W : WP w B N g p S σ v h l) {j : Nat} (h1 : 2 ≤ j) (h2 : j < 8) {hs5 : List Hd} {fs : List (List Int)} (hx : Bods w B hs5 fs) {w9 : World} {v9 : Value} (hq : kH.R 30 w9 B (fun k => some k = (v j).ownBlock ∨ w.heap.size ≤ k) v9 (h j ++ hs5)) (hg : w.grownBy w9 (v j).ownBlock) (hat : v9.ownBlock = (v j).ownBlock ∨ ∃ k, v9.ownBlock = some k ∧ w.heap.size ≤ k) :
  (WP (w9.setCell ⟨g, j, none⟩ v9) B N g p S σ (Wd.upd v j v9) (Wd.upd h j (h j ++ hs5)) (Wd.upd l j (l j ++ fs)) ∧ Keep5 w (w9.setCell ⟨g, j, none⟩ v9)) ∧ w9.heap[g]? = some (.cells (cellsW p v) 78 (0, 0)) ∧ Below B w (w9.setCell ⟨g, j, none⟩ v9) ∧ w.grownBy w9 (v j).ownBlock := by
 have k09 : Keep5 w w9 := Keep5.grown hg (fun k hk cs hc => by
  obtain ⟨cs', hc'⟩ := Kd.R_typed (W.q j h1 h2) k hk
  rw [hc] at hc'
  cases hc')
 obtain ⟨e1, e2, e3⟩ := W.row h1 h2 hq (Bods.append ((W.b j h1 h2).keep k09) (hx.keep k09)) hg hat
 exact ⟨⟨e1, k09.trans (Keep5.set e2 (by decide))⟩, e2, e3, hg⟩
/-- So many messages told. -/
structure TellR (w wr : World) (B N g : Nat) (σ : Nat → Lk) (ls : Nat → List (List Int)) (k j i : Nat) : Prop where
 wp : WQ wr B N g (Wd.upd σ k { σ k with told := (σ k).told + i }) (Wd.upd ls j (ls j ++ ((σ k).all.drop (σ k).told).take i))
 le : i = 0 ∨ (σ k).told + i ≤ (σ k).all.length
 bl : Below B w wr
theorem upd_id {α : Type} (f : Nat → α) (k : Nat) : Wd.upd f k (f k) = f := funext fun i => by
 unfold Wd.upd
 split
 ·
  rename_i e; rw [e]
 ·
  rfl
theorem TellR.start {ls : Nat → List (List Int)} {k j : Nat} (W : WQ w B N g σ ls) (hk : k < 2) : TellR w w B N g σ ls k j 0 := by
 refine ⟨?_, .inl rfl, Below.refl _ _⟩
 rw [List.take_zero, List.append_nil, upd_id]
 have : Wd.upd σ k { σ k with told := (σ k).told + 0 } = σ := upd_id σ k
 rw [this]
 exact W
theorem upd_upd {α : Type} (f : Nat → α) (k : Nat) (x y : α) : Wd.upd (Wd.upd f k x) k y = Wd.upd f k y := funext fun i => by
 unfold Wd.upd
 split <;> rfl
theorem next_is {σ : Lk} {i : Nat} (h : σ.told + i < σ.all.length) : (nextL { σ with told := σ.told + i }).2 = { σ with told := σ.told + (i + 1) } := by
 unfold nextL
 rw [dif_pos (show ({ σ with told := σ.told + i } : Lk).told < ({ σ with told := σ.told + i } : Lk).all.length from h)]
 rfl
theorem meas3 {i : Nat} (h : (i : Int) < 2000) : 2000 - (intOf (.int .i64 ((i : Int) + 1))).toNat < 2000 - (intOf (.int .i64 (i : Int))).toNat := by
 simp only [intOf]
 omega
theorem TellR.next {wr w9 : World} {ls : Nat → List (List Int)} {k j i : Nat} (T : TellR w wr B N g σ ls k j i) (hd : (σ k).told + i < (σ k).all.length) {m : List Int} (hm : m = (σ k).all[(σ k).told + i]'hd) (hj : j < 8)
  (h9 : WQ w9 B N g (Wd.upd (Wd.upd σ k { σ k with told := (σ k).told + i }) k { σ k with told := (σ k).told + (i + 1) }) (Wd.upd (Wd.upd ls j (ls j ++ ((σ k).all.drop (σ k).told).take i)) j (Wd.upd ls j (ls j ++ ((σ k).all.drop (σ k).told).take i) j ++ [m]))) (hb : Below B wr w9) : TellR w w9 B N g σ ls k j (i + 1) := by
 refine ⟨?_, .inr hd, T.bl.trans hb⟩
 rw [upd_upd, upd_upd, Wd.upd_same, List.append_assoc] at h9
 have e : ((σ k).all.drop (σ k).told).take i ++ [m] = ((σ k).all.drop (σ k).told).take (i + 1) := by
  rw [List.take_add_one, List.getElem?_drop, List.getElem?_eq_getElem hd, hm]
  rfl
 rw [e] at h9
 exact h9
theorem TellR.stop {wr : World} {ls : Nat → List (List Int)} {k j i : Nat} (T : TellR w wr B N g σ ls k j i) (hd : ¬ (σ k).told + i < (σ k).all.length) :
  WQ wr B N g (Wd.upd σ k { σ k with told := max (σ k).told (σ k).all.length }) (Wd.upd ls j (ls j ++ (σ k).all.drop (σ k).told)) ∧ Below B w wr := by
 refine ⟨?_, T.bl⟩
 have h := T.wp
 have e1 : (σ k).told + i = max (σ k).told (σ k).all.length := by have := T.le; omega
 have e2 : ((σ k).all.drop (σ k).told).take i = (σ k).all.drop (σ k).told := List.take_of_length_le (by rw [List.length_drop]; omega)
 rw [e1, e2] at h
 exact h
end
set_option maxRecDepth 100000 in
set_option maxHeartbeats 2000000 in
theorem flushR0 {σ : Nat → Lk} {ls : Nat → List (List Int)} (W : WQ w B N g σ ls) {M : Nat} (hI : Inv M (σ 0)) (hM : M ≤ 50000) (hls : (ls 6).length ≤ 1000000) :
  Calls Try.prog 44 #[.pointer (some ⟨g, 0, none⟩), .int .i64 0] w fun e w' => ∃ v5 hs5, e = .returned v5 ∧ kH.Q 30 w' w.heap.size (fun k => some k = v5.ownBlock) v5 hs5 ∧ Bods w' w.heap.size hs5 (outL (σ 0)).1 ∧ (∃ p S v h, WP w' B N g p S (Wd.upd σ 0 (outL (σ 0)).2) v h (Wd.upd ls 6 (ls 6 ++ (outL (σ 0)).1)) ∧ ∀ i, i < 2 → ∀ k, S i k → k < w.heap.size) ∧ Below B w w' := by
 obtain ⟨p, S, v, h, hw⟩ := W
 have p0 : w.cell? ⟨g, 0, none⟩ = some (.pointer (some ⟨p 0, 0, none⟩)) := blk_cell hw.blk 0
 have HSD := Aside0.mk (out_calls (hw.e 0 (by decide)) hI hM)
 have HW := Aside0.mk hw
 have HOL := Aside0.mk (show (outL (σ 0)).1.length ≤ 1000 from out_len hI)
 obtain ⟨R, hR⟩ : ∃ R, R = outL (σ 0) := ⟨_, rfl⟩
 rw [← hR] at HSD HOL ⊢
 clear hw hI hR
 go_enter Try.func44, Try.ntmps44
 go_wp2_with fail
 refine HSD.out.mono ?_
 rintro e w1 ⟨v5, rfl, hs5, hq5, hb5, hl1, hf1⟩
 obtain ⟨A5, c5, rfl, _⟩ := Kd.Q_slice hq5
 have HW1 := Aside0.mk (WP.atEnd HW.out (k := 0) (by decide) hl1 (Nat.le_refl _) hf1)
 have HF1 := Aside0.mk hf1
 have HB1 := Aside0.mk hf1.b
 have HQ5 := Aside0.mk hq5
 have HB5 := Aside0.mk hb5
 clear hl1 hf1 p0 hq5 hb5
 go_wp2_with fail
 have hvs := Kd.R_slice (HW1.out.q 6 (by decide) (by decide))
 obtain ⟨A0, c0, hv⟩ := hvs
 obtain ⟨n0, hn0⟩ : ∃ n0, n0 = (h 6).length := ⟨_, rfl⟩
 rw [← hn0] at hv
 have HV := Aside0.mk (show some (v 6) = some (Value.slice A0 n0 c0) by rw [hv])
 have HVV := Aside0.mk (show Value.slice A0 n0 c0 = v 6 from hv.symm)
 have HLN := Aside0.mk (show ((h 6).length + hs5.length) * 24 ≤ 140737488355328 by have e := (HW1.out.b 6 (by decide) (by decide)).1; have e2 := HB5.out.1; have e3 := HOL.out; omega)
 clear hv hn0 hls
 obtain ⟨u, hu⟩ : ∃ u, u = w1 := ⟨_, rfl⟩
 rw [← hu] at HW1 HF1 HB1 HQ5 HB5 ⊢
 clear hu w1
 have HWP := Aside0.mk (WP.below HW1.out (below_drew (Below.refl _ u)))
 have HC5 := Aside0.mk (Kd.C_drew (Kd.Q_reads' HQ5.out).2.2)
 have HBS := Aside0.mk (bods_low (HB5.out.keep (Keep5.below (below_drew (Below.refl u.heap.size u)))) HW.out.bsz)
 have HS0 : u.drew.cell? ⟨g, 6, none⟩ = some (.slice A0 n0 c0) := by have e : u.drew.cell? ⟨g, 6, none⟩ = some (v 6) := blk_cell HWP.out.blk 6; rw [e]; exact HV.out
 refine start_ (n := 14) (S := fun w' => w'.cell? ⟨g, 6, none⟩ = some (.slice A0 n0 c0)) (ds := [13]) #[false, false, false, false, false, false, false, false, false, false, false, false, false, false] (by kernel_rfl) rfl rfl HS0 (fun hHeld => ?_)
 refine pure_ (i := 0) (N := some 13) (v := ?_) (a' := ?_) #[true, false, false, false, false, false, false, false, false, false, false, false, false, false] rfl rfl (by kernel_rfl) (fun _ _ _ h => h) (Or.inl ⟨by rfl, ?_⟩) ?_ ?_
 rotate_left
 ·
  intro w'
  go_simp
  try with_reducible rfl
 rotate_left
 ·
  simp only [Act.put, List.setIfInBounds_toArray, List.set_cons_zero, List.set_cons_succ, i64_w, i32_w]
  rfl
 refine pure_ (i := 1) (N := some 14) (v := ?_) (a' := ?_) #[true, true, false, false, false, false, false, false, false, false, false, false, false, false] rfl rfl (by kernel_rfl) (fun _ _ _ h => h) (Or.inl ⟨by rfl, ?_⟩) ?_ ?_
 rotate_left
 ·
  intro w'
  go_simp
  try with_reducible rfl
 rotate_left
 ·
  simp only [Act.put, List.setIfInBounds_toArray, List.set_cons_zero, List.set_cons_succ, i64_w, i32_w]
  rfl
 refine pure_ (i := 2) (N := some 15) (v := ?_) (a' := ?_) #[true, true, true, false, false, false, false, false, false, false, false, false, false, false] rfl rfl (by kernel_rfl) (fun _ _ _ h => h) (Or.inl ⟨by rfl, ?_⟩) ?_ ?_
 rotate_left
 ·
  intro w'
  go_simp
  try with_reducible rfl
 rotate_left
 ·
  simp only [Act.put, List.setIfInBounds_toArray, List.set_cons_zero, List.set_cons_succ, i64_w, i32_w]
  rfl
 refine pure_ (i := 3) (N := some 16) (v := ?_) (a' := ?_) #[true, true, true, true, false, false, false, false, false, false, false, false, false, false] rfl rfl (by kernel_rfl) (fun _ _ _ h => h) (Or.inl ⟨by rfl, ?_⟩) ?_ ?_
 rotate_left
 ·
  intro w'
  go_simp
  try with_reducible rfl
 rotate_left
 ·
  simp only [Act.put, List.setIfInBounds_toArray, List.set_cons_zero, List.set_cons_succ, i64_w, i32_w]
  rfl
 refine pure_ (i := 8) (N := some 21) (v := ?_) (a' := ?_) #[true, true, true, true, false, false, false, false, true, false, false, false, false, false] rfl rfl (by kernel_rfl) (fun _ _ _ h => h) (Or.inl ⟨by rfl, ?_⟩) ?_ ?_
 rotate_left
 ·
  intro w'
  go_simp
  try with_reducible rfl
 rotate_left
 ·
  simp only [Act.put, List.setIfInBounds_toArray, List.set_cons_zero, List.set_cons_succ, i64_w, i32_w]
  rfl
 refine pure_ (i := 10) (N := some 23) (v := ?_) (a' := ?_) #[true, true, true, true, false, false, false, false, true, false, true, false, false, false] rfl rfl (by kernel_rfl) (fun _ _ _ h => h) (Or.inl ⟨by rfl, ?_⟩) ?_ ?_
 rotate_left
 ·
  intro w'
  go_simp
  try with_reducible rfl
 rotate_left
 ·
  simp only [Act.put, List.setIfInBounds_toArray, List.set_cons_zero, List.set_cons_succ, i64_w, i32_w]
  rfl
 refine pure_ (i := 11) (N := some 24) (v := ?_) (a' := ?_) #[true, true, true, true, false, false, false, false, true, false, true, true, false, false] rfl rfl (by kernel_rfl) (fun _ _ _ h => h) (Or.inl ⟨by rfl, ?_⟩) ?_ ?_
 rotate_left
 ·
  intro w'
  go_simp
  try with_reducible rfl
 rotate_left
 ·
  simp only [Act.put, List.setIfInBounds_toArray, List.set_cons_zero, List.set_cons_succ, i64_w, i32_w]
  rfl
 refine pure_ (i := 4) (N := some 17) (v := ?_) (a' := ?_) #[true, true, true, true, true, false, false, false, true, false, true, true, false, false] rfl rfl (by kernel_rfl) (fun _ _ _ h => h) (Or.inl ⟨by rfl, ?_⟩) ?_ ?_
 rotate_left
 ·
  intro w'
  go_simp
  try with_reducible rfl
 rotate_left
 ·
  simp only [Act.put, List.setIfInBounds_toArray, List.set_cons_zero, List.set_cons_succ, i64_w, i32_w]
  rfl
 refine pure_ (i := 5) (N := some 18) (v := ?_) (a' := ?_) #[true, true, true, true, true, true, false, false, true, false, true, true, false, false] rfl rfl (by kernel_rfl) (fun _ _ _ h => h) (Or.inl ⟨by rfl, ?_⟩) ?_ ?_
 rotate_left
 ·
  intro w'
  go_simp
  try with_reducible rfl
 rotate_left
 ·
  simp only [Act.put, List.setIfInBounds_toArray, List.set_cons_zero, List.set_cons_succ, i64_w, i32_w]
  rfl
 refine pure_ (i := 6) (N := some 19) (v := ?_) (a' := ?_) #[true, true, true, true, true, true, true, false, true, false, true, true, false, false] rfl rfl (by kernel_rfl) (fun _ _ _ h => h) (Or.inl ⟨by rfl, ?_⟩) ?_ ?_
 rotate_left
 ·
  intro w'
  go_simp
  try with_reducible rfl
 rotate_left
 ·
  simp only [Act.put, List.setIfInBounds_toArray, List.set_cons_zero, List.set_cons_succ, i64_w, i32_w]
  rfl
 refine take_ (i := 7) (N := some 20) (v := ?_) (a' := ?_) #[true, true, true, true, true, true, true, true, true, false, true, true, false, false] rfl rfl (by kernel_rfl) (fun _ _ _ h => h) (Or.inl ⟨by rfl, ?_⟩) hHeld ?_ ?_
 rotate_left
 ·
  intro w' q1
  go_simp
  try with_reducible rfl
 rotate_left
 ·
  simp only [Act.put, List.setIfInBounds_toArray, List.set_cons_zero, List.set_cons_succ, i64_w, i32_w]
  rfl
 refine one_ (i := 9) (N := some 22) #[true, true, true, true, true, true, true, true, true, true, true, true, false, false] rfl rfl (by kernel_rfl) (by decide) (fun K hK => ?_)
 refine Kd.R_append_rows_step kH (w0 := u.drew) B (by rfl) (.tmp 20) (.tmp 21) 44 30 (.slice none 0 0) 24 rfl Try.underlying44 info30 rfl (by decide) (by omega) (v 6) (h 6) hs5 _ _ _ (fun k => some k = (v 6).ownBlock ∨ u.drew.heap.size ≤ k) (fun _ => False) (by exact HVV.out) rfl (Kd.R_mono (HWP.out.q 6 (by decide) (by decide)) (fun k hk => .inl hk)) HC5.out (fun _ _ h => h) (fun _ hk => hk.elim) (fun k hk => .inr hk) (Below.refl _ _) HWP.out.bsz HLN.out ?_
 intro v9 w9 hq9 _ hg9 hat9
 obtain ⟨A9, c9, rfl⟩ := Kd.R_slice hq9
 have HEND := Aside0.mk (out_end HWP.out (by decide) (by decide) HBS.out hq9 hg9 hat9)
 have hblk9 := HEND.out.2.1
 clear hq9 hg9 hat9
 refine hK.out _ _ (by have := blk_cell hblk9 6; rw [this]; exact HV.out) (fun hHeld => ?_)
 clear hK K
 refine norm_ (a' := ?_) ?_ ?_
 rotate_left
 ·
  show Act.put _ (some 22) _ = _
  simp only [Act.put, List.setIfInBounds_toArray, List.set_cons_zero, List.set_cons_succ, i64_w, i32_w]
  rfl
 refine pure_ (i := 12) (N := some 25) (v := ?_) (a' := ?_) #[true, true, true, true, true, true, true, true, true, true, true, true, true, false] rfl rfl (by kernel_rfl) (fun _ _ _ h => h) (Or.inl ⟨by rfl, ?_⟩) ?_ ?_
 rotate_left
 ·
  intro w'
  go_simp
  try with_reducible rfl
 rotate_left
 ·
  simp only [Act.put, List.setIfInBounds_toArray, List.set_cons_zero, List.set_cons_succ, i64_w, i32_w]
  rfl
 have d1 : w9.cell? ⟨g, 6, none⟩ = some (.slice A0 n0 c0) := by have := blk_cell hblk9 6; rw [this]; exact HV.out
 have g1 : w9.frozen? ⟨g, 6, none⟩ = false := blk_frozen hblk9 6
 refine last_ (i := 13) (N := none) #[true, true, true, true, true, true, true, true, true, true, true, true, true, true] rfl rfl (by kernel_rfl) (by decide) (fun K hK => ?_)
 refine skip_ (w1 := w9.setCell ⟨g, 6, none⟩ (.slice A9 (h 6 ++ hs5).length c9)) (by rfl) rfl (by go_simp) ?_
 refine hK.out _ _ ?_
 clear hK K
 refine done_ (by kernel_rfl) ?_
 go_wp2_with fail
 go_ret
 obtain ⟨⟨e1, e5⟩, _, e3, e4⟩ := HEND.out
 have hqd := Kd.Q_drew HQ5.out
 have hk : ∀ k, some k = (Value.slice A5 hs5.length c5).ownBlock → w.heap.size ≤ k := fun k hk => Kd.Q_base HQ5.out k hk.symm
 refine ⟨_, hs5, rfl, Kd.Q_far (Kd.Q_grown hqd e4 (fun k hk0 e => by have := HW.out.rlt (j := 6) (by decide) (by decide) k e.symm; have := hk k hk0; omega)) (fun k hk0 e => by have := hk k hk0; have := blk_lt HW.out.blk; have e' : k = g := e; omega) _, ?_, ⟨_, _, _, _, e1, fun i hi k hs => ?_⟩, HB1.out.trans (((below_drew (Below.refl _ u)).mono HW1.out.bsz).trans e3)⟩
 ·
  exact (HB5.out.keep (Keep5.below (below_drew (Below.refl u.heap.size u)))).keep e5
 ·
  by_cases e : i = 0
  ·
   subst e
   rw [Wd.upd_same] at hs
   exact LP.lt (HW.out.e 0 (by decide)) k hs
  ·
   rw [Wd.upd_ne _ _ e] at hs
   exact LP.lt (HW.out.e i hi) k hs
theorem flush0 {σ : Nat → Lk} {ls : Nat → List (List Int)} (W : WQ w B N g σ ls) {M : Nat} (hI : Inv M (σ 0)) (hM : M ≤ 50000) (hls : (ls 6).length ≤ 1000000) :
  Calls Try.prog 44 #[.pointer (some ⟨g, 0, none⟩), .int .i64 0] w fun e w' => ∃ v5 hs5, e = .returned v5 ∧ kH.Q 30 w' w.heap.size (fun k => some k = v5.ownBlock) v5 hs5 ∧ Bods w' w.heap.size hs5 (outL (σ 0)).1 ∧ WQ w' B N g (Wd.upd σ 0 (outL (σ 0)).2) (Wd.upd ls 6 (ls 6 ++ (outL (σ 0)).1)) ∧ Below B w w' := by
 refine (flushR0 W hI hM hls).mono ?_
 rintro e w' ⟨v5, hs5, h1, h2, h3, ⟨p, S, v, h, h4, _⟩, h5⟩
 exact ⟨v5, hs5, h1, h2, h3, ⟨p, S, v, h, h4⟩, h5⟩
set_option maxRecDepth 100000 in
set_option maxHeartbeats 2000000 in
theorem tell0 {σ : Nat → Lk} {ls : Nat → List (List Int)} (W : WQ w B N g σ ls) (hn : (σ 0).all.length ≤ (σ 0).told + 1900) (hls : (ls 4).length ≤ 100000) :
  Calls Try.prog 73 #[.pointer (some ⟨g, 0, none⟩), .int .i64 0] w fun e w' => e = .returned (.tuple #[]) ∧ WQ w' B N g (Wd.upd σ 0 { σ 0 with told := max (σ 0).told (σ 0).all.length }) (Wd.upd ls 4 (ls 4 ++ (σ 0).all.drop (σ 0).told)) ∧ Below B w w' := by
 have HN := Aside0.mk hn
 have HL := Aside0.mk hls
 have h0 : TellR w w B N g σ ls 0 4 0 := TellR.start W (by decide)
 have H0 := Aside0.mk h0
 clear W hn hls h0
 go_enter Try.func73, Try.ntmps73
 go_wp2_with fail
 go_loopw [4, 5, 6] (fun v4 v5 v6 wr => ∃ (i : Nat) (a b : Value), v4 = .int .i64 (i : Int) ∧ v5 = a ∧ v6 = b ∧ i ≤ 1900 ∧ Aside0 (TellR w wr B N g σ ls 0 4 i)) (fun v4 _ _ _ => 2000 - (intOf v4).toNat)
 case atStart => exact ⟨0, _, _, rfl, rfl, rfl, by omega, H0⟩
 case round =>
  obtain ⟨i, a, b, rfl, rfl, rfl, hi, HT⟩ := hrel
  obtain ⟨p, S, v, h, hw⟩ := HT.out.wp
  have p0 : wr.cell? ⟨g, 0, none⟩ = some (.pointer (some ⟨p 0, 0, none⟩)) := blk_cell hw.blk 0
  have hlp := hw.e 0 (by decide)
  rw [Wd.upd_same] at hlp
  have HLP := Aside0.mk hlp
  have HW := Aside0.mk hw
  have hi2 : (i : Int) < 2000 := by omega
  have hwi : wrap64 ((i : Int) + 1) = (i : Int) + 1 := by unfold wrap64; omega
  clear hw hlp
  by_cases hd : (σ 0).told + i < (σ 0).all.length
  ·
   have HD := Aside0.mk hd
   clear hd
   go_wp2_with fail
   refine (next_yes HLP.out HD.out).mono ?_
   rintro e w1 ⟨v5, rfl, hb5, hl1, hf1⟩
   obtain ⟨m5, hm5⟩ : ∃ m5, m5 = (σ 0).all[(σ 0).told + i]'HD.out := ⟨_, rfl⟩
   rw [next_is HD.out] at hl1
   have hb5' : Bd w1 B v5 m5 := by rw [hm5]; exact hb5
   obtain ⟨A5, c5, rfl⟩ := Kd.R_slice hb5'
   have HM5 := Aside0.mk hm5
   have HW1 := Aside0.mk (WP.atEnd HW.out (k := 0) (by decide) hl1 (Nat.le_refl _) hf1)
   have HB1 := Aside0.mk hf1.b
   have HB5 := Aside0.mk hb5'
   clear hl1 hf1 p0 hb5 hb5' hm5
   go_wp2_with fail
   have hvs := Kd.R_slice (HW1.out.q 4 (by decide) (by decide))
   obtain ⟨A0, c0, hv⟩ := hvs
   obtain ⟨n0, hn0⟩ : ∃ n0, n0 = (h 4).length := ⟨_, rfl⟩
   rw [← hn0] at hv
   have HV := Aside0.mk (show some (v 4) = some (Value.slice A0 n0 c0) by rw [hv])
   have HVV := Aside0.mk (show Value.slice A0 n0 c0 = v 4 from hv.symm)
   have HLN := Aside0.mk (show ((h 4).length + 1) * 24 ≤ 140737488355328 by
    have e := (HW1.out.b 4 (by decide) (by decide)).1
    rw [Wd.upd_same, List.length_append, List.length_take] at e
    have := HL.out
    omega)
   clear hv hn0
   obtain ⟨u, hu⟩ : ∃ u, u = w1 := ⟨_, rfl⟩
   rw [← hu] at HW1 HB1 HB5 ⊢
   clear hu w1
   have HWP := Aside0.mk (WP.below HW1.out (below_drew (Below.refl _ u)))
   have HBD := Aside0.mk (show Bd u.drew B (encH ⟨A5, m5.length, c5⟩) m5 from HB5.out.keep (Keep5.below (below_drew (Below.refl u.heap.size u))))
   have HS0 : u.drew.cell? ⟨g, 4, none⟩ = some (.slice A0 n0 c0) := by have e : u.drew.cell? ⟨g, 4, none⟩ = some (v 4) := blk_cell HWP.out.blk 4; rw [e]; exact HV.out
   refine start_ (n := 15) (S := fun w' => w'.cell? ⟨g, 4, none⟩ = some (.slice A0 n0 c0)) (ds := [14]) #[false, false, false, false, false, false, false, false, false, false, false, false, false, false, false] (by kernel_rfl) rfl rfl HS0 (fun hHeld => ?_)
   refine pure_ (i := 0) (N := some 23) (v := ?_) (a' := ?_) #[true, false, false, false, false, false, false, false, false, false, false, false, false, false, false] rfl rfl (by kernel_rfl) (fun _ _ _ h => h) (Or.inl ⟨by rfl, ?_⟩) ?_ ?_
   rotate_left
   ·
    intro w'
    go_simp
    try with_reducible rfl
   rotate_left
   ·
    simp only [Act.put, List.setIfInBounds_toArray, List.set_cons_zero, List.set_cons_succ, i64_w, i32_w]
    rfl
   refine pure_ (i := 1) (N := some 24) (v := ?_) (a' := ?_) #[true, true, false, false, false, false, false, false, false, false, false, false, false, false, false] rfl rfl (by kernel_rfl) (fun _ _ _ h => h) (Or.inl ⟨by rfl, ?_⟩) ?_ ?_
   rotate_left
   ·
    intro w'
    go_simp
    try with_reducible rfl
   rotate_left
   ·
    simp only [Act.put, List.setIfInBounds_toArray, List.set_cons_zero, List.set_cons_succ, i64_w, i32_w]
    rfl
   refine pure_ (i := 2) (N := some 25) (v := ?_) (a' := ?_) #[true, true, true, false, false, false, false, false, false, false, false, false, false, false, false] rfl rfl (by kernel_rfl) (fun _ _ _ h => h) (Or.inl ⟨by rfl, ?_⟩) ?_ ?_
   rotate_left
   ·
    intro w'
    go_simp
    try with_reducible rfl
   rotate_left
   ·
    simp only [Act.put, List.setIfInBounds_toArray, List.set_cons_zero, List.set_cons_succ, i64_w, i32_w]
    rfl
   refine pure_ (i := 3) (N := some 26) (v := ?_) (a' := ?_) #[true, true, true, true, false, false, false, false, false, false, false, false, false, false, false] rfl rfl (by kernel_rfl) (fun _ _ _ h => h) (Or.inl ⟨by rfl, ?_⟩) ?_ ?_
   rotate_left
   ·
    intro w'
    go_simp
    try with_reducible rfl
   rotate_left
   ·
    simp only [Act.put, List.setIfInBounds_toArray, List.set_cons_zero, List.set_cons_succ, i64_w, i32_w]
    rfl
   refine pure_ (i := 8) (N := some 31) (v := ?_) (a' := ?_) #[true, true, true, true, false, false, false, false, true, false, false, false, false, false, false] rfl rfl (by kernel_rfl) (fun _ _ _ h => h) (Or.inl ⟨by rfl, ?_⟩) ?_ ?_
   rotate_left
   ·
    intro w'
    go_simp
    try with_reducible rfl
   rotate_left
   ·
    simp only [Act.put, List.setIfInBounds_toArray, List.set_cons_zero, List.set_cons_succ, i64_w, i32_w]
    rfl
   refine pure_ (i := 11) (N := some 34) (v := ?_) (a' := ?_) #[true, true, true, true, false, false, false, false, true, false, false, true, false, false, false] rfl rfl (by kernel_rfl) (fun _ _ _ h => h) (Or.inl ⟨by rfl, ?_⟩) ?_ ?_
   rotate_left
   ·
    intro w'
    go_simp
    try with_reducible rfl
   rotate_left
   ·
    simp only [Act.put, List.setIfInBounds_toArray, List.set_cons_zero, List.set_cons_succ, i64_w, i32_w]
    rfl
   refine pure_ (i := 12) (N := some 35) (v := ?_) (a' := ?_) #[true, true, true, true, false, false, false, false, true, false, false, true, true, false, false] rfl rfl (by kernel_rfl) (fun _ _ _ h => h) (Or.inl ⟨by rfl, ?_⟩) ?_ ?_
   rotate_left
   ·
    intro w'
    go_simp
    try with_reducible rfl
   rotate_left
   ·
    simp only [Act.put, List.setIfInBounds_toArray, List.set_cons_zero, List.set_cons_succ, i64_w, i32_w]
    rfl
   refine pure_ (i := 4) (N := some 27) (v := ?_) (a' := ?_) #[true, true, true, true, true, false, false, false, true, false, false, true, true, false, false] rfl rfl (by kernel_rfl) (fun _ _ _ h => h) (Or.inl ⟨by rfl, ?_⟩) ?_ ?_
   rotate_left
   ·
    intro w'
    go_simp
    try with_reducible rfl
   rotate_left
   ·
    simp only [Act.put, List.setIfInBounds_toArray, List.set_cons_zero, List.set_cons_succ, i64_w, i32_w]
    rfl
   refine pure_ (i := 5) (N := some 28) (v := ?_) (a' := ?_) #[true, true, true, true, true, true, false, false, true, false, false, true, true, false, false] rfl rfl (by kernel_rfl) (fun _ _ _ h => h) (Or.inl ⟨by rfl, ?_⟩) ?_ ?_
   rotate_left
   ·
    intro w'
    go_simp
    try with_reducible rfl
   rotate_left
   ·
    simp only [Act.put, List.setIfInBounds_toArray, List.set_cons_zero, List.set_cons_succ, i64_w, i32_w]
    rfl
   refine pure_ (i := 6) (N := some 29) (v := ?_) (a' := ?_) #[true, true, true, true, true, true, true, false, true, false, false, true, true, false, false] rfl rfl (by kernel_rfl) (fun _ _ _ h => h) (Or.inl ⟨by rfl, ?_⟩) ?_ ?_
   rotate_left
   ·
    intro w'
    go_simp
    try with_reducible rfl
   rotate_left
   ·
    simp only [Act.put, List.setIfInBounds_toArray, List.set_cons_zero, List.set_cons_succ, i64_w, i32_w]
    rfl
   refine take_ (i := 7) (N := some 30) (v := ?_) (a' := ?_) #[true, true, true, true, true, true, true, true, true, false, false, true, true, false, false] rfl rfl (by kernel_rfl) (fun _ _ _ h => h) (Or.inl ⟨by rfl, ?_⟩) hHeld ?_ ?_
   rotate_left
   ·
    intro w' q1
    go_simp
    try with_reducible rfl
   rotate_left
   ·
    simp only [Act.put, List.setIfInBounds_toArray, List.set_cons_zero, List.set_cons_succ, i64_w, i32_w]
    rfl
   refine one_ (i := 9) (N := some 32) #[true, true, true, true, true, true, true, true, true, true, false, true, true, false, false] rfl rfl (by kernel_rfl) (by decide) (fun K hK => ?_)
   refine value_ (w1 := u.drew.alloc (.cells #[encH ⟨A5, m5.length, c5⟩] 30)) (v := .slice (some ⟨u.drew.heap.size, 0, none⟩) 1 1) (by rfl) rfl (by first | (go_simp; done) | (go_simp; rfl)) ?_
   refine hK.out _ _ (pw_cell_below (below_alloc (Below.refl _ u.drew) _) HS0) (fun hHeld => ?_)
   clear hK K
   refine norm_ (a' := ?_) ?_ ?_
   rotate_left
   ·
    show Act.put _ (some 32) _ = _
    simp only [Act.put, List.setIfInBounds_toArray, List.set_cons_zero, List.set_cons_succ, i64_w, i32_w]
    rfl
   refine one_ (i := 10) (N := some 33) #[true, true, true, true, true, true, true, true, true, true, true, true, true, false, false] rfl rfl (by kernel_rfl) (by decide) (fun K hK => ?_)
   refine Kd.R_append_step kH (w0 := u.drew) B (by rfl) (.tmp 30) (.tmp 32) 44 30 (.slice none 0 0) 24 rfl Try.underlying44 info30 rfl (by decide) (by omega) (v 4) (h 4) ⟨A5, m5.length, c5⟩ [encH ⟨A5, m5.length, c5⟩] (fun k => some k = (v 4).ownBlock ∨ u.drew.heap.size ≤ k) (fun _ => False) (by exact HVV.out) rfl rfl (fun _ hk => hk.elim) (fun k hk => .inr hk) (Kd.R_mono (HWP.out.q 4 (by decide) (by decide)) (fun k hk => .inl hk)) (Below.refl _ _) HWP.out.bsz HLN.out ?_
   intro v9 w9 hq9 _ hg9 hat9
   obtain ⟨A9, c9, rfl⟩ := Kd.R_slice hq9
   have HEND := Aside0.mk (took_end HWP.out (by decide) (by decide) HBD.out hq9 hg9 hat9)
   have hblk9 := HEND.out.2.1
   clear hq9 hg9 hat9
   refine hK.out _ _ (by have := blk_cell hblk9 4; rw [this]; exact HV.out) (fun hHeld => ?_)
   clear hK K
   refine norm_ (a' := ?_) ?_ ?_
   rotate_left
   ·
    show Act.put _ (some 33) _ = _
    simp only [Act.put, List.setIfInBounds_toArray, List.set_cons_zero, List.set_cons_succ, i64_w, i32_w]
    rfl
   refine pure_ (i := 13) (N := some 36) (v := ?_) (a' := ?_) #[true, true, true, true, true, true, true, true, true, true, true, true, true, true, false] rfl rfl (by kernel_rfl) (fun _ _ _ h => h) (Or.inl ⟨by rfl, ?_⟩) ?_ ?_
   rotate_left
   ·
    intro w'
    go_simp
    try with_reducible rfl
   rotate_left
   ·
    simp only [Act.put, List.setIfInBounds_toArray, List.set_cons_zero, List.set_cons_succ, i64_w, i32_w]
    rfl
   have d1 : w9.cell? ⟨g, 4, none⟩ = some (.slice A0 n0 c0) := by have := blk_cell hblk9 4; rw [this]; exact HV.out
   have g1 : w9.frozen? ⟨g, 4, none⟩ = false := blk_frozen hblk9 4
   refine last_ (i := 14) (N := none) #[true, true, true, true, true, true, true, true, true, true, true, true, true, true, true] rfl rfl (by kernel_rfl) (by decide) (fun K hK => ?_)
   refine skip_ (w1 := w9.setCell ⟨g, 4, none⟩ (.slice A9 (h 4 ++ [(⟨A5, m5.length, c5⟩ : Hd)]).length c9)) (by rfl) rfl (by go_simp) ?_
   refine hK.out _ _ ?_
   clear hK K
   refine done_ (by kernel_rfl) ?_
   go_wp2_with fail
   go_roundw
   case rel =>
    obtain ⟨e1, _, e3⟩ := HEND.out
    rw [show (h 4 ++ [(⟨A5, m5.length, c5⟩ : Hd)]).length = (h 4).length + 1 by simp] at e1 e3
    exact ⟨i + 1, _, _, by go_num, rfl, rfl, by have := HD.out; have := HN.out; omega, ⟨TellR.next HT.out HD.out HM5.out (by decide) e1 (HB1.out.trans (((below_drew (Below.refl _ u)).mono HW1.out.bsz).trans e3))⟩⟩
   case measure => exact meas3 hi2
  ·
   have HD := Aside0.mk hd
   clear hd
   go_wp2_with fail
   refine (next_no HLP.out HD.out).mono ?_
   rintro e w1 ⟨rfl, rfl⟩
   go_wp2_with fail
   refine bodyPost_ret (results_none rfl _ _ _) rfl ?_
   exact ⟨rfl, HT.out.stop HD.out⟩
set_option maxRecDepth 100000 in
set_option maxHeartbeats 2000000 in
theorem flushR1 {σ : Nat → Lk} {ls : Nat → List (List Int)} (W : WQ w B N g σ ls) {M : Nat} (hI : Inv M (σ 1)) (hM : M ≤ 50000) (hls : (ls 7).length ≤ 1000000) :
  Calls Try.prog 44 #[.pointer (some ⟨g, 0, none⟩), .int .i64 1] w fun e w' => ∃ v5 hs5, e = .returned v5 ∧ kH.Q 30 w' w.heap.size (fun k => some k = v5.ownBlock) v5 hs5 ∧ Bods w' w.heap.size hs5 (outL (σ 1)).1 ∧ (∃ p S v h, WP w' B N g p S (Wd.upd σ 1 (outL (σ 1)).2) v h (Wd.upd ls 7 (ls 7 ++ (outL (σ 1)).1)) ∧ ∀ i, i < 2 → ∀ k, S i k → k < w.heap.size) ∧ Below B w w' := by
 obtain ⟨p, S, v, h, hw⟩ := W
 have p0 : w.cell? ⟨g, 1, none⟩ = some (.pointer (some ⟨p 1, 0, none⟩)) := blk_cell hw.blk 1
 have HSD := Aside0.mk (out_calls (hw.e 1 (by decide)) hI hM)
 have HW := Aside0.mk hw
 have HOL := Aside0.mk (show (outL (σ 1)).1.length ≤ 1000 from out_len hI)
 obtain ⟨R, hR⟩ : ∃ R, R = outL (σ 1) := ⟨_, rfl⟩
 rw [← hR] at HSD HOL ⊢
 clear hw hI hR
 go_enter Try.func44, Try.ntmps44
 go_wp2_with fail
 refine HSD.out.mono ?_
 rintro e w1 ⟨v5, rfl, hs5, hq5, hb5, hl1, hf1⟩
 obtain ⟨A5, c5, rfl, _⟩ := Kd.Q_slice hq5
 have HW1 := Aside0.mk (WP.atEnd HW.out (k := 1) (by decide) hl1 (Nat.le_refl _) hf1)
 have HF1 := Aside0.mk hf1
 have HB1 := Aside0.mk hf1.b
 have HQ5 := Aside0.mk hq5
 have HB5 := Aside0.mk hb5
 clear hl1 hf1 p0 hq5 hb5
 go_wp2_with fail
 have hvs := Kd.R_slice (HW1.out.q 7 (by decide) (by decide))
 obtain ⟨A0, c0, hv⟩ := hvs
 obtain ⟨n0, hn0⟩ : ∃ n0, n0 = (h 7).length := ⟨_, rfl⟩
 rw [← hn0] at hv
 have HV := Aside0.mk (show some (v 7) = some (Value.slice A0 n0 c0) by rw [hv])
 have HVV := Aside0.mk (show Value.slice A0 n0 c0 = v 7 from hv.symm)
 have HLN := Aside0.mk (show ((h 7).length + hs5.length) * 24 ≤ 140737488355328 by have e := (HW1.out.b 7 (by decide) (by decide)).1; have e2 := HB5.out.1; have e3 := HOL.out; omega)
 clear hv hn0 hls
 obtain ⟨u, hu⟩ : ∃ u, u = w1 := ⟨_, rfl⟩
 rw [← hu] at HW1 HF1 HB1 HQ5 HB5 ⊢
 clear hu w1
 have HWP := Aside0.mk (WP.below HW1.out (below_drew (Below.refl _ u)))
 have HC5 := Aside0.mk (Kd.C_drew (Kd.Q_reads' HQ5.out).2.2)
 have HBS := Aside0.mk (bods_low (HB5.out.keep (Keep5.below (below_drew (Below.refl u.heap.size u)))) HW.out.bsz)
 have HS0 : u.drew.cell? ⟨g, 7, none⟩ = some (.slice A0 n0 c0) := by have e : u.drew.cell? ⟨g, 7, none⟩ = some (v 7) := blk_cell HWP.out.blk 7; rw [e]; exact HV.out
 refine start_ (n := 14) (S := fun w' => w'.cell? ⟨g, 7, none⟩ = some (.slice A0 n0 c0)) (ds := [13]) #[false, false, false, false, false, false, false, false, false, false, false, false, false, false] (by kernel_rfl) rfl rfl HS0 (fun hHeld => ?_)
 refine pure_ (i := 0) (N := some 13) (v := ?_) (a' := ?_) #[true, false, false, false, false, false, false, false, false, false, false, false, false, false] rfl rfl (by kernel_rfl) (fun _ _ _ h => h) (Or.inl ⟨by rfl, ?_⟩) ?_ ?_
 rotate_left
 ·
  intro w'
  go_simp
  try with_reducible rfl
 rotate_left
 ·
  simp only [Act.put, List.setIfInBounds_toArray, List.set_cons_zero, List.set_cons_succ, i64_w, i32_w]
  rfl
 refine pure_ (i := 1) (N := some 14) (v := ?_) (a' := ?_) #[true, true, false, false, false, false, false, false, false, false, false, false, false, false] rfl rfl (by kernel_rfl) (fun _ _ _ h => h) (Or.inl ⟨by rfl, ?_⟩) ?_ ?_
 rotate_left
 ·
  intro w'
  go_simp
  try with_reducible rfl
 rotate_left
 ·
  simp only [Act.put, List.setIfInBounds_toArray, List.set_cons_zero, List.set_cons_succ, i64_w, i32_w]
  rfl
 refine pure_ (i := 2) (N := some 15) (v := ?_) (a' := ?_) #[true, true, true, false, false, false, false, false, false, false, false, false, false, false] rfl rfl (by kernel_rfl) (fun _ _ _ h => h) (Or.inl ⟨by rfl, ?_⟩) ?_ ?_
 rotate_left
 ·
  intro w'
  go_simp
  try with_reducible rfl
 rotate_left
 ·
  simp only [Act.put, List.setIfInBounds_toArray, List.set_cons_zero, List.set_cons_succ, i64_w, i32_w]
  rfl
 refine pure_ (i := 3) (N := some 16) (v := ?_) (a' := ?_) #[true, true, true, true, false, false, false, false, false, false, false, false, false, false] rfl rfl (by kernel_rfl) (fun _ _ _ h => h) (Or.inl ⟨by rfl, ?_⟩) ?_ ?_
 rotate_left
 ·
  intro w'
  go_simp
  try with_reducible rfl
 rotate_left
 ·
  simp only [Act.put, List.setIfInBounds_toArray, List.set_cons_zero, List.set_cons_succ, i64_w, i32_w]
  rfl
 refine pure_ (i := 8) (N := some 21) (v := ?_) (a' := ?_) #[true, true, true, true, false, false, false, false, true, false, false, false, false, false] rfl rfl (by kernel_rfl) (fun _ _ _ h => h) (Or.inl ⟨by rfl, ?_⟩) ?_ ?_
 rotate_left
 ·
  intro w'
  go_simp
  try with_reducible rfl
 rotate_left
 ·
  simp only [Act.put, List.setIfInBounds_toArray, List.set_cons_zero, List.set_cons_succ, i64_w, i32_w]
  rfl
 refine pure_ (i := 10) (N := some 23) (v := ?_) (a' := ?_) #[true, true, true, true, false, false, false, false, true, false, true, false, false, false] rfl rfl (by kernel_rfl) (fun _ _ _ h => h) (Or.inl ⟨by rfl, ?_⟩) ?_ ?_
 rotate_left
 ·
  intro w'
  go_simp
  try with_reducible rfl
 rotate_left
 ·
  simp only [Act.put, List.setIfInBounds_toArray, List.set_cons_zero, List.set_cons_succ, i64_w, i32_w]
  rfl
 refine pure_ (i := 11) (N := some 24) (v := ?_) (a' := ?_) #[true, true, true, true, false, false, false, false, true, false, true, true, false, false] rfl rfl (by kernel_rfl) (fun _ _ _ h => h) (Or.inl ⟨by rfl, ?_⟩) ?_ ?_
 rotate_left
 ·
  intro w'
  go_simp
  try with_reducible rfl
 rotate_left
 ·
  simp only [Act.put, List.setIfInBounds_toArray, List.set_cons_zero, List.set_cons_succ, i64_w, i32_w]
  rfl
 refine pure_ (i := 4) (N := some 17) (v := ?_) (a' := ?_) #[true, true, true, true, true, false, false, false, true, false, true, true, false, false] rfl rfl (by kernel_rfl) (fun _ _ _ h => h) (Or.inl ⟨by rfl, ?_⟩) ?_ ?_
 rotate_left
 ·
  intro w'
  go_simp
  try with_reducible rfl
 rotate_left
 ·
  simp only [Act.put, List.setIfInBounds_toArray, List.set_cons_zero, List.set_cons_succ, i64_w, i32_w]
  rfl
 refine pure_ (i := 5) (N := some 18) (v := ?_) (a' := ?_) #[true, true, true, true, true, true, false, false, true, false, true, true, false, false] rfl rfl (by kernel_rfl) (fun _ _ _ h => h) (Or.inl ⟨by rfl, ?_⟩) ?_ ?_
 rotate_left
 ·
  intro w'
  go_simp
  try with_reducible rfl
 rotate_left
 ·
  simp only [Act.put, List.setIfInBounds_toArray, List.set_cons_zero, List.set_cons_succ, i64_w, i32_w]
  rfl
 refine pure_ (i := 6) (N := some 19) (v := ?_) (a' := ?_) #[true, true, true, true, true, true, true, false, true, false, true, true, false, false] rfl rfl (by kernel_rfl) (fun _ _ _ h => h) (Or.inl ⟨by rfl, ?_⟩) ?_ ?_
 rotate_left
 ·
  intro w'
  go_simp
  try with_reducible rfl
 rotate_left
 ·
  simp only [Act.put, List.setIfInBounds_toArray, List.set_cons_zero, List.set_cons_succ, i64_w, i32_w]
  rfl
 refine take_ (i := 7) (N := some 20) (v := ?_) (a' := ?_) #[true, true, true, true, true, true, true, true, true, false, true, true, false, false] rfl rfl (by kernel_rfl) (fun _ _ _ h => h) (Or.inl ⟨by rfl, ?_⟩) hHeld ?_ ?_
 rotate_left
 ·
  intro w' q1
  go_simp
  try with_reducible rfl
 rotate_left
 ·
  simp only [Act.put, List.setIfInBounds_toArray, List.set_cons_zero, List.set_cons_succ, i64_w, i32_w]
  rfl
 refine one_ (i := 9) (N := some 22) #[true, true, true, true, true, true, true, true, true, true, true, true, false, false] rfl rfl (by kernel_rfl) (by decide) (fun K hK => ?_)
 refine Kd.R_append_rows_step kH (w0 := u.drew) B (by rfl) (.tmp 20) (.tmp 21) 44 30 (.slice none 0 0) 24 rfl Try.underlying44 info30 rfl (by decide) (by omega) (v 7) (h 7) hs5 _ _ _ (fun k => some k = (v 7).ownBlock ∨ u.drew.heap.size ≤ k) (fun _ => False) (by exact HVV.out) rfl (Kd.R_mono (HWP.out.q 7 (by decide) (by decide)) (fun k hk => .inl hk)) HC5.out (fun _ _ h => h) (fun _ hk => hk.elim) (fun k hk => .inr hk) (Below.refl _ _) HWP.out.bsz HLN.out ?_
 intro v9 w9 hq9 _ hg9 hat9
 obtain ⟨A9, c9, rfl⟩ := Kd.R_slice hq9
 have HEND := Aside0.mk (out_end HWP.out (by decide) (by decide) HBS.out hq9 hg9 hat9)
 have hblk9 := HEND.out.2.1
 clear hq9 hg9 hat9
 refine hK.out _ _ (by have := blk_cell hblk9 7; rw [this]; exact HV.out) (fun hHeld => ?_)
 clear hK K
 refine norm_ (a' := ?_) ?_ ?_
 rotate_left
 ·
  show Act.put _ (some 22) _ = _
  simp only [Act.put, List.setIfInBounds_toArray, List.set_cons_zero, List.set_cons_succ, i64_w, i32_w]
  rfl
 refine pure_ (i := 12) (N := some 25) (v := ?_) (a' := ?_) #[true, true, true, true, true, true, true, true, true, true, true, true, true, false] rfl rfl (by kernel_rfl) (fun _ _ _ h => h) (Or.inl ⟨by rfl, ?_⟩) ?_ ?_
 rotate_left
 ·
  intro w'
  go_simp
  try with_reducible rfl
 rotate_left
 ·
  simp only [Act.put, List.setIfInBounds_toArray, List.set_cons_zero, List.set_cons_succ, i64_w, i32_w]
  rfl
 have d1 : w9.cell? ⟨g, 7, none⟩ = some (.slice A0 n0 c0) := by have := blk_cell hblk9 7; rw [this]; exact HV.out
 have g1 : w9.frozen? ⟨g, 7, none⟩ = false := blk_frozen hblk9 7
 refine last_ (i := 13) (N := none) #[true, true, true, true, true, true, true, true, true, true, true, true, true, true] rfl rfl (by kernel_rfl) (by decide) (fun K hK => ?_)
 refine skip_ (w1 := w9.setCell ⟨g, 7, none⟩ (.slice A9 (h 7 ++ hs5).length c9)) (by rfl) rfl (by go_simp) ?_
 refine hK.out _ _ ?_
 clear hK K
 refine done_ (by kernel_rfl) ?_
 go_wp2_with fail
 go_ret
 obtain ⟨⟨e1, e5⟩, _, e3, e4⟩ := HEND.out
 have hqd := Kd.Q_drew HQ5.out
 have hk : ∀ k, some k = (Value.slice A5 hs5.length c5).ownBlock → w.heap.size ≤ k := fun k hk => Kd.Q_base HQ5.out k hk.symm
 refine ⟨_, hs5, rfl, Kd.Q_far (Kd.Q_grown hqd e4 (fun k hk0 e => by have := HW.out.rlt (j := 7) (by decide) (by decide) k e.symm; have := hk k hk0; omega)) (fun k hk0 e => by have := hk k hk0; have := blk_lt HW.out.blk; have e' : k = g := e; omega) _, ?_, ⟨_, _, _, _, e1, fun i hi k hs => ?_⟩, HB1.out.trans (((below_drew (Below.refl _ u)).mono HW1.out.bsz).trans e3)⟩
 ·
  exact (HB5.out.keep (Keep5.below (below_drew (Below.refl u.heap.size u)))).keep e5
 ·
  by_cases e : i = 1
  ·
   subst e
   rw [Wd.upd_same] at hs
   exact LP.lt (HW.out.e 1 (by decide)) k hs
  ·
   rw [Wd.upd_ne _ _ e] at hs
   exact LP.lt (HW.out.e i hi) k hs
theorem flush1 {σ : Nat → Lk} {ls : Nat → List (List Int)} (W : WQ w B N g σ ls) {M : Nat} (hI : Inv M (σ 1)) (hM : M ≤ 50000) (hls : (ls 7).length ≤ 1000000) :
  Calls Try.prog 44 #[.pointer (some ⟨g, 0, none⟩), .int .i64 1] w fun e w' => ∃ v5 hs5, e = .returned v5 ∧ kH.Q 30 w' w.heap.size (fun k => some k = v5.ownBlock) v5 hs5 ∧ Bods w' w.heap.size hs5 (outL (σ 1)).1 ∧ WQ w' B N g (Wd.upd σ 1 (outL (σ 1)).2) (Wd.upd ls 7 (ls 7 ++ (outL (σ 1)).1)) ∧ Below B w w' := by
 refine (flushR1 W hI hM hls).mono ?_
 rintro e w' ⟨v5, hs5, h1, h2, h3, ⟨p, S, v, h, h4, _⟩, h5⟩
 exact ⟨v5, hs5, h1, h2, h3, ⟨p, S, v, h, h4⟩, h5⟩
set_option maxRecDepth 100000 in
set_option maxHeartbeats 2000000 in
theorem tell1 {σ : Nat → Lk} {ls : Nat → List (List Int)} (W : WQ w B N g σ ls) (hn : (σ 1).all.length ≤ (σ 1).told + 1900) (hls : (ls 5).length ≤ 100000) :
  Calls Try.prog 73 #[.pointer (some ⟨g, 0, none⟩), .int .i64 1] w fun e w' => e = .returned (.tuple #[]) ∧ WQ w' B N g (Wd.upd σ 1 { σ 1 with told := max (σ 1).told (σ 1).all.length }) (Wd.upd ls 5 (ls 5 ++ (σ 1).all.drop (σ 1).told)) ∧ Below B w w' := by
 have HN := Aside0.mk hn
 have HL := Aside0.mk hls
 have h0 : TellR w w B N g σ ls 1 5 0 := TellR.start W (by decide)
 have H0 := Aside0.mk h0
 clear W hn hls h0
 go_enter Try.func73, Try.ntmps73
 go_wp2_with fail
 go_loopw [4, 5, 6] (fun v4 v5 v6 wr => ∃ (i : Nat) (a b : Value), v4 = .int .i64 (i : Int) ∧ v5 = a ∧ v6 = b ∧ i ≤ 1900 ∧ Aside0 (TellR w wr B N g σ ls 1 5 i)) (fun v4 _ _ _ => 2000 - (intOf v4).toNat)
 case atStart => exact ⟨0, _, _, rfl, rfl, rfl, by omega, H0⟩
 case round =>
  obtain ⟨i, a, b, rfl, rfl, rfl, hi, HT⟩ := hrel
  obtain ⟨p, S, v, h, hw⟩ := HT.out.wp
  have p0 : wr.cell? ⟨g, 1, none⟩ = some (.pointer (some ⟨p 1, 0, none⟩)) := blk_cell hw.blk 1
  have hlp := hw.e 1 (by decide)
  rw [Wd.upd_same] at hlp
  have HLP := Aside0.mk hlp
  have HW := Aside0.mk hw
  have hi2 : (i : Int) < 2000 := by omega
  have hwi : wrap64 ((i : Int) + 1) = (i : Int) + 1 := by unfold wrap64; omega
  clear hw hlp
  by_cases hd : (σ 1).told + i < (σ 1).all.length
  ·
   have HD := Aside0.mk hd
   clear hd
   go_wp2_with fail
   refine (next_yes HLP.out HD.out).mono ?_
   rintro e w1 ⟨v5, rfl, hb5, hl1, hf1⟩
   obtain ⟨m5, hm5⟩ : ∃ m5, m5 = (σ 1).all[(σ 1).told + i]'HD.out := ⟨_, rfl⟩
   rw [next_is HD.out] at hl1
   have hb5' : Bd w1 B v5 m5 := by rw [hm5]; exact hb5
   obtain ⟨A5, c5, rfl⟩ := Kd.R_slice hb5'
   have HM5 := Aside0.mk hm5
   have HW1 := Aside0.mk (WP.atEnd HW.out (k := 1) (by decide) hl1 (Nat.le_refl _) hf1)
   have HB1 := Aside0.mk hf1.b
   have HB5 := Aside0.mk hb5'
   clear hl1 hf1 p0 hb5 hb5' hm5
   go_wp2_with fail
   have hvs := Kd.R_slice (HW1.out.q 5 (by decide) (by decide))
   obtain ⟨A0, c0, hv⟩ := hvs
   obtain ⟨n0, hn0⟩ : ∃ n0, n0 = (h 5).length := ⟨_, rfl⟩
   rw [← hn0] at hv
   have HV := Aside0.mk (show some (v 5) = some (Value.slice A0 n0 c0) by rw [hv])
   have HVV := Aside0.mk (show Value.slice A0 n0 c0 = v 5 from hv.symm)
   have HLN := Aside0.mk (show ((h 5).length + 1) * 24 ≤ 140737488355328 by
    have e := (HW1.out.b 5 (by decide) (by decide)).1
    rw [Wd.upd_same, List.length_append, List.length_take] at e
    have := HL.out
    omega)
   clear hv hn0
   obtain ⟨u, hu⟩ : ∃ u, u = w1 := ⟨_, rfl⟩
   rw [← hu] at HW1 HB1 HB5 ⊢
   clear hu w1
   have HWP := Aside0.mk (WP.below HW1.out (below_drew (Below.refl _ u)))
   have HBD := Aside0.mk (show Bd u.drew B (encH ⟨A5, m5.length, c5⟩) m5 from HB5.out.keep (Keep5.below (below_drew (Below.refl u.heap.size u))))
   have HS0 : u.drew.cell? ⟨g, 5, none⟩ = some (.slice A0 n0 c0) := by have e : u.drew.cell? ⟨g, 5, none⟩ = some (v 5) := blk_cell HWP.out.blk 5; rw [e]; exact HV.out
   refine start_ (n := 15) (S := fun w' => w'.cell? ⟨g, 5, none⟩ = some (.slice A0 n0 c0)) (ds := [14]) #[false, false, false, false, false, false, false, false, false, false, false, false, false, false, false] (by kernel_rfl) rfl rfl HS0 (fun hHeld => ?_)
   refine pure_ (i := 0) (N := some 23) (v := ?_) (a' := ?_) #[true, false, false, false, false, false, false, false, false, false, false, false, false, false, false] rfl rfl (by kernel_rfl) (fun _ _ _ h => h) (Or.inl ⟨by rfl, ?_⟩) ?_ ?_
   rotate_left
   ·
    intro w'
    go_simp
    try with_reducible rfl
   rotate_left
   ·
    simp only [Act.put, List.setIfInBounds_toArray, List.set_cons_zero, List.set_cons_succ, i64_w, i32_w]
    rfl
   refine pure_ (i := 1) (N := some 24) (v := ?_) (a' := ?_) #[true, true, false, false, false, false, false, false, false, false, false, false, false, false, false] rfl rfl (by kernel_rfl) (fun _ _ _ h => h) (Or.inl ⟨by rfl, ?_⟩) ?_ ?_
   rotate_left
   ·
    intro w'
    go_simp
    try with_reducible rfl
   rotate_left
   ·
    simp only [Act.put, List.setIfInBounds_toArray, List.set_cons_zero, List.set_cons_succ, i64_w, i32_w]
    rfl
   refine pure_ (i := 2) (N := some 25) (v := ?_) (a' := ?_) #[true, true, true, false, false, false, false, false, false, false, false, false, false, false, false] rfl rfl (by kernel_rfl) (fun _ _ _ h => h) (Or.inl ⟨by rfl, ?_⟩) ?_ ?_
   rotate_left
   ·
    intro w'
    go_simp
    try with_reducible rfl
   rotate_left
   ·
    simp only [Act.put, List.setIfInBounds_toArray, List.set_cons_zero, List.set_cons_succ, i64_w, i32_w]
    rfl
   refine pure_ (i := 3) (N := some 26) (v := ?_) (a' := ?_) #[true, true, true, true, false, false, false, false, false, false, false, false, false, false, false] rfl rfl (by kernel_rfl) (fun _ _ _ h => h) (Or.inl ⟨by rfl, ?_⟩) ?_ ?_
   rotate_left
   ·
    intro w'
    go_simp
    try with_reducible rfl
   rotate_left
   ·
    simp only [Act.put, List.setIfInBounds_toArray, List.set_cons_zero, List.set_cons_succ, i64_w, i32_w]
    rfl
   refine pure_ (i := 8) (N := some 31) (v := ?_) (a' := ?_) #[true, true, true, true, false, false, false, false, true, false, false, false, false, false, false] rfl rfl (by kernel_rfl) (fun _ _ _ h => h) (Or.inl ⟨by rfl, ?_⟩) ?_ ?_
   rotate_left
   ·
    intro w'
    go_simp
    try with_reducible rfl
   rotate_left
   ·
    simp only [Act.put, List.setIfInBounds_toArray, List.set_cons_zero, List.set_cons_succ, i64_w, i32_w]
    rfl
   refine pure_ (i := 11) (N := some 34) (v := ?_) (a' := ?_) #[true, true, true, true, false, false, false, false, true, false, false, true, false, false, false] rfl rfl (by kernel_rfl) (fun _ _ _ h => h) (Or.inl ⟨by rfl, ?_⟩) ?_ ?_
   rotate_left
   ·
    intro w'
    go_simp
    try with_reducible rfl
   rotate_left
   ·
    simp only [Act.put, List.setIfInBounds_toArray, List.set_cons_zero, List.set_cons_succ, i64_w, i32_w]
    rfl
   refine pure_ (i := 12) (N := some 35) (v := ?_) (a' := ?_) #[true, true, true, true, false, false, false, false, true, false, false, true, true, false, false] rfl rfl (by kernel_rfl) (fun _ _ _ h => h) (Or.inl ⟨by rfl, ?_⟩) ?_ ?_
   rotate_left
   ·
    intro w'
    go_simp
    try with_reducible rfl
   rotate_left
   ·
    simp only [Act.put, List.setIfInBounds_toArray, List.set_cons_zero, List.set_cons_succ, i64_w, i32_w]
    rfl
   refine pure_ (i := 4) (N := some 27) (v := ?_) (a' := ?_) #[true, true, true, true, true, false, false, false, true, false, false, true, true, false, false] rfl rfl (by kernel_rfl) (fun _ _ _ h => h) (Or.inl ⟨by rfl, ?_⟩) ?_ ?_
   rotate_left
   ·
    intro w'
    go_simp
    try with_reducible rfl
   rotate_left
   ·
    simp only [Act.put, List.setIfInBounds_toArray, List.set_cons_zero, List.set_cons_succ, i64_w, i32_w]
    rfl
   refine pure_ (i := 5) (N := some 28) (v := ?_) (a' := ?_) #[true, true, true, true, true, true, false, false, true, false, false, true, true, false, false] rfl rfl (by kernel_rfl) (fun _ _ _ h => h) (Or.inl ⟨by rfl, ?_⟩) ?_ ?_
   rotate_left
   ·
    intro w'
    go_simp
    try with_reducible rfl
   rotate_left
   ·
    simp only [Act.put, List.setIfInBounds_toArray, List.set_cons_zero, List.set_cons_succ, i64_w, i32_w]
    rfl
   refine pure_ (i := 6) (N := some 29) (v := ?_) (a' := ?_) #[true, true, true, true, true, true, true, false, true, false, false, true, true, false, false] rfl rfl (by kernel_rfl) (fun _ _ _ h => h) (Or.inl ⟨by rfl, ?_⟩) ?_ ?_
   rotate_left
   ·
    intro w'
    go_simp
    try with_reducible rfl
   rotate_left
   ·
    simp only [Act.put, List.setIfInBounds_toArray, List.set_cons_zero, List.set_cons_succ, i64_w, i32_w]
    rfl
   refine take_ (i := 7) (N := some 30) (v := ?_) (a' := ?_) #[true, true, true, true, true, true, true, true, true, false, false, true, true, false, false] rfl rfl (by kernel_rfl) (fun _ _ _ h => h) (Or.inl ⟨by rfl, ?_⟩) hHeld ?_ ?_
   rotate_left
   ·
    intro w' q1
    go_simp
    try with_reducible rfl
   rotate_left
   ·
    simp only [Act.put, List.setIfInBounds_toArray, List.set_cons_zero, List.set_cons_succ, i64_w, i32_w]
    rfl
   refine one_ (i := 9) (N := some 32) #[true, true, true, true, true, true, true, true, true, true, false, true, true, false, false] rfl rfl (by kernel_rfl) (by decide) (fun K hK => ?_)
   refine value_ (w1 := u.drew.alloc (.cells #[encH ⟨A5, m5.length, c5⟩] 30)) (v := .slice (some ⟨u.drew.heap.size, 0, none⟩) 1 1) (by rfl) rfl (by first | (go_simp; done) | (go_simp; rfl)) ?_
   refine hK.out _ _ (pw_cell_below (below_alloc (Below.refl _ u.drew) _) HS0) (fun hHeld => ?_)
   clear hK K
   refine norm_ (a' := ?_) ?_ ?_
   rotate_left
   ·
    show Act.put _ (some 32) _ = _
    simp only [Act.put, List.setIfInBounds_toArray, List.set_cons_zero, List.set_cons_succ, i64_w, i32_w]
    rfl
   refine one_ (i := 10) (N := some 33) #[true, true, true, true, true, true, true, true, true, true, true, true, true, false, false] rfl rfl (by kernel_rfl) (by decide) (fun K hK => ?_)
   refine Kd.R_append_step kH (w0 := u.drew) B (by rfl) (.tmp 30) (.tmp 32) 44 30 (.slice none 0 0) 24 rfl Try.underlying44 info30 rfl (by decide) (by omega) (v 5) (h 5) ⟨A5, m5.length, c5⟩ [encH ⟨A5, m5.length, c5⟩] (fun k => some k = (v 5).ownBlock ∨ u.drew.heap.size ≤ k) (fun _ => False) (by exact HVV.out) rfl rfl (fun _ hk => hk.elim) (fun k hk => .inr hk) (Kd.R_mono (HWP.out.q 5 (by decide) (by decide)) (fun k hk => .inl hk)) (Below.refl _ _) HWP.out.bsz HLN.out ?_
   intro v9 w9 hq9 _ hg9 hat9
   obtain ⟨A9, c9, rfl⟩ := Kd.R_slice hq9
   have HEND := Aside0.mk (took_end HWP.out (by decide) (by decide) HBD.out hq9 hg9 hat9)
   have hblk9 := HEND.out.2.1
   clear hq9 hg9 hat9
   refine hK.out _ _ (by have := blk_cell hblk9 5; rw [this]; exact HV.out) (fun hHeld => ?_)
   clear hK K
   refine norm_ (a' := ?_) ?_ ?_
   rotate_left
   ·
    show Act.put _ (some 33) _ = _
    simp only [Act.put, List.setIfInBounds_toArray, List.set_cons_zero, List.set_cons_succ, i64_w, i32_w]
    rfl
   refine pure_ (i := 13) (N := some 36) (v := ?_) (a' := ?_) #[true, true, true, true, true, true, true, true, true, true, true, true, true, true, false] rfl rfl (by kernel_rfl) (fun _ _ _ h => h) (Or.inl ⟨by rfl, ?_⟩) ?_ ?_
   rotate_left
   ·
    intro w'
    go_simp
    try with_reducible rfl
   rotate_left
   ·
    simp only [Act.put, List.setIfInBounds_toArray, List.set_cons_zero, List.set_cons_succ, i64_w, i32_w]
    rfl
   have d1 : w9.cell? ⟨g, 5, none⟩ = some (.slice A0 n0 c0) := by have := blk_cell hblk9 5; rw [this]; exact HV.out
   have g1 : w9.frozen? ⟨g, 5, none⟩ = false := blk_frozen hblk9 5
   refine last_ (i := 14) (N := none) #[true, true, true, true, true, true, true, true, true, true, true, true, true, true, true] rfl rfl (by kernel_rfl) (by decide) (fun K hK => ?_)
   refine skip_ (w1 := w9.setCell ⟨g, 5, none⟩ (.slice A9 (h 5 ++ [(⟨A5, m5.length, c5⟩ : Hd)]).length c9)) (by rfl) rfl (by go_simp) ?_
   refine hK.out _ _ ?_
   clear hK K
   refine done_ (by kernel_rfl) ?_
   go_wp2_with fail
   go_roundw
   case rel =>
    obtain ⟨e1, _, e3⟩ := HEND.out
    rw [show (h 5 ++ [(⟨A5, m5.length, c5⟩ : Hd)]).length = (h 5).length + 1 by simp] at e1 e3
    exact ⟨i + 1, _, _, by go_num, rfl, rfl, by have := HD.out; have := HN.out; omega, ⟨TellR.next HT.out HD.out HM5.out (by decide) e1 (HB1.out.trans (((below_drew (Below.refl _ u)).mono HW1.out.bsz).trans e3))⟩⟩
   case measure => exact meas3 hi2
  ·
   have HD := Aside0.mk hd
   clear hd
   go_wp2_with fail
   refine (next_no HLP.out HD.out).mono ?_
   rintro e w1 ⟨rfl, rfl⟩
   go_wp2_with fail
   refine bodyPost_ret (results_none rfl _ _ _) rfl ?_
   exact ⟨rfl, HT.out.stop HD.out⟩
end Go.Proofs.Ytekakngojhnleaa.Wg
/- Links: the laws' World: what an end got is the beginning of what the other one took. -/
namespace Go.Proofs.Ytekakngojhnleaa.Wh
open Go.RowKit Go.Maps Go.Proofs.Ytekakngojhnleaa.De Go.Proofs.Ytekakngojhnleaa.Mp Go.Proofs.Ytekakngojhnleaa.Mq Go.Proofs.Ytekakngojhnleaa.Lp Go.Proofs.Ytekakngojhnleaa.Lm Go.Proofs.Ytekakngojhnleaa.La Go.Proofs.Ytekakngojhnleaa.Lb Go.Proofs.Ytekakngojhnleaa.Lc Go.Proofs.Ytekakngojhnleaa.Ld Go.Proofs.Ytekakngojhnleaa.Le Go.Proofs.Ytekakngojhnleaa.Ow Go.Proofs.Ytekakngojhnleaa.Wd Go.Proofs.Ytekakngojhnleaa.We Go.Proofs.Ytekakngojhnleaa.Wf Go.Proofs.Ytekakngojhnleaa.Wg Go.Proofs.Ytekakngojhnleaa.Pr Go.Proofs.YtekakngojhnleaaW.PrintWords Go.Proofs.YtekakngojhnleaaW.PrintLast Go.Proofs.YtekakngojhnleaaW.PrintMore
set_option linter.unusedVariables false
set_option linter.unusedSimpArgs false
variable {w w' : World} {B N g : Nat}

/-- Headers and bodies are read as a list of lists of bytes. -/
theorem rows_C {A : Option Addr} {n : Nat} {hs : List Hd} {ls : List (List Int)} (h : kH.C w A n hs) (hb : Bods w B hs ls) : (Kd.slice 5 (Kd.int .u8)).C w A n ls := by
 refine ⟨by rw [← hb.1]; exact h.1, h.2.1, fun hn => ?_⟩
 obtain ⟨ad, e, hc⟩ := h.2.2 hn
 refine ⟨ad, e, fun j p hj => ?_⟩
 have hjl : j < ls.length := by
  rcases Nat.lt_or_ge j ls.length with h1 | h1
  ·
   exact h1
  ·
   rw [List.getElem?_eq_none h1] at hj; cases hj
 have hj2 : hs[j]? = some (hs[j]'(by rw [hb.1]; exact hjl)) := List.getElem?_eq_getElem _
 obtain ⟨c, h1, h2, h3⟩ := hc j _ hj2
 have hbd := hb.2 j _ p hj2 hj
 obtain ⟨e1, e2, e3⟩ := Kd.R_reads' hbd
 have h2' : c = [encH (hs[j]'(by rw [hb.1]; exact hjl))] := h2
 refine ⟨c, h1, ⟨(hs[j]'(by rw [hb.1]; exact hjl)).a, (hs[j]'(by rw [hb.1]; exact hjl)).c, ?_, by rw [← e1]; exact e2, e3⟩, h3⟩
 rw [h2', encH, e1]
def bytesL (a : List (List Int)) : Prop := ∀ l ∈ a, ∀ x ∈ l, 0 ≤ x ∧ x < 256
theorem str_eq {a b : List Int} (ha : ∀ x ∈ a, 0 ≤ x ∧ x < 256) (hb : ∀ x ∈ b, 0 ≤ x ∧ x < 256) : ((strOfNums a).toList == (strOfNums b).toList) = decide (a = b) := by
 by_cases e : a = b
 ·
  rw [e, decide_eq_true rfl]; simp
 ·
  rw [decide_eq_false e, beq_eq_false_iff_ne]
  exact fun e2 => e (strOfNums_inj ha hb e2)
theorem meas4 {i n : Nat} (h : i < n) : n - (intOf (.int .i64 ((i : Int) + 1))).toNat < n - (intOf (.int .i64 (i : Int))).toNat := by
 simp only [intOf]
 omega
theorem take_next {a b : List (List Int)} {i : Nat} (h : a.take i = b.take i) (h1 : i < a.length) (h2 : i < b.length) (e : a[i] = b[i]) : a.take (i + 1) = b.take (i + 1) := by
 rw [List.take_add_one, List.take_add_one, h, List.getElem?_eq_getElem h1, List.getElem?_eq_getElem h2, e]
set_option maxRecDepth 100000 in
set_option maxHeartbeats 1000000 in
theorem same_calls {A0 A1 : Option Addr} {c0 c1 : Nat} {h0 h1 : List Hd} {a b : List (List Int)} (ha : kH.C w A0 h0.length h0) (hb : kH.C w A1 h1.length h1) (ba : Bods w B h0 a) (bb : Bods w B h1 b) (xa : bytesL a) (xb : bytesL b) (hn : h0.length ≤ 1000000) :
  Calls Try.prog 35 #[.slice A0 h0.length c0, .slice A1 h1.length c1] w fun e w' => e = .returned (.bool (decide (a = b))) ∧ Below w.heap.size w w' := by
 obtain ⟨R, hR⟩ : ∃ R, R = decide (a = b) := ⟨_, rfl⟩
 rw [← hR]
 have HR := Aside0.mk hR
 have HA := Aside0.mk ha
 have HB := Aside0.mk hb
 have BA := Aside0.mk ba
 have BB := Aside0.mk bb
 have XA := Aside0.mk xa
 have XB := Aside0.mk xb
 clear hR
 by_cases hl : h0.length = h1.length
 ·
  have hlb : ((h0.length : Int) != (h1.length : Int)) = false := by rw [bne_eq_false_iff_eq, hl]
  obtain ⟨n, hn0⟩ : ∃ n, n = h0.length := ⟨_, rfl⟩
  have HN := Aside0.mk (show n = h0.length ∧ n = h1.length ∧ n = a.length ∧ n = b.length by have := ba.1; have := bb.1; omega)
  rw [← hl, ← hn0]
  rw [← hl, ← hn0] at hlb
  have hn2 : n ≤ 1000000 := by omega
  clear ha hb ba bb xa xb hl hn hn0
  by_cases hz : n = 0
  ·
   have HZ := Aside0.mk (show R = true by
    rw [HR.out]
    exact decide_eq_true (by rw [List.eq_nil_of_length_eq_zero (by have := HN.out; omega : a.length = 0), List.eq_nil_of_length_eq_zero (by have := HN.out; omega : b.length = 0)]))
   subst hz
   go_enter Try.func35, Try.ntmps35
   go_wp2_with fail
   clear hlb
   go_loopw [5] (fun v5 wr => v5 = .int .i64 0 ∧ Aside0 (Below w.heap.size w wr)) (fun v5 _ => 1 - (intOf v5).toNat)
   case atStart => exact ⟨rfl, ⟨Below.refl _ _⟩⟩
   case round =>
    obtain ⟨rfl, HW⟩ := hrel
    go_wp2_with fail
    go_ret
    rw [HZ.out]
    exact ⟨rfl, HW.out⟩
  obtain ⟨ad0, rfl, _⟩ := at_H HA.out 0 (by omega) (by have := HN.out; omega)
  obtain ⟨ad1, rfl, _⟩ := at_H HB.out 0 (by omega) (by have := HN.out; omega)
  clear hz
  go_enter Try.func35, Try.ntmps35
  go_wp2_with fail
  clear hlb
  go_loopw [5] (fun v5 wr => ∃ i : Nat, v5 = .int .i64 (i : Int) ∧ i ≤ n ∧ Aside0 (a.take i = b.take i) ∧ Aside0 (Below w.heap.size w wr)) (fun v5 _ => n - (intOf v5).toNat)
  case atStart => exact ⟨0, rfl, Nat.zero_le _, ⟨rfl⟩, ⟨Below.refl _ _⟩⟩
  case round =>
   obtain ⟨i, rfl, hi, HT, HW⟩ := hrel
   by_cases hlt : i < n
   ·
    obtain ⟨ha', hb', hx0, hx1⟩ : i < a.length ∧ i < b.length ∧ i < h0.length ∧ i < h1.length := by have := HN.out; omega
    obtain ⟨_, hA0, q0⟩ := at_H HA.out (i : Int) (by omega) (by omega)
    obtain ⟨_, hA1, q1⟩ := at_H HB.out (i : Int) (by omega) (by omega)
    cases hA0
    cases hA1
    rw [Int.toNat_natCast] at q0 q1
    have d0 := BA.out.2 i _ _ (show h0[i]? = some (rdH h0 (i : Int)) by unfold rdH; rw [Int.toNat_natCast, List.getD_eq_getElem?_getD, List.getElem?_eq_getElem hx0, Option.getD_some]) (List.getElem?_eq_getElem ha')
    have d1 := BB.out.2 i _ _ (show h1[i]? = some (rdH h1 (i : Int)) by unfold rdH; rw [Int.toNat_natCast, List.getD_eq_getElem?_getD, List.getElem?_eq_getElem hx1, Option.getD_some]) (List.getElem?_eq_getElem hb')
    obtain ⟨y0, hy0⟩ : ∃ y, y = rdH h0 (i : Int) := ⟨_, rfl⟩
    obtain ⟨y1, hy1⟩ : ∃ y, y = rdH h1 (i : Int) := ⟨_, rfl⟩
    rw [← hy0] at q0 d0
    rw [← hy1] at q1 d1
    unfold encH at q0 q1
    have r0 : wr.cell? (ad0.add i) = some (.slice y0.a y0.n y0.c) := pw_cell_below HW.out q0
    have r1 : wr.cell? (ad1.add i) = some (.slice y1.a y1.n y1.c) := pw_cell_below HW.out q1
    have cv0 : ∀ m, (convert 30 9 (.slice y0.a y0.n y0.c)).run Try.prog (wr.drewN m) = .ok (.string (strOfNums a[i])) (wr.drewN m) := fun m => C_str (by have e := (Kd.R_reads' d0); rw [e.1]; exact Kd.C_drewN (Kd.C_below e.2.2 HW.out) m)
    have cv1 : ∀ m, (convert 30 9 (.slice y1.a y1.n y1.c)).run Try.prog (wr.drewN m) = .ok (.string (strOfNums b[i])) (wr.drewN m) := fun m => C_str (by have e := (Kd.R_reads' d1); rw [e.1]; exact Kd.C_drewN (Kd.C_below e.2.2 HW.out) m)
    have hse := str_eq (XA.out _ (List.getElem_mem ha')) (XB.out _ (List.getElem_mem hb'))
    obtain ⟨x, hx⟩ : ∃ x, x = a[i] := ⟨_, rfl⟩
    obtain ⟨y, hy⟩ : ∃ y, y = b[i] := ⟨_, rfl⟩
    rw [← hx] at cv0
    rw [← hy] at cv1
    rw [← hx, ← hy] at hse
    have HIB := Aside0.mk (show ∃ h : i < a.length, ∃ h' : i < b.length, x = a[i] ∧ y = b[i] from ⟨ha', hb', hx, hy⟩)
    clear q0 q1 d0 d1 hy0 hy1 hx hy ha' hb' hx0 hx1
    have hwi : wrap64 ((i : Int) + 1) = (i : Int) + 1 := by unfold wrap64; omega
    have hil : (i : Int) < (n : Int) := by omega
    by_cases e : x = y
    ·
     rw [decide_eq_true e] at hse
     have HE := Aside0.mk e
     clear e
     go_wp2_with fail
     go_quiet (fail)
     go_wp2_with fail
     go_roundw
     case rel =>
      obtain ⟨h1, h2, h3, h4⟩ := HIB.out
      exact ⟨i + 1, by go_num, hlt, ⟨take_next HT.out h1 h2 (by rw [← h3, ← h4]; exact HE.out)⟩, ⟨HW.out.trans ((pw_below_drewN (Below.refl _ wr) _).mono HW.out.size)⟩⟩
     case measure => exact meas4 hlt
    ·
     rw [decide_eq_false e] at hse
     have HE := Aside0.mk e
     clear e
     go_wp2_with fail
     go_quiet (fail)
     go_wp2_with fail
     go_ret
     refine ⟨?_, HW.out.trans ((pw_below_drewN (Below.refl _ wr) _).mono HW.out.size)⟩
     have hr : R = false := by
      rw [HR.out]
      refine decide_eq_false (fun e2 => HE.out ?_)
      obtain ⟨h1, h2, h3, h4⟩ := HIB.out
      subst e2
      rw [h3, h4]
     rw [hr]
     rfl
   ·
    have hni : i = n := by omega
    have hil : ¬ (i : Int) < (n : Int) := by omega
    have HI := Aside0.mk hni
    clear hni hlt
    go_wp2_with fail
    go_ret
    refine ⟨?_, HW.out⟩
    have hr : R = true := by
     rw [HR.out]
     refine decide_eq_true ?_
     have e := HT.out
     rw [HI.out, HN.out.2.2.1, List.take_length] at e
     rw [e, ← HN.out.2.2.1, HN.out.2.2.2, List.take_length]
    rw [hr]
    rfl
 ·
  have hlb : ((h0.length : Int) != (h1.length : Int)) = true := by rw [bne_iff_ne]; omega
  have HE := Aside0.mk (show R = false by
   rw [HR.out]
   exact decide_eq_false (fun e => hl (by rw [ba.1, bb.1, e])))
  clear ha hb ba bb xa xb hl hn
  go_enter Try.func35, Try.ntmps35
  go_wp2_with fail
  go_ret
  rw [HE.out]
  exact ⟨rfl, Below.refl _ _⟩
end Go.Proofs.Ytekakngojhnleaa.Wh
