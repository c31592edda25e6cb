/- Sessions of the program: Who walked. -/
import Derived.Test.YtfimakplmkbbjaaSt
import Derived.Test.YtfimakplmkbbjaaSo
namespace Go.Proofs.Ytfimakplmkbbjaa.Sh
open Go.RowKit Go.Maps Go.Proofs.Ytfimakplmkbbjaa.Mp Go.Proofs.Ytfimakplmkbbjaa.Mq Go.Proofs.Ytfimakplmkbbjaa.Sp Go.Proofs.Ytfimakplmkbbjaa.Sw Go.Proofs.Ytfimakplmkbbjaa.St Go.Proofs.YtfimakplmkbbjaaW.PrintWords Go.Proofs.YtfimakplmkbbjaaW.PrintLast Go.Proofs.YtfimakplmkbbjaaW.PrintMore
set_option linter.unusedVariables false
set_option linter.unusedSimpArgs false
variable {w : World} {B N p b : Nat} {ok : Nat → Prop} {σ : St}

/-- The loop over the waits, under way. -/
structure LW (b r : Nat) (σ : St) (w1 wr : World) (f : Int → Option Value) (n s : Nat) (left : Int → Bool) (cnt : Nat) (v : Value) (xs : List Int) : Prop where
  rg : IntRange Try.prog 3 wr b r n f s left cnt
  kp : Below w1.heap.size w1 wr
  ro : (Kd.int .i64).R 3 wr (w1.heap.size + 1) (fun _ => True) v xs
  rsz : w1.heap.size + 1 ≤ wr.heap.size
  ln : xs.length + cnt ≤ s
  nd : xs.Nodup
  mm : ∀ x, x ∈ xs ↔ (I64 x ∧ isB σ x = true ∧ left x = false)
theorem ids_sorted : ids16.Pairwise (fun a b => a ≤ b) := by decide
theorem ids_nodup : ids16.Nodup := by decide
theorem who_sorted {xs : List Int} (hI : Inv σ) (hn : xs.Nodup) (hm : ∀ x, x ∈ xs ↔ isB σ x = true) : xs.mergeSort (fun x y => decide (x ≤ y)) = whoS σ := by
  have p1 : (xs.mergeSort (fun x y => decide (x ≤ y))).Perm xs := List.mergeSort_perm _ _
  have n2 : (whoS σ).Nodup := List.Nodup.sublist List.filter_sublist ids_nodup
  have p3 : xs.Perm (whoS σ) := (List.perm_ext_iff_of_nodup hn n2).2 (fun x => by
    rw [hm]
    unfold whoS
    rw [List.mem_filter]
    exact ⟨fun h => ⟨hI.ids h, h⟩, fun h => h.2⟩)
  refine List.Perm.eq_of_pairwise (le := fun a b => a ≤ b) (fun a b _ _ h1 h2 => Int.le_antisymm h1 h2) ?_ (ids_sorted.sublist List.filter_sublist) (p1.trans p3)
  have := List.pairwise_mergeSort (le := fun x y : Int => decide (x ≤ y)) (fun a b c h1 h2 => by simp only [decide_eq_true_eq] at h1 h2 ⊢; omega) (fun a b => by simp only [Bool.or_eq_true, decide_eq_true_eq]; omega) xs
  exact this.imp (fun h => by simpa using h)
theorem is_key {f : Int → Option Value} (hl : Lies w B ok f σ.wt) {x : Int} (hx : I64 x) : (f x).isSome = isB σ x := by
  have h := hl x hx
  unfold isB
  cases hy : σ.wt x with
  | none => rw [hy] at h; rw [h]; rfl
  | some y => rw [hy] at h; obtain ⟨v, hv, _⟩ := h; rw [hv]; rfl

set_option maxRecDepth 100000 in
set_option maxHeartbeats 1000000 in
theorem who_calls (h : PS w B N p b ok σ) (hI : Inv σ) (hN : N ≤ 1000000) :
    Calls Try.prog 13 #[.pointer (some ⟨p, 0, none⟩)] w fun e w' => ∃ v, e = .returned v ∧ (Kd.int .i64).R 3 w' w.heap.size (fun _ => True) v (whoS σ) ∧ Below w.heap.size w w' := by
  have c6 : w.cell? ⟨p, 6, none⟩ = some (.map (some b)) := blk_cell h.1 6
  have HI := Aside0.mk hI
  obtain ⟨n, f, s, hn, hm, hl⟩ := h.2
  have HM := Aside0.mk hm
  have HL := Aside0.mk hl
  have HNN := Aside0.mk (And.intro hn hN)
  clear h hI hm hl hn hN
  go_enter Try.func13, Try.ntmps13
  go_wp2_with (at_range; refine wp_range law Try.underlying49 HM.out rfl (.tmp 8) rfl rfl ?_; intro w2 hrg2 hg2 hs2)
  try go_frame
  have hst : LW b w.heap.size σ w w2 f n s (fun x => (f x).isSome) s (.slice none 0 0) [] := by
    refine ⟨hrg2, pw_below_grown (Below.refl _ _) none (Nat.le_refl _) hg2 (fun k hk => by cases hk), Kd.R_nil _ _ _ _ _, by omega, by simp, by simp, ?_⟩
    intro x
    simp only [List.not_mem_nil, false_iff, not_and, Bool.not_eq_false]
    intro h1 h2
    show (f x).isSome = true
    rw [is_key HL.out h1]
    exact h2
  have HST := Aside0.mk hst
  clear hst hrg2 hg2 hs2 c6
  go_loopw [3] (fun v3 wr => ∃ left cnt xs, Aside0 (LW b w.heap.size σ w wr f n s left cnt v3 xs)) (fun _ wr => wr.rangeLeft b w.heap.size)
  case atStart => exact ⟨_, _, [], HST⟩
  case round =>
    clear HST
    obtain ⟨left, cnt, xs, HH⟩ := hrel
    obtain ⟨A, c, rfl⟩ := Kd.R_slice HH.out.ro
    go_wp2_with (at_next; refine wp_next law Try.underlying3 HH.out.rg rfl (.tmp 9) rfl rfl ?_ ?_)
    · intro hc0 hall
      have HALL := Aside0.mk hall
      clear hall
      go_wp2_with fail
      refine (So.sort_calls (w.heap.size + 1) _ xs wr HH.out.ro (by have := HH.out.ln; have := HH.out.rg.map.size_le; have := HNN.out; omega)).mono ?_
      rintro e w9 ⟨rfl, ho9, hg9⟩
      have HO9 := Aside0.mk ho9
      have HB9 := Aside0.mk (pw_below_grown HH.out.kp _ (by have := HH.out.rsz; omega) hg9 (fun k hk => by have := Kd.R_base HH.out.ro k hk; omega))
      clear ho9 hg9
      go_wp2_with fail
      go_ret
      refine ⟨_, rfl, ?_, HB9.out⟩
      rw [← who_sorted HI.out HH.out.nd (fun x => ?_)]
      · exact Kd.R_lower HO9.out (Nat.le_succ _)
      · rw [HH.out.mm x]
        refine ⟨fun h => h.2.1, fun h => ?_⟩
        have := mem_ids.1 (HI.out.ids h)
        have hx : I64 x := I64.mk (by omega) (by omega)
        exact ⟨hx, h, HALL.out x hx⟩
    · intro x v w3 cnt3 hx hlx hfx hrg3 hlt3 hg3 hs3 hen
      have ho3 : (Kd.int .i64).R 3 w3 (w.heap.size + 1) (fun _ => True) (.slice A xs.length c) xs := Kd.R_grown2 HH.out.ro rfl hg3 (fun k hk e => by have := Kd.R_base HH.out.ro k e.symm; cases hk; omega)
      have HO3 := Aside0.mk ho3
      have HRG := Aside0.mk hrg3
      have HB3 := Aside0.mk (pw_below_grown HH.out.kp _ (by have := HH.out.rsz; omega) hg3 (fun k hk => by cases hk; exact Nat.le_refl _))
      have HSZ := Aside0.mk (show w.heap.size + 1 ≤ w3.heap.size by have := HH.out.rsz; omega)
      have HX := Aside0.mk hx
      have HLX := Aside0.mk hlx
      have HLN := Aside0.mk (show xs.length + 1 + cnt3 ≤ s by have := HH.out.ln; omega)
      have HFX := Aside0.mk hfx
      have HS := Aside0.mk (HH.out.rg.map.size_le)
      have MS := Aside0.mk (show ∀ W, IntRange Try.prog 3 W b w.heap.size n f s (fun y => left y && !decide (y = x)) cnt3 → W.rangeLeft b w.heap.size < wr.rangeLeft b w.heap.size from fun W h => by rw [h.left_eq, HH.out.rg.left_eq]; exact hlt3)
      clear ho3 hrg3 hx hlx hg3 hs3 hlt3 hfx
      go_wp2_with (at_builtin; (refine Kd.R_append (Kd.int .i64) (w0 := w3) (w.heap.size + 1) rfl (.tmp 14) (.tmp 16) 32 3 (.int .i64 0) 8 rfl Try.underlying32 Cl.info3 rfl (by decide) (by omega) (.slice A xs.length c) xs x [.int .i64 x] (fun _ => True) (fun _ => False) rfl rfl ?aP (fun _ hk => hk.elim) (fun _ _ => trivial) ?aO ?aB ?aS ?aL ?_; (case aP => exact rfl); (case aO => exact HO3.out); (case aB => exact Below.refl _ _); (case aS => exact HSZ.out); (case aL => have := HLN.out; have := HS.out; have := HNN.out; omega); intro v4 w4 ho4 hb4 hg4 _; have HO4 := Aside0.mk ho4; have HB4 := Aside0.mk hb4; have HG4 := Aside0.mk hg4; clear ho4 hb4 hg4))
      have hrg4 : IntRange Try.prog 3 w4 b w.heap.size n f s (fun y => left y && !decide (y = x)) cnt3 := HRG.out.kept HG4.out (fun e => by have h1 := Kd.R_base HO3.out b e.symm; have := HM.out.lt; omega) (fun e => by have h1 := Kd.R_base HO3.out _ e.symm; omega)
      have HRG4 := Aside0.mk hrg4
      have hni : x ∉ xs := fun e => by have := ((HH.out.mm x).1 e).2.2; rw [HLX.out] at this; cases this
      have ND := Aside0.mk (show (xs ++ [x]).Nodup by
        rw [List.nodup_append]
        exact ⟨HH.out.nd, by simp, fun a ha c hc e => by rw [List.mem_singleton] at hc; subst hc; subst e; exact hni ha⟩)
      have MM := Aside0.mk (show ∀ z : Int, z ∈ xs ++ [x] ↔ (I64 z ∧ isB σ z = true ∧ (left z && !decide (z = x)) = false) by
        intro z
        rw [List.mem_append, List.mem_singleton, HH.out.mm z]
        by_cases e : z = x
        · subst e
          have h1 : isB σ z = true := by rw [← is_key HL.out HX.out, HFX.out]; rfl
          simp [HX.out, h1]
        · simp [e])
      clear hrg4 hni
      go_roundw
      case rel => exact ⟨_, cnt3, _, ⟨⟨HRG4.out, pw_below_grown HB3.out _ (by have := HSZ.out; omega) HG4.out (fun k hk => by have := Kd.R_base HO3.out k hk; omega), HO4.out, by have := HG4.out.size; have := HSZ.out; omega, by rw [List.length_append]; exact HLN.out, ND.out, MM.out⟩⟩⟩
      case measure => exact MS.out _ HRG4.out
end Go.Proofs.Ytfimakplmkbbjaa.Sh
