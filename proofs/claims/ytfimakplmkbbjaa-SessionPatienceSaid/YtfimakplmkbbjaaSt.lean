/- Sessions of the program: Tick walked. -/
import Derived.Test.YtfimakplmkbbjaaSw
import Derived.RegionTactic
namespace Go.Proofs.Ytfimakplmkbbjaa.St
open Go.RowKit Go.Maps Go.Proofs.Ytfimakplmkbbjaa.Mp Go.Proofs.Ytfimakplmkbbjaa.Mq Go.Proofs.Ytfimakplmkbbjaa.Sp Go.Proofs.Ytfimakplmkbbjaa.Sw Go.Proofs.YtfimakplmkbbjaaW.PrintWords Go.Proofs.YtfimakplmkbbjaaW.PrintLast Go.Proofs.YtfimakplmkbbjaaW.PrintMore
set_option linter.unusedVariables false
set_option linter.unusedSimpArgs false
variable {w : World} {B N p b : Nat} {ok : Nat → Prop} {σ : St}

/-- The loop over the waits, under way: w1 is the world at its start. -/
structure LT (b r : Nat) (σ : St) (w1 wr : World) (f : Int → Option Value) (n s : Nat) (left : Int → Bool) (cnt : Nat) (lt : Bool) : Prop where
  rg : IntRange Try.prog 3 wr b r n f s left cnt
  kp : Below w1.heap.size w1 wr
  lt : lt = ids16.any (fun x => lateB σ σ.now x && !left x)
structure Held (W w : World) : Prop where
  out : Below W.heap.size W w
theorem past_calls (t now pat : Int) (w : World) (h1 : 0 ≤ t) (h2 : t ≤ 1073741824) (h3 : 0 ≤ now) (h4 : now ≤ 1073741824) :
    Calls Try.prog 34 #[.agg #[.int .i64 t], .int .i64 now, .int .i64 pat] w fun e w' => e = .returned (.bool (decide (now - t > pat))) ∧ Below w.heap.size w w' := by
  have c0 : (w.alloc (.cells #[.int .i64 t] 54)).cell? ⟨w.heap.size, 0, none⟩ = some (.int .i64 t) := blk_cell (blk_new w _) 0
  go_enter Try.func34, Try.ntmps34
  go_wp2_with fail
  go_ret
  exact ⟨rfl, below_alloc (Below.refl _ _) _⟩

theorem past_held {W w : World} (h : Held W w) (t now pat : Int) (h1 : 0 ≤ t) (h2 : t ≤ 1073741824) (h3 : 0 ≤ now) (h4 : now ≤ 1073741824) (r : Bool) (hr : decide (now - t > pat) = r) :
    Calls Try.prog 34 #[.agg #[.int .i64 t], .int .i64 now, .int .i64 pat] w fun e w' => e = .returned (.bool r) ∧ Held W w' :=
  (past_calls t now pat w h1 h2 h3 h4).mono fun e w' ⟨h1, h2⟩ => ⟨by rw [h1, hr], ⟨h.out.trans (h2.mono h.out.size)⟩⟩
theorem held_cells {W w : World} {g p b : Nat} {t : Int} {v : Value} {σ : St} (h : Held W w) (hb : W.heap[g]? = some (.cells #[.int .i64 t, v] 56 (0, 0))) (hp : W.heap[p]? = some (.cells (cellsP σ b) 51 (0, 0))) :
    w.cell? ⟨g, 0, none⟩ = some (.int .i64 t) ∧ w.cell? ⟨p, 2, none⟩ = some (.int .i64 σ.patience) ∧ w.cell? ⟨p, 3, none⟩ = some (.int .i64 σ.now) :=
  ⟨blk_cell (blk_below hb h.out) 0, blk_cell (blk_below hp h.out) 2, blk_cell (blk_below hp h.out) 3⟩
theorem any_same {l : List Int} {g g' : Int → Bool} (h : ∀ x ∈ l, g x = g' x) : l.any g = l.any g' := by
  induction l with
  | nil => rfl
  | cons x l ih => rw [List.any_cons, List.any_cons, h x (by simp), ih (fun y hy => h y (by simp [hy]))]
theorem any_step {l : List Int} {g left : Int → Bool} {x : Int} (hx : x ∈ l) : l.any (fun z => g z && !(left z && !decide (z = x))) = (l.any (fun z => g z && !left z) || g x) := by
  rw [Bool.eq_iff_iff, Bool.or_eq_true, List.any_eq_true, List.any_eq_true]
  constructor
  · rintro ⟨z, hz, h⟩
    by_cases e : z = x
    · subst e
      simp only [Bool.and_eq_true] at h
      exact .inr h.1
    · refine .inl ⟨z, hz, ?_⟩
      simpa [e] using h
  · rintro (⟨z, hz, h⟩ | h)
    · refine ⟨z, hz, ?_⟩
      simp only [Bool.and_eq_true] at h ⊢
      refine ⟨h.1, ?_⟩
      cases hl : left z with
      | false => rfl
      | true => rw [hl] at h; simp at h
    · exact ⟨x, hx, by simp [h]⟩
set_option maxRecDepth 100000 in
set_option maxHeartbeats 1000000 in
theorem tick_calls (h : PS w B N p b ok σ) (hI : Inv σ) (hB : B ≤ p) (hBb : B ≤ b) (hokp : ¬ ok p) (y : Int) :
    Calls Try.prog 24 #[.pointer (some ⟨p, 0, none⟩), .int .i64 y] w fun e w' => Did B N p b ok w (tickS σ y) e w' := by
  have c4 : w.cell? ⟨p, 4, none⟩ = some (.int .i64 σ.phase) := blk_cell h.1 4
  have c3 : w.cell? ⟨p, 3, none⟩ = some (.int .i64 σ.now) := blk_cell h.1 3
  have c6 : w.cell? ⟨p, 6, none⟩ = some (.map (some b)) := blk_cell h.1 6
  have f3 : w.frozen? ⟨p, 3, none⟩ = false := blk_frozen h.1 3
  have H := Aside0.mk h
  have HI := Aside0.mk hI
  have hn0 := hI.n0
  have hn1 := hI.n1
  clear h hI
  unfold tickS
  by_cases h0 : σ.phase = 0
  · have hb0 : (σ.phase != 0) = false := by rw [bne_eq_false_iff_eq]; exact h0
    rw [if_neg (by omega)]
    clear h0
    by_cases h1 : y < 1
    · rw [if_pos (.inl h1)]
      go_enter Try.func24, Try.ntmps24
      go_wp2_with fail
      go_ret
      exact ⟨rfl, H.out, Fr.refl _ _ _ _⟩
    · by_cases h2 : 1073741824 - σ.now < y
      · rw [if_pos (.inr h2)]
        go_enter Try.func24, Try.ntmps24
        go_wp2_with fail
        go_ret
        exact ⟨rfl, H.out, Fr.refl _ _ _ _⟩
      · rw [if_neg (by omega)]
        obtain ⟨σ1, hσ1⟩ : ∃ σ1 : St, σ1 = { σ with now := σ.now + y } := ⟨_, rfl⟩
        have HI1 := Aside0.mk (hσ1 ▸ HI.out.tick y (by omega) (by omega) : Inv σ1)
        have hw1n : σ.now + y = σ1.now := by rw [hσ1]
        have hlate : ids16.any (lateB σ (σ.now + y)) = ids16.any (lateB σ1 σ1.now) := by rw [hσ1]; rfl
        rw [← hσ1, hlate]
        obtain ⟨R, hR⟩ : ∃ R, R = (if ids16.any (lateB σ1 σ1.now) = true then ((19 : Int), overS σ1 2 19) else (0, σ1)) := ⟨_, rfl⟩
        rw [← hR]
        have HRR := Aside0.mk hR
        clear hR
        obtain ⟨w1, hw1⟩ : ∃ w1, w1 = w.setCell ⟨p, 3, none⟩ (.int .i64 σ1.now) := ⟨_, rfl⟩
        obtain ⟨n, f, s, hn, hm, hl⟩ := H.out.2
        have hm1 : IntMap Try.prog 3 w1 b n f s := by rw [hw1]; exact hm.far (by exact H.out.ne) _
        have hl1 : Lies w1 B ok f σ1.wt := by
          have e1 : σ1.wt = σ.wt := by rw [hσ1]
          rw [e1]
          exact hl.step (fun k hk _ => by rw [hw1]; exact Below.heap_setCell _ _ _ k (by rintro rfl; exact hokp hk))
        have hbl1 : w1.heap[p]? = some (.cells (cellsP σ1 b) 51 (0, 0)) := by
          rw [hw1, blk_put H.out.1 3 _ rfl, hσ1]; rfl
        have HF1 := Aside0.mk (show Fr B p b w w1 by rw [hw1]; exact (Fr.refl B p b w).set hB 3 _)
        have HM1 := Aside0.mk hm1
        have HL1 := Aside0.mk hl1
        have HBL1 := Aside0.mk hbl1
        have HN := Aside0.mk hn
        have HW1 := Aside0.mk hw1
        have HS1 := Aside0.mk hσ1
        rw [hw1] at HM1
        clear hm hl hm1 hl1 hbl1 hn hlate hw1 hσ1
        go_enter Try.func24, Try.ntmps24
        go_wp2_with (at_range; refine wp_range law Try.underlying49 HM1.out rfl (.tmp 37) rfl rfl ?_; intro w2 hrg2 hg2 hs2)
        try go_frame
        rw [World.size_setCell] at hrg2 hs2
        rw [← HW1.out] at hg2
        have hwz : w1.heap.size = w.heap.size := by rw [HW1.out, World.size_setCell]
        have hst : LT b w.heap.size σ1 w1 w2 f n s (fun x => (f x).isSome) s false := by
          refine ⟨hrg2, pw_below_grown (Below.refl _ _) none (Nat.le_refl _) hg2 (fun k hk => by cases hk), ?_⟩
          symm
          rw [List.any_eq_false]
          intro x hx
          have hx' := mem_ids.1 hx
          have h3 := HL1.out x (I64.mk (by omega) (by omega))
          unfold lateB
          cases hy : σ1.wt x with
          | none => simp
          | some y => rw [hy] at h3; obtain ⟨v, hv, _⟩ := h3; simp [hv]
        have HST := Aside0.mk hst
        have HWZ := Aside0.mk hwz
        clear hwz
        clear hst hrg2 hg2 hs2 c3 c4 c6 f3
        go_loopw [5] (fun v5 wr => ∃ left cnt lt, v5 = .bool lt ∧ Aside0 (LT b w.heap.size σ1 w1 wr f n s left cnt lt)) (fun _ wr => wr.rangeLeft b w.heap.size)
        case atStart => exact ⟨_, _, false, rfl, HST⟩
        case round =>
          clear HST HM1
          obtain ⟨left, cnt, lt, rfl, HL⟩ := hrel
          go_wp2_with (at_next; refine wp_next law Try.underlying3 HL.out.rg rfl (.tmp 38) rfl rfl ?_ ?_)
          · intro hc0 hall
            have hp2 : PS wr B N p b ok σ1 := ⟨(HL.out.kp.block p (blk_lt HBL1.out)).trans HBL1.out, n, f, s, HN.out, HL.out.rg.map, HL1.out.step (fun k _ hlt => HL.out.kp.block k hlt)⟩
            have HFR := Aside0.mk (HF1.out.below (by have := blk_lt HBL1.out; omega) HL.out.kp)
            have HP2 := Aside0.mk hp2
            have hl2 : lt = ids16.any (lateB σ1 σ1.now) := by
              rw [HL.out.lt]
              refine any_same (fun x hx => ?_)
              have := mem_ids.1 hx
              rw [hall x (I64.mk (by omega) (by omega))]
              simp
            have HL2 := Aside0.mk hl2
            clear hl2 hp2 hall
            cases lt with
            | false =>
              go_wp2_with fail
              go_ret
              rw [HRR.out, ← HL2.out, if_neg (by simp)]
              exact ⟨rfl, HP2.out, HFR.out⟩
            | true =>
              go_wp2_with fail
              refine (over_calls HP2.out hB hBb 2 19).mono ?_
              rintro e w9 ⟨rfl, hp9, hf9⟩
              have HP9 := Aside0.mk hp9
              have HF9 := Aside0.mk (HFR.out.trans hf9)
              clear hp9 hf9
              go_wp2_with fail
              go_ret
              rw [HRR.out, ← HL2.out, if_pos rfl]
              exact ⟨rfl, HP9.out, HF9.out⟩
          · intro x v w3 cnt3 hx hlx hfx hrg3 hlt3 hg3 hs3 hen
            obtain ⟨y0, vv, hy0, rfl, A, c, rfl⟩ : ∃ (y0 : Int × List Int) (vv : Value), σ1.wt x = some y0 ∧ v = .agg #[.int .i64 y0.1, vv] ∧ ∃ A c, vv = .slice A y0.2.length c := by
              have h1 := HL1.out x hx
              cases hy : σ1.wt x with
              | none => rw [hy] at h1; rw [hfx] at h1; cases h1
              | some y0 => rw [hy] at h1; obtain ⟨vv, h2, h3⟩ := h1; rw [hfx] at h2; obtain ⟨A, c, e⟩ := Kd.R_slice h3; exact ⟨y0, vv, rfl, Option.some.inj h2, A, c, e⟩
            have HX := Aside0.mk hx
            have HY := Aside0.mk hy0
            have HLX := Aside0.mk hlx
            have HRG := Aside0.mk hrg3
            have HG := Aside0.mk hg3
            have HLT := Aside0.mk hlt3
            have HS := Aside0.mk hs3
            obtain ⟨t, ht⟩ : ∃ t, t = y0.1 := ⟨_, rfl⟩
            rw [← ht] at hen
            obtain ⟨m, hm⟩ : ∃ m, m = y0.2.length := ⟨_, rfl⟩
            rw [← hm] at hen
            have HT := Aside0.mk ht
            clear hx hy0 hlx hrg3 hg3 hlt3 hs3 ht hfx hm
            obtain ⟨w4, hw4⟩ : ∃ w4, w4 = w3.alloc (.cells #[.int .i64 t, .slice A m c] 56) := ⟨_, rfl⟩
            have K4 : w4.heap[w3.heap.size]? = some (.cells #[.int .i64 t, .slice A m c] 56) := by rw [hw4]; exact blk_new w3 _
            have hb34 : Below w3.heap.size w3 w4 := by rw [hw4]; exact below_alloc (Below.refl _ _) _
            have hb13 : Below w1.heap.size w1 w3 := pw_below_grown HL.out.kp _ HL.out.kp.size HG.out (fun k hk => by cases hk; rw [HWZ.out]; exact Nat.le_refl _)
            have HB4 := Aside0.mk (below_then hb13 hb13.size hb34)
            have HK4 := Aside0.mk K4
            have HW4 := Aside0.mk hw4
            have HRG4 := Aside0.mk (HRG.out.below hb34)
            clear K4 hw4 hb34 hb13
            go_wp2_with fail
            rw [← HW4.out]
            have hbl4 := (HB4.out.block p (blk_lt HBL1.out)).trans HBL1.out
            have q0 : w4.drew.cell? ⟨w3.heap.size, 0, none⟩ = some (.int .i64 t) := blk_cell HK4.out 0
            have q2 : w4.drew.cell? ⟨p, 2, none⟩ = some (.int .i64 σ1.patience) := blk_cell hbl4 2
            have q3 : w4.drew.cell? ⟨p, 3, none⟩ = some (.int .i64 σ1.now) := blk_cell hbl4 3
            obtain ⟨r, hr⟩ : ∃ r, decide (σ1.now - t > σ1.patience) = r := ⟨_, rfl⟩
            have HR := Aside0.mk hr
            have hhd : Held w4 w4.drew := ⟨below_drew (Below.refl _ _)⟩
            have ht1 : 0 ≤ t := by rw [HT.out]; exact (HI1.out.w x y0 HY.out).2.2.1
            have ht2 : t ≤ 1073741824 := by rw [HT.out]; have h1 := (HI1.out.w x y0 HY.out).2.2.2.1; have h2 := HI1.out.n1; omega
            have hs1 := HI1.out.n0
            have hs2 := HI1.out.n1
            have HBL4 := Aside0.mk hbl4
            have hnx : (lt || r) = ids16.any (fun z => lateB σ1 σ1.now z && !(left z && !decide (z = x))) := by
              rw [any_step (HI1.out.ids (by unfold isB; rw [HY.out]; rfl)), ← HL.out.lt]
              congr 1
              unfold lateB
              rw [HY.out, ← hr, HT.out]
            have NX := Aside0.mk hnx
            have MS := Aside0.mk (show ∀ W, IntRange Try.prog 3 W b w.heap.size n f s (fun y => left y && !decide (y = x)) cnt3 → W.rangeLeft b w.heap.size < wr.rangeLeft b w.heap.size from fun W h => by rw [h.left_eq, HL.out.rg.left_eq]; exact HLT.out)
            clear hr hbl4 hnx
            cases lt with
            | true =>
              go_quiet (fail)
              go_roundw
              case rel => exact ⟨_, _, _, _, _, _, _, _, _, _, _, _, _, _, _, _, _, _, _, _, ⟨_, cnt3, _, rfl, ⟨⟨HRG4.out, pw_below_drewN HB4.out _, NX.out⟩⟩⟩, rfl⟩
              case measure => exact MS.out _ HRG4.out
            | false =>
              go_region_held3 (fun w' => w'.cell? ⟨w3.heap.size, 0, none⟩ = some (.int .i64 t) ∧ w'.cell? ⟨p, 2, none⟩ = some (.int .i64 σ1.patience) ∧ w'.cell? ⟨p, 3, none⟩ = some (.int .i64 σ1.now) ∧ Held w4 w') (refine ⟨?_, ?_, ?_, ?_⟩ <;> assumption)
                (first | (go_at_call 34; refine (past_held (by assumption : Held w4 _) t σ1.now σ1.patience ht1 ht2 hs1 hs2 r HR.out).mono ?_; rintro e w' ⟨rfl, hH⟩; obtain ⟨q0', q2', q3'⟩ := held_cells hH HK4.out HBL4.out))
              all_goals (
                have hH : Held w4 _ := (by assumption)
                go_roundw
                case rel => exact ⟨_, _, _, _, _, _, _, _, _, _, _, _, _, _, _, _, _, _, _, _, ⟨_, cnt3, _, rfl, ⟨⟨HRG4.out.below hH.out, below_then HB4.out HB4.out.size hH.out, NX.out⟩⟩⟩, rfl⟩
                case measure => exact MS.out _ (HRG4.out.below hH.out))
  · have hb0 : (σ.phase != 0) = true := by rw [bne_iff_ne]; exact h0
    rw [if_pos h0]
    clear h0
    go_enter Try.func24, Try.ntmps24
    go_wp2_with fail
    go_ret
    exact ⟨rfl, H.out, Fr.refl _ _ _ _⟩
end Go.Proofs.Ytfimakplmkbbjaa.St
