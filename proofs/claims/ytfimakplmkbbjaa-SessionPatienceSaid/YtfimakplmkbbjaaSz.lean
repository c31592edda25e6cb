/- Sessions of the document: Take walked; a place written. -/
import Derived.Test.YtfimakplmkbbjaaSq
namespace Go.Proofs.Ytfimakplmkbbjaa.Sz
open Go.RowKit Go.Maps Go.Proofs.Ytfimakplmkbbjaa.Mp Go.Proofs.Ytfimakplmkbbjaa.Mq Go.Proofs.Ytfimakplmkbbjaa.Sp Go.Proofs.Ytfimakplmkbbjaa.Sx Go.Proofs.Ytfimakplmkbbjaa.Sr Go.Proofs.Ytfimakplmkbbjaa.Sq Go.Proofs.YtfimakplmkbbjaaW.PrintWords Go.Proofs.YtfimakplmkbbjaaW.PrintLast Go.Proofs.YtfimakplmkbbjaaW.PrintMore
set_option linter.unusedVariables false
set_option linter.unusedSimpArgs false
variable {w w' : World} {B r : Nat} {ok : Nat → Prop} {σ : St}

def since1 (y : Option (Int × List Int)) : Int := match y with | none => 0 | some y => y.1
def kinds1 (y : Option (Int × List Int)) : List Int := match y with | none => [] | some y => y.2
theorem sinceOf_eq (σ : St) (x : Int) : sinceOf σ x = since1 (σ.wt x) := by unfold sinceOf since1; cases σ.wt x <;> rfl
theorem kindsOf_eq (σ : St) (x : Int) : kindsOf σ x = kinds1 (σ.wt x) := by unfold kindsOf kinds1; cases σ.wt x <;> rfl
theorem setW_same (f : Int → Option (Int × List Int)) (x : Int) (y : Option (Int × List Int)) : setW f x y x = y := if_pos rfl
theorem info36 : (Try.prog.info? 36).map (·.size) = some 3 := by kernel_rfl
/-- A place is written. -/
theorem RS.put (h : RS w B r ok σ) (hB : B ≤ r) (hok : ¬ ok r) (hp : σ.phase = 0) (i : Nat) (hi : i < 16) (y : Option (Int × List Int)) (A : Option Addr) (m c : Nat) (hv : (Kd.int .i64).R 3 w B ok (.slice A m c) (kinds1 y)) :
    ∃ w9, (Instr.storeAt 36 (.pointer (some ⟨r, 6 + i * 3, none⟩)) (.agg #[.bool y.isSome, .int .i64 (since1 y), .slice A m c])).run Try.prog w = .ok () w9 ∧ RS w9 B r ok { σ with wt := setW σ.wt (i : Int) y } ∧ Fr B r r w w9 := by
  obtain ⟨cs, h1, h2, c0, c1, c2, c3, c4, c5, h9⟩ := h
  refine ⟨_, run_store_run (e := 39) (cur := cs) 36 _ [.bool y.isSome, .int .i64 (since1 y), .slice A m c] h1 rfl info36 (by simp; omega) (by simp [Value.oneCell']), ?_, ?_⟩
  · have hk : ∀ k, ok k → k < w.heap.size → (w.setCells r (6 + i * 3) [.bool y.isSome, .int .i64 (since1 y), .slice A m c]).heap[k]? = w.heap[k]? := fun k hk _ => setCells_far _ _ k (by rintro rfl; exact hok hk)
    refine ⟨((cs.setIfInBounds (6 + i * 3) (.bool y.isSome)).setIfInBounds (6 + i * 3 + 1) (.int .i64 (since1 y))).setIfInBounds (6 + i * 3 + 1 + 1) (.slice A m c), ?_, by simp [h2], ?_, ?_, ?_, ?_, ?_, ?_, fun _ j hj => ?_⟩
    · exact blk_put (blk_put (blk_put h1 (6 + i * 3) _ rfl) (6 + i * 3 + 1) _ rfl) (6 + i * 3 + 1 + 1) _ rfl
    iterate 6 (rw [set_get _ _ _ _ (by omega), set_get _ _ _ _ (by omega), set_get _ _ _ _ (by omega)]; assumption)
    by_cases e : j = i
    · subst e
      refine ⟨?_, ?_, .slice A m c, ?_, ?_⟩
      · rw [set_get _ _ _ _ (by omega), set_get _ _ _ _ (by omega), set_same _ _ _ (by omega)]
        congr 2
        unfold isB setW
        simp
      · rw [set_get _ _ _ _ (by omega), set_same _ _ _ (by simp; omega)]
        congr 2
        rw [sinceOf_eq]
        show since1 y = since1 (setW σ.wt (j : Int) y (j : Int))
        rw [setW_same]
      · rw [set_same _ _ _ (by simp; omega)]
      · have e3 : kindsOf { σ with wt := setW σ.wt (j : Int) y } (j : Int) = kinds1 y := by rw [kindsOf_eq]; show kinds1 (setW σ.wt (j : Int) y (j : Int)) = _; rw [setW_same]
        rw [e3]
        exact Kd.R_step hv hk
    · obtain ⟨a, b, x, cc, d⟩ := (h9 hp j hj).step hk
      have hne : ¬ (j : Int) = (i : Int) := by omega
      have e0 : setW σ.wt (i : Int) y (j : Int) = σ.wt (j : Int) := by unfold setW; rw [if_neg hne]
      have e1 : isB { σ with wt := setW σ.wt (i : Int) y } (j : Int) = isB σ (j : Int) := by show (setW σ.wt (i : Int) y (j : Int)).isSome = _; rw [e0]; rfl
      have e2 : sinceOf { σ with wt := setW σ.wt (i : Int) y } (j : Int) = sinceOf σ (j : Int) := by rw [sinceOf_eq, sinceOf_eq]; show since1 (setW σ.wt (i : Int) y (j : Int)) = _; rw [e0]
      have e3 : kindsOf { σ with wt := setW σ.wt (i : Int) y } (j : Int) = kindsOf σ (j : Int) := by rw [kindsOf_eq, kindsOf_eq]; show kinds1 (setW σ.wt (i : Int) y (j : Int)) = _; rw [e0]
      unfold WtR
      rw [e1, e2, e3]
      refine ⟨?_, ?_, x, ?_, d⟩
      · rw [set_get _ _ _ _ (by omega), set_get _ _ _ _ (by omega), set_get _ _ _ _ (by omega)]; exact a
      · rw [set_get _ _ _ _ (by omega), set_get _ _ _ _ (by omega), set_get _ _ _ _ (by omega)]; exact b
      · rw [set_get _ _ _ _ (by omega), set_get _ _ _ _ (by omega), set_get _ _ _ _ (by omega)]; exact cc
  · exact (((Fr.refl B r r w).set hB _ _).set hB _ _).set hB _ _

set_option maxRecDepth 100000 in
set_option maxHeartbeats 1000000 in
theorem take_calls (h : RS w B r ok σ) (hI : Inv σ) (hB : B ≤ r) (hok : ¬ ok r) (x k a : Int) :
    Calls Try.prog 23 #[.pointer (some ⟨r, 0, none⟩), .int .i64 x, msg k a] w fun e w' => DidR B r ok w (takeS σ x k a) e w' := by
  obtain ⟨R, hR⟩ : ∃ R, R = takeS σ x k a := ⟨_, rfl⟩
  rw [← hR]
  unfold takeS at hR
  obtain ⟨w1, hw1⟩ : ∃ w1, w1 = w.alloc (.cells (msgC k a) 62) := ⟨_, rfl⟩
  have hb1 : Below w.heap.size w w1 := by rw [hw1]; exact below_alloc (Below.refl _ _) _
  have hBw : B ≤ w.heap.size := by have := h.lt; omega
  have h1 := h.below hb1
  have k1 : w1.heap[w.heap.size]? = some (.cells (msgC k a) 62 (0, 0)) := by rw [hw1]; exact blk_new w _
  have F1 := Aside0.mk ((Fr.refl B r r w).below hBw hb1)
  obtain ⟨_, _, _, _, c4, _⟩ := h1.cells
  have H := Aside0.mk h1
  have HI := Aside0.mk hI
  have HK1 := Aside0.mk k1
  have M1 := Aside0.mk (show w1.cell? ⟨w.heap.size, 1, none⟩ = some (.int .i64 a) from blk_cell k1 1)
  have M0 := Aside0.mk (show w1.cell? ⟨w.heap.size, 0, none⟩ = some (.int .i64 k) from blk_cell k1 0)
  unfold msgC at hw1
  have HW1 := Aside0.mk hw1
  rw [hw1] at c4
  clear h h1 hI hb1 k1 hw1
  by_cases h0 : σ.phase = 0
  · have hb0 : (σ.phase != 0) = false := by rw [bne_eq_false_iff_eq]; exact h0
    have H0 := Aside0.mk h0
    rw [if_neg (by omega)] at hR
    clear h0
    cases hp : peerB σ x with
    | false =>
      rw [if_pos hp] at hR
      have HP := Aside0.mk hp
      have HR := Aside0.mk hR
      clear hp hR
      unfold msg
      go_enter Try.func23, Try.ntmps23
      go_wp2_with fail
      rw [← HW1.out]
      refine (peer_calls H.out x).mono ?_
      rintro e w2 ⟨rfl, rfl⟩
      rw [HP.out]
      go_wp2_with fail
      go_ret
      rw [HR.out]
      exact ⟨rfl, H.out, F1.out⟩
    | true =>
      rw [if_neg (by rw [hp]; simp)] at hR
      have HP := Aside0.mk hp
      clear hp
      by_cases hk : k = 11
      · rw [if_pos hk] at hR
        have hkb : (k == 11) = true := by rw [beq_iff_eq]; exact hk
        clear hk
        have key : ∀ y, y = abortOf a → Calls Try.prog 33 #[.pointer (some ⟨r, 0, none⟩), .int .i64 2, .int .i64 y] w1 fun e w' => e = .returned (.tuple #[]) ∧ DidR B r ok w R (.returned (.int .i64 0)) w' := by
          intro y hy
          refine (end_calls H.out hB hok 2 y (by decide)).mono ?_
          rintro e w9 ⟨rfl, hp9, hf9⟩
          refine ⟨rfl, ?_⟩
          rw [hR, ← hy]
          exact ⟨rfl, hp9, F1.out.trans hf9⟩
        have KEY := Aside0.mk key
        clear key hR
        unfold msg
        by_cases h1 : 1 ≤ a
        · by_cases h2 : a ≤ 1000
          · have HY := Aside0.mk (show abortOf a = a from if_pos ⟨h1, h2⟩)
            go_enter Try.func23, Try.ntmps23
            go_wp2_with fail
            rw [← HW1.out]
            refine (peer_calls H.out x).mono ?_
            rintro e w2 ⟨rfl, rfl⟩
            rw [HP.out]
            have m1' := M1.out
            have m0' := M0.out
            go_wp2_with fail
            refine (KEY.out a HY.out.symm).mono ?_
            rintro e w9 ⟨rfl, hd⟩
            have HD := Aside0.mk hd
            clear hd
            go_wp2_with fail
            go_ret
            exact HD.out
          · have HY := Aside0.mk (show abortOf a = 18 from if_neg (fun h => h2 h.2))
            go_enter Try.func23, Try.ntmps23
            go_wp2_with fail
            rw [← HW1.out]
            refine (peer_calls H.out x).mono ?_
            rintro e w2 ⟨rfl, rfl⟩
            rw [HP.out]
            have m1' := M1.out
            have m0' := M0.out
            go_wp2_with fail
            refine (KEY.out 18 HY.out.symm).mono ?_
            rintro e w9 ⟨rfl, hd⟩
            have HD := Aside0.mk hd
            clear hd
            go_wp2_with fail
            go_ret
            exact HD.out
        · have HY := Aside0.mk (show abortOf a = 18 from if_neg (fun h => h1 h.1))
          go_enter Try.func23, Try.ntmps23
          go_wp2_with fail
          rw [← HW1.out]
          refine (peer_calls H.out x).mono ?_
          rintro e w2 ⟨rfl, rfl⟩
          rw [HP.out]
          have m1' := M1.out
          have m0' := M0.out
          go_wp2_with fail
          refine (KEY.out 18 HY.out.symm).mono ?_
          rintro e w9 ⟨rfl, hd⟩
          have HD := Aside0.mk hd
          clear hd
          go_wp2_with fail
          go_ret
          exact HD.out
      · rw [if_neg hk] at hR
        have hkb : (k == 11) = false := by rw [beq_eq_false_iff_ne]; exact hk
        clear hk
        have hxx := peerB_iff.1 HP.out
        have hp1 := HI.out.p1
        obtain ⟨i, rfl⟩ : ∃ i : Nat, x = (i : Int) := ⟨x.toNat, by omega⟩
        have hi16 : i < 16 := by omega
        have hl16 : (i : Int) < 16 := by omega
        obtain ⟨d0, _, v, d2, d3⟩ := H.out.at_ H0.out i hi16
        obtain ⟨A, c, rfl, hcap, hcr⟩ := Kd.R_reads d3
        have hlen : (kindsOf σ (i : Int)).length ≤ 17592186044416 := by
          unfold kindsOf
          cases hy : σ.wt (i : Int) with
          | none => simp
          | some y => exact (HI.out.w _ _ hy).2.2.2.2
        obtain ⟨L, hL⟩ : ∃ L, L = kindsOf σ (i : Int) := ⟨_, rfl⟩
        rw [← hL] at hcr hlen hcap hR d2
        obtain ⟨is, his⟩ : ∃ is, isB σ (i : Int) = is := ⟨_, rfl⟩
        rw [his] at d0
        have hisl : is = false → L = [] := by
          intro e
          rw [hL]
          unfold kindsOf
          unfold isB at his
          cases hy : σ.wt (i : Int) with
          | none => rfl
          | some y => rw [hy, e] at his; cases his
        have HISL := Aside0.mk hisl
        have HCR := Aside0.mk hcr
        have HL := Aside0.mk hL
        have HR := Aside0.mk hR
        have D0 := Aside0.mk d0
        have D2 := Aside0.mk d2
        clear d0 d2 d3 hcr hL his hR hxx hp1 hisl
        unfold msg
        go_enter Try.func23, Try.ntmps23
        go_wp2_with fail
        rw [← HW1.out]
        refine (peer_calls H.out (i : Int)).mono ?_
        rintro e w2 ⟨rfl, rfl⟩
        rw [HP.out]
        have m0' := M0.out
        clear c4
        go_wp2_with fail
        clear m0'
        go_loopg [9] (L.length + 1) (fun g v9 wx => ∃ j : Nat, j + g = L.length + 1 ∧ j ≤ L.length ∧ v9 = .int .i64 (j : Int) ∧ Aside0 (k ∉ L.take j) ∧ Aside0 (Below w2.heap.size w2 wx))
        case atStart => exact ⟨0, by omega, by omega, rfl, ⟨by simp⟩, ⟨Below.refl _ _⟩⟩
        case round =>
          obtain ⟨j, hjg, hjl, rfl, HJ, HB⟩ := hrel
          have HRr := Aside0.mk (H.out.below HB.out)
          have F2 := Aside0.mk (F1.out.below (by have := H.out.lt; omega) HB.out)
          have d0 := pw_cell_below HB.out D0.out
          have d2 := pw_cell_below HB.out D2.out
          have m0 := pw_cell_below HB.out M0.out
          cases gk with
          | zero => exfalso; omega
          | succ g =>
            by_cases hlt : (j : Int) < (L.length : Int)
            · cases is with
              | false =>
                exfalso
                have h9 : L.length = 0 := by rw [HISL.out rfl]; rfl
                omega
              | true =>
                obtain ⟨ad, rfl, hc⟩ := Kd.at_int (Kd.C_below HCR.out HB.out) (j : Int) (by omega) hlt
                rw [Int.toNat_natCast] at hc
                have hd : L.take (j + 1) = L.take j ++ [rd L (j : Int)] := by
                  rw [List.take_succ_eq_append_getElem (by omega), rd_get L j (by omega)]
                have hmem : rd L (j : Int) ∈ L := by rw [rd_get L j (by omega)]; exact List.getElem_mem _
                obtain ⟨z, hz⟩ : ∃ z, z = rd L (j : Int) := ⟨_, rfl⟩
                rw [← hz] at hc hd hmem
                have HD := Aside0.mk hd
                have HMM := Aside0.mk hmem
                clear hz hd hmem
                by_cases hzk : z = k
                · have hzb : (z == k) = true := by rw [beq_iff_eq]; exact hzk
                  have HZ := Aside0.mk hzk
                  clear hzk
                  go_wp2_with fail
                  go_quiet (fail)
                  have hbd := pw_below_drewN (Below.refl wr.heap.size wr) nq
                  obtain ⟨w9, hrun, hp9, hf9⟩ := RS.put (HRr.out.below hbd) hB hok H0.out i hi16 none none 0 0 (Kd.R_nil _ _ _ _ _)
                  have HP9 := Aside0.mk hp9
                  have HF9 := Aside0.mk ((F2.out.below (by have := HRr.out.lt; omega) hbd).trans hf9)
                  change (Instr.storeAt 36 (.pointer (some ⟨r, 6 + i * 3, none⟩)) (.agg #[.bool false, .int .i64 0, .slice none 0 0])).run Try.prog _ = _ at hrun
                  clear hp9 hf9 hbd
                  go_wp2_with ((with_reducible refine gate_store (t := 36) (p := 75) rfl ?_); refine store_event (t := 36) (p := 75) (v := .tmp 72) (w1 := w9) rfl rfl rfl (by first | (simp [execOp, Act.eval, hrun, Result.andThen]; done) | (go_simp; done)) ?_; rintro w10 rfl)
                  go_ret
                  rw [HR.out, if_pos (by rw [← HZ.out]; exact HMM.out)]
                  exact ⟨rfl, HP9.out, HF9.out⟩
                · have hzb : (z == k) = false := by rw [beq_eq_false_iff_ne]; exact hzk
                  have HZ := Aside0.mk hzk
                  clear hzk
                  go_wp2_with fail
                  go_quiet (fail)
                  go_wp2_with fail
                  go_roundg g
                  case measure => omega
                  case rel => exact ⟨j + 1, by omega, by omega, rfl, ⟨by rw [HD.out, List.mem_append]; rintro (h | h); exact HJ.out h; rw [List.mem_singleton] at h; exact HZ.out h.symm⟩, ⟨pw_below_drewN HB.out _⟩⟩
            · have hje : j = L.length := by omega
              have HN := Aside0.mk (show ¬ k ∈ L by have := HJ.out; rw [hje, List.take_length] at this; exact this)
              clear hje
              go_wp2_with fail
              refine (end_calls HRr.out hB hok 2 18 (by decide)).mono ?_
              rintro e w9 ⟨rfl, hp9, hf9⟩
              have HP9 := Aside0.mk hp9
              have HF9 := Aside0.mk (F2.out.trans hf9)
              clear hp9 hf9
              go_wp2_with fail
              go_ret
              rw [HR.out, if_neg HN.out]
              exact ⟨rfl, HP9.out, HF9.out⟩
  · have hb0 : (σ.phase != 0) = true := by rw [bne_iff_ne]; exact h0
    rw [if_pos h0] at hR
    subst hR
    clear h0
    unfold msg
    go_enter Try.func23, Try.ntmps23
    go_wp2_with fail
    rw [← HW1.out]
    go_ret
    exact ⟨rfl, H.out, F1.out⟩
end Go.Proofs.Ytfimakplmkbbjaa.Sz
